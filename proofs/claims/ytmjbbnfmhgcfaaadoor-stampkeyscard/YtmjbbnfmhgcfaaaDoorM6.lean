/- Walks and facts of this seat's program over abstract states, printed by programs of mine; no conditions but those that each theorem names. -/
import Derived.Test.YtmjbbnfmhgcfaaaDoorM5
import Derived.Laws.Externs
import Derived.MakeChecks
set_option linter.unusedSimpArgs false
set_option linter.unusedVariables false
set_option maxRecDepth 100000
set_option maxHeartbeats 4000000
namespace Go.Proofs.YtmjbbnfmhgcfaaaDoor
open Go Go.Eng

theorem setL_app {α : Type} : ∀ (vs l tl : List α) (pre : List α), l.length = vs.length → setL (pre ++ (l ++ tl)) pre.length vs = pre ++ (vs ++ tl)
  | [], [], tl, pre, _ => rfl
  | [], _ :: _, _, _, h => by simp at h
  | _ :: _, [], _, _, h => by simp at h
  | v :: vs, x :: l, tl, pre, h => by
    have ih := setL_app vs l tl (pre ++ [v]) (by simpa using h)
    simp only [setL, List.cons_append]
    rw [List.set_append_right _ _ (Nat.le_refl _), Nat.sub_self, List.set_cons_zero]
    simpa using ih
theorem setL_key (a b c : CV) (X : List Int) (h : X.length = 32) : setL [a, b, .int .u8 0, .int .u8 0, .int .u8 0, .int .u8 0, .int .u8 0, .int .u8 0, .int .u8 0, .int .u8 0, .int .u8 0, .int .u8 0, .int .u8 0, .int .u8 0, .int .u8 0, .int .u8 0, .int .u8 0, .int .u8 0, .int .u8 0, .int .u8 0, .int .u8 0, .int .u8 0, .int .u8 0, .int .u8 0, .int .u8 0, .int .u8 0, .int .u8 0, .int .u8 0, .int .u8 0, .int .u8 0, .int .u8 0, .int .u8 0, .int .u8 0, .int .u8 0, c] 2 (u8l X) = a :: b :: (u8l X ++ [c]) :=
  setL_app (u8l X) [.int .u8 0, .int .u8 0, .int .u8 0, .int .u8 0, .int .u8 0, .int .u8 0, .int .u8 0, .int .u8 0, .int .u8 0, .int .u8 0, .int .u8 0, .int .u8 0, .int .u8 0, .int .u8 0, .int .u8 0, .int .u8 0, .int .u8 0, .int .u8 0, .int .u8 0, .int .u8 0, .int .u8 0, .int .u8 0, .int .u8 0, .int .u8 0, .int .u8 0, .int .u8 0, .int .u8 0, .int .u8 0, .int .u8 0, .int .u8 0, .int .u8 0, .int .u8 0] [c] [a, b] (by rw [u8l_len, h]; rfl)
theorem rwF_wf (f : Nat) : ∀ k, MWf 0 (rwF f k)
  | 0 => MWf_nil
  | k + 1 => by
    refine MWf.app (rwF_wf f k) ?_
    split
    · exact MWf_nil
    · exact MWf_one (nl_below _ _)
theorem rwG_wf : ∀ f, MWf 0 (rwG f)
  | 0 => MWf_nil
  | f + 1 => MWf.app (rwG_wf f) (rwF_wf f 4)
theorem wR_below {J : List Int} {b L : Nat} : ∀ n, (∀ i, i < n → i % 4 ≠ 0 → b + rwN i < L) → (wR J b n).all (CV.below L) = true
  | 0, _ => rfl
  | n + 1, h => by
    have ih := wR_below (J := J) n fun i hi => h i (by omega)
    have h2 : (ndC b n).below L = true := by
      unfold ndC
      split
      · rfl
      · rename_i h3
        have := h n (by omega) h3
        simpa [CV.below] using this
    simp only [wR, List.all_append, ih, wC, List.all_cons, u8l_below, h2, List.all_nil]; rfl
theorem works_wf (J : List Int) (m R : AMem) (n v : Nat) (hm : MWf m.length m) (hR : MWf 0 R) (h : ∀ i, i < n → i % 4 ≠ 0 → rwN i < R.length) : MWf (m ++ (⟨.fix, 33, 0, 0, u8l J⟩ :: ⟨.grow, 45, v, 35, wR J (m.length + 2) n⟩ :: R)).length (m ++ (⟨.fix, 33, 0, 0, u8l J⟩ :: ⟨.grow, 45, v, 35, wR J (m.length + 2) n⟩ :: R)) := by
  refine MWf.app (hm.grow (by simp)) (MWf_cons (u8l_below _ _) (MWf_cons ?_ (hR.grow (Nat.zero_le _))))
  refine wR_below n fun i hi h3 => ?_
  have := h i hi h3
  simp only [List.length_append, List.length_cons]; omega
theorem mm_set (m : AMem) (b c d : Blk) (L : AMem) : (m ++ (b :: c :: L)).set (m.length + 1) d = m ++ (b :: d :: L) := by rw [set_app]; rfl
theorem works_c (J : List Int) (F : Nat) (x : Int) (m : AMem) (hJ : J.length = 32) (hJu : U8ok J) (hF : F ≤ 32) (hx : maxI 0 (minI x 32) = (F : Int)) : Ctr Tryd.prog 12 [.agg (u8l J), .one (.int .i64 x)] m (.one (.sl (m.length + 1) (4 * F) 0 (4 * F))) (m ++ (⟨.fix, 33, 0, 0, u8l J⟩ :: ⟨.grow, 45, 4 * F, 35, wR J (m.length + 2) (4 * F)⟩ :: rwG F)) := by
  refine Ctr.enter Tryd.func12 rfl (by decide) (rs := [.tmp 4]) (nt := 62) rfl rfl fun hwf Q hQ => ?_
  have hj1 := u8l_len J
  have hj2 : (u8l J).take 32 = u8l J := List.take_of_length_le (by rw [u8l_len, hJ]; exact Nat.le_refl _)
  have hj3 : setL [.int .u8 0, .int .u8 0, .int .u8 0, .int .u8 0, .int .u8 0, .int .u8 0, .int .u8 0, .int .u8 0, .int .u8 0, .int .u8 0, .int .u8 0, .int .u8 0, .int .u8 0, .int .u8 0, .int .u8 0, .int .u8 0, .int .u8 0, .int .u8 0, .int .u8 0, .int .u8 0, .int .u8 0, .int .u8 0, .int .u8 0, .int .u8 0, .int .u8 0, .int .u8 0, .int .u8 0, .int .u8 0, .int .u8 0, .int .u8 0, .int .u8 0, .int .u8 0] 0 (u8l J) = u8l J := setL_full (by rw [u8l_len, hJ]; rfl)
  have hj4 := u8l_vals J
  iterate 2
    refine AW.seq_k fun K hK => ?_
    refine AW.region (by decide) ?_
    simp only [push_cast, Nat.reduceAdd, Nat.reduceMul, Nat.reduceSub, Nat.reduceLeDiff, Nat.reduceLT, Nat.reduceEqDiff, Nat.reduceBEq, Nat.reduceBNe, Nat.reduceMod, Nat.reduceDiv, Int.reduceLE, Int.reduceLT, Int.reduceToNat, Int.reduceAdd, Int.reduceSub, Int.reduceMul, Int.reduceNeg, Int.reduceEq, Int.reduceBEq, Int.reduceBNe, ↓reduceIte, reduceCtorEq, String.reduceBNe, String.reduceEq, reduceDIte, Nat.reducePow, imp_self, hJ, hj2, hj3, hj4, u8l_len, u8l_app, Nat.le_refl, Int.le_refl, hx]
    refine Thn_n ?_
    refine hK _ _ ?_
    clear hK K
  refine AW.seq_k fun K hK => ?_
  refine AW.seq_k fun K hK => ?_
  refine AW.nilTm 45 35 5 (by simp only [push_cast, Nat.reduceAdd, Nat.reduceMul, Nat.reduceSub, Nat.reduceLeDiff, Nat.reduceLT, Nat.reduceEqDiff, Nat.reduceBEq, Nat.reduceBNe, Nat.reduceMod, Nat.reduceDiv, Int.reduceLE, Int.reduceLT, Int.reduceToNat, Int.reduceAdd, Int.reduceSub, Int.reduceMul, Int.reduceNeg, Int.reduceEq, Int.reduceBEq, Int.reduceBNe, ↓reduceIte, reduceCtorEq, String.reduceBNe, String.reduceEq, reduceDIte, Nat.reducePow]) ?_
  try simp only [push_cast, Nat.reduceAdd, Nat.reduceMul, Nat.reduceSub, Nat.reduceLeDiff, Nat.reduceLT, Nat.reduceEqDiff, Nat.reduceBEq, Nat.reduceBNe, Nat.reduceMod, Nat.reduceDiv, Int.reduceLE, Int.reduceLT, Int.reduceToNat, Int.reduceAdd, Int.reduceSub, Int.reduceMul, Int.reduceNeg, Int.reduceEq, Int.reduceBEq, Int.reduceBNe, ↓reduceIte, reduceCtorEq, String.reduceBNe, String.reduceEq, reduceDIte, Nat.reducePow]
  refine AW.region (by decide) ?_
  simp only [push_cast, Nat.reduceAdd, Nat.reduceMul, Nat.reduceSub, Nat.reduceLeDiff, Nat.reduceLT, Nat.reduceEqDiff, Nat.reduceBEq, Nat.reduceBNe, Nat.reduceMod, Nat.reduceDiv, Int.reduceLE, Int.reduceLT, Int.reduceToNat, Int.reduceAdd, Int.reduceSub, Int.reduceMul, Int.reduceNeg, Int.reduceEq, Int.reduceBEq, Int.reduceBNe, ↓reduceIte, reduceCtorEq, String.reduceBNe, String.reduceEq, reduceDIte, Nat.reducePow, imp_self, hJ, hj2, hj3, hj4, u8l_len, u8l_app, Nat.le_refl, Int.le_refl, hx]
  refine Thn_n ?_
  refine hK _ _ ?_
  clear hK K
  refine AW.block ?_
  refine AW.loopE0 [2, 14] (fun f => f ≤ F) (fun f => [(5, .one (.sl (m.length + 1) (4 * f) 0 (4 * f))), (15, .one (.int .i64 (f : Int)))]) (fun f => [(m.length + 1, ⟨.grow, 45, 4 * f, 35, wR J (m.length + 2) (4 * f)⟩)]) (fun f => rwG f) (fun f => F - f) 0 (by omega) ?_ ?_ ?_ fun f hi5 => ?_
  · first | rfl | (simp only [Keeps, Tm.get_cons, Nat.reduceEqDiff, ↓reduceIte, if_true, if_false, ite_true, ite_false, true_and, and_true, and_self, reduceCtorEq, Int.natCast_zero, Nat.mul_zero, wR, rwG] <;> rfl)
  · first | rfl | (simp only [setAll, push_cast, Nat.reduceAdd, Nat.reduceMul, Nat.reduceSub, Nat.reduceLeDiff, Nat.reduceLT, Nat.reduceEqDiff, Nat.reduceBEq, Nat.reduceBNe, Nat.reduceMod, Nat.reduceDiv, Int.reduceLE, Int.reduceLT, Int.reduceToNat, Int.reduceAdd, Int.reduceSub, Int.reduceMul, Int.reduceNeg, Int.reduceEq, Int.reduceBEq, Int.reduceBNe, ↓reduceIte, reduceCtorEq, String.reduceBNe, String.reduceEq, reduceDIte, Nat.reducePow, imp_self, hJ, hj2, hj3, hj4, u8l_len, u8l_app, Nat.le_refl, Int.le_refl, hx, Int.natCast_zero, Nat.mul_zero, wR, rwG] <;> rfl)
  · exact fun i j _ _ h => by simp only [rwG_len]; omega
  have hf : f ≤ F := hi5
  try simp only [keepL, setAll, push_cast, Nat.reduceAdd, Nat.reduceMul, Nat.reduceSub, Nat.reduceLeDiff, Nat.reduceLT, Nat.reduceEqDiff, Nat.reduceBEq, Nat.reduceBNe, Nat.reduceMod, Nat.reduceDiv, Int.reduceLE, Int.reduceLT, Int.reduceToNat, Int.reduceAdd, Int.reduceSub, Int.reduceMul, Int.reduceNeg, Int.reduceEq, Int.reduceBEq, Int.reduceBNe, ↓reduceIte, reduceCtorEq, String.reduceBNe, String.reduceEq, reduceDIte, Nat.reducePow, imp_self, hJ, hj2, hj3, hj4, u8l_len, u8l_app, Nat.le_refl, Int.le_refl, hx]
  refine AW.seq_k fun K hK => ?_
  refine AW.region (by decide) ?_
  simp only [push_cast, Nat.reduceAdd, Nat.reduceMul, Nat.reduceSub, Nat.reduceLeDiff, Nat.reduceLT, Nat.reduceEqDiff, Nat.reduceBEq, Nat.reduceBNe, Nat.reduceMod, Nat.reduceDiv, Int.reduceLE, Int.reduceLT, Int.reduceToNat, Int.reduceAdd, Int.reduceSub, Int.reduceMul, Int.reduceNeg, Int.reduceEq, Int.reduceBEq, Int.reduceBNe, ↓reduceIte, reduceCtorEq, String.reduceBNe, String.reduceEq, reduceDIte, Nat.reducePow, imp_self, hJ, hj2, hj3, hj4, u8l_len, u8l_app, Nat.le_refl, Int.le_refl, hx]
  refine Thn_n ?_
  refine hK _ _ ?_
  clear hK K
  refine AW.seq_k fun K hK => ?_
  refine AW.cond rfl (fun h16 => ?_) (fun h16 => ?_)
  · have hlt : f < F := by have := of_decide_eq_true h16; omega
    refine AW.skip ?_
    refine Thn_n ?_
    refine hK _ _ ?_
    clear hK K
    refine AW.seq_k fun K hK => ?_
    refine AW.block ?_
    iterate 2
      refine AW.seq_k fun K hK => ?_
      refine AW.region (by decide) ?_
      simp only [push_cast, Nat.reduceAdd, Nat.reduceMul, Nat.reduceSub, Nat.reduceLeDiff, Nat.reduceLT, Nat.reduceEqDiff, Nat.reduceBEq, Nat.reduceBNe, Nat.reduceMod, Nat.reduceDiv, Int.reduceLE, Int.reduceLT, Int.reduceToNat, Int.reduceAdd, Int.reduceSub, Int.reduceMul, Int.reduceNeg, Int.reduceEq, Int.reduceBEq, Int.reduceBNe, ↓reduceIte, reduceCtorEq, String.reduceBNe, String.reduceEq, reduceDIte, Nat.reducePow, imp_self, hJ, hj2, hj3, hj4, u8l_len, u8l_app, Nat.le_refl, Int.le_refl, hx]
      refine Thn_n ?_
      refine hK _ _ ?_
      clear hK K
    refine AW.block ?_
    refine AW.loopE0 [2, 6, 14, 15] (fun k => k ≤ (4 : Nat)) (fun k => [(5, .one (.sl (m.length + 1) (4 * f + k) 0 (4 * f + k))), (18, .one (.int .i64 (k : Int)))]) (fun k => [(m.length + 1, ⟨.grow, 45, (4 * f + k), 35, wR J (m.length + 2) ((4 * f + k))⟩)]) (fun k => rwF f k) (fun k => 4 - k) 0 (by omega) ?_ ?_ ?_ fun k hi11 => ?_
    · first | rfl | (simp only [Keeps, Tm.get_cons, Nat.reduceEqDiff, ↓reduceIte, if_true, if_false, ite_true, ite_false, true_and, and_true, and_self, reduceCtorEq, Int.natCast_zero, Nat.add_zero, rwF, List.append_nil] <;> rfl)
    · first | rfl | (simp only [setAll, push_cast, Nat.reduceAdd, Nat.reduceMul, Nat.reduceSub, Nat.reduceLeDiff, Nat.reduceLT, Nat.reduceEqDiff, Nat.reduceBEq, Nat.reduceBNe, Nat.reduceMod, Nat.reduceDiv, Int.reduceLE, Int.reduceLT, Int.reduceToNat, Int.reduceAdd, Int.reduceSub, Int.reduceMul, Int.reduceNeg, Int.reduceEq, Int.reduceBEq, Int.reduceBNe, ↓reduceIte, reduceCtorEq, String.reduceBNe, String.reduceEq, reduceDIte, Nat.reducePow, imp_self, hJ, hj2, hj3, hj4, u8l_len, u8l_app, Nat.le_refl, Int.le_refl, hx, Int.natCast_zero, Nat.add_zero, rwF, List.append_nil] <;> rfl)
    · exact fun i j _ _ h => by simp only [rwF_len]; omega
    have hk : k ≤ 4 := hi11
    try simp only [keepL, setAll, push_cast, Nat.reduceAdd, Nat.reduceMul, Nat.reduceSub, Nat.reduceLeDiff, Nat.reduceLT, Nat.reduceEqDiff, Nat.reduceBEq, Nat.reduceBNe, Nat.reduceMod, Nat.reduceDiv, Int.reduceLE, Int.reduceLT, Int.reduceToNat, Int.reduceAdd, Int.reduceSub, Int.reduceMul, Int.reduceNeg, Int.reduceEq, Int.reduceBEq, Int.reduceBNe, ↓reduceIte, reduceCtorEq, String.reduceBNe, String.reduceEq, reduceDIte, Nat.reducePow, imp_self, hJ, hj2, hj3, hj4, u8l_len, u8l_app, Nat.le_refl, Int.le_refl, hx]
    refine AW.seq_k fun K hK => ?_
    refine AW.region (by decide) ?_
    simp only [push_cast, Nat.reduceAdd, Nat.reduceMul, Nat.reduceSub, Nat.reduceLeDiff, Nat.reduceLT, Nat.reduceEqDiff, Nat.reduceBEq, Nat.reduceBNe, Nat.reduceMod, Nat.reduceDiv, Int.reduceLE, Int.reduceLT, Int.reduceToNat, Int.reduceAdd, Int.reduceSub, Int.reduceMul, Int.reduceNeg, Int.reduceEq, Int.reduceBEq, Int.reduceBNe, ↓reduceIte, reduceCtorEq, String.reduceBNe, String.reduceEq, reduceDIte, Nat.reducePow, imp_self, hJ, hj2, hj3, hj4, u8l_len, u8l_app, Nat.le_refl, Int.le_refl, hx]
    refine Thn_n ?_
    refine hK _ _ ?_
    clear hK K
    refine AW.seq_k fun K hK => ?_
    refine AW.cond rfl (fun h19 => ?_) (fun h19 => ?_)
    · have hltk : k < 4 := by have := of_decide_eq_true h19; omega
      refine AW.skip ?_
      refine Thn_n ?_
      refine hK _ _ ?_
      clear hK K
      refine AW.seq_k fun K hK => ?_
      refine AW.block ?_
      refine AW.seq_k fun K hK => ?_
      obtain ⟨M, hM⟩ : ∃ M, M = m ++ (⟨.fix, 33, 0, 0, u8l J⟩ :: ⟨.grow, 45, (4 * f + k), 35, wR J (m.length + 2) ((4 * f + k))⟩ :: (rwG f ++ rwF f k)) := ⟨_, rfl⟩
      rw [← hM]
      obtain ⟨n, hn⟩ : ∃ n, n = 4 * f + k := ⟨_, rfl⟩
      obtain ⟨kn, hkn⟩ : ∃ kn, kn = k + 1 := ⟨_, rfl⟩
      rw [← hn] at hM ⊢
      have hMl : M.length = m.length + (2 + (3 * f + (k - 1))) := by rw [hM]; simp only [List.length_append, List.length_cons, rwG_len, rwF_len]; omega
      have gB : M[m.length]? = some ⟨.fix, 33, 0, 0, u8l J⟩ := by rw [hM, lk_app0]; rfl
      have gO : M[m.length + 1]? = some ⟨.grow, 45, n, 35, wR J (m.length + 2) (n)⟩ := by rw [hM, lk_app]; rfl
      have lO : m.length + 1 < M.length := by omega
      have kS := fun (L : AMem) (b : Blk) => mk_olds (m := M) (l := M) rfl lO L b
      have kM : ∀ b : Blk, M.set (m.length + 1) b = m ++ (⟨.fix, 33, 0, 0, u8l J⟩ :: b :: (rwG f ++ rwF f k)) := fun b => by rw [hM]; exact mm_set _ _ _ _ _
      have hrf : rwF f kn = rwF f k ++ (if k = 0 then [] else [⟨.grow, 3, 0, 1, nl (ndL n)⟩]) := by rw [hkn, hn]; rfl
      obtain ⟨RR, hRR⟩ : ∃ RR, RR = rwG f ++ rwF f kn := ⟨_, rfl⟩
      have hwR : MWf 0 RR := by rw [hRR]; exact MWf.app (rwG_wf f) (rwF_wf f kn)
      have hwL : ∀ i, i < n + 1 → i % 4 ≠ 0 → rwN i < RR.length := fun i hi h => by rw [hRR, List.length_append, rwG_len, rwF_len]; unfold rwN; omega
      have e6 : True := trivial
      have hrf6 : True := trivial
      have hki6 : True := trivial
      have hwl := wR_len J (m.length + 2) n
      have hky := ky_eq J n
      rw [ofB_eq] at hky
      have hkl := ky_len J n
      have hko := ky_ok J n
      have hkv := u8l_vals (ky J n)
      have hwn : wR J (m.length + 2) (n + 1) = wR J (m.length + 2) n ++ wC J (m.length + 2) n := rfl
      have e5 : 4 * f + kn = n + 1 := by omega
      have q1 : n + 1 ≤ 140737488355328 := by omega
      have q3 : 35 * n = n * 35 := Nat.mul_comm _ _
      have q2 : (n + 1) * 72 ≤ 140737488355328 := by omega
      have hcl := wC_len J (m.length + 2) n
      have hct : (wC J (m.length + 2) n).take 35 = wC J (m.length + 2) n := List.take_of_length_le (by rw [hcl]; exact Nat.le_refl _)
      have hcs : setL [.int .i64 0, .int .i64 0, .int .u8 0, .int .u8 0, .int .u8 0, .int .u8 0, .int .u8 0, .int .u8 0, .int .u8 0, .int .u8 0, .int .u8 0, .int .u8 0, .int .u8 0, .int .u8 0, .int .u8 0, .int .u8 0, .int .u8 0, .int .u8 0, .int .u8 0, .int .u8 0, .int .u8 0, .int .u8 0, .int .u8 0, .int .u8 0, .int .u8 0, .int .u8 0, .int .u8 0, .int .u8 0, .int .u8 0, .int .u8 0, .int .u8 0, .int .u8 0, .int .u8 0, .int .u8 0, .nils] 0 (wC J (m.length + 2) n) = wC J (m.length + 2) n := setL_full (by rw [hcl]; rfl)
      dsimp only at hcs
      have hcv : (wC J (m.length + 2) n).all CV.isVal = true := wC_vals _ _ _
      have hwc0 : wC J (m.length + 2) n = .int .i64 ((n % 4 : Nat) : Int) :: .int .i64 ((n / 4 : Nat) : Int) :: (u8l (ky J n) ++ [ndC (m.length + 2) n]) := rfl
      refine AW.region (by decide) ?_
      simp only [push_cast, Nat.reduceAdd, Nat.reduceMul, Nat.reduceSub, Nat.reduceLeDiff, Nat.reduceLT, Nat.reduceEqDiff, Nat.reduceBEq, Nat.reduceBNe, Nat.reduceMod, Nat.reduceDiv, Int.reduceLE, Int.reduceLT, Int.reduceToNat, Int.reduceAdd, Int.reduceSub, Int.reduceMul, Int.reduceNeg, Int.reduceEq, Int.reduceBEq, Int.reduceBNe, ↓reduceIte, reduceCtorEq, String.reduceBNe, String.reduceEq, reduceDIte, Nat.reducePow, imp_self, hJ, hj2, hj3, hj4, u8l_len, u8l_app, Nat.le_refl, Int.le_refl, hx]
      refine Thn_n ?_
      refine hK _ _ ?_
      clear hK K
      refine AW.seq_k fun K hK => ?_
      have hcs : k = 0 ∨ (k = 1 ∧ f = 0) ∨ (k = 1 ∧ ∃ g, f = g + 1) ∨ k = 2 ∨ k = 3 := by
        have : k = 0 ∨ k = 1 ∨ k = 2 ∨ k = 3 := by omega
        rcases this with h | h | h | h
        · exact .inl h
        · rcases Nat.eq_zero_or_pos f with h0 | h0
          · exact .inr (.inl ⟨h, h0⟩)
          · exact .inr (.inr (.inl ⟨h, f - 1, by omega⟩))
        · exact .inr (.inr (.inr (.inl h)))
        · exact .inr (.inr (.inr (.inr h)))
      rcases hcs with rfl | ⟨rfl, rfl⟩ | ⟨rfl, g, rfl⟩ | rfl | rfl
      · have hm0 : n % 4 = 0 := by omega
        have hd0 : n / 4 = f := by omega
        rw [hm0, hd0] at hky hwc0
        have hrowA : True := trivial
        have hrowB : True := trivial
        have hnd : ndC (m.length + 2) n = .nils := by unfold ndC; rw [hm0]; rfl
        rw [if_pos rfl] at hky hrf
        rw [List.append_nil] at hrf
        simp only [push_cast, Nat.reduceAdd, Nat.reduceMul, Nat.reduceSub, Nat.reduceLeDiff, Nat.reduceLT, Nat.reduceEqDiff, Nat.reduceBEq, Nat.reduceBNe, Nat.reduceMod, Nat.reduceDiv, Int.reduceLE, Int.reduceLT, Int.reduceToNat, Int.reduceAdd, Int.reduceSub, Int.reduceMul, Int.reduceNeg, Int.reduceEq, Int.reduceBEq, Int.reduceBNe, ↓reduceIte, reduceCtorEq, String.reduceBNe, String.reduceEq, reduceDIte, Nat.reducePow] at hky
        have hki : ((kn : Nat) : Int) = 1 := by omega
        have hwc : CV.int .i64 0 :: .int .i64 (f : Int) :: (u8l (ky J n) ++ [.nils]) = wC J (m.length + 2) n := by rw [hwc0, hnd]; rfl
        have hsk := setL_key (.int .i64 0) (.int .i64 (f : Int)) (.nils) (ky J n) hkl
        dsimp only at hsk
        have hq2 : ∀ l : List CV, l = l := fun _ => rfl
        refine AW.region (by decide) ?_
        simp only [push_cast, Nat.reduceAdd, Nat.reduceMul, Nat.reduceSub, Nat.reduceLeDiff, Nat.reduceLT, Nat.reduceEqDiff, Nat.reduceBEq, Nat.reduceBNe, Nat.reduceMod, Nat.reduceDiv, Int.reduceLE, Int.reduceLT, Int.reduceToNat, Int.reduceAdd, Int.reduceSub, Int.reduceMul, Int.reduceNeg, Int.reduceEq, Int.reduceBEq, Int.reduceBNe, ↓reduceIte, reduceCtorEq, String.reduceBNe, String.reduceEq, reduceDIte, Nat.reducePow, imp_self, hJ, hj2, hj3, hj4, u8l_len, u8l_app, Nat.le_refl, Int.le_refl, hx, gB, lk_old gB, gO, lk_old gO, kS, hkl, hkv, hsk, hwc, hwl, q1, q2, q3, hcl, hct, hcs, hcv, hky.symm]
        refine CThen.by (needs0_c f _) ?_
        simp only [push_cast, Nat.reduceAdd, Nat.reduceMul, Nat.reduceSub, Nat.reduceLeDiff, Nat.reduceLT, Nat.reduceEqDiff, Nat.reduceBEq, Nat.reduceBNe, Nat.reduceMod, Nat.reduceDiv, Int.reduceLE, Int.reduceLT, Int.reduceToNat, Int.reduceAdd, Int.reduceSub, Int.reduceMul, Int.reduceNeg, Int.reduceEq, Int.reduceBEq, Int.reduceBNe, ↓reduceIte, reduceCtorEq, String.reduceBNe, String.reduceEq, reduceDIte, Nat.reducePow, imp_self, hJ, hj2, hj3, hj4, u8l_len, u8l_app, Nat.le_refl, Int.le_refl, hx, gB, lk_old gB, gO, lk_old gO, kS, hkl, hkv, hsk, hwc, hwl, q1, q2, q3, hcl, hct, hcs, hcv, hky.symm]
        refine Thn_n ?_
        refine hK _ _ ?_
        clear hK K
        refine AW.seq_k fun K hK => ?_
        refine AW.region (by decide) ?_
        simp only [push_cast, Nat.reduceAdd, Nat.reduceMul, Nat.reduceSub, Nat.reduceLeDiff, Nat.reduceLT, Nat.reduceEqDiff, Nat.reduceBEq, Nat.reduceBNe, Nat.reduceMod, Nat.reduceDiv, Int.reduceLE, Int.reduceLT, Int.reduceToNat, Int.reduceAdd, Int.reduceSub, Int.reduceMul, Int.reduceNeg, Int.reduceEq, Int.reduceBEq, Int.reduceBNe, ↓reduceIte, reduceCtorEq, String.reduceBNe, String.reduceEq, reduceDIte, Nat.reducePow, imp_self, hJ, hj2, hj3, hj4, u8l_len, u8l_app, Nat.le_refl, Int.le_refl, hx, gB, lk_old gB, gO, lk_old gO, kS, hkl, hkv, hsk, hwc, hwl, q1, q2, q3, hcl, hct, hcs, hcv, hky.symm]
        refine Thn_n ?_
        refine hK _ _ ?_
        clear hK K
        refine AW.seq_k fun K hK => ?_
        refine AW.seq_k fun K hK => ?_
        refine AW.region (by decide) ?_
        simp only [push_cast, Nat.reduceAdd, Nat.reduceMul, Nat.reduceSub, Nat.reduceLeDiff, Nat.reduceLT, Nat.reduceEqDiff, Nat.reduceBEq, Nat.reduceBNe, Nat.reduceMod, Nat.reduceDiv, Int.reduceLE, Int.reduceLT, Int.reduceToNat, Int.reduceAdd, Int.reduceSub, Int.reduceMul, Int.reduceNeg, Int.reduceEq, Int.reduceBEq, Int.reduceBNe, ↓reduceIte, reduceCtorEq, String.reduceBNe, String.reduceEq, reduceDIte, Nat.reducePow, imp_self, hJ, hj2, hj3, hj4, u8l_len, u8l_app, Nat.le_refl, Int.le_refl, hx, gB, lk_old gB, gO, lk_old gO, kS, hkl, hkv, hsk, hwc, hwl, q1, q2, q3, hcl, hct, hcs, hcv, hky.symm]
        refine Thn_n ?_
        refine hK _ _ ?_
        clear hK K
        refine AW.cond_t rfl ?_
        refine AW.region (by decide) ?_
        simp only [push_cast, Nat.reduceAdd, Nat.reduceMul, Nat.reduceSub, Nat.reduceLeDiff, Nat.reduceLT, Nat.reduceEqDiff, Nat.reduceBEq, Nat.reduceBNe, Nat.reduceMod, Nat.reduceDiv, Int.reduceLE, Int.reduceLT, Int.reduceToNat, Int.reduceAdd, Int.reduceSub, Int.reduceMul, Int.reduceNeg, Int.reduceEq, Int.reduceBEq, Int.reduceBNe, ↓reduceIte, reduceCtorEq, String.reduceBNe, String.reduceEq, reduceDIte, Nat.reducePow, imp_self, hJ, hj2, hj3, hj4, u8l_len, u8l_app, Nat.le_refl, Int.le_refl, hx, gB, lk_old gB, gO, lk_old gO, kS, hkl, hkv, hsk, hwc, hwl, q1, q2, q3, hcl, hct, hcs, hcv, hky.symm]
        refine Thn_n ?_
        refine hK _ _ ?_
        clear hK K
        refine AW.seq_k fun K hK => ?_
        refine AW.seq_k fun K hK => ?_
        refine AW.region (by decide) ?_
        simp only [push_cast, Nat.reduceAdd, Nat.reduceMul, Nat.reduceSub, Nat.reduceLeDiff, Nat.reduceLT, Nat.reduceEqDiff, Nat.reduceBEq, Nat.reduceBNe, Nat.reduceMod, Nat.reduceDiv, Int.reduceLE, Int.reduceLT, Int.reduceToNat, Int.reduceAdd, Int.reduceSub, Int.reduceMul, Int.reduceNeg, Int.reduceEq, Int.reduceBEq, Int.reduceBNe, ↓reduceIte, reduceCtorEq, String.reduceBNe, String.reduceEq, reduceDIte, Nat.reducePow, imp_self, hJ, hj2, hj3, hj4, u8l_len, u8l_app, Nat.le_refl, Int.le_refl, hx, gB, lk_old gB, gO, lk_old gO, kS, hkl, hkv, hsk, hwc, hwl, q1, q2, q3, hcl, hct, hcs, hcv, hky.symm]
        refine Thn_n ?_
        refine hK _ _ ?_
        clear hK K
        refine AW.block ?_
        refine AW.rounds 1 ?_
        refine ARounds.succ fun K hK => ?_
        refine AW.seq_k fun K hK => ?_
        refine AW.region (by decide) ?_
        simp only [push_cast, Nat.reduceAdd, Nat.reduceMul, Nat.reduceSub, Nat.reduceLeDiff, Nat.reduceLT, Nat.reduceEqDiff, Nat.reduceBEq, Nat.reduceBNe, Nat.reduceMod, Nat.reduceDiv, Int.reduceLE, Int.reduceLT, Int.reduceToNat, Int.reduceAdd, Int.reduceSub, Int.reduceMul, Int.reduceNeg, Int.reduceEq, Int.reduceBEq, Int.reduceBNe, ↓reduceIte, reduceCtorEq, String.reduceBNe, String.reduceEq, reduceDIte, Nat.reducePow, imp_self, hJ, hj2, hj3, hj4, u8l_len, u8l_app, Nat.le_refl, Int.le_refl, hx, gB, lk_old gB, gO, lk_old gO, kS, hkl, hkv, hsk, hwc, hwl, q1, q2, q3, hcl, hct, hcs, hcv, hky.symm]
        refine Thn_n ?_
        refine hK _ _ ?_
        clear hK K
        refine AW.seq_k fun K hK => ?_
        refine AW.cond_f rfl ?_
        refine AW.exit ?_
        refine Thn_e ?_
        clear hK K
        refine Thn_e ?_
        clear hK K
        refine InB_here ?_
        refine Thn_n ?_
        refine hK _ _ ?_
        clear hK K
        refine AW.seq_k fun K hK => ?_
        refine AW.region (by decide) ?_
        simp only [push_cast, Nat.reduceAdd, Nat.reduceMul, Nat.reduceSub, Nat.reduceLeDiff, Nat.reduceLT, Nat.reduceEqDiff, Nat.reduceBEq, Nat.reduceBNe, Nat.reduceMod, Nat.reduceDiv, Int.reduceLE, Int.reduceLT, Int.reduceToNat, Int.reduceAdd, Int.reduceSub, Int.reduceMul, Int.reduceNeg, Int.reduceEq, Int.reduceBEq, Int.reduceBNe, ↓reduceIte, reduceCtorEq, String.reduceBNe, String.reduceEq, reduceDIte, Nat.reducePow, imp_self, hJ, hj2, hj3, hj4, u8l_len, u8l_app, Nat.le_refl, Int.le_refl, hx, gB, lk_old gB, gO, lk_old gO, kS, hkl, hkv, hsk, hwc, hwl, q1, q2, q3, hcl, hct, hcs, hcv, hky.symm]
        refine CThen.by (key_c 0 (f : Int) (M.length + 1) 1 1 J .grow 32 _ (by simp only [push_cast, Nat.reduceAdd, Nat.reduceMul, Nat.reduceSub, Nat.reduceLeDiff, Nat.reduceLT, Nat.reduceEqDiff, Nat.reduceBEq, Nat.reduceBNe, Nat.reduceMod, Nat.reduceDiv, Int.reduceLE, Int.reduceLT, Int.reduceToNat, Int.reduceAdd, Int.reduceSub, Int.reduceMul, Int.reduceNeg, Int.reduceEq, Int.reduceBEq, Int.reduceBNe, ↓reduceIte, reduceCtorEq, String.reduceBNe, String.reduceEq, reduceDIte, Nat.reducePow, gB, lk_old gB]) (by rw [hJ]) hJu (by decide)) ?_
        simp only [push_cast, Nat.reduceAdd, Nat.reduceMul, Nat.reduceSub, Nat.reduceLeDiff, Nat.reduceLT, Nat.reduceEqDiff, Nat.reduceBEq, Nat.reduceBNe, Nat.reduceMod, Nat.reduceDiv, Int.reduceLE, Int.reduceLT, Int.reduceToNat, Int.reduceAdd, Int.reduceSub, Int.reduceMul, Int.reduceNeg, Int.reduceEq, Int.reduceBEq, Int.reduceBNe, ↓reduceIte, reduceCtorEq, String.reduceBNe, String.reduceEq, reduceDIte, Nat.reducePow, imp_self, hJ, hj2, hj3, hj4, u8l_len, u8l_app, Nat.le_refl, Int.le_refl, hx, gB, lk_old gB, gO, lk_old gO, kS, hkl, hkv, hsk, hwc, hwl, q1, q2, q3, hcl, hct, hcs, hcv, hky.symm]
        refine Thn_n ?_
        refine hK _ _ ?_
        clear hK K
        refine AW.region (by decide) ?_
        simp only [push_cast, Nat.reduceAdd, Nat.reduceMul, Nat.reduceSub, Nat.reduceLeDiff, Nat.reduceLT, Nat.reduceEqDiff, Nat.reduceBEq, Nat.reduceBNe, Nat.reduceMod, Nat.reduceDiv, Int.reduceLE, Int.reduceLT, Int.reduceToNat, Int.reduceAdd, Int.reduceSub, Int.reduceMul, Int.reduceNeg, Int.reduceEq, Int.reduceBEq, Int.reduceBNe, ↓reduceIte, reduceCtorEq, String.reduceBNe, String.reduceEq, reduceDIte, Nat.reducePow, imp_self, hJ, hj2, hj3, hj4, u8l_len, u8l_app, Nat.le_refl, Int.le_refl, hx, gB, lk_old gB, gO, lk_old gO, kS, hkl, hkv, hsk, hwc, hwl, q1, q2, q3, hcl, hct, hcs, hcv, hky.symm]
        refine InB_n ?_
        refine Thn_n ?_
        refine hK _ _ ?_
        clear hK K
        refine AW.region (by decide) ?_
        simp only [push_cast, Nat.reduceAdd, Nat.reduceMul, Nat.reduceSub, Nat.reduceLeDiff, Nat.reduceLT, Nat.reduceEqDiff, Nat.reduceBEq, Nat.reduceBNe, Nat.reduceMod, Nat.reduceDiv, Int.reduceLE, Int.reduceLT, Int.reduceToNat, Int.reduceAdd, Int.reduceSub, Int.reduceMul, Int.reduceNeg, Int.reduceEq, Int.reduceBEq, Int.reduceBNe, ↓reduceIte, reduceCtorEq, String.reduceBNe, String.reduceEq, reduceDIte, Nat.reducePow, imp_self, hJ, hj2, hj3, hj4, u8l_len, u8l_app, Nat.le_refl, Int.le_refl, hx, gB, lk_old gB, gO, lk_old gO, kS, hkl, hkv, hsk, hwc, hwl, q1, q2, q3, hcl, hct, hcs, hcv, hky.symm]
        refine Thn_n ?_
        refine ⟨kn, by omega, by omega, ?_⟩
        try simp only [keepL, setAll, push_cast, Nat.reduceAdd, Nat.reduceMul, Nat.reduceSub, Nat.reduceLeDiff, Nat.reduceLT, Nat.reduceEqDiff, Nat.reduceBEq, Nat.reduceBNe, Nat.reduceMod, Nat.reduceDiv, Int.reduceLE, Int.reduceLT, Int.reduceToNat, Int.reduceAdd, Int.reduceSub, Int.reduceMul, Int.reduceNeg, Int.reduceEq, Int.reduceBEq, Int.reduceBNe, ↓reduceIte, reduceCtorEq, String.reduceBNe, String.reduceEq, reduceDIte, Nat.reducePow, imp_self, hJ, hj2, hj3, hj4, u8l_len, u8l_app, Nat.le_refl, Int.le_refl, hx, gB, lk_old gB, gO, lk_old gO, kS, hkl, hkv, hsk, hwc, hwl, q1, q2, q3, hcl, hct, hcs, hcv, hky.symm, e6, hki6, hrf6, hki, kM, hrf, e5, hwn, List.append_assoc]
        first
          | exact Weak.to (extra := [_, _, _, _]) (by simp only [Keeps, Tm.get_cons, Nat.reduceEqDiff, ↓reduceIte, if_true, if_false, ite_true, ite_false, true_and, and_true, and_self, reduceCtorEq, e6, hki6, hrf6, hki, kM, hrf, e5, hwn, List.append_assoc]) (by first | rfl | (simp only [List.append_assoc, List.cons_append, List.nil_append]; rfl)) (by first | rfl | (simp [AV.below, CV.below, u8l_below]; done) | (simp [AV.below, CV.below, u8l_below]; omega)) (by have h := works_wf J m RR (n + 1) (n + 1) hwf hwR hwL; simp only [hRR, e6, hki6, hrf6, hki, kM, hrf, hwn, hrowA, hrowB, List.append_assoc, push_cast, Nat.reduceAdd, Nat.reduceMul, Nat.reduceSub, Nat.reduceLeDiff, Nat.reduceLT, Nat.reduceEqDiff, Nat.reduceBEq, Nat.reduceBNe, Nat.reduceMod, Nat.reduceDiv, Int.reduceLE, Int.reduceLT, Int.reduceToNat, Int.reduceAdd, Int.reduceSub, Int.reduceMul, Int.reduceNeg, Int.reduceEq, Int.reduceBEq, Int.reduceBNe, ↓reduceIte, reduceCtorEq, String.reduceBNe, String.reduceEq, reduceDIte, Nat.reducePow] at h ⊢; exact h)
          | exact Weak.to (extra := [_, _, _, _, _]) (by simp only [Keeps, Tm.get_cons, Nat.reduceEqDiff, ↓reduceIte, if_true, if_false, ite_true, ite_false, true_and, and_true, and_self, reduceCtorEq, e6, hki6, hrf6, hki, kM, hrf, e5, hwn, List.append_assoc]) (by first | rfl | (simp only [List.append_assoc, List.cons_append, List.nil_append]; rfl)) (by first | rfl | (simp [AV.below, CV.below, u8l_below]; done) | (simp [AV.below, CV.below, u8l_below]; omega)) (by have h := works_wf J m RR (n + 1) (n + 1) hwf hwR hwL; simp only [hRR, e6, hki6, hrf6, hki, kM, hrf, hwn, hrowA, hrowB, List.append_assoc, push_cast, Nat.reduceAdd, Nat.reduceMul, Nat.reduceSub, Nat.reduceLeDiff, Nat.reduceLT, Nat.reduceEqDiff, Nat.reduceBEq, Nat.reduceBNe, Nat.reduceMod, Nat.reduceDiv, Int.reduceLE, Int.reduceLT, Int.reduceToNat, Int.reduceAdd, Int.reduceSub, Int.reduceMul, Int.reduceNeg, Int.reduceEq, Int.reduceBEq, Int.reduceBNe, ↓reduceIte, reduceCtorEq, String.reduceBNe, String.reduceEq, reduceDIte, Nat.reducePow] at h ⊢; exact h)
          | exact Weak.to (extra := [_, _, _, _, _, _]) (by simp only [Keeps, Tm.get_cons, Nat.reduceEqDiff, ↓reduceIte, if_true, if_false, ite_true, ite_false, true_and, and_true, and_self, reduceCtorEq, e6, hki6, hrf6, hki, kM, hrf, e5, hwn, List.append_assoc]) (by first | rfl | (simp only [List.append_assoc, List.cons_append, List.nil_append]; rfl)) (by first | rfl | (simp [AV.below, CV.below, u8l_below]; done) | (simp [AV.below, CV.below, u8l_below]; omega)) (by have h := works_wf J m RR (n + 1) (n + 1) hwf hwR hwL; simp only [hRR, e6, hki6, hrf6, hki, kM, hrf, hwn, hrowA, hrowB, List.append_assoc, push_cast, Nat.reduceAdd, Nat.reduceMul, Nat.reduceSub, Nat.reduceLeDiff, Nat.reduceLT, Nat.reduceEqDiff, Nat.reduceBEq, Nat.reduceBNe, Nat.reduceMod, Nat.reduceDiv, Int.reduceLE, Int.reduceLT, Int.reduceToNat, Int.reduceAdd, Int.reduceSub, Int.reduceMul, Int.reduceNeg, Int.reduceEq, Int.reduceBEq, Int.reduceBNe, ↓reduceIte, reduceCtorEq, String.reduceBNe, String.reduceEq, reduceDIte, Nat.reducePow] at h ⊢; exact h)
      · have hm0 : n % 4 = 1 := by omega
        have hd0 : n / 4 = 0 := by omega
        rw [hm0, hd0] at hky hwc0
        have hnn : n = 1 := by omega
        have hndl : ndL n = [0] := by rw [hnn]; exact nd1z
        have hrowA : nl (ndL 1) = [.int .i64 ((0 : Nat) : Int)] := by rw [nd1z]; rfl
        have hrowB : nl (ndL n) = [.int .i64 ((0 : Nat) : Int)] := by rw [hndl]; rfl
        simp only [push_cast, Nat.reduceAdd, Nat.reduceMul, Nat.reduceSub, Nat.reduceLeDiff, Nat.reduceLT, Nat.reduceEqDiff, Nat.reduceBEq, Nat.reduceBNe, Nat.reduceMod, Nat.reduceDiv, Int.reduceLE, Int.reduceLT, Int.reduceToNat, Int.reduceAdd, Int.reduceSub, Int.reduceMul, Int.reduceNeg, Int.reduceEq, Int.reduceBEq, Int.reduceBNe, ↓reduceIte, reduceCtorEq, String.reduceBNe, String.reduceEq, reduceDIte, Nat.reducePow] at hrowA hrowB
        have hnd : ndC (m.length + 2) n = .sl M.length 0 0 1 := by
          unfold ndC rwN; rw [hm0, hd0, hndl, if_neg (by decide), hMl]
          congr 1 <;> omega
        rw [if_neg (by decide)] at hky hrf
        rw [hndl] at hky
        simp only [List.flatMap_cons, List.flatMap_nil, List.append_nil] at hky
        have hDl : (ky J (0)).length = 32 * 1 := by simp only [List.length_append, ky_len]
        have hDo : U8ok (ky J (0)) := ky_ok _ _
        simp only [push_cast, Nat.reduceAdd, Nat.reduceMul, Nat.reduceSub, Nat.reduceLeDiff, Nat.reduceLT, Nat.reduceEqDiff, Nat.reduceBEq, Nat.reduceBNe, Nat.reduceMod, Nat.reduceDiv, Int.reduceLE, Int.reduceLT, Int.reduceToNat, Int.reduceAdd, Int.reduceSub, Int.reduceMul, Int.reduceNeg, Int.reduceEq, Int.reduceBEq, Int.reduceBNe, ↓reduceIte, reduceCtorEq, String.reduceBNe, String.reduceEq, reduceDIte, Nat.reducePow] at hky
        have hki : ((kn : Nat) : Int) = 2 := by omega
        have hwc : CV.int .i64 1 :: .int .i64 0 :: (u8l (ky J n) ++ [.sl M.length 0 0 1]) = wC J (m.length + 2) n := by rw [hwc0, hnd]; rfl
        have hsk := setL_key (.int .i64 1) (.int .i64 0) (.sl M.length 0 0 1) (ky J n) hkl
        dsimp only at hsk
        have hq2 : ∀ l : List CV, l = l := fun _ => rfl
        have e6 : kn = n + 1 := by omega
        have hrf6 : rwF 0 (n + 1) = _ := e6 ▸ hrf
        have hki6 : (n : Int) + 1 = 2 := by omega
        have cp0 : (0 : Int) ≤ (0 : Int) := by omega
        have dp0 : (0 : Int) < (n : Int) := by omega
        have zp0 : ((0 : Int)).toNat = 0 := by omega
        have bp0 : (0) * 35 + 34 ≤ n * 35 := by omega
        have kp0 := wR_key J (m.length + 2) n (0) (by omega)
        rw [show 35 * (0) = (0) * 35 from Nat.mul_comm _ _] at kp0
        have lp0 := ky_len J (0)
        have op0 := ky_ok J (0)
        have sp0 : setL [.int .u8 0, .int .u8 0, .int .u8 0, .int .u8 0, .int .u8 0, .int .u8 0, .int .u8 0, .int .u8 0, .int .u8 0, .int .u8 0, .int .u8 0, .int .u8 0, .int .u8 0, .int .u8 0, .int .u8 0, .int .u8 0, .int .u8 0, .int .u8 0, .int .u8 0, .int .u8 0, .int .u8 0, .int .u8 0, .int .u8 0, .int .u8 0, .int .u8 0, .int .u8 0, .int .u8 0, .int .u8 0, .int .u8 0, .int .u8 0, .int .u8 0, .int .u8 0] 0 (u8l (ky J (0))) = u8l (ky J (0)) := setL_full (by rw [u8l_len, lp0]; rfl)
        have vp0 := u8l_vals (ky J (0))
        have xp0 : (u8l (ky J (0))).take 32 = u8l (ky J (0)) := List.take_of_length_le (by rw [u8l_len, lp0]; exact Nat.le_refl _)
        try simp only [push_cast, Nat.reduceAdd, Nat.reduceMul, Nat.reduceSub, Nat.reduceLeDiff, Nat.reduceLT, Nat.reduceEqDiff, Nat.reduceBEq, Nat.reduceBNe, Nat.reduceMod, Nat.reduceDiv, Int.reduceLE, Int.reduceLT, Int.reduceToNat, Int.reduceAdd, Int.reduceSub, Int.reduceMul, Int.reduceNeg, Int.reduceEq, Int.reduceBEq, Int.reduceBNe, ↓reduceIte, reduceCtorEq, String.reduceBNe, String.reduceEq, reduceDIte, Nat.reducePow] at bp0
        try simp only [push_cast, Nat.reduceAdd, Nat.reduceMul, Nat.reduceSub, Nat.reduceLeDiff, Nat.reduceLT, Nat.reduceEqDiff, Nat.reduceBEq, Nat.reduceBNe, Nat.reduceMod, Nat.reduceDiv, Int.reduceLE, Int.reduceLT, Int.reduceToNat, Int.reduceAdd, Int.reduceSub, Int.reduceMul, Int.reduceNeg, Int.reduceEq, Int.reduceBEq, Int.reduceBNe, ↓reduceIte, reduceCtorEq, String.reduceBNe, String.reduceEq, reduceDIte, Nat.reducePow] at kp0
        refine AW.region (by decide) ?_
        simp only [push_cast, Nat.reduceAdd, Nat.reduceMul, Nat.reduceSub, Nat.reduceLeDiff, Nat.reduceLT, Nat.reduceEqDiff, Nat.reduceBEq, Nat.reduceBNe, Nat.reduceMod, Nat.reduceDiv, Int.reduceLE, Int.reduceLT, Int.reduceToNat, Int.reduceAdd, Int.reduceSub, Int.reduceMul, Int.reduceNeg, Int.reduceEq, Int.reduceBEq, Int.reduceBNe, ↓reduceIte, reduceCtorEq, String.reduceBNe, String.reduceEq, reduceDIte, Nat.reducePow, imp_self, hJ, hj2, hj3, hj4, u8l_len, u8l_app, Nat.le_refl, Int.le_refl, hx, gB, lk_old gB, gO, lk_old gO, kS, hkl, hkv, hsk, hwc, hwl, q1, q2, q3, hcl, hct, hcs, hcv, hky.symm, hrowA, hrowB, cp0, dp0, zp0, bp0, kp0, lp0, sp0, vp0, xp0]
        refine CThen.by (needs1z_c _) ?_
        simp only [push_cast, Nat.reduceAdd, Nat.reduceMul, Nat.reduceSub, Nat.reduceLeDiff, Nat.reduceLT, Nat.reduceEqDiff, Nat.reduceBEq, Nat.reduceBNe, Nat.reduceMod, Nat.reduceDiv, Int.reduceLE, Int.reduceLT, Int.reduceToNat, Int.reduceAdd, Int.reduceSub, Int.reduceMul, Int.reduceNeg, Int.reduceEq, Int.reduceBEq, Int.reduceBNe, ↓reduceIte, reduceCtorEq, String.reduceBNe, String.reduceEq, reduceDIte, Nat.reducePow, imp_self, hJ, hj2, hj3, hj4, u8l_len, u8l_app, Nat.le_refl, Int.le_refl, hx, gB, lk_old gB, gO, lk_old gO, kS, hkl, hkv, hsk, hwc, hwl, q1, q2, q3, hcl, hct, hcs, hcv, hky.symm, hrowA, hrowB, cp0, dp0, zp0, bp0, kp0, lp0, sp0, vp0, xp0]
        refine Thn_n ?_
        refine hK _ _ ?_
        clear hK K
        refine AW.seq_k fun K hK => ?_
        refine AW.region (by decide) ?_
        simp only [push_cast, Nat.reduceAdd, Nat.reduceMul, Nat.reduceSub, Nat.reduceLeDiff, Nat.reduceLT, Nat.reduceEqDiff, Nat.reduceBEq, Nat.reduceBNe, Nat.reduceMod, Nat.reduceDiv, Int.reduceLE, Int.reduceLT, Int.reduceToNat, Int.reduceAdd, Int.reduceSub, Int.reduceMul, Int.reduceNeg, Int.reduceEq, Int.reduceBEq, Int.reduceBNe, ↓reduceIte, reduceCtorEq, String.reduceBNe, String.reduceEq, reduceDIte, Nat.reducePow, imp_self, hJ, hj2, hj3, hj4, u8l_len, u8l_app, Nat.le_refl, Int.le_refl, hx, gB, lk_old gB, gO, lk_old gO, kS, hkl, hkv, hsk, hwc, hwl, q1, q2, q3, hcl, hct, hcs, hcv, hky.symm, hrowA, hrowB, cp0, dp0, zp0, bp0, kp0, lp0, sp0, vp0, xp0]
        refine Thn_n ?_
        refine hK _ _ ?_
        clear hK K
        refine AW.seq_k fun K hK => ?_
        refine AW.seq_k fun K hK => ?_
        refine AW.region (by decide) ?_
        simp only [push_cast, Nat.reduceAdd, Nat.reduceMul, Nat.reduceSub, Nat.reduceLeDiff, Nat.reduceLT, Nat.reduceEqDiff, Nat.reduceBEq, Nat.reduceBNe, Nat.reduceMod, Nat.reduceDiv, Int.reduceLE, Int.reduceLT, Int.reduceToNat, Int.reduceAdd, Int.reduceSub, Int.reduceMul, Int.reduceNeg, Int.reduceEq, Int.reduceBEq, Int.reduceBNe, ↓reduceIte, reduceCtorEq, String.reduceBNe, String.reduceEq, reduceDIte, Nat.reducePow, imp_self, hJ, hj2, hj3, hj4, u8l_len, u8l_app, Nat.le_refl, Int.le_refl, hx, gB, lk_old gB, gO, lk_old gO, kS, hkl, hkv, hsk, hwc, hwl, q1, q2, q3, hcl, hct, hcs, hcv, hky.symm, hrowA, hrowB, cp0, dp0, zp0, bp0, kp0, lp0, sp0, vp0, xp0]
        refine Thn_n ?_
        refine hK _ _ ?_
        clear hK K
        refine AW.cond_f rfl ?_
        refine AW.skip ?_
        refine Thn_n ?_
        refine hK _ _ ?_
        clear hK K
        refine AW.seq_k fun K hK => ?_
        refine AW.seq_k fun K hK => ?_
        refine AW.region (by decide) ?_
        simp only [push_cast, Nat.reduceAdd, Nat.reduceMul, Nat.reduceSub, Nat.reduceLeDiff, Nat.reduceLT, Nat.reduceEqDiff, Nat.reduceBEq, Nat.reduceBNe, Nat.reduceMod, Nat.reduceDiv, Int.reduceLE, Int.reduceLT, Int.reduceToNat, Int.reduceAdd, Int.reduceSub, Int.reduceMul, Int.reduceNeg, Int.reduceEq, Int.reduceBEq, Int.reduceBNe, ↓reduceIte, reduceCtorEq, String.reduceBNe, String.reduceEq, reduceDIte, Nat.reducePow, imp_self, hJ, hj2, hj3, hj4, u8l_len, u8l_app, Nat.le_refl, Int.le_refl, hx, gB, lk_old gB, gO, lk_old gO, kS, hkl, hkv, hsk, hwc, hwl, q1, q2, q3, hcl, hct, hcs, hcv, hky.symm, hrowA, hrowB, cp0, dp0, zp0, bp0, kp0, lp0, sp0, vp0, xp0]
        refine Thn_n ?_
        refine hK _ _ ?_
        clear hK K
        refine AW.block ?_
        refine AW.rounds 2 ?_
        refine ARounds.succ fun K hK => ?_
        refine AW.seq_k fun K hK => ?_
        refine AW.region (by decide) ?_
        simp only [push_cast, Nat.reduceAdd, Nat.reduceMul, Nat.reduceSub, Nat.reduceLeDiff, Nat.reduceLT, Nat.reduceEqDiff, Nat.reduceBEq, Nat.reduceBNe, Nat.reduceMod, Nat.reduceDiv, Int.reduceLE, Int.reduceLT, Int.reduceToNat, Int.reduceAdd, Int.reduceSub, Int.reduceMul, Int.reduceNeg, Int.reduceEq, Int.reduceBEq, Int.reduceBNe, ↓reduceIte, reduceCtorEq, String.reduceBNe, String.reduceEq, reduceDIte, Nat.reducePow, imp_self, hJ, hj2, hj3, hj4, u8l_len, u8l_app, Nat.le_refl, Int.le_refl, hx, gB, lk_old gB, gO, lk_old gO, kS, hkl, hkv, hsk, hwc, hwl, q1, q2, q3, hcl, hct, hcs, hcv, hky.symm, hrowA, hrowB, cp0, dp0, zp0, bp0, kp0, lp0, sp0, vp0, xp0]
        refine Thn_n ?_
        refine hK _ _ ?_
        clear hK K
        refine AW.seq_k fun K hK => ?_
        refine AW.cond_t rfl ?_
        refine AW.skip ?_
        refine Thn_n ?_
        refine hK _ _ ?_
        clear hK K
        refine AW.seq_k fun K hK => ?_
        refine AW.block ?_
        refine AW.seq_k fun K hK => ?_
        refine AW.region (by decide) ?_
        simp only [push_cast, Nat.reduceAdd, Nat.reduceMul, Nat.reduceSub, Nat.reduceLeDiff, Nat.reduceLT, Nat.reduceEqDiff, Nat.reduceBEq, Nat.reduceBNe, Nat.reduceMod, Nat.reduceDiv, Int.reduceLE, Int.reduceLT, Int.reduceToNat, Int.reduceAdd, Int.reduceSub, Int.reduceMul, Int.reduceNeg, Int.reduceEq, Int.reduceBEq, Int.reduceBNe, ↓reduceIte, reduceCtorEq, String.reduceBNe, String.reduceEq, reduceDIte, Nat.reducePow, imp_self, hJ, hj2, hj3, hj4, u8l_len, u8l_app, Nat.le_refl, Int.le_refl, hx, gB, lk_old gB, gO, lk_old gO, kS, hkl, hkv, hsk, hwc, hwl, q1, q2, q3, hcl, hct, hcs, hcv, hky.symm, hrowA, hrowB, cp0, dp0, zp0, bp0, kp0, lp0, sp0, vp0, xp0]
        refine Thn_n ?_
        refine hK _ _ ?_
        clear hK K
        refine AW.region (by decide) ?_
        simp only [push_cast, Nat.reduceAdd, Nat.reduceMul, Nat.reduceSub, Nat.reduceLeDiff, Nat.reduceLT, Nat.reduceEqDiff, Nat.reduceBEq, Nat.reduceBNe, Nat.reduceMod, Nat.reduceDiv, Int.reduceLE, Int.reduceLT, Int.reduceToNat, Int.reduceAdd, Int.reduceSub, Int.reduceMul, Int.reduceNeg, Int.reduceEq, Int.reduceBEq, Int.reduceBNe, ↓reduceIte, reduceCtorEq, String.reduceBNe, String.reduceEq, reduceDIte, Nat.reducePow, imp_self, hJ, hj2, hj3, hj4, u8l_len, u8l_app, Nat.le_refl, Int.le_refl, hx, gB, lk_old gB, gO, lk_old gO, kS, hkl, hkv, hsk, hwc, hwl, q1, q2, q3, hcl, hct, hcs, hcv, hky.symm, hrowA, hrowB, cp0, dp0, zp0, bp0, kp0, lp0, sp0, vp0, xp0]
        refine InB_n ?_
        refine Thn_n ?_
        refine hK _ _ ?_
        clear hK K
        refine AW.region (by decide) ?_
        simp only [push_cast, Nat.reduceAdd, Nat.reduceMul, Nat.reduceSub, Nat.reduceLeDiff, Nat.reduceLT, Nat.reduceEqDiff, Nat.reduceBEq, Nat.reduceBNe, Nat.reduceMod, Nat.reduceDiv, Int.reduceLE, Int.reduceLT, Int.reduceToNat, Int.reduceAdd, Int.reduceSub, Int.reduceMul, Int.reduceNeg, Int.reduceEq, Int.reduceBEq, Int.reduceBNe, ↓reduceIte, reduceCtorEq, String.reduceBNe, String.reduceEq, reduceDIte, Nat.reducePow, imp_self, hJ, hj2, hj3, hj4, u8l_len, u8l_app, Nat.le_refl, Int.le_refl, hx, gB, lk_old gB, gO, lk_old gO, kS, hkl, hkv, hsk, hwc, hwl, q1, q2, q3, hcl, hct, hcs, hcv, hky.symm, hrowA, hrowB, cp0, dp0, zp0, bp0, kp0, lp0, sp0, vp0, xp0]
        refine Thn_n ?_
        refine hK _ _ ?_
        clear hK K
        refine ARounds.succ fun K hK => ?_
        refine AW.seq_k fun K hK => ?_
        refine AW.region (by decide) ?_
        simp only [push_cast, Nat.reduceAdd, Nat.reduceMul, Nat.reduceSub, Nat.reduceLeDiff, Nat.reduceLT, Nat.reduceEqDiff, Nat.reduceBEq, Nat.reduceBNe, Nat.reduceMod, Nat.reduceDiv, Int.reduceLE, Int.reduceLT, Int.reduceToNat, Int.reduceAdd, Int.reduceSub, Int.reduceMul, Int.reduceNeg, Int.reduceEq, Int.reduceBEq, Int.reduceBNe, ↓reduceIte, reduceCtorEq, String.reduceBNe, String.reduceEq, reduceDIte, Nat.reducePow, imp_self, hJ, hj2, hj3, hj4, u8l_len, u8l_app, Nat.le_refl, Int.le_refl, hx, gB, lk_old gB, gO, lk_old gO, kS, hkl, hkv, hsk, hwc, hwl, q1, q2, q3, hcl, hct, hcs, hcv, hky.symm, hrowA, hrowB, cp0, dp0, zp0, bp0, kp0, lp0, sp0, vp0, xp0]
        refine Thn_n ?_
        refine hK _ _ ?_
        clear hK K
        refine AW.seq_k fun K hK => ?_
        refine AW.cond_f rfl ?_
        refine AW.exit ?_
        refine Thn_e ?_
        clear hK K
        refine Thn_e ?_
        clear hK K
        refine InB_here ?_
        refine Thn_n ?_
        refine hK _ _ ?_
        clear hK K
        refine AW.seq_k fun K hK => ?_
        refine AW.region (by decide) ?_
        simp only [push_cast, Nat.reduceAdd, Nat.reduceMul, Nat.reduceSub, Nat.reduceLeDiff, Nat.reduceLT, Nat.reduceEqDiff, Nat.reduceBEq, Nat.reduceBNe, Nat.reduceMod, Nat.reduceDiv, Int.reduceLE, Int.reduceLT, Int.reduceToNat, Int.reduceAdd, Int.reduceSub, Int.reduceMul, Int.reduceNeg, Int.reduceEq, Int.reduceBEq, Int.reduceBNe, ↓reduceIte, reduceCtorEq, String.reduceBNe, String.reduceEq, reduceDIte, Nat.reducePow, imp_self, hJ, hj2, hj3, hj4, u8l_len, u8l_app, Nat.le_refl, Int.le_refl, hx, gB, lk_old gB, gO, lk_old gO, kS, hkl, hkv, hsk, hwc, hwl, q1, q2, q3, hcl, hct, hcs, hcv, hky.symm, hrowA, hrowB, cp0, dp0, zp0, bp0, kp0, lp0, sp0, vp0, xp0]
        refine CThen.by (key_c 1 0 (M.length + 2) 1 1 (ky J (0)) .grow 32 _ (by simp only [push_cast, Nat.reduceAdd, Nat.reduceMul, Nat.reduceSub, Nat.reduceLeDiff, Nat.reduceLT, Nat.reduceEqDiff, Nat.reduceBEq, Nat.reduceBNe, Nat.reduceMod, Nat.reduceDiv, Int.reduceLE, Int.reduceLT, Int.reduceToNat, Int.reduceAdd, Int.reduceSub, Int.reduceMul, Int.reduceNeg, Int.reduceEq, Int.reduceBEq, Int.reduceBNe, ↓reduceIte, reduceCtorEq, String.reduceBNe, String.reduceEq, reduceDIte, Nat.reducePow, u8l_app]) hDl hDo (by decide)) ?_
        simp only [push_cast, Nat.reduceAdd, Nat.reduceMul, Nat.reduceSub, Nat.reduceLeDiff, Nat.reduceLT, Nat.reduceEqDiff, Nat.reduceBEq, Nat.reduceBNe, Nat.reduceMod, Nat.reduceDiv, Int.reduceLE, Int.reduceLT, Int.reduceToNat, Int.reduceAdd, Int.reduceSub, Int.reduceMul, Int.reduceNeg, Int.reduceEq, Int.reduceBEq, Int.reduceBNe, ↓reduceIte, reduceCtorEq, String.reduceBNe, String.reduceEq, reduceDIte, Nat.reducePow, imp_self, hJ, hj2, hj3, hj4, u8l_len, u8l_app, Nat.le_refl, Int.le_refl, hx, gB, lk_old gB, gO, lk_old gO, kS, hkl, hkv, hsk, hwc, hwl, q1, q2, q3, hcl, hct, hcs, hcv, hky.symm, hrowA, hrowB, cp0, dp0, zp0, bp0, kp0, lp0, sp0, vp0, xp0]
        refine Thn_n ?_
        refine hK _ _ ?_
        clear hK K
        refine AW.region (by decide) ?_
        simp only [push_cast, Nat.reduceAdd, Nat.reduceMul, Nat.reduceSub, Nat.reduceLeDiff, Nat.reduceLT, Nat.reduceEqDiff, Nat.reduceBEq, Nat.reduceBNe, Nat.reduceMod, Nat.reduceDiv, Int.reduceLE, Int.reduceLT, Int.reduceToNat, Int.reduceAdd, Int.reduceSub, Int.reduceMul, Int.reduceNeg, Int.reduceEq, Int.reduceBEq, Int.reduceBNe, ↓reduceIte, reduceCtorEq, String.reduceBNe, String.reduceEq, reduceDIte, Nat.reducePow, imp_self, hJ, hj2, hj3, hj4, u8l_len, u8l_app, Nat.le_refl, Int.le_refl, hx, gB, lk_old gB, gO, lk_old gO, kS, hkl, hkv, hsk, hwc, hwl, q1, q2, q3, hcl, hct, hcs, hcv, hky.symm, hrowA, hrowB, cp0, dp0, zp0, bp0, kp0, lp0, sp0, vp0, xp0]
        refine InB_n ?_
        refine Thn_n ?_
        refine hK _ _ ?_
        clear hK K
        refine AW.region (by decide) ?_
        simp only [push_cast, Nat.reduceAdd, Nat.reduceMul, Nat.reduceSub, Nat.reduceLeDiff, Nat.reduceLT, Nat.reduceEqDiff, Nat.reduceBEq, Nat.reduceBNe, Nat.reduceMod, Nat.reduceDiv, Int.reduceLE, Int.reduceLT, Int.reduceToNat, Int.reduceAdd, Int.reduceSub, Int.reduceMul, Int.reduceNeg, Int.reduceEq, Int.reduceBEq, Int.reduceBNe, ↓reduceIte, reduceCtorEq, String.reduceBNe, String.reduceEq, reduceDIte, Nat.reducePow, imp_self, hJ, hj2, hj3, hj4, u8l_len, u8l_app, Nat.le_refl, Int.le_refl, hx, gB, lk_old gB, gO, lk_old gO, kS, hkl, hkv, hsk, hwc, hwl, q1, q2, q3, hcl, hct, hcs, hcv, hky.symm, hrowA, hrowB, cp0, dp0, zp0, bp0, kp0, lp0, sp0, vp0, xp0]
        refine Thn_n ?_
        refine ⟨kn, by omega, by omega, ?_⟩
        try simp only [keepL, setAll, push_cast, Nat.reduceAdd, Nat.reduceMul, Nat.reduceSub, Nat.reduceLeDiff, Nat.reduceLT, Nat.reduceEqDiff, Nat.reduceBEq, Nat.reduceBNe, Nat.reduceMod, Nat.reduceDiv, Int.reduceLE, Int.reduceLT, Int.reduceToNat, Int.reduceAdd, Int.reduceSub, Int.reduceMul, Int.reduceNeg, Int.reduceEq, Int.reduceBEq, Int.reduceBNe, ↓reduceIte, reduceCtorEq, String.reduceBNe, String.reduceEq, reduceDIte, Nat.reducePow, imp_self, hJ, hj2, hj3, hj4, u8l_len, u8l_app, Nat.le_refl, Int.le_refl, hx, gB, lk_old gB, gO, lk_old gO, kS, hkl, hkv, hsk, hwc, hwl, q1, q2, q3, hcl, hct, hcs, hcv, hky.symm, hrowA, hrowB, cp0, dp0, zp0, bp0, kp0, lp0, sp0, vp0, xp0, e6, hki6, hrf6, hki, kM, hrf, e5, hwn, List.append_assoc]
        first
          | exact Weak.to (extra := [_, _, _, _]) (by simp only [Keeps, Tm.get_cons, Nat.reduceEqDiff, ↓reduceIte, if_true, if_false, ite_true, ite_false, true_and, and_true, and_self, reduceCtorEq, e6, hki6, hrf6, hki, kM, hrf, e5, hwn, List.append_assoc]) (by first | rfl | (simp only [List.append_assoc, List.cons_append, List.nil_append]; rfl)) (by first | rfl | (simp [AV.below, CV.below, u8l_below]; done) | (simp [AV.below, CV.below, u8l_below]; omega)) (by have h := works_wf J m RR (n + 1) (n + 1) hwf hwR hwL; simp only [hRR, e6, hki6, hrf6, hki, kM, hrf, hwn, hrowA, hrowB, List.append_assoc, push_cast, Nat.reduceAdd, Nat.reduceMul, Nat.reduceSub, Nat.reduceLeDiff, Nat.reduceLT, Nat.reduceEqDiff, Nat.reduceBEq, Nat.reduceBNe, Nat.reduceMod, Nat.reduceDiv, Int.reduceLE, Int.reduceLT, Int.reduceToNat, Int.reduceAdd, Int.reduceSub, Int.reduceMul, Int.reduceNeg, Int.reduceEq, Int.reduceBEq, Int.reduceBNe, ↓reduceIte, reduceCtorEq, String.reduceBNe, String.reduceEq, reduceDIte, Nat.reducePow] at h ⊢; exact h)
          | exact Weak.to (extra := [_, _, _, _, _]) (by simp only [Keeps, Tm.get_cons, Nat.reduceEqDiff, ↓reduceIte, if_true, if_false, ite_true, ite_false, true_and, and_true, and_self, reduceCtorEq, e6, hki6, hrf6, hki, kM, hrf, e5, hwn, List.append_assoc]) (by first | rfl | (simp only [List.append_assoc, List.cons_append, List.nil_append]; rfl)) (by first | rfl | (simp [AV.below, CV.below, u8l_below]; done) | (simp [AV.below, CV.below, u8l_below]; omega)) (by have h := works_wf J m RR (n + 1) (n + 1) hwf hwR hwL; simp only [hRR, e6, hki6, hrf6, hki, kM, hrf, hwn, hrowA, hrowB, List.append_assoc, push_cast, Nat.reduceAdd, Nat.reduceMul, Nat.reduceSub, Nat.reduceLeDiff, Nat.reduceLT, Nat.reduceEqDiff, Nat.reduceBEq, Nat.reduceBNe, Nat.reduceMod, Nat.reduceDiv, Int.reduceLE, Int.reduceLT, Int.reduceToNat, Int.reduceAdd, Int.reduceSub, Int.reduceMul, Int.reduceNeg, Int.reduceEq, Int.reduceBEq, Int.reduceBNe, ↓reduceIte, reduceCtorEq, String.reduceBNe, String.reduceEq, reduceDIte, Nat.reducePow] at h ⊢; exact h)
          | exact Weak.to (extra := [_, _, _, _, _, _]) (by simp only [Keeps, Tm.get_cons, Nat.reduceEqDiff, ↓reduceIte, if_true, if_false, ite_true, ite_false, true_and, and_true, and_self, reduceCtorEq, e6, hki6, hrf6, hki, kM, hrf, e5, hwn, List.append_assoc]) (by first | rfl | (simp only [List.append_assoc, List.cons_append, List.nil_append]; rfl)) (by first | rfl | (simp [AV.below, CV.below, u8l_below]; done) | (simp [AV.below, CV.below, u8l_below]; omega)) (by have h := works_wf J m RR (n + 1) (n + 1) hwf hwR hwL; simp only [hRR, e6, hki6, hrf6, hki, kM, hrf, hwn, hrowA, hrowB, List.append_assoc, push_cast, Nat.reduceAdd, Nat.reduceMul, Nat.reduceSub, Nat.reduceLeDiff, Nat.reduceLT, Nat.reduceEqDiff, Nat.reduceBEq, Nat.reduceBNe, Nat.reduceMod, Nat.reduceDiv, Int.reduceLE, Int.reduceLT, Int.reduceToNat, Int.reduceAdd, Int.reduceSub, Int.reduceMul, Int.reduceNeg, Int.reduceEq, Int.reduceBEq, Int.reduceBNe, ↓reduceIte, reduceCtorEq, String.reduceBNe, String.reduceEq, reduceDIte, Nat.reducePow] at h ⊢; exact h)
      · have hm0 : n % 4 = 1 := by omega
        have hd0 : n / 4 = (g + 1) := by omega
        rw [hm0, hd0] at hky hwc0
        have hnn : n = (4 * (g + 1) + 1) := by omega
        have hndl : ndL n = [4 * (g + 1), 4 * g, 4 * g + 1] := by rw [hnn]; exact nd1s g
        have hrowA : nl (ndL (4 * (g + 1) + 1)) = [.int .i64 ((4 * (g + 1) : Nat) : Int), .int .i64 ((4 * g : Nat) : Int), .int .i64 ((4 * g + 1 : Nat) : Int)] := by rw [nd1s g]; rfl
        have hrowB : nl (ndL n) = [.int .i64 ((4 * (g + 1) : Nat) : Int), .int .i64 ((4 * g : Nat) : Int), .int .i64 ((4 * g + 1 : Nat) : Int)] := by rw [hndl]; rfl
        simp only [push_cast, Nat.reduceAdd, Nat.reduceMul, Nat.reduceSub, Nat.reduceLeDiff, Nat.reduceLT, Nat.reduceEqDiff, Nat.reduceBEq, Nat.reduceBNe, Nat.reduceMod, Nat.reduceDiv, Int.reduceLE, Int.reduceLT, Int.reduceToNat, Int.reduceAdd, Int.reduceSub, Int.reduceMul, Int.reduceNeg, Int.reduceEq, Int.reduceBEq, Int.reduceBNe, ↓reduceIte, reduceCtorEq, String.reduceBNe, String.reduceEq, reduceDIte, Nat.reducePow] at hrowA hrowB
        have hnd : ndC (m.length + 2) n = .sl M.length 0 0 3 := by
          unfold ndC rwN; rw [hm0, hd0, hndl, if_neg (by decide), hMl]
          congr 1 <;> omega
        rw [if_neg (by decide)] at hky hrf
        rw [hndl] at hky
        simp only [List.flatMap_cons, List.flatMap_nil, List.append_nil] at hky
        have hDl : (ky J (4 * (g + 1)) ++ (ky J (4 * g) ++ (ky J (4 * g + 1)))).length = 32 * 3 := by simp only [List.length_append, ky_len]
        have hDo : U8ok (ky J (4 * (g + 1)) ++ (ky J (4 * g) ++ (ky J (4 * g + 1)))) := (ky_ok _ _).app ((ky_ok _ _).app (ky_ok _ _))
        simp only [push_cast, Nat.reduceAdd, Nat.reduceMul, Nat.reduceSub, Nat.reduceLeDiff, Nat.reduceLT, Nat.reduceEqDiff, Nat.reduceBEq, Nat.reduceBNe, Nat.reduceMod, Nat.reduceDiv, Int.reduceLE, Int.reduceLT, Int.reduceToNat, Int.reduceAdd, Int.reduceSub, Int.reduceMul, Int.reduceNeg, Int.reduceEq, Int.reduceBEq, Int.reduceBNe, ↓reduceIte, reduceCtorEq, String.reduceBNe, String.reduceEq, reduceDIte, Nat.reducePow] at hky
        have hki : ((kn : Nat) : Int) = 2 := by omega
        have hwc : CV.int .i64 1 :: .int .i64 ((g : Int) + 1) :: (u8l (ky J n) ++ [.sl M.length 0 0 3]) = wC J (m.length + 2) n := by rw [hwc0, hnd]; rfl
        have hsk := setL_key (.int .i64 1) (.int .i64 ((g : Int) + 1)) (.sl M.length 0 0 3) (ky J n) hkl
        dsimp only at hsk
        have hq2 : ∀ l : List CV, l = l := fun _ => rfl
        have cp0 : (0 : Int) ≤ 4 * ((g : Int) + 1) := by omega
        have dp0 : 4 * ((g : Int) + 1) < (n : Int) := by omega
        have zp0 : (4 * ((g : Int) + 1)).toNat = 4 * (g + 1) := by omega
        have bp0 : (4 * (g + 1)) * 35 + 34 ≤ n * 35 := by omega
        have kp0 := wR_key J (m.length + 2) n (4 * (g + 1)) (by omega)
        rw [show 35 * (4 * (g + 1)) = (4 * (g + 1)) * 35 from Nat.mul_comm _ _] at kp0
        have lp0 := ky_len J (4 * (g + 1))
        have op0 := ky_ok J (4 * (g + 1))
        have sp0 : setL [.int .u8 0, .int .u8 0, .int .u8 0, .int .u8 0, .int .u8 0, .int .u8 0, .int .u8 0, .int .u8 0, .int .u8 0, .int .u8 0, .int .u8 0, .int .u8 0, .int .u8 0, .int .u8 0, .int .u8 0, .int .u8 0, .int .u8 0, .int .u8 0, .int .u8 0, .int .u8 0, .int .u8 0, .int .u8 0, .int .u8 0, .int .u8 0, .int .u8 0, .int .u8 0, .int .u8 0, .int .u8 0, .int .u8 0, .int .u8 0, .int .u8 0, .int .u8 0] 0 (u8l (ky J (4 * (g + 1)))) = u8l (ky J (4 * (g + 1))) := setL_full (by rw [u8l_len, lp0]; rfl)
        have vp0 := u8l_vals (ky J (4 * (g + 1)))
        have xp0 : (u8l (ky J (4 * (g + 1)))).take 32 = u8l (ky J (4 * (g + 1))) := List.take_of_length_le (by rw [u8l_len, lp0]; exact Nat.le_refl _)
        try simp only [push_cast, Nat.reduceAdd, Nat.reduceMul, Nat.reduceSub, Nat.reduceLeDiff, Nat.reduceLT, Nat.reduceEqDiff, Nat.reduceBEq, Nat.reduceBNe, Nat.reduceMod, Nat.reduceDiv, Int.reduceLE, Int.reduceLT, Int.reduceToNat, Int.reduceAdd, Int.reduceSub, Int.reduceMul, Int.reduceNeg, Int.reduceEq, Int.reduceBEq, Int.reduceBNe, ↓reduceIte, reduceCtorEq, String.reduceBNe, String.reduceEq, reduceDIte, Nat.reducePow] at bp0
        try simp only [push_cast, Nat.reduceAdd, Nat.reduceMul, Nat.reduceSub, Nat.reduceLeDiff, Nat.reduceLT, Nat.reduceEqDiff, Nat.reduceBEq, Nat.reduceBNe, Nat.reduceMod, Nat.reduceDiv, Int.reduceLE, Int.reduceLT, Int.reduceToNat, Int.reduceAdd, Int.reduceSub, Int.reduceMul, Int.reduceNeg, Int.reduceEq, Int.reduceBEq, Int.reduceBNe, ↓reduceIte, reduceCtorEq, String.reduceBNe, String.reduceEq, reduceDIte, Nat.reducePow] at kp0
        have cp1 : (0 : Int) ≤ 4 * (g : Int) := by omega
        have dp1 : 4 * (g : Int) < (n : Int) := by omega
        have zp1 : (4 * (g : Int)).toNat = 4 * g := by omega
        have bp1 : (4 * g) * 35 + 34 ≤ n * 35 := by omega
        have kp1 := wR_key J (m.length + 2) n (4 * g) (by omega)
        rw [show 35 * (4 * g) = (4 * g) * 35 from Nat.mul_comm _ _] at kp1
        have lp1 := ky_len J (4 * g)
        have op1 := ky_ok J (4 * g)
        have sp1 : setL [.int .u8 0, .int .u8 0, .int .u8 0, .int .u8 0, .int .u8 0, .int .u8 0, .int .u8 0, .int .u8 0, .int .u8 0, .int .u8 0, .int .u8 0, .int .u8 0, .int .u8 0, .int .u8 0, .int .u8 0, .int .u8 0, .int .u8 0, .int .u8 0, .int .u8 0, .int .u8 0, .int .u8 0, .int .u8 0, .int .u8 0, .int .u8 0, .int .u8 0, .int .u8 0, .int .u8 0, .int .u8 0, .int .u8 0, .int .u8 0, .int .u8 0, .int .u8 0] 0 (u8l (ky J (4 * g))) = u8l (ky J (4 * g)) := setL_full (by rw [u8l_len, lp1]; rfl)
        have vp1 := u8l_vals (ky J (4 * g))
        have xp1 : (u8l (ky J (4 * g))).take 32 = u8l (ky J (4 * g)) := List.take_of_length_le (by rw [u8l_len, lp1]; exact Nat.le_refl _)
        try simp only [push_cast, Nat.reduceAdd, Nat.reduceMul, Nat.reduceSub, Nat.reduceLeDiff, Nat.reduceLT, Nat.reduceEqDiff, Nat.reduceBEq, Nat.reduceBNe, Nat.reduceMod, Nat.reduceDiv, Int.reduceLE, Int.reduceLT, Int.reduceToNat, Int.reduceAdd, Int.reduceSub, Int.reduceMul, Int.reduceNeg, Int.reduceEq, Int.reduceBEq, Int.reduceBNe, ↓reduceIte, reduceCtorEq, String.reduceBNe, String.reduceEq, reduceDIte, Nat.reducePow] at bp1
        try simp only [push_cast, Nat.reduceAdd, Nat.reduceMul, Nat.reduceSub, Nat.reduceLeDiff, Nat.reduceLT, Nat.reduceEqDiff, Nat.reduceBEq, Nat.reduceBNe, Nat.reduceMod, Nat.reduceDiv, Int.reduceLE, Int.reduceLT, Int.reduceToNat, Int.reduceAdd, Int.reduceSub, Int.reduceMul, Int.reduceNeg, Int.reduceEq, Int.reduceBEq, Int.reduceBNe, ↓reduceIte, reduceCtorEq, String.reduceBNe, String.reduceEq, reduceDIte, Nat.reducePow] at kp1
        have cp2 : (0 : Int) ≤ 4 * (g : Int) + 1 := by omega
        have dp2 : 4 * (g : Int) + 1 < (n : Int) := by omega
        have zp2 : (4 * (g : Int) + 1).toNat = 4 * g + 1 := by omega
        have bp2 : (4 * g + 1) * 35 + 34 ≤ n * 35 := by omega
        have kp2 := wR_key J (m.length + 2) n (4 * g + 1) (by omega)
        rw [show 35 * (4 * g + 1) = (4 * g + 1) * 35 from Nat.mul_comm _ _] at kp2
        have lp2 := ky_len J (4 * g + 1)
        have op2 := ky_ok J (4 * g + 1)
        have sp2 : setL [.int .u8 0, .int .u8 0, .int .u8 0, .int .u8 0, .int .u8 0, .int .u8 0, .int .u8 0, .int .u8 0, .int .u8 0, .int .u8 0, .int .u8 0, .int .u8 0, .int .u8 0, .int .u8 0, .int .u8 0, .int .u8 0, .int .u8 0, .int .u8 0, .int .u8 0, .int .u8 0, .int .u8 0, .int .u8 0, .int .u8 0, .int .u8 0, .int .u8 0, .int .u8 0, .int .u8 0, .int .u8 0, .int .u8 0, .int .u8 0, .int .u8 0, .int .u8 0] 0 (u8l (ky J (4 * g + 1))) = u8l (ky J (4 * g + 1)) := setL_full (by rw [u8l_len, lp2]; rfl)
        have vp2 := u8l_vals (ky J (4 * g + 1))
        have xp2 : (u8l (ky J (4 * g + 1))).take 32 = u8l (ky J (4 * g + 1)) := List.take_of_length_le (by rw [u8l_len, lp2]; exact Nat.le_refl _)
        try simp only [push_cast, Nat.reduceAdd, Nat.reduceMul, Nat.reduceSub, Nat.reduceLeDiff, Nat.reduceLT, Nat.reduceEqDiff, Nat.reduceBEq, Nat.reduceBNe, Nat.reduceMod, Nat.reduceDiv, Int.reduceLE, Int.reduceLT, Int.reduceToNat, Int.reduceAdd, Int.reduceSub, Int.reduceMul, Int.reduceNeg, Int.reduceEq, Int.reduceBEq, Int.reduceBNe, ↓reduceIte, reduceCtorEq, String.reduceBNe, String.reduceEq, reduceDIte, Nat.reducePow] at bp2
        try simp only [push_cast, Nat.reduceAdd, Nat.reduceMul, Nat.reduceSub, Nat.reduceLeDiff, Nat.reduceLT, Nat.reduceEqDiff, Nat.reduceBEq, Nat.reduceBNe, Nat.reduceMod, Nat.reduceDiv, Int.reduceLE, Int.reduceLT, Int.reduceToNat, Int.reduceAdd, Int.reduceSub, Int.reduceMul, Int.reduceNeg, Int.reduceEq, Int.reduceBEq, Int.reduceBNe, ↓reduceIte, reduceCtorEq, String.reduceBNe, String.reduceEq, reduceDIte, Nat.reducePow] at kp2
        refine AW.region (by decide) ?_
        simp only [push_cast, Nat.reduceAdd, Nat.reduceMul, Nat.reduceSub, Nat.reduceLeDiff, Nat.reduceLT, Nat.reduceEqDiff, Nat.reduceBEq, Nat.reduceBNe, Nat.reduceMod, Nat.reduceDiv, Int.reduceLE, Int.reduceLT, Int.reduceToNat, Int.reduceAdd, Int.reduceSub, Int.reduceMul, Int.reduceNeg, Int.reduceEq, Int.reduceBEq, Int.reduceBNe, ↓reduceIte, reduceCtorEq, String.reduceBNe, String.reduceEq, reduceDIte, Nat.reducePow, imp_self, hJ, hj2, hj3, hj4, u8l_len, u8l_app, Nat.le_refl, Int.le_refl, hx, gB, lk_old gB, gO, lk_old gO, kS, hkl, hkv, hsk, hwc, hwl, q1, q2, q3, hcl, hct, hcs, hcv, hky.symm, hrowA, hrowB, cp0, dp0, zp0, bp0, kp0, lp0, sp0, vp0, xp0, cp1, dp1, zp1, bp1, kp1, lp1, sp1, vp1, xp1, cp2, dp2, zp2, bp2, kp2, lp2, sp2, vp2, xp2]
        refine CThen.by (needs1s_c g _ (by omega)) ?_
        simp only [push_cast, Nat.reduceAdd, Nat.reduceMul, Nat.reduceSub, Nat.reduceLeDiff, Nat.reduceLT, Nat.reduceEqDiff, Nat.reduceBEq, Nat.reduceBNe, Nat.reduceMod, Nat.reduceDiv, Int.reduceLE, Int.reduceLT, Int.reduceToNat, Int.reduceAdd, Int.reduceSub, Int.reduceMul, Int.reduceNeg, Int.reduceEq, Int.reduceBEq, Int.reduceBNe, ↓reduceIte, reduceCtorEq, String.reduceBNe, String.reduceEq, reduceDIte, Nat.reducePow, imp_self, hJ, hj2, hj3, hj4, u8l_len, u8l_app, Nat.le_refl, Int.le_refl, hx, gB, lk_old gB, gO, lk_old gO, kS, hkl, hkv, hsk, hwc, hwl, q1, q2, q3, hcl, hct, hcs, hcv, hky.symm, hrowA, hrowB, cp0, dp0, zp0, bp0, kp0, lp0, sp0, vp0, xp0, cp1, dp1, zp1, bp1, kp1, lp1, sp1, vp1, xp1, cp2, dp2, zp2, bp2, kp2, lp2, sp2, vp2, xp2]
        refine Thn_n ?_
        refine hK _ _ ?_
        clear hK K
        refine AW.seq_k fun K hK => ?_
        refine AW.region (by decide) ?_
        simp only [push_cast, Nat.reduceAdd, Nat.reduceMul, Nat.reduceSub, Nat.reduceLeDiff, Nat.reduceLT, Nat.reduceEqDiff, Nat.reduceBEq, Nat.reduceBNe, Nat.reduceMod, Nat.reduceDiv, Int.reduceLE, Int.reduceLT, Int.reduceToNat, Int.reduceAdd, Int.reduceSub, Int.reduceMul, Int.reduceNeg, Int.reduceEq, Int.reduceBEq, Int.reduceBNe, ↓reduceIte, reduceCtorEq, String.reduceBNe, String.reduceEq, reduceDIte, Nat.reducePow, imp_self, hJ, hj2, hj3, hj4, u8l_len, u8l_app, Nat.le_refl, Int.le_refl, hx, gB, lk_old gB, gO, lk_old gO, kS, hkl, hkv, hsk, hwc, hwl, q1, q2, q3, hcl, hct, hcs, hcv, hky.symm, hrowA, hrowB, cp0, dp0, zp0, bp0, kp0, lp0, sp0, vp0, xp0, cp1, dp1, zp1, bp1, kp1, lp1, sp1, vp1, xp1, cp2, dp2, zp2, bp2, kp2, lp2, sp2, vp2, xp2]
        refine Thn_n ?_
        refine hK _ _ ?_
        clear hK K
        refine AW.seq_k fun K hK => ?_
        refine AW.seq_k fun K hK => ?_
        refine AW.region (by decide) ?_
        simp only [push_cast, Nat.reduceAdd, Nat.reduceMul, Nat.reduceSub, Nat.reduceLeDiff, Nat.reduceLT, Nat.reduceEqDiff, Nat.reduceBEq, Nat.reduceBNe, Nat.reduceMod, Nat.reduceDiv, Int.reduceLE, Int.reduceLT, Int.reduceToNat, Int.reduceAdd, Int.reduceSub, Int.reduceMul, Int.reduceNeg, Int.reduceEq, Int.reduceBEq, Int.reduceBNe, ↓reduceIte, reduceCtorEq, String.reduceBNe, String.reduceEq, reduceDIte, Nat.reducePow, imp_self, hJ, hj2, hj3, hj4, u8l_len, u8l_app, Nat.le_refl, Int.le_refl, hx, gB, lk_old gB, gO, lk_old gO, kS, hkl, hkv, hsk, hwc, hwl, q1, q2, q3, hcl, hct, hcs, hcv, hky.symm, hrowA, hrowB, cp0, dp0, zp0, bp0, kp0, lp0, sp0, vp0, xp0, cp1, dp1, zp1, bp1, kp1, lp1, sp1, vp1, xp1, cp2, dp2, zp2, bp2, kp2, lp2, sp2, vp2, xp2]
        refine Thn_n ?_
        refine hK _ _ ?_
        clear hK K
        refine AW.cond_f rfl ?_
        refine AW.skip ?_
        refine Thn_n ?_
        refine hK _ _ ?_
        clear hK K
        refine AW.seq_k fun K hK => ?_
        refine AW.seq_k fun K hK => ?_
        refine AW.region (by decide) ?_
        simp only [push_cast, Nat.reduceAdd, Nat.reduceMul, Nat.reduceSub, Nat.reduceLeDiff, Nat.reduceLT, Nat.reduceEqDiff, Nat.reduceBEq, Nat.reduceBNe, Nat.reduceMod, Nat.reduceDiv, Int.reduceLE, Int.reduceLT, Int.reduceToNat, Int.reduceAdd, Int.reduceSub, Int.reduceMul, Int.reduceNeg, Int.reduceEq, Int.reduceBEq, Int.reduceBNe, ↓reduceIte, reduceCtorEq, String.reduceBNe, String.reduceEq, reduceDIte, Nat.reducePow, imp_self, hJ, hj2, hj3, hj4, u8l_len, u8l_app, Nat.le_refl, Int.le_refl, hx, gB, lk_old gB, gO, lk_old gO, kS, hkl, hkv, hsk, hwc, hwl, q1, q2, q3, hcl, hct, hcs, hcv, hky.symm, hrowA, hrowB, cp0, dp0, zp0, bp0, kp0, lp0, sp0, vp0, xp0, cp1, dp1, zp1, bp1, kp1, lp1, sp1, vp1, xp1, cp2, dp2, zp2, bp2, kp2, lp2, sp2, vp2, xp2]
        refine Thn_n ?_
        refine hK _ _ ?_
        clear hK K
        refine AW.block ?_
        refine AW.rounds 4 ?_
        iterate 3
          refine ARounds.succ fun K hK => ?_
          refine AW.seq_k fun K hK => ?_
          refine AW.region (by decide) ?_
          simp only [push_cast, Nat.reduceAdd, Nat.reduceMul, Nat.reduceSub, Nat.reduceLeDiff, Nat.reduceLT, Nat.reduceEqDiff, Nat.reduceBEq, Nat.reduceBNe, Nat.reduceMod, Nat.reduceDiv, Int.reduceLE, Int.reduceLT, Int.reduceToNat, Int.reduceAdd, Int.reduceSub, Int.reduceMul, Int.reduceNeg, Int.reduceEq, Int.reduceBEq, Int.reduceBNe, ↓reduceIte, reduceCtorEq, String.reduceBNe, String.reduceEq, reduceDIte, Nat.reducePow, imp_self, hJ, hj2, hj3, hj4, u8l_len, u8l_app, Nat.le_refl, Int.le_refl, hx, gB, lk_old gB, gO, lk_old gO, kS, hkl, hkv, hsk, hwc, hwl, q1, q2, q3, hcl, hct, hcs, hcv, hky.symm, hrowA, hrowB, cp0, dp0, zp0, bp0, kp0, lp0, sp0, vp0, xp0, cp1, dp1, zp1, bp1, kp1, lp1, sp1, vp1, xp1, cp2, dp2, zp2, bp2, kp2, lp2, sp2, vp2, xp2]
          refine Thn_n ?_
          refine hK _ _ ?_
          clear hK K
          refine AW.seq_k fun K hK => ?_
          refine AW.cond_t rfl ?_
          refine AW.skip ?_
          refine Thn_n ?_
          refine hK _ _ ?_
          clear hK K
          refine AW.seq_k fun K hK => ?_
          refine AW.block ?_
          refine AW.seq_k fun K hK => ?_
          refine AW.region (by decide) ?_
          simp only [push_cast, Nat.reduceAdd, Nat.reduceMul, Nat.reduceSub, Nat.reduceLeDiff, Nat.reduceLT, Nat.reduceEqDiff, Nat.reduceBEq, Nat.reduceBNe, Nat.reduceMod, Nat.reduceDiv, Int.reduceLE, Int.reduceLT, Int.reduceToNat, Int.reduceAdd, Int.reduceSub, Int.reduceMul, Int.reduceNeg, Int.reduceEq, Int.reduceBEq, Int.reduceBNe, ↓reduceIte, reduceCtorEq, String.reduceBNe, String.reduceEq, reduceDIte, Nat.reducePow, imp_self, hJ, hj2, hj3, hj4, u8l_len, u8l_app, Nat.le_refl, Int.le_refl, hx, gB, lk_old gB, gO, lk_old gO, kS, hkl, hkv, hsk, hwc, hwl, q1, q2, q3, hcl, hct, hcs, hcv, hky.symm, hrowA, hrowB, cp0, dp0, zp0, bp0, kp0, lp0, sp0, vp0, xp0, cp1, dp1, zp1, bp1, kp1, lp1, sp1, vp1, xp1, cp2, dp2, zp2, bp2, kp2, lp2, sp2, vp2, xp2]
          refine Thn_n ?_
          refine hK _ _ ?_
          clear hK K
          refine AW.region (by decide) ?_
          simp only [push_cast, Nat.reduceAdd, Nat.reduceMul, Nat.reduceSub, Nat.reduceLeDiff, Nat.reduceLT, Nat.reduceEqDiff, Nat.reduceBEq, Nat.reduceBNe, Nat.reduceMod, Nat.reduceDiv, Int.reduceLE, Int.reduceLT, Int.reduceToNat, Int.reduceAdd, Int.reduceSub, Int.reduceMul, Int.reduceNeg, Int.reduceEq, Int.reduceBEq, Int.reduceBNe, ↓reduceIte, reduceCtorEq, String.reduceBNe, String.reduceEq, reduceDIte, Nat.reducePow, imp_self, hJ, hj2, hj3, hj4, u8l_len, u8l_app, Nat.le_refl, Int.le_refl, hx, gB, lk_old gB, gO, lk_old gO, kS, hkl, hkv, hsk, hwc, hwl, q1, q2, q3, hcl, hct, hcs, hcv, hky.symm, hrowA, hrowB, cp0, dp0, zp0, bp0, kp0, lp0, sp0, vp0, xp0, cp1, dp1, zp1, bp1, kp1, lp1, sp1, vp1, xp1, cp2, dp2, zp2, bp2, kp2, lp2, sp2, vp2, xp2]
          refine InB_n ?_
          refine Thn_n ?_
          refine hK _ _ ?_
          clear hK K
          refine AW.region (by decide) ?_
          simp only [push_cast, Nat.reduceAdd, Nat.reduceMul, Nat.reduceSub, Nat.reduceLeDiff, Nat.reduceLT, Nat.reduceEqDiff, Nat.reduceBEq, Nat.reduceBNe, Nat.reduceMod, Nat.reduceDiv, Int.reduceLE, Int.reduceLT, Int.reduceToNat, Int.reduceAdd, Int.reduceSub, Int.reduceMul, Int.reduceNeg, Int.reduceEq, Int.reduceBEq, Int.reduceBNe, ↓reduceIte, reduceCtorEq, String.reduceBNe, String.reduceEq, reduceDIte, Nat.reducePow, imp_self, hJ, hj2, hj3, hj4, u8l_len, u8l_app, Nat.le_refl, Int.le_refl, hx, gB, lk_old gB, gO, lk_old gO, kS, hkl, hkv, hsk, hwc, hwl, q1, q2, q3, hcl, hct, hcs, hcv, hky.symm, hrowA, hrowB, cp0, dp0, zp0, bp0, kp0, lp0, sp0, vp0, xp0, cp1, dp1, zp1, bp1, kp1, lp1, sp1, vp1, xp1, cp2, dp2, zp2, bp2, kp2, lp2, sp2, vp2, xp2]
          refine Thn_n ?_
          refine hK _ _ ?_
          clear hK K
        refine ARounds.succ fun K hK => ?_
        refine AW.seq_k fun K hK => ?_
        refine AW.region (by decide) ?_
        simp only [push_cast, Nat.reduceAdd, Nat.reduceMul, Nat.reduceSub, Nat.reduceLeDiff, Nat.reduceLT, Nat.reduceEqDiff, Nat.reduceBEq, Nat.reduceBNe, Nat.reduceMod, Nat.reduceDiv, Int.reduceLE, Int.reduceLT, Int.reduceToNat, Int.reduceAdd, Int.reduceSub, Int.reduceMul, Int.reduceNeg, Int.reduceEq, Int.reduceBEq, Int.reduceBNe, ↓reduceIte, reduceCtorEq, String.reduceBNe, String.reduceEq, reduceDIte, Nat.reducePow, imp_self, hJ, hj2, hj3, hj4, u8l_len, u8l_app, Nat.le_refl, Int.le_refl, hx, gB, lk_old gB, gO, lk_old gO, kS, hkl, hkv, hsk, hwc, hwl, q1, q2, q3, hcl, hct, hcs, hcv, hky.symm, hrowA, hrowB, cp0, dp0, zp0, bp0, kp0, lp0, sp0, vp0, xp0, cp1, dp1, zp1, bp1, kp1, lp1, sp1, vp1, xp1, cp2, dp2, zp2, bp2, kp2, lp2, sp2, vp2, xp2]
        refine Thn_n ?_
        refine hK _ _ ?_
        clear hK K
        refine AW.seq_k fun K hK => ?_
        refine AW.cond_f rfl ?_
        refine AW.exit ?_
        refine Thn_e ?_
        clear hK K
        refine Thn_e ?_
        clear hK K
        refine InB_here ?_
        refine Thn_n ?_
        refine hK _ _ ?_
        clear hK K
        refine AW.seq_k fun K hK => ?_
        refine AW.region (by decide) ?_
        simp only [push_cast, Nat.reduceAdd, Nat.reduceMul, Nat.reduceSub, Nat.reduceLeDiff, Nat.reduceLT, Nat.reduceEqDiff, Nat.reduceBEq, Nat.reduceBNe, Nat.reduceMod, Nat.reduceDiv, Int.reduceLE, Int.reduceLT, Int.reduceToNat, Int.reduceAdd, Int.reduceSub, Int.reduceMul, Int.reduceNeg, Int.reduceEq, Int.reduceBEq, Int.reduceBNe, ↓reduceIte, reduceCtorEq, String.reduceBNe, String.reduceEq, reduceDIte, Nat.reducePow, imp_self, hJ, hj2, hj3, hj4, u8l_len, u8l_app, Nat.le_refl, Int.le_refl, hx, gB, lk_old gB, gO, lk_old gO, kS, hkl, hkv, hsk, hwc, hwl, q1, q2, q3, hcl, hct, hcs, hcv, hky.symm, hrowA, hrowB, cp0, dp0, zp0, bp0, kp0, lp0, sp0, vp0, xp0, cp1, dp1, zp1, bp1, kp1, lp1, sp1, vp1, xp1, cp2, dp2, zp2, bp2, kp2, lp2, sp2, vp2, xp2]
        refine CThen.by (key_c 1 ((g : Int) + 1) (M.length + 2) 3 3 (ky J (4 * (g + 1)) ++ (ky J (4 * g) ++ (ky J (4 * g + 1)))) .grow 32 _ (by simp only [push_cast, Nat.reduceAdd, Nat.reduceMul, Nat.reduceSub, Nat.reduceLeDiff, Nat.reduceLT, Nat.reduceEqDiff, Nat.reduceBEq, Nat.reduceBNe, Nat.reduceMod, Nat.reduceDiv, Int.reduceLE, Int.reduceLT, Int.reduceToNat, Int.reduceAdd, Int.reduceSub, Int.reduceMul, Int.reduceNeg, Int.reduceEq, Int.reduceBEq, Int.reduceBNe, ↓reduceIte, reduceCtorEq, String.reduceBNe, String.reduceEq, reduceDIte, Nat.reducePow, u8l_app]) hDl hDo (by decide)) ?_
        simp only [push_cast, Nat.reduceAdd, Nat.reduceMul, Nat.reduceSub, Nat.reduceLeDiff, Nat.reduceLT, Nat.reduceEqDiff, Nat.reduceBEq, Nat.reduceBNe, Nat.reduceMod, Nat.reduceDiv, Int.reduceLE, Int.reduceLT, Int.reduceToNat, Int.reduceAdd, Int.reduceSub, Int.reduceMul, Int.reduceNeg, Int.reduceEq, Int.reduceBEq, Int.reduceBNe, ↓reduceIte, reduceCtorEq, String.reduceBNe, String.reduceEq, reduceDIte, Nat.reducePow, imp_self, hJ, hj2, hj3, hj4, u8l_len, u8l_app, Nat.le_refl, Int.le_refl, hx, gB, lk_old gB, gO, lk_old gO, kS, hkl, hkv, hsk, hwc, hwl, q1, q2, q3, hcl, hct, hcs, hcv, hky.symm, hrowA, hrowB, cp0, dp0, zp0, bp0, kp0, lp0, sp0, vp0, xp0, cp1, dp1, zp1, bp1, kp1, lp1, sp1, vp1, xp1, cp2, dp2, zp2, bp2, kp2, lp2, sp2, vp2, xp2]
        refine Thn_n ?_
        refine hK _ _ ?_
        clear hK K
        refine AW.region (by decide) ?_
        simp only [push_cast, Nat.reduceAdd, Nat.reduceMul, Nat.reduceSub, Nat.reduceLeDiff, Nat.reduceLT, Nat.reduceEqDiff, Nat.reduceBEq, Nat.reduceBNe, Nat.reduceMod, Nat.reduceDiv, Int.reduceLE, Int.reduceLT, Int.reduceToNat, Int.reduceAdd, Int.reduceSub, Int.reduceMul, Int.reduceNeg, Int.reduceEq, Int.reduceBEq, Int.reduceBNe, ↓reduceIte, reduceCtorEq, String.reduceBNe, String.reduceEq, reduceDIte, Nat.reducePow, imp_self, hJ, hj2, hj3, hj4, u8l_len, u8l_app, Nat.le_refl, Int.le_refl, hx, gB, lk_old gB, gO, lk_old gO, kS, hkl, hkv, hsk, hwc, hwl, q1, q2, q3, hcl, hct, hcs, hcv, hky.symm, hrowA, hrowB, cp0, dp0, zp0, bp0, kp0, lp0, sp0, vp0, xp0, cp1, dp1, zp1, bp1, kp1, lp1, sp1, vp1, xp1, cp2, dp2, zp2, bp2, kp2, lp2, sp2, vp2, xp2]
        refine InB_n ?_
        refine Thn_n ?_
        refine hK _ _ ?_
        clear hK K
        refine AW.region (by decide) ?_
        simp only [push_cast, Nat.reduceAdd, Nat.reduceMul, Nat.reduceSub, Nat.reduceLeDiff, Nat.reduceLT, Nat.reduceEqDiff, Nat.reduceBEq, Nat.reduceBNe, Nat.reduceMod, Nat.reduceDiv, Int.reduceLE, Int.reduceLT, Int.reduceToNat, Int.reduceAdd, Int.reduceSub, Int.reduceMul, Int.reduceNeg, Int.reduceEq, Int.reduceBEq, Int.reduceBNe, ↓reduceIte, reduceCtorEq, String.reduceBNe, String.reduceEq, reduceDIte, Nat.reducePow, imp_self, hJ, hj2, hj3, hj4, u8l_len, u8l_app, Nat.le_refl, Int.le_refl, hx, gB, lk_old gB, gO, lk_old gO, kS, hkl, hkv, hsk, hwc, hwl, q1, q2, q3, hcl, hct, hcs, hcv, hky.symm, hrowA, hrowB, cp0, dp0, zp0, bp0, kp0, lp0, sp0, vp0, xp0, cp1, dp1, zp1, bp1, kp1, lp1, sp1, vp1, xp1, cp2, dp2, zp2, bp2, kp2, lp2, sp2, vp2, xp2]
        refine Thn_n ?_
        refine ⟨kn, by omega, by omega, ?_⟩
        try simp only [keepL, setAll, push_cast, Nat.reduceAdd, Nat.reduceMul, Nat.reduceSub, Nat.reduceLeDiff, Nat.reduceLT, Nat.reduceEqDiff, Nat.reduceBEq, Nat.reduceBNe, Nat.reduceMod, Nat.reduceDiv, Int.reduceLE, Int.reduceLT, Int.reduceToNat, Int.reduceAdd, Int.reduceSub, Int.reduceMul, Int.reduceNeg, Int.reduceEq, Int.reduceBEq, Int.reduceBNe, ↓reduceIte, reduceCtorEq, String.reduceBNe, String.reduceEq, reduceDIte, Nat.reducePow, imp_self, hJ, hj2, hj3, hj4, u8l_len, u8l_app, Nat.le_refl, Int.le_refl, hx, gB, lk_old gB, gO, lk_old gO, kS, hkl, hkv, hsk, hwc, hwl, q1, q2, q3, hcl, hct, hcs, hcv, hky.symm, hrowA, hrowB, cp0, dp0, zp0, bp0, kp0, lp0, sp0, vp0, xp0, cp1, dp1, zp1, bp1, kp1, lp1, sp1, vp1, xp1, cp2, dp2, zp2, bp2, kp2, lp2, sp2, vp2, xp2, e6, hki6, hrf6, hki, kM, hrf, e5, hwn, List.append_assoc]
        first
          | exact Weak.to (extra := [_, _, _, _]) (by simp only [Keeps, Tm.get_cons, Nat.reduceEqDiff, ↓reduceIte, if_true, if_false, ite_true, ite_false, true_and, and_true, and_self, reduceCtorEq, e6, hki6, hrf6, hki, kM, hrf, e5, hwn, List.append_assoc]) (by first | rfl | (simp only [List.append_assoc, List.cons_append, List.nil_append]; rfl)) (by first | rfl | (simp [AV.below, CV.below, u8l_below]; done) | (simp [AV.below, CV.below, u8l_below]; omega)) (by have h := works_wf J m RR (n + 1) (n + 1) hwf hwR hwL; simp only [hRR, e6, hki6, hrf6, hki, kM, hrf, hwn, hrowA, hrowB, List.append_assoc, push_cast, Nat.reduceAdd, Nat.reduceMul, Nat.reduceSub, Nat.reduceLeDiff, Nat.reduceLT, Nat.reduceEqDiff, Nat.reduceBEq, Nat.reduceBNe, Nat.reduceMod, Nat.reduceDiv, Int.reduceLE, Int.reduceLT, Int.reduceToNat, Int.reduceAdd, Int.reduceSub, Int.reduceMul, Int.reduceNeg, Int.reduceEq, Int.reduceBEq, Int.reduceBNe, ↓reduceIte, reduceCtorEq, String.reduceBNe, String.reduceEq, reduceDIte, Nat.reducePow] at h ⊢; exact h)
          | exact Weak.to (extra := [_, _, _, _, _]) (by simp only [Keeps, Tm.get_cons, Nat.reduceEqDiff, ↓reduceIte, if_true, if_false, ite_true, ite_false, true_and, and_true, and_self, reduceCtorEq, e6, hki6, hrf6, hki, kM, hrf, e5, hwn, List.append_assoc]) (by first | rfl | (simp only [List.append_assoc, List.cons_append, List.nil_append]; rfl)) (by first | rfl | (simp [AV.below, CV.below, u8l_below]; done) | (simp [AV.below, CV.below, u8l_below]; omega)) (by have h := works_wf J m RR (n + 1) (n + 1) hwf hwR hwL; simp only [hRR, e6, hki6, hrf6, hki, kM, hrf, hwn, hrowA, hrowB, List.append_assoc, push_cast, Nat.reduceAdd, Nat.reduceMul, Nat.reduceSub, Nat.reduceLeDiff, Nat.reduceLT, Nat.reduceEqDiff, Nat.reduceBEq, Nat.reduceBNe, Nat.reduceMod, Nat.reduceDiv, Int.reduceLE, Int.reduceLT, Int.reduceToNat, Int.reduceAdd, Int.reduceSub, Int.reduceMul, Int.reduceNeg, Int.reduceEq, Int.reduceBEq, Int.reduceBNe, ↓reduceIte, reduceCtorEq, String.reduceBNe, String.reduceEq, reduceDIte, Nat.reducePow] at h ⊢; exact h)
          | exact Weak.to (extra := [_, _, _, _, _, _]) (by simp only [Keeps, Tm.get_cons, Nat.reduceEqDiff, ↓reduceIte, if_true, if_false, ite_true, ite_false, true_and, and_true, and_self, reduceCtorEq, e6, hki6, hrf6, hki, kM, hrf, e5, hwn, List.append_assoc]) (by first | rfl | (simp only [List.append_assoc, List.cons_append, List.nil_append]; rfl)) (by first | rfl | (simp [AV.below, CV.below, u8l_below]; done) | (simp [AV.below, CV.below, u8l_below]; omega)) (by have h := works_wf J m RR (n + 1) (n + 1) hwf hwR hwL; simp only [hRR, e6, hki6, hrf6, hki, kM, hrf, hwn, hrowA, hrowB, List.append_assoc, push_cast, Nat.reduceAdd, Nat.reduceMul, Nat.reduceSub, Nat.reduceLeDiff, Nat.reduceLT, Nat.reduceEqDiff, Nat.reduceBEq, Nat.reduceBNe, Nat.reduceMod, Nat.reduceDiv, Int.reduceLE, Int.reduceLT, Int.reduceToNat, Int.reduceAdd, Int.reduceSub, Int.reduceMul, Int.reduceNeg, Int.reduceEq, Int.reduceBEq, Int.reduceBNe, ↓reduceIte, reduceCtorEq, String.reduceBNe, String.reduceEq, reduceDIte, Nat.reducePow] at h ⊢; exact h)
      · have hm0 : n % 4 = 2 := by omega
        have hd0 : n / 4 = f := by omega
        rw [hm0, hd0] at hky hwc0
        have hnn : n = (4 * f + 2) := by omega
        have hndl : ndL n = [4 * f, 4 * f + 1] := by rw [hnn]; exact nd2 f
        have hrowA : nl (ndL (4 * f + 2)) = [.int .i64 ((4 * f : Nat) : Int), .int .i64 ((4 * f + 1 : Nat) : Int)] := by rw [nd2 f]; rfl
        have hrowB : nl (ndL n) = [.int .i64 ((4 * f : Nat) : Int), .int .i64 ((4 * f + 1 : Nat) : Int)] := by rw [hndl]; rfl
        simp only [push_cast, Nat.reduceAdd, Nat.reduceMul, Nat.reduceSub, Nat.reduceLeDiff, Nat.reduceLT, Nat.reduceEqDiff, Nat.reduceBEq, Nat.reduceBNe, Nat.reduceMod, Nat.reduceDiv, Int.reduceLE, Int.reduceLT, Int.reduceToNat, Int.reduceAdd, Int.reduceSub, Int.reduceMul, Int.reduceNeg, Int.reduceEq, Int.reduceBEq, Int.reduceBNe, ↓reduceIte, reduceCtorEq, String.reduceBNe, String.reduceEq, reduceDIte, Nat.reducePow] at hrowA hrowB
        have hnd : ndC (m.length + 2) n = .sl M.length 0 0 2 := by
          unfold ndC rwN; rw [hm0, hd0, hndl, if_neg (by decide), hMl]
          congr 1 <;> omega
        rw [if_neg (by decide)] at hky hrf
        rw [hndl] at hky
        simp only [List.flatMap_cons, List.flatMap_nil, List.append_nil] at hky
        have hDl : (ky J (4 * f) ++ (ky J (4 * f + 1))).length = 32 * 2 := by simp only [List.length_append, ky_len]
        have hDo : U8ok (ky J (4 * f) ++ (ky J (4 * f + 1))) := (ky_ok _ _).app (ky_ok _ _)
        simp only [push_cast, Nat.reduceAdd, Nat.reduceMul, Nat.reduceSub, Nat.reduceLeDiff, Nat.reduceLT, Nat.reduceEqDiff, Nat.reduceBEq, Nat.reduceBNe, Nat.reduceMod, Nat.reduceDiv, Int.reduceLE, Int.reduceLT, Int.reduceToNat, Int.reduceAdd, Int.reduceSub, Int.reduceMul, Int.reduceNeg, Int.reduceEq, Int.reduceBEq, Int.reduceBNe, ↓reduceIte, reduceCtorEq, String.reduceBNe, String.reduceEq, reduceDIte, Nat.reducePow] at hky
        have hki : ((kn : Nat) : Int) = 3 := by omega
        have hwc : CV.int .i64 2 :: .int .i64 (f : Int) :: (u8l (ky J n) ++ [.sl M.length 0 0 2]) = wC J (m.length + 2) n := by rw [hwc0, hnd]; rfl
        have hsk := setL_key (.int .i64 2) (.int .i64 (f : Int)) (.sl M.length 0 0 2) (ky J n) hkl
        dsimp only at hsk
        have hq2 : ∀ l : List CV, l = l := fun _ => rfl
        have cp0 : (0 : Int) ≤ 4 * (f : Int) := by omega
        have dp0 : 4 * (f : Int) < (n : Int) := by omega
        have zp0 : (4 * (f : Int)).toNat = 4 * f := by omega
        have bp0 : (4 * f) * 35 + 34 ≤ n * 35 := by omega
        have kp0 := wR_key J (m.length + 2) n (4 * f) (by omega)
        rw [show 35 * (4 * f) = (4 * f) * 35 from Nat.mul_comm _ _] at kp0
        have lp0 := ky_len J (4 * f)
        have op0 := ky_ok J (4 * f)
        have sp0 : setL [.int .u8 0, .int .u8 0, .int .u8 0, .int .u8 0, .int .u8 0, .int .u8 0, .int .u8 0, .int .u8 0, .int .u8 0, .int .u8 0, .int .u8 0, .int .u8 0, .int .u8 0, .int .u8 0, .int .u8 0, .int .u8 0, .int .u8 0, .int .u8 0, .int .u8 0, .int .u8 0, .int .u8 0, .int .u8 0, .int .u8 0, .int .u8 0, .int .u8 0, .int .u8 0, .int .u8 0, .int .u8 0, .int .u8 0, .int .u8 0, .int .u8 0, .int .u8 0] 0 (u8l (ky J (4 * f))) = u8l (ky J (4 * f)) := setL_full (by rw [u8l_len, lp0]; rfl)
        have vp0 := u8l_vals (ky J (4 * f))
        have xp0 : (u8l (ky J (4 * f))).take 32 = u8l (ky J (4 * f)) := List.take_of_length_le (by rw [u8l_len, lp0]; exact Nat.le_refl _)
        try simp only [push_cast, Nat.reduceAdd, Nat.reduceMul, Nat.reduceSub, Nat.reduceLeDiff, Nat.reduceLT, Nat.reduceEqDiff, Nat.reduceBEq, Nat.reduceBNe, Nat.reduceMod, Nat.reduceDiv, Int.reduceLE, Int.reduceLT, Int.reduceToNat, Int.reduceAdd, Int.reduceSub, Int.reduceMul, Int.reduceNeg, Int.reduceEq, Int.reduceBEq, Int.reduceBNe, ↓reduceIte, reduceCtorEq, String.reduceBNe, String.reduceEq, reduceDIte, Nat.reducePow] at bp0
        try simp only [push_cast, Nat.reduceAdd, Nat.reduceMul, Nat.reduceSub, Nat.reduceLeDiff, Nat.reduceLT, Nat.reduceEqDiff, Nat.reduceBEq, Nat.reduceBNe, Nat.reduceMod, Nat.reduceDiv, Int.reduceLE, Int.reduceLT, Int.reduceToNat, Int.reduceAdd, Int.reduceSub, Int.reduceMul, Int.reduceNeg, Int.reduceEq, Int.reduceBEq, Int.reduceBNe, ↓reduceIte, reduceCtorEq, String.reduceBNe, String.reduceEq, reduceDIte, Nat.reducePow] at kp0
        have cp1 : (0 : Int) ≤ 4 * (f : Int) + 1 := by omega
        have dp1 : 4 * (f : Int) + 1 < (n : Int) := by omega
        have zp1 : (4 * (f : Int) + 1).toNat = 4 * f + 1 := by omega
        have bp1 : (4 * f + 1) * 35 + 34 ≤ n * 35 := by omega
        have kp1 := wR_key J (m.length + 2) n (4 * f + 1) (by omega)
        rw [show 35 * (4 * f + 1) = (4 * f + 1) * 35 from Nat.mul_comm _ _] at kp1
        have lp1 := ky_len J (4 * f + 1)
        have op1 := ky_ok J (4 * f + 1)
        have sp1 : setL [.int .u8 0, .int .u8 0, .int .u8 0, .int .u8 0, .int .u8 0, .int .u8 0, .int .u8 0, .int .u8 0, .int .u8 0, .int .u8 0, .int .u8 0, .int .u8 0, .int .u8 0, .int .u8 0, .int .u8 0, .int .u8 0, .int .u8 0, .int .u8 0, .int .u8 0, .int .u8 0, .int .u8 0, .int .u8 0, .int .u8 0, .int .u8 0, .int .u8 0, .int .u8 0, .int .u8 0, .int .u8 0, .int .u8 0, .int .u8 0, .int .u8 0, .int .u8 0] 0 (u8l (ky J (4 * f + 1))) = u8l (ky J (4 * f + 1)) := setL_full (by rw [u8l_len, lp1]; rfl)
        have vp1 := u8l_vals (ky J (4 * f + 1))
        have xp1 : (u8l (ky J (4 * f + 1))).take 32 = u8l (ky J (4 * f + 1)) := List.take_of_length_le (by rw [u8l_len, lp1]; exact Nat.le_refl _)
        try simp only [push_cast, Nat.reduceAdd, Nat.reduceMul, Nat.reduceSub, Nat.reduceLeDiff, Nat.reduceLT, Nat.reduceEqDiff, Nat.reduceBEq, Nat.reduceBNe, Nat.reduceMod, Nat.reduceDiv, Int.reduceLE, Int.reduceLT, Int.reduceToNat, Int.reduceAdd, Int.reduceSub, Int.reduceMul, Int.reduceNeg, Int.reduceEq, Int.reduceBEq, Int.reduceBNe, ↓reduceIte, reduceCtorEq, String.reduceBNe, String.reduceEq, reduceDIte, Nat.reducePow] at bp1
        try simp only [push_cast, Nat.reduceAdd, Nat.reduceMul, Nat.reduceSub, Nat.reduceLeDiff, Nat.reduceLT, Nat.reduceEqDiff, Nat.reduceBEq, Nat.reduceBNe, Nat.reduceMod, Nat.reduceDiv, Int.reduceLE, Int.reduceLT, Int.reduceToNat, Int.reduceAdd, Int.reduceSub, Int.reduceMul, Int.reduceNeg, Int.reduceEq, Int.reduceBEq, Int.reduceBNe, ↓reduceIte, reduceCtorEq, String.reduceBNe, String.reduceEq, reduceDIte, Nat.reducePow] at kp1
        refine AW.region (by decide) ?_
        simp only [push_cast, Nat.reduceAdd, Nat.reduceMul, Nat.reduceSub, Nat.reduceLeDiff, Nat.reduceLT, Nat.reduceEqDiff, Nat.reduceBEq, Nat.reduceBNe, Nat.reduceMod, Nat.reduceDiv, Int.reduceLE, Int.reduceLT, Int.reduceToNat, Int.reduceAdd, Int.reduceSub, Int.reduceMul, Int.reduceNeg, Int.reduceEq, Int.reduceBEq, Int.reduceBNe, ↓reduceIte, reduceCtorEq, String.reduceBNe, String.reduceEq, reduceDIte, Nat.reducePow, imp_self, hJ, hj2, hj3, hj4, u8l_len, u8l_app, Nat.le_refl, Int.le_refl, hx, gB, lk_old gB, gO, lk_old gO, kS, hkl, hkv, hsk, hwc, hwl, q1, q2, q3, hcl, hct, hcs, hcv, hky.symm, hrowA, hrowB, cp0, dp0, zp0, bp0, kp0, lp0, sp0, vp0, xp0, cp1, dp1, zp1, bp1, kp1, lp1, sp1, vp1, xp1]
        refine CThen.by (needs2_c f _ (by omega)) ?_
        simp only [push_cast, Nat.reduceAdd, Nat.reduceMul, Nat.reduceSub, Nat.reduceLeDiff, Nat.reduceLT, Nat.reduceEqDiff, Nat.reduceBEq, Nat.reduceBNe, Nat.reduceMod, Nat.reduceDiv, Int.reduceLE, Int.reduceLT, Int.reduceToNat, Int.reduceAdd, Int.reduceSub, Int.reduceMul, Int.reduceNeg, Int.reduceEq, Int.reduceBEq, Int.reduceBNe, ↓reduceIte, reduceCtorEq, String.reduceBNe, String.reduceEq, reduceDIte, Nat.reducePow, imp_self, hJ, hj2, hj3, hj4, u8l_len, u8l_app, Nat.le_refl, Int.le_refl, hx, gB, lk_old gB, gO, lk_old gO, kS, hkl, hkv, hsk, hwc, hwl, q1, q2, q3, hcl, hct, hcs, hcv, hky.symm, hrowA, hrowB, cp0, dp0, zp0, bp0, kp0, lp0, sp0, vp0, xp0, cp1, dp1, zp1, bp1, kp1, lp1, sp1, vp1, xp1]
        refine Thn_n ?_
        refine hK _ _ ?_
        clear hK K
        refine AW.seq_k fun K hK => ?_
        refine AW.region (by decide) ?_
        simp only [push_cast, Nat.reduceAdd, Nat.reduceMul, Nat.reduceSub, Nat.reduceLeDiff, Nat.reduceLT, Nat.reduceEqDiff, Nat.reduceBEq, Nat.reduceBNe, Nat.reduceMod, Nat.reduceDiv, Int.reduceLE, Int.reduceLT, Int.reduceToNat, Int.reduceAdd, Int.reduceSub, Int.reduceMul, Int.reduceNeg, Int.reduceEq, Int.reduceBEq, Int.reduceBNe, ↓reduceIte, reduceCtorEq, String.reduceBNe, String.reduceEq, reduceDIte, Nat.reducePow, imp_self, hJ, hj2, hj3, hj4, u8l_len, u8l_app, Nat.le_refl, Int.le_refl, hx, gB, lk_old gB, gO, lk_old gO, kS, hkl, hkv, hsk, hwc, hwl, q1, q2, q3, hcl, hct, hcs, hcv, hky.symm, hrowA, hrowB, cp0, dp0, zp0, bp0, kp0, lp0, sp0, vp0, xp0, cp1, dp1, zp1, bp1, kp1, lp1, sp1, vp1, xp1]
        refine Thn_n ?_
        refine hK _ _ ?_
        clear hK K
        refine AW.seq_k fun K hK => ?_
        refine AW.seq_k fun K hK => ?_
        refine AW.region (by decide) ?_
        simp only [push_cast, Nat.reduceAdd, Nat.reduceMul, Nat.reduceSub, Nat.reduceLeDiff, Nat.reduceLT, Nat.reduceEqDiff, Nat.reduceBEq, Nat.reduceBNe, Nat.reduceMod, Nat.reduceDiv, Int.reduceLE, Int.reduceLT, Int.reduceToNat, Int.reduceAdd, Int.reduceSub, Int.reduceMul, Int.reduceNeg, Int.reduceEq, Int.reduceBEq, Int.reduceBNe, ↓reduceIte, reduceCtorEq, String.reduceBNe, String.reduceEq, reduceDIte, Nat.reducePow, imp_self, hJ, hj2, hj3, hj4, u8l_len, u8l_app, Nat.le_refl, Int.le_refl, hx, gB, lk_old gB, gO, lk_old gO, kS, hkl, hkv, hsk, hwc, hwl, q1, q2, q3, hcl, hct, hcs, hcv, hky.symm, hrowA, hrowB, cp0, dp0, zp0, bp0, kp0, lp0, sp0, vp0, xp0, cp1, dp1, zp1, bp1, kp1, lp1, sp1, vp1, xp1]
        refine Thn_n ?_
        refine hK _ _ ?_
        clear hK K
        refine AW.cond_f rfl ?_
        refine AW.skip ?_
        refine Thn_n ?_
        refine hK _ _ ?_
        clear hK K
        refine AW.seq_k fun K hK => ?_
        refine AW.seq_k fun K hK => ?_
        refine AW.region (by decide) ?_
        simp only [push_cast, Nat.reduceAdd, Nat.reduceMul, Nat.reduceSub, Nat.reduceLeDiff, Nat.reduceLT, Nat.reduceEqDiff, Nat.reduceBEq, Nat.reduceBNe, Nat.reduceMod, Nat.reduceDiv, Int.reduceLE, Int.reduceLT, Int.reduceToNat, Int.reduceAdd, Int.reduceSub, Int.reduceMul, Int.reduceNeg, Int.reduceEq, Int.reduceBEq, Int.reduceBNe, ↓reduceIte, reduceCtorEq, String.reduceBNe, String.reduceEq, reduceDIte, Nat.reducePow, imp_self, hJ, hj2, hj3, hj4, u8l_len, u8l_app, Nat.le_refl, Int.le_refl, hx, gB, lk_old gB, gO, lk_old gO, kS, hkl, hkv, hsk, hwc, hwl, q1, q2, q3, hcl, hct, hcs, hcv, hky.symm, hrowA, hrowB, cp0, dp0, zp0, bp0, kp0, lp0, sp0, vp0, xp0, cp1, dp1, zp1, bp1, kp1, lp1, sp1, vp1, xp1]
        refine Thn_n ?_
        refine hK _ _ ?_
        clear hK K
        refine AW.block ?_
        refine AW.rounds 3 ?_
        iterate 2
          refine ARounds.succ fun K hK => ?_
          refine AW.seq_k fun K hK => ?_
          refine AW.region (by decide) ?_
          simp only [push_cast, Nat.reduceAdd, Nat.reduceMul, Nat.reduceSub, Nat.reduceLeDiff, Nat.reduceLT, Nat.reduceEqDiff, Nat.reduceBEq, Nat.reduceBNe, Nat.reduceMod, Nat.reduceDiv, Int.reduceLE, Int.reduceLT, Int.reduceToNat, Int.reduceAdd, Int.reduceSub, Int.reduceMul, Int.reduceNeg, Int.reduceEq, Int.reduceBEq, Int.reduceBNe, ↓reduceIte, reduceCtorEq, String.reduceBNe, String.reduceEq, reduceDIte, Nat.reducePow, imp_self, hJ, hj2, hj3, hj4, u8l_len, u8l_app, Nat.le_refl, Int.le_refl, hx, gB, lk_old gB, gO, lk_old gO, kS, hkl, hkv, hsk, hwc, hwl, q1, q2, q3, hcl, hct, hcs, hcv, hky.symm, hrowA, hrowB, cp0, dp0, zp0, bp0, kp0, lp0, sp0, vp0, xp0, cp1, dp1, zp1, bp1, kp1, lp1, sp1, vp1, xp1]
          refine Thn_n ?_
          refine hK _ _ ?_
          clear hK K
          refine AW.seq_k fun K hK => ?_
          refine AW.cond_t rfl ?_
          refine AW.skip ?_
          refine Thn_n ?_
          refine hK _ _ ?_
          clear hK K
          refine AW.seq_k fun K hK => ?_
          refine AW.block ?_
          refine AW.seq_k fun K hK => ?_
          refine AW.region (by decide) ?_
          simp only [push_cast, Nat.reduceAdd, Nat.reduceMul, Nat.reduceSub, Nat.reduceLeDiff, Nat.reduceLT, Nat.reduceEqDiff, Nat.reduceBEq, Nat.reduceBNe, Nat.reduceMod, Nat.reduceDiv, Int.reduceLE, Int.reduceLT, Int.reduceToNat, Int.reduceAdd, Int.reduceSub, Int.reduceMul, Int.reduceNeg, Int.reduceEq, Int.reduceBEq, Int.reduceBNe, ↓reduceIte, reduceCtorEq, String.reduceBNe, String.reduceEq, reduceDIte, Nat.reducePow, imp_self, hJ, hj2, hj3, hj4, u8l_len, u8l_app, Nat.le_refl, Int.le_refl, hx, gB, lk_old gB, gO, lk_old gO, kS, hkl, hkv, hsk, hwc, hwl, q1, q2, q3, hcl, hct, hcs, hcv, hky.symm, hrowA, hrowB, cp0, dp0, zp0, bp0, kp0, lp0, sp0, vp0, xp0, cp1, dp1, zp1, bp1, kp1, lp1, sp1, vp1, xp1]
          refine Thn_n ?_
          refine hK _ _ ?_
          clear hK K
          refine AW.region (by decide) ?_
          simp only [push_cast, Nat.reduceAdd, Nat.reduceMul, Nat.reduceSub, Nat.reduceLeDiff, Nat.reduceLT, Nat.reduceEqDiff, Nat.reduceBEq, Nat.reduceBNe, Nat.reduceMod, Nat.reduceDiv, Int.reduceLE, Int.reduceLT, Int.reduceToNat, Int.reduceAdd, Int.reduceSub, Int.reduceMul, Int.reduceNeg, Int.reduceEq, Int.reduceBEq, Int.reduceBNe, ↓reduceIte, reduceCtorEq, String.reduceBNe, String.reduceEq, reduceDIte, Nat.reducePow, imp_self, hJ, hj2, hj3, hj4, u8l_len, u8l_app, Nat.le_refl, Int.le_refl, hx, gB, lk_old gB, gO, lk_old gO, kS, hkl, hkv, hsk, hwc, hwl, q1, q2, q3, hcl, hct, hcs, hcv, hky.symm, hrowA, hrowB, cp0, dp0, zp0, bp0, kp0, lp0, sp0, vp0, xp0, cp1, dp1, zp1, bp1, kp1, lp1, sp1, vp1, xp1]
          refine InB_n ?_
          refine Thn_n ?_
          refine hK _ _ ?_
          clear hK K
          refine AW.region (by decide) ?_
          simp only [push_cast, Nat.reduceAdd, Nat.reduceMul, Nat.reduceSub, Nat.reduceLeDiff, Nat.reduceLT, Nat.reduceEqDiff, Nat.reduceBEq, Nat.reduceBNe, Nat.reduceMod, Nat.reduceDiv, Int.reduceLE, Int.reduceLT, Int.reduceToNat, Int.reduceAdd, Int.reduceSub, Int.reduceMul, Int.reduceNeg, Int.reduceEq, Int.reduceBEq, Int.reduceBNe, ↓reduceIte, reduceCtorEq, String.reduceBNe, String.reduceEq, reduceDIte, Nat.reducePow, imp_self, hJ, hj2, hj3, hj4, u8l_len, u8l_app, Nat.le_refl, Int.le_refl, hx, gB, lk_old gB, gO, lk_old gO, kS, hkl, hkv, hsk, hwc, hwl, q1, q2, q3, hcl, hct, hcs, hcv, hky.symm, hrowA, hrowB, cp0, dp0, zp0, bp0, kp0, lp0, sp0, vp0, xp0, cp1, dp1, zp1, bp1, kp1, lp1, sp1, vp1, xp1]
          refine Thn_n ?_
          refine hK _ _ ?_
          clear hK K
        refine ARounds.succ fun K hK => ?_
        refine AW.seq_k fun K hK => ?_
        refine AW.region (by decide) ?_
        simp only [push_cast, Nat.reduceAdd, Nat.reduceMul, Nat.reduceSub, Nat.reduceLeDiff, Nat.reduceLT, Nat.reduceEqDiff, Nat.reduceBEq, Nat.reduceBNe, Nat.reduceMod, Nat.reduceDiv, Int.reduceLE, Int.reduceLT, Int.reduceToNat, Int.reduceAdd, Int.reduceSub, Int.reduceMul, Int.reduceNeg, Int.reduceEq, Int.reduceBEq, Int.reduceBNe, ↓reduceIte, reduceCtorEq, String.reduceBNe, String.reduceEq, reduceDIte, Nat.reducePow, imp_self, hJ, hj2, hj3, hj4, u8l_len, u8l_app, Nat.le_refl, Int.le_refl, hx, gB, lk_old gB, gO, lk_old gO, kS, hkl, hkv, hsk, hwc, hwl, q1, q2, q3, hcl, hct, hcs, hcv, hky.symm, hrowA, hrowB, cp0, dp0, zp0, bp0, kp0, lp0, sp0, vp0, xp0, cp1, dp1, zp1, bp1, kp1, lp1, sp1, vp1, xp1]
        refine Thn_n ?_
        refine hK _ _ ?_
        clear hK K
        refine AW.seq_k fun K hK => ?_
        refine AW.cond_f rfl ?_
        refine AW.exit ?_
        refine Thn_e ?_
        clear hK K
        refine Thn_e ?_
        clear hK K
        refine InB_here ?_
        refine Thn_n ?_
        refine hK _ _ ?_
        clear hK K
        refine AW.seq_k fun K hK => ?_
        refine AW.region (by decide) ?_
        simp only [push_cast, Nat.reduceAdd, Nat.reduceMul, Nat.reduceSub, Nat.reduceLeDiff, Nat.reduceLT, Nat.reduceEqDiff, Nat.reduceBEq, Nat.reduceBNe, Nat.reduceMod, Nat.reduceDiv, Int.reduceLE, Int.reduceLT, Int.reduceToNat, Int.reduceAdd, Int.reduceSub, Int.reduceMul, Int.reduceNeg, Int.reduceEq, Int.reduceBEq, Int.reduceBNe, ↓reduceIte, reduceCtorEq, String.reduceBNe, String.reduceEq, reduceDIte, Nat.reducePow, imp_self, hJ, hj2, hj3, hj4, u8l_len, u8l_app, Nat.le_refl, Int.le_refl, hx, gB, lk_old gB, gO, lk_old gO, kS, hkl, hkv, hsk, hwc, hwl, q1, q2, q3, hcl, hct, hcs, hcv, hky.symm, hrowA, hrowB, cp0, dp0, zp0, bp0, kp0, lp0, sp0, vp0, xp0, cp1, dp1, zp1, bp1, kp1, lp1, sp1, vp1, xp1]
        refine CThen.by (key_c 2 (f : Int) (M.length + 2) 2 2 (ky J (4 * f) ++ (ky J (4 * f + 1))) .grow 32 _ (by simp only [push_cast, Nat.reduceAdd, Nat.reduceMul, Nat.reduceSub, Nat.reduceLeDiff, Nat.reduceLT, Nat.reduceEqDiff, Nat.reduceBEq, Nat.reduceBNe, Nat.reduceMod, Nat.reduceDiv, Int.reduceLE, Int.reduceLT, Int.reduceToNat, Int.reduceAdd, Int.reduceSub, Int.reduceMul, Int.reduceNeg, Int.reduceEq, Int.reduceBEq, Int.reduceBNe, ↓reduceIte, reduceCtorEq, String.reduceBNe, String.reduceEq, reduceDIte, Nat.reducePow, u8l_app]) hDl hDo (by decide)) ?_
        simp only [push_cast, Nat.reduceAdd, Nat.reduceMul, Nat.reduceSub, Nat.reduceLeDiff, Nat.reduceLT, Nat.reduceEqDiff, Nat.reduceBEq, Nat.reduceBNe, Nat.reduceMod, Nat.reduceDiv, Int.reduceLE, Int.reduceLT, Int.reduceToNat, Int.reduceAdd, Int.reduceSub, Int.reduceMul, Int.reduceNeg, Int.reduceEq, Int.reduceBEq, Int.reduceBNe, ↓reduceIte, reduceCtorEq, String.reduceBNe, String.reduceEq, reduceDIte, Nat.reducePow, imp_self, hJ, hj2, hj3, hj4, u8l_len, u8l_app, Nat.le_refl, Int.le_refl, hx, gB, lk_old gB, gO, lk_old gO, kS, hkl, hkv, hsk, hwc, hwl, q1, q2, q3, hcl, hct, hcs, hcv, hky.symm, hrowA, hrowB, cp0, dp0, zp0, bp0, kp0, lp0, sp0, vp0, xp0, cp1, dp1, zp1, bp1, kp1, lp1, sp1, vp1, xp1]
        refine Thn_n ?_
        refine hK _ _ ?_
        clear hK K
        refine AW.region (by decide) ?_
        simp only [push_cast, Nat.reduceAdd, Nat.reduceMul, Nat.reduceSub, Nat.reduceLeDiff, Nat.reduceLT, Nat.reduceEqDiff, Nat.reduceBEq, Nat.reduceBNe, Nat.reduceMod, Nat.reduceDiv, Int.reduceLE, Int.reduceLT, Int.reduceToNat, Int.reduceAdd, Int.reduceSub, Int.reduceMul, Int.reduceNeg, Int.reduceEq, Int.reduceBEq, Int.reduceBNe, ↓reduceIte, reduceCtorEq, String.reduceBNe, String.reduceEq, reduceDIte, Nat.reducePow, imp_self, hJ, hj2, hj3, hj4, u8l_len, u8l_app, Nat.le_refl, Int.le_refl, hx, gB, lk_old gB, gO, lk_old gO, kS, hkl, hkv, hsk, hwc, hwl, q1, q2, q3, hcl, hct, hcs, hcv, hky.symm, hrowA, hrowB, cp0, dp0, zp0, bp0, kp0, lp0, sp0, vp0, xp0, cp1, dp1, zp1, bp1, kp1, lp1, sp1, vp1, xp1]
        refine InB_n ?_
        refine Thn_n ?_
        refine hK _ _ ?_
        clear hK K
        refine AW.region (by decide) ?_
        simp only [push_cast, Nat.reduceAdd, Nat.reduceMul, Nat.reduceSub, Nat.reduceLeDiff, Nat.reduceLT, Nat.reduceEqDiff, Nat.reduceBEq, Nat.reduceBNe, Nat.reduceMod, Nat.reduceDiv, Int.reduceLE, Int.reduceLT, Int.reduceToNat, Int.reduceAdd, Int.reduceSub, Int.reduceMul, Int.reduceNeg, Int.reduceEq, Int.reduceBEq, Int.reduceBNe, ↓reduceIte, reduceCtorEq, String.reduceBNe, String.reduceEq, reduceDIte, Nat.reducePow, imp_self, hJ, hj2, hj3, hj4, u8l_len, u8l_app, Nat.le_refl, Int.le_refl, hx, gB, lk_old gB, gO, lk_old gO, kS, hkl, hkv, hsk, hwc, hwl, q1, q2, q3, hcl, hct, hcs, hcv, hky.symm, hrowA, hrowB, cp0, dp0, zp0, bp0, kp0, lp0, sp0, vp0, xp0, cp1, dp1, zp1, bp1, kp1, lp1, sp1, vp1, xp1]
        refine Thn_n ?_
        refine ⟨kn, by omega, by omega, ?_⟩
        try simp only [keepL, setAll, push_cast, Nat.reduceAdd, Nat.reduceMul, Nat.reduceSub, Nat.reduceLeDiff, Nat.reduceLT, Nat.reduceEqDiff, Nat.reduceBEq, Nat.reduceBNe, Nat.reduceMod, Nat.reduceDiv, Int.reduceLE, Int.reduceLT, Int.reduceToNat, Int.reduceAdd, Int.reduceSub, Int.reduceMul, Int.reduceNeg, Int.reduceEq, Int.reduceBEq, Int.reduceBNe, ↓reduceIte, reduceCtorEq, String.reduceBNe, String.reduceEq, reduceDIte, Nat.reducePow, imp_self, hJ, hj2, hj3, hj4, u8l_len, u8l_app, Nat.le_refl, Int.le_refl, hx, gB, lk_old gB, gO, lk_old gO, kS, hkl, hkv, hsk, hwc, hwl, q1, q2, q3, hcl, hct, hcs, hcv, hky.symm, hrowA, hrowB, cp0, dp0, zp0, bp0, kp0, lp0, sp0, vp0, xp0, cp1, dp1, zp1, bp1, kp1, lp1, sp1, vp1, xp1, e6, hki6, hrf6, hki, kM, hrf, e5, hwn, List.append_assoc]
        first
          | exact Weak.to (extra := [_, _, _, _]) (by simp only [Keeps, Tm.get_cons, Nat.reduceEqDiff, ↓reduceIte, if_true, if_false, ite_true, ite_false, true_and, and_true, and_self, reduceCtorEq, e6, hki6, hrf6, hki, kM, hrf, e5, hwn, List.append_assoc]) (by first | rfl | (simp only [List.append_assoc, List.cons_append, List.nil_append]; rfl)) (by first | rfl | (simp [AV.below, CV.below, u8l_below]; done) | (simp [AV.below, CV.below, u8l_below]; omega)) (by have h := works_wf J m RR (n + 1) (n + 1) hwf hwR hwL; simp only [hRR, e6, hki6, hrf6, hki, kM, hrf, hwn, hrowA, hrowB, List.append_assoc, push_cast, Nat.reduceAdd, Nat.reduceMul, Nat.reduceSub, Nat.reduceLeDiff, Nat.reduceLT, Nat.reduceEqDiff, Nat.reduceBEq, Nat.reduceBNe, Nat.reduceMod, Nat.reduceDiv, Int.reduceLE, Int.reduceLT, Int.reduceToNat, Int.reduceAdd, Int.reduceSub, Int.reduceMul, Int.reduceNeg, Int.reduceEq, Int.reduceBEq, Int.reduceBNe, ↓reduceIte, reduceCtorEq, String.reduceBNe, String.reduceEq, reduceDIte, Nat.reducePow] at h ⊢; exact h)
          | exact Weak.to (extra := [_, _, _, _, _]) (by simp only [Keeps, Tm.get_cons, Nat.reduceEqDiff, ↓reduceIte, if_true, if_false, ite_true, ite_false, true_and, and_true, and_self, reduceCtorEq, e6, hki6, hrf6, hki, kM, hrf, e5, hwn, List.append_assoc]) (by first | rfl | (simp only [List.append_assoc, List.cons_append, List.nil_append]; rfl)) (by first | rfl | (simp [AV.below, CV.below, u8l_below]; done) | (simp [AV.below, CV.below, u8l_below]; omega)) (by have h := works_wf J m RR (n + 1) (n + 1) hwf hwR hwL; simp only [hRR, e6, hki6, hrf6, hki, kM, hrf, hwn, hrowA, hrowB, List.append_assoc, push_cast, Nat.reduceAdd, Nat.reduceMul, Nat.reduceSub, Nat.reduceLeDiff, Nat.reduceLT, Nat.reduceEqDiff, Nat.reduceBEq, Nat.reduceBNe, Nat.reduceMod, Nat.reduceDiv, Int.reduceLE, Int.reduceLT, Int.reduceToNat, Int.reduceAdd, Int.reduceSub, Int.reduceMul, Int.reduceNeg, Int.reduceEq, Int.reduceBEq, Int.reduceBNe, ↓reduceIte, reduceCtorEq, String.reduceBNe, String.reduceEq, reduceDIte, Nat.reducePow] at h ⊢; exact h)
          | exact Weak.to (extra := [_, _, _, _, _, _]) (by simp only [Keeps, Tm.get_cons, Nat.reduceEqDiff, ↓reduceIte, if_true, if_false, ite_true, ite_false, true_and, and_true, and_self, reduceCtorEq, e6, hki6, hrf6, hki, kM, hrf, e5, hwn, List.append_assoc]) (by first | rfl | (simp only [List.append_assoc, List.cons_append, List.nil_append]; rfl)) (by first | rfl | (simp [AV.below, CV.below, u8l_below]; done) | (simp [AV.below, CV.below, u8l_below]; omega)) (by have h := works_wf J m RR (n + 1) (n + 1) hwf hwR hwL; simp only [hRR, e6, hki6, hrf6, hki, kM, hrf, hwn, hrowA, hrowB, List.append_assoc, push_cast, Nat.reduceAdd, Nat.reduceMul, Nat.reduceSub, Nat.reduceLeDiff, Nat.reduceLT, Nat.reduceEqDiff, Nat.reduceBEq, Nat.reduceBNe, Nat.reduceMod, Nat.reduceDiv, Int.reduceLE, Int.reduceLT, Int.reduceToNat, Int.reduceAdd, Int.reduceSub, Int.reduceMul, Int.reduceNeg, Int.reduceEq, Int.reduceBEq, Int.reduceBNe, ↓reduceIte, reduceCtorEq, String.reduceBNe, String.reduceEq, reduceDIte, Nat.reducePow] at h ⊢; exact h)
      · have hm0 : n % 4 = 3 := by omega
        have hd0 : n / 4 = f := by omega
        rw [hm0, hd0] at hky hwc0
        have hnn : n = (4 * f + 3) := by omega
        have hndl : ndL n = [4 * f + 2] := by rw [hnn]; exact nd3 f
        have hrowA : nl (ndL (4 * f + 3)) = [.int .i64 ((4 * f + 2 : Nat) : Int)] := by rw [nd3 f]; rfl
        have hrowB : nl (ndL n) = [.int .i64 ((4 * f + 2 : Nat) : Int)] := by rw [hndl]; rfl
        simp only [push_cast, Nat.reduceAdd, Nat.reduceMul, Nat.reduceSub, Nat.reduceLeDiff, Nat.reduceLT, Nat.reduceEqDiff, Nat.reduceBEq, Nat.reduceBNe, Nat.reduceMod, Nat.reduceDiv, Int.reduceLE, Int.reduceLT, Int.reduceToNat, Int.reduceAdd, Int.reduceSub, Int.reduceMul, Int.reduceNeg, Int.reduceEq, Int.reduceBEq, Int.reduceBNe, ↓reduceIte, reduceCtorEq, String.reduceBNe, String.reduceEq, reduceDIte, Nat.reducePow] at hrowA hrowB
        have hnd : ndC (m.length + 2) n = .sl M.length 0 0 1 := by
          unfold ndC rwN; rw [hm0, hd0, hndl, if_neg (by decide), hMl]
          congr 1 <;> omega
        rw [if_neg (by decide)] at hky hrf
        rw [hndl] at hky
        simp only [List.flatMap_cons, List.flatMap_nil, List.append_nil] at hky
        have hDl : (ky J (4 * f + 2)).length = 32 * 1 := by simp only [List.length_append, ky_len]
        have hDo : U8ok (ky J (4 * f + 2)) := ky_ok _ _
        simp only [push_cast, Nat.reduceAdd, Nat.reduceMul, Nat.reduceSub, Nat.reduceLeDiff, Nat.reduceLT, Nat.reduceEqDiff, Nat.reduceBEq, Nat.reduceBNe, Nat.reduceMod, Nat.reduceDiv, Int.reduceLE, Int.reduceLT, Int.reduceToNat, Int.reduceAdd, Int.reduceSub, Int.reduceMul, Int.reduceNeg, Int.reduceEq, Int.reduceBEq, Int.reduceBNe, ↓reduceIte, reduceCtorEq, String.reduceBNe, String.reduceEq, reduceDIte, Nat.reducePow] at hky
        have hki : ((kn : Nat) : Int) = 4 := by omega
        have hwc : CV.int .i64 3 :: .int .i64 (f : Int) :: (u8l (ky J n) ++ [.sl M.length 0 0 1]) = wC J (m.length + 2) n := by rw [hwc0, hnd]; rfl
        have hsk := setL_key (.int .i64 3) (.int .i64 (f : Int)) (.sl M.length 0 0 1) (ky J n) hkl
        dsimp only at hsk
        have hq2 : ∀ l : List CV, l = l := fun _ => rfl
        have cp0 : (0 : Int) ≤ 4 * (f : Int) + 1 + 1 := by omega
        have dp0 : 4 * (f : Int) + 1 + 1 < (n : Int) := by omega
        have zp0 : (4 * (f : Int) + 1 + 1).toNat = 4 * f + 2 := by omega
        have bp0 : (4 * f + 2) * 35 + 34 ≤ n * 35 := by omega
        have kp0 := wR_key J (m.length + 2) n (4 * f + 2) (by omega)
        rw [show 35 * (4 * f + 2) = (4 * f + 2) * 35 from Nat.mul_comm _ _] at kp0
        have lp0 := ky_len J (4 * f + 2)
        have op0 := ky_ok J (4 * f + 2)
        have sp0 : setL [.int .u8 0, .int .u8 0, .int .u8 0, .int .u8 0, .int .u8 0, .int .u8 0, .int .u8 0, .int .u8 0, .int .u8 0, .int .u8 0, .int .u8 0, .int .u8 0, .int .u8 0, .int .u8 0, .int .u8 0, .int .u8 0, .int .u8 0, .int .u8 0, .int .u8 0, .int .u8 0, .int .u8 0, .int .u8 0, .int .u8 0, .int .u8 0, .int .u8 0, .int .u8 0, .int .u8 0, .int .u8 0, .int .u8 0, .int .u8 0, .int .u8 0, .int .u8 0] 0 (u8l (ky J (4 * f + 2))) = u8l (ky J (4 * f + 2)) := setL_full (by rw [u8l_len, lp0]; rfl)
        have vp0 := u8l_vals (ky J (4 * f + 2))
        have xp0 : (u8l (ky J (4 * f + 2))).take 32 = u8l (ky J (4 * f + 2)) := List.take_of_length_le (by rw [u8l_len, lp0]; exact Nat.le_refl _)
        try simp only [push_cast, Nat.reduceAdd, Nat.reduceMul, Nat.reduceSub, Nat.reduceLeDiff, Nat.reduceLT, Nat.reduceEqDiff, Nat.reduceBEq, Nat.reduceBNe, Nat.reduceMod, Nat.reduceDiv, Int.reduceLE, Int.reduceLT, Int.reduceToNat, Int.reduceAdd, Int.reduceSub, Int.reduceMul, Int.reduceNeg, Int.reduceEq, Int.reduceBEq, Int.reduceBNe, ↓reduceIte, reduceCtorEq, String.reduceBNe, String.reduceEq, reduceDIte, Nat.reducePow] at bp0
        try simp only [push_cast, Nat.reduceAdd, Nat.reduceMul, Nat.reduceSub, Nat.reduceLeDiff, Nat.reduceLT, Nat.reduceEqDiff, Nat.reduceBEq, Nat.reduceBNe, Nat.reduceMod, Nat.reduceDiv, Int.reduceLE, Int.reduceLT, Int.reduceToNat, Int.reduceAdd, Int.reduceSub, Int.reduceMul, Int.reduceNeg, Int.reduceEq, Int.reduceBEq, Int.reduceBNe, ↓reduceIte, reduceCtorEq, String.reduceBNe, String.reduceEq, reduceDIte, Nat.reducePow] at kp0
        refine AW.region (by decide) ?_
        simp only [push_cast, Nat.reduceAdd, Nat.reduceMul, Nat.reduceSub, Nat.reduceLeDiff, Nat.reduceLT, Nat.reduceEqDiff, Nat.reduceBEq, Nat.reduceBNe, Nat.reduceMod, Nat.reduceDiv, Int.reduceLE, Int.reduceLT, Int.reduceToNat, Int.reduceAdd, Int.reduceSub, Int.reduceMul, Int.reduceNeg, Int.reduceEq, Int.reduceBEq, Int.reduceBNe, ↓reduceIte, reduceCtorEq, String.reduceBNe, String.reduceEq, reduceDIte, Nat.reducePow, imp_self, hJ, hj2, hj3, hj4, u8l_len, u8l_app, Nat.le_refl, Int.le_refl, hx, gB, lk_old gB, gO, lk_old gO, kS, hkl, hkv, hsk, hwc, hwl, q1, q2, q3, hcl, hct, hcs, hcv, hky.symm, hrowA, hrowB, cp0, dp0, zp0, bp0, kp0, lp0, sp0, vp0, xp0]
        refine CThen.by (needs3_c f _ (by omega)) ?_
        simp only [push_cast, Nat.reduceAdd, Nat.reduceMul, Nat.reduceSub, Nat.reduceLeDiff, Nat.reduceLT, Nat.reduceEqDiff, Nat.reduceBEq, Nat.reduceBNe, Nat.reduceMod, Nat.reduceDiv, Int.reduceLE, Int.reduceLT, Int.reduceToNat, Int.reduceAdd, Int.reduceSub, Int.reduceMul, Int.reduceNeg, Int.reduceEq, Int.reduceBEq, Int.reduceBNe, ↓reduceIte, reduceCtorEq, String.reduceBNe, String.reduceEq, reduceDIte, Nat.reducePow, imp_self, hJ, hj2, hj3, hj4, u8l_len, u8l_app, Nat.le_refl, Int.le_refl, hx, gB, lk_old gB, gO, lk_old gO, kS, hkl, hkv, hsk, hwc, hwl, q1, q2, q3, hcl, hct, hcs, hcv, hky.symm, hrowA, hrowB, cp0, dp0, zp0, bp0, kp0, lp0, sp0, vp0, xp0]
        refine Thn_n ?_
        refine hK _ _ ?_
        clear hK K
        refine AW.seq_k fun K hK => ?_
        refine AW.region (by decide) ?_
        simp only [push_cast, Nat.reduceAdd, Nat.reduceMul, Nat.reduceSub, Nat.reduceLeDiff, Nat.reduceLT, Nat.reduceEqDiff, Nat.reduceBEq, Nat.reduceBNe, Nat.reduceMod, Nat.reduceDiv, Int.reduceLE, Int.reduceLT, Int.reduceToNat, Int.reduceAdd, Int.reduceSub, Int.reduceMul, Int.reduceNeg, Int.reduceEq, Int.reduceBEq, Int.reduceBNe, ↓reduceIte, reduceCtorEq, String.reduceBNe, String.reduceEq, reduceDIte, Nat.reducePow, imp_self, hJ, hj2, hj3, hj4, u8l_len, u8l_app, Nat.le_refl, Int.le_refl, hx, gB, lk_old gB, gO, lk_old gO, kS, hkl, hkv, hsk, hwc, hwl, q1, q2, q3, hcl, hct, hcs, hcv, hky.symm, hrowA, hrowB, cp0, dp0, zp0, bp0, kp0, lp0, sp0, vp0, xp0]
        refine Thn_n ?_
        refine hK _ _ ?_
        clear hK K
        refine AW.seq_k fun K hK => ?_
        refine AW.seq_k fun K hK => ?_
        refine AW.region (by decide) ?_
        simp only [push_cast, Nat.reduceAdd, Nat.reduceMul, Nat.reduceSub, Nat.reduceLeDiff, Nat.reduceLT, Nat.reduceEqDiff, Nat.reduceBEq, Nat.reduceBNe, Nat.reduceMod, Nat.reduceDiv, Int.reduceLE, Int.reduceLT, Int.reduceToNat, Int.reduceAdd, Int.reduceSub, Int.reduceMul, Int.reduceNeg, Int.reduceEq, Int.reduceBEq, Int.reduceBNe, ↓reduceIte, reduceCtorEq, String.reduceBNe, String.reduceEq, reduceDIte, Nat.reducePow, imp_self, hJ, hj2, hj3, hj4, u8l_len, u8l_app, Nat.le_refl, Int.le_refl, hx, gB, lk_old gB, gO, lk_old gO, kS, hkl, hkv, hsk, hwc, hwl, q1, q2, q3, hcl, hct, hcs, hcv, hky.symm, hrowA, hrowB, cp0, dp0, zp0, bp0, kp0, lp0, sp0, vp0, xp0]
        refine Thn_n ?_
        refine hK _ _ ?_
        clear hK K
        refine AW.cond_f rfl ?_
        refine AW.skip ?_
        refine Thn_n ?_
        refine hK _ _ ?_
        clear hK K
        refine AW.seq_k fun K hK => ?_
        refine AW.seq_k fun K hK => ?_
        refine AW.region (by decide) ?_
        simp only [push_cast, Nat.reduceAdd, Nat.reduceMul, Nat.reduceSub, Nat.reduceLeDiff, Nat.reduceLT, Nat.reduceEqDiff, Nat.reduceBEq, Nat.reduceBNe, Nat.reduceMod, Nat.reduceDiv, Int.reduceLE, Int.reduceLT, Int.reduceToNat, Int.reduceAdd, Int.reduceSub, Int.reduceMul, Int.reduceNeg, Int.reduceEq, Int.reduceBEq, Int.reduceBNe, ↓reduceIte, reduceCtorEq, String.reduceBNe, String.reduceEq, reduceDIte, Nat.reducePow, imp_self, hJ, hj2, hj3, hj4, u8l_len, u8l_app, Nat.le_refl, Int.le_refl, hx, gB, lk_old gB, gO, lk_old gO, kS, hkl, hkv, hsk, hwc, hwl, q1, q2, q3, hcl, hct, hcs, hcv, hky.symm, hrowA, hrowB, cp0, dp0, zp0, bp0, kp0, lp0, sp0, vp0, xp0]
        refine Thn_n ?_
        refine hK _ _ ?_
        clear hK K
        refine AW.block ?_
        refine AW.rounds 2 ?_
        refine ARounds.succ fun K hK => ?_
        refine AW.seq_k fun K hK => ?_
        refine AW.region (by decide) ?_
        simp only [push_cast, Nat.reduceAdd, Nat.reduceMul, Nat.reduceSub, Nat.reduceLeDiff, Nat.reduceLT, Nat.reduceEqDiff, Nat.reduceBEq, Nat.reduceBNe, Nat.reduceMod, Nat.reduceDiv, Int.reduceLE, Int.reduceLT, Int.reduceToNat, Int.reduceAdd, Int.reduceSub, Int.reduceMul, Int.reduceNeg, Int.reduceEq, Int.reduceBEq, Int.reduceBNe, ↓reduceIte, reduceCtorEq, String.reduceBNe, String.reduceEq, reduceDIte, Nat.reducePow, imp_self, hJ, hj2, hj3, hj4, u8l_len, u8l_app, Nat.le_refl, Int.le_refl, hx, gB, lk_old gB, gO, lk_old gO, kS, hkl, hkv, hsk, hwc, hwl, q1, q2, q3, hcl, hct, hcs, hcv, hky.symm, hrowA, hrowB, cp0, dp0, zp0, bp0, kp0, lp0, sp0, vp0, xp0]
        refine Thn_n ?_
        refine hK _ _ ?_
        clear hK K
        refine AW.seq_k fun K hK => ?_
        refine AW.cond_t rfl ?_
        refine AW.skip ?_
        refine Thn_n ?_
        refine hK _ _ ?_
        clear hK K
        refine AW.seq_k fun K hK => ?_
        refine AW.block ?_
        refine AW.seq_k fun K hK => ?_
        refine AW.region (by decide) ?_
        simp only [push_cast, Nat.reduceAdd, Nat.reduceMul, Nat.reduceSub, Nat.reduceLeDiff, Nat.reduceLT, Nat.reduceEqDiff, Nat.reduceBEq, Nat.reduceBNe, Nat.reduceMod, Nat.reduceDiv, Int.reduceLE, Int.reduceLT, Int.reduceToNat, Int.reduceAdd, Int.reduceSub, Int.reduceMul, Int.reduceNeg, Int.reduceEq, Int.reduceBEq, Int.reduceBNe, ↓reduceIte, reduceCtorEq, String.reduceBNe, String.reduceEq, reduceDIte, Nat.reducePow, imp_self, hJ, hj2, hj3, hj4, u8l_len, u8l_app, Nat.le_refl, Int.le_refl, hx, gB, lk_old gB, gO, lk_old gO, kS, hkl, hkv, hsk, hwc, hwl, q1, q2, q3, hcl, hct, hcs, hcv, hky.symm, hrowA, hrowB, cp0, dp0, zp0, bp0, kp0, lp0, sp0, vp0, xp0]
        refine Thn_n ?_
        refine hK _ _ ?_
        clear hK K
        refine AW.region (by decide) ?_
        simp only [push_cast, Nat.reduceAdd, Nat.reduceMul, Nat.reduceSub, Nat.reduceLeDiff, Nat.reduceLT, Nat.reduceEqDiff, Nat.reduceBEq, Nat.reduceBNe, Nat.reduceMod, Nat.reduceDiv, Int.reduceLE, Int.reduceLT, Int.reduceToNat, Int.reduceAdd, Int.reduceSub, Int.reduceMul, Int.reduceNeg, Int.reduceEq, Int.reduceBEq, Int.reduceBNe, ↓reduceIte, reduceCtorEq, String.reduceBNe, String.reduceEq, reduceDIte, Nat.reducePow, imp_self, hJ, hj2, hj3, hj4, u8l_len, u8l_app, Nat.le_refl, Int.le_refl, hx, gB, lk_old gB, gO, lk_old gO, kS, hkl, hkv, hsk, hwc, hwl, q1, q2, q3, hcl, hct, hcs, hcv, hky.symm, hrowA, hrowB, cp0, dp0, zp0, bp0, kp0, lp0, sp0, vp0, xp0]
        refine InB_n ?_
        refine Thn_n ?_
        refine hK _ _ ?_
        clear hK K
        refine AW.region (by decide) ?_
        simp only [push_cast, Nat.reduceAdd, Nat.reduceMul, Nat.reduceSub, Nat.reduceLeDiff, Nat.reduceLT, Nat.reduceEqDiff, Nat.reduceBEq, Nat.reduceBNe, Nat.reduceMod, Nat.reduceDiv, Int.reduceLE, Int.reduceLT, Int.reduceToNat, Int.reduceAdd, Int.reduceSub, Int.reduceMul, Int.reduceNeg, Int.reduceEq, Int.reduceBEq, Int.reduceBNe, ↓reduceIte, reduceCtorEq, String.reduceBNe, String.reduceEq, reduceDIte, Nat.reducePow, imp_self, hJ, hj2, hj3, hj4, u8l_len, u8l_app, Nat.le_refl, Int.le_refl, hx, gB, lk_old gB, gO, lk_old gO, kS, hkl, hkv, hsk, hwc, hwl, q1, q2, q3, hcl, hct, hcs, hcv, hky.symm, hrowA, hrowB, cp0, dp0, zp0, bp0, kp0, lp0, sp0, vp0, xp0]
        refine Thn_n ?_
        refine hK _ _ ?_
        clear hK K
        refine ARounds.succ fun K hK => ?_
        refine AW.seq_k fun K hK => ?_
        refine AW.region (by decide) ?_
        simp only [push_cast, Nat.reduceAdd, Nat.reduceMul, Nat.reduceSub, Nat.reduceLeDiff, Nat.reduceLT, Nat.reduceEqDiff, Nat.reduceBEq, Nat.reduceBNe, Nat.reduceMod, Nat.reduceDiv, Int.reduceLE, Int.reduceLT, Int.reduceToNat, Int.reduceAdd, Int.reduceSub, Int.reduceMul, Int.reduceNeg, Int.reduceEq, Int.reduceBEq, Int.reduceBNe, ↓reduceIte, reduceCtorEq, String.reduceBNe, String.reduceEq, reduceDIte, Nat.reducePow, imp_self, hJ, hj2, hj3, hj4, u8l_len, u8l_app, Nat.le_refl, Int.le_refl, hx, gB, lk_old gB, gO, lk_old gO, kS, hkl, hkv, hsk, hwc, hwl, q1, q2, q3, hcl, hct, hcs, hcv, hky.symm, hrowA, hrowB, cp0, dp0, zp0, bp0, kp0, lp0, sp0, vp0, xp0]
        refine Thn_n ?_
        refine hK _ _ ?_
        clear hK K
        refine AW.seq_k fun K hK => ?_
        refine AW.cond_f rfl ?_
        refine AW.exit ?_
        refine Thn_e ?_
        clear hK K
        refine Thn_e ?_
        clear hK K
        refine InB_here ?_
        refine Thn_n ?_
        refine hK _ _ ?_
        clear hK K
        refine AW.seq_k fun K hK => ?_
        refine AW.region (by decide) ?_
        simp only [push_cast, Nat.reduceAdd, Nat.reduceMul, Nat.reduceSub, Nat.reduceLeDiff, Nat.reduceLT, Nat.reduceEqDiff, Nat.reduceBEq, Nat.reduceBNe, Nat.reduceMod, Nat.reduceDiv, Int.reduceLE, Int.reduceLT, Int.reduceToNat, Int.reduceAdd, Int.reduceSub, Int.reduceMul, Int.reduceNeg, Int.reduceEq, Int.reduceBEq, Int.reduceBNe, ↓reduceIte, reduceCtorEq, String.reduceBNe, String.reduceEq, reduceDIte, Nat.reducePow, imp_self, hJ, hj2, hj3, hj4, u8l_len, u8l_app, Nat.le_refl, Int.le_refl, hx, gB, lk_old gB, gO, lk_old gO, kS, hkl, hkv, hsk, hwc, hwl, q1, q2, q3, hcl, hct, hcs, hcv, hky.symm, hrowA, hrowB, cp0, dp0, zp0, bp0, kp0, lp0, sp0, vp0, xp0]
        refine CThen.by (key_c 3 (f : Int) (M.length + 2) 1 1 (ky J (4 * f + 2)) .grow 32 _ (by simp only [push_cast, Nat.reduceAdd, Nat.reduceMul, Nat.reduceSub, Nat.reduceLeDiff, Nat.reduceLT, Nat.reduceEqDiff, Nat.reduceBEq, Nat.reduceBNe, Nat.reduceMod, Nat.reduceDiv, Int.reduceLE, Int.reduceLT, Int.reduceToNat, Int.reduceAdd, Int.reduceSub, Int.reduceMul, Int.reduceNeg, Int.reduceEq, Int.reduceBEq, Int.reduceBNe, ↓reduceIte, reduceCtorEq, String.reduceBNe, String.reduceEq, reduceDIte, Nat.reducePow, u8l_app]) hDl hDo (by decide)) ?_
        simp only [push_cast, Nat.reduceAdd, Nat.reduceMul, Nat.reduceSub, Nat.reduceLeDiff, Nat.reduceLT, Nat.reduceEqDiff, Nat.reduceBEq, Nat.reduceBNe, Nat.reduceMod, Nat.reduceDiv, Int.reduceLE, Int.reduceLT, Int.reduceToNat, Int.reduceAdd, Int.reduceSub, Int.reduceMul, Int.reduceNeg, Int.reduceEq, Int.reduceBEq, Int.reduceBNe, ↓reduceIte, reduceCtorEq, String.reduceBNe, String.reduceEq, reduceDIte, Nat.reducePow, imp_self, hJ, hj2, hj3, hj4, u8l_len, u8l_app, Nat.le_refl, Int.le_refl, hx, gB, lk_old gB, gO, lk_old gO, kS, hkl, hkv, hsk, hwc, hwl, q1, q2, q3, hcl, hct, hcs, hcv, hky.symm, hrowA, hrowB, cp0, dp0, zp0, bp0, kp0, lp0, sp0, vp0, xp0]
        refine Thn_n ?_
        refine hK _ _ ?_
        clear hK K
        refine AW.region (by decide) ?_
        simp only [push_cast, Nat.reduceAdd, Nat.reduceMul, Nat.reduceSub, Nat.reduceLeDiff, Nat.reduceLT, Nat.reduceEqDiff, Nat.reduceBEq, Nat.reduceBNe, Nat.reduceMod, Nat.reduceDiv, Int.reduceLE, Int.reduceLT, Int.reduceToNat, Int.reduceAdd, Int.reduceSub, Int.reduceMul, Int.reduceNeg, Int.reduceEq, Int.reduceBEq, Int.reduceBNe, ↓reduceIte, reduceCtorEq, String.reduceBNe, String.reduceEq, reduceDIte, Nat.reducePow, imp_self, hJ, hj2, hj3, hj4, u8l_len, u8l_app, Nat.le_refl, Int.le_refl, hx, gB, lk_old gB, gO, lk_old gO, kS, hkl, hkv, hsk, hwc, hwl, q1, q2, q3, hcl, hct, hcs, hcv, hky.symm, hrowA, hrowB, cp0, dp0, zp0, bp0, kp0, lp0, sp0, vp0, xp0]
        refine InB_n ?_
        refine Thn_n ?_
        refine hK _ _ ?_
        clear hK K
        refine AW.region (by decide) ?_
        simp only [push_cast, Nat.reduceAdd, Nat.reduceMul, Nat.reduceSub, Nat.reduceLeDiff, Nat.reduceLT, Nat.reduceEqDiff, Nat.reduceBEq, Nat.reduceBNe, Nat.reduceMod, Nat.reduceDiv, Int.reduceLE, Int.reduceLT, Int.reduceToNat, Int.reduceAdd, Int.reduceSub, Int.reduceMul, Int.reduceNeg, Int.reduceEq, Int.reduceBEq, Int.reduceBNe, ↓reduceIte, reduceCtorEq, String.reduceBNe, String.reduceEq, reduceDIte, Nat.reducePow, imp_self, hJ, hj2, hj3, hj4, u8l_len, u8l_app, Nat.le_refl, Int.le_refl, hx, gB, lk_old gB, gO, lk_old gO, kS, hkl, hkv, hsk, hwc, hwl, q1, q2, q3, hcl, hct, hcs, hcv, hky.symm, hrowA, hrowB, cp0, dp0, zp0, bp0, kp0, lp0, sp0, vp0, xp0]
        refine Thn_n ?_
        refine ⟨kn, by omega, by omega, ?_⟩
        try simp only [keepL, setAll, push_cast, Nat.reduceAdd, Nat.reduceMul, Nat.reduceSub, Nat.reduceLeDiff, Nat.reduceLT, Nat.reduceEqDiff, Nat.reduceBEq, Nat.reduceBNe, Nat.reduceMod, Nat.reduceDiv, Int.reduceLE, Int.reduceLT, Int.reduceToNat, Int.reduceAdd, Int.reduceSub, Int.reduceMul, Int.reduceNeg, Int.reduceEq, Int.reduceBEq, Int.reduceBNe, ↓reduceIte, reduceCtorEq, String.reduceBNe, String.reduceEq, reduceDIte, Nat.reducePow, imp_self, hJ, hj2, hj3, hj4, u8l_len, u8l_app, Nat.le_refl, Int.le_refl, hx, gB, lk_old gB, gO, lk_old gO, kS, hkl, hkv, hsk, hwc, hwl, q1, q2, q3, hcl, hct, hcs, hcv, hky.symm, hrowA, hrowB, cp0, dp0, zp0, bp0, kp0, lp0, sp0, vp0, xp0, e6, hki6, hrf6, hki, kM, hrf, e5, hwn, List.append_assoc]
        first
          | exact Weak.to (extra := [_, _, _, _]) (by simp only [Keeps, Tm.get_cons, Nat.reduceEqDiff, ↓reduceIte, if_true, if_false, ite_true, ite_false, true_and, and_true, and_self, reduceCtorEq, e6, hki6, hrf6, hki, kM, hrf, e5, hwn, List.append_assoc]) (by first | rfl | (simp only [List.append_assoc, List.cons_append, List.nil_append]; rfl)) (by first | rfl | (simp [AV.below, CV.below, u8l_below]; done) | (simp [AV.below, CV.below, u8l_below]; omega)) (by have h := works_wf J m RR (n + 1) (n + 1) hwf hwR hwL; simp only [hRR, e6, hki6, hrf6, hki, kM, hrf, hwn, hrowA, hrowB, List.append_assoc, push_cast, Nat.reduceAdd, Nat.reduceMul, Nat.reduceSub, Nat.reduceLeDiff, Nat.reduceLT, Nat.reduceEqDiff, Nat.reduceBEq, Nat.reduceBNe, Nat.reduceMod, Nat.reduceDiv, Int.reduceLE, Int.reduceLT, Int.reduceToNat, Int.reduceAdd, Int.reduceSub, Int.reduceMul, Int.reduceNeg, Int.reduceEq, Int.reduceBEq, Int.reduceBNe, ↓reduceIte, reduceCtorEq, String.reduceBNe, String.reduceEq, reduceDIte, Nat.reducePow] at h ⊢; exact h)
          | exact Weak.to (extra := [_, _, _, _, _]) (by simp only [Keeps, Tm.get_cons, Nat.reduceEqDiff, ↓reduceIte, if_true, if_false, ite_true, ite_false, true_and, and_true, and_self, reduceCtorEq, e6, hki6, hrf6, hki, kM, hrf, e5, hwn, List.append_assoc]) (by first | rfl | (simp only [List.append_assoc, List.cons_append, List.nil_append]; rfl)) (by first | rfl | (simp [AV.below, CV.below, u8l_below]; done) | (simp [AV.below, CV.below, u8l_below]; omega)) (by have h := works_wf J m RR (n + 1) (n + 1) hwf hwR hwL; simp only [hRR, e6, hki6, hrf6, hki, kM, hrf, hwn, hrowA, hrowB, List.append_assoc, push_cast, Nat.reduceAdd, Nat.reduceMul, Nat.reduceSub, Nat.reduceLeDiff, Nat.reduceLT, Nat.reduceEqDiff, Nat.reduceBEq, Nat.reduceBNe, Nat.reduceMod, Nat.reduceDiv, Int.reduceLE, Int.reduceLT, Int.reduceToNat, Int.reduceAdd, Int.reduceSub, Int.reduceMul, Int.reduceNeg, Int.reduceEq, Int.reduceBEq, Int.reduceBNe, ↓reduceIte, reduceCtorEq, String.reduceBNe, String.reduceEq, reduceDIte, Nat.reducePow] at h ⊢; exact h)
          | exact Weak.to (extra := [_, _, _, _, _, _]) (by simp only [Keeps, Tm.get_cons, Nat.reduceEqDiff, ↓reduceIte, if_true, if_false, ite_true, ite_false, true_and, and_true, and_self, reduceCtorEq, e6, hki6, hrf6, hki, kM, hrf, e5, hwn, List.append_assoc]) (by first | rfl | (simp only [List.append_assoc, List.cons_append, List.nil_append]; rfl)) (by first | rfl | (simp [AV.below, CV.below, u8l_below]; done) | (simp [AV.below, CV.below, u8l_below]; omega)) (by have h := works_wf J m RR (n + 1) (n + 1) hwf hwR hwL; simp only [hRR, e6, hki6, hrf6, hki, kM, hrf, hwn, hrowA, hrowB, List.append_assoc, push_cast, Nat.reduceAdd, Nat.reduceMul, Nat.reduceSub, Nat.reduceLeDiff, Nat.reduceLT, Nat.reduceEqDiff, Nat.reduceBEq, Nat.reduceBNe, Nat.reduceMod, Nat.reduceDiv, Int.reduceLE, Int.reduceLT, Int.reduceToNat, Int.reduceAdd, Int.reduceSub, Int.reduceMul, Int.reduceNeg, Int.reduceEq, Int.reduceBEq, Int.reduceBNe, ↓reduceIte, reduceCtorEq, String.reduceBNe, String.reduceEq, reduceDIte, Nat.reducePow] at h ⊢; exact h)
    · have hke : k = 4 := by have := of_decide_eq_false h19; omega
      subst hke
      refine AW.exit ?_
      refine Thn_e ?_
      clear hK K
      refine Thn_e ?_
      refine InB_here ?_
      refine InB_n ?_
      refine Thn_n ?_
      refine hK _ _ ?_
      clear hK K
      refine AW.region (by decide) ?_
      simp only [push_cast, Nat.reduceAdd, Nat.reduceMul, Nat.reduceSub, Nat.reduceLeDiff, Nat.reduceLT, Nat.reduceEqDiff, Nat.reduceBEq, Nat.reduceBNe, Nat.reduceMod, Nat.reduceDiv, Int.reduceLE, Int.reduceLT, Int.reduceToNat, Int.reduceAdd, Int.reduceSub, Int.reduceMul, Int.reduceNeg, Int.reduceEq, Int.reduceBEq, Int.reduceBNe, ↓reduceIte, reduceCtorEq, String.reduceBNe, String.reduceEq, reduceDIte, Nat.reducePow, imp_self, hJ, hj2, hj3, hj4, u8l_len, u8l_app, Nat.le_refl, Int.le_refl, hx]
      refine Thn_n ?_
      have hwi : IntKind.i64.wrap ((f:Int)+1) = (f:Int)+1 := wi (by omega)
      have e4 : 4 * (f + 1) = 4 * f + 4 := by omega
      have hg4 : rwG (f + 1) = rwG f ++ rwF f 4 := rfl
      refine ⟨f + 1, hlt, by omega, ?_⟩
      try simp only [keepL, setAll, push_cast, Nat.reduceAdd, Nat.reduceMul, Nat.reduceSub, Nat.reduceLeDiff, Nat.reduceLT, Nat.reduceEqDiff, Nat.reduceBEq, Nat.reduceBNe, Nat.reduceMod, Nat.reduceDiv, Int.reduceLE, Int.reduceLT, Int.reduceToNat, Int.reduceAdd, Int.reduceSub, Int.reduceMul, Int.reduceNeg, Int.reduceEq, Int.reduceBEq, Int.reduceBNe, ↓reduceIte, reduceCtorEq, String.reduceBNe, String.reduceEq, reduceDIte, Nat.reducePow, imp_self, hJ, hj2, hj3, hj4, u8l_len, u8l_app, Nat.le_refl, Int.le_refl, hx, hwi, e4, hg4]
      exact Weak.same (by simp only [Keeps, Tm.get_cons, Nat.reduceEqDiff, ↓reduceIte, if_true, if_false, ite_true, ite_false, true_and, and_true, and_self, reduceCtorEq, hwi, e4, hg4]) (by first | rfl | simp only [Keeps, Tm.get_cons, Nat.reduceEqDiff, ↓reduceIte, if_true, if_false, ite_true, ite_false, true_and, and_true, and_self, reduceCtorEq, hwi, e4, hg4])
  · have hfe : f = F := by have := of_decide_eq_false h16; omega
    subst hfe
    refine AW.exit ?_
    refine Thn_e ?_
    clear hK K
    refine Thn_e ?_
    refine InB_here ?_
    refine Thn_n ?_
    refine hK _ _ ?_
    clear hK K
    refine AW.seq_k fun K hK => ?_
    refine AW.region (by decide) ?_
    simp only [push_cast, Nat.reduceAdd, Nat.reduceMul, Nat.reduceSub, Nat.reduceLeDiff, Nat.reduceLT, Nat.reduceEqDiff, Nat.reduceBEq, Nat.reduceBNe, Nat.reduceMod, Nat.reduceDiv, Int.reduceLE, Int.reduceLT, Int.reduceToNat, Int.reduceAdd, Int.reduceSub, Int.reduceMul, Int.reduceNeg, Int.reduceEq, Int.reduceBEq, Int.reduceBNe, ↓reduceIte, reduceCtorEq, String.reduceBNe, String.reduceEq, reduceDIte, Nat.reducePow, imp_self, hJ, hj2, hj3, hj4, u8l_len, u8l_app, Nat.le_refl, Int.le_refl, hx]
    refine Thn_n ?_
    refine hK _ _ ?_
    clear hK K
    refine AW.ret ?_
    refine hQ _ _ _ ?_
    refine ⟨Or.inr rfl, _, ?_, Hands.all⟩
    simp only [resA, resOne, resTv, AV.tv, push_cast, Nat.reduceAdd, Nat.reduceMul, Nat.reduceSub, Nat.reduceLeDiff, Nat.reduceLT, Nat.reduceEqDiff, Nat.reduceBEq, Nat.reduceBNe, Nat.reduceMod, Nat.reduceDiv, Int.reduceLE, Int.reduceLT, Int.reduceToNat, Int.reduceAdd, Int.reduceSub, Int.reduceMul, Int.reduceNeg, Int.reduceEq, Int.reduceBEq, Int.reduceBNe, ↓reduceIte, reduceCtorEq, String.reduceBNe, String.reduceEq, reduceDIte, Nat.reducePow]
end Go.Proofs.YtmjbbnfmhgcfaaaDoor

set_option linter.unusedSimpArgs false
set_option linter.unusedVariables false
set_option maxRecDepth 100000
set_option maxHeartbeats 4000000
namespace Go.Proofs.YtmjbbnfmhgcfaaaDoor
open Go Go.Eng

theorem i64i {x : Int} (h : -9000000000000 ≤ x ∧ x ≤ 9000000000000) : IntKind.i64.wrap x = x := by rw [IntKind.wrap_i64]; omega
/-- The cells of so many integers; of bools; of rows. -/
def il : Nat → (Nat → Int) → List CV
  | 0, _ => []
  | n + 1, f => il n f ++ [.int .i64 (f n)]
theorem il_len : ∀ (n : Nat) (f : Nat → Int), (il n f).length = n
  | 0, _ => rfl
  | n + 1, f => by simp only [il, List.length_append, il_len n f, List.length_cons, List.length_nil]
theorem il_get : ∀ {n : Nat} {f : Nat → Int} {i : Nat}, i < n → (il n f)[i]? = some (.int .i64 (f i))
  | n + 1, f, i, hi => by
    simp only [il]
    rcases Nat.lt_or_ge i n with h | h
    · rw [List.getElem?_append_left (by rw [il_len]; omega)]; exact il_get h
    · have e : i = n := by omega
      subst e
      rw [List.getElem?_append_right (by rw [il_len]; omega), il_len, Nat.sub_self]; rfl
theorem il_vals : ∀ (n : Nat) (f : Nat → Int), (il n f).all CV.isVal = true
  | 0, _ => rfl
  | n + 1, f => by simp only [il, List.all_append, il_vals n f, List.all_cons, List.all_nil, CV.isVal]; rfl
theorem il_below : ∀ (L n : Nat) (f : Nat → Int), (il n f).all (CV.below L) = true
  | _, 0, _ => rfl
  | L, n + 1, f => by simp only [il, List.all_append, il_below L n f, List.all_cons, List.all_nil, CV.below]; rfl
theorem ext_get {α : Type} {a b : List α} (h : ∀ i : Nat, a[i]? = b[i]?) : a = b := List.ext_getElem? h
theorem il_of {cells : List CV} {n : Nat} {f : Nat → Int} (hl : cells.length = n) (h : ∀ i, i < n → cells[i]? = some (.int .i64 (f i))) : cells = il n f := by
  refine ext_get fun j => ?_
  rcases Nat.lt_or_ge j n with hj | hj
  · rw [h j hj, il_get hj]
  · rw [List.getElem?_eq_none (by omega), List.getElem?_eq_none (by rw [il_len]; omega)]
theorem il_congr {n : Nat} {f g : Nat → Int} (h : ∀ i, i < n → f i = g i) : il n f = il n g := il_of (il_len n f) fun i hi => by rw [il_get hi, h i hi]
def bl : Nat → (Nat → Bool) → List CV
  | 0, _ => []
  | n + 1, f => bl n f ++ [.bool (f n)]
theorem bl_len : ∀ (n : Nat) (f : Nat → Bool), (bl n f).length = n
  | 0, _ => rfl
  | n + 1, f => by simp only [bl, List.length_append, bl_len n f, List.length_cons, List.length_nil]
theorem bl_get : ∀ {n : Nat} {f : Nat → Bool} {i : Nat}, i < n → (bl n f)[i]? = some (.bool (f i))
  | n + 1, f, i, hi => by
    simp only [bl]
    rcases Nat.lt_or_ge i n with h | h
    · rw [List.getElem?_append_left (by rw [bl_len]; omega)]; exact bl_get h
    · have e : i = n := by omega
      subst e
      rw [List.getElem?_append_right (by rw [bl_len]; omega), bl_len, Nat.sub_self]; rfl
theorem bl_of {cells : List CV} {n : Nat} {f : Nat → Bool} (hl : cells.length = n) (h : ∀ i, i < n → cells[i]? = some (.bool (f i))) : cells = bl n f := by
  refine ext_get fun j => ?_
  rcases Nat.lt_or_ge j n with hj | hj
  · rw [h j hj, bl_get hj]
  · rw [List.getElem?_eq_none (by omega), List.getElem?_eq_none (by rw [bl_len]; omega)]
theorem bl_below (L n : Nat) (f : Nat → Bool) : (bl n f).all (CV.below L) = true := by
  refine List.all_eq_true.2 fun c hc => ?_
  obtain ⟨i, hi⟩ := List.getElem?_of_mem hc
  have hlt := (List.getElem?_eq_some_iff.1 hi).1
  rw [bl_len] at hlt
  rw [bl_get hlt] at hi
  injection hi with hi; subst hi; rfl
def updB (f : Nat → Bool) (j : Nat) (b : Bool) : Nat → Bool := fun i => if i = j then b else f i
theorem bl_set {n : Nat} {f : Nat → Bool} {j : Nat} {b : Bool} : (bl n f).set j (.bool b) = bl n (updB f j b) := by
  refine bl_of (by rw [List.length_set, bl_len]) fun i hi => ?_
  rw [List.getElem?_set]
  by_cases e : j = i
  · subst e; rw [if_pos rfl, if_pos (by rw [bl_len]; exact hi)]; simp [updB]
  · rw [if_neg e, bl_get hi]; simp only [updB]; rw [if_neg (fun h => e h.symm)]
def rl : Nat → (Nat → Nat) → (Nat → Nat) → (Nat → Nat) → List CV
  | 0, _, _, _ => []
  | n + 1, r, vv, ln => rl n r vv ln ++ [.sl (r n) (vv n) 0 (ln n)]
theorem rl_len : ∀ (n : Nat) (r vv ln : Nat → Nat), (rl n r vv ln).length = n
  | 0, _, _, _ => rfl
  | n + 1, r, vv, ln => by simp only [rl, List.length_append, rl_len n r vv ln, List.length_cons, List.length_nil]
theorem rl_get : ∀ {n : Nat} {r vv ln : Nat → Nat} {i : Nat}, i < n → (rl n r vv ln)[i]? = some (.sl (r i) (vv i) 0 (ln i))
  | n + 1, r, vv, ln, i, hi => by
    simp only [rl]
    rcases Nat.lt_or_ge i n with h | h
    · rw [List.getElem?_append_left (by rw [rl_len]; omega)]; exact rl_get h
    · have e : i = n := by omega
      subst e
      rw [List.getElem?_append_right (by rw [rl_len]; omega), rl_len, Nat.sub_self]; rfl
theorem rl_of {cells : List CV} {n : Nat} {r vv ln : Nat → Nat} (hl : cells.length = n) (h : ∀ i, i < n → cells[i]? = some (.sl (r i) (vv i) 0 (ln i))) : cells = rl n r vv ln := by
  refine ext_get fun j => ?_
  rcases Nat.lt_or_ge j n with hj | hj
  · rw [h j hj, rl_get hj]
  · rw [List.getElem?_eq_none (by omega), List.getElem?_eq_none (by rw [rl_len]; omega)]
/-- Integers, bools, rows of integers in memory. -/
structure IntsAt (m : AMem) (r v n : Nat) (f : Nat → Int) : Prop where
  hb : ∃ k ez, m[r]? = some ⟨k, 3, v, ez, il n f⟩
structure BoolsAt (m : AMem) (r v n : Nat) (f : Nat → Bool) : Prop where
  hb : ∃ k ez, m[r]? = some ⟨k, 4, v, ez, bl n f⟩
structure RowsAt (m : AMem) (r vp n : Nat) (ln : Nat → Nat) (q : Nat → Nat → Int) : Prop where
  hb : ∃ k ez rr vv, m[r]? = some ⟨k, 43, vp, ez, rl n rr vv ln⟩ ∧ ∀ i, i < n → IntsAt m (rr i) (vv i) (ln i) (q i)
theorem IntsAt.mono {m : AMem} {r v n : Nat} {f : Nat → Int} (h : IntsAt m r v n f) (x : AMem) : IntsAt (m ++ x) r v n f := by
  obtain ⟨k, ez, hb⟩ := h.hb; exact ⟨k, ez, lk_old hb x⟩
theorem BoolsAt.mono {m : AMem} {r v n : Nat} {f : Nat → Bool} (h : BoolsAt m r v n f) (x : AMem) : BoolsAt (m ++ x) r v n f := by
  obtain ⟨k, ez, hb⟩ := h.hb; exact ⟨k, ez, lk_old hb x⟩
theorem RowsAt.mono {m : AMem} {r vp n : Nat} {ln : Nat → Nat} {q : Nat → Nat → Int} (h : RowsAt m r vp n ln q) (x : AMem) : RowsAt (m ++ x) r vp n ln q := by
  obtain ⟨k, ez, rr, vv, hb, hr⟩ := h.hb; exact ⟨k, ez, rr, vv, lk_old hb x, fun i hi => (hr i hi).mono x⟩
def inL (n : Nat) (f : Nat → Int) (x : Int) : Bool := (List.range n).any fun i => f i == x
theorem inL_iff {n : Nat} {f : Nat → Int} {x : Int} : inL n f x = true ↔ ∃ i, i < n ∧ f i = x := by simp [inL]
theorem inL_no {n : Nat} {f : Nat → Int} {x : Int} (h : inL n f x = false) {i : Nat} (hi : i < n) : (f i == x) = false ∧ (x == f i) = false := by
  have : ¬ f i = x := fun e => by rw [inL_iff.2 ⟨i, hi, e⟩] at h; cases h
  exact ⟨by simpa using this, by simpa using fun e => this e.symm⟩
theorem inL_first {n : Nat} {f : Nat → Int} {x : Int} (h : inL n f x = true) : ∃ j, j < n ∧ f j = x ∧ ∀ i, i < j → ¬ f i = x := by
  obtain ⟨i, hi, e⟩ := inL_iff.1 h
  obtain ⟨k, h1, h2⟩ := least (p := fun i => i < n ∧ f i = x) i ⟨hi, e⟩
  exact ⟨k, h1.1, h1.2, fun i hi he => h2 i hi ⟨by omega, he⟩⟩

end Go.Proofs.YtmjbbnfmhgcfaaaDoor

set_option linter.unusedSimpArgs false
set_option linter.unusedVariables false
set_option maxRecDepth 100000
set_option maxHeartbeats 4000000
namespace Go.Proofs.YtmjbbnfmhgcfaaaDoor
open Go Go.Eng

def oF (xs : List Nat) : Nat → Int := fun i => ((xs.getD i 0 : Nat) : Int)
theorem same_c (r v r2 v2 n : Nat) (f : Nat → Int) (m : AMem) (hp : IntsAt m r v n f) (hp2 : IntsAt m r2 v2 n f) (hn : n ≤ 9000000000000) : Ctr Tryd.prog 13 [.one (.sl r v 0 n), .one (.sl r2 v2 0 n)] m (.one (.bool true)) m := by
  refine Ctr.enter Tryd.func13 rfl (by decide) (rs := [.tmp 4]) (nt := 26) rfl rfl fun hwf Q hQ => ?_
  obtain ⟨k0, ez, hb⟩ := hp.hb
  obtain ⟨k1, ez1, hb1⟩ := hp2.hb
  have hr := get_lt hb
  have hr1 := get_lt hb1
  refine AW.seq_k fun K hK => ?_
  refine AW.region (by decide) ?_
  simp only [push_cast, Nat.reduceAdd, Nat.reduceMul, Nat.reduceSub, Nat.reduceLeDiff, Nat.reduceLT, Nat.reduceEqDiff, Nat.reduceBEq, Nat.reduceBNe, Nat.reduceMod, Nat.reduceDiv, Int.reduceLE, Int.reduceLT, Int.reduceToNat, Int.reduceAdd, Int.reduceSub, Int.reduceMul, Int.reduceNeg, Int.reduceEq, Int.reduceBEq, Int.reduceBNe, ↓reduceIte, reduceCtorEq, String.reduceBNe, String.reduceEq, reduceDIte, Nat.reducePow, hb, lk_old hb, hb1, lk_old hb1]
  refine Thn_n ?_
  refine hK _ _ ?_
  clear hK K
  refine AW.seq_k fun K hK => ?_
  refine AW.seq_k fun K hK => ?_
  refine AW.region (by decide) ?_
  simp only [push_cast, Nat.reduceAdd, Nat.reduceMul, Nat.reduceSub, Nat.reduceLeDiff, Nat.reduceLT, Nat.reduceEqDiff, Nat.reduceBEq, Nat.reduceBNe, Nat.reduceMod, Nat.reduceDiv, Int.reduceLE, Int.reduceLT, Int.reduceToNat, Int.reduceAdd, Int.reduceSub, Int.reduceMul, Int.reduceNeg, Int.reduceEq, Int.reduceBEq, Int.reduceBNe, ↓reduceIte, reduceCtorEq, String.reduceBNe, String.reduceEq, reduceDIte, Nat.reducePow, hb, lk_old hb, hb1, lk_old hb1]
  refine Thn_n ?_
  refine hK _ _ ?_
  clear hK K
  refine AW.cond_f rfl ?_
  refine AW.skip ?_
  refine Thn_n ?_
  refine hK _ _ ?_
  clear hK K
  refine AW.seq_k fun K hK => ?_
  refine AW.seq_k fun K hK => ?_
  refine AW.region (by decide) ?_
  simp only [push_cast, Nat.reduceAdd, Nat.reduceMul, Nat.reduceSub, Nat.reduceLeDiff, Nat.reduceLT, Nat.reduceEqDiff, Nat.reduceBEq, Nat.reduceBNe, Nat.reduceMod, Nat.reduceDiv, Int.reduceLE, Int.reduceLT, Int.reduceToNat, Int.reduceAdd, Int.reduceSub, Int.reduceMul, Int.reduceNeg, Int.reduceEq, Int.reduceBEq, Int.reduceBNe, ↓reduceIte, reduceCtorEq, String.reduceBNe, String.reduceEq, reduceDIte, Nat.reducePow, hb, lk_old hb, hb1, lk_old hb1]
  refine Thn_n ?_
  refine hK _ _ ?_
  clear hK K
  refine AW.block ?_
  refine AW.loopK [0, 1, 12] (fun i => i ≤ n) (fun i => [(13, .one (.int .i64 (i : Int)))]) (fun i => []) (fun i => n - i) 0 (by omega) ?_ ?_ fun i hi6 => ?_
  · first | rfl | (simp only [Keeps, Tm.get_cons, Nat.reduceEqDiff, ↓reduceIte, if_true, if_false, ite_true, ite_false, true_and, and_true, and_self, reduceCtorEq] <;> rfl)
  · first | rfl | (simp only [setAll, push_cast, Nat.reduceAdd, Nat.reduceMul, Nat.reduceSub, Nat.reduceLeDiff, Nat.reduceLT, Nat.reduceEqDiff, Nat.reduceBEq, Nat.reduceBNe, Nat.reduceMod, Nat.reduceDiv, Int.reduceLE, Int.reduceLT, Int.reduceToNat, Int.reduceAdd, Int.reduceSub, Int.reduceMul, Int.reduceNeg, Int.reduceEq, Int.reduceBEq, Int.reduceBNe, ↓reduceIte, reduceCtorEq, String.reduceBNe, String.reduceEq, reduceDIte, Nat.reducePow, hb, lk_old hb, hb1, lk_old hb1] <;> rfl)
  try simp only [keepL, setAll, push_cast, Nat.reduceAdd, Nat.reduceMul, Nat.reduceSub, Nat.reduceLeDiff, Nat.reduceLT, Nat.reduceEqDiff, Nat.reduceBEq, Nat.reduceBNe, Nat.reduceMod, Nat.reduceDiv, Int.reduceLE, Int.reduceLT, Int.reduceToNat, Int.reduceAdd, Int.reduceSub, Int.reduceMul, Int.reduceNeg, Int.reduceEq, Int.reduceBEq, Int.reduceBNe, ↓reduceIte, reduceCtorEq, String.reduceBNe, String.reduceEq, reduceDIte, Nat.reducePow, hb, lk_old hb, hb1, lk_old hb1]
  refine AW.seq_k fun K hK => ?_
  refine AW.region (by decide) ?_
  simp only [push_cast, Nat.reduceAdd, Nat.reduceMul, Nat.reduceSub, Nat.reduceLeDiff, Nat.reduceLT, Nat.reduceEqDiff, Nat.reduceBEq, Nat.reduceBNe, Nat.reduceMod, Nat.reduceDiv, Int.reduceLE, Int.reduceLT, Int.reduceToNat, Int.reduceAdd, Int.reduceSub, Int.reduceMul, Int.reduceNeg, Int.reduceEq, Int.reduceBEq, Int.reduceBNe, ↓reduceIte, reduceCtorEq, String.reduceBNe, String.reduceEq, reduceDIte, Nat.reducePow, hb, lk_old hb, hb1, lk_old hb1]
  refine Thn_n ?_
  refine hK _ _ ?_
  clear hK K
  refine AW.seq_k fun K hK => ?_
  refine AW.cond rfl (fun h14 => ?_) (fun h14 => ?_)
  · have hlt : i < n := by have := of_decide_eq_true h14; omega
    have c1 : (0 : Int) ≤ (i : Int) := by omega
    have c2 : (i : Int) < (n : Int) := by omega
    have g := il_get (f := f) hlt
    refine AW.skip ?_
    refine Thn_n ?_
    refine hK _ _ ?_
    clear hK K
    refine AW.seq_k fun K hK => ?_
    refine AW.block ?_
    refine AW.seq_k fun K hK => ?_
    refine AW.region (by decide) ?_
    simp only [push_cast, Nat.reduceAdd, Nat.reduceMul, Nat.reduceSub, Nat.reduceLeDiff, Nat.reduceLT, Nat.reduceEqDiff, Nat.reduceBEq, Nat.reduceBNe, Nat.reduceMod, Nat.reduceDiv, Int.reduceLE, Int.reduceLT, Int.reduceToNat, Int.reduceAdd, Int.reduceSub, Int.reduceMul, Int.reduceNeg, Int.reduceEq, Int.reduceBEq, Int.reduceBNe, ↓reduceIte, reduceCtorEq, String.reduceBNe, String.reduceEq, reduceDIte, Nat.reducePow, hb, lk_old hb, hb1, lk_old hb1, c1, c2, g]
    refine Thn_n ?_
    refine hK _ _ ?_
    clear hK K
    refine AW.seq_k fun K hK => ?_
    refine AW.draw [.val, .val, .val, .rd 0, .val, .val, .val, .rd 0, .val] fol (by decide) (by kernel_rfl) ?_
    simp only [push_cast, Nat.reduceAdd, Nat.reduceMul, Nat.reduceSub, Nat.reduceLeDiff, Nat.reduceLT, Nat.reduceEqDiff, Nat.reduceBEq, Nat.reduceBNe, Nat.reduceMod, Nat.reduceDiv, Int.reduceLE, Int.reduceLT, Int.reduceToNat, Int.reduceAdd, Int.reduceSub, Int.reduceMul, Int.reduceNeg, Int.reduceEq, Int.reduceBEq, Int.reduceBNe, ↓reduceIte, reduceCtorEq, String.reduceBNe, String.reduceEq, reduceDIte, Nat.reducePow, hb, lk_old hb, hb1, lk_old hb1, c1, c2, g]
    refine Thn_n ?_
    refine hK _ _ ?_
    clear hK K
    refine AW.cond_f rfl ?_
    refine AW.skip ?_
    refine InB_n ?_
    refine Thn_n ?_
    refine hK _ _ ?_
    clear hK K
    refine AW.region (by decide) ?_
    simp only [push_cast, Nat.reduceAdd, Nat.reduceMul, Nat.reduceSub, Nat.reduceLeDiff, Nat.reduceLT, Nat.reduceEqDiff, Nat.reduceBEq, Nat.reduceBNe, Nat.reduceMod, Nat.reduceDiv, Int.reduceLE, Int.reduceLT, Int.reduceToNat, Int.reduceAdd, Int.reduceSub, Int.reduceMul, Int.reduceNeg, Int.reduceEq, Int.reduceBEq, Int.reduceBNe, ↓reduceIte, reduceCtorEq, String.reduceBNe, String.reduceEq, reduceDIte, Nat.reducePow, hb, lk_old hb, hb1, lk_old hb1, c1, c2, g]
    refine Thn_n ?_
    have hwi : IntKind.i64.wrap ((i:Int)+1) = (i:Int)+1 := by rw [IntKind.wrap_i64]; omega
    refine ⟨i + 1, by omega, by omega, ?_⟩
    try simp only [keepL, setAll, push_cast, Nat.reduceAdd, Nat.reduceMul, Nat.reduceSub, Nat.reduceLeDiff, Nat.reduceLT, Nat.reduceEqDiff, Nat.reduceBEq, Nat.reduceBNe, Nat.reduceMod, Nat.reduceDiv, Int.reduceLE, Int.reduceLT, Int.reduceToNat, Int.reduceAdd, Int.reduceSub, Int.reduceMul, Int.reduceNeg, Int.reduceEq, Int.reduceBEq, Int.reduceBNe, ↓reduceIte, reduceCtorEq, String.reduceBNe, String.reduceEq, reduceDIte, Nat.reducePow, hb, lk_old hb, hb1, lk_old hb1, c1, c2, g, hwi]
    exact Weak.same (by simp only [Keeps, Tm.get_cons, Nat.reduceEqDiff, ↓reduceIte, if_true, if_false, ite_true, ite_false, true_and, and_true, and_self, reduceCtorEq, hwi]) (by first | rfl | simp only [Keeps, Tm.get_cons, Nat.reduceEqDiff, ↓reduceIte, if_true, if_false, ite_true, ite_false, true_and, and_true, and_self, reduceCtorEq, hwi])
  · refine AW.exit ?_
    refine Thn_e ?_
    clear hK K
    refine Thn_e ?_
    refine InB_here ?_
    refine Thn_n ?_
    refine hK _ _ ?_
    clear hK K
    refine AW.seq_k fun K hK => ?_
    refine AW.region (by decide) ?_
    simp only [push_cast, Nat.reduceAdd, Nat.reduceMul, Nat.reduceSub, Nat.reduceLeDiff, Nat.reduceLT, Nat.reduceEqDiff, Nat.reduceBEq, Nat.reduceBNe, Nat.reduceMod, Nat.reduceDiv, Int.reduceLE, Int.reduceLT, Int.reduceToNat, Int.reduceAdd, Int.reduceSub, Int.reduceMul, Int.reduceNeg, Int.reduceEq, Int.reduceBEq, Int.reduceBNe, ↓reduceIte, reduceCtorEq, String.reduceBNe, String.reduceEq, reduceDIte, Nat.reducePow, hb, lk_old hb, hb1, lk_old hb1]
    refine Thn_n ?_
    refine hK _ _ ?_
    clear hK K
    refine AW.ret ?_
    refine hQ _ _ _ ?_
    first | refine RetP.drop0 (Or.inr rfl) ?_ ?_ hwf | refine RetP.drop (Or.inr rfl) ?_ ?_ hwf
    · simp only [resA, resOne, resTv, AV.tv, push_cast, Nat.reduceAdd, Nat.reduceMul, Nat.reduceSub, Nat.reduceLeDiff, Nat.reduceLT, Nat.reduceEqDiff, Nat.reduceBEq, Nat.reduceBNe, Nat.reduceMod, Nat.reduceDiv, Int.reduceLE, Int.reduceLT, Int.reduceToNat, Int.reduceAdd, Int.reduceSub, Int.reduceMul, Int.reduceNeg, Int.reduceEq, Int.reduceBEq, Int.reduceBNe, ↓reduceIte, reduceCtorEq, String.reduceBNe, String.reduceEq, reduceDIte, Nat.reducePow, hb, lk_old hb, hb1, lk_old hb1]
    · rfl
end Go.Proofs.YtmjbbnfmhgcfaaaDoor

set_option linter.unusedSimpArgs false
set_option linter.unusedVariables false
set_option maxRecDepth 100000
set_option maxHeartbeats 4000000
namespace Go.Proofs.YtmjbbnfmhgcfaaaDoor
open Go Go.Eng

theorem nl_il (xs : List Nat) : nl xs = il xs.length (oF xs) := by
  refine il_of (nl_len xs) fun i hi => ?_
  simp only [nl, List.getElem?_map, List.getElem?_eq_getElem hi, Option.map_some, oF, List.getD_eq_getElem?_getD, Option.getD_some]
def J1 : List Int := 1 :: List.replicate 31 0
theorem j1_ok : U8ok J1 := fun x hx => by
  rcases List.mem_cons.1 hx with rfl | hx
  · omega
  · obtain ⟨_, rfl⟩ := List.mem_replicate.1 hx; omega
theorem awake_c (m : AMem) : Ctr Tryd.prog 4 [] m (.one (.bool true)) m := by
  refine Ctr.enter Tryd.func4 rfl (by decide) (rs := [.tmp 0]) (nt := 19) rfl rfl fun hwf Q hQ => ?_
  have hJ : [.int .u8 1, .int .u8 0, .int .u8 0, .int .u8 0, .int .u8 0, .int .u8 0, .int .u8 0, .int .u8 0, .int .u8 0, .int .u8 0, .int .u8 0, .int .u8 0, .int .u8 0, .int .u8 0, .int .u8 0, .int .u8 0, .int .u8 0, .int .u8 0, .int .u8 0, .int .u8 0, .int .u8 0, .int .u8 0, .int .u8 0, .int .u8 0, .int .u8 0, .int .u8 0, .int .u8 0, .int .u8 0, .int .u8 0, .int .u8 0, .int .u8 0, .int .u8 0] = u8l J1 := rfl
  have hG : rwG 2 = [⟨.grow, 3, 0, 1, nl (ndL 1)⟩, ⟨.grow, 3, 0, 1, nl (ndL 2)⟩, ⟨.grow, 3, 0, 1, nl (ndL 3)⟩, ⟨.grow, 3, 0, 1, nl (ndL 5)⟩, ⟨.grow, 3, 0, 1, nl (ndL 6)⟩, ⟨.grow, 3, 0, 1, nl (ndL 7)⟩] := rfl
  have h5 := wR_cell J1 (m.length + 2) 8 5 34 (by decide) (by decide)
  have h5b : (wC J1 (m.length + 2) 5)[34]? = some (.sl (m.length + 5) 0 0 3) := by
    have hl : (u8l (ky J1 5)).length = 32 := by rw [u8l_len, ky_len]
    simp only [wC, List.getElem?_cons_succ]
    rw [List.getElem?_append_right (by omega), hl]; rfl
  rw [h5b] at h5
  simp only [push_cast, Nat.reduceAdd, Nat.reduceMul, Nat.reduceSub, Nat.reduceLeDiff, Nat.reduceLT, Nat.reduceEqDiff, Nat.reduceBEq, Nat.reduceBNe, Nat.reduceMod, Nat.reduceDiv, Int.reduceLE, Int.reduceLT, Int.reduceToNat, Int.reduceAdd, Int.reduceSub, Int.reduceMul, Int.reduceNeg, Int.reduceEq, Int.reduceBEq, Int.reduceBNe, ↓reduceIte, reduceCtorEq, String.reduceBNe, String.reduceEq, reduceDIte, Nat.reducePow] at h5
  refine AW.seq_k fun K hK => ?_
  refine AW.region (by decide) ?_
  simp only [push_cast, Nat.reduceAdd, Nat.reduceMul, Nat.reduceSub, Nat.reduceLeDiff, Nat.reduceLT, Nat.reduceEqDiff, Nat.reduceBEq, Nat.reduceBNe, Nat.reduceMod, Nat.reduceDiv, Int.reduceLE, Int.reduceLT, Int.reduceToNat, Int.reduceAdd, Int.reduceSub, Int.reduceMul, Int.reduceNeg, Int.reduceEq, Int.reduceBEq, Int.reduceBNe, ↓reduceIte, reduceCtorEq, String.reduceBNe, String.reduceEq, reduceDIte, Nat.reducePow, hJ, hG, h5]
  refine Thn_n ?_
  refine hK _ _ ?_
  clear hK K
  refine AW.seq_k fun K hK => ?_
  refine AW.region (by decide) ?_
  simp only [push_cast, Nat.reduceAdd, Nat.reduceMul, Nat.reduceSub, Nat.reduceLeDiff, Nat.reduceLT, Nat.reduceEqDiff, Nat.reduceBEq, Nat.reduceBNe, Nat.reduceMod, Nat.reduceDiv, Int.reduceLE, Int.reduceLT, Int.reduceToNat, Int.reduceAdd, Int.reduceSub, Int.reduceMul, Int.reduceNeg, Int.reduceEq, Int.reduceBEq, Int.reduceBNe, ↓reduceIte, reduceCtorEq, String.reduceBNe, String.reduceEq, reduceDIte, Nat.reducePow, hJ, hG, h5]
  refine CThen.by (works_c J1 2 2 _ rfl j1_ok (by decide) (by decide)) ?_
  simp only [push_cast, Nat.reduceAdd, Nat.reduceMul, Nat.reduceSub, Nat.reduceLeDiff, Nat.reduceLT, Nat.reduceEqDiff, Nat.reduceBEq, Nat.reduceBNe, Nat.reduceMod, Nat.reduceDiv, Int.reduceLE, Int.reduceLT, Int.reduceToNat, Int.reduceAdd, Int.reduceSub, Int.reduceMul, Int.reduceNeg, Int.reduceEq, Int.reduceBEq, Int.reduceBNe, ↓reduceIte, reduceCtorEq, String.reduceBNe, String.reduceEq, reduceDIte, Nat.reducePow, hJ, hG, h5]
  refine Thn_n ?_
  refine hK _ _ ?_
  clear hK K
  refine AW.seq_k fun K hK => ?_
  refine AW.region (by decide) ?_
  simp only [push_cast, Nat.reduceAdd, Nat.reduceMul, Nat.reduceSub, Nat.reduceLeDiff, Nat.reduceLT, Nat.reduceEqDiff, Nat.reduceBEq, Nat.reduceBNe, Nat.reduceMod, Nat.reduceDiv, Int.reduceLE, Int.reduceLT, Int.reduceToNat, Int.reduceAdd, Int.reduceSub, Int.reduceMul, Int.reduceNeg, Int.reduceEq, Int.reduceBEq, Int.reduceBNe, ↓reduceIte, reduceCtorEq, String.reduceBNe, String.reduceEq, reduceDIte, Nat.reducePow, hJ, hG, h5]
  refine CThen.by (same_c (m.length + 5) 0 (m.length + 8) 0 3 (oF [4, 0, 1]) _ ⟨⟨.grow, 1, by simp only [push_cast, Nat.reduceAdd, Nat.reduceMul, Nat.reduceSub, Nat.reduceLeDiff, Nat.reduceLT, Nat.reduceEqDiff, Nat.reduceBEq, Nat.reduceBNe, Nat.reduceMod, Nat.reduceDiv, Int.reduceLE, Int.reduceLT, Int.reduceToNat, Int.reduceAdd, Int.reduceSub, Int.reduceMul, Int.reduceNeg, Int.reduceEq, Int.reduceBEq, Int.reduceBNe, ↓reduceIte, reduceCtorEq, String.reduceBNe, String.reduceEq, reduceDIte, Nat.reducePow]; rfl⟩⟩ ⟨⟨.grow, 1, by simp only [push_cast, Nat.reduceAdd, Nat.reduceMul, Nat.reduceSub, Nat.reduceLeDiff, Nat.reduceLT, Nat.reduceEqDiff, Nat.reduceBEq, Nat.reduceBNe, Nat.reduceMod, Nat.reduceDiv, Int.reduceLE, Int.reduceLT, Int.reduceToNat, Int.reduceAdd, Int.reduceSub, Int.reduceMul, Int.reduceNeg, Int.reduceEq, Int.reduceBEq, Int.reduceBNe, ↓reduceIte, reduceCtorEq, String.reduceBNe, String.reduceEq, reduceDIte, Nat.reducePow]; rfl⟩⟩ (by decide)) ?_
  simp only [push_cast, Nat.reduceAdd, Nat.reduceMul, Nat.reduceSub, Nat.reduceLeDiff, Nat.reduceLT, Nat.reduceEqDiff, Nat.reduceBEq, Nat.reduceBNe, Nat.reduceMod, Nat.reduceDiv, Int.reduceLE, Int.reduceLT, Int.reduceToNat, Int.reduceAdd, Int.reduceSub, Int.reduceMul, Int.reduceNeg, Int.reduceEq, Int.reduceBEq, Int.reduceBNe, ↓reduceIte, reduceCtorEq, String.reduceBNe, String.reduceEq, reduceDIte, Nat.reducePow, hJ, hG, h5]
  refine CThen.by (at_c 1 1 _ (by decide) (by decide)) ?_
  simp only [push_cast, Nat.reduceAdd, Nat.reduceMul, Nat.reduceSub, Nat.reduceLeDiff, Nat.reduceLT, Nat.reduceEqDiff, Nat.reduceBEq, Nat.reduceBNe, Nat.reduceMod, Nat.reduceDiv, Int.reduceLE, Int.reduceLT, Int.reduceToNat, Int.reduceAdd, Int.reduceSub, Int.reduceMul, Int.reduceNeg, Int.reduceEq, Int.reduceBEq, Int.reduceBNe, ↓reduceIte, reduceCtorEq, String.reduceBNe, String.reduceEq, reduceDIte, Nat.reducePow, hJ, hG, h5]
  refine Thn_n ?_
  refine hK _ _ ?_
  clear hK K
  refine AW.ret ?_
  refine hQ _ _ _ ?_
  first | refine RetP.drop0 (Or.inr rfl) ?_ ?_ hwf | refine RetP.drop (Or.inr rfl) ?_ ?_ hwf
  · simp only [resA, resOne, resTv, AV.tv, push_cast, Nat.reduceAdd, Nat.reduceMul, Nat.reduceSub, Nat.reduceLeDiff, Nat.reduceLT, Nat.reduceEqDiff, Nat.reduceBEq, Nat.reduceBNe, Nat.reduceMod, Nat.reduceDiv, Int.reduceLE, Int.reduceLT, Int.reduceToNat, Int.reduceAdd, Int.reduceSub, Int.reduceMul, Int.reduceNeg, Int.reduceEq, Int.reduceBEq, Int.reduceBNe, ↓reduceIte, reduceCtorEq, String.reduceBNe, String.reduceEq, reduceDIte, Nat.reducePow, hJ, hG, h5]
  · rfl
end Go.Proofs.YtmjbbnfmhgcfaaaDoor

set_option linter.unusedSimpArgs false
set_option linter.unusedVariables false
set_option maxRecDepth 100000
set_option maxHeartbeats 4000000
namespace Go.Proofs.YtmjbbnfmhgcfaaaDoor
open Go Go.Eng

def NMS : List CV := [.str { data := #[116, 114, 97, 99, 101] }, .str { data := #[119, 97, 114, 112] }, .str { data := #[108, 97, 99, 101] }, .str { data := #[112, 108, 97, 116, 101] }]
def nmB (k : Int) : ByteArray := if k < 0 ∨ 4 ≤ k then { data := #[] } else if k = 0 then { data := #[116, 114, 97, 99, 101] } else if k = 1 then { data := #[119, 97, 114, 112] } else if k = 2 then { data := #[108, 97, 99, 101] } else { data := #[112, 108, 97, 116, 101] }
theorem sname_lo (k : Int) (m : AMem) (hk : k < 0) : Ctr Tryd.prog 10 [.one (.int .i64 k)] m (.one (.str { data := #[] })) m := by
  refine Ctr.enter Tryd.func10 rfl (by decide) (rs := [.tmp 2]) (nt := 12) rfl rfl fun hwf Q hQ => ?_
  have c1 : k < 0 := hk
  refine AW.seq_k fun K hK => ?_
  refine AW.region (by decide) ?_
  simp only [push_cast, Nat.reduceAdd, Nat.reduceMul, Nat.reduceSub, Nat.reduceLeDiff, Nat.reduceLT, Nat.reduceEqDiff, Nat.reduceBEq, Nat.reduceBNe, Nat.reduceMod, Nat.reduceDiv, Int.reduceLE, Int.reduceLT, Int.reduceToNat, Int.reduceAdd, Int.reduceSub, Int.reduceMul, Int.reduceNeg, Int.reduceEq, Int.reduceBEq, Int.reduceBNe, ↓reduceIte, reduceCtorEq, String.reduceBNe, String.reduceEq, reduceDIte, Nat.reducePow, c1]
  refine Thn_n ?_
  refine hK _ _ ?_
  clear hK K
  refine AW.seq_k fun K hK => ?_
  refine AW.seq_k fun K hK => ?_
  refine AW.region (by decide) ?_
  simp only [push_cast, Nat.reduceAdd, Nat.reduceMul, Nat.reduceSub, Nat.reduceLeDiff, Nat.reduceLT, Nat.reduceEqDiff, Nat.reduceBEq, Nat.reduceBNe, Nat.reduceMod, Nat.reduceDiv, Int.reduceLE, Int.reduceLT, Int.reduceToNat, Int.reduceAdd, Int.reduceSub, Int.reduceMul, Int.reduceNeg, Int.reduceEq, Int.reduceBEq, Int.reduceBNe, ↓reduceIte, reduceCtorEq, String.reduceBNe, String.reduceEq, reduceDIte, Nat.reducePow, c1]
  refine Thn_n ?_
  refine hK _ _ ?_
  clear hK K
  refine AW.cond_t rfl ?_
  refine AW.seq_k fun K hK => ?_
  refine AW.region (by decide) ?_
  simp only [push_cast, Nat.reduceAdd, Nat.reduceMul, Nat.reduceSub, Nat.reduceLeDiff, Nat.reduceLT, Nat.reduceEqDiff, Nat.reduceBEq, Nat.reduceBNe, Nat.reduceMod, Nat.reduceDiv, Int.reduceLE, Int.reduceLT, Int.reduceToNat, Int.reduceAdd, Int.reduceSub, Int.reduceMul, Int.reduceNeg, Int.reduceEq, Int.reduceBEq, Int.reduceBNe, ↓reduceIte, reduceCtorEq, String.reduceBNe, String.reduceEq, reduceDIte, Nat.reducePow, c1]
  refine Thn_n ?_
  refine hK _ _ ?_
  clear hK K
  refine AW.ret ?_
  refine Thn_r ?_
  refine hQ _ _ _ ?_
  first | refine RetP.drop0 (Or.inr rfl) ?_ ?_ hwf | refine RetP.drop (Or.inr rfl) ?_ ?_ hwf
  · simp only [resA, resOne, resTv, AV.tv, push_cast, Nat.reduceAdd, Nat.reduceMul, Nat.reduceSub, Nat.reduceLeDiff, Nat.reduceLT, Nat.reduceEqDiff, Nat.reduceBEq, Nat.reduceBNe, Nat.reduceMod, Nat.reduceDiv, Int.reduceLE, Int.reduceLT, Int.reduceToNat, Int.reduceAdd, Int.reduceSub, Int.reduceMul, Int.reduceNeg, Int.reduceEq, Int.reduceBEq, Int.reduceBNe, ↓reduceIte, reduceCtorEq, String.reduceBNe, String.reduceEq, reduceDIte, Nat.reducePow, c1]
  · rfl
theorem sname_hi (k : Int) (m : AMem) (hk : 4 ≤ k) : Ctr Tryd.prog 10 [.one (.int .i64 k)] m (.one (.str { data := #[] })) m := by
  refine Ctr.enter Tryd.func10 rfl (by decide) (rs := [.tmp 2]) (nt := 12) rfl rfl fun hwf Q hQ => ?_
  have c1 : ¬ k < 0 := by omega
  have c2 : 4 ≤ k := hk
  refine AW.seq_k fun K hK => ?_
  refine AW.region (by decide) ?_
  simp only [push_cast, Nat.reduceAdd, Nat.reduceMul, Nat.reduceSub, Nat.reduceLeDiff, Nat.reduceLT, Nat.reduceEqDiff, Nat.reduceBEq, Nat.reduceBNe, Nat.reduceMod, Nat.reduceDiv, Int.reduceLE, Int.reduceLT, Int.reduceToNat, Int.reduceAdd, Int.reduceSub, Int.reduceMul, Int.reduceNeg, Int.reduceEq, Int.reduceBEq, Int.reduceBNe, ↓reduceIte, reduceCtorEq, String.reduceBNe, String.reduceEq, reduceDIte, Nat.reducePow, c1, c2]
  refine Thn_n ?_
  refine hK _ _ ?_
  clear hK K
  refine AW.seq_k fun K hK => ?_
  refine AW.seq_k fun K hK => ?_
  refine AW.region (by decide) ?_
  simp only [push_cast, Nat.reduceAdd, Nat.reduceMul, Nat.reduceSub, Nat.reduceLeDiff, Nat.reduceLT, Nat.reduceEqDiff, Nat.reduceBEq, Nat.reduceBNe, Nat.reduceMod, Nat.reduceDiv, Int.reduceLE, Int.reduceLT, Int.reduceToNat, Int.reduceAdd, Int.reduceSub, Int.reduceMul, Int.reduceNeg, Int.reduceEq, Int.reduceBEq, Int.reduceBNe, ↓reduceIte, reduceCtorEq, String.reduceBNe, String.reduceEq, reduceDIte, Nat.reducePow, c1, c2]
  refine Thn_n ?_
  refine hK _ _ ?_
  clear hK K
  refine AW.cond_t rfl ?_
  refine AW.seq_k fun K hK => ?_
  refine AW.region (by decide) ?_
  simp only [push_cast, Nat.reduceAdd, Nat.reduceMul, Nat.reduceSub, Nat.reduceLeDiff, Nat.reduceLT, Nat.reduceEqDiff, Nat.reduceBEq, Nat.reduceBNe, Nat.reduceMod, Nat.reduceDiv, Int.reduceLE, Int.reduceLT, Int.reduceToNat, Int.reduceAdd, Int.reduceSub, Int.reduceMul, Int.reduceNeg, Int.reduceEq, Int.reduceBEq, Int.reduceBNe, ↓reduceIte, reduceCtorEq, String.reduceBNe, String.reduceEq, reduceDIte, Nat.reducePow, c1, c2]
  refine Thn_n ?_
  refine hK _ _ ?_
  clear hK K
  refine AW.ret ?_
  refine Thn_r ?_
  refine hQ _ _ _ ?_
  first | refine RetP.drop0 (Or.inr rfl) ?_ ?_ hwf | refine RetP.drop (Or.inr rfl) ?_ ?_ hwf
  · simp only [resA, resOne, resTv, AV.tv, push_cast, Nat.reduceAdd, Nat.reduceMul, Nat.reduceSub, Nat.reduceLeDiff, Nat.reduceLT, Nat.reduceEqDiff, Nat.reduceBEq, Nat.reduceBNe, Nat.reduceMod, Nat.reduceDiv, Int.reduceLE, Int.reduceLT, Int.reduceToNat, Int.reduceAdd, Int.reduceSub, Int.reduceMul, Int.reduceNeg, Int.reduceEq, Int.reduceBEq, Int.reduceBNe, ↓reduceIte, reduceCtorEq, String.reduceBNe, String.reduceEq, reduceDIte, Nat.reducePow, c1, c2]
  · rfl
theorem sname_0 (m : AMem) (hg : gB m 0 = some NMS) : Ctr Tryd.prog 10 [.one (.int .i64 0)] m (.one (.str { data := #[116, 114, 97, 99, 101] })) m := by
  refine Ctr.enter Tryd.func10 rfl (by decide) (rs := [.tmp 2]) (nt := 12) rfl rfl fun hwf Q hQ => ?_
  refine AW.seq_k fun K hK => ?_
  refine AW.region (by decide) ?_
  simp only [push_cast, Nat.reduceAdd, Nat.reduceMul, Nat.reduceSub, Nat.reduceLeDiff, Nat.reduceLT, Nat.reduceEqDiff, Nat.reduceBEq, Nat.reduceBNe, Nat.reduceMod, Nat.reduceDiv, Int.reduceLE, Int.reduceLT, Int.reduceToNat, Int.reduceAdd, Int.reduceSub, Int.reduceMul, Int.reduceNeg, Int.reduceEq, Int.reduceBEq, Int.reduceBNe, ↓reduceIte, reduceCtorEq, String.reduceBNe, String.reduceEq, reduceDIte, Nat.reducePow, hg, NMS]
  refine Thn_n ?_
  refine hK _ _ ?_
  clear hK K
  refine AW.seq_k fun K hK => ?_
  refine AW.seq_k fun K hK => ?_
  refine AW.region (by decide) ?_
  simp only [push_cast, Nat.reduceAdd, Nat.reduceMul, Nat.reduceSub, Nat.reduceLeDiff, Nat.reduceLT, Nat.reduceEqDiff, Nat.reduceBEq, Nat.reduceBNe, Nat.reduceMod, Nat.reduceDiv, Int.reduceLE, Int.reduceLT, Int.reduceToNat, Int.reduceAdd, Int.reduceSub, Int.reduceMul, Int.reduceNeg, Int.reduceEq, Int.reduceBEq, Int.reduceBNe, ↓reduceIte, reduceCtorEq, String.reduceBNe, String.reduceEq, reduceDIte, Nat.reducePow, hg, NMS]
  refine Thn_n ?_
  refine hK _ _ ?_
  clear hK K
  refine AW.cond_f rfl ?_
  refine AW.skip ?_
  refine Thn_n ?_
  refine hK _ _ ?_
  clear hK K
  refine AW.seq_k fun K hK => ?_
  refine AW.region (by decide) ?_
  simp only [push_cast, Nat.reduceAdd, Nat.reduceMul, Nat.reduceSub, Nat.reduceLeDiff, Nat.reduceLT, Nat.reduceEqDiff, Nat.reduceBEq, Nat.reduceBNe, Nat.reduceMod, Nat.reduceDiv, Int.reduceLE, Int.reduceLT, Int.reduceToNat, Int.reduceAdd, Int.reduceSub, Int.reduceMul, Int.reduceNeg, Int.reduceEq, Int.reduceBEq, Int.reduceBNe, ↓reduceIte, reduceCtorEq, String.reduceBNe, String.reduceEq, reduceDIte, Nat.reducePow, hg, NMS]
  refine Thn_n ?_
  refine hK _ _ ?_
  clear hK K
  refine AW.ret ?_
  refine hQ _ _ _ ?_
  first | refine RetP.drop0 (Or.inr rfl) ?_ ?_ hwf | refine RetP.drop (Or.inr rfl) ?_ ?_ hwf
  · simp only [resA, resOne, resTv, AV.tv, push_cast, Nat.reduceAdd, Nat.reduceMul, Nat.reduceSub, Nat.reduceLeDiff, Nat.reduceLT, Nat.reduceEqDiff, Nat.reduceBEq, Nat.reduceBNe, Nat.reduceMod, Nat.reduceDiv, Int.reduceLE, Int.reduceLT, Int.reduceToNat, Int.reduceAdd, Int.reduceSub, Int.reduceMul, Int.reduceNeg, Int.reduceEq, Int.reduceBEq, Int.reduceBNe, ↓reduceIte, reduceCtorEq, String.reduceBNe, String.reduceEq, reduceDIte, Nat.reducePow, hg, NMS]
  · rfl
theorem sname_1 (m : AMem) (hg : gB m 0 = some NMS) : Ctr Tryd.prog 10 [.one (.int .i64 1)] m (.one (.str { data := #[119, 97, 114, 112] })) m := by
  refine Ctr.enter Tryd.func10 rfl (by decide) (rs := [.tmp 2]) (nt := 12) rfl rfl fun hwf Q hQ => ?_
  refine AW.seq_k fun K hK => ?_
  refine AW.region (by decide) ?_
  simp only [push_cast, Nat.reduceAdd, Nat.reduceMul, Nat.reduceSub, Nat.reduceLeDiff, Nat.reduceLT, Nat.reduceEqDiff, Nat.reduceBEq, Nat.reduceBNe, Nat.reduceMod, Nat.reduceDiv, Int.reduceLE, Int.reduceLT, Int.reduceToNat, Int.reduceAdd, Int.reduceSub, Int.reduceMul, Int.reduceNeg, Int.reduceEq, Int.reduceBEq, Int.reduceBNe, ↓reduceIte, reduceCtorEq, String.reduceBNe, String.reduceEq, reduceDIte, Nat.reducePow, hg, NMS]
  refine Thn_n ?_
  refine hK _ _ ?_
  clear hK K
  refine AW.seq_k fun K hK => ?_
  refine AW.seq_k fun K hK => ?_
  refine AW.region (by decide) ?_
  simp only [push_cast, Nat.reduceAdd, Nat.reduceMul, Nat.reduceSub, Nat.reduceLeDiff, Nat.reduceLT, Nat.reduceEqDiff, Nat.reduceBEq, Nat.reduceBNe, Nat.reduceMod, Nat.reduceDiv, Int.reduceLE, Int.reduceLT, Int.reduceToNat, Int.reduceAdd, Int.reduceSub, Int.reduceMul, Int.reduceNeg, Int.reduceEq, Int.reduceBEq, Int.reduceBNe, ↓reduceIte, reduceCtorEq, String.reduceBNe, String.reduceEq, reduceDIte, Nat.reducePow, hg, NMS]
  refine Thn_n ?_
  refine hK _ _ ?_
  clear hK K
  refine AW.cond_f rfl ?_
  refine AW.skip ?_
  refine Thn_n ?_
  refine hK _ _ ?_
  clear hK K
  refine AW.seq_k fun K hK => ?_
  refine AW.region (by decide) ?_
  simp only [push_cast, Nat.reduceAdd, Nat.reduceMul, Nat.reduceSub, Nat.reduceLeDiff, Nat.reduceLT, Nat.reduceEqDiff, Nat.reduceBEq, Nat.reduceBNe, Nat.reduceMod, Nat.reduceDiv, Int.reduceLE, Int.reduceLT, Int.reduceToNat, Int.reduceAdd, Int.reduceSub, Int.reduceMul, Int.reduceNeg, Int.reduceEq, Int.reduceBEq, Int.reduceBNe, ↓reduceIte, reduceCtorEq, String.reduceBNe, String.reduceEq, reduceDIte, Nat.reducePow, hg, NMS]
  refine Thn_n ?_
  refine hK _ _ ?_
  clear hK K
  refine AW.ret ?_
  refine hQ _ _ _ ?_
  first | refine RetP.drop0 (Or.inr rfl) ?_ ?_ hwf | refine RetP.drop (Or.inr rfl) ?_ ?_ hwf
  · simp only [resA, resOne, resTv, AV.tv, push_cast, Nat.reduceAdd, Nat.reduceMul, Nat.reduceSub, Nat.reduceLeDiff, Nat.reduceLT, Nat.reduceEqDiff, Nat.reduceBEq, Nat.reduceBNe, Nat.reduceMod, Nat.reduceDiv, Int.reduceLE, Int.reduceLT, Int.reduceToNat, Int.reduceAdd, Int.reduceSub, Int.reduceMul, Int.reduceNeg, Int.reduceEq, Int.reduceBEq, Int.reduceBNe, ↓reduceIte, reduceCtorEq, String.reduceBNe, String.reduceEq, reduceDIte, Nat.reducePow, hg, NMS]
  · rfl
theorem sname_2 (m : AMem) (hg : gB m 0 = some NMS) : Ctr Tryd.prog 10 [.one (.int .i64 2)] m (.one (.str { data := #[108, 97, 99, 101] })) m := by
  refine Ctr.enter Tryd.func10 rfl (by decide) (rs := [.tmp 2]) (nt := 12) rfl rfl fun hwf Q hQ => ?_
  refine AW.seq_k fun K hK => ?_
  refine AW.region (by decide) ?_
  simp only [push_cast, Nat.reduceAdd, Nat.reduceMul, Nat.reduceSub, Nat.reduceLeDiff, Nat.reduceLT, Nat.reduceEqDiff, Nat.reduceBEq, Nat.reduceBNe, Nat.reduceMod, Nat.reduceDiv, Int.reduceLE, Int.reduceLT, Int.reduceToNat, Int.reduceAdd, Int.reduceSub, Int.reduceMul, Int.reduceNeg, Int.reduceEq, Int.reduceBEq, Int.reduceBNe, ↓reduceIte, reduceCtorEq, String.reduceBNe, String.reduceEq, reduceDIte, Nat.reducePow, hg, NMS]
  refine Thn_n ?_
  refine hK _ _ ?_
  clear hK K
  refine AW.seq_k fun K hK => ?_
  refine AW.seq_k fun K hK => ?_
  refine AW.region (by decide) ?_
  simp only [push_cast, Nat.reduceAdd, Nat.reduceMul, Nat.reduceSub, Nat.reduceLeDiff, Nat.reduceLT, Nat.reduceEqDiff, Nat.reduceBEq, Nat.reduceBNe, Nat.reduceMod, Nat.reduceDiv, Int.reduceLE, Int.reduceLT, Int.reduceToNat, Int.reduceAdd, Int.reduceSub, Int.reduceMul, Int.reduceNeg, Int.reduceEq, Int.reduceBEq, Int.reduceBNe, ↓reduceIte, reduceCtorEq, String.reduceBNe, String.reduceEq, reduceDIte, Nat.reducePow, hg, NMS]
  refine Thn_n ?_
  refine hK _ _ ?_
  clear hK K
  refine AW.cond_f rfl ?_
  refine AW.skip ?_
  refine Thn_n ?_
  refine hK _ _ ?_
  clear hK K
  refine AW.seq_k fun K hK => ?_
  refine AW.region (by decide) ?_
  simp only [push_cast, Nat.reduceAdd, Nat.reduceMul, Nat.reduceSub, Nat.reduceLeDiff, Nat.reduceLT, Nat.reduceEqDiff, Nat.reduceBEq, Nat.reduceBNe, Nat.reduceMod, Nat.reduceDiv, Int.reduceLE, Int.reduceLT, Int.reduceToNat, Int.reduceAdd, Int.reduceSub, Int.reduceMul, Int.reduceNeg, Int.reduceEq, Int.reduceBEq, Int.reduceBNe, ↓reduceIte, reduceCtorEq, String.reduceBNe, String.reduceEq, reduceDIte, Nat.reducePow, hg, NMS]
  refine Thn_n ?_
  refine hK _ _ ?_
  clear hK K
  refine AW.ret ?_
  refine hQ _ _ _ ?_
  first | refine RetP.drop0 (Or.inr rfl) ?_ ?_ hwf | refine RetP.drop (Or.inr rfl) ?_ ?_ hwf
  · simp only [resA, resOne, resTv, AV.tv, push_cast, Nat.reduceAdd, Nat.reduceMul, Nat.reduceSub, Nat.reduceLeDiff, Nat.reduceLT, Nat.reduceEqDiff, Nat.reduceBEq, Nat.reduceBNe, Nat.reduceMod, Nat.reduceDiv, Int.reduceLE, Int.reduceLT, Int.reduceToNat, Int.reduceAdd, Int.reduceSub, Int.reduceMul, Int.reduceNeg, Int.reduceEq, Int.reduceBEq, Int.reduceBNe, ↓reduceIte, reduceCtorEq, String.reduceBNe, String.reduceEq, reduceDIte, Nat.reducePow, hg, NMS]
  · rfl
theorem sname_3 (m : AMem) (hg : gB m 0 = some NMS) : Ctr Tryd.prog 10 [.one (.int .i64 3)] m (.one (.str { data := #[112, 108, 97, 116, 101] })) m := by
  refine Ctr.enter Tryd.func10 rfl (by decide) (rs := [.tmp 2]) (nt := 12) rfl rfl fun hwf Q hQ => ?_
  refine AW.seq_k fun K hK => ?_
  refine AW.region (by decide) ?_
  simp only [push_cast, Nat.reduceAdd, Nat.reduceMul, Nat.reduceSub, Nat.reduceLeDiff, Nat.reduceLT, Nat.reduceEqDiff, Nat.reduceBEq, Nat.reduceBNe, Nat.reduceMod, Nat.reduceDiv, Int.reduceLE, Int.reduceLT, Int.reduceToNat, Int.reduceAdd, Int.reduceSub, Int.reduceMul, Int.reduceNeg, Int.reduceEq, Int.reduceBEq, Int.reduceBNe, ↓reduceIte, reduceCtorEq, String.reduceBNe, String.reduceEq, reduceDIte, Nat.reducePow, hg, NMS]
  refine Thn_n ?_
  refine hK _ _ ?_
  clear hK K
  refine AW.seq_k fun K hK => ?_
  refine AW.seq_k fun K hK => ?_
  refine AW.region (by decide) ?_
  simp only [push_cast, Nat.reduceAdd, Nat.reduceMul, Nat.reduceSub, Nat.reduceLeDiff, Nat.reduceLT, Nat.reduceEqDiff, Nat.reduceBEq, Nat.reduceBNe, Nat.reduceMod, Nat.reduceDiv, Int.reduceLE, Int.reduceLT, Int.reduceToNat, Int.reduceAdd, Int.reduceSub, Int.reduceMul, Int.reduceNeg, Int.reduceEq, Int.reduceBEq, Int.reduceBNe, ↓reduceIte, reduceCtorEq, String.reduceBNe, String.reduceEq, reduceDIte, Nat.reducePow, hg, NMS]
  refine Thn_n ?_
  refine hK _ _ ?_
  clear hK K
  refine AW.cond_f rfl ?_
  refine AW.skip ?_
  refine Thn_n ?_
  refine hK _ _ ?_
  clear hK K
  refine AW.seq_k fun K hK => ?_
  refine AW.region (by decide) ?_
  simp only [push_cast, Nat.reduceAdd, Nat.reduceMul, Nat.reduceSub, Nat.reduceLeDiff, Nat.reduceLT, Nat.reduceEqDiff, Nat.reduceBEq, Nat.reduceBNe, Nat.reduceMod, Nat.reduceDiv, Int.reduceLE, Int.reduceLT, Int.reduceToNat, Int.reduceAdd, Int.reduceSub, Int.reduceMul, Int.reduceNeg, Int.reduceEq, Int.reduceBEq, Int.reduceBNe, ↓reduceIte, reduceCtorEq, String.reduceBNe, String.reduceEq, reduceDIte, Nat.reducePow, hg, NMS]
  refine Thn_n ?_
  refine hK _ _ ?_
  clear hK K
  refine AW.ret ?_
  refine hQ _ _ _ ?_
  first | refine RetP.drop0 (Or.inr rfl) ?_ ?_ hwf | refine RetP.drop (Or.inr rfl) ?_ ?_ hwf
  · simp only [resA, resOne, resTv, AV.tv, push_cast, Nat.reduceAdd, Nat.reduceMul, Nat.reduceSub, Nat.reduceLeDiff, Nat.reduceLT, Nat.reduceEqDiff, Nat.reduceBEq, Nat.reduceBNe, Nat.reduceMod, Nat.reduceDiv, Int.reduceLE, Int.reduceLT, Int.reduceToNat, Int.reduceAdd, Int.reduceSub, Int.reduceMul, Int.reduceNeg, Int.reduceEq, Int.reduceBEq, Int.reduceBNe, ↓reduceIte, reduceCtorEq, String.reduceBNe, String.reduceEq, reduceDIte, Nat.reducePow, hg, NMS]
  · rfl
theorem sname_c (k : Int) (m : AMem) (hg : gB m 0 = some NMS) : Ctr Tryd.prog 10 [.one (.int .i64 k)] m (.one (.str (nmB k))) m := by
  rcases Int.lt_or_le k 0 with h0 | h0
  · have e : nmB k = { data := #[] } := if_pos (.inl h0)
    rw [e]; exact sname_lo k m h0
  · rcases Int.lt_or_le k 4 with h4 | h4
    · have hc : k = 0 ∨ k = 1 ∨ k = 2 ∨ k = 3 := by omega
      rcases hc with rfl | rfl | rfl | rfl
      · exact sname_0 m hg
      · exact sname_1 m hg
      · exact sname_2 m hg
      · exact sname_3 m hg
    · have e : nmB k = { data := #[] } := if_pos (.inr h4)
      rw [e]; exact sname_hi k m h4
theorem rname_lo (k : Int) (m : AMem) (hk : k < 0) : Ctr Tryd.prog 11 [.one (.int .i64 k)] m (.one (.str { data := #[] })) m := by
  refine Ctr.enter Tryd.func11 rfl (by decide) (rs := [.tmp 2]) (nt := 17) rfl rfl fun hwf Q hQ => ?_
  have c1 : k < 0 := hk
  iterate 2
    refine AW.seq_k fun K hK => ?_
    refine AW.region (by decide) ?_
    simp only [push_cast, Nat.reduceAdd, Nat.reduceMul, Nat.reduceSub, Nat.reduceLeDiff, Nat.reduceLT, Nat.reduceEqDiff, Nat.reduceBEq, Nat.reduceBNe, Nat.reduceMod, Nat.reduceDiv, Int.reduceLE, Int.reduceLT, Int.reduceToNat, Int.reduceAdd, Int.reduceSub, Int.reduceMul, Int.reduceNeg, Int.reduceEq, Int.reduceBEq, Int.reduceBNe, ↓reduceIte, reduceCtorEq, String.reduceBNe, String.reduceEq, reduceDIte, Nat.reducePow, c1]
    refine Thn_n ?_
    refine hK _ _ ?_
    clear hK K
  refine AW.seq_k fun K hK => ?_
  refine AW.seq_k fun K hK => ?_
  refine AW.region (by decide) ?_
  simp only [push_cast, Nat.reduceAdd, Nat.reduceMul, Nat.reduceSub, Nat.reduceLeDiff, Nat.reduceLT, Nat.reduceEqDiff, Nat.reduceBEq, Nat.reduceBNe, Nat.reduceMod, Nat.reduceDiv, Int.reduceLE, Int.reduceLT, Int.reduceToNat, Int.reduceAdd, Int.reduceSub, Int.reduceMul, Int.reduceNeg, Int.reduceEq, Int.reduceBEq, Int.reduceBNe, ↓reduceIte, reduceCtorEq, String.reduceBNe, String.reduceEq, reduceDIte, Nat.reducePow, c1]
  refine Thn_n ?_
  refine hK _ _ ?_
  clear hK K
  refine AW.cond_t rfl ?_
  refine AW.seq_k fun K hK => ?_
  refine AW.region (by decide) ?_
  simp only [push_cast, Nat.reduceAdd, Nat.reduceMul, Nat.reduceSub, Nat.reduceLeDiff, Nat.reduceLT, Nat.reduceEqDiff, Nat.reduceBEq, Nat.reduceBNe, Nat.reduceMod, Nat.reduceDiv, Int.reduceLE, Int.reduceLT, Int.reduceToNat, Int.reduceAdd, Int.reduceSub, Int.reduceMul, Int.reduceNeg, Int.reduceEq, Int.reduceBEq, Int.reduceBNe, ↓reduceIte, reduceCtorEq, String.reduceBNe, String.reduceEq, reduceDIte, Nat.reducePow, c1]
  refine Thn_n ?_
  refine hK _ _ ?_
  clear hK K
  refine AW.ret ?_
  refine Thn_r ?_
  refine hQ _ _ _ ?_
  first | refine RetP.drop0 (Or.inr rfl) ?_ ?_ hwf | refine RetP.drop (Or.inr rfl) ?_ ?_ hwf
  · simp only [resA, resOne, resTv, AV.tv, push_cast, Nat.reduceAdd, Nat.reduceMul, Nat.reduceSub, Nat.reduceLeDiff, Nat.reduceLT, Nat.reduceEqDiff, Nat.reduceBEq, Nat.reduceBNe, Nat.reduceMod, Nat.reduceDiv, Int.reduceLE, Int.reduceLT, Int.reduceToNat, Int.reduceAdd, Int.reduceSub, Int.reduceMul, Int.reduceNeg, Int.reduceEq, Int.reduceBEq, Int.reduceBNe, ↓reduceIte, reduceCtorEq, String.reduceBNe, String.reduceEq, reduceDIte, Nat.reducePow, c1]
  · rfl
theorem rname_hi (k : Int) (m : AMem) (hk : 4 ≤ k) : Ctr Tryd.prog 11 [.one (.int .i64 k)] m (.one (.str { data := #[] })) m := by
  refine Ctr.enter Tryd.func11 rfl (by decide) (rs := [.tmp 2]) (nt := 17) rfl rfl fun hwf Q hQ => ?_
  have c1 : ¬ k < 0 := by omega
  have c2 : 4 ≤ k := hk
  iterate 2
    refine AW.seq_k fun K hK => ?_
    refine AW.region (by decide) ?_
    simp only [push_cast, Nat.reduceAdd, Nat.reduceMul, Nat.reduceSub, Nat.reduceLeDiff, Nat.reduceLT, Nat.reduceEqDiff, Nat.reduceBEq, Nat.reduceBNe, Nat.reduceMod, Nat.reduceDiv, Int.reduceLE, Int.reduceLT, Int.reduceToNat, Int.reduceAdd, Int.reduceSub, Int.reduceMul, Int.reduceNeg, Int.reduceEq, Int.reduceBEq, Int.reduceBNe, ↓reduceIte, reduceCtorEq, String.reduceBNe, String.reduceEq, reduceDIte, Nat.reducePow, c1, c2]
    refine Thn_n ?_
    refine hK _ _ ?_
    clear hK K
  refine AW.seq_k fun K hK => ?_
  refine AW.seq_k fun K hK => ?_
  refine AW.region (by decide) ?_
  simp only [push_cast, Nat.reduceAdd, Nat.reduceMul, Nat.reduceSub, Nat.reduceLeDiff, Nat.reduceLT, Nat.reduceEqDiff, Nat.reduceBEq, Nat.reduceBNe, Nat.reduceMod, Nat.reduceDiv, Int.reduceLE, Int.reduceLT, Int.reduceToNat, Int.reduceAdd, Int.reduceSub, Int.reduceMul, Int.reduceNeg, Int.reduceEq, Int.reduceBEq, Int.reduceBNe, ↓reduceIte, reduceCtorEq, String.reduceBNe, String.reduceEq, reduceDIte, Nat.reducePow, c1, c2]
  refine Thn_n ?_
  refine hK _ _ ?_
  clear hK K
  refine AW.cond_t rfl ?_
  refine AW.seq_k fun K hK => ?_
  refine AW.region (by decide) ?_
  simp only [push_cast, Nat.reduceAdd, Nat.reduceMul, Nat.reduceSub, Nat.reduceLeDiff, Nat.reduceLT, Nat.reduceEqDiff, Nat.reduceBEq, Nat.reduceBNe, Nat.reduceMod, Nat.reduceDiv, Int.reduceLE, Int.reduceLT, Int.reduceToNat, Int.reduceAdd, Int.reduceSub, Int.reduceMul, Int.reduceNeg, Int.reduceEq, Int.reduceBEq, Int.reduceBNe, ↓reduceIte, reduceCtorEq, String.reduceBNe, String.reduceEq, reduceDIte, Nat.reducePow, c1, c2]
  refine Thn_n ?_
  refine hK _ _ ?_
  clear hK K
  refine AW.ret ?_
  refine Thn_r ?_
  refine hQ _ _ _ ?_
  first | refine RetP.drop0 (Or.inr rfl) ?_ ?_ hwf | refine RetP.drop (Or.inr rfl) ?_ ?_ hwf
  · simp only [resA, resOne, resTv, AV.tv, push_cast, Nat.reduceAdd, Nat.reduceMul, Nat.reduceSub, Nat.reduceLeDiff, Nat.reduceLT, Nat.reduceEqDiff, Nat.reduceBEq, Nat.reduceBNe, Nat.reduceMod, Nat.reduceDiv, Int.reduceLE, Int.reduceLT, Int.reduceToNat, Int.reduceAdd, Int.reduceSub, Int.reduceMul, Int.reduceNeg, Int.reduceEq, Int.reduceBEq, Int.reduceBNe, ↓reduceIte, reduceCtorEq, String.reduceBNe, String.reduceEq, reduceDIte, Nat.reducePow, c1, c2]
  · rfl
theorem rname_0 (m : AMem)  : Ctr Tryd.prog 11 [.one (.int .i64 0)] m (.one (.str { data := #[116, 114, 97, 99, 101] })) m := by
  refine Ctr.enter Tryd.func11 rfl (by decide) (rs := [.tmp 2]) (nt := 17) rfl rfl fun hwf Q hQ => ?_
  iterate 2
    refine AW.seq_k fun K hK => ?_
    refine AW.region (by decide) ?_
    simp only [push_cast, Nat.reduceAdd, Nat.reduceMul, Nat.reduceSub, Nat.reduceLeDiff, Nat.reduceLT, Nat.reduceEqDiff, Nat.reduceBEq, Nat.reduceBNe, Nat.reduceMod, Nat.reduceDiv, Int.reduceLE, Int.reduceLT, Int.reduceToNat, Int.reduceAdd, Int.reduceSub, Int.reduceMul, Int.reduceNeg, Int.reduceEq, Int.reduceBEq, Int.reduceBNe, ↓reduceIte, reduceCtorEq, String.reduceBNe, String.reduceEq, reduceDIte, Nat.reducePow, imp_self]
    refine Thn_n ?_
    refine hK _ _ ?_
    clear hK K
  refine AW.seq_k fun K hK => ?_
  refine AW.seq_k fun K hK => ?_
  refine AW.region (by decide) ?_
  simp only [push_cast, Nat.reduceAdd, Nat.reduceMul, Nat.reduceSub, Nat.reduceLeDiff, Nat.reduceLT, Nat.reduceEqDiff, Nat.reduceBEq, Nat.reduceBNe, Nat.reduceMod, Nat.reduceDiv, Int.reduceLE, Int.reduceLT, Int.reduceToNat, Int.reduceAdd, Int.reduceSub, Int.reduceMul, Int.reduceNeg, Int.reduceEq, Int.reduceBEq, Int.reduceBNe, ↓reduceIte, reduceCtorEq, String.reduceBNe, String.reduceEq, reduceDIte, Nat.reducePow, imp_self]
  refine Thn_n ?_
  refine hK _ _ ?_
  clear hK K
  refine AW.cond_f rfl ?_
  refine AW.skip ?_
  refine Thn_n ?_
  refine hK _ _ ?_
  clear hK K
  refine AW.seq_k fun K hK => ?_
  refine AW.region (by decide) ?_
  simp only [push_cast, Nat.reduceAdd, Nat.reduceMul, Nat.reduceSub, Nat.reduceLeDiff, Nat.reduceLT, Nat.reduceEqDiff, Nat.reduceBEq, Nat.reduceBNe, Nat.reduceMod, Nat.reduceDiv, Int.reduceLE, Int.reduceLT, Int.reduceToNat, Int.reduceAdd, Int.reduceSub, Int.reduceMul, Int.reduceNeg, Int.reduceEq, Int.reduceBEq, Int.reduceBNe, ↓reduceIte, reduceCtorEq, String.reduceBNe, String.reduceEq, reduceDIte, Nat.reducePow, imp_self]
  refine Thn_n ?_
  refine hK _ _ ?_
  clear hK K
  refine AW.ret ?_
  refine hQ _ _ _ ?_
  first | refine RetP.drop0 (Or.inr rfl) ?_ ?_ hwf | refine RetP.drop (Or.inr rfl) ?_ ?_ hwf
  · simp only [resA, resOne, resTv, AV.tv, push_cast, Nat.reduceAdd, Nat.reduceMul, Nat.reduceSub, Nat.reduceLeDiff, Nat.reduceLT, Nat.reduceEqDiff, Nat.reduceBEq, Nat.reduceBNe, Nat.reduceMod, Nat.reduceDiv, Int.reduceLE, Int.reduceLT, Int.reduceToNat, Int.reduceAdd, Int.reduceSub, Int.reduceMul, Int.reduceNeg, Int.reduceEq, Int.reduceBEq, Int.reduceBNe, ↓reduceIte, reduceCtorEq, String.reduceBNe, String.reduceEq, reduceDIte, Nat.reducePow, imp_self]
  · rfl
theorem rname_1 (m : AMem)  : Ctr Tryd.prog 11 [.one (.int .i64 1)] m (.one (.str { data := #[119, 97, 114, 112] })) m := by
  refine Ctr.enter Tryd.func11 rfl (by decide) (rs := [.tmp 2]) (nt := 17) rfl rfl fun hwf Q hQ => ?_
  iterate 2
    refine AW.seq_k fun K hK => ?_
    refine AW.region (by decide) ?_
    simp only [push_cast, Nat.reduceAdd, Nat.reduceMul, Nat.reduceSub, Nat.reduceLeDiff, Nat.reduceLT, Nat.reduceEqDiff, Nat.reduceBEq, Nat.reduceBNe, Nat.reduceMod, Nat.reduceDiv, Int.reduceLE, Int.reduceLT, Int.reduceToNat, Int.reduceAdd, Int.reduceSub, Int.reduceMul, Int.reduceNeg, Int.reduceEq, Int.reduceBEq, Int.reduceBNe, ↓reduceIte, reduceCtorEq, String.reduceBNe, String.reduceEq, reduceDIte, Nat.reducePow, imp_self]
    refine Thn_n ?_
    refine hK _ _ ?_
    clear hK K
  refine AW.seq_k fun K hK => ?_
  refine AW.seq_k fun K hK => ?_
  refine AW.region (by decide) ?_
  simp only [push_cast, Nat.reduceAdd, Nat.reduceMul, Nat.reduceSub, Nat.reduceLeDiff, Nat.reduceLT, Nat.reduceEqDiff, Nat.reduceBEq, Nat.reduceBNe, Nat.reduceMod, Nat.reduceDiv, Int.reduceLE, Int.reduceLT, Int.reduceToNat, Int.reduceAdd, Int.reduceSub, Int.reduceMul, Int.reduceNeg, Int.reduceEq, Int.reduceBEq, Int.reduceBNe, ↓reduceIte, reduceCtorEq, String.reduceBNe, String.reduceEq, reduceDIte, Nat.reducePow, imp_self]
  refine Thn_n ?_
  refine hK _ _ ?_
  clear hK K
  refine AW.cond_f rfl ?_
  refine AW.skip ?_
  refine Thn_n ?_
  refine hK _ _ ?_
  clear hK K
  refine AW.seq_k fun K hK => ?_
  refine AW.region (by decide) ?_
  simp only [push_cast, Nat.reduceAdd, Nat.reduceMul, Nat.reduceSub, Nat.reduceLeDiff, Nat.reduceLT, Nat.reduceEqDiff, Nat.reduceBEq, Nat.reduceBNe, Nat.reduceMod, Nat.reduceDiv, Int.reduceLE, Int.reduceLT, Int.reduceToNat, Int.reduceAdd, Int.reduceSub, Int.reduceMul, Int.reduceNeg, Int.reduceEq, Int.reduceBEq, Int.reduceBNe, ↓reduceIte, reduceCtorEq, String.reduceBNe, String.reduceEq, reduceDIte, Nat.reducePow, imp_self]
  refine Thn_n ?_
  refine hK _ _ ?_
  clear hK K
  refine AW.ret ?_
  refine hQ _ _ _ ?_
  first | refine RetP.drop0 (Or.inr rfl) ?_ ?_ hwf | refine RetP.drop (Or.inr rfl) ?_ ?_ hwf
  · simp only [resA, resOne, resTv, AV.tv, push_cast, Nat.reduceAdd, Nat.reduceMul, Nat.reduceSub, Nat.reduceLeDiff, Nat.reduceLT, Nat.reduceEqDiff, Nat.reduceBEq, Nat.reduceBNe, Nat.reduceMod, Nat.reduceDiv, Int.reduceLE, Int.reduceLT, Int.reduceToNat, Int.reduceAdd, Int.reduceSub, Int.reduceMul, Int.reduceNeg, Int.reduceEq, Int.reduceBEq, Int.reduceBNe, ↓reduceIte, reduceCtorEq, String.reduceBNe, String.reduceEq, reduceDIte, Nat.reducePow, imp_self]
  · rfl
theorem rname_2 (m : AMem)  : Ctr Tryd.prog 11 [.one (.int .i64 2)] m (.one (.str { data := #[108, 97, 99, 101] })) m := by
  refine Ctr.enter Tryd.func11 rfl (by decide) (rs := [.tmp 2]) (nt := 17) rfl rfl fun hwf Q hQ => ?_
  iterate 2
    refine AW.seq_k fun K hK => ?_
    refine AW.region (by decide) ?_
    simp only [push_cast, Nat.reduceAdd, Nat.reduceMul, Nat.reduceSub, Nat.reduceLeDiff, Nat.reduceLT, Nat.reduceEqDiff, Nat.reduceBEq, Nat.reduceBNe, Nat.reduceMod, Nat.reduceDiv, Int.reduceLE, Int.reduceLT, Int.reduceToNat, Int.reduceAdd, Int.reduceSub, Int.reduceMul, Int.reduceNeg, Int.reduceEq, Int.reduceBEq, Int.reduceBNe, ↓reduceIte, reduceCtorEq, String.reduceBNe, String.reduceEq, reduceDIte, Nat.reducePow, imp_self]
    refine Thn_n ?_
    refine hK _ _ ?_
    clear hK K
  refine AW.seq_k fun K hK => ?_
  refine AW.seq_k fun K hK => ?_
  refine AW.region (by decide) ?_
  simp only [push_cast, Nat.reduceAdd, Nat.reduceMul, Nat.reduceSub, Nat.reduceLeDiff, Nat.reduceLT, Nat.reduceEqDiff, Nat.reduceBEq, Nat.reduceBNe, Nat.reduceMod, Nat.reduceDiv, Int.reduceLE, Int.reduceLT, Int.reduceToNat, Int.reduceAdd, Int.reduceSub, Int.reduceMul, Int.reduceNeg, Int.reduceEq, Int.reduceBEq, Int.reduceBNe, ↓reduceIte, reduceCtorEq, String.reduceBNe, String.reduceEq, reduceDIte, Nat.reducePow, imp_self]
  refine Thn_n ?_
  refine hK _ _ ?_
  clear hK K
  refine AW.cond_f rfl ?_
  refine AW.skip ?_
  refine Thn_n ?_
  refine hK _ _ ?_
  clear hK K
  refine AW.seq_k fun K hK => ?_
  refine AW.region (by decide) ?_
  simp only [push_cast, Nat.reduceAdd, Nat.reduceMul, Nat.reduceSub, Nat.reduceLeDiff, Nat.reduceLT, Nat.reduceEqDiff, Nat.reduceBEq, Nat.reduceBNe, Nat.reduceMod, Nat.reduceDiv, Int.reduceLE, Int.reduceLT, Int.reduceToNat, Int.reduceAdd, Int.reduceSub, Int.reduceMul, Int.reduceNeg, Int.reduceEq, Int.reduceBEq, Int.reduceBNe, ↓reduceIte, reduceCtorEq, String.reduceBNe, String.reduceEq, reduceDIte, Nat.reducePow, imp_self]
  refine Thn_n ?_
  refine hK _ _ ?_
  clear hK K
  refine AW.ret ?_
  refine hQ _ _ _ ?_
  first | refine RetP.drop0 (Or.inr rfl) ?_ ?_ hwf | refine RetP.drop (Or.inr rfl) ?_ ?_ hwf
  · simp only [resA, resOne, resTv, AV.tv, push_cast, Nat.reduceAdd, Nat.reduceMul, Nat.reduceSub, Nat.reduceLeDiff, Nat.reduceLT, Nat.reduceEqDiff, Nat.reduceBEq, Nat.reduceBNe, Nat.reduceMod, Nat.reduceDiv, Int.reduceLE, Int.reduceLT, Int.reduceToNat, Int.reduceAdd, Int.reduceSub, Int.reduceMul, Int.reduceNeg, Int.reduceEq, Int.reduceBEq, Int.reduceBNe, ↓reduceIte, reduceCtorEq, String.reduceBNe, String.reduceEq, reduceDIte, Nat.reducePow, imp_self]
  · rfl
theorem rname_3 (m : AMem)  : Ctr Tryd.prog 11 [.one (.int .i64 3)] m (.one (.str { data := #[112, 108, 97, 116, 101] })) m := by
  refine Ctr.enter Tryd.func11 rfl (by decide) (rs := [.tmp 2]) (nt := 17) rfl rfl fun hwf Q hQ => ?_
  iterate 2
    refine AW.seq_k fun K hK => ?_
    refine AW.region (by decide) ?_
    simp only [push_cast, Nat.reduceAdd, Nat.reduceMul, Nat.reduceSub, Nat.reduceLeDiff, Nat.reduceLT, Nat.reduceEqDiff, Nat.reduceBEq, Nat.reduceBNe, Nat.reduceMod, Nat.reduceDiv, Int.reduceLE, Int.reduceLT, Int.reduceToNat, Int.reduceAdd, Int.reduceSub, Int.reduceMul, Int.reduceNeg, Int.reduceEq, Int.reduceBEq, Int.reduceBNe, ↓reduceIte, reduceCtorEq, String.reduceBNe, String.reduceEq, reduceDIte, Nat.reducePow, imp_self]
    refine Thn_n ?_
    refine hK _ _ ?_
    clear hK K
  refine AW.seq_k fun K hK => ?_
  refine AW.seq_k fun K hK => ?_
  refine AW.region (by decide) ?_
  simp only [push_cast, Nat.reduceAdd, Nat.reduceMul, Nat.reduceSub, Nat.reduceLeDiff, Nat.reduceLT, Nat.reduceEqDiff, Nat.reduceBEq, Nat.reduceBNe, Nat.reduceMod, Nat.reduceDiv, Int.reduceLE, Int.reduceLT, Int.reduceToNat, Int.reduceAdd, Int.reduceSub, Int.reduceMul, Int.reduceNeg, Int.reduceEq, Int.reduceBEq, Int.reduceBNe, ↓reduceIte, reduceCtorEq, String.reduceBNe, String.reduceEq, reduceDIte, Nat.reducePow, imp_self]
  refine Thn_n ?_
  refine hK _ _ ?_
  clear hK K
  refine AW.cond_f rfl ?_
  refine AW.skip ?_
  refine Thn_n ?_
  refine hK _ _ ?_
  clear hK K
  refine AW.seq_k fun K hK => ?_
  refine AW.region (by decide) ?_
  simp only [push_cast, Nat.reduceAdd, Nat.reduceMul, Nat.reduceSub, Nat.reduceLeDiff, Nat.reduceLT, Nat.reduceEqDiff, Nat.reduceBEq, Nat.reduceBNe, Nat.reduceMod, Nat.reduceDiv, Int.reduceLE, Int.reduceLT, Int.reduceToNat, Int.reduceAdd, Int.reduceSub, Int.reduceMul, Int.reduceNeg, Int.reduceEq, Int.reduceBEq, Int.reduceBNe, ↓reduceIte, reduceCtorEq, String.reduceBNe, String.reduceEq, reduceDIte, Nat.reducePow, imp_self]
  refine Thn_n ?_
  refine hK _ _ ?_
  clear hK K
  refine AW.ret ?_
  refine hQ _ _ _ ?_
  first | refine RetP.drop0 (Or.inr rfl) ?_ ?_ hwf | refine RetP.drop (Or.inr rfl) ?_ ?_ hwf
  · simp only [resA, resOne, resTv, AV.tv, push_cast, Nat.reduceAdd, Nat.reduceMul, Nat.reduceSub, Nat.reduceLeDiff, Nat.reduceLT, Nat.reduceEqDiff, Nat.reduceBEq, Nat.reduceBNe, Nat.reduceMod, Nat.reduceDiv, Int.reduceLE, Int.reduceLT, Int.reduceToNat, Int.reduceAdd, Int.reduceSub, Int.reduceMul, Int.reduceNeg, Int.reduceEq, Int.reduceBEq, Int.reduceBNe, ↓reduceIte, reduceCtorEq, String.reduceBNe, String.reduceEq, reduceDIte, Nat.reducePow, imp_self]
  · rfl
theorem rname_c (k : Int) (m : AMem)  : Ctr Tryd.prog 11 [.one (.int .i64 k)] m (.one (.str (nmB k))) m := by
  rcases Int.lt_or_le k 0 with h0 | h0
  · have e : nmB k = { data := #[] } := if_pos (.inl h0)
    rw [e]; exact rname_lo k m h0
  · rcases Int.lt_or_le k 4 with h4 | h4
    · have hc : k = 0 ∨ k = 1 ∨ k = 2 ∨ k = 3 := by omega
      rcases hc with rfl | rfl | rfl | rfl
      · exact rname_0 m
      · exact rname_1 m
      · exact rname_2 m
      · exact rname_3 m
    · have e : nmB k = { data := #[] } := if_pos (.inr h4)
      rw [e]; exact rname_hi k m h4
theorem job_c (rb : Nat) (bs : List Int) (m : AMem) (hb : m[rb]? = some ⟨.ro, 5, 0, 1, u8l bs⟩) (hu : U8ok bs) (hl : bs.length ≤ 3000) : Ctr Tryd.prog 6 [.one (.sl rb 0 0 bs.length)] m (.agg (u8l (shaL (74 :: bs)))) m := by
  refine Ctr.enter Tryd.func6 rfl (by decide) (rs := [.cell 2 33]) (nt := 7) rfl rfl fun hwf Q hQ => ?_
  have lb := get_lt hb
  have hs2 := shaL_len (74 :: bs)
  have hs1 : setL [.int .u8 0, .int .u8 0, .int .u8 0, .int .u8 0, .int .u8 0, .int .u8 0, .int .u8 0, .int .u8 0, .int .u8 0, .int .u8 0, .int .u8 0, .int .u8 0, .int .u8 0, .int .u8 0, .int .u8 0, .int .u8 0, .int .u8 0, .int .u8 0, .int .u8 0, .int .u8 0, .int .u8 0, .int .u8 0, .int .u8 0, .int .u8 0, .int .u8 0, .int .u8 0, .int .u8 0, .int .u8 0, .int .u8 0, .int .u8 0, .int .u8 0, .int .u8 0] 0 (u8l (shaL (74 :: bs))) = u8l (shaL (74 :: bs)) := setL_full rfl
  have hs3 := u8l_vals (shaL (74 :: bs))
  have hs4 : (u8l (shaL (74 :: bs))).take 32 = u8l (shaL (74 :: bs)) := List.take_of_length_le (by rw [u8l_len, hs2]; exact Nat.le_refl _)
  have h74 : [CV.int .u8 74] = u8l [74] := rfl
  have hub : U8ok (74 :: bs) := fun x hx => by
    rcases List.mem_cons.1 hx with rfl | hx
    · omega
    · exact hu x hx
  have hu1 : U8ok [74] := fun x hx => by
    simp only [List.mem_cons, List.not_mem_nil, or_false] at hx
    subst hx; omega
  refine AW.seq_k fun K hK => ?_
  refine AW.region (by decide) ?_
  simp only [push_cast, Nat.reduceAdd, Nat.reduceMul, Nat.reduceSub, Nat.reduceLeDiff, Nat.reduceLT, Nat.reduceEqDiff, Nat.reduceBEq, Nat.reduceBNe, Nat.reduceMod, Nat.reduceDiv, Int.reduceLE, Int.reduceLT, Int.reduceToNat, Int.reduceAdd, Int.reduceSub, Int.reduceMul, Int.reduceNeg, Int.reduceEq, Int.reduceBEq, Int.reduceBNe, ↓reduceIte, reduceCtorEq, String.reduceBNe, String.reduceEq, reduceDIte, Nat.reducePow, imp_self, hb, lk_old hb, hs1, hs2, hs3, hs4, u8l_len]
  refine Thn_n ?_
  refine hK _ _ ?_
  clear hK K
  refine AW.seq_k fun K hK => ?_
  refine AW.region (by decide) ?_
  simp only [push_cast, Nat.reduceAdd, Nat.reduceMul, Nat.reduceSub, Nat.reduceLeDiff, Nat.reduceLT, Nat.reduceEqDiff, Nat.reduceBEq, Nat.reduceBNe, Nat.reduceMod, Nat.reduceDiv, Int.reduceLE, Int.reduceLT, Int.reduceToNat, Int.reduceAdd, Int.reduceSub, Int.reduceMul, Int.reduceNeg, Int.reduceEq, Int.reduceBEq, Int.reduceBNe, ↓reduceIte, reduceCtorEq, String.reduceBNe, String.reduceEq, reduceDIte, Nat.reducePow, imp_self, hb, lk_old hb, hs1, hs2, hs3, hs4, u8l_len]
  refine CThen.by (of2_c (m.length + 2) 0 0 (.sl (m.length + 1) 0 0 1) (.sl rb 0 0 bs.length) [74] bs [.sl (m.length + 1) 0 0 1, .sl rb 0 0 bs.length] .grow 1 _ (by simp only [push_cast, Nat.reduceAdd, Nat.reduceMul, Nat.reduceSub, Nat.reduceLeDiff, Nat.reduceLT, Nat.reduceEqDiff, Nat.reduceBEq, Nat.reduceBNe, Nat.reduceMod, Nat.reduceDiv, Int.reduceLE, Int.reduceLT, Int.reduceToNat, Int.reduceAdd, Int.reduceSub, Int.reduceMul, Int.reduceNeg, Int.reduceEq, Int.reduceBEq, Int.reduceBNe, ↓reduceIte, reduceCtorEq, String.reduceBNe, String.reduceEq, reduceDIte, Nat.reducePow]) rfl rfl (.all (k := .grow) (ty := 5) (ez := 1) (by simp only [push_cast, Nat.reduceAdd, Nat.reduceMul, Nat.reduceSub, Nat.reduceLeDiff, Nat.reduceLT, Nat.reduceEqDiff, Nat.reduceBEq, Nat.reduceBNe, Nat.reduceMod, Nat.reduceDiv, Int.reduceLE, Int.reduceLT, Int.reduceToNat, Int.reduceAdd, Int.reduceSub, Int.reduceMul, Int.reduceNeg, Int.reduceEq, Int.reduceBEq, Int.reduceBNe, ↓reduceIte, reduceCtorEq, String.reduceBNe, String.reduceEq, reduceDIte, Nat.reducePow]; rfl) rfl) (.all (k := .ro) (ty := 5) (ez := 1) (lk_old hb _) rfl) (by show 1 ≤ 1000000; decide) (by omega) hu1 hu) ?_
  simp only [push_cast, Nat.reduceAdd, Nat.reduceMul, Nat.reduceSub, Nat.reduceLeDiff, Nat.reduceLT, Nat.reduceEqDiff, Nat.reduceBEq, Nat.reduceBNe, Nat.reduceMod, Nat.reduceDiv, Int.reduceLE, Int.reduceLT, Int.reduceToNat, Int.reduceAdd, Int.reduceSub, Int.reduceMul, Int.reduceNeg, Int.reduceEq, Int.reduceBEq, Int.reduceBNe, ↓reduceIte, reduceCtorEq, String.reduceBNe, String.reduceEq, reduceDIte, Nat.reducePow, imp_self, hb, lk_old hb, hs1, hs2, hs3, hs4, u8l_len]
  refine Thn_n ?_
  refine hK _ _ ?_
  clear hK K
  refine AW.ret ?_
  refine hQ _ _ _ ?_
  first | refine RetP.drop0 (Or.inr rfl) ?_ ?_ hwf | refine RetP.drop (Or.inr rfl) ?_ ?_ hwf
  · simp only [resA, resOne, resTv, AV.tv, push_cast, Nat.reduceAdd, Nat.reduceMul, Nat.reduceSub, Nat.reduceLeDiff, Nat.reduceLT, Nat.reduceEqDiff, Nat.reduceBEq, Nat.reduceBNe, Nat.reduceMod, Nat.reduceDiv, Int.reduceLE, Int.reduceLT, Int.reduceToNat, Int.reduceAdd, Int.reduceSub, Int.reduceMul, Int.reduceNeg, Int.reduceEq, Int.reduceBEq, Int.reduceBNe, ↓reduceIte, reduceCtorEq, String.reduceBNe, String.reduceEq, reduceDIte, Nat.reducePow, imp_self, hb, lk_old hb, hs1, hs2, hs3, hs4, u8l_len]
  · rfl
theorem rjob_c (rb : Nat) (bs : List Int) (m : AMem) (hb : m[rb]? = some ⟨.ro, 5, 0, 1, u8l bs⟩) (hu : U8ok bs) (hl : bs.length ≤ 3000) : Ctr Tryd.prog 7 [.agg (ul (HLL ++ KW)), .one (.sl rb 0 0 bs.length)] m (.agg (u8l (shaL (74 :: bs)))) m := by
  refine Ctr.enter Tryd.func7 rfl (by decide) (rs := [.cell 4 26]) (nt := 10) rfl rfl fun hwf Q hQ => ?_
  have lb := get_lt hb
  have hs2 := shaL_len (74 :: bs)
  have hs1 : setL [.int .u8 0, .int .u8 0, .int .u8 0, .int .u8 0, .int .u8 0, .int .u8 0, .int .u8 0, .int .u8 0, .int .u8 0, .int .u8 0, .int .u8 0, .int .u8 0, .int .u8 0, .int .u8 0, .int .u8 0, .int .u8 0, .int .u8 0, .int .u8 0, .int .u8 0, .int .u8 0, .int .u8 0, .int .u8 0, .int .u8 0, .int .u8 0, .int .u8 0, .int .u8 0, .int .u8 0, .int .u8 0, .int .u8 0, .int .u8 0, .int .u8 0, .int .u8 0] 0 (u8l (shaL (74 :: bs))) = u8l (shaL (74 :: bs)) := setL_full rfl
  have hs3 := u8l_vals (shaL (74 :: bs))
  have hs4 : (u8l (shaL (74 :: bs))).take 32 = u8l (shaL (74 :: bs)) := List.take_of_length_le (by rw [u8l_len, hs2]; exact Nat.le_refl _)
  have h74 : [CV.int .u8 74] = u8l [74] := rfl
  have hub : U8ok (74 :: bs) := fun x hx => by
    rcases List.mem_cons.1 hx with rfl | hx
    · omega
    · exact hu x hx
  have hu1 : U8ok [74] := fun x hx => by
    simp only [List.mem_cons, List.not_mem_nil, or_false] at hx
    subst hx; omega
  have htl : (ul (HLL ++ KW)).take 72 = ul (HLL ++ KW) := rfl
  have hvl : (ul (HLL ++ KW)).length = 72 := rfl
  have hvv := ul_vals (HLL ++ KW)
  have hbt : (u8l bs).take bs.length = u8l bs := List.take_of_length_le (by rw [u8l_len]; exact Nat.le_refl _)
  have hbv := u8l_vals bs
  have q1 : 1 + bs.length ≤ 140737488355328 := by omega
  have h75 : CV.int .u8 74 :: u8l bs = u8l (74 :: bs) := rfl
  refine AW.seq_k fun K hK => ?_
  refine AW.region (by decide) ?_
  simp only [push_cast, Nat.reduceAdd, Nat.reduceMul, Nat.reduceSub, Nat.reduceLeDiff, Nat.reduceLT, Nat.reduceEqDiff, Nat.reduceBEq, Nat.reduceBNe, Nat.reduceMod, Nat.reduceDiv, Int.reduceLE, Int.reduceLT, Int.reduceToNat, Int.reduceAdd, Int.reduceSub, Int.reduceMul, Int.reduceNeg, Int.reduceEq, Int.reduceBEq, Int.reduceBNe, ↓reduceIte, reduceCtorEq, String.reduceBNe, String.reduceEq, reduceDIte, Nat.reducePow, imp_self, hb, lk_old hb, hs1, hs2, hs3, hs4, u8l_len, htl, hvl, hvv, hbt, hbv, q1, h75]
  refine Thn_n ?_
  refine hK _ _ ?_
  clear hK K
  refine AW.seq_k fun K hK => ?_
  refine AW.draw [.rd 0, .ext, .val, .up 0, .ext, .wr] fol (by decide) (by kernel_rfl) ?_
  simp only [push_cast, Nat.reduceAdd, Nat.reduceMul, Nat.reduceSub, Nat.reduceLeDiff, Nat.reduceLT, Nat.reduceEqDiff, Nat.reduceBEq, Nat.reduceBNe, Nat.reduceMod, Nat.reduceDiv, Int.reduceLE, Int.reduceLT, Int.reduceToNat, Int.reduceAdd, Int.reduceSub, Int.reduceMul, Int.reduceNeg, Int.reduceEq, Int.reduceBEq, Int.reduceBNe, ↓reduceIte, reduceCtorEq, String.reduceBNe, String.reduceEq, reduceDIte, Nat.reducePow, imp_self, hb, lk_old hb, hs1, hs2, hs3, hs4, u8l_len, htl, hvl, hvv, hbt, hbv, q1, h75]
  refine DExt.by (by first | rfl | (simp only [List.append_assoc, List.cons_append, List.nil_append]; rfl)) ?_
  simp only [push_cast, Nat.reduceAdd, Nat.reduceMul, Nat.reduceSub, Nat.reduceLeDiff, Nat.reduceLT, Nat.reduceEqDiff, Nat.reduceBEq, Nat.reduceBNe, Nat.reduceMod, Nat.reduceDiv, Int.reduceLE, Int.reduceLT, Int.reduceToNat, Int.reduceAdd, Int.reduceSub, Int.reduceMul, Int.reduceNeg, Int.reduceEq, Int.reduceBEq, Int.reduceBNe, ↓reduceIte, reduceCtorEq, String.reduceBNe, String.reduceEq, reduceDIte, Nat.reducePow, imp_self, hb, lk_old hb, hs1, hs2, hs3, hs4, u8l_len, htl, hvl, hvv, hbt, hbv, q1, h75]
  refine DUp.by (by first | rfl | (simp only [List.append_assoc, List.cons_append, List.nil_append]; rfl)) (by first | rfl | (simp only [List.append_assoc, List.cons_append, List.nil_append]; rfl)) ?_
  simp only [push_cast, Nat.reduceAdd, Nat.reduceMul, Nat.reduceSub, Nat.reduceLeDiff, Nat.reduceLT, Nat.reduceEqDiff, Nat.reduceBEq, Nat.reduceBNe, Nat.reduceMod, Nat.reduceDiv, Int.reduceLE, Int.reduceLT, Int.reduceToNat, Int.reduceAdd, Int.reduceSub, Int.reduceMul, Int.reduceNeg, Int.reduceEq, Int.reduceBEq, Int.reduceBNe, ↓reduceIte, reduceCtorEq, String.reduceBNe, String.reduceEq, reduceDIte, Nat.reducePow, imp_self, hb, lk_old hb, hs1, hs2, hs3, hs4, u8l_len, htl, hvl, hvv, hbt, hbv, q1, h75]
  refine DCall.by0 (rof_l (m.length + 2) 1 (1 + bs.length) (74 :: bs) _ (by simp only [List.length_cons]; omega) ⟨.grow, 5, 1, by simp only [push_cast, Nat.reduceAdd, Nat.reduceMul, Nat.reduceSub, Nat.reduceLeDiff, Nat.reduceLT, Nat.reduceEqDiff, Nat.reduceBEq, Nat.reduceBNe, Nat.reduceMod, Nat.reduceDiv, Int.reduceLE, Int.reduceLT, Int.reduceToNat, Int.reduceAdd, Int.reduceSub, Int.reduceMul, Int.reduceNeg, Int.reduceEq, Int.reduceBEq, Int.reduceBNe, ↓reduceIte, reduceCtorEq, String.reduceBNe, String.reduceEq, reduceDIte, Nat.reducePow, h75]⟩ hub (by simp only [List.length_cons]; omega)) ?_
  simp only [push_cast, Nat.reduceAdd, Nat.reduceMul, Nat.reduceSub, Nat.reduceLeDiff, Nat.reduceLT, Nat.reduceEqDiff, Nat.reduceBEq, Nat.reduceBNe, Nat.reduceMod, Nat.reduceDiv, Int.reduceLE, Int.reduceLT, Int.reduceToNat, Int.reduceAdd, Int.reduceSub, Int.reduceMul, Int.reduceNeg, Int.reduceEq, Int.reduceBEq, Int.reduceBNe, ↓reduceIte, reduceCtorEq, String.reduceBNe, String.reduceEq, reduceDIte, Nat.reducePow, imp_self, hb, lk_old hb, hs1, hs2, hs3, hs4, u8l_len, htl, hvl, hvv, hbt, hbv, q1, h75]
  refine Thn_n ?_
  refine hK _ _ ?_
  clear hK K
  refine AW.ret ?_
  refine hQ _ _ _ ?_
  first | refine RetP.drop0 (Or.inr rfl) ?_ ?_ hwf | refine RetP.drop (Or.inr rfl) ?_ ?_ hwf
  · simp only [resA, resOne, resTv, AV.tv, push_cast, Nat.reduceAdd, Nat.reduceMul, Nat.reduceSub, Nat.reduceLeDiff, Nat.reduceLT, Nat.reduceEqDiff, Nat.reduceBEq, Nat.reduceBNe, Nat.reduceMod, Nat.reduceDiv, Int.reduceLE, Int.reduceLT, Int.reduceToNat, Int.reduceAdd, Int.reduceSub, Int.reduceMul, Int.reduceNeg, Int.reduceEq, Int.reduceBEq, Int.reduceBNe, ↓reduceIte, reduceCtorEq, String.reduceBNe, String.reduceEq, reduceDIte, Nat.reducePow, imp_self, hb, lk_old hb, hs1, hs2, hs3, hs4, u8l_len, htl, hvl, hvv, hbt, hbv, q1, h75]
  · rfl
theorem num_headA (k f : Int) (kn fn : Nat) (hk : (kn : Int) = IntKind.u64.wrap k) (hf : (fn : Int) = IntKind.u64.wrap f) : ([87] ++ numL kn 1) ++ numL fn 4 = hdL k f := by
  rw [IntKind.wrap_u64] at hk hf
  have e1 : IntKind.u8.wrap k = bN kn 0 := by rw [w8]; unfold bN; omega
  have e2 : IntKind.u8.wrap f = bN fn 0 := by rw [w8]; unfold bN; omega
  have e3 : IntKind.u8.wrap (f.fdiv 256) = bN fn 1 := by
    rw [Int.fdiv_eq_ediv_of_nonneg _ (by omega), w8]; unfold bN; omega
  have e4 : IntKind.u8.wrap (f.fdiv 65536) = bN fn 2 := by
    rw [Int.fdiv_eq_ediv_of_nonneg _ (by omega), w8]; unfold bN; omega
  have e5 : IntKind.u8.wrap (f.fdiv 16777216) = bN fn 3 := by
    rw [Int.fdiv_eq_ediv_of_nonneg _ (by omega), w8]; unfold bN; omega
  simp only [hdL, hdA, hdB, numL, e1, e2, e3, e4, e5]
  rfl
theorem u64nat (k : Int) : ∃ n : Nat, (n : Int) = IntKind.u64.wrap k ∧ n < 18446744073709551616 := by
  refine ⟨(IntKind.u64.wrap k).toNat, ?_, ?_⟩ <;> (rw [IntKind.wrap_u64]; omega)
theorem rkeyA_c (k f : Int) (lo vo np : Nat) (D : List Int) (eo : Nat) (m : AMem) (hD : m[lo]? = some ⟨.ro, 26, vo, eo, u8l D⟩) (hl : D.length = 32 * np) (hu : U8ok D) (hnp : np ≤ 30) : Ctr Tryd.prog 9 [.agg (ul (HLL ++ KW)), .one (.int .i64 k), .one (.int .i64 f), .one (.sl lo vo 0 np)] m (.agg (u8l (shaL (hdL k f ++ D)))) m := by
  refine Ctr.enter Tryd.func9 rfl (by decide) (rs := [.cell 8 26]) (nt := 33) rfl rfl fun hwf Q hQ => ?_
  have llo := get_lt hD
  obtain ⟨kn, hkw, hkn⟩ := u64nat k
  obtain ⟨fn, hfw, hfn⟩ := u64nat f
  have hnh : 87 :: (numL kn 1 ++ numL fn 4) = hdL k f := num_headA k f kn fn hkw hfw
  have hhl : (hdL k f).length = 6 := rfl
  have h87 : [CV.int .u8 87] = u8l [87] := rfl
  have htl : (ul (HLL ++ KW)).take 72 = ul (HLL ++ KW) := rfl
  have hvl : (ul (HLL ++ KW)).length = 72 := rfl
  have hvv := ul_vals (HLL ++ KW)
  have hs2 := shaL_len (hdL k f ++ D)
  have hs1 : setL [.int .u8 0, .int .u8 0, .int .u8 0, .int .u8 0, .int .u8 0, .int .u8 0, .int .u8 0, .int .u8 0, .int .u8 0, .int .u8 0, .int .u8 0, .int .u8 0, .int .u8 0, .int .u8 0, .int .u8 0, .int .u8 0, .int .u8 0, .int .u8 0, .int .u8 0, .int .u8 0, .int .u8 0, .int .u8 0, .int .u8 0, .int .u8 0, .int .u8 0, .int .u8 0, .int .u8 0, .int .u8 0, .int .u8 0, .int .u8 0, .int .u8 0, .int .u8 0] 0 (u8l (shaL (hdL k f ++ D))) = u8l (shaL (hdL k f ++ D)) := setL_full rfl
  have hs3 := u8l_vals (shaL (hdL k f ++ D))
  have hs4 : (u8l (shaL (hdL k f ++ D))).take 32 = u8l (shaL (hdL k f ++ D)) := List.take_of_length_le (by rw [u8l_len, hs2]; exact Nat.le_refl _)
  refine AW.seq_k fun K hK => ?_
  refine AW.region (by decide) ?_
  simp only [push_cast, Nat.reduceAdd, Nat.reduceMul, Nat.reduceSub, Nat.reduceLeDiff, Nat.reduceLT, Nat.reduceEqDiff, Nat.reduceBEq, Nat.reduceBNe, Nat.reduceMod, Nat.reduceDiv, Int.reduceLE, Int.reduceLT, Int.reduceToNat, Int.reduceAdd, Int.reduceSub, Int.reduceMul, Int.reduceNeg, Int.reduceEq, Int.reduceBEq, Int.reduceBNe, ↓reduceIte, reduceCtorEq, String.reduceBNe, String.reduceEq, reduceDIte, Nat.reducePow, imp_self, htl, hvl, hvv, hs1, hs2, hs3, hs4, hD, lk_old hD, ← hkw, ← hfw, hnh, u8l_len, ul_len, Int.le_refl, Nat.le_refl]
  refine Thn_n ?_
  refine hK _ _ ?_
  clear hK K
  refine AW.seq_k fun K hK => ?_
  refine AW.region (by decide) ?_
  simp only [push_cast, Nat.reduceAdd, Nat.reduceMul, Nat.reduceSub, Nat.reduceLeDiff, Nat.reduceLT, Nat.reduceEqDiff, Nat.reduceBEq, Nat.reduceBNe, Nat.reduceMod, Nat.reduceDiv, Int.reduceLE, Int.reduceLT, Int.reduceToNat, Int.reduceAdd, Int.reduceSub, Int.reduceMul, Int.reduceNeg, Int.reduceEq, Int.reduceBEq, Int.reduceBNe, ↓reduceIte, reduceCtorEq, String.reduceBNe, String.reduceEq, reduceDIte, Nat.reducePow, imp_self, htl, hvl, hvv, hs1, hs2, hs3, hs4, hD, lk_old hD, ← hkw, ← hfw, hnh, u8l_len, ul_len, Int.le_refl, Nat.le_refl]
  refine CThen.by (num_c (m.length + 2) 0 kn 1 [87] _ ⟨.grow, 1, by simp only [push_cast, Nat.reduceAdd, Nat.reduceMul, Nat.reduceSub, Nat.reduceLeDiff, Nat.reduceLT, Nat.reduceEqDiff, Nat.reduceBEq, Nat.reduceBNe, Nat.reduceMod, Nat.reduceDiv, Int.reduceLE, Int.reduceLT, Int.reduceToNat, Int.reduceAdd, Int.reduceSub, Int.reduceMul, Int.reduceNeg, Int.reduceEq, Int.reduceBEq, Int.reduceBNe, ↓reduceIte, reduceCtorEq, String.reduceBNe, String.reduceEq, reduceDIte, Nat.reducePow]; rfl⟩ (by decide) (by decide) hkn) ?_
  simp only [push_cast, Nat.reduceAdd, Nat.reduceMul, Nat.reduceSub, Nat.reduceLeDiff, Nat.reduceLT, Nat.reduceEqDiff, Nat.reduceBEq, Nat.reduceBNe, Nat.reduceMod, Nat.reduceDiv, Int.reduceLE, Int.reduceLT, Int.reduceToNat, Int.reduceAdd, Int.reduceSub, Int.reduceMul, Int.reduceNeg, Int.reduceEq, Int.reduceBEq, Int.reduceBNe, ↓reduceIte, reduceCtorEq, String.reduceBNe, String.reduceEq, reduceDIte, Nat.reducePow, imp_self, htl, hvl, hvv, hs1, hs2, hs3, hs4, hD, lk_old hD, ← hkw, ← hfw, hnh, u8l_len, ul_len, Int.le_refl, Nat.le_refl]
  refine CThen.by (num_l (m.length + 3) 0 fn 4 2 (87 :: numL kn 1) _ rfl ⟨.grow, 1, by simp only [push_cast, Nat.reduceAdd, Nat.reduceMul, Nat.reduceSub, Nat.reduceLeDiff, Nat.reduceLT, Nat.reduceEqDiff, Nat.reduceBEq, Nat.reduceBNe, Nat.reduceMod, Nat.reduceDiv, Int.reduceLE, Int.reduceLT, Int.reduceToNat, Int.reduceAdd, Int.reduceSub, Int.reduceMul, Int.reduceNeg, Int.reduceEq, Int.reduceBEq, Int.reduceBNe, ↓reduceIte, reduceCtorEq, String.reduceBNe, String.reduceEq, reduceDIte, Nat.reducePow]⟩ (by show 2 ≤ 1000000; decide) (by decide) hfn) ?_
  simp only [push_cast, Nat.reduceAdd, Nat.reduceMul, Nat.reduceSub, Nat.reduceLeDiff, Nat.reduceLT, Nat.reduceEqDiff, Nat.reduceBEq, Nat.reduceBNe, Nat.reduceMod, Nat.reduceDiv, Int.reduceLE, Int.reduceLT, Int.reduceToNat, Int.reduceAdd, Int.reduceSub, Int.reduceMul, Int.reduceNeg, Int.reduceEq, Int.reduceBEq, Int.reduceBNe, ↓reduceIte, reduceCtorEq, String.reduceBNe, String.reduceEq, reduceDIte, Nat.reducePow, imp_self, htl, hvl, hvv, hs1, hs2, hs3, hs4, hD, lk_old hD, ← hkw, ← hfw, hnh, u8l_len, ul_len, Int.le_refl, Nat.le_refl]
  refine Thn_n ?_
  refine hK _ _ ?_
  clear hK K
  refine AW.seq_k fun K hK => ?_
  refine AW.seq_k fun K hK => ?_
  refine AW.region (by decide) ?_
  simp only [push_cast, Nat.reduceAdd, Nat.reduceMul, Nat.reduceSub, Nat.reduceLeDiff, Nat.reduceLT, Nat.reduceEqDiff, Nat.reduceBEq, Nat.reduceBNe, Nat.reduceMod, Nat.reduceDiv, Int.reduceLE, Int.reduceLT, Int.reduceToNat, Int.reduceAdd, Int.reduceSub, Int.reduceMul, Int.reduceNeg, Int.reduceEq, Int.reduceBEq, Int.reduceBNe, ↓reduceIte, reduceCtorEq, String.reduceBNe, String.reduceEq, reduceDIte, Nat.reducePow, imp_self, htl, hvl, hvv, hs1, hs2, hs3, hs4, hD, lk_old hD, ← hkw, ← hfw, hnh, u8l_len, ul_len, Int.le_refl, Nat.le_refl]
  refine Thn_n ?_
  refine hK _ _ ?_
  clear hK K
  refine AW.block ?_
  refine AW.loopK [3, 4, 8] (fun i => i ≤ np) (fun i => [(9, .one (.sl (m.length + 4) i 0 (6 + 32 * i))), (10, .one (.int .i64 (i : Int)))]) (fun i => [(m.length + 4, ⟨.grow, 5, i, 1, u8l (hdL k f ++ D.take (32 * i))⟩)]) (fun i => np - i) 0 (by omega) ?_ ?_ fun i hi5 => ?_
  · first | rfl | (simp only [Keeps, Tm.get_cons, Nat.reduceEqDiff, ↓reduceIte, if_true, if_false, ite_true, ite_false, true_and, and_true, and_self, reduceCtorEq, Int.natCast_zero, Nat.mul_zero, Nat.add_zero, List.take_zero, List.append_nil] <;> rfl)
  · first | rfl | (simp only [setAll, push_cast, Nat.reduceAdd, Nat.reduceMul, Nat.reduceSub, Nat.reduceLeDiff, Nat.reduceLT, Nat.reduceEqDiff, Nat.reduceBEq, Nat.reduceBNe, Nat.reduceMod, Nat.reduceDiv, Int.reduceLE, Int.reduceLT, Int.reduceToNat, Int.reduceAdd, Int.reduceSub, Int.reduceMul, Int.reduceNeg, Int.reduceEq, Int.reduceBEq, Int.reduceBNe, ↓reduceIte, reduceCtorEq, String.reduceBNe, String.reduceEq, reduceDIte, Nat.reducePow, imp_self, htl, hvl, hvv, hs1, hs2, hs3, hs4, hD, lk_old hD, ← hkw, ← hfw, hnh, u8l_len, ul_len, Int.le_refl, Nat.le_refl, Int.natCast_zero, Nat.mul_zero, Nat.add_zero, List.take_zero, List.append_nil] <;> rfl)
  try simp only [keepL, setAll, push_cast, Nat.reduceAdd, Nat.reduceMul, Nat.reduceSub, Nat.reduceLeDiff, Nat.reduceLT, Nat.reduceEqDiff, Nat.reduceBEq, Nat.reduceBNe, Nat.reduceMod, Nat.reduceDiv, Int.reduceLE, Int.reduceLT, Int.reduceToNat, Int.reduceAdd, Int.reduceSub, Int.reduceMul, Int.reduceNeg, Int.reduceEq, Int.reduceBEq, Int.reduceBNe, ↓reduceIte, reduceCtorEq, String.reduceBNe, String.reduceEq, reduceDIte, Nat.reducePow, imp_self, htl, hvl, hvv, hs1, hs2, hs3, hs4, hD, lk_old hD, ← hkw, ← hfw, hnh, u8l_len, ul_len, Int.le_refl, Nat.le_refl]
  refine AW.seq_k fun K hK => ?_
  refine AW.seq_k fun K hK => ?_
  refine AW.region (by decide) ?_
  simp only [push_cast, Nat.reduceAdd, Nat.reduceMul, Nat.reduceSub, Nat.reduceLeDiff, Nat.reduceLT, Nat.reduceEqDiff, Nat.reduceBEq, Nat.reduceBNe, Nat.reduceMod, Nat.reduceDiv, Int.reduceLE, Int.reduceLT, Int.reduceToNat, Int.reduceAdd, Int.reduceSub, Int.reduceMul, Int.reduceNeg, Int.reduceEq, Int.reduceBEq, Int.reduceBNe, ↓reduceIte, reduceCtorEq, String.reduceBNe, String.reduceEq, reduceDIte, Nat.reducePow, imp_self, htl, hvl, hvv, hs1, hs2, hs3, hs4, hD, lk_old hD, ← hkw, ← hfw, hnh, u8l_len, ul_len, Int.le_refl, Nat.le_refl]
  refine Thn_n ?_
  refine hK _ _ ?_
  clear hK K
  refine AW.cond rfl (fun h21 => ?_) (fun h21 => ?_)
  · have hlt : i < np := by have := of_decide_eq_true h21; omega
    have c1 : (0 : Int) ≤ (i : Int) := by omega
    have c2 : (i : Int) < (np : Int) := by omega
    have c3 : i * 32 + 32 ≤ D.length := by omega
    have hdl : ((D.drop (32 * i)).take 32).length = 32 := by rw [List.length_take, List.length_drop]; omega
    have e32 : i * 32 = 32 * i := by omega
    have hd1 : ((u8l D).drop (i * 32)).take 32 = u8l ((D.drop (32 * i)).take 32) := by rw [u8l_drop, u8l_take, e32]
    have hd2 := u8l_vals ((D.drop (32 * i)).take 32)
    have hti : (D.take (32 * i)).length = 32 * i := by rw [List.length_take]; omega
    have hsn : u8l (hdL k f ++ D.take (32 * i)) ++ u8l ((D.drop (32 * i)).take 32) = u8l (hdL k f ++ D.take (32 * (i + 1))) := by
      rw [u8l_app, List.append_assoc, show 32 * (i + 1) = 32 * i + 32 by omega, List.take_add]
    have q1 : 6 + (32 * i + 32) ≤ 140737488355328 := by omega
    refine AW.skip ?_
    refine Thn_n ?_
    refine hK _ _ ?_
    clear hK K
    refine AW.seq_k fun K hK => ?_
    refine AW.block ?_
    refine AW.region (by decide) ?_
    simp only [push_cast, Nat.reduceAdd, Nat.reduceMul, Nat.reduceSub, Nat.reduceLeDiff, Nat.reduceLT, Nat.reduceEqDiff, Nat.reduceBEq, Nat.reduceBNe, Nat.reduceMod, Nat.reduceDiv, Int.reduceLE, Int.reduceLT, Int.reduceToNat, Int.reduceAdd, Int.reduceSub, Int.reduceMul, Int.reduceNeg, Int.reduceEq, Int.reduceBEq, Int.reduceBNe, ↓reduceIte, reduceCtorEq, String.reduceBNe, String.reduceEq, reduceDIte, Nat.reducePow, imp_self, htl, hvl, hvv, hs1, hs2, hs3, hs4, hD, lk_old hD, ← hkw, ← hfw, hnh, u8l_len, ul_len, Int.le_refl, Nat.le_refl, c1, c2, c3, hdl, hd1, hd2, hti, hsn, hhl, q1]
    refine InB_n ?_
    refine Thn_n ?_
    refine hK _ _ ?_
    clear hK K
    refine AW.region (by decide) ?_
    simp only [push_cast, Nat.reduceAdd, Nat.reduceMul, Nat.reduceSub, Nat.reduceLeDiff, Nat.reduceLT, Nat.reduceEqDiff, Nat.reduceBEq, Nat.reduceBNe, Nat.reduceMod, Nat.reduceDiv, Int.reduceLE, Int.reduceLT, Int.reduceToNat, Int.reduceAdd, Int.reduceSub, Int.reduceMul, Int.reduceNeg, Int.reduceEq, Int.reduceBEq, Int.reduceBNe, ↓reduceIte, reduceCtorEq, String.reduceBNe, String.reduceEq, reduceDIte, Nat.reducePow, imp_self, htl, hvl, hvv, hs1, hs2, hs3, hs4, hD, lk_old hD, ← hkw, ← hfw, hnh, u8l_len, ul_len, Int.le_refl, Nat.le_refl, c1, c2, c3, hdl, hd1, hd2, hti, hsn, hhl, q1]
    refine Thn_n ?_
    have hwi : IntKind.i64.wrap ((i:Int)+1) = (i:Int)+1 := wi (by omega)
    have e9 : 6 + 32 * (i + 1) = 6 + (32 * i + 32) := by omega
    refine ⟨i + 1, hlt, by omega, ?_⟩
    try simp only [keepL, setAll, push_cast, Nat.reduceAdd, Nat.reduceMul, Nat.reduceSub, Nat.reduceLeDiff, Nat.reduceLT, Nat.reduceEqDiff, Nat.reduceBEq, Nat.reduceBNe, Nat.reduceMod, Nat.reduceDiv, Int.reduceLE, Int.reduceLT, Int.reduceToNat, Int.reduceAdd, Int.reduceSub, Int.reduceMul, Int.reduceNeg, Int.reduceEq, Int.reduceBEq, Int.reduceBNe, ↓reduceIte, reduceCtorEq, String.reduceBNe, String.reduceEq, reduceDIte, Nat.reducePow, imp_self, htl, hvl, hvv, hs1, hs2, hs3, hs4, hD, lk_old hD, ← hkw, ← hfw, hnh, u8l_len, ul_len, Int.le_refl, Nat.le_refl, c1, c2, c3, hdl, hd1, hd2, hti, hsn, hhl, q1, hwi, e9, hsn]
    exact Weak.same (by simp only [Keeps, Tm.get_cons, Nat.reduceEqDiff, ↓reduceIte, if_true, if_false, ite_true, ite_false, true_and, and_true, and_self, reduceCtorEq, hwi, e9, hsn]) (by first | rfl | simp only [Keeps, Tm.get_cons, Nat.reduceEqDiff, ↓reduceIte, if_true, if_false, ite_true, ite_false, true_and, and_true, and_self, reduceCtorEq, hwi, e9, hsn])
  · have hie : i = np := by have := of_decide_eq_false h21; omega
    subst hie
    have htk : D.take (32 * i) = D := List.take_of_length_le (by omega)
    have hLL : (hdL k f ++ D).length = 6 + 32 * i := by rw [List.length_append, hhl]; omega
    have hUU : U8ok (hdL k f ++ D) := (hdL_ok _ _).app hu
    refine AW.exit ?_
    refine Thn_e ?_
    clear hK K
    refine Thn_e ?_
    refine InB_here ?_
    refine Thn_n ?_
    refine hK _ _ ?_
    clear hK K
    refine AW.seq_k fun K hK => ?_
    refine AW.region (by decide) ?_
    simp only [push_cast, Nat.reduceAdd, Nat.reduceMul, Nat.reduceSub, Nat.reduceLeDiff, Nat.reduceLT, Nat.reduceEqDiff, Nat.reduceBEq, Nat.reduceBNe, Nat.reduceMod, Nat.reduceDiv, Int.reduceLE, Int.reduceLT, Int.reduceToNat, Int.reduceAdd, Int.reduceSub, Int.reduceMul, Int.reduceNeg, Int.reduceEq, Int.reduceBEq, Int.reduceBNe, ↓reduceIte, reduceCtorEq, String.reduceBNe, String.reduceEq, reduceDIte, Nat.reducePow, imp_self, htl, hvl, hvv, hs1, hs2, hs3, hs4, hD, lk_old hD, ← hkw, ← hfw, hnh, u8l_len, ul_len, Int.le_refl, Nat.le_refl, htk]
    refine CThen.by (rof_l (m.length + 4) i (6 + 32 * i) (hdL k f ++ D) _ hLL ⟨.grow, 5, 1, by simp only [push_cast, Nat.reduceAdd, Nat.reduceMul, Nat.reduceSub, Nat.reduceLeDiff, Nat.reduceLT, Nat.reduceEqDiff, Nat.reduceBEq, Nat.reduceBNe, Nat.reduceMod, Nat.reduceDiv, Int.reduceLE, Int.reduceLT, Int.reduceToNat, Int.reduceAdd, Int.reduceSub, Int.reduceMul, Int.reduceNeg, Int.reduceEq, Int.reduceBEq, Int.reduceBNe, ↓reduceIte, reduceCtorEq, String.reduceBNe, String.reduceEq, reduceDIte, Nat.reducePow]⟩ hUU (by omega)) ?_
    simp only [push_cast, Nat.reduceAdd, Nat.reduceMul, Nat.reduceSub, Nat.reduceLeDiff, Nat.reduceLT, Nat.reduceEqDiff, Nat.reduceBEq, Nat.reduceBNe, Nat.reduceMod, Nat.reduceDiv, Int.reduceLE, Int.reduceLT, Int.reduceToNat, Int.reduceAdd, Int.reduceSub, Int.reduceMul, Int.reduceNeg, Int.reduceEq, Int.reduceBEq, Int.reduceBNe, ↓reduceIte, reduceCtorEq, String.reduceBNe, String.reduceEq, reduceDIte, Nat.reducePow, imp_self, htl, hvl, hvv, hs1, hs2, hs3, hs4, hD, lk_old hD, ← hkw, ← hfw, hnh, u8l_len, ul_len, Int.le_refl, Nat.le_refl, htk]
    refine Thn_n ?_
    refine hK _ _ ?_
    clear hK K
    refine AW.ret ?_
    refine hQ _ _ _ ?_
    first | refine RetP.drop0 (Or.inr rfl) ?_ ?_ hwf | refine RetP.drop (Or.inr rfl) ?_ ?_ hwf
    · simp only [resA, resOne, resTv, AV.tv, push_cast, Nat.reduceAdd, Nat.reduceMul, Nat.reduceSub, Nat.reduceLeDiff, Nat.reduceLT, Nat.reduceEqDiff, Nat.reduceBEq, Nat.reduceBNe, Nat.reduceMod, Nat.reduceDiv, Int.reduceLE, Int.reduceLT, Int.reduceToNat, Int.reduceAdd, Int.reduceSub, Int.reduceMul, Int.reduceNeg, Int.reduceEq, Int.reduceBEq, Int.reduceBNe, ↓reduceIte, reduceCtorEq, String.reduceBNe, String.reduceEq, reduceDIte, Nat.reducePow, imp_self, htl, hvl, hvv, hs1, hs2, hs3, hs4, hD, lk_old hD, ← hkw, ← hfw, hnh, u8l_len, ul_len, Int.le_refl, Nat.le_refl, htk]
    · rfl
end Go.Proofs.YtmjbbnfmhgcfaaaDoor

/-
  ENGINE, PART X: functions that the model itself answers: internal/abi.NoEscape, internal/bytealg.IndexByteString.
-/
set_option linter.unusedVariables false
namespace Go.Eng
open Go
variable {P : Program} {m m' : AMem}
theorem Ctr.extern {f : FuncId} {fn : Func} {e : Array Value → Sem Value} {args : List AV} {ret : AV} (hf : P.funcs[f]? = some fn) (hname : (fn.name == "runtime.NumGoroutine") = false)
    (hb : fn.body.isNone = true) (hn : Extern.findNext fn = none) (he : Extern.find fn = some e)
    (h : ∀ ρ w vs, RepM ρ m w → All2 (VR ρ) args vs → ∃ v w' ρ', (e vs.toArray).run P w = .ok v w' ∧ VR ρ' ret v ∧ RepM ρ' m' w' ∧ Step m ρ w m' ρ' w') : Ctr P f args m ret m' := fun ρ w vs hm ha => by
  obtain ⟨v, w', ρ', h1, h2, h3, h4⟩ := h ρ w vs hm ha
  refine .inr ⟨v, w', ?_, v, ρ', rfl, h2, h3, h4⟩
  rw [run_callFunc_extern hf hname hb hn he, h1]; rfl
theorem noEscape_x {f : FuncId} {fn : Func} (hf : P.funcs[f]? = some fn) (hname : (fn.name == "runtime.NumGoroutine") = false) (hb : fn.body.isNone = true) (hn : Extern.findNext fn = none) (he : Extern.find fn = some Extern.AbiNoEscape.same) (x : AV) (m : AMem) : Ctr P f [x] m x m :=
  Ctr.extern hf hname hb hn he fun ρ w vs hm ha => by
    match vs, ha with
    | [v], ha => exact ⟨v, w, ρ, Lib.run_noEscape w v, ha.1, hm, Step.refl _ _ _⟩
theorem indexByteString_x {f : FuncId} {fn : Func} (hf : P.funcs[f]? = some fn) (hname : (fn.name == "runtime.NumGoroutine") = false) (hb : fn.body.isNone = true) (hn : Extern.findNext fn = none) (he : Extern.find fn = some Extern.BytealgIndexByte.indexByte) (s : ByteArray) (c : Int) (m : AMem) :
    Ctr P f [.one (.str s), .one (.int .u8 c)] m (.one (.int .i64 (firstIdx s c.toNat.toUInt8))) m :=
  Ctr.extern hf hname hb hn he fun ρ w vs hm ha => by
    match vs, ha with
    | [u, v], ha =>
      have e1 : u = _ := ha.1
      have e2 : v = _ := ha.2.1
      subst e1; subst e2
      exact ⟨_, w, ρ, run_indexByte_string s c w, rfl, hm, Step.refl _ _ _⟩
end Go.Eng

/-
  ENGINE, PART Y: a step of a loop over a map of our own: whichever entry is left may come next. What a package-level variable holds, where memory grows.
-/
set_option linter.unusedVariables false
set_option linter.unusedSimpArgs false
namespace Go.Eng
open Go
variable {P : Program} {nt : Nat} {tm : Tm} {mem : AMem} {Q : Exit → Tm → AMem → Prop}

theorem AW.wfI {c : Code} (h : MWf mem.length mem → AW P nt c tm mem Q) : AW P nt c tm mem Q := fun ρ a w hr => h hr.mem.wf ρ a w hr

theorem gB_app {m : AMem} {g : Nat} {cs : List CV} (h : gB m g = some cs) (x : AMem) : gB (m ++ x) g = some cs := by
  unfold gB at h ⊢
  rw [List.find?_append]
  cases hf : m.find? fun b => b.kind.tag == 2 && b.ver == g + 1 && !b.cells.isEmpty with
  | none => rw [hf] at h; cases h
  | some b => rw [hf] at h; simpa using h
theorem gB_set {m : AMem} {g : Nat} {cs : List CV} (h : gB m g = some cs) {r : Nat} {b b' : Blk} (hb : m[r]? = some b) (hk : b.kind ≠ .ro) (hk' : b'.kind ≠ .ro) : gB (m.set r b') g = some cs := by
  have key : ∀ (m : AMem) (r : Nat), m[r]? = some b → ((m.set r b').find? fun b => b.kind.tag == 2 && b.ver == g + 1 && !b.cells.isEmpty) = m.find? fun b => b.kind.tag == 2 && b.ver == g + 1 && !b.cells.isEmpty := by
    intro m
    induction m with
    | nil => intro r h; simp at h
    | cons x m ih =>
      intro r h
      have hno : ∀ y : Blk, y.kind ≠ .ro → (y.kind.tag == 2) = false := fun y hy => by
        rw [beq_eq_false_iff_ne]; exact fun e => hy (BK.tag_ro.1 e)
      cases r with
      | zero =>
        simp only [List.getElem?_cons_zero, Option.some.injEq] at h
        subst h
        simp only [List.set_cons_zero, List.find?_cons, hno _ hk, hno _ hk', Bool.false_and]
      | succ r =>
        simp only [List.getElem?_cons_succ] at h
        simp only [List.set_cons_succ, List.find?_cons, ih r h]
  unfold gB at h ⊢
  rw [key m r hb]; exact h

theorem leftOf_mem {ρ : Env} {ka va : Bool} {seen : List Nat} : ∀ {es : List (Nat × List CV × List CV)} {o : List MapEntry}, All2 (entR ρ ka va) es o → ∀ {x : MapEntry}, x ∈ o → x.born ∉ seen → ∃ (j : Nat) (e : Nat × List CV × List CV), es[j]? = some e ∧ e.1 = x.born ∧ e.1 ∉ seen ∧ entR ρ ka va e x
  | [], [], _, x, h, _ => by cases h
  | e :: es, y :: o, ho, x, h, hs => by
    rcases List.mem_cons.1 h with rfl | h
    · exact ⟨0, e, rfl, ho.1.1.symm, by rw [← ho.1.1]; exact hs, ho.1⟩
    · obtain ⟨j, e', h1, h2⟩ := leftOf_mem ho.2 h hs
      exact ⟨j + 1, e', by simpa using h1, h2⟩
  | [], _ :: _, h, _, _, _ => h.elim
  | _ :: _, [], h, _, _, _ => h.elim

/-- A STEP OF A LOOP OVER A MAP. -/
theorem AW.next {id d t pos0 : Nat} {ty : TypeId} {pos : String} {af : Array Edge} {l : List Oper} (ri rm since last : Nat) (seen : List Nat) {ity iesz : Nat} {clock : Nat} {ka va : Bool} {es : List (Nat × List CV × List CV)}
    (hd : d < nt) (hl : l.all (dstOk nt) = true) (hit : Tm.get tm t = .one (.ptr ri 0 0)) (hi : mem[ri]? = some ⟨.iter rm since seen last, ity, 0, iesz, []⟩) (hm : mapAt mem rm 0 = some (ka, va, clock, es))
    (hold : ∀ e, e ∈ es → e.1 < since) (hsc : since ≤ last)
    (hMore : ∀ (j : Nat) (e : Nat × List CV × List CV), es[j]? = some e → e.1 ∉ seen → AOps P (⟨some d, .next (.tmp t) false, ty, pos, af, none⟩ :: l).toArray l ((d, .tup [(false, [.bool true]), (ka, e.2.1), (va, e.2.2)]) :: tm) (mem.set ri ⟨.iter rm since (seen ++ [e.1]) clock, ity, 0, iesz, []⟩) (Q .normal))
    (hDone : (∀ e, e ∈ es → e.1 ∈ seen) → AOps P (⟨some d, .next (.tmp t) false, ty, pos, af, none⟩ :: l).toArray l ((d, .tup [(false, [.bool false])]) :: tm) mem (Q .normal)) :
    AW P nt (.region id (⟨some d, .next (.tmp t) false, ty, pos, af, none⟩ :: l).toArray false) tm mem Q := by
  intro ρ a w hr
  refine wp_region_lit ?_
  refine wpList_plain rfl fun K hK => ?_
  unfold Oper.wp
  have hv := hr.tm t
  rw [hit] at hv
  obtain ⟨n, N, k, k', h1, h2, h3, h4, hv'⟩ := iter_sound hr.mem hi hv
  obtain ⟨b, N', kk, o, hb', hver, hkind, hcells, hρ, hvv, hheap, hall⟩ := mapAt_sound hr.mem hm (v := .map (some N)) ⟨N, k', h2, rfl⟩
  injection hvv with hvv; injection hvv with hvv; subst hvv
  have hold' : ∀ x ∈ o.toList, x.born < since := fun x hx => by
    obtain ⟨i, hi'⟩ := List.getElem?_of_mem hx
    have hlen := hall.length
    have hil : i < es.length := by rw [hlen]; exact (List.getElem?_eq_some_iff.1 hi').1
    obtain ⟨x', hx', g⟩ := hall.get (List.getElem?_eq_getElem hil)
    rw [hi'] at hx'; injection hx' with hx'; subst hx'
    rw [g.1]; exact hold _ (List.getElem_mem hil)
  have hex : ∀ r, (Instr.next (.pointer (some ⟨n, 0, none⟩)) false ty).run P w = r → (execOp a.eval ⟨some d, .next (.tmp t) false, ty, pos, af, none⟩).run P w = r.andThen fun v w' => .ok (.value v) w' := by
    intro r hr'
    have e : a.eval (.tmp t) = .pointer (some ⟨n, 0, none⟩) := hv'
    simp only [execOp, e, Sem.run_bind, hr', Sem.run_pure]
  rcases run_next_at (P := P) w ty n N since last seen.toArray o clock h3 hheap hold' hsc with ⟨h0, hrun⟩ | ⟨x, hx, w1, hw1, hrun⟩
  · rw [hex _ hrun, Result.andThen_ok, Oper.upon_value]
    refine hK _ _ ?_
    have hall0 : ∀ e, e ∈ es → e.1 ∈ seen := fun e he => by
      obtain ⟨i, hi'⟩ := List.getElem?_of_mem he
      obtain ⟨x, hx, g⟩ := hall.get hi'
      rcases Classical.em (e.1 ∈ seen) with h | h
      · exact h
      · exfalso
        have : x ∈ (leftOf o seen.toArray).toList := by
          unfold leftOf
          simp only [Array.toList_filter, List.mem_filter, Bool.not_eq_true', List.contains_toArray]
          exact ⟨List.mem_of_getElem? hx, by rw [g.1]; simpa using h⟩
        rw [Array.eq_empty_of_size_eq_zero h0] at this
        cases this
    have hr1 : Rep ρ nt ((d, .tup [(false, [.bool false])]) :: tm) mem (a.put (some d) (.tuple #[.bool false])) w := hr.put hd ⟨_, rfl, rfl, trivial⟩
    exact aops_sound l _ _ _ hl (hDone hall0) ρ _ w _ hr1 fun ρ' tm' mem' a' w' r s dd k => ⟨ρ', tm', mem', r, s, dd, k⟩
  · rw [hex _ hrun, Result.andThen_ok, Oper.upon_value]
    refine hK _ _ ?_
    have hxo : x ∈ o.toList ∧ x.born ∉ seen := by
      unfold leftOf at hx
      simp only [Array.toList_filter, List.mem_filter, Bool.not_eq_true', List.contains_toArray] at hx
      exact ⟨hx.1, by simpa using hx.2⟩
    obtain ⟨j, e, g1, g2, g3, g4⟩ := leftOf_mem hall hxo.1 hxo.2
    have hw : w1.heap = w.heap ∧ w1.os = w.os ∧ w1.tape = w.tape ∧ w1.output = w.output := by rcases hw1 with rfl | rfl <;> exact ⟨rfl, rfl, rfl, rfl⟩
    have hnl : n < w.heap.size := (Array.getElem?_eq_some_iff.1 h3).1
    have hbk : BlkR ρ (ChangeMaps.setBlock w1 n (.mapIter (some N) since (seen.toArray.push x.born) clock)) ri ⟨.iter rm since (seen ++ [e.1]) clock, ity, 0, iesz, []⟩ := by
      refine ⟨n, N, k, k', h1, h2, ?_, rfl⟩
      show (w1.heap.setIfInBounds n _)[n]? = _
      rw [hw.1, Array.getElem?_setIfInBounds_self_of_lt hnl, g2]
      simp
    obtain ⟨q1, q2⟩ := hr.mem.turn (w' := ChangeMaps.setBlock w1 n (.mapIter (some N) since (seen.toArray.push x.born) clock)) hi (by simp) h1 ⟨.iter rm since (seen ++ [e.1]) clock, ity, 0, iesz, []⟩ rfl rfl (by
        intro m hmn
        show (w1.heap.setIfInBounds n _)[m]? = _
        rw [hw.1, Array.getElem?_setIfInBounds_ne (fun e => hmn e.symm)]) (by show (w1.heap.setIfInBounds n _).size = _; rw [hw.1]; simp) hw.2.1 hw.2.2.1 hw.2.2.2 hbk
    have hr1 : Rep ρ nt ((d, .tup [(false, [.bool true]), (ka, e.2.1), (va, e.2.2)]) :: tm) (mem.set ri ⟨.iter rm since (seen ++ [e.1]) clock, ity, 0, iesz, []⟩) (a.put (some d) (.tuple #[.bool true, x.key, x.val])) (ChangeMaps.setBlock w1 n (.mapIter (some N) since (seen.toArray.push x.born) clock)) :=
      (hr.step q2 q1).put hd ⟨_, rfl, rfl, g4.2.1, g4.2.2.1, trivial⟩
    exact aops_sound l _ _ _ hl (hMore j e g1 g3) ρ _ _ _ hr1 fun ρ' tm' mem' a' w' r s dd k => ⟨ρ', tm', mem', r, q2.trans s, dd, k⟩
end Go.Eng

/-
  ENGINE, PART Z: a law whose row lists package-level variables: what they hold is a read-only block ahead of the arguments.
-/
set_option linter.unusedVariables false
set_option linter.unusedSimpArgs false
namespace Go.Eng
open Go Go.RowKit Go.ChangeShapes Go.WideShapes

section
variable {P : Program} {B : Nat} {H : Type} {enc : TypeId × Value → H} {W : World} {bulk : DataW H → Nat}

/-- The cells that a reading tells, where it tells all. -/
def exactCV (P : Program) {H : Type} : Nat → TypeId → DataW H → Option (List CV)
  | 0, _, _ => none
  | n + 1, t, d => match P.underlying t with
    | some .bool => match d with | .lit (.bool b) => some [.bool b] | _ => none
    | some (.int k) => match d with | .lit (.int k' x) => if k' = k then some [.int k x] else none | _ => none
    | some .string => match d with | .lit (.string s) => some [.str ⟨s.toArray⟩] | _ => none
    | some (.array _ e) => match d with | .agg ds => (ds.mapM (exactCV P n e)).map List.flatten | _ => none
    | _ => none

theorem exact_chunks {α : Type} {e : TypeId} {n fuel sz : Nat} {f : TypeId → List Value → Option (DataW α × List MemPlace)} {ρ : Env} :
    ∀ (l : List Nat) (cs : List Value) (xs : List (DataW α × List MemPlace)) (cvs : List (List CV)),
    All2 (fun i x => f e ((cs.drop (i * sz)).take sz) = some x) l xs → All2 (fun d cv => exactCV P n e d = some cv) (xs.map (·.1)) cvs →
    (∀ c d p cv, f e c = some (d, p) → exactCV P n e d = some cv → All2 (VC ρ) cv c) →
    All2 (fun cv c => All2 (VC ρ) cv c) cvs (l.map fun i => (cs.drop (i * sz)).take sz)
  | [], cs, [], [], _, _, _ => trivial
  | i :: l, cs, x :: xs, cv :: cvs, h1, h2, h3 => ⟨h3 _ x.1 x.2 _ h1.1 h2.1, exact_chunks (fuel := fuel) l cs xs cvs h1.2 h2.2 h3⟩
  | [], _, _ :: _, _, h, _, _ => h.elim
  | _ :: _, _, [], _, h, _, _ => h.elim
  | [], _, [], _ :: _, _, h, _ => h.elim
  | _ :: _, _, _ :: _, [], _, h, _ => h.elim

theorem exact_ok (hl : laidB P = true) {ρ : Env} {sp : Nat → Bool} {held : Bool} : ∀ (n fuel : Nat) (t : TypeId) (cs : List Value) (d : DataW H) (p : List MemPlace) (cv : List CV), t < P.types.size →
    DataW.trod enc P W 0 sp held fuel t cs = some (d, p) → exactCV P n t d = some cv → All2 (VC ρ) cv cs
  | 0, _, _, _, _, _, _, _, _, h => by simp [exactCV] at h
  | n + 1, 0, _, _, _, _, _, _, h, _ => by simp [DataW.trod] at h
  | n + 1, fuel + 1, t, cs0, d, p, cv, hlt, h, he => by
    unfold DataW.trod at h
    split at h
    · rename_i b ht
      simp only [Option.some.injEq, Prod.mk.injEq] at h
      obtain ⟨rfl, rfl⟩ := h
      simp only [exactCV, ht, Option.some.injEq] at he
      subst he
      exact ⟨rfl, trivial⟩
    · rename_i k k' a ht
      split at h
      · rename_i hk
        simp only [Option.some.injEq, Prod.mk.injEq] at h
        obtain ⟨rfl, rfl⟩ := h
        simp only [exactCV, ht, if_true, Option.some.injEq] at he
        subst he
        obtain ⟨rfl, _⟩ := hk
        exact ⟨rfl, trivial⟩
      · cases h
    · rename_i ht
      simp only [exactCV, ht] at he
      cases he
    · rename_i s ht
      split at h
      · simp only [Option.some.injEq, Prod.mk.injEq] at h
        obtain ⟨rfl, rfl⟩ := h
        simp only [exactCV, ht, Option.some.injEq] at he
        subst he
        exact ⟨rfl, trivial⟩
      · cases h
    all_goals first
      | (rename_i ht; simp only [exactCV, ht] at he; cases he; done)
      | (rename_i ht _; simp only [exactCV, ht] at he; cases he; done)
      | (rename_i ht _ _; simp only [exactCV, ht] at he; cases he; done)
      | (cases h; done)
      | skip
    · rename_i cs0 _ _ k e ht
      split at h
      · rename_i hcl
        obtain ⟨xs, hx, h⟩ := Option.map_eq_some_iff.1 h
        simp only [Prod.mk.injEq] at h
        obtain ⟨rfl, rfl⟩ := h
        have h2 := mapM_all2 hx
        have hsz := laid_array hl hlt ht
        simp only [exactCV, ht] at he
        obtain ⟨cvs, hc, rfl⟩ := Option.map_eq_some_iff.1 he
        have h3 := mapM_all2 hc
        have hcl2 : cs0.length = k * P.cellsOf e := by omega
        have := All2_flatten (exact_chunks (P := P) (n := n) (fuel := fuel) (f := fun e c => DataW.trod enc P W 0 sp held fuel e c) (ρ := ρ) (e := e) (List.range k) cs0 xs cvs h2 h3
          (fun c d p cv h1 h2 => exact_ok hl n fuel e c d p cv hsz.2 h1 h2))
        rwa [chunks_flat k cs0 hcl2] at this
      · cases h

/-- A LAW THAT ANSWERS TRUE, whose row lists one package-level variable: its cells are a read-only block. -/
theorem law_true_laid {f : FuncId} {fn : Func} {s : ChangeSpec} {args : Array Value} {ds gs : List (DataW H)} {before : List MemPlace} {tb : TypeId} {base : Nat} (hvars : s.vars = [])
    {nm : String} {dv : DataW Unit} {gv : Nat} {tv : TypeId} {cvv : List CV} {fuelv : Nat} (hlaid : laidMetH P [(nm, dv)] W) (hplain : dv.handleName?.isNone = true) (hg : P.globalNamed nm = some gv) (htv : (P.globals[gv]?).map (·.type) = some tv)
    (hcv : exactCV P fuelv tv dv = some cvv) (hne : cvv.isEmpty = false) (htv2 : tv < P.types.size)
    (hs : ∀ l : List (DataW H), l = ds → s.fn H l = { results := [.lit (.bool true)], args := l }) (hl : laidOutB P = true) (hlb : laidB P = true) (hread : fn.params.toList.all (fun t => P.readableRec t && decide (t < P.types.size)) = true)
    (hres : fn.resultTypes = #[tb]) (htb : P.underlying tb = some .bool) (hb : IsBulk bulk) (hk : ∀ d, d ∈ ds → bulk d ≤ B)
    (hval : ∀ (j : Nat) t v, fn.params[j]? = some t → args[j]? = some v → Value.okWide P W .any base t v)
    (hW : DataW.Whole enc P fn.params.toList s.vars false W args.toList ds gs before)
    (hlaw : ∀ m avs, AllRo m → gB m gv = some cvv → All2 (fun t a => goodA P B m t a) fn.params.toList avs → Ctr P f avs m (.one (.bool true)) m) (hbod : Bodied P f := by exact ⟨_, rfl, rfl, rfl⟩) :
    Calls P f args W fun e W' => ∃ v, e = .returned v ∧ s.post enc P fn false true false false W args v W' := by
  have hread' : ∀ t, t ∈ fn.params.toList → P.readableRec t = true ∧ t < P.types.size := fun t ht => by
    have := List.all_eq_true.1 hread t ht
    simpa using this
  obtain ⟨p, q, hA, hV, he, hz, hn⟩ := id hW
  rw [MakeChecks.laidMetH_plain _ _ _ (by simpa using hplain)] at hlaid
  obtain ⟨ps, hlv, _, _⟩ := hlaid
  obtain ⟨g', t', cs, fuel, p', q', e1, e2, e3, e4, _, _⟩ := hlv
  rw [hg] at e1; injection e1 with e1; subst e1
  rw [htv] at e2; injection e2 with e2; subst e2
  have h0 : RepM (fun _ _ => none) [] W := ⟨fun r b h => by simp at h, fun _ _ _ => rfl, fun r b v h => by simp at h, fun r s b c h => by simp at h⟩
  have hex : ∀ ρ : Env, All2 (VC ρ) cvv cs.toList := fun ρ => exact_ok hlb fuelv fuel tv cs.toList dv p' cvv htv2 e4 hcv
  have hheap : ∃ t z, W.heap[gv]? = some (.cells cs t z) := by
    unfold World.var? at e3
    rw [hg] at e3
    simp only [Option.bind_some] at e3
    split at e3
    · rename_i cs' t z hh
      injection e3 with e3; subst e3
      exact ⟨t, z, hh⟩
    · cases e3
  obtain ⟨th, zh, hh⟩ := hheap
  obtain ⟨q1, q2, q3⟩ := h0.roBlkV (fun b h => by cases h) (gv + 1) (some ⟨gv, 0, none⟩) 0 tv 0 cvv (fun _ => by
    refine ⟨⟨gv, 0, none⟩, rfl, (Array.getElem?_eq_some_iff.1 hh).1, fun _ => rfl, fun i c hi => ?_⟩
    obtain ⟨v, hv, hvv⟩ := (hex (fun _ _ => none)).get hi
    refine ⟨v, ?_, hvv⟩
    have e : (⟨gv, 0, none⟩ : Addr).add i = ⟨gv, i, none⟩ := by
      unfold Addr.add
      by_cases hi0 : i = 0
      · subst hi0; rfl
      · rw [if_neg hi0]; simp
    rw [e]
    unfold World.cell?
    rw [hh]
    simpa using hv)
  obtain ⟨ρ, ex, avs, k1, k2, k3, k4, k5⟩ := read_args hlb hb (base := base) _ _ _ _ hA (fun i t v h1 h2 => hval i t v (by simpa using h1) (by simpa using h2)) hk (fun t ht => (hread' t ht).2) _ _ q2 q3
  have hgb : gB ([] ++ [(⟨.ro, tv, gv + 1, 0, cvv⟩ : Blk)] ++ ex) gv = some cvv := gB_app (by
    unfold gB
    simp [BK.tag, hne]) ex
  have hc := (hlaw _ avs k2 hgb k5 ρ W _ k1 k4).calls hbod
  rw [show args.toList.toArray = args by simp] at hc
  refine hc.mono fun e W' ⟨v, ρ', e1, hv, hm, hst⟩ => ?_
  have hv' : v = .bool true := hv
  subst e1; subst hv'
  exact ⟨_, rfl, post_true hvars hs hl hread' hres htb hW (hst.below k2)⟩
end
end Go.Eng
