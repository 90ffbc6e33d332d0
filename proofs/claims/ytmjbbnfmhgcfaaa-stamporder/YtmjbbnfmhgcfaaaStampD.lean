/- Walks and facts of this seat's program over abstract states, printed by a program of mine; no conditions but those that each theorem names. -/
import Derived.Test.YtmjbbnfmhgcfaaaStampC
set_option linter.unusedSimpArgs false
set_option linter.unusedVariables false
set_option maxRecDepth 100000
set_option maxHeartbeats 4000000
namespace Go.Proofs.Ytmjbbnfmhgcfaaa
open Go Go.Eng

theorem setL_app {α : Type} : ∀ (vs l tl : List α) (pre : List α), l.length = vs.length → setL (pre ++ (l ++ tl)) pre.length vs = pre ++ (vs ++ tl)
  | [], [], tl, pre, _ => rfl
  | [], _ :: _, _, _, h => by simp at h
  | _ :: _, [], _, _, h => by simp at h
  | v :: vs, x :: l, tl, pre, h => by
    have ih := setL_app vs l tl (pre ++ [v]) (by simpa using h)
    simp only [setL, List.cons_append]
    rw [List.set_append_right _ _ (Nat.le_refl _), Nat.sub_self, List.set_cons_zero]
    simpa using ih
theorem setL_key (a b c : CV) (X : List Int) (h : X.length = 32) : setL [a, b, .int .u8 0, .int .u8 0, .int .u8 0, .int .u8 0, .int .u8 0, .int .u8 0, .int .u8 0, .int .u8 0, .int .u8 0, .int .u8 0, .int .u8 0, .int .u8 0, .int .u8 0, .int .u8 0, .int .u8 0, .int .u8 0, .int .u8 0, .int .u8 0, .int .u8 0, .int .u8 0, .int .u8 0, .int .u8 0, .int .u8 0, .int .u8 0, .int .u8 0, .int .u8 0, .int .u8 0, .int .u8 0, .int .u8 0, .int .u8 0, .int .u8 0, .int .u8 0, c] 2 (u8l X) = a :: b :: (u8l X ++ [c]) :=
  setL_app (u8l X) [.int .u8 0, .int .u8 0, .int .u8 0, .int .u8 0, .int .u8 0, .int .u8 0, .int .u8 0, .int .u8 0, .int .u8 0, .int .u8 0, .int .u8 0, .int .u8 0, .int .u8 0, .int .u8 0, .int .u8 0, .int .u8 0, .int .u8 0, .int .u8 0, .int .u8 0, .int .u8 0, .int .u8 0, .int .u8 0, .int .u8 0, .int .u8 0, .int .u8 0, .int .u8 0, .int .u8 0, .int .u8 0, .int .u8 0, .int .u8 0, .int .u8 0, .int .u8 0] [c] [a, b] (by rw [u8l_len, h]; rfl)
theorem rwF_wf (f : Nat) : ∀ k, MWf 0 (rwF f k)
  | 0 => MWf_nil
  | k + 1 => by
    refine MWf.app (rwF_wf f k) ?_
    split
    · exact MWf_nil
    · exact MWf_one (nl_below _ _)
theorem rwG_wf : ∀ f, MWf 0 (rwG f)
  | 0 => MWf_nil
  | f + 1 => MWf.app (rwG_wf f) (rwF_wf f 4)
theorem wR_below {J : List Int} {b L : Nat} : ∀ n, (∀ i, i < n → i % 4 ≠ 0 → b + rwN i < L) → (wR J b n).all (CV.below L) = true
  | 0, _ => rfl
  | n + 1, h => by
    have ih := wR_below (J := J) n fun i hi => h i (by omega)
    have h2 : (ndC b n).below L = true := by
      unfold ndC
      split
      · rfl
      · rename_i h3
        have := h n (by omega) h3
        simpa [CV.below] using this
    simp only [wR, List.all_append, ih, wC, List.all_cons, u8l_below, h2, List.all_nil]; rfl
theorem works_wf (J : List Int) (m R : AMem) (n v : Nat) (hm : MWf m.length m) (hR : MWf 0 R) (h : ∀ i, i < n → i % 4 ≠ 0 → rwN i < R.length) : MWf (m ++ (⟨.fix, 36, 0, 0, u8l J⟩ :: ⟨.grow, 39, v, 35, wR J (m.length + 2) n⟩ :: R)).length (m ++ (⟨.fix, 36, 0, 0, u8l J⟩ :: ⟨.grow, 39, v, 35, wR J (m.length + 2) n⟩ :: R)) := by
  refine MWf.app (hm.grow (by simp)) (MWf_cons (u8l_below _ _) (MWf_cons ?_ (hR.grow (Nat.zero_le _))))
  refine wR_below n fun i hi h3 => ?_
  have := h i hi h3
  simp only [List.length_append, List.length_cons]; omega
theorem mm_set (m : AMem) (b c d : Blk) (L : AMem) : (m ++ (b :: c :: L)).set (m.length + 1) d = m ++ (b :: d :: L) := by rw [set_app]; rfl
theorem works_c (J : List Int) (F : Nat) (x : Int) (m : AMem) (hJ : J.length = 32) (hJu : U8ok J) (hF : F ≤ 32) (hx : maxI 0 (minI x 32) = (F : Int)) : Ctr Try.prog 5 [.agg (u8l J), .one (.int .i64 x)] m (.one (.sl (m.length + 1) (4 * F) 0 (4 * F))) (m ++ (⟨.fix, 36, 0, 0, u8l J⟩ :: ⟨.grow, 39, 4 * F, 35, wR J (m.length + 2) (4 * F)⟩ :: rwG F)) := by
  refine Ctr.enter Try.func5 rfl (by decide) (rs := [.tmp 4]) (nt := 62) rfl rfl fun hwf Q hQ => ?_
  have hj1 := u8l_len J
  have hj2 : (u8l J).take 32 = u8l J := List.take_of_length_le (by rw [u8l_len, hJ]; exact Nat.le_refl _)
  have hj3 : setL [.int .u8 0, .int .u8 0, .int .u8 0, .int .u8 0, .int .u8 0, .int .u8 0, .int .u8 0, .int .u8 0, .int .u8 0, .int .u8 0, .int .u8 0, .int .u8 0, .int .u8 0, .int .u8 0, .int .u8 0, .int .u8 0, .int .u8 0, .int .u8 0, .int .u8 0, .int .u8 0, .int .u8 0, .int .u8 0, .int .u8 0, .int .u8 0, .int .u8 0, .int .u8 0, .int .u8 0, .int .u8 0, .int .u8 0, .int .u8 0, .int .u8 0, .int .u8 0] 0 (u8l J) = u8l J := setL_full (by rw [u8l_len, hJ]; rfl)
  have hj4 := u8l_vals J
  iterate 2
    refine AW.seq_k fun K hK => ?_
    refine AW.region (by decide) ?_
    simp only [push_cast, simprocAttr, imp_self, hJ, hj2, hj3, hj4, u8l_len, u8l_app, Nat.le_refl, Int.le_refl, hx]
    refine Thn_n ?_
    refine hK _ _ ?_
    clear hK K
  refine AW.seq_k fun K hK => ?_
  refine AW.seq_k fun K hK => ?_
  refine AW.nilTm 39 35 5 (by simp only [push_cast, simprocAttr]) ?_
  try simp only [push_cast, simprocAttr]
  refine AW.region (by decide) ?_
  simp only [push_cast, simprocAttr, imp_self, hJ, hj2, hj3, hj4, u8l_len, u8l_app, Nat.le_refl, Int.le_refl, hx]
  refine Thn_n ?_
  refine hK _ _ ?_
  clear hK K
  refine AW.block ?_
  refine AW.loopE0 [2, 14] (fun f => f ≤ F) (fun f => [(5, .one (.sl (m.length + 1) (4 * f) 0 (4 * f))), (15, .one (.int .i64 (f : Int)))]) (fun f => [(m.length + 1, ⟨.grow, 39, 4 * f, 35, wR J (m.length + 2) (4 * f)⟩)]) (fun f => rwG f) (fun f => F - f) 0 (by omega) ?_ ?_ ?_ fun f hi5 => ?_
  · first | rfl | (simp only [Keeps, Tm.get_cons, Nat.reduceEqDiff, ↓reduceIte, if_true, if_false, ite_true, ite_false, true_and, and_true, and_self, reduceCtorEq, Int.natCast_zero, Nat.mul_zero, wR, rwG] <;> rfl)
  · first | rfl | (simp only [setAll, push_cast, simprocAttr, imp_self, hJ, hj2, hj3, hj4, u8l_len, u8l_app, Nat.le_refl, Int.le_refl, hx, Int.natCast_zero, Nat.mul_zero, wR, rwG] <;> rfl)
  · exact fun i j _ _ h => by simp only [rwG_len]; omega
  have hf : f ≤ F := hi5
  try simp only [keepL, setAll, push_cast, simprocAttr, imp_self, hJ, hj2, hj3, hj4, u8l_len, u8l_app, Nat.le_refl, Int.le_refl, hx]
  refine AW.seq_k fun K hK => ?_
  refine AW.region (by decide) ?_
  simp only [push_cast, simprocAttr, imp_self, hJ, hj2, hj3, hj4, u8l_len, u8l_app, Nat.le_refl, Int.le_refl, hx]
  refine Thn_n ?_
  refine hK _ _ ?_
  clear hK K
  refine AW.seq_k fun K hK => ?_
  refine AW.cond rfl (fun h16 => ?_) (fun h16 => ?_)
  · have hlt : f < F := by have := of_decide_eq_true h16; omega
    refine AW.skip ?_
    refine Thn_n ?_
    refine hK _ _ ?_
    clear hK K
    refine AW.seq_k fun K hK => ?_
    refine AW.block ?_
    iterate 2
      refine AW.seq_k fun K hK => ?_
      refine AW.region (by decide) ?_
      simp only [push_cast, simprocAttr, imp_self, hJ, hj2, hj3, hj4, u8l_len, u8l_app, Nat.le_refl, Int.le_refl, hx]
      refine Thn_n ?_
      refine hK _ _ ?_
      clear hK K
    refine AW.block ?_
    refine AW.loopE0 [2, 6, 14, 15] (fun k => k ≤ (4 : Nat)) (fun k => [(5, .one (.sl (m.length + 1) (4 * f + k) 0 (4 * f + k))), (18, .one (.int .i64 (k : Int)))]) (fun k => [(m.length + 1, ⟨.grow, 39, (4 * f + k), 35, wR J (m.length + 2) ((4 * f + k))⟩)]) (fun k => rwF f k) (fun k => 4 - k) 0 (by omega) ?_ ?_ ?_ fun k hi11 => ?_
    · first | rfl | (simp only [Keeps, Tm.get_cons, Nat.reduceEqDiff, ↓reduceIte, if_true, if_false, ite_true, ite_false, true_and, and_true, and_self, reduceCtorEq, Int.natCast_zero, Nat.add_zero, rwF, List.append_nil] <;> rfl)
    · first | rfl | (simp only [setAll, push_cast, simprocAttr, imp_self, hJ, hj2, hj3, hj4, u8l_len, u8l_app, Nat.le_refl, Int.le_refl, hx, Int.natCast_zero, Nat.add_zero, rwF, List.append_nil] <;> rfl)
    · exact fun i j _ _ h => by simp only [rwF_len]; omega
    have hk : k ≤ 4 := hi11
    try simp only [keepL, setAll, push_cast, simprocAttr, imp_self, hJ, hj2, hj3, hj4, u8l_len, u8l_app, Nat.le_refl, Int.le_refl, hx]
    refine AW.seq_k fun K hK => ?_
    refine AW.region (by decide) ?_
    simp only [push_cast, simprocAttr, imp_self, hJ, hj2, hj3, hj4, u8l_len, u8l_app, Nat.le_refl, Int.le_refl, hx]
    refine Thn_n ?_
    refine hK _ _ ?_
    clear hK K
    refine AW.seq_k fun K hK => ?_
    refine AW.cond rfl (fun h19 => ?_) (fun h19 => ?_)
    · have hltk : k < 4 := by have := of_decide_eq_true h19; omega
      refine AW.skip ?_
      refine Thn_n ?_
      refine hK _ _ ?_
      clear hK K
      refine AW.seq_k fun K hK => ?_
      refine AW.block ?_
      refine AW.seq_k fun K hK => ?_
      obtain ⟨M, hM⟩ : ∃ M, M = m ++ (⟨.fix, 36, 0, 0, u8l J⟩ :: ⟨.grow, 39, (4 * f + k), 35, wR J (m.length + 2) ((4 * f + k))⟩ :: (rwG f ++ rwF f k)) := ⟨_, rfl⟩
      rw [← hM]
      obtain ⟨n, hn⟩ : ∃ n, n = 4 * f + k := ⟨_, rfl⟩
      obtain ⟨kn, hkn⟩ : ∃ kn, kn = k + 1 := ⟨_, rfl⟩
      rw [← hn] at hM ⊢
      have hMl : M.length = m.length + (2 + (3 * f + (k - 1))) := by rw [hM]; simp only [List.length_append, List.length_cons, rwG_len, rwF_len]; omega
      have gB : M[m.length]? = some ⟨.fix, 36, 0, 0, u8l J⟩ := by rw [hM, lk_app0]; rfl
      have gO : M[m.length + 1]? = some ⟨.grow, 39, n, 35, wR J (m.length + 2) (n)⟩ := by rw [hM, lk_app]; rfl
      have lO : m.length + 1 < M.length := by omega
      have kS := fun (L : AMem) (b : Blk) => mk_olds (m := M) (l := M) rfl lO L b
      have kM : ∀ b : Blk, M.set (m.length + 1) b = m ++ (⟨.fix, 36, 0, 0, u8l J⟩ :: b :: (rwG f ++ rwF f k)) := fun b => by rw [hM]; exact mm_set _ _ _ _ _
      have hrf : rwF f kn = rwF f k ++ (if k = 0 then [] else [⟨.grow, 3, 0, 1, nl (ndL n)⟩]) := by rw [hkn, hn]; rfl
      obtain ⟨RR, hRR⟩ : ∃ RR, RR = rwG f ++ rwF f kn := ⟨_, rfl⟩
      have hwR : MWf 0 RR := by rw [hRR]; exact MWf.app (rwG_wf f) (rwF_wf f kn)
      have hwL : ∀ i, i < n + 1 → i % 4 ≠ 0 → rwN i < RR.length := fun i hi h => by rw [hRR, List.length_append, rwG_len, rwF_len]; unfold rwN; omega
      have e6 : True := trivial
      have hrf6 : True := trivial
      have hki6 : True := trivial
      have hwl := wR_len J (m.length + 2) n
      have hky := ky_eq J n
      rw [ofB_eq] at hky
      have hkl := ky_len J n
      have hko := ky_ok J n
      have hkv := u8l_vals (ky J n)
      have hwn : wR J (m.length + 2) (n + 1) = wR J (m.length + 2) n ++ wC J (m.length + 2) n := rfl
      have e5 : 4 * f + kn = n + 1 := by omega
      have q1 : n + 1 ≤ 140737488355328 := by omega
      have q3 : 35 * n = n * 35 := Nat.mul_comm _ _
      have q2 : (n + 1) * 72 ≤ 140737488355328 := by omega
      have hcl := wC_len J (m.length + 2) n
      have hct : (wC J (m.length + 2) n).take 35 = wC J (m.length + 2) n := List.take_of_length_le (by rw [hcl]; exact Nat.le_refl _)
      have hcs : setL [.int .i64 0, .int .i64 0, .int .u8 0, .int .u8 0, .int .u8 0, .int .u8 0, .int .u8 0, .int .u8 0, .int .u8 0, .int .u8 0, .int .u8 0, .int .u8 0, .int .u8 0, .int .u8 0, .int .u8 0, .int .u8 0, .int .u8 0, .int .u8 0, .int .u8 0, .int .u8 0, .int .u8 0, .int .u8 0, .int .u8 0, .int .u8 0, .int .u8 0, .int .u8 0, .int .u8 0, .int .u8 0, .int .u8 0, .int .u8 0, .int .u8 0, .int .u8 0, .int .u8 0, .int .u8 0, .nils] 0 (wC J (m.length + 2) n) = wC J (m.length + 2) n := setL_full (by rw [hcl]; rfl)
      dsimp only at hcs
      have hcv : (wC J (m.length + 2) n).all CV.isVal = true := wC_vals _ _ _
      have hwc0 : wC J (m.length + 2) n = .int .i64 ((n % 4 : Nat) : Int) :: .int .i64 ((n / 4 : Nat) : Int) :: (u8l (ky J n) ++ [ndC (m.length + 2) n]) := rfl
      refine AW.region (by decide) ?_
      simp only [push_cast, simprocAttr, imp_self, hJ, hj2, hj3, hj4, u8l_len, u8l_app, Nat.le_refl, Int.le_refl, hx]
      refine Thn_n ?_
      refine hK _ _ ?_
      clear hK K
      refine AW.seq_k fun K hK => ?_
      have hcs : k = 0 ∨ (k = 1 ∧ f = 0) ∨ (k = 1 ∧ ∃ g, f = g + 1) ∨ k = 2 ∨ k = 3 := by
        have : k = 0 ∨ k = 1 ∨ k = 2 ∨ k = 3 := by omega
        rcases this with h | h | h | h
        · exact .inl h
        · rcases Nat.eq_zero_or_pos f with h0 | h0
          · exact .inr (.inl ⟨h, h0⟩)
          · exact .inr (.inr (.inl ⟨h, f - 1, by omega⟩))
        · exact .inr (.inr (.inr (.inl h)))
        · exact .inr (.inr (.inr (.inr h)))
      rcases hcs with rfl | ⟨rfl, rfl⟩ | ⟨rfl, g, rfl⟩ | rfl | rfl
      · have hm0 : n % 4 = 0 := by omega
        have hd0 : n / 4 = f := by omega
        rw [hm0, hd0] at hky hwc0
        have hrowA : True := trivial
        have hrowB : True := trivial
        have hnd : ndC (m.length + 2) n = .nils := by unfold ndC; rw [hm0]; rfl
        rw [if_pos rfl] at hky hrf
        rw [List.append_nil] at hrf
        simp only [push_cast, simprocAttr] at hky
        have hki : ((kn : Nat) : Int) = 1 := by omega
        have hwc : CV.int .i64 0 :: .int .i64 (f : Int) :: (u8l (ky J n) ++ [.nils]) = wC J (m.length + 2) n := by rw [hwc0, hnd]; rfl
        have hsk := setL_key (.int .i64 0) (.int .i64 (f : Int)) (.nils) (ky J n) hkl
        dsimp only at hsk
        have hq2 : ∀ l : List CV, l = l := fun _ => rfl
        refine AW.region (by decide) ?_
        simp only [push_cast, simprocAttr, imp_self, hJ, hj2, hj3, hj4, u8l_len, u8l_app, Nat.le_refl, Int.le_refl, hx, gB, lk_old gB, gO, lk_old gO, kS, hkl, hkv, hsk, hwc, hwl, q1, q2, q3, hcl, hct, hcs, hcv, hky.symm]
        refine CThen.by (needs0_c f _) ?_
        simp only [push_cast, simprocAttr, imp_self, hJ, hj2, hj3, hj4, u8l_len, u8l_app, Nat.le_refl, Int.le_refl, hx, gB, lk_old gB, gO, lk_old gO, kS, hkl, hkv, hsk, hwc, hwl, q1, q2, q3, hcl, hct, hcs, hcv, hky.symm]
        refine Thn_n ?_
        refine hK _ _ ?_
        clear hK K
        refine AW.seq_k fun K hK => ?_
        refine AW.region (by decide) ?_
        simp only [push_cast, simprocAttr, imp_self, hJ, hj2, hj3, hj4, u8l_len, u8l_app, Nat.le_refl, Int.le_refl, hx, gB, lk_old gB, gO, lk_old gO, kS, hkl, hkv, hsk, hwc, hwl, q1, q2, q3, hcl, hct, hcs, hcv, hky.symm]
        refine Thn_n ?_
        refine hK _ _ ?_
        clear hK K
        refine AW.seq_k fun K hK => ?_
        refine AW.seq_k fun K hK => ?_
        refine AW.region (by decide) ?_
        simp only [push_cast, simprocAttr, imp_self, hJ, hj2, hj3, hj4, u8l_len, u8l_app, Nat.le_refl, Int.le_refl, hx, gB, lk_old gB, gO, lk_old gO, kS, hkl, hkv, hsk, hwc, hwl, q1, q2, q3, hcl, hct, hcs, hcv, hky.symm]
        refine Thn_n ?_
        refine hK _ _ ?_
        clear hK K
        refine AW.cond_t rfl ?_
        refine AW.region (by decide) ?_
        simp only [push_cast, simprocAttr, imp_self, hJ, hj2, hj3, hj4, u8l_len, u8l_app, Nat.le_refl, Int.le_refl, hx, gB, lk_old gB, gO, lk_old gO, kS, hkl, hkv, hsk, hwc, hwl, q1, q2, q3, hcl, hct, hcs, hcv, hky.symm]
        refine Thn_n ?_
        refine hK _ _ ?_
        clear hK K
        refine AW.seq_k fun K hK => ?_
        refine AW.seq_k fun K hK => ?_
        refine AW.region (by decide) ?_
        simp only [push_cast, simprocAttr, imp_self, hJ, hj2, hj3, hj4, u8l_len, u8l_app, Nat.le_refl, Int.le_refl, hx, gB, lk_old gB, gO, lk_old gO, kS, hkl, hkv, hsk, hwc, hwl, q1, q2, q3, hcl, hct, hcs, hcv, hky.symm]
        refine Thn_n ?_
        refine hK _ _ ?_
        clear hK K
        refine AW.block ?_
        refine AW.rounds 1 ?_
        refine ARounds.succ fun K hK => ?_
        refine AW.seq_k fun K hK => ?_
        refine AW.region (by decide) ?_
        simp only [push_cast, simprocAttr, imp_self, hJ, hj2, hj3, hj4, u8l_len, u8l_app, Nat.le_refl, Int.le_refl, hx, gB, lk_old gB, gO, lk_old gO, kS, hkl, hkv, hsk, hwc, hwl, q1, q2, q3, hcl, hct, hcs, hcv, hky.symm]
        refine Thn_n ?_
        refine hK _ _ ?_
        clear hK K
        refine AW.seq_k fun K hK => ?_
        refine AW.cond_f rfl ?_
        refine AW.exit ?_
        refine Thn_e ?_
        clear hK K
        refine Thn_e ?_
        clear hK K
        refine InB_here ?_
        refine Thn_n ?_
        refine hK _ _ ?_
        clear hK K
        refine AW.seq_k fun K hK => ?_
        refine AW.region (by decide) ?_
        simp only [push_cast, simprocAttr, imp_self, hJ, hj2, hj3, hj4, u8l_len, u8l_app, Nat.le_refl, Int.le_refl, hx, gB, lk_old gB, gO, lk_old gO, kS, hkl, hkv, hsk, hwc, hwl, q1, q2, q3, hcl, hct, hcs, hcv, hky.symm]
        refine CThen.by (key_c 0 (f : Int) (M.length + 1) 1 1 J .grow 32 _ (by simp only [push_cast, simprocAttr, gB, lk_old gB]) (by rw [hJ]) hJu (by decide)) ?_
        simp only [push_cast, simprocAttr, imp_self, hJ, hj2, hj3, hj4, u8l_len, u8l_app, Nat.le_refl, Int.le_refl, hx, gB, lk_old gB, gO, lk_old gO, kS, hkl, hkv, hsk, hwc, hwl, q1, q2, q3, hcl, hct, hcs, hcv, hky.symm]
        refine Thn_n ?_
        refine hK _ _ ?_
        clear hK K
        refine AW.region (by decide) ?_
        simp only [push_cast, simprocAttr, imp_self, hJ, hj2, hj3, hj4, u8l_len, u8l_app, Nat.le_refl, Int.le_refl, hx, gB, lk_old gB, gO, lk_old gO, kS, hkl, hkv, hsk, hwc, hwl, q1, q2, q3, hcl, hct, hcs, hcv, hky.symm]
        refine InB_n ?_
        refine Thn_n ?_
        refine hK _ _ ?_
        clear hK K
        refine AW.region (by decide) ?_
        simp only [push_cast, simprocAttr, imp_self, hJ, hj2, hj3, hj4, u8l_len, u8l_app, Nat.le_refl, Int.le_refl, hx, gB, lk_old gB, gO, lk_old gO, kS, hkl, hkv, hsk, hwc, hwl, q1, q2, q3, hcl, hct, hcs, hcv, hky.symm]
        refine Thn_n ?_
        refine ⟨kn, by omega, by omega, ?_⟩
        try simp only [keepL, setAll, push_cast, simprocAttr, imp_self, hJ, hj2, hj3, hj4, u8l_len, u8l_app, Nat.le_refl, Int.le_refl, hx, gB, lk_old gB, gO, lk_old gO, kS, hkl, hkv, hsk, hwc, hwl, q1, q2, q3, hcl, hct, hcs, hcv, hky.symm, e6, hki6, hrf6, hki, kM, hrf, e5, hwn, List.append_assoc]
        first
          | exact Weak.to (extra := [_, _, _, _]) (by simp only [Keeps, Tm.get_cons, Nat.reduceEqDiff, ↓reduceIte, if_true, if_false, ite_true, ite_false, true_and, and_true, and_self, reduceCtorEq, e6, hki6, hrf6, hki, kM, hrf, e5, hwn, List.append_assoc]) (by first | rfl | (simp only [List.append_assoc, List.cons_append, List.nil_append]; rfl)) (by first | rfl | (simp [AV.below, CV.below, u8l_below]; done) | (simp [AV.below, CV.below, u8l_below]; omega)) (by have h := works_wf J m RR (n + 1) (n + 1) hwf hwR hwL; simp only [hRR, e6, hki6, hrf6, hki, kM, hrf, hwn, hrowA, hrowB, List.append_assoc, push_cast, simprocAttr] at h ⊢; exact h)
          | exact Weak.to (extra := [_, _, _, _, _]) (by simp only [Keeps, Tm.get_cons, Nat.reduceEqDiff, ↓reduceIte, if_true, if_false, ite_true, ite_false, true_and, and_true, and_self, reduceCtorEq, e6, hki6, hrf6, hki, kM, hrf, e5, hwn, List.append_assoc]) (by first | rfl | (simp only [List.append_assoc, List.cons_append, List.nil_append]; rfl)) (by first | rfl | (simp [AV.below, CV.below, u8l_below]; done) | (simp [AV.below, CV.below, u8l_below]; omega)) (by have h := works_wf J m RR (n + 1) (n + 1) hwf hwR hwL; simp only [hRR, e6, hki6, hrf6, hki, kM, hrf, hwn, hrowA, hrowB, List.append_assoc, push_cast, simprocAttr] at h ⊢; exact h)
          | exact Weak.to (extra := [_, _, _, _, _, _]) (by simp only [Keeps, Tm.get_cons, Nat.reduceEqDiff, ↓reduceIte, if_true, if_false, ite_true, ite_false, true_and, and_true, and_self, reduceCtorEq, e6, hki6, hrf6, hki, kM, hrf, e5, hwn, List.append_assoc]) (by first | rfl | (simp only [List.append_assoc, List.cons_append, List.nil_append]; rfl)) (by first | rfl | (simp [AV.below, CV.below, u8l_below]; done) | (simp [AV.below, CV.below, u8l_below]; omega)) (by have h := works_wf J m RR (n + 1) (n + 1) hwf hwR hwL; simp only [hRR, e6, hki6, hrf6, hki, kM, hrf, hwn, hrowA, hrowB, List.append_assoc, push_cast, simprocAttr] at h ⊢; exact h)
      · have hm0 : n % 4 = 1 := by omega
        have hd0 : n / 4 = 0 := by omega
        rw [hm0, hd0] at hky hwc0
        have hnn : n = 1 := by omega
        have hndl : ndL n = [0] := by rw [hnn]; exact nd1z
        have hrowA : nl (ndL 1) = [.int .i64 ((0 : Nat) : Int)] := by rw [nd1z]; rfl
        have hrowB : nl (ndL n) = [.int .i64 ((0 : Nat) : Int)] := by rw [hndl]; rfl
        simp only [push_cast, simprocAttr] at hrowA hrowB
        have hnd : ndC (m.length + 2) n = .sl M.length 0 0 1 := by
          unfold ndC rwN; rw [hm0, hd0, hndl, if_neg (by decide), hMl]
          congr 1 <;> omega
        rw [if_neg (by decide)] at hky hrf
        rw [hndl] at hky
        simp only [List.flatMap_cons, List.flatMap_nil, List.append_nil] at hky
        have hDl : (ky J (0)).length = 32 * 1 := by simp only [List.length_append, ky_len]
        have hDo : U8ok (ky J (0)) := ky_ok _ _
        simp only [push_cast, simprocAttr] at hky
        have hki : ((kn : Nat) : Int) = 2 := by omega
        have hwc : CV.int .i64 1 :: .int .i64 0 :: (u8l (ky J n) ++ [.sl M.length 0 0 1]) = wC J (m.length + 2) n := by rw [hwc0, hnd]; rfl
        have hsk := setL_key (.int .i64 1) (.int .i64 0) (.sl M.length 0 0 1) (ky J n) hkl
        dsimp only at hsk
        have hq2 : ∀ l : List CV, l = l := fun _ => rfl
        have e6 : kn = n + 1 := by omega
        have hrf6 : rwF 0 (n + 1) = _ := e6 ▸ hrf
        have hki6 : (n : Int) + 1 = 2 := by omega
        have cp0 : (0 : Int) ≤ (0 : Int) := by omega
        have dp0 : (0 : Int) < (n : Int) := by omega
        have zp0 : ((0 : Int)).toNat = 0 := by omega
        have bp0 : (0) * 35 + 34 ≤ n * 35 := by omega
        have kp0 := wR_key J (m.length + 2) n (0) (by omega)
        rw [show 35 * (0) = (0) * 35 from Nat.mul_comm _ _] at kp0
        have lp0 := ky_len J (0)
        have op0 := ky_ok J (0)
        have sp0 : setL [.int .u8 0, .int .u8 0, .int .u8 0, .int .u8 0, .int .u8 0, .int .u8 0, .int .u8 0, .int .u8 0, .int .u8 0, .int .u8 0, .int .u8 0, .int .u8 0, .int .u8 0, .int .u8 0, .int .u8 0, .int .u8 0, .int .u8 0, .int .u8 0, .int .u8 0, .int .u8 0, .int .u8 0, .int .u8 0, .int .u8 0, .int .u8 0, .int .u8 0, .int .u8 0, .int .u8 0, .int .u8 0, .int .u8 0, .int .u8 0, .int .u8 0, .int .u8 0] 0 (u8l (ky J (0))) = u8l (ky J (0)) := setL_full (by rw [u8l_len, lp0]; rfl)
        have vp0 := u8l_vals (ky J (0))
        have xp0 : (u8l (ky J (0))).take 32 = u8l (ky J (0)) := List.take_of_length_le (by rw [u8l_len, lp0]; exact Nat.le_refl _)
        try simp only [push_cast, simprocAttr] at bp0
        try simp only [push_cast, simprocAttr] at kp0
        refine AW.region (by decide) ?_
        simp only [push_cast, simprocAttr, imp_self, hJ, hj2, hj3, hj4, u8l_len, u8l_app, Nat.le_refl, Int.le_refl, hx, gB, lk_old gB, gO, lk_old gO, kS, hkl, hkv, hsk, hwc, hwl, q1, q2, q3, hcl, hct, hcs, hcv, hky.symm, hrowA, hrowB, cp0, dp0, zp0, bp0, kp0, lp0, sp0, vp0, xp0]
        refine CThen.by (needs1z_c _) ?_
        simp only [push_cast, simprocAttr, imp_self, hJ, hj2, hj3, hj4, u8l_len, u8l_app, Nat.le_refl, Int.le_refl, hx, gB, lk_old gB, gO, lk_old gO, kS, hkl, hkv, hsk, hwc, hwl, q1, q2, q3, hcl, hct, hcs, hcv, hky.symm, hrowA, hrowB, cp0, dp0, zp0, bp0, kp0, lp0, sp0, vp0, xp0]
        refine Thn_n ?_
        refine hK _ _ ?_
        clear hK K
        refine AW.seq_k fun K hK => ?_
        refine AW.region (by decide) ?_
        simp only [push_cast, simprocAttr, imp_self, hJ, hj2, hj3, hj4, u8l_len, u8l_app, Nat.le_refl, Int.le_refl, hx, gB, lk_old gB, gO, lk_old gO, kS, hkl, hkv, hsk, hwc, hwl, q1, q2, q3, hcl, hct, hcs, hcv, hky.symm, hrowA, hrowB, cp0, dp0, zp0, bp0, kp0, lp0, sp0, vp0, xp0]
        refine Thn_n ?_
        refine hK _ _ ?_
        clear hK K
        refine AW.seq_k fun K hK => ?_
        refine AW.seq_k fun K hK => ?_
        refine AW.region (by decide) ?_
        simp only [push_cast, simprocAttr, imp_self, hJ, hj2, hj3, hj4, u8l_len, u8l_app, Nat.le_refl, Int.le_refl, hx, gB, lk_old gB, gO, lk_old gO, kS, hkl, hkv, hsk, hwc, hwl, q1, q2, q3, hcl, hct, hcs, hcv, hky.symm, hrowA, hrowB, cp0, dp0, zp0, bp0, kp0, lp0, sp0, vp0, xp0]
        refine Thn_n ?_
        refine hK _ _ ?_
        clear hK K
        refine AW.cond_f rfl ?_
        refine AW.skip ?_
        refine Thn_n ?_
        refine hK _ _ ?_
        clear hK K
        refine AW.seq_k fun K hK => ?_
        refine AW.seq_k fun K hK => ?_
        refine AW.region (by decide) ?_
        simp only [push_cast, simprocAttr, imp_self, hJ, hj2, hj3, hj4, u8l_len, u8l_app, Nat.le_refl, Int.le_refl, hx, gB, lk_old gB, gO, lk_old gO, kS, hkl, hkv, hsk, hwc, hwl, q1, q2, q3, hcl, hct, hcs, hcv, hky.symm, hrowA, hrowB, cp0, dp0, zp0, bp0, kp0, lp0, sp0, vp0, xp0]
        refine Thn_n ?_
        refine hK _ _ ?_
        clear hK K
        refine AW.block ?_
        refine AW.rounds 2 ?_
        refine ARounds.succ fun K hK => ?_
        refine AW.seq_k fun K hK => ?_
        refine AW.region (by decide) ?_
        simp only [push_cast, simprocAttr, imp_self, hJ, hj2, hj3, hj4, u8l_len, u8l_app, Nat.le_refl, Int.le_refl, hx, gB, lk_old gB, gO, lk_old gO, kS, hkl, hkv, hsk, hwc, hwl, q1, q2, q3, hcl, hct, hcs, hcv, hky.symm, hrowA, hrowB, cp0, dp0, zp0, bp0, kp0, lp0, sp0, vp0, xp0]
        refine Thn_n ?_
        refine hK _ _ ?_
        clear hK K
        refine AW.seq_k fun K hK => ?_
        refine AW.cond_t rfl ?_
        refine AW.skip ?_
        refine Thn_n ?_
        refine hK _ _ ?_
        clear hK K
        refine AW.seq_k fun K hK => ?_
        refine AW.block ?_
        refine AW.seq_k fun K hK => ?_
        refine AW.region (by decide) ?_
        simp only [push_cast, simprocAttr, imp_self, hJ, hj2, hj3, hj4, u8l_len, u8l_app, Nat.le_refl, Int.le_refl, hx, gB, lk_old gB, gO, lk_old gO, kS, hkl, hkv, hsk, hwc, hwl, q1, q2, q3, hcl, hct, hcs, hcv, hky.symm, hrowA, hrowB, cp0, dp0, zp0, bp0, kp0, lp0, sp0, vp0, xp0]
        refine Thn_n ?_
        refine hK _ _ ?_
        clear hK K
        refine AW.region (by decide) ?_
        simp only [push_cast, simprocAttr, imp_self, hJ, hj2, hj3, hj4, u8l_len, u8l_app, Nat.le_refl, Int.le_refl, hx, gB, lk_old gB, gO, lk_old gO, kS, hkl, hkv, hsk, hwc, hwl, q1, q2, q3, hcl, hct, hcs, hcv, hky.symm, hrowA, hrowB, cp0, dp0, zp0, bp0, kp0, lp0, sp0, vp0, xp0]
        refine InB_n ?_
        refine Thn_n ?_
        refine hK _ _ ?_
        clear hK K
        refine AW.region (by decide) ?_
        simp only [push_cast, simprocAttr, imp_self, hJ, hj2, hj3, hj4, u8l_len, u8l_app, Nat.le_refl, Int.le_refl, hx, gB, lk_old gB, gO, lk_old gO, kS, hkl, hkv, hsk, hwc, hwl, q1, q2, q3, hcl, hct, hcs, hcv, hky.symm, hrowA, hrowB, cp0, dp0, zp0, bp0, kp0, lp0, sp0, vp0, xp0]
        refine Thn_n ?_
        refine hK _ _ ?_
        clear hK K
        refine ARounds.succ fun K hK => ?_
        refine AW.seq_k fun K hK => ?_
        refine AW.region (by decide) ?_
        simp only [push_cast, simprocAttr, imp_self, hJ, hj2, hj3, hj4, u8l_len, u8l_app, Nat.le_refl, Int.le_refl, hx, gB, lk_old gB, gO, lk_old gO, kS, hkl, hkv, hsk, hwc, hwl, q1, q2, q3, hcl, hct, hcs, hcv, hky.symm, hrowA, hrowB, cp0, dp0, zp0, bp0, kp0, lp0, sp0, vp0, xp0]
        refine Thn_n ?_
        refine hK _ _ ?_
        clear hK K
        refine AW.seq_k fun K hK => ?_
        refine AW.cond_f rfl ?_
        refine AW.exit ?_
        refine Thn_e ?_
        clear hK K
        refine Thn_e ?_
        clear hK K
        refine InB_here ?_
        refine Thn_n ?_
        refine hK _ _ ?_
        clear hK K
        refine AW.seq_k fun K hK => ?_
        refine AW.region (by decide) ?_
        simp only [push_cast, simprocAttr, imp_self, hJ, hj2, hj3, hj4, u8l_len, u8l_app, Nat.le_refl, Int.le_refl, hx, gB, lk_old gB, gO, lk_old gO, kS, hkl, hkv, hsk, hwc, hwl, q1, q2, q3, hcl, hct, hcs, hcv, hky.symm, hrowA, hrowB, cp0, dp0, zp0, bp0, kp0, lp0, sp0, vp0, xp0]
        refine CThen.by (key_c 1 0 (M.length + 2) 1 1 (ky J (0)) .grow 32 _ (by simp only [push_cast, simprocAttr, u8l_app]) hDl hDo (by decide)) ?_
        simp only [push_cast, simprocAttr, imp_self, hJ, hj2, hj3, hj4, u8l_len, u8l_app, Nat.le_refl, Int.le_refl, hx, gB, lk_old gB, gO, lk_old gO, kS, hkl, hkv, hsk, hwc, hwl, q1, q2, q3, hcl, hct, hcs, hcv, hky.symm, hrowA, hrowB, cp0, dp0, zp0, bp0, kp0, lp0, sp0, vp0, xp0]
        refine Thn_n ?_
        refine hK _ _ ?_
        clear hK K
        refine AW.region (by decide) ?_
        simp only [push_cast, simprocAttr, imp_self, hJ, hj2, hj3, hj4, u8l_len, u8l_app, Nat.le_refl, Int.le_refl, hx, gB, lk_old gB, gO, lk_old gO, kS, hkl, hkv, hsk, hwc, hwl, q1, q2, q3, hcl, hct, hcs, hcv, hky.symm, hrowA, hrowB, cp0, dp0, zp0, bp0, kp0, lp0, sp0, vp0, xp0]
        refine InB_n ?_
        refine Thn_n ?_
        refine hK _ _ ?_
        clear hK K
        refine AW.region (by decide) ?_
        simp only [push_cast, simprocAttr, imp_self, hJ, hj2, hj3, hj4, u8l_len, u8l_app, Nat.le_refl, Int.le_refl, hx, gB, lk_old gB, gO, lk_old gO, kS, hkl, hkv, hsk, hwc, hwl, q1, q2, q3, hcl, hct, hcs, hcv, hky.symm, hrowA, hrowB, cp0, dp0, zp0, bp0, kp0, lp0, sp0, vp0, xp0]
        refine Thn_n ?_
        refine ⟨kn, by omega, by omega, ?_⟩
        try simp only [keepL, setAll, push_cast, simprocAttr, imp_self, hJ, hj2, hj3, hj4, u8l_len, u8l_app, Nat.le_refl, Int.le_refl, hx, gB, lk_old gB, gO, lk_old gO, kS, hkl, hkv, hsk, hwc, hwl, q1, q2, q3, hcl, hct, hcs, hcv, hky.symm, hrowA, hrowB, cp0, dp0, zp0, bp0, kp0, lp0, sp0, vp0, xp0, e6, hki6, hrf6, hki, kM, hrf, e5, hwn, List.append_assoc]
        first
          | exact Weak.to (extra := [_, _, _, _]) (by simp only [Keeps, Tm.get_cons, Nat.reduceEqDiff, ↓reduceIte, if_true, if_false, ite_true, ite_false, true_and, and_true, and_self, reduceCtorEq, e6, hki6, hrf6, hki, kM, hrf, e5, hwn, List.append_assoc]) (by first | rfl | (simp only [List.append_assoc, List.cons_append, List.nil_append]; rfl)) (by first | rfl | (simp [AV.below, CV.below, u8l_below]; done) | (simp [AV.below, CV.below, u8l_below]; omega)) (by have h := works_wf J m RR (n + 1) (n + 1) hwf hwR hwL; simp only [hRR, e6, hki6, hrf6, hki, kM, hrf, hwn, hrowA, hrowB, List.append_assoc, push_cast, simprocAttr] at h ⊢; exact h)
          | exact Weak.to (extra := [_, _, _, _, _]) (by simp only [Keeps, Tm.get_cons, Nat.reduceEqDiff, ↓reduceIte, if_true, if_false, ite_true, ite_false, true_and, and_true, and_self, reduceCtorEq, e6, hki6, hrf6, hki, kM, hrf, e5, hwn, List.append_assoc]) (by first | rfl | (simp only [List.append_assoc, List.cons_append, List.nil_append]; rfl)) (by first | rfl | (simp [AV.below, CV.below, u8l_below]; done) | (simp [AV.below, CV.below, u8l_below]; omega)) (by have h := works_wf J m RR (n + 1) (n + 1) hwf hwR hwL; simp only [hRR, e6, hki6, hrf6, hki, kM, hrf, hwn, hrowA, hrowB, List.append_assoc, push_cast, simprocAttr] at h ⊢; exact h)
          | exact Weak.to (extra := [_, _, _, _, _, _]) (by simp only [Keeps, Tm.get_cons, Nat.reduceEqDiff, ↓reduceIte, if_true, if_false, ite_true, ite_false, true_and, and_true, and_self, reduceCtorEq, e6, hki6, hrf6, hki, kM, hrf, e5, hwn, List.append_assoc]) (by first | rfl | (simp only [List.append_assoc, List.cons_append, List.nil_append]; rfl)) (by first | rfl | (simp [AV.below, CV.below, u8l_below]; done) | (simp [AV.below, CV.below, u8l_below]; omega)) (by have h := works_wf J m RR (n + 1) (n + 1) hwf hwR hwL; simp only [hRR, e6, hki6, hrf6, hki, kM, hrf, hwn, hrowA, hrowB, List.append_assoc, push_cast, simprocAttr] at h ⊢; exact h)
      · have hm0 : n % 4 = 1 := by omega
        have hd0 : n / 4 = (g + 1) := by omega
        rw [hm0, hd0] at hky hwc0
        have hnn : n = (4 * (g + 1) + 1) := by omega
        have hndl : ndL n = [4 * (g + 1), 4 * g, 4 * g + 1] := by rw [hnn]; exact nd1s g
        have hrowA : nl (ndL (4 * (g + 1) + 1)) = [.int .i64 ((4 * (g + 1) : Nat) : Int), .int .i64 ((4 * g : Nat) : Int), .int .i64 ((4 * g + 1 : Nat) : Int)] := by rw [nd1s g]; rfl
        have hrowB : nl (ndL n) = [.int .i64 ((4 * (g + 1) : Nat) : Int), .int .i64 ((4 * g : Nat) : Int), .int .i64 ((4 * g + 1 : Nat) : Int)] := by rw [hndl]; rfl
        simp only [push_cast, simprocAttr] at hrowA hrowB
        have hnd : ndC (m.length + 2) n = .sl M.length 0 0 3 := by
          unfold ndC rwN; rw [hm0, hd0, hndl, if_neg (by decide), hMl]
          congr 1 <;> omega
        rw [if_neg (by decide)] at hky hrf
        rw [hndl] at hky
        simp only [List.flatMap_cons, List.flatMap_nil, List.append_nil] at hky
        have hDl : (ky J (4 * (g + 1)) ++ (ky J (4 * g) ++ (ky J (4 * g + 1)))).length = 32 * 3 := by simp only [List.length_append, ky_len]
        have hDo : U8ok (ky J (4 * (g + 1)) ++ (ky J (4 * g) ++ (ky J (4 * g + 1)))) := (ky_ok _ _).app ((ky_ok _ _).app (ky_ok _ _))
        simp only [push_cast, simprocAttr] at hky
        have hki : ((kn : Nat) : Int) = 2 := by omega
        have hwc : CV.int .i64 1 :: .int .i64 ((g : Int) + 1) :: (u8l (ky J n) ++ [.sl M.length 0 0 3]) = wC J (m.length + 2) n := by rw [hwc0, hnd]; rfl
        have hsk := setL_key (.int .i64 1) (.int .i64 ((g : Int) + 1)) (.sl M.length 0 0 3) (ky J n) hkl
        dsimp only at hsk
        have hq2 : ∀ l : List CV, l = l := fun _ => rfl
        have cp0 : (0 : Int) ≤ 4 * ((g : Int) + 1) := by omega
        have dp0 : 4 * ((g : Int) + 1) < (n : Int) := by omega
        have zp0 : (4 * ((g : Int) + 1)).toNat = 4 * (g + 1) := by omega
        have bp0 : (4 * (g + 1)) * 35 + 34 ≤ n * 35 := by omega
        have kp0 := wR_key J (m.length + 2) n (4 * (g + 1)) (by omega)
        rw [show 35 * (4 * (g + 1)) = (4 * (g + 1)) * 35 from Nat.mul_comm _ _] at kp0
        have lp0 := ky_len J (4 * (g + 1))
        have op0 := ky_ok J (4 * (g + 1))
        have sp0 : setL [.int .u8 0, .int .u8 0, .int .u8 0, .int .u8 0, .int .u8 0, .int .u8 0, .int .u8 0, .int .u8 0, .int .u8 0, .int .u8 0, .int .u8 0, .int .u8 0, .int .u8 0, .int .u8 0, .int .u8 0, .int .u8 0, .int .u8 0, .int .u8 0, .int .u8 0, .int .u8 0, .int .u8 0, .int .u8 0, .int .u8 0, .int .u8 0, .int .u8 0, .int .u8 0, .int .u8 0, .int .u8 0, .int .u8 0, .int .u8 0, .int .u8 0, .int .u8 0] 0 (u8l (ky J (4 * (g + 1)))) = u8l (ky J (4 * (g + 1))) := setL_full (by rw [u8l_len, lp0]; rfl)
        have vp0 := u8l_vals (ky J (4 * (g + 1)))
        have xp0 : (u8l (ky J (4 * (g + 1)))).take 32 = u8l (ky J (4 * (g + 1))) := List.take_of_length_le (by rw [u8l_len, lp0]; exact Nat.le_refl _)
        try simp only [push_cast, simprocAttr] at bp0
        try simp only [push_cast, simprocAttr] at kp0
        have cp1 : (0 : Int) ≤ 4 * (g : Int) := by omega
        have dp1 : 4 * (g : Int) < (n : Int) := by omega
        have zp1 : (4 * (g : Int)).toNat = 4 * g := by omega
        have bp1 : (4 * g) * 35 + 34 ≤ n * 35 := by omega
        have kp1 := wR_key J (m.length + 2) n (4 * g) (by omega)
        rw [show 35 * (4 * g) = (4 * g) * 35 from Nat.mul_comm _ _] at kp1
        have lp1 := ky_len J (4 * g)
        have op1 := ky_ok J (4 * g)
        have sp1 : setL [.int .u8 0, .int .u8 0, .int .u8 0, .int .u8 0, .int .u8 0, .int .u8 0, .int .u8 0, .int .u8 0, .int .u8 0, .int .u8 0, .int .u8 0, .int .u8 0, .int .u8 0, .int .u8 0, .int .u8 0, .int .u8 0, .int .u8 0, .int .u8 0, .int .u8 0, .int .u8 0, .int .u8 0, .int .u8 0, .int .u8 0, .int .u8 0, .int .u8 0, .int .u8 0, .int .u8 0, .int .u8 0, .int .u8 0, .int .u8 0, .int .u8 0, .int .u8 0] 0 (u8l (ky J (4 * g))) = u8l (ky J (4 * g)) := setL_full (by rw [u8l_len, lp1]; rfl)
        have vp1 := u8l_vals (ky J (4 * g))
        have xp1 : (u8l (ky J (4 * g))).take 32 = u8l (ky J (4 * g)) := List.take_of_length_le (by rw [u8l_len, lp1]; exact Nat.le_refl _)
        try simp only [push_cast, simprocAttr] at bp1
        try simp only [push_cast, simprocAttr] at kp1
        have cp2 : (0 : Int) ≤ 4 * (g : Int) + 1 := by omega
        have dp2 : 4 * (g : Int) + 1 < (n : Int) := by omega
        have zp2 : (4 * (g : Int) + 1).toNat = 4 * g + 1 := by omega
        have bp2 : (4 * g + 1) * 35 + 34 ≤ n * 35 := by omega
        have kp2 := wR_key J (m.length + 2) n (4 * g + 1) (by omega)
        rw [show 35 * (4 * g + 1) = (4 * g + 1) * 35 from Nat.mul_comm _ _] at kp2
        have lp2 := ky_len J (4 * g + 1)
        have op2 := ky_ok J (4 * g + 1)
        have sp2 : setL [.int .u8 0, .int .u8 0, .int .u8 0, .int .u8 0, .int .u8 0, .int .u8 0, .int .u8 0, .int .u8 0, .int .u8 0, .int .u8 0, .int .u8 0, .int .u8 0, .int .u8 0, .int .u8 0, .int .u8 0, .int .u8 0, .int .u8 0, .int .u8 0, .int .u8 0, .int .u8 0, .int .u8 0, .int .u8 0, .int .u8 0, .int .u8 0, .int .u8 0, .int .u8 0, .int .u8 0, .int .u8 0, .int .u8 0, .int .u8 0, .int .u8 0, .int .u8 0] 0 (u8l (ky J (4 * g + 1))) = u8l (ky J (4 * g + 1)) := setL_full (by rw [u8l_len, lp2]; rfl)
        have vp2 := u8l_vals (ky J (4 * g + 1))
        have xp2 : (u8l (ky J (4 * g + 1))).take 32 = u8l (ky J (4 * g + 1)) := List.take_of_length_le (by rw [u8l_len, lp2]; exact Nat.le_refl _)
        try simp only [push_cast, simprocAttr] at bp2
        try simp only [push_cast, simprocAttr] at kp2
        refine AW.region (by decide) ?_
        simp only [push_cast, simprocAttr, imp_self, hJ, hj2, hj3, hj4, u8l_len, u8l_app, Nat.le_refl, Int.le_refl, hx, gB, lk_old gB, gO, lk_old gO, kS, hkl, hkv, hsk, hwc, hwl, q1, q2, q3, hcl, hct, hcs, hcv, hky.symm, hrowA, hrowB, cp0, dp0, zp0, bp0, kp0, lp0, sp0, vp0, xp0, cp1, dp1, zp1, bp1, kp1, lp1, sp1, vp1, xp1, cp2, dp2, zp2, bp2, kp2, lp2, sp2, vp2, xp2]
        refine CThen.by (needs1s_c g _ (by omega)) ?_
        simp only [push_cast, simprocAttr, imp_self, hJ, hj2, hj3, hj4, u8l_len, u8l_app, Nat.le_refl, Int.le_refl, hx, gB, lk_old gB, gO, lk_old gO, kS, hkl, hkv, hsk, hwc, hwl, q1, q2, q3, hcl, hct, hcs, hcv, hky.symm, hrowA, hrowB, cp0, dp0, zp0, bp0, kp0, lp0, sp0, vp0, xp0, cp1, dp1, zp1, bp1, kp1, lp1, sp1, vp1, xp1, cp2, dp2, zp2, bp2, kp2, lp2, sp2, vp2, xp2]
        refine Thn_n ?_
        refine hK _ _ ?_
        clear hK K
        refine AW.seq_k fun K hK => ?_
        refine AW.region (by decide) ?_
        simp only [push_cast, simprocAttr, imp_self, hJ, hj2, hj3, hj4, u8l_len, u8l_app, Nat.le_refl, Int.le_refl, hx, gB, lk_old gB, gO, lk_old gO, kS, hkl, hkv, hsk, hwc, hwl, q1, q2, q3, hcl, hct, hcs, hcv, hky.symm, hrowA, hrowB, cp0, dp0, zp0, bp0, kp0, lp0, sp0, vp0, xp0, cp1, dp1, zp1, bp1, kp1, lp1, sp1, vp1, xp1, cp2, dp2, zp2, bp2, kp2, lp2, sp2, vp2, xp2]
        refine Thn_n ?_
        refine hK _ _ ?_
        clear hK K
        refine AW.seq_k fun K hK => ?_
        refine AW.seq_k fun K hK => ?_
        refine AW.region (by decide) ?_
        simp only [push_cast, simprocAttr, imp_self, hJ, hj2, hj3, hj4, u8l_len, u8l_app, Nat.le_refl, Int.le_refl, hx, gB, lk_old gB, gO, lk_old gO, kS, hkl, hkv, hsk, hwc, hwl, q1, q2, q3, hcl, hct, hcs, hcv, hky.symm, hrowA, hrowB, cp0, dp0, zp0, bp0, kp0, lp0, sp0, vp0, xp0, cp1, dp1, zp1, bp1, kp1, lp1, sp1, vp1, xp1, cp2, dp2, zp2, bp2, kp2, lp2, sp2, vp2, xp2]
        refine Thn_n ?_
        refine hK _ _ ?_
        clear hK K
        refine AW.cond_f rfl ?_
        refine AW.skip ?_
        refine Thn_n ?_
        refine hK _ _ ?_
        clear hK K
        refine AW.seq_k fun K hK => ?_
        refine AW.seq_k fun K hK => ?_
        refine AW.region (by decide) ?_
        simp only [push_cast, simprocAttr, imp_self, hJ, hj2, hj3, hj4, u8l_len, u8l_app, Nat.le_refl, Int.le_refl, hx, gB, lk_old gB, gO, lk_old gO, kS, hkl, hkv, hsk, hwc, hwl, q1, q2, q3, hcl, hct, hcs, hcv, hky.symm, hrowA, hrowB, cp0, dp0, zp0, bp0, kp0, lp0, sp0, vp0, xp0, cp1, dp1, zp1, bp1, kp1, lp1, sp1, vp1, xp1, cp2, dp2, zp2, bp2, kp2, lp2, sp2, vp2, xp2]
        refine Thn_n ?_
        refine hK _ _ ?_
        clear hK K
        refine AW.block ?_
        refine AW.rounds 4 ?_
        iterate 3
          refine ARounds.succ fun K hK => ?_
          refine AW.seq_k fun K hK => ?_
          refine AW.region (by decide) ?_
          simp only [push_cast, simprocAttr, imp_self, hJ, hj2, hj3, hj4, u8l_len, u8l_app, Nat.le_refl, Int.le_refl, hx, gB, lk_old gB, gO, lk_old gO, kS, hkl, hkv, hsk, hwc, hwl, q1, q2, q3, hcl, hct, hcs, hcv, hky.symm, hrowA, hrowB, cp0, dp0, zp0, bp0, kp0, lp0, sp0, vp0, xp0, cp1, dp1, zp1, bp1, kp1, lp1, sp1, vp1, xp1, cp2, dp2, zp2, bp2, kp2, lp2, sp2, vp2, xp2]
          refine Thn_n ?_
          refine hK _ _ ?_
          clear hK K
          refine AW.seq_k fun K hK => ?_
          refine AW.cond_t rfl ?_
          refine AW.skip ?_
          refine Thn_n ?_
          refine hK _ _ ?_
          clear hK K
          refine AW.seq_k fun K hK => ?_
          refine AW.block ?_
          refine AW.seq_k fun K hK => ?_
          refine AW.region (by decide) ?_
          simp only [push_cast, simprocAttr, imp_self, hJ, hj2, hj3, hj4, u8l_len, u8l_app, Nat.le_refl, Int.le_refl, hx, gB, lk_old gB, gO, lk_old gO, kS, hkl, hkv, hsk, hwc, hwl, q1, q2, q3, hcl, hct, hcs, hcv, hky.symm, hrowA, hrowB, cp0, dp0, zp0, bp0, kp0, lp0, sp0, vp0, xp0, cp1, dp1, zp1, bp1, kp1, lp1, sp1, vp1, xp1, cp2, dp2, zp2, bp2, kp2, lp2, sp2, vp2, xp2]
          refine Thn_n ?_
          refine hK _ _ ?_
          clear hK K
          refine AW.region (by decide) ?_
          simp only [push_cast, simprocAttr, imp_self, hJ, hj2, hj3, hj4, u8l_len, u8l_app, Nat.le_refl, Int.le_refl, hx, gB, lk_old gB, gO, lk_old gO, kS, hkl, hkv, hsk, hwc, hwl, q1, q2, q3, hcl, hct, hcs, hcv, hky.symm, hrowA, hrowB, cp0, dp0, zp0, bp0, kp0, lp0, sp0, vp0, xp0, cp1, dp1, zp1, bp1, kp1, lp1, sp1, vp1, xp1, cp2, dp2, zp2, bp2, kp2, lp2, sp2, vp2, xp2]
          refine InB_n ?_
          refine Thn_n ?_
          refine hK _ _ ?_
          clear hK K
          refine AW.region (by decide) ?_
          simp only [push_cast, simprocAttr, imp_self, hJ, hj2, hj3, hj4, u8l_len, u8l_app, Nat.le_refl, Int.le_refl, hx, gB, lk_old gB, gO, lk_old gO, kS, hkl, hkv, hsk, hwc, hwl, q1, q2, q3, hcl, hct, hcs, hcv, hky.symm, hrowA, hrowB, cp0, dp0, zp0, bp0, kp0, lp0, sp0, vp0, xp0, cp1, dp1, zp1, bp1, kp1, lp1, sp1, vp1, xp1, cp2, dp2, zp2, bp2, kp2, lp2, sp2, vp2, xp2]
          refine Thn_n ?_
          refine hK _ _ ?_
          clear hK K
        refine ARounds.succ fun K hK => ?_
        refine AW.seq_k fun K hK => ?_
        refine AW.region (by decide) ?_
        simp only [push_cast, simprocAttr, imp_self, hJ, hj2, hj3, hj4, u8l_len, u8l_app, Nat.le_refl, Int.le_refl, hx, gB, lk_old gB, gO, lk_old gO, kS, hkl, hkv, hsk, hwc, hwl, q1, q2, q3, hcl, hct, hcs, hcv, hky.symm, hrowA, hrowB, cp0, dp0, zp0, bp0, kp0, lp0, sp0, vp0, xp0, cp1, dp1, zp1, bp1, kp1, lp1, sp1, vp1, xp1, cp2, dp2, zp2, bp2, kp2, lp2, sp2, vp2, xp2]
        refine Thn_n ?_
        refine hK _ _ ?_
        clear hK K
        refine AW.seq_k fun K hK => ?_
        refine AW.cond_f rfl ?_
        refine AW.exit ?_
        refine Thn_e ?_
        clear hK K
        refine Thn_e ?_
        clear hK K
        refine InB_here ?_
        refine Thn_n ?_
        refine hK _ _ ?_
        clear hK K
        refine AW.seq_k fun K hK => ?_
        refine AW.region (by decide) ?_
        simp only [push_cast, simprocAttr, imp_self, hJ, hj2, hj3, hj4, u8l_len, u8l_app, Nat.le_refl, Int.le_refl, hx, gB, lk_old gB, gO, lk_old gO, kS, hkl, hkv, hsk, hwc, hwl, q1, q2, q3, hcl, hct, hcs, hcv, hky.symm, hrowA, hrowB, cp0, dp0, zp0, bp0, kp0, lp0, sp0, vp0, xp0, cp1, dp1, zp1, bp1, kp1, lp1, sp1, vp1, xp1, cp2, dp2, zp2, bp2, kp2, lp2, sp2, vp2, xp2]
        refine CThen.by (key_c 1 ((g : Int) + 1) (M.length + 2) 3 3 (ky J (4 * (g + 1)) ++ (ky J (4 * g) ++ (ky J (4 * g + 1)))) .grow 32 _ (by simp only [push_cast, simprocAttr, u8l_app]) hDl hDo (by decide)) ?_
        simp only [push_cast, simprocAttr, imp_self, hJ, hj2, hj3, hj4, u8l_len, u8l_app, Nat.le_refl, Int.le_refl, hx, gB, lk_old gB, gO, lk_old gO, kS, hkl, hkv, hsk, hwc, hwl, q1, q2, q3, hcl, hct, hcs, hcv, hky.symm, hrowA, hrowB, cp0, dp0, zp0, bp0, kp0, lp0, sp0, vp0, xp0, cp1, dp1, zp1, bp1, kp1, lp1, sp1, vp1, xp1, cp2, dp2, zp2, bp2, kp2, lp2, sp2, vp2, xp2]
        refine Thn_n ?_
        refine hK _ _ ?_
        clear hK K
        refine AW.region (by decide) ?_
        simp only [push_cast, simprocAttr, imp_self, hJ, hj2, hj3, hj4, u8l_len, u8l_app, Nat.le_refl, Int.le_refl, hx, gB, lk_old gB, gO, lk_old gO, kS, hkl, hkv, hsk, hwc, hwl, q1, q2, q3, hcl, hct, hcs, hcv, hky.symm, hrowA, hrowB, cp0, dp0, zp0, bp0, kp0, lp0, sp0, vp0, xp0, cp1, dp1, zp1, bp1, kp1, lp1, sp1, vp1, xp1, cp2, dp2, zp2, bp2, kp2, lp2, sp2, vp2, xp2]
        refine InB_n ?_
        refine Thn_n ?_
        refine hK _ _ ?_
        clear hK K
        refine AW.region (by decide) ?_
        simp only [push_cast, simprocAttr, imp_self, hJ, hj2, hj3, hj4, u8l_len, u8l_app, Nat.le_refl, Int.le_refl, hx, gB, lk_old gB, gO, lk_old gO, kS, hkl, hkv, hsk, hwc, hwl, q1, q2, q3, hcl, hct, hcs, hcv, hky.symm, hrowA, hrowB, cp0, dp0, zp0, bp0, kp0, lp0, sp0, vp0, xp0, cp1, dp1, zp1, bp1, kp1, lp1, sp1, vp1, xp1, cp2, dp2, zp2, bp2, kp2, lp2, sp2, vp2, xp2]
        refine Thn_n ?_
        refine ⟨kn, by omega, by omega, ?_⟩
        try simp only [keepL, setAll, push_cast, simprocAttr, imp_self, hJ, hj2, hj3, hj4, u8l_len, u8l_app, Nat.le_refl, Int.le_refl, hx, gB, lk_old gB, gO, lk_old gO, kS, hkl, hkv, hsk, hwc, hwl, q1, q2, q3, hcl, hct, hcs, hcv, hky.symm, hrowA, hrowB, cp0, dp0, zp0, bp0, kp0, lp0, sp0, vp0, xp0, cp1, dp1, zp1, bp1, kp1, lp1, sp1, vp1, xp1, cp2, dp2, zp2, bp2, kp2, lp2, sp2, vp2, xp2, e6, hki6, hrf6, hki, kM, hrf, e5, hwn, List.append_assoc]
        first
          | exact Weak.to (extra := [_, _, _, _]) (by simp only [Keeps, Tm.get_cons, Nat.reduceEqDiff, ↓reduceIte, if_true, if_false, ite_true, ite_false, true_and, and_true, and_self, reduceCtorEq, e6, hki6, hrf6, hki, kM, hrf, e5, hwn, List.append_assoc]) (by first | rfl | (simp only [List.append_assoc, List.cons_append, List.nil_append]; rfl)) (by first | rfl | (simp [AV.below, CV.below, u8l_below]; done) | (simp [AV.below, CV.below, u8l_below]; omega)) (by have h := works_wf J m RR (n + 1) (n + 1) hwf hwR hwL; simp only [hRR, e6, hki6, hrf6, hki, kM, hrf, hwn, hrowA, hrowB, List.append_assoc, push_cast, simprocAttr] at h ⊢; exact h)
          | exact Weak.to (extra := [_, _, _, _, _]) (by simp only [Keeps, Tm.get_cons, Nat.reduceEqDiff, ↓reduceIte, if_true, if_false, ite_true, ite_false, true_and, and_true, and_self, reduceCtorEq, e6, hki6, hrf6, hki, kM, hrf, e5, hwn, List.append_assoc]) (by first | rfl | (simp only [List.append_assoc, List.cons_append, List.nil_append]; rfl)) (by first | rfl | (simp [AV.below, CV.below, u8l_below]; done) | (simp [AV.below, CV.below, u8l_below]; omega)) (by have h := works_wf J m RR (n + 1) (n + 1) hwf hwR hwL; simp only [hRR, e6, hki6, hrf6, hki, kM, hrf, hwn, hrowA, hrowB, List.append_assoc, push_cast, simprocAttr] at h ⊢; exact h)
          | exact Weak.to (extra := [_, _, _, _, _, _]) (by simp only [Keeps, Tm.get_cons, Nat.reduceEqDiff, ↓reduceIte, if_true, if_false, ite_true, ite_false, true_and, and_true, and_self, reduceCtorEq, e6, hki6, hrf6, hki, kM, hrf, e5, hwn, List.append_assoc]) (by first | rfl | (simp only [List.append_assoc, List.cons_append, List.nil_append]; rfl)) (by first | rfl | (simp [AV.below, CV.below, u8l_below]; done) | (simp [AV.below, CV.below, u8l_below]; omega)) (by have h := works_wf J m RR (n + 1) (n + 1) hwf hwR hwL; simp only [hRR, e6, hki6, hrf6, hki, kM, hrf, hwn, hrowA, hrowB, List.append_assoc, push_cast, simprocAttr] at h ⊢; exact h)
      · have hm0 : n % 4 = 2 := by omega
        have hd0 : n / 4 = f := by omega
        rw [hm0, hd0] at hky hwc0
        have hnn : n = (4 * f + 2) := by omega
        have hndl : ndL n = [4 * f, 4 * f + 1] := by rw [hnn]; exact nd2 f
        have hrowA : nl (ndL (4 * f + 2)) = [.int .i64 ((4 * f : Nat) : Int), .int .i64 ((4 * f + 1 : Nat) : Int)] := by rw [nd2 f]; rfl
        have hrowB : nl (ndL n) = [.int .i64 ((4 * f : Nat) : Int), .int .i64 ((4 * f + 1 : Nat) : Int)] := by rw [hndl]; rfl
        simp only [push_cast, simprocAttr] at hrowA hrowB
        have hnd : ndC (m.length + 2) n = .sl M.length 0 0 2 := by
          unfold ndC rwN; rw [hm0, hd0, hndl, if_neg (by decide), hMl]
          congr 1 <;> omega
        rw [if_neg (by decide)] at hky hrf
        rw [hndl] at hky
        simp only [List.flatMap_cons, List.flatMap_nil, List.append_nil] at hky
        have hDl : (ky J (4 * f) ++ (ky J (4 * f + 1))).length = 32 * 2 := by simp only [List.length_append, ky_len]
        have hDo : U8ok (ky J (4 * f) ++ (ky J (4 * f + 1))) := (ky_ok _ _).app (ky_ok _ _)
        simp only [push_cast, simprocAttr] at hky
        have hki : ((kn : Nat) : Int) = 3 := by omega
        have hwc : CV.int .i64 2 :: .int .i64 (f : Int) :: (u8l (ky J n) ++ [.sl M.length 0 0 2]) = wC J (m.length + 2) n := by rw [hwc0, hnd]; rfl
        have hsk := setL_key (.int .i64 2) (.int .i64 (f : Int)) (.sl M.length 0 0 2) (ky J n) hkl
        dsimp only at hsk
        have hq2 : ∀ l : List CV, l = l := fun _ => rfl
        have cp0 : (0 : Int) ≤ 4 * (f : Int) := by omega
        have dp0 : 4 * (f : Int) < (n : Int) := by omega
        have zp0 : (4 * (f : Int)).toNat = 4 * f := by omega
        have bp0 : (4 * f) * 35 + 34 ≤ n * 35 := by omega
        have kp0 := wR_key J (m.length + 2) n (4 * f) (by omega)
        rw [show 35 * (4 * f) = (4 * f) * 35 from Nat.mul_comm _ _] at kp0
        have lp0 := ky_len J (4 * f)
        have op0 := ky_ok J (4 * f)
        have sp0 : setL [.int .u8 0, .int .u8 0, .int .u8 0, .int .u8 0, .int .u8 0, .int .u8 0, .int .u8 0, .int .u8 0, .int .u8 0, .int .u8 0, .int .u8 0, .int .u8 0, .int .u8 0, .int .u8 0, .int .u8 0, .int .u8 0, .int .u8 0, .int .u8 0, .int .u8 0, .int .u8 0, .int .u8 0, .int .u8 0, .int .u8 0, .int .u8 0, .int .u8 0, .int .u8 0, .int .u8 0, .int .u8 0, .int .u8 0, .int .u8 0, .int .u8 0, .int .u8 0] 0 (u8l (ky J (4 * f))) = u8l (ky J (4 * f)) := setL_full (by rw [u8l_len, lp0]; rfl)
        have vp0 := u8l_vals (ky J (4 * f))
        have xp0 : (u8l (ky J (4 * f))).take 32 = u8l (ky J (4 * f)) := List.take_of_length_le (by rw [u8l_len, lp0]; exact Nat.le_refl _)
        try simp only [push_cast, simprocAttr] at bp0
        try simp only [push_cast, simprocAttr] at kp0
        have cp1 : (0 : Int) ≤ 4 * (f : Int) + 1 := by omega
        have dp1 : 4 * (f : Int) + 1 < (n : Int) := by omega
        have zp1 : (4 * (f : Int) + 1).toNat = 4 * f + 1 := by omega
        have bp1 : (4 * f + 1) * 35 + 34 ≤ n * 35 := by omega
        have kp1 := wR_key J (m.length + 2) n (4 * f + 1) (by omega)
        rw [show 35 * (4 * f + 1) = (4 * f + 1) * 35 from Nat.mul_comm _ _] at kp1
        have lp1 := ky_len J (4 * f + 1)
        have op1 := ky_ok J (4 * f + 1)
        have sp1 : setL [.int .u8 0, .int .u8 0, .int .u8 0, .int .u8 0, .int .u8 0, .int .u8 0, .int .u8 0, .int .u8 0, .int .u8 0, .int .u8 0, .int .u8 0, .int .u8 0, .int .u8 0, .int .u8 0, .int .u8 0, .int .u8 0, .int .u8 0, .int .u8 0, .int .u8 0, .int .u8 0, .int .u8 0, .int .u8 0, .int .u8 0, .int .u8 0, .int .u8 0, .int .u8 0, .int .u8 0, .int .u8 0, .int .u8 0, .int .u8 0, .int .u8 0, .int .u8 0] 0 (u8l (ky J (4 * f + 1))) = u8l (ky J (4 * f + 1)) := setL_full (by rw [u8l_len, lp1]; rfl)
        have vp1 := u8l_vals (ky J (4 * f + 1))
        have xp1 : (u8l (ky J (4 * f + 1))).take 32 = u8l (ky J (4 * f + 1)) := List.take_of_length_le (by rw [u8l_len, lp1]; exact Nat.le_refl _)
        try simp only [push_cast, simprocAttr] at bp1
        try simp only [push_cast, simprocAttr] at kp1
        refine AW.region (by decide) ?_
        simp only [push_cast, simprocAttr, imp_self, hJ, hj2, hj3, hj4, u8l_len, u8l_app, Nat.le_refl, Int.le_refl, hx, gB, lk_old gB, gO, lk_old gO, kS, hkl, hkv, hsk, hwc, hwl, q1, q2, q3, hcl, hct, hcs, hcv, hky.symm, hrowA, hrowB, cp0, dp0, zp0, bp0, kp0, lp0, sp0, vp0, xp0, cp1, dp1, zp1, bp1, kp1, lp1, sp1, vp1, xp1]
        refine CThen.by (needs2_c f _ (by omega)) ?_
        simp only [push_cast, simprocAttr, imp_self, hJ, hj2, hj3, hj4, u8l_len, u8l_app, Nat.le_refl, Int.le_refl, hx, gB, lk_old gB, gO, lk_old gO, kS, hkl, hkv, hsk, hwc, hwl, q1, q2, q3, hcl, hct, hcs, hcv, hky.symm, hrowA, hrowB, cp0, dp0, zp0, bp0, kp0, lp0, sp0, vp0, xp0, cp1, dp1, zp1, bp1, kp1, lp1, sp1, vp1, xp1]
        refine Thn_n ?_
        refine hK _ _ ?_
        clear hK K
        refine AW.seq_k fun K hK => ?_
        refine AW.region (by decide) ?_
        simp only [push_cast, simprocAttr, imp_self, hJ, hj2, hj3, hj4, u8l_len, u8l_app, Nat.le_refl, Int.le_refl, hx, gB, lk_old gB, gO, lk_old gO, kS, hkl, hkv, hsk, hwc, hwl, q1, q2, q3, hcl, hct, hcs, hcv, hky.symm, hrowA, hrowB, cp0, dp0, zp0, bp0, kp0, lp0, sp0, vp0, xp0, cp1, dp1, zp1, bp1, kp1, lp1, sp1, vp1, xp1]
        refine Thn_n ?_
        refine hK _ _ ?_
        clear hK K
        refine AW.seq_k fun K hK => ?_
        refine AW.seq_k fun K hK => ?_
        refine AW.region (by decide) ?_
        simp only [push_cast, simprocAttr, imp_self, hJ, hj2, hj3, hj4, u8l_len, u8l_app, Nat.le_refl, Int.le_refl, hx, gB, lk_old gB, gO, lk_old gO, kS, hkl, hkv, hsk, hwc, hwl, q1, q2, q3, hcl, hct, hcs, hcv, hky.symm, hrowA, hrowB, cp0, dp0, zp0, bp0, kp0, lp0, sp0, vp0, xp0, cp1, dp1, zp1, bp1, kp1, lp1, sp1, vp1, xp1]
        refine Thn_n ?_
        refine hK _ _ ?_
        clear hK K
        refine AW.cond_f rfl ?_
        refine AW.skip ?_
        refine Thn_n ?_
        refine hK _ _ ?_
        clear hK K
        refine AW.seq_k fun K hK => ?_
        refine AW.seq_k fun K hK => ?_
        refine AW.region (by decide) ?_
        simp only [push_cast, simprocAttr, imp_self, hJ, hj2, hj3, hj4, u8l_len, u8l_app, Nat.le_refl, Int.le_refl, hx, gB, lk_old gB, gO, lk_old gO, kS, hkl, hkv, hsk, hwc, hwl, q1, q2, q3, hcl, hct, hcs, hcv, hky.symm, hrowA, hrowB, cp0, dp0, zp0, bp0, kp0, lp0, sp0, vp0, xp0, cp1, dp1, zp1, bp1, kp1, lp1, sp1, vp1, xp1]
        refine Thn_n ?_
        refine hK _ _ ?_
        clear hK K
        refine AW.block ?_
        refine AW.rounds 3 ?_
        iterate 2
          refine ARounds.succ fun K hK => ?_
          refine AW.seq_k fun K hK => ?_
          refine AW.region (by decide) ?_
          simp only [push_cast, simprocAttr, imp_self, hJ, hj2, hj3, hj4, u8l_len, u8l_app, Nat.le_refl, Int.le_refl, hx, gB, lk_old gB, gO, lk_old gO, kS, hkl, hkv, hsk, hwc, hwl, q1, q2, q3, hcl, hct, hcs, hcv, hky.symm, hrowA, hrowB, cp0, dp0, zp0, bp0, kp0, lp0, sp0, vp0, xp0, cp1, dp1, zp1, bp1, kp1, lp1, sp1, vp1, xp1]
          refine Thn_n ?_
          refine hK _ _ ?_
          clear hK K
          refine AW.seq_k fun K hK => ?_
          refine AW.cond_t rfl ?_
          refine AW.skip ?_
          refine Thn_n ?_
          refine hK _ _ ?_
          clear hK K
          refine AW.seq_k fun K hK => ?_
          refine AW.block ?_
          refine AW.seq_k fun K hK => ?_
          refine AW.region (by decide) ?_
          simp only [push_cast, simprocAttr, imp_self, hJ, hj2, hj3, hj4, u8l_len, u8l_app, Nat.le_refl, Int.le_refl, hx, gB, lk_old gB, gO, lk_old gO, kS, hkl, hkv, hsk, hwc, hwl, q1, q2, q3, hcl, hct, hcs, hcv, hky.symm, hrowA, hrowB, cp0, dp0, zp0, bp0, kp0, lp0, sp0, vp0, xp0, cp1, dp1, zp1, bp1, kp1, lp1, sp1, vp1, xp1]
          refine Thn_n ?_
          refine hK _ _ ?_
          clear hK K
          refine AW.region (by decide) ?_
          simp only [push_cast, simprocAttr, imp_self, hJ, hj2, hj3, hj4, u8l_len, u8l_app, Nat.le_refl, Int.le_refl, hx, gB, lk_old gB, gO, lk_old gO, kS, hkl, hkv, hsk, hwc, hwl, q1, q2, q3, hcl, hct, hcs, hcv, hky.symm, hrowA, hrowB, cp0, dp0, zp0, bp0, kp0, lp0, sp0, vp0, xp0, cp1, dp1, zp1, bp1, kp1, lp1, sp1, vp1, xp1]
          refine InB_n ?_
          refine Thn_n ?_
          refine hK _ _ ?_
          clear hK K
          refine AW.region (by decide) ?_
          simp only [push_cast, simprocAttr, imp_self, hJ, hj2, hj3, hj4, u8l_len, u8l_app, Nat.le_refl, Int.le_refl, hx, gB, lk_old gB, gO, lk_old gO, kS, hkl, hkv, hsk, hwc, hwl, q1, q2, q3, hcl, hct, hcs, hcv, hky.symm, hrowA, hrowB, cp0, dp0, zp0, bp0, kp0, lp0, sp0, vp0, xp0, cp1, dp1, zp1, bp1, kp1, lp1, sp1, vp1, xp1]
          refine Thn_n ?_
          refine hK _ _ ?_
          clear hK K
        refine ARounds.succ fun K hK => ?_
        refine AW.seq_k fun K hK => ?_
        refine AW.region (by decide) ?_
        simp only [push_cast, simprocAttr, imp_self, hJ, hj2, hj3, hj4, u8l_len, u8l_app, Nat.le_refl, Int.le_refl, hx, gB, lk_old gB, gO, lk_old gO, kS, hkl, hkv, hsk, hwc, hwl, q1, q2, q3, hcl, hct, hcs, hcv, hky.symm, hrowA, hrowB, cp0, dp0, zp0, bp0, kp0, lp0, sp0, vp0, xp0, cp1, dp1, zp1, bp1, kp1, lp1, sp1, vp1, xp1]
        refine Thn_n ?_
        refine hK _ _ ?_
        clear hK K
        refine AW.seq_k fun K hK => ?_
        refine AW.cond_f rfl ?_
        refine AW.exit ?_
        refine Thn_e ?_
        clear hK K
        refine Thn_e ?_
        clear hK K
        refine InB_here ?_
        refine Thn_n ?_
        refine hK _ _ ?_
        clear hK K
        refine AW.seq_k fun K hK => ?_
        refine AW.region (by decide) ?_
        simp only [push_cast, simprocAttr, imp_self, hJ, hj2, hj3, hj4, u8l_len, u8l_app, Nat.le_refl, Int.le_refl, hx, gB, lk_old gB, gO, lk_old gO, kS, hkl, hkv, hsk, hwc, hwl, q1, q2, q3, hcl, hct, hcs, hcv, hky.symm, hrowA, hrowB, cp0, dp0, zp0, bp0, kp0, lp0, sp0, vp0, xp0, cp1, dp1, zp1, bp1, kp1, lp1, sp1, vp1, xp1]
        refine CThen.by (key_c 2 (f : Int) (M.length + 2) 2 2 (ky J (4 * f) ++ (ky J (4 * f + 1))) .grow 32 _ (by simp only [push_cast, simprocAttr, u8l_app]) hDl hDo (by decide)) ?_
        simp only [push_cast, simprocAttr, imp_self, hJ, hj2, hj3, hj4, u8l_len, u8l_app, Nat.le_refl, Int.le_refl, hx, gB, lk_old gB, gO, lk_old gO, kS, hkl, hkv, hsk, hwc, hwl, q1, q2, q3, hcl, hct, hcs, hcv, hky.symm, hrowA, hrowB, cp0, dp0, zp0, bp0, kp0, lp0, sp0, vp0, xp0, cp1, dp1, zp1, bp1, kp1, lp1, sp1, vp1, xp1]
        refine Thn_n ?_
        refine hK _ _ ?_
        clear hK K
        refine AW.region (by decide) ?_
        simp only [push_cast, simprocAttr, imp_self, hJ, hj2, hj3, hj4, u8l_len, u8l_app, Nat.le_refl, Int.le_refl, hx, gB, lk_old gB, gO, lk_old gO, kS, hkl, hkv, hsk, hwc, hwl, q1, q2, q3, hcl, hct, hcs, hcv, hky.symm, hrowA, hrowB, cp0, dp0, zp0, bp0, kp0, lp0, sp0, vp0, xp0, cp1, dp1, zp1, bp1, kp1, lp1, sp1, vp1, xp1]
        refine InB_n ?_
        refine Thn_n ?_
        refine hK _ _ ?_
        clear hK K
        refine AW.region (by decide) ?_
        simp only [push_cast, simprocAttr, imp_self, hJ, hj2, hj3, hj4, u8l_len, u8l_app, Nat.le_refl, Int.le_refl, hx, gB, lk_old gB, gO, lk_old gO, kS, hkl, hkv, hsk, hwc, hwl, q1, q2, q3, hcl, hct, hcs, hcv, hky.symm, hrowA, hrowB, cp0, dp0, zp0, bp0, kp0, lp0, sp0, vp0, xp0, cp1, dp1, zp1, bp1, kp1, lp1, sp1, vp1, xp1]
        refine Thn_n ?_
        refine ⟨kn, by omega, by omega, ?_⟩
        try simp only [keepL, setAll, push_cast, simprocAttr, imp_self, hJ, hj2, hj3, hj4, u8l_len, u8l_app, Nat.le_refl, Int.le_refl, hx, gB, lk_old gB, gO, lk_old gO, kS, hkl, hkv, hsk, hwc, hwl, q1, q2, q3, hcl, hct, hcs, hcv, hky.symm, hrowA, hrowB, cp0, dp0, zp0, bp0, kp0, lp0, sp0, vp0, xp0, cp1, dp1, zp1, bp1, kp1, lp1, sp1, vp1, xp1, e6, hki6, hrf6, hki, kM, hrf, e5, hwn, List.append_assoc]
        first
          | exact Weak.to (extra := [_, _, _, _]) (by simp only [Keeps, Tm.get_cons, Nat.reduceEqDiff, ↓reduceIte, if_true, if_false, ite_true, ite_false, true_and, and_true, and_self, reduceCtorEq, e6, hki6, hrf6, hki, kM, hrf, e5, hwn, List.append_assoc]) (by first | rfl | (simp only [List.append_assoc, List.cons_append, List.nil_append]; rfl)) (by first | rfl | (simp [AV.below, CV.below, u8l_below]; done) | (simp [AV.below, CV.below, u8l_below]; omega)) (by have h := works_wf J m RR (n + 1) (n + 1) hwf hwR hwL; simp only [hRR, e6, hki6, hrf6, hki, kM, hrf, hwn, hrowA, hrowB, List.append_assoc, push_cast, simprocAttr] at h ⊢; exact h)
          | exact Weak.to (extra := [_, _, _, _, _]) (by simp only [Keeps, Tm.get_cons, Nat.reduceEqDiff, ↓reduceIte, if_true, if_false, ite_true, ite_false, true_and, and_true, and_self, reduceCtorEq, e6, hki6, hrf6, hki, kM, hrf, e5, hwn, List.append_assoc]) (by first | rfl | (simp only [List.append_assoc, List.cons_append, List.nil_append]; rfl)) (by first | rfl | (simp [AV.below, CV.below, u8l_below]; done) | (simp [AV.below, CV.below, u8l_below]; omega)) (by have h := works_wf J m RR (n + 1) (n + 1) hwf hwR hwL; simp only [hRR, e6, hki6, hrf6, hki, kM, hrf, hwn, hrowA, hrowB, List.append_assoc, push_cast, simprocAttr] at h ⊢; exact h)
          | exact Weak.to (extra := [_, _, _, _, _, _]) (by simp only [Keeps, Tm.get_cons, Nat.reduceEqDiff, ↓reduceIte, if_true, if_false, ite_true, ite_false, true_and, and_true, and_self, reduceCtorEq, e6, hki6, hrf6, hki, kM, hrf, e5, hwn, List.append_assoc]) (by first | rfl | (simp only [List.append_assoc, List.cons_append, List.nil_append]; rfl)) (by first | rfl | (simp [AV.below, CV.below, u8l_below]; done) | (simp [AV.below, CV.below, u8l_below]; omega)) (by have h := works_wf J m RR (n + 1) (n + 1) hwf hwR hwL; simp only [hRR, e6, hki6, hrf6, hki, kM, hrf, hwn, hrowA, hrowB, List.append_assoc, push_cast, simprocAttr] at h ⊢; exact h)
      · have hm0 : n % 4 = 3 := by omega
        have hd0 : n / 4 = f := by omega
        rw [hm0, hd0] at hky hwc0
        have hnn : n = (4 * f + 3) := by omega
        have hndl : ndL n = [4 * f + 2] := by rw [hnn]; exact nd3 f
        have hrowA : nl (ndL (4 * f + 3)) = [.int .i64 ((4 * f + 2 : Nat) : Int)] := by rw [nd3 f]; rfl
        have hrowB : nl (ndL n) = [.int .i64 ((4 * f + 2 : Nat) : Int)] := by rw [hndl]; rfl
        simp only [push_cast, simprocAttr] at hrowA hrowB
        have hnd : ndC (m.length + 2) n = .sl M.length 0 0 1 := by
          unfold ndC rwN; rw [hm0, hd0, hndl, if_neg (by decide), hMl]
          congr 1 <;> omega
        rw [if_neg (by decide)] at hky hrf
        rw [hndl] at hky
        simp only [List.flatMap_cons, List.flatMap_nil, List.append_nil] at hky
        have hDl : (ky J (4 * f + 2)).length = 32 * 1 := by simp only [List.length_append, ky_len]
        have hDo : U8ok (ky J (4 * f + 2)) := ky_ok _ _
        simp only [push_cast, simprocAttr] at hky
        have hki : ((kn : Nat) : Int) = 4 := by omega
        have hwc : CV.int .i64 3 :: .int .i64 (f : Int) :: (u8l (ky J n) ++ [.sl M.length 0 0 1]) = wC J (m.length + 2) n := by rw [hwc0, hnd]; rfl
        have hsk := setL_key (.int .i64 3) (.int .i64 (f : Int)) (.sl M.length 0 0 1) (ky J n) hkl
        dsimp only at hsk
        have hq2 : ∀ l : List CV, l = l := fun _ => rfl
        have cp0 : (0 : Int) ≤ 4 * (f : Int) + 1 + 1 := by omega
        have dp0 : 4 * (f : Int) + 1 + 1 < (n : Int) := by omega
        have zp0 : (4 * (f : Int) + 1 + 1).toNat = 4 * f + 2 := by omega
        have bp0 : (4 * f + 2) * 35 + 34 ≤ n * 35 := by omega
        have kp0 := wR_key J (m.length + 2) n (4 * f + 2) (by omega)
        rw [show 35 * (4 * f + 2) = (4 * f + 2) * 35 from Nat.mul_comm _ _] at kp0
        have lp0 := ky_len J (4 * f + 2)
        have op0 := ky_ok J (4 * f + 2)
        have sp0 : setL [.int .u8 0, .int .u8 0, .int .u8 0, .int .u8 0, .int .u8 0, .int .u8 0, .int .u8 0, .int .u8 0, .int .u8 0, .int .u8 0, .int .u8 0, .int .u8 0, .int .u8 0, .int .u8 0, .int .u8 0, .int .u8 0, .int .u8 0, .int .u8 0, .int .u8 0, .int .u8 0, .int .u8 0, .int .u8 0, .int .u8 0, .int .u8 0, .int .u8 0, .int .u8 0, .int .u8 0, .int .u8 0, .int .u8 0, .int .u8 0, .int .u8 0, .int .u8 0] 0 (u8l (ky J (4 * f + 2))) = u8l (ky J (4 * f + 2)) := setL_full (by rw [u8l_len, lp0]; rfl)
        have vp0 := u8l_vals (ky J (4 * f + 2))
        have xp0 : (u8l (ky J (4 * f + 2))).take 32 = u8l (ky J (4 * f + 2)) := List.take_of_length_le (by rw [u8l_len, lp0]; exact Nat.le_refl _)
        try simp only [push_cast, simprocAttr] at bp0
        try simp only [push_cast, simprocAttr] at kp0
        refine AW.region (by decide) ?_
        simp only [push_cast, simprocAttr, imp_self, hJ, hj2, hj3, hj4, u8l_len, u8l_app, Nat.le_refl, Int.le_refl, hx, gB, lk_old gB, gO, lk_old gO, kS, hkl, hkv, hsk, hwc, hwl, q1, q2, q3, hcl, hct, hcs, hcv, hky.symm, hrowA, hrowB, cp0, dp0, zp0, bp0, kp0, lp0, sp0, vp0, xp0]
        refine CThen.by (needs3_c f _ (by omega)) ?_
        simp only [push_cast, simprocAttr, imp_self, hJ, hj2, hj3, hj4, u8l_len, u8l_app, Nat.le_refl, Int.le_refl, hx, gB, lk_old gB, gO, lk_old gO, kS, hkl, hkv, hsk, hwc, hwl, q1, q2, q3, hcl, hct, hcs, hcv, hky.symm, hrowA, hrowB, cp0, dp0, zp0, bp0, kp0, lp0, sp0, vp0, xp0]
        refine Thn_n ?_
        refine hK _ _ ?_
        clear hK K
        refine AW.seq_k fun K hK => ?_
        refine AW.region (by decide) ?_
        simp only [push_cast, simprocAttr, imp_self, hJ, hj2, hj3, hj4, u8l_len, u8l_app, Nat.le_refl, Int.le_refl, hx, gB, lk_old gB, gO, lk_old gO, kS, hkl, hkv, hsk, hwc, hwl, q1, q2, q3, hcl, hct, hcs, hcv, hky.symm, hrowA, hrowB, cp0, dp0, zp0, bp0, kp0, lp0, sp0, vp0, xp0]
        refine Thn_n ?_
        refine hK _ _ ?_
        clear hK K
        refine AW.seq_k fun K hK => ?_
        refine AW.seq_k fun K hK => ?_
        refine AW.region (by decide) ?_
        simp only [push_cast, simprocAttr, imp_self, hJ, hj2, hj3, hj4, u8l_len, u8l_app, Nat.le_refl, Int.le_refl, hx, gB, lk_old gB, gO, lk_old gO, kS, hkl, hkv, hsk, hwc, hwl, q1, q2, q3, hcl, hct, hcs, hcv, hky.symm, hrowA, hrowB, cp0, dp0, zp0, bp0, kp0, lp0, sp0, vp0, xp0]
        refine Thn_n ?_
        refine hK _ _ ?_
        clear hK K
        refine AW.cond_f rfl ?_
        refine AW.skip ?_
        refine Thn_n ?_
        refine hK _ _ ?_
        clear hK K
        refine AW.seq_k fun K hK => ?_
        refine AW.seq_k fun K hK => ?_
        refine AW.region (by decide) ?_
        simp only [push_cast, simprocAttr, imp_self, hJ, hj2, hj3, hj4, u8l_len, u8l_app, Nat.le_refl, Int.le_refl, hx, gB, lk_old gB, gO, lk_old gO, kS, hkl, hkv, hsk, hwc, hwl, q1, q2, q3, hcl, hct, hcs, hcv, hky.symm, hrowA, hrowB, cp0, dp0, zp0, bp0, kp0, lp0, sp0, vp0, xp0]
        refine Thn_n ?_
        refine hK _ _ ?_
        clear hK K
        refine AW.block ?_
        refine AW.rounds 2 ?_
        refine ARounds.succ fun K hK => ?_
        refine AW.seq_k fun K hK => ?_
        refine AW.region (by decide) ?_
        simp only [push_cast, simprocAttr, imp_self, hJ, hj2, hj3, hj4, u8l_len, u8l_app, Nat.le_refl, Int.le_refl, hx, gB, lk_old gB, gO, lk_old gO, kS, hkl, hkv, hsk, hwc, hwl, q1, q2, q3, hcl, hct, hcs, hcv, hky.symm, hrowA, hrowB, cp0, dp0, zp0, bp0, kp0, lp0, sp0, vp0, xp0]
        refine Thn_n ?_
        refine hK _ _ ?_
        clear hK K
        refine AW.seq_k fun K hK => ?_
        refine AW.cond_t rfl ?_
        refine AW.skip ?_
        refine Thn_n ?_
        refine hK _ _ ?_
        clear hK K
        refine AW.seq_k fun K hK => ?_
        refine AW.block ?_
        refine AW.seq_k fun K hK => ?_
        refine AW.region (by decide) ?_
        simp only [push_cast, simprocAttr, imp_self, hJ, hj2, hj3, hj4, u8l_len, u8l_app, Nat.le_refl, Int.le_refl, hx, gB, lk_old gB, gO, lk_old gO, kS, hkl, hkv, hsk, hwc, hwl, q1, q2, q3, hcl, hct, hcs, hcv, hky.symm, hrowA, hrowB, cp0, dp0, zp0, bp0, kp0, lp0, sp0, vp0, xp0]
        refine Thn_n ?_
        refine hK _ _ ?_
        clear hK K
        refine AW.region (by decide) ?_
        simp only [push_cast, simprocAttr, imp_self, hJ, hj2, hj3, hj4, u8l_len, u8l_app, Nat.le_refl, Int.le_refl, hx, gB, lk_old gB, gO, lk_old gO, kS, hkl, hkv, hsk, hwc, hwl, q1, q2, q3, hcl, hct, hcs, hcv, hky.symm, hrowA, hrowB, cp0, dp0, zp0, bp0, kp0, lp0, sp0, vp0, xp0]
        refine InB_n ?_
        refine Thn_n ?_
        refine hK _ _ ?_
        clear hK K
        refine AW.region (by decide) ?_
        simp only [push_cast, simprocAttr, imp_self, hJ, hj2, hj3, hj4, u8l_len, u8l_app, Nat.le_refl, Int.le_refl, hx, gB, lk_old gB, gO, lk_old gO, kS, hkl, hkv, hsk, hwc, hwl, q1, q2, q3, hcl, hct, hcs, hcv, hky.symm, hrowA, hrowB, cp0, dp0, zp0, bp0, kp0, lp0, sp0, vp0, xp0]
        refine Thn_n ?_
        refine hK _ _ ?_
        clear hK K
        refine ARounds.succ fun K hK => ?_
        refine AW.seq_k fun K hK => ?_
        refine AW.region (by decide) ?_
        simp only [push_cast, simprocAttr, imp_self, hJ, hj2, hj3, hj4, u8l_len, u8l_app, Nat.le_refl, Int.le_refl, hx, gB, lk_old gB, gO, lk_old gO, kS, hkl, hkv, hsk, hwc, hwl, q1, q2, q3, hcl, hct, hcs, hcv, hky.symm, hrowA, hrowB, cp0, dp0, zp0, bp0, kp0, lp0, sp0, vp0, xp0]
        refine Thn_n ?_
        refine hK _ _ ?_
        clear hK K
        refine AW.seq_k fun K hK => ?_
        refine AW.cond_f rfl ?_
        refine AW.exit ?_
        refine Thn_e ?_
        clear hK K
        refine Thn_e ?_
        clear hK K
        refine InB_here ?_
        refine Thn_n ?_
        refine hK _ _ ?_
        clear hK K
        refine AW.seq_k fun K hK => ?_
        refine AW.region (by decide) ?_
        simp only [push_cast, simprocAttr, imp_self, hJ, hj2, hj3, hj4, u8l_len, u8l_app, Nat.le_refl, Int.le_refl, hx, gB, lk_old gB, gO, lk_old gO, kS, hkl, hkv, hsk, hwc, hwl, q1, q2, q3, hcl, hct, hcs, hcv, hky.symm, hrowA, hrowB, cp0, dp0, zp0, bp0, kp0, lp0, sp0, vp0, xp0]
        refine CThen.by (key_c 3 (f : Int) (M.length + 2) 1 1 (ky J (4 * f + 2)) .grow 32 _ (by simp only [push_cast, simprocAttr, u8l_app]) hDl hDo (by decide)) ?_
        simp only [push_cast, simprocAttr, imp_self, hJ, hj2, hj3, hj4, u8l_len, u8l_app, Nat.le_refl, Int.le_refl, hx, gB, lk_old gB, gO, lk_old gO, kS, hkl, hkv, hsk, hwc, hwl, q1, q2, q3, hcl, hct, hcs, hcv, hky.symm, hrowA, hrowB, cp0, dp0, zp0, bp0, kp0, lp0, sp0, vp0, xp0]
        refine Thn_n ?_
        refine hK _ _ ?_
        clear hK K
        refine AW.region (by decide) ?_
        simp only [push_cast, simprocAttr, imp_self, hJ, hj2, hj3, hj4, u8l_len, u8l_app, Nat.le_refl, Int.le_refl, hx, gB, lk_old gB, gO, lk_old gO, kS, hkl, hkv, hsk, hwc, hwl, q1, q2, q3, hcl, hct, hcs, hcv, hky.symm, hrowA, hrowB, cp0, dp0, zp0, bp0, kp0, lp0, sp0, vp0, xp0]
        refine InB_n ?_
        refine Thn_n ?_
        refine hK _ _ ?_
        clear hK K
        refine AW.region (by decide) ?_
        simp only [push_cast, simprocAttr, imp_self, hJ, hj2, hj3, hj4, u8l_len, u8l_app, Nat.le_refl, Int.le_refl, hx, gB, lk_old gB, gO, lk_old gO, kS, hkl, hkv, hsk, hwc, hwl, q1, q2, q3, hcl, hct, hcs, hcv, hky.symm, hrowA, hrowB, cp0, dp0, zp0, bp0, kp0, lp0, sp0, vp0, xp0]
        refine Thn_n ?_
        refine ⟨kn, by omega, by omega, ?_⟩
        try simp only [keepL, setAll, push_cast, simprocAttr, imp_self, hJ, hj2, hj3, hj4, u8l_len, u8l_app, Nat.le_refl, Int.le_refl, hx, gB, lk_old gB, gO, lk_old gO, kS, hkl, hkv, hsk, hwc, hwl, q1, q2, q3, hcl, hct, hcs, hcv, hky.symm, hrowA, hrowB, cp0, dp0, zp0, bp0, kp0, lp0, sp0, vp0, xp0, e6, hki6, hrf6, hki, kM, hrf, e5, hwn, List.append_assoc]
        first
          | exact Weak.to (extra := [_, _, _, _]) (by simp only [Keeps, Tm.get_cons, Nat.reduceEqDiff, ↓reduceIte, if_true, if_false, ite_true, ite_false, true_and, and_true, and_self, reduceCtorEq, e6, hki6, hrf6, hki, kM, hrf, e5, hwn, List.append_assoc]) (by first | rfl | (simp only [List.append_assoc, List.cons_append, List.nil_append]; rfl)) (by first | rfl | (simp [AV.below, CV.below, u8l_below]; done) | (simp [AV.below, CV.below, u8l_below]; omega)) (by have h := works_wf J m RR (n + 1) (n + 1) hwf hwR hwL; simp only [hRR, e6, hki6, hrf6, hki, kM, hrf, hwn, hrowA, hrowB, List.append_assoc, push_cast, simprocAttr] at h ⊢; exact h)
          | exact Weak.to (extra := [_, _, _, _, _]) (by simp only [Keeps, Tm.get_cons, Nat.reduceEqDiff, ↓reduceIte, if_true, if_false, ite_true, ite_false, true_and, and_true, and_self, reduceCtorEq, e6, hki6, hrf6, hki, kM, hrf, e5, hwn, List.append_assoc]) (by first | rfl | (simp only [List.append_assoc, List.cons_append, List.nil_append]; rfl)) (by first | rfl | (simp [AV.below, CV.below, u8l_below]; done) | (simp [AV.below, CV.below, u8l_below]; omega)) (by have h := works_wf J m RR (n + 1) (n + 1) hwf hwR hwL; simp only [hRR, e6, hki6, hrf6, hki, kM, hrf, hwn, hrowA, hrowB, List.append_assoc, push_cast, simprocAttr] at h ⊢; exact h)
          | exact Weak.to (extra := [_, _, _, _, _, _]) (by simp only [Keeps, Tm.get_cons, Nat.reduceEqDiff, ↓reduceIte, if_true, if_false, ite_true, ite_false, true_and, and_true, and_self, reduceCtorEq, e6, hki6, hrf6, hki, kM, hrf, e5, hwn, List.append_assoc]) (by first | rfl | (simp only [List.append_assoc, List.cons_append, List.nil_append]; rfl)) (by first | rfl | (simp [AV.below, CV.below, u8l_below]; done) | (simp [AV.below, CV.below, u8l_below]; omega)) (by have h := works_wf J m RR (n + 1) (n + 1) hwf hwR hwL; simp only [hRR, e6, hki6, hrf6, hki, kM, hrf, hwn, hrowA, hrowB, List.append_assoc, push_cast, simprocAttr] at h ⊢; exact h)
    · have hke : k = 4 := by have := of_decide_eq_false h19; omega
      subst hke
      refine AW.exit ?_
      refine Thn_e ?_
      clear hK K
      refine Thn_e ?_
      refine InB_here ?_
      refine InB_n ?_
      refine Thn_n ?_
      refine hK _ _ ?_
      clear hK K
      refine AW.region (by decide) ?_
      simp only [push_cast, simprocAttr, imp_self, hJ, hj2, hj3, hj4, u8l_len, u8l_app, Nat.le_refl, Int.le_refl, hx]
      refine Thn_n ?_
      have hwi : IntKind.i64.wrap ((f:Int)+1) = (f:Int)+1 := wi (by omega)
      have e4 : 4 * (f + 1) = 4 * f + 4 := by omega
      have hg4 : rwG (f + 1) = rwG f ++ rwF f 4 := rfl
      refine ⟨f + 1, hlt, by omega, ?_⟩
      try simp only [keepL, setAll, push_cast, simprocAttr, imp_self, hJ, hj2, hj3, hj4, u8l_len, u8l_app, Nat.le_refl, Int.le_refl, hx, hwi, e4, hg4]
      exact Weak.same (by simp only [Keeps, Tm.get_cons, Nat.reduceEqDiff, ↓reduceIte, if_true, if_false, ite_true, ite_false, true_and, and_true, and_self, reduceCtorEq, hwi, e4, hg4]) (by first | rfl | simp only [Keeps, Tm.get_cons, Nat.reduceEqDiff, ↓reduceIte, if_true, if_false, ite_true, ite_false, true_and, and_true, and_self, reduceCtorEq, hwi, e4, hg4])
  · have hfe : f = F := by have := of_decide_eq_false h16; omega
    subst hfe
    refine AW.exit ?_
    refine Thn_e ?_
    clear hK K
    refine Thn_e ?_
    refine InB_here ?_
    refine Thn_n ?_
    refine hK _ _ ?_
    clear hK K
    refine AW.seq_k fun K hK => ?_
    refine AW.region (by decide) ?_
    simp only [push_cast, simprocAttr, imp_self, hJ, hj2, hj3, hj4, u8l_len, u8l_app, Nat.le_refl, Int.le_refl, hx]
    refine Thn_n ?_
    refine hK _ _ ?_
    clear hK K
    refine AW.ret ?_
    refine hQ _ _ _ ?_
    refine ⟨Or.inr rfl, _, ?_, Hands.all⟩
    simp only [resA, resOne, resTv, AV.tv, push_cast, simprocAttr]
end Go.Proofs.Ytmjbbnfmhgcfaaa
