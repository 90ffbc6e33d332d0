/- Walks and facts of this seat's program over abstract states, printed by a program of mine; no conditions but those that each theorem names. -/
import Derived.Test.YtmjbbnfmhgcfaaaStampG
set_option linter.unusedSimpArgs false
set_option linter.unusedVariables false
set_option maxRecDepth 100000
set_option maxHeartbeats 4000000
namespace Go.Proofs.Ytmjbbnfmhgcfaaa
open Go Go.Eng

theorem sorder_c (J : List Int) (F : Nat) (x : Int) (m : AMem) (hJ : J.length = 32) (hJu : U8ok J) (hF : F ≤ 32) (hx : maxI 0 (minI x 32) = (F : Int)) : Ctr Try.prog 4 [.agg (u8l J), .one (.int .i64 x)] m (.one (.bool true)) m := by
  refine Ctr.enter Try.func4 rfl (by decide) (rs := [.tmp 4]) (nt := 56) rfl rfl fun hwf Q hQ => ?_
  have hj1 := u8l_len J
  have hj2 : (u8l J).take 32 = u8l J := List.take_of_length_le (by rw [u8l_len, hJ]; exact Nat.le_refl _)
  have hj4 := u8l_vals J
  refine AW.seq_k fun K hK => ?_
  refine AW.region (by decide) ?_
  simp only [push_cast, simprocAttr, imp_self, hJ, hj2, hj4, u8l_len]
  refine Thn_n ?_
  refine hK _ _ ?_
  clear hK K
  refine AW.seq_k fun K hK => ?_
  refine AW.region (by decide) ?_
  simp only [push_cast, simprocAttr, imp_self, hJ, hj2, hj4, u8l_len]
  refine CThen.by (works_c J F x _ hJ hJu hF hx) ?_
  simp only [push_cast, simprocAttr, imp_self, hJ, hj2, hj4, u8l_len]
  refine Thn_n ?_
  refine hK _ _ ?_
  clear hK K
  refine AW.seq_k fun K hK => ?_
  obtain ⟨M1, hM1⟩ : ∃ M1, M1 = m ++ (⟨.fix, 22, 0, 0, u8l J⟩ :: ⟨.fix, 36, 0, 0, u8l J⟩ :: ⟨.grow, 39, 4 * F, 35, wR J (m.length + 3) (4 * F)⟩ :: rwG F) := ⟨_, rfl⟩
  rw [← hM1]
  have hwf1 : True := trivial
  have gW : M1[m.length + 2]? = some ⟨.grow, 39, 4 * F, 35, wR J (m.length + 3) (4 * F)⟩ := by rw [hM1, lk_app]; rfl
  have hl1 : M1.length = m.length + (3 + 3 * F) := by rw [hM1]; simp only [List.length_append, List.length_cons, rwG_len]; omega
  have hrw1 : ∀ i, i < 4 * F → i % 4 ≠ 0 → M1[m.length + 3 + rwN i]? = some ⟨.grow, 3, 0, 1, nl (ndL (i))⟩ := fun i hi h => by
    have h1 := rw_get (f := i / 4) (k := i % 4) (F := F) (by omega) (by omega) (by omega)
    rw [hM1, List.getElem?_append_right (by omega), show m.length + 3 + rwN i - m.length = rwN i + 1 + 1 + 1 by omega, List.getElem?_cons_succ, List.getElem?_cons_succ, List.getElem?_cons_succ]
    rw [show 4 * (i / 4) + i % 4 = i by omega] at h1
    exact h1
  have hbl1 : ∀ i, i < 4 * F → i % 4 ≠ 0 → m.length + 3 + rwN i < M1.length := fun i hi h => by rw [hl1]; unfold rwN; omega
  obtain ⟨n, hn⟩ : ∃ n, n = 4 * F := ⟨_, rfl⟩
  rw [← hn] at gW hrw1 hbl1 ⊢
  have hME1 : ∃ E, M1 = m ++ E := ⟨_, hM1⟩
  clear hM1
  refine AW.region (by decide) ?_
  simp only [push_cast, simprocAttr, imp_self, hJ, hj2, hj4, u8l_len]
  refine CThen.by (plan_c J (m.length + 3) n (m.length + 2) _ gW hrw1 hbl1 (by omega)) ?_
  simp only [push_cast, simprocAttr, imp_self, hJ, hj2, hj4, u8l_len]
  refine CThen.by (porder_ok M1.length n (fun i => (ndL i).length) (fun i => oF (ndL i)) _ (plan_rows J (m.length + 3) n M1) (fun i _ => by have := ndL_len i; omega) (by omega) (nd_check n (by omega))) ?_
  simp only [push_cast, simprocAttr, imp_self, hJ, hj2, hj4, u8l_len]
  refine Thn_n ?_
  refine hK _ _ ?_
  clear hK K
  refine AW.seq_k fun K hK => ?_
  refine AW.seq_k fun K hK => ?_
  simp only [nd_order n n (Nat.le_refl _), List.length_range, bne_self_eq_false]
  obtain ⟨M2, hM2⟩ : ∃ M2, M2 = M1 ++ (⟨.grow, 37, n, 1, pR M1.length n⟩ :: (pE J (m.length + 3) n ++ [⟨.grow, 3, 0, 1, il n (oF (List.range n))⟩])) := ⟨_, rfl⟩
  obtain ⟨ro, hro⟩ : ∃ ro, ro = M1.length + ((pE J (m.length + 3) n).length + 1) := ⟨_, rfl⟩
  rw [← hM2, ← hro]
  have gO : M2[ro]? = some ⟨.grow, 3, 0, 1, il n (oF (List.range n))⟩ := by
    rw [hM2, hro, List.getElem?_append_right (by omega), Nat.add_sub_cancel_left, List.getElem?_cons_succ, List.getElem?_append_right (Nat.le_refl _), Nat.sub_self]; rfl
  have gW2 : M2[m.length + 2]? = some ⟨.grow, 39, n, 35, wR J (m.length + 3) n⟩ := by rw [hM2]; exact lk_old gW _
  have hrw2 : ∀ i, i < n → i % 4 ≠ 0 → M2[m.length + 3 + rwN i]? = some ⟨.grow, 3, 0, 1, nl (ndL (i))⟩ := fun i hi h => by rw [hM2]; exact lk_old (hrw1 i hi h) _
  have hwl := wR_len J (m.length + 3) n
  have lw2 := get_lt gW2
  have lo2 := get_lt gO
  have hn128 : n ≤ 128 := by omega
  have hME2 : ∃ E, M2 = m ++ E := by
    obtain ⟨E, h⟩ := hME1
    exact ⟨_, by rw [hM2, h, List.append_assoc]⟩
  clear hM2 hro gW hrw1 hbl1 hl1
  clear hwf1
  refine AW.region (by decide) ?_
  simp only [push_cast, simprocAttr, imp_self, hJ, hj2, hj4, u8l_len]
  refine Thn_n ?_
  refine hK _ _ ?_
  clear hK K
  refine AW.cond_f rfl ?_
  refine AW.skip ?_
  refine Thn_n ?_
  refine hK _ _ ?_
  clear hK K
  refine AW.seq_k fun K hK => ?_
  refine AW.seq_k fun K hK => ?_
  refine AW.region (by decide) ?_
  simp only [push_cast, simprocAttr, imp_self, hJ, hj2, hj4, u8l_len]
  refine Thn_n ?_
  refine hK _ _ ?_
  clear hK K
  refine AW.block ?_
  refine AW.loopK [5, 30, 31] (fun i => i ≤ n) (fun i => [(32, .one (.int .i64 (i : Int)))]) (fun i => []) (fun i => n - i) 0 (by omega) ?_ ?_ fun i hi8 => ?_
  · first | rfl | (simp only [Keeps, Tm.get_cons, Nat.reduceEqDiff, ↓reduceIte, if_true, if_false, ite_true, ite_false, true_and, and_true, and_self, reduceCtorEq] <;> rfl)
  · first | rfl | (simp only [setAll, push_cast, simprocAttr, imp_self, hJ, hj2, hj4, u8l_len] <;> rfl)
  try simp only [keepL, setAll, push_cast, simprocAttr, imp_self, hJ, hj2, hj4, u8l_len]
  refine AW.seq_k fun K hK => ?_
  refine AW.region (by decide) ?_
  simp only [push_cast, simprocAttr, imp_self, hJ, hj2, hj4, u8l_len]
  refine Thn_n ?_
  refine hK _ _ ?_
  clear hK K
  refine AW.seq_k fun K hK => ?_
  refine AW.cond rfl (fun h33 => ?_) (fun h33 => ?_)
  · have hlt : i < n := by have := of_decide_eq_true h33; omega
    have c1 : (0 : Int) ≤ (i : Int) := by omega
    have c2 : (i : Int) < (n : Int) := by omega
    have gi := il_get (f := oF (List.range n)) hlt
    rw [rng_oF hlt] at gi
    have hq := wR_cell J (m.length + 3) n i 34 hlt (by omega)
    have hc34 : (wC J (m.length + 3) i)[34]? = some (ndC (m.length + 3) i) := by
      have hl : (u8l (ky J i)).length = 32 := by rw [u8l_len, ky_len]
      simp only [wC, List.getElem?_cons_succ]
      rw [List.getElem?_append_right (by omega), hl]; rfl
    rw [hc34, show 35 * i + 34 = i * 35 + 34 by omega] at hq
    have q3 : 35 * n = n * 35 := Nat.mul_comm _ _
    have q4 : i * 35 + 34 < n * 35 := by omega
    have hn3 := ndL_len i
    refine AW.skip ?_
    refine Thn_n ?_
    refine hK _ _ ?_
    clear hK K
    refine AW.seq_k fun K hK => ?_
    refine AW.block ?_
    refine AW.seq_k fun K hK => ?_
    refine AW.region (by decide) ?_
    simp only [push_cast, simprocAttr, imp_self, hJ, hj2, hj4, u8l_len, gO, gW2, hwl, c1, c2, gi, q3, q4]
    refine Thn_n ?_
    refine hK _ _ ?_
    clear hK K
    refine AW.seq_k fun K hK => ?_
    refine AW.seq_k fun K hK => ?_
    refine AW.region (by decide) ?_
    simp only [push_cast, simprocAttr, imp_self, hJ, hj2, hj4, u8l_len, gO, gW2, hwl, c1, c2, gi, q3, q4]
    refine Thn_n ?_
    refine hK _ _ ?_
    clear hK K
    refine AW.cond_f rfl ?_
    refine AW.skip ?_
    refine Thn_n ?_
    refine hK _ _ ?_
    clear hK K
    refine AW.seq_k fun K hK => ?_
    rcases Nat.eq_zero_or_pos (i % 4) with hz | hz
    · rw [show ndC (m.length + 3) i = .nils by unfold ndC; rw [if_pos hz]] at hq
      refine AW.region (by decide) ?_
      simp only [push_cast, simprocAttr, imp_self, hJ, hj2, hj4, u8l_len, gO, gW2, hwl, c1, c2, gi, q3, q4, hq]
      refine Thn_n ?_
      refine hK _ _ ?_
      clear hK K
      refine AW.block ?_
      refine AW.rounds 1 ?_
      refine ARounds.succ fun K hK => ?_
      refine AW.seq_k fun K hK => ?_
      refine AW.region (by decide) ?_
      simp only [push_cast, simprocAttr, imp_self, hJ, hj2, hj4, u8l_len, gO, gW2, hwl, c1, c2, gi, q3, q4, hq]
      refine Thn_n ?_
      refine hK _ _ ?_
      clear hK K
      refine AW.seq_k fun K hK => ?_
      refine AW.cond_f rfl ?_
      refine AW.exit ?_
      refine Thn_e ?_
      clear hK K
      refine Thn_e ?_
      clear hK K
      refine InB_here ?_
      refine InB_n ?_
      refine Thn_n ?_
      refine hK _ _ ?_
      clear hK K
      refine AW.region (by decide) ?_
      simp only [push_cast, simprocAttr, imp_self, hJ, hj2, hj4, u8l_len, gO, gW2, hwl, c1, c2, gi, q3, q4, hq]
      refine Thn_n ?_
      have hwi : IntKind.i64.wrap ((i:Int)+1) = (i:Int)+1 := by rw [IntKind.wrap_i64]; omega
      refine ⟨i + 1, by omega, by omega, ?_⟩
      try simp only [keepL, setAll, push_cast, simprocAttr, imp_self, hJ, hj2, hj4, u8l_len, gO, gW2, hwl, c1, c2, gi, q3, q4, hq, hwi]
      exact Weak.same (by simp only [Keeps, Tm.get_cons, Nat.reduceEqDiff, ↓reduceIte, if_true, if_false, ite_true, ite_false, true_and, and_true, and_self, reduceCtorEq, hwi]) (by first | rfl | simp only [Keeps, Tm.get_cons, Nat.reduceEqDiff, ↓reduceIte, if_true, if_false, ite_true, ite_false, true_and, and_true, and_self, reduceCtorEq, hwi])
    · rw [show ndC (m.length + 3) i = .sl (m.length + 3 + rwN i) 0 0 (ndL i).length by unfold ndC; rw [if_neg (by omega)]] at hq
      have gr := hrw2 i hlt (by omega)
      rw [nl_il, Nat.add_assoc] at gr
      refine AW.region (by decide) ?_
      simp only [push_cast, simprocAttr, imp_self, hJ, hj2, hj4, u8l_len, gO, gW2, hwl, c1, c2, gi, q3, q4, hq, gr]
      refine Thn_n ?_
      refine hK _ _ ?_
      clear hK K
      refine AW.block ?_
      refine AW.loopK [5, 8, 30, 31, 32, 44, 45] (fun j => j ≤ (ndL i).length) (fun j => [(46, .one (.int .i64 (j : Int)))]) (fun j => []) (fun j => (ndL i).length - j) 0 (by omega) ?_ ?_ fun j hi19 => ?_
      · first | rfl | (simp only [Keeps, Tm.get_cons, Nat.reduceEqDiff, ↓reduceIte, if_true, if_false, ite_true, ite_false, true_and, and_true, and_self, reduceCtorEq] <;> rfl)
      · first | rfl | (simp only [setAll, push_cast, simprocAttr, imp_self, hJ, hj2, hj4, u8l_len, gO, gW2, hwl, c1, c2, gi, q3, q4, hq, gr] <;> rfl)
      try simp only [keepL, setAll, push_cast, simprocAttr, imp_self, hJ, hj2, hj4, u8l_len, gO, gW2, hwl, c1, c2, gi, q3, q4, hq, gr]
      refine AW.seq_k fun K hK => ?_
      refine AW.region (by decide) ?_
      simp only [push_cast, simprocAttr, imp_self, hJ, hj2, hj4, u8l_len, gO, gW2, hwl, c1, c2, gi, q3, q4, hq, gr]
      refine Thn_n ?_
      refine hK _ _ ?_
      clear hK K
      refine AW.seq_k fun K hK => ?_
      refine AW.cond rfl (fun h47 => ?_) (fun h47 => ?_)
      · have hjl : j < (ndL i).length := by have := of_decide_eq_true h47; omega
        have d1 : (0 : Int) ≤ (j : Int) := by omega
        have d2 : (j : Int) < ((ndL i).length : Int) := by omega
        have gj := il_get (f := oF (ndL i)) hjl
        have hqj : ¬ (i : Int) ≤ oF (ndL i) j := by
          have := ndL_lt i _ (List.getElem_mem hjl)
          rw [oF_get hjl]; omega
        refine AW.skip ?_
        refine Thn_n ?_
        refine hK _ _ ?_
        clear hK K
        refine AW.seq_k fun K hK => ?_
        refine AW.block ?_
        iterate 2
          refine AW.seq_k fun K hK => ?_
          refine AW.region (by decide) ?_
          simp only [push_cast, simprocAttr, imp_self, hJ, hj2, hj4, u8l_len, gO, gW2, hwl, c1, c2, gi, q3, q4, hq, gr, d1, d2, gj, hqj]
          refine Thn_n ?_
          refine hK _ _ ?_
          clear hK K
        refine AW.cond_f rfl ?_
        refine AW.skip ?_
        refine InB_n ?_
        refine Thn_n ?_
        refine hK _ _ ?_
        clear hK K
        refine AW.region (by decide) ?_
        simp only [push_cast, simprocAttr, imp_self, hJ, hj2, hj4, u8l_len, gO, gW2, hwl, c1, c2, gi, q3, q4, hq, gr, d1, d2, gj, hqj]
        refine Thn_n ?_
        have hwi : IntKind.i64.wrap ((j:Int)+1) = (j:Int)+1 := by rw [IntKind.wrap_i64]; omega
        refine ⟨j + 1, by omega, by omega, ?_⟩
        try simp only [keepL, setAll, push_cast, simprocAttr, imp_self, hJ, hj2, hj4, u8l_len, gO, gW2, hwl, c1, c2, gi, q3, q4, hq, gr, d1, d2, gj, hqj, hwi]
        exact Weak.same (by simp only [Keeps, Tm.get_cons, Nat.reduceEqDiff, ↓reduceIte, if_true, if_false, ite_true, ite_false, true_and, and_true, and_self, reduceCtorEq, hwi]) (by first | rfl | simp only [Keeps, Tm.get_cons, Nat.reduceEqDiff, ↓reduceIte, if_true, if_false, ite_true, ite_false, true_and, and_true, and_self, reduceCtorEq, hwi])
      · refine AW.exit ?_
        refine Thn_e ?_
        clear hK K
        refine Thn_e ?_
        refine InB_here ?_
        refine InB_n ?_
        refine Thn_n ?_
        refine hK _ _ ?_
        clear hK K
        refine AW.region (by decide) ?_
        simp only [push_cast, simprocAttr, imp_self, hJ, hj2, hj4, u8l_len, gO, gW2, hwl, c1, c2, gi, q3, q4, hq, gr]
        refine Thn_n ?_
        have hwi : IntKind.i64.wrap ((i:Int)+1) = (i:Int)+1 := by rw [IntKind.wrap_i64]; omega
        refine ⟨i + 1, by omega, by omega, ?_⟩
        try simp only [keepL, setAll, push_cast, simprocAttr, imp_self, hJ, hj2, hj4, u8l_len, gO, gW2, hwl, c1, c2, gi, q3, q4, hq, gr, hwi]
        exact Weak.same (by simp only [Keeps, Tm.get_cons, Nat.reduceEqDiff, ↓reduceIte, if_true, if_false, ite_true, ite_false, true_and, and_true, and_self, reduceCtorEq, hwi]) (by first | rfl | simp only [Keeps, Tm.get_cons, Nat.reduceEqDiff, ↓reduceIte, if_true, if_false, ite_true, ite_false, true_and, and_true, and_self, reduceCtorEq, hwi])
  · refine AW.exit ?_
    refine Thn_e ?_
    clear hK K
    refine Thn_e ?_
    refine InB_here ?_
    refine Thn_n ?_
    refine hK _ _ ?_
    clear hK K
    refine AW.seq_k fun K hK => ?_
    refine AW.region (by decide) ?_
    simp only [push_cast, simprocAttr, imp_self, hJ, hj2, hj4, u8l_len]
    refine CThen.by (awake_c _) ?_
    simp only [push_cast, simprocAttr, imp_self, hJ, hj2, hj4, u8l_len]
    refine Thn_n ?_
    refine hK _ _ ?_
    clear hK K
    refine AW.ret ?_
    refine hQ _ _ _ ?_
    obtain ⟨E2, hE2⟩ := hME2
    rw [hE2]
    refine RetP.drop (Or.inr rfl) ?_ ?_ hwf
    · simp only [resA, resOne, resTv, AV.tv, push_cast, simprocAttr]
    · rfl
end Go.Proofs.Ytmjbbnfmhgcfaaa
