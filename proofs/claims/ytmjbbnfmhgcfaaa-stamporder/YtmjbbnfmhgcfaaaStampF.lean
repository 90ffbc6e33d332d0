/- Walks and facts of this seat's program over abstract states, printed by a program of mine; no conditions but those that each theorem names. -/
import Derived.Test.YtmjbbnfmhgcfaaaStampE
set_option linter.unusedSimpArgs false
set_option linter.unusedVariables false
set_option maxRecDepth 100000
set_option maxHeartbeats 4000000
namespace Go.Proofs.Ytmjbbnfmhgcfaaa
open Go Go.Eng

/-- The plan of works: its rows' cells, and the blocks that its making leaves. -/
def pR (L : Nat) : Nat → List CV
  | 0 => []
  | n + 1 => pR L n ++ [.sl (L + (2 * n + 2)) 1 0 (ndL n).length]
theorem pR_rl (L : Nat) : ∀ n, pR L n = rl n (fun i => L + (2 * i + 2)) (fun _ => 1) (fun i => (ndL i).length)
  | 0 => rfl
  | n + 1 => by simp only [pR, rl, pR_rl L n]
theorem pR_len (L : Nat) (n : Nat) : (pR L n).length = n := by rw [pR_rl, rl_len]
def pE (J : List Int) (b : Nat) : Nat → AMem
  | 0 => []
  | n + 1 => pE J b n ++ [⟨.fix, 39, 0, 0, wC J b n⟩, ⟨.grow, 3, 1, 1, nl (ndL n)⟩]
theorem pE_len (J : List Int) (b : Nat) : ∀ n, (pE J b n).length = 2 * n
  | 0 => rfl
  | n + 1 => by simp only [pE, List.length_append, pE_len J b n, List.length_cons, List.length_nil]; omega
theorem pE_get (J : List Int) (b : Nat) : ∀ {n i : Nat}, i < n → (pE J b n)[2 * i + 1]? = some ⟨.grow, 3, 1, 1, nl (ndL i)⟩
  | n + 1, i, h => by
    have hl := pE_len J b n
    simp only [pE]
    rcases Nat.lt_or_ge i n with hi | hi
    · rw [List.getElem?_append_left (by omega)]; exact pE_get J b hi
    · obtain rfl : i = n := by omega
      rw [List.getElem?_append_right (by omega), hl, show 2 * i + 1 - 2 * i = 1 by omega]; rfl
theorem pR_below {L K : Nat} : ∀ n, L + 1 + 2 * n ≤ K → (pR L n).all (CV.below K) = true
  | 0, _ => rfl
  | n + 1, h => by
    simp only [pR, List.all_append, pR_below (L := L) (K := K) n (by omega), List.all_cons, List.all_nil, CV.below, Bool.and_true, Bool.true_and, decide_eq_true_eq]; omega
theorem pE_wf {J : List Int} {b K : Nat} : ∀ n, (∀ i, i < n → i % 4 ≠ 0 → b + rwN i < K) → MWf K (pE J b n)
  | 0, _ => MWf_nil
  | n + 1, h => by
    refine MWf.app (pE_wf n fun i hi => h i (by omega)) (MWf_cons ?_ (MWf_one (nl_below _ _)))
    have h2 : (ndC b n).below K = true := by
      unfold ndC
      split
      · rfl
      · rename_i h3
        have := h n (by omega) h3
        simpa [CV.below] using this
    simp only [wC, List.all_cons, List.all_append, u8l_below, h2, List.all_nil]; rfl
theorem plan_wf (J : List Int) (b n : Nat) (M : AMem) (v : Nat) (hm : MWf M.length M) (h : ∀ i, i < n → i % 4 ≠ 0 → b + rwN i < M.length) : MWf (M ++ (⟨.grow, 37, v, 1, pR M.length n⟩ :: pE J b n)).length (M ++ (⟨.grow, 37, v, 1, pR M.length n⟩ :: pE J b n)) := by
  have hl := pE_len J b n
  refine MWf.app (hm.grow (by simp)) (MWf_cons (pR_below n ?_) (pE_wf n fun i hi h3 => ?_))
  · simp only [List.length_append, List.length_cons, hl]; omega
  · have := h i hi h3
    simp only [List.length_append, List.length_cons]; omega
theorem ndL_len (i : Nat) : (ndL i).length ≤ 3 := by unfold ndL; split <;> (try split) <;> (try split) <;> simp
theorem ndL_nil {i : Nat} (h : i % 4 = 0) : ndL i = [] := by unfold ndL; rw [if_pos h]
theorem plan_c (J : List Int) (b n wr : Nat) (M : AMem) (hW : M[wr]? = some ⟨.grow, 39, n, 35, wR J b n⟩) (hrows : ∀ i, i < n → i % 4 ≠ 0 → M[b + rwN i]? = some ⟨.grow, 3, 0, 1, nl (ndL i)⟩) (hbl : ∀ i, i < n → i % 4 ≠ 0 → b + rwN i < M.length) (hn : n ≤ 1000) : Ctr Try.prog 8 [.one (.sl wr n 0 n)] M (.one (.sl M.length n 0 n)) (M ++ (⟨.grow, 37, n, 1, pR M.length (n)⟩ :: pE J b n)) := by
  refine Ctr.enter Try.func8 rfl (by decide) (rs := [.tmp 2]) (nt := 22) rfl rfl fun hwf Q hQ => ?_
  have gW := hW
  have hwr := get_lt hW
  have hwfp := fun k hk => plan_wf J b k M k hwf fun i hi h => hbl i (Nat.lt_of_lt_of_le hi hk) h
  have hwl := wR_len J b n
  iterate 2
    refine AW.seq_k fun K hK => ?_
    refine AW.region (by decide) ?_
    simp only [push_cast, simprocAttr, gW, lk_old gW, hwl]
    refine Thn_n ?_
    refine hK _ _ ?_
    clear hK K
  refine AW.seq_k fun K hK => ?_
  refine AW.seq_k fun K hK => ?_
  refine AW.region (by decide) ?_
  simp only [push_cast, simprocAttr, gW, lk_old gW, hwl]
  refine Thn_n ?_
  refine hK _ _ ?_
  clear hK K
  refine AW.block ?_
  refine AW.loopE0 [7, 8] (fun i => i ≤ n) (fun i => [(3, .one (.sl M.length i 0 i)), (9, .one (.int .i64 (i : Int)))]) (fun i => [(M.length, ⟨.grow, 37, i, 1, pR M.length (i)⟩)]) (fun i => pE J b i) (fun i => n - i) 0 (by omega) ?_ ?_ ?_ fun i hi5 => ?_
  · first | rfl | (simp only [Keeps, Tm.get_cons, Nat.reduceEqDiff, ↓reduceIte, if_true, if_false, ite_true, ite_false, true_and, and_true, and_self, reduceCtorEq, pR, pE, Int.natCast_zero] <;> rfl)
  · first | rfl | (simp only [setAll, push_cast, simprocAttr, gW, lk_old gW, hwl, pR, pE, Int.natCast_zero] <;> rfl)
  · exact fun i j _ _ h => by simp only [pE_len]; omega
  try simp only [keepL, setAll, push_cast, simprocAttr, gW, lk_old gW, hwl]
  refine AW.seq_k fun K hK => ?_
  refine AW.region (by decide) ?_
  simp only [push_cast, simprocAttr, gW, lk_old gW, hwl]
  refine Thn_n ?_
  refine hK _ _ ?_
  clear hK K
  refine AW.seq_k fun K hK => ?_
  refine AW.cond rfl (fun h10 => ?_) (fun h10 => ?_)
  · have hlt : i < n := by have := of_decide_eq_true h10; omega
    have c1 : (0 : Int) ≤ (i : Int) := by omega
    have c2 : (i : Int) < (n : Int) := by omega
    have c3 : i * 35 + 35 ≤ n * 35 := by omega
    have hwa := wR_at J b n i hlt
    rw [show 35 * i = i * 35 from Nat.mul_comm _ _] at hwa
    have hcl := wC_len J b i
    have q3 : 35 * n = n * 35 := Nat.mul_comm _ _
    have hct : (wC J b i).take 35 = wC J b i := List.take_of_length_le (by rw [hcl]; exact Nat.le_refl _)
    have hcs : setL [.int .i64 0, .int .i64 0, .int .u8 0, .int .u8 0, .int .u8 0, .int .u8 0, .int .u8 0, .int .u8 0, .int .u8 0, .int .u8 0, .int .u8 0, .int .u8 0, .int .u8 0, .int .u8 0, .int .u8 0, .int .u8 0, .int .u8 0, .int .u8 0, .int .u8 0, .int .u8 0, .int .u8 0, .int .u8 0, .int .u8 0, .int .u8 0, .int .u8 0, .int .u8 0, .int .u8 0, .int .u8 0, .int .u8 0, .int .u8 0, .int .u8 0, .int .u8 0, .int .u8 0, .int .u8 0, .nils] 0 (wC J b i) = wC J b i := setL_full (by rw [hcl]; rfl)
    dsimp only at hcs
    have hcv : (wC J b i).all CV.isVal = true := wC_vals _ _ _
    have hc34 : (wC J b i)[34]? = some (ndC b i) := by
      have hl : (u8l (ky J i)).length = 32 := by rw [u8l_len, ky_len]
      simp only [wC, List.getElem?_cons_succ]
      rw [List.getElem?_append_right (by omega), hl]; rfl
    have hpl := pE_len J b i
    have hpR : pR M.length (i + 1) = pR M.length i ++ [.sl (M.length + (2 * i + 2)) 1 0 (ndL i).length] := rfl
    have hpE : pE J b (i + 1) = pE J b i ++ [⟨.fix, 39, 0, 0, wC J b i⟩, ⟨.grow, 3, 1, 1, nl (ndL i)⟩] := rfl
    have hpr := pR_len M.length i
    have hn3 := ndL_len i
    have hnl := nl_len (ndL i)
    have hnv := nl_vals (ndL i)
    have hnt : (nl (ndL i)).take (ndL i).length = nl (ndL i) := List.take_of_length_le (by rw [hnl]; exact Nat.le_refl _)
    have c5 : (ndL i).length ≤ 140737488355328 := by omega
    have c6 : (ndL i).length * 8 ≤ 140737488355328 := by omega
    have q1 : i + 1 ≤ 140737488355328 := by omega
    have q2 : (i + 1) * 24 ≤ 140737488355328 := by omega
    have hg0 : ∀ (x : Blk) (l : AMem), (pE J b i ++ x :: l)[2 * i]? = some x := fun x l => by rw [List.getElem?_append_right (by omega), hpl, Nat.sub_self]; rfl
    have hs0 : ∀ (x : Blk) (l : AMem) (y : Blk), (pE J b i ++ x :: l).set (2 * i) y = pE J b i ++ y :: l := fun x l y => by rw [List.set_append_right _ _ (by omega), hpl, Nat.sub_self]; rfl
    have hg1 : ∀ (x z : Blk) (l : AMem), (pE J b i ++ x :: z :: l)[2 * i + 1]? = some z := fun x z l => by rw [List.getElem?_append_right (by omega), hpl, Nat.add_sub_cancel_left]; rfl
    have hs1 : ∀ (x z : Blk) (l : AMem) (y : Blk), (pE J b i ++ x :: z :: l).set (2 * i + 1) y = pE J b i ++ x :: y :: l := fun x z l y => by rw [List.set_append_right _ _ (by omega), hpl, Nat.add_sub_cancel_left]; rfl
    have hg2 : ∀ (x z w : Blk) (l : AMem), (pE J b i ++ x :: z :: w :: l)[2 * i + 2]? = some w := fun x z w l => by rw [List.getElem?_append_right (by omega), hpl, Nat.add_sub_cancel_left]; rfl
    refine AW.skip ?_
    refine Thn_n ?_
    refine hK _ _ ?_
    clear hK K
    refine AW.seq_k fun K hK => ?_
    refine AW.block ?_
    refine AW.seq_k fun K hK => ?_
    refine AW.region (by decide) ?_
    simp only [push_cast, simprocAttr, gW, lk_old gW, hwl, hnt, c5, c6, q1, q2, hg0, hs0, hg1, hs1, hg2, c1, c2, c3, hwa, hcl, hct, hcs, hcv, hpl, hpr, hnl, hnv, q3]
    refine Thn_n ?_
    refine hK _ _ ?_
    clear hK K
    rcases Nat.eq_zero_or_pos (i % 4) with hz | hz
    · have hnd : ndC b i = .nils := by unfold ndC; rw [if_pos hz]
      have hnq := ndL_nil hz
      have hn0 : nl [] = [] := rfl
      have gr := hrows
      rw [hnd] at hc34
      refine AW.region (by decide) ?_
      simp only [push_cast, simprocAttr, gW, lk_old gW, hwl, hnt, c5, c6, q1, q2, hg0, hs0, hg1, hs1, hg2, c1, c2, c3, hwa, hcl, hct, hcs, hcv, hpl, hpr, hnl, hnv, q3, hc34, hnq, hn0]
      refine InB_n ?_
      refine Thn_n ?_
      refine hK _ _ ?_
      clear hK K
      refine AW.region (by decide) ?_
      simp only [push_cast, simprocAttr, gW, lk_old gW, hwl, hnt, c5, c6, q1, q2, hg0, hs0, hg1, hs1, hg2, c1, c2, c3, hwa, hcl, hct, hcs, hcv, hpl, hpr, hnl, hnv, q3, hc34, hnq, hn0]
      refine Thn_n ?_
      have hwi : IntKind.i64.wrap ((i:Int)+1) = (i:Int)+1 := by rw [IntKind.wrap_i64]; omega
      refine ⟨i + 1, hlt, by omega, ?_⟩
      try simp only [keepL, setAll, push_cast, simprocAttr, gW, lk_old gW, hwl, hnt, c5, c6, q1, q2, hg0, hs0, hg1, hs1, hg2, c1, c2, c3, hwa, hcl, hct, hcs, hcv, hpl, hpr, hnl, hnv, q3, hc34, hnq, hn0, hwi, hpE, hpR, List.append_assoc]
      exact Weak.to (extra := [_]) (by simp only [Keeps, Tm.get_cons, Nat.reduceEqDiff, ↓reduceIte, if_true, if_false, ite_true, ite_false, true_and, and_true, and_self, reduceCtorEq, hwi, hpE, hpR, List.append_assoc]) (by first | rfl | (simp only [List.append_assoc, List.cons_append, List.nil_append]; rfl)) (by first | rfl | (simp [AV.below, CV.below, nl_below]; done) | (simp [AV.below, CV.below, nl_below]; omega)) (by have h := hwfp (i + 1) hlt; simp only [push_cast, simprocAttr, hpE, hpR, hnq, hn0, List.append_assoc] at h ⊢; exact h)
    · have hnd : ndC b i = .sl (b + rwN i) 0 0 (ndL i).length := by unfold ndC; rw [if_neg (by omega)]
      have hnq : True := trivial
      have hn0 : True := trivial
      have gr := hrows i hlt (by omega)
      rw [hnd] at hc34
      refine AW.region (by decide) ?_
      simp only [push_cast, simprocAttr, gW, lk_old gW, hwl, hnt, c5, c6, q1, q2, hg0, hs0, hg1, hs1, hg2, c1, c2, c3, hwa, hcl, hct, hcs, hcv, hpl, hpr, hnl, hnv, q3, hc34, gr, lk_old gr]
      refine InB_n ?_
      refine Thn_n ?_
      refine hK _ _ ?_
      clear hK K
      refine AW.region (by decide) ?_
      simp only [push_cast, simprocAttr, gW, lk_old gW, hwl, hnt, c5, c6, q1, q2, hg0, hs0, hg1, hs1, hg2, c1, c2, c3, hwa, hcl, hct, hcs, hcv, hpl, hpr, hnl, hnv, q3, hc34, gr, lk_old gr]
      refine Thn_n ?_
      have hwi : IntKind.i64.wrap ((i:Int)+1) = (i:Int)+1 := by rw [IntKind.wrap_i64]; omega
      refine ⟨i + 1, hlt, by omega, ?_⟩
      try simp only [keepL, setAll, push_cast, simprocAttr, gW, lk_old gW, hwl, hnt, c5, c6, q1, q2, hg0, hs0, hg1, hs1, hg2, c1, c2, c3, hwa, hcl, hct, hcs, hcv, hpl, hpr, hnl, hnv, q3, hc34, gr, lk_old gr, hwi, hpE, hpR, List.append_assoc]
      exact Weak.to (extra := [_]) (by simp only [Keeps, Tm.get_cons, Nat.reduceEqDiff, ↓reduceIte, if_true, if_false, ite_true, ite_false, true_and, and_true, and_self, reduceCtorEq, hwi, hpE, hpR, List.append_assoc]) (by first | rfl | (simp only [List.append_assoc, List.cons_append, List.nil_append]; rfl)) (by first | rfl | (simp [AV.below, CV.below, nl_below]; done) | (simp [AV.below, CV.below, nl_below]; omega)) (by have h := hwfp (i + 1) hlt; simp only [push_cast, simprocAttr, hpE, hpR, hnq, hn0, List.append_assoc] at h ⊢; exact h)
  · have hie : i = n := by have := of_decide_eq_false h10; omega
    subst hie
    refine AW.exit ?_
    refine Thn_e ?_
    clear hK K
    refine Thn_e ?_
    refine InB_here ?_
    refine Thn_n ?_
    refine hK _ _ ?_
    clear hK K
    refine AW.seq_k fun K hK => ?_
    refine AW.region (by decide) ?_
    simp only [push_cast, simprocAttr, gW, lk_old gW, hwl]
    refine Thn_n ?_
    refine hK _ _ ?_
    clear hK K
    refine AW.ret ?_
    refine hQ _ _ _ ?_
    refine ⟨Or.inr rfl, _, ?_, Hands.all⟩
    simp only [resA, resOne, resTv, AV.tv, push_cast, simprocAttr]
end Go.Proofs.Ytmjbbnfmhgcfaaa
