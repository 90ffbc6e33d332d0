/- Walks and facts of this seat's program over abstract states, printed by programs of mine; no conditions but those that each theorem names. -/
import Derived.Test.YtmjbbnfmhgcfaaaDoorM4
set_option linter.unusedSimpArgs false
set_option linter.unusedVariables false
set_option maxRecDepth 100000
set_option maxHeartbeats 4000000
namespace Go.Proofs.YtmjbbnfmhgcfaaaDoor
open Go Go.Eng

theorem rof_c (rb v off : Nat) (bs X : List Int) (m : AMem) (hb : ∃ k ty ez, m[rb]? = some ⟨k, ty, v, ez, u8l X⟩) (hf : off + bs.length ≤ X.length) (hx : (X.drop off).take bs.length = bs) (hu : U8ok bs) (hl : bs.length ≤ 1000000) : Ctr Tryd.prog 19 [.agg (ul (HLL ++ KW)), .one (.sl rb v off bs.length)] m (.agg (u8l (shaL bs))) m := by
  refine Ctr.enter Tryd.func19 rfl (by decide) (rs := [.cell 4 26]) (nt := 283) rfl rfl fun hwf Q hQ => ?_
  obtain ⟨k0, ty0, ez, hb⟩ := hb
  have lb := get_lt hb
  have ha1 : ((u8l X).drop off).take bs.length = u8l bs := by rw [u8l_drop, u8l_take, hx]
  have ha2 := u8l_vals bs
  have ha3 := u8l_len bs
  have ha4 : bs.length ≤ 140737488355328 := by omega
  have ha5 : bs.length + 1 ≤ 140737488355328 := by omega
  have hz0 := padL_zero bs
  have hpo := padz_ok bs.length
  have hpl0 : (padL bs 0).length = bs.length + 1 := padL_len bs 0
  have hw1 : IntKind.u64.wrap (bs.length : Int) = (bs.length : Int) := by rw [IntKind.wrap_u64]; omega
  have hvl : (ul (HLL ++ KW)).length = 72 := rfl
  have hvv := ul_vals (HLL ++ KW)
  have g0 : (ul (HLL ++ KW))[0]? = some (.int .u32 1779033703) := rfl
  have g1 : (ul (HLL ++ KW))[1]? = some (.int .u32 3144134277) := rfl
  have g2 : (ul (HLL ++ KW))[2]? = some (.int .u32 1013904242) := rfl
  have g3 : (ul (HLL ++ KW))[3]? = some (.int .u32 2773480762) := rfl
  have g4 : (ul (HLL ++ KW))[4]? = some (.int .u32 1359893119) := rfl
  have g5 : (ul (HLL ++ KW))[5]? = some (.int .u32 2600822924) := rfl
  have g6 : (ul (HLL ++ KW))[6]? = some (.int .u32 528734635) := rfl
  have g7 : (ul (HLL ++ KW))[7]? = some (.int .u32 1541459225) := rfl
  have hk0 : (ul (HLL ++ KW)).take 8 = [.int .u32 1779033703, .int .u32 3144134277, .int .u32 1013904242, .int .u32 2773480762, .int .u32 1359893119, .int .u32 2600822924, .int .u32 528734635, .int .u32 1541459225] := rfl
  
  iterate 2
    refine AW.seq_k fun K hK => ?_
    refine AW.region (by decide) ?_
    simp only [push_cast, Nat.reduceAdd, Nat.reduceMul, Nat.reduceSub, Nat.reduceLeDiff, Nat.reduceLT, Nat.reduceEqDiff, Nat.reduceBEq, Nat.reduceBNe, Nat.reduceMod, Nat.reduceDiv, Int.reduceLE, Int.reduceLT, Int.reduceToNat, Int.reduceAdd, Int.reduceSub, Int.reduceMul, Int.reduceNeg, Int.reduceEq, Int.reduceBEq, Int.reduceBNe, ↓reduceIte, reduceCtorEq, String.reduceBNe, String.reduceEq, reduceDIte, Nat.reducePow, hb, lk_old hb, ha1, ha2, ha3, ha4, ha5, hz0, hk0, hw1, hvl, hvv, g0, g1, g2, g3, g4, g5, g6, g7, u8l_len, ul_len, u8lset, hf, Int.le_refl, Nat.le_refl]
    refine Thn_n ?_
    refine hK _ _ ?_
    clear hK K
  refine AW.seq_k fun K hK => ?_
  refine AW.block ?_
  refine AW.loopK [1, 2, 4] (fun j => j ≤ padz bs.length) (fun j => [(5, .one (.sl (m.length + 2) (2 + j) 0 (padL bs j).length))]) (fun j => [(m.length + 2, ⟨.grow, 5, 2 + j, 1, u8l (padL bs j)⟩)]) (fun j => padz bs.length - j) 0 (by omega) ?_ ?_ fun j hi4 => ?_
  · first | rfl | (simp only [Keeps, Tm.get_cons, Nat.reduceEqDiff, ↓reduceIte, if_true, if_false, ite_true, ite_false, true_and, and_true, and_self, reduceCtorEq, hpl0] <;> rfl)
  · first | rfl | (simp only [setAll, push_cast, Nat.reduceAdd, Nat.reduceMul, Nat.reduceSub, Nat.reduceLeDiff, Nat.reduceLT, Nat.reduceEqDiff, Nat.reduceBEq, Nat.reduceBNe, Nat.reduceMod, Nat.reduceDiv, Int.reduceLE, Int.reduceLT, Int.reduceToNat, Int.reduceAdd, Int.reduceSub, Int.reduceMul, Int.reduceNeg, Int.reduceEq, Int.reduceBEq, Int.reduceBNe, ↓reduceIte, reduceCtorEq, String.reduceBNe, String.reduceEq, reduceDIte, Nat.reducePow, hb, lk_old hb, ha1, ha2, ha3, ha4, ha5, hz0, hk0, hw1, hvl, hvv, g0, g1, g2, g3, g4, g5, g6, g7, u8l_len, ul_len, u8lset, hf, Int.le_refl, Nat.le_refl, hpl0] <;> rfl)
  have hi : j ≤ padz bs.length := hi4
  have hpz := padz_le bs.length
  have hpl := padL_len bs j
  have hpl2 : (padL bs (j + 1)).length = (padL bs j).length + 1 := by rw [padL_len, padL_len]; omega
  have hsn := padL_succ bs j
  have hpm : (((padL bs j).length : Nat) : Int).tmod 64 = (((padL bs j).length % 64 : Nat) : Int) := rfl
  have q3 : (padL bs j).length ≤ 140737488355328 := by omega
  have q4 : (padL bs j).length + 1 ≤ 140737488355328 := by omega
  try simp only [keepL, setAll, push_cast, Nat.reduceAdd, Nat.reduceMul, Nat.reduceSub, Nat.reduceLeDiff, Nat.reduceLT, Nat.reduceEqDiff, Nat.reduceBEq, Nat.reduceBNe, Nat.reduceMod, Nat.reduceDiv, Int.reduceLE, Int.reduceLT, Int.reduceToNat, Int.reduceAdd, Int.reduceSub, Int.reduceMul, Int.reduceNeg, Int.reduceEq, Int.reduceBEq, Int.reduceBNe, ↓reduceIte, reduceCtorEq, String.reduceBNe, String.reduceEq, reduceDIte, Nat.reducePow, hb, lk_old hb, ha1, ha2, ha3, ha4, ha5, hz0, hk0, hw1, hvl, hvv, g0, g1, g2, g3, g4, g5, g6, g7, u8l_len, ul_len, u8lset, hf, Int.le_refl, Nat.le_refl]
  refine AW.seq_k fun K hK => ?_
  refine AW.seq_k fun K hK => ?_
  refine AW.region (by decide) ?_
  simp only [push_cast, Nat.reduceAdd, Nat.reduceMul, Nat.reduceSub, Nat.reduceLeDiff, Nat.reduceLT, Nat.reduceEqDiff, Nat.reduceBEq, Nat.reduceBNe, Nat.reduceMod, Nat.reduceDiv, Int.reduceLE, Int.reduceLT, Int.reduceToNat, Int.reduceAdd, Int.reduceSub, Int.reduceMul, Int.reduceNeg, Int.reduceEq, Int.reduceBEq, Int.reduceBNe, ↓reduceIte, reduceCtorEq, String.reduceBNe, String.reduceEq, reduceDIte, Nat.reducePow, hb, lk_old hb, ha1, ha2, ha3, ha4, ha5, hz0, hk0, hw1, hvl, hvv, g0, g1, g2, g3, g4, g5, g6, g7, u8l_len, ul_len, u8lset, hf, Int.le_refl, Nat.le_refl]
  refine Thn_n ?_
  refine hK _ _ ?_
  clear hK K
  refine AW.cond rfl (fun h32 => ?_) (fun h32 => ?_)
  · have hlt : j < padz bs.length := by
      have h1 : (padL bs j).length % 64 ≠ 56 := fun e => by
        rw [hpm, e] at h32; exact absurd h32 (by decide)
      have : j ≠ padz bs.length := fun e => by subst e; exact h1 (by rw [hpl]; exact hpo)
      omega
    refine AW.skip ?_
    refine Thn_n ?_
    refine hK _ _ ?_
    clear hK K
    refine AW.block ?_
    refine AW.region (by decide) ?_
    simp only [push_cast, Nat.reduceAdd, Nat.reduceMul, Nat.reduceSub, Nat.reduceLeDiff, Nat.reduceLT, Nat.reduceEqDiff, Nat.reduceBEq, Nat.reduceBNe, Nat.reduceMod, Nat.reduceDiv, Int.reduceLE, Int.reduceLT, Int.reduceToNat, Int.reduceAdd, Int.reduceSub, Int.reduceMul, Int.reduceNeg, Int.reduceEq, Int.reduceBEq, Int.reduceBNe, ↓reduceIte, reduceCtorEq, String.reduceBNe, String.reduceEq, reduceDIte, Nat.reducePow, hb, lk_old hb, ha1, ha2, ha3, ha4, ha5, hz0, hk0, hw1, hvl, hvv, g0, g1, g2, g3, g4, g5, g6, g7, u8l_len, ul_len, u8lset, hf, Int.le_refl, Nat.le_refl, hsn, q3, q4]
    refine InB_n ?_
    refine Thn_n ?_
    refine ⟨j + 1, hlt, by omega, ?_⟩
    try simp only [keepL, setAll, push_cast, Nat.reduceAdd, Nat.reduceMul, Nat.reduceSub, Nat.reduceLeDiff, Nat.reduceLT, Nat.reduceEqDiff, Nat.reduceBEq, Nat.reduceBNe, Nat.reduceMod, Nat.reduceDiv, Int.reduceLE, Int.reduceLT, Int.reduceToNat, Int.reduceAdd, Int.reduceSub, Int.reduceMul, Int.reduceNeg, Int.reduceEq, Int.reduceBEq, Int.reduceBNe, ↓reduceIte, reduceCtorEq, String.reduceBNe, String.reduceEq, reduceDIte, Nat.reducePow, hb, lk_old hb, ha1, ha2, ha3, ha4, ha5, hz0, hk0, hw1, hvl, hvv, g0, g1, g2, g3, g4, g5, g6, g7, u8l_len, ul_len, u8lset, hf, Int.le_refl, Nat.le_refl, hsn, q3, q4, hpl2]
    exact Weak.to (extra := [_]) (by simp only [Keeps, Tm.get_cons, Nat.reduceEqDiff, ↓reduceIte, if_true, if_false, ite_true, ite_false, true_and, and_true, and_self, reduceCtorEq, hpl2]) (by first | rfl | (simp only [List.append_assoc, List.cons_append, List.nil_append]; rfl)) (by first | rfl | (simp [AV.below, CV.below, u8l_below, ul_below]; done) | (simp [AV.below, CV.below, u8l_below, ul_below]; omega)) (by
      first | exact hwf | refine MWf.app (hwf.grow (by simp)) ?_
      repeat (first | exact MWf_nil | (refine MWf_cons ?_ ?_; · first | rfl | (simp [CV.below, u8l_below, ul_below]; done) | (simp [CV.below, u8l_below, ul_below]; omega))))
  · have hje : j = padz bs.length := by
      refine padz_eq hi (Decidable.byContradiction fun h1 => ?_)
      rw [← hpl] at h1; rw [hpm] at h32
      simp at h32; omega
    subst hje
    have hr0 : refL bs 0 = padL bs (padz bs.length) := List.append_nil _
    refine AW.exit ?_
    refine Thn_e ?_
    clear hK K
    refine Thn_e ?_
    refine InB_here ?_
    refine Thn_n ?_
    refine hK _ _ ?_
    clear hK K
    refine AW.seq_k fun K hK => ?_
    refine AW.region (by decide) ?_
    simp only [push_cast, Nat.reduceAdd, Nat.reduceMul, Nat.reduceSub, Nat.reduceLeDiff, Nat.reduceLT, Nat.reduceEqDiff, Nat.reduceBEq, Nat.reduceBNe, Nat.reduceMod, Nat.reduceDiv, Int.reduceLE, Int.reduceLT, Int.reduceToNat, Int.reduceAdd, Int.reduceSub, Int.reduceMul, Int.reduceNeg, Int.reduceEq, Int.reduceBEq, Int.reduceBNe, ↓reduceIte, reduceCtorEq, String.reduceBNe, String.reduceEq, reduceDIte, Nat.reducePow, hb, lk_old hb, ha1, ha2, ha3, ha4, ha5, hz0, hk0, hw1, hvl, hvv, g0, g1, g2, g3, g4, g5, g6, g7, u8l_len, ul_len, u8lset, hf, Int.le_refl, Nat.le_refl, q3]
    refine Thn_n ?_
    refine hK _ _ ?_
    clear hK K
    refine AW.seq_k fun K hK => ?_
    refine AW.seq_k fun K hK => ?_
    refine AW.region (by decide) ?_
    simp only [push_cast, Nat.reduceAdd, Nat.reduceMul, Nat.reduceSub, Nat.reduceLeDiff, Nat.reduceLT, Nat.reduceEqDiff, Nat.reduceBEq, Nat.reduceBNe, Nat.reduceMod, Nat.reduceDiv, Int.reduceLE, Int.reduceLT, Int.reduceToNat, Int.reduceAdd, Int.reduceSub, Int.reduceMul, Int.reduceNeg, Int.reduceEq, Int.reduceBEq, Int.reduceBNe, ↓reduceIte, reduceCtorEq, String.reduceBNe, String.reduceEq, reduceDIte, Nat.reducePow, hb, lk_old hb, ha1, ha2, ha3, ha4, ha5, hz0, hk0, hw1, hvl, hvv, g0, g1, g2, g3, g4, g5, g6, g7, u8l_len, ul_len, u8lset, hf, Int.le_refl, Nat.le_refl, q3]
    refine Thn_n ?_
    refine hK _ _ ?_
    clear hK K
    refine AW.block ?_
    refine AW.loopK [2, 4, 6] (fun k => k ≤ (8 : Nat)) (fun k => [(5, .one (.sl (m.length + 2) (2 + (padz bs.length + k)) 0 (refL bs k).length)), (7, .one (.int .i64 (7 - (k : Int))))]) (fun k => [(m.length + 2, ⟨.grow, 5, 2 + (padz bs.length + k), 1, u8l (refL bs k)⟩)]) (fun k => 8 - k) 0 (by omega) ?_ ?_ fun k hi10 => ?_
    · first | rfl | (simp only [Keeps, Tm.get_cons, Nat.reduceEqDiff, ↓reduceIte, if_true, if_false, ite_true, ite_false, true_and, and_true, and_self, reduceCtorEq, hr0, Int.natCast_zero, Int.sub_zero] <;> rfl)
    · first | rfl | (simp only [setAll, push_cast, Nat.reduceAdd, Nat.reduceMul, Nat.reduceSub, Nat.reduceLeDiff, Nat.reduceLT, Nat.reduceEqDiff, Nat.reduceBEq, Nat.reduceBNe, Nat.reduceMod, Nat.reduceDiv, Int.reduceLE, Int.reduceLT, Int.reduceToNat, Int.reduceAdd, Int.reduceSub, Int.reduceMul, Int.reduceNeg, Int.reduceEq, Int.reduceBEq, Int.reduceBNe, ↓reduceIte, reduceCtorEq, String.reduceBNe, String.reduceEq, reduceDIte, Nat.reducePow, hb, lk_old hb, ha1, ha2, ha3, ha4, ha5, hz0, hk0, hw1, hvl, hvv, g0, g1, g2, g3, g4, g5, g6, g7, u8l_len, ul_len, u8lset, hf, Int.le_refl, Nat.le_refl, q3, hr0, Int.natCast_zero, Int.sub_zero] <;> rfl)
    have hk8 : k ≤ 8 := hi10
    have hrl := refL_len bs k
    have hrl2 : (refL bs (k + 1)).length = (refL bs k).length + 1 := by rw [refL_len, refL_len]; omega
    have hsn := refL_succ bs k
    have hpz := padz_le bs.length
    have q5 : (refL bs k).length + 1 ≤ 140737488355328 := by omega
    try simp only [keepL, setAll, push_cast, Nat.reduceAdd, Nat.reduceMul, Nat.reduceSub, Nat.reduceLeDiff, Nat.reduceLT, Nat.reduceEqDiff, Nat.reduceBEq, Nat.reduceBNe, Nat.reduceMod, Nat.reduceDiv, Int.reduceLE, Int.reduceLT, Int.reduceToNat, Int.reduceAdd, Int.reduceSub, Int.reduceMul, Int.reduceNeg, Int.reduceEq, Int.reduceBEq, Int.reduceBNe, ↓reduceIte, reduceCtorEq, String.reduceBNe, String.reduceEq, reduceDIte, Nat.reducePow, hb, lk_old hb, ha1, ha2, ha3, ha4, ha5, hz0, hk0, hw1, hvl, hvv, g0, g1, g2, g3, g4, g5, g6, g7, u8l_len, ul_len, u8lset, hf, Int.le_refl, Nat.le_refl, q3]
    refine AW.seq_k fun K hK => ?_
    refine AW.seq_k fun K hK => ?_
    refine AW.region (by decide) ?_
    simp only [push_cast, Nat.reduceAdd, Nat.reduceMul, Nat.reduceSub, Nat.reduceLeDiff, Nat.reduceLT, Nat.reduceEqDiff, Nat.reduceBEq, Nat.reduceBNe, Nat.reduceMod, Nat.reduceDiv, Int.reduceLE, Int.reduceLT, Int.reduceToNat, Int.reduceAdd, Int.reduceSub, Int.reduceMul, Int.reduceNeg, Int.reduceEq, Int.reduceBEq, Int.reduceBNe, ↓reduceIte, reduceCtorEq, String.reduceBNe, String.reduceEq, reduceDIte, Nat.reducePow, hb, lk_old hb, ha1, ha2, ha3, ha4, ha5, hz0, hk0, hw1, hvl, hvv, g0, g1, g2, g3, g4, g5, g6, g7, u8l_len, ul_len, u8lset, hf, Int.le_refl, Nat.le_refl, q3]
    refine Thn_n ?_
    refine hK _ _ ?_
    clear hK K
    refine AW.cond rfl (fun h41 => ?_) (fun h41 => ?_)
    · have hltk : k < 8 := by have := of_decide_eq_true h41; omega
      have s1 : IntKind.u64.wrap (7 - (k : Int)) = ((7 - k : Nat) : Int) := by rw [IntKind.wrap_u64]; omega
      have s2 : IntKind.u64.wrap (8 * ((7 - k : Nat) : Int)) = ((8 * (7 - k) : Nat) : Int) := by rw [IntKind.wrap_u64]; omega
      have s3 : ¬ ((8 * (7 - k) : Nat) : Int) < 0 := by omega
      have s4 : ((8 * (7 - k) : Nat) : Int).toNat = 8 * (7 - k) := Int.toNat_natCast _
      have s5 : (2 : Int) ^ min (8 * (7 - k)) IntKind.u64.bits = 2 ^ (8 * (7 - k)) := by rw [show IntKind.u64.bits = 64 from rfl, Nat.min_eq_left (by omega)]
      have s6 : IntKind.u8.wrap ((IntKind.u64.wrap ((bs.length : Int) * 8)).fdiv (2 ^ (8 * (7 - k)))) = byK (IntKind.u64.wrap ((bs.length : Int) * 8)) k := rfl
      generalize hsh : 8 * (7 - k) = sh at s2 s3 s4 s5 s6
      generalize hsv : 7 - k = sv at s1 s2
      refine AW.skip ?_
      refine Thn_n ?_
      refine hK _ _ ?_
      clear hK K
      refine AW.seq_k fun K hK => ?_
      refine AW.block ?_
      refine AW.region (by decide) ?_
      simp only [push_cast, Nat.reduceAdd, Nat.reduceMul, Nat.reduceSub, Nat.reduceLeDiff, Nat.reduceLT, Nat.reduceEqDiff, Nat.reduceBEq, Nat.reduceBNe, Nat.reduceMod, Nat.reduceDiv, Int.reduceLE, Int.reduceLT, Int.reduceToNat, Int.reduceAdd, Int.reduceSub, Int.reduceMul, Int.reduceNeg, Int.reduceEq, Int.reduceBEq, Int.reduceBNe, ↓reduceIte, reduceCtorEq, String.reduceBNe, String.reduceEq, reduceDIte, Nat.reducePow, hb, lk_old hb, ha1, ha2, ha3, ha4, ha5, hz0, hk0, hw1, hvl, hvv, g0, g1, g2, g3, g4, g5, g6, g7, u8l_len, ul_len, u8lset, hf, Int.le_refl, Nat.le_refl, q3, s1, s2, s3, s4, s5, s6, q5, hsn]
      refine InB_n ?_
      refine Thn_n ?_
      refine hK _ _ ?_
      clear hK K
      refine AW.region (by decide) ?_
      simp only [push_cast, Nat.reduceAdd, Nat.reduceMul, Nat.reduceSub, Nat.reduceLeDiff, Nat.reduceLT, Nat.reduceEqDiff, Nat.reduceBEq, Nat.reduceBNe, Nat.reduceMod, Nat.reduceDiv, Int.reduceLE, Int.reduceLT, Int.reduceToNat, Int.reduceAdd, Int.reduceSub, Int.reduceMul, Int.reduceNeg, Int.reduceEq, Int.reduceBEq, Int.reduceBNe, ↓reduceIte, reduceCtorEq, String.reduceBNe, String.reduceEq, reduceDIte, Nat.reducePow, hb, lk_old hb, ha1, ha2, ha3, ha4, ha5, hz0, hk0, hw1, hvl, hvv, g0, g1, g2, g3, g4, g5, g6, g7, u8l_len, ul_len, u8lset, hf, Int.le_refl, Nat.le_refl, q3, s1, s2, s3, s4, s5, s6, q5, hsn]
      refine Thn_n ?_
      have hwk : IntKind.i64.wrap (7 - (k : Int) - 1) = 7 - ((k : Int) + 1) := by rw [IntKind.wrap_i64]; omega
      refine ⟨k + 1, hltk, by omega, ?_⟩
      try simp only [keepL, setAll, push_cast, Nat.reduceAdd, Nat.reduceMul, Nat.reduceSub, Nat.reduceLeDiff, Nat.reduceLT, Nat.reduceEqDiff, Nat.reduceBEq, Nat.reduceBNe, Nat.reduceMod, Nat.reduceDiv, Int.reduceLE, Int.reduceLT, Int.reduceToNat, Int.reduceAdd, Int.reduceSub, Int.reduceMul, Int.reduceNeg, Int.reduceEq, Int.reduceBEq, Int.reduceBNe, ↓reduceIte, reduceCtorEq, String.reduceBNe, String.reduceEq, reduceDIte, Nat.reducePow, hb, lk_old hb, ha1, ha2, ha3, ha4, ha5, hz0, hk0, hw1, hvl, hvv, g0, g1, g2, g3, g4, g5, g6, g7, u8l_len, ul_len, u8lset, hf, Int.le_refl, Nat.le_refl, q3, s1, s2, s3, s4, s5, s6, q5, hsn, hwk, hrl2, hsn]
      exact Weak.to (extra := [_]) (by simp only [Keeps, Tm.get_cons, Nat.reduceEqDiff, ↓reduceIte, if_true, if_false, ite_true, ite_false, true_and, and_true, and_self, reduceCtorEq, hwk, hrl2, hsn]) (by first | rfl | (simp only [List.append_assoc, List.cons_append, List.nil_append]; rfl)) (by first | rfl | (simp [AV.below, CV.below, u8l_below, ul_below]; done) | (simp [AV.below, CV.below, u8l_below, ul_below]; omega)) (by
        first | exact hwf | refine MWf.app (hwf.grow (by simp)) ?_
        repeat (first | exact MWf_nil | (refine MWf_cons ?_ ?_; · first | rfl | (simp [CV.below, u8l_below, ul_below]; done) | (simp [CV.below, u8l_below, ul_below]; omega))))
    · have hke : k = 8 := by have := of_decide_eq_false h41; omega
      subst hke
      have hll := refL_len bs 8
      have hok := (refL_ok hu 8).by
      have hdiv : (refL bs 8).length % 64 = 0 := by omega
      refine AW.exit ?_
      refine Thn_e ?_
      clear hK K
      refine Thn_e ?_
      refine InB_here ?_
      refine Thn_n ?_
      refine hK _ _ ?_
      clear hK K
      refine AW.seq_k fun K hK => ?_
      refine AW.region (by decide) ?_
      simp only [push_cast, Nat.reduceAdd, Nat.reduceMul, Nat.reduceSub, Nat.reduceLeDiff, Nat.reduceLT, Nat.reduceEqDiff, Nat.reduceBEq, Nat.reduceBNe, Nat.reduceMod, Nat.reduceDiv, Int.reduceLE, Int.reduceLT, Int.reduceToNat, Int.reduceAdd, Int.reduceSub, Int.reduceMul, Int.reduceNeg, Int.reduceEq, Int.reduceBEq, Int.reduceBNe, ↓reduceIte, reduceCtorEq, String.reduceBNe, String.reduceEq, reduceDIte, Nat.reducePow, hb, lk_old hb, ha1, ha2, ha3, ha4, ha5, hz0, hk0, hw1, hvl, hvv, g0, g1, g2, g3, g4, g5, g6, g7, u8l_len, ul_len, u8lset, hf, Int.le_refl, Nat.le_refl, q3]
      refine Thn_n ?_
      refine hK _ _ ?_
      clear hK K
      refine AW.seq_k fun K hK => ?_
      refine AW.seq_k fun K hK => ?_
      refine AW.region (by decide) ?_
      simp only [push_cast, Nat.reduceAdd, Nat.reduceMul, Nat.reduceSub, Nat.reduceLeDiff, Nat.reduceLT, Nat.reduceEqDiff, Nat.reduceBEq, Nat.reduceBNe, Nat.reduceMod, Nat.reduceDiv, Int.reduceLE, Int.reduceLT, Int.reduceToNat, Int.reduceAdd, Int.reduceSub, Int.reduceMul, Int.reduceNeg, Int.reduceEq, Int.reduceBEq, Int.reduceBNe, ↓reduceIte, reduceCtorEq, String.reduceBNe, String.reduceEq, reduceDIte, Nat.reducePow, hb, lk_old hb, ha1, ha2, ha3, ha4, ha5, hz0, hk0, hw1, hvl, hvv, g0, g1, g2, g3, g4, g5, g6, g7, u8l_len, ul_len, u8lset, hf, Int.le_refl, Nat.le_refl, q3]
      refine Thn_n ?_
      refine hK _ _ ?_
      clear hK K
      refine AW.block ?_
      refine AW.loopK [2, 4, 5, 8] (fun j => 64 * j ≤ (refL bs 8).length) (fun j => [(9, .one (.int .i64 (64 * (j : Int))))]) (fun j => [(m.length + 4, ⟨.fix, 28, 0, 0, [.int .u32 ((compN IV (refL bs 8) j)).a, .int .u32 ((compN IV (refL bs 8) j)).b, .int .u32 ((compN IV (refL bs 8) j)).c, .int .u32 ((compN IV (refL bs 8) j)).d, .int .u32 ((compN IV (refL bs 8) j)).e, .int .u32 ((compN IV (refL bs 8) j)).f, .int .u32 ((compN IV (refL bs 8) j)).g, .int .u32 ((compN IV (refL bs 8) j)).h]⟩)]) (fun j => (refL bs 8).length - 64 * j) 0 (by omega) ?_ ?_ fun j hi17 => ?_
      · first | rfl | (simp only [Keeps, Tm.get_cons, Nat.reduceEqDiff, ↓reduceIte, if_true, if_false, ite_true, ite_false, true_and, and_true, and_self, reduceCtorEq, compN, IV, Int.natCast_zero, Int.mul_zero] <;> rfl)
      · first | rfl | (simp only [setAll, push_cast, Nat.reduceAdd, Nat.reduceMul, Nat.reduceSub, Nat.reduceLeDiff, Nat.reduceLT, Nat.reduceEqDiff, Nat.reduceBEq, Nat.reduceBNe, Nat.reduceMod, Nat.reduceDiv, Int.reduceLE, Int.reduceLT, Int.reduceToNat, Int.reduceAdd, Int.reduceSub, Int.reduceMul, Int.reduceNeg, Int.reduceEq, Int.reduceBEq, Int.reduceBNe, ↓reduceIte, reduceCtorEq, String.reduceBNe, String.reduceEq, reduceDIte, Nat.reducePow, hb, lk_old hb, ha1, ha2, ha3, ha4, ha5, hz0, hk0, hw1, hvl, hvv, g0, g1, g2, g3, g4, g5, g6, g7, u8l_len, ul_len, u8lset, hf, Int.le_refl, Nat.le_refl, q3, compN, IV, Int.natCast_zero, Int.mul_zero] <;> rfl)
      try simp only [keepL, setAll, push_cast, Nat.reduceAdd, Nat.reduceMul, Nat.reduceSub, Nat.reduceLeDiff, Nat.reduceLT, Nat.reduceEqDiff, Nat.reduceBEq, Nat.reduceBNe, Nat.reduceMod, Nat.reduceDiv, Int.reduceLE, Int.reduceLT, Int.reduceToNat, Int.reduceAdd, Int.reduceSub, Int.reduceMul, Int.reduceNeg, Int.reduceEq, Int.reduceBEq, Int.reduceBNe, ↓reduceIte, reduceCtorEq, String.reduceBNe, String.reduceEq, reduceDIte, Nat.reducePow, hb, lk_old hb, ha1, ha2, ha3, ha4, ha5, hz0, hk0, hw1, hvl, hvv, g0, g1, g2, g3, g4, g5, g6, g7, u8l_len, ul_len, u8lset, hf, Int.le_refl, Nat.le_refl, q3]
      refine AW.seq_k fun K hK => ?_
      refine AW.seq_k fun K hK => ?_
      refine AW.region (by decide) ?_
      simp only [push_cast, Nat.reduceAdd, Nat.reduceMul, Nat.reduceSub, Nat.reduceLeDiff, Nat.reduceLT, Nat.reduceEqDiff, Nat.reduceBEq, Nat.reduceBNe, Nat.reduceMod, Nat.reduceDiv, Int.reduceLE, Int.reduceLT, Int.reduceToNat, Int.reduceAdd, Int.reduceSub, Int.reduceMul, Int.reduceNeg, Int.reduceEq, Int.reduceBEq, Int.reduceBNe, ↓reduceIte, reduceCtorEq, String.reduceBNe, String.reduceEq, reduceDIte, Nat.reducePow, hb, lk_old hb, ha1, ha2, ha3, ha4, ha5, hz0, hk0, hw1, hvl, hvv, g0, g1, g2, g3, g4, g5, g6, g7, u8l_len, ul_len, u8lset, hf, Int.le_refl, Nat.le_refl, q3]
      refine Thn_n ?_
      refine hK _ _ ?_
      clear hK K
      refine AW.cond rfl (fun h58 => ?_) (fun h58 => ?_)
      · have hj : 64 * j + 64 ≤ (refL bs 8).length := by have := of_decide_eq_true h58; omega
        have hSr := compN_r iv_r (refL bs 8) j
        have hll := refL_len bs 8
        have hpz := padz_le bs.length
        have hsz : ul (sch (refL bs 8) (64 * j) 0) = [.int .u32 0, .int .u32 0, .int .u32 0, .int .u32 0, .int .u32 0, .int .u32 0, .int .u32 0, .int .u32 0, .int .u32 0, .int .u32 0, .int .u32 0, .int .u32 0, .int .u32 0, .int .u32 0, .int .u32 0, .int .u32 0, .int .u32 0, .int .u32 0, .int .u32 0, .int .u32 0, .int .u32 0, .int .u32 0, .int .u32 0, .int .u32 0, .int .u32 0, .int .u32 0, .int .u32 0, .int .u32 0, .int .u32 0, .int .u32 0, .int .u32 0, .int .u32 0, .int .u32 0, .int .u32 0, .int .u32 0, .int .u32 0, .int .u32 0, .int .u32 0, .int .u32 0, .int .u32 0, .int .u32 0, .int .u32 0, .int .u32 0, .int .u32 0, .int .u32 0, .int .u32 0, .int .u32 0, .int .u32 0, .int .u32 0, .int .u32 0, .int .u32 0, .int .u32 0, .int .u32 0, .int .u32 0, .int .u32 0, .int .u32 0, .int .u32 0, .int .u32 0, .int .u32 0, .int .u32 0, .int .u32 0, .int .u32 0, .int .u32 0, .int .u32 0] := rfl
        refine AW.skip ?_
        refine Thn_n ?_
        refine hK _ _ ?_
        clear hK K
        refine AW.seq_k fun K hK => ?_
        refine AW.block ?_
        refine AW.seq_k fun K hK => ?_
        refine AW.region (by decide) ?_
        simp only [push_cast, Nat.reduceAdd, Nat.reduceMul, Nat.reduceSub, Nat.reduceLeDiff, Nat.reduceLT, Nat.reduceEqDiff, Nat.reduceBEq, Nat.reduceBNe, Nat.reduceMod, Nat.reduceDiv, Int.reduceLE, Int.reduceLT, Int.reduceToNat, Int.reduceAdd, Int.reduceSub, Int.reduceMul, Int.reduceNeg, Int.reduceEq, Int.reduceBEq, Int.reduceBNe, ↓reduceIte, reduceCtorEq, String.reduceBNe, String.reduceEq, reduceDIte, Nat.reducePow, hb, lk_old hb, ha1, ha2, ha3, ha4, ha5, hz0, hk0, hw1, hvl, hvv, g0, g1, g2, g3, g4, g5, g6, g7, u8l_len, ul_len, u8lset, hf, Int.le_refl, Nat.le_refl, q3]
        refine Thn_n ?_
        refine hK _ _ ?_
        clear hK K
        refine AW.seq_k fun K hK => ?_
        refine AW.seq_k fun K hK => ?_
        refine AW.region (by decide) ?_
        simp only [push_cast, Nat.reduceAdd, Nat.reduceMul, Nat.reduceSub, Nat.reduceLeDiff, Nat.reduceLT, Nat.reduceEqDiff, Nat.reduceBEq, Nat.reduceBNe, Nat.reduceMod, Nat.reduceDiv, Int.reduceLE, Int.reduceLT, Int.reduceToNat, Int.reduceAdd, Int.reduceSub, Int.reduceMul, Int.reduceNeg, Int.reduceEq, Int.reduceBEq, Int.reduceBNe, ↓reduceIte, reduceCtorEq, String.reduceBNe, String.reduceEq, reduceDIte, Nat.reducePow, hb, lk_old hb, ha1, ha2, ha3, ha4, ha5, hz0, hk0, hw1, hvl, hvv, g0, g1, g2, g3, g4, g5, g6, g7, u8l_len, ul_len, u8lset, hf, Int.le_refl, Nat.le_refl, q3]
        refine Thn_n ?_
        refine hK _ _ ?_
        clear hK K
        refine AW.block ?_
        refine AW.loopK [2, 4, 5, 8, 9, 10] (fun i => i ≤ (64 : Nat)) (fun i => [(11, .one (.int .i64 (i : Int)))]) (fun i => [(m.length + 5, ⟨.fix, 29, 0, 0, ul (sch (refL bs 8) (64 * j) i)⟩)]) (fun i => 64 - i) 0 (by omega) ?_ ?_ fun i hi24 => ?_
        · first | rfl | (simp only [Keeps, Tm.get_cons, Nat.reduceEqDiff, ↓reduceIte, if_true, if_false, ite_true, ite_false, true_and, and_true, and_self, reduceCtorEq, hsz, Int.natCast_zero] <;> rfl)
        · first | rfl | (simp only [setAll, push_cast, Nat.reduceAdd, Nat.reduceMul, Nat.reduceSub, Nat.reduceLeDiff, Nat.reduceLT, Nat.reduceEqDiff, Nat.reduceBEq, Nat.reduceBNe, Nat.reduceMod, Nat.reduceDiv, Int.reduceLE, Int.reduceLT, Int.reduceToNat, Int.reduceAdd, Int.reduceSub, Int.reduceMul, Int.reduceNeg, Int.reduceEq, Int.reduceBEq, Int.reduceBNe, ↓reduceIte, reduceCtorEq, String.reduceBNe, String.reduceEq, reduceDIte, Nat.reducePow, hb, lk_old hb, ha1, ha2, ha3, ha4, ha5, hz0, hk0, hw1, hvl, hvv, g0, g1, g2, g3, g4, g5, g6, g7, u8l_len, ul_len, u8lset, hf, Int.le_refl, Nat.le_refl, q3, hsz, Int.natCast_zero] <;> rfl)
        have hi64 : i ≤ 64 := hi24
        try simp only [keepL, setAll, push_cast, Nat.reduceAdd, Nat.reduceMul, Nat.reduceSub, Nat.reduceLeDiff, Nat.reduceLT, Nat.reduceEqDiff, Nat.reduceBEq, Nat.reduceBNe, Nat.reduceMod, Nat.reduceDiv, Int.reduceLE, Int.reduceLT, Int.reduceToNat, Int.reduceAdd, Int.reduceSub, Int.reduceMul, Int.reduceNeg, Int.reduceEq, Int.reduceBEq, Int.reduceBNe, ↓reduceIte, reduceCtorEq, String.reduceBNe, String.reduceEq, reduceDIte, Nat.reducePow, hb, lk_old hb, ha1, ha2, ha3, ha4, ha5, hz0, hk0, hw1, hvl, hvv, g0, g1, g2, g3, g4, g5, g6, g7, u8l_len, ul_len, u8lset, hf, Int.le_refl, Nat.le_refl, q3]
        refine AW.seq_k fun K hK => ?_
        refine AW.seq_k fun K hK => ?_
        refine AW.region (by decide) ?_
        simp only [push_cast, Nat.reduceAdd, Nat.reduceMul, Nat.reduceSub, Nat.reduceLeDiff, Nat.reduceLT, Nat.reduceEqDiff, Nat.reduceBEq, Nat.reduceBNe, Nat.reduceMod, Nat.reduceDiv, Int.reduceLE, Int.reduceLT, Int.reduceToNat, Int.reduceAdd, Int.reduceSub, Int.reduceMul, Int.reduceNeg, Int.reduceEq, Int.reduceBEq, Int.reduceBNe, ↓reduceIte, reduceCtorEq, String.reduceBNe, String.reduceEq, reduceDIte, Nat.reducePow, hb, lk_old hb, ha1, ha2, ha3, ha4, ha5, hz0, hk0, hw1, hvl, hvv, g0, g1, g2, g3, g4, g5, g6, g7, u8l_len, ul_len, u8lset, hf, Int.le_refl, Nat.le_refl, q3]
        refine Thn_n ?_
        refine hK _ _ ?_
        clear hK K
        refine AW.cond rfl (fun h62 => ?_) (fun h62 => ?_)
        · have hlt64 : i < 64 := by have := of_decide_eq_true h62; omega
          have c3 : (0 : Int) ≤ (i : Int) := by omega
          have c4 : (i : Int) < 64 := by omega
          have c5 : i + 1 ≤ 64 := by omega
          have lS := sch_len (refL bs 8) (64 * j) i
          have p3 : (2 : Int) ^ min 3 IntKind.u32.bits = 8 := by decide
          have p10 : (2 : Int) ^ min 10 IntKind.u32.bits = 1024 := by decide
          refine AW.skip ?_
          refine Thn_n ?_
          refine hK _ _ ?_
          clear hK K
          refine AW.seq_k fun K hK => ?_
          refine AW.block ?_
          refine AW.seq_k fun K hK => ?_
          refine AW.seq_k fun K hK => ?_
          refine AW.region (by decide) ?_
          simp only [push_cast, Nat.reduceAdd, Nat.reduceMul, Nat.reduceSub, Nat.reduceLeDiff, Nat.reduceLT, Nat.reduceEqDiff, Nat.reduceBEq, Nat.reduceBNe, Nat.reduceMod, Nat.reduceDiv, Int.reduceLE, Int.reduceLT, Int.reduceToNat, Int.reduceAdd, Int.reduceSub, Int.reduceMul, Int.reduceNeg, Int.reduceEq, Int.reduceBEq, Int.reduceBNe, ↓reduceIte, reduceCtorEq, String.reduceBNe, String.reduceEq, reduceDIte, Nat.reducePow, hb, lk_old hb, ha1, ha2, ha3, ha4, ha5, hz0, hk0, hw1, hvl, hvv, g0, g1, g2, g3, g4, g5, g6, g7, u8l_len, ul_len, u8lset, hf, Int.le_refl, Nat.le_refl, q3, c3, c4, c5, lS]
          refine Thn_n ?_
          refine hK _ _ ?_
          clear hK K
          refine AW.cond rfl (fun h66 => ?_) (fun h66 => ?_)
          · have hi16 : i < 16 := by have := of_decide_eq_true h66; omega
            have v0 : IntKind.i64.wrap (4 * (i : Int)) = 4 * (i : Int) := wi (by omega)
            have v1 : IntKind.i64.wrap (64 * (j : Int) + 4 * (i : Int)) = 64 * (j : Int) + 4 * (i : Int) := wi (by omega)
            have v2 : IntKind.i64.wrap (64 * (j : Int) + 4 * (i : Int) + 1) = 64 * (j : Int) + 4 * (i : Int) + 1 := wi (by omega)
            have v3 : IntKind.i64.wrap (64 * (j : Int) + 4 * (i : Int) + 2) = 64 * (j : Int) + 4 * (i : Int) + 2 := wi (by omega)
            have v4 : IntKind.i64.wrap (64 * (j : Int) + 4 * (i : Int) + 3) = 64 * (j : Int) + 4 * (i : Int) + 3 := wi (by omega)
            have d0 : (0 : Int) ≤ 64 * (j : Int) + 4 * (i : Int) := by omega
            have f0 : 64 * (j : Int) + 4 * (i : Int) < ((refL bs 8).length : Int) := by omega
            have z0 : (64 * (j : Int) + 4 * (i : Int)).toNat = 64 * j + 4 * i := by omega
            have d1 : (0 : Int) ≤ 64 * (j : Int) + 4 * (i : Int) + 1 := by omega
            have f1 : 64 * (j : Int) + 4 * (i : Int) + 1 < ((refL bs 8).length : Int) := by omega
            have z1 : (64 * (j : Int) + 4 * (i : Int) + 1).toNat = 64 * j + 4 * i + 1 := by omega
            have d2 : (0 : Int) ≤ 64 * (j : Int) + 4 * (i : Int) + 2 := by omega
            have f2 : 64 * (j : Int) + 4 * (i : Int) + 2 < ((refL bs 8).length : Int) := by omega
            have z2 : (64 * (j : Int) + 4 * (i : Int) + 2).toNat = 64 * j + 4 * i + 2 := by omega
            have d3 : (0 : Int) ≤ 64 * (j : Int) + 4 * (i : Int) + 3 := by omega
            have f3 : 64 * (j : Int) + 4 * (i : Int) + 3 < ((refL bs 8).length : Int) := by omega
            have z3 : (64 * (j : Int) + 4 * (i : Int) + 3).toNat = 64 * j + 4 * i + 3 := by omega
            have u0 := hok (64 * j + 4 * i)
            have y0 : IntKind.u32.wrap (byB (refL bs 8) (64 * j + 4 * i)) = byB (refL bs 8) (64 * j + 4 * i) := by rw [w32]; omega
            have b0 := u8l_get (bs := refL bs 8) (i := 64 * j + 4 * i) (by omega)
            have u1 := hok (64 * j + 4 * i + 1)
            have y1 : IntKind.u32.wrap (byB (refL bs 8) (64 * j + 4 * i + 1)) = byB (refL bs 8) (64 * j + 4 * i + 1) := by rw [w32]; omega
            have b1 := u8l_get (bs := refL bs 8) (i := 64 * j + 4 * i + 1) (by omega)
            have u2 := hok (64 * j + 4 * i + 2)
            have y2 : IntKind.u32.wrap (byB (refL bs 8) (64 * j + 4 * i + 2)) = byB (refL bs 8) (64 * j + 4 * i + 2) := by rw [w32]; omega
            have b2 := u8l_get (bs := refL bs 8) (i := 64 * j + 4 * i + 2) (by omega)
            have u3 := hok (64 * j + 4 * i + 3)
            have y3 : IntKind.u32.wrap (byB (refL bs 8) (64 * j + 4 * i + 3)) = byB (refL bs 8) (64 * j + 4 * i + 3) := by rw [w32]; omega
            have b3 := u8l_get (bs := refL bs 8) (i := 64 * j + 4 * i + 3) (by omega)
            have t0 : IntKind.u32.wrap (byB (refL bs 8) (64 * j + 4 * i) * 16777216) = byB (refL bs 8) (64 * j + 4 * i) * 16777216 := by rw [w32]; omega
            have t1 : IntKind.u32.wrap (byB (refL bs 8) (64 * j + 4 * i + 1) * 65536) = byB (refL bs 8) (64 * j + 4 * i + 1) * 65536 := by rw [w32]; omega
            have t2 : IntKind.u32.wrap (byB (refL bs 8) (64 * j + 4 * i + 2) * 256) = byB (refL bs 8) (64 * j + 4 * i + 2) * 256 := by rw [w32]; omega
            have t3 : IntKind.u32.wrap (byB (refL bs 8) (64 * j + 4 * i) * 16777216 + byB (refL bs 8) (64 * j + 4 * i + 1) * 65536) = byB (refL bs 8) (64 * j + 4 * i) * 16777216 + byB (refL bs 8) (64 * j + 4 * i + 1) * 65536 := by rw [w32]; omega
            have t4 : IntKind.u32.wrap (byB (refL bs 8) (64 * j + 4 * i) * 16777216 + byB (refL bs 8) (64 * j + 4 * i + 1) * 65536 + byB (refL bs 8) (64 * j + 4 * i + 2) * 256) = byB (refL bs 8) (64 * j + 4 * i) * 16777216 + byB (refL bs 8) (64 * j + 4 * i + 1) * 65536 + byB (refL bs 8) (64 * j + 4 * i + 2) * 256 := by rw [w32]; omega
            have t5 : IntKind.u32.wrap (byB (refL bs 8) (64 * j + 4 * i) * 16777216 + byB (refL bs 8) (64 * j + 4 * i + 1) * 65536 + byB (refL bs 8) (64 * j + 4 * i + 2) * 256 + byB (refL bs 8) (64 * j + 4 * i + 3)) = wordV (refL bs 8) (64 * j + 4 * i) := by rw [w32]; unfold wordV; omega
            have snx : (ul (sch (refL bs 8) (64 * j) i)).set i (.int .u32 (wordV (refL bs 8) (64 * j + 4 * i))) = ul (sch (refL bs 8) (64 * j) (i + 1)) := by rw [ul_set]; simp only [sch, if_pos hi16]
            simp only [Nat.add_assoc] at z0 y0 b0 z1 y1 b1 z2 y2 b2 z3 y3 b3 t0 t1 t2 t3 t4 t5 snx
            refine AW.seq_k fun K hK => ?_
            refine AW.draw [.val, .val, .val, .val, .val, .val, .val, .rd 0, .val, .val, .val, .val, .val, .val, .val, .val, .val, .rd 0, .val, .val, .val, .val, .val, .val, .val, .val, .val, .val, .rd 0, .val, .val, .val, .val, .val, .val, .val, .val, .val, .val, .rd 0, .val, .val, .val, .wr] fol (by decide) (by kernel_rfl) ?_
            simp only [push_cast, Nat.reduceAdd, Nat.reduceMul, Nat.reduceSub, Nat.reduceLeDiff, Nat.reduceLT, Nat.reduceEqDiff, Nat.reduceBEq, Nat.reduceBNe, Nat.reduceMod, Nat.reduceDiv, Int.reduceLE, Int.reduceLT, Int.reduceToNat, Int.reduceAdd, Int.reduceSub, Int.reduceMul, Int.reduceNeg, Int.reduceEq, Int.reduceBEq, Int.reduceBNe, ↓reduceIte, reduceCtorEq, String.reduceBNe, String.reduceEq, reduceDIte, Nat.reducePow, hb, lk_old hb, ha1, ha2, ha3, ha4, ha5, hz0, hk0, hw1, hvl, hvv, g0, g1, g2, g3, g4, g5, g6, g7, u8l_len, ul_len, u8lset, hf, Int.le_refl, Nat.le_refl, q3, c3, c4, c5, lS, v0, v1, v2, v3, v4, d0, f0, z0, y0, b0, d1, f1, z1, y1, b1, d2, f2, z2, y2, b2, d3, f3, z3, y3, b3, t0, t1, t2, t3, t4, t5, snx]
            refine Thn_n ?_
            refine hK _ _ ?_
            clear hK K
            refine AW.exit ?_
            refine Thn_e ?_
            clear hK K
            refine InB_here ?_
            refine Thn_n ?_
            refine hK _ _ ?_
            clear hK K
            refine AW.region (by decide) ?_
            simp only [push_cast, Nat.reduceAdd, Nat.reduceMul, Nat.reduceSub, Nat.reduceLeDiff, Nat.reduceLT, Nat.reduceEqDiff, Nat.reduceBEq, Nat.reduceBNe, Nat.reduceMod, Nat.reduceDiv, Int.reduceLE, Int.reduceLT, Int.reduceToNat, Int.reduceAdd, Int.reduceSub, Int.reduceMul, Int.reduceNeg, Int.reduceEq, Int.reduceBEq, Int.reduceBNe, ↓reduceIte, reduceCtorEq, String.reduceBNe, String.reduceEq, reduceDIte, Nat.reducePow, hb, lk_old hb, ha1, ha2, ha3, ha4, ha5, hz0, hk0, hw1, hvl, hvv, g0, g1, g2, g3, g4, g5, g6, g7, u8l_len, ul_len, u8lset, hf, Int.le_refl, Nat.le_refl, q3, c3, c4, c5, lS, v0, v1, v2, v3, v4, d0, f0, z0, y0, b0, d1, f1, z1, y1, b1, d2, f2, z2, y2, b2, d3, f3, z3, y3, b3, t0, t1, t2, t3, t4, t5, snx]
            refine Thn_n ?_
            have hwi : IntKind.i64.wrap ((i:Int)+1) = (i:Int)+1 := wi (by omega)
            refine ⟨i + 1, hlt64, by omega, ?_⟩
            try simp only [keepL, setAll, push_cast, Nat.reduceAdd, Nat.reduceMul, Nat.reduceSub, Nat.reduceLeDiff, Nat.reduceLT, Nat.reduceEqDiff, Nat.reduceBEq, Nat.reduceBNe, Nat.reduceMod, Nat.reduceDiv, Int.reduceLE, Int.reduceLT, Int.reduceToNat, Int.reduceAdd, Int.reduceSub, Int.reduceMul, Int.reduceNeg, Int.reduceEq, Int.reduceBEq, Int.reduceBNe, ↓reduceIte, reduceCtorEq, String.reduceBNe, String.reduceEq, reduceDIte, Nat.reducePow, hb, lk_old hb, ha1, ha2, ha3, ha4, ha5, hz0, hk0, hw1, hvl, hvv, g0, g1, g2, g3, g4, g5, g6, g7, u8l_len, ul_len, u8lset, hf, Int.le_refl, Nat.le_refl, q3, c3, c4, c5, lS, v0, v1, v2, v3, v4, d0, f0, z0, y0, b0, d1, f1, z1, y1, b1, d2, f2, z2, y2, b2, d3, f3, z3, y3, b3, t0, t1, t2, t3, t4, t5, snx, hwi, snx]
            exact Weak.same (by simp only [Keeps, Tm.get_cons, Nat.reduceEqDiff, ↓reduceIte, if_true, if_false, ite_true, ite_false, true_and, and_true, and_self, reduceCtorEq, hwi, snx]) (by first | rfl | simp only [Keeps, Tm.get_cons, Nat.reduceEqDiff, ↓reduceIte, if_true, if_false, ite_true, ite_false, true_and, and_true, and_self, reduceCtorEq, hwi, snx])
          · have hi16 : 16 ≤ i := by have := of_decide_eq_false h66; omega
            have g15 := ul_get (xs := sch (refL bs 8) (64 * j) i) (i := i - 15) (by rw [sch_len]; omega)
            have v15 : IntKind.i64.wrap ((i : Int) - 15) = (i : Int) - 15 := wi (by omega)
            have d15 : (0 : Int) ≤ (i : Int) - 15 := by omega
            have f15 : (i : Int) - 15 < 64 := by omega
            have z15 : ((i : Int) - 15).toNat = i - 15 := by omega
            have g2 := ul_get (xs := sch (refL bs 8) (64 * j) i) (i := i - 2) (by rw [sch_len]; omega)
            have v2 : IntKind.i64.wrap ((i : Int) - 2) = (i : Int) - 2 := wi (by omega)
            have d2 : (0 : Int) ≤ (i : Int) - 2 := by omega
            have f2 : (i : Int) - 2 < 64 := by omega
            have z2 : ((i : Int) - 2).toNat = i - 2 := by omega
            have g16 := ul_get (xs := sch (refL bs 8) (64 * j) i) (i := i - 16) (by rw [sch_len]; omega)
            have v16 : IntKind.i64.wrap ((i : Int) - 16) = (i : Int) - 16 := wi (by omega)
            have d16 : (0 : Int) ≤ (i : Int) - 16 := by omega
            have f16 : (i : Int) - 16 < 64 := by omega
            have z16 : ((i : Int) - 16).toNat = i - 16 := by omega
            have g7 := ul_get (xs := sch (refL bs 8) (64 * j) i) (i := i - 7) (by rw [sch_len]; omega)
            have v7 : IntKind.i64.wrap ((i : Int) - 7) = (i : Int) - 7 := wi (by omega)
            have d7 : (0 : Int) ≤ (i : Int) - 7 := by omega
            have f7 : (i : Int) - 7 < 64 := by omega
            have z7 : ((i : Int) - 7).toNat = i - 7 := by omega
            have snx : ((ul (sch (refL bs 8) (64 * j) i)).set i (.int .u32 (mixF (sch (refL bs 8) (64 * j) i) i))) = ul (sch (refL bs 8) (64 * j) (i + 1)) := by rw [ul_set]; simp only [sch]; rw [if_neg (by omega)]
            simp only [mixF, a32, s0, s1] at snx
            refine AW.skip ?_
            refine Thn_n ?_
            refine hK _ _ ?_
            clear hK K
            refine AW.seq_k fun K hK => ?_
            refine AW.draw [.val, .val, .val, .rd 0, .ext, .val, .val, .val, .rd 0, .ext, .val, .val, .val, .val, .rd 0, .val, .val, .val] fol (by decide) (by kernel_rfl) ?_
            simp only [push_cast, Nat.reduceAdd, Nat.reduceMul, Nat.reduceSub, Nat.reduceLeDiff, Nat.reduceLT, Nat.reduceEqDiff, Nat.reduceBEq, Nat.reduceBNe, Nat.reduceMod, Nat.reduceDiv, Int.reduceLE, Int.reduceLT, Int.reduceToNat, Int.reduceAdd, Int.reduceSub, Int.reduceMul, Int.reduceNeg, Int.reduceEq, Int.reduceBEq, Int.reduceBNe, ↓reduceIte, reduceCtorEq, String.reduceBNe, String.reduceEq, reduceDIte, Nat.reducePow, hb, lk_old hb, ha1, ha2, ha3, ha4, ha5, hz0, hk0, hw1, hvl, hvv, g0, g1, g2, g3, g4, g5, g6, g7, u8l_len, ul_len, u8lset, hf, Int.le_refl, Nat.le_refl, q3, c3, c4, c5, lS, g15, v15, d15, f15, z15, g2, v2, d2, f2, z2, g16, v16, d16, f16, z16, g7, v7, d7, f7, z7, p3, p10, snx]
            refine DCall.by0 (turn_c _ 7 _ (by decide)) ?_
            simp only [push_cast, Nat.reduceAdd, Nat.reduceMul, Nat.reduceSub, Nat.reduceLeDiff, Nat.reduceLT, Nat.reduceEqDiff, Nat.reduceBEq, Nat.reduceBNe, Nat.reduceMod, Nat.reduceDiv, Int.reduceLE, Int.reduceLT, Int.reduceToNat, Int.reduceAdd, Int.reduceSub, Int.reduceMul, Int.reduceNeg, Int.reduceEq, Int.reduceBEq, Int.reduceBNe, ↓reduceIte, reduceCtorEq, String.reduceBNe, String.reduceEq, reduceDIte, Nat.reducePow, hb, lk_old hb, ha1, ha2, ha3, ha4, ha5, hz0, hk0, hw1, hvl, hvv, g0, g1, g2, g3, g4, g5, g6, g7, u8l_len, ul_len, u8lset, hf, Int.le_refl, Nat.le_refl, q3, c3, c4, c5, lS, g15, v15, d15, f15, z15, g2, v2, d2, f2, z2, g16, v16, d16, f16, z16, g7, v7, d7, f7, z7, p3, p10, snx]
            refine DCall.by0 (turn_c _ 18 _ (by decide)) ?_
            simp only [push_cast, Nat.reduceAdd, Nat.reduceMul, Nat.reduceSub, Nat.reduceLeDiff, Nat.reduceLT, Nat.reduceEqDiff, Nat.reduceBEq, Nat.reduceBNe, Nat.reduceMod, Nat.reduceDiv, Int.reduceLE, Int.reduceLT, Int.reduceToNat, Int.reduceAdd, Int.reduceSub, Int.reduceMul, Int.reduceNeg, Int.reduceEq, Int.reduceBEq, Int.reduceBNe, ↓reduceIte, reduceCtorEq, String.reduceBNe, String.reduceEq, reduceDIte, Nat.reducePow, hb, lk_old hb, ha1, ha2, ha3, ha4, ha5, hz0, hk0, hw1, hvl, hvv, g0, g1, g2, g3, g4, g5, g6, g7, u8l_len, ul_len, u8lset, hf, Int.le_refl, Nat.le_refl, q3, c3, c4, c5, lS, g15, v15, d15, f15, z15, g2, v2, d2, f2, z2, g16, v16, d16, f16, z16, g7, v7, d7, f7, z7, p3, p10, snx]
            refine Thn_n ?_
            refine hK _ _ ?_
            clear hK K
            refine AW.seq_k fun K hK => ?_
            refine AW.draw [.val, .val, .val, .rd 0, .ext, .val, .val, .val, .rd 0, .ext, .val, .val, .val, .val, .rd 0, .val, .val, .val] fol (by decide) (by kernel_rfl) ?_
            simp only [push_cast, Nat.reduceAdd, Nat.reduceMul, Nat.reduceSub, Nat.reduceLeDiff, Nat.reduceLT, Nat.reduceEqDiff, Nat.reduceBEq, Nat.reduceBNe, Nat.reduceMod, Nat.reduceDiv, Int.reduceLE, Int.reduceLT, Int.reduceToNat, Int.reduceAdd, Int.reduceSub, Int.reduceMul, Int.reduceNeg, Int.reduceEq, Int.reduceBEq, Int.reduceBNe, ↓reduceIte, reduceCtorEq, String.reduceBNe, String.reduceEq, reduceDIte, Nat.reducePow, hb, lk_old hb, ha1, ha2, ha3, ha4, ha5, hz0, hk0, hw1, hvl, hvv, g0, g1, g2, g3, g4, g5, g6, g7, u8l_len, ul_len, u8lset, hf, Int.le_refl, Nat.le_refl, q3, c3, c4, c5, lS, g15, v15, d15, f15, z15, g2, v2, d2, f2, z2, g16, v16, d16, f16, z16, g7, v7, d7, f7, z7, p3, p10, snx]
            refine DCall.by0 (turn_c _ 17 _ (by decide)) ?_
            simp only [push_cast, Nat.reduceAdd, Nat.reduceMul, Nat.reduceSub, Nat.reduceLeDiff, Nat.reduceLT, Nat.reduceEqDiff, Nat.reduceBEq, Nat.reduceBNe, Nat.reduceMod, Nat.reduceDiv, Int.reduceLE, Int.reduceLT, Int.reduceToNat, Int.reduceAdd, Int.reduceSub, Int.reduceMul, Int.reduceNeg, Int.reduceEq, Int.reduceBEq, Int.reduceBNe, ↓reduceIte, reduceCtorEq, String.reduceBNe, String.reduceEq, reduceDIte, Nat.reducePow, hb, lk_old hb, ha1, ha2, ha3, ha4, ha5, hz0, hk0, hw1, hvl, hvv, g0, g1, g2, g3, g4, g5, g6, g7, u8l_len, ul_len, u8lset, hf, Int.le_refl, Nat.le_refl, q3, c3, c4, c5, lS, g15, v15, d15, f15, z15, g2, v2, d2, f2, z2, g16, v16, d16, f16, z16, g7, v7, d7, f7, z7, p3, p10, snx]
            refine DCall.by0 (turn_c _ 19 _ (by decide)) ?_
            simp only [push_cast, Nat.reduceAdd, Nat.reduceMul, Nat.reduceSub, Nat.reduceLeDiff, Nat.reduceLT, Nat.reduceEqDiff, Nat.reduceBEq, Nat.reduceBNe, Nat.reduceMod, Nat.reduceDiv, Int.reduceLE, Int.reduceLT, Int.reduceToNat, Int.reduceAdd, Int.reduceSub, Int.reduceMul, Int.reduceNeg, Int.reduceEq, Int.reduceBEq, Int.reduceBNe, ↓reduceIte, reduceCtorEq, String.reduceBNe, String.reduceEq, reduceDIte, Nat.reducePow, hb, lk_old hb, ha1, ha2, ha3, ha4, ha5, hz0, hk0, hw1, hvl, hvv, g0, g1, g2, g3, g4, g5, g6, g7, u8l_len, ul_len, u8lset, hf, Int.le_refl, Nat.le_refl, q3, c3, c4, c5, lS, g15, v15, d15, f15, z15, g2, v2, d2, f2, z2, g16, v16, d16, f16, z16, g7, v7, d7, f7, z7, p3, p10, snx]
            refine Thn_n ?_
            refine hK _ _ ?_
            clear hK K
            refine AW.draw [.val, .val, .val, .val, .rd 0, .val, .val, .val, .val, .val, .rd 0, .val, .val, .val, .val, .wr] fol (by decide) (by kernel_rfl) ?_
            simp only [push_cast, Nat.reduceAdd, Nat.reduceMul, Nat.reduceSub, Nat.reduceLeDiff, Nat.reduceLT, Nat.reduceEqDiff, Nat.reduceBEq, Nat.reduceBNe, Nat.reduceMod, Nat.reduceDiv, Int.reduceLE, Int.reduceLT, Int.reduceToNat, Int.reduceAdd, Int.reduceSub, Int.reduceMul, Int.reduceNeg, Int.reduceEq, Int.reduceBEq, Int.reduceBNe, ↓reduceIte, reduceCtorEq, String.reduceBNe, String.reduceEq, reduceDIte, Nat.reducePow, hb, lk_old hb, ha1, ha2, ha3, ha4, ha5, hz0, hk0, hw1, hvl, hvv, g0, g1, g2, g3, g4, g5, g6, g7, u8l_len, ul_len, u8lset, hf, Int.le_refl, Nat.le_refl, q3, c3, c4, c5, lS, g15, v15, d15, f15, z15, g2, v2, d2, f2, z2, g16, v16, d16, f16, z16, g7, v7, d7, f7, z7, p3, p10, snx]
            refine InB_n ?_
            refine Thn_n ?_
            refine hK _ _ ?_
            clear hK K
            refine AW.region (by decide) ?_
            simp only [push_cast, Nat.reduceAdd, Nat.reduceMul, Nat.reduceSub, Nat.reduceLeDiff, Nat.reduceLT, Nat.reduceEqDiff, Nat.reduceBEq, Nat.reduceBNe, Nat.reduceMod, Nat.reduceDiv, Int.reduceLE, Int.reduceLT, Int.reduceToNat, Int.reduceAdd, Int.reduceSub, Int.reduceMul, Int.reduceNeg, Int.reduceEq, Int.reduceBEq, Int.reduceBNe, ↓reduceIte, reduceCtorEq, String.reduceBNe, String.reduceEq, reduceDIte, Nat.reducePow, hb, lk_old hb, ha1, ha2, ha3, ha4, ha5, hz0, hk0, hw1, hvl, hvv, g0, g1, g2, g3, g4, g5, g6, g7, u8l_len, ul_len, u8lset, hf, Int.le_refl, Nat.le_refl, q3, c3, c4, c5, lS, g15, v15, d15, f15, z15, g2, v2, d2, f2, z2, g16, v16, d16, f16, z16, g7, v7, d7, f7, z7, p3, p10, snx]
            refine Thn_n ?_
            have hwi : IntKind.i64.wrap ((i:Int)+1) = (i:Int)+1 := wi (by omega)
            refine ⟨i + 1, hlt64, by omega, ?_⟩
            try simp only [keepL, setAll, push_cast, Nat.reduceAdd, Nat.reduceMul, Nat.reduceSub, Nat.reduceLeDiff, Nat.reduceLT, Nat.reduceEqDiff, Nat.reduceBEq, Nat.reduceBNe, Nat.reduceMod, Nat.reduceDiv, Int.reduceLE, Int.reduceLT, Int.reduceToNat, Int.reduceAdd, Int.reduceSub, Int.reduceMul, Int.reduceNeg, Int.reduceEq, Int.reduceBEq, Int.reduceBNe, ↓reduceIte, reduceCtorEq, String.reduceBNe, String.reduceEq, reduceDIte, Nat.reducePow, hb, lk_old hb, ha1, ha2, ha3, ha4, ha5, hz0, hk0, hw1, hvl, hvv, g0, g1, g2, g3, g4, g5, g6, g7, u8l_len, ul_len, u8lset, hf, Int.le_refl, Nat.le_refl, q3, c3, c4, c5, lS, g15, v15, d15, f15, z15, g2, v2, d2, f2, z2, g16, v16, d16, f16, z16, g7, v7, d7, f7, z7, p3, p10, snx, hwi, snx]
            exact Weak.same (by simp only [Keeps, Tm.get_cons, Nat.reduceEqDiff, ↓reduceIte, if_true, if_false, ite_true, ite_false, true_and, and_true, and_self, reduceCtorEq, hwi, snx]) (by first | rfl | simp only [Keeps, Tm.get_cons, Nat.reduceEqDiff, ↓reduceIte, if_true, if_false, ite_true, ite_false, true_and, and_true, and_self, reduceCtorEq, hwi, snx])
        · have hie : i = 64 := by have := of_decide_eq_false h62; omega
          subst hie
          refine AW.exit ?_
          refine Thn_e ?_
          clear hK K
          refine Thn_e ?_
          refine InB_here ?_
          refine Thn_n ?_
          refine hK _ _ ?_
          clear hK K
          refine AW.seq_k fun K hK => ?_
          refine AW.region (by decide) ?_
          simp only [push_cast, Nat.reduceAdd, Nat.reduceMul, Nat.reduceSub, Nat.reduceLeDiff, Nat.reduceLT, Nat.reduceEqDiff, Nat.reduceBEq, Nat.reduceBNe, Nat.reduceMod, Nat.reduceDiv, Int.reduceLE, Int.reduceLT, Int.reduceToNat, Int.reduceAdd, Int.reduceSub, Int.reduceMul, Int.reduceNeg, Int.reduceEq, Int.reduceBEq, Int.reduceBNe, ↓reduceIte, reduceCtorEq, String.reduceBNe, String.reduceEq, reduceDIte, Nat.reducePow, hb, lk_old hb, ha1, ha2, ha3, ha4, ha5, hz0, hk0, hw1, hvl, hvv, g0, g1, g2, g3, g4, g5, g6, g7, u8l_len, ul_len, u8lset, hf, Int.le_refl, Nat.le_refl, q3]
          refine Thn_n ?_
          refine hK _ _ ?_
          clear hK K
          refine AW.seq_k fun K hK => ?_
          refine AW.seq_k fun K hK => ?_
          refine AW.region (by decide) ?_
          simp only [push_cast, Nat.reduceAdd, Nat.reduceMul, Nat.reduceSub, Nat.reduceLeDiff, Nat.reduceLT, Nat.reduceEqDiff, Nat.reduceBEq, Nat.reduceBNe, Nat.reduceMod, Nat.reduceDiv, Int.reduceLE, Int.reduceLT, Int.reduceToNat, Int.reduceAdd, Int.reduceSub, Int.reduceMul, Int.reduceNeg, Int.reduceEq, Int.reduceBEq, Int.reduceBNe, ↓reduceIte, reduceCtorEq, String.reduceBNe, String.reduceEq, reduceDIte, Nat.reducePow, hb, lk_old hb, ha1, ha2, ha3, ha4, ha5, hz0, hk0, hw1, hvl, hvv, g0, g1, g2, g3, g4, g5, g6, g7, u8l_len, ul_len, u8lset, hf, Int.le_refl, Nat.le_refl, q3]
          refine Thn_n ?_
          refine hK _ _ ?_
          clear hK K
          refine AW.block ?_
          refine AW.loopK [2, 4, 5, 8, 9, 10, 14] (fun k => k ≤ (64 : Nat)) (fun k => [(15, .one (.int .i64 (k : Int)))]) (fun k => [(m.length + 6, ⟨.fix, 28, 0, 0, [.int .u32 ((rd KW (sch (refL bs 8) (64 * j) 64) (compN IV (refL bs 8) j) k)).a, .int .u32 ((rd KW (sch (refL bs 8) (64 * j) 64) (compN IV (refL bs 8) j) k)).b, .int .u32 ((rd KW (sch (refL bs 8) (64 * j) 64) (compN IV (refL bs 8) j) k)).c, .int .u32 ((rd KW (sch (refL bs 8) (64 * j) 64) (compN IV (refL bs 8) j) k)).d, .int .u32 ((rd KW (sch (refL bs 8) (64 * j) 64) (compN IV (refL bs 8) j) k)).e, .int .u32 ((rd KW (sch (refL bs 8) (64 * j) 64) (compN IV (refL bs 8) j) k)).f, .int .u32 ((rd KW (sch (refL bs 8) (64 * j) 64) (compN IV (refL bs 8) j) k)).g, .int .u32 ((rd KW (sch (refL bs 8) (64 * j) 64) (compN IV (refL bs 8) j) k)).h]⟩)]) (fun k => 64 - k) 0 (by omega) ?_ ?_ fun k hi36 => ?_
          · first | rfl | (simp only [Keeps, Tm.get_cons, Nat.reduceEqDiff, ↓reduceIte, if_true, if_false, ite_true, ite_false, true_and, and_true, and_self, reduceCtorEq, rd, Int.natCast_zero] <;> rfl)
          · first | rfl | (simp only [setAll, push_cast, Nat.reduceAdd, Nat.reduceMul, Nat.reduceSub, Nat.reduceLeDiff, Nat.reduceLT, Nat.reduceEqDiff, Nat.reduceBEq, Nat.reduceBNe, Nat.reduceMod, Nat.reduceDiv, Int.reduceLE, Int.reduceLT, Int.reduceToNat, Int.reduceAdd, Int.reduceSub, Int.reduceMul, Int.reduceNeg, Int.reduceEq, Int.reduceBEq, Int.reduceBNe, ↓reduceIte, reduceCtorEq, String.reduceBNe, String.reduceEq, reduceDIte, Nat.reducePow, hb, lk_old hb, ha1, ha2, ha3, ha4, ha5, hz0, hk0, hw1, hvl, hvv, g0, g1, g2, g3, g4, g5, g6, g7, u8l_len, ul_len, u8lset, hf, Int.le_refl, Nat.le_refl, q3, rd, Int.natCast_zero] <;> rfl)
          have hk64 : k ≤ 64 := hi36
          try simp only [keepL, setAll, push_cast, Nat.reduceAdd, Nat.reduceMul, Nat.reduceSub, Nat.reduceLeDiff, Nat.reduceLT, Nat.reduceEqDiff, Nat.reduceBEq, Nat.reduceBNe, Nat.reduceMod, Nat.reduceDiv, Int.reduceLE, Int.reduceLT, Int.reduceToNat, Int.reduceAdd, Int.reduceSub, Int.reduceMul, Int.reduceNeg, Int.reduceEq, Int.reduceBEq, Int.reduceBNe, ↓reduceIte, reduceCtorEq, String.reduceBNe, String.reduceEq, reduceDIte, Nat.reducePow, hb, lk_old hb, ha1, ha2, ha3, ha4, ha5, hz0, hk0, hw1, hvl, hvv, g0, g1, g2, g3, g4, g5, g6, g7, u8l_len, ul_len, u8lset, hf, Int.le_refl, Nat.le_refl, q3]
          refine AW.seq_k fun K hK => ?_
          refine AW.seq_k fun K hK => ?_
          refine AW.region (by decide) ?_
          simp only [push_cast, Nat.reduceAdd, Nat.reduceMul, Nat.reduceSub, Nat.reduceLeDiff, Nat.reduceLT, Nat.reduceEqDiff, Nat.reduceBEq, Nat.reduceBNe, Nat.reduceMod, Nat.reduceDiv, Int.reduceLE, Int.reduceLT, Int.reduceToNat, Int.reduceAdd, Int.reduceSub, Int.reduceMul, Int.reduceNeg, Int.reduceEq, Int.reduceBEq, Int.reduceBNe, ↓reduceIte, reduceCtorEq, String.reduceBNe, String.reduceEq, reduceDIte, Nat.reducePow, hb, lk_old hb, ha1, ha2, ha3, ha4, ha5, hz0, hk0, hw1, hvl, hvv, g0, g1, g2, g3, g4, g5, g6, g7, u8l_len, ul_len, u8lset, hf, Int.le_refl, Nat.le_refl, q3]
          refine Thn_n ?_
          refine hK _ _ ?_
          clear hK K
          refine AW.cond rfl (fun h161 => ?_) (fun h161 => ?_)
          · have hlt64 : k < 64 := by have := of_decide_eq_true h161; omega
            have c3 : (0 : Int) ≤ (k : Int) := by omega
            have c4 : (k : Int) < 64 := by omega
            have gk : (ul (HLL ++ KW))[8 + k]? = some (.int .u32 (KW.getD k 0)) := by
              have h1 := ul_get (xs := HLL ++ KW) (i := 8 + k) (by show 8 + k < 72; omega)
              rw [h1]; congr 2
              rw [List.getD_eq_getElem?_getD, List.getElem?_append_right (by show 8 ≤ 8 + k; omega), List.getD_eq_getElem?_getD]
              congr 2
              show 8 + k - 8 = k
              omega
            have gw := ul_get (xs := sch (refL bs 8) (64 * j) 64) (i := k) (by rw [sch_len]; omega)
            have hr8 := rd_r (K := KW) (W := sch (refL bs 8) (64 * j) 64) hSr k
            have hxm := xor_max hr8.2.2.2.2.1
            have hxw : IntKind.u32.wrap (4294967295 - ((rd KW (sch (refL bs 8) (64 * j) 64) (compN IV (refL bs 8) j) k)).e) = bits .xor .u32 4294967295 ((rd KW (sch (refL bs 8) (64 * j) 64) (compN IV (refL bs 8) j) k)).e := by
              rw [hxm, w32]; have h1 := hr8.2.2.2.2.1.1; have h2 := hr8.2.2.2.2.1.2; omega
            refine AW.skip ?_
            refine Thn_n ?_
            refine hK _ _ ?_
            clear hK K
            refine AW.seq_k fun K hK => ?_
            refine AW.block ?_
            refine AW.seq_k fun K hK => ?_
            refine AW.draw [.val, .rd 0, .ext, .val, .rd 0, .ext, .val, .val, .rd 0, .ext, .val, .val] fol (by decide) (by kernel_rfl) ?_
            simp only [push_cast, Nat.reduceAdd, Nat.reduceMul, Nat.reduceSub, Nat.reduceLeDiff, Nat.reduceLT, Nat.reduceEqDiff, Nat.reduceBEq, Nat.reduceBNe, Nat.reduceMod, Nat.reduceDiv, Int.reduceLE, Int.reduceLT, Int.reduceToNat, Int.reduceAdd, Int.reduceSub, Int.reduceMul, Int.reduceNeg, Int.reduceEq, Int.reduceBEq, Int.reduceBNe, ↓reduceIte, reduceCtorEq, String.reduceBNe, String.reduceEq, reduceDIte, Nat.reducePow, hb, lk_old hb, ha1, ha2, ha3, ha4, ha5, hz0, hk0, hw1, hvl, hvv, g0, g1, g2, g3, g4, g5, g6, g7, u8l_len, ul_len, u8lset, hf, Int.le_refl, Nat.le_refl, q3, c3, c4, gk, gw, hxw]
            refine DCall.by0 (turn_c _ 6 _ (by decide)) ?_
            simp only [push_cast, Nat.reduceAdd, Nat.reduceMul, Nat.reduceSub, Nat.reduceLeDiff, Nat.reduceLT, Nat.reduceEqDiff, Nat.reduceBEq, Nat.reduceBNe, Nat.reduceMod, Nat.reduceDiv, Int.reduceLE, Int.reduceLT, Int.reduceToNat, Int.reduceAdd, Int.reduceSub, Int.reduceMul, Int.reduceNeg, Int.reduceEq, Int.reduceBEq, Int.reduceBNe, ↓reduceIte, reduceCtorEq, String.reduceBNe, String.reduceEq, reduceDIte, Nat.reducePow, hb, lk_old hb, ha1, ha2, ha3, ha4, ha5, hz0, hk0, hw1, hvl, hvv, g0, g1, g2, g3, g4, g5, g6, g7, u8l_len, ul_len, u8lset, hf, Int.le_refl, Nat.le_refl, q3, c3, c4, gk, gw, hxw]
            refine DCall.by0 (turn_c _ 11 _ (by decide)) ?_
            simp only [push_cast, Nat.reduceAdd, Nat.reduceMul, Nat.reduceSub, Nat.reduceLeDiff, Nat.reduceLT, Nat.reduceEqDiff, Nat.reduceBEq, Nat.reduceBNe, Nat.reduceMod, Nat.reduceDiv, Int.reduceLE, Int.reduceLT, Int.reduceToNat, Int.reduceAdd, Int.reduceSub, Int.reduceMul, Int.reduceNeg, Int.reduceEq, Int.reduceBEq, Int.reduceBNe, ↓reduceIte, reduceCtorEq, String.reduceBNe, String.reduceEq, reduceDIte, Nat.reducePow, hb, lk_old hb, ha1, ha2, ha3, ha4, ha5, hz0, hk0, hw1, hvl, hvv, g0, g1, g2, g3, g4, g5, g6, g7, u8l_len, ul_len, u8lset, hf, Int.le_refl, Nat.le_refl, q3, c3, c4, gk, gw, hxw]
            refine DCall.by0 (turn_c _ 25 _ (by decide)) ?_
            simp only [push_cast, Nat.reduceAdd, Nat.reduceMul, Nat.reduceSub, Nat.reduceLeDiff, Nat.reduceLT, Nat.reduceEqDiff, Nat.reduceBEq, Nat.reduceBNe, Nat.reduceMod, Nat.reduceDiv, Int.reduceLE, Int.reduceLT, Int.reduceToNat, Int.reduceAdd, Int.reduceSub, Int.reduceMul, Int.reduceNeg, Int.reduceEq, Int.reduceBEq, Int.reduceBNe, ↓reduceIte, reduceCtorEq, String.reduceBNe, String.reduceEq, reduceDIte, Nat.reducePow, hb, lk_old hb, ha1, ha2, ha3, ha4, ha5, hz0, hk0, hw1, hvl, hvv, g0, g1, g2, g3, g4, g5, g6, g7, u8l_len, ul_len, u8lset, hf, Int.le_refl, Nat.le_refl, q3, c3, c4, gk, gw, hxw]
            refine Thn_n ?_
            refine hK _ _ ?_
            clear hK K
            refine AW.seq_k fun K hK => ?_
            refine AW.region (by decide) ?_
            simp only [push_cast, Nat.reduceAdd, Nat.reduceMul, Nat.reduceSub, Nat.reduceLeDiff, Nat.reduceLT, Nat.reduceEqDiff, Nat.reduceBEq, Nat.reduceBNe, Nat.reduceMod, Nat.reduceDiv, Int.reduceLE, Int.reduceLT, Int.reduceToNat, Int.reduceAdd, Int.reduceSub, Int.reduceMul, Int.reduceNeg, Int.reduceEq, Int.reduceBEq, Int.reduceBNe, ↓reduceIte, reduceCtorEq, String.reduceBNe, String.reduceEq, reduceDIte, Nat.reducePow, hb, lk_old hb, ha1, ha2, ha3, ha4, ha5, hz0, hk0, hw1, hvl, hvv, g0, g1, g2, g3, g4, g5, g6, g7, u8l_len, ul_len, u8lset, hf, Int.le_refl, Nat.le_refl, q3, c3, c4, gk, gw, hxw]
            refine Thn_n ?_
            refine hK _ _ ?_
            clear hK K
            refine AW.seq_k fun K hK => ?_
            refine AW.draw [.val, .rd 0, .val, .val, .val, .val, .val, .val, .val, .rd 0, .val, .val, .val, .rd 0, .val, .val] fol (by decide) (by kernel_rfl) ?_
            simp only [push_cast, Nat.reduceAdd, Nat.reduceMul, Nat.reduceSub, Nat.reduceLeDiff, Nat.reduceLT, Nat.reduceEqDiff, Nat.reduceBEq, Nat.reduceBNe, Nat.reduceMod, Nat.reduceDiv, Int.reduceLE, Int.reduceLT, Int.reduceToNat, Int.reduceAdd, Int.reduceSub, Int.reduceMul, Int.reduceNeg, Int.reduceEq, Int.reduceBEq, Int.reduceBNe, ↓reduceIte, reduceCtorEq, String.reduceBNe, String.reduceEq, reduceDIte, Nat.reducePow, hb, lk_old hb, ha1, ha2, ha3, ha4, ha5, hz0, hk0, hw1, hvl, hvv, g0, g1, g2, g3, g4, g5, g6, g7, u8l_len, ul_len, u8lset, hf, Int.le_refl, Nat.le_refl, q3, c3, c4, gk, gw, hxw]
            refine Thn_n ?_
            refine hK _ _ ?_
            clear hK K
            refine AW.seq_k fun K hK => ?_
            refine AW.draw [.val, .rd 0, .ext, .val, .rd 0, .ext, .val, .val, .rd 0, .ext, .val, .val] fol (by decide) (by kernel_rfl) ?_
            simp only [push_cast, Nat.reduceAdd, Nat.reduceMul, Nat.reduceSub, Nat.reduceLeDiff, Nat.reduceLT, Nat.reduceEqDiff, Nat.reduceBEq, Nat.reduceBNe, Nat.reduceMod, Nat.reduceDiv, Int.reduceLE, Int.reduceLT, Int.reduceToNat, Int.reduceAdd, Int.reduceSub, Int.reduceMul, Int.reduceNeg, Int.reduceEq, Int.reduceBEq, Int.reduceBNe, ↓reduceIte, reduceCtorEq, String.reduceBNe, String.reduceEq, reduceDIte, Nat.reducePow, hb, lk_old hb, ha1, ha2, ha3, ha4, ha5, hz0, hk0, hw1, hvl, hvv, g0, g1, g2, g3, g4, g5, g6, g7, u8l_len, ul_len, u8lset, hf, Int.le_refl, Nat.le_refl, q3, c3, c4, gk, gw, hxw]
            refine DCall.by0 (turn_c _ 2 _ (by decide)) ?_
            simp only [push_cast, Nat.reduceAdd, Nat.reduceMul, Nat.reduceSub, Nat.reduceLeDiff, Nat.reduceLT, Nat.reduceEqDiff, Nat.reduceBEq, Nat.reduceBNe, Nat.reduceMod, Nat.reduceDiv, Int.reduceLE, Int.reduceLT, Int.reduceToNat, Int.reduceAdd, Int.reduceSub, Int.reduceMul, Int.reduceNeg, Int.reduceEq, Int.reduceBEq, Int.reduceBNe, ↓reduceIte, reduceCtorEq, String.reduceBNe, String.reduceEq, reduceDIte, Nat.reducePow, hb, lk_old hb, ha1, ha2, ha3, ha4, ha5, hz0, hk0, hw1, hvl, hvv, g0, g1, g2, g3, g4, g5, g6, g7, u8l_len, ul_len, u8lset, hf, Int.le_refl, Nat.le_refl, q3, c3, c4, gk, gw, hxw]
            refine DCall.by0 (turn_c _ 13 _ (by decide)) ?_
            simp only [push_cast, Nat.reduceAdd, Nat.reduceMul, Nat.reduceSub, Nat.reduceLeDiff, Nat.reduceLT, Nat.reduceEqDiff, Nat.reduceBEq, Nat.reduceBNe, Nat.reduceMod, Nat.reduceDiv, Int.reduceLE, Int.reduceLT, Int.reduceToNat, Int.reduceAdd, Int.reduceSub, Int.reduceMul, Int.reduceNeg, Int.reduceEq, Int.reduceBEq, Int.reduceBNe, ↓reduceIte, reduceCtorEq, String.reduceBNe, String.reduceEq, reduceDIte, Nat.reducePow, hb, lk_old hb, ha1, ha2, ha3, ha4, ha5, hz0, hk0, hw1, hvl, hvv, g0, g1, g2, g3, g4, g5, g6, g7, u8l_len, ul_len, u8lset, hf, Int.le_refl, Nat.le_refl, q3, c3, c4, gk, gw, hxw]
            refine DCall.by0 (turn_c _ 22 _ (by decide)) ?_
            simp only [push_cast, Nat.reduceAdd, Nat.reduceMul, Nat.reduceSub, Nat.reduceLeDiff, Nat.reduceLT, Nat.reduceEqDiff, Nat.reduceBEq, Nat.reduceBNe, Nat.reduceMod, Nat.reduceDiv, Int.reduceLE, Int.reduceLT, Int.reduceToNat, Int.reduceAdd, Int.reduceSub, Int.reduceMul, Int.reduceNeg, Int.reduceEq, Int.reduceBEq, Int.reduceBNe, ↓reduceIte, reduceCtorEq, String.reduceBNe, String.reduceEq, reduceDIte, Nat.reducePow, hb, lk_old hb, ha1, ha2, ha3, ha4, ha5, hz0, hk0, hw1, hvl, hvv, g0, g1, g2, g3, g4, g5, g6, g7, u8l_len, ul_len, u8lset, hf, Int.le_refl, Nat.le_refl, q3, c3, c4, gk, gw, hxw]
            refine Thn_n ?_
            refine hK _ _ ?_
            clear hK K
            refine AW.seq_k fun K hK => ?_
            refine AW.region (by decide) ?_
            simp only [push_cast, Nat.reduceAdd, Nat.reduceMul, Nat.reduceSub, Nat.reduceLeDiff, Nat.reduceLT, Nat.reduceEqDiff, Nat.reduceBEq, Nat.reduceBNe, Nat.reduceMod, Nat.reduceDiv, Int.reduceLE, Int.reduceLT, Int.reduceToNat, Int.reduceAdd, Int.reduceSub, Int.reduceMul, Int.reduceNeg, Int.reduceEq, Int.reduceBEq, Int.reduceBNe, ↓reduceIte, reduceCtorEq, String.reduceBNe, String.reduceEq, reduceDIte, Nat.reducePow, hb, lk_old hb, ha1, ha2, ha3, ha4, ha5, hz0, hk0, hw1, hvl, hvv, g0, g1, g2, g3, g4, g5, g6, g7, u8l_len, ul_len, u8lset, hf, Int.le_refl, Nat.le_refl, q3, c3, c4, gk, gw, hxw]
            refine Thn_n ?_
            refine hK _ _ ?_
            clear hK K
            refine AW.region (by decide) ?_
            simp only [push_cast, Nat.reduceAdd, Nat.reduceMul, Nat.reduceSub, Nat.reduceLeDiff, Nat.reduceLT, Nat.reduceEqDiff, Nat.reduceBEq, Nat.reduceBNe, Nat.reduceMod, Nat.reduceDiv, Int.reduceLE, Int.reduceLT, Int.reduceToNat, Int.reduceAdd, Int.reduceSub, Int.reduceMul, Int.reduceNeg, Int.reduceEq, Int.reduceBEq, Int.reduceBNe, ↓reduceIte, reduceCtorEq, String.reduceBNe, String.reduceEq, reduceDIte, Nat.reducePow, hb, lk_old hb, ha1, ha2, ha3, ha4, ha5, hz0, hk0, hw1, hvl, hvv, g0, g1, g2, g3, g4, g5, g6, g7, u8l_len, ul_len, u8lset, hf, Int.le_refl, Nat.le_refl, q3, c3, c4, gk, gw, hxw]
            refine InB_n ?_
            refine Thn_n ?_
            refine hK _ _ ?_
            clear hK K
            refine AW.region (by decide) ?_
            simp only [push_cast, Nat.reduceAdd, Nat.reduceMul, Nat.reduceSub, Nat.reduceLeDiff, Nat.reduceLT, Nat.reduceEqDiff, Nat.reduceBEq, Nat.reduceBNe, Nat.reduceMod, Nat.reduceDiv, Int.reduceLE, Int.reduceLT, Int.reduceToNat, Int.reduceAdd, Int.reduceSub, Int.reduceMul, Int.reduceNeg, Int.reduceEq, Int.reduceBEq, Int.reduceBNe, ↓reduceIte, reduceCtorEq, String.reduceBNe, String.reduceEq, reduceDIte, Nat.reducePow, hb, lk_old hb, ha1, ha2, ha3, ha4, ha5, hz0, hk0, hw1, hvl, hvv, g0, g1, g2, g3, g4, g5, g6, g7, u8l_len, ul_len, u8lset, hf, Int.le_refl, Nat.le_refl, q3, c3, c4, gk, gw, hxw]
            refine Thn_n ?_
            have hwi : IntKind.i64.wrap ((k:Int)+1) = (k:Int)+1 := wi (by omega)
            refine ⟨k + 1, hlt64, by omega, ?_⟩
            try simp only [keepL, setAll, push_cast, Nat.reduceAdd, Nat.reduceMul, Nat.reduceSub, Nat.reduceLeDiff, Nat.reduceLT, Nat.reduceEqDiff, Nat.reduceBEq, Nat.reduceBNe, Nat.reduceMod, Nat.reduceDiv, Int.reduceLE, Int.reduceLT, Int.reduceToNat, Int.reduceAdd, Int.reduceSub, Int.reduceMul, Int.reduceNeg, Int.reduceEq, Int.reduceBEq, Int.reduceBNe, ↓reduceIte, reduceCtorEq, String.reduceBNe, String.reduceEq, reduceDIte, Nat.reducePow, hb, lk_old hb, ha1, ha2, ha3, ha4, ha5, hz0, hk0, hw1, hvl, hvv, g0, g1, g2, g3, g4, g5, g6, g7, u8l_len, ul_len, u8lset, hf, Int.le_refl, Nat.le_refl, q3, c3, c4, gk, gw, hxw, hwi, rd, rdF, t1F, a32, S0, S1, chF, maF, a32_assoc]
            exact Weak.same (by simp only [Keeps, Tm.get_cons, Nat.reduceEqDiff, ↓reduceIte, if_true, if_false, ite_true, ite_false, true_and, and_true, and_self, reduceCtorEq, hwi, rd, rdF, t1F, a32, S0, S1, chF, maF, a32_assoc]) (by first | rfl | simp only [Keeps, Tm.get_cons, Nat.reduceEqDiff, ↓reduceIte, if_true, if_false, ite_true, ite_false, true_and, and_true, and_self, reduceCtorEq, hwi, rd, rdF, t1F, a32, S0, S1, chF, maF, a32_assoc])
          · have hke : k = 64 := by have := of_decide_eq_false h161; omega
            subst hke
            refine AW.exit ?_
            refine Thn_e ?_
            clear hK K
            refine Thn_e ?_
            refine InB_here ?_
            refine Thn_n ?_
            refine hK _ _ ?_
            clear hK K
            refine AW.seq_k fun K hK => ?_
            refine AW.region (by decide) ?_
            simp only [push_cast, Nat.reduceAdd, Nat.reduceMul, Nat.reduceSub, Nat.reduceLeDiff, Nat.reduceLT, Nat.reduceEqDiff, Nat.reduceBEq, Nat.reduceBNe, Nat.reduceMod, Nat.reduceDiv, Int.reduceLE, Int.reduceLT, Int.reduceToNat, Int.reduceAdd, Int.reduceSub, Int.reduceMul, Int.reduceNeg, Int.reduceEq, Int.reduceBEq, Int.reduceBNe, ↓reduceIte, reduceCtorEq, String.reduceBNe, String.reduceEq, reduceDIte, Nat.reducePow, hb, lk_old hb, ha1, ha2, ha3, ha4, ha5, hz0, hk0, hw1, hvl, hvv, g0, g1, g2, g3, g4, g5, g6, g7, u8l_len, ul_len, u8lset, hf, Int.le_refl, Nat.le_refl, q3]
            refine Thn_n ?_
            refine hK _ _ ?_
            clear hK K
            refine AW.block ?_
            refine AW.rounds 9 ?_
            iterate 8
              refine ARounds.succ fun K hK => ?_
              refine AW.seq_k fun K hK => ?_
              refine AW.seq_k fun K hK => ?_
              refine AW.region (by decide) ?_
              simp only [push_cast, Nat.reduceAdd, Nat.reduceMul, Nat.reduceSub, Nat.reduceLeDiff, Nat.reduceLT, Nat.reduceEqDiff, Nat.reduceBEq, Nat.reduceBNe, Nat.reduceMod, Nat.reduceDiv, Int.reduceLE, Int.reduceLT, Int.reduceToNat, Int.reduceAdd, Int.reduceSub, Int.reduceMul, Int.reduceNeg, Int.reduceEq, Int.reduceBEq, Int.reduceBNe, ↓reduceIte, reduceCtorEq, String.reduceBNe, String.reduceEq, reduceDIte, Nat.reducePow, hb, lk_old hb, ha1, ha2, ha3, ha4, ha5, hz0, hk0, hw1, hvl, hvv, g0, g1, g2, g3, g4, g5, g6, g7, u8l_len, ul_len, u8lset, hf, Int.le_refl, Nat.le_refl, q3]
              refine Thn_n ?_
              refine hK _ _ ?_
              clear hK K
              refine AW.cond_t rfl ?_
              refine AW.skip ?_
              refine Thn_n ?_
              refine hK _ _ ?_
              clear hK K
              refine AW.seq_k fun K hK => ?_
              refine AW.block ?_
              refine AW.draw [.val, .val, .val, .rd 0, .val, .val, .rd 0, .val, .val, .wr] fol (by decide) (by kernel_rfl) ?_
              simp only [push_cast, Nat.reduceAdd, Nat.reduceMul, Nat.reduceSub, Nat.reduceLeDiff, Nat.reduceLT, Nat.reduceEqDiff, Nat.reduceBEq, Nat.reduceBNe, Nat.reduceMod, Nat.reduceDiv, Int.reduceLE, Int.reduceLT, Int.reduceToNat, Int.reduceAdd, Int.reduceSub, Int.reduceMul, Int.reduceNeg, Int.reduceEq, Int.reduceBEq, Int.reduceBNe, ↓reduceIte, reduceCtorEq, String.reduceBNe, String.reduceEq, reduceDIte, Nat.reducePow, hb, lk_old hb, ha1, ha2, ha3, ha4, ha5, hz0, hk0, hw1, hvl, hvv, g0, g1, g2, g3, g4, g5, g6, g7, u8l_len, ul_len, u8lset, hf, Int.le_refl, Nat.le_refl, q3]
              refine InB_n ?_
              refine Thn_n ?_
              refine hK _ _ ?_
              clear hK K
              refine AW.region (by decide) ?_
              simp only [push_cast, Nat.reduceAdd, Nat.reduceMul, Nat.reduceSub, Nat.reduceLeDiff, Nat.reduceLT, Nat.reduceEqDiff, Nat.reduceBEq, Nat.reduceBNe, Nat.reduceMod, Nat.reduceDiv, Int.reduceLE, Int.reduceLT, Int.reduceToNat, Int.reduceAdd, Int.reduceSub, Int.reduceMul, Int.reduceNeg, Int.reduceEq, Int.reduceBEq, Int.reduceBNe, ↓reduceIte, reduceCtorEq, String.reduceBNe, String.reduceEq, reduceDIte, Nat.reducePow, hb, lk_old hb, ha1, ha2, ha3, ha4, ha5, hz0, hk0, hw1, hvl, hvv, g0, g1, g2, g3, g4, g5, g6, g7, u8l_len, ul_len, u8lset, hf, Int.le_refl, Nat.le_refl, q3]
              refine Thn_n ?_
              refine hK _ _ ?_
              clear hK K
            refine ARounds.succ fun K hK => ?_
            refine AW.seq_k fun K hK => ?_
            refine AW.seq_k fun K hK => ?_
            refine AW.region (by decide) ?_
            simp only [push_cast, Nat.reduceAdd, Nat.reduceMul, Nat.reduceSub, Nat.reduceLeDiff, Nat.reduceLT, Nat.reduceEqDiff, Nat.reduceBEq, Nat.reduceBNe, Nat.reduceMod, Nat.reduceDiv, Int.reduceLE, Int.reduceLT, Int.reduceToNat, Int.reduceAdd, Int.reduceSub, Int.reduceMul, Int.reduceNeg, Int.reduceEq, Int.reduceBEq, Int.reduceBNe, ↓reduceIte, reduceCtorEq, String.reduceBNe, String.reduceEq, reduceDIte, Nat.reducePow, hb, lk_old hb, ha1, ha2, ha3, ha4, ha5, hz0, hk0, hw1, hvl, hvv, g0, g1, g2, g3, g4, g5, g6, g7, u8l_len, ul_len, u8lset, hf, Int.le_refl, Nat.le_refl, q3]
            refine Thn_n ?_
            refine hK _ _ ?_
            clear hK K
            refine AW.cond_f rfl ?_
            refine AW.exit ?_
            refine Thn_e ?_
            clear hK K
            refine Thn_e ?_
            clear hK K
            refine InB_here ?_
            refine InB_n ?_
            refine Thn_n ?_
            refine hK _ _ ?_
            clear hK K
            refine AW.region (by decide) ?_
            simp only [push_cast, Nat.reduceAdd, Nat.reduceMul, Nat.reduceSub, Nat.reduceLeDiff, Nat.reduceLT, Nat.reduceEqDiff, Nat.reduceBEq, Nat.reduceBNe, Nat.reduceMod, Nat.reduceDiv, Int.reduceLE, Int.reduceLT, Int.reduceToNat, Int.reduceAdd, Int.reduceSub, Int.reduceMul, Int.reduceNeg, Int.reduceEq, Int.reduceBEq, Int.reduceBNe, ↓reduceIte, reduceCtorEq, String.reduceBNe, String.reduceEq, reduceDIte, Nat.reducePow, hb, lk_old hb, ha1, ha2, ha3, ha4, ha5, hz0, hk0, hw1, hvl, hvv, g0, g1, g2, g3, g4, g5, g6, g7, u8l_len, ul_len, u8lset, hf, Int.le_refl, Nat.le_refl, q3]
            refine Thn_n ?_
            have hwj : IntKind.i64.wrap (64 * (j : Int) + 64) = 64 * ((j : Int) + 1) := by rw [IntKind.wrap_i64]; omega
            have hcn : compN IV (refL bs 8) (j + 1) = add8 (compN IV (refL bs 8) j) (rd KW (sch (refL bs 8) (64 * j) 64) (compN IV (refL bs 8) j) 64) := rfl
            refine ⟨j + 1, by omega, by omega, ?_⟩
            try simp only [keepL, setAll, push_cast, Nat.reduceAdd, Nat.reduceMul, Nat.reduceSub, Nat.reduceLeDiff, Nat.reduceLT, Nat.reduceEqDiff, Nat.reduceBEq, Nat.reduceBNe, Nat.reduceMod, Nat.reduceDiv, Int.reduceLE, Int.reduceLT, Int.reduceToNat, Int.reduceAdd, Int.reduceSub, Int.reduceMul, Int.reduceNeg, Int.reduceEq, Int.reduceBEq, Int.reduceBNe, ↓reduceIte, reduceCtorEq, String.reduceBNe, String.reduceEq, reduceDIte, Nat.reducePow, hb, lk_old hb, ha1, ha2, ha3, ha4, ha5, hz0, hk0, hw1, hvl, hvv, g0, g1, g2, g3, g4, g5, g6, g7, u8l_len, ul_len, u8lset, hf, Int.le_refl, Nat.le_refl, q3, hwj, hcn, add8, a32]
            exact Weak.to (extra := [_, _]) (by simp only [Keeps, Tm.get_cons, Nat.reduceEqDiff, ↓reduceIte, if_true, if_false, ite_true, ite_false, true_and, and_true, and_self, reduceCtorEq, hwj, hcn, add8, a32]) (by first | rfl | (simp only [List.append_assoc, List.cons_append, List.nil_append]; rfl)) (by first | rfl | (simp [AV.below, CV.below, u8l_below, ul_below]; done) | (simp [AV.below, CV.below, u8l_below, ul_below]; omega)) (by
              first | exact hwf | refine MWf.app (hwf.grow (by simp)) ?_
              repeat (first | exact MWf_nil | (refine MWf_cons ?_ ?_; · first | rfl | (simp [CV.below, u8l_below, ul_below]; done) | (simp [CV.below, u8l_below, ul_below]; omega))))
      · have hje : j = (refL bs 8).length / 64 := by have := of_decide_eq_false h58; omega
        subst hje
        have hfin := ref_sha bs hl
        obtain ⟨S0, hS0⟩ : ∃ S0, compN IV (refL bs 8) ((refL bs 8).length / 64) = S0 := ⟨_, rfl⟩
        rw [hS0] at hfin
        have hd0 : u8l (dQ S0 0) = [.int .u8 0, .int .u8 0, .int .u8 0, .int .u8 0, .int .u8 0, .int .u8 0, .int .u8 0, .int .u8 0, .int .u8 0, .int .u8 0, .int .u8 0, .int .u8 0, .int .u8 0, .int .u8 0, .int .u8 0, .int .u8 0, .int .u8 0, .int .u8 0, .int .u8 0, .int .u8 0, .int .u8 0, .int .u8 0, .int .u8 0, .int .u8 0, .int .u8 0, .int .u8 0, .int .u8 0, .int .u8 0, .int .u8 0, .int .u8 0, .int .u8 0, .int .u8 0] := rfl
        refine AW.exit ?_
        refine Thn_e ?_
        clear hK K
        refine Thn_e ?_
        refine InB_here ?_
        refine Thn_n ?_
        refine hK _ _ ?_
        clear hK K
        refine AW.seq_k fun K hK => ?_
        refine AW.region (by decide) ?_
        simp only [push_cast, Nat.reduceAdd, Nat.reduceMul, Nat.reduceSub, Nat.reduceLeDiff, Nat.reduceLT, Nat.reduceEqDiff, Nat.reduceBEq, Nat.reduceBNe, Nat.reduceMod, Nat.reduceDiv, Int.reduceLE, Int.reduceLT, Int.reduceToNat, Int.reduceAdd, Int.reduceSub, Int.reduceMul, Int.reduceNeg, Int.reduceEq, Int.reduceBEq, Int.reduceBNe, ↓reduceIte, reduceCtorEq, String.reduceBNe, String.reduceEq, reduceDIte, Nat.reducePow, hb, lk_old hb, ha1, ha2, ha3, ha4, ha5, hz0, hk0, hw1, hvl, hvv, g0, g1, g2, g3, g4, g5, g6, g7, u8l_len, ul_len, u8lset, hf, Int.le_refl, Nat.le_refl, q3, hS0]
        refine Thn_n ?_
        refine hK _ _ ?_
        clear hK K
        refine AW.seq_k fun K hK => ?_
        refine AW.seq_k fun K hK => ?_
        refine AW.region (by decide) ?_
        simp only [push_cast, Nat.reduceAdd, Nat.reduceMul, Nat.reduceSub, Nat.reduceLeDiff, Nat.reduceLT, Nat.reduceEqDiff, Nat.reduceBEq, Nat.reduceBNe, Nat.reduceMod, Nat.reduceDiv, Int.reduceLE, Int.reduceLT, Int.reduceToNat, Int.reduceAdd, Int.reduceSub, Int.reduceMul, Int.reduceNeg, Int.reduceEq, Int.reduceBEq, Int.reduceBNe, ↓reduceIte, reduceCtorEq, String.reduceBNe, String.reduceEq, reduceDIte, Nat.reducePow, hb, lk_old hb, ha1, ha2, ha3, ha4, ha5, hz0, hk0, hw1, hvl, hvv, g0, g1, g2, g3, g4, g5, g6, g7, u8l_len, ul_len, u8lset, hf, Int.le_refl, Nat.le_refl, q3, hS0]
        refine Thn_n ?_
        refine hK _ _ ?_
        clear hK K
        refine AW.block ?_
        refine AW.loopK [4, 8, 22] (fun i => i ≤ (32 : Nat)) (fun i => [(23, .one (.int .i64 (i : Int)))]) (fun i => [(m.length + 5, ⟨.fix, 26, 0, 0, u8l (dQ S0 i)⟩)]) (fun i => 32 - i) 0 (by omega) ?_ ?_ fun i hi84 => ?_
        · first | rfl | (simp only [Keeps, Tm.get_cons, Nat.reduceEqDiff, ↓reduceIte, if_true, if_false, ite_true, ite_false, true_and, and_true, and_self, reduceCtorEq, hd0, Int.natCast_zero] <;> rfl)
        · first | rfl | (simp only [setAll, push_cast, Nat.reduceAdd, Nat.reduceMul, Nat.reduceSub, Nat.reduceLeDiff, Nat.reduceLT, Nat.reduceEqDiff, Nat.reduceBEq, Nat.reduceBNe, Nat.reduceMod, Nat.reduceDiv, Int.reduceLE, Int.reduceLT, Int.reduceToNat, Int.reduceAdd, Int.reduceSub, Int.reduceMul, Int.reduceNeg, Int.reduceEq, Int.reduceBEq, Int.reduceBNe, ↓reduceIte, reduceCtorEq, String.reduceBNe, String.reduceEq, reduceDIte, Nat.reducePow, hb, lk_old hb, ha1, ha2, ha3, ha4, ha5, hz0, hk0, hw1, hvl, hvv, g0, g1, g2, g3, g4, g5, g6, g7, u8l_len, ul_len, u8lset, hf, Int.le_refl, Nat.le_refl, q3, hS0, hd0, Int.natCast_zero] <;> rfl)
        have hi32 : i ≤ 32 := hi84
        try simp only [keepL, setAll, push_cast, Nat.reduceAdd, Nat.reduceMul, Nat.reduceSub, Nat.reduceLeDiff, Nat.reduceLT, Nat.reduceEqDiff, Nat.reduceBEq, Nat.reduceBNe, Nat.reduceMod, Nat.reduceDiv, Int.reduceLE, Int.reduceLT, Int.reduceToNat, Int.reduceAdd, Int.reduceSub, Int.reduceMul, Int.reduceNeg, Int.reduceEq, Int.reduceBEq, Int.reduceBNe, ↓reduceIte, reduceCtorEq, String.reduceBNe, String.reduceEq, reduceDIte, Nat.reducePow, hb, lk_old hb, ha1, ha2, ha3, ha4, ha5, hz0, hk0, hw1, hvl, hvv, g0, g1, g2, g3, g4, g5, g6, g7, u8l_len, ul_len, u8lset, hf, Int.le_refl, Nat.le_refl, q3, hS0]
        refine AW.seq_k fun K hK => ?_
        refine AW.seq_k fun K hK => ?_
        refine AW.region (by decide) ?_
        simp only [push_cast, Nat.reduceAdd, Nat.reduceMul, Nat.reduceSub, Nat.reduceLeDiff, Nat.reduceLT, Nat.reduceEqDiff, Nat.reduceBEq, Nat.reduceBNe, Nat.reduceMod, Nat.reduceDiv, Int.reduceLE, Int.reduceLT, Int.reduceToNat, Int.reduceAdd, Int.reduceSub, Int.reduceMul, Int.reduceNeg, Int.reduceEq, Int.reduceBEq, Int.reduceBNe, ↓reduceIte, reduceCtorEq, String.reduceBNe, String.reduceEq, reduceDIte, Nat.reducePow, hb, lk_old hb, ha1, ha2, ha3, ha4, ha5, hz0, hk0, hw1, hvl, hvv, g0, g1, g2, g3, g4, g5, g6, g7, u8l_len, ul_len, u8lset, hf, Int.le_refl, Nat.le_refl, q3, hS0]
        refine Thn_n ?_
        refine hK _ _ ?_
        clear hK K
        refine AW.cond rfl (fun h266 => ?_) (fun h266 => ?_)
        · have hlt32 : i < 32 := by have := of_decide_eq_true h266; omega
          have c3 : (0 : Int) ≤ (i : Int) := by omega
          have c4 : (i : Int) < 32 := by omega
          have v0 : IntKind.i64.wrap ((i : Int).tdiv 4) = ((i / 4 : Nat) : Int) := by
            have : (i : Int).tdiv 4 = ((i / 4 : Nat) : Int) := rfl
            rw [this]; exact wi (by omega)
          have v1 : (i : Int).tmod 4 = ((i % 4 : Nat) : Int) := rfl
          have gh := hS_get S0 (i := i / 4) (by omega)
          simp only [hS] at gh
          have c5 : (0 : Int) ≤ ((i / 4 : Nat) : Int) := by omega
          have c6 : ((i / 4 : Nat) : Int) < 8 := by omega
          have v2 : IntKind.i64.wrap (3 - ((i % 4 : Nat) : Int)) = 3 - ((i % 4 : Nat) : Int) := wi (by omega)
          have v3 : IntKind.u64.wrap (3 - ((i % 4 : Nat) : Int)) = ((3 - i % 4 : Nat) : Int) := by rw [IntKind.wrap_u64]; omega
          have v4 : IntKind.u64.wrap (8 * ((3 - i % 4 : Nat) : Int)) = ((8 * (3 - i % 4) : Nat) : Int) := by rw [IntKind.wrap_u64]; omega
          have v5 : ¬ ((8 * (3 - i % 4) : Nat) : Int) < 0 := by omega
          have v6 : (2 : Int) ^ min (8 * (3 - i % 4)) IntKind.u32.bits = 2 ^ (8 * (3 - i % 4)) := by rw [show IntKind.u32.bits = 32 from rfl, Nat.min_eq_left (by omega)]
          have hds := dQ_set S0 hlt32
          have hdl := dQ_len S0 (i := i) (by omega)
          have c7 : i + 1 ≤ 32 := by omega
          generalize hsh : 8 * (3 - i % 4) = sh at v4 v5 v6 hds
          generalize hsv : 3 - i % 4 = sv at v3 v4
          generalize hi4 : i / 4 = q at v0 gh c5 c6 hds
          generalize hm4 : i % 4 = r at v1 v2 v3
          refine AW.skip ?_
          refine Thn_n ?_
          refine hK _ _ ?_
          clear hK K
          refine AW.seq_k fun K hK => ?_
          refine AW.block ?_
          refine AW.region (by decide) ?_
          simp only [push_cast, Nat.reduceAdd, Nat.reduceMul, Nat.reduceSub, Nat.reduceLeDiff, Nat.reduceLT, Nat.reduceEqDiff, Nat.reduceBEq, Nat.reduceBNe, Nat.reduceMod, Nat.reduceDiv, Int.reduceLE, Int.reduceLT, Int.reduceToNat, Int.reduceAdd, Int.reduceSub, Int.reduceMul, Int.reduceNeg, Int.reduceEq, Int.reduceBEq, Int.reduceBNe, ↓reduceIte, reduceCtorEq, String.reduceBNe, String.reduceEq, reduceDIte, Nat.reducePow, hb, lk_old hb, ha1, ha2, ha3, ha4, ha5, hz0, hk0, hw1, hvl, hvv, g0, g1, g2, g3, g4, g5, g6, g7, u8l_len, ul_len, u8lset, hf, Int.le_refl, Nat.le_refl, q3, hS0, c3, c4, v0, v1, gh, c5, c6, v2, v3, v4, v5, v6, hds, hdl, c7]
          refine InB_n ?_
          refine Thn_n ?_
          refine hK _ _ ?_
          clear hK K
          refine AW.region (by decide) ?_
          simp only [push_cast, Nat.reduceAdd, Nat.reduceMul, Nat.reduceSub, Nat.reduceLeDiff, Nat.reduceLT, Nat.reduceEqDiff, Nat.reduceBEq, Nat.reduceBNe, Nat.reduceMod, Nat.reduceDiv, Int.reduceLE, Int.reduceLT, Int.reduceToNat, Int.reduceAdd, Int.reduceSub, Int.reduceMul, Int.reduceNeg, Int.reduceEq, Int.reduceBEq, Int.reduceBNe, ↓reduceIte, reduceCtorEq, String.reduceBNe, String.reduceEq, reduceDIte, Nat.reducePow, hb, lk_old hb, ha1, ha2, ha3, ha4, ha5, hz0, hk0, hw1, hvl, hvv, g0, g1, g2, g3, g4, g5, g6, g7, u8l_len, ul_len, u8lset, hf, Int.le_refl, Nat.le_refl, q3, hS0, c3, c4, v0, v1, gh, c5, c6, v2, v3, v4, v5, v6, hds, hdl, c7]
          refine Thn_n ?_
          have hwi : IntKind.i64.wrap ((i:Int)+1) = (i:Int)+1 := wi (by omega)
          refine ⟨i + 1, hlt32, by omega, ?_⟩
          try simp only [keepL, setAll, push_cast, Nat.reduceAdd, Nat.reduceMul, Nat.reduceSub, Nat.reduceLeDiff, Nat.reduceLT, Nat.reduceEqDiff, Nat.reduceBEq, Nat.reduceBNe, Nat.reduceMod, Nat.reduceDiv, Int.reduceLE, Int.reduceLT, Int.reduceToNat, Int.reduceAdd, Int.reduceSub, Int.reduceMul, Int.reduceNeg, Int.reduceEq, Int.reduceBEq, Int.reduceBNe, ↓reduceIte, reduceCtorEq, String.reduceBNe, String.reduceEq, reduceDIte, Nat.reducePow, hb, lk_old hb, ha1, ha2, ha3, ha4, ha5, hz0, hk0, hw1, hvl, hvv, g0, g1, g2, g3, g4, g5, g6, g7, u8l_len, ul_len, u8lset, hf, Int.le_refl, Nat.le_refl, q3, hS0, c3, c4, v0, v1, gh, c5, c6, v2, v3, v4, v5, v6, hds, hdl, c7, hwi, hds]
          exact Weak.same (by simp only [Keeps, Tm.get_cons, Nat.reduceEqDiff, ↓reduceIte, if_true, if_false, ite_true, ite_false, true_and, and_true, and_self, reduceCtorEq, hwi, hds]) (by first | rfl | simp only [Keeps, Tm.get_cons, Nat.reduceEqDiff, ↓reduceIte, if_true, if_false, ite_true, ite_false, true_and, and_true, and_self, reduceCtorEq, hwi, hds])
        · have hie : i = 32 := by have := of_decide_eq_false h266; omega
          subst hie
          have hdf : u8l (dQ S0 32) = [.int .u8 (IntKind.u8.wrap (S0.a.fdiv 16777216)), .int .u8 (IntKind.u8.wrap (S0.a.fdiv 65536)), .int .u8 (IntKind.u8.wrap (S0.a.fdiv 256)), .int .u8 (IntKind.u8.wrap S0.a), .int .u8 (IntKind.u8.wrap (S0.b.fdiv 16777216)), .int .u8 (IntKind.u8.wrap (S0.b.fdiv 65536)), .int .u8 (IntKind.u8.wrap (S0.b.fdiv 256)), .int .u8 (IntKind.u8.wrap S0.b), .int .u8 (IntKind.u8.wrap (S0.c.fdiv 16777216)), .int .u8 (IntKind.u8.wrap (S0.c.fdiv 65536)), .int .u8 (IntKind.u8.wrap (S0.c.fdiv 256)), .int .u8 (IntKind.u8.wrap S0.c), .int .u8 (IntKind.u8.wrap (S0.d.fdiv 16777216)), .int .u8 (IntKind.u8.wrap (S0.d.fdiv 65536)), .int .u8 (IntKind.u8.wrap (S0.d.fdiv 256)), .int .u8 (IntKind.u8.wrap S0.d), .int .u8 (IntKind.u8.wrap (S0.e.fdiv 16777216)), .int .u8 (IntKind.u8.wrap (S0.e.fdiv 65536)), .int .u8 (IntKind.u8.wrap (S0.e.fdiv 256)), .int .u8 (IntKind.u8.wrap S0.e), .int .u8 (IntKind.u8.wrap (S0.f.fdiv 16777216)), .int .u8 (IntKind.u8.wrap (S0.f.fdiv 65536)), .int .u8 (IntKind.u8.wrap (S0.f.fdiv 256)), .int .u8 (IntKind.u8.wrap S0.f), .int .u8 (IntKind.u8.wrap (S0.g.fdiv 16777216)), .int .u8 (IntKind.u8.wrap (S0.g.fdiv 65536)), .int .u8 (IntKind.u8.wrap (S0.g.fdiv 256)), .int .u8 (IntKind.u8.wrap S0.g), .int .u8 (IntKind.u8.wrap (S0.h.fdiv 16777216)), .int .u8 (IntKind.u8.wrap (S0.h.fdiv 65536)), .int .u8 (IntKind.u8.wrap (S0.h.fdiv 256)), .int .u8 (IntKind.u8.wrap S0.h)] := rfl
          refine AW.exit ?_
          refine Thn_e ?_
          clear hK K
          refine Thn_e ?_
          refine InB_here ?_
          refine Thn_n ?_
          refine hK _ _ ?_
          clear hK K
          refine AW.seq_k fun K hK => ?_
          refine AW.region (by decide) ?_
          simp only [push_cast, Nat.reduceAdd, Nat.reduceMul, Nat.reduceSub, Nat.reduceLeDiff, Nat.reduceLT, Nat.reduceEqDiff, Nat.reduceBEq, Nat.reduceBNe, Nat.reduceMod, Nat.reduceDiv, Int.reduceLE, Int.reduceLT, Int.reduceToNat, Int.reduceAdd, Int.reduceSub, Int.reduceMul, Int.reduceNeg, Int.reduceEq, Int.reduceBEq, Int.reduceBNe, ↓reduceIte, reduceCtorEq, String.reduceBNe, String.reduceEq, reduceDIte, Nat.reducePow, hb, lk_old hb, ha1, ha2, ha3, ha4, ha5, hz0, hk0, hw1, hvl, hvv, g0, g1, g2, g3, g4, g5, g6, g7, u8l_len, ul_len, u8lset, hf, Int.le_refl, Nat.le_refl, q3, hS0, hdf]
          refine Thn_n ?_
          refine hK _ _ ?_
          clear hK K
          refine AW.ret ?_
          refine hQ _ _ _ ?_
          refine RetP.drop (Or.inr rfl) ?_ ?_ hwf
          · simp only [resA, resOne, resTv, AV.tv, push_cast, Nat.reduceAdd, Nat.reduceMul, Nat.reduceSub, Nat.reduceLeDiff, Nat.reduceLT, Nat.reduceEqDiff, Nat.reduceBEq, Nat.reduceBNe, Nat.reduceMod, Nat.reduceDiv, Int.reduceLE, Int.reduceLT, Int.reduceToNat, Int.reduceAdd, Int.reduceSub, Int.reduceMul, Int.reduceNeg, Int.reduceEq, Int.reduceBEq, Int.reduceBNe, ↓reduceIte, reduceCtorEq, String.reduceBNe, String.reduceEq, reduceDIte, Nat.reducePow]
            rw [← hfin]; rfl
          · rfl
          
end Go.Proofs.YtmjbbnfmhgcfaaaDoor

set_option linter.unusedSimpArgs false
set_option linter.unusedVariables false
set_option maxRecDepth 100000
set_option maxHeartbeats 4000000
namespace Go.Proofs.YtmjbbnfmhgcfaaaDoor
open Go Go.Eng

theorem of1_c (lb vl lo : Nat) (c : CV) (bs : List Int) (X : List CV) (kl : BK) (el : Nat) (m : AMem) (hl : m[lb]? = some ⟨kl, 22, vl, el, X⟩) (h0 : X[lo]? = some c) (hp : PartIn m c bs) (hb : bs.length ≤ 1000000) (ho : U8ok bs) :
    Ctr Tryd.prog 18 [.one (.sl lb vl lo 1)] m (.agg (u8l (shaL bs))) m := by
  have h := of_c lb vl lo 1 (fun _ => c) (fun _ => bs) X kl el m hl (fun i hi => by obtain rfl : i = 0 := by omega
                                                                                    exact h0) (fun i _ => hp) (fun i _ => hb) (fun i _ => ho) (by decide)
  simpa only [catP, List.nil_append] using h
theorem of2_c (lb vl lo : Nat) (c c2 : CV) (bs bs2 : List Int) (X : List CV) (kl : BK) (el : Nat) (m : AMem) (hl : m[lb]? = some ⟨kl, 22, vl, el, X⟩) (h0 : X[lo]? = some c) (h1 : X[lo + 1]? = some c2) (hp : PartIn m c bs) (hp2 : PartIn m c2 bs2) (hb : bs.length ≤ 1000000) (hb2 : bs2.length ≤ 1000000) (ho : U8ok bs) (ho2 : U8ok bs2) :
    Ctr Tryd.prog 18 [.one (.sl lb vl lo 2)] m (.agg (u8l (shaL (bs ++ bs2)))) m := by
  have h := of_c lb vl lo 2 (fun i => if i = 0 then c else c2) (fun i => if i = 0 then bs else bs2) X kl el m hl (fun i hi => by
      have hc : i = 0 ∨ i = 1 := by omega
      rcases hc with rfl | rfl
      · exact h0
      · exact h1) (fun i _ => by split <;> assumption) (fun i _ => by split <;> assumption) (fun i _ => by split <;> assumption) (by decide)
  simpa only [catP, List.nil_append, if_true, Nat.succ_ne_self, if_false, Nat.zero_add, Nat.reduceEqDiff, Nat.one_ne_zero, ↓reduceIte] using h
theorem PartIn.row {m : AMem} {rb v off n : Nat} {bs X : List Int} {k : BK} {ty ez : Nat} (hb : m[rb]? = some ⟨k, ty, v, ez, u8l X⟩) (hn : n = bs.length) (hf : off + bs.length ≤ X.length) (hx : (X.drop off).take bs.length = bs) : PartIn m (.sl rb v off n) bs :=
  .inr ⟨rb, k, ty, v, ez, off, X, by rw [hn], hb, hf, hx⟩
theorem PartIn.all {m : AMem} {rb v n : Nat} {bs : List Int} {k : BK} {ty ez : Nat} (hb : m[rb]? = some ⟨k, ty, v, ez, u8l bs⟩) (hn : n = bs.length) : PartIn m (.sl rb v 0 n) bs :=
  .row hb hn (by omega) (by rw [List.drop_zero, List.take_length])
theorem write1_c (rp bb vb lb vl lo : Nat) (s : PS) (c : CV) (bs : List Int) (X : List CV) (kl : BK) (el : Nat) (m : AMem) (hp : m[rp]? = some (prB s.S (.sl bb vb 0 s.r.length) s.n)) (hbb : m[bb]? = some (rowB vb s.r)) (hl : m[lb]? = some ⟨kl, 22, vl, el, X⟩) (nlb : lb ≠ bb)
    (h0 : X[lo]? = some c) (hc : PartAt m bb c bs) (hb : bs.length ≤ 1000000) (ho : U8ok bs) (hr0 : s.r.length < 64) (ho0 : U8ok s.r) : Ctr Tryd.prog 21 [.one (.ptr rp 0 0), .one (.sl lb vl lo 1)] m (.tup []) (pwr m rp bb (vb + 2) (absS s bs)) :=
  write_c rp bb vb lb vl lo 1 s (fun _ => c) (fun _ => bs) X kl el m hp hbb hl nlb (fun i hi => (show i = 0 by have h : i < 1 := hi; omega) ▸ h0) (fun i _ => hc) (fun i _ => hb) (fun i _ => ho) hr0 ho0 (by decide)
theorem PartAt.all {m : AMem} {bb rb v n : Nat} {bs : List Int} {k : BK} {ty ez : Nat} (hb : m[rb]? = some ⟨k, ty, v, ez, u8l bs⟩) (hn : n = bs.length) (hne : rb ≠ bb) : PartAt m bb (.sl rb v 0 n) bs :=
  .inr ⟨rb, k, ty, v, ez, 0, bs, by rw [hn], hne, hb, by omega, by rw [List.drop_zero, List.take_length]⟩
theorem write2_c (rp bb vb lb vl lo : Nat) (s : PS) (c c2 : CV) (bs bs2 : List Int) (X : List CV) (kl : BK) (el : Nat) (m : AMem) (hp : m[rp]? = some (prB s.S (.sl bb vb 0 s.r.length) s.n)) (hbb : m[bb]? = some (rowB vb s.r)) (hl : m[lb]? = some ⟨kl, 22, vl, el, X⟩) (nlb : lb ≠ bb)
    (h0 : X[lo]? = some c) (h1 : X[lo + 1]? = some c2) (hc : PartAt m bb c bs) (hc2 : PartAt m bb c2 bs2) (hb : bs.length ≤ 1000000) (hb2 : bs2.length ≤ 1000000) (ho : U8ok bs) (ho2 : U8ok bs2) (hr0 : PSok s) (ho0 : U8ok s.r) : Ctr Tryd.prog 21 [.one (.ptr rp 0 0), .one (.sl lb vl lo 2)] m (.tup []) (pwr m rp bb (vb + 4) (absS s (bs ++ bs2))) := by
  have h := write_c rp bb vb lb vl lo 2 s (fun i => if i = 0 then c else c2) (fun i => if i = 0 then bs else bs2) X kl el m hp hbb hl nlb (fun i hi => by
      have hcs : i = 0 ∨ i = 1 := by omega
      rcases hcs with rfl | rfl
      · exact h0
      · exact h1) (fun i _ => by split <;> assumption) (fun i _ => by split <;> assumption) (fun i _ => by split <;> assumption) hr0.1 ho0 (by decide)
  have e := accP_cat hr0 (fun i => if i = 0 then bs else bs2) 2
  simp only [catP, List.nil_append, if_true, Nat.succ_ne_self, if_false, Nat.zero_add, Nat.one_ne_zero, ↓reduceIte] at e
  rw [e] at h
  exact h
theorem eqp_u8 (d : Nat) (xs : List Int) : ∀ l : List Nat, (∀ i, i ∈ l → i < xs.length) → eqParts Tryd.prog (eqV Tryd.prog (d + 1)) (u8l xs) (u8l xs) (l.map fun i => (5, i)) = some true
  | [], _ => rfl
  | i :: l, h => by
    have hi := h i List.mem_cons_self
    have ih := eqp_u8 d xs l fun j hj => h j (List.mem_cons_of_mem _ hj)
    have hg := u8l_get hi
    simp only [List.map_cons, eqParts, ih]
    simp only [push_cast, simprocAttr, hg, Option.map_some]
theorem eqp32 {xs : List Int} (h : xs.length = 32) : eqParts Tryd.prog (eqV Tryd.prog 9999) (u8l xs) (u8l xs) (List.map (fun i => (5, i)) (List.range' 0 32)) = some true :=
  eqp_u8 9998 xs _ fun i hi => by rw [h]; simp [List.mem_range'] at hi; omega
end Go.Proofs.YtmjbbnfmhgcfaaaDoor

set_option linter.unusedSimpArgs false
set_option linter.unusedVariables false
set_option maxRecDepth 100000
set_option maxHeartbeats 4000000
namespace Go.Proofs.YtmjbbnfmhgcfaaaDoor
open Go Go.Eng

/-- A number's bytes, the least first. -/
def qN (x i : Nat) : Nat := x / 256 ^ i
def bN (x i : Nat) : Int := ((x / 256 ^ i % 256 : Nat) : Int)
theorem bN_ok (x i : Nat) : 0 ≤ bN x i ∧ bN x i ≤ 255 := by unfold bN; omega
theorem qN_succ (x i : Nat) : qN x i / 256 = qN x (i + 1) := by unfold qN; rw [Nat.pow_succ, Nat.div_div_eq_div_mul]
theorem qN_le (x i : Nat) : qN x i ≤ x := Nat.div_le_self _ _
def numL (x : Nat) : Nat → List Int
  | 0 => []
  | n + 1 => numL x n ++ [bN x n]
theorem numL_len (x : Nat) : ∀ n, (numL x n).length = n
  | 0 => rfl
  | n + 1 => by simp [numL, numL_len x n]
theorem numL_ok (x : Nat) : ∀ n, U8ok (numL x n)
  | 0 => fun y hy => by cases hy
  | n + 1 => (numL_ok x n).app fun y hy => by
    simp only [List.mem_cons, List.not_mem_nil, or_false] at hy
    subst hy
    exact bN_ok x n
theorem u8l_app1 (xs : List Int) (y : Int) : u8l xs ++ [.int .u8 y] = u8l (xs ++ [y]) := by simp [u8l]
theorem num_c (r v x n : Nat) (bs : List Int) (m : AMem) (hb : ∃ k ez, m[r]? = some ⟨k, 5, v, ez, u8l bs⟩) (hbl : bs.length ≤ 1000000) (hn : n ≤ 8) (hx : x < 18446744073709551616) : Ctr Tryd.prog 23 [.one (.sl r v 0 bs.length), .one (.int .u64 (x : Int)), .one (.int .i64 (n : Int))] m (.one (.sl m.length 0 0 (bs.length + n))) (m ++ [⟨.grow, 5, 0, 1, u8l (bs ++ numL x n)⟩]) := by
  refine Ctr.enter Tryd.func23 rfl (by decide) (rs := [.tmp 6]) (nt := 26) rfl rfl fun hwf Q hQ => ?_
  obtain ⟨kb, ezb, hb⟩ := hb
  have lb := get_lt hb
  have hbt : (u8l bs).take bs.length = u8l bs := List.take_of_length_le (by rw [u8l_len]; exact Nat.le_refl _)
  have hbv := u8l_vals bs
  have a1 : bs.length ≤ 140737488355328 := by omega
  have hq0 : qN x 0 = x := by unfold qN; rw [Nat.pow_zero, Nat.div_one]
  have hlt0 : ∀ k, ¬ m.length + k < m.length := fun k => by omega
  iterate 2
    refine AW.seq_k fun K hK => ?_
    refine AW.region (by decide) ?_
    simp only [push_cast, Nat.reduceAdd, Nat.reduceMul, Nat.reduceSub, Nat.reduceLeDiff, Nat.reduceLT, Nat.reduceEqDiff, Nat.reduceBEq, Nat.reduceBNe, Nat.reduceMod, Nat.reduceDiv, Int.reduceLE, Int.reduceLT, Int.reduceToNat, Int.reduceAdd, Int.reduceSub, Int.reduceMul, Int.reduceNeg, Int.reduceEq, Int.reduceBEq, Int.reduceBNe, ↓reduceIte, reduceCtorEq, String.reduceBNe, String.reduceEq, reduceDIte, Nat.reducePow, hb, lk_old hb, hbt, hbv, a1, u8l_len, Nat.le_refl, Int.le_refl]
    refine Thn_n ?_
    refine hK _ _ ?_
    clear hK K
  refine AW.seq_k fun K hK => ?_
  refine AW.seq_k fun K hK => ?_
  refine AW.region (by decide) ?_
  simp only [push_cast, Nat.reduceAdd, Nat.reduceMul, Nat.reduceSub, Nat.reduceLeDiff, Nat.reduceLT, Nat.reduceEqDiff, Nat.reduceBEq, Nat.reduceBNe, Nat.reduceMod, Nat.reduceDiv, Int.reduceLE, Int.reduceLT, Int.reduceToNat, Int.reduceAdd, Int.reduceSub, Int.reduceMul, Int.reduceNeg, Int.reduceEq, Int.reduceBEq, Int.reduceBNe, ↓reduceIte, reduceCtorEq, String.reduceBNe, String.reduceEq, reduceDIte, Nat.reducePow, hb, lk_old hb, hbt, hbv, a1, u8l_len, Nat.le_refl, Int.le_refl]
  refine Thn_n ?_
  refine hK _ _ ?_
  clear hK K
  refine AW.block ?_
  refine AW.loopK [2] (fun i => i ≤ n) (fun i => [(1, .one (.int .u64 ((qN x i : Nat) : Int))), (7, .one (.sl m.length (1 + i) 0 (bs.length + i))), (8, .one (.int .i64 (i : Int)))]) (fun i => [(m.length, ⟨.grow, 5, 1 + i, 1, u8l (bs ++ numL x i)⟩)]) (fun i => n - i) 0 (by omega) ?_ ?_ fun i hi5 => ?_
  · first | rfl | (simp only [Keeps, Tm.get_cons, Nat.reduceEqDiff, ↓reduceIte, if_true, if_false, ite_true, ite_false, true_and, and_true, and_self, reduceCtorEq, hq0, numL, List.append_nil, Int.natCast_zero, Nat.add_zero] <;> rfl)
  · first | rfl | (simp only [setAll, push_cast, Nat.reduceAdd, Nat.reduceMul, Nat.reduceSub, Nat.reduceLeDiff, Nat.reduceLT, Nat.reduceEqDiff, Nat.reduceBEq, Nat.reduceBNe, Nat.reduceMod, Nat.reduceDiv, Int.reduceLE, Int.reduceLT, Int.reduceToNat, Int.reduceAdd, Int.reduceSub, Int.reduceMul, Int.reduceNeg, Int.reduceEq, Int.reduceBEq, Int.reduceBNe, ↓reduceIte, reduceCtorEq, String.reduceBNe, String.reduceEq, reduceDIte, Nat.reducePow, hb, lk_old hb, hbt, hbv, a1, u8l_len, Nat.le_refl, Int.le_refl, hq0, numL, List.append_nil, Int.natCast_zero, Nat.add_zero] <;> rfl)
  try simp only [keepL, setAll, push_cast, Nat.reduceAdd, Nat.reduceMul, Nat.reduceSub, Nat.reduceLeDiff, Nat.reduceLT, Nat.reduceEqDiff, Nat.reduceBEq, Nat.reduceBNe, Nat.reduceMod, Nat.reduceDiv, Int.reduceLE, Int.reduceLT, Int.reduceToNat, Int.reduceAdd, Int.reduceSub, Int.reduceMul, Int.reduceNeg, Int.reduceEq, Int.reduceBEq, Int.reduceBNe, ↓reduceIte, reduceCtorEq, String.reduceBNe, String.reduceEq, reduceDIte, Nat.reducePow, hb, lk_old hb, hbt, hbv, a1, u8l_len, Nat.le_refl, Int.le_refl]
  refine AW.seq_k fun K hK => ?_
  refine AW.seq_k fun K hK => ?_
  refine AW.region (by decide) ?_
  simp only [push_cast, Nat.reduceAdd, Nat.reduceMul, Nat.reduceSub, Nat.reduceLeDiff, Nat.reduceLT, Nat.reduceEqDiff, Nat.reduceBEq, Nat.reduceBNe, Nat.reduceMod, Nat.reduceDiv, Int.reduceLE, Int.reduceLT, Int.reduceToNat, Int.reduceAdd, Int.reduceSub, Int.reduceMul, Int.reduceNeg, Int.reduceEq, Int.reduceBEq, Int.reduceBNe, ↓reduceIte, reduceCtorEq, String.reduceBNe, String.reduceEq, reduceDIte, Nat.reducePow, hb, lk_old hb, hbt, hbv, a1, u8l_len, Nat.le_refl, Int.le_refl]
  refine Thn_n ?_
  refine hK _ _ ?_
  clear hK K
  refine AW.cond rfl (fun h14 => ?_) (fun h14 => ?_)
  · have hlt : i < n := by have := of_decide_eq_true h14; omega
    have hnl := numL_len x i
    have hll : (bs ++ numL x i).length = bs.length + i := by rw [List.length_append, hnl]
    have a2 : bs.length + (i + 1) ≤ 140737488355328 := by omega
    have hbo := bN_ok x i
    have hm1 : ((qN x i : Nat) : Int).tmod 256 = bN x i := rfl
    have hd1 : ((qN x i : Nat) : Int).tdiv 256 = ((qN x (i + 1) : Nat) : Int) := by rw [← qN_succ]; rfl
    have hql := qN_le x (i + 1)
    have hm2 : IntKind.u64.wrap (bN x i) = bN x i := by rw [IntKind.wrap_u64]; omega
    have hm3 : IntKind.u8.wrap (bN x i) = bN x i := by rw [w8]; omega
    have hd2 : IntKind.u64.wrap ((qN x (i + 1) : Nat) : Int) = ((qN x (i + 1) : Nat) : Int) := by rw [IntKind.wrap_u64]; omega
    have hnx : u8l (bs ++ numL x i) ++ [.int .u8 (bN x i)] = u8l (bs ++ numL x (i + 1)) := by rw [u8l_app1, List.append_assoc]; rfl
    have hl3 : 1 + i + 1 = 1 + (i + 1) := by omega
    refine AW.skip ?_
    refine Thn_n ?_
    refine hK _ _ ?_
    clear hK K
    refine AW.seq_k fun K hK => ?_
    refine AW.block ?_
    refine AW.seq_k fun K hK => ?_
    refine AW.region (by decide) ?_
    simp only [push_cast, Nat.reduceAdd, Nat.reduceMul, Nat.reduceSub, Nat.reduceLeDiff, Nat.reduceLT, Nat.reduceEqDiff, Nat.reduceBEq, Nat.reduceBNe, Nat.reduceMod, Nat.reduceDiv, Int.reduceLE, Int.reduceLT, Int.reduceToNat, Int.reduceAdd, Int.reduceSub, Int.reduceMul, Int.reduceNeg, Int.reduceEq, Int.reduceBEq, Int.reduceBNe, ↓reduceIte, reduceCtorEq, String.reduceBNe, String.reduceEq, reduceDIte, Nat.reducePow, hb, lk_old hb, hbt, hbv, a1, u8l_len, Nat.le_refl, Int.le_refl, a2, hm1, hd1, hm2, hm3, hd2, hll, hnx]
    refine Thn_n ?_
    refine hK _ _ ?_
    clear hK K
    refine AW.region (by decide) ?_
    simp only [push_cast, Nat.reduceAdd, Nat.reduceMul, Nat.reduceSub, Nat.reduceLeDiff, Nat.reduceLT, Nat.reduceEqDiff, Nat.reduceBEq, Nat.reduceBNe, Nat.reduceMod, Nat.reduceDiv, Int.reduceLE, Int.reduceLT, Int.reduceToNat, Int.reduceAdd, Int.reduceSub, Int.reduceMul, Int.reduceNeg, Int.reduceEq, Int.reduceBEq, Int.reduceBNe, ↓reduceIte, reduceCtorEq, String.reduceBNe, String.reduceEq, reduceDIte, Nat.reducePow, hb, lk_old hb, hbt, hbv, a1, u8l_len, Nat.le_refl, Int.le_refl, a2, hm1, hd1, hm2, hm3, hd2, hll, hnx]
    refine InB_n ?_
    refine Thn_n ?_
    refine hK _ _ ?_
    clear hK K
    refine AW.region (by decide) ?_
    simp only [push_cast, Nat.reduceAdd, Nat.reduceMul, Nat.reduceSub, Nat.reduceLeDiff, Nat.reduceLT, Nat.reduceEqDiff, Nat.reduceBEq, Nat.reduceBNe, Nat.reduceMod, Nat.reduceDiv, Int.reduceLE, Int.reduceLT, Int.reduceToNat, Int.reduceAdd, Int.reduceSub, Int.reduceMul, Int.reduceNeg, Int.reduceEq, Int.reduceBEq, Int.reduceBNe, ↓reduceIte, reduceCtorEq, String.reduceBNe, String.reduceEq, reduceDIte, Nat.reducePow, hb, lk_old hb, hbt, hbv, a1, u8l_len, Nat.le_refl, Int.le_refl, a2, hm1, hd1, hm2, hm3, hd2, hll, hnx]
    refine Thn_n ?_
    have hwi : IntKind.i64.wrap ((i:Int)+1) = (i:Int)+1 := by rw [IntKind.wrap_i64]; omega
    refine ⟨i + 1, hlt, by omega, ?_⟩
    try simp only [keepL, setAll, push_cast, Nat.reduceAdd, Nat.reduceMul, Nat.reduceSub, Nat.reduceLeDiff, Nat.reduceLT, Nat.reduceEqDiff, Nat.reduceBEq, Nat.reduceBNe, Nat.reduceMod, Nat.reduceDiv, Int.reduceLE, Int.reduceLT, Int.reduceToNat, Int.reduceAdd, Int.reduceSub, Int.reduceMul, Int.reduceNeg, Int.reduceEq, Int.reduceBEq, Int.reduceBNe, ↓reduceIte, reduceCtorEq, String.reduceBNe, String.reduceEq, reduceDIte, Nat.reducePow, hb, lk_old hb, hbt, hbv, a1, u8l_len, Nat.le_refl, Int.le_refl, a2, hm1, hd1, hm2, hm3, hd2, hll, hnx, hwi, hnx, hl3, Nat.add_assoc]
    exact Weak.to (extra := [_]) (by simp only [Keeps, Tm.get_cons, Nat.reduceEqDiff, ↓reduceIte, if_true, if_false, ite_true, ite_false, true_and, and_true, and_self, reduceCtorEq, hwi, hnx, hl3, Nat.add_assoc]) (by first | rfl | (simp only [List.append_assoc, List.cons_append, List.nil_append]; rfl)) (by first | rfl | (simp [AV.below, CV.below, u8l_below]; done) | (simp [AV.below, CV.below, u8l_below]; omega)) (by
      first | exact hwf | refine MWf.app (hwf.grow (by simp)) ?_
      repeat (first | exact MWf_nil | (refine MWf_cons ?_ ?_; · first | rfl | (simp [CV.below, u8l_below]; done) | (simp [CV.below, u8l_below]; omega))))
  · have hie : i = n := by have := of_decide_eq_false h14; omega
    subst hie
    refine AW.exit ?_
    refine Thn_e ?_
    clear hK K
    refine Thn_e ?_
    refine InB_here ?_
    refine Thn_n ?_
    refine hK _ _ ?_
    clear hK K
    refine AW.seq_k fun K hK => ?_
    refine AW.region (by decide) ?_
    simp only [push_cast, Nat.reduceAdd, Nat.reduceMul, Nat.reduceSub, Nat.reduceLeDiff, Nat.reduceLT, Nat.reduceEqDiff, Nat.reduceBEq, Nat.reduceBNe, Nat.reduceMod, Nat.reduceDiv, Int.reduceLE, Int.reduceLT, Int.reduceToNat, Int.reduceAdd, Int.reduceSub, Int.reduceMul, Int.reduceNeg, Int.reduceEq, Int.reduceBEq, Int.reduceBNe, ↓reduceIte, reduceCtorEq, String.reduceBNe, String.reduceEq, reduceDIte, Nat.reducePow, hb, lk_old hb, hbt, hbv, a1, u8l_len, Nat.le_refl, Int.le_refl]
    refine Thn_n ?_
    refine hK _ _ ?_
    clear hK K
    refine AW.ret ?_
    refine hQ _ _ _ ?_
    refine RetP.pick [(m.length, 1 + i)] (Or.inr rfl) ?_ ?_ ?_ hwf ?_
    · simp only [resA, resOne, resTv, AV.tv, push_cast, Nat.reduceAdd, Nat.reduceMul, Nat.reduceSub, Nat.reduceLeDiff, Nat.reduceLT, Nat.reduceEqDiff, Nat.reduceBEq, Nat.reduceBNe, Nat.reduceMod, Nat.reduceDiv, Int.reduceLE, Int.reduceLT, Int.reduceToNat, Int.reduceAdd, Int.reduceSub, Int.reduceMul, Int.reduceNeg, Int.reduceEq, Int.reduceBEq, Int.reduceBNe, ↓reduceIte, reduceCtorEq, String.reduceBNe, String.reduceEq, reduceDIte, Nat.reducePow]
      simp [renV, renT, renL, renC, renIdx]
    · simp only [picks, push_cast, Nat.reduceAdd, Nat.reduceMul, Nat.reduceSub, Nat.reduceLeDiff, Nat.reduceLT, Nat.reduceEqDiff, Nat.reduceBEq, Nat.reduceBNe, Nat.reduceMod, Nat.reduceDiv, Int.reduceLE, Int.reduceLT, Int.reduceToNat, Int.reduceAdd, Int.reduceSub, Int.reduceMul, Int.reduceNeg, Int.reduceEq, Int.reduceBEq, Int.reduceBNe, ↓reduceIte, reduceCtorEq, String.reduceBNe, String.reduceEq, reduceDIte, Nat.reducePow]
    · simp [distinctFrom]
    · exact MWf_one (u8l_below _ _)
    
end Go.Proofs.YtmjbbnfmhgcfaaaDoor

set_option linter.unusedSimpArgs false
set_option linter.unusedVariables false
set_option maxRecDepth 100000
set_option maxHeartbeats 4000000
namespace Go.Proofs.YtmjbbnfmhgcfaaaDoor
open Go Go.Eng

/-- The head of a work's key: its kind, its frame. -/
def hdA (k : Int) : List Int := [87, IntKind.u8.wrap k]
def hdB (f : Int) : List Int := [IntKind.u8.wrap f, IntKind.u8.wrap (f.fdiv 256), IntKind.u8.wrap (f.fdiv 65536), IntKind.u8.wrap (f.fdiv 16777216)]
def hdL (k f : Int) : List Int := hdA k ++ hdB f
theorem hdA_ok (k : Int) : U8ok (hdA k) := fun x hx => by
  simp only [hdA, List.mem_cons, List.not_mem_nil, or_false] at hx
  rcases hx with rfl | rfl
  · omega
  · rw [w8]; omega
theorem hdB_ok (f : Int) : U8ok (hdB f) := fun x hx => by
  simp only [hdB, List.mem_cons, List.not_mem_nil, or_false] at hx
  rcases hx with rfl | rfl | rfl | rfl <;> (rw [w8]; omega)
theorem hdL_ok (k f : Int) : U8ok (hdL k f) := (hdA_ok k).app (hdB_ok f)
def keyI (k f : Int) (D : List Int) (i : Nat) : PS := absS P0 (hdL k f ++ D.take (32 * i))
theorem keyI_succ (k f : Int) (D : List Int) (i : Nat) : absS (keyI k f D i) ((D.drop (32 * i)).take 32) = keyI k f D (i + 1) := by
  unfold keyI
  rw [absS_app, List.append_assoc]
  congr 2
  rw [show 32 * (i + 1) = 32 * i + 32 by omega, List.take_add]
theorem key_c (k f : Int) (lo vo np : Nat) (D : List Int) (ko : BK) (eo : Nat) (m : AMem) (hD : m[lo]? = some ⟨ko, 33, vo, eo, u8l D⟩) (hl : D.length = 32 * np) (hu : U8ok D) (hnp : np ≤ 30) : Ctr Tryd.prog 8 [.one (.int .i64 k), .one (.int .i64 f), .one (.sl lo vo 0 np)] m (.agg (u8l (shaL (hdL k f ++ D)))) m := by
  refine Ctr.enter Tryd.func8 rfl (by decide) (rs := [.cell 6 33]) (nt := 42) rfl rfl fun hwf Q hQ => ?_
  have llo := get_lt hD
  have q8 : (2:Int) ^ min 8 IntKind.i64.bits = 256 := by decide
  have q16 : (2:Int) ^ min 16 IntKind.i64.bits = 65536 := by decide
  have q24 : (2:Int) ^ min 24 IntKind.i64.bits = 16777216 := by decide
  have hA : [CV.int .u8 87, .int .u8 (IntKind.u8.wrap k)] = u8l (hdA k) := rfl
  have hB : [CV.int .u8 (IntKind.u8.wrap f), .int .u8 (IntKind.u8.wrap (f.fdiv 256)), .int .u8 (IntKind.u8.wrap (f.fdiv 65536)), .int .u8 (IntKind.u8.wrap (f.fdiv 16777216))] = u8l (hdB f) := rfl
  have hac : absS P0 (hdA k ++ hdB f) = keyI k f D 0 := by simp [keyI, hdL]
  have hst : ∀ i, (keyI k f D i).r.length < 64 := fun i => absS_r _ _
  have hso : ∀ i, U8ok (keyI k f D i).r := fun i => by
    have h := accP_ok (s := P0) U8ok.nil (np := 1) (bf := fun _ => hdL k f ++ D.take (32 * i)) (fun _ _ => (hdL_ok k f).app (hu.take _)) 1 (Nat.le_refl _)
    exact h
  have hfn : keyI k f D np = absS P0 (hdL k f ++ D) := by unfold keyI; rw [← hl, List.take_length]
  have hs1 : setL [.int .u8 0, .int .u8 0, .int .u8 0, .int .u8 0, .int .u8 0, .int .u8 0, .int .u8 0, .int .u8 0, .int .u8 0, .int .u8 0, .int .u8 0, .int .u8 0, .int .u8 0, .int .u8 0, .int .u8 0, .int .u8 0, .int .u8 0, .int .u8 0, .int .u8 0, .int .u8 0, .int .u8 0, .int .u8 0, .int .u8 0, .int .u8 0, .int .u8 0, .int .u8 0, .int .u8 0, .int .u8 0, .int .u8 0, .int .u8 0, .int .u8 0, .int .u8 0] 0 (u8l (shaL (hdL k f ++ D))) = u8l (shaL (hdL k f ++ D)) := setL_full rfl
  have hs2 := shaL_len (hdL k f ++ D)
  have hsh : digL (finS (absS P0 (hdL k f ++ D))) = shaL (hdL k f ++ D) := rfl
  have hs3 := u8l_vals (shaL (hdL k f ++ D))
  have hs4 : (u8l (shaL (hdL k f ++ D))).take 32 = u8l (shaL (hdL k f ++ D)) := List.take_of_length_le (by rw [u8l_len, hs2]; exact Nat.le_refl _)
  refine AW.seq_k fun K hK => ?_
  refine AW.region (by decide) ?_
  simp only [push_cast, Nat.reduceAdd, Nat.reduceMul, Nat.reduceSub, Nat.reduceLeDiff, Nat.reduceLT, Nat.reduceEqDiff, Nat.reduceBEq, Nat.reduceBNe, Nat.reduceMod, Nat.reduceDiv, Int.reduceLE, Int.reduceLT, Int.reduceToNat, Int.reduceAdd, Int.reduceSub, Int.reduceMul, Int.reduceNeg, Int.reduceEq, Int.reduceBEq, Int.reduceBNe, ↓reduceIte, reduceCtorEq, String.reduceBNe, String.reduceEq, reduceDIte, Nat.reducePow, imp_self, hD, lk_old hD, q8, q16, q24, hA, hB, hac, u8l_len, pwr, rowB, prB, Int.le_refl, Nat.le_refl]
  refine Thn_n ?_
  refine hK _ _ ?_
  clear hK K
  refine AW.seq_k fun K hK => ?_
  refine AW.region (by decide) ?_
  simp only [push_cast, Nat.reduceAdd, Nat.reduceMul, Nat.reduceSub, Nat.reduceLeDiff, Nat.reduceLT, Nat.reduceEqDiff, Nat.reduceBEq, Nat.reduceBNe, Nat.reduceMod, Nat.reduceDiv, Int.reduceLE, Int.reduceLT, Int.reduceToNat, Int.reduceAdd, Int.reduceSub, Int.reduceMul, Int.reduceNeg, Int.reduceEq, Int.reduceBEq, Int.reduceBNe, ↓reduceIte, reduceCtorEq, String.reduceBNe, String.reduceEq, reduceDIte, Nat.reducePow, imp_self, hD, lk_old hD, q8, q16, q24, hA, hB, hac, u8l_len, pwr, rowB, prB, Int.le_refl, Nat.le_refl]
  refine CThen.by (new_c _) ?_
  simp only [push_cast, Nat.reduceAdd, Nat.reduceMul, Nat.reduceSub, Nat.reduceLeDiff, Nat.reduceLT, Nat.reduceEqDiff, Nat.reduceBEq, Nat.reduceBNe, Nat.reduceMod, Nat.reduceDiv, Int.reduceLE, Int.reduceLT, Int.reduceToNat, Int.reduceAdd, Int.reduceSub, Int.reduceMul, Int.reduceNeg, Int.reduceEq, Int.reduceBEq, Int.reduceBNe, ↓reduceIte, reduceCtorEq, String.reduceBNe, String.reduceEq, reduceDIte, Nat.reducePow, imp_self, hD, lk_old hD, q8, q16, q24, hA, hB, hac, u8l_len, pwr, rowB, prB, Int.le_refl, Nat.le_refl]
  refine Thn_n ?_
  refine hK _ _ ?_
  clear hK K
  refine AW.seq_k fun K hK => ?_
  refine AW.nilCell 5 1 (m.length + 1) 8 (b := ⟨.fix, 66, 0, 0, [.int .u32 (IV).a, .int .u32 (IV).b, .int .u32 (IV).c, .int .u32 (IV).d, .int .u32 (IV).e, .int .u32 (IV).f, .int .u32 (IV).g, .int .u32 (IV).h, .nils, .int .u64 0]⟩) (by simp only [push_cast, Nat.reduceAdd, Nat.reduceMul, Nat.reduceSub, Nat.reduceLeDiff, Nat.reduceLT, Nat.reduceEqDiff, Nat.reduceBEq, Nat.reduceBNe, Nat.reduceMod, Nat.reduceDiv, Int.reduceLE, Int.reduceLT, Int.reduceToNat, Int.reduceAdd, Int.reduceSub, Int.reduceMul, Int.reduceNeg, Int.reduceEq, Int.reduceBEq, Int.reduceBNe, ↓reduceIte, reduceCtorEq, String.reduceBNe, String.reduceEq, reduceDIte, Nat.reducePow]) (by simp) rfl ?_
  simp only [push_cast, Nat.reduceAdd, Nat.reduceMul, Nat.reduceSub, Nat.reduceLeDiff, Nat.reduceLT, Nat.reduceEqDiff, Nat.reduceBEq, Nat.reduceBNe, Nat.reduceMod, Nat.reduceDiv, Int.reduceLE, Int.reduceLT, Int.reduceToNat, Int.reduceAdd, Int.reduceSub, Int.reduceMul, Int.reduceNeg, Int.reduceEq, Int.reduceBEq, Int.reduceBNe, ↓reduceIte, reduceCtorEq, String.reduceBNe, String.reduceEq, reduceDIte, Nat.reducePow]
  refine AW.region (by decide) ?_
  simp only [push_cast, Nat.reduceAdd, Nat.reduceMul, Nat.reduceSub, Nat.reduceLeDiff, Nat.reduceLT, Nat.reduceEqDiff, Nat.reduceBEq, Nat.reduceBNe, Nat.reduceMod, Nat.reduceDiv, Int.reduceLE, Int.reduceLT, Int.reduceToNat, Int.reduceAdd, Int.reduceSub, Int.reduceMul, Int.reduceNeg, Int.reduceEq, Int.reduceBEq, Int.reduceBNe, ↓reduceIte, reduceCtorEq, String.reduceBNe, String.reduceEq, reduceDIte, Nat.reducePow, imp_self, hD, lk_old hD, q8, q16, q24, hA, hB, hac, u8l_len, pwr, rowB, prB, Int.le_refl, Nat.le_refl]
  refine CThen.by (write2_c (m.length + 1) (m.length + 2) 0 (m.length + 5) 0 0 P0 (.sl (m.length + 3) 0 0 2) (.sl (m.length + 4) 0 0 4) (hdA k) (hdB f) [.sl (m.length + 3) 0 0 2, .sl (m.length + 4) 0 0 4] .grow 1 _ (by simp only [push_cast, Nat.reduceAdd, Nat.reduceMul, Nat.reduceSub, Nat.reduceLeDiff, Nat.reduceLT, Nat.reduceEqDiff, Nat.reduceBEq, Nat.reduceBNe, Nat.reduceMod, Nat.reduceDiv, Int.reduceLE, Int.reduceLT, Int.reduceToNat, Int.reduceAdd, Int.reduceSub, Int.reduceMul, Int.reduceNeg, Int.reduceEq, Int.reduceBEq, Int.reduceBNe, ↓reduceIte, reduceCtorEq, String.reduceBNe, String.reduceEq, reduceDIte, Nat.reducePow]; rfl) (by simp only [push_cast, Nat.reduceAdd, Nat.reduceMul, Nat.reduceSub, Nat.reduceLeDiff, Nat.reduceLT, Nat.reduceEqDiff, Nat.reduceBEq, Nat.reduceBNe, Nat.reduceMod, Nat.reduceDiv, Int.reduceLE, Int.reduceLT, Int.reduceToNat, Int.reduceAdd, Int.reduceSub, Int.reduceMul, Int.reduceNeg, Int.reduceEq, Int.reduceBEq, Int.reduceBNe, ↓reduceIte, reduceCtorEq, String.reduceBNe, String.reduceEq, reduceDIte, Nat.reducePow]; rfl) (by simp only [push_cast, Nat.reduceAdd, Nat.reduceMul, Nat.reduceSub, Nat.reduceLeDiff, Nat.reduceLT, Nat.reduceEqDiff, Nat.reduceBEq, Nat.reduceBNe, Nat.reduceMod, Nat.reduceDiv, Int.reduceLE, Int.reduceLT, Int.reduceToNat, Int.reduceAdd, Int.reduceSub, Int.reduceMul, Int.reduceNeg, Int.reduceEq, Int.reduceBEq, Int.reduceBNe, ↓reduceIte, reduceCtorEq, String.reduceBNe, String.reduceEq, reduceDIte, Nat.reducePow]) (by omega) rfl rfl (.all (k := .grow) (ty := 5) (ez := 1) (by simp only [push_cast, Nat.reduceAdd, Nat.reduceMul, Nat.reduceSub, Nat.reduceLeDiff, Nat.reduceLT, Nat.reduceEqDiff, Nat.reduceBEq, Nat.reduceBNe, Nat.reduceMod, Nat.reduceDiv, Int.reduceLE, Int.reduceLT, Int.reduceToNat, Int.reduceAdd, Int.reduceSub, Int.reduceMul, Int.reduceNeg, Int.reduceEq, Int.reduceBEq, Int.reduceBNe, ↓reduceIte, reduceCtorEq, String.reduceBNe, String.reduceEq, reduceDIte, Nat.reducePow, hA]) rfl (by omega)) (.all (k := .grow) (ty := 5) (ez := 1) (by simp only [push_cast, Nat.reduceAdd, Nat.reduceMul, Nat.reduceSub, Nat.reduceLeDiff, Nat.reduceLT, Nat.reduceEqDiff, Nat.reduceBEq, Nat.reduceBNe, Nat.reduceMod, Nat.reduceDiv, Int.reduceLE, Int.reduceLT, Int.reduceToNat, Int.reduceAdd, Int.reduceSub, Int.reduceMul, Int.reduceNeg, Int.reduceEq, Int.reduceBEq, Int.reduceBNe, ↓reduceIte, reduceCtorEq, String.reduceBNe, String.reduceEq, reduceDIte, Nat.reducePow, hB]) rfl (by omega)) (by show 2 ≤ 1000000; decide) (by show 4 ≤ 1000000; decide) (hdA_ok k) (hdB_ok f) p0_ok U8ok.nil) ?_
  simp only [push_cast, Nat.reduceAdd, Nat.reduceMul, Nat.reduceSub, Nat.reduceLeDiff, Nat.reduceLT, Nat.reduceEqDiff, Nat.reduceBEq, Nat.reduceBNe, Nat.reduceMod, Nat.reduceDiv, Int.reduceLE, Int.reduceLT, Int.reduceToNat, Int.reduceAdd, Int.reduceSub, Int.reduceMul, Int.reduceNeg, Int.reduceEq, Int.reduceBEq, Int.reduceBNe, ↓reduceIte, reduceCtorEq, String.reduceBNe, String.reduceEq, reduceDIte, Nat.reducePow, imp_self, hD, lk_old hD, q8, q16, q24, hA, hB, hac, u8l_len, pwr, rowB, prB, Int.le_refl, Nat.le_refl]
  refine Thn_n ?_
  refine hK _ _ ?_
  clear hK K
  refine AW.seq_k fun K hK => ?_
  refine AW.seq_k fun K hK => ?_
  refine AW.region (by decide) ?_
  simp only [push_cast, Nat.reduceAdd, Nat.reduceMul, Nat.reduceSub, Nat.reduceLeDiff, Nat.reduceLT, Nat.reduceEqDiff, Nat.reduceBEq, Nat.reduceBNe, Nat.reduceMod, Nat.reduceDiv, Int.reduceLE, Int.reduceLT, Int.reduceToNat, Int.reduceAdd, Int.reduceSub, Int.reduceMul, Int.reduceNeg, Int.reduceEq, Int.reduceBEq, Int.reduceBNe, ↓reduceIte, reduceCtorEq, String.reduceBNe, String.reduceEq, reduceDIte, Nat.reducePow, imp_self, hD, lk_old hD, q8, q16, q24, hA, hB, hac, u8l_len, pwr, rowB, prB, Int.le_refl, Nat.le_refl]
  refine Thn_n ?_
  refine hK _ _ ?_
  clear hK K
  refine AW.block ?_
  refine AW.loopK [6, 7, 29, 30] (fun i => i ≤ np) (fun i => [(31, .one (.int .i64 (i : Int)))]) (fun i => [(m.length + 1, prB (keyI k f D i).S (.sl (m.length + 2) (4 + 2 * i) 0 (keyI k f D i).r.length) (keyI k f D i).n), (m.length + 2, rowB (4 + 2 * i) (keyI k f D i).r)]) (fun i => np - i) 0 (by omega) ?_ ?_ fun i hi6 => ?_
  · first | rfl | (simp only [Keeps, Tm.get_cons, Nat.reduceEqDiff, ↓reduceIte, if_true, if_false, ite_true, ite_false, true_and, and_true, and_self, reduceCtorEq, Int.natCast_zero, Nat.mul_zero, Nat.add_zero] <;> rfl)
  · first | rfl | (simp only [setAll, push_cast, Nat.reduceAdd, Nat.reduceMul, Nat.reduceSub, Nat.reduceLeDiff, Nat.reduceLT, Nat.reduceEqDiff, Nat.reduceBEq, Nat.reduceBNe, Nat.reduceMod, Nat.reduceDiv, Int.reduceLE, Int.reduceLT, Int.reduceToNat, Int.reduceAdd, Int.reduceSub, Int.reduceMul, Int.reduceNeg, Int.reduceEq, Int.reduceBEq, Int.reduceBNe, ↓reduceIte, reduceCtorEq, String.reduceBNe, String.reduceEq, reduceDIte, Nat.reducePow, imp_self, hD, lk_old hD, q8, q16, q24, hA, hB, hac, u8l_len, pwr, rowB, prB, Int.le_refl, Nat.le_refl, Int.natCast_zero, Nat.mul_zero, Nat.add_zero] <;> rfl)
  have hi : i ≤ np := hi6
  try simp only [keepL, setAll, push_cast, Nat.reduceAdd, Nat.reduceMul, Nat.reduceSub, Nat.reduceLeDiff, Nat.reduceLT, Nat.reduceEqDiff, Nat.reduceBEq, Nat.reduceBNe, Nat.reduceMod, Nat.reduceDiv, Int.reduceLE, Int.reduceLT, Int.reduceToNat, Int.reduceAdd, Int.reduceSub, Int.reduceMul, Int.reduceNeg, Int.reduceEq, Int.reduceBEq, Int.reduceBNe, ↓reduceIte, reduceCtorEq, String.reduceBNe, String.reduceEq, reduceDIte, Nat.reducePow, imp_self, hD, lk_old hD, q8, q16, q24, hA, hB, hac, u8l_len, pwr, rowB, prB, Int.le_refl, Nat.le_refl]
  refine AW.seq_k fun K hK => ?_
  refine AW.region (by decide) ?_
  simp only [push_cast, Nat.reduceAdd, Nat.reduceMul, Nat.reduceSub, Nat.reduceLeDiff, Nat.reduceLT, Nat.reduceEqDiff, Nat.reduceBEq, Nat.reduceBNe, Nat.reduceMod, Nat.reduceDiv, Int.reduceLE, Int.reduceLT, Int.reduceToNat, Int.reduceAdd, Int.reduceSub, Int.reduceMul, Int.reduceNeg, Int.reduceEq, Int.reduceBEq, Int.reduceBNe, ↓reduceIte, reduceCtorEq, String.reduceBNe, String.reduceEq, reduceDIte, Nat.reducePow, imp_self, hD, lk_old hD, q8, q16, q24, hA, hB, hac, u8l_len, pwr, rowB, prB, Int.le_refl, Nat.le_refl]
  refine Thn_n ?_
  refine hK _ _ ?_
  clear hK K
  refine AW.seq_k fun K hK => ?_
  refine AW.cond rfl (fun h32 => ?_) (fun h32 => ?_)
  · have hlt : i < np := by have := of_decide_eq_true h32; omega
    have c1 : (0 : Int) ≤ (i : Int) := by omega
    have c2 : (i : Int) < (np : Int) := by omega
    have c3 : i * 32 + 32 ≤ D.length := by omega
    have hdl : ((D.drop (32 * i)).take 32).length = 32 := by rw [List.length_take, List.length_drop]; omega
    have e32 : i * 32 = 32 * i := by omega
    have hd1 : ((u8l D).drop (i * 32)).take 32 = u8l ((D.drop (32 * i)).take 32) := by rw [u8l_drop, u8l_take, e32]
    have hd2 : setL [.int .u8 0, .int .u8 0, .int .u8 0, .int .u8 0, .int .u8 0, .int .u8 0, .int .u8 0, .int .u8 0, .int .u8 0, .int .u8 0, .int .u8 0, .int .u8 0, .int .u8 0, .int .u8 0, .int .u8 0, .int .u8 0, .int .u8 0, .int .u8 0, .int .u8 0, .int .u8 0, .int .u8 0, .int .u8 0, .int .u8 0, .int .u8 0, .int .u8 0, .int .u8 0, .int .u8 0, .int .u8 0, .int .u8 0, .int .u8 0, .int .u8 0, .int .u8 0] 0 (u8l ((D.drop (32 * i)).take 32)) = u8l ((D.drop (32 * i)).take 32) := setL_full (by rw [u8l_len, hdl]; rfl)
    have hd3 := u8l_vals ((D.drop (32 * i)).take 32)
    refine AW.skip ?_
    refine Thn_n ?_
    refine hK _ _ ?_
    clear hK K
    refine AW.seq_k fun K hK => ?_
    refine AW.block ?_
    refine AW.seq_k fun K hK => ?_
    refine AW.region (by decide) ?_
    simp only [push_cast, Nat.reduceAdd, Nat.reduceMul, Nat.reduceSub, Nat.reduceLeDiff, Nat.reduceLT, Nat.reduceEqDiff, Nat.reduceBEq, Nat.reduceBNe, Nat.reduceMod, Nat.reduceDiv, Int.reduceLE, Int.reduceLT, Int.reduceToNat, Int.reduceAdd, Int.reduceSub, Int.reduceMul, Int.reduceNeg, Int.reduceEq, Int.reduceBEq, Int.reduceBNe, ↓reduceIte, reduceCtorEq, String.reduceBNe, String.reduceEq, reduceDIte, Nat.reducePow, imp_self, hD, lk_old hD, q8, q16, q24, hA, hB, hac, u8l_len, pwr, rowB, prB, Int.le_refl, Nat.le_refl, c1, c2, c3, hd1, hd2, hd3, hdl]
    refine Thn_n ?_
    refine hK _ _ ?_
    clear hK K
    refine AW.region (by decide) ?_
    simp only [push_cast, Nat.reduceAdd, Nat.reduceMul, Nat.reduceSub, Nat.reduceLeDiff, Nat.reduceLT, Nat.reduceEqDiff, Nat.reduceBEq, Nat.reduceBNe, Nat.reduceMod, Nat.reduceDiv, Int.reduceLE, Int.reduceLT, Int.reduceToNat, Int.reduceAdd, Int.reduceSub, Int.reduceMul, Int.reduceNeg, Int.reduceEq, Int.reduceBEq, Int.reduceBNe, ↓reduceIte, reduceCtorEq, String.reduceBNe, String.reduceEq, reduceDIte, Nat.reducePow, imp_self, hD, lk_old hD, q8, q16, q24, hA, hB, hac, u8l_len, pwr, rowB, prB, Int.le_refl, Nat.le_refl, c1, c2, c3, hd1, hd2, hd3, hdl]
    refine CThen.by (write1_c (m.length + 1) (m.length + 2) (4 + 2 * i) (m.length + 7) 0 0 (keyI k f D i) (.sl (m.length + 6) 0 0 32) ((D.drop (32 * i)).take 32) [.sl (m.length + 6) 0 0 32] .grow 1 _ (by simp only [push_cast, Nat.reduceAdd, Nat.reduceMul, Nat.reduceSub, Nat.reduceLeDiff, Nat.reduceLT, Nat.reduceEqDiff, Nat.reduceBEq, Nat.reduceBNe, Nat.reduceMod, Nat.reduceDiv, Int.reduceLE, Int.reduceLT, Int.reduceToNat, Int.reduceAdd, Int.reduceSub, Int.reduceMul, Int.reduceNeg, Int.reduceEq, Int.reduceBEq, Int.reduceBNe, ↓reduceIte, reduceCtorEq, String.reduceBNe, String.reduceEq, reduceDIte, Nat.reducePow, prB]) (by simp only [push_cast, Nat.reduceAdd, Nat.reduceMul, Nat.reduceSub, Nat.reduceLeDiff, Nat.reduceLT, Nat.reduceEqDiff, Nat.reduceBEq, Nat.reduceBNe, Nat.reduceMod, Nat.reduceDiv, Int.reduceLE, Int.reduceLT, Int.reduceToNat, Int.reduceAdd, Int.reduceSub, Int.reduceMul, Int.reduceNeg, Int.reduceEq, Int.reduceBEq, Int.reduceBNe, ↓reduceIte, reduceCtorEq, String.reduceBNe, String.reduceEq, reduceDIte, Nat.reducePow, rowB]) (by simp only [push_cast, Nat.reduceAdd, Nat.reduceMul, Nat.reduceSub, Nat.reduceLeDiff, Nat.reduceLT, Nat.reduceEqDiff, Nat.reduceBEq, Nat.reduceBNe, Nat.reduceMod, Nat.reduceDiv, Int.reduceLE, Int.reduceLT, Int.reduceToNat, Int.reduceAdd, Int.reduceSub, Int.reduceMul, Int.reduceNeg, Int.reduceEq, Int.reduceBEq, Int.reduceBNe, ↓reduceIte, reduceCtorEq, String.reduceBNe, String.reduceEq, reduceDIte, Nat.reducePow]) (by omega) rfl (.all (k := .fix) (ty := 33) (ez := 0) (by simp only [push_cast, Nat.reduceAdd, Nat.reduceMul, Nat.reduceSub, Nat.reduceLeDiff, Nat.reduceLT, Nat.reduceEqDiff, Nat.reduceBEq, Nat.reduceBNe, Nat.reduceMod, Nat.reduceDiv, Int.reduceLE, Int.reduceLT, Int.reduceToNat, Int.reduceAdd, Int.reduceSub, Int.reduceMul, Int.reduceNeg, Int.reduceEq, Int.reduceBEq, Int.reduceBNe, ↓reduceIte, reduceCtorEq, String.reduceBNe, String.reduceEq, reduceDIte, Nat.reducePow, hd1, hd2]) hdl.symm (by omega)) (by omega) ((hu.drop _).take _) (hst i) (hso i)) ?_
    simp only [push_cast, Nat.reduceAdd, Nat.reduceMul, Nat.reduceSub, Nat.reduceLeDiff, Nat.reduceLT, Nat.reduceEqDiff, Nat.reduceBEq, Nat.reduceBNe, Nat.reduceMod, Nat.reduceDiv, Int.reduceLE, Int.reduceLT, Int.reduceToNat, Int.reduceAdd, Int.reduceSub, Int.reduceMul, Int.reduceNeg, Int.reduceEq, Int.reduceBEq, Int.reduceBNe, ↓reduceIte, reduceCtorEq, String.reduceBNe, String.reduceEq, reduceDIte, Nat.reducePow, imp_self, hD, lk_old hD, q8, q16, q24, hA, hB, hac, u8l_len, pwr, rowB, prB, Int.le_refl, Nat.le_refl, c1, c2, c3, hd1, hd2, hd3, hdl]
    refine InB_n ?_
    refine Thn_n ?_
    refine hK _ _ ?_
    clear hK K
    refine AW.region (by decide) ?_
    simp only [push_cast, Nat.reduceAdd, Nat.reduceMul, Nat.reduceSub, Nat.reduceLeDiff, Nat.reduceLT, Nat.reduceEqDiff, Nat.reduceBEq, Nat.reduceBNe, Nat.reduceMod, Nat.reduceDiv, Int.reduceLE, Int.reduceLT, Int.reduceToNat, Int.reduceAdd, Int.reduceSub, Int.reduceMul, Int.reduceNeg, Int.reduceEq, Int.reduceBEq, Int.reduceBNe, ↓reduceIte, reduceCtorEq, String.reduceBNe, String.reduceEq, reduceDIte, Nat.reducePow, imp_self, hD, lk_old hD, q8, q16, q24, hA, hB, hac, u8l_len, pwr, rowB, prB, Int.le_refl, Nat.le_refl, c1, c2, c3, hd1, hd2, hd3, hdl]
    refine Thn_n ?_
    have hwi : IntKind.i64.wrap ((i:Int)+1) = (i:Int)+1 := wi (by omega)
    have e9 : 4 + 2 * (i + 1) = 4 + (2 * i + 2) := by omega
    have hks := keyI_succ k f D i
    refine ⟨i + 1, hlt, by omega, ?_⟩
    try simp only [keepL, setAll, push_cast, Nat.reduceAdd, Nat.reduceMul, Nat.reduceSub, Nat.reduceLeDiff, Nat.reduceLT, Nat.reduceEqDiff, Nat.reduceBEq, Nat.reduceBNe, Nat.reduceMod, Nat.reduceDiv, Int.reduceLE, Int.reduceLT, Int.reduceToNat, Int.reduceAdd, Int.reduceSub, Int.reduceMul, Int.reduceNeg, Int.reduceEq, Int.reduceBEq, Int.reduceBNe, ↓reduceIte, reduceCtorEq, String.reduceBNe, String.reduceEq, reduceDIte, Nat.reducePow, imp_self, hD, lk_old hD, q8, q16, q24, hA, hB, hac, u8l_len, pwr, rowB, prB, Int.le_refl, Nat.le_refl, c1, c2, c3, hd1, hd2, hd3, hdl, hwi, e9, hks]
    exact Weak.to (extra := [_, _]) (by simp only [Keeps, Tm.get_cons, Nat.reduceEqDiff, ↓reduceIte, if_true, if_false, ite_true, ite_false, true_and, and_true, and_self, reduceCtorEq, hwi, e9, hks]) (by first | rfl | (simp only [List.append_assoc, List.cons_append, List.nil_append]; rfl)) (by first | rfl | (simp [AV.below, CV.below, u8l_below]; done) | (simp [AV.below, CV.below, u8l_below]; omega)) (by
      first | exact hwf | refine MWf.app (hwf.grow (by simp)) ?_
      repeat (first | exact MWf_nil | (refine MWf_cons ?_ ?_; · first | rfl | (simp [CV.below, u8l_below]; done) | (simp [CV.below, u8l_below]; omega))))
  · have hie : i = np := by have := of_decide_eq_false h32; omega
    subst hie
    refine AW.exit ?_
    refine Thn_e ?_
    clear hK K
    refine Thn_e ?_
    refine InB_here ?_
    refine Thn_n ?_
    refine hK _ _ ?_
    clear hK K
    refine AW.seq_k fun K hK => ?_
    refine AW.region (by decide) ?_
    simp only [push_cast, Nat.reduceAdd, Nat.reduceMul, Nat.reduceSub, Nat.reduceLeDiff, Nat.reduceLT, Nat.reduceEqDiff, Nat.reduceBEq, Nat.reduceBNe, Nat.reduceMod, Nat.reduceDiv, Int.reduceLE, Int.reduceLT, Int.reduceToNat, Int.reduceAdd, Int.reduceSub, Int.reduceMul, Int.reduceNeg, Int.reduceEq, Int.reduceBEq, Int.reduceBNe, ↓reduceIte, reduceCtorEq, String.reduceBNe, String.reduceEq, reduceDIte, Nat.reducePow, imp_self, hD, lk_old hD, q8, q16, q24, hA, hB, hac, u8l_len, pwr, rowB, prB, Int.le_refl, Nat.le_refl, hs1, hs2, hs3, hfn, hsh]
    refine CThen.by (sum_c (m.length + 1) (m.length + 2) (4 + 2 * i) (absS P0 (hdL k f ++ D)) _ (by simp only [push_cast, Nat.reduceAdd, Nat.reduceMul, Nat.reduceSub, Nat.reduceLeDiff, Nat.reduceLT, Nat.reduceEqDiff, Nat.reduceBEq, Nat.reduceBNe, Nat.reduceMod, Nat.reduceDiv, Int.reduceLE, Int.reduceLT, Int.reduceToNat, Int.reduceAdd, Int.reduceSub, Int.reduceMul, Int.reduceNeg, Int.reduceEq, Int.reduceBEq, Int.reduceBNe, ↓reduceIte, reduceCtorEq, String.reduceBNe, String.reduceEq, reduceDIte, Nat.reducePow, prB]) (by simp only [push_cast, Nat.reduceAdd, Nat.reduceMul, Nat.reduceSub, Nat.reduceLeDiff, Nat.reduceLT, Nat.reduceEqDiff, Nat.reduceBEq, Nat.reduceBNe, Nat.reduceMod, Nat.reduceDiv, Int.reduceLE, Int.reduceLT, Int.reduceToNat, Int.reduceAdd, Int.reduceSub, Int.reduceMul, Int.reduceNeg, Int.reduceEq, Int.reduceBEq, Int.reduceBNe, ↓reduceIte, reduceCtorEq, String.reduceBNe, String.reduceEq, reduceDIte, Nat.reducePow, rowB]) (absS_r _ _) (hfn ▸ hso i)) ?_
    simp only [push_cast, Nat.reduceAdd, Nat.reduceMul, Nat.reduceSub, Nat.reduceLeDiff, Nat.reduceLT, Nat.reduceEqDiff, Nat.reduceBEq, Nat.reduceBNe, Nat.reduceMod, Nat.reduceDiv, Int.reduceLE, Int.reduceLT, Int.reduceToNat, Int.reduceAdd, Int.reduceSub, Int.reduceMul, Int.reduceNeg, Int.reduceEq, Int.reduceBEq, Int.reduceBNe, ↓reduceIte, reduceCtorEq, String.reduceBNe, String.reduceEq, reduceDIte, Nat.reducePow, imp_self, hD, lk_old hD, q8, q16, q24, hA, hB, hac, u8l_len, pwr, rowB, prB, Int.le_refl, Nat.le_refl, hs1, hs2, hs3, hfn, hsh]
    refine Thn_n ?_
    refine hK _ _ ?_
    clear hK K
    refine AW.ret ?_
    refine hQ _ _ _ ?_
    refine RetP.drop (Or.inr rfl) ?_ ?_ hwf
    · simp only [resA, resOne, resTv, AV.tv, push_cast, Nat.reduceAdd, Nat.reduceMul, Nat.reduceSub, Nat.reduceLeDiff, Nat.reduceLT, Nat.reduceEqDiff, Nat.reduceBEq, Nat.reduceBNe, Nat.reduceMod, Nat.reduceDiv, Int.reduceLE, Int.reduceLT, Int.reduceToNat, Int.reduceAdd, Int.reduceSub, Int.reduceMul, Int.reduceNeg, Int.reduceEq, Int.reduceBEq, Int.reduceBNe, ↓reduceIte, reduceCtorEq, String.reduceBNe, String.reduceEq, reduceDIte, Nat.reducePow, hs1, hs2, hs3, hs4, u8l_len]
    · rfl
    
end Go.Proofs.YtmjbbnfmhgcfaaaDoor

set_option linter.unusedSimpArgs false
set_option linter.unusedVariables false
set_option maxRecDepth 100000
set_option maxHeartbeats 4000000
namespace Go.Proofs.YtmjbbnfmhgcfaaaDoor
open Go Go.Eng

theorem num_head (k f : Nat) (hk : k < 4) (hf : f < 4294967296) : ([87] ++ numL k 1) ++ numL f 4 = hdL (k : Int) (f : Int) := by
  have e1 : IntKind.u8.wrap (k : Int) = bN k 0 := by rw [w8]; unfold bN; omega
  have e2 : IntKind.u8.wrap (f : Int) = bN f 0 := by rw [w8]; unfold bN; omega
  have e3 : IntKind.u8.wrap ((f : Int).fdiv 256) = bN f 1 := by
    rw [Int.fdiv_eq_ediv_of_nonneg _ (by omega), w8]; unfold bN; omega
  have e4 : IntKind.u8.wrap ((f : Int).fdiv 65536) = bN f 2 := by
    rw [Int.fdiv_eq_ediv_of_nonneg _ (by omega), w8]; unfold bN; omega
  have e5 : IntKind.u8.wrap ((f : Int).fdiv 16777216) = bN f 3 := by
    rw [Int.fdiv_eq_ediv_of_nonneg _ (by omega), w8]; unfold bN; omega
  simp only [hdL, hdA, hdB, numL, e1, e2, e3, e4, e5]
  rfl
theorem num_l (r v x n L : Nat) (bs : List Int) (m : AMem) (hL : bs.length = L) (hb : ∃ k ez, m[r]? = some ⟨k, 5, v, ez, u8l bs⟩) (hbl : bs.length ≤ 1000000) (hn : n ≤ 8) (hx : x < 18446744073709551616) : Ctr Tryd.prog 23 [.one (.sl r v 0 L), .one (.int .u64 (x : Int)), .one (.int .i64 (n : Int))] m (.one (.sl m.length 0 0 (L + n))) (m ++ [⟨.grow, 5, 0, 1, u8l (bs ++ numL x n)⟩]) := by
  subst hL; exact num_c r v x n bs m hb hbl hn hx
theorem rof_l (rb v L : Nat) (bs : List Int) (m : AMem) (hL : bs.length = L) (hb : ∃ k ty ez, m[rb]? = some ⟨k, ty, v, ez, u8l bs⟩) (hu : U8ok bs) (hl : bs.length ≤ 1000000) : Ctr Tryd.prog 19 [.agg (ul (HLL ++ KW)), .one (.sl rb v 0 L)] m (.agg (u8l (shaL bs))) m := by
  subst hL; exact rof_c rb v 0 bs bs m hb (by omega) (by rw [List.drop_zero, List.take_length]) hu hl
theorem rkey_c (k f : Nat) (lo vo np : Nat) (D : List Int) (ko : BK) (eo : Nat) (m : AMem) (hD : m[lo]? = some ⟨ko, 26, vo, eo, u8l D⟩) (hko : ko = .grow) (hl : D.length = 32 * np) (hu : U8ok D) (hnp : np ≤ 30) (hk : k < 4) (hf : f < 4294967296) : Ctr Tryd.prog 9 [.agg (ul (HLL ++ KW)), .one (.int .i64 (k : Int)), .one (.int .i64 (f : Int)), .one (.sl lo vo 0 np)] m (.agg (u8l (shaL (hdL (k : Int) (f : Int) ++ D)))) m := by
  refine Ctr.enter Tryd.func9 rfl (by decide) (rs := [.cell 8 26]) (nt := 33) rfl rfl fun hwf Q hQ => ?_
  subst hko
  have llo := get_lt hD
  have hkw : IntKind.u64.wrap (k : Int) = (k : Int) := by rw [IntKind.wrap_u64]; omega
  have hfw : IntKind.u64.wrap (f : Int) = (f : Int) := by rw [IntKind.wrap_u64]; omega
  have hnh : 87 :: (numL k 1 ++ numL f 4) = hdL (k : Int) (f : Int) := num_head k f hk hf
  have hhl : (hdL (k : Int) (f : Int)).length = 6 := rfl
  have h87 : [CV.int .u8 87] = u8l [87] := rfl
  have htl : (ul (HLL ++ KW)).take 72 = ul (HLL ++ KW) := rfl
  have hvl : (ul (HLL ++ KW)).length = 72 := rfl
  have hvv := ul_vals (HLL ++ KW)
  have hs2 := shaL_len (hdL (k : Int) (f : Int) ++ D)
  have hs1 : setL [.int .u8 0, .int .u8 0, .int .u8 0, .int .u8 0, .int .u8 0, .int .u8 0, .int .u8 0, .int .u8 0, .int .u8 0, .int .u8 0, .int .u8 0, .int .u8 0, .int .u8 0, .int .u8 0, .int .u8 0, .int .u8 0, .int .u8 0, .int .u8 0, .int .u8 0, .int .u8 0, .int .u8 0, .int .u8 0, .int .u8 0, .int .u8 0, .int .u8 0, .int .u8 0, .int .u8 0, .int .u8 0, .int .u8 0, .int .u8 0, .int .u8 0, .int .u8 0] 0 (u8l (shaL (hdL (k : Int) (f : Int) ++ D))) = u8l (shaL (hdL (k : Int) (f : Int) ++ D)) := setL_full rfl
  have hs3 := u8l_vals (shaL (hdL (k : Int) (f : Int) ++ D))
  have hs4 : (u8l (shaL (hdL (k : Int) (f : Int) ++ D))).take 32 = u8l (shaL (hdL (k : Int) (f : Int) ++ D)) := List.take_of_length_le (by rw [u8l_len, hs2]; exact Nat.le_refl _)
  refine AW.seq_k fun K hK => ?_
  refine AW.region (by decide) ?_
  simp only [push_cast, Nat.reduceAdd, Nat.reduceMul, Nat.reduceSub, Nat.reduceLeDiff, Nat.reduceLT, Nat.reduceEqDiff, Nat.reduceBEq, Nat.reduceBNe, Nat.reduceMod, Nat.reduceDiv, Int.reduceLE, Int.reduceLT, Int.reduceToNat, Int.reduceAdd, Int.reduceSub, Int.reduceMul, Int.reduceNeg, Int.reduceEq, Int.reduceBEq, Int.reduceBNe, ↓reduceIte, reduceCtorEq, String.reduceBNe, String.reduceEq, reduceDIte, Nat.reducePow, imp_self, htl, hvl, hvv, hs1, hs2, hs3, hs4, hD, lk_old hD, hkw, hfw, hnh, u8l_len, ul_len, Int.le_refl, Nat.le_refl]
  refine Thn_n ?_
  refine hK _ _ ?_
  clear hK K
  refine AW.seq_k fun K hK => ?_
  refine AW.region (by decide) ?_
  simp only [push_cast, Nat.reduceAdd, Nat.reduceMul, Nat.reduceSub, Nat.reduceLeDiff, Nat.reduceLT, Nat.reduceEqDiff, Nat.reduceBEq, Nat.reduceBNe, Nat.reduceMod, Nat.reduceDiv, Int.reduceLE, Int.reduceLT, Int.reduceToNat, Int.reduceAdd, Int.reduceSub, Int.reduceMul, Int.reduceNeg, Int.reduceEq, Int.reduceBEq, Int.reduceBNe, ↓reduceIte, reduceCtorEq, String.reduceBNe, String.reduceEq, reduceDIte, Nat.reducePow, imp_self, htl, hvl, hvv, hs1, hs2, hs3, hs4, hD, lk_old hD, hkw, hfw, hnh, u8l_len, ul_len, Int.le_refl, Nat.le_refl]
  refine CThen.by (num_c (m.length + 2) 0 k 1 [87] _ ⟨.grow, 1, by simp only [push_cast, Nat.reduceAdd, Nat.reduceMul, Nat.reduceSub, Nat.reduceLeDiff, Nat.reduceLT, Nat.reduceEqDiff, Nat.reduceBEq, Nat.reduceBNe, Nat.reduceMod, Nat.reduceDiv, Int.reduceLE, Int.reduceLT, Int.reduceToNat, Int.reduceAdd, Int.reduceSub, Int.reduceMul, Int.reduceNeg, Int.reduceEq, Int.reduceBEq, Int.reduceBNe, ↓reduceIte, reduceCtorEq, String.reduceBNe, String.reduceEq, reduceDIte, Nat.reducePow]; rfl⟩ (by decide) (by decide) (by omega)) ?_
  simp only [push_cast, Nat.reduceAdd, Nat.reduceMul, Nat.reduceSub, Nat.reduceLeDiff, Nat.reduceLT, Nat.reduceEqDiff, Nat.reduceBEq, Nat.reduceBNe, Nat.reduceMod, Nat.reduceDiv, Int.reduceLE, Int.reduceLT, Int.reduceToNat, Int.reduceAdd, Int.reduceSub, Int.reduceMul, Int.reduceNeg, Int.reduceEq, Int.reduceBEq, Int.reduceBNe, ↓reduceIte, reduceCtorEq, String.reduceBNe, String.reduceEq, reduceDIte, Nat.reducePow, imp_self, htl, hvl, hvv, hs1, hs2, hs3, hs4, hD, lk_old hD, hkw, hfw, hnh, u8l_len, ul_len, Int.le_refl, Nat.le_refl]
  refine CThen.by (num_l (m.length + 3) 0 f 4 2 (87 :: numL k 1) _ rfl ⟨.grow, 1, by simp only [push_cast, Nat.reduceAdd, Nat.reduceMul, Nat.reduceSub, Nat.reduceLeDiff, Nat.reduceLT, Nat.reduceEqDiff, Nat.reduceBEq, Nat.reduceBNe, Nat.reduceMod, Nat.reduceDiv, Int.reduceLE, Int.reduceLT, Int.reduceToNat, Int.reduceAdd, Int.reduceSub, Int.reduceMul, Int.reduceNeg, Int.reduceEq, Int.reduceBEq, Int.reduceBNe, ↓reduceIte, reduceCtorEq, String.reduceBNe, String.reduceEq, reduceDIte, Nat.reducePow]⟩ (by show 2 ≤ 1000000; decide) (by decide) (by omega)) ?_
  simp only [push_cast, Nat.reduceAdd, Nat.reduceMul, Nat.reduceSub, Nat.reduceLeDiff, Nat.reduceLT, Nat.reduceEqDiff, Nat.reduceBEq, Nat.reduceBNe, Nat.reduceMod, Nat.reduceDiv, Int.reduceLE, Int.reduceLT, Int.reduceToNat, Int.reduceAdd, Int.reduceSub, Int.reduceMul, Int.reduceNeg, Int.reduceEq, Int.reduceBEq, Int.reduceBNe, ↓reduceIte, reduceCtorEq, String.reduceBNe, String.reduceEq, reduceDIte, Nat.reducePow, imp_self, htl, hvl, hvv, hs1, hs2, hs3, hs4, hD, lk_old hD, hkw, hfw, hnh, u8l_len, ul_len, Int.le_refl, Nat.le_refl]
  refine Thn_n ?_
  refine hK _ _ ?_
  clear hK K
  refine AW.seq_k fun K hK => ?_
  refine AW.seq_k fun K hK => ?_
  refine AW.region (by decide) ?_
  simp only [push_cast, Nat.reduceAdd, Nat.reduceMul, Nat.reduceSub, Nat.reduceLeDiff, Nat.reduceLT, Nat.reduceEqDiff, Nat.reduceBEq, Nat.reduceBNe, Nat.reduceMod, Nat.reduceDiv, Int.reduceLE, Int.reduceLT, Int.reduceToNat, Int.reduceAdd, Int.reduceSub, Int.reduceMul, Int.reduceNeg, Int.reduceEq, Int.reduceBEq, Int.reduceBNe, ↓reduceIte, reduceCtorEq, String.reduceBNe, String.reduceEq, reduceDIte, Nat.reducePow, imp_self, htl, hvl, hvv, hs1, hs2, hs3, hs4, hD, lk_old hD, hkw, hfw, hnh, u8l_len, ul_len, Int.le_refl, Nat.le_refl]
  refine Thn_n ?_
  refine hK _ _ ?_
  clear hK K
  refine AW.block ?_
  refine AW.loopK [3, 4, 8] (fun i => i ≤ np) (fun i => [(9, .one (.sl (m.length + 4) i 0 (6 + 32 * i))), (10, .one (.int .i64 (i : Int)))]) (fun i => [(m.length + 4, ⟨.grow, 5, i, 1, u8l (hdL (k : Int) (f : Int) ++ D.take (32 * i))⟩)]) (fun i => np - i) 0 (by omega) ?_ ?_ fun i hi5 => ?_
  · first | rfl | (simp only [Keeps, Tm.get_cons, Nat.reduceEqDiff, ↓reduceIte, if_true, if_false, ite_true, ite_false, true_and, and_true, and_self, reduceCtorEq, Int.natCast_zero, Nat.mul_zero, Nat.add_zero, List.take_zero, List.append_nil] <;> rfl)
  · first | rfl | (simp only [setAll, push_cast, Nat.reduceAdd, Nat.reduceMul, Nat.reduceSub, Nat.reduceLeDiff, Nat.reduceLT, Nat.reduceEqDiff, Nat.reduceBEq, Nat.reduceBNe, Nat.reduceMod, Nat.reduceDiv, Int.reduceLE, Int.reduceLT, Int.reduceToNat, Int.reduceAdd, Int.reduceSub, Int.reduceMul, Int.reduceNeg, Int.reduceEq, Int.reduceBEq, Int.reduceBNe, ↓reduceIte, reduceCtorEq, String.reduceBNe, String.reduceEq, reduceDIte, Nat.reducePow, imp_self, htl, hvl, hvv, hs1, hs2, hs3, hs4, hD, lk_old hD, hkw, hfw, hnh, u8l_len, ul_len, Int.le_refl, Nat.le_refl, Int.natCast_zero, Nat.mul_zero, Nat.add_zero, List.take_zero, List.append_nil] <;> rfl)
  try simp only [keepL, setAll, push_cast, Nat.reduceAdd, Nat.reduceMul, Nat.reduceSub, Nat.reduceLeDiff, Nat.reduceLT, Nat.reduceEqDiff, Nat.reduceBEq, Nat.reduceBNe, Nat.reduceMod, Nat.reduceDiv, Int.reduceLE, Int.reduceLT, Int.reduceToNat, Int.reduceAdd, Int.reduceSub, Int.reduceMul, Int.reduceNeg, Int.reduceEq, Int.reduceBEq, Int.reduceBNe, ↓reduceIte, reduceCtorEq, String.reduceBNe, String.reduceEq, reduceDIte, Nat.reducePow, imp_self, htl, hvl, hvv, hs1, hs2, hs3, hs4, hD, lk_old hD, hkw, hfw, hnh, u8l_len, ul_len, Int.le_refl, Nat.le_refl]
  refine AW.seq_k fun K hK => ?_
  refine AW.seq_k fun K hK => ?_
  refine AW.region (by decide) ?_
  simp only [push_cast, Nat.reduceAdd, Nat.reduceMul, Nat.reduceSub, Nat.reduceLeDiff, Nat.reduceLT, Nat.reduceEqDiff, Nat.reduceBEq, Nat.reduceBNe, Nat.reduceMod, Nat.reduceDiv, Int.reduceLE, Int.reduceLT, Int.reduceToNat, Int.reduceAdd, Int.reduceSub, Int.reduceMul, Int.reduceNeg, Int.reduceEq, Int.reduceBEq, Int.reduceBNe, ↓reduceIte, reduceCtorEq, String.reduceBNe, String.reduceEq, reduceDIte, Nat.reducePow, imp_self, htl, hvl, hvv, hs1, hs2, hs3, hs4, hD, lk_old hD, hkw, hfw, hnh, u8l_len, ul_len, Int.le_refl, Nat.le_refl]
  refine Thn_n ?_
  refine hK _ _ ?_
  clear hK K
  refine AW.cond rfl (fun h21 => ?_) (fun h21 => ?_)
  · have hlt : i < np := by have := of_decide_eq_true h21; omega
    have c1 : (0 : Int) ≤ (i : Int) := by omega
    have c2 : (i : Int) < (np : Int) := by omega
    have c3 : i * 32 + 32 ≤ D.length := by omega
    have hdl : ((D.drop (32 * i)).take 32).length = 32 := by rw [List.length_take, List.length_drop]; omega
    have e32 : i * 32 = 32 * i := by omega
    have hd1 : ((u8l D).drop (i * 32)).take 32 = u8l ((D.drop (32 * i)).take 32) := by rw [u8l_drop, u8l_take, e32]
    have hd2 := u8l_vals ((D.drop (32 * i)).take 32)
    have hti : (D.take (32 * i)).length = 32 * i := by rw [List.length_take]; omega
    have hsn : u8l (hdL (k : Int) (f : Int) ++ D.take (32 * i)) ++ u8l ((D.drop (32 * i)).take 32) = u8l (hdL (k : Int) (f : Int) ++ D.take (32 * (i + 1))) := by
      rw [u8l_app, List.append_assoc, show 32 * (i + 1) = 32 * i + 32 by omega, List.take_add]
    have q1 : 6 + (32 * i + 32) ≤ 140737488355328 := by omega
    refine AW.skip ?_
    refine Thn_n ?_
    refine hK _ _ ?_
    clear hK K
    refine AW.seq_k fun K hK => ?_
    refine AW.block ?_
    refine AW.region (by decide) ?_
    simp only [push_cast, Nat.reduceAdd, Nat.reduceMul, Nat.reduceSub, Nat.reduceLeDiff, Nat.reduceLT, Nat.reduceEqDiff, Nat.reduceBEq, Nat.reduceBNe, Nat.reduceMod, Nat.reduceDiv, Int.reduceLE, Int.reduceLT, Int.reduceToNat, Int.reduceAdd, Int.reduceSub, Int.reduceMul, Int.reduceNeg, Int.reduceEq, Int.reduceBEq, Int.reduceBNe, ↓reduceIte, reduceCtorEq, String.reduceBNe, String.reduceEq, reduceDIte, Nat.reducePow, imp_self, htl, hvl, hvv, hs1, hs2, hs3, hs4, hD, lk_old hD, hkw, hfw, hnh, u8l_len, ul_len, Int.le_refl, Nat.le_refl, c1, c2, c3, hdl, hd1, hd2, hti, hsn, hhl, q1]
    refine InB_n ?_
    refine Thn_n ?_
    refine hK _ _ ?_
    clear hK K
    refine AW.region (by decide) ?_
    simp only [push_cast, Nat.reduceAdd, Nat.reduceMul, Nat.reduceSub, Nat.reduceLeDiff, Nat.reduceLT, Nat.reduceEqDiff, Nat.reduceBEq, Nat.reduceBNe, Nat.reduceMod, Nat.reduceDiv, Int.reduceLE, Int.reduceLT, Int.reduceToNat, Int.reduceAdd, Int.reduceSub, Int.reduceMul, Int.reduceNeg, Int.reduceEq, Int.reduceBEq, Int.reduceBNe, ↓reduceIte, reduceCtorEq, String.reduceBNe, String.reduceEq, reduceDIte, Nat.reducePow, imp_self, htl, hvl, hvv, hs1, hs2, hs3, hs4, hD, lk_old hD, hkw, hfw, hnh, u8l_len, ul_len, Int.le_refl, Nat.le_refl, c1, c2, c3, hdl, hd1, hd2, hti, hsn, hhl, q1]
    refine Thn_n ?_
    have hwi : IntKind.i64.wrap ((i:Int)+1) = (i:Int)+1 := wi (by omega)
    have e9 : 6 + 32 * (i + 1) = 6 + (32 * i + 32) := by omega
    refine ⟨i + 1, hlt, by omega, ?_⟩
    try simp only [keepL, setAll, push_cast, Nat.reduceAdd, Nat.reduceMul, Nat.reduceSub, Nat.reduceLeDiff, Nat.reduceLT, Nat.reduceEqDiff, Nat.reduceBEq, Nat.reduceBNe, Nat.reduceMod, Nat.reduceDiv, Int.reduceLE, Int.reduceLT, Int.reduceToNat, Int.reduceAdd, Int.reduceSub, Int.reduceMul, Int.reduceNeg, Int.reduceEq, Int.reduceBEq, Int.reduceBNe, ↓reduceIte, reduceCtorEq, String.reduceBNe, String.reduceEq, reduceDIte, Nat.reducePow, imp_self, htl, hvl, hvv, hs1, hs2, hs3, hs4, hD, lk_old hD, hkw, hfw, hnh, u8l_len, ul_len, Int.le_refl, Nat.le_refl, c1, c2, c3, hdl, hd1, hd2, hti, hsn, hhl, q1, hwi, e9, hsn]
    exact Weak.same (by simp only [Keeps, Tm.get_cons, Nat.reduceEqDiff, ↓reduceIte, if_true, if_false, ite_true, ite_false, true_and, and_true, and_self, reduceCtorEq, hwi, e9, hsn]) (by first | rfl | simp only [Keeps, Tm.get_cons, Nat.reduceEqDiff, ↓reduceIte, if_true, if_false, ite_true, ite_false, true_and, and_true, and_self, reduceCtorEq, hwi, e9, hsn])
  · have hie : i = np := by have := of_decide_eq_false h21; omega
    subst hie
    have htk : D.take (32 * i) = D := List.take_of_length_le (by omega)
    have hLL : (hdL (k : Int) (f : Int) ++ D).length = 6 + 32 * i := by rw [List.length_append, hhl]; omega
    have hUU : U8ok (hdL (k : Int) (f : Int) ++ D) := (hdL_ok _ _).app hu
    refine AW.exit ?_
    refine Thn_e ?_
    clear hK K
    refine Thn_e ?_
    refine InB_here ?_
    refine Thn_n ?_
    refine hK _ _ ?_
    clear hK K
    refine AW.seq_k fun K hK => ?_
    refine AW.region (by decide) ?_
    simp only [push_cast, Nat.reduceAdd, Nat.reduceMul, Nat.reduceSub, Nat.reduceLeDiff, Nat.reduceLT, Nat.reduceEqDiff, Nat.reduceBEq, Nat.reduceBNe, Nat.reduceMod, Nat.reduceDiv, Int.reduceLE, Int.reduceLT, Int.reduceToNat, Int.reduceAdd, Int.reduceSub, Int.reduceMul, Int.reduceNeg, Int.reduceEq, Int.reduceBEq, Int.reduceBNe, ↓reduceIte, reduceCtorEq, String.reduceBNe, String.reduceEq, reduceDIte, Nat.reducePow, imp_self, htl, hvl, hvv, hs1, hs2, hs3, hs4, hD, lk_old hD, hkw, hfw, hnh, u8l_len, ul_len, Int.le_refl, Nat.le_refl, htk]
    refine CThen.by (rof_l (m.length + 4) i (6 + 32 * i) (hdL (k : Int) (f : Int) ++ D) _ hLL ⟨.grow, 5, 1, by simp only [push_cast, Nat.reduceAdd, Nat.reduceMul, Nat.reduceSub, Nat.reduceLeDiff, Nat.reduceLT, Nat.reduceEqDiff, Nat.reduceBEq, Nat.reduceBNe, Nat.reduceMod, Nat.reduceDiv, Int.reduceLE, Int.reduceLT, Int.reduceToNat, Int.reduceAdd, Int.reduceSub, Int.reduceMul, Int.reduceNeg, Int.reduceEq, Int.reduceBEq, Int.reduceBNe, ↓reduceIte, reduceCtorEq, String.reduceBNe, String.reduceEq, reduceDIte, Nat.reducePow]⟩ hUU (by omega)) ?_
    simp only [push_cast, Nat.reduceAdd, Nat.reduceMul, Nat.reduceSub, Nat.reduceLeDiff, Nat.reduceLT, Nat.reduceEqDiff, Nat.reduceBEq, Nat.reduceBNe, Nat.reduceMod, Nat.reduceDiv, Int.reduceLE, Int.reduceLT, Int.reduceToNat, Int.reduceAdd, Int.reduceSub, Int.reduceMul, Int.reduceNeg, Int.reduceEq, Int.reduceBEq, Int.reduceBNe, ↓reduceIte, reduceCtorEq, String.reduceBNe, String.reduceEq, reduceDIte, Nat.reducePow, imp_self, htl, hvl, hvv, hs1, hs2, hs3, hs4, hD, lk_old hD, hkw, hfw, hnh, u8l_len, ul_len, Int.le_refl, Nat.le_refl, htk]
    refine Thn_n ?_
    refine hK _ _ ?_
    clear hK K
    refine AW.ret ?_
    refine hQ _ _ _ ?_
    first | refine RetP.drop0 (Or.inr rfl) ?_ ?_ hwf | refine RetP.drop (Or.inr rfl) ?_ ?_ hwf
    · simp only [resA, resOne, resTv, AV.tv, push_cast, Nat.reduceAdd, Nat.reduceMul, Nat.reduceSub, Nat.reduceLeDiff, Nat.reduceLT, Nat.reduceEqDiff, Nat.reduceBEq, Nat.reduceBNe, Nat.reduceMod, Nat.reduceDiv, Int.reduceLE, Int.reduceLT, Int.reduceToNat, Int.reduceAdd, Int.reduceSub, Int.reduceMul, Int.reduceNeg, Int.reduceEq, Int.reduceBEq, Int.reduceBNe, ↓reduceIte, reduceCtorEq, String.reduceBNe, String.reduceEq, reduceDIte, Nat.reducePow, imp_self, htl, hvl, hvv, hs1, hs2, hs3, hs4, hD, lk_old hD, hkw, hfw, hnh, u8l_len, ul_len, Int.le_refl, Nat.le_refl, htk]
    · rfl
end Go.Proofs.YtmjbbnfmhgcfaaaDoor

set_option linter.unusedSimpArgs false
set_option linter.unusedVariables false
set_option maxRecDepth 100000
set_option maxHeartbeats 4000000
namespace Go.Proofs.YtmjbbnfmhgcfaaaDoor
open Go Go.Eng

/-- Which works a work needs, by their numbers. -/
def ndL (i : Nat) : List Nat := if i % 4 = 0 then [] else if i % 4 = 1 then (if i / 4 = 0 then [i - 1] else [i - 1, i - 5, i - 4]) else if i % 4 = 2 then [i - 2, i - 1] else [i - 1]
def nl (xs : List Nat) : List CV := xs.map fun x : Nat => CV.int .i64 ((x : Nat) : Int)
theorem nl_len (xs : List Nat) : (nl xs).length = xs.length := by simp [nl]
theorem nl_below (L : Nat) (xs : List Nat) : (nl xs).all (CV.below L) = true := by
  simp only [nl, List.all_map, List.all_eq_true]; intro x _; rfl
theorem nl_vals (xs : List Nat) : (nl xs).all CV.isVal = true := by
  simp only [nl, List.all_map, List.all_eq_true]; intro x _; rfl
def ofB (J : List Int) (ks : List (List Int)) (i : Nat) : List Int := if i % 4 = 0 then J else (ndL i).flatMap fun j => ks.getD j []
def ksL (J : List Int) : Nat → List (List Int)
  | 0 => []
  | n + 1 => ksL J n ++ [shaL (hdL ((n % 4 : Nat) : Int) ((n / 4 : Nat) : Int) ++ ofB J (ksL J n) n)]
theorem ksL_len (J : List Int) : ∀ n, (ksL J n).length = n
  | 0 => rfl
  | n + 1 => by simp [ksL, ksL_len J n]
/-- A work's key. -/
def ky (J : List Int) (i : Nat) : List Int := (ksL J (i + 1)).getD i []
theorem ky_eq (J : List Int) (n : Nat) : ky J n = shaL (hdL ((n % 4 : Nat) : Int) ((n / 4 : Nat) : Int) ++ ofB J (ksL J n) n) := by
  have := ksL_len J n
  simp only [ky, ksL, List.getD_eq_getElem?_getD]
  rw [List.getElem?_append_right (by omega), this, Nat.sub_self]; rfl
theorem ksL_get (J : List Int) : ∀ (n j : Nat), j < n → (ksL J n).getD j [] = ky J j
  | 0, _, h => by omega
  | n + 1, j, h => by
    rcases Nat.lt_or_ge j n with hj | hj
    · have := ksL_len J n
      simp only [ksL]
      rw [List.getD_eq_getElem?_getD, List.getElem?_append_left (by omega), ← List.getD_eq_getElem?_getD]
      exact ksL_get J n j hj
    · obtain rfl : j = n := by omega
      rfl
theorem ky_len (J : List Int) (i : Nat) : (ky J i).length = 32 := by rw [ky_eq]; rfl
theorem ky_ok (J : List Int) (i : Nat) : U8ok (ky J i) := by rw [ky_eq]; exact shaL_ok _
theorem ndL_lt (i : Nat) : ∀ j, j ∈ ndL i → j < i := fun j hj => by
  unfold ndL at hj
  split at hj
  · cases hj
  · split at hj
    · split at hj <;> simp at hj <;> omega
    · split at hj <;> simp at hj <;> omega
theorem ofB_eq (J : List Int) (n : Nat) : ofB J (ksL J n) n = if n % 4 = 0 then J else (ndL n).flatMap fun j => ky J j := by
  unfold ofB
  split
  · rfl
  · have : ∀ l : List Nat, (∀ j, j ∈ l → j < n) → (l.flatMap fun j => (ksL J n).getD j []) = l.flatMap fun j => ky J j := by
      intro l
      induction l with
      | nil => intro _; rfl
      | cons a l ih =>
        intro h
        simp only [List.flatMap_cons]
        rw [ih fun j hj => h j (List.mem_cons_of_mem _ hj), ksL_get J n a (h a List.mem_cons_self)]
    exact this _ (ndL_lt n)
/-- How many lists of needs stand ahead of a work's. -/
def rwN (i : Nat) : Nat := 3 * (i / 4) + (i % 4 - 1)
def ndC (b i : Nat) : CV := if i % 4 = 0 then .nils else .sl (b + rwN i) 0 0 (ndL i).length
def wC (J : List Int) (b i : Nat) : List CV := .int .i64 ((i % 4 : Nat) : Int) :: .int .i64 ((i / 4 : Nat) : Int) :: (u8l (ky J i) ++ [ndC b i])
theorem wC_len (J : List Int) (b i : Nat) : (wC J b i).length = 35 := by simp [wC, u8l_len, ky_len]
theorem wC_vals (J : List Int) (b i : Nat) : (wC J b i).all CV.isVal = true := by
  have h1 := u8l_vals (ky J i)
  have h2 : (ndC b i).isVal = true := by unfold ndC; split <;> rfl
  simp only [wC, List.all_cons, List.all_append, h1, h2, List.all_nil]; rfl
def wR (J : List Int) (b : Nat) : Nat → List CV
  | 0 => []
  | n + 1 => wR J b n ++ wC J b n
theorem wR_len (J : List Int) (b : Nat) : ∀ n, (wR J b n).length = 35 * n
  | 0 => rfl
  | n + 1 => by simp only [wR, List.length_append, wR_len J b n, wC_len]; omega
theorem wR_at (J : List Int) (b : Nat) : ∀ (n j : Nat), j < n → ((wR J b n).drop (35 * j)).take 35 = wC J b j
  | 0, _, h => by omega
  | n + 1, j, h => by
    have hl := wR_len J b n
    simp only [wR]
    rcases Nat.lt_or_ge j n with hj | hj
    · rw [List.drop_append_of_le_length (by omega), List.take_append_of_le_length (by rw [List.length_drop]; omega)]
      exact wR_at J b n j hj
    · obtain rfl : j = n := by omega
      rw [show 35 * j = (wR J b j).length from hl.symm, List.drop_left]
      exact List.take_of_length_le (by rw [wC_len]; exact Nat.le_refl _)
theorem wR_cell (J : List Int) (b n j c : Nat) (hj : j < n) (hc : c < 35) : (wR J b n)[35 * j + c]? = (wC J b j)[c]? := by
  have h := wR_at J b n j hj
  rw [← h, List.getElem?_take, if_pos hc, List.getElem?_drop]
theorem wR_key (J : List Int) (b n j : Nat) (hj : j < n) : ((wR J b n).drop (35 * j + 2)).take 32 = u8l (ky J j) := by
  have h := wR_at J b n j hj
  have e : ((wR J b n).drop (35 * j + 2)).take 32 = ((((wR J b n).drop (35 * j)).take 35).drop 2).take 32 := by
    rw [List.drop_take, List.drop_drop, List.take_take]; rfl
  rw [e, h]
  simp only [wC, List.drop_succ_cons, List.drop_zero]
  have hl : (u8l (ky J j)).length = 32 := by rw [u8l_len, ky_len]
  rw [List.take_append_of_le_length (by omega), ← hl, List.take_length]
/-- The lists of needs of a frame's first works; of some frames. -/
def rwF (f : Nat) : Nat → AMem
  | 0 => []
  | k + 1 => rwF f k ++ (if k = 0 then [] else [⟨.grow, 3, 0, 1, nl (ndL (4 * f + k))⟩])
def rwG : Nat → AMem
  | 0 => []
  | f + 1 => rwG f ++ rwF f 4
theorem rwF_len (f : Nat) : ∀ k, (rwF f k).length = k - 1
  | 0 => rfl
  | 1 => rfl
  | k + 2 => by
    have := rwF_len f (k + 1)
    have e : rwF f (k + 2) = rwF f (k + 1) ++ [⟨.grow, 3, 0, 1, nl (ndL (4 * f + (k + 1)))⟩] := rfl
    rw [e, List.length_append, this]; rfl
theorem rwG_len : ∀ f, (rwG f).length = 3 * f
  | 0 => rfl
  | f + 1 => by simp only [rwG, List.length_append, rwG_len f, rwF_len]; omega
/-- Where a work's list of needs stands. -/
theorem rw_get {f k F : Nat} (hf : f < F) (h1 : 1 ≤ k) (h2 : k < 4) : (rwG F)[3 * f + (k - 1)]? = some ⟨.grow, 3, 0, 1, nl (ndL (4 * f + k))⟩ := by
  have hF : ∀ F, f < F → (rwG F)[3 * f + (k - 1)]? = (rwF f 4)[k - 1]? := by
    intro F
    induction F with
    | zero => intro h; omega
    | succ F ih =>
      intro h
      have hl := rwG_len F
      simp only [rwG]
      rcases Nat.lt_or_ge f F with hf | hf
      · rw [List.getElem?_append_left (by omega)]; exact ih hf
      · obtain rfl : f = F := by omega
        rw [List.getElem?_append_right (by omega), hl]; congr 1; omega
  rw [hF F hf]
  have hk : k = 1 ∨ k = 2 ∨ k = 3 := by omega
  rcases hk with rfl | rfl | rfl <;> rfl
theorem at_c (k f : Nat) (m : AMem) (hk : k < 4) (hf : f ≤ 1000) : Ctr Tryd.prog 14 [.one (.int .i64 (k : Int)), .one (.int .i64 (f : Int))] m (.one (.int .i64 ((4 * f + k : Nat) : Int))) m := by
  refine Ctr.enter Tryd.func14 rfl (by decide) (rs := [.tmp 4]) (nt := 9) rfl rfl fun hwf Q hQ => ?_
  have w1 : IntKind.i64.wrap (4 * (f : Int)) = 4 * (f : Int) := wi (by omega)
  have w2 : IntKind.i64.wrap (4 * (f : Int) + (k : Int)) = 4 * (f : Int) + (k : Int) := wi (by omega)
  iterate 2
    refine AW.seq_k fun K hK => ?_
    refine AW.region (by decide) ?_
    simp only [push_cast, Nat.reduceAdd, Nat.reduceMul, Nat.reduceSub, Nat.reduceLeDiff, Nat.reduceLT, Nat.reduceEqDiff, Nat.reduceBEq, Nat.reduceBNe, Nat.reduceMod, Nat.reduceDiv, Int.reduceLE, Int.reduceLT, Int.reduceToNat, Int.reduceAdd, Int.reduceSub, Int.reduceMul, Int.reduceNeg, Int.reduceEq, Int.reduceBEq, Int.reduceBNe, ↓reduceIte, reduceCtorEq, String.reduceBNe, String.reduceEq, reduceDIte, Nat.reducePow, w1, w2]
    refine Thn_n ?_
    refine hK _ _ ?_
    clear hK K
  refine AW.ret ?_
  refine hQ _ _ _ ?_
  first | refine RetP.drop0 (Or.inr rfl) ?_ ?_ hwf | refine RetP.drop (Or.inr rfl) ?_ ?_ hwf
  · simp only [resA, resOne, resTv, AV.tv, push_cast, Nat.reduceAdd, Nat.reduceMul, Nat.reduceSub, Nat.reduceLeDiff, Nat.reduceLT, Nat.reduceEqDiff, Nat.reduceBEq, Nat.reduceBNe, Nat.reduceMod, Nat.reduceDiv, Int.reduceLE, Int.reduceLT, Int.reduceToNat, Int.reduceAdd, Int.reduceSub, Int.reduceMul, Int.reduceNeg, Int.reduceEq, Int.reduceBEq, Int.reduceBNe, ↓reduceIte, reduceCtorEq, String.reduceBNe, String.reduceEq, reduceDIte, Nat.reducePow, w1, w2]
  · rfl
end Go.Proofs.YtmjbbnfmhgcfaaaDoor

set_option linter.unusedSimpArgs false
set_option linter.unusedVariables false
set_option maxRecDepth 100000
set_option maxHeartbeats 4000000
namespace Go.Proofs.YtmjbbnfmhgcfaaaDoor
open Go Go.Eng

theorem nd0 (f : Nat) : ndL (4 * f) = [] := by unfold ndL; rw [if_pos (by omega)]
theorem nd1z : ndL 1 = [0] := rfl
theorem nd1s (f : Nat) : ndL (4 * (f + 1) + 1) = [4 * (f + 1), 4 * f, 4 * f + 1] := by
  unfold ndL
  rw [if_neg (by omega), if_pos (by omega), if_neg (by omega)]
  simp only [List.cons.injEq, and_true]
  omega
theorem nd2 (f : Nat) : ndL (4 * f + 2) = [4 * f, 4 * f + 1] := by
  unfold ndL
  rw [if_neg (by omega), if_neg (by omega), if_pos (by omega)]
  simp only [List.cons.injEq, and_true]
  omega
theorem nd3 (f : Nat) : ndL (4 * f + 3) = [4 * f + 2] := by
  unfold ndL
  rw [if_neg (by omega), if_neg (by omega), if_neg (by omega)]
  simp only [List.cons.injEq, and_true]
  omega
theorem needs0_c (f : Nat) (m : AMem) : Ctr Tryd.prog 24 [.one (.int .i64 0), .one (.int .i64 (f : Int))] m (.one .nils) m := by
  refine Ctr.enter Tryd.func24 rfl (by decide) (rs := [.tmp 4]) (nt := 41) rfl rfl fun hwf Q hQ => ?_
  refine AW.seq_k fun K hK => ?_
  refine AW.region (by decide) ?_
  simp only [push_cast, Nat.reduceAdd, Nat.reduceMul, Nat.reduceSub, Nat.reduceLeDiff, Nat.reduceLT, Nat.reduceEqDiff, Nat.reduceBEq, Nat.reduceBNe, Nat.reduceMod, Nat.reduceDiv, Int.reduceLE, Int.reduceLT, Int.reduceToNat, Int.reduceAdd, Int.reduceSub, Int.reduceMul, Int.reduceNeg, Int.reduceEq, Int.reduceBEq, Int.reduceBNe, ↓reduceIte, reduceCtorEq, String.reduceBNe, String.reduceEq, reduceDIte, Nat.reducePow]
  refine Thn_n ?_
  refine hK _ _ ?_
  clear hK K
  refine AW.seq_k fun K hK => ?_
  refine AW.block ?_
  iterate 4
    refine AW.seq_k fun K hK => ?_
    refine AW.region (by decide) ?_
    simp only [push_cast, Nat.reduceAdd, Nat.reduceMul, Nat.reduceSub, Nat.reduceLeDiff, Nat.reduceLT, Nat.reduceEqDiff, Nat.reduceBEq, Nat.reduceBNe, Nat.reduceMod, Nat.reduceDiv, Int.reduceLE, Int.reduceLT, Int.reduceToNat, Int.reduceAdd, Int.reduceSub, Int.reduceMul, Int.reduceNeg, Int.reduceEq, Int.reduceBEq, Int.reduceBNe, ↓reduceIte, reduceCtorEq, String.reduceBNe, String.reduceEq, reduceDIte, Nat.reducePow]
    refine Thn_n ?_
    refine hK _ _ ?_
    clear hK K
    refine AW.cond_f rfl ?_
  refine AW.skip ?_
  refine InB_n ?_
  refine Thn_n ?_
  refine hK _ _ ?_
  clear hK K
  refine AW.seq_k fun K hK => ?_
  refine AW.region (by decide) ?_
  simp only [push_cast, Nat.reduceAdd, Nat.reduceMul, Nat.reduceSub, Nat.reduceLeDiff, Nat.reduceLT, Nat.reduceEqDiff, Nat.reduceBEq, Nat.reduceBNe, Nat.reduceMod, Nat.reduceDiv, Int.reduceLE, Int.reduceLT, Int.reduceToNat, Int.reduceAdd, Int.reduceSub, Int.reduceMul, Int.reduceNeg, Int.reduceEq, Int.reduceBEq, Int.reduceBNe, ↓reduceIte, reduceCtorEq, String.reduceBNe, String.reduceEq, reduceDIte, Nat.reducePow]
  refine Thn_n ?_
  refine hK _ _ ?_
  clear hK K
  refine AW.ret ?_
  refine hQ _ _ _ ?_
  first | refine RetP.drop0 (Or.inr rfl) ?_ ?_ hwf | refine RetP.drop (Or.inr rfl) ?_ ?_ hwf
  · simp only [resA, resOne, resTv, AV.tv, push_cast, Nat.reduceAdd, Nat.reduceMul, Nat.reduceSub, Nat.reduceLeDiff, Nat.reduceLT, Nat.reduceEqDiff, Nat.reduceBEq, Nat.reduceBNe, Nat.reduceMod, Nat.reduceDiv, Int.reduceLE, Int.reduceLT, Int.reduceToNat, Int.reduceAdd, Int.reduceSub, Int.reduceMul, Int.reduceNeg, Int.reduceEq, Int.reduceBEq, Int.reduceBNe, ↓reduceIte, reduceCtorEq, String.reduceBNe, String.reduceEq, reduceDIte, Nat.reducePow]
  · rfl
theorem needs1z_c (m : AMem) : Ctr Tryd.prog 24 [.one (.int .i64 1), .one (.int .i64 0)] m (.one (.sl m.length 0 0 1)) (m ++ [⟨.grow, 3, 0, 1, nl (ndL 1)⟩]) := by
  refine Ctr.enter Tryd.func24 rfl (by decide) (rs := [.tmp 4]) (nt := 41) rfl rfl fun hwf Q hQ => ?_
  have hrow : nl (ndL 1) = [.int .i64 0] := rfl
  refine AW.seq_k fun K hK => ?_
  refine AW.region (by decide) ?_
  simp only [push_cast, Nat.reduceAdd, Nat.reduceMul, Nat.reduceSub, Nat.reduceLeDiff, Nat.reduceLT, Nat.reduceEqDiff, Nat.reduceBEq, Nat.reduceBNe, Nat.reduceMod, Nat.reduceDiv, Int.reduceLE, Int.reduceLT, Int.reduceToNat, Int.reduceAdd, Int.reduceSub, Int.reduceMul, Int.reduceNeg, Int.reduceEq, Int.reduceBEq, Int.reduceBNe, ↓reduceIte, reduceCtorEq, String.reduceBNe, String.reduceEq, reduceDIte, Nat.reducePow]
  refine Thn_n ?_
  refine hK _ _ ?_
  clear hK K
  refine AW.seq_k fun K hK => ?_
  refine AW.block ?_
  refine AW.seq_k fun K hK => ?_
  refine AW.region (by decide) ?_
  simp only [push_cast, Nat.reduceAdd, Nat.reduceMul, Nat.reduceSub, Nat.reduceLeDiff, Nat.reduceLT, Nat.reduceEqDiff, Nat.reduceBEq, Nat.reduceBNe, Nat.reduceMod, Nat.reduceDiv, Int.reduceLE, Int.reduceLT, Int.reduceToNat, Int.reduceAdd, Int.reduceSub, Int.reduceMul, Int.reduceNeg, Int.reduceEq, Int.reduceBEq, Int.reduceBNe, ↓reduceIte, reduceCtorEq, String.reduceBNe, String.reduceEq, reduceDIte, Nat.reducePow]
  refine Thn_n ?_
  refine hK _ _ ?_
  clear hK K
  refine AW.cond_f rfl ?_
  refine AW.seq_k fun K hK => ?_
  refine AW.region (by decide) ?_
  simp only [push_cast, Nat.reduceAdd, Nat.reduceMul, Nat.reduceSub, Nat.reduceLeDiff, Nat.reduceLT, Nat.reduceEqDiff, Nat.reduceBEq, Nat.reduceBNe, Nat.reduceMod, Nat.reduceDiv, Int.reduceLE, Int.reduceLT, Int.reduceToNat, Int.reduceAdd, Int.reduceSub, Int.reduceMul, Int.reduceNeg, Int.reduceEq, Int.reduceBEq, Int.reduceBNe, ↓reduceIte, reduceCtorEq, String.reduceBNe, String.reduceEq, reduceDIte, Nat.reducePow]
  refine Thn_n ?_
  refine hK _ _ ?_
  clear hK K
  refine AW.cond_t rfl ?_
  refine AW.seq_k fun K hK => ?_
  refine AW.region (by decide) ?_
  simp only [push_cast, Nat.reduceAdd, Nat.reduceMul, Nat.reduceSub, Nat.reduceLeDiff, Nat.reduceLT, Nat.reduceEqDiff, Nat.reduceBEq, Nat.reduceBNe, Nat.reduceMod, Nat.reduceDiv, Int.reduceLE, Int.reduceLT, Int.reduceToNat, Int.reduceAdd, Int.reduceSub, Int.reduceMul, Int.reduceNeg, Int.reduceEq, Int.reduceBEq, Int.reduceBNe, ↓reduceIte, reduceCtorEq, String.reduceBNe, String.reduceEq, reduceDIte, Nat.reducePow]
  refine CThen.by (at_c 0 0 _ (by decide) (by decide)) ?_
  simp only [push_cast, Nat.reduceAdd, Nat.reduceMul, Nat.reduceSub, Nat.reduceLeDiff, Nat.reduceLT, Nat.reduceEqDiff, Nat.reduceBEq, Nat.reduceBNe, Nat.reduceMod, Nat.reduceDiv, Int.reduceLE, Int.reduceLT, Int.reduceToNat, Int.reduceAdd, Int.reduceSub, Int.reduceMul, Int.reduceNeg, Int.reduceEq, Int.reduceBEq, Int.reduceBNe, ↓reduceIte, reduceCtorEq, String.reduceBNe, String.reduceEq, reduceDIte, Nat.reducePow]
  refine Thn_n ?_
  refine hK _ _ ?_
  clear hK K
  refine AW.ret ?_
  refine InB_r ?_
  refine Thn_r ?_
  refine hQ _ _ _ ?_
  refine RetP.pick [(m.length, 0)] (Or.inr rfl) ?_ ?_ ?_ hwf ?_
  · simp only [resA, resOne, resTv, AV.tv, push_cast, Nat.reduceAdd, Nat.reduceMul, Nat.reduceSub, Nat.reduceLeDiff, Nat.reduceLT, Nat.reduceEqDiff, Nat.reduceBEq, Nat.reduceBNe, Nat.reduceMod, Nat.reduceDiv, Int.reduceLE, Int.reduceLT, Int.reduceToNat, Int.reduceAdd, Int.reduceSub, Int.reduceMul, Int.reduceNeg, Int.reduceEq, Int.reduceBEq, Int.reduceBNe, ↓reduceIte, reduceCtorEq, String.reduceBNe, String.reduceEq, reduceDIte, Nat.reducePow]
    simp [renV, renT, renL, renC, renIdx]
  · simp only [picks, push_cast, Nat.reduceAdd, Nat.reduceMul, Nat.reduceSub, Nat.reduceLeDiff, Nat.reduceLT, Nat.reduceEqDiff, Nat.reduceBEq, Nat.reduceBNe, Nat.reduceMod, Nat.reduceDiv, Int.reduceLE, Int.reduceLT, Int.reduceToNat, Int.reduceAdd, Int.reduceSub, Int.reduceMul, Int.reduceNeg, Int.reduceEq, Int.reduceBEq, Int.reduceBNe, ↓reduceIte, reduceCtorEq, String.reduceBNe, String.reduceEq, reduceDIte, Nat.reducePow]; rw [hrow]
  · simp [distinctFrom]
  · exact MWf_one (nl_below _ _)
  
theorem needs1s_c (f : Nat) (m : AMem) (hf : f ≤ 900) : Ctr Tryd.prog 24 [.one (.int .i64 1), .one (.int .i64 ((f : Int) + 1))] m (.one (.sl m.length 0 0 3)) (m ++ [⟨.grow, 3, 0, 1, nl (ndL (4 * (f + 1) + 1))⟩]) := by
  refine Ctr.enter Tryd.func24 rfl (by decide) (rs := [.tmp 4]) (nt := 41) rfl rfl fun hwf Q hQ => ?_
  have c0 : (0 : Int) < (f : Int) + 1 := by omega
  have w0 : IntKind.i64.wrap ((f : Int) + 1 - 1) = (f : Int) := by rw [IntKind.wrap_i64]; omega
  have hrow : nl (ndL (4 * (f + 1) + 1)) = [.int .i64 ((4 * (f + 1) + 0 : Nat) : Int), .int .i64 ((4 * f + 0 : Nat) : Int), .int .i64 ((4 * f + 1 : Nat) : Int)] := by rw [nd1s]; rfl
  simp only [push_cast, Nat.reduceAdd, Nat.reduceMul, Nat.reduceSub, Nat.reduceLeDiff, Nat.reduceLT, Nat.reduceEqDiff, Nat.reduceBEq, Nat.reduceBNe, Nat.reduceMod, Nat.reduceDiv, Int.reduceLE, Int.reduceLT, Int.reduceToNat, Int.reduceAdd, Int.reduceSub, Int.reduceMul, Int.reduceNeg, Int.reduceEq, Int.reduceBEq, Int.reduceBNe, ↓reduceIte, reduceCtorEq, String.reduceBNe, String.reduceEq, reduceDIte, Nat.reducePow] at hrow
  refine AW.seq_k fun K hK => ?_
  refine AW.region (by decide) ?_
  simp only [push_cast, Nat.reduceAdd, Nat.reduceMul, Nat.reduceSub, Nat.reduceLeDiff, Nat.reduceLT, Nat.reduceEqDiff, Nat.reduceBEq, Nat.reduceBNe, Nat.reduceMod, Nat.reduceDiv, Int.reduceLE, Int.reduceLT, Int.reduceToNat, Int.reduceAdd, Int.reduceSub, Int.reduceMul, Int.reduceNeg, Int.reduceEq, Int.reduceBEq, Int.reduceBNe, ↓reduceIte, reduceCtorEq, String.reduceBNe, String.reduceEq, reduceDIte, Nat.reducePow, c0, w0]
  refine Thn_n ?_
  refine hK _ _ ?_
  clear hK K
  refine AW.seq_k fun K hK => ?_
  refine AW.block ?_
  refine AW.seq_k fun K hK => ?_
  refine AW.region (by decide) ?_
  simp only [push_cast, Nat.reduceAdd, Nat.reduceMul, Nat.reduceSub, Nat.reduceLeDiff, Nat.reduceLT, Nat.reduceEqDiff, Nat.reduceBEq, Nat.reduceBNe, Nat.reduceMod, Nat.reduceDiv, Int.reduceLE, Int.reduceLT, Int.reduceToNat, Int.reduceAdd, Int.reduceSub, Int.reduceMul, Int.reduceNeg, Int.reduceEq, Int.reduceBEq, Int.reduceBNe, ↓reduceIte, reduceCtorEq, String.reduceBNe, String.reduceEq, reduceDIte, Nat.reducePow, c0, w0]
  refine Thn_n ?_
  refine hK _ _ ?_
  clear hK K
  refine AW.cond_t rfl ?_
  refine AW.seq_k fun K hK => ?_
  refine AW.region (by decide) ?_
  simp only [push_cast, Nat.reduceAdd, Nat.reduceMul, Nat.reduceSub, Nat.reduceLeDiff, Nat.reduceLT, Nat.reduceEqDiff, Nat.reduceBEq, Nat.reduceBNe, Nat.reduceMod, Nat.reduceDiv, Int.reduceLE, Int.reduceLT, Int.reduceToNat, Int.reduceAdd, Int.reduceSub, Int.reduceMul, Int.reduceNeg, Int.reduceEq, Int.reduceBEq, Int.reduceBNe, ↓reduceIte, reduceCtorEq, String.reduceBNe, String.reduceEq, reduceDIte, Nat.reducePow, c0, w0]
  refine CThen.by (at_c 0 (f + 1) _ (by decide) (by omega)) ?_
  simp only [push_cast, Nat.reduceAdd, Nat.reduceMul, Nat.reduceSub, Nat.reduceLeDiff, Nat.reduceLT, Nat.reduceEqDiff, Nat.reduceBEq, Nat.reduceBNe, Nat.reduceMod, Nat.reduceDiv, Int.reduceLE, Int.reduceLT, Int.reduceToNat, Int.reduceAdd, Int.reduceSub, Int.reduceMul, Int.reduceNeg, Int.reduceEq, Int.reduceBEq, Int.reduceBNe, ↓reduceIte, reduceCtorEq, String.reduceBNe, String.reduceEq, reduceDIte, Nat.reducePow, c0, w0]
  refine CThen.by (at_c 0 f _ (by decide) (by omega)) ?_
  simp only [push_cast, Nat.reduceAdd, Nat.reduceMul, Nat.reduceSub, Nat.reduceLeDiff, Nat.reduceLT, Nat.reduceEqDiff, Nat.reduceBEq, Nat.reduceBNe, Nat.reduceMod, Nat.reduceDiv, Int.reduceLE, Int.reduceLT, Int.reduceToNat, Int.reduceAdd, Int.reduceSub, Int.reduceMul, Int.reduceNeg, Int.reduceEq, Int.reduceBEq, Int.reduceBNe, ↓reduceIte, reduceCtorEq, String.reduceBNe, String.reduceEq, reduceDIte, Nat.reducePow, c0, w0]
  refine CThen.by (at_c 1 f _ (by decide) (by omega)) ?_
  simp only [push_cast, Nat.reduceAdd, Nat.reduceMul, Nat.reduceSub, Nat.reduceLeDiff, Nat.reduceLT, Nat.reduceEqDiff, Nat.reduceBEq, Nat.reduceBNe, Nat.reduceMod, Nat.reduceDiv, Int.reduceLE, Int.reduceLT, Int.reduceToNat, Int.reduceAdd, Int.reduceSub, Int.reduceMul, Int.reduceNeg, Int.reduceEq, Int.reduceBEq, Int.reduceBNe, ↓reduceIte, reduceCtorEq, String.reduceBNe, String.reduceEq, reduceDIte, Nat.reducePow, c0, w0]
  refine Thn_n ?_
  refine hK _ _ ?_
  clear hK K
  refine AW.ret ?_
  refine InB_r ?_
  refine Thn_r ?_
  refine hQ _ _ _ ?_
  refine RetP.pick [(m.length, 0)] (Or.inr rfl) ?_ ?_ ?_ hwf ?_
  · simp only [resA, resOne, resTv, AV.tv, push_cast, Nat.reduceAdd, Nat.reduceMul, Nat.reduceSub, Nat.reduceLeDiff, Nat.reduceLT, Nat.reduceEqDiff, Nat.reduceBEq, Nat.reduceBNe, Nat.reduceMod, Nat.reduceDiv, Int.reduceLE, Int.reduceLT, Int.reduceToNat, Int.reduceAdd, Int.reduceSub, Int.reduceMul, Int.reduceNeg, Int.reduceEq, Int.reduceBEq, Int.reduceBNe, ↓reduceIte, reduceCtorEq, String.reduceBNe, String.reduceEq, reduceDIte, Nat.reducePow]
    simp [renV, renT, renL, renC, renIdx]
  · simp only [picks, push_cast, Nat.reduceAdd, Nat.reduceMul, Nat.reduceSub, Nat.reduceLeDiff, Nat.reduceLT, Nat.reduceEqDiff, Nat.reduceBEq, Nat.reduceBNe, Nat.reduceMod, Nat.reduceDiv, Int.reduceLE, Int.reduceLT, Int.reduceToNat, Int.reduceAdd, Int.reduceSub, Int.reduceMul, Int.reduceNeg, Int.reduceEq, Int.reduceBEq, Int.reduceBNe, ↓reduceIte, reduceCtorEq, String.reduceBNe, String.reduceEq, reduceDIte, Nat.reducePow]; rw [hrow]
  · simp [distinctFrom]
  · exact MWf_one (nl_below _ _)
  
theorem needs2_c (f : Nat) (m : AMem) (hf : f ≤ 900) : Ctr Tryd.prog 24 [.one (.int .i64 2), .one (.int .i64 (f : Int))] m (.one (.sl m.length 0 0 2)) (m ++ [⟨.grow, 3, 0, 1, nl (ndL (4 * f + 2))⟩]) := by
  refine Ctr.enter Tryd.func24 rfl (by decide) (rs := [.tmp 4]) (nt := 41) rfl rfl fun hwf Q hQ => ?_
  have hrow : nl (ndL (4 * f + 2)) = [.int .i64 ((4 * f + 0 : Nat) : Int), .int .i64 ((4 * f + 1 : Nat) : Int)] := by rw [nd2]; rfl
  simp only [push_cast, Nat.reduceAdd, Nat.reduceMul, Nat.reduceSub, Nat.reduceLeDiff, Nat.reduceLT, Nat.reduceEqDiff, Nat.reduceBEq, Nat.reduceBNe, Nat.reduceMod, Nat.reduceDiv, Int.reduceLE, Int.reduceLT, Int.reduceToNat, Int.reduceAdd, Int.reduceSub, Int.reduceMul, Int.reduceNeg, Int.reduceEq, Int.reduceBEq, Int.reduceBNe, ↓reduceIte, reduceCtorEq, String.reduceBNe, String.reduceEq, reduceDIte, Nat.reducePow] at hrow
  refine AW.seq_k fun K hK => ?_
  refine AW.region (by decide) ?_
  simp only [push_cast, Nat.reduceAdd, Nat.reduceMul, Nat.reduceSub, Nat.reduceLeDiff, Nat.reduceLT, Nat.reduceEqDiff, Nat.reduceBEq, Nat.reduceBNe, Nat.reduceMod, Nat.reduceDiv, Int.reduceLE, Int.reduceLT, Int.reduceToNat, Int.reduceAdd, Int.reduceSub, Int.reduceMul, Int.reduceNeg, Int.reduceEq, Int.reduceBEq, Int.reduceBNe, ↓reduceIte, reduceCtorEq, String.reduceBNe, String.reduceEq, reduceDIte, Nat.reducePow]
  refine Thn_n ?_
  refine hK _ _ ?_
  clear hK K
  refine AW.seq_k fun K hK => ?_
  refine AW.block ?_
  iterate 2
    refine AW.seq_k fun K hK => ?_
    refine AW.region (by decide) ?_
    simp only [push_cast, Nat.reduceAdd, Nat.reduceMul, Nat.reduceSub, Nat.reduceLeDiff, Nat.reduceLT, Nat.reduceEqDiff, Nat.reduceBEq, Nat.reduceBNe, Nat.reduceMod, Nat.reduceDiv, Int.reduceLE, Int.reduceLT, Int.reduceToNat, Int.reduceAdd, Int.reduceSub, Int.reduceMul, Int.reduceNeg, Int.reduceEq, Int.reduceBEq, Int.reduceBNe, ↓reduceIte, reduceCtorEq, String.reduceBNe, String.reduceEq, reduceDIte, Nat.reducePow]
    refine Thn_n ?_
    refine hK _ _ ?_
    clear hK K
    refine AW.cond_f rfl ?_
  refine AW.seq_k fun K hK => ?_
  refine AW.region (by decide) ?_
  simp only [push_cast, Nat.reduceAdd, Nat.reduceMul, Nat.reduceSub, Nat.reduceLeDiff, Nat.reduceLT, Nat.reduceEqDiff, Nat.reduceBEq, Nat.reduceBNe, Nat.reduceMod, Nat.reduceDiv, Int.reduceLE, Int.reduceLT, Int.reduceToNat, Int.reduceAdd, Int.reduceSub, Int.reduceMul, Int.reduceNeg, Int.reduceEq, Int.reduceBEq, Int.reduceBNe, ↓reduceIte, reduceCtorEq, String.reduceBNe, String.reduceEq, reduceDIte, Nat.reducePow]
  refine Thn_n ?_
  refine hK _ _ ?_
  clear hK K
  refine AW.cond_t rfl ?_
  refine AW.seq_k fun K hK => ?_
  refine AW.region (by decide) ?_
  simp only [push_cast, Nat.reduceAdd, Nat.reduceMul, Nat.reduceSub, Nat.reduceLeDiff, Nat.reduceLT, Nat.reduceEqDiff, Nat.reduceBEq, Nat.reduceBNe, Nat.reduceMod, Nat.reduceDiv, Int.reduceLE, Int.reduceLT, Int.reduceToNat, Int.reduceAdd, Int.reduceSub, Int.reduceMul, Int.reduceNeg, Int.reduceEq, Int.reduceBEq, Int.reduceBNe, ↓reduceIte, reduceCtorEq, String.reduceBNe, String.reduceEq, reduceDIte, Nat.reducePow]
  refine CThen.by (at_c 0 f _ (by decide) (by omega)) ?_
  simp only [push_cast, Nat.reduceAdd, Nat.reduceMul, Nat.reduceSub, Nat.reduceLeDiff, Nat.reduceLT, Nat.reduceEqDiff, Nat.reduceBEq, Nat.reduceBNe, Nat.reduceMod, Nat.reduceDiv, Int.reduceLE, Int.reduceLT, Int.reduceToNat, Int.reduceAdd, Int.reduceSub, Int.reduceMul, Int.reduceNeg, Int.reduceEq, Int.reduceBEq, Int.reduceBNe, ↓reduceIte, reduceCtorEq, String.reduceBNe, String.reduceEq, reduceDIte, Nat.reducePow]
  refine CThen.by (at_c 1 f _ (by decide) (by omega)) ?_
  simp only [push_cast, Nat.reduceAdd, Nat.reduceMul, Nat.reduceSub, Nat.reduceLeDiff, Nat.reduceLT, Nat.reduceEqDiff, Nat.reduceBEq, Nat.reduceBNe, Nat.reduceMod, Nat.reduceDiv, Int.reduceLE, Int.reduceLT, Int.reduceToNat, Int.reduceAdd, Int.reduceSub, Int.reduceMul, Int.reduceNeg, Int.reduceEq, Int.reduceBEq, Int.reduceBNe, ↓reduceIte, reduceCtorEq, String.reduceBNe, String.reduceEq, reduceDIte, Nat.reducePow]
  refine Thn_n ?_
  refine hK _ _ ?_
  clear hK K
  refine AW.ret ?_
  refine InB_r ?_
  refine Thn_r ?_
  refine hQ _ _ _ ?_
  refine RetP.pick [(m.length, 0)] (Or.inr rfl) ?_ ?_ ?_ hwf ?_
  · simp only [resA, resOne, resTv, AV.tv, push_cast, Nat.reduceAdd, Nat.reduceMul, Nat.reduceSub, Nat.reduceLeDiff, Nat.reduceLT, Nat.reduceEqDiff, Nat.reduceBEq, Nat.reduceBNe, Nat.reduceMod, Nat.reduceDiv, Int.reduceLE, Int.reduceLT, Int.reduceToNat, Int.reduceAdd, Int.reduceSub, Int.reduceMul, Int.reduceNeg, Int.reduceEq, Int.reduceBEq, Int.reduceBNe, ↓reduceIte, reduceCtorEq, String.reduceBNe, String.reduceEq, reduceDIte, Nat.reducePow]
    simp [renV, renT, renL, renC, renIdx]
  · simp only [picks, push_cast, Nat.reduceAdd, Nat.reduceMul, Nat.reduceSub, Nat.reduceLeDiff, Nat.reduceLT, Nat.reduceEqDiff, Nat.reduceBEq, Nat.reduceBNe, Nat.reduceMod, Nat.reduceDiv, Int.reduceLE, Int.reduceLT, Int.reduceToNat, Int.reduceAdd, Int.reduceSub, Int.reduceMul, Int.reduceNeg, Int.reduceEq, Int.reduceBEq, Int.reduceBNe, ↓reduceIte, reduceCtorEq, String.reduceBNe, String.reduceEq, reduceDIte, Nat.reducePow]; rw [hrow]
  · simp [distinctFrom]
  · exact MWf_one (nl_below _ _)
  
theorem needs3_c (f : Nat) (m : AMem) (hf : f ≤ 900) : Ctr Tryd.prog 24 [.one (.int .i64 3), .one (.int .i64 (f : Int))] m (.one (.sl m.length 0 0 1)) (m ++ [⟨.grow, 3, 0, 1, nl (ndL (4 * f + 3))⟩]) := by
  refine Ctr.enter Tryd.func24 rfl (by decide) (rs := [.tmp 4]) (nt := 41) rfl rfl fun hwf Q hQ => ?_
  have hrow : nl (ndL (4 * f + 3)) = [.int .i64 ((4 * f + 2 : Nat) : Int)] := by rw [nd3]; rfl
  simp only [push_cast, Nat.reduceAdd, Nat.reduceMul, Nat.reduceSub, Nat.reduceLeDiff, Nat.reduceLT, Nat.reduceEqDiff, Nat.reduceBEq, Nat.reduceBNe, Nat.reduceMod, Nat.reduceDiv, Int.reduceLE, Int.reduceLT, Int.reduceToNat, Int.reduceAdd, Int.reduceSub, Int.reduceMul, Int.reduceNeg, Int.reduceEq, Int.reduceBEq, Int.reduceBNe, ↓reduceIte, reduceCtorEq, String.reduceBNe, String.reduceEq, reduceDIte, Nat.reducePow] at hrow
  refine AW.seq_k fun K hK => ?_
  refine AW.region (by decide) ?_
  simp only [push_cast, Nat.reduceAdd, Nat.reduceMul, Nat.reduceSub, Nat.reduceLeDiff, Nat.reduceLT, Nat.reduceEqDiff, Nat.reduceBEq, Nat.reduceBNe, Nat.reduceMod, Nat.reduceDiv, Int.reduceLE, Int.reduceLT, Int.reduceToNat, Int.reduceAdd, Int.reduceSub, Int.reduceMul, Int.reduceNeg, Int.reduceEq, Int.reduceBEq, Int.reduceBNe, ↓reduceIte, reduceCtorEq, String.reduceBNe, String.reduceEq, reduceDIte, Nat.reducePow]
  refine Thn_n ?_
  refine hK _ _ ?_
  clear hK K
  refine AW.seq_k fun K hK => ?_
  refine AW.block ?_
  iterate 3
    refine AW.seq_k fun K hK => ?_
    refine AW.region (by decide) ?_
    simp only [push_cast, Nat.reduceAdd, Nat.reduceMul, Nat.reduceSub, Nat.reduceLeDiff, Nat.reduceLT, Nat.reduceEqDiff, Nat.reduceBEq, Nat.reduceBNe, Nat.reduceMod, Nat.reduceDiv, Int.reduceLE, Int.reduceLT, Int.reduceToNat, Int.reduceAdd, Int.reduceSub, Int.reduceMul, Int.reduceNeg, Int.reduceEq, Int.reduceBEq, Int.reduceBNe, ↓reduceIte, reduceCtorEq, String.reduceBNe, String.reduceEq, reduceDIte, Nat.reducePow]
    refine Thn_n ?_
    refine hK _ _ ?_
    clear hK K
    refine AW.cond_f rfl ?_
  refine AW.seq_k fun K hK => ?_
  refine AW.region (by decide) ?_
  simp only [push_cast, Nat.reduceAdd, Nat.reduceMul, Nat.reduceSub, Nat.reduceLeDiff, Nat.reduceLT, Nat.reduceEqDiff, Nat.reduceBEq, Nat.reduceBNe, Nat.reduceMod, Nat.reduceDiv, Int.reduceLE, Int.reduceLT, Int.reduceToNat, Int.reduceAdd, Int.reduceSub, Int.reduceMul, Int.reduceNeg, Int.reduceEq, Int.reduceBEq, Int.reduceBNe, ↓reduceIte, reduceCtorEq, String.reduceBNe, String.reduceEq, reduceDIte, Nat.reducePow]
  refine Thn_n ?_
  refine hK _ _ ?_
  clear hK K
  refine AW.cond_t rfl ?_
  refine AW.seq_k fun K hK => ?_
  refine AW.region (by decide) ?_
  simp only [push_cast, Nat.reduceAdd, Nat.reduceMul, Nat.reduceSub, Nat.reduceLeDiff, Nat.reduceLT, Nat.reduceEqDiff, Nat.reduceBEq, Nat.reduceBNe, Nat.reduceMod, Nat.reduceDiv, Int.reduceLE, Int.reduceLT, Int.reduceToNat, Int.reduceAdd, Int.reduceSub, Int.reduceMul, Int.reduceNeg, Int.reduceEq, Int.reduceBEq, Int.reduceBNe, ↓reduceIte, reduceCtorEq, String.reduceBNe, String.reduceEq, reduceDIte, Nat.reducePow]
  refine CThen.by (at_c 2 f _ (by decide) (by omega)) ?_
  simp only [push_cast, Nat.reduceAdd, Nat.reduceMul, Nat.reduceSub, Nat.reduceLeDiff, Nat.reduceLT, Nat.reduceEqDiff, Nat.reduceBEq, Nat.reduceBNe, Nat.reduceMod, Nat.reduceDiv, Int.reduceLE, Int.reduceLT, Int.reduceToNat, Int.reduceAdd, Int.reduceSub, Int.reduceMul, Int.reduceNeg, Int.reduceEq, Int.reduceBEq, Int.reduceBNe, ↓reduceIte, reduceCtorEq, String.reduceBNe, String.reduceEq, reduceDIte, Nat.reducePow]
  refine Thn_n ?_
  refine hK _ _ ?_
  clear hK K
  refine AW.ret ?_
  refine InB_r ?_
  refine Thn_r ?_
  refine hQ _ _ _ ?_
  refine RetP.pick [(m.length, 0)] (Or.inr rfl) ?_ ?_ ?_ hwf ?_
  · simp only [resA, resOne, resTv, AV.tv, push_cast, Nat.reduceAdd, Nat.reduceMul, Nat.reduceSub, Nat.reduceLeDiff, Nat.reduceLT, Nat.reduceEqDiff, Nat.reduceBEq, Nat.reduceBNe, Nat.reduceMod, Nat.reduceDiv, Int.reduceLE, Int.reduceLT, Int.reduceToNat, Int.reduceAdd, Int.reduceSub, Int.reduceMul, Int.reduceNeg, Int.reduceEq, Int.reduceBEq, Int.reduceBNe, ↓reduceIte, reduceCtorEq, String.reduceBNe, String.reduceEq, reduceDIte, Nat.reducePow]
    simp [renV, renT, renL, renC, renIdx]
  · simp only [picks, push_cast, Nat.reduceAdd, Nat.reduceMul, Nat.reduceSub, Nat.reduceLeDiff, Nat.reduceLT, Nat.reduceEqDiff, Nat.reduceBEq, Nat.reduceBNe, Nat.reduceMod, Nat.reduceDiv, Int.reduceLE, Int.reduceLT, Int.reduceToNat, Int.reduceAdd, Int.reduceSub, Int.reduceMul, Int.reduceNeg, Int.reduceEq, Int.reduceBEq, Int.reduceBNe, ↓reduceIte, reduceCtorEq, String.reduceBNe, String.reduceEq, reduceDIte, Nat.reducePow]; rw [hrow]
  · simp [distinctFrom]
  · exact MWf_one (nl_below _ _)
  
end Go.Proofs.YtmjbbnfmhgcfaaaDoor
