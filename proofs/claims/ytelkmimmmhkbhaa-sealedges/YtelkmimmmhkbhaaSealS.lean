/- Walks and facts of this seat's program over abstract states, printed by a program of mine; no conditions but those that each theorem names. -/
import Derived.Test.YtelkmimmmhkbhaaSealN
set_option linter.unusedSimpArgs false
set_option linter.unusedVariables false
set_option maxRecDepth 100000
set_option maxHeartbeats 4000000
namespace Go.Proofs.Ytelkmimmmhkbhaa
open Go Go.Eng

theorem rof_c (rb v off : Nat) (bs X : List Int) (m : AMem) (hb : ∃ k ty ez, m[rb]? = some ⟨k, ty, v, ez, u8l X⟩) (hf : off + bs.length ≤ X.length) (hx : (X.drop off).take bs.length = bs) (hu : U8ok bs) (hl : bs.length ≤ 1000000) : Ctr Try.prog 10 [.agg (ul (HLL ++ KW)), .one (.sl rb v off bs.length)] m (.agg (u8l (shaL bs))) m := by
  refine Ctr.enter Try.func10 rfl (by decide) (rs := [.cell 4 24]) (nt := 283) rfl rfl fun hwf Q hQ => ?_
  obtain ⟨k0, ty0, ez, hb⟩ := hb
  have lb := get_lt hb
  have ha1 : ((u8l X).drop off).take bs.length = u8l bs := by rw [u8l_drop, u8l_take, hx]
  have ha2 := u8l_vals bs
  have ha3 := u8l_len bs
  have ha4 : bs.length ≤ 140737488355328 := by omega
  have ha5 : bs.length + 1 ≤ 140737488355328 := by omega
  have hz0 := padL_zero bs
  have hpo := padz_ok bs.length
  have hpl0 : (padL bs 0).length = bs.length + 1 := padL_len bs 0
  have hw1 : IntKind.u64.wrap (bs.length : Int) = (bs.length : Int) := by rw [IntKind.wrap_u64]; omega
  have hvl : (ul (HLL ++ KW)).length = 72 := rfl
  have hvv := ul_vals (HLL ++ KW)
  have g0 : (ul (HLL ++ KW))[0]? = some (.int .u32 1779033703) := rfl
  have g1 : (ul (HLL ++ KW))[1]? = some (.int .u32 3144134277) := rfl
  have g2 : (ul (HLL ++ KW))[2]? = some (.int .u32 1013904242) := rfl
  have g3 : (ul (HLL ++ KW))[3]? = some (.int .u32 2773480762) := rfl
  have g4 : (ul (HLL ++ KW))[4]? = some (.int .u32 1359893119) := rfl
  have g5 : (ul (HLL ++ KW))[5]? = some (.int .u32 2600822924) := rfl
  have g6 : (ul (HLL ++ KW))[6]? = some (.int .u32 528734635) := rfl
  have g7 : (ul (HLL ++ KW))[7]? = some (.int .u32 1541459225) := rfl
  
  iterate 2
    refine AW.seq_k fun K hK => ?_
    refine AW.region (by decide) ?_
    simp only [push_cast, simprocAttr, hb, lk_old hb, ha1, ha2, ha3, ha4, ha5, hz0, hw1, hvl, hvv, g0, g1, g2, g3, g4, g5, g6, g7, u8l_len, ul_len, u8lset, hf, Int.le_refl, Nat.le_refl]
    refine Thn_n ?_
    refine hK _ _ ?_
    clear hK K
  refine AW.seq_k fun K hK => ?_
  refine AW.block ?_
  refine AW.loopK [1, 2, 4] (fun j => j ≤ padz bs.length) (fun j => [(5, .one (.sl (m.length + 2) (2 + j) 0 (padL bs j).length))]) (fun j => [(m.length + 2, ⟨.grow, 5, 2 + j, 1, u8l (padL bs j)⟩)]) (fun j => padz bs.length - j) 0 (by omega) ?_ ?_ fun j hi4 => ?_
  · first | rfl | (simp only [Keeps, Tm.get_cons, Nat.reduceEqDiff, ↓reduceIte, if_true, if_false, ite_true, ite_false, true_and, and_true, and_self, reduceCtorEq, hpl0] <;> rfl)
  · first | rfl | (simp only [setAll, push_cast, simprocAttr, hb, lk_old hb, ha1, ha2, ha3, ha4, ha5, hz0, hw1, hvl, hvv, g0, g1, g2, g3, g4, g5, g6, g7, u8l_len, ul_len, u8lset, hf, Int.le_refl, Nat.le_refl, hpl0] <;> rfl)
  have hi : j ≤ padz bs.length := hi4
  have hpz := padz_le bs.length
  have hpl := padL_len bs j
  have hpl2 : (padL bs (j + 1)).length = (padL bs j).length + 1 := by rw [padL_len, padL_len]; omega
  have hsn := padL_succ bs j
  have hpm : (((padL bs j).length : Nat) : Int).tmod 64 = (((padL bs j).length % 64 : Nat) : Int) := rfl
  have q3 : (padL bs j).length ≤ 140737488355328 := by omega
  have q4 : (padL bs j).length + 1 ≤ 140737488355328 := by omega
  try simp only [keepL, setAll, push_cast, simprocAttr, hb, lk_old hb, ha1, ha2, ha3, ha4, ha5, hz0, hw1, hvl, hvv, g0, g1, g2, g3, g4, g5, g6, g7, u8l_len, ul_len, u8lset, hf, Int.le_refl, Nat.le_refl]
  refine AW.seq_k fun K hK => ?_
  refine AW.seq_k fun K hK => ?_
  refine AW.region (by decide) ?_
  simp only [push_cast, simprocAttr, hb, lk_old hb, ha1, ha2, ha3, ha4, ha5, hz0, hw1, hvl, hvv, g0, g1, g2, g3, g4, g5, g6, g7, u8l_len, ul_len, u8lset, hf, Int.le_refl, Nat.le_refl]
  refine Thn_n ?_
  refine hK _ _ ?_
  clear hK K
  refine AW.cond rfl (fun h32 => ?_) (fun h32 => ?_)
  · have hlt : j < padz bs.length := by
      have h1 : (padL bs j).length % 64 ≠ 56 := fun e => by
        rw [hpm, e] at h32; exact absurd h32 (by decide)
      have : j ≠ padz bs.length := fun e => by subst e; exact h1 (by rw [hpl]; exact hpo)
      omega
    refine AW.skip ?_
    refine Thn_n ?_
    refine hK _ _ ?_
    clear hK K
    refine AW.block ?_
    refine AW.region (by decide) ?_
    simp only [push_cast, simprocAttr, hb, lk_old hb, ha1, ha2, ha3, ha4, ha5, hz0, hw1, hvl, hvv, g0, g1, g2, g3, g4, g5, g6, g7, u8l_len, ul_len, u8lset, hf, Int.le_refl, Nat.le_refl, hsn, q3, q4]
    refine InB_n ?_
    refine Thn_n ?_
    refine ⟨j + 1, hlt, by omega, ?_⟩
    try simp only [keepL, setAll, push_cast, simprocAttr, hb, lk_old hb, ha1, ha2, ha3, ha4, ha5, hz0, hw1, hvl, hvv, g0, g1, g2, g3, g4, g5, g6, g7, u8l_len, ul_len, u8lset, hf, Int.le_refl, Nat.le_refl, hsn, q3, q4, hpl2]
    exact Weak.to (extra := [_]) (by simp only [Keeps, Tm.get_cons, Nat.reduceEqDiff, ↓reduceIte, if_true, if_false, ite_true, ite_false, true_and, and_true, and_self, reduceCtorEq, hpl2]) (by first | rfl | (simp only [List.append_assoc, List.cons_append, List.nil_append]; rfl)) (by first | rfl | (simp [AV.below, CV.below, u8l_below, ul_below]; done) | (simp [AV.below, CV.below, u8l_below, ul_below]; omega)) (by
      first | exact hwf | refine MWf.app (hwf.grow (by simp)) ?_
      repeat (first | exact MWf_nil | (refine MWf_cons ?_ ?_; · first | rfl | (simp [CV.below, u8l_below, ul_below]; done) | (simp [CV.below, u8l_below, ul_below]; omega))))
  · have hje : j = padz bs.length := by
      refine padz_eq hi (Decidable.byContradiction fun h1 => ?_)
      rw [← hpl] at h1; rw [hpm] at h32
      simp at h32; omega
    subst hje
    have hr0 : refL bs 0 = padL bs (padz bs.length) := List.append_nil _
    refine AW.exit ?_
    refine Thn_e ?_
    clear hK K
    refine Thn_e ?_
    refine InB_here ?_
    refine Thn_n ?_
    refine hK _ _ ?_
    clear hK K
    refine AW.seq_k fun K hK => ?_
    refine AW.region (by decide) ?_
    simp only [push_cast, simprocAttr, hb, lk_old hb, ha1, ha2, ha3, ha4, ha5, hz0, hw1, hvl, hvv, g0, g1, g2, g3, g4, g5, g6, g7, u8l_len, ul_len, u8lset, hf, Int.le_refl, Nat.le_refl, q3]
    refine Thn_n ?_
    refine hK _ _ ?_
    clear hK K
    refine AW.seq_k fun K hK => ?_
    refine AW.seq_k fun K hK => ?_
    refine AW.region (by decide) ?_
    simp only [push_cast, simprocAttr, hb, lk_old hb, ha1, ha2, ha3, ha4, ha5, hz0, hw1, hvl, hvv, g0, g1, g2, g3, g4, g5, g6, g7, u8l_len, ul_len, u8lset, hf, Int.le_refl, Nat.le_refl, q3]
    refine Thn_n ?_
    refine hK _ _ ?_
    clear hK K
    refine AW.block ?_
    refine AW.loopK [2, 4, 6] (fun k => k ≤ (8 : Nat)) (fun k => [(5, .one (.sl (m.length + 2) (2 + (padz bs.length + k)) 0 (refL bs k).length)), (7, .one (.int .i64 (7 - (k : Int))))]) (fun k => [(m.length + 2, ⟨.grow, 5, 2 + (padz bs.length + k), 1, u8l (refL bs k)⟩)]) (fun k => 8 - k) 0 (by omega) ?_ ?_ fun k hi10 => ?_
    · first | rfl | (simp only [Keeps, Tm.get_cons, Nat.reduceEqDiff, ↓reduceIte, if_true, if_false, ite_true, ite_false, true_and, and_true, and_self, reduceCtorEq, hr0, Int.natCast_zero, Int.sub_zero] <;> rfl)
    · first | rfl | (simp only [setAll, push_cast, simprocAttr, hb, lk_old hb, ha1, ha2, ha3, ha4, ha5, hz0, hw1, hvl, hvv, g0, g1, g2, g3, g4, g5, g6, g7, u8l_len, ul_len, u8lset, hf, Int.le_refl, Nat.le_refl, q3, hr0, Int.natCast_zero, Int.sub_zero] <;> rfl)
    have hk8 : k ≤ 8 := hi10
    have hrl := refL_len bs k
    have hrl2 : (refL bs (k + 1)).length = (refL bs k).length + 1 := by rw [refL_len, refL_len]; omega
    have hsn := refL_succ bs k
    have hpz := padz_le bs.length
    have q5 : (refL bs k).length + 1 ≤ 140737488355328 := by omega
    try simp only [keepL, setAll, push_cast, simprocAttr, hb, lk_old hb, ha1, ha2, ha3, ha4, ha5, hz0, hw1, hvl, hvv, g0, g1, g2, g3, g4, g5, g6, g7, u8l_len, ul_len, u8lset, hf, Int.le_refl, Nat.le_refl, q3]
    refine AW.seq_k fun K hK => ?_
    refine AW.seq_k fun K hK => ?_
    refine AW.region (by decide) ?_
    simp only [push_cast, simprocAttr, hb, lk_old hb, ha1, ha2, ha3, ha4, ha5, hz0, hw1, hvl, hvv, g0, g1, g2, g3, g4, g5, g6, g7, u8l_len, ul_len, u8lset, hf, Int.le_refl, Nat.le_refl, q3]
    refine Thn_n ?_
    refine hK _ _ ?_
    clear hK K
    refine AW.cond rfl (fun h41 => ?_) (fun h41 => ?_)
    · have hltk : k < 8 := by have := of_decide_eq_true h41; omega
      have s1 : IntKind.u64.wrap (7 - (k : Int)) = ((7 - k : Nat) : Int) := by rw [IntKind.wrap_u64]; omega
      have s2 : IntKind.u64.wrap (8 * ((7 - k : Nat) : Int)) = ((8 * (7 - k) : Nat) : Int) := by rw [IntKind.wrap_u64]; omega
      have s3 : ¬ ((8 * (7 - k) : Nat) : Int) < 0 := by omega
      have s4 : ((8 * (7 - k) : Nat) : Int).toNat = 8 * (7 - k) := Int.toNat_natCast _
      have s5 : (2 : Int) ^ min (8 * (7 - k)) IntKind.u64.bits = 2 ^ (8 * (7 - k)) := by rw [show IntKind.u64.bits = 64 from rfl, Nat.min_eq_left (by omega)]
      have s6 : IntKind.u8.wrap ((IntKind.u64.wrap ((bs.length : Int) * 8)).fdiv (2 ^ (8 * (7 - k)))) = byK (IntKind.u64.wrap ((bs.length : Int) * 8)) k := rfl
      generalize hsh : 8 * (7 - k) = sh at s2 s3 s4 s5 s6
      generalize hsv : 7 - k = sv at s1 s2
      refine AW.skip ?_
      refine Thn_n ?_
      refine hK _ _ ?_
      clear hK K
      refine AW.seq_k fun K hK => ?_
      refine AW.block ?_
      refine AW.region (by decide) ?_
      simp only [push_cast, simprocAttr, hb, lk_old hb, ha1, ha2, ha3, ha4, ha5, hz0, hw1, hvl, hvv, g0, g1, g2, g3, g4, g5, g6, g7, u8l_len, ul_len, u8lset, hf, Int.le_refl, Nat.le_refl, q3, s1, s2, s3, s4, s5, s6, q5, hsn]
      refine InB_n ?_
      refine Thn_n ?_
      refine hK _ _ ?_
      clear hK K
      refine AW.region (by decide) ?_
      simp only [push_cast, simprocAttr, hb, lk_old hb, ha1, ha2, ha3, ha4, ha5, hz0, hw1, hvl, hvv, g0, g1, g2, g3, g4, g5, g6, g7, u8l_len, ul_len, u8lset, hf, Int.le_refl, Nat.le_refl, q3, s1, s2, s3, s4, s5, s6, q5, hsn]
      refine Thn_n ?_
      have hwk : IntKind.i64.wrap (7 - (k : Int) - 1) = 7 - ((k : Int) + 1) := by rw [IntKind.wrap_i64]; omega
      refine ⟨k + 1, hltk, by omega, ?_⟩
      try simp only [keepL, setAll, push_cast, simprocAttr, hb, lk_old hb, ha1, ha2, ha3, ha4, ha5, hz0, hw1, hvl, hvv, g0, g1, g2, g3, g4, g5, g6, g7, u8l_len, ul_len, u8lset, hf, Int.le_refl, Nat.le_refl, q3, s1, s2, s3, s4, s5, s6, q5, hsn, hwk, hrl2, hsn]
      exact Weak.to (extra := [_]) (by simp only [Keeps, Tm.get_cons, Nat.reduceEqDiff, ↓reduceIte, if_true, if_false, ite_true, ite_false, true_and, and_true, and_self, reduceCtorEq, hwk, hrl2, hsn]) (by first | rfl | (simp only [List.append_assoc, List.cons_append, List.nil_append]; rfl)) (by first | rfl | (simp [AV.below, CV.below, u8l_below, ul_below]; done) | (simp [AV.below, CV.below, u8l_below, ul_below]; omega)) (by
        first | exact hwf | refine MWf.app (hwf.grow (by simp)) ?_
        repeat (first | exact MWf_nil | (refine MWf_cons ?_ ?_; · first | rfl | (simp [CV.below, u8l_below, ul_below]; done) | (simp [CV.below, u8l_below, ul_below]; omega))))
    · have hke : k = 8 := by have := of_decide_eq_false h41; omega
      subst hke
      have hll := refL_len bs 8
      have hok := (refL_ok hu 8).by
      have hdiv : (refL bs 8).length % 64 = 0 := by omega
      refine AW.exit ?_
      refine Thn_e ?_
      clear hK K
      refine Thn_e ?_
      refine InB_here ?_
      refine Thn_n ?_
      refine hK _ _ ?_
      clear hK K
      refine AW.seq_k fun K hK => ?_
      refine AW.region (by decide) ?_
      simp only [push_cast, simprocAttr, hb, lk_old hb, ha1, ha2, ha3, ha4, ha5, hz0, hw1, hvl, hvv, g0, g1, g2, g3, g4, g5, g6, g7, u8l_len, ul_len, u8lset, hf, Int.le_refl, Nat.le_refl, q3]
      refine Thn_n ?_
      refine hK _ _ ?_
      clear hK K
      refine AW.seq_k fun K hK => ?_
      refine AW.seq_k fun K hK => ?_
      refine AW.region (by decide) ?_
      simp only [push_cast, simprocAttr, hb, lk_old hb, ha1, ha2, ha3, ha4, ha5, hz0, hw1, hvl, hvv, g0, g1, g2, g3, g4, g5, g6, g7, u8l_len, ul_len, u8lset, hf, Int.le_refl, Nat.le_refl, q3]
      refine Thn_n ?_
      refine hK _ _ ?_
      clear hK K
      refine AW.block ?_
      refine AW.loopK [2, 4, 5, 8] (fun j => 64 * j ≤ (refL bs 8).length) (fun j => [(9, .one (.int .i64 (64 * (j : Int))))]) (fun j => [(m.length + 4, ⟨.fix, 28, 0, 0, [.int .u32 ((compN IV (refL bs 8) j)).a, .int .u32 ((compN IV (refL bs 8) j)).b, .int .u32 ((compN IV (refL bs 8) j)).c, .int .u32 ((compN IV (refL bs 8) j)).d, .int .u32 ((compN IV (refL bs 8) j)).e, .int .u32 ((compN IV (refL bs 8) j)).f, .int .u32 ((compN IV (refL bs 8) j)).g, .int .u32 ((compN IV (refL bs 8) j)).h]⟩)]) (fun j => (refL bs 8).length - 64 * j) 0 (by omega) ?_ ?_ fun j hi17 => ?_
      · first | rfl | (simp only [Keeps, Tm.get_cons, Nat.reduceEqDiff, ↓reduceIte, if_true, if_false, ite_true, ite_false, true_and, and_true, and_self, reduceCtorEq, compN, IV, Int.natCast_zero, Int.mul_zero] <;> rfl)
      · first | rfl | (simp only [setAll, push_cast, simprocAttr, hb, lk_old hb, ha1, ha2, ha3, ha4, ha5, hz0, hw1, hvl, hvv, g0, g1, g2, g3, g4, g5, g6, g7, u8l_len, ul_len, u8lset, hf, Int.le_refl, Nat.le_refl, q3, compN, IV, Int.natCast_zero, Int.mul_zero] <;> rfl)
      try simp only [keepL, setAll, push_cast, simprocAttr, hb, lk_old hb, ha1, ha2, ha3, ha4, ha5, hz0, hw1, hvl, hvv, g0, g1, g2, g3, g4, g5, g6, g7, u8l_len, ul_len, u8lset, hf, Int.le_refl, Nat.le_refl, q3]
      refine AW.seq_k fun K hK => ?_
      refine AW.seq_k fun K hK => ?_
      refine AW.region (by decide) ?_
      simp only [push_cast, simprocAttr, hb, lk_old hb, ha1, ha2, ha3, ha4, ha5, hz0, hw1, hvl, hvv, g0, g1, g2, g3, g4, g5, g6, g7, u8l_len, ul_len, u8lset, hf, Int.le_refl, Nat.le_refl, q3]
      refine Thn_n ?_
      refine hK _ _ ?_
      clear hK K
      refine AW.cond rfl (fun h58 => ?_) (fun h58 => ?_)
      · have hj : 64 * j + 64 ≤ (refL bs 8).length := by have := of_decide_eq_true h58; omega
        have hSr := compN_r iv_r (refL bs 8) j
        have hll := refL_len bs 8
        have hpz := padz_le bs.length
        have hsz : ul (sch (refL bs 8) (64 * j) 0) = [.int .u32 0, .int .u32 0, .int .u32 0, .int .u32 0, .int .u32 0, .int .u32 0, .int .u32 0, .int .u32 0, .int .u32 0, .int .u32 0, .int .u32 0, .int .u32 0, .int .u32 0, .int .u32 0, .int .u32 0, .int .u32 0, .int .u32 0, .int .u32 0, .int .u32 0, .int .u32 0, .int .u32 0, .int .u32 0, .int .u32 0, .int .u32 0, .int .u32 0, .int .u32 0, .int .u32 0, .int .u32 0, .int .u32 0, .int .u32 0, .int .u32 0, .int .u32 0, .int .u32 0, .int .u32 0, .int .u32 0, .int .u32 0, .int .u32 0, .int .u32 0, .int .u32 0, .int .u32 0, .int .u32 0, .int .u32 0, .int .u32 0, .int .u32 0, .int .u32 0, .int .u32 0, .int .u32 0, .int .u32 0, .int .u32 0, .int .u32 0, .int .u32 0, .int .u32 0, .int .u32 0, .int .u32 0, .int .u32 0, .int .u32 0, .int .u32 0, .int .u32 0, .int .u32 0, .int .u32 0, .int .u32 0, .int .u32 0, .int .u32 0, .int .u32 0] := rfl
        refine AW.skip ?_
        refine Thn_n ?_
        refine hK _ _ ?_
        clear hK K
        refine AW.seq_k fun K hK => ?_
        refine AW.block ?_
        refine AW.seq_k fun K hK => ?_
        refine AW.region (by decide) ?_
        simp only [push_cast, simprocAttr, hb, lk_old hb, ha1, ha2, ha3, ha4, ha5, hz0, hw1, hvl, hvv, g0, g1, g2, g3, g4, g5, g6, g7, u8l_len, ul_len, u8lset, hf, Int.le_refl, Nat.le_refl, q3]
        refine Thn_n ?_
        refine hK _ _ ?_
        clear hK K
        refine AW.seq_k fun K hK => ?_
        refine AW.seq_k fun K hK => ?_
        refine AW.region (by decide) ?_
        simp only [push_cast, simprocAttr, hb, lk_old hb, ha1, ha2, ha3, ha4, ha5, hz0, hw1, hvl, hvv, g0, g1, g2, g3, g4, g5, g6, g7, u8l_len, ul_len, u8lset, hf, Int.le_refl, Nat.le_refl, q3]
        refine Thn_n ?_
        refine hK _ _ ?_
        clear hK K
        refine AW.block ?_
        refine AW.loopK [2, 4, 5, 8, 9, 10] (fun i => i ≤ (64 : Nat)) (fun i => [(11, .one (.int .i64 (i : Int)))]) (fun i => [(m.length + 5, ⟨.fix, 29, 0, 0, ul (sch (refL bs 8) (64 * j) i)⟩)]) (fun i => 64 - i) 0 (by omega) ?_ ?_ fun i hi24 => ?_
        · first | rfl | (simp only [Keeps, Tm.get_cons, Nat.reduceEqDiff, ↓reduceIte, if_true, if_false, ite_true, ite_false, true_and, and_true, and_self, reduceCtorEq, hsz, Int.natCast_zero] <;> rfl)
        · first | rfl | (simp only [setAll, push_cast, simprocAttr, hb, lk_old hb, ha1, ha2, ha3, ha4, ha5, hz0, hw1, hvl, hvv, g0, g1, g2, g3, g4, g5, g6, g7, u8l_len, ul_len, u8lset, hf, Int.le_refl, Nat.le_refl, q3, hsz, Int.natCast_zero] <;> rfl)
        have hi64 : i ≤ 64 := hi24
        try simp only [keepL, setAll, push_cast, simprocAttr, hb, lk_old hb, ha1, ha2, ha3, ha4, ha5, hz0, hw1, hvl, hvv, g0, g1, g2, g3, g4, g5, g6, g7, u8l_len, ul_len, u8lset, hf, Int.le_refl, Nat.le_refl, q3]
        refine AW.seq_k fun K hK => ?_
        refine AW.seq_k fun K hK => ?_
        refine AW.region (by decide) ?_
        simp only [push_cast, simprocAttr, hb, lk_old hb, ha1, ha2, ha3, ha4, ha5, hz0, hw1, hvl, hvv, g0, g1, g2, g3, g4, g5, g6, g7, u8l_len, ul_len, u8lset, hf, Int.le_refl, Nat.le_refl, q3]
        refine Thn_n ?_
        refine hK _ _ ?_
        clear hK K
        refine AW.cond rfl (fun h62 => ?_) (fun h62 => ?_)
        · have hlt64 : i < 64 := by have := of_decide_eq_true h62; omega
          have c3 : (0 : Int) ≤ (i : Int) := by omega
          have c4 : (i : Int) < 64 := by omega
          have c5 : i + 1 ≤ 64 := by omega
          have lS := sch_len (refL bs 8) (64 * j) i
          have p3 : (2 : Int) ^ min 3 IntKind.u32.bits = 8 := by decide
          have p10 : (2 : Int) ^ min 10 IntKind.u32.bits = 1024 := by decide
          refine AW.skip ?_
          refine Thn_n ?_
          refine hK _ _ ?_
          clear hK K
          refine AW.seq_k fun K hK => ?_
          refine AW.block ?_
          refine AW.seq_k fun K hK => ?_
          refine AW.seq_k fun K hK => ?_
          refine AW.region (by decide) ?_
          simp only [push_cast, simprocAttr, hb, lk_old hb, ha1, ha2, ha3, ha4, ha5, hz0, hw1, hvl, hvv, g0, g1, g2, g3, g4, g5, g6, g7, u8l_len, ul_len, u8lset, hf, Int.le_refl, Nat.le_refl, q3, c3, c4, c5, lS]
          refine Thn_n ?_
          refine hK _ _ ?_
          clear hK K
          refine AW.cond rfl (fun h66 => ?_) (fun h66 => ?_)
          · have hi16 : i < 16 := by have := of_decide_eq_true h66; omega
            have v0 : IntKind.i64.wrap (4 * (i : Int)) = 4 * (i : Int) := wi (by omega)
            have v1 : IntKind.i64.wrap (64 * (j : Int) + 4 * (i : Int)) = 64 * (j : Int) + 4 * (i : Int) := wi (by omega)
            have v2 : IntKind.i64.wrap (64 * (j : Int) + 4 * (i : Int) + 1) = 64 * (j : Int) + 4 * (i : Int) + 1 := wi (by omega)
            have v3 : IntKind.i64.wrap (64 * (j : Int) + 4 * (i : Int) + 2) = 64 * (j : Int) + 4 * (i : Int) + 2 := wi (by omega)
            have v4 : IntKind.i64.wrap (64 * (j : Int) + 4 * (i : Int) + 3) = 64 * (j : Int) + 4 * (i : Int) + 3 := wi (by omega)
            have d0 : (0 : Int) ≤ 64 * (j : Int) + 4 * (i : Int) := by omega
            have f0 : 64 * (j : Int) + 4 * (i : Int) < ((refL bs 8).length : Int) := by omega
            have z0 : (64 * (j : Int) + 4 * (i : Int)).toNat = 64 * j + 4 * i := by omega
            have d1 : (0 : Int) ≤ 64 * (j : Int) + 4 * (i : Int) + 1 := by omega
            have f1 : 64 * (j : Int) + 4 * (i : Int) + 1 < ((refL bs 8).length : Int) := by omega
            have z1 : (64 * (j : Int) + 4 * (i : Int) + 1).toNat = 64 * j + 4 * i + 1 := by omega
            have d2 : (0 : Int) ≤ 64 * (j : Int) + 4 * (i : Int) + 2 := by omega
            have f2 : 64 * (j : Int) + 4 * (i : Int) + 2 < ((refL bs 8).length : Int) := by omega
            have z2 : (64 * (j : Int) + 4 * (i : Int) + 2).toNat = 64 * j + 4 * i + 2 := by omega
            have d3 : (0 : Int) ≤ 64 * (j : Int) + 4 * (i : Int) + 3 := by omega
            have f3 : 64 * (j : Int) + 4 * (i : Int) + 3 < ((refL bs 8).length : Int) := by omega
            have z3 : (64 * (j : Int) + 4 * (i : Int) + 3).toNat = 64 * j + 4 * i + 3 := by omega
            have u0 := hok (64 * j + 4 * i)
            have y0 : IntKind.u32.wrap (byB (refL bs 8) (64 * j + 4 * i)) = byB (refL bs 8) (64 * j + 4 * i) := by rw [w32]; omega
            have b0 := u8l_get (bs := refL bs 8) (i := 64 * j + 4 * i) (by omega)
            have u1 := hok (64 * j + 4 * i + 1)
            have y1 : IntKind.u32.wrap (byB (refL bs 8) (64 * j + 4 * i + 1)) = byB (refL bs 8) (64 * j + 4 * i + 1) := by rw [w32]; omega
            have b1 := u8l_get (bs := refL bs 8) (i := 64 * j + 4 * i + 1) (by omega)
            have u2 := hok (64 * j + 4 * i + 2)
            have y2 : IntKind.u32.wrap (byB (refL bs 8) (64 * j + 4 * i + 2)) = byB (refL bs 8) (64 * j + 4 * i + 2) := by rw [w32]; omega
            have b2 := u8l_get (bs := refL bs 8) (i := 64 * j + 4 * i + 2) (by omega)
            have u3 := hok (64 * j + 4 * i + 3)
            have y3 : IntKind.u32.wrap (byB (refL bs 8) (64 * j + 4 * i + 3)) = byB (refL bs 8) (64 * j + 4 * i + 3) := by rw [w32]; omega
            have b3 := u8l_get (bs := refL bs 8) (i := 64 * j + 4 * i + 3) (by omega)
            have t0 : IntKind.u32.wrap (byB (refL bs 8) (64 * j + 4 * i) * 16777216) = byB (refL bs 8) (64 * j + 4 * i) * 16777216 := by rw [w32]; omega
            have t1 : IntKind.u32.wrap (byB (refL bs 8) (64 * j + 4 * i + 1) * 65536) = byB (refL bs 8) (64 * j + 4 * i + 1) * 65536 := by rw [w32]; omega
            have t2 : IntKind.u32.wrap (byB (refL bs 8) (64 * j + 4 * i + 2) * 256) = byB (refL bs 8) (64 * j + 4 * i + 2) * 256 := by rw [w32]; omega
            have t3 : IntKind.u32.wrap (byB (refL bs 8) (64 * j + 4 * i) * 16777216 + byB (refL bs 8) (64 * j + 4 * i + 1) * 65536) = byB (refL bs 8) (64 * j + 4 * i) * 16777216 + byB (refL bs 8) (64 * j + 4 * i + 1) * 65536 := by rw [w32]; omega
            have t4 : IntKind.u32.wrap (byB (refL bs 8) (64 * j + 4 * i) * 16777216 + byB (refL bs 8) (64 * j + 4 * i + 1) * 65536 + byB (refL bs 8) (64 * j + 4 * i + 2) * 256) = byB (refL bs 8) (64 * j + 4 * i) * 16777216 + byB (refL bs 8) (64 * j + 4 * i + 1) * 65536 + byB (refL bs 8) (64 * j + 4 * i + 2) * 256 := by rw [w32]; omega
            have t5 : IntKind.u32.wrap (byB (refL bs 8) (64 * j + 4 * i) * 16777216 + byB (refL bs 8) (64 * j + 4 * i + 1) * 65536 + byB (refL bs 8) (64 * j + 4 * i + 2) * 256 + byB (refL bs 8) (64 * j + 4 * i + 3)) = wordV (refL bs 8) (64 * j + 4 * i) := by rw [w32]; unfold wordV; omega
            have snx : (ul (sch (refL bs 8) (64 * j) i)).set i (.int .u32 (wordV (refL bs 8) (64 * j + 4 * i))) = ul (sch (refL bs 8) (64 * j) (i + 1)) := by rw [ul_set]; simp only [sch, if_pos hi16]
            simp only [Nat.add_assoc] at z0 y0 b0 z1 y1 b1 z2 y2 b2 z3 y3 b3 t0 t1 t2 t3 t4 t5 snx
            refine AW.seq_k fun K hK => ?_
            refine AW.draw [.val, .val, .val, .val, .val, .val, .val, .rd 0, .val, .val, .val, .val, .val, .val, .val, .val, .val, .rd 0, .val, .val, .val, .val, .val, .val, .val, .val, .val, .val, .rd 0, .val, .val, .val, .val, .val, .val, .val, .val, .val, .val, .rd 0, .val, .val, .val, .wr] fol (by decide) (by kernel_rfl) ?_
            simp only [push_cast, simprocAttr, hb, lk_old hb, ha1, ha2, ha3, ha4, ha5, hz0, hw1, hvl, hvv, g0, g1, g2, g3, g4, g5, g6, g7, u8l_len, ul_len, u8lset, hf, Int.le_refl, Nat.le_refl, q3, c3, c4, c5, lS, v0, v1, v2, v3, v4, d0, f0, z0, y0, b0, d1, f1, z1, y1, b1, d2, f2, z2, y2, b2, d3, f3, z3, y3, b3, t0, t1, t2, t3, t4, t5, snx]
            refine Thn_n ?_
            refine hK _ _ ?_
            clear hK K
            refine AW.exit ?_
            refine Thn_e ?_
            clear hK K
            refine InB_here ?_
            refine Thn_n ?_
            refine hK _ _ ?_
            clear hK K
            refine AW.region (by decide) ?_
            simp only [push_cast, simprocAttr, hb, lk_old hb, ha1, ha2, ha3, ha4, ha5, hz0, hw1, hvl, hvv, g0, g1, g2, g3, g4, g5, g6, g7, u8l_len, ul_len, u8lset, hf, Int.le_refl, Nat.le_refl, q3, c3, c4, c5, lS, v0, v1, v2, v3, v4, d0, f0, z0, y0, b0, d1, f1, z1, y1, b1, d2, f2, z2, y2, b2, d3, f3, z3, y3, b3, t0, t1, t2, t3, t4, t5, snx]
            refine Thn_n ?_
            have hwi : IntKind.i64.wrap ((i:Int)+1) = (i:Int)+1 := wi (by omega)
            refine ⟨i + 1, hlt64, by omega, ?_⟩
            try simp only [keepL, setAll, push_cast, simprocAttr, hb, lk_old hb, ha1, ha2, ha3, ha4, ha5, hz0, hw1, hvl, hvv, g0, g1, g2, g3, g4, g5, g6, g7, u8l_len, ul_len, u8lset, hf, Int.le_refl, Nat.le_refl, q3, c3, c4, c5, lS, v0, v1, v2, v3, v4, d0, f0, z0, y0, b0, d1, f1, z1, y1, b1, d2, f2, z2, y2, b2, d3, f3, z3, y3, b3, t0, t1, t2, t3, t4, t5, snx, hwi, snx]
            exact Weak.same (by simp only [Keeps, Tm.get_cons, Nat.reduceEqDiff, ↓reduceIte, if_true, if_false, ite_true, ite_false, true_and, and_true, and_self, reduceCtorEq, hwi, snx]) (by first | rfl | simp only [Keeps, Tm.get_cons, Nat.reduceEqDiff, ↓reduceIte, if_true, if_false, ite_true, ite_false, true_and, and_true, and_self, reduceCtorEq, hwi, snx])
          · have hi16 : 16 ≤ i := by have := of_decide_eq_false h66; omega
            have g15 := ul_get (xs := sch (refL bs 8) (64 * j) i) (i := i - 15) (by rw [sch_len]; omega)
            have v15 : IntKind.i64.wrap ((i : Int) - 15) = (i : Int) - 15 := wi (by omega)
            have d15 : (0 : Int) ≤ (i : Int) - 15 := by omega
            have f15 : (i : Int) - 15 < 64 := by omega
            have z15 : ((i : Int) - 15).toNat = i - 15 := by omega
            have g2 := ul_get (xs := sch (refL bs 8) (64 * j) i) (i := i - 2) (by rw [sch_len]; omega)
            have v2 : IntKind.i64.wrap ((i : Int) - 2) = (i : Int) - 2 := wi (by omega)
            have d2 : (0 : Int) ≤ (i : Int) - 2 := by omega
            have f2 : (i : Int) - 2 < 64 := by omega
            have z2 : ((i : Int) - 2).toNat = i - 2 := by omega
            have g16 := ul_get (xs := sch (refL bs 8) (64 * j) i) (i := i - 16) (by rw [sch_len]; omega)
            have v16 : IntKind.i64.wrap ((i : Int) - 16) = (i : Int) - 16 := wi (by omega)
            have d16 : (0 : Int) ≤ (i : Int) - 16 := by omega
            have f16 : (i : Int) - 16 < 64 := by omega
            have z16 : ((i : Int) - 16).toNat = i - 16 := by omega
            have g7 := ul_get (xs := sch (refL bs 8) (64 * j) i) (i := i - 7) (by rw [sch_len]; omega)
            have v7 : IntKind.i64.wrap ((i : Int) - 7) = (i : Int) - 7 := wi (by omega)
            have d7 : (0 : Int) ≤ (i : Int) - 7 := by omega
            have f7 : (i : Int) - 7 < 64 := by omega
            have z7 : ((i : Int) - 7).toNat = i - 7 := by omega
            have snx : ((ul (sch (refL bs 8) (64 * j) i)).set i (.int .u32 (mixF (sch (refL bs 8) (64 * j) i) i))) = ul (sch (refL bs 8) (64 * j) (i + 1)) := by rw [ul_set]; simp only [sch]; rw [if_neg (by omega)]
            simp only [mixF, a32, s0, s1] at snx
            refine AW.skip ?_
            refine Thn_n ?_
            refine hK _ _ ?_
            clear hK K
            refine AW.seq_k fun K hK => ?_
            refine AW.draw [.val, .val, .val, .rd 0, .ext, .val, .val, .val, .rd 0, .ext, .val, .val, .val, .val, .rd 0, .val, .val, .val] fol (by decide) (by kernel_rfl) ?_
            simp only [push_cast, simprocAttr, hb, lk_old hb, ha1, ha2, ha3, ha4, ha5, hz0, hw1, hvl, hvv, g0, g1, g2, g3, g4, g5, g6, g7, u8l_len, ul_len, u8lset, hf, Int.le_refl, Nat.le_refl, q3, c3, c4, c5, lS, g15, v15, d15, f15, z15, g2, v2, d2, f2, z2, g16, v16, d16, f16, z16, g7, v7, d7, f7, z7, p3, p10, snx]
            refine DCall.by0 (turn_c _ 7 _ (by decide)) ?_
            simp only [push_cast, simprocAttr, hb, lk_old hb, ha1, ha2, ha3, ha4, ha5, hz0, hw1, hvl, hvv, g0, g1, g2, g3, g4, g5, g6, g7, u8l_len, ul_len, u8lset, hf, Int.le_refl, Nat.le_refl, q3, c3, c4, c5, lS, g15, v15, d15, f15, z15, g2, v2, d2, f2, z2, g16, v16, d16, f16, z16, g7, v7, d7, f7, z7, p3, p10, snx]
            refine DCall.by0 (turn_c _ 18 _ (by decide)) ?_
            simp only [push_cast, simprocAttr, hb, lk_old hb, ha1, ha2, ha3, ha4, ha5, hz0, hw1, hvl, hvv, g0, g1, g2, g3, g4, g5, g6, g7, u8l_len, ul_len, u8lset, hf, Int.le_refl, Nat.le_refl, q3, c3, c4, c5, lS, g15, v15, d15, f15, z15, g2, v2, d2, f2, z2, g16, v16, d16, f16, z16, g7, v7, d7, f7, z7, p3, p10, snx]
            refine Thn_n ?_
            refine hK _ _ ?_
            clear hK K
            refine AW.seq_k fun K hK => ?_
            refine AW.draw [.val, .val, .val, .rd 0, .ext, .val, .val, .val, .rd 0, .ext, .val, .val, .val, .val, .rd 0, .val, .val, .val] fol (by decide) (by kernel_rfl) ?_
            simp only [push_cast, simprocAttr, hb, lk_old hb, ha1, ha2, ha3, ha4, ha5, hz0, hw1, hvl, hvv, g0, g1, g2, g3, g4, g5, g6, g7, u8l_len, ul_len, u8lset, hf, Int.le_refl, Nat.le_refl, q3, c3, c4, c5, lS, g15, v15, d15, f15, z15, g2, v2, d2, f2, z2, g16, v16, d16, f16, z16, g7, v7, d7, f7, z7, p3, p10, snx]
            refine DCall.by0 (turn_c _ 17 _ (by decide)) ?_
            simp only [push_cast, simprocAttr, hb, lk_old hb, ha1, ha2, ha3, ha4, ha5, hz0, hw1, hvl, hvv, g0, g1, g2, g3, g4, g5, g6, g7, u8l_len, ul_len, u8lset, hf, Int.le_refl, Nat.le_refl, q3, c3, c4, c5, lS, g15, v15, d15, f15, z15, g2, v2, d2, f2, z2, g16, v16, d16, f16, z16, g7, v7, d7, f7, z7, p3, p10, snx]
            refine DCall.by0 (turn_c _ 19 _ (by decide)) ?_
            simp only [push_cast, simprocAttr, hb, lk_old hb, ha1, ha2, ha3, ha4, ha5, hz0, hw1, hvl, hvv, g0, g1, g2, g3, g4, g5, g6, g7, u8l_len, ul_len, u8lset, hf, Int.le_refl, Nat.le_refl, q3, c3, c4, c5, lS, g15, v15, d15, f15, z15, g2, v2, d2, f2, z2, g16, v16, d16, f16, z16, g7, v7, d7, f7, z7, p3, p10, snx]
            refine Thn_n ?_
            refine hK _ _ ?_
            clear hK K
            refine AW.draw [.val, .val, .val, .val, .rd 0, .val, .val, .val, .val, .val, .rd 0, .val, .val, .val, .val, .wr] fol (by decide) (by kernel_rfl) ?_
            simp only [push_cast, simprocAttr, hb, lk_old hb, ha1, ha2, ha3, ha4, ha5, hz0, hw1, hvl, hvv, g0, g1, g2, g3, g4, g5, g6, g7, u8l_len, ul_len, u8lset, hf, Int.le_refl, Nat.le_refl, q3, c3, c4, c5, lS, g15, v15, d15, f15, z15, g2, v2, d2, f2, z2, g16, v16, d16, f16, z16, g7, v7, d7, f7, z7, p3, p10, snx]
            refine InB_n ?_
            refine Thn_n ?_
            refine hK _ _ ?_
            clear hK K
            refine AW.region (by decide) ?_
            simp only [push_cast, simprocAttr, hb, lk_old hb, ha1, ha2, ha3, ha4, ha5, hz0, hw1, hvl, hvv, g0, g1, g2, g3, g4, g5, g6, g7, u8l_len, ul_len, u8lset, hf, Int.le_refl, Nat.le_refl, q3, c3, c4, c5, lS, g15, v15, d15, f15, z15, g2, v2, d2, f2, z2, g16, v16, d16, f16, z16, g7, v7, d7, f7, z7, p3, p10, snx]
            refine Thn_n ?_
            have hwi : IntKind.i64.wrap ((i:Int)+1) = (i:Int)+1 := wi (by omega)
            refine ⟨i + 1, hlt64, by omega, ?_⟩
            try simp only [keepL, setAll, push_cast, simprocAttr, hb, lk_old hb, ha1, ha2, ha3, ha4, ha5, hz0, hw1, hvl, hvv, g0, g1, g2, g3, g4, g5, g6, g7, u8l_len, ul_len, u8lset, hf, Int.le_refl, Nat.le_refl, q3, c3, c4, c5, lS, g15, v15, d15, f15, z15, g2, v2, d2, f2, z2, g16, v16, d16, f16, z16, g7, v7, d7, f7, z7, p3, p10, snx, hwi, snx]
            exact Weak.same (by simp only [Keeps, Tm.get_cons, Nat.reduceEqDiff, ↓reduceIte, if_true, if_false, ite_true, ite_false, true_and, and_true, and_self, reduceCtorEq, hwi, snx]) (by first | rfl | simp only [Keeps, Tm.get_cons, Nat.reduceEqDiff, ↓reduceIte, if_true, if_false, ite_true, ite_false, true_and, and_true, and_self, reduceCtorEq, hwi, snx])
        · have hie : i = 64 := by have := of_decide_eq_false h62; omega
          subst hie
          refine AW.exit ?_
          refine Thn_e ?_
          clear hK K
          refine Thn_e ?_
          refine InB_here ?_
          refine Thn_n ?_
          refine hK _ _ ?_
          clear hK K
          refine AW.seq_k fun K hK => ?_
          refine AW.region (by decide) ?_
          simp only [push_cast, simprocAttr, hb, lk_old hb, ha1, ha2, ha3, ha4, ha5, hz0, hw1, hvl, hvv, g0, g1, g2, g3, g4, g5, g6, g7, u8l_len, ul_len, u8lset, hf, Int.le_refl, Nat.le_refl, q3]
          refine Thn_n ?_
          refine hK _ _ ?_
          clear hK K
          refine AW.seq_k fun K hK => ?_
          refine AW.seq_k fun K hK => ?_
          refine AW.region (by decide) ?_
          simp only [push_cast, simprocAttr, hb, lk_old hb, ha1, ha2, ha3, ha4, ha5, hz0, hw1, hvl, hvv, g0, g1, g2, g3, g4, g5, g6, g7, u8l_len, ul_len, u8lset, hf, Int.le_refl, Nat.le_refl, q3]
          refine Thn_n ?_
          refine hK _ _ ?_
          clear hK K
          refine AW.block ?_
          refine AW.loopK [2, 4, 5, 8, 9, 10, 14] (fun k => k ≤ (64 : Nat)) (fun k => [(15, .one (.int .i64 (k : Int)))]) (fun k => [(m.length + 6, ⟨.fix, 28, 0, 0, [.int .u32 ((rd KW (sch (refL bs 8) (64 * j) 64) (compN IV (refL bs 8) j) k)).a, .int .u32 ((rd KW (sch (refL bs 8) (64 * j) 64) (compN IV (refL bs 8) j) k)).b, .int .u32 ((rd KW (sch (refL bs 8) (64 * j) 64) (compN IV (refL bs 8) j) k)).c, .int .u32 ((rd KW (sch (refL bs 8) (64 * j) 64) (compN IV (refL bs 8) j) k)).d, .int .u32 ((rd KW (sch (refL bs 8) (64 * j) 64) (compN IV (refL bs 8) j) k)).e, .int .u32 ((rd KW (sch (refL bs 8) (64 * j) 64) (compN IV (refL bs 8) j) k)).f, .int .u32 ((rd KW (sch (refL bs 8) (64 * j) 64) (compN IV (refL bs 8) j) k)).g, .int .u32 ((rd KW (sch (refL bs 8) (64 * j) 64) (compN IV (refL bs 8) j) k)).h]⟩)]) (fun k => 64 - k) 0 (by omega) ?_ ?_ fun k hi36 => ?_
          · first | rfl | (simp only [Keeps, Tm.get_cons, Nat.reduceEqDiff, ↓reduceIte, if_true, if_false, ite_true, ite_false, true_and, and_true, and_self, reduceCtorEq, rd, Int.natCast_zero] <;> rfl)
          · first | rfl | (simp only [setAll, push_cast, simprocAttr, hb, lk_old hb, ha1, ha2, ha3, ha4, ha5, hz0, hw1, hvl, hvv, g0, g1, g2, g3, g4, g5, g6, g7, u8l_len, ul_len, u8lset, hf, Int.le_refl, Nat.le_refl, q3, rd, Int.natCast_zero] <;> rfl)
          have hk64 : k ≤ 64 := hi36
          try simp only [keepL, setAll, push_cast, simprocAttr, hb, lk_old hb, ha1, ha2, ha3, ha4, ha5, hz0, hw1, hvl, hvv, g0, g1, g2, g3, g4, g5, g6, g7, u8l_len, ul_len, u8lset, hf, Int.le_refl, Nat.le_refl, q3]
          refine AW.seq_k fun K hK => ?_
          refine AW.seq_k fun K hK => ?_
          refine AW.region (by decide) ?_
          simp only [push_cast, simprocAttr, hb, lk_old hb, ha1, ha2, ha3, ha4, ha5, hz0, hw1, hvl, hvv, g0, g1, g2, g3, g4, g5, g6, g7, u8l_len, ul_len, u8lset, hf, Int.le_refl, Nat.le_refl, q3]
          refine Thn_n ?_
          refine hK _ _ ?_
          clear hK K
          refine AW.cond rfl (fun h161 => ?_) (fun h161 => ?_)
          · have hlt64 : k < 64 := by have := of_decide_eq_true h161; omega
            have c3 : (0 : Int) ≤ (k : Int) := by omega
            have c4 : (k : Int) < 64 := by omega
            have gk : (ul (HLL ++ KW))[8 + k]? = some (.int .u32 (KW.getD k 0)) := by
              have h1 := ul_get (xs := HLL ++ KW) (i := 8 + k) (by show 8 + k < 72; omega)
              rw [h1]; congr 2
              rw [List.getD_eq_getElem?_getD, List.getElem?_append_right (by show 8 ≤ 8 + k; omega), List.getD_eq_getElem?_getD]
              congr 2
              show 8 + k - 8 = k
              omega
            have gw := ul_get (xs := sch (refL bs 8) (64 * j) 64) (i := k) (by rw [sch_len]; omega)
            have hr8 := rd_r (K := KW) (W := sch (refL bs 8) (64 * j) 64) hSr k
            have hxm := xor_max hr8.2.2.2.2.1
            have hxw : IntKind.u32.wrap (4294967295 - ((rd KW (sch (refL bs 8) (64 * j) 64) (compN IV (refL bs 8) j) k)).e) = bits .xor .u32 4294967295 ((rd KW (sch (refL bs 8) (64 * j) 64) (compN IV (refL bs 8) j) k)).e := by
              rw [hxm, w32]; have h1 := hr8.2.2.2.2.1.1; have h2 := hr8.2.2.2.2.1.2; omega
            refine AW.skip ?_
            refine Thn_n ?_
            refine hK _ _ ?_
            clear hK K
            refine AW.seq_k fun K hK => ?_
            refine AW.block ?_
            refine AW.seq_k fun K hK => ?_
            refine AW.draw [.val, .rd 0, .ext, .val, .rd 0, .ext, .val, .val, .rd 0, .ext, .val, .val] fol (by decide) (by kernel_rfl) ?_
            simp only [push_cast, simprocAttr, hb, lk_old hb, ha1, ha2, ha3, ha4, ha5, hz0, hw1, hvl, hvv, g0, g1, g2, g3, g4, g5, g6, g7, u8l_len, ul_len, u8lset, hf, Int.le_refl, Nat.le_refl, q3, c3, c4, gk, gw, hxw]
            refine DCall.by0 (turn_c _ 6 _ (by decide)) ?_
            simp only [push_cast, simprocAttr, hb, lk_old hb, ha1, ha2, ha3, ha4, ha5, hz0, hw1, hvl, hvv, g0, g1, g2, g3, g4, g5, g6, g7, u8l_len, ul_len, u8lset, hf, Int.le_refl, Nat.le_refl, q3, c3, c4, gk, gw, hxw]
            refine DCall.by0 (turn_c _ 11 _ (by decide)) ?_
            simp only [push_cast, simprocAttr, hb, lk_old hb, ha1, ha2, ha3, ha4, ha5, hz0, hw1, hvl, hvv, g0, g1, g2, g3, g4, g5, g6, g7, u8l_len, ul_len, u8lset, hf, Int.le_refl, Nat.le_refl, q3, c3, c4, gk, gw, hxw]
            refine DCall.by0 (turn_c _ 25 _ (by decide)) ?_
            simp only [push_cast, simprocAttr, hb, lk_old hb, ha1, ha2, ha3, ha4, ha5, hz0, hw1, hvl, hvv, g0, g1, g2, g3, g4, g5, g6, g7, u8l_len, ul_len, u8lset, hf, Int.le_refl, Nat.le_refl, q3, c3, c4, gk, gw, hxw]
            refine Thn_n ?_
            refine hK _ _ ?_
            clear hK K
            refine AW.seq_k fun K hK => ?_
            refine AW.region (by decide) ?_
            simp only [push_cast, simprocAttr, hb, lk_old hb, ha1, ha2, ha3, ha4, ha5, hz0, hw1, hvl, hvv, g0, g1, g2, g3, g4, g5, g6, g7, u8l_len, ul_len, u8lset, hf, Int.le_refl, Nat.le_refl, q3, c3, c4, gk, gw, hxw]
            refine Thn_n ?_
            refine hK _ _ ?_
            clear hK K
            refine AW.seq_k fun K hK => ?_
            refine AW.draw [.val, .rd 0, .val, .val, .val, .val, .val, .val, .val, .rd 0, .val, .val, .val, .rd 0, .val, .val] fol (by decide) (by kernel_rfl) ?_
            simp only [push_cast, simprocAttr, hb, lk_old hb, ha1, ha2, ha3, ha4, ha5, hz0, hw1, hvl, hvv, g0, g1, g2, g3, g4, g5, g6, g7, u8l_len, ul_len, u8lset, hf, Int.le_refl, Nat.le_refl, q3, c3, c4, gk, gw, hxw]
            refine Thn_n ?_
            refine hK _ _ ?_
            clear hK K
            refine AW.seq_k fun K hK => ?_
            refine AW.draw [.val, .rd 0, .ext, .val, .rd 0, .ext, .val, .val, .rd 0, .ext, .val, .val] fol (by decide) (by kernel_rfl) ?_
            simp only [push_cast, simprocAttr, hb, lk_old hb, ha1, ha2, ha3, ha4, ha5, hz0, hw1, hvl, hvv, g0, g1, g2, g3, g4, g5, g6, g7, u8l_len, ul_len, u8lset, hf, Int.le_refl, Nat.le_refl, q3, c3, c4, gk, gw, hxw]
            refine DCall.by0 (turn_c _ 2 _ (by decide)) ?_
            simp only [push_cast, simprocAttr, hb, lk_old hb, ha1, ha2, ha3, ha4, ha5, hz0, hw1, hvl, hvv, g0, g1, g2, g3, g4, g5, g6, g7, u8l_len, ul_len, u8lset, hf, Int.le_refl, Nat.le_refl, q3, c3, c4, gk, gw, hxw]
            refine DCall.by0 (turn_c _ 13 _ (by decide)) ?_
            simp only [push_cast, simprocAttr, hb, lk_old hb, ha1, ha2, ha3, ha4, ha5, hz0, hw1, hvl, hvv, g0, g1, g2, g3, g4, g5, g6, g7, u8l_len, ul_len, u8lset, hf, Int.le_refl, Nat.le_refl, q3, c3, c4, gk, gw, hxw]
            refine DCall.by0 (turn_c _ 22 _ (by decide)) ?_
            simp only [push_cast, simprocAttr, hb, lk_old hb, ha1, ha2, ha3, ha4, ha5, hz0, hw1, hvl, hvv, g0, g1, g2, g3, g4, g5, g6, g7, u8l_len, ul_len, u8lset, hf, Int.le_refl, Nat.le_refl, q3, c3, c4, gk, gw, hxw]
            refine Thn_n ?_
            refine hK _ _ ?_
            clear hK K
            refine AW.seq_k fun K hK => ?_
            refine AW.region (by decide) ?_
            simp only [push_cast, simprocAttr, hb, lk_old hb, ha1, ha2, ha3, ha4, ha5, hz0, hw1, hvl, hvv, g0, g1, g2, g3, g4, g5, g6, g7, u8l_len, ul_len, u8lset, hf, Int.le_refl, Nat.le_refl, q3, c3, c4, gk, gw, hxw]
            refine Thn_n ?_
            refine hK _ _ ?_
            clear hK K
            refine AW.region (by decide) ?_
            simp only [push_cast, simprocAttr, hb, lk_old hb, ha1, ha2, ha3, ha4, ha5, hz0, hw1, hvl, hvv, g0, g1, g2, g3, g4, g5, g6, g7, u8l_len, ul_len, u8lset, hf, Int.le_refl, Nat.le_refl, q3, c3, c4, gk, gw, hxw]
            refine InB_n ?_
            refine Thn_n ?_
            refine hK _ _ ?_
            clear hK K
            refine AW.region (by decide) ?_
            simp only [push_cast, simprocAttr, hb, lk_old hb, ha1, ha2, ha3, ha4, ha5, hz0, hw1, hvl, hvv, g0, g1, g2, g3, g4, g5, g6, g7, u8l_len, ul_len, u8lset, hf, Int.le_refl, Nat.le_refl, q3, c3, c4, gk, gw, hxw]
            refine Thn_n ?_
            have hwi : IntKind.i64.wrap ((k:Int)+1) = (k:Int)+1 := wi (by omega)
            refine ⟨k + 1, hlt64, by omega, ?_⟩
            try simp only [keepL, setAll, push_cast, simprocAttr, hb, lk_old hb, ha1, ha2, ha3, ha4, ha5, hz0, hw1, hvl, hvv, g0, g1, g2, g3, g4, g5, g6, g7, u8l_len, ul_len, u8lset, hf, Int.le_refl, Nat.le_refl, q3, c3, c4, gk, gw, hxw, hwi, rd, rdF, t1F, a32, S0, S1, chF, maF, a32_assoc]
            exact Weak.same (by simp only [Keeps, Tm.get_cons, Nat.reduceEqDiff, ↓reduceIte, if_true, if_false, ite_true, ite_false, true_and, and_true, and_self, reduceCtorEq, hwi, rd, rdF, t1F, a32, S0, S1, chF, maF, a32_assoc]) (by first | rfl | simp only [Keeps, Tm.get_cons, Nat.reduceEqDiff, ↓reduceIte, if_true, if_false, ite_true, ite_false, true_and, and_true, and_self, reduceCtorEq, hwi, rd, rdF, t1F, a32, S0, S1, chF, maF, a32_assoc])
          · have hke : k = 64 := by have := of_decide_eq_false h161; omega
            subst hke
            refine AW.exit ?_
            refine Thn_e ?_
            clear hK K
            refine Thn_e ?_
            refine InB_here ?_
            refine Thn_n ?_
            refine hK _ _ ?_
            clear hK K
            refine AW.seq_k fun K hK => ?_
            refine AW.region (by decide) ?_
            simp only [push_cast, simprocAttr, hb, lk_old hb, ha1, ha2, ha3, ha4, ha5, hz0, hw1, hvl, hvv, g0, g1, g2, g3, g4, g5, g6, g7, u8l_len, ul_len, u8lset, hf, Int.le_refl, Nat.le_refl, q3]
            refine Thn_n ?_
            refine hK _ _ ?_
            clear hK K
            refine AW.block ?_
            refine AW.rounds 9 ?_
            iterate 8
              refine ARounds.succ fun K hK => ?_
              refine AW.seq_k fun K hK => ?_
              refine AW.seq_k fun K hK => ?_
              refine AW.region (by decide) ?_
              simp only [push_cast, simprocAttr, hb, lk_old hb, ha1, ha2, ha3, ha4, ha5, hz0, hw1, hvl, hvv, g0, g1, g2, g3, g4, g5, g6, g7, u8l_len, ul_len, u8lset, hf, Int.le_refl, Nat.le_refl, q3]
              refine Thn_n ?_
              refine hK _ _ ?_
              clear hK K
              refine AW.cond_t rfl ?_
              refine AW.skip ?_
              refine Thn_n ?_
              refine hK _ _ ?_
              clear hK K
              refine AW.seq_k fun K hK => ?_
              refine AW.block ?_
              refine AW.draw [.val, .val, .val, .rd 0, .val, .val, .rd 0, .val, .val, .wr] fol (by decide) (by kernel_rfl) ?_
              simp only [push_cast, simprocAttr, hb, lk_old hb, ha1, ha2, ha3, ha4, ha5, hz0, hw1, hvl, hvv, g0, g1, g2, g3, g4, g5, g6, g7, u8l_len, ul_len, u8lset, hf, Int.le_refl, Nat.le_refl, q3]
              refine InB_n ?_
              refine Thn_n ?_
              refine hK _ _ ?_
              clear hK K
              refine AW.region (by decide) ?_
              simp only [push_cast, simprocAttr, hb, lk_old hb, ha1, ha2, ha3, ha4, ha5, hz0, hw1, hvl, hvv, g0, g1, g2, g3, g4, g5, g6, g7, u8l_len, ul_len, u8lset, hf, Int.le_refl, Nat.le_refl, q3]
              refine Thn_n ?_
              refine hK _ _ ?_
              clear hK K
            refine ARounds.succ fun K hK => ?_
            refine AW.seq_k fun K hK => ?_
            refine AW.seq_k fun K hK => ?_
            refine AW.region (by decide) ?_
            simp only [push_cast, simprocAttr, hb, lk_old hb, ha1, ha2, ha3, ha4, ha5, hz0, hw1, hvl, hvv, g0, g1, g2, g3, g4, g5, g6, g7, u8l_len, ul_len, u8lset, hf, Int.le_refl, Nat.le_refl, q3]
            refine Thn_n ?_
            refine hK _ _ ?_
            clear hK K
            refine AW.cond_f rfl ?_
            refine AW.exit ?_
            refine Thn_e ?_
            clear hK K
            refine Thn_e ?_
            clear hK K
            refine InB_here ?_
            refine InB_n ?_
            refine Thn_n ?_
            refine hK _ _ ?_
            clear hK K
            refine AW.region (by decide) ?_
            simp only [push_cast, simprocAttr, hb, lk_old hb, ha1, ha2, ha3, ha4, ha5, hz0, hw1, hvl, hvv, g0, g1, g2, g3, g4, g5, g6, g7, u8l_len, ul_len, u8lset, hf, Int.le_refl, Nat.le_refl, q3]
            refine Thn_n ?_
            have hwj : IntKind.i64.wrap (64 * (j : Int) + 64) = 64 * ((j : Int) + 1) := by rw [IntKind.wrap_i64]; omega
            have hcn : compN IV (refL bs 8) (j + 1) = add8 (compN IV (refL bs 8) j) (rd KW (sch (refL bs 8) (64 * j) 64) (compN IV (refL bs 8) j) 64) := rfl
            refine ⟨j + 1, by omega, by omega, ?_⟩
            try simp only [keepL, setAll, push_cast, simprocAttr, hb, lk_old hb, ha1, ha2, ha3, ha4, ha5, hz0, hw1, hvl, hvv, g0, g1, g2, g3, g4, g5, g6, g7, u8l_len, ul_len, u8lset, hf, Int.le_refl, Nat.le_refl, q3, hwj, hcn, add8, a32]
            exact Weak.to (extra := [_, _]) (by simp only [Keeps, Tm.get_cons, Nat.reduceEqDiff, ↓reduceIte, if_true, if_false, ite_true, ite_false, true_and, and_true, and_self, reduceCtorEq, hwj, hcn, add8, a32]) (by first | rfl | (simp only [List.append_assoc, List.cons_append, List.nil_append]; rfl)) (by first | rfl | (simp [AV.below, CV.below, u8l_below, ul_below]; done) | (simp [AV.below, CV.below, u8l_below, ul_below]; omega)) (by
              first | exact hwf | refine MWf.app (hwf.grow (by simp)) ?_
              repeat (first | exact MWf_nil | (refine MWf_cons ?_ ?_; · first | rfl | (simp [CV.below, u8l_below, ul_below]; done) | (simp [CV.below, u8l_below, ul_below]; omega))))
      · have hje : j = (refL bs 8).length / 64 := by have := of_decide_eq_false h58; omega
        subst hje
        have hfin := ref_sha bs hl
        obtain ⟨S0, hS0⟩ : ∃ S0, compN IV (refL bs 8) ((refL bs 8).length / 64) = S0 := ⟨_, rfl⟩
        rw [hS0] at hfin
        have hd0 : u8l (dQ S0 0) = [.int .u8 0, .int .u8 0, .int .u8 0, .int .u8 0, .int .u8 0, .int .u8 0, .int .u8 0, .int .u8 0, .int .u8 0, .int .u8 0, .int .u8 0, .int .u8 0, .int .u8 0, .int .u8 0, .int .u8 0, .int .u8 0, .int .u8 0, .int .u8 0, .int .u8 0, .int .u8 0, .int .u8 0, .int .u8 0, .int .u8 0, .int .u8 0, .int .u8 0, .int .u8 0, .int .u8 0, .int .u8 0, .int .u8 0, .int .u8 0, .int .u8 0, .int .u8 0] := rfl
        refine AW.exit ?_
        refine Thn_e ?_
        clear hK K
        refine Thn_e ?_
        refine InB_here ?_
        refine Thn_n ?_
        refine hK _ _ ?_
        clear hK K
        refine AW.seq_k fun K hK => ?_
        refine AW.region (by decide) ?_
        simp only [push_cast, simprocAttr, hb, lk_old hb, ha1, ha2, ha3, ha4, ha5, hz0, hw1, hvl, hvv, g0, g1, g2, g3, g4, g5, g6, g7, u8l_len, ul_len, u8lset, hf, Int.le_refl, Nat.le_refl, q3, hS0]
        refine Thn_n ?_
        refine hK _ _ ?_
        clear hK K
        refine AW.seq_k fun K hK => ?_
        refine AW.seq_k fun K hK => ?_
        refine AW.region (by decide) ?_
        simp only [push_cast, simprocAttr, hb, lk_old hb, ha1, ha2, ha3, ha4, ha5, hz0, hw1, hvl, hvv, g0, g1, g2, g3, g4, g5, g6, g7, u8l_len, ul_len, u8lset, hf, Int.le_refl, Nat.le_refl, q3, hS0]
        refine Thn_n ?_
        refine hK _ _ ?_
        clear hK K
        refine AW.block ?_
        refine AW.loopK [4, 8, 22] (fun i => i ≤ (32 : Nat)) (fun i => [(23, .one (.int .i64 (i : Int)))]) (fun i => [(m.length + 5, ⟨.fix, 24, 0, 0, u8l (dQ S0 i)⟩)]) (fun i => 32 - i) 0 (by omega) ?_ ?_ fun i hi84 => ?_
        · first | rfl | (simp only [Keeps, Tm.get_cons, Nat.reduceEqDiff, ↓reduceIte, if_true, if_false, ite_true, ite_false, true_and, and_true, and_self, reduceCtorEq, hd0, Int.natCast_zero] <;> rfl)
        · first | rfl | (simp only [setAll, push_cast, simprocAttr, hb, lk_old hb, ha1, ha2, ha3, ha4, ha5, hz0, hw1, hvl, hvv, g0, g1, g2, g3, g4, g5, g6, g7, u8l_len, ul_len, u8lset, hf, Int.le_refl, Nat.le_refl, q3, hS0, hd0, Int.natCast_zero] <;> rfl)
        have hi32 : i ≤ 32 := hi84
        try simp only [keepL, setAll, push_cast, simprocAttr, hb, lk_old hb, ha1, ha2, ha3, ha4, ha5, hz0, hw1, hvl, hvv, g0, g1, g2, g3, g4, g5, g6, g7, u8l_len, ul_len, u8lset, hf, Int.le_refl, Nat.le_refl, q3, hS0]
        refine AW.seq_k fun K hK => ?_
        refine AW.seq_k fun K hK => ?_
        refine AW.region (by decide) ?_
        simp only [push_cast, simprocAttr, hb, lk_old hb, ha1, ha2, ha3, ha4, ha5, hz0, hw1, hvl, hvv, g0, g1, g2, g3, g4, g5, g6, g7, u8l_len, ul_len, u8lset, hf, Int.le_refl, Nat.le_refl, q3, hS0]
        refine Thn_n ?_
        refine hK _ _ ?_
        clear hK K
        refine AW.cond rfl (fun h266 => ?_) (fun h266 => ?_)
        · have hlt32 : i < 32 := by have := of_decide_eq_true h266; omega
          have c3 : (0 : Int) ≤ (i : Int) := by omega
          have c4 : (i : Int) < 32 := by omega
          have v0 : IntKind.i64.wrap ((i : Int).tdiv 4) = ((i / 4 : Nat) : Int) := by
            have : (i : Int).tdiv 4 = ((i / 4 : Nat) : Int) := rfl
            rw [this]; exact wi (by omega)
          have v1 : (i : Int).tmod 4 = ((i % 4 : Nat) : Int) := rfl
          have gh := hS_get S0 (i := i / 4) (by omega)
          simp only [hS] at gh
          have c5 : (0 : Int) ≤ ((i / 4 : Nat) : Int) := by omega
          have c6 : ((i / 4 : Nat) : Int) < 8 := by omega
          have v2 : IntKind.i64.wrap (3 - ((i % 4 : Nat) : Int)) = 3 - ((i % 4 : Nat) : Int) := wi (by omega)
          have v3 : IntKind.u64.wrap (3 - ((i % 4 : Nat) : Int)) = ((3 - i % 4 : Nat) : Int) := by rw [IntKind.wrap_u64]; omega
          have v4 : IntKind.u64.wrap (8 * ((3 - i % 4 : Nat) : Int)) = ((8 * (3 - i % 4) : Nat) : Int) := by rw [IntKind.wrap_u64]; omega
          have v5 : ¬ ((8 * (3 - i % 4) : Nat) : Int) < 0 := by omega
          have v6 : (2 : Int) ^ min (8 * (3 - i % 4)) IntKind.u32.bits = 2 ^ (8 * (3 - i % 4)) := by rw [show IntKind.u32.bits = 32 from rfl, Nat.min_eq_left (by omega)]
          have hds := dQ_set S0 hlt32
          have hdl := dQ_len S0 (i := i) (by omega)
          have c7 : i + 1 ≤ 32 := by omega
          generalize hsh : 8 * (3 - i % 4) = sh at v4 v5 v6 hds
          generalize hsv : 3 - i % 4 = sv at v3 v4
          generalize hi4 : i / 4 = q at v0 gh c5 c6 hds
          generalize hm4 : i % 4 = r at v1 v2 v3
          refine AW.skip ?_
          refine Thn_n ?_
          refine hK _ _ ?_
          clear hK K
          refine AW.seq_k fun K hK => ?_
          refine AW.block ?_
          refine AW.region (by decide) ?_
          simp only [push_cast, simprocAttr, hb, lk_old hb, ha1, ha2, ha3, ha4, ha5, hz0, hw1, hvl, hvv, g0, g1, g2, g3, g4, g5, g6, g7, u8l_len, ul_len, u8lset, hf, Int.le_refl, Nat.le_refl, q3, hS0, c3, c4, v0, v1, gh, c5, c6, v2, v3, v4, v5, v6, hds, hdl, c7]
          refine InB_n ?_
          refine Thn_n ?_
          refine hK _ _ ?_
          clear hK K
          refine AW.region (by decide) ?_
          simp only [push_cast, simprocAttr, hb, lk_old hb, ha1, ha2, ha3, ha4, ha5, hz0, hw1, hvl, hvv, g0, g1, g2, g3, g4, g5, g6, g7, u8l_len, ul_len, u8lset, hf, Int.le_refl, Nat.le_refl, q3, hS0, c3, c4, v0, v1, gh, c5, c6, v2, v3, v4, v5, v6, hds, hdl, c7]
          refine Thn_n ?_
          have hwi : IntKind.i64.wrap ((i:Int)+1) = (i:Int)+1 := wi (by omega)
          refine ⟨i + 1, hlt32, by omega, ?_⟩
          try simp only [keepL, setAll, push_cast, simprocAttr, hb, lk_old hb, ha1, ha2, ha3, ha4, ha5, hz0, hw1, hvl, hvv, g0, g1, g2, g3, g4, g5, g6, g7, u8l_len, ul_len, u8lset, hf, Int.le_refl, Nat.le_refl, q3, hS0, c3, c4, v0, v1, gh, c5, c6, v2, v3, v4, v5, v6, hds, hdl, c7, hwi, hds]
          exact Weak.same (by simp only [Keeps, Tm.get_cons, Nat.reduceEqDiff, ↓reduceIte, if_true, if_false, ite_true, ite_false, true_and, and_true, and_self, reduceCtorEq, hwi, hds]) (by first | rfl | simp only [Keeps, Tm.get_cons, Nat.reduceEqDiff, ↓reduceIte, if_true, if_false, ite_true, ite_false, true_and, and_true, and_self, reduceCtorEq, hwi, hds])
        · have hie : i = 32 := by have := of_decide_eq_false h266; omega
          subst hie
          have hdf : u8l (dQ S0 32) = [.int .u8 (IntKind.u8.wrap (S0.a.fdiv 16777216)), .int .u8 (IntKind.u8.wrap (S0.a.fdiv 65536)), .int .u8 (IntKind.u8.wrap (S0.a.fdiv 256)), .int .u8 (IntKind.u8.wrap S0.a), .int .u8 (IntKind.u8.wrap (S0.b.fdiv 16777216)), .int .u8 (IntKind.u8.wrap (S0.b.fdiv 65536)), .int .u8 (IntKind.u8.wrap (S0.b.fdiv 256)), .int .u8 (IntKind.u8.wrap S0.b), .int .u8 (IntKind.u8.wrap (S0.c.fdiv 16777216)), .int .u8 (IntKind.u8.wrap (S0.c.fdiv 65536)), .int .u8 (IntKind.u8.wrap (S0.c.fdiv 256)), .int .u8 (IntKind.u8.wrap S0.c), .int .u8 (IntKind.u8.wrap (S0.d.fdiv 16777216)), .int .u8 (IntKind.u8.wrap (S0.d.fdiv 65536)), .int .u8 (IntKind.u8.wrap (S0.d.fdiv 256)), .int .u8 (IntKind.u8.wrap S0.d), .int .u8 (IntKind.u8.wrap (S0.e.fdiv 16777216)), .int .u8 (IntKind.u8.wrap (S0.e.fdiv 65536)), .int .u8 (IntKind.u8.wrap (S0.e.fdiv 256)), .int .u8 (IntKind.u8.wrap S0.e), .int .u8 (IntKind.u8.wrap (S0.f.fdiv 16777216)), .int .u8 (IntKind.u8.wrap (S0.f.fdiv 65536)), .int .u8 (IntKind.u8.wrap (S0.f.fdiv 256)), .int .u8 (IntKind.u8.wrap S0.f), .int .u8 (IntKind.u8.wrap (S0.g.fdiv 16777216)), .int .u8 (IntKind.u8.wrap (S0.g.fdiv 65536)), .int .u8 (IntKind.u8.wrap (S0.g.fdiv 256)), .int .u8 (IntKind.u8.wrap S0.g), .int .u8 (IntKind.u8.wrap (S0.h.fdiv 16777216)), .int .u8 (IntKind.u8.wrap (S0.h.fdiv 65536)), .int .u8 (IntKind.u8.wrap (S0.h.fdiv 256)), .int .u8 (IntKind.u8.wrap S0.h)] := rfl
          refine AW.exit ?_
          refine Thn_e ?_
          clear hK K
          refine Thn_e ?_
          refine InB_here ?_
          refine Thn_n ?_
          refine hK _ _ ?_
          clear hK K
          refine AW.seq_k fun K hK => ?_
          refine AW.region (by decide) ?_
          simp only [push_cast, simprocAttr, hb, lk_old hb, ha1, ha2, ha3, ha4, ha5, hz0, hw1, hvl, hvv, g0, g1, g2, g3, g4, g5, g6, g7, u8l_len, ul_len, u8lset, hf, Int.le_refl, Nat.le_refl, q3, hS0, hdf]
          refine Thn_n ?_
          refine hK _ _ ?_
          clear hK K
          refine AW.ret ?_
          refine hQ _ _ _ ?_
          refine RetP.drop (Or.inr rfl) ?_ ?_ hwf
          · simp only [resA, resOne, resTv, AV.tv, push_cast, simprocAttr]
            rw [← hfin]; rfl
          · rfl
          
end Go.Proofs.Ytelkmimmmhkbhaa
