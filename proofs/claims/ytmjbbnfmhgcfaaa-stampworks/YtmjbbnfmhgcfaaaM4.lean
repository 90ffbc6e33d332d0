/- Walks and facts of this seat's program over abstract states, printed by programs of mine; no conditions but those that each theorem names. -/
import Derived.Test.YtmjbbnfmhgcfaaaM3
set_option linter.unusedSimpArgs false
set_option linter.unusedVariables false
set_option maxRecDepth 100000
set_option maxHeartbeats 4000000
namespace Go.Proofs.Ytmjbbnfmhgcfaaa
open Go Go.Eng

theorem rof_c (rb v off : Nat) (bs X : List Int) (m : AMem) (hb : ∃ k ty ez, m[rb]? = some ⟨k, ty, v, ez, u8l X⟩) (hf : off + bs.length ≤ X.length) (hx : (X.drop off).take bs.length = bs) (hu : U8ok bs) (hl : bs.length ≤ 1000000) : Ctr Try.prog 26 [.agg (ul (HLL ++ KW)), .one (.sl rb v off bs.length)] m (.agg (u8l (shaL bs))) m := by
  refine Ctr.enter Try.func26 rfl (by decide) (rs := [.cell 4 22]) (nt := 283) rfl rfl fun hwf Q hQ => ?_
  obtain ⟨k0, ty0, ez, hb⟩ := hb
  have lb := get_lt hb
  have ha1 : ((u8l X).drop off).take bs.length = u8l bs := by rw [u8l_drop, u8l_take, hx]
  have ha2 := u8l_vals bs
  have ha3 := u8l_len bs
  have ha4 : bs.length ≤ 140737488355328 := by omega
  have ha5 : bs.length + 1 ≤ 140737488355328 := by omega
  have hz0 := padL_zero bs
  have hpo := padz_ok bs.length
  have hpl0 : (padL bs 0).length = bs.length + 1 := padL_len bs 0
  have hw1 : IntKind.u64.wrap (bs.length : Int) = (bs.length : Int) := by rw [IntKind.wrap_u64]; omega
  have hvl : (ul (HLL ++ KW)).length = 72 := rfl
  have hvv := ul_vals (HLL ++ KW)
  have g0 : (ul (HLL ++ KW))[0]? = some (.int .u32 1779033703) := rfl
  have g1 : (ul (HLL ++ KW))[1]? = some (.int .u32 3144134277) := rfl
  have g2 : (ul (HLL ++ KW))[2]? = some (.int .u32 1013904242) := rfl
  have g3 : (ul (HLL ++ KW))[3]? = some (.int .u32 2773480762) := rfl
  have g4 : (ul (HLL ++ KW))[4]? = some (.int .u32 1359893119) := rfl
  have g5 : (ul (HLL ++ KW))[5]? = some (.int .u32 2600822924) := rfl
  have g6 : (ul (HLL ++ KW))[6]? = some (.int .u32 528734635) := rfl
  have g7 : (ul (HLL ++ KW))[7]? = some (.int .u32 1541459225) := rfl
  have hk0 : (ul (HLL ++ KW)).take 8 = [.int .u32 1779033703, .int .u32 3144134277, .int .u32 1013904242, .int .u32 2773480762, .int .u32 1359893119, .int .u32 2600822924, .int .u32 528734635, .int .u32 1541459225] := rfl
  
  iterate 2
    refine AW.seq_k fun K hK => ?_
    refine AW.region (by decide) ?_
    simp only [push_cast, simprocAttr, hb, lk_old hb, ha1, ha2, ha3, ha4, ha5, hz0, hk0, hw1, hvl, hvv, g0, g1, g2, g3, g4, g5, g6, g7, u8l_len, ul_len, u8lset, hf, Int.le_refl, Nat.le_refl]
    refine Thn_n ?_
    refine hK _ _ ?_
    clear hK K
  refine AW.seq_k fun K hK => ?_
  refine AW.block ?_
  refine AW.loopK [1, 2, 4] (fun j => j ≤ padz bs.length) (fun j => [(5, .one (.sl (m.length + 2) (2 + j) 0 (padL bs j).length))]) (fun j => [(m.length + 2, ⟨.grow, 5, 2 + j, 1, u8l (padL bs j)⟩)]) (fun j => padz bs.length - j) 0 (by omega) ?_ ?_ fun j hi4 => ?_
  · first | rfl | (simp only [Keeps, Tm.get_cons, Nat.reduceEqDiff, ↓reduceIte, if_true, if_false, ite_true, ite_false, true_and, and_true, and_self, reduceCtorEq, hpl0] <;> rfl)
  · first | rfl | (simp only [setAll, push_cast, simprocAttr, hb, lk_old hb, ha1, ha2, ha3, ha4, ha5, hz0, hk0, hw1, hvl, hvv, g0, g1, g2, g3, g4, g5, g6, g7, u8l_len, ul_len, u8lset, hf, Int.le_refl, Nat.le_refl, hpl0] <;> rfl)
  have hi : j ≤ padz bs.length := hi4
  have hpz := padz_le bs.length
  have hpl := padL_len bs j
  have hpl2 : (padL bs (j + 1)).length = (padL bs j).length + 1 := by rw [padL_len, padL_len]; omega
  have hsn := padL_succ bs j
  have hpm : (((padL bs j).length : Nat) : Int).tmod 64 = (((padL bs j).length % 64 : Nat) : Int) := rfl
  have q3 : (padL bs j).length ≤ 140737488355328 := by omega
  have q4 : (padL bs j).length + 1 ≤ 140737488355328 := by omega
  try simp only [keepL, setAll, push_cast, simprocAttr, hb, lk_old hb, ha1, ha2, ha3, ha4, ha5, hz0, hk0, hw1, hvl, hvv, g0, g1, g2, g3, g4, g5, g6, g7, u8l_len, ul_len, u8lset, hf, Int.le_refl, Nat.le_refl]
  refine AW.seq_k fun K hK => ?_
  refine AW.seq_k fun K hK => ?_
  refine AW.region (by decide) ?_
  simp only [push_cast, simprocAttr, hb, lk_old hb, ha1, ha2, ha3, ha4, ha5, hz0, hk0, hw1, hvl, hvv, g0, g1, g2, g3, g4, g5, g6, g7, u8l_len, ul_len, u8lset, hf, Int.le_refl, Nat.le_refl]
  refine Thn_n ?_
  refine hK _ _ ?_
  clear hK K
  refine AW.cond rfl (fun h32 => ?_) (fun h32 => ?_)
  · have hlt : j < padz bs.length := by
      have h1 : (padL bs j).length % 64 ≠ 56 := fun e => by
        rw [hpm, e] at h32; exact absurd h32 (by decide)
      have : j ≠ padz bs.length := fun e => by subst e; exact h1 (by rw [hpl]; exact hpo)
      omega
    refine AW.skip ?_
    refine Thn_n ?_
    refine hK _ _ ?_
    clear hK K
    refine AW.block ?_
    refine AW.region (by decide) ?_
    simp only [push_cast, simprocAttr, hb, lk_old hb, ha1, ha2, ha3, ha4, ha5, hz0, hk0, hw1, hvl, hvv, g0, g1, g2, g3, g4, g5, g6, g7, u8l_len, ul_len, u8lset, hf, Int.le_refl, Nat.le_refl, hsn, q3, q4]
    refine InB_n ?_
    refine Thn_n ?_
    refine ⟨j + 1, hlt, by omega, ?_⟩
    try simp only [keepL, setAll, push_cast, simprocAttr, hb, lk_old hb, ha1, ha2, ha3, ha4, ha5, hz0, hk0, hw1, hvl, hvv, g0, g1, g2, g3, g4, g5, g6, g7, u8l_len, ul_len, u8lset, hf, Int.le_refl, Nat.le_refl, hsn, q3, q4, hpl2]
    exact Weak.to (extra := [_]) (by simp only [Keeps, Tm.get_cons, Nat.reduceEqDiff, ↓reduceIte, if_true, if_false, ite_true, ite_false, true_and, and_true, and_self, reduceCtorEq, hpl2]) (by first | rfl | (simp only [List.append_assoc, List.cons_append, List.nil_append]; rfl)) (by first | rfl | (simp [AV.below, CV.below, u8l_below, ul_below]; done) | (simp [AV.below, CV.below, u8l_below, ul_below]; omega)) (by
      first | exact hwf | refine MWf.app (hwf.grow (by simp)) ?_
      repeat (first | exact MWf_nil | (refine MWf_cons ?_ ?_; · first | rfl | (simp [CV.below, u8l_below, ul_below]; done) | (simp [CV.below, u8l_below, ul_below]; omega))))
  · have hje : j = padz bs.length := by
      refine padz_eq hi (Decidable.byContradiction fun h1 => ?_)
      rw [← hpl] at h1; rw [hpm] at h32
      simp at h32; omega
    subst hje
    have hr0 : refL bs 0 = padL bs (padz bs.length) := List.append_nil _
    refine AW.exit ?_
    refine Thn_e ?_
    clear hK K
    refine Thn_e ?_
    refine InB_here ?_
    refine Thn_n ?_
    refine hK _ _ ?_
    clear hK K
    refine AW.seq_k fun K hK => ?_
    refine AW.region (by decide) ?_
    simp only [push_cast, simprocAttr, hb, lk_old hb, ha1, ha2, ha3, ha4, ha5, hz0, hk0, hw1, hvl, hvv, g0, g1, g2, g3, g4, g5, g6, g7, u8l_len, ul_len, u8lset, hf, Int.le_refl, Nat.le_refl, q3]
    refine Thn_n ?_
    refine hK _ _ ?_
    clear hK K
    refine AW.seq_k fun K hK => ?_
    refine AW.seq_k fun K hK => ?_
    refine AW.region (by decide) ?_
    simp only [push_cast, simprocAttr, hb, lk_old hb, ha1, ha2, ha3, ha4, ha5, hz0, hk0, hw1, hvl, hvv, g0, g1, g2, g3, g4, g5, g6, g7, u8l_len, ul_len, u8lset, hf, Int.le_refl, Nat.le_refl, q3]
    refine Thn_n ?_
    refine hK _ _ ?_
    clear hK K
    refine AW.block ?_
    refine AW.loopK [2, 4, 6] (fun k => k ≤ (8 : Nat)) (fun k => [(5, .one (.sl (m.length + 2) (2 + (padz bs.length + k)) 0 (refL bs k).length)), (7, .one (.int .i64 (7 - (k : Int))))]) (fun k => [(m.length + 2, ⟨.grow, 5, 2 + (padz bs.length + k), 1, u8l (refL bs k)⟩)]) (fun k => 8 - k) 0 (by omega) ?_ ?_ fun k hi10 => ?_
    · first | rfl | (simp only [Keeps, Tm.get_cons, Nat.reduceEqDiff, ↓reduceIte, if_true, if_false, ite_true, ite_false, true_and, and_true, and_self, reduceCtorEq, hr0, Int.natCast_zero, Int.sub_zero] <;> rfl)
    · first | rfl | (simp only [setAll, push_cast, simprocAttr, hb, lk_old hb, ha1, ha2, ha3, ha4, ha5, hz0, hk0, hw1, hvl, hvv, g0, g1, g2, g3, g4, g5, g6, g7, u8l_len, ul_len, u8lset, hf, Int.le_refl, Nat.le_refl, q3, hr0, Int.natCast_zero, Int.sub_zero] <;> rfl)
    have hk8 : k ≤ 8 := hi10
    have hrl := refL_len bs k
    have hrl2 : (refL bs (k + 1)).length = (refL bs k).length + 1 := by rw [refL_len, refL_len]; omega
    have hsn := refL_succ bs k
    have hpz := padz_le bs.length
    have q5 : (refL bs k).length + 1 ≤ 140737488355328 := by omega
    try simp only [keepL, setAll, push_cast, simprocAttr, hb, lk_old hb, ha1, ha2, ha3, ha4, ha5, hz0, hk0, hw1, hvl, hvv, g0, g1, g2, g3, g4, g5, g6, g7, u8l_len, ul_len, u8lset, hf, Int.le_refl, Nat.le_refl, q3]
    refine AW.seq_k fun K hK => ?_
    refine AW.seq_k fun K hK => ?_
    refine AW.region (by decide) ?_
    simp only [push_cast, simprocAttr, hb, lk_old hb, ha1, ha2, ha3, ha4, ha5, hz0, hk0, hw1, hvl, hvv, g0, g1, g2, g3, g4, g5, g6, g7, u8l_len, ul_len, u8lset, hf, Int.le_refl, Nat.le_refl, q3]
    refine Thn_n ?_
    refine hK _ _ ?_
    clear hK K
    refine AW.cond rfl (fun h41 => ?_) (fun h41 => ?_)
    · have hltk : k < 8 := by have := of_decide_eq_true h41; omega
      have s1 : IntKind.u64.wrap (7 - (k : Int)) = ((7 - k : Nat) : Int) := by rw [IntKind.wrap_u64]; omega
      have s2 : IntKind.u64.wrap (8 * ((7 - k : Nat) : Int)) = ((8 * (7 - k) : Nat) : Int) := by rw [IntKind.wrap_u64]; omega
      have s3 : ¬ ((8 * (7 - k) : Nat) : Int) < 0 := by omega
      have s4 : ((8 * (7 - k) : Nat) : Int).toNat = 8 * (7 - k) := Int.toNat_natCast _
      have s5 : (2 : Int) ^ min (8 * (7 - k)) IntKind.u64.bits = 2 ^ (8 * (7 - k)) := by rw [show IntKind.u64.bits = 64 from rfl, Nat.min_eq_left (by omega)]
      have s6 : IntKind.u8.wrap ((IntKind.u64.wrap ((bs.length : Int) * 8)).fdiv (2 ^ (8 * (7 - k)))) = byK (IntKind.u64.wrap ((bs.length : Int) * 8)) k := rfl
      generalize hsh : 8 * (7 - k) = sh at s2 s3 s4 s5 s6
      generalize hsv : 7 - k = sv at s1 s2
      refine AW.skip ?_
      refine Thn_n ?_
      refine hK _ _ ?_
      clear hK K
      refine AW.seq_k fun K hK => ?_
      refine AW.block ?_
      refine AW.region (by decide) ?_
      simp only [push_cast, simprocAttr, hb, lk_old hb, ha1, ha2, ha3, ha4, ha5, hz0, hk0, hw1, hvl, hvv, g0, g1, g2, g3, g4, g5, g6, g7, u8l_len, ul_len, u8lset, hf, Int.le_refl, Nat.le_refl, q3, s1, s2, s3, s4, s5, s6, q5, hsn]
      refine InB_n ?_
      refine Thn_n ?_
      refine hK _ _ ?_
      clear hK K
      refine AW.region (by decide) ?_
      simp only [push_cast, simprocAttr, hb, lk_old hb, ha1, ha2, ha3, ha4, ha5, hz0, hk0, hw1, hvl, hvv, g0, g1, g2, g3, g4, g5, g6, g7, u8l_len, ul_len, u8lset, hf, Int.le_refl, Nat.le_refl, q3, s1, s2, s3, s4, s5, s6, q5, hsn]
      refine Thn_n ?_
      have hwk : IntKind.i64.wrap (7 - (k : Int) - 1) = 7 - ((k : Int) + 1) := by rw [IntKind.wrap_i64]; omega
      refine ⟨k + 1, hltk, by omega, ?_⟩
      try simp only [keepL, setAll, push_cast, simprocAttr, hb, lk_old hb, ha1, ha2, ha3, ha4, ha5, hz0, hk0, hw1, hvl, hvv, g0, g1, g2, g3, g4, g5, g6, g7, u8l_len, ul_len, u8lset, hf, Int.le_refl, Nat.le_refl, q3, s1, s2, s3, s4, s5, s6, q5, hsn, hwk, hrl2, hsn]
      exact Weak.to (extra := [_]) (by simp only [Keeps, Tm.get_cons, Nat.reduceEqDiff, ↓reduceIte, if_true, if_false, ite_true, ite_false, true_and, and_true, and_self, reduceCtorEq, hwk, hrl2, hsn]) (by first | rfl | (simp only [List.append_assoc, List.cons_append, List.nil_append]; rfl)) (by first | rfl | (simp [AV.below, CV.below, u8l_below, ul_below]; done) | (simp [AV.below, CV.below, u8l_below, ul_below]; omega)) (by
        first | exact hwf | refine MWf.app (hwf.grow (by simp)) ?_
        repeat (first | exact MWf_nil | (refine MWf_cons ?_ ?_; · first | rfl | (simp [CV.below, u8l_below, ul_below]; done) | (simp [CV.below, u8l_below, ul_below]; omega))))
    · have hke : k = 8 := by have := of_decide_eq_false h41; omega
      subst hke
      have hll := refL_len bs 8
      have hok := (refL_ok hu 8).by
      have hdiv : (refL bs 8).length % 64 = 0 := by omega
      refine AW.exit ?_
      refine Thn_e ?_
      clear hK K
      refine Thn_e ?_
      refine InB_here ?_
      refine Thn_n ?_
      refine hK _ _ ?_
      clear hK K
      refine AW.seq_k fun K hK => ?_
      refine AW.region (by decide) ?_
      simp only [push_cast, simprocAttr, hb, lk_old hb, ha1, ha2, ha3, ha4, ha5, hz0, hk0, hw1, hvl, hvv, g0, g1, g2, g3, g4, g5, g6, g7, u8l_len, ul_len, u8lset, hf, Int.le_refl, Nat.le_refl, q3]
      refine Thn_n ?_
      refine hK _ _ ?_
      clear hK K
      refine AW.seq_k fun K hK => ?_
      refine AW.seq_k fun K hK => ?_
      refine AW.region (by decide) ?_
      simp only [push_cast, simprocAttr, hb, lk_old hb, ha1, ha2, ha3, ha4, ha5, hz0, hk0, hw1, hvl, hvv, g0, g1, g2, g3, g4, g5, g6, g7, u8l_len, ul_len, u8lset, hf, Int.le_refl, Nat.le_refl, q3]
      refine Thn_n ?_
      refine hK _ _ ?_
      clear hK K
      refine AW.block ?_
      refine AW.loopK [2, 4, 5, 8] (fun j => 64 * j ≤ (refL bs 8).length) (fun j => [(9, .one (.int .i64 (64 * (j : Int))))]) (fun j => [(m.length + 4, ⟨.fix, 28, 0, 0, [.int .u32 ((compN IV (refL bs 8) j)).a, .int .u32 ((compN IV (refL bs 8) j)).b, .int .u32 ((compN IV (refL bs 8) j)).c, .int .u32 ((compN IV (refL bs 8) j)).d, .int .u32 ((compN IV (refL bs 8) j)).e, .int .u32 ((compN IV (refL bs 8) j)).f, .int .u32 ((compN IV (refL bs 8) j)).g, .int .u32 ((compN IV (refL bs 8) j)).h]⟩)]) (fun j => (refL bs 8).length - 64 * j) 0 (by omega) ?_ ?_ fun j hi17 => ?_
      · first | rfl | (simp only [Keeps, Tm.get_cons, Nat.reduceEqDiff, ↓reduceIte, if_true, if_false, ite_true, ite_false, true_and, and_true, and_self, reduceCtorEq, compN, IV, Int.natCast_zero, Int.mul_zero] <;> rfl)
      · first | rfl | (simp only [setAll, push_cast, simprocAttr, hb, lk_old hb, ha1, ha2, ha3, ha4, ha5, hz0, hk0, hw1, hvl, hvv, g0, g1, g2, g3, g4, g5, g6, g7, u8l_len, ul_len, u8lset, hf, Int.le_refl, Nat.le_refl, q3, compN, IV, Int.natCast_zero, Int.mul_zero] <;> rfl)
      try simp only [keepL, setAll, push_cast, simprocAttr, hb, lk_old hb, ha1, ha2, ha3, ha4, ha5, hz0, hk0, hw1, hvl, hvv, g0, g1, g2, g3, g4, g5, g6, g7, u8l_len, ul_len, u8lset, hf, Int.le_refl, Nat.le_refl, q3]
      refine AW.seq_k fun K hK => ?_
      refine AW.seq_k fun K hK => ?_
      refine AW.region (by decide) ?_
      simp only [push_cast, simprocAttr, hb, lk_old hb, ha1, ha2, ha3, ha4, ha5, hz0, hk0, hw1, hvl, hvv, g0, g1, g2, g3, g4, g5, g6, g7, u8l_len, ul_len, u8lset, hf, Int.le_refl, Nat.le_refl, q3]
      refine Thn_n ?_
      refine hK _ _ ?_
      clear hK K
      refine AW.cond rfl (fun h58 => ?_) (fun h58 => ?_)
      · have hj : 64 * j + 64 ≤ (refL bs 8).length := by have := of_decide_eq_true h58; omega
        have hSr := compN_r iv_r (refL bs 8) j
        have hll := refL_len bs 8
        have hpz := padz_le bs.length
        have hsz : ul (sch (refL bs 8) (64 * j) 0) = [.int .u32 0, .int .u32 0, .int .u32 0, .int .u32 0, .int .u32 0, .int .u32 0, .int .u32 0, .int .u32 0, .int .u32 0, .int .u32 0, .int .u32 0, .int .u32 0, .int .u32 0, .int .u32 0, .int .u32 0, .int .u32 0, .int .u32 0, .int .u32 0, .int .u32 0, .int .u32 0, .int .u32 0, .int .u32 0, .int .u32 0, .int .u32 0, .int .u32 0, .int .u32 0, .int .u32 0, .int .u32 0, .int .u32 0, .int .u32 0, .int .u32 0, .int .u32 0, .int .u32 0, .int .u32 0, .int .u32 0, .int .u32 0, .int .u32 0, .int .u32 0, .int .u32 0, .int .u32 0, .int .u32 0, .int .u32 0, .int .u32 0, .int .u32 0, .int .u32 0, .int .u32 0, .int .u32 0, .int .u32 0, .int .u32 0, .int .u32 0, .int .u32 0, .int .u32 0, .int .u32 0, .int .u32 0, .int .u32 0, .int .u32 0, .int .u32 0, .int .u32 0, .int .u32 0, .int .u32 0, .int .u32 0, .int .u32 0, .int .u32 0, .int .u32 0] := rfl
        refine AW.skip ?_
        refine Thn_n ?_
        refine hK _ _ ?_
        clear hK K
        refine AW.seq_k fun K hK => ?_
        refine AW.block ?_
        refine AW.seq_k fun K hK => ?_
        refine AW.region (by decide) ?_
        simp only [push_cast, simprocAttr, hb, lk_old hb, ha1, ha2, ha3, ha4, ha5, hz0, hk0, hw1, hvl, hvv, g0, g1, g2, g3, g4, g5, g6, g7, u8l_len, ul_len, u8lset, hf, Int.le_refl, Nat.le_refl, q3]
        refine Thn_n ?_
        refine hK _ _ ?_
        clear hK K
        refine AW.seq_k fun K hK => ?_
        refine AW.seq_k fun K hK => ?_
        refine AW.region (by decide) ?_
        simp only [push_cast, simprocAttr, hb, lk_old hb, ha1, ha2, ha3, ha4, ha5, hz0, hk0, hw1, hvl, hvv, g0, g1, g2, g3, g4, g5, g6, g7, u8l_len, ul_len, u8lset, hf, Int.le_refl, Nat.le_refl, q3]
        refine Thn_n ?_
        refine hK _ _ ?_
        clear hK K
        refine AW.block ?_
        refine AW.loopK [2, 4, 5, 8, 9, 10] (fun i => i ≤ (64 : Nat)) (fun i => [(11, .one (.int .i64 (i : Int)))]) (fun i => [(m.length + 5, ⟨.fix, 29, 0, 0, ul (sch (refL bs 8) (64 * j) i)⟩)]) (fun i => 64 - i) 0 (by omega) ?_ ?_ fun i hi24 => ?_
        · first | rfl | (simp only [Keeps, Tm.get_cons, Nat.reduceEqDiff, ↓reduceIte, if_true, if_false, ite_true, ite_false, true_and, and_true, and_self, reduceCtorEq, hsz, Int.natCast_zero] <;> rfl)
        · first | rfl | (simp only [setAll, push_cast, simprocAttr, hb, lk_old hb, ha1, ha2, ha3, ha4, ha5, hz0, hk0, hw1, hvl, hvv, g0, g1, g2, g3, g4, g5, g6, g7, u8l_len, ul_len, u8lset, hf, Int.le_refl, Nat.le_refl, q3, hsz, Int.natCast_zero] <;> rfl)
        have hi64 : i ≤ 64 := hi24
        try simp only [keepL, setAll, push_cast, simprocAttr, hb, lk_old hb, ha1, ha2, ha3, ha4, ha5, hz0, hk0, hw1, hvl, hvv, g0, g1, g2, g3, g4, g5, g6, g7, u8l_len, ul_len, u8lset, hf, Int.le_refl, Nat.le_refl, q3]
        refine AW.seq_k fun K hK => ?_
        refine AW.seq_k fun K hK => ?_
        refine AW.region (by decide) ?_
        simp only [push_cast, simprocAttr, hb, lk_old hb, ha1, ha2, ha3, ha4, ha5, hz0, hk0, hw1, hvl, hvv, g0, g1, g2, g3, g4, g5, g6, g7, u8l_len, ul_len, u8lset, hf, Int.le_refl, Nat.le_refl, q3]
        refine Thn_n ?_
        refine hK _ _ ?_
        clear hK K
        refine AW.cond rfl (fun h62 => ?_) (fun h62 => ?_)
        · have hlt64 : i < 64 := by have := of_decide_eq_true h62; omega
          have c3 : (0 : Int) ≤ (i : Int) := by omega
          have c4 : (i : Int) < 64 := by omega
          have c5 : i + 1 ≤ 64 := by omega
          have lS := sch_len (refL bs 8) (64 * j) i
          have p3 : (2 : Int) ^ min 3 IntKind.u32.bits = 8 := by decide
          have p10 : (2 : Int) ^ min 10 IntKind.u32.bits = 1024 := by decide
          refine AW.skip ?_
          refine Thn_n ?_
          refine hK _ _ ?_
          clear hK K
          refine AW.seq_k fun K hK => ?_
          refine AW.block ?_
          refine AW.seq_k fun K hK => ?_
          refine AW.seq_k fun K hK => ?_
          refine AW.region (by decide) ?_
          simp only [push_cast, simprocAttr, hb, lk_old hb, ha1, ha2, ha3, ha4, ha5, hz0, hk0, hw1, hvl, hvv, g0, g1, g2, g3, g4, g5, g6, g7, u8l_len, ul_len, u8lset, hf, Int.le_refl, Nat.le_refl, q3, c3, c4, c5, lS]
          refine Thn_n ?_
          refine hK _ _ ?_
          clear hK K
          refine AW.cond rfl (fun h66 => ?_) (fun h66 => ?_)
          · have hi16 : i < 16 := by have := of_decide_eq_true h66; omega
            have v0 : IntKind.i64.wrap (4 * (i : Int)) = 4 * (i : Int) := wi (by omega)
            have v1 : IntKind.i64.wrap (64 * (j : Int) + 4 * (i : Int)) = 64 * (j : Int) + 4 * (i : Int) := wi (by omega)
            have v2 : IntKind.i64.wrap (64 * (j : Int) + 4 * (i : Int) + 1) = 64 * (j : Int) + 4 * (i : Int) + 1 := wi (by omega)
            have v3 : IntKind.i64.wrap (64 * (j : Int) + 4 * (i : Int) + 2) = 64 * (j : Int) + 4 * (i : Int) + 2 := wi (by omega)
            have v4 : IntKind.i64.wrap (64 * (j : Int) + 4 * (i : Int) + 3) = 64 * (j : Int) + 4 * (i : Int) + 3 := wi (by omega)
            have d0 : (0 : Int) ≤ 64 * (j : Int) + 4 * (i : Int) := by omega
            have f0 : 64 * (j : Int) + 4 * (i : Int) < ((refL bs 8).length : Int) := by omega
            have z0 : (64 * (j : Int) + 4 * (i : Int)).toNat = 64 * j + 4 * i := by omega
            have d1 : (0 : Int) ≤ 64 * (j : Int) + 4 * (i : Int) + 1 := by omega
            have f1 : 64 * (j : Int) + 4 * (i : Int) + 1 < ((refL bs 8).length : Int) := by omega
            have z1 : (64 * (j : Int) + 4 * (i : Int) + 1).toNat = 64 * j + 4 * i + 1 := by omega
            have d2 : (0 : Int) ≤ 64 * (j : Int) + 4 * (i : Int) + 2 := by omega
            have f2 : 64 * (j : Int) + 4 * (i : Int) + 2 < ((refL bs 8).length : Int) := by omega
            have z2 : (64 * (j : Int) + 4 * (i : Int) + 2).toNat = 64 * j + 4 * i + 2 := by omega
            have d3 : (0 : Int) ≤ 64 * (j : Int) + 4 * (i : Int) + 3 := by omega
            have f3 : 64 * (j : Int) + 4 * (i : Int) + 3 < ((refL bs 8).length : Int) := by omega
            have z3 : (64 * (j : Int) + 4 * (i : Int) + 3).toNat = 64 * j + 4 * i + 3 := by omega
            have u0 := hok (64 * j + 4 * i)
            have y0 : IntKind.u32.wrap (byB (refL bs 8) (64 * j + 4 * i)) = byB (refL bs 8) (64 * j + 4 * i) := by rw [w32]; omega
            have b0 := u8l_get (bs := refL bs 8) (i := 64 * j + 4 * i) (by omega)
            have u1 := hok (64 * j + 4 * i + 1)
            have y1 : IntKind.u32.wrap (byB (refL bs 8) (64 * j + 4 * i + 1)) = byB (refL bs 8) (64 * j + 4 * i + 1) := by rw [w32]; omega
            have b1 := u8l_get (bs := refL bs 8) (i := 64 * j + 4 * i + 1) (by omega)
            have u2 := hok (64 * j + 4 * i + 2)
            have y2 : IntKind.u32.wrap (byB (refL bs 8) (64 * j + 4 * i + 2)) = byB (refL bs 8) (64 * j + 4 * i + 2) := by rw [w32]; omega
            have b2 := u8l_get (bs := refL bs 8) (i := 64 * j + 4 * i + 2) (by omega)
            have u3 := hok (64 * j + 4 * i + 3)
            have y3 : IntKind.u32.wrap (byB (refL bs 8) (64 * j + 4 * i + 3)) = byB (refL bs 8) (64 * j + 4 * i + 3) := by rw [w32]; omega
            have b3 := u8l_get (bs := refL bs 8) (i := 64 * j + 4 * i + 3) (by omega)
            have t0 : IntKind.u32.wrap (byB (refL bs 8) (64 * j + 4 * i) * 16777216) = byB (refL bs 8) (64 * j + 4 * i) * 16777216 := by rw [w32]; omega
            have t1 : IntKind.u32.wrap (byB (refL bs 8) (64 * j + 4 * i + 1) * 65536) = byB (refL bs 8) (64 * j + 4 * i + 1) * 65536 := by rw [w32]; omega
            have t2 : IntKind.u32.wrap (byB (refL bs 8) (64 * j + 4 * i + 2) * 256) = byB (refL bs 8) (64 * j + 4 * i + 2) * 256 := by rw [w32]; omega
            have t3 : IntKind.u32.wrap (byB (refL bs 8) (64 * j + 4 * i) * 16777216 + byB (refL bs 8) (64 * j + 4 * i + 1) * 65536) = byB (refL bs 8) (64 * j + 4 * i) * 16777216 + byB (refL bs 8) (64 * j + 4 * i + 1) * 65536 := by rw [w32]; omega
            have t4 : IntKind.u32.wrap (byB (refL bs 8) (64 * j + 4 * i) * 16777216 + byB (refL bs 8) (64 * j + 4 * i + 1) * 65536 + byB (refL bs 8) (64 * j + 4 * i + 2) * 256) = byB (refL bs 8) (64 * j + 4 * i) * 16777216 + byB (refL bs 8) (64 * j + 4 * i + 1) * 65536 + byB (refL bs 8) (64 * j + 4 * i + 2) * 256 := by rw [w32]; omega
            have t5 : IntKind.u32.wrap (byB (refL bs 8) (64 * j + 4 * i) * 16777216 + byB (refL bs 8) (64 * j + 4 * i + 1) * 65536 + byB (refL bs 8) (64 * j + 4 * i + 2) * 256 + byB (refL bs 8) (64 * j + 4 * i + 3)) = wordV (refL bs 8) (64 * j + 4 * i) := by rw [w32]; unfold wordV; omega
            have snx : (ul (sch (refL bs 8) (64 * j) i)).set i (.int .u32 (wordV (refL bs 8) (64 * j + 4 * i))) = ul (sch (refL bs 8) (64 * j) (i + 1)) := by rw [ul_set]; simp only [sch, if_pos hi16]
            simp only [Nat.add_assoc] at z0 y0 b0 z1 y1 b1 z2 y2 b2 z3 y3 b3 t0 t1 t2 t3 t4 t5 snx
            refine AW.seq_k fun K hK => ?_
            refine AW.draw [.val, .val, .val, .val, .val, .val, .val, .rd 0, .val, .val, .val, .val, .val, .val, .val, .val, .val, .rd 0, .val, .val, .val, .val, .val, .val, .val, .val, .val, .val, .rd 0, .val, .val, .val, .val, .val, .val, .val, .val, .val, .val, .rd 0, .val, .val, .val, .wr] fol (by decide) (by kernel_rfl) ?_
            simp only [push_cast, simprocAttr, hb, lk_old hb, ha1, ha2, ha3, ha4, ha5, hz0, hk0, hw1, hvl, hvv, g0, g1, g2, g3, g4, g5, g6, g7, u8l_len, ul_len, u8lset, hf, Int.le_refl, Nat.le_refl, q3, c3, c4, c5, lS, v0, v1, v2, v3, v4, d0, f0, z0, y0, b0, d1, f1, z1, y1, b1, d2, f2, z2, y2, b2, d3, f3, z3, y3, b3, t0, t1, t2, t3, t4, t5, snx]
            refine Thn_n ?_
            refine hK _ _ ?_
            clear hK K
            refine AW.exit ?_
            refine Thn_e ?_
            clear hK K
            refine InB_here ?_
            refine Thn_n ?_
            refine hK _ _ ?_
            clear hK K
            refine AW.region (by decide) ?_
            simp only [push_cast, simprocAttr, hb, lk_old hb, ha1, ha2, ha3, ha4, ha5, hz0, hk0, hw1, hvl, hvv, g0, g1, g2, g3, g4, g5, g6, g7, u8l_len, ul_len, u8lset, hf, Int.le_refl, Nat.le_refl, q3, c3, c4, c5, lS, v0, v1, v2, v3, v4, d0, f0, z0, y0, b0, d1, f1, z1, y1, b1, d2, f2, z2, y2, b2, d3, f3, z3, y3, b3, t0, t1, t2, t3, t4, t5, snx]
            refine Thn_n ?_
            have hwi : IntKind.i64.wrap ((i:Int)+1) = (i:Int)+1 := wi (by omega)
            refine ⟨i + 1, hlt64, by omega, ?_⟩
            try simp only [keepL, setAll, push_cast, simprocAttr, hb, lk_old hb, ha1, ha2, ha3, ha4, ha5, hz0, hk0, hw1, hvl, hvv, g0, g1, g2, g3, g4, g5, g6, g7, u8l_len, ul_len, u8lset, hf, Int.le_refl, Nat.le_refl, q3, c3, c4, c5, lS, v0, v1, v2, v3, v4, d0, f0, z0, y0, b0, d1, f1, z1, y1, b1, d2, f2, z2, y2, b2, d3, f3, z3, y3, b3, t0, t1, t2, t3, t4, t5, snx, hwi, snx]
            exact Weak.same (by simp only [Keeps, Tm.get_cons, Nat.reduceEqDiff, ↓reduceIte, if_true, if_false, ite_true, ite_false, true_and, and_true, and_self, reduceCtorEq, hwi, snx]) (by first | rfl | simp only [Keeps, Tm.get_cons, Nat.reduceEqDiff, ↓reduceIte, if_true, if_false, ite_true, ite_false, true_and, and_true, and_self, reduceCtorEq, hwi, snx])
          · have hi16 : 16 ≤ i := by have := of_decide_eq_false h66; omega
            have g15 := ul_get (xs := sch (refL bs 8) (64 * j) i) (i := i - 15) (by rw [sch_len]; omega)
            have v15 : IntKind.i64.wrap ((i : Int) - 15) = (i : Int) - 15 := wi (by omega)
            have d15 : (0 : Int) ≤ (i : Int) - 15 := by omega
            have f15 : (i : Int) - 15 < 64 := by omega
            have z15 : ((i : Int) - 15).toNat = i - 15 := by omega
            have g2 := ul_get (xs := sch (refL bs 8) (64 * j) i) (i := i - 2) (by rw [sch_len]; omega)
            have v2 : IntKind.i64.wrap ((i : Int) - 2) = (i : Int) - 2 := wi (by omega)
            have d2 : (0 : Int) ≤ (i : Int) - 2 := by omega
            have f2 : (i : Int) - 2 < 64 := by omega
            have z2 : ((i : Int) - 2).toNat = i - 2 := by omega
            have g16 := ul_get (xs := sch (refL bs 8) (64 * j) i) (i := i - 16) (by rw [sch_len]; omega)
            have v16 : IntKind.i64.wrap ((i : Int) - 16) = (i : Int) - 16 := wi (by omega)
            have d16 : (0 : Int) ≤ (i : Int) - 16 := by omega
            have f16 : (i : Int) - 16 < 64 := by omega
            have z16 : ((i : Int) - 16).toNat = i - 16 := by omega
            have g7 := ul_get (xs := sch (refL bs 8) (64 * j) i) (i := i - 7) (by rw [sch_len]; omega)
            have v7 : IntKind.i64.wrap ((i : Int) - 7) = (i : Int) - 7 := wi (by omega)
            have d7 : (0 : Int) ≤ (i : Int) - 7 := by omega
            have f7 : (i : Int) - 7 < 64 := by omega
            have z7 : ((i : Int) - 7).toNat = i - 7 := by omega
            have snx : ((ul (sch (refL bs 8) (64 * j) i)).set i (.int .u32 (mixF (sch (refL bs 8) (64 * j) i) i))) = ul (sch (refL bs 8) (64 * j) (i + 1)) := by rw [ul_set]; simp only [sch]; rw [if_neg (by omega)]
            simp only [mixF, a32, s0, s1] at snx
            refine AW.skip ?_
            refine Thn_n ?_
            refine hK _ _ ?_
            clear hK K
            refine AW.seq_k fun K hK => ?_
            refine AW.draw [.val, .val, .val, .rd 0, .ext, .val, .val, .val, .rd 0, .ext, .val, .val, .val, .val, .rd 0, .val, .val, .val] fol (by decide) (by kernel_rfl) ?_
            simp only [push_cast, simprocAttr, hb, lk_old hb, ha1, ha2, ha3, ha4, ha5, hz0, hk0, hw1, hvl, hvv, g0, g1, g2, g3, g4, g5, g6, g7, u8l_len, ul_len, u8lset, hf, Int.le_refl, Nat.le_refl, q3, c3, c4, c5, lS, g15, v15, d15, f15, z15, g2, v2, d2, f2, z2, g16, v16, d16, f16, z16, g7, v7, d7, f7, z7, p3, p10, snx]
            refine DCall.by0 (turn_c _ 7 _ (by decide)) ?_
            simp only [push_cast, simprocAttr, hb, lk_old hb, ha1, ha2, ha3, ha4, ha5, hz0, hk0, hw1, hvl, hvv, g0, g1, g2, g3, g4, g5, g6, g7, u8l_len, ul_len, u8lset, hf, Int.le_refl, Nat.le_refl, q3, c3, c4, c5, lS, g15, v15, d15, f15, z15, g2, v2, d2, f2, z2, g16, v16, d16, f16, z16, g7, v7, d7, f7, z7, p3, p10, snx]
            refine DCall.by0 (turn_c _ 18 _ (by decide)) ?_
            simp only [push_cast, simprocAttr, hb, lk_old hb, ha1, ha2, ha3, ha4, ha5, hz0, hk0, hw1, hvl, hvv, g0, g1, g2, g3, g4, g5, g6, g7, u8l_len, ul_len, u8lset, hf, Int.le_refl, Nat.le_refl, q3, c3, c4, c5, lS, g15, v15, d15, f15, z15, g2, v2, d2, f2, z2, g16, v16, d16, f16, z16, g7, v7, d7, f7, z7, p3, p10, snx]
            refine Thn_n ?_
            refine hK _ _ ?_
            clear hK K
            refine AW.seq_k fun K hK => ?_
            refine AW.draw [.val, .val, .val, .rd 0, .ext, .val, .val, .val, .rd 0, .ext, .val, .val, .val, .val, .rd 0, .val, .val, .val] fol (by decide) (by kernel_rfl) ?_
            simp only [push_cast, simprocAttr, hb, lk_old hb, ha1, ha2, ha3, ha4, ha5, hz0, hk0, hw1, hvl, hvv, g0, g1, g2, g3, g4, g5, g6, g7, u8l_len, ul_len, u8lset, hf, Int.le_refl, Nat.le_refl, q3, c3, c4, c5, lS, g15, v15, d15, f15, z15, g2, v2, d2, f2, z2, g16, v16, d16, f16, z16, g7, v7, d7, f7, z7, p3, p10, snx]
            refine DCall.by0 (turn_c _ 17 _ (by decide)) ?_
            simp only [push_cast, simprocAttr, hb, lk_old hb, ha1, ha2, ha3, ha4, ha5, hz0, hk0, hw1, hvl, hvv, g0, g1, g2, g3, g4, g5, g6, g7, u8l_len, ul_len, u8lset, hf, Int.le_refl, Nat.le_refl, q3, c3, c4, c5, lS, g15, v15, d15, f15, z15, g2, v2, d2, f2, z2, g16, v16, d16, f16, z16, g7, v7, d7, f7, z7, p3, p10, snx]
            refine DCall.by0 (turn_c _ 19 _ (by decide)) ?_
            simp only [push_cast, simprocAttr, hb, lk_old hb, ha1, ha2, ha3, ha4, ha5, hz0, hk0, hw1, hvl, hvv, g0, g1, g2, g3, g4, g5, g6, g7, u8l_len, ul_len, u8lset, hf, Int.le_refl, Nat.le_refl, q3, c3, c4, c5, lS, g15, v15, d15, f15, z15, g2, v2, d2, f2, z2, g16, v16, d16, f16, z16, g7, v7, d7, f7, z7, p3, p10, snx]
            refine Thn_n ?_
            refine hK _ _ ?_
            clear hK K
            refine AW.draw [.val, .val, .val, .val, .rd 0, .val, .val, .val, .val, .val, .rd 0, .val, .val, .val, .val, .wr] fol (by decide) (by kernel_rfl) ?_
            simp only [push_cast, simprocAttr, hb, lk_old hb, ha1, ha2, ha3, ha4, ha5, hz0, hk0, hw1, hvl, hvv, g0, g1, g2, g3, g4, g5, g6, g7, u8l_len, ul_len, u8lset, hf, Int.le_refl, Nat.le_refl, q3, c3, c4, c5, lS, g15, v15, d15, f15, z15, g2, v2, d2, f2, z2, g16, v16, d16, f16, z16, g7, v7, d7, f7, z7, p3, p10, snx]
            refine InB_n ?_
            refine Thn_n ?_
            refine hK _ _ ?_
            clear hK K
            refine AW.region (by decide) ?_
            simp only [push_cast, simprocAttr, hb, lk_old hb, ha1, ha2, ha3, ha4, ha5, hz0, hk0, hw1, hvl, hvv, g0, g1, g2, g3, g4, g5, g6, g7, u8l_len, ul_len, u8lset, hf, Int.le_refl, Nat.le_refl, q3, c3, c4, c5, lS, g15, v15, d15, f15, z15, g2, v2, d2, f2, z2, g16, v16, d16, f16, z16, g7, v7, d7, f7, z7, p3, p10, snx]
            refine Thn_n ?_
            have hwi : IntKind.i64.wrap ((i:Int)+1) = (i:Int)+1 := wi (by omega)
            refine ⟨i + 1, hlt64, by omega, ?_⟩
            try simp only [keepL, setAll, push_cast, simprocAttr, hb, lk_old hb, ha1, ha2, ha3, ha4, ha5, hz0, hk0, hw1, hvl, hvv, g0, g1, g2, g3, g4, g5, g6, g7, u8l_len, ul_len, u8lset, hf, Int.le_refl, Nat.le_refl, q3, c3, c4, c5, lS, g15, v15, d15, f15, z15, g2, v2, d2, f2, z2, g16, v16, d16, f16, z16, g7, v7, d7, f7, z7, p3, p10, snx, hwi, snx]
            exact Weak.same (by simp only [Keeps, Tm.get_cons, Nat.reduceEqDiff, ↓reduceIte, if_true, if_false, ite_true, ite_false, true_and, and_true, and_self, reduceCtorEq, hwi, snx]) (by first | rfl | simp only [Keeps, Tm.get_cons, Nat.reduceEqDiff, ↓reduceIte, if_true, if_false, ite_true, ite_false, true_and, and_true, and_self, reduceCtorEq, hwi, snx])
        · have hie : i = 64 := by have := of_decide_eq_false h62; omega
          subst hie
          refine AW.exit ?_
          refine Thn_e ?_
          clear hK K
          refine Thn_e ?_
          refine InB_here ?_
          refine Thn_n ?_
          refine hK _ _ ?_
          clear hK K
          refine AW.seq_k fun K hK => ?_
          refine AW.region (by decide) ?_
          simp only [push_cast, simprocAttr, hb, lk_old hb, ha1, ha2, ha3, ha4, ha5, hz0, hk0, hw1, hvl, hvv, g0, g1, g2, g3, g4, g5, g6, g7, u8l_len, ul_len, u8lset, hf, Int.le_refl, Nat.le_refl, q3]
          refine Thn_n ?_
          refine hK _ _ ?_
          clear hK K
          refine AW.seq_k fun K hK => ?_
          refine AW.seq_k fun K hK => ?_
          refine AW.region (by decide) ?_
          simp only [push_cast, simprocAttr, hb, lk_old hb, ha1, ha2, ha3, ha4, ha5, hz0, hk0, hw1, hvl, hvv, g0, g1, g2, g3, g4, g5, g6, g7, u8l_len, ul_len, u8lset, hf, Int.le_refl, Nat.le_refl, q3]
          refine Thn_n ?_
          refine hK _ _ ?_
          clear hK K
          refine AW.block ?_
          refine AW.loopK [2, 4, 5, 8, 9, 10, 14] (fun k => k ≤ (64 : Nat)) (fun k => [(15, .one (.int .i64 (k : Int)))]) (fun k => [(m.length + 6, ⟨.fix, 28, 0, 0, [.int .u32 ((rd KW (sch (refL bs 8) (64 * j) 64) (compN IV (refL bs 8) j) k)).a, .int .u32 ((rd KW (sch (refL bs 8) (64 * j) 64) (compN IV (refL bs 8) j) k)).b, .int .u32 ((rd KW (sch (refL bs 8) (64 * j) 64) (compN IV (refL bs 8) j) k)).c, .int .u32 ((rd KW (sch (refL bs 8) (64 * j) 64) (compN IV (refL bs 8) j) k)).d, .int .u32 ((rd KW (sch (refL bs 8) (64 * j) 64) (compN IV (refL bs 8) j) k)).e, .int .u32 ((rd KW (sch (refL bs 8) (64 * j) 64) (compN IV (refL bs 8) j) k)).f, .int .u32 ((rd KW (sch (refL bs 8) (64 * j) 64) (compN IV (refL bs 8) j) k)).g, .int .u32 ((rd KW (sch (refL bs 8) (64 * j) 64) (compN IV (refL bs 8) j) k)).h]⟩)]) (fun k => 64 - k) 0 (by omega) ?_ ?_ fun k hi36 => ?_
          · first | rfl | (simp only [Keeps, Tm.get_cons, Nat.reduceEqDiff, ↓reduceIte, if_true, if_false, ite_true, ite_false, true_and, and_true, and_self, reduceCtorEq, rd, Int.natCast_zero] <;> rfl)
          · first | rfl | (simp only [setAll, push_cast, simprocAttr, hb, lk_old hb, ha1, ha2, ha3, ha4, ha5, hz0, hk0, hw1, hvl, hvv, g0, g1, g2, g3, g4, g5, g6, g7, u8l_len, ul_len, u8lset, hf, Int.le_refl, Nat.le_refl, q3, rd, Int.natCast_zero] <;> rfl)
          have hk64 : k ≤ 64 := hi36
          try simp only [keepL, setAll, push_cast, simprocAttr, hb, lk_old hb, ha1, ha2, ha3, ha4, ha5, hz0, hk0, hw1, hvl, hvv, g0, g1, g2, g3, g4, g5, g6, g7, u8l_len, ul_len, u8lset, hf, Int.le_refl, Nat.le_refl, q3]
          refine AW.seq_k fun K hK => ?_
          refine AW.seq_k fun K hK => ?_
          refine AW.region (by decide) ?_
          simp only [push_cast, simprocAttr, hb, lk_old hb, ha1, ha2, ha3, ha4, ha5, hz0, hk0, hw1, hvl, hvv, g0, g1, g2, g3, g4, g5, g6, g7, u8l_len, ul_len, u8lset, hf, Int.le_refl, Nat.le_refl, q3]
          refine Thn_n ?_
          refine hK _ _ ?_
          clear hK K
          refine AW.cond rfl (fun h161 => ?_) (fun h161 => ?_)
          · have hlt64 : k < 64 := by have := of_decide_eq_true h161; omega
            have c3 : (0 : Int) ≤ (k : Int) := by omega
            have c4 : (k : Int) < 64 := by omega
            have gk : (ul (HLL ++ KW))[8 + k]? = some (.int .u32 (KW.getD k 0)) := by
              have h1 := ul_get (xs := HLL ++ KW) (i := 8 + k) (by show 8 + k < 72; omega)
              rw [h1]; congr 2
              rw [List.getD_eq_getElem?_getD, List.getElem?_append_right (by show 8 ≤ 8 + k; omega), List.getD_eq_getElem?_getD]
              congr 2
              show 8 + k - 8 = k
              omega
            have gw := ul_get (xs := sch (refL bs 8) (64 * j) 64) (i := k) (by rw [sch_len]; omega)
            have hr8 := rd_r (K := KW) (W := sch (refL bs 8) (64 * j) 64) hSr k
            have hxm := xor_max hr8.2.2.2.2.1
            have hxw : IntKind.u32.wrap (4294967295 - ((rd KW (sch (refL bs 8) (64 * j) 64) (compN IV (refL bs 8) j) k)).e) = bits .xor .u32 4294967295 ((rd KW (sch (refL bs 8) (64 * j) 64) (compN IV (refL bs 8) j) k)).e := by
              rw [hxm, w32]; have h1 := hr8.2.2.2.2.1.1; have h2 := hr8.2.2.2.2.1.2; omega
            refine AW.skip ?_
            refine Thn_n ?_
            refine hK _ _ ?_
            clear hK K
            refine AW.seq_k fun K hK => ?_
            refine AW.block ?_
            refine AW.seq_k fun K hK => ?_
            refine AW.draw [.val, .rd 0, .ext, .val, .rd 0, .ext, .val, .val, .rd 0, .ext, .val, .val] fol (by decide) (by kernel_rfl) ?_
            simp only [push_cast, simprocAttr, hb, lk_old hb, ha1, ha2, ha3, ha4, ha5, hz0, hk0, hw1, hvl, hvv, g0, g1, g2, g3, g4, g5, g6, g7, u8l_len, ul_len, u8lset, hf, Int.le_refl, Nat.le_refl, q3, c3, c4, gk, gw, hxw]
            refine DCall.by0 (turn_c _ 6 _ (by decide)) ?_
            simp only [push_cast, simprocAttr, hb, lk_old hb, ha1, ha2, ha3, ha4, ha5, hz0, hk0, hw1, hvl, hvv, g0, g1, g2, g3, g4, g5, g6, g7, u8l_len, ul_len, u8lset, hf, Int.le_refl, Nat.le_refl, q3, c3, c4, gk, gw, hxw]
            refine DCall.by0 (turn_c _ 11 _ (by decide)) ?_
            simp only [push_cast, simprocAttr, hb, lk_old hb, ha1, ha2, ha3, ha4, ha5, hz0, hk0, hw1, hvl, hvv, g0, g1, g2, g3, g4, g5, g6, g7, u8l_len, ul_len, u8lset, hf, Int.le_refl, Nat.le_refl, q3, c3, c4, gk, gw, hxw]
            refine DCall.by0 (turn_c _ 25 _ (by decide)) ?_
            simp only [push_cast, simprocAttr, hb, lk_old hb, ha1, ha2, ha3, ha4, ha5, hz0, hk0, hw1, hvl, hvv, g0, g1, g2, g3, g4, g5, g6, g7, u8l_len, ul_len, u8lset, hf, Int.le_refl, Nat.le_refl, q3, c3, c4, gk, gw, hxw]
            refine Thn_n ?_
            refine hK _ _ ?_
            clear hK K
            refine AW.seq_k fun K hK => ?_
            refine AW.region (by decide) ?_
            simp only [push_cast, simprocAttr, hb, lk_old hb, ha1, ha2, ha3, ha4, ha5, hz0, hk0, hw1, hvl, hvv, g0, g1, g2, g3, g4, g5, g6, g7, u8l_len, ul_len, u8lset, hf, Int.le_refl, Nat.le_refl, q3, c3, c4, gk, gw, hxw]
            refine Thn_n ?_
            refine hK _ _ ?_
            clear hK K
            refine AW.seq_k fun K hK => ?_
            refine AW.draw [.val, .rd 0, .val, .val, .val, .val, .val, .val, .val, .rd 0, .val, .val, .val, .rd 0, .val, .val] fol (by decide) (by kernel_rfl) ?_
            simp only [push_cast, simprocAttr, hb, lk_old hb, ha1, ha2, ha3, ha4, ha5, hz0, hk0, hw1, hvl, hvv, g0, g1, g2, g3, g4, g5, g6, g7, u8l_len, ul_len, u8lset, hf, Int.le_refl, Nat.le_refl, q3, c3, c4, gk, gw, hxw]
            refine Thn_n ?_
            refine hK _ _ ?_
            clear hK K
            refine AW.seq_k fun K hK => ?_
            refine AW.draw [.val, .rd 0, .ext, .val, .rd 0, .ext, .val, .val, .rd 0, .ext, .val, .val] fol (by decide) (by kernel_rfl) ?_
            simp only [push_cast, simprocAttr, hb, lk_old hb, ha1, ha2, ha3, ha4, ha5, hz0, hk0, hw1, hvl, hvv, g0, g1, g2, g3, g4, g5, g6, g7, u8l_len, ul_len, u8lset, hf, Int.le_refl, Nat.le_refl, q3, c3, c4, gk, gw, hxw]
            refine DCall.by0 (turn_c _ 2 _ (by decide)) ?_
            simp only [push_cast, simprocAttr, hb, lk_old hb, ha1, ha2, ha3, ha4, ha5, hz0, hk0, hw1, hvl, hvv, g0, g1, g2, g3, g4, g5, g6, g7, u8l_len, ul_len, u8lset, hf, Int.le_refl, Nat.le_refl, q3, c3, c4, gk, gw, hxw]
            refine DCall.by0 (turn_c _ 13 _ (by decide)) ?_
            simp only [push_cast, simprocAttr, hb, lk_old hb, ha1, ha2, ha3, ha4, ha5, hz0, hk0, hw1, hvl, hvv, g0, g1, g2, g3, g4, g5, g6, g7, u8l_len, ul_len, u8lset, hf, Int.le_refl, Nat.le_refl, q3, c3, c4, gk, gw, hxw]
            refine DCall.by0 (turn_c _ 22 _ (by decide)) ?_
            simp only [push_cast, simprocAttr, hb, lk_old hb, ha1, ha2, ha3, ha4, ha5, hz0, hk0, hw1, hvl, hvv, g0, g1, g2, g3, g4, g5, g6, g7, u8l_len, ul_len, u8lset, hf, Int.le_refl, Nat.le_refl, q3, c3, c4, gk, gw, hxw]
            refine Thn_n ?_
            refine hK _ _ ?_
            clear hK K
            refine AW.seq_k fun K hK => ?_
            refine AW.region (by decide) ?_
            simp only [push_cast, simprocAttr, hb, lk_old hb, ha1, ha2, ha3, ha4, ha5, hz0, hk0, hw1, hvl, hvv, g0, g1, g2, g3, g4, g5, g6, g7, u8l_len, ul_len, u8lset, hf, Int.le_refl, Nat.le_refl, q3, c3, c4, gk, gw, hxw]
            refine Thn_n ?_
            refine hK _ _ ?_
            clear hK K
            refine AW.region (by decide) ?_
            simp only [push_cast, simprocAttr, hb, lk_old hb, ha1, ha2, ha3, ha4, ha5, hz0, hk0, hw1, hvl, hvv, g0, g1, g2, g3, g4, g5, g6, g7, u8l_len, ul_len, u8lset, hf, Int.le_refl, Nat.le_refl, q3, c3, c4, gk, gw, hxw]
            refine InB_n ?_
            refine Thn_n ?_
            refine hK _ _ ?_
            clear hK K
            refine AW.region (by decide) ?_
            simp only [push_cast, simprocAttr, hb, lk_old hb, ha1, ha2, ha3, ha4, ha5, hz0, hk0, hw1, hvl, hvv, g0, g1, g2, g3, g4, g5, g6, g7, u8l_len, ul_len, u8lset, hf, Int.le_refl, Nat.le_refl, q3, c3, c4, gk, gw, hxw]
            refine Thn_n ?_
            have hwi : IntKind.i64.wrap ((k:Int)+1) = (k:Int)+1 := wi (by omega)
            refine ⟨k + 1, hlt64, by omega, ?_⟩
            try simp only [keepL, setAll, push_cast, simprocAttr, hb, lk_old hb, ha1, ha2, ha3, ha4, ha5, hz0, hk0, hw1, hvl, hvv, g0, g1, g2, g3, g4, g5, g6, g7, u8l_len, ul_len, u8lset, hf, Int.le_refl, Nat.le_refl, q3, c3, c4, gk, gw, hxw, hwi, rd, rdF, t1F, a32, S0, S1, chF, maF, a32_assoc]
            exact Weak.same (by simp only [Keeps, Tm.get_cons, Nat.reduceEqDiff, ↓reduceIte, if_true, if_false, ite_true, ite_false, true_and, and_true, and_self, reduceCtorEq, hwi, rd, rdF, t1F, a32, S0, S1, chF, maF, a32_assoc]) (by first | rfl | simp only [Keeps, Tm.get_cons, Nat.reduceEqDiff, ↓reduceIte, if_true, if_false, ite_true, ite_false, true_and, and_true, and_self, reduceCtorEq, hwi, rd, rdF, t1F, a32, S0, S1, chF, maF, a32_assoc])
          · have hke : k = 64 := by have := of_decide_eq_false h161; omega
            subst hke
            refine AW.exit ?_
            refine Thn_e ?_
            clear hK K
            refine Thn_e ?_
            refine InB_here ?_
            refine Thn_n ?_
            refine hK _ _ ?_
            clear hK K
            refine AW.seq_k fun K hK => ?_
            refine AW.region (by decide) ?_
            simp only [push_cast, simprocAttr, hb, lk_old hb, ha1, ha2, ha3, ha4, ha5, hz0, hk0, hw1, hvl, hvv, g0, g1, g2, g3, g4, g5, g6, g7, u8l_len, ul_len, u8lset, hf, Int.le_refl, Nat.le_refl, q3]
            refine Thn_n ?_
            refine hK _ _ ?_
            clear hK K
            refine AW.block ?_
            refine AW.rounds 9 ?_
            iterate 8
              refine ARounds.succ fun K hK => ?_
              refine AW.seq_k fun K hK => ?_
              refine AW.seq_k fun K hK => ?_
              refine AW.region (by decide) ?_
              simp only [push_cast, simprocAttr, hb, lk_old hb, ha1, ha2, ha3, ha4, ha5, hz0, hk0, hw1, hvl, hvv, g0, g1, g2, g3, g4, g5, g6, g7, u8l_len, ul_len, u8lset, hf, Int.le_refl, Nat.le_refl, q3]
              refine Thn_n ?_
              refine hK _ _ ?_
              clear hK K
              refine AW.cond_t rfl ?_
              refine AW.skip ?_
              refine Thn_n ?_
              refine hK _ _ ?_
              clear hK K
              refine AW.seq_k fun K hK => ?_
              refine AW.block ?_
              refine AW.draw [.val, .val, .val, .rd 0, .val, .val, .rd 0, .val, .val, .wr] fol (by decide) (by kernel_rfl) ?_
              simp only [push_cast, simprocAttr, hb, lk_old hb, ha1, ha2, ha3, ha4, ha5, hz0, hk0, hw1, hvl, hvv, g0, g1, g2, g3, g4, g5, g6, g7, u8l_len, ul_len, u8lset, hf, Int.le_refl, Nat.le_refl, q3]
              refine InB_n ?_
              refine Thn_n ?_
              refine hK _ _ ?_
              clear hK K
              refine AW.region (by decide) ?_
              simp only [push_cast, simprocAttr, hb, lk_old hb, ha1, ha2, ha3, ha4, ha5, hz0, hk0, hw1, hvl, hvv, g0, g1, g2, g3, g4, g5, g6, g7, u8l_len, ul_len, u8lset, hf, Int.le_refl, Nat.le_refl, q3]
              refine Thn_n ?_
              refine hK _ _ ?_
              clear hK K
            refine ARounds.succ fun K hK => ?_
            refine AW.seq_k fun K hK => ?_
            refine AW.seq_k fun K hK => ?_
            refine AW.region (by decide) ?_
            simp only [push_cast, simprocAttr, hb, lk_old hb, ha1, ha2, ha3, ha4, ha5, hz0, hk0, hw1, hvl, hvv, g0, g1, g2, g3, g4, g5, g6, g7, u8l_len, ul_len, u8lset, hf, Int.le_refl, Nat.le_refl, q3]
            refine Thn_n ?_
            refine hK _ _ ?_
            clear hK K
            refine AW.cond_f rfl ?_
            refine AW.exit ?_
            refine Thn_e ?_
            clear hK K
            refine Thn_e ?_
            clear hK K
            refine InB_here ?_
            refine InB_n ?_
            refine Thn_n ?_
            refine hK _ _ ?_
            clear hK K
            refine AW.region (by decide) ?_
            simp only [push_cast, simprocAttr, hb, lk_old hb, ha1, ha2, ha3, ha4, ha5, hz0, hk0, hw1, hvl, hvv, g0, g1, g2, g3, g4, g5, g6, g7, u8l_len, ul_len, u8lset, hf, Int.le_refl, Nat.le_refl, q3]
            refine Thn_n ?_
            have hwj : IntKind.i64.wrap (64 * (j : Int) + 64) = 64 * ((j : Int) + 1) := by rw [IntKind.wrap_i64]; omega
            have hcn : compN IV (refL bs 8) (j + 1) = add8 (compN IV (refL bs 8) j) (rd KW (sch (refL bs 8) (64 * j) 64) (compN IV (refL bs 8) j) 64) := rfl
            refine ⟨j + 1, by omega, by omega, ?_⟩
            try simp only [keepL, setAll, push_cast, simprocAttr, hb, lk_old hb, ha1, ha2, ha3, ha4, ha5, hz0, hk0, hw1, hvl, hvv, g0, g1, g2, g3, g4, g5, g6, g7, u8l_len, ul_len, u8lset, hf, Int.le_refl, Nat.le_refl, q3, hwj, hcn, add8, a32]
            exact Weak.to (extra := [_, _]) (by simp only [Keeps, Tm.get_cons, Nat.reduceEqDiff, ↓reduceIte, if_true, if_false, ite_true, ite_false, true_and, and_true, and_self, reduceCtorEq, hwj, hcn, add8, a32]) (by first | rfl | (simp only [List.append_assoc, List.cons_append, List.nil_append]; rfl)) (by first | rfl | (simp [AV.below, CV.below, u8l_below, ul_below]; done) | (simp [AV.below, CV.below, u8l_below, ul_below]; omega)) (by
              first | exact hwf | refine MWf.app (hwf.grow (by simp)) ?_
              repeat (first | exact MWf_nil | (refine MWf_cons ?_ ?_; · first | rfl | (simp [CV.below, u8l_below, ul_below]; done) | (simp [CV.below, u8l_below, ul_below]; omega))))
      · have hje : j = (refL bs 8).length / 64 := by have := of_decide_eq_false h58; omega
        subst hje
        have hfin := ref_sha bs hl
        obtain ⟨S0, hS0⟩ : ∃ S0, compN IV (refL bs 8) ((refL bs 8).length / 64) = S0 := ⟨_, rfl⟩
        rw [hS0] at hfin
        have hd0 : u8l (dQ S0 0) = [.int .u8 0, .int .u8 0, .int .u8 0, .int .u8 0, .int .u8 0, .int .u8 0, .int .u8 0, .int .u8 0, .int .u8 0, .int .u8 0, .int .u8 0, .int .u8 0, .int .u8 0, .int .u8 0, .int .u8 0, .int .u8 0, .int .u8 0, .int .u8 0, .int .u8 0, .int .u8 0, .int .u8 0, .int .u8 0, .int .u8 0, .int .u8 0, .int .u8 0, .int .u8 0, .int .u8 0, .int .u8 0, .int .u8 0, .int .u8 0, .int .u8 0, .int .u8 0] := rfl
        refine AW.exit ?_
        refine Thn_e ?_
        clear hK K
        refine Thn_e ?_
        refine InB_here ?_
        refine Thn_n ?_
        refine hK _ _ ?_
        clear hK K
        refine AW.seq_k fun K hK => ?_
        refine AW.region (by decide) ?_
        simp only [push_cast, simprocAttr, hb, lk_old hb, ha1, ha2, ha3, ha4, ha5, hz0, hk0, hw1, hvl, hvv, g0, g1, g2, g3, g4, g5, g6, g7, u8l_len, ul_len, u8lset, hf, Int.le_refl, Nat.le_refl, q3, hS0]
        refine Thn_n ?_
        refine hK _ _ ?_
        clear hK K
        refine AW.seq_k fun K hK => ?_
        refine AW.seq_k fun K hK => ?_
        refine AW.region (by decide) ?_
        simp only [push_cast, simprocAttr, hb, lk_old hb, ha1, ha2, ha3, ha4, ha5, hz0, hk0, hw1, hvl, hvv, g0, g1, g2, g3, g4, g5, g6, g7, u8l_len, ul_len, u8lset, hf, Int.le_refl, Nat.le_refl, q3, hS0]
        refine Thn_n ?_
        refine hK _ _ ?_
        clear hK K
        refine AW.block ?_
        refine AW.loopK [4, 8, 22] (fun i => i ≤ (32 : Nat)) (fun i => [(23, .one (.int .i64 (i : Int)))]) (fun i => [(m.length + 5, ⟨.fix, 22, 0, 0, u8l (dQ S0 i)⟩)]) (fun i => 32 - i) 0 (by omega) ?_ ?_ fun i hi84 => ?_
        · first | rfl | (simp only [Keeps, Tm.get_cons, Nat.reduceEqDiff, ↓reduceIte, if_true, if_false, ite_true, ite_false, true_and, and_true, and_self, reduceCtorEq, hd0, Int.natCast_zero] <;> rfl)
        · first | rfl | (simp only [setAll, push_cast, simprocAttr, hb, lk_old hb, ha1, ha2, ha3, ha4, ha5, hz0, hk0, hw1, hvl, hvv, g0, g1, g2, g3, g4, g5, g6, g7, u8l_len, ul_len, u8lset, hf, Int.le_refl, Nat.le_refl, q3, hS0, hd0, Int.natCast_zero] <;> rfl)
        have hi32 : i ≤ 32 := hi84
        try simp only [keepL, setAll, push_cast, simprocAttr, hb, lk_old hb, ha1, ha2, ha3, ha4, ha5, hz0, hk0, hw1, hvl, hvv, g0, g1, g2, g3, g4, g5, g6, g7, u8l_len, ul_len, u8lset, hf, Int.le_refl, Nat.le_refl, q3, hS0]
        refine AW.seq_k fun K hK => ?_
        refine AW.seq_k fun K hK => ?_
        refine AW.region (by decide) ?_
        simp only [push_cast, simprocAttr, hb, lk_old hb, ha1, ha2, ha3, ha4, ha5, hz0, hk0, hw1, hvl, hvv, g0, g1, g2, g3, g4, g5, g6, g7, u8l_len, ul_len, u8lset, hf, Int.le_refl, Nat.le_refl, q3, hS0]
        refine Thn_n ?_
        refine hK _ _ ?_
        clear hK K
        refine AW.cond rfl (fun h266 => ?_) (fun h266 => ?_)
        · have hlt32 : i < 32 := by have := of_decide_eq_true h266; omega
          have c3 : (0 : Int) ≤ (i : Int) := by omega
          have c4 : (i : Int) < 32 := by omega
          have v0 : IntKind.i64.wrap ((i : Int).tdiv 4) = ((i / 4 : Nat) : Int) := by
            have : (i : Int).tdiv 4 = ((i / 4 : Nat) : Int) := rfl
            rw [this]; exact wi (by omega)
          have v1 : (i : Int).tmod 4 = ((i % 4 : Nat) : Int) := rfl
          have gh := hS_get S0 (i := i / 4) (by omega)
          simp only [hS] at gh
          have c5 : (0 : Int) ≤ ((i / 4 : Nat) : Int) := by omega
          have c6 : ((i / 4 : Nat) : Int) < 8 := by omega
          have v2 : IntKind.i64.wrap (3 - ((i % 4 : Nat) : Int)) = 3 - ((i % 4 : Nat) : Int) := wi (by omega)
          have v3 : IntKind.u64.wrap (3 - ((i % 4 : Nat) : Int)) = ((3 - i % 4 : Nat) : Int) := by rw [IntKind.wrap_u64]; omega
          have v4 : IntKind.u64.wrap (8 * ((3 - i % 4 : Nat) : Int)) = ((8 * (3 - i % 4) : Nat) : Int) := by rw [IntKind.wrap_u64]; omega
          have v5 : ¬ ((8 * (3 - i % 4) : Nat) : Int) < 0 := by omega
          have v6 : (2 : Int) ^ min (8 * (3 - i % 4)) IntKind.u32.bits = 2 ^ (8 * (3 - i % 4)) := by rw [show IntKind.u32.bits = 32 from rfl, Nat.min_eq_left (by omega)]
          have hds := dQ_set S0 hlt32
          have hdl := dQ_len S0 (i := i) (by omega)
          have c7 : i + 1 ≤ 32 := by omega
          generalize hsh : 8 * (3 - i % 4) = sh at v4 v5 v6 hds
          generalize hsv : 3 - i % 4 = sv at v3 v4
          generalize hi4 : i / 4 = q at v0 gh c5 c6 hds
          generalize hm4 : i % 4 = r at v1 v2 v3
          refine AW.skip ?_
          refine Thn_n ?_
          refine hK _ _ ?_
          clear hK K
          refine AW.seq_k fun K hK => ?_
          refine AW.block ?_
          refine AW.region (by decide) ?_
          simp only [push_cast, simprocAttr, hb, lk_old hb, ha1, ha2, ha3, ha4, ha5, hz0, hk0, hw1, hvl, hvv, g0, g1, g2, g3, g4, g5, g6, g7, u8l_len, ul_len, u8lset, hf, Int.le_refl, Nat.le_refl, q3, hS0, c3, c4, v0, v1, gh, c5, c6, v2, v3, v4, v5, v6, hds, hdl, c7]
          refine InB_n ?_
          refine Thn_n ?_
          refine hK _ _ ?_
          clear hK K
          refine AW.region (by decide) ?_
          simp only [push_cast, simprocAttr, hb, lk_old hb, ha1, ha2, ha3, ha4, ha5, hz0, hk0, hw1, hvl, hvv, g0, g1, g2, g3, g4, g5, g6, g7, u8l_len, ul_len, u8lset, hf, Int.le_refl, Nat.le_refl, q3, hS0, c3, c4, v0, v1, gh, c5, c6, v2, v3, v4, v5, v6, hds, hdl, c7]
          refine Thn_n ?_
          have hwi : IntKind.i64.wrap ((i:Int)+1) = (i:Int)+1 := wi (by omega)
          refine ⟨i + 1, hlt32, by omega, ?_⟩
          try simp only [keepL, setAll, push_cast, simprocAttr, hb, lk_old hb, ha1, ha2, ha3, ha4, ha5, hz0, hk0, hw1, hvl, hvv, g0, g1, g2, g3, g4, g5, g6, g7, u8l_len, ul_len, u8lset, hf, Int.le_refl, Nat.le_refl, q3, hS0, c3, c4, v0, v1, gh, c5, c6, v2, v3, v4, v5, v6, hds, hdl, c7, hwi, hds]
          exact Weak.same (by simp only [Keeps, Tm.get_cons, Nat.reduceEqDiff, ↓reduceIte, if_true, if_false, ite_true, ite_false, true_and, and_true, and_self, reduceCtorEq, hwi, hds]) (by first | rfl | simp only [Keeps, Tm.get_cons, Nat.reduceEqDiff, ↓reduceIte, if_true, if_false, ite_true, ite_false, true_and, and_true, and_self, reduceCtorEq, hwi, hds])
        · have hie : i = 32 := by have := of_decide_eq_false h266; omega
          subst hie
          have hdf : u8l (dQ S0 32) = [.int .u8 (IntKind.u8.wrap (S0.a.fdiv 16777216)), .int .u8 (IntKind.u8.wrap (S0.a.fdiv 65536)), .int .u8 (IntKind.u8.wrap (S0.a.fdiv 256)), .int .u8 (IntKind.u8.wrap S0.a), .int .u8 (IntKind.u8.wrap (S0.b.fdiv 16777216)), .int .u8 (IntKind.u8.wrap (S0.b.fdiv 65536)), .int .u8 (IntKind.u8.wrap (S0.b.fdiv 256)), .int .u8 (IntKind.u8.wrap S0.b), .int .u8 (IntKind.u8.wrap (S0.c.fdiv 16777216)), .int .u8 (IntKind.u8.wrap (S0.c.fdiv 65536)), .int .u8 (IntKind.u8.wrap (S0.c.fdiv 256)), .int .u8 (IntKind.u8.wrap S0.c), .int .u8 (IntKind.u8.wrap (S0.d.fdiv 16777216)), .int .u8 (IntKind.u8.wrap (S0.d.fdiv 65536)), .int .u8 (IntKind.u8.wrap (S0.d.fdiv 256)), .int .u8 (IntKind.u8.wrap S0.d), .int .u8 (IntKind.u8.wrap (S0.e.fdiv 16777216)), .int .u8 (IntKind.u8.wrap (S0.e.fdiv 65536)), .int .u8 (IntKind.u8.wrap (S0.e.fdiv 256)), .int .u8 (IntKind.u8.wrap S0.e), .int .u8 (IntKind.u8.wrap (S0.f.fdiv 16777216)), .int .u8 (IntKind.u8.wrap (S0.f.fdiv 65536)), .int .u8 (IntKind.u8.wrap (S0.f.fdiv 256)), .int .u8 (IntKind.u8.wrap S0.f), .int .u8 (IntKind.u8.wrap (S0.g.fdiv 16777216)), .int .u8 (IntKind.u8.wrap (S0.g.fdiv 65536)), .int .u8 (IntKind.u8.wrap (S0.g.fdiv 256)), .int .u8 (IntKind.u8.wrap S0.g), .int .u8 (IntKind.u8.wrap (S0.h.fdiv 16777216)), .int .u8 (IntKind.u8.wrap (S0.h.fdiv 65536)), .int .u8 (IntKind.u8.wrap (S0.h.fdiv 256)), .int .u8 (IntKind.u8.wrap S0.h)] := rfl
          refine AW.exit ?_
          refine Thn_e ?_
          clear hK K
          refine Thn_e ?_
          refine InB_here ?_
          refine Thn_n ?_
          refine hK _ _ ?_
          clear hK K
          refine AW.seq_k fun K hK => ?_
          refine AW.region (by decide) ?_
          simp only [push_cast, simprocAttr, hb, lk_old hb, ha1, ha2, ha3, ha4, ha5, hz0, hk0, hw1, hvl, hvv, g0, g1, g2, g3, g4, g5, g6, g7, u8l_len, ul_len, u8lset, hf, Int.le_refl, Nat.le_refl, q3, hS0, hdf]
          refine Thn_n ?_
          refine hK _ _ ?_
          clear hK K
          refine AW.ret ?_
          refine hQ _ _ _ ?_
          refine RetP.drop (Or.inr rfl) ?_ ?_ hwf
          · simp only [resA, resOne, resTv, AV.tv, push_cast, simprocAttr]
            rw [← hfin]; rfl
          · rfl
          
end Go.Proofs.Ytmjbbnfmhgcfaaa

set_option linter.unusedSimpArgs false
set_option linter.unusedVariables false
set_option maxRecDepth 100000
set_option maxHeartbeats 4000000
namespace Go.Proofs.Ytmjbbnfmhgcfaaa
open Go Go.Eng

theorem PartIn.row {m : AMem} {rb v off n : Nat} {bs X : List Int} {k : BK} {ty ez : Nat} (hb : m[rb]? = some ⟨k, ty, v, ez, u8l X⟩) (hn : n = bs.length) (hf : off + bs.length ≤ X.length) (hx : (X.drop off).take bs.length = bs) : PartIn m (.sl rb v off n) bs :=
  .inr ⟨rb, k, ty, v, ez, off, X, by rw [hn], hb, hf, hx⟩
theorem PartIn.all {m : AMem} {rb v n : Nat} {bs : List Int} {k : BK} {ty ez : Nat} (hb : m[rb]? = some ⟨k, ty, v, ez, u8l bs⟩) (hn : n = bs.length) : PartIn m (.sl rb v 0 n) bs :=
  .row hb hn (by omega) (by rw [List.drop_zero, List.take_length])
theorem write1_c (rp bb vb lb vl lo : Nat) (s : PS) (c : CV) (bs : List Int) (X : List CV) (kl : BK) (el : Nat) (m : AMem) (hp : m[rp]? = some (prB s.S (.sl bb vb 0 s.r.length) s.n)) (hbb : m[bb]? = some (rowB vb s.r)) (hl : m[lb]? = some ⟨kl, 63, vl, el, X⟩) (nlb : lb ≠ bb)
    (h0 : X[lo]? = some c) (hc : PartAt m bb c bs) (hb : bs.length ≤ 1000000) (ho : U8ok bs) (hr0 : s.r.length < 64) (ho0 : U8ok s.r) : Ctr Try.prog 23 [.one (.ptr rp 0 0), .one (.sl lb vl lo 1)] m (.tup []) (pwr m rp bb (vb + 2) (absS s bs)) :=
  write_c rp bb vb lb vl lo 1 s (fun _ => c) (fun _ => bs) X kl el m hp hbb hl nlb (fun i hi => (show i = 0 by have h : i < 1 := hi; omega) ▸ h0) (fun i _ => hc) (fun i _ => hb) (fun i _ => ho) hr0 ho0 (by decide)
theorem PartAt.all {m : AMem} {bb rb v n : Nat} {bs : List Int} {k : BK} {ty ez : Nat} (hb : m[rb]? = some ⟨k, ty, v, ez, u8l bs⟩) (hn : n = bs.length) (hne : rb ≠ bb) : PartAt m bb (.sl rb v 0 n) bs :=
  .inr ⟨rb, k, ty, v, ez, 0, bs, by rw [hn], hne, hb, by omega, by rw [List.drop_zero, List.take_length]⟩
theorem write2_c (rp bb vb lb vl lo : Nat) (s : PS) (c c2 : CV) (bs bs2 : List Int) (X : List CV) (kl : BK) (el : Nat) (m : AMem) (hp : m[rp]? = some (prB s.S (.sl bb vb 0 s.r.length) s.n)) (hbb : m[bb]? = some (rowB vb s.r)) (hl : m[lb]? = some ⟨kl, 63, vl, el, X⟩) (nlb : lb ≠ bb)
    (h0 : X[lo]? = some c) (h1 : X[lo + 1]? = some c2) (hc : PartAt m bb c bs) (hc2 : PartAt m bb c2 bs2) (hb : bs.length ≤ 1000000) (hb2 : bs2.length ≤ 1000000) (ho : U8ok bs) (ho2 : U8ok bs2) (hr0 : PSok s) (ho0 : U8ok s.r) : Ctr Try.prog 23 [.one (.ptr rp 0 0), .one (.sl lb vl lo 2)] m (.tup []) (pwr m rp bb (vb + 4) (absS s (bs ++ bs2))) := by
  have h := write_c rp bb vb lb vl lo 2 s (fun i => if i = 0 then c else c2) (fun i => if i = 0 then bs else bs2) X kl el m hp hbb hl nlb (fun i hi => by
      have hcs : i = 0 ∨ i = 1 := by omega
      rcases hcs with rfl | rfl
      · exact h0
      · exact h1) (fun i _ => by split <;> assumption) (fun i _ => by split <;> assumption) (fun i _ => by split <;> assumption) hr0.1 ho0 (by decide)
  have e := accP_cat hr0 (fun i => if i = 0 then bs else bs2) 2
  simp only [catP, List.nil_append, if_true, Nat.succ_ne_self, if_false, Nat.zero_add, Nat.one_ne_zero, ↓reduceIte] at e
  rw [e] at h
  exact h
theorem eqp_u8 (d : Nat) (xs : List Int) : ∀ l : List Nat, (∀ i, i ∈ l → i < xs.length) → eqParts Try.prog (eqV Try.prog (d + 1)) (u8l xs) (u8l xs) (l.map fun i => (5, i)) = some true
  | [], _ => rfl
  | i :: l, h => by
    have hi := h i List.mem_cons_self
    have ih := eqp_u8 d xs l fun j hj => h j (List.mem_cons_of_mem _ hj)
    have hg := u8l_get hi
    simp only [List.map_cons, eqParts, ih]
    simp only [push_cast, simprocAttr, hg, Option.map_some]
theorem eqp32 {xs : List Int} (h : xs.length = 32) : eqParts Try.prog (eqV Try.prog 9999) (u8l xs) (u8l xs) (List.map (fun i => (5, i)) (List.range' 0 32)) = some true :=
  eqp_u8 9998 xs _ fun i hi => by rw [h]; simp [List.mem_range'] at hi; omega
end Go.Proofs.Ytmjbbnfmhgcfaaa

set_option linter.unusedSimpArgs false
set_option linter.unusedVariables false
set_option maxRecDepth 100000
set_option maxHeartbeats 4000000
namespace Go.Proofs.Ytmjbbnfmhgcfaaa
open Go Go.Eng

/-- A number's bytes, the least first. -/
def qN (x i : Nat) : Nat := x / 256 ^ i
def bN (x i : Nat) : Int := ((x / 256 ^ i % 256 : Nat) : Int)
theorem bN_ok (x i : Nat) : 0 ≤ bN x i ∧ bN x i ≤ 255 := by unfold bN; omega
theorem qN_succ (x i : Nat) : qN x i / 256 = qN x (i + 1) := by unfold qN; rw [Nat.pow_succ, Nat.div_div_eq_div_mul]
theorem qN_le (x i : Nat) : qN x i ≤ x := Nat.div_le_self _ _
def numL (x : Nat) : Nat → List Int
  | 0 => []
  | n + 1 => numL x n ++ [bN x n]
theorem numL_len (x : Nat) : ∀ n, (numL x n).length = n
  | 0 => rfl
  | n + 1 => by simp [numL, numL_len x n]
theorem numL_ok (x : Nat) : ∀ n, U8ok (numL x n)
  | 0 => fun y hy => by cases hy
  | n + 1 => (numL_ok x n).app fun y hy => by
    simp only [List.mem_cons, List.not_mem_nil, or_false] at hy
    subst hy
    exact bN_ok x n
theorem u8l_app1 (xs : List Int) (y : Int) : u8l xs ++ [.int .u8 y] = u8l (xs ++ [y]) := by simp [u8l]
theorem num_c (r v x n : Nat) (bs : List Int) (m : AMem) (hb : ∃ k ez, m[r]? = some ⟨k, 5, v, ez, u8l bs⟩) (hbl : bs.length ≤ 1000000) (hn : n ≤ 8) (hx : x < 18446744073709551616) : Ctr Try.prog 25 [.one (.sl r v 0 bs.length), .one (.int .u64 (x : Int)), .one (.int .i64 (n : Int))] m (.one (.sl m.length 0 0 (bs.length + n))) (m ++ [⟨.grow, 5, 0, 1, u8l (bs ++ numL x n)⟩]) := by
  refine Ctr.enter Try.func25 rfl (by decide) (rs := [.tmp 6]) (nt := 26) rfl rfl fun hwf Q hQ => ?_
  obtain ⟨kb, ezb, hb⟩ := hb
  have lb := get_lt hb
  have hbt : (u8l bs).take bs.length = u8l bs := List.take_of_length_le (by rw [u8l_len]; exact Nat.le_refl _)
  have hbv := u8l_vals bs
  have a1 : bs.length ≤ 140737488355328 := by omega
  have hq0 : qN x 0 = x := by unfold qN; rw [Nat.pow_zero, Nat.div_one]
  have hlt0 : ∀ k, ¬ m.length + k < m.length := fun k => by omega
  iterate 2
    refine AW.seq_k fun K hK => ?_
    refine AW.region (by decide) ?_
    simp only [push_cast, simprocAttr, hb, lk_old hb, hbt, hbv, a1, u8l_len, Nat.le_refl, Int.le_refl]
    refine Thn_n ?_
    refine hK _ _ ?_
    clear hK K
  refine AW.seq_k fun K hK => ?_
  refine AW.seq_k fun K hK => ?_
  refine AW.region (by decide) ?_
  simp only [push_cast, simprocAttr, hb, lk_old hb, hbt, hbv, a1, u8l_len, Nat.le_refl, Int.le_refl]
  refine Thn_n ?_
  refine hK _ _ ?_
  clear hK K
  refine AW.block ?_
  refine AW.loopK [2] (fun i => i ≤ n) (fun i => [(1, .one (.int .u64 ((qN x i : Nat) : Int))), (7, .one (.sl m.length (1 + i) 0 (bs.length + i))), (8, .one (.int .i64 (i : Int)))]) (fun i => [(m.length, ⟨.grow, 5, 1 + i, 1, u8l (bs ++ numL x i)⟩)]) (fun i => n - i) 0 (by omega) ?_ ?_ fun i hi5 => ?_
  · first | rfl | (simp only [Keeps, Tm.get_cons, Nat.reduceEqDiff, ↓reduceIte, if_true, if_false, ite_true, ite_false, true_and, and_true, and_self, reduceCtorEq, hq0, numL, List.append_nil, Int.natCast_zero, Nat.add_zero] <;> rfl)
  · first | rfl | (simp only [setAll, push_cast, simprocAttr, hb, lk_old hb, hbt, hbv, a1, u8l_len, Nat.le_refl, Int.le_refl, hq0, numL, List.append_nil, Int.natCast_zero, Nat.add_zero] <;> rfl)
  try simp only [keepL, setAll, push_cast, simprocAttr, hb, lk_old hb, hbt, hbv, a1, u8l_len, Nat.le_refl, Int.le_refl]
  refine AW.seq_k fun K hK => ?_
  refine AW.seq_k fun K hK => ?_
  refine AW.region (by decide) ?_
  simp only [push_cast, simprocAttr, hb, lk_old hb, hbt, hbv, a1, u8l_len, Nat.le_refl, Int.le_refl]
  refine Thn_n ?_
  refine hK _ _ ?_
  clear hK K
  refine AW.cond rfl (fun h14 => ?_) (fun h14 => ?_)
  · have hlt : i < n := by have := of_decide_eq_true h14; omega
    have hnl := numL_len x i
    have hll : (bs ++ numL x i).length = bs.length + i := by rw [List.length_append, hnl]
    have a2 : bs.length + (i + 1) ≤ 140737488355328 := by omega
    have hbo := bN_ok x i
    have hm1 : ((qN x i : Nat) : Int).tmod 256 = bN x i := rfl
    have hd1 : ((qN x i : Nat) : Int).tdiv 256 = ((qN x (i + 1) : Nat) : Int) := by rw [← qN_succ]; rfl
    have hql := qN_le x (i + 1)
    have hm2 : IntKind.u64.wrap (bN x i) = bN x i := by rw [IntKind.wrap_u64]; omega
    have hm3 : IntKind.u8.wrap (bN x i) = bN x i := by rw [w8]; omega
    have hd2 : IntKind.u64.wrap ((qN x (i + 1) : Nat) : Int) = ((qN x (i + 1) : Nat) : Int) := by rw [IntKind.wrap_u64]; omega
    have hnx : u8l (bs ++ numL x i) ++ [.int .u8 (bN x i)] = u8l (bs ++ numL x (i + 1)) := by rw [u8l_app1, List.append_assoc]; rfl
    have hl3 : 1 + i + 1 = 1 + (i + 1) := by omega
    refine AW.skip ?_
    refine Thn_n ?_
    refine hK _ _ ?_
    clear hK K
    refine AW.seq_k fun K hK => ?_
    refine AW.block ?_
    refine AW.seq_k fun K hK => ?_
    refine AW.region (by decide) ?_
    simp only [push_cast, simprocAttr, hb, lk_old hb, hbt, hbv, a1, u8l_len, Nat.le_refl, Int.le_refl, a2, hm1, hd1, hm2, hm3, hd2, hll, hnx]
    refine Thn_n ?_
    refine hK _ _ ?_
    clear hK K
    refine AW.region (by decide) ?_
    simp only [push_cast, simprocAttr, hb, lk_old hb, hbt, hbv, a1, u8l_len, Nat.le_refl, Int.le_refl, a2, hm1, hd1, hm2, hm3, hd2, hll, hnx]
    refine InB_n ?_
    refine Thn_n ?_
    refine hK _ _ ?_
    clear hK K
    refine AW.region (by decide) ?_
    simp only [push_cast, simprocAttr, hb, lk_old hb, hbt, hbv, a1, u8l_len, Nat.le_refl, Int.le_refl, a2, hm1, hd1, hm2, hm3, hd2, hll, hnx]
    refine Thn_n ?_
    have hwi : IntKind.i64.wrap ((i:Int)+1) = (i:Int)+1 := by rw [IntKind.wrap_i64]; omega
    refine ⟨i + 1, hlt, by omega, ?_⟩
    try simp only [keepL, setAll, push_cast, simprocAttr, hb, lk_old hb, hbt, hbv, a1, u8l_len, Nat.le_refl, Int.le_refl, a2, hm1, hd1, hm2, hm3, hd2, hll, hnx, hwi, hnx, hl3, Nat.add_assoc]
    exact Weak.to (extra := [_]) (by simp only [Keeps, Tm.get_cons, Nat.reduceEqDiff, ↓reduceIte, if_true, if_false, ite_true, ite_false, true_and, and_true, and_self, reduceCtorEq, hwi, hnx, hl3, Nat.add_assoc]) (by first | rfl | (simp only [List.append_assoc, List.cons_append, List.nil_append]; rfl)) (by first | rfl | (simp [AV.below, CV.below, u8l_below]; done) | (simp [AV.below, CV.below, u8l_below]; omega)) (by
      first | exact hwf | refine MWf.app (hwf.grow (by simp)) ?_
      repeat (first | exact MWf_nil | (refine MWf_cons ?_ ?_; · first | rfl | (simp [CV.below, u8l_below]; done) | (simp [CV.below, u8l_below]; omega))))
  · have hie : i = n := by have := of_decide_eq_false h14; omega
    subst hie
    refine AW.exit ?_
    refine Thn_e ?_
    clear hK K
    refine Thn_e ?_
    refine InB_here ?_
    refine Thn_n ?_
    refine hK _ _ ?_
    clear hK K
    refine AW.seq_k fun K hK => ?_
    refine AW.region (by decide) ?_
    simp only [push_cast, simprocAttr, hb, lk_old hb, hbt, hbv, a1, u8l_len, Nat.le_refl, Int.le_refl]
    refine Thn_n ?_
    refine hK _ _ ?_
    clear hK K
    refine AW.ret ?_
    refine hQ _ _ _ ?_
    refine RetP.pick [(m.length, 1 + i)] (Or.inr rfl) ?_ ?_ ?_ hwf ?_
    · simp only [resA, resOne, resTv, AV.tv, push_cast, simprocAttr]
      simp [renV, renT, renL, renC, renIdx]
    · simp only [picks, push_cast, simprocAttr]
    · simp [distinctFrom]
    · exact MWf_one (u8l_below _ _)
    
end Go.Proofs.Ytmjbbnfmhgcfaaa

set_option linter.unusedSimpArgs false
set_option linter.unusedVariables false
set_option maxRecDepth 100000
set_option maxHeartbeats 4000000
namespace Go.Proofs.Ytmjbbnfmhgcfaaa
open Go Go.Eng

/-- The head of a work's key: its kind, its frame. -/
def hdA (k : Int) : List Int := [87, IntKind.u8.wrap k]
def hdB (f : Int) : List Int := [IntKind.u8.wrap f, IntKind.u8.wrap (f.fdiv 256), IntKind.u8.wrap (f.fdiv 65536), IntKind.u8.wrap (f.fdiv 16777216)]
def hdL (k f : Int) : List Int := hdA k ++ hdB f
theorem hdA_ok (k : Int) : U8ok (hdA k) := fun x hx => by
  simp only [hdA, List.mem_cons, List.not_mem_nil, or_false] at hx
  rcases hx with rfl | rfl
  · omega
  · rw [w8]; omega
theorem hdB_ok (f : Int) : U8ok (hdB f) := fun x hx => by
  simp only [hdB, List.mem_cons, List.not_mem_nil, or_false] at hx
  rcases hx with rfl | rfl | rfl | rfl <;> (rw [w8]; omega)
theorem hdL_ok (k f : Int) : U8ok (hdL k f) := (hdA_ok k).app (hdB_ok f)
def keyI (k f : Int) (D : List Int) (i : Nat) : PS := absS P0 (hdL k f ++ D.take (32 * i))
theorem keyI_succ (k f : Int) (D : List Int) (i : Nat) : absS (keyI k f D i) ((D.drop (32 * i)).take 32) = keyI k f D (i + 1) := by
  unfold keyI
  rw [absS_app, List.append_assoc]
  congr 2
  rw [show 32 * (i + 1) = 32 * i + 32 by omega, List.take_add]
theorem key_c (k f : Int) (lo vo np : Nat) (D : List Int) (ko : BK) (eo : Nat) (m : AMem) (hD : m[lo]? = some ⟨ko, 36, vo, eo, u8l D⟩) (hl : D.length = 32 * np) (hu : U8ok D) (hnp : np ≤ 30) : Ctr Try.prog 14 [.one (.int .i64 k), .one (.int .i64 f), .one (.sl lo vo 0 np)] m (.agg (u8l (shaL (hdL k f ++ D)))) m := by
  refine Ctr.enter Try.func14 rfl (by decide) (rs := [.cell 6 36]) (nt := 42) rfl rfl fun hwf Q hQ => ?_
  have llo := get_lt hD
  have q8 : (2:Int) ^ min 8 IntKind.i64.bits = 256 := by decide
  have q16 : (2:Int) ^ min 16 IntKind.i64.bits = 65536 := by decide
  have q24 : (2:Int) ^ min 24 IntKind.i64.bits = 16777216 := by decide
  have hA : [CV.int .u8 87, .int .u8 (IntKind.u8.wrap k)] = u8l (hdA k) := rfl
  have hB : [CV.int .u8 (IntKind.u8.wrap f), .int .u8 (IntKind.u8.wrap (f.fdiv 256)), .int .u8 (IntKind.u8.wrap (f.fdiv 65536)), .int .u8 (IntKind.u8.wrap (f.fdiv 16777216))] = u8l (hdB f) := rfl
  have hac : absS P0 (hdA k ++ hdB f) = keyI k f D 0 := by simp [keyI, hdL]
  have hst : ∀ i, (keyI k f D i).r.length < 64 := fun i => absS_r _ _
  have hso : ∀ i, U8ok (keyI k f D i).r := fun i => by
    have h := accP_ok (s := P0) U8ok.nil (np := 1) (bf := fun _ => hdL k f ++ D.take (32 * i)) (fun _ _ => (hdL_ok k f).app (hu.take _)) 1 (Nat.le_refl _)
    exact h
  have hfn : keyI k f D np = absS P0 (hdL k f ++ D) := by unfold keyI; rw [← hl, List.take_length]
  have hs1 : setL [.int .u8 0, .int .u8 0, .int .u8 0, .int .u8 0, .int .u8 0, .int .u8 0, .int .u8 0, .int .u8 0, .int .u8 0, .int .u8 0, .int .u8 0, .int .u8 0, .int .u8 0, .int .u8 0, .int .u8 0, .int .u8 0, .int .u8 0, .int .u8 0, .int .u8 0, .int .u8 0, .int .u8 0, .int .u8 0, .int .u8 0, .int .u8 0, .int .u8 0, .int .u8 0, .int .u8 0, .int .u8 0, .int .u8 0, .int .u8 0, .int .u8 0, .int .u8 0] 0 (u8l (shaL (hdL k f ++ D))) = u8l (shaL (hdL k f ++ D)) := setL_full rfl
  have hs2 := shaL_len (hdL k f ++ D)
  have hsh : digL (finS (absS P0 (hdL k f ++ D))) = shaL (hdL k f ++ D) := rfl
  have hs3 := u8l_vals (shaL (hdL k f ++ D))
  have hs4 : (u8l (shaL (hdL k f ++ D))).take 32 = u8l (shaL (hdL k f ++ D)) := List.take_of_length_le (by rw [u8l_len, hs2]; exact Nat.le_refl _)
  refine AW.seq_k fun K hK => ?_
  refine AW.region (by decide) ?_
  simp only [push_cast, simprocAttr, imp_self, hD, lk_old hD, q8, q16, q24, hA, hB, hac, u8l_len, pwr, rowB, prB, Int.le_refl, Nat.le_refl]
  refine Thn_n ?_
  refine hK _ _ ?_
  clear hK K
  refine AW.seq_k fun K hK => ?_
  refine AW.region (by decide) ?_
  simp only [push_cast, simprocAttr, imp_self, hD, lk_old hD, q8, q16, q24, hA, hB, hac, u8l_len, pwr, rowB, prB, Int.le_refl, Nat.le_refl]
  refine CThen.by (new_c _) ?_
  simp only [push_cast, simprocAttr, imp_self, hD, lk_old hD, q8, q16, q24, hA, hB, hac, u8l_len, pwr, rowB, prB, Int.le_refl, Nat.le_refl]
  refine Thn_n ?_
  refine hK _ _ ?_
  clear hK K
  refine AW.seq_k fun K hK => ?_
  refine AW.nilCell 5 1 (m.length + 1) 8 (b := ⟨.fix, 74, 0, 0, [.int .u32 (IV).a, .int .u32 (IV).b, .int .u32 (IV).c, .int .u32 (IV).d, .int .u32 (IV).e, .int .u32 (IV).f, .int .u32 (IV).g, .int .u32 (IV).h, .nils, .int .u64 0]⟩) (by simp only [push_cast, simprocAttr]) (by simp) rfl ?_
  simp only [push_cast, simprocAttr]
  refine AW.region (by decide) ?_
  simp only [push_cast, simprocAttr, imp_self, hD, lk_old hD, q8, q16, q24, hA, hB, hac, u8l_len, pwr, rowB, prB, Int.le_refl, Nat.le_refl]
  refine CThen.by (write2_c (m.length + 1) (m.length + 2) 0 (m.length + 5) 0 0 P0 (.sl (m.length + 3) 0 0 2) (.sl (m.length + 4) 0 0 4) (hdA k) (hdB f) [.sl (m.length + 3) 0 0 2, .sl (m.length + 4) 0 0 4] .grow 1 _ (by simp only [push_cast, simprocAttr]; rfl) (by simp only [push_cast, simprocAttr]; rfl) (by simp only [push_cast, simprocAttr]) (by omega) rfl rfl (.all (k := .grow) (ty := 5) (ez := 1) (by simp only [push_cast, simprocAttr, hA]) rfl (by omega)) (.all (k := .grow) (ty := 5) (ez := 1) (by simp only [push_cast, simprocAttr, hB]) rfl (by omega)) (by show 2 ≤ 1000000; decide) (by show 4 ≤ 1000000; decide) (hdA_ok k) (hdB_ok f) p0_ok U8ok.nil) ?_
  simp only [push_cast, simprocAttr, imp_self, hD, lk_old hD, q8, q16, q24, hA, hB, hac, u8l_len, pwr, rowB, prB, Int.le_refl, Nat.le_refl]
  refine Thn_n ?_
  refine hK _ _ ?_
  clear hK K
  refine AW.seq_k fun K hK => ?_
  refine AW.seq_k fun K hK => ?_
  refine AW.region (by decide) ?_
  simp only [push_cast, simprocAttr, imp_self, hD, lk_old hD, q8, q16, q24, hA, hB, hac, u8l_len, pwr, rowB, prB, Int.le_refl, Nat.le_refl]
  refine Thn_n ?_
  refine hK _ _ ?_
  clear hK K
  refine AW.block ?_
  refine AW.loopK [6, 7, 29, 30] (fun i => i ≤ np) (fun i => [(31, .one (.int .i64 (i : Int)))]) (fun i => [(m.length + 1, prB (keyI k f D i).S (.sl (m.length + 2) (4 + 2 * i) 0 (keyI k f D i).r.length) (keyI k f D i).n), (m.length + 2, rowB (4 + 2 * i) (keyI k f D i).r)]) (fun i => np - i) 0 (by omega) ?_ ?_ fun i hi6 => ?_
  · first | rfl | (simp only [Keeps, Tm.get_cons, Nat.reduceEqDiff, ↓reduceIte, if_true, if_false, ite_true, ite_false, true_and, and_true, and_self, reduceCtorEq, Int.natCast_zero, Nat.mul_zero, Nat.add_zero] <;> rfl)
  · first | rfl | (simp only [setAll, push_cast, simprocAttr, imp_self, hD, lk_old hD, q8, q16, q24, hA, hB, hac, u8l_len, pwr, rowB, prB, Int.le_refl, Nat.le_refl, Int.natCast_zero, Nat.mul_zero, Nat.add_zero] <;> rfl)
  have hi : i ≤ np := hi6
  try simp only [keepL, setAll, push_cast, simprocAttr, imp_self, hD, lk_old hD, q8, q16, q24, hA, hB, hac, u8l_len, pwr, rowB, prB, Int.le_refl, Nat.le_refl]
  refine AW.seq_k fun K hK => ?_
  refine AW.region (by decide) ?_
  simp only [push_cast, simprocAttr, imp_self, hD, lk_old hD, q8, q16, q24, hA, hB, hac, u8l_len, pwr, rowB, prB, Int.le_refl, Nat.le_refl]
  refine Thn_n ?_
  refine hK _ _ ?_
  clear hK K
  refine AW.seq_k fun K hK => ?_
  refine AW.cond rfl (fun h32 => ?_) (fun h32 => ?_)
  · have hlt : i < np := by have := of_decide_eq_true h32; omega
    have c1 : (0 : Int) ≤ (i : Int) := by omega
    have c2 : (i : Int) < (np : Int) := by omega
    have c3 : i * 32 + 32 ≤ D.length := by omega
    have hdl : ((D.drop (32 * i)).take 32).length = 32 := by rw [List.length_take, List.length_drop]; omega
    have e32 : i * 32 = 32 * i := by omega
    have hd1 : ((u8l D).drop (i * 32)).take 32 = u8l ((D.drop (32 * i)).take 32) := by rw [u8l_drop, u8l_take, e32]
    have hd2 : setL [.int .u8 0, .int .u8 0, .int .u8 0, .int .u8 0, .int .u8 0, .int .u8 0, .int .u8 0, .int .u8 0, .int .u8 0, .int .u8 0, .int .u8 0, .int .u8 0, .int .u8 0, .int .u8 0, .int .u8 0, .int .u8 0, .int .u8 0, .int .u8 0, .int .u8 0, .int .u8 0, .int .u8 0, .int .u8 0, .int .u8 0, .int .u8 0, .int .u8 0, .int .u8 0, .int .u8 0, .int .u8 0, .int .u8 0, .int .u8 0, .int .u8 0, .int .u8 0] 0 (u8l ((D.drop (32 * i)).take 32)) = u8l ((D.drop (32 * i)).take 32) := setL_full (by rw [u8l_len, hdl]; rfl)
    have hd3 := u8l_vals ((D.drop (32 * i)).take 32)
    refine AW.skip ?_
    refine Thn_n ?_
    refine hK _ _ ?_
    clear hK K
    refine AW.seq_k fun K hK => ?_
    refine AW.block ?_
    refine AW.seq_k fun K hK => ?_
    refine AW.region (by decide) ?_
    simp only [push_cast, simprocAttr, imp_self, hD, lk_old hD, q8, q16, q24, hA, hB, hac, u8l_len, pwr, rowB, prB, Int.le_refl, Nat.le_refl, c1, c2, c3, hd1, hd2, hd3, hdl]
    refine Thn_n ?_
    refine hK _ _ ?_
    clear hK K
    refine AW.region (by decide) ?_
    simp only [push_cast, simprocAttr, imp_self, hD, lk_old hD, q8, q16, q24, hA, hB, hac, u8l_len, pwr, rowB, prB, Int.le_refl, Nat.le_refl, c1, c2, c3, hd1, hd2, hd3, hdl]
    refine CThen.by (write1_c (m.length + 1) (m.length + 2) (4 + 2 * i) (m.length + 7) 0 0 (keyI k f D i) (.sl (m.length + 6) 0 0 32) ((D.drop (32 * i)).take 32) [.sl (m.length + 6) 0 0 32] .grow 1 _ (by simp only [push_cast, simprocAttr, prB]) (by simp only [push_cast, simprocAttr, rowB]) (by simp only [push_cast, simprocAttr]) (by omega) rfl (.all (k := .fix) (ty := 36) (ez := 0) (by simp only [push_cast, simprocAttr, hd1, hd2]) hdl.symm (by omega)) (by omega) ((hu.drop _).take _) (hst i) (hso i)) ?_
    simp only [push_cast, simprocAttr, imp_self, hD, lk_old hD, q8, q16, q24, hA, hB, hac, u8l_len, pwr, rowB, prB, Int.le_refl, Nat.le_refl, c1, c2, c3, hd1, hd2, hd3, hdl]
    refine InB_n ?_
    refine Thn_n ?_
    refine hK _ _ ?_
    clear hK K
    refine AW.region (by decide) ?_
    simp only [push_cast, simprocAttr, imp_self, hD, lk_old hD, q8, q16, q24, hA, hB, hac, u8l_len, pwr, rowB, prB, Int.le_refl, Nat.le_refl, c1, c2, c3, hd1, hd2, hd3, hdl]
    refine Thn_n ?_
    have hwi : IntKind.i64.wrap ((i:Int)+1) = (i:Int)+1 := wi (by omega)
    have e9 : 4 + 2 * (i + 1) = 4 + (2 * i + 2) := by omega
    have hks := keyI_succ k f D i
    refine ⟨i + 1, hlt, by omega, ?_⟩
    try simp only [keepL, setAll, push_cast, simprocAttr, imp_self, hD, lk_old hD, q8, q16, q24, hA, hB, hac, u8l_len, pwr, rowB, prB, Int.le_refl, Nat.le_refl, c1, c2, c3, hd1, hd2, hd3, hdl, hwi, e9, hks]
    exact Weak.to (extra := [_, _]) (by simp only [Keeps, Tm.get_cons, Nat.reduceEqDiff, ↓reduceIte, if_true, if_false, ite_true, ite_false, true_and, and_true, and_self, reduceCtorEq, hwi, e9, hks]) (by first | rfl | (simp only [List.append_assoc, List.cons_append, List.nil_append]; rfl)) (by first | rfl | (simp [AV.below, CV.below, u8l_below]; done) | (simp [AV.below, CV.below, u8l_below]; omega)) (by
      first | exact hwf | refine MWf.app (hwf.grow (by simp)) ?_
      repeat (first | exact MWf_nil | (refine MWf_cons ?_ ?_; · first | rfl | (simp [CV.below, u8l_below]; done) | (simp [CV.below, u8l_below]; omega))))
  · have hie : i = np := by have := of_decide_eq_false h32; omega
    subst hie
    refine AW.exit ?_
    refine Thn_e ?_
    clear hK K
    refine Thn_e ?_
    refine InB_here ?_
    refine Thn_n ?_
    refine hK _ _ ?_
    clear hK K
    refine AW.seq_k fun K hK => ?_
    refine AW.region (by decide) ?_
    simp only [push_cast, simprocAttr, imp_self, hD, lk_old hD, q8, q16, q24, hA, hB, hac, u8l_len, pwr, rowB, prB, Int.le_refl, Nat.le_refl, hs1, hs2, hs3, hfn, hsh]
    refine CThen.by (sum_c (m.length + 1) (m.length + 2) (4 + 2 * i) (absS P0 (hdL k f ++ D)) _ (by simp only [push_cast, simprocAttr, prB]) (by simp only [push_cast, simprocAttr, rowB]) (absS_r _ _) (hfn ▸ hso i)) ?_
    simp only [push_cast, simprocAttr, imp_self, hD, lk_old hD, q8, q16, q24, hA, hB, hac, u8l_len, pwr, rowB, prB, Int.le_refl, Nat.le_refl, hs1, hs2, hs3, hfn, hsh]
    refine Thn_n ?_
    refine hK _ _ ?_
    clear hK K
    refine AW.ret ?_
    refine hQ _ _ _ ?_
    refine RetP.drop (Or.inr rfl) ?_ ?_ hwf
    · simp only [resA, resOne, resTv, AV.tv, push_cast, simprocAttr, hs1, hs2, hs3, hs4, u8l_len]
    · rfl
    
end Go.Proofs.Ytmjbbnfmhgcfaaa

set_option linter.unusedSimpArgs false
set_option linter.unusedVariables false
set_option maxRecDepth 100000
set_option maxHeartbeats 4000000
namespace Go.Proofs.Ytmjbbnfmhgcfaaa
open Go Go.Eng

theorem num_head (k f : Nat) (hk : k < 4) (hf : f < 4294967296) : ([87] ++ numL k 1) ++ numL f 4 = hdL (k : Int) (f : Int) := by
  have e1 : IntKind.u8.wrap (k : Int) = bN k 0 := by rw [w8]; unfold bN; omega
  have e2 : IntKind.u8.wrap (f : Int) = bN f 0 := by rw [w8]; unfold bN; omega
  have e3 : IntKind.u8.wrap ((f : Int).fdiv 256) = bN f 1 := by
    rw [Int.fdiv_eq_ediv_of_nonneg _ (by omega), w8]; unfold bN; omega
  have e4 : IntKind.u8.wrap ((f : Int).fdiv 65536) = bN f 2 := by
    rw [Int.fdiv_eq_ediv_of_nonneg _ (by omega), w8]; unfold bN; omega
  have e5 : IntKind.u8.wrap ((f : Int).fdiv 16777216) = bN f 3 := by
    rw [Int.fdiv_eq_ediv_of_nonneg _ (by omega), w8]; unfold bN; omega
  simp only [hdL, hdA, hdB, numL, e1, e2, e3, e4, e5]
  rfl
theorem num_l (r v x n L : Nat) (bs : List Int) (m : AMem) (hL : bs.length = L) (hb : ∃ k ez, m[r]? = some ⟨k, 5, v, ez, u8l bs⟩) (hbl : bs.length ≤ 1000000) (hn : n ≤ 8) (hx : x < 18446744073709551616) : Ctr Try.prog 25 [.one (.sl r v 0 L), .one (.int .u64 (x : Int)), .one (.int .i64 (n : Int))] m (.one (.sl m.length 0 0 (L + n))) (m ++ [⟨.grow, 5, 0, 1, u8l (bs ++ numL x n)⟩]) := by
  subst hL; exact num_c r v x n bs m hb hbl hn hx
theorem rof_l (rb v L : Nat) (bs : List Int) (m : AMem) (hL : bs.length = L) (hb : ∃ k ty ez, m[rb]? = some ⟨k, ty, v, ez, u8l bs⟩) (hu : U8ok bs) (hl : bs.length ≤ 1000000) : Ctr Try.prog 26 [.agg (ul (HLL ++ KW)), .one (.sl rb v 0 L)] m (.agg (u8l (shaL bs))) m := by
  subst hL; exact rof_c rb v 0 bs bs m hb (by omega) (by rw [List.drop_zero, List.take_length]) hu hl
theorem rkey_c (k f : Nat) (lo vo np : Nat) (D : List Int) (ko : BK) (eo : Nat) (m : AMem) (hD : m[lo]? = some ⟨ko, 22, vo, eo, u8l D⟩) (hko : ko = .grow) (hl : D.length = 32 * np) (hu : U8ok D) (hnp : np ≤ 30) (hk : k < 4) (hf : f < 4294967296) : Ctr Try.prog 16 [.agg (ul (HLL ++ KW)), .one (.int .i64 (k : Int)), .one (.int .i64 (f : Int)), .one (.sl lo vo 0 np)] m (.agg (u8l (shaL (hdL (k : Int) (f : Int) ++ D)))) m := by
  refine Ctr.enter Try.func16 rfl (by decide) (rs := [.cell 8 22]) (nt := 33) rfl rfl fun hwf Q hQ => ?_
  subst hko
  have llo := get_lt hD
  have hkw : IntKind.u64.wrap (k : Int) = (k : Int) := by rw [IntKind.wrap_u64]; omega
  have hfw : IntKind.u64.wrap (f : Int) = (f : Int) := by rw [IntKind.wrap_u64]; omega
  have hnh : 87 :: (numL k 1 ++ numL f 4) = hdL (k : Int) (f : Int) := num_head k f hk hf
  have hhl : (hdL (k : Int) (f : Int)).length = 6 := rfl
  have h87 : [CV.int .u8 87] = u8l [87] := rfl
  have htl : (ul (HLL ++ KW)).take 72 = ul (HLL ++ KW) := rfl
  have hvl : (ul (HLL ++ KW)).length = 72 := rfl
  have hvv := ul_vals (HLL ++ KW)
  have hs2 := shaL_len (hdL (k : Int) (f : Int) ++ D)
  have hs1 : setL [.int .u8 0, .int .u8 0, .int .u8 0, .int .u8 0, .int .u8 0, .int .u8 0, .int .u8 0, .int .u8 0, .int .u8 0, .int .u8 0, .int .u8 0, .int .u8 0, .int .u8 0, .int .u8 0, .int .u8 0, .int .u8 0, .int .u8 0, .int .u8 0, .int .u8 0, .int .u8 0, .int .u8 0, .int .u8 0, .int .u8 0, .int .u8 0, .int .u8 0, .int .u8 0, .int .u8 0, .int .u8 0, .int .u8 0, .int .u8 0, .int .u8 0, .int .u8 0] 0 (u8l (shaL (hdL (k : Int) (f : Int) ++ D))) = u8l (shaL (hdL (k : Int) (f : Int) ++ D)) := setL_full rfl
  have hs3 := u8l_vals (shaL (hdL (k : Int) (f : Int) ++ D))
  have hs4 : (u8l (shaL (hdL (k : Int) (f : Int) ++ D))).take 32 = u8l (shaL (hdL (k : Int) (f : Int) ++ D)) := List.take_of_length_le (by rw [u8l_len, hs2]; exact Nat.le_refl _)
  refine AW.seq_k fun K hK => ?_
  refine AW.region (by decide) ?_
  simp only [push_cast, simprocAttr, imp_self, htl, hvl, hvv, hs1, hs2, hs3, hs4, hD, lk_old hD, hkw, hfw, hnh, u8l_len, ul_len, Int.le_refl, Nat.le_refl]
  refine Thn_n ?_
  refine hK _ _ ?_
  clear hK K
  refine AW.seq_k fun K hK => ?_
  refine AW.region (by decide) ?_
  simp only [push_cast, simprocAttr, imp_self, htl, hvl, hvv, hs1, hs2, hs3, hs4, hD, lk_old hD, hkw, hfw, hnh, u8l_len, ul_len, Int.le_refl, Nat.le_refl]
  refine CThen.by (num_c (m.length + 2) 0 k 1 [87] _ ⟨.grow, 1, by simp only [push_cast, simprocAttr]; rfl⟩ (by decide) (by decide) (by omega)) ?_
  simp only [push_cast, simprocAttr, imp_self, htl, hvl, hvv, hs1, hs2, hs3, hs4, hD, lk_old hD, hkw, hfw, hnh, u8l_len, ul_len, Int.le_refl, Nat.le_refl]
  refine CThen.by (num_l (m.length + 3) 0 f 4 2 (87 :: numL k 1) _ rfl ⟨.grow, 1, by simp only [push_cast, simprocAttr]⟩ (by show 2 ≤ 1000000; decide) (by decide) (by omega)) ?_
  simp only [push_cast, simprocAttr, imp_self, htl, hvl, hvv, hs1, hs2, hs3, hs4, hD, lk_old hD, hkw, hfw, hnh, u8l_len, ul_len, Int.le_refl, Nat.le_refl]
  refine Thn_n ?_
  refine hK _ _ ?_
  clear hK K
  refine AW.seq_k fun K hK => ?_
  refine AW.seq_k fun K hK => ?_
  refine AW.region (by decide) ?_
  simp only [push_cast, simprocAttr, imp_self, htl, hvl, hvv, hs1, hs2, hs3, hs4, hD, lk_old hD, hkw, hfw, hnh, u8l_len, ul_len, Int.le_refl, Nat.le_refl]
  refine Thn_n ?_
  refine hK _ _ ?_
  clear hK K
  refine AW.block ?_
  refine AW.loopK [3, 4, 8] (fun i => i ≤ np) (fun i => [(9, .one (.sl (m.length + 4) i 0 (6 + 32 * i))), (10, .one (.int .i64 (i : Int)))]) (fun i => [(m.length + 4, ⟨.grow, 5, i, 1, u8l (hdL (k : Int) (f : Int) ++ D.take (32 * i))⟩)]) (fun i => np - i) 0 (by omega) ?_ ?_ fun i hi5 => ?_
  · first | rfl | (simp only [Keeps, Tm.get_cons, Nat.reduceEqDiff, ↓reduceIte, if_true, if_false, ite_true, ite_false, true_and, and_true, and_self, reduceCtorEq, Int.natCast_zero, Nat.mul_zero, Nat.add_zero, List.take_zero, List.append_nil] <;> rfl)
  · first | rfl | (simp only [setAll, push_cast, simprocAttr, imp_self, htl, hvl, hvv, hs1, hs2, hs3, hs4, hD, lk_old hD, hkw, hfw, hnh, u8l_len, ul_len, Int.le_refl, Nat.le_refl, Int.natCast_zero, Nat.mul_zero, Nat.add_zero, List.take_zero, List.append_nil] <;> rfl)
  try simp only [keepL, setAll, push_cast, simprocAttr, imp_self, htl, hvl, hvv, hs1, hs2, hs3, hs4, hD, lk_old hD, hkw, hfw, hnh, u8l_len, ul_len, Int.le_refl, Nat.le_refl]
  refine AW.seq_k fun K hK => ?_
  refine AW.seq_k fun K hK => ?_
  refine AW.region (by decide) ?_
  simp only [push_cast, simprocAttr, imp_self, htl, hvl, hvv, hs1, hs2, hs3, hs4, hD, lk_old hD, hkw, hfw, hnh, u8l_len, ul_len, Int.le_refl, Nat.le_refl]
  refine Thn_n ?_
  refine hK _ _ ?_
  clear hK K
  refine AW.cond rfl (fun h21 => ?_) (fun h21 => ?_)
  · have hlt : i < np := by have := of_decide_eq_true h21; omega
    have c1 : (0 : Int) ≤ (i : Int) := by omega
    have c2 : (i : Int) < (np : Int) := by omega
    have c3 : i * 32 + 32 ≤ D.length := by omega
    have hdl : ((D.drop (32 * i)).take 32).length = 32 := by rw [List.length_take, List.length_drop]; omega
    have e32 : i * 32 = 32 * i := by omega
    have hd1 : ((u8l D).drop (i * 32)).take 32 = u8l ((D.drop (32 * i)).take 32) := by rw [u8l_drop, u8l_take, e32]
    have hd2 := u8l_vals ((D.drop (32 * i)).take 32)
    have hti : (D.take (32 * i)).length = 32 * i := by rw [List.length_take]; omega
    have hsn : u8l (hdL (k : Int) (f : Int) ++ D.take (32 * i)) ++ u8l ((D.drop (32 * i)).take 32) = u8l (hdL (k : Int) (f : Int) ++ D.take (32 * (i + 1))) := by
      rw [u8l_app, List.append_assoc, show 32 * (i + 1) = 32 * i + 32 by omega, List.take_add]
    have q1 : 6 + (32 * i + 32) ≤ 140737488355328 := by omega
    refine AW.skip ?_
    refine Thn_n ?_
    refine hK _ _ ?_
    clear hK K
    refine AW.seq_k fun K hK => ?_
    refine AW.block ?_
    refine AW.region (by decide) ?_
    simp only [push_cast, simprocAttr, imp_self, htl, hvl, hvv, hs1, hs2, hs3, hs4, hD, lk_old hD, hkw, hfw, hnh, u8l_len, ul_len, Int.le_refl, Nat.le_refl, c1, c2, c3, hdl, hd1, hd2, hti, hsn, hhl, q1]
    refine InB_n ?_
    refine Thn_n ?_
    refine hK _ _ ?_
    clear hK K
    refine AW.region (by decide) ?_
    simp only [push_cast, simprocAttr, imp_self, htl, hvl, hvv, hs1, hs2, hs3, hs4, hD, lk_old hD, hkw, hfw, hnh, u8l_len, ul_len, Int.le_refl, Nat.le_refl, c1, c2, c3, hdl, hd1, hd2, hti, hsn, hhl, q1]
    refine Thn_n ?_
    have hwi : IntKind.i64.wrap ((i:Int)+1) = (i:Int)+1 := wi (by omega)
    have e9 : 6 + 32 * (i + 1) = 6 + (32 * i + 32) := by omega
    refine ⟨i + 1, hlt, by omega, ?_⟩
    try simp only [keepL, setAll, push_cast, simprocAttr, imp_self, htl, hvl, hvv, hs1, hs2, hs3, hs4, hD, lk_old hD, hkw, hfw, hnh, u8l_len, ul_len, Int.le_refl, Nat.le_refl, c1, c2, c3, hdl, hd1, hd2, hti, hsn, hhl, q1, hwi, e9, hsn]
    exact Weak.same (by simp only [Keeps, Tm.get_cons, Nat.reduceEqDiff, ↓reduceIte, if_true, if_false, ite_true, ite_false, true_and, and_true, and_self, reduceCtorEq, hwi, e9, hsn]) (by first | rfl | simp only [Keeps, Tm.get_cons, Nat.reduceEqDiff, ↓reduceIte, if_true, if_false, ite_true, ite_false, true_and, and_true, and_self, reduceCtorEq, hwi, e9, hsn])
  · have hie : i = np := by have := of_decide_eq_false h21; omega
    subst hie
    have htk : D.take (32 * i) = D := List.take_of_length_le (by omega)
    have hLL : (hdL (k : Int) (f : Int) ++ D).length = 6 + 32 * i := by rw [List.length_append, hhl]; omega
    have hUU : U8ok (hdL (k : Int) (f : Int) ++ D) := (hdL_ok _ _).app hu
    refine AW.exit ?_
    refine Thn_e ?_
    clear hK K
    refine Thn_e ?_
    refine InB_here ?_
    refine Thn_n ?_
    refine hK _ _ ?_
    clear hK K
    refine AW.seq_k fun K hK => ?_
    refine AW.region (by decide) ?_
    simp only [push_cast, simprocAttr, imp_self, htl, hvl, hvv, hs1, hs2, hs3, hs4, hD, lk_old hD, hkw, hfw, hnh, u8l_len, ul_len, Int.le_refl, Nat.le_refl, htk]
    refine CThen.by (rof_l (m.length + 4) i (6 + 32 * i) (hdL (k : Int) (f : Int) ++ D) _ hLL ⟨.grow, 5, 1, by simp only [push_cast, simprocAttr]⟩ hUU (by omega)) ?_
    simp only [push_cast, simprocAttr, imp_self, htl, hvl, hvv, hs1, hs2, hs3, hs4, hD, lk_old hD, hkw, hfw, hnh, u8l_len, ul_len, Int.le_refl, Nat.le_refl, htk]
    refine Thn_n ?_
    refine hK _ _ ?_
    clear hK K
    refine AW.ret ?_
    refine hQ _ _ _ ?_
    first | refine RetP.drop0 (Or.inr rfl) ?_ ?_ hwf | refine RetP.drop (Or.inr rfl) ?_ ?_ hwf
    · simp only [resA, resOne, resTv, AV.tv, push_cast, simprocAttr, imp_self, htl, hvl, hvv, hs1, hs2, hs3, hs4, hD, lk_old hD, hkw, hfw, hnh, u8l_len, ul_len, Int.le_refl, Nat.le_refl, htk]
    · rfl
end Go.Proofs.Ytmjbbnfmhgcfaaa

set_option linter.unusedSimpArgs false
set_option linter.unusedVariables false
set_option maxRecDepth 100000
set_option maxHeartbeats 4000000
namespace Go.Proofs.Ytmjbbnfmhgcfaaa
open Go Go.Eng

/-- Which works a work needs, by their numbers. -/
def ndL (i : Nat) : List Nat := if i % 4 = 0 then [] else if i % 4 = 1 then (if i / 4 = 0 then [i - 1] else [i - 1, i - 5, i - 4]) else if i % 4 = 2 then [i - 2, i - 1] else [i - 1]
def nl (xs : List Nat) : List CV := xs.map fun x : Nat => CV.int .i64 ((x : Nat) : Int)
theorem nl_len (xs : List Nat) : (nl xs).length = xs.length := by simp [nl]
theorem nl_below (L : Nat) (xs : List Nat) : (nl xs).all (CV.below L) = true := by
  simp only [nl, List.all_map, List.all_eq_true]; intro x _; rfl
theorem nl_vals (xs : List Nat) : (nl xs).all CV.isVal = true := by
  simp only [nl, List.all_map, List.all_eq_true]; intro x _; rfl
def ofB (J : List Int) (ks : List (List Int)) (i : Nat) : List Int := if i % 4 = 0 then J else (ndL i).flatMap fun j => ks.getD j []
def ksL (J : List Int) : Nat → List (List Int)
  | 0 => []
  | n + 1 => ksL J n ++ [shaL (hdL ((n % 4 : Nat) : Int) ((n / 4 : Nat) : Int) ++ ofB J (ksL J n) n)]
theorem ksL_len (J : List Int) : ∀ n, (ksL J n).length = n
  | 0 => rfl
  | n + 1 => by simp [ksL, ksL_len J n]
/-- A work's key. -/
def ky (J : List Int) (i : Nat) : List Int := (ksL J (i + 1)).getD i []
theorem ky_eq (J : List Int) (n : Nat) : ky J n = shaL (hdL ((n % 4 : Nat) : Int) ((n / 4 : Nat) : Int) ++ ofB J (ksL J n) n) := by
  have := ksL_len J n
  simp only [ky, ksL, List.getD_eq_getElem?_getD]
  rw [List.getElem?_append_right (by omega), this, Nat.sub_self]; rfl
theorem ksL_get (J : List Int) : ∀ (n j : Nat), j < n → (ksL J n).getD j [] = ky J j
  | 0, _, h => by omega
  | n + 1, j, h => by
    rcases Nat.lt_or_ge j n with hj | hj
    · have := ksL_len J n
      simp only [ksL]
      rw [List.getD_eq_getElem?_getD, List.getElem?_append_left (by omega), ← List.getD_eq_getElem?_getD]
      exact ksL_get J n j hj
    · obtain rfl : j = n := by omega
      rfl
theorem ky_len (J : List Int) (i : Nat) : (ky J i).length = 32 := by rw [ky_eq]; rfl
theorem ky_ok (J : List Int) (i : Nat) : U8ok (ky J i) := by rw [ky_eq]; exact shaL_ok _
theorem ndL_lt (i : Nat) : ∀ j, j ∈ ndL i → j < i := fun j hj => by
  unfold ndL at hj
  split at hj
  · cases hj
  · split at hj
    · split at hj <;> simp at hj <;> omega
    · split at hj <;> simp at hj <;> omega
theorem ofB_eq (J : List Int) (n : Nat) : ofB J (ksL J n) n = if n % 4 = 0 then J else (ndL n).flatMap fun j => ky J j := by
  unfold ofB
  split
  · rfl
  · have : ∀ l : List Nat, (∀ j, j ∈ l → j < n) → (l.flatMap fun j => (ksL J n).getD j []) = l.flatMap fun j => ky J j := by
      intro l
      induction l with
      | nil => intro _; rfl
      | cons a l ih =>
        intro h
        simp only [List.flatMap_cons]
        rw [ih fun j hj => h j (List.mem_cons_of_mem _ hj), ksL_get J n a (h a List.mem_cons_self)]
    exact this _ (ndL_lt n)
/-- How many lists of needs stand ahead of a work's. -/
def rwN (i : Nat) : Nat := 3 * (i / 4) + (i % 4 - 1)
def ndC (b i : Nat) : CV := if i % 4 = 0 then .nils else .sl (b + rwN i) 0 0 (ndL i).length
def wC (J : List Int) (b i : Nat) : List CV := .int .i64 ((i % 4 : Nat) : Int) :: .int .i64 ((i / 4 : Nat) : Int) :: (u8l (ky J i) ++ [ndC b i])
theorem wC_len (J : List Int) (b i : Nat) : (wC J b i).length = 35 := by simp [wC, u8l_len, ky_len]
theorem wC_vals (J : List Int) (b i : Nat) : (wC J b i).all CV.isVal = true := by
  have h1 := u8l_vals (ky J i)
  have h2 : (ndC b i).isVal = true := by unfold ndC; split <;> rfl
  simp only [wC, List.all_cons, List.all_append, h1, h2, List.all_nil]; rfl
def wR (J : List Int) (b : Nat) : Nat → List CV
  | 0 => []
  | n + 1 => wR J b n ++ wC J b n
theorem wR_len (J : List Int) (b : Nat) : ∀ n, (wR J b n).length = 35 * n
  | 0 => rfl
  | n + 1 => by simp only [wR, List.length_append, wR_len J b n, wC_len]; omega
theorem wR_at (J : List Int) (b : Nat) : ∀ (n j : Nat), j < n → ((wR J b n).drop (35 * j)).take 35 = wC J b j
  | 0, _, h => by omega
  | n + 1, j, h => by
    have hl := wR_len J b n
    simp only [wR]
    rcases Nat.lt_or_ge j n with hj | hj
    · rw [List.drop_append_of_le_length (by omega), List.take_append_of_le_length (by rw [List.length_drop]; omega)]
      exact wR_at J b n j hj
    · obtain rfl : j = n := by omega
      rw [show 35 * j = (wR J b j).length from hl.symm, List.drop_left]
      exact List.take_of_length_le (by rw [wC_len]; exact Nat.le_refl _)
theorem wR_cell (J : List Int) (b n j c : Nat) (hj : j < n) (hc : c < 35) : (wR J b n)[35 * j + c]? = (wC J b j)[c]? := by
  have h := wR_at J b n j hj
  rw [← h, List.getElem?_take, if_pos hc, List.getElem?_drop]
theorem wR_key (J : List Int) (b n j : Nat) (hj : j < n) : ((wR J b n).drop (35 * j + 2)).take 32 = u8l (ky J j) := by
  have h := wR_at J b n j hj
  have e : ((wR J b n).drop (35 * j + 2)).take 32 = ((((wR J b n).drop (35 * j)).take 35).drop 2).take 32 := by
    rw [List.drop_take, List.drop_drop, List.take_take]; rfl
  rw [e, h]
  simp only [wC, List.drop_succ_cons, List.drop_zero]
  have hl : (u8l (ky J j)).length = 32 := by rw [u8l_len, ky_len]
  rw [List.take_append_of_le_length (by omega), ← hl, List.take_length]
/-- The lists of needs of a frame's first works; of some frames. -/
def rwF (f : Nat) : Nat → AMem
  | 0 => []
  | k + 1 => rwF f k ++ (if k = 0 then [] else [⟨.grow, 3, 0, 1, nl (ndL (4 * f + k))⟩])
def rwG : Nat → AMem
  | 0 => []
  | f + 1 => rwG f ++ rwF f 4
theorem rwF_len (f : Nat) : ∀ k, (rwF f k).length = k - 1
  | 0 => rfl
  | 1 => rfl
  | k + 2 => by
    have := rwF_len f (k + 1)
    have e : rwF f (k + 2) = rwF f (k + 1) ++ [⟨.grow, 3, 0, 1, nl (ndL (4 * f + (k + 1)))⟩] := rfl
    rw [e, List.length_append, this]; rfl
theorem rwG_len : ∀ f, (rwG f).length = 3 * f
  | 0 => rfl
  | f + 1 => by simp only [rwG, List.length_append, rwG_len f, rwF_len]; omega
/-- Where a work's list of needs stands. -/
theorem rw_get {f k F : Nat} (hf : f < F) (h1 : 1 ≤ k) (h2 : k < 4) : (rwG F)[3 * f + (k - 1)]? = some ⟨.grow, 3, 0, 1, nl (ndL (4 * f + k))⟩ := by
  have hF : ∀ F, f < F → (rwG F)[3 * f + (k - 1)]? = (rwF f 4)[k - 1]? := by
    intro F
    induction F with
    | zero => intro h; omega
    | succ F ih =>
      intro h
      have hl := rwG_len F
      simp only [rwG]
      rcases Nat.lt_or_ge f F with hf | hf
      · rw [List.getElem?_append_left (by omega)]; exact ih hf
      · obtain rfl : f = F := by omega
        rw [List.getElem?_append_right (by omega), hl]; congr 1; omega
  rw [hF F hf]
  have hk : k = 1 ∨ k = 2 ∨ k = 3 := by omega
  rcases hk with rfl | rfl | rfl <;> rfl
theorem at_c (k f : Nat) (m : AMem) (hk : k < 4) (hf : f ≤ 1000) : Ctr Try.prog 10 [.one (.int .i64 (k : Int)), .one (.int .i64 (f : Int))] m (.one (.int .i64 ((4 * f + k : Nat) : Int))) m := by
  refine Ctr.enter Try.func10 rfl (by decide) (rs := [.tmp 4]) (nt := 9) rfl rfl fun hwf Q hQ => ?_
  have w1 : IntKind.i64.wrap (4 * (f : Int)) = 4 * (f : Int) := wi (by omega)
  have w2 : IntKind.i64.wrap (4 * (f : Int) + (k : Int)) = 4 * (f : Int) + (k : Int) := wi (by omega)
  iterate 2
    refine AW.seq_k fun K hK => ?_
    refine AW.region (by decide) ?_
    simp only [push_cast, simprocAttr, w1, w2]
    refine Thn_n ?_
    refine hK _ _ ?_
    clear hK K
  refine AW.ret ?_
  refine hQ _ _ _ ?_
  first | refine RetP.drop0 (Or.inr rfl) ?_ ?_ hwf | refine RetP.drop (Or.inr rfl) ?_ ?_ hwf
  · simp only [resA, resOne, resTv, AV.tv, push_cast, simprocAttr, w1, w2]
  · rfl
end Go.Proofs.Ytmjbbnfmhgcfaaa

set_option linter.unusedSimpArgs false
set_option linter.unusedVariables false
set_option maxRecDepth 100000
set_option maxHeartbeats 4000000
namespace Go.Proofs.Ytmjbbnfmhgcfaaa
open Go Go.Eng

theorem nd0 (f : Nat) : ndL (4 * f) = [] := by unfold ndL; rw [if_pos (by omega)]
theorem nd1z : ndL 1 = [0] := rfl
theorem nd1s (f : Nat) : ndL (4 * (f + 1) + 1) = [4 * (f + 1), 4 * f, 4 * f + 1] := by
  unfold ndL
  rw [if_neg (by omega), if_pos (by omega), if_neg (by omega)]
  simp only [List.cons.injEq, and_true]
  omega
theorem nd2 (f : Nat) : ndL (4 * f + 2) = [4 * f, 4 * f + 1] := by
  unfold ndL
  rw [if_neg (by omega), if_neg (by omega), if_pos (by omega)]
  simp only [List.cons.injEq, and_true]
  omega
theorem nd3 (f : Nat) : ndL (4 * f + 3) = [4 * f + 2] := by
  unfold ndL
  rw [if_neg (by omega), if_neg (by omega), if_neg (by omega)]
  simp only [List.cons.injEq, and_true]
  omega
theorem needs0_c (f : Nat) (m : AMem) : Ctr Try.prog 13 [.one (.int .i64 0), .one (.int .i64 (f : Int))] m (.one .nils) m := by
  refine Ctr.enter Try.func13 rfl (by decide) (rs := [.tmp 4]) (nt := 41) rfl rfl fun hwf Q hQ => ?_
  refine AW.seq_k fun K hK => ?_
  refine AW.region (by decide) ?_
  simp only [push_cast, simprocAttr]
  refine Thn_n ?_
  refine hK _ _ ?_
  clear hK K
  refine AW.seq_k fun K hK => ?_
  refine AW.block ?_
  iterate 4
    refine AW.seq_k fun K hK => ?_
    refine AW.region (by decide) ?_
    simp only [push_cast, simprocAttr]
    refine Thn_n ?_
    refine hK _ _ ?_
    clear hK K
    refine AW.cond_f rfl ?_
  refine AW.skip ?_
  refine InB_n ?_
  refine Thn_n ?_
  refine hK _ _ ?_
  clear hK K
  refine AW.seq_k fun K hK => ?_
  refine AW.region (by decide) ?_
  simp only [push_cast, simprocAttr]
  refine Thn_n ?_
  refine hK _ _ ?_
  clear hK K
  refine AW.ret ?_
  refine hQ _ _ _ ?_
  first | refine RetP.drop0 (Or.inr rfl) ?_ ?_ hwf | refine RetP.drop (Or.inr rfl) ?_ ?_ hwf
  · simp only [resA, resOne, resTv, AV.tv, push_cast, simprocAttr]
  · rfl
theorem needs1z_c (m : AMem) : Ctr Try.prog 13 [.one (.int .i64 1), .one (.int .i64 0)] m (.one (.sl m.length 0 0 1)) (m ++ [⟨.grow, 3, 0, 1, nl (ndL 1)⟩]) := by
  refine Ctr.enter Try.func13 rfl (by decide) (rs := [.tmp 4]) (nt := 41) rfl rfl fun hwf Q hQ => ?_
  have hrow : nl (ndL 1) = [.int .i64 0] := rfl
  refine AW.seq_k fun K hK => ?_
  refine AW.region (by decide) ?_
  simp only [push_cast, simprocAttr]
  refine Thn_n ?_
  refine hK _ _ ?_
  clear hK K
  refine AW.seq_k fun K hK => ?_
  refine AW.block ?_
  refine AW.seq_k fun K hK => ?_
  refine AW.region (by decide) ?_
  simp only [push_cast, simprocAttr]
  refine Thn_n ?_
  refine hK _ _ ?_
  clear hK K
  refine AW.cond_f rfl ?_
  refine AW.seq_k fun K hK => ?_
  refine AW.region (by decide) ?_
  simp only [push_cast, simprocAttr]
  refine Thn_n ?_
  refine hK _ _ ?_
  clear hK K
  refine AW.cond_t rfl ?_
  refine AW.seq_k fun K hK => ?_
  refine AW.region (by decide) ?_
  simp only [push_cast, simprocAttr]
  refine CThen.by (at_c 0 0 _ (by decide) (by decide)) ?_
  simp only [push_cast, simprocAttr]
  refine Thn_n ?_
  refine hK _ _ ?_
  clear hK K
  refine AW.ret ?_
  refine InB_r ?_
  refine Thn_r ?_
  refine hQ _ _ _ ?_
  refine RetP.pick [(m.length, 0)] (Or.inr rfl) ?_ ?_ ?_ hwf ?_
  · simp only [resA, resOne, resTv, AV.tv, push_cast, simprocAttr]
    simp [renV, renT, renL, renC, renIdx]
  · simp only [picks, push_cast, simprocAttr]; rw [hrow]
  · simp [distinctFrom]
  · exact MWf_one (nl_below _ _)
  
theorem needs1s_c (f : Nat) (m : AMem) (hf : f ≤ 900) : Ctr Try.prog 13 [.one (.int .i64 1), .one (.int .i64 ((f : Int) + 1))] m (.one (.sl m.length 0 0 3)) (m ++ [⟨.grow, 3, 0, 1, nl (ndL (4 * (f + 1) + 1))⟩]) := by
  refine Ctr.enter Try.func13 rfl (by decide) (rs := [.tmp 4]) (nt := 41) rfl rfl fun hwf Q hQ => ?_
  have c0 : (0 : Int) < (f : Int) + 1 := by omega
  have w0 : IntKind.i64.wrap ((f : Int) + 1 - 1) = (f : Int) := by rw [IntKind.wrap_i64]; omega
  have hrow : nl (ndL (4 * (f + 1) + 1)) = [.int .i64 ((4 * (f + 1) + 0 : Nat) : Int), .int .i64 ((4 * f + 0 : Nat) : Int), .int .i64 ((4 * f + 1 : Nat) : Int)] := by rw [nd1s]; rfl
  simp only [push_cast, simprocAttr] at hrow
  refine AW.seq_k fun K hK => ?_
  refine AW.region (by decide) ?_
  simp only [push_cast, simprocAttr, c0, w0]
  refine Thn_n ?_
  refine hK _ _ ?_
  clear hK K
  refine AW.seq_k fun K hK => ?_
  refine AW.block ?_
  refine AW.seq_k fun K hK => ?_
  refine AW.region (by decide) ?_
  simp only [push_cast, simprocAttr, c0, w0]
  refine Thn_n ?_
  refine hK _ _ ?_
  clear hK K
  refine AW.cond_t rfl ?_
  refine AW.seq_k fun K hK => ?_
  refine AW.region (by decide) ?_
  simp only [push_cast, simprocAttr, c0, w0]
  refine CThen.by (at_c 0 (f + 1) _ (by decide) (by omega)) ?_
  simp only [push_cast, simprocAttr, c0, w0]
  refine CThen.by (at_c 0 f _ (by decide) (by omega)) ?_
  simp only [push_cast, simprocAttr, c0, w0]
  refine CThen.by (at_c 1 f _ (by decide) (by omega)) ?_
  simp only [push_cast, simprocAttr, c0, w0]
  refine Thn_n ?_
  refine hK _ _ ?_
  clear hK K
  refine AW.ret ?_
  refine InB_r ?_
  refine Thn_r ?_
  refine hQ _ _ _ ?_
  refine RetP.pick [(m.length, 0)] (Or.inr rfl) ?_ ?_ ?_ hwf ?_
  · simp only [resA, resOne, resTv, AV.tv, push_cast, simprocAttr]
    simp [renV, renT, renL, renC, renIdx]
  · simp only [picks, push_cast, simprocAttr]; rw [hrow]
  · simp [distinctFrom]
  · exact MWf_one (nl_below _ _)
  
theorem needs2_c (f : Nat) (m : AMem) (hf : f ≤ 900) : Ctr Try.prog 13 [.one (.int .i64 2), .one (.int .i64 (f : Int))] m (.one (.sl m.length 0 0 2)) (m ++ [⟨.grow, 3, 0, 1, nl (ndL (4 * f + 2))⟩]) := by
  refine Ctr.enter Try.func13 rfl (by decide) (rs := [.tmp 4]) (nt := 41) rfl rfl fun hwf Q hQ => ?_
  have hrow : nl (ndL (4 * f + 2)) = [.int .i64 ((4 * f + 0 : Nat) : Int), .int .i64 ((4 * f + 1 : Nat) : Int)] := by rw [nd2]; rfl
  simp only [push_cast, simprocAttr] at hrow
  refine AW.seq_k fun K hK => ?_
  refine AW.region (by decide) ?_
  simp only [push_cast, simprocAttr]
  refine Thn_n ?_
  refine hK _ _ ?_
  clear hK K
  refine AW.seq_k fun K hK => ?_
  refine AW.block ?_
  iterate 2
    refine AW.seq_k fun K hK => ?_
    refine AW.region (by decide) ?_
    simp only [push_cast, simprocAttr]
    refine Thn_n ?_
    refine hK _ _ ?_
    clear hK K
    refine AW.cond_f rfl ?_
  refine AW.seq_k fun K hK => ?_
  refine AW.region (by decide) ?_
  simp only [push_cast, simprocAttr]
  refine Thn_n ?_
  refine hK _ _ ?_
  clear hK K
  refine AW.cond_t rfl ?_
  refine AW.seq_k fun K hK => ?_
  refine AW.region (by decide) ?_
  simp only [push_cast, simprocAttr]
  refine CThen.by (at_c 0 f _ (by decide) (by omega)) ?_
  simp only [push_cast, simprocAttr]
  refine CThen.by (at_c 1 f _ (by decide) (by omega)) ?_
  simp only [push_cast, simprocAttr]
  refine Thn_n ?_
  refine hK _ _ ?_
  clear hK K
  refine AW.ret ?_
  refine InB_r ?_
  refine Thn_r ?_
  refine hQ _ _ _ ?_
  refine RetP.pick [(m.length, 0)] (Or.inr rfl) ?_ ?_ ?_ hwf ?_
  · simp only [resA, resOne, resTv, AV.tv, push_cast, simprocAttr]
    simp [renV, renT, renL, renC, renIdx]
  · simp only [picks, push_cast, simprocAttr]; rw [hrow]
  · simp [distinctFrom]
  · exact MWf_one (nl_below _ _)
  
theorem needs3_c (f : Nat) (m : AMem) (hf : f ≤ 900) : Ctr Try.prog 13 [.one (.int .i64 3), .one (.int .i64 (f : Int))] m (.one (.sl m.length 0 0 1)) (m ++ [⟨.grow, 3, 0, 1, nl (ndL (4 * f + 3))⟩]) := by
  refine Ctr.enter Try.func13 rfl (by decide) (rs := [.tmp 4]) (nt := 41) rfl rfl fun hwf Q hQ => ?_
  have hrow : nl (ndL (4 * f + 3)) = [.int .i64 ((4 * f + 2 : Nat) : Int)] := by rw [nd3]; rfl
  simp only [push_cast, simprocAttr] at hrow
  refine AW.seq_k fun K hK => ?_
  refine AW.region (by decide) ?_
  simp only [push_cast, simprocAttr]
  refine Thn_n ?_
  refine hK _ _ ?_
  clear hK K
  refine AW.seq_k fun K hK => ?_
  refine AW.block ?_
  iterate 3
    refine AW.seq_k fun K hK => ?_
    refine AW.region (by decide) ?_
    simp only [push_cast, simprocAttr]
    refine Thn_n ?_
    refine hK _ _ ?_
    clear hK K
    refine AW.cond_f rfl ?_
  refine AW.seq_k fun K hK => ?_
  refine AW.region (by decide) ?_
  simp only [push_cast, simprocAttr]
  refine Thn_n ?_
  refine hK _ _ ?_
  clear hK K
  refine AW.cond_t rfl ?_
  refine AW.seq_k fun K hK => ?_
  refine AW.region (by decide) ?_
  simp only [push_cast, simprocAttr]
  refine CThen.by (at_c 2 f _ (by decide) (by omega)) ?_
  simp only [push_cast, simprocAttr]
  refine Thn_n ?_
  refine hK _ _ ?_
  clear hK K
  refine AW.ret ?_
  refine InB_r ?_
  refine Thn_r ?_
  refine hQ _ _ _ ?_
  refine RetP.pick [(m.length, 0)] (Or.inr rfl) ?_ ?_ ?_ hwf ?_
  · simp only [resA, resOne, resTv, AV.tv, push_cast, simprocAttr]
    simp [renV, renT, renL, renC, renIdx]
  · simp only [picks, push_cast, simprocAttr]; rw [hrow]
  · simp [distinctFrom]
  · exact MWf_one (nl_below _ _)
  
end Go.Proofs.Ytmjbbnfmhgcfaaa

set_option linter.unusedSimpArgs false
set_option linter.unusedVariables false
set_option maxRecDepth 100000
set_option maxHeartbeats 4000000
namespace Go.Proofs.Ytmjbbnfmhgcfaaa
open Go Go.Eng

theorem rneeds0_c (f : Nat) (m : AMem) (hf : f ≤ 900) : Ctr Try.prog 15 [.one (.int .i64 0), .one (.int .i64 (f : Int))] m (.one .nils) m := by
  refine Ctr.enter Try.func15 rfl (by decide) (rs := [.tmp 4]) (nt := 32) rfl rfl fun hwf Q hQ => ?_
  have w4 : IntKind.i64.wrap (4 * (f : Int)) = 4 * (f : Int) := wi (by omega)
  iterate 2
    refine AW.seq_k fun K hK => ?_
    refine AW.region (by decide) ?_
    simp only [push_cast, simprocAttr, w4]
    refine Thn_n ?_
    refine hK _ _ ?_
    clear hK K
  refine AW.seq_k fun K hK => ?_
  refine AW.seq_k fun K hK => ?_
  refine AW.region (by decide) ?_
  simp only [push_cast, simprocAttr, w4]
  refine Thn_n ?_
  refine hK _ _ ?_
  clear hK K
  refine AW.block ?_
  iterate 3
    refine AW.seq_k fun K hK => ?_
    refine AW.region (by decide) ?_
    simp only [push_cast, simprocAttr, w4]
    refine Thn_n ?_
    refine hK _ _ ?_
    clear hK K
    refine AW.cond_f rfl ?_
  refine AW.skip ?_
  refine InB_n ?_
  refine Thn_n ?_
  refine hK _ _ ?_
  clear hK K
  refine AW.seq_k fun K hK => ?_
  refine AW.region (by decide) ?_
  simp only [push_cast, simprocAttr, w4]
  refine Thn_n ?_
  refine hK _ _ ?_
  clear hK K
  refine AW.ret ?_
  refine hQ _ _ _ ?_
  first | refine RetP.drop0 (Or.inr rfl) ?_ ?_ hwf | refine RetP.drop (Or.inr rfl) ?_ ?_ hwf
  · simp only [resA, resOne, resTv, AV.tv, push_cast, simprocAttr, w4]
  · rfl
theorem rneeds1z_c (m : AMem) : Ctr Try.prog 15 [.one (.int .i64 1), .one (.int .i64 0)] m (.one (.sl m.length 0 0 1)) (m ++ [⟨.grow, 3, 0, 1, nl (ndL 1)⟩]) := by
  refine Ctr.enter Try.func15 rfl (by decide) (rs := [.tmp 4]) (nt := 32) rfl rfl fun hwf Q hQ => ?_
  have hrow : nl (ndL 1) = [.int .i64 0] := rfl
  iterate 2
    refine AW.seq_k fun K hK => ?_
    refine AW.region (by decide) ?_
    simp only [push_cast, simprocAttr]
    refine Thn_n ?_
    refine hK _ _ ?_
    clear hK K
  refine AW.seq_k fun K hK => ?_
  refine AW.seq_k fun K hK => ?_
  refine AW.region (by decide) ?_
  simp only [push_cast, simprocAttr]
  refine Thn_n ?_
  refine hK _ _ ?_
  clear hK K
  refine AW.block ?_
  iterate 2
    refine AW.seq_k fun K hK => ?_
    refine AW.region (by decide) ?_
    simp only [push_cast, simprocAttr]
    refine Thn_n ?_
    refine hK _ _ ?_
    clear hK K
    refine AW.cond_t rfl ?_
    refine AW.seq_k fun K hK => ?_
  refine AW.region (by decide) ?_
  simp only [push_cast, simprocAttr]
  refine Thn_n ?_
  refine hK _ _ ?_
  clear hK K
  refine AW.ret ?_
  refine Thn_r ?_
  refine InB_r ?_
  refine Thn_r ?_
  refine hQ _ _ _ ?_
  refine RetP.pick [(m.length, 0)] (Or.inr rfl) ?_ ?_ ?_ hwf ?_
  · simp only [resA, resOne, resTv, AV.tv, push_cast, simprocAttr]
    simp [renV, renT, renL, renC, renIdx]
  · simp only [picks, push_cast, simprocAttr]; rw [hrow]
  · simp [distinctFrom]
  · exact MWf_one (nl_below _ _)
  
theorem rneeds1s_c (f : Nat) (m : AMem) (hf : f ≤ 900) : Ctr Try.prog 15 [.one (.int .i64 1), .one (.int .i64 ((f : Int) + 1))] m (.one (.sl m.length 0 0 3)) (m ++ [⟨.grow, 3, 0, 1, nl (ndL (4 * (f + 1) + 1))⟩]) := by
  refine Ctr.enter Try.func15 rfl (by decide) (rs := [.tmp 4]) (nt := 32) rfl rfl fun hwf Q hQ => ?_
  have w5 : IntKind.i64.wrap (4 * ((f : Int) + 1)) = 4 * (f : Int) + 4 := by rw [IntKind.wrap_i64]; omega
  have w6 : IntKind.i64.wrap (4 * (f : Int) + 4 - 4) = 4 * (f : Int) := by rw [IntKind.wrap_i64]; omega
  have w7 : IntKind.i64.wrap (4 * (f : Int) + 4 - 3) = 4 * (f : Int) + 1 := by rw [IntKind.wrap_i64]; omega
  have w8x : ((f : Int) + 1 == 0) = false := by simp; omega
  have hrow : nl (ndL (4 * (f + 1) + 1)) = [.int .i64 (4 * (f : Int) + 4), .int .i64 (4 * (f : Int)), .int .i64 (4 * (f : Int) + 1)] := by rw [nd1s]; simp only [nl, List.map_cons, List.map_nil]; congr 3
  iterate 2
    refine AW.seq_k fun K hK => ?_
    refine AW.region (by decide) ?_
    simp only [push_cast, simprocAttr, w5, w6, w7, w8x]
    refine Thn_n ?_
    refine hK _ _ ?_
    clear hK K
  refine AW.seq_k fun K hK => ?_
  refine AW.seq_k fun K hK => ?_
  refine AW.region (by decide) ?_
  simp only [push_cast, simprocAttr, w5, w6, w7, w8x]
  refine Thn_n ?_
  refine hK _ _ ?_
  clear hK K
  refine AW.block ?_
  refine AW.seq_k fun K hK => ?_
  refine AW.region (by decide) ?_
  simp only [push_cast, simprocAttr, w5, w6, w7, w8x]
  refine Thn_n ?_
  refine hK _ _ ?_
  clear hK K
  refine AW.cond_t rfl ?_
  refine AW.seq_k fun K hK => ?_
  refine AW.seq_k fun K hK => ?_
  refine AW.region (by decide) ?_
  simp only [push_cast, simprocAttr, w5, w6, w7, w8x]
  refine Thn_n ?_
  refine hK _ _ ?_
  clear hK K
  refine AW.cond_f rfl ?_
  refine AW.skip ?_
  refine Thn_n ?_
  refine hK _ _ ?_
  clear hK K
  refine AW.seq_k fun K hK => ?_
  refine AW.region (by decide) ?_
  simp only [push_cast, simprocAttr, w5, w6, w7, w8x]
  refine Thn_n ?_
  refine hK _ _ ?_
  clear hK K
  refine AW.ret ?_
  refine InB_r ?_
  refine Thn_r ?_
  refine hQ _ _ _ ?_
  refine RetP.pick [(m.length, 0)] (Or.inr rfl) ?_ ?_ ?_ hwf ?_
  · simp only [resA, resOne, resTv, AV.tv, push_cast, simprocAttr]
    simp [renV, renT, renL, renC, renIdx]
  · simp only [picks, push_cast, simprocAttr]; rw [hrow]
  · simp [distinctFrom]
  · exact MWf_one (nl_below _ _)
  
theorem rneeds2_c (f : Nat) (m : AMem) (hf : f ≤ 900) : Ctr Try.prog 15 [.one (.int .i64 2), .one (.int .i64 (f : Int))] m (.one (.sl m.length 0 0 2)) (m ++ [⟨.grow, 3, 0, 1, nl (ndL (4 * f + 2))⟩]) := by
  refine Ctr.enter Try.func15 rfl (by decide) (rs := [.tmp 4]) (nt := 32) rfl rfl fun hwf Q hQ => ?_
  have w4 : IntKind.i64.wrap (4 * (f : Int)) = 4 * (f : Int) := wi (by omega)
  have w5 : IntKind.i64.wrap (4 * (f : Int) + 1) = 4 * (f : Int) + 1 := wi (by omega)
  have hrow : nl (ndL (4 * f + 2)) = [.int .i64 (4 * (f : Int)), .int .i64 (4 * (f : Int) + 1)] := by rw [nd2]; simp only [nl, List.map_cons, List.map_nil]; congr 3
  iterate 2
    refine AW.seq_k fun K hK => ?_
    refine AW.region (by decide) ?_
    simp only [push_cast, simprocAttr, w4, w5]
    refine Thn_n ?_
    refine hK _ _ ?_
    clear hK K
  refine AW.seq_k fun K hK => ?_
  refine AW.seq_k fun K hK => ?_
  refine AW.region (by decide) ?_
  simp only [push_cast, simprocAttr, w4, w5]
  refine Thn_n ?_
  refine hK _ _ ?_
  clear hK K
  refine AW.block ?_
  refine AW.seq_k fun K hK => ?_
  refine AW.region (by decide) ?_
  simp only [push_cast, simprocAttr, w4, w5]
  refine Thn_n ?_
  refine hK _ _ ?_
  clear hK K
  refine AW.cond_f rfl ?_
  refine AW.seq_k fun K hK => ?_
  refine AW.region (by decide) ?_
  simp only [push_cast, simprocAttr, w4, w5]
  refine Thn_n ?_
  refine hK _ _ ?_
  clear hK K
  refine AW.cond_t rfl ?_
  refine AW.seq_k fun K hK => ?_
  refine AW.region (by decide) ?_
  simp only [push_cast, simprocAttr, w4, w5]
  refine Thn_n ?_
  refine hK _ _ ?_
  clear hK K
  refine AW.ret ?_
  refine InB_r ?_
  refine Thn_r ?_
  refine hQ _ _ _ ?_
  refine RetP.pick [(m.length, 0)] (Or.inr rfl) ?_ ?_ ?_ hwf ?_
  · simp only [resA, resOne, resTv, AV.tv, push_cast, simprocAttr]
    simp [renV, renT, renL, renC, renIdx]
  · simp only [picks, push_cast, simprocAttr]; rw [hrow]
  · simp [distinctFrom]
  · exact MWf_one (nl_below _ _)
  
theorem rneeds3_c (f : Nat) (m : AMem) (hf : f ≤ 900) : Ctr Try.prog 15 [.one (.int .i64 3), .one (.int .i64 (f : Int))] m (.one (.sl m.length 0 0 1)) (m ++ [⟨.grow, 3, 0, 1, nl (ndL (4 * f + 3))⟩]) := by
  refine Ctr.enter Try.func15 rfl (by decide) (rs := [.tmp 4]) (nt := 32) rfl rfl fun hwf Q hQ => ?_
  have w4 : IntKind.i64.wrap (4 * (f : Int)) = 4 * (f : Int) := wi (by omega)
  have w5 : IntKind.i64.wrap (4 * (f : Int) + 2) = 4 * (f : Int) + 2 := wi (by omega)
  have hrow : nl (ndL (4 * f + 3)) = [.int .i64 (4 * (f : Int) + 2)] := by rw [nd3]; simp only [nl, List.map_cons, List.map_nil]; congr 3
  iterate 2
    refine AW.seq_k fun K hK => ?_
    refine AW.region (by decide) ?_
    simp only [push_cast, simprocAttr, w4, w5]
    refine Thn_n ?_
    refine hK _ _ ?_
    clear hK K
  refine AW.seq_k fun K hK => ?_
  refine AW.seq_k fun K hK => ?_
  refine AW.region (by decide) ?_
  simp only [push_cast, simprocAttr, w4, w5]
  refine Thn_n ?_
  refine hK _ _ ?_
  clear hK K
  refine AW.block ?_
  iterate 2
    refine AW.seq_k fun K hK => ?_
    refine AW.region (by decide) ?_
    simp only [push_cast, simprocAttr, w4, w5]
    refine Thn_n ?_
    refine hK _ _ ?_
    clear hK K
    refine AW.cond_f rfl ?_
  refine AW.seq_k fun K hK => ?_
  refine AW.region (by decide) ?_
  simp only [push_cast, simprocAttr, w4, w5]
  refine Thn_n ?_
  refine hK _ _ ?_
  clear hK K
  refine AW.cond_t rfl ?_
  refine AW.seq_k fun K hK => ?_
  refine AW.region (by decide) ?_
  simp only [push_cast, simprocAttr, w4, w5]
  refine Thn_n ?_
  refine hK _ _ ?_
  clear hK K
  refine AW.ret ?_
  refine InB_r ?_
  refine Thn_r ?_
  refine hQ _ _ _ ?_
  refine RetP.pick [(m.length, 0)] (Or.inr rfl) ?_ ?_ ?_ hwf ?_
  · simp only [resA, resOne, resTv, AV.tv, push_cast, simprocAttr]
    simp [renV, renT, renL, renC, renIdx]
  · simp only [picks, push_cast, simprocAttr]; rw [hrow]
  · simp [distinctFrom]
  · exact MWf_one (nl_below _ _)
  
end Go.Proofs.Ytmjbbnfmhgcfaaa

set_option linter.unusedSimpArgs false
set_option linter.unusedVariables false
set_option maxRecDepth 100000
set_option maxHeartbeats 4000000
namespace Go.Proofs.Ytmjbbnfmhgcfaaa
open Go Go.Eng

theorem setL_app {α : Type} : ∀ (vs l tl : List α) (pre : List α), l.length = vs.length → setL (pre ++ (l ++ tl)) pre.length vs = pre ++ (vs ++ tl)
  | [], [], tl, pre, _ => rfl
  | [], _ :: _, _, _, h => by simp at h
  | _ :: _, [], _, _, h => by simp at h
  | v :: vs, x :: l, tl, pre, h => by
    have ih := setL_app vs l tl (pre ++ [v]) (by simpa using h)
    simp only [setL, List.cons_append]
    rw [List.set_append_right _ _ (Nat.le_refl _), Nat.sub_self, List.set_cons_zero]
    simpa using ih
theorem setL_key (a b c : CV) (X : List Int) (h : X.length = 32) : setL [a, b, .int .u8 0, .int .u8 0, .int .u8 0, .int .u8 0, .int .u8 0, .int .u8 0, .int .u8 0, .int .u8 0, .int .u8 0, .int .u8 0, .int .u8 0, .int .u8 0, .int .u8 0, .int .u8 0, .int .u8 0, .int .u8 0, .int .u8 0, .int .u8 0, .int .u8 0, .int .u8 0, .int .u8 0, .int .u8 0, .int .u8 0, .int .u8 0, .int .u8 0, .int .u8 0, .int .u8 0, .int .u8 0, .int .u8 0, .int .u8 0, .int .u8 0, .int .u8 0, c] 2 (u8l X) = a :: b :: (u8l X ++ [c]) :=
  setL_app (u8l X) [.int .u8 0, .int .u8 0, .int .u8 0, .int .u8 0, .int .u8 0, .int .u8 0, .int .u8 0, .int .u8 0, .int .u8 0, .int .u8 0, .int .u8 0, .int .u8 0, .int .u8 0, .int .u8 0, .int .u8 0, .int .u8 0, .int .u8 0, .int .u8 0, .int .u8 0, .int .u8 0, .int .u8 0, .int .u8 0, .int .u8 0, .int .u8 0, .int .u8 0, .int .u8 0, .int .u8 0, .int .u8 0, .int .u8 0, .int .u8 0, .int .u8 0, .int .u8 0] [c] [a, b] (by rw [u8l_len, h]; rfl)
theorem rwF_wf (f : Nat) : ∀ k, MWf 0 (rwF f k)
  | 0 => MWf_nil
  | k + 1 => by
    refine MWf.app (rwF_wf f k) ?_
    split
    · exact MWf_nil
    · exact MWf_one (nl_below _ _)
theorem rwG_wf : ∀ f, MWf 0 (rwG f)
  | 0 => MWf_nil
  | f + 1 => MWf.app (rwG_wf f) (rwF_wf f 4)
theorem wR_below {J : List Int} {b L : Nat} : ∀ n, (∀ i, i < n → i % 4 ≠ 0 → b + rwN i < L) → (wR J b n).all (CV.below L) = true
  | 0, _ => rfl
  | n + 1, h => by
    have ih := wR_below (J := J) n fun i hi => h i (by omega)
    have h2 : (ndC b n).below L = true := by
      unfold ndC
      split
      · rfl
      · rename_i h3
        have := h n (by omega) h3
        simpa [CV.below] using this
    simp only [wR, List.all_append, ih, wC, List.all_cons, u8l_below, h2, List.all_nil]; rfl
theorem works_wf (J : List Int) (m R : AMem) (n v : Nat) (hm : MWf m.length m) (hR : MWf 0 R) (h : ∀ i, i < n → i % 4 ≠ 0 → rwN i < R.length) : MWf (m ++ (⟨.fix, 36, 0, 0, u8l J⟩ :: ⟨.grow, 39, v, 35, wR J (m.length + 2) n⟩ :: R)).length (m ++ (⟨.fix, 36, 0, 0, u8l J⟩ :: ⟨.grow, 39, v, 35, wR J (m.length + 2) n⟩ :: R)) := by
  refine MWf.app (hm.grow (by simp)) (MWf_cons (u8l_below _ _) (MWf_cons ?_ (hR.grow (Nat.zero_le _))))
  refine wR_below n fun i hi h3 => ?_
  have := h i hi h3
  simp only [List.length_append, List.length_cons]; omega
theorem mm_set (m : AMem) (b c d : Blk) (L : AMem) : (m ++ (b :: c :: L)).set (m.length + 1) d = m ++ (b :: d :: L) := by rw [set_app]; rfl
theorem works_c (J : List Int) (F : Nat) (x : Int) (m : AMem) (hJ : J.length = 32) (hJu : U8ok J) (hF : F ≤ 32) (hx : maxI 0 (minI x 32) = (F : Int)) : Ctr Try.prog 5 [.agg (u8l J), .one (.int .i64 x)] m (.one (.sl (m.length + 1) (4 * F) 0 (4 * F))) (m ++ (⟨.fix, 36, 0, 0, u8l J⟩ :: ⟨.grow, 39, 4 * F, 35, wR J (m.length + 2) (4 * F)⟩ :: rwG F)) := by
  refine Ctr.enter Try.func5 rfl (by decide) (rs := [.tmp 4]) (nt := 62) rfl rfl fun hwf Q hQ => ?_
  have hj1 := u8l_len J
  have hj2 : (u8l J).take 32 = u8l J := List.take_of_length_le (by rw [u8l_len, hJ]; exact Nat.le_refl _)
  have hj3 : setL [.int .u8 0, .int .u8 0, .int .u8 0, .int .u8 0, .int .u8 0, .int .u8 0, .int .u8 0, .int .u8 0, .int .u8 0, .int .u8 0, .int .u8 0, .int .u8 0, .int .u8 0, .int .u8 0, .int .u8 0, .int .u8 0, .int .u8 0, .int .u8 0, .int .u8 0, .int .u8 0, .int .u8 0, .int .u8 0, .int .u8 0, .int .u8 0, .int .u8 0, .int .u8 0, .int .u8 0, .int .u8 0, .int .u8 0, .int .u8 0, .int .u8 0, .int .u8 0] 0 (u8l J) = u8l J := setL_full (by rw [u8l_len, hJ]; rfl)
  have hj4 := u8l_vals J
  iterate 2
    refine AW.seq_k fun K hK => ?_
    refine AW.region (by decide) ?_
    simp only [push_cast, simprocAttr, imp_self, hJ, hj2, hj3, hj4, u8l_len, u8l_app, Nat.le_refl, Int.le_refl, hx]
    refine Thn_n ?_
    refine hK _ _ ?_
    clear hK K
  refine AW.seq_k fun K hK => ?_
  refine AW.seq_k fun K hK => ?_
  refine AW.nilTm 39 35 5 (by simp only [push_cast, simprocAttr]) ?_
  try simp only [push_cast, simprocAttr]
  refine AW.region (by decide) ?_
  simp only [push_cast, simprocAttr, imp_self, hJ, hj2, hj3, hj4, u8l_len, u8l_app, Nat.le_refl, Int.le_refl, hx]
  refine Thn_n ?_
  refine hK _ _ ?_
  clear hK K
  refine AW.block ?_
  refine AW.loopE0 [2, 14] (fun f => f ≤ F) (fun f => [(5, .one (.sl (m.length + 1) (4 * f) 0 (4 * f))), (15, .one (.int .i64 (f : Int)))]) (fun f => [(m.length + 1, ⟨.grow, 39, 4 * f, 35, wR J (m.length + 2) (4 * f)⟩)]) (fun f => rwG f) (fun f => F - f) 0 (by omega) ?_ ?_ ?_ fun f hi5 => ?_
  · first | rfl | (simp only [Keeps, Tm.get_cons, Nat.reduceEqDiff, ↓reduceIte, if_true, if_false, ite_true, ite_false, true_and, and_true, and_self, reduceCtorEq, Int.natCast_zero, Nat.mul_zero, wR, rwG] <;> rfl)
  · first | rfl | (simp only [setAll, push_cast, simprocAttr, imp_self, hJ, hj2, hj3, hj4, u8l_len, u8l_app, Nat.le_refl, Int.le_refl, hx, Int.natCast_zero, Nat.mul_zero, wR, rwG] <;> rfl)
  · exact fun i j _ _ h => by simp only [rwG_len]; omega
  have hf : f ≤ F := hi5
  try simp only [keepL, setAll, push_cast, simprocAttr, imp_self, hJ, hj2, hj3, hj4, u8l_len, u8l_app, Nat.le_refl, Int.le_refl, hx]
  refine AW.seq_k fun K hK => ?_
  refine AW.region (by decide) ?_
  simp only [push_cast, simprocAttr, imp_self, hJ, hj2, hj3, hj4, u8l_len, u8l_app, Nat.le_refl, Int.le_refl, hx]
  refine Thn_n ?_
  refine hK _ _ ?_
  clear hK K
  refine AW.seq_k fun K hK => ?_
  refine AW.cond rfl (fun h16 => ?_) (fun h16 => ?_)
  · have hlt : f < F := by have := of_decide_eq_true h16; omega
    refine AW.skip ?_
    refine Thn_n ?_
    refine hK _ _ ?_
    clear hK K
    refine AW.seq_k fun K hK => ?_
    refine AW.block ?_
    iterate 2
      refine AW.seq_k fun K hK => ?_
      refine AW.region (by decide) ?_
      simp only [push_cast, simprocAttr, imp_self, hJ, hj2, hj3, hj4, u8l_len, u8l_app, Nat.le_refl, Int.le_refl, hx]
      refine Thn_n ?_
      refine hK _ _ ?_
      clear hK K
    refine AW.block ?_
    refine AW.loopE0 [2, 6, 14, 15] (fun k => k ≤ (4 : Nat)) (fun k => [(5, .one (.sl (m.length + 1) (4 * f + k) 0 (4 * f + k))), (18, .one (.int .i64 (k : Int)))]) (fun k => [(m.length + 1, ⟨.grow, 39, (4 * f + k), 35, wR J (m.length + 2) ((4 * f + k))⟩)]) (fun k => rwF f k) (fun k => 4 - k) 0 (by omega) ?_ ?_ ?_ fun k hi11 => ?_
    · first | rfl | (simp only [Keeps, Tm.get_cons, Nat.reduceEqDiff, ↓reduceIte, if_true, if_false, ite_true, ite_false, true_and, and_true, and_self, reduceCtorEq, Int.natCast_zero, Nat.add_zero, rwF, List.append_nil] <;> rfl)
    · first | rfl | (simp only [setAll, push_cast, simprocAttr, imp_self, hJ, hj2, hj3, hj4, u8l_len, u8l_app, Nat.le_refl, Int.le_refl, hx, Int.natCast_zero, Nat.add_zero, rwF, List.append_nil] <;> rfl)
    · exact fun i j _ _ h => by simp only [rwF_len]; omega
    have hk : k ≤ 4 := hi11
    try simp only [keepL, setAll, push_cast, simprocAttr, imp_self, hJ, hj2, hj3, hj4, u8l_len, u8l_app, Nat.le_refl, Int.le_refl, hx]
    refine AW.seq_k fun K hK => ?_
    refine AW.region (by decide) ?_
    simp only [push_cast, simprocAttr, imp_self, hJ, hj2, hj3, hj4, u8l_len, u8l_app, Nat.le_refl, Int.le_refl, hx]
    refine Thn_n ?_
    refine hK _ _ ?_
    clear hK K
    refine AW.seq_k fun K hK => ?_
    refine AW.cond rfl (fun h19 => ?_) (fun h19 => ?_)
    · have hltk : k < 4 := by have := of_decide_eq_true h19; omega
      refine AW.skip ?_
      refine Thn_n ?_
      refine hK _ _ ?_
      clear hK K
      refine AW.seq_k fun K hK => ?_
      refine AW.block ?_
      refine AW.seq_k fun K hK => ?_
      obtain ⟨M, hM⟩ : ∃ M, M = m ++ (⟨.fix, 36, 0, 0, u8l J⟩ :: ⟨.grow, 39, (4 * f + k), 35, wR J (m.length + 2) ((4 * f + k))⟩ :: (rwG f ++ rwF f k)) := ⟨_, rfl⟩
      rw [← hM]
      obtain ⟨n, hn⟩ : ∃ n, n = 4 * f + k := ⟨_, rfl⟩
      obtain ⟨kn, hkn⟩ : ∃ kn, kn = k + 1 := ⟨_, rfl⟩
      rw [← hn] at hM ⊢
      have hMl : M.length = m.length + (2 + (3 * f + (k - 1))) := by rw [hM]; simp only [List.length_append, List.length_cons, rwG_len, rwF_len]; omega
      have gB : M[m.length]? = some ⟨.fix, 36, 0, 0, u8l J⟩ := by rw [hM, lk_app0]; rfl
      have gO : M[m.length + 1]? = some ⟨.grow, 39, n, 35, wR J (m.length + 2) (n)⟩ := by rw [hM, lk_app]; rfl
      have lO : m.length + 1 < M.length := by omega
      have kS := fun (L : AMem) (b : Blk) => mk_olds (m := M) (l := M) rfl lO L b
      have kM : ∀ b : Blk, M.set (m.length + 1) b = m ++ (⟨.fix, 36, 0, 0, u8l J⟩ :: b :: (rwG f ++ rwF f k)) := fun b => by rw [hM]; exact mm_set _ _ _ _ _
      have hrf : rwF f kn = rwF f k ++ (if k = 0 then [] else [⟨.grow, 3, 0, 1, nl (ndL n)⟩]) := by rw [hkn, hn]; rfl
      obtain ⟨RR, hRR⟩ : ∃ RR, RR = rwG f ++ rwF f kn := ⟨_, rfl⟩
      have hwR : MWf 0 RR := by rw [hRR]; exact MWf.app (rwG_wf f) (rwF_wf f kn)
      have hwL : ∀ i, i < n + 1 → i % 4 ≠ 0 → rwN i < RR.length := fun i hi h => by rw [hRR, List.length_append, rwG_len, rwF_len]; unfold rwN; omega
      have e6 : True := trivial
      have hrf6 : True := trivial
      have hki6 : True := trivial
      have hwl := wR_len J (m.length + 2) n
      have hky := ky_eq J n
      rw [ofB_eq] at hky
      have hkl := ky_len J n
      have hko := ky_ok J n
      have hkv := u8l_vals (ky J n)
      have hwn : wR J (m.length + 2) (n + 1) = wR J (m.length + 2) n ++ wC J (m.length + 2) n := rfl
      have e5 : 4 * f + kn = n + 1 := by omega
      have q1 : n + 1 ≤ 140737488355328 := by omega
      have q3 : 35 * n = n * 35 := Nat.mul_comm _ _
      have q2 : (n + 1) * 72 ≤ 140737488355328 := by omega
      have hcl := wC_len J (m.length + 2) n
      have hct : (wC J (m.length + 2) n).take 35 = wC J (m.length + 2) n := List.take_of_length_le (by rw [hcl]; exact Nat.le_refl _)
      have hcs : setL [.int .i64 0, .int .i64 0, .int .u8 0, .int .u8 0, .int .u8 0, .int .u8 0, .int .u8 0, .int .u8 0, .int .u8 0, .int .u8 0, .int .u8 0, .int .u8 0, .int .u8 0, .int .u8 0, .int .u8 0, .int .u8 0, .int .u8 0, .int .u8 0, .int .u8 0, .int .u8 0, .int .u8 0, .int .u8 0, .int .u8 0, .int .u8 0, .int .u8 0, .int .u8 0, .int .u8 0, .int .u8 0, .int .u8 0, .int .u8 0, .int .u8 0, .int .u8 0, .int .u8 0, .int .u8 0, .nils] 0 (wC J (m.length + 2) n) = wC J (m.length + 2) n := setL_full (by rw [hcl]; rfl)
      dsimp only at hcs
      have hcv : (wC J (m.length + 2) n).all CV.isVal = true := wC_vals _ _ _
      have hwc0 : wC J (m.length + 2) n = .int .i64 ((n % 4 : Nat) : Int) :: .int .i64 ((n / 4 : Nat) : Int) :: (u8l (ky J n) ++ [ndC (m.length + 2) n]) := rfl
      refine AW.region (by decide) ?_
      simp only [push_cast, simprocAttr, imp_self, hJ, hj2, hj3, hj4, u8l_len, u8l_app, Nat.le_refl, Int.le_refl, hx]
      refine Thn_n ?_
      refine hK _ _ ?_
      clear hK K
      refine AW.seq_k fun K hK => ?_
      have hcs : k = 0 ∨ (k = 1 ∧ f = 0) ∨ (k = 1 ∧ ∃ g, f = g + 1) ∨ k = 2 ∨ k = 3 := by
        have : k = 0 ∨ k = 1 ∨ k = 2 ∨ k = 3 := by omega
        rcases this with h | h | h | h
        · exact .inl h
        · rcases Nat.eq_zero_or_pos f with h0 | h0
          · exact .inr (.inl ⟨h, h0⟩)
          · exact .inr (.inr (.inl ⟨h, f - 1, by omega⟩))
        · exact .inr (.inr (.inr (.inl h)))
        · exact .inr (.inr (.inr (.inr h)))
      rcases hcs with rfl | ⟨rfl, rfl⟩ | ⟨rfl, g, rfl⟩ | rfl | rfl
      · have hm0 : n % 4 = 0 := by omega
        have hd0 : n / 4 = f := by omega
        rw [hm0, hd0] at hky hwc0
        have hrowA : True := trivial
        have hrowB : True := trivial
        have hnd : ndC (m.length + 2) n = .nils := by unfold ndC; rw [hm0]; rfl
        rw [if_pos rfl] at hky hrf
        rw [List.append_nil] at hrf
        simp only [push_cast, simprocAttr] at hky
        have hki : ((kn : Nat) : Int) = 1 := by omega
        have hwc : CV.int .i64 0 :: .int .i64 (f : Int) :: (u8l (ky J n) ++ [.nils]) = wC J (m.length + 2) n := by rw [hwc0, hnd]; rfl
        have hsk := setL_key (.int .i64 0) (.int .i64 (f : Int)) (.nils) (ky J n) hkl
        dsimp only at hsk
        have hq2 : ∀ l : List CV, l = l := fun _ => rfl
        refine AW.region (by decide) ?_
        simp only [push_cast, simprocAttr, imp_self, hJ, hj2, hj3, hj4, u8l_len, u8l_app, Nat.le_refl, Int.le_refl, hx, gB, lk_old gB, gO, lk_old gO, kS, hkl, hkv, hsk, hwc, hwl, q1, q2, q3, hcl, hct, hcs, hcv, hky.symm]
        refine CThen.by (needs0_c f _) ?_
        simp only [push_cast, simprocAttr, imp_self, hJ, hj2, hj3, hj4, u8l_len, u8l_app, Nat.le_refl, Int.le_refl, hx, gB, lk_old gB, gO, lk_old gO, kS, hkl, hkv, hsk, hwc, hwl, q1, q2, q3, hcl, hct, hcs, hcv, hky.symm]
        refine Thn_n ?_
        refine hK _ _ ?_
        clear hK K
        refine AW.seq_k fun K hK => ?_
        refine AW.region (by decide) ?_
        simp only [push_cast, simprocAttr, imp_self, hJ, hj2, hj3, hj4, u8l_len, u8l_app, Nat.le_refl, Int.le_refl, hx, gB, lk_old gB, gO, lk_old gO, kS, hkl, hkv, hsk, hwc, hwl, q1, q2, q3, hcl, hct, hcs, hcv, hky.symm]
        refine Thn_n ?_
        refine hK _ _ ?_
        clear hK K
        refine AW.seq_k fun K hK => ?_
        refine AW.seq_k fun K hK => ?_
        refine AW.region (by decide) ?_
        simp only [push_cast, simprocAttr, imp_self, hJ, hj2, hj3, hj4, u8l_len, u8l_app, Nat.le_refl, Int.le_refl, hx, gB, lk_old gB, gO, lk_old gO, kS, hkl, hkv, hsk, hwc, hwl, q1, q2, q3, hcl, hct, hcs, hcv, hky.symm]
        refine Thn_n ?_
        refine hK _ _ ?_
        clear hK K
        refine AW.cond_t rfl ?_
        refine AW.region (by decide) ?_
        simp only [push_cast, simprocAttr, imp_self, hJ, hj2, hj3, hj4, u8l_len, u8l_app, Nat.le_refl, Int.le_refl, hx, gB, lk_old gB, gO, lk_old gO, kS, hkl, hkv, hsk, hwc, hwl, q1, q2, q3, hcl, hct, hcs, hcv, hky.symm]
        refine Thn_n ?_
        refine hK _ _ ?_
        clear hK K
        refine AW.seq_k fun K hK => ?_
        refine AW.seq_k fun K hK => ?_
        refine AW.region (by decide) ?_
        simp only [push_cast, simprocAttr, imp_self, hJ, hj2, hj3, hj4, u8l_len, u8l_app, Nat.le_refl, Int.le_refl, hx, gB, lk_old gB, gO, lk_old gO, kS, hkl, hkv, hsk, hwc, hwl, q1, q2, q3, hcl, hct, hcs, hcv, hky.symm]
        refine Thn_n ?_
        refine hK _ _ ?_
        clear hK K
        refine AW.block ?_
        refine AW.rounds 1 ?_
        refine ARounds.succ fun K hK => ?_
        refine AW.seq_k fun K hK => ?_
        refine AW.region (by decide) ?_
        simp only [push_cast, simprocAttr, imp_self, hJ, hj2, hj3, hj4, u8l_len, u8l_app, Nat.le_refl, Int.le_refl, hx, gB, lk_old gB, gO, lk_old gO, kS, hkl, hkv, hsk, hwc, hwl, q1, q2, q3, hcl, hct, hcs, hcv, hky.symm]
        refine Thn_n ?_
        refine hK _ _ ?_
        clear hK K
        refine AW.seq_k fun K hK => ?_
        refine AW.cond_f rfl ?_
        refine AW.exit ?_
        refine Thn_e ?_
        clear hK K
        refine Thn_e ?_
        clear hK K
        refine InB_here ?_
        refine Thn_n ?_
        refine hK _ _ ?_
        clear hK K
        refine AW.seq_k fun K hK => ?_
        refine AW.region (by decide) ?_
        simp only [push_cast, simprocAttr, imp_self, hJ, hj2, hj3, hj4, u8l_len, u8l_app, Nat.le_refl, Int.le_refl, hx, gB, lk_old gB, gO, lk_old gO, kS, hkl, hkv, hsk, hwc, hwl, q1, q2, q3, hcl, hct, hcs, hcv, hky.symm]
        refine CThen.by (key_c 0 (f : Int) (M.length + 1) 1 1 J .grow 32 _ (by simp only [push_cast, simprocAttr, gB, lk_old gB]) (by rw [hJ]) hJu (by decide)) ?_
        simp only [push_cast, simprocAttr, imp_self, hJ, hj2, hj3, hj4, u8l_len, u8l_app, Nat.le_refl, Int.le_refl, hx, gB, lk_old gB, gO, lk_old gO, kS, hkl, hkv, hsk, hwc, hwl, q1, q2, q3, hcl, hct, hcs, hcv, hky.symm]
        refine Thn_n ?_
        refine hK _ _ ?_
        clear hK K
        refine AW.region (by decide) ?_
        simp only [push_cast, simprocAttr, imp_self, hJ, hj2, hj3, hj4, u8l_len, u8l_app, Nat.le_refl, Int.le_refl, hx, gB, lk_old gB, gO, lk_old gO, kS, hkl, hkv, hsk, hwc, hwl, q1, q2, q3, hcl, hct, hcs, hcv, hky.symm]
        refine InB_n ?_
        refine Thn_n ?_
        refine hK _ _ ?_
        clear hK K
        refine AW.region (by decide) ?_
        simp only [push_cast, simprocAttr, imp_self, hJ, hj2, hj3, hj4, u8l_len, u8l_app, Nat.le_refl, Int.le_refl, hx, gB, lk_old gB, gO, lk_old gO, kS, hkl, hkv, hsk, hwc, hwl, q1, q2, q3, hcl, hct, hcs, hcv, hky.symm]
        refine Thn_n ?_
        refine ⟨kn, by omega, by omega, ?_⟩
        try simp only [keepL, setAll, push_cast, simprocAttr, imp_self, hJ, hj2, hj3, hj4, u8l_len, u8l_app, Nat.le_refl, Int.le_refl, hx, gB, lk_old gB, gO, lk_old gO, kS, hkl, hkv, hsk, hwc, hwl, q1, q2, q3, hcl, hct, hcs, hcv, hky.symm, e6, hki6, hrf6, hki, kM, hrf, e5, hwn, List.append_assoc]
        first
          | exact Weak.to (extra := [_, _, _, _]) (by simp only [Keeps, Tm.get_cons, Nat.reduceEqDiff, ↓reduceIte, if_true, if_false, ite_true, ite_false, true_and, and_true, and_self, reduceCtorEq, e6, hki6, hrf6, hki, kM, hrf, e5, hwn, List.append_assoc]) (by first | rfl | (simp only [List.append_assoc, List.cons_append, List.nil_append]; rfl)) (by first | rfl | (simp [AV.below, CV.below, u8l_below]; done) | (simp [AV.below, CV.below, u8l_below]; omega)) (by have h := works_wf J m RR (n + 1) (n + 1) hwf hwR hwL; simp only [hRR, e6, hki6, hrf6, hki, kM, hrf, hwn, hrowA, hrowB, List.append_assoc, push_cast, simprocAttr] at h ⊢; exact h)
          | exact Weak.to (extra := [_, _, _, _, _]) (by simp only [Keeps, Tm.get_cons, Nat.reduceEqDiff, ↓reduceIte, if_true, if_false, ite_true, ite_false, true_and, and_true, and_self, reduceCtorEq, e6, hki6, hrf6, hki, kM, hrf, e5, hwn, List.append_assoc]) (by first | rfl | (simp only [List.append_assoc, List.cons_append, List.nil_append]; rfl)) (by first | rfl | (simp [AV.below, CV.below, u8l_below]; done) | (simp [AV.below, CV.below, u8l_below]; omega)) (by have h := works_wf J m RR (n + 1) (n + 1) hwf hwR hwL; simp only [hRR, e6, hki6, hrf6, hki, kM, hrf, hwn, hrowA, hrowB, List.append_assoc, push_cast, simprocAttr] at h ⊢; exact h)
          | exact Weak.to (extra := [_, _, _, _, _, _]) (by simp only [Keeps, Tm.get_cons, Nat.reduceEqDiff, ↓reduceIte, if_true, if_false, ite_true, ite_false, true_and, and_true, and_self, reduceCtorEq, e6, hki6, hrf6, hki, kM, hrf, e5, hwn, List.append_assoc]) (by first | rfl | (simp only [List.append_assoc, List.cons_append, List.nil_append]; rfl)) (by first | rfl | (simp [AV.below, CV.below, u8l_below]; done) | (simp [AV.below, CV.below, u8l_below]; omega)) (by have h := works_wf J m RR (n + 1) (n + 1) hwf hwR hwL; simp only [hRR, e6, hki6, hrf6, hki, kM, hrf, hwn, hrowA, hrowB, List.append_assoc, push_cast, simprocAttr] at h ⊢; exact h)
      · have hm0 : n % 4 = 1 := by omega
        have hd0 : n / 4 = 0 := by omega
        rw [hm0, hd0] at hky hwc0
        have hnn : n = 1 := by omega
        have hndl : ndL n = [0] := by rw [hnn]; exact nd1z
        have hrowA : nl (ndL 1) = [.int .i64 ((0 : Nat) : Int)] := by rw [nd1z]; rfl
        have hrowB : nl (ndL n) = [.int .i64 ((0 : Nat) : Int)] := by rw [hndl]; rfl
        simp only [push_cast, simprocAttr] at hrowA hrowB
        have hnd : ndC (m.length + 2) n = .sl M.length 0 0 1 := by
          unfold ndC rwN; rw [hm0, hd0, hndl, if_neg (by decide), hMl]
          congr 1 <;> omega
        rw [if_neg (by decide)] at hky hrf
        rw [hndl] at hky
        simp only [List.flatMap_cons, List.flatMap_nil, List.append_nil] at hky
        have hDl : (ky J (0)).length = 32 * 1 := by simp only [List.length_append, ky_len]
        have hDo : U8ok (ky J (0)) := ky_ok _ _
        simp only [push_cast, simprocAttr] at hky
        have hki : ((kn : Nat) : Int) = 2 := by omega
        have hwc : CV.int .i64 1 :: .int .i64 0 :: (u8l (ky J n) ++ [.sl M.length 0 0 1]) = wC J (m.length + 2) n := by rw [hwc0, hnd]; rfl
        have hsk := setL_key (.int .i64 1) (.int .i64 0) (.sl M.length 0 0 1) (ky J n) hkl
        dsimp only at hsk
        have hq2 : ∀ l : List CV, l = l := fun _ => rfl
        have e6 : kn = n + 1 := by omega
        have hrf6 : rwF 0 (n + 1) = _ := e6 ▸ hrf
        have hki6 : (n : Int) + 1 = 2 := by omega
        have cp0 : (0 : Int) ≤ (0 : Int) := by omega
        have dp0 : (0 : Int) < (n : Int) := by omega
        have zp0 : ((0 : Int)).toNat = 0 := by omega
        have bp0 : (0) * 35 + 34 ≤ n * 35 := by omega
        have kp0 := wR_key J (m.length + 2) n (0) (by omega)
        rw [show 35 * (0) = (0) * 35 from Nat.mul_comm _ _] at kp0
        have lp0 := ky_len J (0)
        have op0 := ky_ok J (0)
        have sp0 : setL [.int .u8 0, .int .u8 0, .int .u8 0, .int .u8 0, .int .u8 0, .int .u8 0, .int .u8 0, .int .u8 0, .int .u8 0, .int .u8 0, .int .u8 0, .int .u8 0, .int .u8 0, .int .u8 0, .int .u8 0, .int .u8 0, .int .u8 0, .int .u8 0, .int .u8 0, .int .u8 0, .int .u8 0, .int .u8 0, .int .u8 0, .int .u8 0, .int .u8 0, .int .u8 0, .int .u8 0, .int .u8 0, .int .u8 0, .int .u8 0, .int .u8 0, .int .u8 0] 0 (u8l (ky J (0))) = u8l (ky J (0)) := setL_full (by rw [u8l_len, lp0]; rfl)
        have vp0 := u8l_vals (ky J (0))
        have xp0 : (u8l (ky J (0))).take 32 = u8l (ky J (0)) := List.take_of_length_le (by rw [u8l_len, lp0]; exact Nat.le_refl _)
        try simp only [push_cast, simprocAttr] at bp0
        try simp only [push_cast, simprocAttr] at kp0
        refine AW.region (by decide) ?_
        simp only [push_cast, simprocAttr, imp_self, hJ, hj2, hj3, hj4, u8l_len, u8l_app, Nat.le_refl, Int.le_refl, hx, gB, lk_old gB, gO, lk_old gO, kS, hkl, hkv, hsk, hwc, hwl, q1, q2, q3, hcl, hct, hcs, hcv, hky.symm, hrowA, hrowB, cp0, dp0, zp0, bp0, kp0, lp0, sp0, vp0, xp0]
        refine CThen.by (needs1z_c _) ?_
        simp only [push_cast, simprocAttr, imp_self, hJ, hj2, hj3, hj4, u8l_len, u8l_app, Nat.le_refl, Int.le_refl, hx, gB, lk_old gB, gO, lk_old gO, kS, hkl, hkv, hsk, hwc, hwl, q1, q2, q3, hcl, hct, hcs, hcv, hky.symm, hrowA, hrowB, cp0, dp0, zp0, bp0, kp0, lp0, sp0, vp0, xp0]
        refine Thn_n ?_
        refine hK _ _ ?_
        clear hK K
        refine AW.seq_k fun K hK => ?_
        refine AW.region (by decide) ?_
        simp only [push_cast, simprocAttr, imp_self, hJ, hj2, hj3, hj4, u8l_len, u8l_app, Nat.le_refl, Int.le_refl, hx, gB, lk_old gB, gO, lk_old gO, kS, hkl, hkv, hsk, hwc, hwl, q1, q2, q3, hcl, hct, hcs, hcv, hky.symm, hrowA, hrowB, cp0, dp0, zp0, bp0, kp0, lp0, sp0, vp0, xp0]
        refine Thn_n ?_
        refine hK _ _ ?_
        clear hK K
        refine AW.seq_k fun K hK => ?_
        refine AW.seq_k fun K hK => ?_
        refine AW.region (by decide) ?_
        simp only [push_cast, simprocAttr, imp_self, hJ, hj2, hj3, hj4, u8l_len, u8l_app, Nat.le_refl, Int.le_refl, hx, gB, lk_old gB, gO, lk_old gO, kS, hkl, hkv, hsk, hwc, hwl, q1, q2, q3, hcl, hct, hcs, hcv, hky.symm, hrowA, hrowB, cp0, dp0, zp0, bp0, kp0, lp0, sp0, vp0, xp0]
        refine Thn_n ?_
        refine hK _ _ ?_
        clear hK K
        refine AW.cond_f rfl ?_
        refine AW.skip ?_
        refine Thn_n ?_
        refine hK _ _ ?_
        clear hK K
        refine AW.seq_k fun K hK => ?_
        refine AW.seq_k fun K hK => ?_
        refine AW.region (by decide) ?_
        simp only [push_cast, simprocAttr, imp_self, hJ, hj2, hj3, hj4, u8l_len, u8l_app, Nat.le_refl, Int.le_refl, hx, gB, lk_old gB, gO, lk_old gO, kS, hkl, hkv, hsk, hwc, hwl, q1, q2, q3, hcl, hct, hcs, hcv, hky.symm, hrowA, hrowB, cp0, dp0, zp0, bp0, kp0, lp0, sp0, vp0, xp0]
        refine Thn_n ?_
        refine hK _ _ ?_
        clear hK K
        refine AW.block ?_
        refine AW.rounds 2 ?_
        refine ARounds.succ fun K hK => ?_
        refine AW.seq_k fun K hK => ?_
        refine AW.region (by decide) ?_
        simp only [push_cast, simprocAttr, imp_self, hJ, hj2, hj3, hj4, u8l_len, u8l_app, Nat.le_refl, Int.le_refl, hx, gB, lk_old gB, gO, lk_old gO, kS, hkl, hkv, hsk, hwc, hwl, q1, q2, q3, hcl, hct, hcs, hcv, hky.symm, hrowA, hrowB, cp0, dp0, zp0, bp0, kp0, lp0, sp0, vp0, xp0]
        refine Thn_n ?_
        refine hK _ _ ?_
        clear hK K
        refine AW.seq_k fun K hK => ?_
        refine AW.cond_t rfl ?_
        refine AW.skip ?_
        refine Thn_n ?_
        refine hK _ _ ?_
        clear hK K
        refine AW.seq_k fun K hK => ?_
        refine AW.block ?_
        refine AW.seq_k fun K hK => ?_
        refine AW.region (by decide) ?_
        simp only [push_cast, simprocAttr, imp_self, hJ, hj2, hj3, hj4, u8l_len, u8l_app, Nat.le_refl, Int.le_refl, hx, gB, lk_old gB, gO, lk_old gO, kS, hkl, hkv, hsk, hwc, hwl, q1, q2, q3, hcl, hct, hcs, hcv, hky.symm, hrowA, hrowB, cp0, dp0, zp0, bp0, kp0, lp0, sp0, vp0, xp0]
        refine Thn_n ?_
        refine hK _ _ ?_
        clear hK K
        refine AW.region (by decide) ?_
        simp only [push_cast, simprocAttr, imp_self, hJ, hj2, hj3, hj4, u8l_len, u8l_app, Nat.le_refl, Int.le_refl, hx, gB, lk_old gB, gO, lk_old gO, kS, hkl, hkv, hsk, hwc, hwl, q1, q2, q3, hcl, hct, hcs, hcv, hky.symm, hrowA, hrowB, cp0, dp0, zp0, bp0, kp0, lp0, sp0, vp0, xp0]
        refine InB_n ?_
        refine Thn_n ?_
        refine hK _ _ ?_
        clear hK K
        refine AW.region (by decide) ?_
        simp only [push_cast, simprocAttr, imp_self, hJ, hj2, hj3, hj4, u8l_len, u8l_app, Nat.le_refl, Int.le_refl, hx, gB, lk_old gB, gO, lk_old gO, kS, hkl, hkv, hsk, hwc, hwl, q1, q2, q3, hcl, hct, hcs, hcv, hky.symm, hrowA, hrowB, cp0, dp0, zp0, bp0, kp0, lp0, sp0, vp0, xp0]
        refine Thn_n ?_
        refine hK _ _ ?_
        clear hK K
        refine ARounds.succ fun K hK => ?_
        refine AW.seq_k fun K hK => ?_
        refine AW.region (by decide) ?_
        simp only [push_cast, simprocAttr, imp_self, hJ, hj2, hj3, hj4, u8l_len, u8l_app, Nat.le_refl, Int.le_refl, hx, gB, lk_old gB, gO, lk_old gO, kS, hkl, hkv, hsk, hwc, hwl, q1, q2, q3, hcl, hct, hcs, hcv, hky.symm, hrowA, hrowB, cp0, dp0, zp0, bp0, kp0, lp0, sp0, vp0, xp0]
        refine Thn_n ?_
        refine hK _ _ ?_
        clear hK K
        refine AW.seq_k fun K hK => ?_
        refine AW.cond_f rfl ?_
        refine AW.exit ?_
        refine Thn_e ?_
        clear hK K
        refine Thn_e ?_
        clear hK K
        refine InB_here ?_
        refine Thn_n ?_
        refine hK _ _ ?_
        clear hK K
        refine AW.seq_k fun K hK => ?_
        refine AW.region (by decide) ?_
        simp only [push_cast, simprocAttr, imp_self, hJ, hj2, hj3, hj4, u8l_len, u8l_app, Nat.le_refl, Int.le_refl, hx, gB, lk_old gB, gO, lk_old gO, kS, hkl, hkv, hsk, hwc, hwl, q1, q2, q3, hcl, hct, hcs, hcv, hky.symm, hrowA, hrowB, cp0, dp0, zp0, bp0, kp0, lp0, sp0, vp0, xp0]
        refine CThen.by (key_c 1 0 (M.length + 2) 1 1 (ky J (0)) .grow 32 _ (by simp only [push_cast, simprocAttr, u8l_app]) hDl hDo (by decide)) ?_
        simp only [push_cast, simprocAttr, imp_self, hJ, hj2, hj3, hj4, u8l_len, u8l_app, Nat.le_refl, Int.le_refl, hx, gB, lk_old gB, gO, lk_old gO, kS, hkl, hkv, hsk, hwc, hwl, q1, q2, q3, hcl, hct, hcs, hcv, hky.symm, hrowA, hrowB, cp0, dp0, zp0, bp0, kp0, lp0, sp0, vp0, xp0]
        refine Thn_n ?_
        refine hK _ _ ?_
        clear hK K
        refine AW.region (by decide) ?_
        simp only [push_cast, simprocAttr, imp_self, hJ, hj2, hj3, hj4, u8l_len, u8l_app, Nat.le_refl, Int.le_refl, hx, gB, lk_old gB, gO, lk_old gO, kS, hkl, hkv, hsk, hwc, hwl, q1, q2, q3, hcl, hct, hcs, hcv, hky.symm, hrowA, hrowB, cp0, dp0, zp0, bp0, kp0, lp0, sp0, vp0, xp0]
        refine InB_n ?_
        refine Thn_n ?_
        refine hK _ _ ?_
        clear hK K
        refine AW.region (by decide) ?_
        simp only [push_cast, simprocAttr, imp_self, hJ, hj2, hj3, hj4, u8l_len, u8l_app, Nat.le_refl, Int.le_refl, hx, gB, lk_old gB, gO, lk_old gO, kS, hkl, hkv, hsk, hwc, hwl, q1, q2, q3, hcl, hct, hcs, hcv, hky.symm, hrowA, hrowB, cp0, dp0, zp0, bp0, kp0, lp0, sp0, vp0, xp0]
        refine Thn_n ?_
        refine ⟨kn, by omega, by omega, ?_⟩
        try simp only [keepL, setAll, push_cast, simprocAttr, imp_self, hJ, hj2, hj3, hj4, u8l_len, u8l_app, Nat.le_refl, Int.le_refl, hx, gB, lk_old gB, gO, lk_old gO, kS, hkl, hkv, hsk, hwc, hwl, q1, q2, q3, hcl, hct, hcs, hcv, hky.symm, hrowA, hrowB, cp0, dp0, zp0, bp0, kp0, lp0, sp0, vp0, xp0, e6, hki6, hrf6, hki, kM, hrf, e5, hwn, List.append_assoc]
        first
          | exact Weak.to (extra := [_, _, _, _]) (by simp only [Keeps, Tm.get_cons, Nat.reduceEqDiff, ↓reduceIte, if_true, if_false, ite_true, ite_false, true_and, and_true, and_self, reduceCtorEq, e6, hki6, hrf6, hki, kM, hrf, e5, hwn, List.append_assoc]) (by first | rfl | (simp only [List.append_assoc, List.cons_append, List.nil_append]; rfl)) (by first | rfl | (simp [AV.below, CV.below, u8l_below]; done) | (simp [AV.below, CV.below, u8l_below]; omega)) (by have h := works_wf J m RR (n + 1) (n + 1) hwf hwR hwL; simp only [hRR, e6, hki6, hrf6, hki, kM, hrf, hwn, hrowA, hrowB, List.append_assoc, push_cast, simprocAttr] at h ⊢; exact h)
          | exact Weak.to (extra := [_, _, _, _, _]) (by simp only [Keeps, Tm.get_cons, Nat.reduceEqDiff, ↓reduceIte, if_true, if_false, ite_true, ite_false, true_and, and_true, and_self, reduceCtorEq, e6, hki6, hrf6, hki, kM, hrf, e5, hwn, List.append_assoc]) (by first | rfl | (simp only [List.append_assoc, List.cons_append, List.nil_append]; rfl)) (by first | rfl | (simp [AV.below, CV.below, u8l_below]; done) | (simp [AV.below, CV.below, u8l_below]; omega)) (by have h := works_wf J m RR (n + 1) (n + 1) hwf hwR hwL; simp only [hRR, e6, hki6, hrf6, hki, kM, hrf, hwn, hrowA, hrowB, List.append_assoc, push_cast, simprocAttr] at h ⊢; exact h)
          | exact Weak.to (extra := [_, _, _, _, _, _]) (by simp only [Keeps, Tm.get_cons, Nat.reduceEqDiff, ↓reduceIte, if_true, if_false, ite_true, ite_false, true_and, and_true, and_self, reduceCtorEq, e6, hki6, hrf6, hki, kM, hrf, e5, hwn, List.append_assoc]) (by first | rfl | (simp only [List.append_assoc, List.cons_append, List.nil_append]; rfl)) (by first | rfl | (simp [AV.below, CV.below, u8l_below]; done) | (simp [AV.below, CV.below, u8l_below]; omega)) (by have h := works_wf J m RR (n + 1) (n + 1) hwf hwR hwL; simp only [hRR, e6, hki6, hrf6, hki, kM, hrf, hwn, hrowA, hrowB, List.append_assoc, push_cast, simprocAttr] at h ⊢; exact h)
      · have hm0 : n % 4 = 1 := by omega
        have hd0 : n / 4 = (g + 1) := by omega
        rw [hm0, hd0] at hky hwc0
        have hnn : n = (4 * (g + 1) + 1) := by omega
        have hndl : ndL n = [4 * (g + 1), 4 * g, 4 * g + 1] := by rw [hnn]; exact nd1s g
        have hrowA : nl (ndL (4 * (g + 1) + 1)) = [.int .i64 ((4 * (g + 1) : Nat) : Int), .int .i64 ((4 * g : Nat) : Int), .int .i64 ((4 * g + 1 : Nat) : Int)] := by rw [nd1s g]; rfl
        have hrowB : nl (ndL n) = [.int .i64 ((4 * (g + 1) : Nat) : Int), .int .i64 ((4 * g : Nat) : Int), .int .i64 ((4 * g + 1 : Nat) : Int)] := by rw [hndl]; rfl
        simp only [push_cast, simprocAttr] at hrowA hrowB
        have hnd : ndC (m.length + 2) n = .sl M.length 0 0 3 := by
          unfold ndC rwN; rw [hm0, hd0, hndl, if_neg (by decide), hMl]
          congr 1 <;> omega
        rw [if_neg (by decide)] at hky hrf
        rw [hndl] at hky
        simp only [List.flatMap_cons, List.flatMap_nil, List.append_nil] at hky
        have hDl : (ky J (4 * (g + 1)) ++ (ky J (4 * g) ++ (ky J (4 * g + 1)))).length = 32 * 3 := by simp only [List.length_append, ky_len]
        have hDo : U8ok (ky J (4 * (g + 1)) ++ (ky J (4 * g) ++ (ky J (4 * g + 1)))) := (ky_ok _ _).app ((ky_ok _ _).app (ky_ok _ _))
        simp only [push_cast, simprocAttr] at hky
        have hki : ((kn : Nat) : Int) = 2 := by omega
        have hwc : CV.int .i64 1 :: .int .i64 ((g : Int) + 1) :: (u8l (ky J n) ++ [.sl M.length 0 0 3]) = wC J (m.length + 2) n := by rw [hwc0, hnd]; rfl
        have hsk := setL_key (.int .i64 1) (.int .i64 ((g : Int) + 1)) (.sl M.length 0 0 3) (ky J n) hkl
        dsimp only at hsk
        have hq2 : ∀ l : List CV, l = l := fun _ => rfl
        have cp0 : (0 : Int) ≤ 4 * ((g : Int) + 1) := by omega
        have dp0 : 4 * ((g : Int) + 1) < (n : Int) := by omega
        have zp0 : (4 * ((g : Int) + 1)).toNat = 4 * (g + 1) := by omega
        have bp0 : (4 * (g + 1)) * 35 + 34 ≤ n * 35 := by omega
        have kp0 := wR_key J (m.length + 2) n (4 * (g + 1)) (by omega)
        rw [show 35 * (4 * (g + 1)) = (4 * (g + 1)) * 35 from Nat.mul_comm _ _] at kp0
        have lp0 := ky_len J (4 * (g + 1))
        have op0 := ky_ok J (4 * (g + 1))
        have sp0 : setL [.int .u8 0, .int .u8 0, .int .u8 0, .int .u8 0, .int .u8 0, .int .u8 0, .int .u8 0, .int .u8 0, .int .u8 0, .int .u8 0, .int .u8 0, .int .u8 0, .int .u8 0, .int .u8 0, .int .u8 0, .int .u8 0, .int .u8 0, .int .u8 0, .int .u8 0, .int .u8 0, .int .u8 0, .int .u8 0, .int .u8 0, .int .u8 0, .int .u8 0, .int .u8 0, .int .u8 0, .int .u8 0, .int .u8 0, .int .u8 0, .int .u8 0, .int .u8 0] 0 (u8l (ky J (4 * (g + 1)))) = u8l (ky J (4 * (g + 1))) := setL_full (by rw [u8l_len, lp0]; rfl)
        have vp0 := u8l_vals (ky J (4 * (g + 1)))
        have xp0 : (u8l (ky J (4 * (g + 1)))).take 32 = u8l (ky J (4 * (g + 1))) := List.take_of_length_le (by rw [u8l_len, lp0]; exact Nat.le_refl _)
        try simp only [push_cast, simprocAttr] at bp0
        try simp only [push_cast, simprocAttr] at kp0
        have cp1 : (0 : Int) ≤ 4 * (g : Int) := by omega
        have dp1 : 4 * (g : Int) < (n : Int) := by omega
        have zp1 : (4 * (g : Int)).toNat = 4 * g := by omega
        have bp1 : (4 * g) * 35 + 34 ≤ n * 35 := by omega
        have kp1 := wR_key J (m.length + 2) n (4 * g) (by omega)
        rw [show 35 * (4 * g) = (4 * g) * 35 from Nat.mul_comm _ _] at kp1
        have lp1 := ky_len J (4 * g)
        have op1 := ky_ok J (4 * g)
        have sp1 : setL [.int .u8 0, .int .u8 0, .int .u8 0, .int .u8 0, .int .u8 0, .int .u8 0, .int .u8 0, .int .u8 0, .int .u8 0, .int .u8 0, .int .u8 0, .int .u8 0, .int .u8 0, .int .u8 0, .int .u8 0, .int .u8 0, .int .u8 0, .int .u8 0, .int .u8 0, .int .u8 0, .int .u8 0, .int .u8 0, .int .u8 0, .int .u8 0, .int .u8 0, .int .u8 0, .int .u8 0, .int .u8 0, .int .u8 0, .int .u8 0, .int .u8 0, .int .u8 0] 0 (u8l (ky J (4 * g))) = u8l (ky J (4 * g)) := setL_full (by rw [u8l_len, lp1]; rfl)
        have vp1 := u8l_vals (ky J (4 * g))
        have xp1 : (u8l (ky J (4 * g))).take 32 = u8l (ky J (4 * g)) := List.take_of_length_le (by rw [u8l_len, lp1]; exact Nat.le_refl _)
        try simp only [push_cast, simprocAttr] at bp1
        try simp only [push_cast, simprocAttr] at kp1
        have cp2 : (0 : Int) ≤ 4 * (g : Int) + 1 := by omega
        have dp2 : 4 * (g : Int) + 1 < (n : Int) := by omega
        have zp2 : (4 * (g : Int) + 1).toNat = 4 * g + 1 := by omega
        have bp2 : (4 * g + 1) * 35 + 34 ≤ n * 35 := by omega
        have kp2 := wR_key J (m.length + 2) n (4 * g + 1) (by omega)
        rw [show 35 * (4 * g + 1) = (4 * g + 1) * 35 from Nat.mul_comm _ _] at kp2
        have lp2 := ky_len J (4 * g + 1)
        have op2 := ky_ok J (4 * g + 1)
        have sp2 : setL [.int .u8 0, .int .u8 0, .int .u8 0, .int .u8 0, .int .u8 0, .int .u8 0, .int .u8 0, .int .u8 0, .int .u8 0, .int .u8 0, .int .u8 0, .int .u8 0, .int .u8 0, .int .u8 0, .int .u8 0, .int .u8 0, .int .u8 0, .int .u8 0, .int .u8 0, .int .u8 0, .int .u8 0, .int .u8 0, .int .u8 0, .int .u8 0, .int .u8 0, .int .u8 0, .int .u8 0, .int .u8 0, .int .u8 0, .int .u8 0, .int .u8 0, .int .u8 0] 0 (u8l (ky J (4 * g + 1))) = u8l (ky J (4 * g + 1)) := setL_full (by rw [u8l_len, lp2]; rfl)
        have vp2 := u8l_vals (ky J (4 * g + 1))
        have xp2 : (u8l (ky J (4 * g + 1))).take 32 = u8l (ky J (4 * g + 1)) := List.take_of_length_le (by rw [u8l_len, lp2]; exact Nat.le_refl _)
        try simp only [push_cast, simprocAttr] at bp2
        try simp only [push_cast, simprocAttr] at kp2
        refine AW.region (by decide) ?_
        simp only [push_cast, simprocAttr, imp_self, hJ, hj2, hj3, hj4, u8l_len, u8l_app, Nat.le_refl, Int.le_refl, hx, gB, lk_old gB, gO, lk_old gO, kS, hkl, hkv, hsk, hwc, hwl, q1, q2, q3, hcl, hct, hcs, hcv, hky.symm, hrowA, hrowB, cp0, dp0, zp0, bp0, kp0, lp0, sp0, vp0, xp0, cp1, dp1, zp1, bp1, kp1, lp1, sp1, vp1, xp1, cp2, dp2, zp2, bp2, kp2, lp2, sp2, vp2, xp2]
        refine CThen.by (needs1s_c g _ (by omega)) ?_
        simp only [push_cast, simprocAttr, imp_self, hJ, hj2, hj3, hj4, u8l_len, u8l_app, Nat.le_refl, Int.le_refl, hx, gB, lk_old gB, gO, lk_old gO, kS, hkl, hkv, hsk, hwc, hwl, q1, q2, q3, hcl, hct, hcs, hcv, hky.symm, hrowA, hrowB, cp0, dp0, zp0, bp0, kp0, lp0, sp0, vp0, xp0, cp1, dp1, zp1, bp1, kp1, lp1, sp1, vp1, xp1, cp2, dp2, zp2, bp2, kp2, lp2, sp2, vp2, xp2]
        refine Thn_n ?_
        refine hK _ _ ?_
        clear hK K
        refine AW.seq_k fun K hK => ?_
        refine AW.region (by decide) ?_
        simp only [push_cast, simprocAttr, imp_self, hJ, hj2, hj3, hj4, u8l_len, u8l_app, Nat.le_refl, Int.le_refl, hx, gB, lk_old gB, gO, lk_old gO, kS, hkl, hkv, hsk, hwc, hwl, q1, q2, q3, hcl, hct, hcs, hcv, hky.symm, hrowA, hrowB, cp0, dp0, zp0, bp0, kp0, lp0, sp0, vp0, xp0, cp1, dp1, zp1, bp1, kp1, lp1, sp1, vp1, xp1, cp2, dp2, zp2, bp2, kp2, lp2, sp2, vp2, xp2]
        refine Thn_n ?_
        refine hK _ _ ?_
        clear hK K
        refine AW.seq_k fun K hK => ?_
        refine AW.seq_k fun K hK => ?_
        refine AW.region (by decide) ?_
        simp only [push_cast, simprocAttr, imp_self, hJ, hj2, hj3, hj4, u8l_len, u8l_app, Nat.le_refl, Int.le_refl, hx, gB, lk_old gB, gO, lk_old gO, kS, hkl, hkv, hsk, hwc, hwl, q1, q2, q3, hcl, hct, hcs, hcv, hky.symm, hrowA, hrowB, cp0, dp0, zp0, bp0, kp0, lp0, sp0, vp0, xp0, cp1, dp1, zp1, bp1, kp1, lp1, sp1, vp1, xp1, cp2, dp2, zp2, bp2, kp2, lp2, sp2, vp2, xp2]
        refine Thn_n ?_
        refine hK _ _ ?_
        clear hK K
        refine AW.cond_f rfl ?_
        refine AW.skip ?_
        refine Thn_n ?_
        refine hK _ _ ?_
        clear hK K
        refine AW.seq_k fun K hK => ?_
        refine AW.seq_k fun K hK => ?_
        refine AW.region (by decide) ?_
        simp only [push_cast, simprocAttr, imp_self, hJ, hj2, hj3, hj4, u8l_len, u8l_app, Nat.le_refl, Int.le_refl, hx, gB, lk_old gB, gO, lk_old gO, kS, hkl, hkv, hsk, hwc, hwl, q1, q2, q3, hcl, hct, hcs, hcv, hky.symm, hrowA, hrowB, cp0, dp0, zp0, bp0, kp0, lp0, sp0, vp0, xp0, cp1, dp1, zp1, bp1, kp1, lp1, sp1, vp1, xp1, cp2, dp2, zp2, bp2, kp2, lp2, sp2, vp2, xp2]
        refine Thn_n ?_
        refine hK _ _ ?_
        clear hK K
        refine AW.block ?_
        refine AW.rounds 4 ?_
        iterate 3
          refine ARounds.succ fun K hK => ?_
          refine AW.seq_k fun K hK => ?_
          refine AW.region (by decide) ?_
          simp only [push_cast, simprocAttr, imp_self, hJ, hj2, hj3, hj4, u8l_len, u8l_app, Nat.le_refl, Int.le_refl, hx, gB, lk_old gB, gO, lk_old gO, kS, hkl, hkv, hsk, hwc, hwl, q1, q2, q3, hcl, hct, hcs, hcv, hky.symm, hrowA, hrowB, cp0, dp0, zp0, bp0, kp0, lp0, sp0, vp0, xp0, cp1, dp1, zp1, bp1, kp1, lp1, sp1, vp1, xp1, cp2, dp2, zp2, bp2, kp2, lp2, sp2, vp2, xp2]
          refine Thn_n ?_
          refine hK _ _ ?_
          clear hK K
          refine AW.seq_k fun K hK => ?_
          refine AW.cond_t rfl ?_
          refine AW.skip ?_
          refine Thn_n ?_
          refine hK _ _ ?_
          clear hK K
          refine AW.seq_k fun K hK => ?_
          refine AW.block ?_
          refine AW.seq_k fun K hK => ?_
          refine AW.region (by decide) ?_
          simp only [push_cast, simprocAttr, imp_self, hJ, hj2, hj3, hj4, u8l_len, u8l_app, Nat.le_refl, Int.le_refl, hx, gB, lk_old gB, gO, lk_old gO, kS, hkl, hkv, hsk, hwc, hwl, q1, q2, q3, hcl, hct, hcs, hcv, hky.symm, hrowA, hrowB, cp0, dp0, zp0, bp0, kp0, lp0, sp0, vp0, xp0, cp1, dp1, zp1, bp1, kp1, lp1, sp1, vp1, xp1, cp2, dp2, zp2, bp2, kp2, lp2, sp2, vp2, xp2]
          refine Thn_n ?_
          refine hK _ _ ?_
          clear hK K
          refine AW.region (by decide) ?_
          simp only [push_cast, simprocAttr, imp_self, hJ, hj2, hj3, hj4, u8l_len, u8l_app, Nat.le_refl, Int.le_refl, hx, gB, lk_old gB, gO, lk_old gO, kS, hkl, hkv, hsk, hwc, hwl, q1, q2, q3, hcl, hct, hcs, hcv, hky.symm, hrowA, hrowB, cp0, dp0, zp0, bp0, kp0, lp0, sp0, vp0, xp0, cp1, dp1, zp1, bp1, kp1, lp1, sp1, vp1, xp1, cp2, dp2, zp2, bp2, kp2, lp2, sp2, vp2, xp2]
          refine InB_n ?_
          refine Thn_n ?_
          refine hK _ _ ?_
          clear hK K
          refine AW.region (by decide) ?_
          simp only [push_cast, simprocAttr, imp_self, hJ, hj2, hj3, hj4, u8l_len, u8l_app, Nat.le_refl, Int.le_refl, hx, gB, lk_old gB, gO, lk_old gO, kS, hkl, hkv, hsk, hwc, hwl, q1, q2, q3, hcl, hct, hcs, hcv, hky.symm, hrowA, hrowB, cp0, dp0, zp0, bp0, kp0, lp0, sp0, vp0, xp0, cp1, dp1, zp1, bp1, kp1, lp1, sp1, vp1, xp1, cp2, dp2, zp2, bp2, kp2, lp2, sp2, vp2, xp2]
          refine Thn_n ?_
          refine hK _ _ ?_
          clear hK K
        refine ARounds.succ fun K hK => ?_
        refine AW.seq_k fun K hK => ?_
        refine AW.region (by decide) ?_
        simp only [push_cast, simprocAttr, imp_self, hJ, hj2, hj3, hj4, u8l_len, u8l_app, Nat.le_refl, Int.le_refl, hx, gB, lk_old gB, gO, lk_old gO, kS, hkl, hkv, hsk, hwc, hwl, q1, q2, q3, hcl, hct, hcs, hcv, hky.symm, hrowA, hrowB, cp0, dp0, zp0, bp0, kp0, lp0, sp0, vp0, xp0, cp1, dp1, zp1, bp1, kp1, lp1, sp1, vp1, xp1, cp2, dp2, zp2, bp2, kp2, lp2, sp2, vp2, xp2]
        refine Thn_n ?_
        refine hK _ _ ?_
        clear hK K
        refine AW.seq_k fun K hK => ?_
        refine AW.cond_f rfl ?_
        refine AW.exit ?_
        refine Thn_e ?_
        clear hK K
        refine Thn_e ?_
        clear hK K
        refine InB_here ?_
        refine Thn_n ?_
        refine hK _ _ ?_
        clear hK K
        refine AW.seq_k fun K hK => ?_
        refine AW.region (by decide) ?_
        simp only [push_cast, simprocAttr, imp_self, hJ, hj2, hj3, hj4, u8l_len, u8l_app, Nat.le_refl, Int.le_refl, hx, gB, lk_old gB, gO, lk_old gO, kS, hkl, hkv, hsk, hwc, hwl, q1, q2, q3, hcl, hct, hcs, hcv, hky.symm, hrowA, hrowB, cp0, dp0, zp0, bp0, kp0, lp0, sp0, vp0, xp0, cp1, dp1, zp1, bp1, kp1, lp1, sp1, vp1, xp1, cp2, dp2, zp2, bp2, kp2, lp2, sp2, vp2, xp2]
        refine CThen.by (key_c 1 ((g : Int) + 1) (M.length + 2) 3 3 (ky J (4 * (g + 1)) ++ (ky J (4 * g) ++ (ky J (4 * g + 1)))) .grow 32 _ (by simp only [push_cast, simprocAttr, u8l_app]) hDl hDo (by decide)) ?_
        simp only [push_cast, simprocAttr, imp_self, hJ, hj2, hj3, hj4, u8l_len, u8l_app, Nat.le_refl, Int.le_refl, hx, gB, lk_old gB, gO, lk_old gO, kS, hkl, hkv, hsk, hwc, hwl, q1, q2, q3, hcl, hct, hcs, hcv, hky.symm, hrowA, hrowB, cp0, dp0, zp0, bp0, kp0, lp0, sp0, vp0, xp0, cp1, dp1, zp1, bp1, kp1, lp1, sp1, vp1, xp1, cp2, dp2, zp2, bp2, kp2, lp2, sp2, vp2, xp2]
        refine Thn_n ?_
        refine hK _ _ ?_
        clear hK K
        refine AW.region (by decide) ?_
        simp only [push_cast, simprocAttr, imp_self, hJ, hj2, hj3, hj4, u8l_len, u8l_app, Nat.le_refl, Int.le_refl, hx, gB, lk_old gB, gO, lk_old gO, kS, hkl, hkv, hsk, hwc, hwl, q1, q2, q3, hcl, hct, hcs, hcv, hky.symm, hrowA, hrowB, cp0, dp0, zp0, bp0, kp0, lp0, sp0, vp0, xp0, cp1, dp1, zp1, bp1, kp1, lp1, sp1, vp1, xp1, cp2, dp2, zp2, bp2, kp2, lp2, sp2, vp2, xp2]
        refine InB_n ?_
        refine Thn_n ?_
        refine hK _ _ ?_
        clear hK K
        refine AW.region (by decide) ?_
        simp only [push_cast, simprocAttr, imp_self, hJ, hj2, hj3, hj4, u8l_len, u8l_app, Nat.le_refl, Int.le_refl, hx, gB, lk_old gB, gO, lk_old gO, kS, hkl, hkv, hsk, hwc, hwl, q1, q2, q3, hcl, hct, hcs, hcv, hky.symm, hrowA, hrowB, cp0, dp0, zp0, bp0, kp0, lp0, sp0, vp0, xp0, cp1, dp1, zp1, bp1, kp1, lp1, sp1, vp1, xp1, cp2, dp2, zp2, bp2, kp2, lp2, sp2, vp2, xp2]
        refine Thn_n ?_
        refine ⟨kn, by omega, by omega, ?_⟩
        try simp only [keepL, setAll, push_cast, simprocAttr, imp_self, hJ, hj2, hj3, hj4, u8l_len, u8l_app, Nat.le_refl, Int.le_refl, hx, gB, lk_old gB, gO, lk_old gO, kS, hkl, hkv, hsk, hwc, hwl, q1, q2, q3, hcl, hct, hcs, hcv, hky.symm, hrowA, hrowB, cp0, dp0, zp0, bp0, kp0, lp0, sp0, vp0, xp0, cp1, dp1, zp1, bp1, kp1, lp1, sp1, vp1, xp1, cp2, dp2, zp2, bp2, kp2, lp2, sp2, vp2, xp2, e6, hki6, hrf6, hki, kM, hrf, e5, hwn, List.append_assoc]
        first
          | exact Weak.to (extra := [_, _, _, _]) (by simp only [Keeps, Tm.get_cons, Nat.reduceEqDiff, ↓reduceIte, if_true, if_false, ite_true, ite_false, true_and, and_true, and_self, reduceCtorEq, e6, hki6, hrf6, hki, kM, hrf, e5, hwn, List.append_assoc]) (by first | rfl | (simp only [List.append_assoc, List.cons_append, List.nil_append]; rfl)) (by first | rfl | (simp [AV.below, CV.below, u8l_below]; done) | (simp [AV.below, CV.below, u8l_below]; omega)) (by have h := works_wf J m RR (n + 1) (n + 1) hwf hwR hwL; simp only [hRR, e6, hki6, hrf6, hki, kM, hrf, hwn, hrowA, hrowB, List.append_assoc, push_cast, simprocAttr] at h ⊢; exact h)
          | exact Weak.to (extra := [_, _, _, _, _]) (by simp only [Keeps, Tm.get_cons, Nat.reduceEqDiff, ↓reduceIte, if_true, if_false, ite_true, ite_false, true_and, and_true, and_self, reduceCtorEq, e6, hki6, hrf6, hki, kM, hrf, e5, hwn, List.append_assoc]) (by first | rfl | (simp only [List.append_assoc, List.cons_append, List.nil_append]; rfl)) (by first | rfl | (simp [AV.below, CV.below, u8l_below]; done) | (simp [AV.below, CV.below, u8l_below]; omega)) (by have h := works_wf J m RR (n + 1) (n + 1) hwf hwR hwL; simp only [hRR, e6, hki6, hrf6, hki, kM, hrf, hwn, hrowA, hrowB, List.append_assoc, push_cast, simprocAttr] at h ⊢; exact h)
          | exact Weak.to (extra := [_, _, _, _, _, _]) (by simp only [Keeps, Tm.get_cons, Nat.reduceEqDiff, ↓reduceIte, if_true, if_false, ite_true, ite_false, true_and, and_true, and_self, reduceCtorEq, e6, hki6, hrf6, hki, kM, hrf, e5, hwn, List.append_assoc]) (by first | rfl | (simp only [List.append_assoc, List.cons_append, List.nil_append]; rfl)) (by first | rfl | (simp [AV.below, CV.below, u8l_below]; done) | (simp [AV.below, CV.below, u8l_below]; omega)) (by have h := works_wf J m RR (n + 1) (n + 1) hwf hwR hwL; simp only [hRR, e6, hki6, hrf6, hki, kM, hrf, hwn, hrowA, hrowB, List.append_assoc, push_cast, simprocAttr] at h ⊢; exact h)
      · have hm0 : n % 4 = 2 := by omega
        have hd0 : n / 4 = f := by omega
        rw [hm0, hd0] at hky hwc0
        have hnn : n = (4 * f + 2) := by omega
        have hndl : ndL n = [4 * f, 4 * f + 1] := by rw [hnn]; exact nd2 f
        have hrowA : nl (ndL (4 * f + 2)) = [.int .i64 ((4 * f : Nat) : Int), .int .i64 ((4 * f + 1 : Nat) : Int)] := by rw [nd2 f]; rfl
        have hrowB : nl (ndL n) = [.int .i64 ((4 * f : Nat) : Int), .int .i64 ((4 * f + 1 : Nat) : Int)] := by rw [hndl]; rfl
        simp only [push_cast, simprocAttr] at hrowA hrowB
        have hnd : ndC (m.length + 2) n = .sl M.length 0 0 2 := by
          unfold ndC rwN; rw [hm0, hd0, hndl, if_neg (by decide), hMl]
          congr 1 <;> omega
        rw [if_neg (by decide)] at hky hrf
        rw [hndl] at hky
        simp only [List.flatMap_cons, List.flatMap_nil, List.append_nil] at hky
        have hDl : (ky J (4 * f) ++ (ky J (4 * f + 1))).length = 32 * 2 := by simp only [List.length_append, ky_len]
        have hDo : U8ok (ky J (4 * f) ++ (ky J (4 * f + 1))) := (ky_ok _ _).app (ky_ok _ _)
        simp only [push_cast, simprocAttr] at hky
        have hki : ((kn : Nat) : Int) = 3 := by omega
        have hwc : CV.int .i64 2 :: .int .i64 (f : Int) :: (u8l (ky J n) ++ [.sl M.length 0 0 2]) = wC J (m.length + 2) n := by rw [hwc0, hnd]; rfl
        have hsk := setL_key (.int .i64 2) (.int .i64 (f : Int)) (.sl M.length 0 0 2) (ky J n) hkl
        dsimp only at hsk
        have hq2 : ∀ l : List CV, l = l := fun _ => rfl
        have cp0 : (0 : Int) ≤ 4 * (f : Int) := by omega
        have dp0 : 4 * (f : Int) < (n : Int) := by omega
        have zp0 : (4 * (f : Int)).toNat = 4 * f := by omega
        have bp0 : (4 * f) * 35 + 34 ≤ n * 35 := by omega
        have kp0 := wR_key J (m.length + 2) n (4 * f) (by omega)
        rw [show 35 * (4 * f) = (4 * f) * 35 from Nat.mul_comm _ _] at kp0
        have lp0 := ky_len J (4 * f)
        have op0 := ky_ok J (4 * f)
        have sp0 : setL [.int .u8 0, .int .u8 0, .int .u8 0, .int .u8 0, .int .u8 0, .int .u8 0, .int .u8 0, .int .u8 0, .int .u8 0, .int .u8 0, .int .u8 0, .int .u8 0, .int .u8 0, .int .u8 0, .int .u8 0, .int .u8 0, .int .u8 0, .int .u8 0, .int .u8 0, .int .u8 0, .int .u8 0, .int .u8 0, .int .u8 0, .int .u8 0, .int .u8 0, .int .u8 0, .int .u8 0, .int .u8 0, .int .u8 0, .int .u8 0, .int .u8 0, .int .u8 0] 0 (u8l (ky J (4 * f))) = u8l (ky J (4 * f)) := setL_full (by rw [u8l_len, lp0]; rfl)
        have vp0 := u8l_vals (ky J (4 * f))
        have xp0 : (u8l (ky J (4 * f))).take 32 = u8l (ky J (4 * f)) := List.take_of_length_le (by rw [u8l_len, lp0]; exact Nat.le_refl _)
        try simp only [push_cast, simprocAttr] at bp0
        try simp only [push_cast, simprocAttr] at kp0
        have cp1 : (0 : Int) ≤ 4 * (f : Int) + 1 := by omega
        have dp1 : 4 * (f : Int) + 1 < (n : Int) := by omega
        have zp1 : (4 * (f : Int) + 1).toNat = 4 * f + 1 := by omega
        have bp1 : (4 * f + 1) * 35 + 34 ≤ n * 35 := by omega
        have kp1 := wR_key J (m.length + 2) n (4 * f + 1) (by omega)
        rw [show 35 * (4 * f + 1) = (4 * f + 1) * 35 from Nat.mul_comm _ _] at kp1
        have lp1 := ky_len J (4 * f + 1)
        have op1 := ky_ok J (4 * f + 1)
        have sp1 : setL [.int .u8 0, .int .u8 0, .int .u8 0, .int .u8 0, .int .u8 0, .int .u8 0, .int .u8 0, .int .u8 0, .int .u8 0, .int .u8 0, .int .u8 0, .int .u8 0, .int .u8 0, .int .u8 0, .int .u8 0, .int .u8 0, .int .u8 0, .int .u8 0, .int .u8 0, .int .u8 0, .int .u8 0, .int .u8 0, .int .u8 0, .int .u8 0, .int .u8 0, .int .u8 0, .int .u8 0, .int .u8 0, .int .u8 0, .int .u8 0, .int .u8 0, .int .u8 0] 0 (u8l (ky J (4 * f + 1))) = u8l (ky J (4 * f + 1)) := setL_full (by rw [u8l_len, lp1]; rfl)
        have vp1 := u8l_vals (ky J (4 * f + 1))
        have xp1 : (u8l (ky J (4 * f + 1))).take 32 = u8l (ky J (4 * f + 1)) := List.take_of_length_le (by rw [u8l_len, lp1]; exact Nat.le_refl _)
        try simp only [push_cast, simprocAttr] at bp1
        try simp only [push_cast, simprocAttr] at kp1
        refine AW.region (by decide) ?_
        simp only [push_cast, simprocAttr, imp_self, hJ, hj2, hj3, hj4, u8l_len, u8l_app, Nat.le_refl, Int.le_refl, hx, gB, lk_old gB, gO, lk_old gO, kS, hkl, hkv, hsk, hwc, hwl, q1, q2, q3, hcl, hct, hcs, hcv, hky.symm, hrowA, hrowB, cp0, dp0, zp0, bp0, kp0, lp0, sp0, vp0, xp0, cp1, dp1, zp1, bp1, kp1, lp1, sp1, vp1, xp1]
        refine CThen.by (needs2_c f _ (by omega)) ?_
        simp only [push_cast, simprocAttr, imp_self, hJ, hj2, hj3, hj4, u8l_len, u8l_app, Nat.le_refl, Int.le_refl, hx, gB, lk_old gB, gO, lk_old gO, kS, hkl, hkv, hsk, hwc, hwl, q1, q2, q3, hcl, hct, hcs, hcv, hky.symm, hrowA, hrowB, cp0, dp0, zp0, bp0, kp0, lp0, sp0, vp0, xp0, cp1, dp1, zp1, bp1, kp1, lp1, sp1, vp1, xp1]
        refine Thn_n ?_
        refine hK _ _ ?_
        clear hK K
        refine AW.seq_k fun K hK => ?_
        refine AW.region (by decide) ?_
        simp only [push_cast, simprocAttr, imp_self, hJ, hj2, hj3, hj4, u8l_len, u8l_app, Nat.le_refl, Int.le_refl, hx, gB, lk_old gB, gO, lk_old gO, kS, hkl, hkv, hsk, hwc, hwl, q1, q2, q3, hcl, hct, hcs, hcv, hky.symm, hrowA, hrowB, cp0, dp0, zp0, bp0, kp0, lp0, sp0, vp0, xp0, cp1, dp1, zp1, bp1, kp1, lp1, sp1, vp1, xp1]
        refine Thn_n ?_
        refine hK _ _ ?_
        clear hK K
        refine AW.seq_k fun K hK => ?_
        refine AW.seq_k fun K hK => ?_
        refine AW.region (by decide) ?_
        simp only [push_cast, simprocAttr, imp_self, hJ, hj2, hj3, hj4, u8l_len, u8l_app, Nat.le_refl, Int.le_refl, hx, gB, lk_old gB, gO, lk_old gO, kS, hkl, hkv, hsk, hwc, hwl, q1, q2, q3, hcl, hct, hcs, hcv, hky.symm, hrowA, hrowB, cp0, dp0, zp0, bp0, kp0, lp0, sp0, vp0, xp0, cp1, dp1, zp1, bp1, kp1, lp1, sp1, vp1, xp1]
        refine Thn_n ?_
        refine hK _ _ ?_
        clear hK K
        refine AW.cond_f rfl ?_
        refine AW.skip ?_
        refine Thn_n ?_
        refine hK _ _ ?_
        clear hK K
        refine AW.seq_k fun K hK => ?_
        refine AW.seq_k fun K hK => ?_
        refine AW.region (by decide) ?_
        simp only [push_cast, simprocAttr, imp_self, hJ, hj2, hj3, hj4, u8l_len, u8l_app, Nat.le_refl, Int.le_refl, hx, gB, lk_old gB, gO, lk_old gO, kS, hkl, hkv, hsk, hwc, hwl, q1, q2, q3, hcl, hct, hcs, hcv, hky.symm, hrowA, hrowB, cp0, dp0, zp0, bp0, kp0, lp0, sp0, vp0, xp0, cp1, dp1, zp1, bp1, kp1, lp1, sp1, vp1, xp1]
        refine Thn_n ?_
        refine hK _ _ ?_
        clear hK K
        refine AW.block ?_
        refine AW.rounds 3 ?_
        iterate 2
          refine ARounds.succ fun K hK => ?_
          refine AW.seq_k fun K hK => ?_
          refine AW.region (by decide) ?_
          simp only [push_cast, simprocAttr, imp_self, hJ, hj2, hj3, hj4, u8l_len, u8l_app, Nat.le_refl, Int.le_refl, hx, gB, lk_old gB, gO, lk_old gO, kS, hkl, hkv, hsk, hwc, hwl, q1, q2, q3, hcl, hct, hcs, hcv, hky.symm, hrowA, hrowB, cp0, dp0, zp0, bp0, kp0, lp0, sp0, vp0, xp0, cp1, dp1, zp1, bp1, kp1, lp1, sp1, vp1, xp1]
          refine Thn_n ?_
          refine hK _ _ ?_
          clear hK K
          refine AW.seq_k fun K hK => ?_
          refine AW.cond_t rfl ?_
          refine AW.skip ?_
          refine Thn_n ?_
          refine hK _ _ ?_
          clear hK K
          refine AW.seq_k fun K hK => ?_
          refine AW.block ?_
          refine AW.seq_k fun K hK => ?_
          refine AW.region (by decide) ?_
          simp only [push_cast, simprocAttr, imp_self, hJ, hj2, hj3, hj4, u8l_len, u8l_app, Nat.le_refl, Int.le_refl, hx, gB, lk_old gB, gO, lk_old gO, kS, hkl, hkv, hsk, hwc, hwl, q1, q2, q3, hcl, hct, hcs, hcv, hky.symm, hrowA, hrowB, cp0, dp0, zp0, bp0, kp0, lp0, sp0, vp0, xp0, cp1, dp1, zp1, bp1, kp1, lp1, sp1, vp1, xp1]
          refine Thn_n ?_
          refine hK _ _ ?_
          clear hK K
          refine AW.region (by decide) ?_
          simp only [push_cast, simprocAttr, imp_self, hJ, hj2, hj3, hj4, u8l_len, u8l_app, Nat.le_refl, Int.le_refl, hx, gB, lk_old gB, gO, lk_old gO, kS, hkl, hkv, hsk, hwc, hwl, q1, q2, q3, hcl, hct, hcs, hcv, hky.symm, hrowA, hrowB, cp0, dp0, zp0, bp0, kp0, lp0, sp0, vp0, xp0, cp1, dp1, zp1, bp1, kp1, lp1, sp1, vp1, xp1]
          refine InB_n ?_
          refine Thn_n ?_
          refine hK _ _ ?_
          clear hK K
          refine AW.region (by decide) ?_
          simp only [push_cast, simprocAttr, imp_self, hJ, hj2, hj3, hj4, u8l_len, u8l_app, Nat.le_refl, Int.le_refl, hx, gB, lk_old gB, gO, lk_old gO, kS, hkl, hkv, hsk, hwc, hwl, q1, q2, q3, hcl, hct, hcs, hcv, hky.symm, hrowA, hrowB, cp0, dp0, zp0, bp0, kp0, lp0, sp0, vp0, xp0, cp1, dp1, zp1, bp1, kp1, lp1, sp1, vp1, xp1]
          refine Thn_n ?_
          refine hK _ _ ?_
          clear hK K
        refine ARounds.succ fun K hK => ?_
        refine AW.seq_k fun K hK => ?_
        refine AW.region (by decide) ?_
        simp only [push_cast, simprocAttr, imp_self, hJ, hj2, hj3, hj4, u8l_len, u8l_app, Nat.le_refl, Int.le_refl, hx, gB, lk_old gB, gO, lk_old gO, kS, hkl, hkv, hsk, hwc, hwl, q1, q2, q3, hcl, hct, hcs, hcv, hky.symm, hrowA, hrowB, cp0, dp0, zp0, bp0, kp0, lp0, sp0, vp0, xp0, cp1, dp1, zp1, bp1, kp1, lp1, sp1, vp1, xp1]
        refine Thn_n ?_
        refine hK _ _ ?_
        clear hK K
        refine AW.seq_k fun K hK => ?_
        refine AW.cond_f rfl ?_
        refine AW.exit ?_
        refine Thn_e ?_
        clear hK K
        refine Thn_e ?_
        clear hK K
        refine InB_here ?_
        refine Thn_n ?_
        refine hK _ _ ?_
        clear hK K
        refine AW.seq_k fun K hK => ?_
        refine AW.region (by decide) ?_
        simp only [push_cast, simprocAttr, imp_self, hJ, hj2, hj3, hj4, u8l_len, u8l_app, Nat.le_refl, Int.le_refl, hx, gB, lk_old gB, gO, lk_old gO, kS, hkl, hkv, hsk, hwc, hwl, q1, q2, q3, hcl, hct, hcs, hcv, hky.symm, hrowA, hrowB, cp0, dp0, zp0, bp0, kp0, lp0, sp0, vp0, xp0, cp1, dp1, zp1, bp1, kp1, lp1, sp1, vp1, xp1]
        refine CThen.by (key_c 2 (f : Int) (M.length + 2) 2 2 (ky J (4 * f) ++ (ky J (4 * f + 1))) .grow 32 _ (by simp only [push_cast, simprocAttr, u8l_app]) hDl hDo (by decide)) ?_
        simp only [push_cast, simprocAttr, imp_self, hJ, hj2, hj3, hj4, u8l_len, u8l_app, Nat.le_refl, Int.le_refl, hx, gB, lk_old gB, gO, lk_old gO, kS, hkl, hkv, hsk, hwc, hwl, q1, q2, q3, hcl, hct, hcs, hcv, hky.symm, hrowA, hrowB, cp0, dp0, zp0, bp0, kp0, lp0, sp0, vp0, xp0, cp1, dp1, zp1, bp1, kp1, lp1, sp1, vp1, xp1]
        refine Thn_n ?_
        refine hK _ _ ?_
        clear hK K
        refine AW.region (by decide) ?_
        simp only [push_cast, simprocAttr, imp_self, hJ, hj2, hj3, hj4, u8l_len, u8l_app, Nat.le_refl, Int.le_refl, hx, gB, lk_old gB, gO, lk_old gO, kS, hkl, hkv, hsk, hwc, hwl, q1, q2, q3, hcl, hct, hcs, hcv, hky.symm, hrowA, hrowB, cp0, dp0, zp0, bp0, kp0, lp0, sp0, vp0, xp0, cp1, dp1, zp1, bp1, kp1, lp1, sp1, vp1, xp1]
        refine InB_n ?_
        refine Thn_n ?_
        refine hK _ _ ?_
        clear hK K
        refine AW.region (by decide) ?_
        simp only [push_cast, simprocAttr, imp_self, hJ, hj2, hj3, hj4, u8l_len, u8l_app, Nat.le_refl, Int.le_refl, hx, gB, lk_old gB, gO, lk_old gO, kS, hkl, hkv, hsk, hwc, hwl, q1, q2, q3, hcl, hct, hcs, hcv, hky.symm, hrowA, hrowB, cp0, dp0, zp0, bp0, kp0, lp0, sp0, vp0, xp0, cp1, dp1, zp1, bp1, kp1, lp1, sp1, vp1, xp1]
        refine Thn_n ?_
        refine ⟨kn, by omega, by omega, ?_⟩
        try simp only [keepL, setAll, push_cast, simprocAttr, imp_self, hJ, hj2, hj3, hj4, u8l_len, u8l_app, Nat.le_refl, Int.le_refl, hx, gB, lk_old gB, gO, lk_old gO, kS, hkl, hkv, hsk, hwc, hwl, q1, q2, q3, hcl, hct, hcs, hcv, hky.symm, hrowA, hrowB, cp0, dp0, zp0, bp0, kp0, lp0, sp0, vp0, xp0, cp1, dp1, zp1, bp1, kp1, lp1, sp1, vp1, xp1, e6, hki6, hrf6, hki, kM, hrf, e5, hwn, List.append_assoc]
        first
          | exact Weak.to (extra := [_, _, _, _]) (by simp only [Keeps, Tm.get_cons, Nat.reduceEqDiff, ↓reduceIte, if_true, if_false, ite_true, ite_false, true_and, and_true, and_self, reduceCtorEq, e6, hki6, hrf6, hki, kM, hrf, e5, hwn, List.append_assoc]) (by first | rfl | (simp only [List.append_assoc, List.cons_append, List.nil_append]; rfl)) (by first | rfl | (simp [AV.below, CV.below, u8l_below]; done) | (simp [AV.below, CV.below, u8l_below]; omega)) (by have h := works_wf J m RR (n + 1) (n + 1) hwf hwR hwL; simp only [hRR, e6, hki6, hrf6, hki, kM, hrf, hwn, hrowA, hrowB, List.append_assoc, push_cast, simprocAttr] at h ⊢; exact h)
          | exact Weak.to (extra := [_, _, _, _, _]) (by simp only [Keeps, Tm.get_cons, Nat.reduceEqDiff, ↓reduceIte, if_true, if_false, ite_true, ite_false, true_and, and_true, and_self, reduceCtorEq, e6, hki6, hrf6, hki, kM, hrf, e5, hwn, List.append_assoc]) (by first | rfl | (simp only [List.append_assoc, List.cons_append, List.nil_append]; rfl)) (by first | rfl | (simp [AV.below, CV.below, u8l_below]; done) | (simp [AV.below, CV.below, u8l_below]; omega)) (by have h := works_wf J m RR (n + 1) (n + 1) hwf hwR hwL; simp only [hRR, e6, hki6, hrf6, hki, kM, hrf, hwn, hrowA, hrowB, List.append_assoc, push_cast, simprocAttr] at h ⊢; exact h)
          | exact Weak.to (extra := [_, _, _, _, _, _]) (by simp only [Keeps, Tm.get_cons, Nat.reduceEqDiff, ↓reduceIte, if_true, if_false, ite_true, ite_false, true_and, and_true, and_self, reduceCtorEq, e6, hki6, hrf6, hki, kM, hrf, e5, hwn, List.append_assoc]) (by first | rfl | (simp only [List.append_assoc, List.cons_append, List.nil_append]; rfl)) (by first | rfl | (simp [AV.below, CV.below, u8l_below]; done) | (simp [AV.below, CV.below, u8l_below]; omega)) (by have h := works_wf J m RR (n + 1) (n + 1) hwf hwR hwL; simp only [hRR, e6, hki6, hrf6, hki, kM, hrf, hwn, hrowA, hrowB, List.append_assoc, push_cast, simprocAttr] at h ⊢; exact h)
      · have hm0 : n % 4 = 3 := by omega
        have hd0 : n / 4 = f := by omega
        rw [hm0, hd0] at hky hwc0
        have hnn : n = (4 * f + 3) := by omega
        have hndl : ndL n = [4 * f + 2] := by rw [hnn]; exact nd3 f
        have hrowA : nl (ndL (4 * f + 3)) = [.int .i64 ((4 * f + 2 : Nat) : Int)] := by rw [nd3 f]; rfl
        have hrowB : nl (ndL n) = [.int .i64 ((4 * f + 2 : Nat) : Int)] := by rw [hndl]; rfl
        simp only [push_cast, simprocAttr] at hrowA hrowB
        have hnd : ndC (m.length + 2) n = .sl M.length 0 0 1 := by
          unfold ndC rwN; rw [hm0, hd0, hndl, if_neg (by decide), hMl]
          congr 1 <;> omega
        rw [if_neg (by decide)] at hky hrf
        rw [hndl] at hky
        simp only [List.flatMap_cons, List.flatMap_nil, List.append_nil] at hky
        have hDl : (ky J (4 * f + 2)).length = 32 * 1 := by simp only [List.length_append, ky_len]
        have hDo : U8ok (ky J (4 * f + 2)) := ky_ok _ _
        simp only [push_cast, simprocAttr] at hky
        have hki : ((kn : Nat) : Int) = 4 := by omega
        have hwc : CV.int .i64 3 :: .int .i64 (f : Int) :: (u8l (ky J n) ++ [.sl M.length 0 0 1]) = wC J (m.length + 2) n := by rw [hwc0, hnd]; rfl
        have hsk := setL_key (.int .i64 3) (.int .i64 (f : Int)) (.sl M.length 0 0 1) (ky J n) hkl
        dsimp only at hsk
        have hq2 : ∀ l : List CV, l = l := fun _ => rfl
        have cp0 : (0 : Int) ≤ 4 * (f : Int) + 1 + 1 := by omega
        have dp0 : 4 * (f : Int) + 1 + 1 < (n : Int) := by omega
        have zp0 : (4 * (f : Int) + 1 + 1).toNat = 4 * f + 2 := by omega
        have bp0 : (4 * f + 2) * 35 + 34 ≤ n * 35 := by omega
        have kp0 := wR_key J (m.length + 2) n (4 * f + 2) (by omega)
        rw [show 35 * (4 * f + 2) = (4 * f + 2) * 35 from Nat.mul_comm _ _] at kp0
        have lp0 := ky_len J (4 * f + 2)
        have op0 := ky_ok J (4 * f + 2)
        have sp0 : setL [.int .u8 0, .int .u8 0, .int .u8 0, .int .u8 0, .int .u8 0, .int .u8 0, .int .u8 0, .int .u8 0, .int .u8 0, .int .u8 0, .int .u8 0, .int .u8 0, .int .u8 0, .int .u8 0, .int .u8 0, .int .u8 0, .int .u8 0, .int .u8 0, .int .u8 0, .int .u8 0, .int .u8 0, .int .u8 0, .int .u8 0, .int .u8 0, .int .u8 0, .int .u8 0, .int .u8 0, .int .u8 0, .int .u8 0, .int .u8 0, .int .u8 0, .int .u8 0] 0 (u8l (ky J (4 * f + 2))) = u8l (ky J (4 * f + 2)) := setL_full (by rw [u8l_len, lp0]; rfl)
        have vp0 := u8l_vals (ky J (4 * f + 2))
        have xp0 : (u8l (ky J (4 * f + 2))).take 32 = u8l (ky J (4 * f + 2)) := List.take_of_length_le (by rw [u8l_len, lp0]; exact Nat.le_refl _)
        try simp only [push_cast, simprocAttr] at bp0
        try simp only [push_cast, simprocAttr] at kp0
        refine AW.region (by decide) ?_
        simp only [push_cast, simprocAttr, imp_self, hJ, hj2, hj3, hj4, u8l_len, u8l_app, Nat.le_refl, Int.le_refl, hx, gB, lk_old gB, gO, lk_old gO, kS, hkl, hkv, hsk, hwc, hwl, q1, q2, q3, hcl, hct, hcs, hcv, hky.symm, hrowA, hrowB, cp0, dp0, zp0, bp0, kp0, lp0, sp0, vp0, xp0]
        refine CThen.by (needs3_c f _ (by omega)) ?_
        simp only [push_cast, simprocAttr, imp_self, hJ, hj2, hj3, hj4, u8l_len, u8l_app, Nat.le_refl, Int.le_refl, hx, gB, lk_old gB, gO, lk_old gO, kS, hkl, hkv, hsk, hwc, hwl, q1, q2, q3, hcl, hct, hcs, hcv, hky.symm, hrowA, hrowB, cp0, dp0, zp0, bp0, kp0, lp0, sp0, vp0, xp0]
        refine Thn_n ?_
        refine hK _ _ ?_
        clear hK K
        refine AW.seq_k fun K hK => ?_
        refine AW.region (by decide) ?_
        simp only [push_cast, simprocAttr, imp_self, hJ, hj2, hj3, hj4, u8l_len, u8l_app, Nat.le_refl, Int.le_refl, hx, gB, lk_old gB, gO, lk_old gO, kS, hkl, hkv, hsk, hwc, hwl, q1, q2, q3, hcl, hct, hcs, hcv, hky.symm, hrowA, hrowB, cp0, dp0, zp0, bp0, kp0, lp0, sp0, vp0, xp0]
        refine Thn_n ?_
        refine hK _ _ ?_
        clear hK K
        refine AW.seq_k fun K hK => ?_
        refine AW.seq_k fun K hK => ?_
        refine AW.region (by decide) ?_
        simp only [push_cast, simprocAttr, imp_self, hJ, hj2, hj3, hj4, u8l_len, u8l_app, Nat.le_refl, Int.le_refl, hx, gB, lk_old gB, gO, lk_old gO, kS, hkl, hkv, hsk, hwc, hwl, q1, q2, q3, hcl, hct, hcs, hcv, hky.symm, hrowA, hrowB, cp0, dp0, zp0, bp0, kp0, lp0, sp0, vp0, xp0]
        refine Thn_n ?_
        refine hK _ _ ?_
        clear hK K
        refine AW.cond_f rfl ?_
        refine AW.skip ?_
        refine Thn_n ?_
        refine hK _ _ ?_
        clear hK K
        refine AW.seq_k fun K hK => ?_
        refine AW.seq_k fun K hK => ?_
        refine AW.region (by decide) ?_
        simp only [push_cast, simprocAttr, imp_self, hJ, hj2, hj3, hj4, u8l_len, u8l_app, Nat.le_refl, Int.le_refl, hx, gB, lk_old gB, gO, lk_old gO, kS, hkl, hkv, hsk, hwc, hwl, q1, q2, q3, hcl, hct, hcs, hcv, hky.symm, hrowA, hrowB, cp0, dp0, zp0, bp0, kp0, lp0, sp0, vp0, xp0]
        refine Thn_n ?_
        refine hK _ _ ?_
        clear hK K
        refine AW.block ?_
        refine AW.rounds 2 ?_
        refine ARounds.succ fun K hK => ?_
        refine AW.seq_k fun K hK => ?_
        refine AW.region (by decide) ?_
        simp only [push_cast, simprocAttr, imp_self, hJ, hj2, hj3, hj4, u8l_len, u8l_app, Nat.le_refl, Int.le_refl, hx, gB, lk_old gB, gO, lk_old gO, kS, hkl, hkv, hsk, hwc, hwl, q1, q2, q3, hcl, hct, hcs, hcv, hky.symm, hrowA, hrowB, cp0, dp0, zp0, bp0, kp0, lp0, sp0, vp0, xp0]
        refine Thn_n ?_
        refine hK _ _ ?_
        clear hK K
        refine AW.seq_k fun K hK => ?_
        refine AW.cond_t rfl ?_
        refine AW.skip ?_
        refine Thn_n ?_
        refine hK _ _ ?_
        clear hK K
        refine AW.seq_k fun K hK => ?_
        refine AW.block ?_
        refine AW.seq_k fun K hK => ?_
        refine AW.region (by decide) ?_
        simp only [push_cast, simprocAttr, imp_self, hJ, hj2, hj3, hj4, u8l_len, u8l_app, Nat.le_refl, Int.le_refl, hx, gB, lk_old gB, gO, lk_old gO, kS, hkl, hkv, hsk, hwc, hwl, q1, q2, q3, hcl, hct, hcs, hcv, hky.symm, hrowA, hrowB, cp0, dp0, zp0, bp0, kp0, lp0, sp0, vp0, xp0]
        refine Thn_n ?_
        refine hK _ _ ?_
        clear hK K
        refine AW.region (by decide) ?_
        simp only [push_cast, simprocAttr, imp_self, hJ, hj2, hj3, hj4, u8l_len, u8l_app, Nat.le_refl, Int.le_refl, hx, gB, lk_old gB, gO, lk_old gO, kS, hkl, hkv, hsk, hwc, hwl, q1, q2, q3, hcl, hct, hcs, hcv, hky.symm, hrowA, hrowB, cp0, dp0, zp0, bp0, kp0, lp0, sp0, vp0, xp0]
        refine InB_n ?_
        refine Thn_n ?_
        refine hK _ _ ?_
        clear hK K
        refine AW.region (by decide) ?_
        simp only [push_cast, simprocAttr, imp_self, hJ, hj2, hj3, hj4, u8l_len, u8l_app, Nat.le_refl, Int.le_refl, hx, gB, lk_old gB, gO, lk_old gO, kS, hkl, hkv, hsk, hwc, hwl, q1, q2, q3, hcl, hct, hcs, hcv, hky.symm, hrowA, hrowB, cp0, dp0, zp0, bp0, kp0, lp0, sp0, vp0, xp0]
        refine Thn_n ?_
        refine hK _ _ ?_
        clear hK K
        refine ARounds.succ fun K hK => ?_
        refine AW.seq_k fun K hK => ?_
        refine AW.region (by decide) ?_
        simp only [push_cast, simprocAttr, imp_self, hJ, hj2, hj3, hj4, u8l_len, u8l_app, Nat.le_refl, Int.le_refl, hx, gB, lk_old gB, gO, lk_old gO, kS, hkl, hkv, hsk, hwc, hwl, q1, q2, q3, hcl, hct, hcs, hcv, hky.symm, hrowA, hrowB, cp0, dp0, zp0, bp0, kp0, lp0, sp0, vp0, xp0]
        refine Thn_n ?_
        refine hK _ _ ?_
        clear hK K
        refine AW.seq_k fun K hK => ?_
        refine AW.cond_f rfl ?_
        refine AW.exit ?_
        refine Thn_e ?_
        clear hK K
        refine Thn_e ?_
        clear hK K
        refine InB_here ?_
        refine Thn_n ?_
        refine hK _ _ ?_
        clear hK K
        refine AW.seq_k fun K hK => ?_
        refine AW.region (by decide) ?_
        simp only [push_cast, simprocAttr, imp_self, hJ, hj2, hj3, hj4, u8l_len, u8l_app, Nat.le_refl, Int.le_refl, hx, gB, lk_old gB, gO, lk_old gO, kS, hkl, hkv, hsk, hwc, hwl, q1, q2, q3, hcl, hct, hcs, hcv, hky.symm, hrowA, hrowB, cp0, dp0, zp0, bp0, kp0, lp0, sp0, vp0, xp0]
        refine CThen.by (key_c 3 (f : Int) (M.length + 2) 1 1 (ky J (4 * f + 2)) .grow 32 _ (by simp only [push_cast, simprocAttr, u8l_app]) hDl hDo (by decide)) ?_
        simp only [push_cast, simprocAttr, imp_self, hJ, hj2, hj3, hj4, u8l_len, u8l_app, Nat.le_refl, Int.le_refl, hx, gB, lk_old gB, gO, lk_old gO, kS, hkl, hkv, hsk, hwc, hwl, q1, q2, q3, hcl, hct, hcs, hcv, hky.symm, hrowA, hrowB, cp0, dp0, zp0, bp0, kp0, lp0, sp0, vp0, xp0]
        refine Thn_n ?_
        refine hK _ _ ?_
        clear hK K
        refine AW.region (by decide) ?_
        simp only [push_cast, simprocAttr, imp_self, hJ, hj2, hj3, hj4, u8l_len, u8l_app, Nat.le_refl, Int.le_refl, hx, gB, lk_old gB, gO, lk_old gO, kS, hkl, hkv, hsk, hwc, hwl, q1, q2, q3, hcl, hct, hcs, hcv, hky.symm, hrowA, hrowB, cp0, dp0, zp0, bp0, kp0, lp0, sp0, vp0, xp0]
        refine InB_n ?_
        refine Thn_n ?_
        refine hK _ _ ?_
        clear hK K
        refine AW.region (by decide) ?_
        simp only [push_cast, simprocAttr, imp_self, hJ, hj2, hj3, hj4, u8l_len, u8l_app, Nat.le_refl, Int.le_refl, hx, gB, lk_old gB, gO, lk_old gO, kS, hkl, hkv, hsk, hwc, hwl, q1, q2, q3, hcl, hct, hcs, hcv, hky.symm, hrowA, hrowB, cp0, dp0, zp0, bp0, kp0, lp0, sp0, vp0, xp0]
        refine Thn_n ?_
        refine ⟨kn, by omega, by omega, ?_⟩
        try simp only [keepL, setAll, push_cast, simprocAttr, imp_self, hJ, hj2, hj3, hj4, u8l_len, u8l_app, Nat.le_refl, Int.le_refl, hx, gB, lk_old gB, gO, lk_old gO, kS, hkl, hkv, hsk, hwc, hwl, q1, q2, q3, hcl, hct, hcs, hcv, hky.symm, hrowA, hrowB, cp0, dp0, zp0, bp0, kp0, lp0, sp0, vp0, xp0, e6, hki6, hrf6, hki, kM, hrf, e5, hwn, List.append_assoc]
        first
          | exact Weak.to (extra := [_, _, _, _]) (by simp only [Keeps, Tm.get_cons, Nat.reduceEqDiff, ↓reduceIte, if_true, if_false, ite_true, ite_false, true_and, and_true, and_self, reduceCtorEq, e6, hki6, hrf6, hki, kM, hrf, e5, hwn, List.append_assoc]) (by first | rfl | (simp only [List.append_assoc, List.cons_append, List.nil_append]; rfl)) (by first | rfl | (simp [AV.below, CV.below, u8l_below]; done) | (simp [AV.below, CV.below, u8l_below]; omega)) (by have h := works_wf J m RR (n + 1) (n + 1) hwf hwR hwL; simp only [hRR, e6, hki6, hrf6, hki, kM, hrf, hwn, hrowA, hrowB, List.append_assoc, push_cast, simprocAttr] at h ⊢; exact h)
          | exact Weak.to (extra := [_, _, _, _, _]) (by simp only [Keeps, Tm.get_cons, Nat.reduceEqDiff, ↓reduceIte, if_true, if_false, ite_true, ite_false, true_and, and_true, and_self, reduceCtorEq, e6, hki6, hrf6, hki, kM, hrf, e5, hwn, List.append_assoc]) (by first | rfl | (simp only [List.append_assoc, List.cons_append, List.nil_append]; rfl)) (by first | rfl | (simp [AV.below, CV.below, u8l_below]; done) | (simp [AV.below, CV.below, u8l_below]; omega)) (by have h := works_wf J m RR (n + 1) (n + 1) hwf hwR hwL; simp only [hRR, e6, hki6, hrf6, hki, kM, hrf, hwn, hrowA, hrowB, List.append_assoc, push_cast, simprocAttr] at h ⊢; exact h)
          | exact Weak.to (extra := [_, _, _, _, _, _]) (by simp only [Keeps, Tm.get_cons, Nat.reduceEqDiff, ↓reduceIte, if_true, if_false, ite_true, ite_false, true_and, and_true, and_self, reduceCtorEq, e6, hki6, hrf6, hki, kM, hrf, e5, hwn, List.append_assoc]) (by first | rfl | (simp only [List.append_assoc, List.cons_append, List.nil_append]; rfl)) (by first | rfl | (simp [AV.below, CV.below, u8l_below]; done) | (simp [AV.below, CV.below, u8l_below]; omega)) (by have h := works_wf J m RR (n + 1) (n + 1) hwf hwR hwL; simp only [hRR, e6, hki6, hrf6, hki, kM, hrf, hwn, hrowA, hrowB, List.append_assoc, push_cast, simprocAttr] at h ⊢; exact h)
    · have hke : k = 4 := by have := of_decide_eq_false h19; omega
      subst hke
      refine AW.exit ?_
      refine Thn_e ?_
      clear hK K
      refine Thn_e ?_
      refine InB_here ?_
      refine InB_n ?_
      refine Thn_n ?_
      refine hK _ _ ?_
      clear hK K
      refine AW.region (by decide) ?_
      simp only [push_cast, simprocAttr, imp_self, hJ, hj2, hj3, hj4, u8l_len, u8l_app, Nat.le_refl, Int.le_refl, hx]
      refine Thn_n ?_
      have hwi : IntKind.i64.wrap ((f:Int)+1) = (f:Int)+1 := wi (by omega)
      have e4 : 4 * (f + 1) = 4 * f + 4 := by omega
      have hg4 : rwG (f + 1) = rwG f ++ rwF f 4 := rfl
      refine ⟨f + 1, hlt, by omega, ?_⟩
      try simp only [keepL, setAll, push_cast, simprocAttr, imp_self, hJ, hj2, hj3, hj4, u8l_len, u8l_app, Nat.le_refl, Int.le_refl, hx, hwi, e4, hg4]
      exact Weak.same (by simp only [Keeps, Tm.get_cons, Nat.reduceEqDiff, ↓reduceIte, if_true, if_false, ite_true, ite_false, true_and, and_true, and_self, reduceCtorEq, hwi, e4, hg4]) (by first | rfl | simp only [Keeps, Tm.get_cons, Nat.reduceEqDiff, ↓reduceIte, if_true, if_false, ite_true, ite_false, true_and, and_true, and_self, reduceCtorEq, hwi, e4, hg4])
  · have hfe : f = F := by have := of_decide_eq_false h16; omega
    subst hfe
    refine AW.exit ?_
    refine Thn_e ?_
    clear hK K
    refine Thn_e ?_
    refine InB_here ?_
    refine Thn_n ?_
    refine hK _ _ ?_
    clear hK K
    refine AW.seq_k fun K hK => ?_
    refine AW.region (by decide) ?_
    simp only [push_cast, simprocAttr, imp_self, hJ, hj2, hj3, hj4, u8l_len, u8l_app, Nat.le_refl, Int.le_refl, hx]
    refine Thn_n ?_
    refine hK _ _ ?_
    clear hK K
    refine AW.ret ?_
    refine hQ _ _ _ ?_
    refine ⟨Or.inr rfl, _, ?_, Hands.all⟩
    simp only [resA, resOne, resTv, AV.tv, push_cast, simprocAttr]
end Go.Proofs.Ytmjbbnfmhgcfaaa

set_option linter.unusedSimpArgs false
set_option linter.unusedVariables false
set_option maxRecDepth 100000
set_option maxHeartbeats 4000000
namespace Go.Proofs.Ytmjbbnfmhgcfaaa
open Go Go.Eng

theorem i64i {x : Int} (h : -9000000000000 ≤ x ∧ x ≤ 9000000000000) : IntKind.i64.wrap x = x := by rw [IntKind.wrap_i64]; omega
/-- The cells of so many integers; of bools; of rows. -/
def il : Nat → (Nat → Int) → List CV
  | 0, _ => []
  | n + 1, f => il n f ++ [.int .i64 (f n)]
theorem il_len : ∀ (n : Nat) (f : Nat → Int), (il n f).length = n
  | 0, _ => rfl
  | n + 1, f => by simp only [il, List.length_append, il_len n f, List.length_cons, List.length_nil]
theorem il_get : ∀ {n : Nat} {f : Nat → Int} {i : Nat}, i < n → (il n f)[i]? = some (.int .i64 (f i))
  | n + 1, f, i, hi => by
    simp only [il]
    rcases Nat.lt_or_ge i n with h | h
    · rw [List.getElem?_append_left (by rw [il_len]; omega)]; exact il_get h
    · have e : i = n := by omega
      subst e
      rw [List.getElem?_append_right (by rw [il_len]; omega), il_len, Nat.sub_self]; rfl
theorem il_vals : ∀ (n : Nat) (f : Nat → Int), (il n f).all CV.isVal = true
  | 0, _ => rfl
  | n + 1, f => by simp only [il, List.all_append, il_vals n f, List.all_cons, List.all_nil, CV.isVal]; rfl
theorem il_below : ∀ (L n : Nat) (f : Nat → Int), (il n f).all (CV.below L) = true
  | _, 0, _ => rfl
  | L, n + 1, f => by simp only [il, List.all_append, il_below L n f, List.all_cons, List.all_nil, CV.below]; rfl
theorem ext_get {α : Type} {a b : List α} (h : ∀ i : Nat, a[i]? = b[i]?) : a = b := List.ext_getElem? h
theorem il_of {cells : List CV} {n : Nat} {f : Nat → Int} (hl : cells.length = n) (h : ∀ i, i < n → cells[i]? = some (.int .i64 (f i))) : cells = il n f := by
  refine ext_get fun j => ?_
  rcases Nat.lt_or_ge j n with hj | hj
  · rw [h j hj, il_get hj]
  · rw [List.getElem?_eq_none (by omega), List.getElem?_eq_none (by rw [il_len]; omega)]
theorem il_congr {n : Nat} {f g : Nat → Int} (h : ∀ i, i < n → f i = g i) : il n f = il n g := il_of (il_len n f) fun i hi => by rw [il_get hi, h i hi]
def bl : Nat → (Nat → Bool) → List CV
  | 0, _ => []
  | n + 1, f => bl n f ++ [.bool (f n)]
theorem bl_len : ∀ (n : Nat) (f : Nat → Bool), (bl n f).length = n
  | 0, _ => rfl
  | n + 1, f => by simp only [bl, List.length_append, bl_len n f, List.length_cons, List.length_nil]
theorem bl_get : ∀ {n : Nat} {f : Nat → Bool} {i : Nat}, i < n → (bl n f)[i]? = some (.bool (f i))
  | n + 1, f, i, hi => by
    simp only [bl]
    rcases Nat.lt_or_ge i n with h | h
    · rw [List.getElem?_append_left (by rw [bl_len]; omega)]; exact bl_get h
    · have e : i = n := by omega
      subst e
      rw [List.getElem?_append_right (by rw [bl_len]; omega), bl_len, Nat.sub_self]; rfl
theorem bl_of {cells : List CV} {n : Nat} {f : Nat → Bool} (hl : cells.length = n) (h : ∀ i, i < n → cells[i]? = some (.bool (f i))) : cells = bl n f := by
  refine ext_get fun j => ?_
  rcases Nat.lt_or_ge j n with hj | hj
  · rw [h j hj, bl_get hj]
  · rw [List.getElem?_eq_none (by omega), List.getElem?_eq_none (by rw [bl_len]; omega)]
theorem bl_below (L n : Nat) (f : Nat → Bool) : (bl n f).all (CV.below L) = true := by
  refine List.all_eq_true.2 fun c hc => ?_
  obtain ⟨i, hi⟩ := List.getElem?_of_mem hc
  have hlt := (List.getElem?_eq_some_iff.1 hi).1
  rw [bl_len] at hlt
  rw [bl_get hlt] at hi
  injection hi with hi; subst hi; rfl
def updB (f : Nat → Bool) (j : Nat) (b : Bool) : Nat → Bool := fun i => if i = j then b else f i
theorem bl_set {n : Nat} {f : Nat → Bool} {j : Nat} {b : Bool} : (bl n f).set j (.bool b) = bl n (updB f j b) := by
  refine bl_of (by rw [List.length_set, bl_len]) fun i hi => ?_
  rw [List.getElem?_set]
  by_cases e : j = i
  · subst e; rw [if_pos rfl, if_pos (by rw [bl_len]; exact hi)]; simp [updB]
  · rw [if_neg e, bl_get hi]; simp only [updB]; rw [if_neg (fun h => e h.symm)]
def rl : Nat → (Nat → Nat) → (Nat → Nat) → (Nat → Nat) → List CV
  | 0, _, _, _ => []
  | n + 1, r, vv, ln => rl n r vv ln ++ [.sl (r n) (vv n) 0 (ln n)]
theorem rl_len : ∀ (n : Nat) (r vv ln : Nat → Nat), (rl n r vv ln).length = n
  | 0, _, _, _ => rfl
  | n + 1, r, vv, ln => by simp only [rl, List.length_append, rl_len n r vv ln, List.length_cons, List.length_nil]
theorem rl_get : ∀ {n : Nat} {r vv ln : Nat → Nat} {i : Nat}, i < n → (rl n r vv ln)[i]? = some (.sl (r i) (vv i) 0 (ln i))
  | n + 1, r, vv, ln, i, hi => by
    simp only [rl]
    rcases Nat.lt_or_ge i n with h | h
    · rw [List.getElem?_append_left (by rw [rl_len]; omega)]; exact rl_get h
    · have e : i = n := by omega
      subst e
      rw [List.getElem?_append_right (by rw [rl_len]; omega), rl_len, Nat.sub_self]; rfl
theorem rl_of {cells : List CV} {n : Nat} {r vv ln : Nat → Nat} (hl : cells.length = n) (h : ∀ i, i < n → cells[i]? = some (.sl (r i) (vv i) 0 (ln i))) : cells = rl n r vv ln := by
  refine ext_get fun j => ?_
  rcases Nat.lt_or_ge j n with hj | hj
  · rw [h j hj, rl_get hj]
  · rw [List.getElem?_eq_none (by omega), List.getElem?_eq_none (by rw [rl_len]; omega)]
/-- Integers, bools, rows of integers in memory. -/
structure IntsAt (m : AMem) (r v n : Nat) (f : Nat → Int) : Prop where
  hb : ∃ k ez, m[r]? = some ⟨k, 3, v, ez, il n f⟩
structure BoolsAt (m : AMem) (r v n : Nat) (f : Nat → Bool) : Prop where
  hb : ∃ k ez, m[r]? = some ⟨k, 4, v, ez, bl n f⟩
structure RowsAt (m : AMem) (r vp n : Nat) (ln : Nat → Nat) (q : Nat → Nat → Int) : Prop where
  hb : ∃ k ez rr vv, m[r]? = some ⟨k, 37, vp, ez, rl n rr vv ln⟩ ∧ ∀ i, i < n → IntsAt m (rr i) (vv i) (ln i) (q i)
theorem IntsAt.mono {m : AMem} {r v n : Nat} {f : Nat → Int} (h : IntsAt m r v n f) (x : AMem) : IntsAt (m ++ x) r v n f := by
  obtain ⟨k, ez, hb⟩ := h.hb; exact ⟨k, ez, lk_old hb x⟩
theorem BoolsAt.mono {m : AMem} {r v n : Nat} {f : Nat → Bool} (h : BoolsAt m r v n f) (x : AMem) : BoolsAt (m ++ x) r v n f := by
  obtain ⟨k, ez, hb⟩ := h.hb; exact ⟨k, ez, lk_old hb x⟩
theorem RowsAt.mono {m : AMem} {r vp n : Nat} {ln : Nat → Nat} {q : Nat → Nat → Int} (h : RowsAt m r vp n ln q) (x : AMem) : RowsAt (m ++ x) r vp n ln q := by
  obtain ⟨k, ez, rr, vv, hb, hr⟩ := h.hb; exact ⟨k, ez, rr, vv, lk_old hb x, fun i hi => (hr i hi).mono x⟩
def inL (n : Nat) (f : Nat → Int) (x : Int) : Bool := (List.range n).any fun i => f i == x
theorem inL_iff {n : Nat} {f : Nat → Int} {x : Int} : inL n f x = true ↔ ∃ i, i < n ∧ f i = x := by simp [inL]
theorem inL_no {n : Nat} {f : Nat → Int} {x : Int} (h : inL n f x = false) {i : Nat} (hi : i < n) : (f i == x) = false ∧ (x == f i) = false := by
  have : ¬ f i = x := fun e => by rw [inL_iff.2 ⟨i, hi, e⟩] at h; cases h
  exact ⟨by simpa using this, by simpa using fun e => this e.symm⟩
theorem inL_first {n : Nat} {f : Nat → Int} {x : Int} (h : inL n f x = true) : ∃ j, j < n ∧ f j = x ∧ ∀ i, i < j → ¬ f i = x := by
  obtain ⟨i, hi, e⟩ := inL_iff.1 h
  obtain ⟨k, h1, h2⟩ := least (p := fun i => i < n ∧ f i = x) i ⟨hi, e⟩
  exact ⟨k, h1.1, h1.2, fun i hi he => h2 i hi ⟨by omega, he⟩⟩

end Go.Proofs.Ytmjbbnfmhgcfaaa

set_option linter.unusedSimpArgs false
set_option linter.unusedVariables false
set_option maxRecDepth 100000
set_option maxHeartbeats 4000000
namespace Go.Proofs.Ytmjbbnfmhgcfaaa
open Go Go.Eng

-- left out: in_t
-- left out: in_f
-- left out: theorem in_c (r v n 
theorem index_t (r v n : Nat) (f : Nat → Int) (x : Int) (m : AMem) {nn : Nat} (hp : IntsAt m r v nn f) (hnn : n ≤ nn) (hn : n ≤ 9000000000000) (j : Nat) (hj : j < n) (hje : f j = x) (hjf : ∀ i, i < j → ¬ f i = x) : Ctr Try.prog 36 [.one (.sl r v 0 n), .one (.int .i64 x)] m (.one (.int .i64 (j : Int))) m := by
  refine Ctr.enter Try.func36 rfl (by decide) (rs := [.tmp 4]) (nt := 19) rfl rfl fun hwf Q hQ => ?_
  obtain ⟨k0, ez, hb⟩ := hp.hb
  have hr := get_lt hb
  
  refine AW.seq_k fun K hK => ?_
  refine AW.region (by decide) ?_
  simp only [push_cast, simprocAttr, hb, lk_old hb]
  refine Thn_n ?_
  refine hK _ _ ?_
  clear hK K
  refine AW.seq_k fun K hK => ?_
  refine AW.seq_k fun K hK => ?_
  refine AW.region (by decide) ?_
  simp only [push_cast, simprocAttr, hb, lk_old hb]
  refine Thn_n ?_
  refine hK _ _ ?_
  clear hK K
  refine AW.block ?_
  refine AW.loopK [0, 1, 7] (fun i => i ≤ j) (fun i => [(8, .one (.int .i64 (i : Int)))]) (fun i => []) (fun i => n - i) 0 (by omega) ?_ ?_ fun i hi4 => ?_
  · first | rfl | (simp only [Keeps, Tm.get_cons, Nat.reduceEqDiff, ↓reduceIte, if_true, if_false, ite_true, ite_false, true_and, and_true, and_self, reduceCtorEq] <;> rfl)
  · first | rfl | (simp only [setAll, push_cast, simprocAttr, hb, lk_old hb] <;> rfl)
  try simp only [keepL, setAll, push_cast, simprocAttr, hb, lk_old hb]
  refine AW.seq_k fun K hK => ?_
  refine AW.region (by decide) ?_
  simp only [push_cast, simprocAttr, hb, lk_old hb]
  refine Thn_n ?_
  refine hK _ _ ?_
  clear hK K
  refine AW.seq_k fun K hK => ?_
  refine AW.cond rfl (fun h9 => ?_) (fun h9 => ?_)
  · have hlt : i < n := by have := of_decide_eq_true h9; omega
    have c1 : (0 : Int) ≤ (i : Int) := by omega
    have c2 : (i : Int) < (n : Int) := by omega
    have g := il_get (f := f) (Nat.lt_of_lt_of_le hlt hnn)
    refine AW.skip ?_
    refine Thn_n ?_
    refine hK _ _ ?_
    clear hK K
    refine AW.seq_k fun K hK => ?_
    refine AW.block ?_
    iterate 2
      refine AW.seq_k fun K hK => ?_
      refine AW.region (by decide) ?_
      simp only [push_cast, simprocAttr, hb, lk_old hb, c1, c2, g]
      refine Thn_n ?_
      refine hK _ _ ?_
      clear hK K
    refine AW.cond rfl (fun h16 => ?_) (fun h16 => ?_)
    · have hij : i = j := by
        have he : x = f i := by simpa using h16
        rcases Nat.lt_or_ge i j with h | h
        · exact absurd he.symm (hjf i h)
        · omega
      refine AW.seq_k fun K hK => ?_
      refine AW.region (by decide) ?_
      simp only [push_cast, simprocAttr, hb, lk_old hb, c1, c2, g]
      refine Thn_n ?_
      refine hK _ _ ?_
      clear hK K
      refine AW.ret ?_
      refine InB_r ?_
      refine Thn_r ?_
      refine Thn_r ?_
      refine InB_r ?_
      refine Thn_r ?_
      refine hQ _ _ _ ?_
      first | refine RetP.drop0 (Or.inr rfl) ?_ ?_ hwf | refine RetP.drop (Or.inr rfl) ?_ ?_ hwf
      · simp only [resA, resOne, resTv, AV.tv, push_cast, simprocAttr, hb, lk_old hb, c1, c2, g, hij]
      · rfl
    · have hne : ¬ x = f i := by simpa using h16
      have hij : i < j := by
        rcases Nat.lt_or_ge i j with h | h
        · exact h
        · exact absurd hje.symm (by rw [show j = i by omega]; exact hne)
      refine AW.skip ?_
      refine InB_n ?_
      refine Thn_n ?_
      refine hK _ _ ?_
      clear hK K
      refine AW.region (by decide) ?_
      simp only [push_cast, simprocAttr, hb, lk_old hb, c1, c2, g]
      refine Thn_n ?_
      have hwi : IntKind.i64.wrap ((i:Int)+1) = (i:Int)+1 := by rw [IntKind.wrap_i64]; omega
      refine ⟨i + 1, by omega, by omega, ?_⟩
      try simp only [keepL, setAll, push_cast, simprocAttr, hb, lk_old hb, c1, c2, g, hwi]
      exact Weak.same (by simp only [Keeps, Tm.get_cons, Nat.reduceEqDiff, ↓reduceIte, if_true, if_false, ite_true, ite_false, true_and, and_true, and_self, reduceCtorEq, hwi]) (by first | rfl | simp only [Keeps, Tm.get_cons, Nat.reduceEqDiff, ↓reduceIte, if_true, if_false, ite_true, ite_false, true_and, and_true, and_self, reduceCtorEq, hwi])
  · exfalso
    have := of_decide_eq_false h9; omega
theorem index_f (r v n : Nat) (f : Nat → Int) (x : Int) (m : AMem) {nn : Nat} (hp : IntsAt m r v nn f) (hnn : n ≤ nn) (hn : n ≤ 9000000000000) (hx : inL n f x = false) : Ctr Try.prog 36 [.one (.sl r v 0 n), .one (.int .i64 x)] m (.one (.int .i64 (-1))) m := by
  refine Ctr.enter Try.func36 rfl (by decide) (rs := [.tmp 4]) (nt := 19) rfl rfl fun hwf Q hQ => ?_
  obtain ⟨k0, ez, hb⟩ := hp.hb
  have hr := get_lt hb
  
  refine AW.seq_k fun K hK => ?_
  refine AW.region (by decide) ?_
  simp only [push_cast, simprocAttr, hb, lk_old hb]
  refine Thn_n ?_
  refine hK _ _ ?_
  clear hK K
  refine AW.seq_k fun K hK => ?_
  refine AW.seq_k fun K hK => ?_
  refine AW.region (by decide) ?_
  simp only [push_cast, simprocAttr, hb, lk_old hb]
  refine Thn_n ?_
  refine hK _ _ ?_
  clear hK K
  refine AW.block ?_
  refine AW.loopK [0, 1, 7] (fun i => i ≤ n) (fun i => [(8, .one (.int .i64 (i : Int)))]) (fun i => []) (fun i => n - i) 0 (by omega) ?_ ?_ fun i hi4 => ?_
  · first | rfl | (simp only [Keeps, Tm.get_cons, Nat.reduceEqDiff, ↓reduceIte, if_true, if_false, ite_true, ite_false, true_and, and_true, and_self, reduceCtorEq] <;> rfl)
  · first | rfl | (simp only [setAll, push_cast, simprocAttr, hb, lk_old hb] <;> rfl)
  try simp only [keepL, setAll, push_cast, simprocAttr, hb, lk_old hb]
  refine AW.seq_k fun K hK => ?_
  refine AW.region (by decide) ?_
  simp only [push_cast, simprocAttr, hb, lk_old hb]
  refine Thn_n ?_
  refine hK _ _ ?_
  clear hK K
  refine AW.seq_k fun K hK => ?_
  refine AW.cond rfl (fun h9 => ?_) (fun h9 => ?_)
  · have hlt : i < n := by have := of_decide_eq_true h9; omega
    have c1 : (0 : Int) ≤ (i : Int) := by omega
    have c2 : (i : Int) < (n : Int) := by omega
    have g := il_get (f := f) (Nat.lt_of_lt_of_le hlt hnn)
    obtain ⟨e1, e2⟩ := inL_no hx hlt
    refine AW.skip ?_
    refine Thn_n ?_
    refine hK _ _ ?_
    clear hK K
    refine AW.seq_k fun K hK => ?_
    refine AW.block ?_
    iterate 2
      refine AW.seq_k fun K hK => ?_
      refine AW.region (by decide) ?_
      simp only [push_cast, simprocAttr, hb, lk_old hb, c1, c2, g, e1, e2]
      refine Thn_n ?_
      refine hK _ _ ?_
      clear hK K
    refine AW.cond_f rfl ?_
    refine AW.skip ?_
    refine InB_n ?_
    refine Thn_n ?_
    refine hK _ _ ?_
    clear hK K
    refine AW.region (by decide) ?_
    simp only [push_cast, simprocAttr, hb, lk_old hb, c1, c2, g, e1, e2]
    refine Thn_n ?_
    have hwi : IntKind.i64.wrap ((i:Int)+1) = (i:Int)+1 := by rw [IntKind.wrap_i64]; omega
    refine ⟨i + 1, by omega, by omega, ?_⟩
    try simp only [keepL, setAll, push_cast, simprocAttr, hb, lk_old hb, c1, c2, g, e1, e2, hwi]
    exact Weak.same (by simp only [Keeps, Tm.get_cons, Nat.reduceEqDiff, ↓reduceIte, if_true, if_false, ite_true, ite_false, true_and, and_true, and_self, reduceCtorEq, hwi]) (by first | rfl | simp only [Keeps, Tm.get_cons, Nat.reduceEqDiff, ↓reduceIte, if_true, if_false, ite_true, ite_false, true_and, and_true, and_self, reduceCtorEq, hwi])
  · refine AW.exit ?_
    refine Thn_e ?_
    clear hK K
    refine Thn_e ?_
    refine InB_here ?_
    refine Thn_n ?_
    refine hK _ _ ?_
    clear hK K
    refine AW.seq_k fun K hK => ?_
    refine AW.region (by decide) ?_
    simp only [push_cast, simprocAttr, hb, lk_old hb]
    refine Thn_n ?_
    refine hK _ _ ?_
    clear hK K
    refine AW.ret ?_
    refine hQ _ _ _ ?_
    first | refine RetP.drop0 (Or.inr rfl) ?_ ?_ hwf | refine RetP.drop (Or.inr rfl) ?_ ?_ hwf
    · simp only [resA, resOne, resTv, AV.tv, push_cast, simprocAttr, hb, lk_old hb]
    · rfl
theorem contains_t (r v n : Nat) (f : Nat → Int) (x : Int) (m : AMem) {nn : Nat} (hp : IntsAt m r v nn f) (hnn : n ≤ nn) (hn : n ≤ 9000000000000) (hx : inL n f x = true) (j : Nat) (hj : j < n) (hje : f j = x) (hjf : ∀ i, i < j → ¬ f i = x) : Ctr Try.prog 29 [.one (.sl r v 0 n), .one (.int .i64 x)] m (.one (.bool true)) m := by
  refine Ctr.enter Try.func29 rfl (by decide) (rs := [.tmp 4]) (nt := 9) rfl rfl fun hwf Q hQ => ?_
  have c1 : (0 : Int) ≤ (j : Int) := by omega
  refine AW.seq_k fun K hK => ?_
  refine AW.region (by decide) ?_
  simp only [push_cast, simprocAttr, c1]
  refine Thn_n ?_
  refine hK _ _ ?_
  clear hK K
  refine AW.seq_k fun K hK => ?_
  refine AW.region (by decide) ?_
  simp only [push_cast, simprocAttr, c1]
  refine CThen.by (index_t r v n f x _ hp hnn hn j hj hje hjf) ?_
  simp only [push_cast, simprocAttr, c1]
  refine Thn_n ?_
  refine hK _ _ ?_
  clear hK K
  refine AW.ret ?_
  refine hQ _ _ _ ?_
  first | refine RetP.drop0 (Or.inr rfl) ?_ ?_ hwf | refine RetP.drop (Or.inr rfl) ?_ ?_ hwf
  · simp only [resA, resOne, resTv, AV.tv, push_cast, simprocAttr, c1]
  · rfl
theorem contains_f (r v n : Nat) (f : Nat → Int) (x : Int) (m : AMem) {nn : Nat} (hp : IntsAt m r v nn f) (hnn : n ≤ nn) (hn : n ≤ 9000000000000) (hx : inL n f x = false) : Ctr Try.prog 29 [.one (.sl r v 0 n), .one (.int .i64 x)] m (.one (.bool false)) m := by
  refine Ctr.enter Try.func29 rfl (by decide) (rs := [.tmp 4]) (nt := 9) rfl rfl fun hwf Q hQ => ?_
  refine AW.seq_k fun K hK => ?_
  refine AW.region (by decide) ?_
  simp only [push_cast, simprocAttr]
  refine Thn_n ?_
  refine hK _ _ ?_
  clear hK K
  refine AW.seq_k fun K hK => ?_
  refine AW.region (by decide) ?_
  simp only [push_cast, simprocAttr]
  refine CThen.by (index_f r v n f x _ hp hnn hn hx) ?_
  simp only [push_cast, simprocAttr]
  refine Thn_n ?_
  refine hK _ _ ?_
  clear hK K
  refine AW.ret ?_
  refine hQ _ _ _ ?_
  first | refine RetP.drop0 (Or.inr rfl) ?_ ?_ hwf | refine RetP.drop (Or.inr rfl) ?_ ?_ hwf
  · simp only [resA, resOne, resTv, AV.tv, push_cast, simprocAttr]
  · rfl
theorem contains_c (r v n : Nat) (f : Nat → Int) (x : Int) (m : AMem) {nn : Nat} (hp : IntsAt m r v nn f) (hnn : n ≤ nn) (hn : n ≤ 9000000000000) : Ctr Try.prog 29 [.one (.sl r v 0 n), .one (.int .i64 x)] m (.one (.bool (inL n f x))) m := by
  cases hx : inL n f x
  · exact contains_f r v n f x m hp hnn hn hx
  · obtain ⟨j, hj, hje, hjf⟩ := inL_first hx
    exact contains_t r v n f x m hp hnn hn hx j hj hje hjf
def anyL (n : Nat) (b : Nat → Bool) : Bool := (List.range n).any b
theorem anyL_iff {n : Nat} {b : Nat → Bool} : anyL n b = true ↔ ∃ i, i < n ∧ b i = true := by simp [anyL]
theorem anyL_no {n : Nat} {b : Nat → Bool} (h : anyL n b = false) {i : Nat} (hi : i < n) : b i = false := by
  cases e : b i
  · rfl
  · rw [anyL_iff.2 ⟨i, hi, e⟩] at h; cases h
theorem anyL_first {n : Nat} {b : Nat → Bool} (h : anyL n b = true) : ∃ j, j < n ∧ b j = true ∧ ∀ i, i < j → b i = false := by
  obtain ⟨i, hi, e⟩ := anyL_iff.1 h
  obtain ⟨k, h1, h2⟩ := least (p := fun i => i < n ∧ b i = true) i ⟨hi, e⟩
  refine ⟨k, h1.1, h1.2, fun i hi => ?_⟩
  cases e : b i
  · rfl
  · exact absurd ⟨by omega, e⟩ (h2 i hi)
theorem indexF_t (r v n : Nat) (f : Nat → Int) (g : Nat) (cs : List (Nat × Nat × Nat)) (b : Nat → Bool) (m : AMem) (hp : IntsAt m r v n f) (hn : n ≤ 9000000000000) (hg : ∀ i, i < n → Ctr Try.prog g ([.one (.int .i64 (f i))] ++ capsAV cs) m (.one (.bool (b i))) m) (j : Nat) (hj : j < n) (hje : b j = true) (hjf : ∀ i, i < j → b i = false) : Ctr Try.prog 43 [.one (.sl r v 0 n), .one (.fn g cs)] m (.one (.int .i64 (j : Int))) m := by
  refine Ctr.enter Try.func43 rfl (by decide) (rs := [.tmp 4]) (nt := 19) rfl rfl fun hwf Q hQ => ?_
  obtain ⟨k0, ez, hb⟩ := hp.hb
  have hr := get_lt hb
  
  refine AW.seq_k fun K hK => ?_
  refine AW.region (by decide) ?_
  simp only [push_cast, simprocAttr, hb, lk_old hb]
  refine Thn_n ?_
  refine hK _ _ ?_
  clear hK K
  refine AW.seq_k fun K hK => ?_
  refine AW.seq_k fun K hK => ?_
  refine AW.region (by decide) ?_
  simp only [push_cast, simprocAttr, hb, lk_old hb]
  refine Thn_n ?_
  refine hK _ _ ?_
  clear hK K
  refine AW.block ?_
  refine AW.loopK [0, 1, 7] (fun i => i ≤ j) (fun i => [(8, .one (.int .i64 (i : Int)))]) (fun i => []) (fun i => n - i) 0 (by omega) ?_ ?_ fun i hi4 => ?_
  · first | rfl | (simp only [Keeps, Tm.get_cons, Nat.reduceEqDiff, ↓reduceIte, if_true, if_false, ite_true, ite_false, true_and, and_true, and_self, reduceCtorEq] <;> rfl)
  · first | rfl | (simp only [setAll, push_cast, simprocAttr, hb, lk_old hb] <;> rfl)
  try simp only [keepL, setAll, push_cast, simprocAttr, hb, lk_old hb]
  refine AW.seq_k fun K hK => ?_
  refine AW.region (by decide) ?_
  simp only [push_cast, simprocAttr, hb, lk_old hb]
  refine Thn_n ?_
  refine hK _ _ ?_
  clear hK K
  refine AW.seq_k fun K hK => ?_
  refine AW.cond rfl (fun h9 => ?_) (fun h9 => ?_)
  · have hlt : i < n := by have := of_decide_eq_true h9; omega
    have c1 : (0 : Int) ≤ (i : Int) := by omega
    have c2 : (i : Int) < (n : Int) := by omega
    have g := il_get (f := f) hlt
    refine AW.skip ?_
    refine Thn_n ?_
    refine hK _ _ ?_
    clear hK K
    refine AW.seq_k fun K hK => ?_
    refine AW.block ?_
    refine AW.seq_k fun K hK => ?_
    refine AW.region (by decide) ?_
    simp only [push_cast, simprocAttr, hb, lk_old hb, c1, c2, g]
    refine Thn_n ?_
    refine hK _ _ ?_
    clear hK K
    refine AW.seq_k fun K hK => ?_
    refine AW.region (by decide) ?_
    simp only [push_cast, simprocAttr, hb, lk_old hb, c1, c2, g]
    refine CThen.by (hg i hlt) ?_
    simp only [push_cast, simprocAttr, hb, lk_old hb, c1, c2, g]
    refine Thn_n ?_
    refine hK _ _ ?_
    clear hK K
    refine AW.cond rfl (fun h16 => ?_) (fun h16 => ?_)
    · have hij : i = j := by
        rcases Nat.lt_or_ge i j with h | h
        · rw [hjf i h] at h16; cases h16
        · omega
      refine AW.seq_k fun K hK => ?_
      refine AW.region (by decide) ?_
      simp only [push_cast, simprocAttr, hb, lk_old hb, c1, c2, g]
      refine Thn_n ?_
      refine hK _ _ ?_
      clear hK K
      refine AW.ret ?_
      refine InB_r ?_
      refine Thn_r ?_
      refine Thn_r ?_
      refine InB_r ?_
      refine Thn_r ?_
      refine hQ _ _ _ ?_
      first | refine RetP.drop0 (Or.inr rfl) ?_ ?_ hwf | refine RetP.drop (Or.inr rfl) ?_ ?_ hwf
      · simp only [resA, resOne, resTv, AV.tv, push_cast, simprocAttr, hb, lk_old hb, c1, c2, g, hij]
      · rfl
    · have hij : i < j := by
        rcases Nat.lt_or_ge i j with h | h
        · exact h
        · rw [show i = j by omega, hje] at h16; cases h16
      refine AW.skip ?_
      refine InB_n ?_
      refine Thn_n ?_
      refine hK _ _ ?_
      clear hK K
      refine AW.region (by decide) ?_
      simp only [push_cast, simprocAttr, hb, lk_old hb, c1, c2, g]
      refine Thn_n ?_
      have hwi : IntKind.i64.wrap ((i:Int)+1) = (i:Int)+1 := by rw [IntKind.wrap_i64]; omega
      refine ⟨i + 1, by omega, by omega, ?_⟩
      try simp only [keepL, setAll, push_cast, simprocAttr, hb, lk_old hb, c1, c2, g, hwi]
      exact Weak.same (by simp only [Keeps, Tm.get_cons, Nat.reduceEqDiff, ↓reduceIte, if_true, if_false, ite_true, ite_false, true_and, and_true, and_self, reduceCtorEq, hwi]) (by first | rfl | simp only [Keeps, Tm.get_cons, Nat.reduceEqDiff, ↓reduceIte, if_true, if_false, ite_true, ite_false, true_and, and_true, and_self, reduceCtorEq, hwi])
  · exfalso
    have := of_decide_eq_false h9; omega
theorem indexF_f (r v n : Nat) (f : Nat → Int) (g : Nat) (cs : List (Nat × Nat × Nat)) (b : Nat → Bool) (m : AMem) (hp : IntsAt m r v n f) (hn : n ≤ 9000000000000) (hg : ∀ i, i < n → Ctr Try.prog g ([.one (.int .i64 (f i))] ++ capsAV cs) m (.one (.bool (b i))) m) (hx : anyL n b = false) : Ctr Try.prog 43 [.one (.sl r v 0 n), .one (.fn g cs)] m (.one (.int .i64 (-1))) m := by
  refine Ctr.enter Try.func43 rfl (by decide) (rs := [.tmp 4]) (nt := 19) rfl rfl fun hwf Q hQ => ?_
  obtain ⟨k0, ez, hb⟩ := hp.hb
  have hr := get_lt hb
  
  refine AW.seq_k fun K hK => ?_
  refine AW.region (by decide) ?_
  simp only [push_cast, simprocAttr, hb, lk_old hb]
  refine Thn_n ?_
  refine hK _ _ ?_
  clear hK K
  refine AW.seq_k fun K hK => ?_
  refine AW.seq_k fun K hK => ?_
  refine AW.region (by decide) ?_
  simp only [push_cast, simprocAttr, hb, lk_old hb]
  refine Thn_n ?_
  refine hK _ _ ?_
  clear hK K
  refine AW.block ?_
  refine AW.loopK [0, 1, 7] (fun i => i ≤ n) (fun i => [(8, .one (.int .i64 (i : Int)))]) (fun i => []) (fun i => n - i) 0 (by omega) ?_ ?_ fun i hi4 => ?_
  · first | rfl | (simp only [Keeps, Tm.get_cons, Nat.reduceEqDiff, ↓reduceIte, if_true, if_false, ite_true, ite_false, true_and, and_true, and_self, reduceCtorEq] <;> rfl)
  · first | rfl | (simp only [setAll, push_cast, simprocAttr, hb, lk_old hb] <;> rfl)
  try simp only [keepL, setAll, push_cast, simprocAttr, hb, lk_old hb]
  refine AW.seq_k fun K hK => ?_
  refine AW.region (by decide) ?_
  simp only [push_cast, simprocAttr, hb, lk_old hb]
  refine Thn_n ?_
  refine hK _ _ ?_
  clear hK K
  refine AW.seq_k fun K hK => ?_
  refine AW.cond rfl (fun h9 => ?_) (fun h9 => ?_)
  · have hlt : i < n := by have := of_decide_eq_true h9; omega
    have c1 : (0 : Int) ≤ (i : Int) := by omega
    have c2 : (i : Int) < (n : Int) := by omega
    have g := il_get (f := f) hlt
    have e1 := anyL_no hx hlt
    refine AW.skip ?_
    refine Thn_n ?_
    refine hK _ _ ?_
    clear hK K
    refine AW.seq_k fun K hK => ?_
    refine AW.block ?_
    refine AW.seq_k fun K hK => ?_
    refine AW.region (by decide) ?_
    simp only [push_cast, simprocAttr, hb, lk_old hb, c1, c2, g, e1]
    refine Thn_n ?_
    refine hK _ _ ?_
    clear hK K
    refine AW.seq_k fun K hK => ?_
    refine AW.region (by decide) ?_
    simp only [push_cast, simprocAttr, hb, lk_old hb, c1, c2, g, e1]
    refine CThen.by (hg i hlt) ?_
    simp only [push_cast, simprocAttr, hb, lk_old hb, c1, c2, g, e1]
    refine Thn_n ?_
    refine hK _ _ ?_
    clear hK K
    refine AW.cond_f rfl ?_
    refine AW.skip ?_
    refine InB_n ?_
    refine Thn_n ?_
    refine hK _ _ ?_
    clear hK K
    refine AW.region (by decide) ?_
    simp only [push_cast, simprocAttr, hb, lk_old hb, c1, c2, g, e1]
    refine Thn_n ?_
    have hwi : IntKind.i64.wrap ((i:Int)+1) = (i:Int)+1 := by rw [IntKind.wrap_i64]; omega
    refine ⟨i + 1, by omega, by omega, ?_⟩
    try simp only [keepL, setAll, push_cast, simprocAttr, hb, lk_old hb, c1, c2, g, e1, hwi]
    exact Weak.same (by simp only [Keeps, Tm.get_cons, Nat.reduceEqDiff, ↓reduceIte, if_true, if_false, ite_true, ite_false, true_and, and_true, and_self, reduceCtorEq, hwi]) (by first | rfl | simp only [Keeps, Tm.get_cons, Nat.reduceEqDiff, ↓reduceIte, if_true, if_false, ite_true, ite_false, true_and, and_true, and_self, reduceCtorEq, hwi])
  · refine AW.exit ?_
    refine Thn_e ?_
    clear hK K
    refine Thn_e ?_
    refine InB_here ?_
    refine Thn_n ?_
    refine hK _ _ ?_
    clear hK K
    refine AW.seq_k fun K hK => ?_
    refine AW.region (by decide) ?_
    simp only [push_cast, simprocAttr, hb, lk_old hb]
    refine Thn_n ?_
    refine hK _ _ ?_
    clear hK K
    refine AW.ret ?_
    refine hQ _ _ _ ?_
    first | refine RetP.drop0 (Or.inr rfl) ?_ ?_ hwf | refine RetP.drop (Or.inr rfl) ?_ ?_ hwf
    · simp only [resA, resOne, resTv, AV.tv, push_cast, simprocAttr, hb, lk_old hb]
    · rfl
theorem containsF_t (r v n : Nat) (f : Nat → Int) (g : Nat) (cs : List (Nat × Nat × Nat)) (b : Nat → Bool) (m : AMem) (hp : IntsAt m r v n f) (hn : n ≤ 9000000000000) (hg : ∀ i, i < n → Ctr Try.prog g ([.one (.int .i64 (f i))] ++ capsAV cs) m (.one (.bool (b i))) m) (j : Nat) (hj : j < n) (hje : b j = true) (hjf : ∀ i, i < j → b i = false) : Ctr Try.prog 37 [.one (.sl r v 0 n), .one (.fn g cs)] m (.one (.bool true)) m := by
  refine Ctr.enter Try.func37 rfl (by decide) (rs := [.tmp 4]) (nt := 9) rfl rfl fun hwf Q hQ => ?_
  have c1 : (0 : Int) ≤ (j : Int) := by omega
  refine AW.seq_k fun K hK => ?_
  refine AW.region (by decide) ?_
  simp only [push_cast, simprocAttr, c1]
  refine Thn_n ?_
  refine hK _ _ ?_
  clear hK K
  refine AW.seq_k fun K hK => ?_
  refine AW.region (by decide) ?_
  simp only [push_cast, simprocAttr, c1]
  refine CThen.by (indexF_t r v n f g cs b _ hp hn hg j hj hje hjf) ?_
  simp only [push_cast, simprocAttr, c1]
  refine Thn_n ?_
  refine hK _ _ ?_
  clear hK K
  refine AW.ret ?_
  refine hQ _ _ _ ?_
  first | refine RetP.drop0 (Or.inr rfl) ?_ ?_ hwf | refine RetP.drop (Or.inr rfl) ?_ ?_ hwf
  · simp only [resA, resOne, resTv, AV.tv, push_cast, simprocAttr, c1]
  · rfl
theorem containsF_f (r v n : Nat) (f : Nat → Int) (g : Nat) (cs : List (Nat × Nat × Nat)) (b : Nat → Bool) (m : AMem) (hp : IntsAt m r v n f) (hn : n ≤ 9000000000000) (hg : ∀ i, i < n → Ctr Try.prog g ([.one (.int .i64 (f i))] ++ capsAV cs) m (.one (.bool (b i))) m) (hx : anyL n b = false) : Ctr Try.prog 37 [.one (.sl r v 0 n), .one (.fn g cs)] m (.one (.bool false)) m := by
  refine Ctr.enter Try.func37 rfl (by decide) (rs := [.tmp 4]) (nt := 9) rfl rfl fun hwf Q hQ => ?_
  refine AW.seq_k fun K hK => ?_
  refine AW.region (by decide) ?_
  simp only [push_cast, simprocAttr]
  refine Thn_n ?_
  refine hK _ _ ?_
  clear hK K
  refine AW.seq_k fun K hK => ?_
  refine AW.region (by decide) ?_
  simp only [push_cast, simprocAttr]
  refine CThen.by (indexF_f r v n f g cs b _ hp hn hg hx) ?_
  simp only [push_cast, simprocAttr]
  refine Thn_n ?_
  refine hK _ _ ?_
  clear hK K
  refine AW.ret ?_
  refine hQ _ _ _ ?_
  first | refine RetP.drop0 (Or.inr rfl) ?_ ?_ hwf | refine RetP.drop (Or.inr rfl) ?_ ?_ hwf
  · simp only [resA, resOne, resTv, AV.tv, push_cast, simprocAttr]
  · rfl
theorem containsF_c (r v n : Nat) (f : Nat → Int) (g : Nat) (cs : List (Nat × Nat × Nat)) (b : Nat → Bool) (m : AMem) (hp : IntsAt m r v n f) (hn : n ≤ 9000000000000) (hg : ∀ i, i < n → Ctr Try.prog g ([.one (.int .i64 (f i))] ++ capsAV cs) m (.one (.bool (b i))) m) : Ctr Try.prog 37 [.one (.sl r v 0 n), .one (.fn g cs)] m (.one (.bool (anyL n b))) m := by
  cases hx : anyL n b
  · exact containsF_f r v n f g cs b m hp hn hg hx
  · obtain ⟨j, hj, hje, hjf⟩ := anyL_first hx
    exact containsF_t r v n f g cs b m hp hn hg j hj hje hjf
def hasB (n : Nat) (s : Nat → Bool) (x : Int) : Bool := decide (0 ≤ x) && (decide (x < (n : Int)) && s x.toNat)
theorem has_n (r v n : Nat) (s : Nat → Bool) (x : Int) (m : AMem) (hp : BoolsAt m r v n s) (h : ¬ (0 ≤ x ∧ x < (n : Int))) : Ctr Try.prog 39 [.one (.sl r v 0 n), .one (.int .i64 x)] m (.one (.bool false)) m := by
  refine Ctr.enter Try.func39 rfl (by decide) (rs := [.tmp 4]) (nt := 19) rfl rfl fun hwf Q hQ => ?_
  obtain ⟨k0, ez, hb⟩ := hp.hb
  have hr := get_lt hb
  
  rcases chain2 (0 ≤ x) (x < (n : Int)) with ⟨h1, h2⟩ | ⟨h1, h2⟩ | ⟨h1, h2⟩
  · exact absurd ⟨h1, h2⟩ h
  all_goals (
  iterate 2
    refine AW.seq_k fun K hK => ?_
    refine AW.region (by decide) ?_
    simp only [push_cast, simprocAttr, h1, h2]
    refine Thn_n ?_
    refine hK _ _ ?_
    clear hK K
  refine AW.ret ?_
  refine hQ _ _ _ ?_
  first | refine RetP.drop0 (Or.inr rfl) ?_ ?_ hwf | refine RetP.drop (Or.inr rfl) ?_ ?_ hwf
  · simp only [resA, resOne, resTv, AV.tv, push_cast, simprocAttr, h1, h2]
  · rfl
  )
theorem has_y (r v n : Nat) (s : Nat → Bool) (x : Int) (m : AMem) (hp : BoolsAt m r v n s) (h1 : 0 ≤ x) (h2 : x < (n : Int)) : Ctr Try.prog 39 [.one (.sl r v 0 n), .one (.int .i64 x)] m (.one (.bool (s x.toNat))) m := by
  refine Ctr.enter Try.func39 rfl (by decide) (rs := [.tmp 4]) (nt := 19) rfl rfl fun hwf Q hQ => ?_
  obtain ⟨k0, ez, hb⟩ := hp.hb
  have hr := get_lt hb
  have g := bl_get (f := s) (show x.toNat < n by omega)
  iterate 2
    refine AW.seq_k fun K hK => ?_
    refine AW.region (by decide) ?_
    simp only [push_cast, simprocAttr, hb, lk_old hb, h1, h2, g]
    refine Thn_n ?_
    refine hK _ _ ?_
    clear hK K
  refine AW.ret ?_
  refine hQ _ _ _ ?_
  first | refine RetP.drop0 (Or.inr rfl) ?_ ?_ hwf | refine RetP.drop (Or.inr rfl) ?_ ?_ hwf
  · simp only [resA, resOne, resTv, AV.tv, push_cast, simprocAttr, hb, lk_old hb, h1, h2, g]
  · rfl
theorem has_c (r v n : Nat) (s : Nat → Bool) (x : Int) (m : AMem) (hp : BoolsAt m r v n s) : Ctr Try.prog 39 [.one (.sl r v 0 n), .one (.int .i64 x)] m (.one (.bool (hasB n s x))) m := by
  by_cases h : 0 ≤ x ∧ x < (n : Int)
  · rw [hasB, decide_eq_true h.1, decide_eq_true h.2, Bool.true_and, Bool.true_and]; exact has_y r v n s x m hp h.1 h.2
  · have e : hasB n s x = false := by
      rw [hasB]
      by_cases h1 : 0 ≤ x
      · rw [decide_eq_false (fun h2 => h ⟨h1, h2⟩), Bool.false_and, Bool.and_false]
      · rw [decide_eq_false h1, Bool.false_and]
    rw [e]; exact has_n r v n s x m hp h
end Go.Proofs.Ytmjbbnfmhgcfaaa

set_option linter.unusedSimpArgs false
set_option linter.unusedVariables false
set_option maxRecDepth 100000
set_option maxHeartbeats 4000000
namespace Go.Proofs.Ytmjbbnfmhgcfaaa
open Go Go.Eng

/-- May a step be done: of its needs, none is no step, or wasn't done. -/
def needB (N : Nat) (s : Nat → Bool) (x : Int) : Bool := decide ((N : Int) ≤ x) || !hasB N s x
def freeB (N : Nat) (ln : Nat → Nat) (q : Nat → Nat → Int) (s : Nat → Bool) (i : Nat) : Bool := !anyL (ln i) fun j => needB N s (q i j)
theorem free1_t {vp : Nat} (r N rd vd bp bd : Nat) (s : Nat → Bool) (x : Int) (m : AMem) (hbp : m[bp]? = some ⟨.fix, 34, 0, 0, [.sl r vp 0 N]⟩) (hbd : m[bd]? = some ⟨.fix, 71, 0, 0, [.sl rd vd 0 N]⟩) (hd : BoolsAt m rd vd N s) (h : (N : Int) ≤ x) : Ctr Try.prog 38 [.one (.int .i64 x), .one (.ptr bp 0 0), .one (.ptr bd 0 0)] m (.one (.bool (needB N s x))) m := by
  refine Ctr.enter Try.func38 rfl (by decide) (rs := [.tmp 4]) (nt := 15) rfl rfl fun hwf Q hQ => ?_
  iterate 2
    refine AW.seq_k fun K hK => ?_
    refine AW.region (by decide) ?_
    simp only [push_cast, simprocAttr, hbp, hbd, h]
    refine Thn_n ?_
    refine hK _ _ ?_
    clear hK K
  refine AW.ret ?_
  refine hQ _ _ _ ?_
  first | refine RetP.drop0 (Or.inr rfl) ?_ ?_ hwf | refine RetP.drop (Or.inr rfl) ?_ ?_ hwf
  · simp only [resA, resOne, resTv, AV.tv, push_cast, simprocAttr, hbp, hbd, h, needB]
  · rfl
theorem free1_f {vp : Nat} (r N rd vd bp bd : Nat) (s : Nat → Bool) (x : Int) (m : AMem) (hbp : m[bp]? = some ⟨.fix, 34, 0, 0, [.sl r vp 0 N]⟩) (hbd : m[bd]? = some ⟨.fix, 71, 0, 0, [.sl rd vd 0 N]⟩) (hd : BoolsAt m rd vd N s) (h : ¬ (N : Int) ≤ x) : Ctr Try.prog 38 [.one (.int .i64 x), .one (.ptr bp 0 0), .one (.ptr bd 0 0)] m (.one (.bool (needB N s x))) m := by
  refine Ctr.enter Try.func38 rfl (by decide) (rs := [.tmp 4]) (nt := 15) rfl rfl fun hwf Q hQ => ?_
  refine AW.seq_k fun K hK => ?_
  refine AW.region (by decide) ?_
  simp only [push_cast, simprocAttr, hbp, hbd, h]
  refine Thn_n ?_
  refine hK _ _ ?_
  clear hK K
  refine AW.seq_k fun K hK => ?_
  refine AW.region (by decide) ?_
  simp only [push_cast, simprocAttr, hbp, hbd, h]
  refine CThen.by (has_c rd vd N s x _ hd) ?_
  simp only [push_cast, simprocAttr, hbp, hbd, h]
  refine Thn_n ?_
  refine hK _ _ ?_
  clear hK K
  refine AW.ret ?_
  refine hQ _ _ _ ?_
  first | refine RetP.drop0 (Or.inr rfl) ?_ ?_ hwf | refine RetP.drop (Or.inr rfl) ?_ ?_ hwf
  · simp only [resA, resOne, resTv, AV.tv, push_cast, simprocAttr, hbp, hbd, h, needB]
  · rfl
theorem free1_c {vp : Nat} (r N rd vd bp bd : Nat) (s : Nat → Bool) (x : Int) (m : AMem) (hbp : m[bp]? = some ⟨.fix, 34, 0, 0, [.sl r vp 0 N]⟩) (hbd : m[bd]? = some ⟨.fix, 71, 0, 0, [.sl rd vd 0 N]⟩) (hd : BoolsAt m rd vd N s) : Ctr Try.prog 38 [.one (.int .i64 x), .one (.ptr bp 0 0), .one (.ptr bd 0 0)] m (.one (.bool (needB N s x))) m := by
  by_cases h : (N : Int) ≤ x
  · exact free1_t r N rd vd bp bd s x m hbp hbd hd h
  · exact free1_f r N rd vd bp bd s x m hbp hbd hd h
theorem free_c {vp : Nat} (rp N : Nat) (ln : Nat → Nat) (q : Nat → Nat → Int) (m : AMem) (hp : RowsAt m rp vp N ln q) (hl : ∀ i, i < N → ln i ≤ 9000000000000) (rd vd : Nat) (s : Nat → Bool) (hd : BoolsAt m rd vd N s) (i : Nat) (hi : i < N) : Ctr Try.prog 30 [.one (.sl rp vp 0 N), .one (.sl rd vd 0 N), .one (.int .i64 (i : Int))] m (.one (.bool (freeB N ln q s i))) m := by
  refine Ctr.enter Try.func30 rfl (by decide) (rs := [.tmp 6]) (nt := 14) rfl rfl fun hwf Q hQ => ?_
  obtain ⟨k0, ez, rr, vv, hb, hrows⟩ := hp.hb
  have hr := get_lt hb
  have hrow := hrows i hi
  have g := rl_get (r := rr) (vv := vv) (ln := ln) hi
  have c1 : (0 : Int) ≤ (i : Int) := by omega
  have c2 : (i : Int) < (N : Int) := by omega
  refine AW.seq_k fun K hK => ?_
  refine AW.region (by decide) ?_
  simp only [push_cast, simprocAttr, hb, lk_old hb, g, c1, c2]
  refine Thn_n ?_
  refine hK _ _ ?_
  clear hK K
  refine AW.seq_k fun K hK => ?_
  refine AW.region (by decide) ?_
  simp only [push_cast, simprocAttr, hb, lk_old hb, g, c1, c2]
  refine CThen.by (containsF_c _ _ _ (q i) _ _ (fun j => needB N s (q i j)) _ (hrow.mono _) (hl i hi) (fun j hj => by simp only [capsAV, List.map_cons, List.map_nil, List.cons_append, List.nil_append, List.append_assoc]; exact free1_c (vp := vp) rp N rd vd _ _ s (q i j) _ (by simp only [push_cast, simprocAttr]) (by simp only [push_cast, simprocAttr]) (hd.mono _))) ?_
  simp only [push_cast, simprocAttr, hb, lk_old hb, g, c1, c2]
  refine Thn_n ?_
  refine hK _ _ ?_
  clear hK K
  refine AW.ret ?_
  refine hQ _ _ _ ?_
  first | refine RetP.drop0 (Or.inr rfl) ?_ ?_ hwf | refine RetP.drop (Or.inr rfl) ?_ ?_ hwf
  · simp only [resA, resOne, resTv, AV.tv, push_cast, simprocAttr, hb, lk_old hb, g, c1, c2, freeB]
  · rfl
/-- Is a number among these? -/
def memO (o : List Nat) (x : Int) : Bool := o.any fun y => (y : Int) == x
def mayB (ln : Nat → Nat) (q : Nat → Nat → Int) (o : List Nat) (i : Nat) : Bool := !memO o (i : Int) && (List.range (ln i)).all fun j => memO o (q i j)
def oF (o : List Nat) (j : Nat) : Int := ((o.getD j 0 : Nat) : Int)
theorem inL_mem (o : List Nat) (x : Int) : inL o.length (oF o) x = memO o x := by
  rw [Bool.eq_iff_iff, inL_iff]
  simp only [memO, List.any_eq_true, beq_iff_eq]
  constructor
  · rintro ⟨i, hi, e⟩
    exact ⟨o[i], List.getElem_mem hi, by rw [← e, oF, List.getD_eq_getElem?_getD, List.getElem?_eq_getElem hi]; rfl⟩
  · rintro ⟨y, hy, e⟩
    obtain ⟨i, hi, rfl⟩ := List.getElem_of_mem hy
    exact ⟨i, hi, by rw [← e, oF, List.getD_eq_getElem?_getD, List.getElem?_eq_getElem hi]; rfl⟩
-- left out: theorem in_o (ro vo 
-- left out: may_in
-- left out: may_n
-- left out: may_y
-- left out: theorem may_c {vp 
/-- The next step, and the order. -/
def nextO (N : Nat) (ln : Nat → Nat) (q : Nat → Nat → Int) (o : List Nat) : Option Nat := (List.range N).find? fun i => mayB ln q o i
def itO (N : Nat) (ln : Nat → Nat) (q : Nat → Nat → Int) : Nat → List Nat
  | 0 => []
  | k + 1 => match nextO N ln q (itO N ln q k) with
    | some i => itO N ln q k ++ [i]
    | none => itO N ln q k
theorem next_some {N : Nat} {ln : Nat → Nat} {q : Nat → Nat → Int} {o : List Nat} {i : Nat} (h1 : i < N) (h2 : mayB ln q o i = true) (h3 : ∀ j, j < i → mayB ln q o j = false) : nextO N ln q o = some i := by
  unfold nextO
  rw [List.find?_range_eq_some]
  exact ⟨h2, List.mem_range.2 h1, fun j hj => by rw [h3 j hj]; rfl⟩
theorem next_none {N : Nat} {ln : Nat → Nat} {q : Nat → Nat → Int} {o : List Nat} (h : ∀ j, j < N → mayB ln q o j = false) : nextO N ln q o = none := by
  unfold nextO
  rw [List.find?_eq_none]
  intro j hj
  rw [h j (List.mem_range.1 hj)]; simp
theorem next_lt {N : Nat} {ln : Nat → Nat} {q : Nat → Nat → Int} {o : List Nat} {i : Nat} (h : nextO N ln q o = some i) : i < N ∧ mayB ln q o i = true ∧ i ∉ o := by
  have h1 := List.mem_of_find?_eq_some h
  have h2 := List.find?_some h
  refine ⟨List.mem_range.1 h1, h2, fun hm => ?_⟩
  simp only [mayB, Bool.and_eq_true, Bool.not_eq_true'] at h2
  have : memO o (i : Int) = true := by simp only [memO, List.any_eq_true, beq_iff_eq]; exact ⟨i, hm, rfl⟩
  rw [this] at h2; cases h2.1
theorem it_ok (N : Nat) (ln : Nat → Nat) (q : Nat → Nat → Int) : ∀ k, (itO N ln q k).Nodup ∧ ∀ i, i ∈ itO N ln q k → i < N
  | 0 => ⟨List.nodup_nil, fun i hi => by simp [itO] at hi⟩
  | k + 1 => by
    obtain ⟨h1, h2⟩ := it_ok N ln q k
    simp only [itO]
    split
    · rename_i i hi
      obtain ⟨h3, _, h4⟩ := next_lt hi
      refine ⟨List.nodup_append.2 ⟨h1, by simp, fun a ha b hb e => ?_⟩, fun j hj => ?_⟩
      · simp at hb; subst hb; subst e; exact h4 ha
      · rcases List.mem_append.1 hj with h | h
        · exact h2 j h
        · simp at h; omega
    · exact ⟨h1, h2⟩
theorem nodup_len : ∀ (N : Nat) (o : List Nat), o.Nodup → (∀ i, i ∈ o → i < N) → o.length ≤ N
  | 0, o, _, h => by
    cases o with
    | nil => simp
    | cons x o => exact absurd (h x List.mem_cons_self) (by omega)
  | N + 1, o, hn, h => by
    have h1 := nodup_len N (o.erase N) (hn.erase N) fun i hi => by
      have := h i (List.mem_of_mem_erase hi)
      have : i ≠ N := fun e => by subst e; exact (List.Nodup.not_mem_erase hn) hi
      omega
    have := List.length_erase (a := N) (l := o)
    split at this <;> omega
theorem it_len (N : Nat) (ln : Nat → Nat) (q : Nat → Nat → Int) (k : Nat) : (itO N ln q k).length ≤ N := nodup_len N _ (it_ok N ln q k).1 (it_ok N ln q k).2
theorem it_stop {N : Nat} {ln : Nat → Nat} {q : Nat → Nat → Int} {k : Nat} (h : nextO N ln q (itO N ln q k) = none) : ∀ j, itO N ln q (k + j) = itO N ln q k
  | 0 => rfl
  | j + 1 => by
    rw [show k + (j + 1) = (k + j) + 1 by omega, itO, it_stop h j, h]
theorem memO_nat (o : List Nat) (i : Nat) : memO o (i : Int) = o.contains i := by
  rw [Bool.eq_iff_iff]; simp only [memO, List.any_eq_true, beq_iff_eq, List.contains_iff_mem]
  constructor
  · rintro ⟨y, hy, e⟩; have : y = i := by omega
    subst this; exact hy
  · intro h; exact ⟨i, h, rfl⟩
def doneF (o : List Nat) : Nat → Bool := fun i => o.contains i
theorem free_may {N : Nat} {ln : Nat → Nat} {q : Nat → Nat → Int} {o : List Nat} (ho : ∀ i, i ∈ o → i < N) (i : Nat) : (!doneF o i && freeB N ln q (doneF o) i) = mayB ln q o i := by
  have hx : ∀ x : Int, (!needB N (doneF o) x) = memO o x := fun x => by
    by_cases h0 : 0 ≤ x
    · obtain ⟨y, rfl⟩ : ∃ y : Nat, x = (y : Int) := ⟨x.toNat, by omega⟩
      rw [memO_nat, needB, hasB, decide_eq_true h0, Int.toNat_natCast, doneF]
      by_cases hy : (y : Int) < (N : Int)
      · rw [decide_eq_true hy, decide_eq_false (by omega)]; simp
      · rw [decide_eq_false hy, decide_eq_true (show (N : Int) ≤ (y : Int) by omega)]
        cases hc : o.contains y
        · rfl
        · have := ho y (by simpa using hc); omega
    · rw [needB, hasB, decide_eq_false h0]
      have : memO o x = false := by
        cases hc : memO o x
        · rfl
        · simp only [memO, List.any_eq_true, beq_iff_eq] at hc
          obtain ⟨y, _, e⟩ := hc; omega
      rw [this]; simp
  rw [mayB, memO_nat, freeB, anyL]
  have e : (List.range (ln i)).all (fun j => memO o (q i j)) = !(List.range (ln i)).any fun j => needB N (doneF o) (q i j) := by
    rw [List.not_any_eq_all_not]
    congr 1; funext j; exact (hx _).symm
  rw [e]; rfl
end Go.Proofs.Ytmjbbnfmhgcfaaa

set_option linter.unusedSimpArgs false
set_option linter.unusedVariables false
set_option maxRecDepth 100000
set_option maxHeartbeats 4000000
namespace Go.Proofs.Ytmjbbnfmhgcfaaa
open Go Go.Eng

theorem il_snoc (o : List Nat) (i : Nat) : il o.length (oF o) ++ [.int .i64 (i : Int)] = il (o.length + 1) (oF (o ++ [i])) := by
  refine il_of (by rw [List.length_append, il_len]; rfl) fun j hj => ?_
  rcases Nat.lt_or_ge j o.length with h | h
  · rw [List.getElem?_append_left (by rw [il_len]; exact h), il_get h]
    simp only [oF, List.getD_eq_getElem?_getD, List.getElem?_append_left h]
  · have e : j = o.length := by omega
    subst e
    rw [List.getElem?_append_right (by rw [il_len]; omega), il_len, Nat.sub_self]
    simp [oF, List.getD_eq_getElem?_getD]
theorem done_snoc (o : List Nat) (i N : Nat) : bl N (updB (doneF o) i true) = bl N (doneF (o ++ [i])) := by
  refine bl_of (bl_len _ _) fun j hj => ?_
  rw [bl_get hj]
  simp only [updB, doneF]
  by_cases e : j = i
  · subst e; simp
  · rw [if_neg e]; simp [e]
theorem bl_zeros (z : Value) (N : Nat) (hz : z = .bool false) : zeros z N = bl N (doneF []) := by
  refine bl_of (by simp [zeros]) fun i hi => ?_
  subst hz
  simp [zeros, hi, doneF, Value.cells, cellOf, Nat.mod_one]
theorem it_next {N : Nat} {ln : Nat → Nat} {q : Nat → Nat → Int} {k i : Nat} (h : nextO N ln q (itO N ln q k) = some i) : itO N ln q (k + 1) = itO N ln q k ++ [i] := by rw [itO, h]
theorem order_c {vp : Nat} (rp N : Nat) (ln : Nat → Nat) (q : Nat → Nat → Int) (m : AMem) (hp : RowsAt m rp vp N ln q) (hl : ∀ i, i < N → ln i ≤ 1048576) (hN : N ≤ 1048576) : Ctr Try.prog 21 [.one (.sl rp vp 0 N)] m (.one (.sl m.length 0 0 (itO N ln q N).length)) (m ++ [⟨.grow, 3, 0, 1, il (itO N ln q N).length (oF (itO N ln q N))⟩]) := by
  refine Ctr.enter Try.func21 rfl (by decide) (rs := [.tmp 2]) (nt := 34) rfl rfl fun hwf Q hQ => ?_
  obtain ⟨k0, ez, rr, vv, hb, hrows⟩ := hp.hb
  have hr := get_lt hb
  have hlt0 : ∀ k, ¬ m.length + k < m.length := fun k => by omega
  have n1 : (0 : Int) ≤ (N : Int) := by omega
  have n2 : (N : Int) ≤ 281474976710656 := by omega
  have hz := bl_zeros (.bool false) N rfl
  simp only [push_cast, simprocAttr] at hz
  refine AW.seq_k fun K hK => ?_
  refine AW.region (by decide) ?_
  simp only [push_cast, simprocAttr, hb, lk_old hb, n1, n2, hz, Int.one_mul, Nat.le_refl, Int.le_refl]
  refine Thn_n ?_
  refine hK _ _ ?_
  clear hK K
  refine AW.scopeI 0 rfl (fun k => k ≤ N ∧ (itO N ln q k).length = k) (fun k => [(0, .one (.sl rp vp 0 N)), (3, .one (.sl (m.length + 1) k 0 k)), (4, .one (.sl m.length 0 0 N))]) (fun k => m ++ [⟨.grow, 4, 0, 1, bl N (doneF (itO N ln q k))⟩, ⟨.grow, 3, k, 1, il k (oF (itO N ln q k))⟩]) (fun k => N - k) (fun k hi2 => ?_) (fun hpass J0 hJ0 => ?_)
  · obtain ⟨hk, hkl⟩ := hi2
    try simp only [push_cast, simprocAttr, hb, lk_old hb, n1, n2, hz, Int.one_mul, Nat.le_refl, Int.le_refl]
    refine AW.seq_k fun K hK => ?_
    refine AW.seq_k fun K hK => ?_
    refine AW.region (by decide) ?_
    simp only [push_cast, simprocAttr, hb, lk_old hb, n1, n2, hz, Int.one_mul, Nat.le_refl, Int.le_refl]
    refine Thn_n ?_
    refine hK _ _ ?_
    clear hK K
    refine AW.block ?_
    -- VARYING, NOT GIVEN: [3]
    refine AW.loopK [0, 3, 4, 10] (fun i => i ≤ N ∧ ∀ j, j < i → mayB ln q (itO N ln q k) j = false) (fun i => [(11, .one (.int .i64 (i : Int)))]) (fun i => []) (fun i => N - i) 0 ⟨by omega, fun j hj => by omega⟩ ?_ ?_ fun i hi5 => ?_
    · first | rfl | (simp only [Keeps, Tm.get_cons, Nat.reduceEqDiff, ↓reduceIte, if_true, if_false, ite_true, ite_false, true_and, and_true, and_self, reduceCtorEq] <;> rfl)
    · first | rfl | (simp only [setAll, push_cast, simprocAttr, hb, lk_old hb, n1, n2, hz, Int.one_mul, Nat.le_refl, Int.le_refl] <;> rfl)
    obtain ⟨hiN, hall⟩ := hi5
    try simp only [keepL, setAll, push_cast, simprocAttr, hb, lk_old hb, n1, n2, hz, Int.one_mul, Nat.le_refl, Int.le_refl]
    refine AW.seq_k fun K hK => ?_
    refine AW.region (by decide) ?_
    simp only [push_cast, simprocAttr, hb, lk_old hb, n1, n2, hz, Int.one_mul, Nat.le_refl, Int.le_refl]
    refine Thn_n ?_
    refine hK _ _ ?_
    clear hK K
    refine AW.seq_k fun K hK => ?_
    refine AW.cond rfl (fun h12 => ?_) (fun h12 => ?_)
    · have hlt : i < N := by have := of_decide_eq_true h12; omega
      have c1 : (0 : Int) ≤ (i : Int) := by omega
      have c2 : (i : Int) < (N : Int) := by omega
      have gd := bl_get (f := doneF (itO N ln q k)) hlt
      have gl := bl_len N (doneF (itO N ln q k))
      have gi := il_len k (oF (itO N ln q k))
      have hfm := free_may (ln := ln) (q := q) (it_ok N ln q k).2 i
      have q1 : k + 1 ≤ 140737488355328 := by omega
      have q2 : (k + 1) * 8 ≤ 140737488355328 := by omega
      have q3 : i + 1 ≤ N := by omega
      rcases chain2 (doneF (itO N ln q k) i = false) (freeB N ln q (doneF (itO N ln q k)) i = true) with ⟨s1, s2⟩ | ⟨s1, s2⟩ | ⟨s1, s2⟩
      · refine AW.skip ?_
        refine Thn_n ?_
        refine hK _ _ ?_
        clear hK K
        refine AW.seq_k fun K hK => ?_
        refine AW.block ?_
        refine AW.seq_k fun K hK => ?_
        refine AW.region (by decide) ?_
        simp only [push_cast, simprocAttr, hb, lk_old hb, n1, n2, hz, Int.one_mul, Nat.le_refl, Int.le_refl, c1, c2, gd, gl, gi, q1, q2, q3, s1, s2]
        refine Thn_n ?_
        refine hK _ _ ?_
        clear hK K
        refine AW.seq_k fun K hK => ?_
        refine AW.region (by decide) ?_
        simp only [push_cast, simprocAttr, hb, lk_old hb, n1, n2, hz, Int.one_mul, Nat.le_refl, Int.le_refl, c1, c2, gd, gl, gi, q1, q2, q3, s1, s2]
        try (refine CThen.by (free_c rp N ln q _ (hp.mono _) (fun i hi => by have := hl i hi; omega) m.length 0 (doneF (itO N ln q k)) ⟨.grow, 1, by simp only [push_cast, simprocAttr]⟩ i hlt) ?_; simp only [push_cast, simprocAttr, hb, lk_old hb, n1, n2, hz, Int.one_mul, Nat.le_refl, Int.le_refl, c1, c2, gd, gl, gi, q1, q2, q3, s1, s2])
        refine Thn_n ?_
        refine hK _ _ ?_
        clear hK K
        refine AW.cond_t rfl ?_
        refine AW.seq_k fun K hK => ?_
        refine AW.region (by decide) ?_
        rw [s1, s2] at hfm
        have hnx := next_some hlt hfm.symm hall
        have hit := it_next hnx
        have hk2 : (itO N ln q (k + 1)).length = k + 1 := by rw [hit, List.length_append, hkl]; rfl
        have hk1 : k + 1 ≤ N := by rw [← hk2]; exact it_len N ln q (k + 1)
        have hst1 : (bl N (doneF (itO N ln q k))).set i (.bool true) = bl N (doneF (itO N ln q k ++ [i])) := by rw [bl_set, done_snoc]
        have hst2 : il k (oF (itO N ln q k)) ++ [.int .i64 (i : Int)] = il (k + 1) (oF (itO N ln q k ++ [i])) := by
          have := il_snoc (itO N ln q k) i
          rwa [hkl] at this
        simp only [push_cast, simprocAttr, hb, lk_old hb, n1, n2, hz, Int.one_mul, Nat.le_refl, Int.le_refl, c1, c2, gd, gl, gi, q1, q2, q3, s1, s2]
        refine Thn_n ?_
        refine hK _ _ ?_
        clear hK K
        refine AW.seq_k fun K hK => ?_
        refine AW.region (by decide) ?_
        simp only [push_cast, simprocAttr, hb, lk_old hb, n1, n2, hz, Int.one_mul, Nat.le_refl, Int.le_refl, c1, c2, gd, gl, gi, q1, q2, q3, s1, s2]
        refine Thn_n ?_
        refine hK _ _ ?_
        clear hK K
        refine AW.goto ?_
        refine InB_g ?_
        refine Thn_g ?_
        clear hK K
        refine Thn_g ?_
        refine InB_g ?_
        refine Thn_g ?_
        clear hK K
        refine Jmp_g ?_
        first | refine ⟨k + 1, ⟨hk1, hk2⟩, by omega, ?_⟩ | refine ⟨k + 1, ⟨hk1, hk2⟩, by omega, ?_, by simp⟩
        try simp only [keepL, setAll, push_cast, simprocAttr, hb, lk_old hb, n1, n2, hz, Int.one_mul, Nat.le_refl, Int.le_refl, c1, c2, gd, gl, gi, q1, q2, q3, s1, s2, hit, hst1, hst2]
        exact Weak.to (extra := [_]) (by simp only [Keeps, Tm.get_cons, Nat.reduceEqDiff, ↓reduceIte, if_true, if_false, ite_true, ite_false, true_and, and_true, and_self, reduceCtorEq, hit, hst1, hst2]) (by first | rfl | (simp only [List.append_assoc, List.cons_append, List.nil_append]; rfl)) (by first | rfl | (simp [AV.below, CV.below, bl_below, il_below]; done) | (simp [AV.below, CV.below, bl_below, il_below]; omega)) (by
          first | exact hwf | refine MWf.app (hwf.grow (by simp)) ?_
          repeat (first | exact MWf_nil | (refine MWf_cons ?_ ?_; · first | rfl | (simp [CV.below, bl_below, il_below]; done) | (simp [CV.below, bl_below, il_below]; omega))))
      all_goals (
      try simp only [Bool.not_eq_true, Bool.not_eq_false] at s1 s2
      have hmf : mayB ln q (itO N ln q k) i = false := by (rw [← hfm]; simp [s1, s2])
      have hnx2 : ∀ j, j < i + 1 → mayB ln q (itO N ln q k) j = false := fun j hj => by
        rcases Nat.lt_or_ge j i with h | h
        · exact hall j h
        · rw [show j = i by omega]; exact hmf
      refine AW.skip ?_
      refine Thn_n ?_
      refine hK _ _ ?_
      clear hK K
      refine AW.seq_k fun K hK => ?_
      refine AW.block ?_
      refine AW.seq_k fun K hK => ?_
      refine AW.region (by decide) ?_
      simp only [push_cast, simprocAttr, hb, lk_old hb, n1, n2, hz, Int.one_mul, Nat.le_refl, Int.le_refl, c1, c2, gd, gl, gi, q1, q2, q3, s1, s2]
      refine Thn_n ?_
      refine hK _ _ ?_
      clear hK K
      refine AW.seq_k fun K hK => ?_
      refine AW.region (by decide) ?_
      simp only [push_cast, simprocAttr, hb, lk_old hb, n1, n2, hz, Int.one_mul, Nat.le_refl, Int.le_refl, c1, c2, gd, gl, gi, q1, q2, q3, s1, s2]
      try (refine CThen.by (free_c rp N ln q _ (hp.mono _) (fun i hi => by have := hl i hi; omega) m.length 0 (doneF (itO N ln q k)) ⟨.grow, 1, by simp only [push_cast, simprocAttr]⟩ i hlt) ?_; simp only [push_cast, simprocAttr, hb, lk_old hb, n1, n2, hz, Int.one_mul, Nat.le_refl, Int.le_refl, c1, c2, gd, gl, gi, q1, q2, q3, s1, s2])
      refine Thn_n ?_
      refine hK _ _ ?_
      clear hK K
      refine AW.cond_f rfl ?_
      refine AW.skip ?_
      refine InB_n ?_
      refine Thn_n ?_
      refine hK _ _ ?_
      clear hK K
      refine AW.region (by decide) ?_
      simp only [push_cast, simprocAttr, hb, lk_old hb, n1, n2, hz, Int.one_mul, Nat.le_refl, Int.le_refl, c1, c2, gd, gl, gi, q1, q2, q3, s1, s2]
      refine Thn_n ?_
      have hwi : IntKind.i64.wrap ((i:Int)+1) = (i:Int)+1 := by rw [IntKind.wrap_i64]; omega
      refine ⟨i + 1, ⟨by omega, hnx2⟩, by omega, ?_⟩
      try simp only [keepL, setAll, push_cast, simprocAttr, hb, lk_old hb, n1, n2, hz, Int.one_mul, Nat.le_refl, Int.le_refl, c1, c2, gd, gl, gi, q1, q2, q3, s1, s2, hwi]
      exact Weak.same (by simp only [Keeps, Tm.get_cons, Nat.reduceEqDiff, ↓reduceIte, if_true, if_false, ite_true, ite_false, true_and, and_true, and_self, reduceCtorEq, hwi]) (by first | rfl | simp only [Keeps, Tm.get_cons, Nat.reduceEqDiff, ↓reduceIte, if_true, if_false, ite_true, ite_false, true_and, and_true, and_self, reduceCtorEq, hwi])
      )
    · have hin : N = i := by have := of_decide_eq_false h12; omega
      have hE : itO N ln q N = itO N ln q k := by
        have h1 := it_stop (next_none fun j hj => hall j (by omega)) (N - k)
        rwa [show k + (N - k) = N by omega] at h1
      refine AW.exit ?_
      refine Thn_e ?_
      clear hK K
      refine Thn_e ?_
      refine InB_here ?_
      refine Thn_n ?_
      refine hK _ _ ?_
      clear hK K
      refine AW.seq_k fun K hK => ?_
      refine AW.region (by decide) ?_
      simp only [push_cast, simprocAttr, hb, lk_old hb, n1, n2, hz, Int.one_mul, Nat.le_refl, Int.le_refl]
      refine Thn_n ?_
      refine hK _ _ ?_
      clear hK K
      refine AW.ret ?_
      refine Jmp_r ?_
      refine hQ _ _ _ ?_
      refine RetP.pick [(m.length + 1, k)] (Or.inr rfl) ?_ ?_ ?_ hwf ?_
      · simp only [resA, resOne, resTv, AV.tv, push_cast, simprocAttr]
        simp [renV, renT, renL, renC, renIdx, hlt0, hE, hkl]
      · simp only [picks, hE, hkl, push_cast, simprocAttr]
      · simp [distinctFrom]
      · exact MWf_one (il_below _ _ _)
      
  iterate 2
    refine AW.seq_k fun K hK => ?_
    refine AW.region (by decide) ?_
    simp only [push_cast, simprocAttr, hb, lk_old hb, n1, n2, hz, Int.one_mul, Nat.le_refl, Int.le_refl]
    refine Thn_n ?_
    refine hK _ _ ?_
    clear hK K
  refine AW.nilTm 3 1 3 rfl ?_
  try simp only [push_cast, simprocAttr]
  refine AW.fallI hpass hJ0 (0) ⟨by omega, rfl⟩ (by first | exact Nat.le_refl _ | (simp; done) | (simp; omega)) (by first | exact Nat.le_refl _ | (simp; done) | (simp; omega)) ?_
  try simp only [keepL, setAll, push_cast, simprocAttr, hb, lk_old hb, n1, n2, hz, Int.one_mul, Nat.le_refl, Int.le_refl, itO, il]
  exact Weak.same (by simp only [Keeps, Tm.get_cons, Nat.reduceEqDiff, ↓reduceIte, if_true, if_false, ite_true, ite_false, true_and, and_true, and_self, reduceCtorEq, itO, il]) (by first | rfl | simp only [Keeps, Tm.get_cons, Nat.reduceEqDiff, ↓reduceIte, if_true, if_false, ite_true, ite_false, true_and, and_true, and_self, reduceCtorEq, itO, il])
end Go.Proofs.Ytmjbbnfmhgcfaaa

set_option linter.unusedSimpArgs false
set_option linter.unusedVariables false
set_option maxRecDepth 100000
set_option maxHeartbeats 4000000
namespace Go.Proofs.Ytmjbbnfmhgcfaaa
open Go Go.Eng

-- left out: rorder_c
end Go.Proofs.Ytmjbbnfmhgcfaaa
