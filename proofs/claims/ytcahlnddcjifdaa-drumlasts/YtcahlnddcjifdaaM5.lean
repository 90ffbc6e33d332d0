/- Walks and facts of this seat's program over abstract states, printed by programs of mine; no conditions but those that each theorem names. -/
import Derived.Test.YtcahlnddcjifdaaM4
set_option linter.unusedSimpArgs false
set_option linter.unusedVariables false
set_option maxRecDepth 100000
set_option maxHeartbeats 4000000
namespace Go.Proofs.Ytcahlnddcjifdaa
open Go Go.Eng

theorem lasts_c (r n : Nat) (kd ax nx : Nat → Int) (b : Nat → List Int) (rk kn : Nat → Nat) (ks : Nat → Nat → Int) (m : AMem) (hops : OpsAt m r n kd ax nx b rk kn ks) : Ctr Try.prog 3 [.one (.sl r 0 0 n)] m (.one (.bool true)) m := by
  refine Ctr.enter Try.func3 rfl (by decide) (rs := [.tmp 2]) (nt := 108) rfl rfl fun hwf Q hQ => ?_
  obtain ⟨cells, hrow, hcl, hch⟩ := hops.row
  have lr := get_lt hrow
  have hoz : opZ.length = 132 := rfl
  refine AW.seq_k fun K hK => ?_
  refine AW.region (by decide) ?_
  simp only [push_cast, Nat.reduceAdd, Nat.reduceMul, Nat.reduceSub, Nat.reduceLeDiff, Nat.reduceLT, Nat.reduceEqDiff, Nat.reduceBEq, Nat.reduceBNe, Nat.reduceMod, Nat.reduceDiv, Int.reduceLE, Int.reduceLT, Int.reduceToNat, Int.reduceAdd, Int.reduceSub, Int.reduceMul, Int.reduceNeg, Int.reduceEq, Int.reduceBEq, Int.reduceBNe, ↓reduceIte, reduceCtorEq, String.reduceBNe, String.reduceEq, reduceDIte, Nat.reducePow, hrow, lk_old hrow, hcl, hoz, setD_cat, ↓alloc30, ↓alloc33, Int.le_refl, Nat.le_refl]
  refine Thn_n ?_
  refine hK _ _ ?_
  clear hK K
  refine AW.seq_k fun K hK => ?_
  refine AW.region (by decide) ?_
  simp only [push_cast, Nat.reduceAdd, Nat.reduceMul, Nat.reduceSub, Nat.reduceLeDiff, Nat.reduceLT, Nat.reduceEqDiff, Nat.reduceBEq, Nat.reduceBNe, Nat.reduceMod, Nat.reduceDiv, Int.reduceLE, Int.reduceLT, Int.reduceToNat, Int.reduceAdd, Int.reduceSub, Int.reduceMul, Int.reduceNeg, Int.reduceEq, Int.reduceBEq, Int.reduceBNe, ↓reduceIte, reduceCtorEq, String.reduceBNe, String.reduceEq, reduceDIte, Nat.reducePow, hrow, lk_old hrow, hcl, hoz, setD_cat, ↓alloc30, ↓alloc33, Int.le_refl, Nat.le_refl]
  refine CThen.by (new_c 6 _ (by decide) (by decide)) ?_
  simp only [push_cast, Nat.reduceAdd, Nat.reduceMul, Nat.reduceSub, Nat.reduceLeDiff, Nat.reduceLT, Nat.reduceEqDiff, Nat.reduceBEq, Nat.reduceBNe, Nat.reduceMod, Nat.reduceDiv, Int.reduceLE, Int.reduceLT, Int.reduceToNat, Int.reduceAdd, Int.reduceSub, Int.reduceMul, Int.reduceNeg, Int.reduceEq, Int.reduceBEq, Int.reduceBNe, ↓reduceIte, reduceCtorEq, String.reduceBNe, String.reduceEq, reduceDIte, Nat.reducePow, hrow, lk_old hrow, hcl, hoz, setD_cat, ↓alloc30, ↓alloc33, Int.le_refl, Nat.le_refl]
  refine Thn_n ?_
  refine hK _ _ ?_
  clear hK K
  refine AW.seq_k fun K hK => ?_
  refine AW.seq_k fun K hK => ?_
  refine AW.region (by decide) ?_
  simp only [push_cast, Nat.reduceAdd, Nat.reduceMul, Nat.reduceSub, Nat.reduceLeDiff, Nat.reduceLT, Nat.reduceEqDiff, Nat.reduceBEq, Nat.reduceBNe, Nat.reduceMod, Nat.reduceDiv, Int.reduceLE, Int.reduceLT, Int.reduceToNat, Int.reduceAdd, Int.reduceSub, Int.reduceMul, Int.reduceNeg, Int.reduceEq, Int.reduceBEq, Int.reduceBNe, ↓reduceIte, reduceCtorEq, String.reduceBNe, String.reduceEq, reduceDIte, Nat.reducePow, hrow, lk_old hrow, hcl, hoz, setD_cat, ↓alloc30, ↓alloc33, Int.le_refl, Nat.le_refl]
  refine CThen.by (awake_c _) ?_
  simp only [push_cast, Nat.reduceAdd, Nat.reduceMul, Nat.reduceSub, Nat.reduceLeDiff, Nat.reduceLT, Nat.reduceEqDiff, Nat.reduceBEq, Nat.reduceBNe, Nat.reduceMod, Nat.reduceDiv, Int.reduceLE, Int.reduceLT, Int.reduceToNat, Int.reduceAdd, Int.reduceSub, Int.reduceMul, Int.reduceNeg, Int.reduceEq, Int.reduceBEq, Int.reduceBNe, ↓reduceIte, reduceCtorEq, String.reduceBNe, String.reduceEq, reduceDIte, Nat.reducePow, hrow, lk_old hrow, hcl, hoz, setD_cat, ↓alloc30, ↓alloc33, Int.le_refl, Nat.le_refl]
  refine Thn_n ?_
  refine hK _ _ ?_
  clear hK K
  refine AW.cond_f rfl ?_
  refine AW.skip ?_
  refine Thn_n ?_
  refine hK _ _ ?_
  clear hK K
  refine AW.seq_k fun K hK => ?_
  refine AW.region (by decide) ?_
  simp only [push_cast, Nat.reduceAdd, Nat.reduceMul, Nat.reduceSub, Nat.reduceLeDiff, Nat.reduceLT, Nat.reduceEqDiff, Nat.reduceBEq, Nat.reduceBNe, Nat.reduceMod, Nat.reduceDiv, Int.reduceLE, Int.reduceLT, Int.reduceToNat, Int.reduceAdd, Int.reduceSub, Int.reduceMul, Int.reduceNeg, Int.reduceEq, Int.reduceBEq, Int.reduceBNe, ↓reduceIte, reduceCtorEq, String.reduceBNe, String.reduceEq, reduceDIte, Nat.reducePow, hrow, lk_old hrow, hcl, hoz, setD_cat, ↓alloc30, ↓alloc33, Int.le_refl, Nat.le_refl]
  refine Thn_n ?_
  refine hK _ _ ?_
  clear hK K
  refine AW.seq_k fun K hK => ?_
  refine AW.seq_k fun K hK => ?_
  refine AW.region (by decide) ?_
  simp only [push_cast, Nat.reduceAdd, Nat.reduceMul, Nat.reduceSub, Nat.reduceLeDiff, Nat.reduceLT, Nat.reduceEqDiff, Nat.reduceBEq, Nat.reduceBNe, Nat.reduceMod, Nat.reduceDiv, Int.reduceLE, Int.reduceLT, Int.reduceToNat, Int.reduceAdd, Int.reduceSub, Int.reduceMul, Int.reduceNeg, Int.reduceEq, Int.reduceBEq, Int.reduceBNe, ↓reduceIte, reduceCtorEq, String.reduceBNe, String.reduceEq, reduceDIte, Nat.reducePow, hrow, lk_old hrow, hcl, hoz, setD_cat, ↓alloc30, ↓alloc33, Int.le_refl, Nat.le_refl]
  refine Thn_n ?_
  refine hK _ _ ?_
  clear hK K
  refine AW.block ?_
  refine AW.loopK [3, 5, 6, 23, 24] (fun x => x.1 ≤ n ∧ x.1 ≤ 60 ∧ WfD 6 x.2) (fun x => [(25, .one (.int .i64 (x.1 : Int)))]) (fun x => [(m.length, rowD 6 x.2), (m.length + 1, mapD x.2), (m.length + 2, drB m.length (m.length + 1) 6 (x.2)), (m.length + 3, ⟨.fix, 30, 0, 0, u8l (catB 6 (x.2.S))⟩), (m.length + 4, ⟨.fix, 30, 0, 0, u8l (catB 6 (vis x.2.S x.2.E))⟩)]) (fun x => n - x.1) ((0, D0) : Nat × DS) ⟨Nat.zero_le _, Nat.zero_le _, d0_wf 6⟩ ?_ ?_ fun x hi8 => ?_
  · first | rfl | (simp only [Keeps, Tm.get_cons, Nat.reduceEqDiff, ↓reduceIte, if_true, if_false, ite_true, ite_false, true_and, and_true, and_self, reduceCtorEq, vis_nil, D0, Int.natCast_zero] <;> rfl)
  · simp only [setAll, push_cast, Nat.reduceAdd, Nat.reduceMul, Nat.reduceSub, Nat.reduceLeDiff, Nat.reduceLT, Nat.reduceEqDiff, Nat.reduceBEq, Nat.reduceBNe, Nat.reduceMod, Nat.reduceDiv, Int.reduceLE, Int.reduceLT, Int.reduceToNat, Int.reduceAdd, Int.reduceSub, Int.reduceMul, Int.reduceNeg, Int.reduceEq, Int.reduceBEq, Int.reduceBNe, ↓reduceIte, reduceCtorEq, String.reduceBNe, String.reduceEq, reduceDIte, Nat.reducePow]; rfl
  obtain ⟨i, D⟩ := x
  obtain ⟨hin, hi60, hwd⟩ := hi8
  dsimp only at hin hi60 hwd ⊢
  try simp only [keepL, setAll, push_cast, Nat.reduceAdd, Nat.reduceMul, Nat.reduceSub, Nat.reduceLeDiff, Nat.reduceLT, Nat.reduceEqDiff, Nat.reduceBEq, Nat.reduceBNe, Nat.reduceMod, Nat.reduceDiv, Int.reduceLE, Int.reduceLT, Int.reduceToNat, Int.reduceAdd, Int.reduceSub, Int.reduceMul, Int.reduceNeg, Int.reduceEq, Int.reduceBEq, Int.reduceBNe, ↓reduceIte, reduceCtorEq, String.reduceBNe, String.reduceEq, reduceDIte, Nat.reducePow, hrow, lk_old hrow, hcl, hoz, setD_cat, ↓alloc30, ↓alloc33, Int.le_refl, Nat.le_refl]
  refine AW.seq_k fun K hK => ?_
  refine AW.region (by decide) ?_
  simp only [push_cast, Nat.reduceAdd, Nat.reduceMul, Nat.reduceSub, Nat.reduceLeDiff, Nat.reduceLT, Nat.reduceEqDiff, Nat.reduceBEq, Nat.reduceBNe, Nat.reduceMod, Nat.reduceDiv, Int.reduceLE, Int.reduceLT, Int.reduceToNat, Int.reduceAdd, Int.reduceSub, Int.reduceMul, Int.reduceNeg, Int.reduceEq, Int.reduceBEq, Int.reduceBNe, ↓reduceIte, reduceCtorEq, String.reduceBNe, String.reduceEq, reduceDIte, Nat.reducePow, hrow, lk_old hrow, hcl, hoz, setD_cat, ↓alloc30, ↓alloc33, Int.le_refl, Nat.le_refl]
  refine Thn_n ?_
  refine hK _ _ ?_
  clear hK K
  refine AW.seq_k fun K hK => ?_
  refine AW.cond rfl (fun h26 => ?_) (fun h26 => ?_)
  · have hlt : i < n := by have := of_decide_eq_true h26; omega
    have c1 : (0 : Int) ≤ (i : Int) := by omega
    have c2 : (i : Int) < (n : Int) := by omega
    have c3 : i * 132 + 132 ≤ n * 132 := by omega
    have hb := hops.len i hlt
    have hc := hch i hlt
    have hol := opC_len (kd := kd i) (ax := ax i) (nx := nx i) (rk := rk i) (kn := kn i) hb
    have hov := opC_vals (kd i) (ax i) (nx i) (b i) (rk i) (kn i)
    have hos : setL opZ 0 (opC (kd i) (ax i) (nx i) (b i) (rk i) (kn i)) = opC (kd i) (ax i) (nx i) (b i) (rk i) (kn i) := setL_all (by rw [hol]; rfl)
    have hot : (opC (kd i) (ax i) (nx i) (b i) (rk i) (kn i)).take 132 = opC (kd i) (ax i) (nx i) (b i) (rk i) (kn i) := List.take_of_length_le (by omega)
    have o0 : (opC (kd i) (ax i) (nx i) (b i) (rk i) (kn i))[0]? = some (.int .i64 (kd i)) := rfl
    have o1 : (opC (kd i) (ax i) (nx i) (b i) (rk i) (kn i))[1]? = some (.int .i64 (ax i)) := rfl
    have o2 : (opC (kd i) (ax i) (nx i) (b i) (rk i) (kn i))[2]? = some (.int .i64 (nx i)) := rfl
    have o3 := opC_b (kd := kd i) (ax := ax i) (nx := nx i) (rk := rk i) (kn := kn i) hb
    have o4 := opC_k (kd := kd i) (ax := ax i) (nx := nx i) (rk := rk i) (kn := kn i) hb
    have hbl := u8l_len (b i)
    rw [hb] at hbl
    have hbv := u8l_vals (b i)
    have hbt : (u8l (b i)).take 128 = u8l (b i) := List.take_of_length_le (by omega)
    have gls : (u8l (catB 6 D.S)).length = 768 := by rw [u8l_len, catB_len hwd.s]
    have gll : (u8l (catB 6 (vis D.S D.E))).length = 768 := by rw [u8l_len, catB_len (vis_len hwd.s hwd.e)]
    have glt : (u8l (catB 6 (vis D.S D.E))).take 768 = u8l (catB 6 (vis D.S D.E)) := List.take_of_length_le (by omega)
    have hkex : ∃ k : Nat, k < 6 ∧ IntKind.i64.wrap ((IntKind.u64.wrap (ax i)).tmod 6) = (k : Int) := by
      have h1 : 0 ≤ IntKind.u64.wrap (ax i) := by rw [IntKind.wrap_u64]; omega
      refine ⟨((IntKind.u64.wrap (ax i)).tmod 6).toNat, ?_, ?_⟩
      · rw [Int.tmod_eq_emod_of_nonneg h1]; omega
      · rw [Int.tmod_eq_emod_of_nonneg h1, wi (by omega)]; omega
    obtain ⟨k, hk6, hkk⟩ := hkex
    have d1 : (0 : Int) ≤ (k : Int) := by omega
    have d2 : (k : Int) < 6 := by omega
    refine AW.skip ?_
    refine Thn_n ?_
    refine hK _ _ ?_
    clear hK K
    refine AW.seq_k fun K hK => ?_
    refine AW.block ?_
    refine AW.seq_k fun K hK => ?_
    refine AW.region (by decide) ?_
    simp only [push_cast, Nat.reduceAdd, Nat.reduceMul, Nat.reduceSub, Nat.reduceLeDiff, Nat.reduceLT, Nat.reduceEqDiff, Nat.reduceBEq, Nat.reduceBNe, Nat.reduceMod, Nat.reduceDiv, Int.reduceLE, Int.reduceLT, Int.reduceToNat, Int.reduceAdd, Int.reduceSub, Int.reduceMul, Int.reduceNeg, Int.reduceEq, Int.reduceBEq, Int.reduceBNe, ↓reduceIte, reduceCtorEq, String.reduceBNe, String.reduceEq, reduceDIte, Nat.reducePow, hrow, lk_old hrow, hcl, hoz, setD_cat, ↓alloc30, ↓alloc33, Int.le_refl, Nat.le_refl, c1, c2, c3, hc, hol, hov, hos, hot, o0, o1, o2, o3, o4, hbl, hbv, hbt, gls, gll, glt, hkk, d1, d2]
    refine Thn_n ?_
    refine hK _ _ ?_
    clear hK K
    refine AW.seq_k fun K hK => ?_
    refine AW.seq_k fun K hK => ?_
    have h37 : (60 : Int) ≤ (i : Int) ∨ (¬ (60 : Int) ≤ (i : Int) ∧ (60 : Int) < (kn i : Int)) ∨ (¬ (60 : Int) ≤ (i : Int) ∧ ¬ (60 : Int) < (kn i : Int)) := by omega
    rcases h37 with h60 | ⟨h60, hkn⟩ | ⟨h60, hkn⟩
    · have h60x := h60
      refine AW.region (by decide) ?_
      simp only [push_cast, Nat.reduceAdd, Nat.reduceMul, Nat.reduceSub, Nat.reduceLeDiff, Nat.reduceLT, Nat.reduceEqDiff, Nat.reduceBEq, Nat.reduceBNe, Nat.reduceMod, Nat.reduceDiv, Int.reduceLE, Int.reduceLT, Int.reduceToNat, Int.reduceAdd, Int.reduceSub, Int.reduceMul, Int.reduceNeg, Int.reduceEq, Int.reduceBEq, Int.reduceBNe, ↓reduceIte, reduceCtorEq, String.reduceBNe, String.reduceEq, reduceDIte, Nat.reducePow, hrow, lk_old hrow, hcl, hoz, setD_cat, ↓alloc30, ↓alloc33, Int.le_refl, Nat.le_refl, c1, c2, c3, hc, hol, hov, hos, hot, o0, o1, o2, o3, o4, hbl, hbv, hbt, gls, gll, glt, hkk, d1, d2, h60]
      refine Thn_n ?_
      refine hK _ _ ?_
      clear hK K
      refine AW.cond_t rfl ?_
      refine AW.exit ?_
      refine Thn_e ?_
      clear hK K
      refine InB_far (by decide) ?_
      refine Thn_e ?_
      clear hK K
      refine Thn_e ?_
      refine InB_here ?_
      refine Thn_n ?_
      refine hK _ _ ?_
      clear hK K
      refine AW.seq_k fun K hK => ?_
      refine AW.region (by decide) ?_
      simp only [push_cast, Nat.reduceAdd, Nat.reduceMul, Nat.reduceSub, Nat.reduceLeDiff, Nat.reduceLT, Nat.reduceEqDiff, Nat.reduceBEq, Nat.reduceBNe, Nat.reduceMod, Nat.reduceDiv, Int.reduceLE, Int.reduceLT, Int.reduceToNat, Int.reduceAdd, Int.reduceSub, Int.reduceMul, Int.reduceNeg, Int.reduceEq, Int.reduceBEq, Int.reduceBNe, ↓reduceIte, reduceCtorEq, String.reduceBNe, String.reduceEq, reduceDIte, Nat.reducePow, hrow, lk_old hrow, hcl, hoz, setD_cat, ↓alloc30, ↓alloc33, Int.le_refl, Nat.le_refl, c1, c2, c3, hc, hol, hov, hos, hot, o0, o1, o2, o3, o4, hbl, hbv, hbt, gls, gll, glt, hkk, d1, d2, h60]
      refine Thn_n ?_
      refine hK _ _ ?_
      clear hK K
      refine AW.ret ?_
      refine hQ _ _ _ ?_
      first | refine RetP.drop0 (Or.inr rfl) ?_ ?_ hwf | refine RetP.drop (Or.inr rfl) ?_ ?_ hwf
      · simp only [resA, resOne, resTv, AV.tv, push_cast, Nat.reduceAdd, Nat.reduceMul, Nat.reduceSub, Nat.reduceLeDiff, Nat.reduceLT, Nat.reduceEqDiff, Nat.reduceBEq, Nat.reduceBNe, Nat.reduceMod, Nat.reduceDiv, Int.reduceLE, Int.reduceLT, Int.reduceToNat, Int.reduceAdd, Int.reduceSub, Int.reduceMul, Int.reduceNeg, Int.reduceEq, Int.reduceBEq, Int.reduceBNe, ↓reduceIte, reduceCtorEq, String.reduceBNe, String.reduceEq, reduceDIte, Nat.reducePow, hrow, lk_old hrow, hcl, hoz, setD_cat, ↓alloc30, ↓alloc33, Int.le_refl, Nat.le_refl, c1, c2, c3, hc, hol, hov, hos, hot, o0, o1, o2, o3, o4, hbl, hbv, hbt, gls, gll, glt, hkk, d1, d2, h60]
      · rfl
    · have h60x := h60
      refine AW.region (by decide) ?_
      simp only [push_cast, Nat.reduceAdd, Nat.reduceMul, Nat.reduceSub, Nat.reduceLeDiff, Nat.reduceLT, Nat.reduceEqDiff, Nat.reduceBEq, Nat.reduceBNe, Nat.reduceMod, Nat.reduceDiv, Int.reduceLE, Int.reduceLT, Int.reduceToNat, Int.reduceAdd, Int.reduceSub, Int.reduceMul, Int.reduceNeg, Int.reduceEq, Int.reduceBEq, Int.reduceBNe, ↓reduceIte, reduceCtorEq, String.reduceBNe, String.reduceEq, reduceDIte, Nat.reducePow, hrow, lk_old hrow, hcl, hoz, setD_cat, ↓alloc30, ↓alloc33, Int.le_refl, Nat.le_refl, c1, c2, c3, hc, hol, hov, hos, hot, o0, o1, o2, o3, o4, hbl, hbv, hbt, gls, gll, glt, hkk, d1, d2, h60, hkn]
      refine Thn_n ?_
      refine hK _ _ ?_
      clear hK K
      refine AW.cond_t rfl ?_
      refine AW.exit ?_
      refine Thn_e ?_
      clear hK K
      refine InB_far (by decide) ?_
      refine Thn_e ?_
      clear hK K
      refine Thn_e ?_
      refine InB_here ?_
      refine Thn_n ?_
      refine hK _ _ ?_
      clear hK K
      refine AW.seq_k fun K hK => ?_
      refine AW.region (by decide) ?_
      simp only [push_cast, Nat.reduceAdd, Nat.reduceMul, Nat.reduceSub, Nat.reduceLeDiff, Nat.reduceLT, Nat.reduceEqDiff, Nat.reduceBEq, Nat.reduceBNe, Nat.reduceMod, Nat.reduceDiv, Int.reduceLE, Int.reduceLT, Int.reduceToNat, Int.reduceAdd, Int.reduceSub, Int.reduceMul, Int.reduceNeg, Int.reduceEq, Int.reduceBEq, Int.reduceBNe, ↓reduceIte, reduceCtorEq, String.reduceBNe, String.reduceEq, reduceDIte, Nat.reducePow, hrow, lk_old hrow, hcl, hoz, setD_cat, ↓alloc30, ↓alloc33, Int.le_refl, Nat.le_refl, c1, c2, c3, hc, hol, hov, hos, hot, o0, o1, o2, o3, o4, hbl, hbv, hbt, gls, gll, glt, hkk, d1, d2, h60, hkn]
      refine Thn_n ?_
      refine hK _ _ ?_
      clear hK K
      refine AW.ret ?_
      refine hQ _ _ _ ?_
      first | refine RetP.drop0 (Or.inr rfl) ?_ ?_ hwf | refine RetP.drop (Or.inr rfl) ?_ ?_ hwf
      · simp only [resA, resOne, resTv, AV.tv, push_cast, Nat.reduceAdd, Nat.reduceMul, Nat.reduceSub, Nat.reduceLeDiff, Nat.reduceLT, Nat.reduceEqDiff, Nat.reduceBEq, Nat.reduceBNe, Nat.reduceMod, Nat.reduceDiv, Int.reduceLE, Int.reduceLT, Int.reduceToNat, Int.reduceAdd, Int.reduceSub, Int.reduceMul, Int.reduceNeg, Int.reduceEq, Int.reduceBEq, Int.reduceBNe, ↓reduceIte, reduceCtorEq, String.reduceBNe, String.reduceEq, reduceDIte, Nat.reducePow, hrow, lk_old hrow, hcl, hoz, setD_cat, ↓alloc30, ↓alloc33, Int.le_refl, Nat.le_refl, c1, c2, c3, hc, hol, hov, hos, hot, o0, o1, o2, o3, o4, hbl, hbv, hbt, gls, gll, glt, hkk, d1, d2, h60, hkn]
      · rfl
    · have h60x := h60
      have hi61 : i < 60 := by omega
      have hkn60 : kn i ≤ 60 := by omega
      refine AW.region (by decide) ?_
      simp only [push_cast, Nat.reduceAdd, Nat.reduceMul, Nat.reduceSub, Nat.reduceLeDiff, Nat.reduceLT, Nat.reduceEqDiff, Nat.reduceBEq, Nat.reduceBNe, Nat.reduceMod, Nat.reduceDiv, Int.reduceLE, Int.reduceLT, Int.reduceToNat, Int.reduceAdd, Int.reduceSub, Int.reduceMul, Int.reduceNeg, Int.reduceEq, Int.reduceBEq, Int.reduceBNe, ↓reduceIte, reduceCtorEq, String.reduceBNe, String.reduceEq, reduceDIte, Nat.reducePow, hrow, lk_old hrow, hcl, hoz, setD_cat, ↓alloc30, ↓alloc33, Int.le_refl, Nat.le_refl, c1, c2, c3, hc, hol, hov, hos, hot, o0, o1, o2, o3, o4, hbl, hbv, hbt, gls, gll, glt, hkk, d1, d2, h60, hkn]
      refine Thn_n ?_
      refine hK _ _ ?_
      clear hK K
      refine AW.cond_f rfl ?_
      refine AW.skip ?_
      iterate 2
        refine Thn_n ?_
        refine hK _ _ ?_
        clear hK K
        refine AW.seq_k fun K hK => ?_
        refine AW.region (by decide) ?_
        simp only [push_cast, Nat.reduceAdd, Nat.reduceMul, Nat.reduceSub, Nat.reduceLeDiff, Nat.reduceLT, Nat.reduceEqDiff, Nat.reduceBEq, Nat.reduceBNe, Nat.reduceMod, Nat.reduceDiv, Int.reduceLE, Int.reduceLT, Int.reduceToNat, Int.reduceAdd, Int.reduceSub, Int.reduceMul, Int.reduceNeg, Int.reduceEq, Int.reduceBEq, Int.reduceBNe, ↓reduceIte, reduceCtorEq, String.reduceBNe, String.reduceEq, reduceDIte, Nat.reducePow, hrow, lk_old hrow, hcl, hoz, setD_cat, ↓alloc30, ↓alloc33, Int.le_refl, Nat.le_refl, c1, c2, c3, hc, hol, hov, hos, hot, o0, o1, o2, o3, o4, hbl, hbv, hbt, gls, gll, glt, hkk, d1, d2, h60, hkn]
      refine Thn_n ?_
      refine hK _ _ ?_
      clear hK K
      refine AW.block ?_
      refine AW.seq_k fun K hK => ?_
      have hcs : ((kd i = 0 ∧ D.down = true) ∨ (kd i = 0 ∧ D.down = false ∧ D.fuse = 0) ∨ (kd i = 0 ∧ D.down = false ∧ ¬ D.fuse = 0)) ∨ ((kd i = 1 ∧ D.down = true) ∨ (kd i = 1 ∧ D.down = false ∧ D.fuse = 0) ∨ (kd i = 1 ∧ D.down = false ∧ ¬ D.fuse = 0)) ∨ ((kd i = 2 ∧ D.down = true) ∨ (kd i = 2 ∧ D.down = false)) ∨ kd i = 3 ∨ ((kd i == 0) = false ∧ (kd i == 1) = false ∧ (kd i == 2) = false ∧ (kd i == 3) = false) := by
        simp only [beq_eq_false_iff_ne]
        have hd : D.down = true ∨ D.down = false := by cases D.down <;> simp
        rcases hd with hd | hd <;> simp only [hd, true_and, and_true, reduceCtorEq, false_and, and_false, or_false, false_or, Bool.false_eq_true] <;> omega
      rcases hcs with (⟨hk, hd⟩ | ⟨hk, hd, hz⟩ | ⟨hk, hd, hz⟩) | (⟨hk, hd⟩ | ⟨hk, hd, hz⟩ | ⟨hk, hd, hz⟩) | (⟨hk, hd⟩ | ⟨hk, hd⟩) | hk | hk
      · have k0 : (kd i == 0) = true := by rw [hk]; rfl
        refine AW.region (by decide) ?_
        simp only [push_cast, Nat.reduceAdd, Nat.reduceMul, Nat.reduceSub, Nat.reduceLeDiff, Nat.reduceLT, Nat.reduceEqDiff, Nat.reduceBEq, Nat.reduceBNe, Nat.reduceMod, Nat.reduceDiv, Int.reduceLE, Int.reduceLT, Int.reduceToNat, Int.reduceAdd, Int.reduceSub, Int.reduceMul, Int.reduceNeg, Int.reduceEq, Int.reduceBEq, Int.reduceBNe, ↓reduceIte, reduceCtorEq, String.reduceBNe, String.reduceEq, reduceDIte, Nat.reducePow, hrow, lk_old hrow, hcl, hoz, setD_cat, ↓alloc30, ↓alloc33, Int.le_refl, Nat.le_refl, c1, c2, c3, hc, hol, hov, hos, hot, o0, o1, o2, o3, o4, hbl, hbv, hbt, gls, gll, glt, hkk, d1, d2, h60, hkn, k0]
        refine Thn_n ?_
        refine hK _ _ ?_
        clear hK K
        refine AW.cond_t rfl ?_
        refine AW.seq_k fun K hK => ?_
        refine AW.region (by decide) ?_
        simp only [push_cast, Nat.reduceAdd, Nat.reduceMul, Nat.reduceSub, Nat.reduceLeDiff, Nat.reduceLT, Nat.reduceEqDiff, Nat.reduceBEq, Nat.reduceBNe, Nat.reduceMod, Nat.reduceDiv, Int.reduceLE, Int.reduceLT, Int.reduceToNat, Int.reduceAdd, Int.reduceSub, Int.reduceMul, Int.reduceNeg, Int.reduceEq, Int.reduceBEq, Int.reduceBNe, ↓reduceIte, reduceCtorEq, String.reduceBNe, String.reduceEq, reduceDIte, Nat.reducePow, hrow, lk_old hrow, hcl, hoz, setD_cat, ↓alloc30, ↓alloc33, Int.le_refl, Nat.le_refl, c1, c2, c3, hc, hol, hov, hos, hot, o0, o1, o2, o3, o4, hbl, hbv, hbt, gls, gll, glt, hkk, d1, d2, h60, hkn, k0]
        refine CThen.by (wr_down (m.length + 2) m.length (m.length + 1) 6 D (k : Int) (b i) _ hasD_cat.d hd) ?_
        simp only [push_cast, Nat.reduceAdd, Nat.reduceMul, Nat.reduceSub, Nat.reduceLeDiff, Nat.reduceLT, Nat.reduceEqDiff, Nat.reduceBEq, Nat.reduceBNe, Nat.reduceMod, Nat.reduceDiv, Int.reduceLE, Int.reduceLT, Int.reduceToNat, Int.reduceAdd, Int.reduceSub, Int.reduceMul, Int.reduceNeg, Int.reduceEq, Int.reduceBEq, Int.reduceBNe, ↓reduceIte, reduceCtorEq, String.reduceBNe, String.reduceEq, reduceDIte, Nat.reducePow, hrow, lk_old hrow, hcl, hoz, setD_cat, ↓alloc30, ↓alloc33, Int.le_refl, Nat.le_refl, c1, c2, c3, hc, hol, hov, hos, hot, o0, o1, o2, o3, o4, hbl, hbv, hbt, gls, gll, glt, hkk, d1, d2, h60, hkn, k0]
        refine Thn_n ?_
        refine hK _ _ ?_
        clear hK K
        refine AW.cond_f rfl ?_
        refine AW.skip ?_
        refine InB_n ?_
        refine InB_n ?_
        refine Thn_n ?_
        refine hK _ _ ?_
        clear hK K
        refine AW.region (by decide) ?_
        simp only [push_cast, Nat.reduceAdd, Nat.reduceMul, Nat.reduceSub, Nat.reduceLeDiff, Nat.reduceLT, Nat.reduceEqDiff, Nat.reduceBEq, Nat.reduceBNe, Nat.reduceMod, Nat.reduceDiv, Int.reduceLE, Int.reduceLT, Int.reduceToNat, Int.reduceAdd, Int.reduceSub, Int.reduceMul, Int.reduceNeg, Int.reduceEq, Int.reduceBEq, Int.reduceBNe, ↓reduceIte, reduceCtorEq, String.reduceBNe, String.reduceEq, reduceDIte, Nat.reducePow, hrow, lk_old hrow, hcl, hoz, setD_cat, ↓alloc30, ↓alloc33, Int.le_refl, Nat.le_refl, c1, c2, c3, hc, hol, hov, hos, hot, o0, o1, o2, o3, o4, hbl, hbv, hbt, gls, gll, glt, hkk, d1, d2, h60, hkn, k0]
        refine Thn_n ?_
        have hwi : IntKind.i64.wrap ((i:Int)+1) = (i:Int)+1 := wi (by omega)
        refine ⟨((i + 1, D) : Nat × DS), ⟨by show i + 1 ≤ n; omega, by show i + 1 ≤ 60; omega, hwd⟩, by show n - (i + 1) < n - i; omega, ?_⟩
        try simp only [keepL, setAll, push_cast, Nat.reduceAdd, Nat.reduceMul, Nat.reduceSub, Nat.reduceLeDiff, Nat.reduceLT, Nat.reduceEqDiff, Nat.reduceBEq, Nat.reduceBNe, Nat.reduceMod, Nat.reduceDiv, Int.reduceLE, Int.reduceLT, Int.reduceToNat, Int.reduceAdd, Int.reduceSub, Int.reduceMul, Int.reduceNeg, Int.reduceEq, Int.reduceBEq, Int.reduceBNe, ↓reduceIte, reduceCtorEq, String.reduceBNe, String.reduceEq, reduceDIte, Nat.reducePow, hrow, lk_old hrow, hcl, hoz, setD_cat, ↓alloc30, ↓alloc33, Int.le_refl, Nat.le_refl, c1, c2, c3, hc, hol, hov, hos, hot, o0, o1, o2, o3, o4, hbl, hbv, hbt, gls, gll, glt, hkk, d1, d2, h60, hkn, k0, hwi]
        exact Weak.to (extra := [_]) (by simp only [Keeps, Tm.get_cons, Nat.reduceEqDiff, ↓reduceIte, if_true, if_false, ite_true, ite_false, true_and, and_true, and_self, reduceCtorEq, hwi]) (by first | rfl | (simp only [List.append_assoc, List.cons_append, List.nil_append]; rfl)) (by first | rfl | (simp [AV.below, CV.below]; done) | (simp [AV.below, CV.below]; omega)) (dr_wf hwf _ (MWf_cons (u8l_below _ _) (MWf_cons (u8l_below _ _) MWf_nil)))
      · have k0 : (kd i == 0) = true := by rw [hk]; rfl
        refine AW.region (by decide) ?_
        simp only [push_cast, Nat.reduceAdd, Nat.reduceMul, Nat.reduceSub, Nat.reduceLeDiff, Nat.reduceLT, Nat.reduceEqDiff, Nat.reduceBEq, Nat.reduceBNe, Nat.reduceMod, Nat.reduceDiv, Int.reduceLE, Int.reduceLT, Int.reduceToNat, Int.reduceAdd, Int.reduceSub, Int.reduceMul, Int.reduceNeg, Int.reduceEq, Int.reduceBEq, Int.reduceBNe, ↓reduceIte, reduceCtorEq, String.reduceBNe, String.reduceEq, reduceDIte, Nat.reducePow, hrow, lk_old hrow, hcl, hoz, setD_cat, ↓alloc30, ↓alloc33, Int.le_refl, Nat.le_refl, c1, c2, c3, hc, hol, hov, hos, hot, o0, o1, o2, o3, o4, hbl, hbv, hbt, gls, gll, glt, hkk, d1, d2, h60, hkn, k0, spD_S, spD_E]
        refine Thn_n ?_
        refine hK _ _ ?_
        clear hK K
        refine AW.cond_t rfl ?_
        refine AW.seq_k fun K hK => ?_
        refine AW.region (by decide) ?_
        simp only [push_cast, Nat.reduceAdd, Nat.reduceMul, Nat.reduceSub, Nat.reduceLeDiff, Nat.reduceLT, Nat.reduceEqDiff, Nat.reduceBEq, Nat.reduceBNe, Nat.reduceMod, Nat.reduceDiv, Int.reduceLE, Int.reduceLT, Int.reduceToNat, Int.reduceAdd, Int.reduceSub, Int.reduceMul, Int.reduceNeg, Int.reduceEq, Int.reduceBEq, Int.reduceBNe, ↓reduceIte, reduceCtorEq, String.reduceBNe, String.reduceEq, reduceDIte, Nat.reducePow, hrow, lk_old hrow, hcl, hoz, setD_cat, ↓alloc30, ↓alloc33, Int.le_refl, Nat.le_refl, c1, c2, c3, hc, hol, hov, hos, hot, o0, o1, o2, o3, o4, hbl, hbv, hbt, gls, gll, glt, hkk, d1, d2, h60, hkn, k0, spD_S, spD_E]
        refine CThen.by (wr_no (m.length + 2) m.length (m.length + 1) 6 D (k : Int) (b i) _ hb hasD_cat hd (by omega) (by omega) hz) ?_
        simp only [push_cast, Nat.reduceAdd, Nat.reduceMul, Nat.reduceSub, Nat.reduceLeDiff, Nat.reduceLT, Nat.reduceEqDiff, Nat.reduceBEq, Nat.reduceBNe, Nat.reduceMod, Nat.reduceDiv, Int.reduceLE, Int.reduceLT, Int.reduceToNat, Int.reduceAdd, Int.reduceSub, Int.reduceMul, Int.reduceNeg, Int.reduceEq, Int.reduceBEq, Int.reduceBNe, ↓reduceIte, reduceCtorEq, String.reduceBNe, String.reduceEq, reduceDIte, Nat.reducePow, hrow, lk_old hrow, hcl, hoz, setD_cat, ↓alloc30, ↓alloc33, Int.le_refl, Nat.le_refl, c1, c2, c3, hc, hol, hov, hos, hot, o0, o1, o2, o3, o4, hbl, hbv, hbt, gls, gll, glt, hkk, d1, d2, h60, hkn, k0, spD_S, spD_E]
        refine Thn_n ?_
        refine hK _ _ ?_
        clear hK K
        refine AW.cond_f rfl ?_
        refine AW.skip ?_
        refine InB_n ?_
        refine InB_n ?_
        refine Thn_n ?_
        refine hK _ _ ?_
        clear hK K
        refine AW.region (by decide) ?_
        simp only [push_cast, Nat.reduceAdd, Nat.reduceMul, Nat.reduceSub, Nat.reduceLeDiff, Nat.reduceLT, Nat.reduceEqDiff, Nat.reduceBEq, Nat.reduceBNe, Nat.reduceMod, Nat.reduceDiv, Int.reduceLE, Int.reduceLT, Int.reduceToNat, Int.reduceAdd, Int.reduceSub, Int.reduceMul, Int.reduceNeg, Int.reduceEq, Int.reduceBEq, Int.reduceBNe, ↓reduceIte, reduceCtorEq, String.reduceBNe, String.reduceEq, reduceDIte, Nat.reducePow, hrow, lk_old hrow, hcl, hoz, setD_cat, ↓alloc30, ↓alloc33, Int.le_refl, Nat.le_refl, c1, c2, c3, hc, hol, hov, hos, hot, o0, o1, o2, o3, o4, hbl, hbv, hbt, gls, gll, glt, hkk, d1, d2, h60, hkn, k0, spD_S, spD_E]
        refine Thn_n ?_
        have hwi : IntKind.i64.wrap ((i:Int)+1) = (i:Int)+1 := wi (by omega)
        refine ⟨((i + 1, spD D) : Nat × DS), ⟨by show i + 1 ≤ n; omega, by show i + 1 ≤ 60; omega, spD_wf hwd⟩, by show n - (i + 1) < n - i; omega, ?_⟩
        try simp only [keepL, setAll, push_cast, Nat.reduceAdd, Nat.reduceMul, Nat.reduceSub, Nat.reduceLeDiff, Nat.reduceLT, Nat.reduceEqDiff, Nat.reduceBEq, Nat.reduceBNe, Nat.reduceMod, Nat.reduceDiv, Int.reduceLE, Int.reduceLT, Int.reduceToNat, Int.reduceAdd, Int.reduceSub, Int.reduceMul, Int.reduceNeg, Int.reduceEq, Int.reduceBEq, Int.reduceBNe, ↓reduceIte, reduceCtorEq, String.reduceBNe, String.reduceEq, reduceDIte, Nat.reducePow, hrow, lk_old hrow, hcl, hoz, setD_cat, ↓alloc30, ↓alloc33, Int.le_refl, Nat.le_refl, c1, c2, c3, hc, hol, hov, hos, hot, o0, o1, o2, o3, o4, hbl, hbv, hbt, gls, gll, glt, hkk, d1, d2, h60, hkn, k0, spD_S, spD_E, hwi]
        exact Weak.to (extra := [_]) (by simp only [Keeps, Tm.get_cons, Nat.reduceEqDiff, ↓reduceIte, if_true, if_false, ite_true, ite_false, true_and, and_true, and_self, reduceCtorEq, hwi]) (by first | rfl | (simp only [List.append_assoc, List.cons_append, List.nil_append]; rfl)) (by first | rfl | (simp [AV.below, CV.below]; done) | (simp [AV.below, CV.below]; omega)) (dr_wf hwf _ (MWf_cons (u8l_below _ _) (MWf_cons (u8l_below _ _) MWf_nil)))
      · have k0 : (kd i == 0) = true := by rw [hk]; rfl
        have hcv := catB_set (vis_len hwd.s hwd.e) hk6 hb
        have p4 : k * 128 + 128 ≤ 768 := by omega
        refine AW.region (by decide) ?_
        simp only [push_cast, Nat.reduceAdd, Nat.reduceMul, Nat.reduceSub, Nat.reduceLeDiff, Nat.reduceLT, Nat.reduceEqDiff, Nat.reduceBEq, Nat.reduceBNe, Nat.reduceMod, Nat.reduceDiv, Int.reduceLE, Int.reduceLT, Int.reduceToNat, Int.reduceAdd, Int.reduceSub, Int.reduceMul, Int.reduceNeg, Int.reduceEq, Int.reduceBEq, Int.reduceBNe, ↓reduceIte, reduceCtorEq, String.reduceBNe, String.reduceEq, reduceDIte, Nat.reducePow, hrow, lk_old hrow, hcl, hoz, setD_cat, ↓alloc30, ↓alloc33, Int.le_refl, Nat.le_refl, c1, c2, c3, hc, hol, hov, hos, hot, o0, o1, o2, o3, o4, hbl, hbv, hbt, gls, gll, glt, hkk, d1, d2, h60, hkn, k0, wrD_S, wrD_vis2, hcv, p4]
        refine Thn_n ?_
        refine hK _ _ ?_
        clear hK K
        refine AW.cond_t rfl ?_
        refine AW.seq_k fun K hK => ?_
        refine AW.region (by decide) ?_
        simp only [push_cast, Nat.reduceAdd, Nat.reduceMul, Nat.reduceSub, Nat.reduceLeDiff, Nat.reduceLT, Nat.reduceEqDiff, Nat.reduceBEq, Nat.reduceBNe, Nat.reduceMod, Nat.reduceDiv, Int.reduceLE, Int.reduceLT, Int.reduceToNat, Int.reduceAdd, Int.reduceSub, Int.reduceMul, Int.reduceNeg, Int.reduceEq, Int.reduceBEq, Int.reduceBNe, ↓reduceIte, reduceCtorEq, String.reduceBNe, String.reduceEq, reduceDIte, Nat.reducePow, hrow, lk_old hrow, hcl, hoz, setD_cat, ↓alloc30, ↓alloc33, Int.le_refl, Nat.le_refl, c1, c2, c3, hc, hol, hov, hos, hot, o0, o1, o2, o3, o4, hbl, hbv, hbt, gls, gll, glt, hkk, d1, d2, h60, hkn, k0, wrD_S, wrD_vis2, hcv, p4]
        refine CThen.by (wr_ok (m.length + 2) m.length (m.length + 1) 6 D (k : Int) (b i) _ hb hasD_cat hd (by omega) (by omega) hz) ?_
        simp only [push_cast, Nat.reduceAdd, Nat.reduceMul, Nat.reduceSub, Nat.reduceLeDiff, Nat.reduceLT, Nat.reduceEqDiff, Nat.reduceBEq, Nat.reduceBNe, Nat.reduceMod, Nat.reduceDiv, Int.reduceLE, Int.reduceLT, Int.reduceToNat, Int.reduceAdd, Int.reduceSub, Int.reduceMul, Int.reduceNeg, Int.reduceEq, Int.reduceBEq, Int.reduceBNe, ↓reduceIte, reduceCtorEq, String.reduceBNe, String.reduceEq, reduceDIte, Nat.reducePow, hrow, lk_old hrow, hcl, hoz, setD_cat, ↓alloc30, ↓alloc33, Int.le_refl, Nat.le_refl, c1, c2, c3, hc, hol, hov, hos, hot, o0, o1, o2, o3, o4, hbl, hbv, hbt, gls, gll, glt, hkk, d1, d2, h60, hkn, k0, wrD_S, wrD_vis2, hcv, p4]
        refine Thn_n ?_
        refine hK _ _ ?_
        clear hK K
        refine AW.cond_t rfl ?_
        refine AW.region (by decide) ?_
        simp only [push_cast, Nat.reduceAdd, Nat.reduceMul, Nat.reduceSub, Nat.reduceLeDiff, Nat.reduceLT, Nat.reduceEqDiff, Nat.reduceBEq, Nat.reduceBNe, Nat.reduceMod, Nat.reduceDiv, Int.reduceLE, Int.reduceLT, Int.reduceToNat, Int.reduceAdd, Int.reduceSub, Int.reduceMul, Int.reduceNeg, Int.reduceEq, Int.reduceBEq, Int.reduceBNe, ↓reduceIte, reduceCtorEq, String.reduceBNe, String.reduceEq, reduceDIte, Nat.reducePow, hrow, lk_old hrow, hcl, hoz, setD_cat, ↓alloc30, ↓alloc33, Int.le_refl, Nat.le_refl, c1, c2, c3, hc, hol, hov, hos, hot, o0, o1, o2, o3, o4, hbl, hbv, hbt, gls, gll, glt, hkk, d1, d2, h60, hkn, k0, wrD_S, wrD_vis2, hcv, p4]
        refine InB_n ?_
        refine InB_n ?_
        refine Thn_n ?_
        refine hK _ _ ?_
        clear hK K
        refine AW.region (by decide) ?_
        simp only [push_cast, Nat.reduceAdd, Nat.reduceMul, Nat.reduceSub, Nat.reduceLeDiff, Nat.reduceLT, Nat.reduceEqDiff, Nat.reduceBEq, Nat.reduceBNe, Nat.reduceMod, Nat.reduceDiv, Int.reduceLE, Int.reduceLT, Int.reduceToNat, Int.reduceAdd, Int.reduceSub, Int.reduceMul, Int.reduceNeg, Int.reduceEq, Int.reduceBEq, Int.reduceBNe, ↓reduceIte, reduceCtorEq, String.reduceBNe, String.reduceEq, reduceDIte, Nat.reducePow, hrow, lk_old hrow, hcl, hoz, setD_cat, ↓alloc30, ↓alloc33, Int.le_refl, Nat.le_refl, c1, c2, c3, hc, hol, hov, hos, hot, o0, o1, o2, o3, o4, hbl, hbv, hbt, gls, gll, glt, hkk, d1, d2, h60, hkn, k0, wrD_S, wrD_vis2, hcv, p4]
        refine Thn_n ?_
        have hwi : IntKind.i64.wrap ((i:Int)+1) = (i:Int)+1 := wi (by omega)
        refine ⟨((i + 1, wrD D (k : Int) (b i)) : Nat × DS), ⟨by show i + 1 ≤ n; omega, by show i + 1 ≤ 60; omega, wrD_wf hwd (by omega) (by omega) hb⟩, by show n - (i + 1) < n - i; omega, ?_⟩
        try simp only [keepL, setAll, push_cast, Nat.reduceAdd, Nat.reduceMul, Nat.reduceSub, Nat.reduceLeDiff, Nat.reduceLT, Nat.reduceEqDiff, Nat.reduceBEq, Nat.reduceBNe, Nat.reduceMod, Nat.reduceDiv, Int.reduceLE, Int.reduceLT, Int.reduceToNat, Int.reduceAdd, Int.reduceSub, Int.reduceMul, Int.reduceNeg, Int.reduceEq, Int.reduceBEq, Int.reduceBNe, ↓reduceIte, reduceCtorEq, String.reduceBNe, String.reduceEq, reduceDIte, Nat.reducePow, hrow, lk_old hrow, hcl, hoz, setD_cat, ↓alloc30, ↓alloc33, Int.le_refl, Nat.le_refl, c1, c2, c3, hc, hol, hov, hos, hot, o0, o1, o2, o3, o4, hbl, hbv, hbt, gls, gll, glt, hkk, d1, d2, h60, hkn, k0, wrD_S, wrD_vis2, hcv, p4, hwi]
        exact Weak.to (extra := [_]) (by simp only [Keeps, Tm.get_cons, Nat.reduceEqDiff, ↓reduceIte, if_true, if_false, ite_true, ite_false, true_and, and_true, and_self, reduceCtorEq, hwi]) (by first | rfl | (simp only [List.append_assoc, List.cons_append, List.nil_append]; rfl)) (by first | rfl | (simp [AV.below, CV.below]; done) | (simp [AV.below, CV.below]; omega)) (dr_wf hwf _ (MWf_cons (u8l_below _ _) (MWf_cons (u8l_below _ _) MWf_nil)))
      · have k0 : (kd i == 0) = false := by rw [hk]; rfl
        have k1 : (kd i == 1) = true := by rw [hk]; rfl
        refine AW.region (by decide) ?_
        simp only [push_cast, Nat.reduceAdd, Nat.reduceMul, Nat.reduceSub, Nat.reduceLeDiff, Nat.reduceLT, Nat.reduceEqDiff, Nat.reduceBEq, Nat.reduceBNe, Nat.reduceMod, Nat.reduceDiv, Int.reduceLE, Int.reduceLT, Int.reduceToNat, Int.reduceAdd, Int.reduceSub, Int.reduceMul, Int.reduceNeg, Int.reduceEq, Int.reduceBEq, Int.reduceBNe, ↓reduceIte, reduceCtorEq, String.reduceBNe, String.reduceEq, reduceDIte, Nat.reducePow, hrow, lk_old hrow, hcl, hoz, setD_cat, ↓alloc30, ↓alloc33, Int.le_refl, Nat.le_refl, c1, c2, c3, hc, hol, hov, hos, hot, o0, o1, o2, o3, o4, hbl, hbv, hbt, gls, gll, glt, hkk, d1, d2, h60, hkn, k0, k1]
        refine Thn_n ?_
        refine hK _ _ ?_
        clear hK K
        refine AW.cond_f rfl ?_
        refine AW.seq_k fun K hK => ?_
        refine AW.region (by decide) ?_
        simp only [push_cast, Nat.reduceAdd, Nat.reduceMul, Nat.reduceSub, Nat.reduceLeDiff, Nat.reduceLT, Nat.reduceEqDiff, Nat.reduceBEq, Nat.reduceBNe, Nat.reduceMod, Nat.reduceDiv, Int.reduceLE, Int.reduceLT, Int.reduceToNat, Int.reduceAdd, Int.reduceSub, Int.reduceMul, Int.reduceNeg, Int.reduceEq, Int.reduceBEq, Int.reduceBNe, ↓reduceIte, reduceCtorEq, String.reduceBNe, String.reduceEq, reduceDIte, Nat.reducePow, hrow, lk_old hrow, hcl, hoz, setD_cat, ↓alloc30, ↓alloc33, Int.le_refl, Nat.le_refl, c1, c2, c3, hc, hol, hov, hos, hot, o0, o1, o2, o3, o4, hbl, hbv, hbt, gls, gll, glt, hkk, d1, d2, h60, hkn, k0, k1]
        refine Thn_n ?_
        refine hK _ _ ?_
        clear hK K
        refine AW.cond_t rfl ?_
        refine AW.seq_k fun K hK => ?_
        refine AW.region (by decide) ?_
        simp only [push_cast, Nat.reduceAdd, Nat.reduceMul, Nat.reduceSub, Nat.reduceLeDiff, Nat.reduceLT, Nat.reduceEqDiff, Nat.reduceBEq, Nat.reduceBNe, Nat.reduceMod, Nat.reduceDiv, Int.reduceLE, Int.reduceLT, Int.reduceToNat, Int.reduceAdd, Int.reduceSub, Int.reduceMul, Int.reduceNeg, Int.reduceEq, Int.reduceBEq, Int.reduceBNe, ↓reduceIte, reduceCtorEq, String.reduceBNe, String.reduceEq, reduceDIte, Nat.reducePow, hrow, lk_old hrow, hcl, hoz, setD_cat, ↓alloc30, ↓alloc33, Int.le_refl, Nat.le_refl, c1, c2, c3, hc, hol, hov, hos, hot, o0, o1, o2, o3, o4, hbl, hbv, hbt, gls, gll, glt, hkk, d1, d2, h60, hkn, k0, k1]
        refine CThen.by (sy_down (m.length + 2) m.length (m.length + 1) 6 D _ hasD_cat.d hd) ?_
        simp only [push_cast, Nat.reduceAdd, Nat.reduceMul, Nat.reduceSub, Nat.reduceLeDiff, Nat.reduceLT, Nat.reduceEqDiff, Nat.reduceBEq, Nat.reduceBNe, Nat.reduceMod, Nat.reduceDiv, Int.reduceLE, Int.reduceLT, Int.reduceToNat, Int.reduceAdd, Int.reduceSub, Int.reduceMul, Int.reduceNeg, Int.reduceEq, Int.reduceBEq, Int.reduceBNe, ↓reduceIte, reduceCtorEq, String.reduceBNe, String.reduceEq, reduceDIte, Nat.reducePow, hrow, lk_old hrow, hcl, hoz, setD_cat, ↓alloc30, ↓alloc33, Int.le_refl, Nat.le_refl, c1, c2, c3, hc, hol, hov, hos, hot, o0, o1, o2, o3, o4, hbl, hbv, hbt, gls, gll, glt, hkk, d1, d2, h60, hkn, k0, k1]
        refine Thn_n ?_
        refine hK _ _ ?_
        clear hK K
        refine AW.cond_f rfl ?_
        refine AW.skip ?_
        refine InB_n ?_
        refine InB_n ?_
        refine Thn_n ?_
        refine hK _ _ ?_
        clear hK K
        refine AW.region (by decide) ?_
        simp only [push_cast, Nat.reduceAdd, Nat.reduceMul, Nat.reduceSub, Nat.reduceLeDiff, Nat.reduceLT, Nat.reduceEqDiff, Nat.reduceBEq, Nat.reduceBNe, Nat.reduceMod, Nat.reduceDiv, Int.reduceLE, Int.reduceLT, Int.reduceToNat, Int.reduceAdd, Int.reduceSub, Int.reduceMul, Int.reduceNeg, Int.reduceEq, Int.reduceBEq, Int.reduceBNe, ↓reduceIte, reduceCtorEq, String.reduceBNe, String.reduceEq, reduceDIte, Nat.reducePow, hrow, lk_old hrow, hcl, hoz, setD_cat, ↓alloc30, ↓alloc33, Int.le_refl, Nat.le_refl, c1, c2, c3, hc, hol, hov, hos, hot, o0, o1, o2, o3, o4, hbl, hbv, hbt, gls, gll, glt, hkk, d1, d2, h60, hkn, k0, k1]
        refine Thn_n ?_
        have hwi : IntKind.i64.wrap ((i:Int)+1) = (i:Int)+1 := wi (by omega)
        refine ⟨((i + 1, D) : Nat × DS), ⟨by show i + 1 ≤ n; omega, by show i + 1 ≤ 60; omega, hwd⟩, by show n - (i + 1) < n - i; omega, ?_⟩
        try simp only [keepL, setAll, push_cast, Nat.reduceAdd, Nat.reduceMul, Nat.reduceSub, Nat.reduceLeDiff, Nat.reduceLT, Nat.reduceEqDiff, Nat.reduceBEq, Nat.reduceBNe, Nat.reduceMod, Nat.reduceDiv, Int.reduceLE, Int.reduceLT, Int.reduceToNat, Int.reduceAdd, Int.reduceSub, Int.reduceMul, Int.reduceNeg, Int.reduceEq, Int.reduceBEq, Int.reduceBNe, ↓reduceIte, reduceCtorEq, String.reduceBNe, String.reduceEq, reduceDIte, Nat.reducePow, hrow, lk_old hrow, hcl, hoz, setD_cat, ↓alloc30, ↓alloc33, Int.le_refl, Nat.le_refl, c1, c2, c3, hc, hol, hov, hos, hot, o0, o1, o2, o3, o4, hbl, hbv, hbt, gls, gll, glt, hkk, d1, d2, h60, hkn, k0, k1, hwi]
        exact Weak.to (extra := [_]) (by simp only [Keeps, Tm.get_cons, Nat.reduceEqDiff, ↓reduceIte, if_true, if_false, ite_true, ite_false, true_and, and_true, and_self, reduceCtorEq, hwi]) (by first | rfl | (simp only [List.append_assoc, List.cons_append, List.nil_append]; rfl)) (by first | rfl | (simp [AV.below, CV.below]; done) | (simp [AV.below, CV.below]; omega)) (dr_wf hwf _ (MWf_cons (u8l_below _ _) (MWf_cons (u8l_below _ _) MWf_nil)))
      · have k0 : (kd i == 0) = false := by rw [hk]; rfl
        have k1 : (kd i == 1) = true := by rw [hk]; rfl
        refine AW.region (by decide) ?_
        simp only [push_cast, Nat.reduceAdd, Nat.reduceMul, Nat.reduceSub, Nat.reduceLeDiff, Nat.reduceLT, Nat.reduceEqDiff, Nat.reduceBEq, Nat.reduceBNe, Nat.reduceMod, Nat.reduceDiv, Int.reduceLE, Int.reduceLT, Int.reduceToNat, Int.reduceAdd, Int.reduceSub, Int.reduceMul, Int.reduceNeg, Int.reduceEq, Int.reduceBEq, Int.reduceBNe, ↓reduceIte, reduceCtorEq, String.reduceBNe, String.reduceEq, reduceDIte, Nat.reducePow, hrow, lk_old hrow, hcl, hoz, setD_cat, ↓alloc30, ↓alloc33, Int.le_refl, Nat.le_refl, c1, c2, c3, hc, hol, hov, hos, hot, o0, o1, o2, o3, o4, hbl, hbv, hbt, gls, gll, glt, hkk, d1, d2, h60, hkn, k0, k1, spD_S, spD_E]
        refine Thn_n ?_
        refine hK _ _ ?_
        clear hK K
        refine AW.cond_f rfl ?_
        refine AW.seq_k fun K hK => ?_
        refine AW.region (by decide) ?_
        simp only [push_cast, Nat.reduceAdd, Nat.reduceMul, Nat.reduceSub, Nat.reduceLeDiff, Nat.reduceLT, Nat.reduceEqDiff, Nat.reduceBEq, Nat.reduceBNe, Nat.reduceMod, Nat.reduceDiv, Int.reduceLE, Int.reduceLT, Int.reduceToNat, Int.reduceAdd, Int.reduceSub, Int.reduceMul, Int.reduceNeg, Int.reduceEq, Int.reduceBEq, Int.reduceBNe, ↓reduceIte, reduceCtorEq, String.reduceBNe, String.reduceEq, reduceDIte, Nat.reducePow, hrow, lk_old hrow, hcl, hoz, setD_cat, ↓alloc30, ↓alloc33, Int.le_refl, Nat.le_refl, c1, c2, c3, hc, hol, hov, hos, hot, o0, o1, o2, o3, o4, hbl, hbv, hbt, gls, gll, glt, hkk, d1, d2, h60, hkn, k0, k1, spD_S, spD_E]
        refine Thn_n ?_
        refine hK _ _ ?_
        clear hK K
        refine AW.cond_t rfl ?_
        refine AW.seq_k fun K hK => ?_
        refine AW.region (by decide) ?_
        simp only [push_cast, Nat.reduceAdd, Nat.reduceMul, Nat.reduceSub, Nat.reduceLeDiff, Nat.reduceLT, Nat.reduceEqDiff, Nat.reduceBEq, Nat.reduceBNe, Nat.reduceMod, Nat.reduceDiv, Int.reduceLE, Int.reduceLT, Int.reduceToNat, Int.reduceAdd, Int.reduceSub, Int.reduceMul, Int.reduceNeg, Int.reduceEq, Int.reduceBEq, Int.reduceBNe, ↓reduceIte, reduceCtorEq, String.reduceBNe, String.reduceEq, reduceDIte, Nat.reducePow, hrow, lk_old hrow, hcl, hoz, setD_cat, ↓alloc30, ↓alloc33, Int.le_refl, Nat.le_refl, c1, c2, c3, hc, hol, hov, hos, hot, o0, o1, o2, o3, o4, hbl, hbv, hbt, gls, gll, glt, hkk, d1, d2, h60, hkn, k0, k1, spD_S, spD_E]
        refine CThen.by (sy_no (m.length + 2) m.length (m.length + 1) 6 D _ hasD_cat hd hz) ?_
        simp only [push_cast, Nat.reduceAdd, Nat.reduceMul, Nat.reduceSub, Nat.reduceLeDiff, Nat.reduceLT, Nat.reduceEqDiff, Nat.reduceBEq, Nat.reduceBNe, Nat.reduceMod, Nat.reduceDiv, Int.reduceLE, Int.reduceLT, Int.reduceToNat, Int.reduceAdd, Int.reduceSub, Int.reduceMul, Int.reduceNeg, Int.reduceEq, Int.reduceBEq, Int.reduceBNe, ↓reduceIte, reduceCtorEq, String.reduceBNe, String.reduceEq, reduceDIte, Nat.reducePow, hrow, lk_old hrow, hcl, hoz, setD_cat, ↓alloc30, ↓alloc33, Int.le_refl, Nat.le_refl, c1, c2, c3, hc, hol, hov, hos, hot, o0, o1, o2, o3, o4, hbl, hbv, hbt, gls, gll, glt, hkk, d1, d2, h60, hkn, k0, k1, spD_S, spD_E]
        refine Thn_n ?_
        refine hK _ _ ?_
        clear hK K
        refine AW.cond_f rfl ?_
        refine AW.skip ?_
        refine InB_n ?_
        refine InB_n ?_
        refine Thn_n ?_
        refine hK _ _ ?_
        clear hK K
        refine AW.region (by decide) ?_
        simp only [push_cast, Nat.reduceAdd, Nat.reduceMul, Nat.reduceSub, Nat.reduceLeDiff, Nat.reduceLT, Nat.reduceEqDiff, Nat.reduceBEq, Nat.reduceBNe, Nat.reduceMod, Nat.reduceDiv, Int.reduceLE, Int.reduceLT, Int.reduceToNat, Int.reduceAdd, Int.reduceSub, Int.reduceMul, Int.reduceNeg, Int.reduceEq, Int.reduceBEq, Int.reduceBNe, ↓reduceIte, reduceCtorEq, String.reduceBNe, String.reduceEq, reduceDIte, Nat.reducePow, hrow, lk_old hrow, hcl, hoz, setD_cat, ↓alloc30, ↓alloc33, Int.le_refl, Nat.le_refl, c1, c2, c3, hc, hol, hov, hos, hot, o0, o1, o2, o3, o4, hbl, hbv, hbt, gls, gll, glt, hkk, d1, d2, h60, hkn, k0, k1, spD_S, spD_E]
        refine Thn_n ?_
        have hwi : IntKind.i64.wrap ((i:Int)+1) = (i:Int)+1 := wi (by omega)
        refine ⟨((i + 1, spD D) : Nat × DS), ⟨by show i + 1 ≤ n; omega, by show i + 1 ≤ 60; omega, spD_wf hwd⟩, by show n - (i + 1) < n - i; omega, ?_⟩
        try simp only [keepL, setAll, push_cast, Nat.reduceAdd, Nat.reduceMul, Nat.reduceSub, Nat.reduceLeDiff, Nat.reduceLT, Nat.reduceEqDiff, Nat.reduceBEq, Nat.reduceBNe, Nat.reduceMod, Nat.reduceDiv, Int.reduceLE, Int.reduceLT, Int.reduceToNat, Int.reduceAdd, Int.reduceSub, Int.reduceMul, Int.reduceNeg, Int.reduceEq, Int.reduceBEq, Int.reduceBNe, ↓reduceIte, reduceCtorEq, String.reduceBNe, String.reduceEq, reduceDIte, Nat.reducePow, hrow, lk_old hrow, hcl, hoz, setD_cat, ↓alloc30, ↓alloc33, Int.le_refl, Nat.le_refl, c1, c2, c3, hc, hol, hov, hos, hot, o0, o1, o2, o3, o4, hbl, hbv, hbt, gls, gll, glt, hkk, d1, d2, h60, hkn, k0, k1, spD_S, spD_E, hwi]
        exact Weak.to (extra := [_]) (by simp only [Keeps, Tm.get_cons, Nat.reduceEqDiff, ↓reduceIte, if_true, if_false, ite_true, ite_false, true_and, and_true, and_self, reduceCtorEq, hwi]) (by first | rfl | (simp only [List.append_assoc, List.cons_append, List.nil_append]; rfl)) (by first | rfl | (simp [AV.below, CV.below]; done) | (simp [AV.below, CV.below]; omega)) (dr_wf hwf _ (MWf_cons (u8l_below _ _) (MWf_cons (u8l_below _ _) MWf_nil)))
      · have k0 : (kd i == 0) = false := by rw [hk]; rfl
        have k1 : (kd i == 1) = true := by rw [hk]; rfl
        have hsl := setL_all (vs := u8l (catB 6 (vis D.S D.E))) (l := u8l (catB 6 D.S)) (by rw [u8l_len, u8l_len, catB_len hwd.s, catB_len (vis_len hwd.s hwd.e)])
        have hvv := u8l_vals (catB 6 (vis D.S D.E))
        refine AW.region (by decide) ?_
        simp only [push_cast, Nat.reduceAdd, Nat.reduceMul, Nat.reduceSub, Nat.reduceLeDiff, Nat.reduceLT, Nat.reduceEqDiff, Nat.reduceBEq, Nat.reduceBNe, Nat.reduceMod, Nat.reduceDiv, Int.reduceLE, Int.reduceLT, Int.reduceToNat, Int.reduceAdd, Int.reduceSub, Int.reduceMul, Int.reduceNeg, Int.reduceEq, Int.reduceBEq, Int.reduceBNe, ↓reduceIte, reduceCtorEq, String.reduceBNe, String.reduceEq, reduceDIte, Nat.reducePow, hrow, lk_old hrow, hcl, hoz, setD_cat, ↓alloc30, ↓alloc33, Int.le_refl, Nat.le_refl, c1, c2, c3, hc, hol, hov, hos, hot, o0, o1, o2, o3, o4, hbl, hbv, hbt, gls, gll, glt, hkk, d1, d2, h60, hkn, k0, k1, syD_S, syD_vis2, hsl, hvv]
        refine Thn_n ?_
        refine hK _ _ ?_
        clear hK K
        refine AW.cond_f rfl ?_
        refine AW.seq_k fun K hK => ?_
        refine AW.region (by decide) ?_
        simp only [push_cast, Nat.reduceAdd, Nat.reduceMul, Nat.reduceSub, Nat.reduceLeDiff, Nat.reduceLT, Nat.reduceEqDiff, Nat.reduceBEq, Nat.reduceBNe, Nat.reduceMod, Nat.reduceDiv, Int.reduceLE, Int.reduceLT, Int.reduceToNat, Int.reduceAdd, Int.reduceSub, Int.reduceMul, Int.reduceNeg, Int.reduceEq, Int.reduceBEq, Int.reduceBNe, ↓reduceIte, reduceCtorEq, String.reduceBNe, String.reduceEq, reduceDIte, Nat.reducePow, hrow, lk_old hrow, hcl, hoz, setD_cat, ↓alloc30, ↓alloc33, Int.le_refl, Nat.le_refl, c1, c2, c3, hc, hol, hov, hos, hot, o0, o1, o2, o3, o4, hbl, hbv, hbt, gls, gll, glt, hkk, d1, d2, h60, hkn, k0, k1, syD_S, syD_vis2, hsl, hvv]
        refine Thn_n ?_
        refine hK _ _ ?_
        clear hK K
        refine AW.cond_t rfl ?_
        refine AW.seq_k fun K hK => ?_
        refine AW.region (by decide) ?_
        simp only [push_cast, Nat.reduceAdd, Nat.reduceMul, Nat.reduceSub, Nat.reduceLeDiff, Nat.reduceLT, Nat.reduceEqDiff, Nat.reduceBEq, Nat.reduceBNe, Nat.reduceMod, Nat.reduceDiv, Int.reduceLE, Int.reduceLT, Int.reduceToNat, Int.reduceAdd, Int.reduceSub, Int.reduceMul, Int.reduceNeg, Int.reduceEq, Int.reduceBEq, Int.reduceBNe, ↓reduceIte, reduceCtorEq, String.reduceBNe, String.reduceEq, reduceDIte, Nat.reducePow, hrow, lk_old hrow, hcl, hoz, setD_cat, ↓alloc30, ↓alloc33, Int.le_refl, Nat.le_refl, c1, c2, c3, hc, hol, hov, hos, hot, o0, o1, o2, o3, o4, hbl, hbv, hbt, gls, gll, glt, hkk, d1, d2, h60, hkn, k0, k1, syD_S, syD_vis2, hsl, hvv]
        refine CThen.by (sy_ok (m.length + 2) m.length (m.length + 1) 6 D _ hasD_cat hd hwd hz) ?_
        simp only [push_cast, Nat.reduceAdd, Nat.reduceMul, Nat.reduceSub, Nat.reduceLeDiff, Nat.reduceLT, Nat.reduceEqDiff, Nat.reduceBEq, Nat.reduceBNe, Nat.reduceMod, Nat.reduceDiv, Int.reduceLE, Int.reduceLT, Int.reduceToNat, Int.reduceAdd, Int.reduceSub, Int.reduceMul, Int.reduceNeg, Int.reduceEq, Int.reduceBEq, Int.reduceBNe, ↓reduceIte, reduceCtorEq, String.reduceBNe, String.reduceEq, reduceDIte, Nat.reducePow, hrow, lk_old hrow, hcl, hoz, setD_cat, ↓alloc30, ↓alloc33, Int.le_refl, Nat.le_refl, c1, c2, c3, hc, hol, hov, hos, hot, o0, o1, o2, o3, o4, hbl, hbv, hbt, gls, gll, glt, hkk, d1, d2, h60, hkn, k0, k1, syD_S, syD_vis2, hsl, hvv]
        refine Thn_n ?_
        refine hK _ _ ?_
        clear hK K
        refine AW.cond_t rfl ?_
        refine AW.region (by decide) ?_
        simp only [push_cast, Nat.reduceAdd, Nat.reduceMul, Nat.reduceSub, Nat.reduceLeDiff, Nat.reduceLT, Nat.reduceEqDiff, Nat.reduceBEq, Nat.reduceBNe, Nat.reduceMod, Nat.reduceDiv, Int.reduceLE, Int.reduceLT, Int.reduceToNat, Int.reduceAdd, Int.reduceSub, Int.reduceMul, Int.reduceNeg, Int.reduceEq, Int.reduceBEq, Int.reduceBNe, ↓reduceIte, reduceCtorEq, String.reduceBNe, String.reduceEq, reduceDIte, Nat.reducePow, hrow, lk_old hrow, hcl, hoz, setD_cat, ↓alloc30, ↓alloc33, Int.le_refl, Nat.le_refl, c1, c2, c3, hc, hol, hov, hos, hot, o0, o1, o2, o3, o4, hbl, hbv, hbt, gls, gll, glt, hkk, d1, d2, h60, hkn, k0, k1, syD_S, syD_vis2, hsl, hvv]
        refine InB_n ?_
        refine InB_n ?_
        refine Thn_n ?_
        refine hK _ _ ?_
        clear hK K
        refine AW.region (by decide) ?_
        simp only [push_cast, Nat.reduceAdd, Nat.reduceMul, Nat.reduceSub, Nat.reduceLeDiff, Nat.reduceLT, Nat.reduceEqDiff, Nat.reduceBEq, Nat.reduceBNe, Nat.reduceMod, Nat.reduceDiv, Int.reduceLE, Int.reduceLT, Int.reduceToNat, Int.reduceAdd, Int.reduceSub, Int.reduceMul, Int.reduceNeg, Int.reduceEq, Int.reduceBEq, Int.reduceBNe, ↓reduceIte, reduceCtorEq, String.reduceBNe, String.reduceEq, reduceDIte, Nat.reducePow, hrow, lk_old hrow, hcl, hoz, setD_cat, ↓alloc30, ↓alloc33, Int.le_refl, Nat.le_refl, c1, c2, c3, hc, hol, hov, hos, hot, o0, o1, o2, o3, o4, hbl, hbv, hbt, gls, gll, glt, hkk, d1, d2, h60, hkn, k0, k1, syD_S, syD_vis2, hsl, hvv]
        refine Thn_n ?_
        have hwi : IntKind.i64.wrap ((i:Int)+1) = (i:Int)+1 := wi (by omega)
        refine ⟨((i + 1, syD D) : Nat × DS), ⟨by show i + 1 ≤ n; omega, by show i + 1 ≤ 60; omega, syD_wf hwd⟩, by show n - (i + 1) < n - i; omega, ?_⟩
        try simp only [keepL, setAll, push_cast, Nat.reduceAdd, Nat.reduceMul, Nat.reduceSub, Nat.reduceLeDiff, Nat.reduceLT, Nat.reduceEqDiff, Nat.reduceBEq, Nat.reduceBNe, Nat.reduceMod, Nat.reduceDiv, Int.reduceLE, Int.reduceLT, Int.reduceToNat, Int.reduceAdd, Int.reduceSub, Int.reduceMul, Int.reduceNeg, Int.reduceEq, Int.reduceBEq, Int.reduceBNe, ↓reduceIte, reduceCtorEq, String.reduceBNe, String.reduceEq, reduceDIte, Nat.reducePow, hrow, lk_old hrow, hcl, hoz, setD_cat, ↓alloc30, ↓alloc33, Int.le_refl, Nat.le_refl, c1, c2, c3, hc, hol, hov, hos, hot, o0, o1, o2, o3, o4, hbl, hbv, hbt, gls, gll, glt, hkk, d1, d2, h60, hkn, k0, k1, syD_S, syD_vis2, hsl, hvv, hwi]
        exact Weak.to (extra := [_]) (by simp only [Keeps, Tm.get_cons, Nat.reduceEqDiff, ↓reduceIte, if_true, if_false, ite_true, ite_false, true_and, and_true, and_self, reduceCtorEq, hwi]) (by first | rfl | (simp only [List.append_assoc, List.cons_append, List.nil_append]; rfl)) (by first | rfl | (simp [AV.below, CV.below]; done) | (simp [AV.below, CV.below]; omega)) (dr_wf hwf _ (MWf_cons (u8l_below _ _) (MWf_cons (u8l_below _ _) MWf_nil)))
      · have k0 : (kd i == 0) = false := by rw [hk]; rfl
        have k1 : (kd i == 1) = false := by rw [hk]; rfl
        have k2 : (kd i == 2) = true := by rw [hk]; rfl
        iterate 2
          refine AW.region (by decide) ?_
          simp only [push_cast, Nat.reduceAdd, Nat.reduceMul, Nat.reduceSub, Nat.reduceLeDiff, Nat.reduceLT, Nat.reduceEqDiff, Nat.reduceBEq, Nat.reduceBNe, Nat.reduceMod, Nat.reduceDiv, Int.reduceLE, Int.reduceLT, Int.reduceToNat, Int.reduceAdd, Int.reduceSub, Int.reduceMul, Int.reduceNeg, Int.reduceEq, Int.reduceBEq, Int.reduceBNe, ↓reduceIte, reduceCtorEq, String.reduceBNe, String.reduceEq, reduceDIte, Nat.reducePow, hrow, lk_old hrow, hcl, hoz, setD_cat, ↓alloc30, ↓alloc33, Int.le_refl, Nat.le_refl, c1, c2, c3, hc, hol, hov, hos, hot, o0, o1, o2, o3, o4, hbl, hbv, hbt, gls, gll, glt, hkk, d1, d2, h60, hkn, k0, k1, k2]
          refine Thn_n ?_
          refine hK _ _ ?_
          clear hK K
          refine AW.cond_f rfl ?_
          refine AW.seq_k fun K hK => ?_
        refine AW.region (by decide) ?_
        simp only [push_cast, Nat.reduceAdd, Nat.reduceMul, Nat.reduceSub, Nat.reduceLeDiff, Nat.reduceLT, Nat.reduceEqDiff, Nat.reduceBEq, Nat.reduceBNe, Nat.reduceMod, Nat.reduceDiv, Int.reduceLE, Int.reduceLT, Int.reduceToNat, Int.reduceAdd, Int.reduceSub, Int.reduceMul, Int.reduceNeg, Int.reduceEq, Int.reduceBEq, Int.reduceBNe, ↓reduceIte, reduceCtorEq, String.reduceBNe, String.reduceEq, reduceDIte, Nat.reducePow, hrow, lk_old hrow, hcl, hoz, setD_cat, ↓alloc30, ↓alloc33, Int.le_refl, Nat.le_refl, c1, c2, c3, hc, hol, hov, hos, hot, o0, o1, o2, o3, o4, hbl, hbv, hbt, gls, gll, glt, hkk, d1, d2, h60, hkn, k0, k1, k2]
        refine Thn_n ?_
        refine hK _ _ ?_
        clear hK K
        refine AW.cond_t rfl ?_
        refine AW.region (by decide) ?_
        simp only [push_cast, Nat.reduceAdd, Nat.reduceMul, Nat.reduceSub, Nat.reduceLeDiff, Nat.reduceLT, Nat.reduceEqDiff, Nat.reduceBEq, Nat.reduceBNe, Nat.reduceMod, Nat.reduceDiv, Int.reduceLE, Int.reduceLT, Int.reduceToNat, Int.reduceAdd, Int.reduceSub, Int.reduceMul, Int.reduceNeg, Int.reduceEq, Int.reduceBEq, Int.reduceBNe, ↓reduceIte, reduceCtorEq, String.reduceBNe, String.reduceEq, reduceDIte, Nat.reducePow, hrow, lk_old hrow, hcl, hoz, setD_cat, ↓alloc30, ↓alloc33, Int.le_refl, Nat.le_refl, c1, c2, c3, hc, hol, hov, hos, hot, o0, o1, o2, o3, o4, hbl, hbv, hbt, gls, gll, glt, hkk, d1, d2, h60, hkn, k0, k1, k2]
        refine CThen.by (fu_down (m.length + 2) m.length (m.length + 1) 6 D (nx i) _ hasD_cat.d hd) ?_
        simp only [push_cast, Nat.reduceAdd, Nat.reduceMul, Nat.reduceSub, Nat.reduceLeDiff, Nat.reduceLT, Nat.reduceEqDiff, Nat.reduceBEq, Nat.reduceBNe, Nat.reduceMod, Nat.reduceDiv, Int.reduceLE, Int.reduceLT, Int.reduceToNat, Int.reduceAdd, Int.reduceSub, Int.reduceMul, Int.reduceNeg, Int.reduceEq, Int.reduceBEq, Int.reduceBNe, ↓reduceIte, reduceCtorEq, String.reduceBNe, String.reduceEq, reduceDIte, Nat.reducePow, hrow, lk_old hrow, hcl, hoz, setD_cat, ↓alloc30, ↓alloc33, Int.le_refl, Nat.le_refl, c1, c2, c3, hc, hol, hov, hos, hot, o0, o1, o2, o3, o4, hbl, hbv, hbt, gls, gll, glt, hkk, d1, d2, h60, hkn, k0, k1, k2]
        refine InB_n ?_
        refine InB_n ?_
        refine Thn_n ?_
        refine hK _ _ ?_
        clear hK K
        refine AW.region (by decide) ?_
        simp only [push_cast, Nat.reduceAdd, Nat.reduceMul, Nat.reduceSub, Nat.reduceLeDiff, Nat.reduceLT, Nat.reduceEqDiff, Nat.reduceBEq, Nat.reduceBNe, Nat.reduceMod, Nat.reduceDiv, Int.reduceLE, Int.reduceLT, Int.reduceToNat, Int.reduceAdd, Int.reduceSub, Int.reduceMul, Int.reduceNeg, Int.reduceEq, Int.reduceBEq, Int.reduceBNe, ↓reduceIte, reduceCtorEq, String.reduceBNe, String.reduceEq, reduceDIte, Nat.reducePow, hrow, lk_old hrow, hcl, hoz, setD_cat, ↓alloc30, ↓alloc33, Int.le_refl, Nat.le_refl, c1, c2, c3, hc, hol, hov, hos, hot, o0, o1, o2, o3, o4, hbl, hbv, hbt, gls, gll, glt, hkk, d1, d2, h60, hkn, k0, k1, k2]
        refine Thn_n ?_
        have hwi : IntKind.i64.wrap ((i:Int)+1) = (i:Int)+1 := wi (by omega)
        refine ⟨((i + 1, D) : Nat × DS), ⟨by show i + 1 ≤ n; omega, by show i + 1 ≤ 60; omega, hwd⟩, by show n - (i + 1) < n - i; omega, ?_⟩
        try simp only [keepL, setAll, push_cast, Nat.reduceAdd, Nat.reduceMul, Nat.reduceSub, Nat.reduceLeDiff, Nat.reduceLT, Nat.reduceEqDiff, Nat.reduceBEq, Nat.reduceBNe, Nat.reduceMod, Nat.reduceDiv, Int.reduceLE, Int.reduceLT, Int.reduceToNat, Int.reduceAdd, Int.reduceSub, Int.reduceMul, Int.reduceNeg, Int.reduceEq, Int.reduceBEq, Int.reduceBNe, ↓reduceIte, reduceCtorEq, String.reduceBNe, String.reduceEq, reduceDIte, Nat.reducePow, hrow, lk_old hrow, hcl, hoz, setD_cat, ↓alloc30, ↓alloc33, Int.le_refl, Nat.le_refl, c1, c2, c3, hc, hol, hov, hos, hot, o0, o1, o2, o3, o4, hbl, hbv, hbt, gls, gll, glt, hkk, d1, d2, h60, hkn, k0, k1, k2, hwi]
        exact Weak.to (extra := [_]) (by simp only [Keeps, Tm.get_cons, Nat.reduceEqDiff, ↓reduceIte, if_true, if_false, ite_true, ite_false, true_and, and_true, and_self, reduceCtorEq, hwi]) (by first | rfl | (simp only [List.append_assoc, List.cons_append, List.nil_append]; rfl)) (by first | rfl | (simp [AV.below, CV.below]; done) | (simp [AV.below, CV.below]; omega)) (dr_wf hwf _ (MWf_cons (u8l_below _ _) (MWf_cons (u8l_below _ _) MWf_nil)))
      · have k0 : (kd i == 0) = false := by rw [hk]; rfl
        have k1 : (kd i == 1) = false := by rw [hk]; rfl
        have k2 : (kd i == 2) = true := by rw [hk]; rfl
        iterate 2
          refine AW.region (by decide) ?_
          simp only [push_cast, Nat.reduceAdd, Nat.reduceMul, Nat.reduceSub, Nat.reduceLeDiff, Nat.reduceLT, Nat.reduceEqDiff, Nat.reduceBEq, Nat.reduceBNe, Nat.reduceMod, Nat.reduceDiv, Int.reduceLE, Int.reduceLT, Int.reduceToNat, Int.reduceAdd, Int.reduceSub, Int.reduceMul, Int.reduceNeg, Int.reduceEq, Int.reduceBEq, Int.reduceBNe, ↓reduceIte, reduceCtorEq, String.reduceBNe, String.reduceEq, reduceDIte, Nat.reducePow, hrow, lk_old hrow, hcl, hoz, setD_cat, ↓alloc30, ↓alloc33, Int.le_refl, Nat.le_refl, c1, c2, c3, hc, hol, hov, hos, hot, o0, o1, o2, o3, o4, hbl, hbv, hbt, gls, gll, glt, hkk, d1, d2, h60, hkn, k0, k1, k2, fuD_S, fuD_E]
          refine Thn_n ?_
          refine hK _ _ ?_
          clear hK K
          refine AW.cond_f rfl ?_
          refine AW.seq_k fun K hK => ?_
        refine AW.region (by decide) ?_
        simp only [push_cast, Nat.reduceAdd, Nat.reduceMul, Nat.reduceSub, Nat.reduceLeDiff, Nat.reduceLT, Nat.reduceEqDiff, Nat.reduceBEq, Nat.reduceBNe, Nat.reduceMod, Nat.reduceDiv, Int.reduceLE, Int.reduceLT, Int.reduceToNat, Int.reduceAdd, Int.reduceSub, Int.reduceMul, Int.reduceNeg, Int.reduceEq, Int.reduceBEq, Int.reduceBNe, ↓reduceIte, reduceCtorEq, String.reduceBNe, String.reduceEq, reduceDIte, Nat.reducePow, hrow, lk_old hrow, hcl, hoz, setD_cat, ↓alloc30, ↓alloc33, Int.le_refl, Nat.le_refl, c1, c2, c3, hc, hol, hov, hos, hot, o0, o1, o2, o3, o4, hbl, hbv, hbt, gls, gll, glt, hkk, d1, d2, h60, hkn, k0, k1, k2, fuD_S, fuD_E]
        refine Thn_n ?_
        refine hK _ _ ?_
        clear hK K
        refine AW.cond_t rfl ?_
        refine AW.region (by decide) ?_
        simp only [push_cast, Nat.reduceAdd, Nat.reduceMul, Nat.reduceSub, Nat.reduceLeDiff, Nat.reduceLT, Nat.reduceEqDiff, Nat.reduceBEq, Nat.reduceBNe, Nat.reduceMod, Nat.reduceDiv, Int.reduceLE, Int.reduceLT, Int.reduceToNat, Int.reduceAdd, Int.reduceSub, Int.reduceMul, Int.reduceNeg, Int.reduceEq, Int.reduceBEq, Int.reduceBNe, ↓reduceIte, reduceCtorEq, String.reduceBNe, String.reduceEq, reduceDIte, Nat.reducePow, hrow, lk_old hrow, hcl, hoz, setD_cat, ↓alloc30, ↓alloc33, Int.le_refl, Nat.le_refl, c1, c2, c3, hc, hol, hov, hos, hot, o0, o1, o2, o3, o4, hbl, hbv, hbt, gls, gll, glt, hkk, d1, d2, h60, hkn, k0, k1, k2, fuD_S, fuD_E]
        refine CThen.by (fu_ok (m.length + 2) m.length (m.length + 1) 6 D (nx i) _ hasD_cat hd) ?_
        simp only [push_cast, Nat.reduceAdd, Nat.reduceMul, Nat.reduceSub, Nat.reduceLeDiff, Nat.reduceLT, Nat.reduceEqDiff, Nat.reduceBEq, Nat.reduceBNe, Nat.reduceMod, Nat.reduceDiv, Int.reduceLE, Int.reduceLT, Int.reduceToNat, Int.reduceAdd, Int.reduceSub, Int.reduceMul, Int.reduceNeg, Int.reduceEq, Int.reduceBEq, Int.reduceBNe, ↓reduceIte, reduceCtorEq, String.reduceBNe, String.reduceEq, reduceDIte, Nat.reducePow, hrow, lk_old hrow, hcl, hoz, setD_cat, ↓alloc30, ↓alloc33, Int.le_refl, Nat.le_refl, c1, c2, c3, hc, hol, hov, hos, hot, o0, o1, o2, o3, o4, hbl, hbv, hbt, gls, gll, glt, hkk, d1, d2, h60, hkn, k0, k1, k2, fuD_S, fuD_E]
        refine InB_n ?_
        refine InB_n ?_
        refine Thn_n ?_
        refine hK _ _ ?_
        clear hK K
        refine AW.region (by decide) ?_
        simp only [push_cast, Nat.reduceAdd, Nat.reduceMul, Nat.reduceSub, Nat.reduceLeDiff, Nat.reduceLT, Nat.reduceEqDiff, Nat.reduceBEq, Nat.reduceBNe, Nat.reduceMod, Nat.reduceDiv, Int.reduceLE, Int.reduceLT, Int.reduceToNat, Int.reduceAdd, Int.reduceSub, Int.reduceMul, Int.reduceNeg, Int.reduceEq, Int.reduceBEq, Int.reduceBNe, ↓reduceIte, reduceCtorEq, String.reduceBNe, String.reduceEq, reduceDIte, Nat.reducePow, hrow, lk_old hrow, hcl, hoz, setD_cat, ↓alloc30, ↓alloc33, Int.le_refl, Nat.le_refl, c1, c2, c3, hc, hol, hov, hos, hot, o0, o1, o2, o3, o4, hbl, hbv, hbt, gls, gll, glt, hkk, d1, d2, h60, hkn, k0, k1, k2, fuD_S, fuD_E]
        refine Thn_n ?_
        have hwi : IntKind.i64.wrap ((i:Int)+1) = (i:Int)+1 := wi (by omega)
        refine ⟨((i + 1, fuD D (nx i)) : Nat × DS), ⟨by show i + 1 ≤ n; omega, by show i + 1 ≤ 60; omega, fuD_wf hwd (nx i)⟩, by show n - (i + 1) < n - i; omega, ?_⟩
        try simp only [keepL, setAll, push_cast, Nat.reduceAdd, Nat.reduceMul, Nat.reduceSub, Nat.reduceLeDiff, Nat.reduceLT, Nat.reduceEqDiff, Nat.reduceBEq, Nat.reduceBNe, Nat.reduceMod, Nat.reduceDiv, Int.reduceLE, Int.reduceLT, Int.reduceToNat, Int.reduceAdd, Int.reduceSub, Int.reduceMul, Int.reduceNeg, Int.reduceEq, Int.reduceBEq, Int.reduceBNe, ↓reduceIte, reduceCtorEq, String.reduceBNe, String.reduceEq, reduceDIte, Nat.reducePow, hrow, lk_old hrow, hcl, hoz, setD_cat, ↓alloc30, ↓alloc33, Int.le_refl, Nat.le_refl, c1, c2, c3, hc, hol, hov, hos, hot, o0, o1, o2, o3, o4, hbl, hbv, hbt, gls, gll, glt, hkk, d1, d2, h60, hkn, k0, k1, k2, fuD_S, fuD_E, hwi]
        exact Weak.to (extra := [_]) (by simp only [Keeps, Tm.get_cons, Nat.reduceEqDiff, ↓reduceIte, if_true, if_false, ite_true, ite_false, true_and, and_true, and_self, reduceCtorEq, hwi]) (by first | rfl | (simp only [List.append_assoc, List.cons_append, List.nil_append]; rfl)) (by first | rfl | (simp [AV.below, CV.below]; done) | (simp [AV.below, CV.below]; omega)) (dr_wf hwf _ (MWf_cons (u8l_below _ _) (MWf_cons (u8l_below _ _) MWf_nil)))
      · have k0 : (kd i == 0) = false := by rw [hk]; rfl
        have k1 : (kd i == 1) = false := by rw [hk]; rfl
        have k2 : (kd i == 2) = false := by rw [hk]; rfl
        have k3 : (kd i == 3) = true := by rw [hk]; rfl
        obtain ⟨S1, hS1⟩ : ∃ S1, S1 = crF D.S D.E (ks i) (kn i) := ⟨_, rfl⟩
        have hcS : (crD D (ks i) (kn i)).S = S1 := hS1.symm
        have hcV : vis (crD D (ks i) (kn i)).S (crD D (ks i) (kn i)).E = S1 := hS1.symm
        have hcd : (crD D (ks i) (kn i)).down = false := rfl
        have hwc := crD_wf hwd (ks i) (kn i)
        have hS1l : L128 S1 := by rw [hS1]; exact hwc.s
        have hvl := vis_len hwd.s hwd.e
        have hor : ∀ k, S1 k = D.S k ∨ S1 k = vis D.S D.E k := fun k => by rw [hS1]; exact crF_or hwd.e (ks i) k (kn i)
        have hlkn : m[rk i]? = some ⟨.ro, 3, 0, 1, il (kn i) (ks i)⟩ := hops.keep i hlt
        have hmxa := mixK_all S1 D.S 6
        have hmxb := mixK_all S1 (vis D.S D.E) 6
        iterate 3
          refine AW.region (by decide) ?_
          simp only [push_cast, Nat.reduceAdd, Nat.reduceMul, Nat.reduceSub, Nat.reduceLeDiff, Nat.reduceLT, Nat.reduceEqDiff, Nat.reduceBEq, Nat.reduceBNe, Nat.reduceMod, Nat.reduceDiv, Int.reduceLE, Int.reduceLT, Int.reduceToNat, Int.reduceAdd, Int.reduceSub, Int.reduceMul, Int.reduceNeg, Int.reduceEq, Int.reduceBEq, Int.reduceBNe, ↓reduceIte, reduceCtorEq, String.reduceBNe, String.reduceEq, reduceDIte, Nat.reducePow, hrow, lk_old hrow, hcl, hoz, setD_cat, ↓alloc30, ↓alloc33, Int.le_refl, Nat.le_refl, c1, c2, c3, hc, hol, hov, hos, hot, o0, o1, o2, o3, o4, hbl, hbv, hbt, gls, gll, glt, hkk, d1, d2, h60, hkn, k0, k1, k2, k3, hcS, crD_vis2, hmxa, hmxb]
          refine Thn_n ?_
          refine hK _ _ ?_
          clear hK K
          refine AW.cond_f rfl ?_
          refine AW.seq_k fun K hK => ?_
        refine AW.region (by decide) ?_
        simp only [push_cast, Nat.reduceAdd, Nat.reduceMul, Nat.reduceSub, Nat.reduceLeDiff, Nat.reduceLT, Nat.reduceEqDiff, Nat.reduceBEq, Nat.reduceBNe, Nat.reduceMod, Nat.reduceDiv, Int.reduceLE, Int.reduceLT, Int.reduceToNat, Int.reduceAdd, Int.reduceSub, Int.reduceMul, Int.reduceNeg, Int.reduceEq, Int.reduceBEq, Int.reduceBNe, ↓reduceIte, reduceCtorEq, String.reduceBNe, String.reduceEq, reduceDIte, Nat.reducePow, hrow, lk_old hrow, hcl, hoz, setD_cat, ↓alloc30, ↓alloc33, Int.le_refl, Nat.le_refl, c1, c2, c3, hc, hol, hov, hos, hot, o0, o1, o2, o3, o4, hbl, hbv, hbt, gls, gll, glt, hkk, d1, d2, h60, hkn, k0, k1, k2, k3, hcS, crD_vis2, hmxa, hmxb]
        refine Thn_n ?_
        refine hK _ _ ?_
        clear hK K
        refine AW.cond_t rfl ?_
        refine AW.seq_k fun K hK => ?_
        refine AW.region (by decide) ?_
        simp only [push_cast, Nat.reduceAdd, Nat.reduceMul, Nat.reduceSub, Nat.reduceLeDiff, Nat.reduceLT, Nat.reduceEqDiff, Nat.reduceBEq, Nat.reduceBNe, Nat.reduceMod, Nat.reduceDiv, Int.reduceLE, Int.reduceLT, Int.reduceToNat, Int.reduceAdd, Int.reduceSub, Int.reduceMul, Int.reduceNeg, Int.reduceEq, Int.reduceBEq, Int.reduceBNe, ↓reduceIte, reduceCtorEq, String.reduceBNe, String.reduceEq, reduceDIte, Nat.reducePow, hrow, lk_old hrow, hcl, hoz, setD_cat, ↓alloc30, ↓alloc33, Int.le_refl, Nat.le_refl, c1, c2, c3, hc, hol, hov, hos, hot, o0, o1, o2, o3, o4, hbl, hbv, hbt, gls, gll, glt, hkk, d1, d2, h60, hkn, k0, k1, k2, k3, hcS, crD_vis2, hmxa, hmxb]
        refine CThen.by (cr_c (m.length + 2) m.length (m.length + 1) 6 D (rk i) 0 (kn i) (ks i) .ro 1 _ hasD_cat hwd (lk_old hlkn _) (Or.inl rfl) (Nat.ne_of_lt (get_lt hlkn)) (by omega)) ?_
        simp only [push_cast, Nat.reduceAdd, Nat.reduceMul, Nat.reduceSub, Nat.reduceLeDiff, Nat.reduceLT, Nat.reduceEqDiff, Nat.reduceBEq, Nat.reduceBNe, Nat.reduceMod, Nat.reduceDiv, Int.reduceLE, Int.reduceLT, Int.reduceToNat, Int.reduceAdd, Int.reduceSub, Int.reduceMul, Int.reduceNeg, Int.reduceEq, Int.reduceBEq, Int.reduceBNe, ↓reduceIte, reduceCtorEq, String.reduceBNe, String.reduceEq, reduceDIte, Nat.reducePow, hrow, lk_old hrow, hcl, hoz, setD_cat, ↓alloc30, ↓alloc33, Int.le_refl, Nat.le_refl, c1, c2, c3, hc, hol, hov, hos, hot, o0, o1, o2, o3, o4, hbl, hbv, hbt, gls, gll, glt, hkk, d1, d2, h60, hkn, k0, k1, k2, k3, hcS, crD_vis2, hmxa, hmxb]
        refine Thn_n ?_
        refine hK _ _ ?_
        clear hK K
        refine AW.seq_k fun K hK => ?_
        refine AW.region (by decide) ?_
        simp only [push_cast, Nat.reduceAdd, Nat.reduceMul, Nat.reduceSub, Nat.reduceLeDiff, Nat.reduceLT, Nat.reduceEqDiff, Nat.reduceBEq, Nat.reduceBNe, Nat.reduceMod, Nat.reduceDiv, Int.reduceLE, Int.reduceLT, Int.reduceToNat, Int.reduceAdd, Int.reduceSub, Int.reduceMul, Int.reduceNeg, Int.reduceEq, Int.reduceBEq, Int.reduceBNe, ↓reduceIte, reduceCtorEq, String.reduceBNe, String.reduceEq, reduceDIte, Nat.reducePow, hrow, lk_old hrow, hcl, hoz, setD_cat, ↓alloc30, ↓alloc33, Int.le_refl, Nat.le_refl, c1, c2, c3, hc, hol, hov, hos, hot, o0, o1, o2, o3, o4, hbl, hbv, hbt, gls, gll, glt, hkk, d1, d2, h60, hkn, k0, k1, k2, k3, hcS, crD_vis2, hmxa, hmxb]
        refine Thn_n ?_
        refine hK _ _ ?_
        clear hK K
        refine AW.block ?_
        refine AW.loopK [3, 5, 6, 23, 24, 25] (fun k => k ≤ (6 : Nat)) (fun k => [(75, .one (.int .i64 (k : Int)))]) (fun k => [(m.length + 3, ⟨.fix, 30, 0, 0, u8l (catB 6 (mixK S1 D.S k))⟩), (m.length + 4, ⟨.fix, 30, 0, 0, u8l (catB 6 (mixK S1 (vis D.S D.E) k))⟩)]) (fun k => 6 - k) 0 (by omega) ?_ ?_ fun k hi38 => ?_
        · first | rfl | (simp only [Keeps, Tm.get_cons, Nat.reduceEqDiff, ↓reduceIte, if_true, if_false, ite_true, ite_false, true_and, and_true, and_self, reduceCtorEq, mixK_0, Int.natCast_zero] <;> rfl)
        · first | rfl | (simp only [setAll, push_cast, Nat.reduceAdd, Nat.reduceMul, Nat.reduceSub, Nat.reduceLeDiff, Nat.reduceLT, Nat.reduceEqDiff, Nat.reduceBEq, Nat.reduceBNe, Nat.reduceMod, Nat.reduceDiv, Int.reduceLE, Int.reduceLT, Int.reduceToNat, Int.reduceAdd, Int.reduceSub, Int.reduceMul, Int.reduceNeg, Int.reduceEq, Int.reduceBEq, Int.reduceBNe, ↓reduceIte, reduceCtorEq, String.reduceBNe, String.reduceEq, reduceDIte, Nat.reducePow, hrow, lk_old hrow, hcl, hoz, setD_cat, ↓alloc30, ↓alloc33, Int.le_refl, Nat.le_refl, c1, c2, c3, hc, hol, hov, hos, hot, o0, o1, o2, o3, o4, hbl, hbv, hbt, gls, gll, glt, hkk, d1, d2, h60, hkn, k0, k1, k2, k3, hcS, crD_vis2, hmxa, hmxb, mixK_0, Int.natCast_zero] <;> rfl)
        have hk6x : k ≤ 6 := hi38
        try simp only [keepL, setAll, push_cast, Nat.reduceAdd, Nat.reduceMul, Nat.reduceSub, Nat.reduceLeDiff, Nat.reduceLT, Nat.reduceEqDiff, Nat.reduceBEq, Nat.reduceBNe, Nat.reduceMod, Nat.reduceDiv, Int.reduceLE, Int.reduceLT, Int.reduceToNat, Int.reduceAdd, Int.reduceSub, Int.reduceMul, Int.reduceNeg, Int.reduceEq, Int.reduceBEq, Int.reduceBNe, ↓reduceIte, reduceCtorEq, String.reduceBNe, String.reduceEq, reduceDIte, Nat.reducePow, hrow, lk_old hrow, hcl, hoz, setD_cat, ↓alloc30, ↓alloc33, Int.le_refl, Nat.le_refl, c1, c2, c3, hc, hol, hov, hos, hot, o0, o1, o2, o3, o4, hbl, hbv, hbt, gls, gll, glt, hkk, d1, d2, h60, hkn, k0, k1, k2, k3, hcS, crD_vis2, hmxa, hmxb]
        refine AW.seq_k fun K hK => ?_
        refine AW.region (by decide) ?_
        simp only [push_cast, Nat.reduceAdd, Nat.reduceMul, Nat.reduceSub, Nat.reduceLeDiff, Nat.reduceLT, Nat.reduceEqDiff, Nat.reduceBEq, Nat.reduceBNe, Nat.reduceMod, Nat.reduceDiv, Int.reduceLE, Int.reduceLT, Int.reduceToNat, Int.reduceAdd, Int.reduceSub, Int.reduceMul, Int.reduceNeg, Int.reduceEq, Int.reduceBEq, Int.reduceBNe, ↓reduceIte, reduceCtorEq, String.reduceBNe, String.reduceEq, reduceDIte, Nat.reducePow, hrow, lk_old hrow, hcl, hoz, setD_cat, ↓alloc30, ↓alloc33, Int.le_refl, Nat.le_refl, c1, c2, c3, hc, hol, hov, hos, hot, o0, o1, o2, o3, o4, hbl, hbv, hbt, gls, gll, glt, hkk, d1, d2, h60, hkn, k0, k1, k2, k3, hcS, crD_vis2, hmxa, hmxb]
        refine Thn_n ?_
        refine hK _ _ ?_
        clear hK K
        refine AW.seq_k fun K hK => ?_
        refine AW.cond rfl (fun h76 => ?_) (fun h76 => ?_)
        · have hk6 : k < 6 := by have := of_decide_eq_true h76; omega
          have d1 : (0 : Int) ≤ (k : Int) := by omega
          have d2 : (k : Int) < 6 := by omega
          have d3 : k * 128 + 128 ≤ 768 := by omega
          have ga := catB_at (mixK_len hS1l hwd.s k) hk6
          rw [mixK_at] at ga
          have gb := catB_at (mixK_len hS1l hvl k) hk6
          rw [mixK_at] at gb
          have gla : (u8l (catB 6 (mixK S1 D.S k))).length = 768 := by rw [u8l_len, catB_len (mixK_len hS1l hwd.s k)]
          have glb : (u8l (catB 6 (mixK S1 (vis D.S D.E) k))).length = 768 := by rw [u8l_len, catB_len (mixK_len hS1l hvl k)]
          have gs1 : (u8l (S1 k)).length = 128 := by rw [u8l_len, hS1l k]
          have gs2 : (u8l (S1 k)).take 128 = u8l (S1 k) := List.take_of_length_le (by omega)
          have gs3 := u8l_vals (S1 k)
          have gs4 : setL [.int .u8 0, .int .u8 0, .int .u8 0, .int .u8 0, .int .u8 0, .int .u8 0, .int .u8 0, .int .u8 0, .int .u8 0, .int .u8 0, .int .u8 0, .int .u8 0, .int .u8 0, .int .u8 0, .int .u8 0, .int .u8 0, .int .u8 0, .int .u8 0, .int .u8 0, .int .u8 0, .int .u8 0, .int .u8 0, .int .u8 0, .int .u8 0, .int .u8 0, .int .u8 0, .int .u8 0, .int .u8 0, .int .u8 0, .int .u8 0, .int .u8 0, .int .u8 0, .int .u8 0, .int .u8 0, .int .u8 0, .int .u8 0, .int .u8 0, .int .u8 0, .int .u8 0, .int .u8 0, .int .u8 0, .int .u8 0, .int .u8 0, .int .u8 0, .int .u8 0, .int .u8 0, .int .u8 0, .int .u8 0, .int .u8 0, .int .u8 0, .int .u8 0, .int .u8 0, .int .u8 0, .int .u8 0, .int .u8 0, .int .u8 0, .int .u8 0, .int .u8 0, .int .u8 0, .int .u8 0, .int .u8 0, .int .u8 0, .int .u8 0, .int .u8 0, .int .u8 0, .int .u8 0, .int .u8 0, .int .u8 0, .int .u8 0, .int .u8 0, .int .u8 0, .int .u8 0, .int .u8 0, .int .u8 0, .int .u8 0, .int .u8 0, .int .u8 0, .int .u8 0, .int .u8 0, .int .u8 0, .int .u8 0, .int .u8 0, .int .u8 0, .int .u8 0, .int .u8 0, .int .u8 0, .int .u8 0, .int .u8 0, .int .u8 0, .int .u8 0, .int .u8 0, .int .u8 0, .int .u8 0, .int .u8 0, .int .u8 0, .int .u8 0, .int .u8 0, .int .u8 0, .int .u8 0, .int .u8 0, .int .u8 0, .int .u8 0, .int .u8 0, .int .u8 0, .int .u8 0, .int .u8 0, .int .u8 0, .int .u8 0, .int .u8 0, .int .u8 0, .int .u8 0, .int .u8 0, .int .u8 0, .int .u8 0, .int .u8 0, .int .u8 0, .int .u8 0, .int .u8 0, .int .u8 0, .int .u8 0, .int .u8 0, .int .u8 0, .int .u8 0, .int .u8 0, .int .u8 0, .int .u8 0, .int .u8 0, .int .u8 0] 0 (u8l (S1 k)) = u8l (S1 k) := setL_all (by rw [gs1]; rfl)
          have gs5 : setL (u8l zB) 0 (u8l (S1 k)) = u8l (S1 k) := setL_all (by rw [gs1]; rfl)
          have gua := catB_set (mixK_len hS1l hwd.s k) hk6 (hS1l k)
          rw [mixK_set] at gua
          have gub := catB_set (mixK_len hS1l hvl k) hk6 (hS1l k)
          rw [mixK_set] at gub
          have gd1 : (u8l (D.S k)).length = 128 := by rw [u8l_len, hwd.s k]
          have gd2 : (u8l (vis D.S D.E k)).length = 128 := by rw [u8l_len, hvl k]
          refine AW.skip ?_
          refine Thn_n ?_
          refine hK _ _ ?_
          clear hK K
          refine AW.seq_k fun K hK => ?_
          refine AW.block ?_
          refine AW.seq_k fun K hK => ?_
          refine AW.region (by decide) ?_
          simp only [push_cast, Nat.reduceAdd, Nat.reduceMul, Nat.reduceSub, Nat.reduceLeDiff, Nat.reduceLT, Nat.reduceEqDiff, Nat.reduceBEq, Nat.reduceBNe, Nat.reduceMod, Nat.reduceDiv, Int.reduceLE, Int.reduceLT, Int.reduceToNat, Int.reduceAdd, Int.reduceSub, Int.reduceMul, Int.reduceNeg, Int.reduceEq, Int.reduceBEq, Int.reduceBNe, ↓reduceIte, reduceCtorEq, String.reduceBNe, String.reduceEq, reduceDIte, Nat.reducePow, hrow, lk_old hrow, hcl, hoz, setD_cat, ↓alloc30, ↓alloc33, Int.le_refl, Nat.le_refl, c1, c2, c3, hc, hol, hov, hos, hot, o0, o1, o2, o3, o4, hbl, hbv, hbt, gls, gll, glt, hkk, d1, d2, h60, hkn, k0, k1, k2, k3, hcS, crD_vis2, hmxa, hmxb, d1, d2, d3, ga, gb, gla, glb, gs1, gs2, gs3, gs4, gs5, gua, gub, gd1, gd2]
          refine Thn_n ?_
          refine hK _ _ ?_
          clear hK K
          refine AW.seq_k fun K hK => ?_
          refine AW.region (by decide) ?_
          simp only [push_cast, Nat.reduceAdd, Nat.reduceMul, Nat.reduceSub, Nat.reduceLeDiff, Nat.reduceLT, Nat.reduceEqDiff, Nat.reduceBEq, Nat.reduceBNe, Nat.reduceMod, Nat.reduceDiv, Int.reduceLE, Int.reduceLT, Int.reduceToNat, Int.reduceAdd, Int.reduceSub, Int.reduceMul, Int.reduceNeg, Int.reduceEq, Int.reduceBEq, Int.reduceBNe, ↓reduceIte, reduceCtorEq, String.reduceBNe, String.reduceEq, reduceDIte, Nat.reducePow, hrow, lk_old hrow, hcl, hoz, setD_cat, ↓alloc30, ↓alloc33, Int.le_refl, Nat.le_refl, c1, c2, c3, hc, hol, hov, hos, hot, o0, o1, o2, o3, o4, hbl, hbv, hbt, gls, gll, glt, hkk, d1, d2, h60, hkn, k0, k1, k2, k3, hcS, crD_vis2, hmxa, hmxb, d1, d2, d3, ga, gb, gla, glb, gs1, gs2, gs3, gs4, gs5, gua, gub, gd1, gd2]
          refine CThen.by (rd_ok (m.length + 2) m.length (m.length + 1) 6 k (crD D (ks i) (kn i)) _ hasD_cat hwc hcd hk6) ?_
          simp only [push_cast, Nat.reduceAdd, Nat.reduceMul, Nat.reduceSub, Nat.reduceLeDiff, Nat.reduceLT, Nat.reduceEqDiff, Nat.reduceBEq, Nat.reduceBNe, Nat.reduceMod, Nat.reduceDiv, Int.reduceLE, Int.reduceLT, Int.reduceToNat, Int.reduceAdd, Int.reduceSub, Int.reduceMul, Int.reduceNeg, Int.reduceEq, Int.reduceBEq, Int.reduceBNe, ↓reduceIte, reduceCtorEq, String.reduceBNe, String.reduceEq, reduceDIte, Nat.reducePow, hrow, lk_old hrow, hcl, hoz, setD_cat, ↓alloc30, ↓alloc33, Int.le_refl, Nat.le_refl, c1, c2, c3, hc, hol, hov, hos, hot, o0, o1, o2, o3, o4, hbl, hbv, hbt, gls, gll, glt, hkk, d1, d2, h60, hkn, k0, k1, k2, k3, hcS, crD_vis2, hmxa, hmxb, d1, d2, d3, ga, gb, gla, glb, gs1, gs2, gs3, gs4, gs5, gua, gub, gd1, gd2]
          refine Thn_n ?_
          refine hK _ _ ?_
          clear hK K
          refine AW.seq_k fun K hK => ?_
          refine AW.seq_k fun K hK => ?_
          rcases Classical.em (S1 k = D.S k) with heq | heq
          · have q1 := eqp128 (hS1l k) (hwd.s k)
            rw [decide_eq_true heq] at q1
            refine AW.draw [.val, .val, .val, .rd 0, .val, .val, .rd 0, .val, .val, .rd 0, .val, .val, .rd 0, .val, .val, .val] fol (by decide) (by kernel_rfl) ?_
            simp only [push_cast, Nat.reduceAdd, Nat.reduceMul, Nat.reduceSub, Nat.reduceLeDiff, Nat.reduceLT, Nat.reduceEqDiff, Nat.reduceBEq, Nat.reduceBNe, Nat.reduceMod, Nat.reduceDiv, Int.reduceLE, Int.reduceLT, Int.reduceToNat, Int.reduceAdd, Int.reduceSub, Int.reduceMul, Int.reduceNeg, Int.reduceEq, Int.reduceBEq, Int.reduceBNe, ↓reduceIte, reduceCtorEq, String.reduceBNe, String.reduceEq, reduceDIte, Nat.reducePow, hrow, lk_old hrow, hcl, hoz, setD_cat, ↓alloc30, ↓alloc33, Int.le_refl, Nat.le_refl, c1, c2, c3, hc, hol, hov, hos, hot, o0, o1, o2, o3, o4, hbl, hbv, hbt, gls, gll, glt, hkk, d1, d2, h60, hkn, k0, k1, k2, k3, hcS, crD_vis2, hmxa, hmxb, d1, d2, d3, ga, gb, gla, glb, gs1, gs2, gs3, gs4, gs5, gua, gub, gd1, gd2, q1]
            refine Thn_n ?_
            refine hK _ _ ?_
            clear hK K
            refine AW.cond_f rfl ?_
            refine AW.skip ?_
            refine Thn_n ?_
            refine hK _ _ ?_
            clear hK K
            refine AW.draw [.val, .val, .rd 0, .rw 0, .val, .wr, .val, .wr] fol (by decide) (by kernel_rfl) ?_
            simp only [push_cast, Nat.reduceAdd, Nat.reduceMul, Nat.reduceSub, Nat.reduceLeDiff, Nat.reduceLT, Nat.reduceEqDiff, Nat.reduceBEq, Nat.reduceBNe, Nat.reduceMod, Nat.reduceDiv, Int.reduceLE, Int.reduceLT, Int.reduceToNat, Int.reduceAdd, Int.reduceSub, Int.reduceMul, Int.reduceNeg, Int.reduceEq, Int.reduceBEq, Int.reduceBNe, ↓reduceIte, reduceCtorEq, String.reduceBNe, String.reduceEq, reduceDIte, Nat.reducePow, hrow, lk_old hrow, hcl, hoz, setD_cat, ↓alloc30, ↓alloc33, Int.le_refl, Nat.le_refl, c1, c2, c3, hc, hol, hov, hos, hot, o0, o1, o2, o3, o4, hbl, hbv, hbt, gls, gll, glt, hkk, d1, d2, h60, hkn, k0, k1, k2, k3, hcS, crD_vis2, hmxa, hmxb, d1, d2, d3, ga, gb, gla, glb, gs1, gs2, gs3, gs4, gs5, gua, gub, gd1, gd2, q1]
            refine AOpsD_end (by simp only [watchS, allAt, push_cast, Nat.reduceAdd, Nat.reduceMul, Nat.reduceSub, Nat.reduceLeDiff, Nat.reduceLT, Nat.reduceEqDiff, Nat.reduceBEq, Nat.reduceBNe, Nat.reduceMod, Nat.reduceDiv, Int.reduceLE, Int.reduceLT, Int.reduceToNat, Int.reduceAdd, Int.reduceSub, Int.reduceMul, Int.reduceNeg, Int.reduceEq, Int.reduceBEq, Int.reduceBNe, ↓reduceIte, reduceCtorEq, String.reduceBNe, String.reduceEq, reduceDIte, Nat.reducePow, hrow, lk_old hrow, hcl, hoz, setD_cat, ↓alloc30, ↓alloc33, Int.le_refl, Nat.le_refl, c1, c2, c3, hc, hol, hov, hos, hot, o0, o1, o2, o3, o4, hbl, hbv, hbt, gls, gll, glt, hkk, d1, d2, h60, hkn, k0, k1, k2, k3, hcS, crD_vis2, hmxa, hmxb, d1, d2, d3, ga, gb, gla, glb, gs1, gs2, gs3, gs4, gs5, gua, gub, gd1, gd2, q1]) ?_
            refine InB_n ?_
            refine Thn_n ?_
            refine hK _ _ ?_
            clear hK K
            refine AW.region (by decide) ?_
            simp only [push_cast, Nat.reduceAdd, Nat.reduceMul, Nat.reduceSub, Nat.reduceLeDiff, Nat.reduceLT, Nat.reduceEqDiff, Nat.reduceBEq, Nat.reduceBNe, Nat.reduceMod, Nat.reduceDiv, Int.reduceLE, Int.reduceLT, Int.reduceToNat, Int.reduceAdd, Int.reduceSub, Int.reduceMul, Int.reduceNeg, Int.reduceEq, Int.reduceBEq, Int.reduceBNe, ↓reduceIte, reduceCtorEq, String.reduceBNe, String.reduceEq, reduceDIte, Nat.reducePow, hrow, lk_old hrow, hcl, hoz, setD_cat, ↓alloc30, ↓alloc33, Int.le_refl, Nat.le_refl, c1, c2, c3, hc, hol, hov, hos, hot, o0, o1, o2, o3, o4, hbl, hbv, hbt, gls, gll, glt, hkk, d1, d2, h60, hkn, k0, k1, k2, k3, hcS, crD_vis2, hmxa, hmxb, d1, d2, d3, ga, gb, gla, glb, gs1, gs2, gs3, gs4, gs5, gua, gub, gd1, gd2, q1]
            refine Thn_n ?_
            have hwk : IntKind.i64.wrap ((k:Int)+1) = (k:Int)+1 := wi (by omega)
            refine ⟨k + 1, hk6, by omega, ?_⟩
            try simp only [keepL, setAll, push_cast, Nat.reduceAdd, Nat.reduceMul, Nat.reduceSub, Nat.reduceLeDiff, Nat.reduceLT, Nat.reduceEqDiff, Nat.reduceBEq, Nat.reduceBNe, Nat.reduceMod, Nat.reduceDiv, Int.reduceLE, Int.reduceLT, Int.reduceToNat, Int.reduceAdd, Int.reduceSub, Int.reduceMul, Int.reduceNeg, Int.reduceEq, Int.reduceBEq, Int.reduceBNe, ↓reduceIte, reduceCtorEq, String.reduceBNe, String.reduceEq, reduceDIte, Nat.reducePow, hrow, lk_old hrow, hcl, hoz, setD_cat, ↓alloc30, ↓alloc33, Int.le_refl, Nat.le_refl, c1, c2, c3, hc, hol, hov, hos, hot, o0, o1, o2, o3, o4, hbl, hbv, hbt, gls, gll, glt, hkk, d1, d2, h60, hkn, k0, k1, k2, k3, hcS, crD_vis2, hmxa, hmxb, d1, d2, d3, ga, gb, gla, glb, gs1, gs2, gs3, gs4, gs5, gua, gub, gd1, gd2, q1, hwk]
            exact Weak.to (extra := [_]) (by simp only [Keeps, Tm.get_cons, Nat.reduceEqDiff, ↓reduceIte, if_true, if_false, ite_true, ite_false, true_and, and_true, and_self, reduceCtorEq, hwk]) (by first | rfl | (simp only [List.append_assoc, List.cons_append, List.nil_append]; rfl)) (by first | rfl | (simp [AV.below, CV.below, u8l_below]; done) | (simp [AV.below, CV.below, u8l_below]; omega)) (dr_wf hwf _ (MWf_cons (u8l_below _ _) (MWf_cons (u8l_below _ _) (MWf_cons (opC_below (by have := get_lt hlkn; omega)) MWf_nil))))
          · have q1 := eqp128 (hS1l k) (hwd.s k)
            rw [decide_eq_false heq] at q1
            have heq2 := (hor k).resolve_left heq
            have q2 := eqp128 (hS1l k) (hvl k)
            rw [decide_eq_true heq2] at q2
            refine AW.draw [.val, .val, .val, .rd 0, .val, .val, .rd 0, .val, .val, .rd 0, .val, .val, .rd 0, .val, .val, .val] fol (by decide) (by kernel_rfl) ?_
            simp only [push_cast, Nat.reduceAdd, Nat.reduceMul, Nat.reduceSub, Nat.reduceLeDiff, Nat.reduceLT, Nat.reduceEqDiff, Nat.reduceBEq, Nat.reduceBNe, Nat.reduceMod, Nat.reduceDiv, Int.reduceLE, Int.reduceLT, Int.reduceToNat, Int.reduceAdd, Int.reduceSub, Int.reduceMul, Int.reduceNeg, Int.reduceEq, Int.reduceBEq, Int.reduceBNe, ↓reduceIte, reduceCtorEq, String.reduceBNe, String.reduceEq, reduceDIte, Nat.reducePow, hrow, lk_old hrow, hcl, hoz, setD_cat, ↓alloc30, ↓alloc33, Int.le_refl, Nat.le_refl, c1, c2, c3, hc, hol, hov, hos, hot, o0, o1, o2, o3, o4, hbl, hbv, hbt, gls, gll, glt, hkk, d1, d2, h60, hkn, k0, k1, k2, k3, hcS, crD_vis2, hmxa, hmxb, d1, d2, d3, ga, gb, gla, glb, gs1, gs2, gs3, gs4, gs5, gua, gub, gd1, gd2, q1, q2]
            refine Thn_n ?_
            refine hK _ _ ?_
            clear hK K
            refine AW.cond_f rfl ?_
            refine AW.skip ?_
            refine Thn_n ?_
            refine hK _ _ ?_
            clear hK K
            refine AW.draw [.val, .val, .rd 0, .rw 0, .val, .wr, .val, .wr] fol (by decide) (by kernel_rfl) ?_
            simp only [push_cast, Nat.reduceAdd, Nat.reduceMul, Nat.reduceSub, Nat.reduceLeDiff, Nat.reduceLT, Nat.reduceEqDiff, Nat.reduceBEq, Nat.reduceBNe, Nat.reduceMod, Nat.reduceDiv, Int.reduceLE, Int.reduceLT, Int.reduceToNat, Int.reduceAdd, Int.reduceSub, Int.reduceMul, Int.reduceNeg, Int.reduceEq, Int.reduceBEq, Int.reduceBNe, ↓reduceIte, reduceCtorEq, String.reduceBNe, String.reduceEq, reduceDIte, Nat.reducePow, hrow, lk_old hrow, hcl, hoz, setD_cat, ↓alloc30, ↓alloc33, Int.le_refl, Nat.le_refl, c1, c2, c3, hc, hol, hov, hos, hot, o0, o1, o2, o3, o4, hbl, hbv, hbt, gls, gll, glt, hkk, d1, d2, h60, hkn, k0, k1, k2, k3, hcS, crD_vis2, hmxa, hmxb, d1, d2, d3, ga, gb, gla, glb, gs1, gs2, gs3, gs4, gs5, gua, gub, gd1, gd2, q1, q2]
            refine AOpsD_end (by simp only [watchS, allAt, push_cast, Nat.reduceAdd, Nat.reduceMul, Nat.reduceSub, Nat.reduceLeDiff, Nat.reduceLT, Nat.reduceEqDiff, Nat.reduceBEq, Nat.reduceBNe, Nat.reduceMod, Nat.reduceDiv, Int.reduceLE, Int.reduceLT, Int.reduceToNat, Int.reduceAdd, Int.reduceSub, Int.reduceMul, Int.reduceNeg, Int.reduceEq, Int.reduceBEq, Int.reduceBNe, ↓reduceIte, reduceCtorEq, String.reduceBNe, String.reduceEq, reduceDIte, Nat.reducePow, hrow, lk_old hrow, hcl, hoz, setD_cat, ↓alloc30, ↓alloc33, Int.le_refl, Nat.le_refl, c1, c2, c3, hc, hol, hov, hos, hot, o0, o1, o2, o3, o4, hbl, hbv, hbt, gls, gll, glt, hkk, d1, d2, h60, hkn, k0, k1, k2, k3, hcS, crD_vis2, hmxa, hmxb, d1, d2, d3, ga, gb, gla, glb, gs1, gs2, gs3, gs4, gs5, gua, gub, gd1, gd2, q1, q2]) ?_
            refine InB_n ?_
            refine Thn_n ?_
            refine hK _ _ ?_
            clear hK K
            refine AW.region (by decide) ?_
            simp only [push_cast, Nat.reduceAdd, Nat.reduceMul, Nat.reduceSub, Nat.reduceLeDiff, Nat.reduceLT, Nat.reduceEqDiff, Nat.reduceBEq, Nat.reduceBNe, Nat.reduceMod, Nat.reduceDiv, Int.reduceLE, Int.reduceLT, Int.reduceToNat, Int.reduceAdd, Int.reduceSub, Int.reduceMul, Int.reduceNeg, Int.reduceEq, Int.reduceBEq, Int.reduceBNe, ↓reduceIte, reduceCtorEq, String.reduceBNe, String.reduceEq, reduceDIte, Nat.reducePow, hrow, lk_old hrow, hcl, hoz, setD_cat, ↓alloc30, ↓alloc33, Int.le_refl, Nat.le_refl, c1, c2, c3, hc, hol, hov, hos, hot, o0, o1, o2, o3, o4, hbl, hbv, hbt, gls, gll, glt, hkk, d1, d2, h60, hkn, k0, k1, k2, k3, hcS, crD_vis2, hmxa, hmxb, d1, d2, d3, ga, gb, gla, glb, gs1, gs2, gs3, gs4, gs5, gua, gub, gd1, gd2, q1, q2]
            refine Thn_n ?_
            have hwk : IntKind.i64.wrap ((k:Int)+1) = (k:Int)+1 := wi (by omega)
            refine ⟨k + 1, hk6, by omega, ?_⟩
            try simp only [keepL, setAll, push_cast, Nat.reduceAdd, Nat.reduceMul, Nat.reduceSub, Nat.reduceLeDiff, Nat.reduceLT, Nat.reduceEqDiff, Nat.reduceBEq, Nat.reduceBNe, Nat.reduceMod, Nat.reduceDiv, Int.reduceLE, Int.reduceLT, Int.reduceToNat, Int.reduceAdd, Int.reduceSub, Int.reduceMul, Int.reduceNeg, Int.reduceEq, Int.reduceBEq, Int.reduceBNe, ↓reduceIte, reduceCtorEq, String.reduceBNe, String.reduceEq, reduceDIte, Nat.reducePow, hrow, lk_old hrow, hcl, hoz, setD_cat, ↓alloc30, ↓alloc33, Int.le_refl, Nat.le_refl, c1, c2, c3, hc, hol, hov, hos, hot, o0, o1, o2, o3, o4, hbl, hbv, hbt, gls, gll, glt, hkk, d1, d2, h60, hkn, k0, k1, k2, k3, hcS, crD_vis2, hmxa, hmxb, d1, d2, d3, ga, gb, gla, glb, gs1, gs2, gs3, gs4, gs5, gua, gub, gd1, gd2, q1, q2, hwk]
            exact Weak.to (extra := [_]) (by simp only [Keeps, Tm.get_cons, Nat.reduceEqDiff, ↓reduceIte, if_true, if_false, ite_true, ite_false, true_and, and_true, and_self, reduceCtorEq, hwk]) (by first | rfl | (simp only [List.append_assoc, List.cons_append, List.nil_append]; rfl)) (by first | rfl | (simp [AV.below, CV.below, u8l_below]; done) | (simp [AV.below, CV.below, u8l_below]; omega)) (dr_wf hwf _ (MWf_cons (u8l_below _ _) (MWf_cons (u8l_below _ _) (MWf_cons (opC_below (by have := get_lt hlkn; omega)) MWf_nil))))
        · have hke : k = 6 := by have := of_decide_eq_false h76; omega
          subst hke
          refine AW.exit ?_
          refine Thn_e ?_
          clear hK K
          refine Thn_e ?_
          refine InB_here ?_
          refine InB_n ?_
          refine InB_n ?_
          refine Thn_n ?_
          refine hK _ _ ?_
          clear hK K
          refine AW.region (by decide) ?_
          simp only [push_cast, Nat.reduceAdd, Nat.reduceMul, Nat.reduceSub, Nat.reduceLeDiff, Nat.reduceLT, Nat.reduceEqDiff, Nat.reduceBEq, Nat.reduceBNe, Nat.reduceMod, Nat.reduceDiv, Int.reduceLE, Int.reduceLT, Int.reduceToNat, Int.reduceAdd, Int.reduceSub, Int.reduceMul, Int.reduceNeg, Int.reduceEq, Int.reduceBEq, Int.reduceBNe, ↓reduceIte, reduceCtorEq, String.reduceBNe, String.reduceEq, reduceDIte, Nat.reducePow, hrow, lk_old hrow, hcl, hoz, setD_cat, ↓alloc30, ↓alloc33, Int.le_refl, Nat.le_refl, c1, c2, c3, hc, hol, hov, hos, hot, o0, o1, o2, o3, o4, hbl, hbv, hbt, gls, gll, glt, hkk, d1, d2, h60, hkn, k0, k1, k2, k3, hcS, crD_vis2, hmxa, hmxb]
          refine Thn_n ?_
          have hwi : IntKind.i64.wrap ((i:Int)+1) = (i:Int)+1 := wi (by omega)
          refine ⟨((i + 1, crD D (ks i) (kn i)) : Nat × DS), ⟨by show i + 1 ≤ n; omega, by show i + 1 ≤ 60; omega, hwc⟩, by show n - (i + 1) < n - i; omega, ?_⟩
          try simp only [keepL, setAll, push_cast, Nat.reduceAdd, Nat.reduceMul, Nat.reduceSub, Nat.reduceLeDiff, Nat.reduceLT, Nat.reduceEqDiff, Nat.reduceBEq, Nat.reduceBNe, Nat.reduceMod, Nat.reduceDiv, Int.reduceLE, Int.reduceLT, Int.reduceToNat, Int.reduceAdd, Int.reduceSub, Int.reduceMul, Int.reduceNeg, Int.reduceEq, Int.reduceBEq, Int.reduceBNe, ↓reduceIte, reduceCtorEq, String.reduceBNe, String.reduceEq, reduceDIte, Nat.reducePow, hrow, lk_old hrow, hcl, hoz, setD_cat, ↓alloc30, ↓alloc33, Int.le_refl, Nat.le_refl, c1, c2, c3, hc, hol, hov, hos, hot, o0, o1, o2, o3, o4, hbl, hbv, hbt, gls, gll, glt, hkk, d1, d2, h60, hkn, k0, k1, k2, k3, hcS, crD_vis2, hmxa, hmxb, hwi]
          exact Weak.to (extra := [_]) (by simp only [Keeps, Tm.get_cons, Nat.reduceEqDiff, ↓reduceIte, if_true, if_false, ite_true, ite_false, true_and, and_true, and_self, reduceCtorEq, hwi]) (by first | rfl | (simp only [List.append_assoc, List.cons_append, List.nil_append]; rfl)) (by first | rfl | (simp [AV.below, CV.below]; done) | (simp [AV.below, CV.below]; omega)) (dr_wf hwf _ (MWf_cons (u8l_below _ _) (MWf_cons (u8l_below _ _) MWf_nil)))
      · obtain ⟨k0, k1, k2, k3⟩ := hk
        iterate 3
          refine AW.region (by decide) ?_
          simp only [push_cast, Nat.reduceAdd, Nat.reduceMul, Nat.reduceSub, Nat.reduceLeDiff, Nat.reduceLT, Nat.reduceEqDiff, Nat.reduceBEq, Nat.reduceBNe, Nat.reduceMod, Nat.reduceDiv, Int.reduceLE, Int.reduceLT, Int.reduceToNat, Int.reduceAdd, Int.reduceSub, Int.reduceMul, Int.reduceNeg, Int.reduceEq, Int.reduceBEq, Int.reduceBNe, ↓reduceIte, reduceCtorEq, String.reduceBNe, String.reduceEq, reduceDIte, Nat.reducePow, hrow, lk_old hrow, hcl, hoz, setD_cat, ↓alloc30, ↓alloc33, Int.le_refl, Nat.le_refl, c1, c2, c3, hc, hol, hov, hos, hot, o0, o1, o2, o3, o4, hbl, hbv, hbt, gls, gll, glt, hkk, d1, d2, h60, hkn, k0, k1, k2, k3]
          refine Thn_n ?_
          refine hK _ _ ?_
          clear hK K
          refine AW.cond_f rfl ?_
          refine AW.seq_k fun K hK => ?_
        refine AW.region (by decide) ?_
        simp only [push_cast, Nat.reduceAdd, Nat.reduceMul, Nat.reduceSub, Nat.reduceLeDiff, Nat.reduceLT, Nat.reduceEqDiff, Nat.reduceBEq, Nat.reduceBNe, Nat.reduceMod, Nat.reduceDiv, Int.reduceLE, Int.reduceLT, Int.reduceToNat, Int.reduceAdd, Int.reduceSub, Int.reduceMul, Int.reduceNeg, Int.reduceEq, Int.reduceBEq, Int.reduceBNe, ↓reduceIte, reduceCtorEq, String.reduceBNe, String.reduceEq, reduceDIte, Nat.reducePow, hrow, lk_old hrow, hcl, hoz, setD_cat, ↓alloc30, ↓alloc33, Int.le_refl, Nat.le_refl, c1, c2, c3, hc, hol, hov, hos, hot, o0, o1, o2, o3, o4, hbl, hbv, hbt, gls, gll, glt, hkk, d1, d2, h60, hkn, k0, k1, k2, k3]
        refine Thn_n ?_
        refine hK _ _ ?_
        clear hK K
        refine AW.cond_f rfl ?_
        refine AW.skip ?_
        refine InB_n ?_
        refine InB_n ?_
        refine Thn_n ?_
        refine hK _ _ ?_
        clear hK K
        refine AW.region (by decide) ?_
        simp only [push_cast, Nat.reduceAdd, Nat.reduceMul, Nat.reduceSub, Nat.reduceLeDiff, Nat.reduceLT, Nat.reduceEqDiff, Nat.reduceBEq, Nat.reduceBNe, Nat.reduceMod, Nat.reduceDiv, Int.reduceLE, Int.reduceLT, Int.reduceToNat, Int.reduceAdd, Int.reduceSub, Int.reduceMul, Int.reduceNeg, Int.reduceEq, Int.reduceBEq, Int.reduceBNe, ↓reduceIte, reduceCtorEq, String.reduceBNe, String.reduceEq, reduceDIte, Nat.reducePow, hrow, lk_old hrow, hcl, hoz, setD_cat, ↓alloc30, ↓alloc33, Int.le_refl, Nat.le_refl, c1, c2, c3, hc, hol, hov, hos, hot, o0, o1, o2, o3, o4, hbl, hbv, hbt, gls, gll, glt, hkk, d1, d2, h60, hkn, k0, k1, k2, k3]
        refine Thn_n ?_
        have hwi : IntKind.i64.wrap ((i:Int)+1) = (i:Int)+1 := wi (by omega)
        refine ⟨((i + 1, D) : Nat × DS), ⟨by show i + 1 ≤ n; omega, by show i + 1 ≤ 60; omega, hwd⟩, by show n - (i + 1) < n - i; omega, ?_⟩
        try simp only [keepL, setAll, push_cast, Nat.reduceAdd, Nat.reduceMul, Nat.reduceSub, Nat.reduceLeDiff, Nat.reduceLT, Nat.reduceEqDiff, Nat.reduceBEq, Nat.reduceBNe, Nat.reduceMod, Nat.reduceDiv, Int.reduceLE, Int.reduceLT, Int.reduceToNat, Int.reduceAdd, Int.reduceSub, Int.reduceMul, Int.reduceNeg, Int.reduceEq, Int.reduceBEq, Int.reduceBNe, ↓reduceIte, reduceCtorEq, String.reduceBNe, String.reduceEq, reduceDIte, Nat.reducePow, hrow, lk_old hrow, hcl, hoz, setD_cat, ↓alloc30, ↓alloc33, Int.le_refl, Nat.le_refl, c1, c2, c3, hc, hol, hov, hos, hot, o0, o1, o2, o3, o4, hbl, hbv, hbt, gls, gll, glt, hkk, d1, d2, h60, hkn, k0, k1, k2, k3, hwi]
        exact Weak.to (extra := [_]) (by simp only [Keeps, Tm.get_cons, Nat.reduceEqDiff, ↓reduceIte, if_true, if_false, ite_true, ite_false, true_and, and_true, and_self, reduceCtorEq, hwi]) (by first | rfl | (simp only [List.append_assoc, List.cons_append, List.nil_append]; rfl)) (by first | rfl | (simp [AV.below, CV.below]; done) | (simp [AV.below, CV.below]; omega)) (dr_wf hwf _ (MWf_cons (u8l_below _ _) (MWf_cons (u8l_below _ _) MWf_nil)))
  · refine AW.exit ?_
    refine Thn_e ?_
    clear hK K
    refine Thn_e ?_
    refine InB_here ?_
    refine Thn_n ?_
    refine hK _ _ ?_
    clear hK K
    refine AW.seq_k fun K hK => ?_
    refine AW.region (by decide) ?_
    simp only [push_cast, Nat.reduceAdd, Nat.reduceMul, Nat.reduceSub, Nat.reduceLeDiff, Nat.reduceLT, Nat.reduceEqDiff, Nat.reduceBEq, Nat.reduceBNe, Nat.reduceMod, Nat.reduceDiv, Int.reduceLE, Int.reduceLT, Int.reduceToNat, Int.reduceAdd, Int.reduceSub, Int.reduceMul, Int.reduceNeg, Int.reduceEq, Int.reduceBEq, Int.reduceBNe, ↓reduceIte, reduceCtorEq, String.reduceBNe, String.reduceEq, reduceDIte, Nat.reducePow, hrow, lk_old hrow, hcl, hoz, setD_cat, ↓alloc30, ↓alloc33, Int.le_refl, Nat.le_refl]
    refine Thn_n ?_
    refine hK _ _ ?_
    clear hK K
    refine AW.ret ?_
    refine hQ _ _ _ ?_
    first | refine RetP.drop0 (Or.inr rfl) ?_ ?_ hwf | refine RetP.drop (Or.inr rfl) ?_ ?_ hwf
    · simp only [resA, resOne, resTv, AV.tv, push_cast, Nat.reduceAdd, Nat.reduceMul, Nat.reduceSub, Nat.reduceLeDiff, Nat.reduceLT, Nat.reduceEqDiff, Nat.reduceBEq, Nat.reduceBNe, Nat.reduceMod, Nat.reduceDiv, Int.reduceLE, Int.reduceLT, Int.reduceToNat, Int.reduceAdd, Int.reduceSub, Int.reduceMul, Int.reduceNeg, Int.reduceEq, Int.reduceBEq, Int.reduceBNe, ↓reduceIte, reduceCtorEq, String.reduceBNe, String.reduceEq, reduceDIte, Nat.reducePow, hrow, lk_old hrow, hcl, hoz, setD_cat, ↓alloc30, ↓alloc33, Int.le_refl, Nat.le_refl]
    · rfl
end Go.Proofs.Ytcahlnddcjifdaa
