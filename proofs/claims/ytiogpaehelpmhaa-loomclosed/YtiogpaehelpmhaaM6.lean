/- Walks and facts of this seat's program over abstract states, printed by programs of mine; no conditions but those that each theorem names. -/
import Derived.Test.YtiogpaehelpmhaaM5
set_option linter.unusedSimpArgs false
set_option linter.unusedVariables false
set_option maxRecDepth 100000
set_option maxHeartbeats 4000000
namespace Go.Proofs.Ytiogpaehelpmhaa
open Go Go.Eng

theorem finer_ok (rp vp rf vf : Nat) (P Fs : List T3) (m : AMem) (hp : rp < m.length) (hpt : TRow m 49 rp vp P) (hf : TRow m 54 rf vf Fs) (hP : P.length ≤ 4096) (hF : Fs.length ≤ 4096) (hc : chk P.length Fs = 0) (hc2 : chk (fnP P Fs).length (fnF P.length Fs) = 0) : Ctr Try.prog 12 [.agg [.sl rp vp 0 P.length, .sl rf vf 0 Fs.length]] m (.tup [(true, [.sl m.length 0 0 (fnP P Fs).length, .sl (m.length + 1) 0 0 (fnF P.length Fs).length]), (false, [.int .i64 0])]) (m ++ [⟨.grow, 49, 0, 3, tL (fnP P Fs)⟩, ⟨.grow, 54, 0, 3, tL (fnF P.length Fs)⟩]) := by
  refine Ctr.enter Try.func12 rfl (by decide) (rs := [.cell 2 37, .tmp 3]) (nt := 122) rfl rfl fun hwf Q hQ => ?_
  obtain ⟨k0, ez0, hb0⟩ := hpt.hb
  obtain ⟨k1, ez1, hb⟩ := hf.hb
  have hr0 := get_lt hb
  have hlt0 : ∀ k, ¬ m.length + k < m.length := fun k => by omega
  obtain ⟨T, hT⟩ : ∃ T, T = tally Fs Fs.length := ⟨_, rfl⟩
  obtain ⟨ke, hke⟩ : ∃ ke, ke = ksE T := ⟨_, rfl⟩
  obtain ⟨N, hN⟩ : ∃ N, N = T.length := ⟨_, rfl⟩
  have hTb : BK1 (T.map (·.1)) := by rw [hT]; exact tally_bk hc _
  have hKN : ke.length = N := by rw [hke, hN]; exact ksE_len T
  have hKn : ke.Nodup := by rw [hke, hT]; exact ks_nd Fs
  have hKi : ∀ x, x ∈ ke → EIn P.length x := by rw [hke, hT]; exact ks_in hc
  have hKh : ∀ {t : T3} {j k : Nat}, Fs[j]? = some t → k < 3 → fKey t k ∈ ke := by rw [hke, hT]; exact ks_has
  have hfp : fnP P Fs = P ++ ke.map (midP P) := by rw [hke, hT]; rfl
  have hff : fnF P.length Fs = Fs.flatMap (finF P.length ke) := by rw [hke, hT]; rfl
  have hfpl : (P ++ ke.map (midP P)).length = P.length + N := by simp [hKN]
  have hffl := fl_len P.length ke Fs
  rw [hfp, hff] at hc2 hQ
  rw [hfpl] at hc2 hQ
  rw [hffl] at hQ
  have hll0 := chk_len hc
  have hTl : N ≤ 3072 := by rw [hN, hT]; have := tally_len Fs Fs.length; omega
  have b0 : (chk P.length Fs != 0) = false := by simp [hc]
  have b1 : (chk (P.length + N) (Fs.flatMap (finF P.length ke)) != 0) = false := by simp [hc2]
  refine AW.seq_k fun K hK => ?_
  refine AW.region (by decide) ?_
  simp only [push_cast, Nat.reduceAdd, Nat.reduceMul, Nat.reduceSub, Nat.reduceLeDiff, Nat.reduceLT, Nat.reduceEqDiff, Nat.reduceBEq, Nat.reduceBNe, Nat.reduceMod, Nat.reduceDiv, Int.reduceLE, Int.reduceLT, Int.reduceToNat, Int.reduceAdd, Int.reduceSub, Int.reduceMul, Int.reduceNeg, Int.reduceEq, Int.reduceBEq, Int.reduceBNe, ↓reduceIte, reduceCtorEq, String.reduceBNe, String.reduceEq, reduceDIte, Nat.reducePow, hb, lk_old hb, hb0, lk_old hb0, b0, b1, ← hN, ← hke]
  refine Thn_n ?_
  refine hK _ _ ?_
  clear hK K
  refine AW.seq_k fun K hK => ?_
  refine AW.seq_k fun K hK => ?_
  refine AW.region (by decide) ?_
  simp only [push_cast, Nat.reduceAdd, Nat.reduceMul, Nat.reduceSub, Nat.reduceLeDiff, Nat.reduceLT, Nat.reduceEqDiff, Nat.reduceBEq, Nat.reduceBNe, Nat.reduceMod, Nat.reduceDiv, Int.reduceLE, Int.reduceLT, Int.reduceToNat, Int.reduceAdd, Int.reduceSub, Int.reduceMul, Int.reduceNeg, Int.reduceEq, Int.reduceBEq, Int.reduceBNe, ↓reduceIte, reduceCtorEq, String.reduceBNe, String.reduceEq, reduceDIte, Nat.reducePow, hb, lk_old hb, hb0, lk_old hb0, b0, b1, ← hN, ← hke]
  refine CThen.by (check_c rp vp rf vf P Fs _ (by simp; omega) (hf.mono _)) ?_
  simp only [push_cast, Nat.reduceAdd, Nat.reduceMul, Nat.reduceSub, Nat.reduceLeDiff, Nat.reduceLT, Nat.reduceEqDiff, Nat.reduceBEq, Nat.reduceBNe, Nat.reduceMod, Nat.reduceDiv, Int.reduceLE, Int.reduceLT, Int.reduceToNat, Int.reduceAdd, Int.reduceSub, Int.reduceMul, Int.reduceNeg, Int.reduceEq, Int.reduceBEq, Int.reduceBNe, ↓reduceIte, reduceCtorEq, String.reduceBNe, String.reduceEq, reduceDIte, Nat.reducePow, hb, lk_old hb, hb0, lk_old hb0, b0, b1, ← hN, ← hke]
  refine Thn_n ?_
  refine hK _ _ ?_
  clear hK K
  refine AW.seq_k fun K hK => ?_
  refine AW.region (by decide) ?_
  simp only [push_cast, Nat.reduceAdd, Nat.reduceMul, Nat.reduceSub, Nat.reduceLeDiff, Nat.reduceLT, Nat.reduceEqDiff, Nat.reduceBEq, Nat.reduceBNe, Nat.reduceMod, Nat.reduceDiv, Int.reduceLE, Int.reduceLT, Int.reduceToNat, Int.reduceAdd, Int.reduceSub, Int.reduceMul, Int.reduceNeg, Int.reduceEq, Int.reduceBEq, Int.reduceBNe, ↓reduceIte, reduceCtorEq, String.reduceBNe, String.reduceEq, reduceDIte, Nat.reducePow, hb, lk_old hb, hb0, lk_old hb0, b0, b1, ← hN, ← hke]
  refine Thn_n ?_
  refine hK _ _ ?_
  clear hK K
  refine AW.cond_f rfl ?_
  refine AW.skip ?_
  refine Thn_n ?_
  refine hK _ _ ?_
  clear hK K
  refine AW.seq_k fun K hK => ?_
  refine AW.region (by decide) ?_
  simp only [push_cast, Nat.reduceAdd, Nat.reduceMul, Nat.reduceSub, Nat.reduceLeDiff, Nat.reduceLT, Nat.reduceEqDiff, Nat.reduceBEq, Nat.reduceBNe, Nat.reduceMod, Nat.reduceDiv, Int.reduceLE, Int.reduceLT, Int.reduceToNat, Int.reduceAdd, Int.reduceSub, Int.reduceMul, Int.reduceNeg, Int.reduceEq, Int.reduceBEq, Int.reduceBNe, ↓reduceIte, reduceCtorEq, String.reduceBNe, String.reduceEq, reduceDIte, Nat.reducePow, hb, lk_old hb, hb0, lk_old hb0, b0, b1, ← hN, ← hke]
  refine CThen.by (clonev_c rp vp P.length P _ (by simp; omega) (hpt.mono _) rfl hP) ?_
  simp only [push_cast, Nat.reduceAdd, Nat.reduceMul, Nat.reduceSub, Nat.reduceLeDiff, Nat.reduceLT, Nat.reduceEqDiff, Nat.reduceBEq, Nat.reduceBNe, Nat.reduceMod, Nat.reduceDiv, Int.reduceLE, Int.reduceLT, Int.reduceToNat, Int.reduceAdd, Int.reduceSub, Int.reduceMul, Int.reduceNeg, Int.reduceEq, Int.reduceBEq, Int.reduceBNe, ↓reduceIte, reduceCtorEq, String.reduceBNe, String.reduceEq, reduceDIte, Nat.reducePow, hb, lk_old hb, hb0, lk_old hb0, b0, b1, ← hN, ← hke]
  refine Thn_n ?_
  refine hK _ _ ?_
  clear hK K
  refine AW.seq_k fun K hK => ?_
  refine AW.region (by decide) ?_
  simp only [push_cast, Nat.reduceAdd, Nat.reduceMul, Nat.reduceSub, Nat.reduceLeDiff, Nat.reduceLT, Nat.reduceEqDiff, Nat.reduceBEq, Nat.reduceBNe, Nat.reduceMod, Nat.reduceDiv, Int.reduceLE, Int.reduceLT, Int.reduceToNat, Int.reduceAdd, Int.reduceSub, Int.reduceMul, Int.reduceNeg, Int.reduceEq, Int.reduceBEq, Int.reduceBNe, ↓reduceIte, reduceCtorEq, String.reduceBNe, String.reduceEq, reduceDIte, Nat.reducePow, hb, lk_old hb, hb0, lk_old hb0, b0, b1, ← hN, ← hke]
  refine CThen.by (edges_x rp vp rf vf P Fs _ (by simp; omega) (hf.mono _) hc T hT hTb) ?_
  simp only [push_cast, Nat.reduceAdd, Nat.reduceMul, Nat.reduceSub, Nat.reduceLeDiff, Nat.reduceLT, Nat.reduceEqDiff, Nat.reduceBEq, Nat.reduceBNe, Nat.reduceMod, Nat.reduceDiv, Int.reduceLE, Int.reduceLT, Int.reduceToNat, Int.reduceAdd, Int.reduceSub, Int.reduceMul, Int.reduceNeg, Int.reduceEq, Int.reduceBEq, Int.reduceBNe, ↓reduceIte, reduceCtorEq, String.reduceBNe, String.reduceEq, reduceDIte, Nat.reducePow, hb, lk_old hb, hb0, lk_old hb0, b0, b1, ← hN, ← hke]
  refine Thn_n ?_
  refine hK _ _ ?_
  clear hK K
  refine AW.seq_k fun K hK => ?_
  refine AW.region (by decide) ?_
  simp only [push_cast, Nat.reduceAdd, Nat.reduceMul, Nat.reduceSub, Nat.reduceLeDiff, Nat.reduceLT, Nat.reduceEqDiff, Nat.reduceBEq, Nat.reduceBNe, Nat.reduceMod, Nat.reduceDiv, Int.reduceLE, Int.reduceLT, Int.reduceToNat, Int.reduceAdd, Int.reduceSub, Int.reduceMul, Int.reduceNeg, Int.reduceEq, Int.reduceBEq, Int.reduceBNe, ↓reduceIte, reduceCtorEq, String.reduceBNe, String.reduceEq, reduceDIte, Nat.reducePow, hb, lk_old hb, hb0, lk_old hb0, b0, b1, ← hN, ← hke]
  refine Thn_n ?_
  refine hK _ _ ?_
  clear hK K
  refine AW.seq_k fun K hK => ?_
  refine AW.seq_k fun K hK => ?_
  refine AW.region (by decide) ?_
  simp only [push_cast, Nat.reduceAdd, Nat.reduceMul, Nat.reduceSub, Nat.reduceLeDiff, Nat.reduceLT, Nat.reduceEqDiff, Nat.reduceBEq, Nat.reduceBNe, Nat.reduceMod, Nat.reduceDiv, Int.reduceLE, Int.reduceLT, Int.reduceToNat, Int.reduceAdd, Int.reduceSub, Int.reduceMul, Int.reduceNeg, Int.reduceEq, Int.reduceBEq, Int.reduceBNe, ↓reduceIte, reduceCtorEq, String.reduceBNe, String.reduceEq, reduceDIte, Nat.reducePow, hb, lk_old hb, hb0, lk_old hb0, b0, b1, ← hN, ← hke]
  refine Thn_n ?_
  refine hK _ _ ?_
  clear hK K
  refine AW.block ?_
  refine AW.loopK [1, 2, 5, 8, 34, 35] (fun i => i ≤ N) (fun i => [(36, .one (.int .i64 (i : Int)))]) (fun i => [(m.length + 2, ⟨.grow, 49, i, 3, tL (P ++ (ke.take i).map (midP P))⟩), (m.length + 3, ⟨.fix, 37, 0, 0, [.sl (m.length + 2) i 0 (P.length + i), .nils]⟩), (m.length + 6, ⟨.map true false i (mE 0 (nmE P.length (ke.take i))), 91, 0, 0, []⟩)]) (fun i => N - i) 0 (by omega) ?_ ?_ fun i hi10 => ?_
  · first | rfl | (simp only [Keeps, Tm.get_cons, Nat.reduceEqDiff, ↓reduceIte, if_true, if_false, ite_true, ite_false, true_and, and_true, and_self, reduceCtorEq, Int.natCast_zero, List.take_zero, List.map_nil, List.append_nil, nmE, mE, Nat.add_zero] <;> rfl)
  · first | rfl | (simp only [setAll, push_cast, Nat.reduceAdd, Nat.reduceMul, Nat.reduceSub, Nat.reduceLeDiff, Nat.reduceLT, Nat.reduceEqDiff, Nat.reduceBEq, Nat.reduceBNe, Nat.reduceMod, Nat.reduceDiv, Int.reduceLE, Int.reduceLT, Int.reduceToNat, Int.reduceAdd, Int.reduceSub, Int.reduceMul, Int.reduceNeg, Int.reduceEq, Int.reduceBEq, Int.reduceBNe, ↓reduceIte, reduceCtorEq, String.reduceBNe, String.reduceEq, reduceDIte, Nat.reducePow, hb, lk_old hb, hb0, lk_old hb0, b0, b1, ← hN, ← hke, Int.natCast_zero, List.take_zero, List.map_nil, List.append_nil, nmE, mE, Nat.add_zero] <;> rfl)
  try simp only [keepL, setAll, push_cast, Nat.reduceAdd, Nat.reduceMul, Nat.reduceSub, Nat.reduceLeDiff, Nat.reduceLT, Nat.reduceEqDiff, Nat.reduceBEq, Nat.reduceBNe, Nat.reduceMod, Nat.reduceDiv, Int.reduceLE, Int.reduceLT, Int.reduceToNat, Int.reduceAdd, Int.reduceSub, Int.reduceMul, Int.reduceNeg, Int.reduceEq, Int.reduceBEq, Int.reduceBNe, ↓reduceIte, reduceCtorEq, String.reduceBNe, String.reduceEq, reduceDIte, Nat.reducePow, hb, lk_old hb, hb0, lk_old hb0, b0, b1, ← hN, ← hke]
  refine AW.seq_k fun K hK => ?_
  refine AW.region (by decide) ?_
  simp only [push_cast, Nat.reduceAdd, Nat.reduceMul, Nat.reduceSub, Nat.reduceLeDiff, Nat.reduceLT, Nat.reduceEqDiff, Nat.reduceBEq, Nat.reduceBNe, Nat.reduceMod, Nat.reduceDiv, Int.reduceLE, Int.reduceLT, Int.reduceToNat, Int.reduceAdd, Int.reduceSub, Int.reduceMul, Int.reduceNeg, Int.reduceEq, Int.reduceBEq, Int.reduceBNe, ↓reduceIte, reduceCtorEq, String.reduceBNe, String.reduceEq, reduceDIte, Nat.reducePow, hb, lk_old hb, hb0, lk_old hb0, b0, b1, ← hN, ← hke]
  refine Thn_n ?_
  refine hK _ _ ?_
  clear hK K
  refine AW.seq_k fun K hK => ?_
  refine AW.cond rfl (fun h37 => ?_) (fun h37 => ?_)
  · have hlt : i < N := by have := of_decide_eq_true h37; omega
    have c1 : (0 : Int) ≤ (i : Int) := by omega
    have c2 : (i : Int) < (N : Nat) := by omega
    have c3 : i * 2 + 2 ≤ N * 2 := by omega
    obtain ⟨k, hk⟩ : ∃ k, ke[i]? = some k := ⟨_, List.getElem?_eq_getElem (by omega)⟩
    have g0 := pL_at hk
    have gl := pL_len ke
    rw [hKN] at gl
    have hin := hKi k (List.mem_of_getElem? hk)
    obtain ⟨e1, e2, e3, e4⟩ := hin
    obtain ⟨ka, kb⟩ := k
    obtain ⟨a, rfl⟩ := Int.eq_ofNat_of_zero_le e1
    obtain ⟨b, rfl⟩ := Int.eq_ofNat_of_zero_le e3
    dsimp only at e1 e2 e3 e4 g0
    have ha : a < P.length := by omega
    have hb' : b < P.length := by omega
    obtain ⟨p, hpa⟩ : ∃ p, P[a]? = some p := ⟨_, List.getElem?_eq_getElem ha⟩
    obtain ⟨q, hqb⟩ : ∃ q, P[b]? = some q := ⟨_, List.getElem?_eq_getElem hb'⟩
    have gp := tL_at hpa
    have gq := tL_at hqb
    have gpl := tL_len P
    have c4 : a * 3 + 3 ≤ P.length * 3 := by omega
    have c5 : b * 3 + 3 ≤ P.length * 3 := by omega
    obtain ⟨hns1, hns2⟩ := nm_step (s := P.length) hk hKn
    have hfd : findL [CV.int .i64 (a : Int), .int .i64 (b : Int)] (mE 0 (nmE P.length (ke.take i))) = some none := (findL_mE _ 0 _).trans (by rw [hns2])
    have hnl : (nmE P.length (ke.take i)).length = i := by rw [nmE_len, List.length_take]; omega
    have hns : mE 0 (nmE P.length (ke.take i)) ++ [(i, [CV.int .i64 (a : Int), .int .i64 (b : Int)], [.int .i64 ((P.length + i : Nat) : Int)])] = mE 0 (nmE P.length (ke.take (i + 1))) := by
      rw [← hns1, ← mE_app, Nat.zero_add, hnl]
    have hst0 := md_step (P := P) hk
    have hmid : midP P ((a : Int), (b : Int)) = midT p q := by unfold midP; rw [atP_at hpa, atP_at hqb]
    rw [hmid] at hst0
    have hst : tL (P ++ (ke.take i).map (midP P)) ++ [.int .i64 (lerpI p.1 q.1 32768), .int .i64 (lerpI p.2.1 q.2.1 32768), .int .i64 (lerpI p.2.2 q.2.2 32768)] = tL (P ++ (ke.take (i + 1)).map (midP P)) := hst0
    have htk : (tL (P ++ (ke.take i).map (midP P))).length = (P.length + i) * 3 := by rw [tL_len, List.length_append, List.length_map, List.length_take]; congr 1; omega
    have m1 : P.length + (i + 1) ≤ 140737488355328 := by omega
    have m2 : (P.length + (i + 1)) * 24 ≤ 140737488355328 := by omega
    rw [Int.natCast_add] at hns
    refine AW.skip ?_
    refine Thn_n ?_
    refine hK _ _ ?_
    clear hK K
    refine AW.seq_k fun K hK => ?_
    refine AW.block ?_
    iterate 2
      refine AW.seq_k fun K hK => ?_
      refine AW.region (by decide) ?_
      simp only [push_cast, Nat.reduceAdd, Nat.reduceMul, Nat.reduceSub, Nat.reduceLeDiff, Nat.reduceLT, Nat.reduceEqDiff, Nat.reduceBEq, Nat.reduceBNe, Nat.reduceMod, Nat.reduceDiv, Int.reduceLE, Int.reduceLT, Int.reduceToNat, Int.reduceAdd, Int.reduceSub, Int.reduceMul, Int.reduceNeg, Int.reduceEq, Int.reduceBEq, Int.reduceBNe, ↓reduceIte, reduceCtorEq, String.reduceBNe, String.reduceEq, reduceDIte, Nat.reducePow, hb, lk_old hb, hb0, lk_old hb0, b0, b1, ← hN, ← hke, c1, c2, c3, g0, gl, e1, e2, e3, e4, gp, gq, gpl, c4, c5, hfd, htk, m1, m2, hnl]
      refine Thn_n ?_
      refine hK _ _ ?_
      clear hK K
    refine AW.draw [.val, .rd 0, .val, .rd 0, .val, .rd 0, .val, .rd 0, .val, .rd 0, .val, .rd 0, .val, .rd 0, .ext, .ext, .wr, .val, .wr] fol (by decide) (by kernel_rfl) ?_
    simp only [push_cast, Nat.reduceAdd, Nat.reduceMul, Nat.reduceSub, Nat.reduceLeDiff, Nat.reduceLT, Nat.reduceEqDiff, Nat.reduceBEq, Nat.reduceBNe, Nat.reduceMod, Nat.reduceDiv, Int.reduceLE, Int.reduceLT, Int.reduceToNat, Int.reduceAdd, Int.reduceSub, Int.reduceMul, Int.reduceNeg, Int.reduceEq, Int.reduceBEq, Int.reduceBNe, ↓reduceIte, reduceCtorEq, String.reduceBNe, String.reduceEq, reduceDIte, Nat.reducePow, hb, lk_old hb, hb0, lk_old hb0, b0, b1, ← hN, ← hke, c1, c2, c3, g0, gl, e1, e2, e3, e4, gp, gq, gpl, c4, c5, hfd, htk, m1, m2, hnl]
    refine DCall.by0 (vmix_c _ _ _ _ _ _ _ _) ?_
    simp only [push_cast, Nat.reduceAdd, Nat.reduceMul, Nat.reduceSub, Nat.reduceLeDiff, Nat.reduceLT, Nat.reduceEqDiff, Nat.reduceBEq, Nat.reduceBNe, Nat.reduceMod, Nat.reduceDiv, Int.reduceLE, Int.reduceLT, Int.reduceToNat, Int.reduceAdd, Int.reduceSub, Int.reduceMul, Int.reduceNeg, Int.reduceEq, Int.reduceBEq, Int.reduceBNe, ↓reduceIte, reduceCtorEq, String.reduceBNe, String.reduceEq, reduceDIte, Nat.reducePow, hb, lk_old hb, hb0, lk_old hb0, b0, b1, ← hN, ← hke, c1, c2, c3, g0, gl, e1, e2, e3, e4, gp, gq, gpl, c4, c5, hfd, htk, m1, m2, hnl]
    refine DExt.by (by first | rfl | (simp only [List.append_assoc, List.cons_append, List.nil_append]; rfl)) ?_
    simp only [push_cast, Nat.reduceAdd, Nat.reduceMul, Nat.reduceSub, Nat.reduceLeDiff, Nat.reduceLT, Nat.reduceEqDiff, Nat.reduceBEq, Nat.reduceBNe, Nat.reduceMod, Nat.reduceDiv, Int.reduceLE, Int.reduceLT, Int.reduceToNat, Int.reduceAdd, Int.reduceSub, Int.reduceMul, Int.reduceNeg, Int.reduceEq, Int.reduceBEq, Int.reduceBNe, ↓reduceIte, reduceCtorEq, String.reduceBNe, String.reduceEq, reduceDIte, Nat.reducePow, hb, lk_old hb, hb0, lk_old hb0, b0, b1, ← hN, ← hke, c1, c2, c3, g0, gl, e1, e2, e3, e4, gp, gq, gpl, c4, c5, hfd, htk, m1, m2, hnl]
    refine InB_n ?_
    refine Thn_n ?_
    refine hK _ _ ?_
    clear hK K
    refine AW.region (by decide) ?_
    simp only [push_cast, Nat.reduceAdd, Nat.reduceMul, Nat.reduceSub, Nat.reduceLeDiff, Nat.reduceLT, Nat.reduceEqDiff, Nat.reduceBEq, Nat.reduceBNe, Nat.reduceMod, Nat.reduceDiv, Int.reduceLE, Int.reduceLT, Int.reduceToNat, Int.reduceAdd, Int.reduceSub, Int.reduceMul, Int.reduceNeg, Int.reduceEq, Int.reduceBEq, Int.reduceBNe, ↓reduceIte, reduceCtorEq, String.reduceBNe, String.reduceEq, reduceDIte, Nat.reducePow, hb, lk_old hb, hb0, lk_old hb0, b0, b1, ← hN, ← hke, c1, c2, c3, g0, gl, e1, e2, e3, e4, gp, gq, gpl, c4, c5, hfd, htk, m1, m2, hnl]
    refine Thn_n ?_
    have hwi : IntKind.i64.wrap ((i:Int)+1) = (i:Int)+1 := wi (by omega)
    refine ⟨i + 1, by omega, by omega, ?_⟩
    try simp only [keepL, setAll, push_cast, Nat.reduceAdd, Nat.reduceMul, Nat.reduceSub, Nat.reduceLeDiff, Nat.reduceLT, Nat.reduceEqDiff, Nat.reduceBEq, Nat.reduceBNe, Nat.reduceMod, Nat.reduceDiv, Int.reduceLE, Int.reduceLT, Int.reduceToNat, Int.reduceAdd, Int.reduceSub, Int.reduceMul, Int.reduceNeg, Int.reduceEq, Int.reduceBEq, Int.reduceBNe, ↓reduceIte, reduceCtorEq, String.reduceBNe, String.reduceEq, reduceDIte, Nat.reducePow, hb, lk_old hb, hb0, lk_old hb0, b0, b1, ← hN, ← hke, c1, c2, c3, g0, gl, e1, e2, e3, e4, gp, gq, gpl, c4, c5, hfd, htk, m1, m2, hnl, hwi, hst, hns]
    exact Weak.to (extra := [_, _]) (by simp only [Keeps, Tm.get_cons, Nat.reduceEqDiff, ↓reduceIte, if_true, if_false, ite_true, ite_false, true_and, and_true, and_self, reduceCtorEq, hwi, hst, hns]) (by first | rfl | (simp only [List.append_assoc, List.cons_append, List.nil_append]; rfl)) (by first | rfl | (simp [AV.below, CV.below]; done) | (simp [AV.below, CV.below]; omega)) (by
      refine MWf.app (hwf.grow (by simp)) (MWf_cons ?_ (MWf_cons rfl (MWf_cons (tL_below _ _) (MWf_cons ?_ (MWf_cons (pL_below _ _) (MWf_cons (ic_below _ _) (MWf_cons rfl (MWf_cons ?_ MWf_nil) (mE_below _ _ _))))))))
      all_goals (first | (simp [CV.below]; done) | (simp [CV.below]; omega)))
  · have hin : i = N := by have := of_decide_eq_false h37; omega
    have hin2 := hin.symm
    subst hin2
    have hKt : ke.take N = ke := List.take_of_length_le (by omega)
    refine AW.exit ?_
    refine Thn_e ?_
    clear hK K
    refine Thn_e ?_
    refine InB_here ?_
    refine Thn_n ?_
    refine hK _ _ ?_
    clear hK K
    refine AW.seq_k fun K hK => ?_
    refine AW.region (by decide) ?_
    simp only [push_cast, Nat.reduceAdd, Nat.reduceMul, Nat.reduceSub, Nat.reduceLeDiff, Nat.reduceLT, Nat.reduceEqDiff, Nat.reduceBEq, Nat.reduceBNe, Nat.reduceMod, Nat.reduceDiv, Int.reduceLE, Int.reduceLT, Int.reduceToNat, Int.reduceAdd, Int.reduceSub, Int.reduceMul, Int.reduceNeg, Int.reduceEq, Int.reduceBEq, Int.reduceBNe, ↓reduceIte, reduceCtorEq, String.reduceBNe, String.reduceEq, reduceDIte, Nat.reducePow, hb, lk_old hb, hb0, lk_old hb0, b0, b1, ← hN, ← hke, hKt]
    refine Thn_n ?_
    refine hK _ _ ?_
    clear hK K
    refine AW.seq_k fun K hK => ?_
    refine AW.seq_k fun K hK => ?_
    refine AW.region (by decide) ?_
    simp only [push_cast, Nat.reduceAdd, Nat.reduceMul, Nat.reduceSub, Nat.reduceLeDiff, Nat.reduceLT, Nat.reduceEqDiff, Nat.reduceBEq, Nat.reduceBNe, Nat.reduceMod, Nat.reduceDiv, Int.reduceLE, Int.reduceLT, Int.reduceToNat, Int.reduceAdd, Int.reduceSub, Int.reduceMul, Int.reduceNeg, Int.reduceEq, Int.reduceBEq, Int.reduceBNe, ↓reduceIte, reduceCtorEq, String.reduceBNe, String.reduceEq, reduceDIte, Nat.reducePow, hb, lk_old hb, hb0, lk_old hb0, b0, b1, ← hN, ← hke, hKt]
    refine Thn_n ?_
    refine hK _ _ ?_
    clear hK K
    refine AW.block ?_
    refine AW.nilCell 54 3 (m.length + 3) 1 (by simp only [push_cast, Nat.reduceAdd, Nat.reduceMul, Nat.reduceSub, Nat.reduceLeDiff, Nat.reduceLT, Nat.reduceEqDiff, Nat.reduceBEq, Nat.reduceBNe, Nat.reduceMod, Nat.reduceDiv, Int.reduceLE, Int.reduceLT, Int.reduceToNat, Int.reduceAdd, Int.reduceSub, Int.reduceMul, Int.reduceNeg, Int.reduceEq, Int.reduceBEq, Int.reduceBNe, ↓reduceIte, reduceCtorEq, String.reduceBNe, String.reduceEq, reduceDIte, Nat.reducePow, hb, lk_old hb, hb0, lk_old hb0, b0, b1, ← hN, ← hke, hKt]; first | done | rfl) (by intro e; cases e) rfl ?_
    try simp only [push_cast, Nat.reduceAdd, Nat.reduceMul, Nat.reduceSub, Nat.reduceLeDiff, Nat.reduceLT, Nat.reduceEqDiff, Nat.reduceBEq, Nat.reduceBNe, Nat.reduceMod, Nat.reduceDiv, Int.reduceLE, Int.reduceLT, Int.reduceToNat, Int.reduceAdd, Int.reduceSub, Int.reduceMul, Int.reduceNeg, Int.reduceEq, Int.reduceBEq, Int.reduceBNe, ↓reduceIte, reduceCtorEq, String.reduceBNe, String.reduceEq, reduceDIte, Nat.reducePow, hb, lk_old hb, hb0, lk_old hb0, b0, b1, ← hN, ← hke, hKt]
    refine AW.loopK [2, 5, 11, 66, 67] (fun i => i ≤ Fs.length) (fun i => [(68, .one (.int .i64 (i : Int)))]) (fun i => [(m.length + 3, ⟨.fix, 37, 0, 0, [.sl (m.length + 2) N 0 (P.length + N), .sl (m.length + 8) i 0 (4 * i)]⟩), (m.length + 8, ⟨.grow, 54, i, 3, tL ((Fs.take i).flatMap (finF P.length ke))⟩)]) (fun i => Fs.length - i) 0 (by omega) ?_ ?_ fun i hi19 => ?_
    · first | rfl | (simp only [Keeps, Tm.get_cons, Nat.reduceEqDiff, ↓reduceIte, if_true, if_false, ite_true, ite_false, true_and, and_true, and_self, reduceCtorEq, Int.natCast_zero, List.take_zero, tL, List.flatMap_nil, Nat.mul_zero] <;> rfl)
    · first | rfl | (simp only [setAll, push_cast, Nat.reduceAdd, Nat.reduceMul, Nat.reduceSub, Nat.reduceLeDiff, Nat.reduceLT, Nat.reduceEqDiff, Nat.reduceBEq, Nat.reduceBNe, Nat.reduceMod, Nat.reduceDiv, Int.reduceLE, Int.reduceLT, Int.reduceToNat, Int.reduceAdd, Int.reduceSub, Int.reduceMul, Int.reduceNeg, Int.reduceEq, Int.reduceBEq, Int.reduceBNe, ↓reduceIte, reduceCtorEq, String.reduceBNe, String.reduceEq, reduceDIte, Nat.reducePow, hb, lk_old hb, hb0, lk_old hb0, b0, b1, ← hN, ← hke, hKt, Int.natCast_zero, List.take_zero, tL, List.flatMap_nil, Nat.mul_zero] <;> rfl)
    try simp only [keepL, setAll, push_cast, Nat.reduceAdd, Nat.reduceMul, Nat.reduceSub, Nat.reduceLeDiff, Nat.reduceLT, Nat.reduceEqDiff, Nat.reduceBEq, Nat.reduceBNe, Nat.reduceMod, Nat.reduceDiv, Int.reduceLE, Int.reduceLT, Int.reduceToNat, Int.reduceAdd, Int.reduceSub, Int.reduceMul, Int.reduceNeg, Int.reduceEq, Int.reduceBEq, Int.reduceBNe, ↓reduceIte, reduceCtorEq, String.reduceBNe, String.reduceEq, reduceDIte, Nat.reducePow, hb, lk_old hb, hb0, lk_old hb0, b0, b1, ← hN, ← hke, hKt]
    refine AW.seq_k fun K hK => ?_
    refine AW.region (by decide) ?_
    simp only [push_cast, Nat.reduceAdd, Nat.reduceMul, Nat.reduceSub, Nat.reduceLeDiff, Nat.reduceLT, Nat.reduceEqDiff, Nat.reduceBEq, Nat.reduceBNe, Nat.reduceMod, Nat.reduceDiv, Int.reduceLE, Int.reduceLT, Int.reduceToNat, Int.reduceAdd, Int.reduceSub, Int.reduceMul, Int.reduceNeg, Int.reduceEq, Int.reduceBEq, Int.reduceBNe, ↓reduceIte, reduceCtorEq, String.reduceBNe, String.reduceEq, reduceDIte, Nat.reducePow, hb, lk_old hb, hb0, lk_old hb0, b0, b1, ← hN, ← hke, hKt]
    refine Thn_n ?_
    refine hK _ _ ?_
    clear hK K
    refine AW.seq_k fun K hK => ?_
    refine AW.cond rfl (fun h69 => ?_) (fun h69 => ?_)
    · have hlt : i < Fs.length := by have := of_decide_eq_true h69; omega
      have c1 : (0 : Int) ≤ (i : Int) := by omega
      have c2 : (i : Int) < (Fs.length : Nat) := by omega
      have c3 : i * 3 + 3 ≤ Fs.length * 3 := by omega
      obtain ⟨t, ht⟩ : ∃ t, Fs[i]? = some t := ⟨_, List.getElem?_eq_getElem hlt⟩
      have g0 := tL_get0 ht
      have g1 := tL_get1 ht
      have g2 := tL_get2 ht
      have g3 := tL_at ht
      have gl := tL_len Fs
      have k0' := hKh ht (show 0 < 3 by omega)
      have k1' := hKh ht (show 1 < 3 by omega)
      have k2' := hKh ht (show 2 < 3 by omega)
      have hst : tL ((Fs.take i).flatMap (finF P.length ke)) ++ [.int .i64 (t.1), .int .i64 (cntE (nmE P.length ke) (eKey t.1 t.2.1)), .int .i64 (cntE (nmE P.length ke) (eKey t.2.2 t.1)), .int .i64 (cntE (nmE P.length ke) (eKey t.1 t.2.1)), .int .i64 (t.2.1), .int .i64 (cntE (nmE P.length ke) (eKey t.2.1 t.2.2)), .int .i64 (cntE (nmE P.length ke) (eKey t.2.2 t.1)), .int .i64 (cntE (nmE P.length ke) (eKey t.2.1 t.2.2)), .int .i64 (t.2.2), .int .i64 (cntE (nmE P.length ke) (eKey t.1 t.2.1)), .int .i64 (cntE (nmE P.length ke) (eKey t.2.1 t.2.2)), .int .i64 (cntE (nmE P.length ke) (eKey t.2.2 t.1))] = tL ((Fs.take (i + 1)).flatMap (finF P.length ke)) := fl_step ht
      have htk : (tL ((Fs.take i).flatMap (finF P.length ke))).length = 4 * i * 3 := by rw [tL_len, fl_len, List.length_take]; congr 2; omega
      have h4 : 4 * (i + 1) = 4 * i + 4 := by omega
      have m1 : 4 * i + 4 ≤ 140737488355328 := by omega
      have m2 : (4 * i + 4) * 24 ≤ 140737488355328 := by omega
      refine AW.skip ?_
      refine Thn_n ?_
      refine hK _ _ ?_
      clear hK K
      refine AW.seq_k fun K hK => ?_
      refine AW.block ?_
      refine AW.seq_k fun K hK => ?_
      refine AW.region (by decide) ?_
      simp only [push_cast, Nat.reduceAdd, Nat.reduceMul, Nat.reduceSub, Nat.reduceLeDiff, Nat.reduceLT, Nat.reduceEqDiff, Nat.reduceBEq, Nat.reduceBNe, Nat.reduceMod, Nat.reduceDiv, Int.reduceLE, Int.reduceLT, Int.reduceToNat, Int.reduceAdd, Int.reduceSub, Int.reduceMul, Int.reduceNeg, Int.reduceEq, Int.reduceBEq, Int.reduceBNe, ↓reduceIte, reduceCtorEq, String.reduceBNe, String.reduceEq, reduceDIte, Nat.reducePow, hb, lk_old hb, hb0, lk_old hb0, b0, b1, ← hN, ← hke, hKt, c1, c2, c3, g0, g1, g2, g3, gl, htk, m1, m2]
      refine Thn_n ?_
      refine hK _ _ ?_
      clear hK K
      refine AW.seq_k fun K hK => ?_
      refine AW.draw [.val, .val, .rd 0, .val, .rd 0, .ext, .val, .val, .rd 0, .val, .rd 0, .ext, .val, .val, .rd 0, .val, .rd 0, .ext, .val, .val, .val] fol (by decide) (by kernel_rfl) ?_
      simp only [push_cast, Nat.reduceAdd, Nat.reduceMul, Nat.reduceSub, Nat.reduceLeDiff, Nat.reduceLT, Nat.reduceEqDiff, Nat.reduceBEq, Nat.reduceBNe, Nat.reduceMod, Nat.reduceDiv, Int.reduceLE, Int.reduceLT, Int.reduceToNat, Int.reduceAdd, Int.reduceSub, Int.reduceMul, Int.reduceNeg, Int.reduceEq, Int.reduceBEq, Int.reduceBNe, ↓reduceIte, reduceCtorEq, String.reduceBNe, String.reduceEq, reduceDIte, Nat.reducePow, hb, lk_old hb, hb0, lk_old hb0, b0, b1, ← hN, ← hke, hKt, c1, c2, c3, g0, g1, g2, g3, gl, htk, m1, m2]
      refine DCall.by0 (fin1_c (t.1) (t.2.1) (m.length + 7) (m.length + 6) N (nmE P.length ke) _ (by simp only [push_cast, Nat.reduceAdd, Nat.reduceMul, Nat.reduceSub, Nat.reduceLeDiff, Nat.reduceLT, Nat.reduceEqDiff, Nat.reduceBEq, Nat.reduceBNe, Nat.reduceMod, Nat.reduceDiv, Int.reduceLE, Int.reduceLT, Int.reduceToNat, Int.reduceAdd, Int.reduceSub, Int.reduceMul, Int.reduceNeg, Int.reduceEq, Int.reduceBEq, Int.reduceBNe, ↓reduceIte, reduceCtorEq, String.reduceBNe, String.reduceEq, reduceDIte, Nat.reducePow]) (by simp only [push_cast, Nat.reduceAdd, Nat.reduceMul, Nat.reduceSub, Nat.reduceLeDiff, Nat.reduceLT, Nat.reduceEqDiff, Nat.reduceBEq, Nat.reduceBNe, Nat.reduceMod, Nat.reduceDiv, Int.reduceLE, Int.reduceLT, Int.reduceToNat, Int.reduceAdd, Int.reduceSub, Int.reduceMul, Int.reduceNeg, Int.reduceEq, Int.reduceBEq, Int.reduceBNe, ↓reduceIte, reduceCtorEq, String.reduceBNe, String.reduceEq, reduceDIte, Nat.reducePow]) (by rw [nmE_fst]; assumption)) ?_
      simp only [push_cast, Nat.reduceAdd, Nat.reduceMul, Nat.reduceSub, Nat.reduceLeDiff, Nat.reduceLT, Nat.reduceEqDiff, Nat.reduceBEq, Nat.reduceBNe, Nat.reduceMod, Nat.reduceDiv, Int.reduceLE, Int.reduceLT, Int.reduceToNat, Int.reduceAdd, Int.reduceSub, Int.reduceMul, Int.reduceNeg, Int.reduceEq, Int.reduceBEq, Int.reduceBNe, ↓reduceIte, reduceCtorEq, String.reduceBNe, String.reduceEq, reduceDIte, Nat.reducePow, hb, lk_old hb, hb0, lk_old hb0, b0, b1, ← hN, ← hke, hKt, c1, c2, c3, g0, g1, g2, g3, gl, htk, m1, m2]
      refine DCall.by0 (fin1_c (t.2.1) (t.2.2) (m.length + 7) (m.length + 6) N (nmE P.length ke) _ (by simp only [push_cast, Nat.reduceAdd, Nat.reduceMul, Nat.reduceSub, Nat.reduceLeDiff, Nat.reduceLT, Nat.reduceEqDiff, Nat.reduceBEq, Nat.reduceBNe, Nat.reduceMod, Nat.reduceDiv, Int.reduceLE, Int.reduceLT, Int.reduceToNat, Int.reduceAdd, Int.reduceSub, Int.reduceMul, Int.reduceNeg, Int.reduceEq, Int.reduceBEq, Int.reduceBNe, ↓reduceIte, reduceCtorEq, String.reduceBNe, String.reduceEq, reduceDIte, Nat.reducePow]) (by simp only [push_cast, Nat.reduceAdd, Nat.reduceMul, Nat.reduceSub, Nat.reduceLeDiff, Nat.reduceLT, Nat.reduceEqDiff, Nat.reduceBEq, Nat.reduceBNe, Nat.reduceMod, Nat.reduceDiv, Int.reduceLE, Int.reduceLT, Int.reduceToNat, Int.reduceAdd, Int.reduceSub, Int.reduceMul, Int.reduceNeg, Int.reduceEq, Int.reduceBEq, Int.reduceBNe, ↓reduceIte, reduceCtorEq, String.reduceBNe, String.reduceEq, reduceDIte, Nat.reducePow]) (by rw [nmE_fst]; assumption)) ?_
      simp only [push_cast, Nat.reduceAdd, Nat.reduceMul, Nat.reduceSub, Nat.reduceLeDiff, Nat.reduceLT, Nat.reduceEqDiff, Nat.reduceBEq, Nat.reduceBNe, Nat.reduceMod, Nat.reduceDiv, Int.reduceLE, Int.reduceLT, Int.reduceToNat, Int.reduceAdd, Int.reduceSub, Int.reduceMul, Int.reduceNeg, Int.reduceEq, Int.reduceBEq, Int.reduceBNe, ↓reduceIte, reduceCtorEq, String.reduceBNe, String.reduceEq, reduceDIte, Nat.reducePow, hb, lk_old hb, hb0, lk_old hb0, b0, b1, ← hN, ← hke, hKt, c1, c2, c3, g0, g1, g2, g3, gl, htk, m1, m2]
      refine DCall.by0 (fin1_c (t.2.2) (t.1) (m.length + 7) (m.length + 6) N (nmE P.length ke) _ (by simp only [push_cast, Nat.reduceAdd, Nat.reduceMul, Nat.reduceSub, Nat.reduceLeDiff, Nat.reduceLT, Nat.reduceEqDiff, Nat.reduceBEq, Nat.reduceBNe, Nat.reduceMod, Nat.reduceDiv, Int.reduceLE, Int.reduceLT, Int.reduceToNat, Int.reduceAdd, Int.reduceSub, Int.reduceMul, Int.reduceNeg, Int.reduceEq, Int.reduceBEq, Int.reduceBNe, ↓reduceIte, reduceCtorEq, String.reduceBNe, String.reduceEq, reduceDIte, Nat.reducePow]) (by simp only [push_cast, Nat.reduceAdd, Nat.reduceMul, Nat.reduceSub, Nat.reduceLeDiff, Nat.reduceLT, Nat.reduceEqDiff, Nat.reduceBEq, Nat.reduceBNe, Nat.reduceMod, Nat.reduceDiv, Int.reduceLE, Int.reduceLT, Int.reduceToNat, Int.reduceAdd, Int.reduceSub, Int.reduceMul, Int.reduceNeg, Int.reduceEq, Int.reduceBEq, Int.reduceBNe, ↓reduceIte, reduceCtorEq, String.reduceBNe, String.reduceEq, reduceDIte, Nat.reducePow]) (by rw [nmE_fst]; assumption)) ?_
      simp only [push_cast, Nat.reduceAdd, Nat.reduceMul, Nat.reduceSub, Nat.reduceLeDiff, Nat.reduceLT, Nat.reduceEqDiff, Nat.reduceBEq, Nat.reduceBNe, Nat.reduceMod, Nat.reduceDiv, Int.reduceLE, Int.reduceLT, Int.reduceToNat, Int.reduceAdd, Int.reduceSub, Int.reduceMul, Int.reduceNeg, Int.reduceEq, Int.reduceBEq, Int.reduceBNe, ↓reduceIte, reduceCtorEq, String.reduceBNe, String.reduceEq, reduceDIte, Nat.reducePow, hb, lk_old hb, hb0, lk_old hb0, b0, b1, ← hN, ← hke, hKt, c1, c2, c3, g0, g1, g2, g3, gl, htk, m1, m2]
      refine Thn_n ?_
      refine hK _ _ ?_
      clear hK K
      refine AW.region (by decide) ?_
      simp only [push_cast, Nat.reduceAdd, Nat.reduceMul, Nat.reduceSub, Nat.reduceLeDiff, Nat.reduceLT, Nat.reduceEqDiff, Nat.reduceBEq, Nat.reduceBNe, Nat.reduceMod, Nat.reduceDiv, Int.reduceLE, Int.reduceLT, Int.reduceToNat, Int.reduceAdd, Int.reduceSub, Int.reduceMul, Int.reduceNeg, Int.reduceEq, Int.reduceBEq, Int.reduceBNe, ↓reduceIte, reduceCtorEq, String.reduceBNe, String.reduceEq, reduceDIte, Nat.reducePow, hb, lk_old hb, hb0, lk_old hb0, b0, b1, ← hN, ← hke, hKt, c1, c2, c3, g0, g1, g2, g3, gl, htk, m1, m2]
      refine InB_n ?_
      refine Thn_n ?_
      refine hK _ _ ?_
      clear hK K
      refine AW.region (by decide) ?_
      simp only [push_cast, Nat.reduceAdd, Nat.reduceMul, Nat.reduceSub, Nat.reduceLeDiff, Nat.reduceLT, Nat.reduceEqDiff, Nat.reduceBEq, Nat.reduceBNe, Nat.reduceMod, Nat.reduceDiv, Int.reduceLE, Int.reduceLT, Int.reduceToNat, Int.reduceAdd, Int.reduceSub, Int.reduceMul, Int.reduceNeg, Int.reduceEq, Int.reduceBEq, Int.reduceBNe, ↓reduceIte, reduceCtorEq, String.reduceBNe, String.reduceEq, reduceDIte, Nat.reducePow, hb, lk_old hb, hb0, lk_old hb0, b0, b1, ← hN, ← hke, hKt, c1, c2, c3, g0, g1, g2, g3, gl, htk, m1, m2]
      refine Thn_n ?_
      have hwi : IntKind.i64.wrap ((i:Int)+1) = (i:Int)+1 := wi (by omega)
      refine ⟨i + 1, by omega, by omega, ?_⟩
      try simp only [keepL, setAll, push_cast, Nat.reduceAdd, Nat.reduceMul, Nat.reduceSub, Nat.reduceLeDiff, Nat.reduceLT, Nat.reduceEqDiff, Nat.reduceBEq, Nat.reduceBNe, Nat.reduceMod, Nat.reduceDiv, Int.reduceLE, Int.reduceLT, Int.reduceToNat, Int.reduceAdd, Int.reduceSub, Int.reduceMul, Int.reduceNeg, Int.reduceEq, Int.reduceBEq, Int.reduceBNe, ↓reduceIte, reduceCtorEq, String.reduceBNe, String.reduceEq, reduceDIte, Nat.reducePow, hb, lk_old hb, hb0, lk_old hb0, b0, b1, ← hN, ← hke, hKt, c1, c2, c3, g0, g1, g2, g3, gl, htk, m1, m2, hwi, hst, h4]
      exact Weak.to (extra := [_, _]) (by simp only [Keeps, Tm.get_cons, Nat.reduceEqDiff, ↓reduceIte, if_true, if_false, ite_true, ite_false, true_and, and_true, and_self, reduceCtorEq, hwi, hst, h4]) (by first | rfl | (simp only [List.append_assoc, List.cons_append, List.nil_append]; rfl)) (by first | rfl | (simp [AV.below, CV.below]; done) | (simp [AV.below, CV.below]; omega)) (by
        refine MWf.app (hwf.grow (by simp)) (MWf_cons ?_ (MWf_cons rfl (MWf_cons (tL_below _ _) (MWf_cons ?_ (MWf_cons (pL_below _ _) (MWf_cons (ic_below _ _) (MWf_cons rfl (MWf_cons ?_ (MWf_cons (tL_below _ _) MWf_nil)) (mE_below _ _ _))))))))
        all_goals (first | (simp [CV.below]; done) | (simp [CV.below]; omega)))
    · have hin : i = Fs.length := by have := of_decide_eq_false h69; omega
      subst hin
      have hFt : Fs.take Fs.length = Fs := List.take_of_length_le (Nat.le_refl _)
      refine AW.exit ?_
      refine Thn_e ?_
      clear hK K
      refine Thn_e ?_
      refine InB_here ?_
      refine Thn_n ?_
      refine hK _ _ ?_
      clear hK K
      refine AW.seq_k fun K hK => ?_
      refine AW.seq_k fun K hK => ?_
      refine AW.region (by decide) ?_
      simp only [push_cast, Nat.reduceAdd, Nat.reduceMul, Nat.reduceSub, Nat.reduceLeDiff, Nat.reduceLT, Nat.reduceEqDiff, Nat.reduceBEq, Nat.reduceBNe, Nat.reduceMod, Nat.reduceDiv, Int.reduceLE, Int.reduceLT, Int.reduceToNat, Int.reduceAdd, Int.reduceSub, Int.reduceMul, Int.reduceNeg, Int.reduceEq, Int.reduceBEq, Int.reduceBNe, ↓reduceIte, reduceCtorEq, String.reduceBNe, String.reduceEq, reduceDIte, Nat.reducePow, hb, lk_old hb, hb0, lk_old hb0, b0, b1, ← hN, ← hke, hKt, hFt]
      refine CThen.by (by
        have h := fun m2 => check_c (m.length + 2) N (m.length + 8) Fs.length (P ++ ke.map (midP P)) (Fs.flatMap (finF P.length ke)) m2
        simp only [hfpl, hffl] at h
        exact h _ (by simp) ⟨.grow, 3, by simp only [push_cast, Nat.reduceAdd, Nat.reduceMul, Nat.reduceSub, Nat.reduceLeDiff, Nat.reduceLT, Nat.reduceEqDiff, Nat.reduceBEq, Nat.reduceBNe, Nat.reduceMod, Nat.reduceDiv, Int.reduceLE, Int.reduceLT, Int.reduceToNat, Int.reduceAdd, Int.reduceSub, Int.reduceMul, Int.reduceNeg, Int.reduceEq, Int.reduceBEq, Int.reduceBNe, ↓reduceIte, reduceCtorEq, String.reduceBNe, String.reduceEq, reduceDIte, Nat.reducePow]⟩) ?_
      simp only [push_cast, Nat.reduceAdd, Nat.reduceMul, Nat.reduceSub, Nat.reduceLeDiff, Nat.reduceLT, Nat.reduceEqDiff, Nat.reduceBEq, Nat.reduceBNe, Nat.reduceMod, Nat.reduceDiv, Int.reduceLE, Int.reduceLT, Int.reduceToNat, Int.reduceAdd, Int.reduceSub, Int.reduceMul, Int.reduceNeg, Int.reduceEq, Int.reduceBEq, Int.reduceBNe, ↓reduceIte, reduceCtorEq, String.reduceBNe, String.reduceEq, reduceDIte, Nat.reducePow, hb, lk_old hb, hb0, lk_old hb0, b0, b1, ← hN, ← hke, hKt, hFt]
      refine Thn_n ?_
      refine hK _ _ ?_
      clear hK K
      refine AW.seq_k fun K hK => ?_
      refine AW.region (by decide) ?_
      simp only [push_cast, Nat.reduceAdd, Nat.reduceMul, Nat.reduceSub, Nat.reduceLeDiff, Nat.reduceLT, Nat.reduceEqDiff, Nat.reduceBEq, Nat.reduceBNe, Nat.reduceMod, Nat.reduceDiv, Int.reduceLE, Int.reduceLT, Int.reduceToNat, Int.reduceAdd, Int.reduceSub, Int.reduceMul, Int.reduceNeg, Int.reduceEq, Int.reduceBEq, Int.reduceBNe, ↓reduceIte, reduceCtorEq, String.reduceBNe, String.reduceEq, reduceDIte, Nat.reducePow, hb, lk_old hb, hb0, lk_old hb0, b0, b1, ← hN, ← hke, hKt, hFt]
      refine Thn_n ?_
      refine hK _ _ ?_
      clear hK K
      refine AW.cond_f rfl ?_
      refine AW.skip ?_
      refine Thn_n ?_
      refine hK _ _ ?_
      clear hK K
      refine AW.seq_k fun K hK => ?_
      refine AW.region (by decide) ?_
      simp only [push_cast, Nat.reduceAdd, Nat.reduceMul, Nat.reduceSub, Nat.reduceLeDiff, Nat.reduceLT, Nat.reduceEqDiff, Nat.reduceBEq, Nat.reduceBNe, Nat.reduceMod, Nat.reduceDiv, Int.reduceLE, Int.reduceLT, Int.reduceToNat, Int.reduceAdd, Int.reduceSub, Int.reduceMul, Int.reduceNeg, Int.reduceEq, Int.reduceBEq, Int.reduceBNe, ↓reduceIte, reduceCtorEq, String.reduceBNe, String.reduceEq, reduceDIte, Nat.reducePow, hb, lk_old hb, hb0, lk_old hb0, b0, b1, ← hN, ← hke, hKt, hFt]
      refine Thn_n ?_
      refine hK _ _ ?_
      clear hK K
      refine AW.ret ?_
      refine hQ _ _ _ ?_
      refine RetP.pick [(m.length + 2, N), (m.length + 8, Fs.length)] (Or.inr rfl) ?_ ?_ ?_ hwf ?_
      · simp only [resA, resOne, resTv, AV.tv, push_cast, Nat.reduceAdd, Nat.reduceMul, Nat.reduceSub, Nat.reduceLeDiff, Nat.reduceLT, Nat.reduceEqDiff, Nat.reduceBEq, Nat.reduceBNe, Nat.reduceMod, Nat.reduceDiv, Int.reduceLE, Int.reduceLT, Int.reduceToNat, Int.reduceAdd, Int.reduceSub, Int.reduceMul, Int.reduceNeg, Int.reduceEq, Int.reduceBEq, Int.reduceBNe, ↓reduceIte, reduceCtorEq, String.reduceBNe, String.reduceEq, reduceDIte, Nat.reducePow]
        simp [renV, renT, renL, renC, renIdx, hlt0]
      · simp only [picks, push_cast, Nat.reduceAdd, Nat.reduceMul, Nat.reduceSub, Nat.reduceLeDiff, Nat.reduceLT, Nat.reduceEqDiff, Nat.reduceBEq, Nat.reduceBNe, Nat.reduceMod, Nat.reduceDiv, Int.reduceLE, Int.reduceLT, Int.reduceToNat, Int.reduceAdd, Int.reduceSub, Int.reduceMul, Int.reduceNeg, Int.reduceEq, Int.reduceBEq, Int.reduceBNe, ↓reduceIte, reduceCtorEq, String.reduceBNe, String.reduceEq, reduceDIte, Nat.reducePow]
      · simp [distinctFrom]
      · exact MWf_cons (tL_below _ _) (MWf_one (tL_below _ _))
end Go.Proofs.Ytiogpaehelpmhaa

set_option linter.unusedSimpArgs false
set_option linter.unusedVariables false
set_option maxRecDepth 100000
set_option maxHeartbeats 4000000
namespace Go.Proofs.Ytiogpaehelpmhaa
open Go Go.Eng

def shF (n : Nat) (t : T3) : T3 := (t.1 + n, t.2.1 + n, t.2.2 + n)
theorem tk_step {l : List T3} {i : Nat} {t : T3} (h : l[i]? = some t) : tL (l.take i) ++ tC t = tL (l.take (i + 1)) := by
  rw [List.take_add_one, h]; simp [tL]
theorem tk2_step {a l : List T3} {f : T3 → T3} {i : Nat} {t : T3} (h : l[i]? = some t) : tL (a ++ (l.map f).take i) ++ tC (f t) = tL (a ++ (l.map f).take (i + 1)) := by
  rw [← tL_app, ← tL_app, ← take_step h, List.append_assoc]
theorem join2_c (rp1 vp1 rf1 vf1 : Nat) (P1 F1 : List T3) (rp2 vp2 rf2 vf2 : Nat) (P2 F2 : List T3) (r v : Nat) (m : AMem) (hrow : m[r]? = some ⟨.grow, 37, v, 2, [.sl rp1 vp1 0 P1.length, .sl rf1 vf1 0 F1.length, .sl rp2 vp2 0 P2.length, .sl rf2 vf2 0 F2.length]⟩) (hp1 : rp1 < m.length) (hpt1 : TRow m 49 rp1 vp1 P1) (hf1 : TRow m 54 rf1 vf1 F1) (hc1 : chk P1.length F1 = 0) (hp2 : rp2 < m.length) (hpt2 : TRow m 49 rp2 vp2 P2) (hf2 : TRow m 54 rf2 vf2 F2) (hc2 : chk P2.length F2 = 0) (hc3 : chk (P1.length + P2.length) (F1 ++ F2.map (shF P1.length)) = 0) : Ctr Try.prog 10 [.one (.sl r v 0 2)] m (.tup [(true, [.sl m.length 0 0 (P1.length + P2.length), .sl (m.length + 1) 0 0 (F1.length + F2.length)]), (false, [.int .i64 0])]) (m ++ [⟨.grow, 49, 0, 3, tL (P1 ++ P2)⟩, ⟨.grow, 54, 0, 3, tL (F1 ++ F2.map (shF P1.length))⟩]) := by
  refine Ctr.enter Try.func10 rfl (by decide) (rs := [.cell 2 37, .tmp 3]) (nt := 67) rfl rfl fun hwf Q hQ => ?_
  have hlt0 : ∀ k, ¬ m.length + k < m.length := fun k => by omega
  have hrl := get_lt hrow
  obtain ⟨kp1, ezp1, hbp1⟩ := hpt1.hb
  obtain ⟨kf1, ezf1, hbf1⟩ := hf1.hb
  have hrf1 := get_lt hbf1
  have hl1 := chk_len hc1
  have ok1 := chk_ok hc1
  have b1 : (chk P1.length F1 != 0) = false := by simp [hc1]
  have tv1 := tL_vals P1
  have tt1 := tL_take P1
  have tl1 := tL_len P1
  obtain ⟨kp2, ezp2, hbp2⟩ := hpt2.hb
  obtain ⟨kf2, ezf2, hbf2⟩ := hf2.hb
  have hrf2 := get_lt hbf2
  have hl2 := chk_len hc2
  have ok2 := chk_ok hc2
  have b2 : (chk P2.length F2 != 0) = false := by simp [hc2]
  have tv2 := tL_vals P2
  have tt2 := tL_take P2
  have tl2 := tL_len P2
  have hl3 := chk_len hc3
  have b3 : (chk (P1.length + P2.length) (F1 ++ F2.map (shF P1.length)) != 0) = false := by simp [hc3]
  have hap : tL P1 ++ tL P2 = tL (P1 ++ P2) := tL_app _ _
  have n1 : P1.length ≤ 140737488355328 := by omega
  have n2 : P1.length * 24 ≤ 140737488355328 := by omega
  have n3 : P1.length + P2.length ≤ 140737488355328 := by omega
  have n4 : (P1.length + P2.length) * 24 ≤ 140737488355328 := by omega
  iterate 2
    refine AW.seq_k fun K hK => ?_
    refine AW.region (by decide) ?_
    simp only [push_cast, Nat.reduceAdd, Nat.reduceMul, Nat.reduceSub, Nat.reduceLeDiff, Nat.reduceLT, Nat.reduceEqDiff, Nat.reduceBEq, Nat.reduceBNe, Nat.reduceMod, Nat.reduceDiv, Int.reduceLE, Int.reduceLT, Int.reduceToNat, Int.reduceAdd, Int.reduceSub, Int.reduceMul, Int.reduceNeg, Int.reduceEq, Int.reduceBEq, Int.reduceBNe, ↓reduceIte, reduceCtorEq, String.reduceBNe, String.reduceEq, reduceDIte, Nat.reducePow, hrow, lk_old hrow, hbp1, lk_old hbp1, hbf1, lk_old hbf1, hbp2, lk_old hbp2, hbf2, lk_old hbf2, b1, b2, b3, tv1, tt1, tl1, tv2, tt2, tl2, hap, n1, n2, n3, n4, List.nil_append, Nat.zero_add]
    refine Thn_n ?_
    refine hK _ _ ?_
    clear hK K
  refine AW.seq_k fun K hK => ?_
  refine AW.seq_k fun K hK => ?_
  refine AW.nilCell 49 3 (m.length + 1) 0 (by simp only [push_cast, Nat.reduceAdd, Nat.reduceMul, Nat.reduceSub, Nat.reduceLeDiff, Nat.reduceLT, Nat.reduceEqDiff, Nat.reduceBEq, Nat.reduceBNe, Nat.reduceMod, Nat.reduceDiv, Int.reduceLE, Int.reduceLT, Int.reduceToNat, Int.reduceAdd, Int.reduceSub, Int.reduceMul, Int.reduceNeg, Int.reduceEq, Int.reduceBEq, Int.reduceBNe, ↓reduceIte, reduceCtorEq, String.reduceBNe, String.reduceEq, reduceDIte, Nat.reducePow]; first | done | rfl) (by intro e; cases e) rfl ?_
  try simp only [push_cast, Nat.reduceAdd, Nat.reduceMul, Nat.reduceSub, Nat.reduceLeDiff, Nat.reduceLT, Nat.reduceEqDiff, Nat.reduceBEq, Nat.reduceBNe, Nat.reduceMod, Nat.reduceDiv, Int.reduceLE, Int.reduceLT, Int.reduceToNat, Int.reduceAdd, Int.reduceSub, Int.reduceMul, Int.reduceNeg, Int.reduceEq, Int.reduceBEq, Int.reduceBNe, ↓reduceIte, reduceCtorEq, String.reduceBNe, String.reduceEq, reduceDIte, Nat.reducePow]
  refine AW.nilCell 54 3 (m.length + 1) 1 (by simp only [push_cast, Nat.reduceAdd, Nat.reduceMul, Nat.reduceSub, Nat.reduceLeDiff, Nat.reduceLT, Nat.reduceEqDiff, Nat.reduceBEq, Nat.reduceBNe, Nat.reduceMod, Nat.reduceDiv, Int.reduceLE, Int.reduceLT, Int.reduceToNat, Int.reduceAdd, Int.reduceSub, Int.reduceMul, Int.reduceNeg, Int.reduceEq, Int.reduceBEq, Int.reduceBNe, ↓reduceIte, reduceCtorEq, String.reduceBNe, String.reduceEq, reduceDIte, Nat.reducePow]; first | done | rfl) (by intro e; cases e) rfl ?_
  try simp only [push_cast, Nat.reduceAdd, Nat.reduceMul, Nat.reduceSub, Nat.reduceLeDiff, Nat.reduceLT, Nat.reduceEqDiff, Nat.reduceBEq, Nat.reduceBNe, Nat.reduceMod, Nat.reduceDiv, Int.reduceLE, Int.reduceLT, Int.reduceToNat, Int.reduceAdd, Int.reduceSub, Int.reduceMul, Int.reduceNeg, Int.reduceEq, Int.reduceBEq, Int.reduceBNe, ↓reduceIte, reduceCtorEq, String.reduceBNe, String.reduceEq, reduceDIte, Nat.reducePow]
  refine AW.region (by decide) ?_
  simp only [push_cast, Nat.reduceAdd, Nat.reduceMul, Nat.reduceSub, Nat.reduceLeDiff, Nat.reduceLT, Nat.reduceEqDiff, Nat.reduceBEq, Nat.reduceBNe, Nat.reduceMod, Nat.reduceDiv, Int.reduceLE, Int.reduceLT, Int.reduceToNat, Int.reduceAdd, Int.reduceSub, Int.reduceMul, Int.reduceNeg, Int.reduceEq, Int.reduceBEq, Int.reduceBNe, ↓reduceIte, reduceCtorEq, String.reduceBNe, String.reduceEq, reduceDIte, Nat.reducePow, hrow, lk_old hrow, hbp1, lk_old hbp1, hbf1, lk_old hbf1, hbp2, lk_old hbp2, hbf2, lk_old hbf2, b1, b2, b3, tv1, tt1, tl1, tv2, tt2, tl2, hap, n1, n2, n3, n4, List.nil_append, Nat.zero_add]
  refine Thn_n ?_
  refine hK _ _ ?_
  clear hK K
  refine AW.block ?_
  refine AW.rounds 3 ?_
  refine ARounds.succ fun K hK => ?_
  refine AW.seq_k fun K hK => ?_
  refine AW.region (by decide) ?_
  simp only [push_cast, Nat.reduceAdd, Nat.reduceMul, Nat.reduceSub, Nat.reduceLeDiff, Nat.reduceLT, Nat.reduceEqDiff, Nat.reduceBEq, Nat.reduceBNe, Nat.reduceMod, Nat.reduceDiv, Int.reduceLE, Int.reduceLT, Int.reduceToNat, Int.reduceAdd, Int.reduceSub, Int.reduceMul, Int.reduceNeg, Int.reduceEq, Int.reduceBEq, Int.reduceBNe, ↓reduceIte, reduceCtorEq, String.reduceBNe, String.reduceEq, reduceDIte, Nat.reducePow, hrow, lk_old hrow, hbp1, lk_old hbp1, hbf1, lk_old hbf1, hbp2, lk_old hbp2, hbf2, lk_old hbf2, b1, b2, b3, tv1, tt1, tl1, tv2, tt2, tl2, hap, n1, n2, n3, n4, List.nil_append, Nat.zero_add]
  refine Thn_n ?_
  refine hK _ _ ?_
  clear hK K
  refine AW.seq_k fun K hK => ?_
  refine AW.cond_t rfl ?_
  refine AW.skip ?_
  refine Thn_n ?_
  refine hK _ _ ?_
  clear hK K
  refine AW.seq_k fun K hK => ?_
  refine AW.block ?_
  refine AW.seq_k fun K hK => ?_
  refine AW.region (by decide) ?_
  simp only [push_cast, Nat.reduceAdd, Nat.reduceMul, Nat.reduceSub, Nat.reduceLeDiff, Nat.reduceLT, Nat.reduceEqDiff, Nat.reduceBEq, Nat.reduceBNe, Nat.reduceMod, Nat.reduceDiv, Int.reduceLE, Int.reduceLT, Int.reduceToNat, Int.reduceAdd, Int.reduceSub, Int.reduceMul, Int.reduceNeg, Int.reduceEq, Int.reduceBEq, Int.reduceBNe, ↓reduceIte, reduceCtorEq, String.reduceBNe, String.reduceEq, reduceDIte, Nat.reducePow, hrow, lk_old hrow, hbp1, lk_old hbp1, hbf1, lk_old hbf1, hbp2, lk_old hbp2, hbf2, lk_old hbf2, b1, b2, b3, tv1, tt1, tl1, tv2, tt2, tl2, hap, n1, n2, n3, n4, List.nil_append, Nat.zero_add]
  refine Thn_n ?_
  refine hK _ _ ?_
  clear hK K
  refine AW.seq_k fun K hK => ?_
  refine AW.seq_k fun K hK => ?_
  refine AW.region (by decide) ?_
  simp only [push_cast, Nat.reduceAdd, Nat.reduceMul, Nat.reduceSub, Nat.reduceLeDiff, Nat.reduceLT, Nat.reduceEqDiff, Nat.reduceBEq, Nat.reduceBNe, Nat.reduceMod, Nat.reduceDiv, Int.reduceLE, Int.reduceLT, Int.reduceToNat, Int.reduceAdd, Int.reduceSub, Int.reduceMul, Int.reduceNeg, Int.reduceEq, Int.reduceBEq, Int.reduceBNe, ↓reduceIte, reduceCtorEq, String.reduceBNe, String.reduceEq, reduceDIte, Nat.reducePow, hrow, lk_old hrow, hbp1, lk_old hbp1, hbf1, lk_old hbf1, hbp2, lk_old hbp2, hbf2, lk_old hbf2, b1, b2, b3, tv1, tt1, tl1, tv2, tt2, tl2, hap, n1, n2, n3, n4, List.nil_append, Nat.zero_add]
  refine CThen.by (check_c rp1 vp1 rf1 vf1 P1 F1 _ (by simp; omega) (hf1.mono _)) ?_
  simp only [push_cast, Nat.reduceAdd, Nat.reduceMul, Nat.reduceSub, Nat.reduceLeDiff, Nat.reduceLT, Nat.reduceEqDiff, Nat.reduceBEq, Nat.reduceBNe, Nat.reduceMod, Nat.reduceDiv, Int.reduceLE, Int.reduceLT, Int.reduceToNat, Int.reduceAdd, Int.reduceSub, Int.reduceMul, Int.reduceNeg, Int.reduceEq, Int.reduceBEq, Int.reduceBNe, ↓reduceIte, reduceCtorEq, String.reduceBNe, String.reduceEq, reduceDIte, Nat.reducePow, hrow, lk_old hrow, hbp1, lk_old hbp1, hbf1, lk_old hbf1, hbp2, lk_old hbp2, hbf2, lk_old hbf2, b1, b2, b3, tv1, tt1, tl1, tv2, tt2, tl2, hap, n1, n2, n3, n4, List.nil_append, Nat.zero_add]
  refine Thn_n ?_
  refine hK _ _ ?_
  clear hK K
  refine AW.seq_k fun K hK => ?_
  refine AW.region (by decide) ?_
  simp only [push_cast, Nat.reduceAdd, Nat.reduceMul, Nat.reduceSub, Nat.reduceLeDiff, Nat.reduceLT, Nat.reduceEqDiff, Nat.reduceBEq, Nat.reduceBNe, Nat.reduceMod, Nat.reduceDiv, Int.reduceLE, Int.reduceLT, Int.reduceToNat, Int.reduceAdd, Int.reduceSub, Int.reduceMul, Int.reduceNeg, Int.reduceEq, Int.reduceBEq, Int.reduceBNe, ↓reduceIte, reduceCtorEq, String.reduceBNe, String.reduceEq, reduceDIte, Nat.reducePow, hrow, lk_old hrow, hbp1, lk_old hbp1, hbf1, lk_old hbf1, hbp2, lk_old hbp2, hbf2, lk_old hbf2, b1, b2, b3, tv1, tt1, tl1, tv2, tt2, tl2, hap, n1, n2, n3, n4, List.nil_append, Nat.zero_add]
  refine Thn_n ?_
  refine hK _ _ ?_
  clear hK K
  refine AW.cond_f rfl ?_
  refine AW.skip ?_
  iterate 2
    refine Thn_n ?_
    refine hK _ _ ?_
    clear hK K
    refine AW.seq_k fun K hK => ?_
    refine AW.region (by decide) ?_
    simp only [push_cast, Nat.reduceAdd, Nat.reduceMul, Nat.reduceSub, Nat.reduceLeDiff, Nat.reduceLT, Nat.reduceEqDiff, Nat.reduceBEq, Nat.reduceBNe, Nat.reduceMod, Nat.reduceDiv, Int.reduceLE, Int.reduceLT, Int.reduceToNat, Int.reduceAdd, Int.reduceSub, Int.reduceMul, Int.reduceNeg, Int.reduceEq, Int.reduceBEq, Int.reduceBNe, ↓reduceIte, reduceCtorEq, String.reduceBNe, String.reduceEq, reduceDIte, Nat.reducePow, hrow, lk_old hrow, hbp1, lk_old hbp1, hbf1, lk_old hbf1, hbp2, lk_old hbp2, hbf2, lk_old hbf2, b1, b2, b3, tv1, tt1, tl1, tv2, tt2, tl2, hap, n1, n2, n3, n4, List.nil_append, Nat.zero_add]
  refine Thn_n ?_
  refine hK _ _ ?_
  clear hK K
  refine AW.seq_k fun K hK => ?_
  refine AW.seq_k fun K hK => ?_
  refine AW.region (by decide) ?_
  simp only [push_cast, Nat.reduceAdd, Nat.reduceMul, Nat.reduceSub, Nat.reduceLeDiff, Nat.reduceLT, Nat.reduceEqDiff, Nat.reduceBEq, Nat.reduceBNe, Nat.reduceMod, Nat.reduceDiv, Int.reduceLE, Int.reduceLT, Int.reduceToNat, Int.reduceAdd, Int.reduceSub, Int.reduceMul, Int.reduceNeg, Int.reduceEq, Int.reduceBEq, Int.reduceBNe, ↓reduceIte, reduceCtorEq, String.reduceBNe, String.reduceEq, reduceDIte, Nat.reducePow, hrow, lk_old hrow, hbp1, lk_old hbp1, hbf1, lk_old hbf1, hbp2, lk_old hbp2, hbf2, lk_old hbf2, b1, b2, b3, tv1, tt1, tl1, tv2, tt2, tl2, hap, n1, n2, n3, n4, List.nil_append, Nat.zero_add]
  refine Thn_n ?_
  refine hK _ _ ?_
  clear hK K
  refine AW.block ?_
  refine AW.loopK [2, 4, 8, 12, 13, 14, 34, 35] (fun i => i ≤ F1.length) (fun i => [(36, .one (.int .i64 (i : Int)))]) (fun i => [(m.length + 1, ⟨.fix, 37, 0, 0, [.sl (m.length + 2) 1 0 P1.length, .sl (m.length + 3) i 0 i]⟩), (m.length + 3, ⟨.grow, 54, i, 3, tL (F1.take i)⟩)]) (fun i => F1.length - i) 0 (by omega) ?_ ?_ fun i hi17 => ?_
  · first | rfl | (simp only [Keeps, Tm.get_cons, Nat.reduceEqDiff, ↓reduceIte, if_true, if_false, ite_true, ite_false, true_and, and_true, and_self, reduceCtorEq, Int.natCast_zero, List.take_zero, tL, List.flatMap_nil, Nat.add_zero, List.append_nil] <;> rfl)
  · first | rfl | (simp only [setAll, push_cast, Nat.reduceAdd, Nat.reduceMul, Nat.reduceSub, Nat.reduceLeDiff, Nat.reduceLT, Nat.reduceEqDiff, Nat.reduceBEq, Nat.reduceBNe, Nat.reduceMod, Nat.reduceDiv, Int.reduceLE, Int.reduceLT, Int.reduceToNat, Int.reduceAdd, Int.reduceSub, Int.reduceMul, Int.reduceNeg, Int.reduceEq, Int.reduceBEq, Int.reduceBNe, ↓reduceIte, reduceCtorEq, String.reduceBNe, String.reduceEq, reduceDIte, Nat.reducePow, hrow, lk_old hrow, hbp1, lk_old hbp1, hbf1, lk_old hbf1, hbp2, lk_old hbp2, hbf2, lk_old hbf2, b1, b2, b3, tv1, tt1, tl1, tv2, tt2, tl2, hap, n1, n2, n3, n4, List.nil_append, Nat.zero_add, Int.natCast_zero, List.take_zero, tL, List.flatMap_nil, Nat.add_zero, List.append_nil] <;> rfl)
  try simp only [keepL, setAll, push_cast, Nat.reduceAdd, Nat.reduceMul, Nat.reduceSub, Nat.reduceLeDiff, Nat.reduceLT, Nat.reduceEqDiff, Nat.reduceBEq, Nat.reduceBNe, Nat.reduceMod, Nat.reduceDiv, Int.reduceLE, Int.reduceLT, Int.reduceToNat, Int.reduceAdd, Int.reduceSub, Int.reduceMul, Int.reduceNeg, Int.reduceEq, Int.reduceBEq, Int.reduceBNe, ↓reduceIte, reduceCtorEq, String.reduceBNe, String.reduceEq, reduceDIte, Nat.reducePow, hrow, lk_old hrow, hbp1, lk_old hbp1, hbf1, lk_old hbf1, hbp2, lk_old hbp2, hbf2, lk_old hbf2, b1, b2, b3, tv1, tt1, tl1, tv2, tt2, tl2, hap, n1, n2, n3, n4, List.nil_append, Nat.zero_add]
  refine AW.seq_k fun K hK => ?_
  refine AW.region (by decide) ?_
  simp only [push_cast, Nat.reduceAdd, Nat.reduceMul, Nat.reduceSub, Nat.reduceLeDiff, Nat.reduceLT, Nat.reduceEqDiff, Nat.reduceBEq, Nat.reduceBNe, Nat.reduceMod, Nat.reduceDiv, Int.reduceLE, Int.reduceLT, Int.reduceToNat, Int.reduceAdd, Int.reduceSub, Int.reduceMul, Int.reduceNeg, Int.reduceEq, Int.reduceBEq, Int.reduceBNe, ↓reduceIte, reduceCtorEq, String.reduceBNe, String.reduceEq, reduceDIte, Nat.reducePow, hrow, lk_old hrow, hbp1, lk_old hbp1, hbf1, lk_old hbf1, hbp2, lk_old hbp2, hbf2, lk_old hbf2, b1, b2, b3, tv1, tt1, tl1, tv2, tt2, tl2, hap, n1, n2, n3, n4, List.nil_append, Nat.zero_add]
  refine Thn_n ?_
  refine hK _ _ ?_
  clear hK K
  refine AW.seq_k fun K hK => ?_
  refine AW.cond rfl (fun h37 => ?_) (fun h37 => ?_)
  · have hlt : i < F1.length := by have := of_decide_eq_true h37; omega
    have c1 : (0 : Int) ≤ (i : Int) := by omega
    have c2 : (i : Int) < (F1.length : Nat) := by omega
    have c3 : i * 3 + 3 ≤ F1.length * 3 := by omega
    obtain ⟨t, ht⟩ : ∃ t, F1[i]? = some t := ⟨_, List.getElem?_eq_getElem hlt⟩
    have g0 := tL_get0 ht
    have g1 := tL_get1 ht
    have g2 := tL_get2 ht
    have g3 := tL_at ht
    have gl := tL_len F1
    have ho := ok1 t (List.mem_of_getElem? ht)
    have i0 := fv_in ho 0
    have i1 := fv_in ho 1
    have i2 := fv_in ho 2
    simp only [fv] at i0 i1 i2
    have w0 : IntKind.i64.wrap t.1 = t.1 := wi (by omega)
    have w1 : IntKind.i64.wrap t.2.1 = t.2.1 := wi (by omega)
    have w2 : IntKind.i64.wrap t.2.2 = t.2.2 := wi (by omega)
    have hst : tL (F1.take i) ++ [.int .i64 t.1, .int .i64 t.2.1, .int .i64 t.2.2] = tL (F1.take (i + 1)) := tk_step ht
    have htk : (tL (F1.take i)).length = i * 3 := by rw [tL_len, List.length_take]; congr 1; omega
    have m1 : i ≤ 140737488355327 := by omega
    have m2 : (i + 1) * 24 ≤ 140737488355328 := by omega
    refine AW.skip ?_
    refine Thn_n ?_
    refine hK _ _ ?_
    clear hK K
    refine AW.seq_k fun K hK => ?_
    refine AW.block ?_
    refine AW.seq_k fun K hK => ?_
    refine AW.region (by decide) ?_
    simp only [push_cast, Nat.reduceAdd, Nat.reduceMul, Nat.reduceSub, Nat.reduceLeDiff, Nat.reduceLT, Nat.reduceEqDiff, Nat.reduceBEq, Nat.reduceBNe, Nat.reduceMod, Nat.reduceDiv, Int.reduceLE, Int.reduceLT, Int.reduceToNat, Int.reduceAdd, Int.reduceSub, Int.reduceMul, Int.reduceNeg, Int.reduceEq, Int.reduceBEq, Int.reduceBNe, ↓reduceIte, reduceCtorEq, String.reduceBNe, String.reduceEq, reduceDIte, Nat.reducePow, hrow, lk_old hrow, hbp1, lk_old hbp1, hbf1, lk_old hbf1, hbp2, lk_old hbp2, hbf2, lk_old hbf2, b1, b2, b3, tv1, tt1, tl1, tv2, tt2, tl2, hap, n1, n2, n3, n4, List.nil_append, Nat.zero_add, c1, c2, c3, g0, g1, g2, g3, gl, w0, w1, w2, Int.add_zero, htk, m1, m2]
    refine Thn_n ?_
    refine hK _ _ ?_
    clear hK K
    refine AW.region (by decide) ?_
    simp only [push_cast, Nat.reduceAdd, Nat.reduceMul, Nat.reduceSub, Nat.reduceLeDiff, Nat.reduceLT, Nat.reduceEqDiff, Nat.reduceBEq, Nat.reduceBNe, Nat.reduceMod, Nat.reduceDiv, Int.reduceLE, Int.reduceLT, Int.reduceToNat, Int.reduceAdd, Int.reduceSub, Int.reduceMul, Int.reduceNeg, Int.reduceEq, Int.reduceBEq, Int.reduceBNe, ↓reduceIte, reduceCtorEq, String.reduceBNe, String.reduceEq, reduceDIte, Nat.reducePow, hrow, lk_old hrow, hbp1, lk_old hbp1, hbf1, lk_old hbf1, hbp2, lk_old hbp2, hbf2, lk_old hbf2, b1, b2, b3, tv1, tt1, tl1, tv2, tt2, tl2, hap, n1, n2, n3, n4, List.nil_append, Nat.zero_add, c1, c2, c3, g0, g1, g2, g3, gl, w0, w1, w2, Int.add_zero, htk, m1, m2]
    refine InB_n ?_
    refine Thn_n ?_
    refine hK _ _ ?_
    clear hK K
    refine AW.region (by decide) ?_
    simp only [push_cast, Nat.reduceAdd, Nat.reduceMul, Nat.reduceSub, Nat.reduceLeDiff, Nat.reduceLT, Nat.reduceEqDiff, Nat.reduceBEq, Nat.reduceBNe, Nat.reduceMod, Nat.reduceDiv, Int.reduceLE, Int.reduceLT, Int.reduceToNat, Int.reduceAdd, Int.reduceSub, Int.reduceMul, Int.reduceNeg, Int.reduceEq, Int.reduceBEq, Int.reduceBNe, ↓reduceIte, reduceCtorEq, String.reduceBNe, String.reduceEq, reduceDIte, Nat.reducePow, hrow, lk_old hrow, hbp1, lk_old hbp1, hbf1, lk_old hbf1, hbp2, lk_old hbp2, hbf2, lk_old hbf2, b1, b2, b3, tv1, tt1, tl1, tv2, tt2, tl2, hap, n1, n2, n3, n4, List.nil_append, Nat.zero_add, c1, c2, c3, g0, g1, g2, g3, gl, w0, w1, w2, Int.add_zero, htk, m1, m2]
    refine Thn_n ?_
    have hwi : IntKind.i64.wrap ((i:Int)+1) = (i:Int)+1 := wi (by omega)
    refine ⟨i + 1, by omega, by omega, ?_⟩
    try simp only [keepL, setAll, push_cast, Nat.reduceAdd, Nat.reduceMul, Nat.reduceSub, Nat.reduceLeDiff, Nat.reduceLT, Nat.reduceEqDiff, Nat.reduceBEq, Nat.reduceBNe, Nat.reduceMod, Nat.reduceDiv, Int.reduceLE, Int.reduceLT, Int.reduceToNat, Int.reduceAdd, Int.reduceSub, Int.reduceMul, Int.reduceNeg, Int.reduceEq, Int.reduceBEq, Int.reduceBNe, ↓reduceIte, reduceCtorEq, String.reduceBNe, String.reduceEq, reduceDIte, Nat.reducePow, hrow, lk_old hrow, hbp1, lk_old hbp1, hbf1, lk_old hbf1, hbp2, lk_old hbp2, hbf2, lk_old hbf2, b1, b2, b3, tv1, tt1, tl1, tv2, tt2, tl2, hap, n1, n2, n3, n4, List.nil_append, Nat.zero_add, c1, c2, c3, g0, g1, g2, g3, gl, w0, w1, w2, Int.add_zero, htk, m1, m2, hwi, hst]
    exact Weak.to (extra := [_, _]) (by simp only [Keeps, Tm.get_cons, Nat.reduceEqDiff, ↓reduceIte, if_true, if_false, ite_true, ite_false, true_and, and_true, and_self, reduceCtorEq, hwi, hst]) (by first | rfl | (simp only [List.append_assoc, List.cons_append, List.nil_append]; rfl)) (by first | rfl | (simp [AV.below, CV.below, tL_below]; done) | (simp [AV.below, CV.below, tL_below]; omega)) (by
      first | exact hwf | refine MWf.app (hwf.grow (by simp)) ?_
      repeat (first | exact MWf_nil | (refine MWf_cons ?_ ?_; · first | rfl | (simp [CV.below, tL_below]; done) | (simp [CV.below, tL_below]; omega))))
  · have hin : i = F1.length := by have := of_decide_eq_false h37; omega
    subst hin
    have hta : F1.take F1.length = F1 := List.take_of_length_le (Nat.le_refl _)
    refine AW.exit ?_
    refine Thn_e ?_
    clear hK K
    refine Thn_e ?_
    refine InB_here ?_
    refine Thn_n ?_
    refine hK _ _ ?_
    clear hK K
    refine AW.seq_k fun K hK => ?_
    refine AW.region (by decide) ?_
    simp only [push_cast, Nat.reduceAdd, Nat.reduceMul, Nat.reduceSub, Nat.reduceLeDiff, Nat.reduceLT, Nat.reduceEqDiff, Nat.reduceBEq, Nat.reduceBNe, Nat.reduceMod, Nat.reduceDiv, Int.reduceLE, Int.reduceLT, Int.reduceToNat, Int.reduceAdd, Int.reduceSub, Int.reduceMul, Int.reduceNeg, Int.reduceEq, Int.reduceBEq, Int.reduceBNe, ↓reduceIte, reduceCtorEq, String.reduceBNe, String.reduceEq, reduceDIte, Nat.reducePow, hrow, lk_old hrow, hbp1, lk_old hbp1, hbf1, lk_old hbf1, hbp2, lk_old hbp2, hbf2, lk_old hbf2, b1, b2, b3, tv1, tt1, tl1, tv2, tt2, tl2, hap, n1, n2, n3, n4, List.nil_append, Nat.zero_add, hta]
    refine CThen.by (check_c (m.length + 2) 1 (m.length + 3) F1.length P1 F1 _ (by simp) ⟨.grow, 3, by simp only [push_cast, Nat.reduceAdd, Nat.reduceMul, Nat.reduceSub, Nat.reduceLeDiff, Nat.reduceLT, Nat.reduceEqDiff, Nat.reduceBEq, Nat.reduceBNe, Nat.reduceMod, Nat.reduceDiv, Int.reduceLE, Int.reduceLT, Int.reduceToNat, Int.reduceAdd, Int.reduceSub, Int.reduceMul, Int.reduceNeg, Int.reduceEq, Int.reduceBEq, Int.reduceBNe, ↓reduceIte, reduceCtorEq, String.reduceBNe, String.reduceEq, reduceDIte, Nat.reducePow]⟩) ?_
    simp only [push_cast, Nat.reduceAdd, Nat.reduceMul, Nat.reduceSub, Nat.reduceLeDiff, Nat.reduceLT, Nat.reduceEqDiff, Nat.reduceBEq, Nat.reduceBNe, Nat.reduceMod, Nat.reduceDiv, Int.reduceLE, Int.reduceLT, Int.reduceToNat, Int.reduceAdd, Int.reduceSub, Int.reduceMul, Int.reduceNeg, Int.reduceEq, Int.reduceBEq, Int.reduceBNe, ↓reduceIte, reduceCtorEq, String.reduceBNe, String.reduceEq, reduceDIte, Nat.reducePow, hrow, lk_old hrow, hbp1, lk_old hbp1, hbf1, lk_old hbf1, hbp2, lk_old hbp2, hbf2, lk_old hbf2, b1, b2, b3, tv1, tt1, tl1, tv2, tt2, tl2, hap, n1, n2, n3, n4, List.nil_append, Nat.zero_add, hta]
    refine Thn_n ?_
    refine hK _ _ ?_
    clear hK K
    refine AW.seq_k fun K hK => ?_
    refine AW.region (by decide) ?_
    simp only [push_cast, Nat.reduceAdd, Nat.reduceMul, Nat.reduceSub, Nat.reduceLeDiff, Nat.reduceLT, Nat.reduceEqDiff, Nat.reduceBEq, Nat.reduceBNe, Nat.reduceMod, Nat.reduceDiv, Int.reduceLE, Int.reduceLT, Int.reduceToNat, Int.reduceAdd, Int.reduceSub, Int.reduceMul, Int.reduceNeg, Int.reduceEq, Int.reduceBEq, Int.reduceBNe, ↓reduceIte, reduceCtorEq, String.reduceBNe, String.reduceEq, reduceDIte, Nat.reducePow, hrow, lk_old hrow, hbp1, lk_old hbp1, hbf1, lk_old hbf1, hbp2, lk_old hbp2, hbf2, lk_old hbf2, b1, b2, b3, tv1, tt1, tl1, tv2, tt2, tl2, hap, n1, n2, n3, n4, List.nil_append, Nat.zero_add, hta]
    refine Thn_n ?_
    refine hK _ _ ?_
    clear hK K
    refine AW.cond_f rfl ?_
    refine AW.skip ?_
    refine InB_n ?_
    refine Thn_n ?_
    refine hK _ _ ?_
    clear hK K
    refine AW.region (by decide) ?_
    simp only [push_cast, Nat.reduceAdd, Nat.reduceMul, Nat.reduceSub, Nat.reduceLeDiff, Nat.reduceLT, Nat.reduceEqDiff, Nat.reduceBEq, Nat.reduceBNe, Nat.reduceMod, Nat.reduceDiv, Int.reduceLE, Int.reduceLT, Int.reduceToNat, Int.reduceAdd, Int.reduceSub, Int.reduceMul, Int.reduceNeg, Int.reduceEq, Int.reduceBEq, Int.reduceBNe, ↓reduceIte, reduceCtorEq, String.reduceBNe, String.reduceEq, reduceDIte, Nat.reducePow, hrow, lk_old hrow, hbp1, lk_old hbp1, hbf1, lk_old hbf1, hbp2, lk_old hbp2, hbf2, lk_old hbf2, b1, b2, b3, tv1, tt1, tl1, tv2, tt2, tl2, hap, n1, n2, n3, n4, List.nil_append, Nat.zero_add, hta]
    refine Thn_n ?_
    refine hK _ _ ?_
    clear hK K
    refine ARounds.succ fun K hK => ?_
    refine AW.seq_k fun K hK => ?_
    refine AW.region (by decide) ?_
    simp only [push_cast, Nat.reduceAdd, Nat.reduceMul, Nat.reduceSub, Nat.reduceLeDiff, Nat.reduceLT, Nat.reduceEqDiff, Nat.reduceBEq, Nat.reduceBNe, Nat.reduceMod, Nat.reduceDiv, Int.reduceLE, Int.reduceLT, Int.reduceToNat, Int.reduceAdd, Int.reduceSub, Int.reduceMul, Int.reduceNeg, Int.reduceEq, Int.reduceBEq, Int.reduceBNe, ↓reduceIte, reduceCtorEq, String.reduceBNe, String.reduceEq, reduceDIte, Nat.reducePow, hrow, lk_old hrow, hbp1, lk_old hbp1, hbf1, lk_old hbf1, hbp2, lk_old hbp2, hbf2, lk_old hbf2, b1, b2, b3, tv1, tt1, tl1, tv2, tt2, tl2, hap, n1, n2, n3, n4, List.nil_append, Nat.zero_add]
    refine Thn_n ?_
    refine hK _ _ ?_
    clear hK K
    refine AW.seq_k fun K hK => ?_
    refine AW.cond_t rfl ?_
    refine AW.skip ?_
    refine Thn_n ?_
    refine hK _ _ ?_
    clear hK K
    refine AW.seq_k fun K hK => ?_
    refine AW.block ?_
    refine AW.seq_k fun K hK => ?_
    refine AW.region (by decide) ?_
    simp only [push_cast, Nat.reduceAdd, Nat.reduceMul, Nat.reduceSub, Nat.reduceLeDiff, Nat.reduceLT, Nat.reduceEqDiff, Nat.reduceBEq, Nat.reduceBNe, Nat.reduceMod, Nat.reduceDiv, Int.reduceLE, Int.reduceLT, Int.reduceToNat, Int.reduceAdd, Int.reduceSub, Int.reduceMul, Int.reduceNeg, Int.reduceEq, Int.reduceBEq, Int.reduceBNe, ↓reduceIte, reduceCtorEq, String.reduceBNe, String.reduceEq, reduceDIte, Nat.reducePow, hrow, lk_old hrow, hbp1, lk_old hbp1, hbf1, lk_old hbf1, hbp2, lk_old hbp2, hbf2, lk_old hbf2, b1, b2, b3, tv1, tt1, tl1, tv2, tt2, tl2, hap, n1, n2, n3, n4, List.nil_append, Nat.zero_add]
    refine Thn_n ?_
    refine hK _ _ ?_
    clear hK K
    refine AW.seq_k fun K hK => ?_
    refine AW.seq_k fun K hK => ?_
    refine AW.region (by decide) ?_
    simp only [push_cast, Nat.reduceAdd, Nat.reduceMul, Nat.reduceSub, Nat.reduceLeDiff, Nat.reduceLT, Nat.reduceEqDiff, Nat.reduceBEq, Nat.reduceBNe, Nat.reduceMod, Nat.reduceDiv, Int.reduceLE, Int.reduceLT, Int.reduceToNat, Int.reduceAdd, Int.reduceSub, Int.reduceMul, Int.reduceNeg, Int.reduceEq, Int.reduceBEq, Int.reduceBNe, ↓reduceIte, reduceCtorEq, String.reduceBNe, String.reduceEq, reduceDIte, Nat.reducePow, hrow, lk_old hrow, hbp1, lk_old hbp1, hbf1, lk_old hbf1, hbp2, lk_old hbp2, hbf2, lk_old hbf2, b1, b2, b3, tv1, tt1, tl1, tv2, tt2, tl2, hap, n1, n2, n3, n4, List.nil_append, Nat.zero_add]
    refine CThen.by (check_c rp2 vp2 rf2 vf2 P2 F2 _ (by simp; omega) (hf2.mono _)) ?_
    simp only [push_cast, Nat.reduceAdd, Nat.reduceMul, Nat.reduceSub, Nat.reduceLeDiff, Nat.reduceLT, Nat.reduceEqDiff, Nat.reduceBEq, Nat.reduceBNe, Nat.reduceMod, Nat.reduceDiv, Int.reduceLE, Int.reduceLT, Int.reduceToNat, Int.reduceAdd, Int.reduceSub, Int.reduceMul, Int.reduceNeg, Int.reduceEq, Int.reduceBEq, Int.reduceBNe, ↓reduceIte, reduceCtorEq, String.reduceBNe, String.reduceEq, reduceDIte, Nat.reducePow, hrow, lk_old hrow, hbp1, lk_old hbp1, hbf1, lk_old hbf1, hbp2, lk_old hbp2, hbf2, lk_old hbf2, b1, b2, b3, tv1, tt1, tl1, tv2, tt2, tl2, hap, n1, n2, n3, n4, List.nil_append, Nat.zero_add]
    refine Thn_n ?_
    refine hK _ _ ?_
    clear hK K
    refine AW.seq_k fun K hK => ?_
    refine AW.region (by decide) ?_
    simp only [push_cast, Nat.reduceAdd, Nat.reduceMul, Nat.reduceSub, Nat.reduceLeDiff, Nat.reduceLT, Nat.reduceEqDiff, Nat.reduceBEq, Nat.reduceBNe, Nat.reduceMod, Nat.reduceDiv, Int.reduceLE, Int.reduceLT, Int.reduceToNat, Int.reduceAdd, Int.reduceSub, Int.reduceMul, Int.reduceNeg, Int.reduceEq, Int.reduceBEq, Int.reduceBNe, ↓reduceIte, reduceCtorEq, String.reduceBNe, String.reduceEq, reduceDIte, Nat.reducePow, hrow, lk_old hrow, hbp1, lk_old hbp1, hbf1, lk_old hbf1, hbp2, lk_old hbp2, hbf2, lk_old hbf2, b1, b2, b3, tv1, tt1, tl1, tv2, tt2, tl2, hap, n1, n2, n3, n4, List.nil_append, Nat.zero_add]
    refine Thn_n ?_
    refine hK _ _ ?_
    clear hK K
    refine AW.cond_f rfl ?_
    refine AW.skip ?_
    iterate 2
      refine Thn_n ?_
      refine hK _ _ ?_
      clear hK K
      refine AW.seq_k fun K hK => ?_
      refine AW.region (by decide) ?_
      simp only [push_cast, Nat.reduceAdd, Nat.reduceMul, Nat.reduceSub, Nat.reduceLeDiff, Nat.reduceLT, Nat.reduceEqDiff, Nat.reduceBEq, Nat.reduceBNe, Nat.reduceMod, Nat.reduceDiv, Int.reduceLE, Int.reduceLT, Int.reduceToNat, Int.reduceAdd, Int.reduceSub, Int.reduceMul, Int.reduceNeg, Int.reduceEq, Int.reduceBEq, Int.reduceBNe, ↓reduceIte, reduceCtorEq, String.reduceBNe, String.reduceEq, reduceDIte, Nat.reducePow, hrow, lk_old hrow, hbp1, lk_old hbp1, hbf1, lk_old hbf1, hbp2, lk_old hbp2, hbf2, lk_old hbf2, b1, b2, b3, tv1, tt1, tl1, tv2, tt2, tl2, hap, n1, n2, n3, n4, List.nil_append, Nat.zero_add]
    refine Thn_n ?_
    refine hK _ _ ?_
    clear hK K
    refine AW.seq_k fun K hK => ?_
    refine AW.seq_k fun K hK => ?_
    refine AW.region (by decide) ?_
    simp only [push_cast, Nat.reduceAdd, Nat.reduceMul, Nat.reduceSub, Nat.reduceLeDiff, Nat.reduceLT, Nat.reduceEqDiff, Nat.reduceBEq, Nat.reduceBNe, Nat.reduceMod, Nat.reduceDiv, Int.reduceLE, Int.reduceLT, Int.reduceToNat, Int.reduceAdd, Int.reduceSub, Int.reduceMul, Int.reduceNeg, Int.reduceEq, Int.reduceBEq, Int.reduceBNe, ↓reduceIte, reduceCtorEq, String.reduceBNe, String.reduceEq, reduceDIte, Nat.reducePow, hrow, lk_old hrow, hbp1, lk_old hbp1, hbf1, lk_old hbf1, hbp2, lk_old hbp2, hbf2, lk_old hbf2, b1, b2, b3, tv1, tt1, tl1, tv2, tt2, tl2, hap, n1, n2, n3, n4, List.nil_append, Nat.zero_add]
    refine Thn_n ?_
    refine hK _ _ ?_
    clear hK K
    refine AW.block ?_
    refine AW.loopK [2, 4, 8, 12, 13, 14, 34, 35] (fun i => i ≤ F2.length) (fun i => [(36, .one (.int .i64 (i : Int)))]) (fun i => [(m.length + 1, ⟨.fix, 37, 0, 0, [.sl (m.length + 2) 2 0 (P1.length + P2.length), .sl (m.length + 3) (F1.length + i) 0 (F1.length + i)]⟩), (m.length + 3, ⟨.grow, 54, (F1.length + i), 3, tL (F1 ++ (F2.map (shF P1.length)).take i)⟩)]) (fun i => F2.length - i) 0 (by omega) ?_ ?_ fun i hi36 => ?_
    · first | rfl | (simp only [Keeps, Tm.get_cons, Nat.reduceEqDiff, ↓reduceIte, if_true, if_false, ite_true, ite_false, true_and, and_true, and_self, reduceCtorEq, Int.natCast_zero, List.take_zero, tL, List.flatMap_nil, Nat.add_zero, List.append_nil] <;> rfl)
    · first | rfl | (simp only [setAll, push_cast, Nat.reduceAdd, Nat.reduceMul, Nat.reduceSub, Nat.reduceLeDiff, Nat.reduceLT, Nat.reduceEqDiff, Nat.reduceBEq, Nat.reduceBNe, Nat.reduceMod, Nat.reduceDiv, Int.reduceLE, Int.reduceLT, Int.reduceToNat, Int.reduceAdd, Int.reduceSub, Int.reduceMul, Int.reduceNeg, Int.reduceEq, Int.reduceBEq, Int.reduceBNe, ↓reduceIte, reduceCtorEq, String.reduceBNe, String.reduceEq, reduceDIte, Nat.reducePow, hrow, lk_old hrow, hbp1, lk_old hbp1, hbf1, lk_old hbf1, hbp2, lk_old hbp2, hbf2, lk_old hbf2, b1, b2, b3, tv1, tt1, tl1, tv2, tt2, tl2, hap, n1, n2, n3, n4, List.nil_append, Nat.zero_add, Int.natCast_zero, List.take_zero, tL, List.flatMap_nil, Nat.add_zero, List.append_nil] <;> rfl)
    try simp only [keepL, setAll, push_cast, Nat.reduceAdd, Nat.reduceMul, Nat.reduceSub, Nat.reduceLeDiff, Nat.reduceLT, Nat.reduceEqDiff, Nat.reduceBEq, Nat.reduceBNe, Nat.reduceMod, Nat.reduceDiv, Int.reduceLE, Int.reduceLT, Int.reduceToNat, Int.reduceAdd, Int.reduceSub, Int.reduceMul, Int.reduceNeg, Int.reduceEq, Int.reduceBEq, Int.reduceBNe, ↓reduceIte, reduceCtorEq, String.reduceBNe, String.reduceEq, reduceDIte, Nat.reducePow, hrow, lk_old hrow, hbp1, lk_old hbp1, hbf1, lk_old hbf1, hbp2, lk_old hbp2, hbf2, lk_old hbf2, b1, b2, b3, tv1, tt1, tl1, tv2, tt2, tl2, hap, n1, n2, n3, n4, List.nil_append, Nat.zero_add]
    refine AW.seq_k fun K hK => ?_
    refine AW.region (by decide) ?_
    simp only [push_cast, Nat.reduceAdd, Nat.reduceMul, Nat.reduceSub, Nat.reduceLeDiff, Nat.reduceLT, Nat.reduceEqDiff, Nat.reduceBEq, Nat.reduceBNe, Nat.reduceMod, Nat.reduceDiv, Int.reduceLE, Int.reduceLT, Int.reduceToNat, Int.reduceAdd, Int.reduceSub, Int.reduceMul, Int.reduceNeg, Int.reduceEq, Int.reduceBEq, Int.reduceBNe, ↓reduceIte, reduceCtorEq, String.reduceBNe, String.reduceEq, reduceDIte, Nat.reducePow, hrow, lk_old hrow, hbp1, lk_old hbp1, hbf1, lk_old hbf1, hbp2, lk_old hbp2, hbf2, lk_old hbf2, b1, b2, b3, tv1, tt1, tl1, tv2, tt2, tl2, hap, n1, n2, n3, n4, List.nil_append, Nat.zero_add]
    refine Thn_n ?_
    refine hK _ _ ?_
    clear hK K
    refine AW.seq_k fun K hK => ?_
    refine AW.cond rfl (fun h37 => ?_) (fun h37 => ?_)
    · have hlt : i < F2.length := by have := of_decide_eq_true h37; omega
      have c1 : (0 : Int) ≤ (i : Int) := by omega
      have c2 : (i : Int) < (F2.length : Nat) := by omega
      have c3 : i * 3 + 3 ≤ F2.length * 3 := by omega
      obtain ⟨t, ht⟩ : ∃ t, F2[i]? = some t := ⟨_, List.getElem?_eq_getElem hlt⟩
      have g0 := tL_get0 ht
      have g1 := tL_get1 ht
      have g2 := tL_get2 ht
      have g3 := tL_at ht
      have gl := tL_len F2
      have ho := ok2 t (List.mem_of_getElem? ht)
      have i0 := fv_in ho 0
      have i1 := fv_in ho 1
      have i2 := fv_in ho 2
      simp only [fv] at i0 i1 i2
      have w0 : IntKind.i64.wrap (t.1 + P1.length) = t.1 + P1.length := wi (by omega)
      have w1 : IntKind.i64.wrap (t.2.1 + P1.length) = t.2.1 + P1.length := wi (by omega)
      have w2 : IntKind.i64.wrap (t.2.2 + P1.length) = t.2.2 + P1.length := wi (by omega)
      have hst : tL (F1 ++ (F2.map (shF P1.length)).take i) ++ [.int .i64 (t.1 + P1.length), .int .i64 (t.2.1 + P1.length), .int .i64 (t.2.2 + P1.length)] = tL (F1 ++ (F2.map (shF P1.length)).take (i + 1)) := tk2_step ht
      have htk : (tL (F1 ++ (F2.map (shF P1.length)).take i)).length = (F1.length + i) * 3 := by rw [tL_len, List.length_append, List.length_take, List.length_map]; congr 2; omega
      have m1 : F1.length + (i + 1) ≤ 140737488355328 := by omega
      have m2 : (F1.length + (i + 1)) * 24 ≤ 140737488355328 := by omega
      refine AW.skip ?_
      refine Thn_n ?_
      refine hK _ _ ?_
      clear hK K
      refine AW.seq_k fun K hK => ?_
      refine AW.block ?_
      refine AW.seq_k fun K hK => ?_
      refine AW.region (by decide) ?_
      simp only [push_cast, Nat.reduceAdd, Nat.reduceMul, Nat.reduceSub, Nat.reduceLeDiff, Nat.reduceLT, Nat.reduceEqDiff, Nat.reduceBEq, Nat.reduceBNe, Nat.reduceMod, Nat.reduceDiv, Int.reduceLE, Int.reduceLT, Int.reduceToNat, Int.reduceAdd, Int.reduceSub, Int.reduceMul, Int.reduceNeg, Int.reduceEq, Int.reduceBEq, Int.reduceBNe, ↓reduceIte, reduceCtorEq, String.reduceBNe, String.reduceEq, reduceDIte, Nat.reducePow, hrow, lk_old hrow, hbp1, lk_old hbp1, hbf1, lk_old hbf1, hbp2, lk_old hbp2, hbf2, lk_old hbf2, b1, b2, b3, tv1, tt1, tl1, tv2, tt2, tl2, hap, n1, n2, n3, n4, List.nil_append, Nat.zero_add, c1, c2, c3, g0, g1, g2, g3, gl, w0, w1, w2, Int.add_zero, htk, m1, m2]
      refine Thn_n ?_
      refine hK _ _ ?_
      clear hK K
      refine AW.region (by decide) ?_
      simp only [push_cast, Nat.reduceAdd, Nat.reduceMul, Nat.reduceSub, Nat.reduceLeDiff, Nat.reduceLT, Nat.reduceEqDiff, Nat.reduceBEq, Nat.reduceBNe, Nat.reduceMod, Nat.reduceDiv, Int.reduceLE, Int.reduceLT, Int.reduceToNat, Int.reduceAdd, Int.reduceSub, Int.reduceMul, Int.reduceNeg, Int.reduceEq, Int.reduceBEq, Int.reduceBNe, ↓reduceIte, reduceCtorEq, String.reduceBNe, String.reduceEq, reduceDIte, Nat.reducePow, hrow, lk_old hrow, hbp1, lk_old hbp1, hbf1, lk_old hbf1, hbp2, lk_old hbp2, hbf2, lk_old hbf2, b1, b2, b3, tv1, tt1, tl1, tv2, tt2, tl2, hap, n1, n2, n3, n4, List.nil_append, Nat.zero_add, c1, c2, c3, g0, g1, g2, g3, gl, w0, w1, w2, Int.add_zero, htk, m1, m2]
      refine InB_n ?_
      refine Thn_n ?_
      refine hK _ _ ?_
      clear hK K
      refine AW.region (by decide) ?_
      simp only [push_cast, Nat.reduceAdd, Nat.reduceMul, Nat.reduceSub, Nat.reduceLeDiff, Nat.reduceLT, Nat.reduceEqDiff, Nat.reduceBEq, Nat.reduceBNe, Nat.reduceMod, Nat.reduceDiv, Int.reduceLE, Int.reduceLT, Int.reduceToNat, Int.reduceAdd, Int.reduceSub, Int.reduceMul, Int.reduceNeg, Int.reduceEq, Int.reduceBEq, Int.reduceBNe, ↓reduceIte, reduceCtorEq, String.reduceBNe, String.reduceEq, reduceDIte, Nat.reducePow, hrow, lk_old hrow, hbp1, lk_old hbp1, hbf1, lk_old hbf1, hbp2, lk_old hbp2, hbf2, lk_old hbf2, b1, b2, b3, tv1, tt1, tl1, tv2, tt2, tl2, hap, n1, n2, n3, n4, List.nil_append, Nat.zero_add, c1, c2, c3, g0, g1, g2, g3, gl, w0, w1, w2, Int.add_zero, htk, m1, m2]
      refine Thn_n ?_
      have hwi : IntKind.i64.wrap ((i:Int)+1) = (i:Int)+1 := wi (by omega)
      refine ⟨i + 1, by omega, by omega, ?_⟩
      try simp only [keepL, setAll, push_cast, Nat.reduceAdd, Nat.reduceMul, Nat.reduceSub, Nat.reduceLeDiff, Nat.reduceLT, Nat.reduceEqDiff, Nat.reduceBEq, Nat.reduceBNe, Nat.reduceMod, Nat.reduceDiv, Int.reduceLE, Int.reduceLT, Int.reduceToNat, Int.reduceAdd, Int.reduceSub, Int.reduceMul, Int.reduceNeg, Int.reduceEq, Int.reduceBEq, Int.reduceBNe, ↓reduceIte, reduceCtorEq, String.reduceBNe, String.reduceEq, reduceDIte, Nat.reducePow, hrow, lk_old hrow, hbp1, lk_old hbp1, hbf1, lk_old hbf1, hbp2, lk_old hbp2, hbf2, lk_old hbf2, b1, b2, b3, tv1, tt1, tl1, tv2, tt2, tl2, hap, n1, n2, n3, n4, List.nil_append, Nat.zero_add, c1, c2, c3, g0, g1, g2, g3, gl, w0, w1, w2, Int.add_zero, htk, m1, m2, hwi, hst]
      exact Weak.to (extra := [_, _]) (by simp only [Keeps, Tm.get_cons, Nat.reduceEqDiff, ↓reduceIte, if_true, if_false, ite_true, ite_false, true_and, and_true, and_self, reduceCtorEq, hwi, hst]) (by first | rfl | (simp only [List.append_assoc, List.cons_append, List.nil_append]; rfl)) (by first | rfl | (simp [AV.below, CV.below, tL_below]; done) | (simp [AV.below, CV.below, tL_below]; omega)) (by
        first | exact hwf | refine MWf.app (hwf.grow (by simp)) ?_
        repeat (first | exact MWf_nil | (refine MWf_cons ?_ ?_; · first | rfl | (simp [CV.below, tL_below]; done) | (simp [CV.below, tL_below]; omega))))
    · have hin : i = F2.length := by have := of_decide_eq_false h37; omega
      subst hin
      have hta := take_all (shF P1.length) F2
      refine AW.exit ?_
      refine Thn_e ?_
      clear hK K
      refine Thn_e ?_
      refine InB_here ?_
      refine Thn_n ?_
      refine hK _ _ ?_
      clear hK K
      refine AW.seq_k fun K hK => ?_
      refine AW.region (by decide) ?_
      simp only [push_cast, Nat.reduceAdd, Nat.reduceMul, Nat.reduceSub, Nat.reduceLeDiff, Nat.reduceLT, Nat.reduceEqDiff, Nat.reduceBEq, Nat.reduceBNe, Nat.reduceMod, Nat.reduceDiv, Int.reduceLE, Int.reduceLT, Int.reduceToNat, Int.reduceAdd, Int.reduceSub, Int.reduceMul, Int.reduceNeg, Int.reduceEq, Int.reduceBEq, Int.reduceBNe, ↓reduceIte, reduceCtorEq, String.reduceBNe, String.reduceEq, reduceDIte, Nat.reducePow, hrow, lk_old hrow, hbp1, lk_old hbp1, hbf1, lk_old hbf1, hbp2, lk_old hbp2, hbf2, lk_old hbf2, b1, b2, b3, tv1, tt1, tl1, tv2, tt2, tl2, hap, n1, n2, n3, n4, List.nil_append, Nat.zero_add, hta]
      refine CThen.by (by
        have h := fun m2 => check_c (m.length + 2) 2 (m.length + 3) (F1.length + F2.length) (P1 ++ P2) (F1 ++ F2.map (shF P1.length)) m2
        simp only [List.length_append, List.length_map] at h
        exact h _ (by simp) ⟨.grow, 3, by simp only [push_cast, Nat.reduceAdd, Nat.reduceMul, Nat.reduceSub, Nat.reduceLeDiff, Nat.reduceLT, Nat.reduceEqDiff, Nat.reduceBEq, Nat.reduceBNe, Nat.reduceMod, Nat.reduceDiv, Int.reduceLE, Int.reduceLT, Int.reduceToNat, Int.reduceAdd, Int.reduceSub, Int.reduceMul, Int.reduceNeg, Int.reduceEq, Int.reduceBEq, Int.reduceBNe, ↓reduceIte, reduceCtorEq, String.reduceBNe, String.reduceEq, reduceDIte, Nat.reducePow]⟩) ?_
      simp only [push_cast, Nat.reduceAdd, Nat.reduceMul, Nat.reduceSub, Nat.reduceLeDiff, Nat.reduceLT, Nat.reduceEqDiff, Nat.reduceBEq, Nat.reduceBNe, Nat.reduceMod, Nat.reduceDiv, Int.reduceLE, Int.reduceLT, Int.reduceToNat, Int.reduceAdd, Int.reduceSub, Int.reduceMul, Int.reduceNeg, Int.reduceEq, Int.reduceBEq, Int.reduceBNe, ↓reduceIte, reduceCtorEq, String.reduceBNe, String.reduceEq, reduceDIte, Nat.reducePow, hrow, lk_old hrow, hbp1, lk_old hbp1, hbf1, lk_old hbf1, hbp2, lk_old hbp2, hbf2, lk_old hbf2, b1, b2, b3, tv1, tt1, tl1, tv2, tt2, tl2, hap, n1, n2, n3, n4, List.nil_append, Nat.zero_add, hta]
      refine Thn_n ?_
      refine hK _ _ ?_
      clear hK K
      refine AW.seq_k fun K hK => ?_
      refine AW.region (by decide) ?_
      simp only [push_cast, Nat.reduceAdd, Nat.reduceMul, Nat.reduceSub, Nat.reduceLeDiff, Nat.reduceLT, Nat.reduceEqDiff, Nat.reduceBEq, Nat.reduceBNe, Nat.reduceMod, Nat.reduceDiv, Int.reduceLE, Int.reduceLT, Int.reduceToNat, Int.reduceAdd, Int.reduceSub, Int.reduceMul, Int.reduceNeg, Int.reduceEq, Int.reduceBEq, Int.reduceBNe, ↓reduceIte, reduceCtorEq, String.reduceBNe, String.reduceEq, reduceDIte, Nat.reducePow, hrow, lk_old hrow, hbp1, lk_old hbp1, hbf1, lk_old hbf1, hbp2, lk_old hbp2, hbf2, lk_old hbf2, b1, b2, b3, tv1, tt1, tl1, tv2, tt2, tl2, hap, n1, n2, n3, n4, List.nil_append, Nat.zero_add, hta]
      refine Thn_n ?_
      refine hK _ _ ?_
      clear hK K
      refine AW.cond_f rfl ?_
      refine AW.skip ?_
      refine InB_n ?_
      refine Thn_n ?_
      refine hK _ _ ?_
      clear hK K
      refine AW.region (by decide) ?_
      simp only [push_cast, Nat.reduceAdd, Nat.reduceMul, Nat.reduceSub, Nat.reduceLeDiff, Nat.reduceLT, Nat.reduceEqDiff, Nat.reduceBEq, Nat.reduceBNe, Nat.reduceMod, Nat.reduceDiv, Int.reduceLE, Int.reduceLT, Int.reduceToNat, Int.reduceAdd, Int.reduceSub, Int.reduceMul, Int.reduceNeg, Int.reduceEq, Int.reduceBEq, Int.reduceBNe, ↓reduceIte, reduceCtorEq, String.reduceBNe, String.reduceEq, reduceDIte, Nat.reducePow, hrow, lk_old hrow, hbp1, lk_old hbp1, hbf1, lk_old hbf1, hbp2, lk_old hbp2, hbf2, lk_old hbf2, b1, b2, b3, tv1, tt1, tl1, tv2, tt2, tl2, hap, n1, n2, n3, n4, List.nil_append, Nat.zero_add, hta]
      refine Thn_n ?_
      refine hK _ _ ?_
      clear hK K
      refine ARounds.succ fun K hK => ?_
      refine AW.seq_k fun K hK => ?_
      refine AW.region (by decide) ?_
      simp only [push_cast, Nat.reduceAdd, Nat.reduceMul, Nat.reduceSub, Nat.reduceLeDiff, Nat.reduceLT, Nat.reduceEqDiff, Nat.reduceBEq, Nat.reduceBNe, Nat.reduceMod, Nat.reduceDiv, Int.reduceLE, Int.reduceLT, Int.reduceToNat, Int.reduceAdd, Int.reduceSub, Int.reduceMul, Int.reduceNeg, Int.reduceEq, Int.reduceBEq, Int.reduceBNe, ↓reduceIte, reduceCtorEq, String.reduceBNe, String.reduceEq, reduceDIte, Nat.reducePow, hrow, lk_old hrow, hbp1, lk_old hbp1, hbf1, lk_old hbf1, hbp2, lk_old hbp2, hbf2, lk_old hbf2, b1, b2, b3, tv1, tt1, tl1, tv2, tt2, tl2, hap, n1, n2, n3, n4, List.nil_append, Nat.zero_add]
      refine Thn_n ?_
      refine hK _ _ ?_
      clear hK K
      refine AW.seq_k fun K hK => ?_
      refine AW.cond_f rfl ?_
      refine AW.exit ?_
      refine Thn_e ?_
      clear hK K
      refine Thn_e ?_
      clear hK K
      refine InB_here ?_
      refine Thn_n ?_
      refine hK _ _ ?_
      clear hK K
      refine AW.seq_k fun K hK => ?_
      refine AW.region (by decide) ?_
      simp only [push_cast, Nat.reduceAdd, Nat.reduceMul, Nat.reduceSub, Nat.reduceLeDiff, Nat.reduceLT, Nat.reduceEqDiff, Nat.reduceBEq, Nat.reduceBNe, Nat.reduceMod, Nat.reduceDiv, Int.reduceLE, Int.reduceLT, Int.reduceToNat, Int.reduceAdd, Int.reduceSub, Int.reduceMul, Int.reduceNeg, Int.reduceEq, Int.reduceBEq, Int.reduceBNe, ↓reduceIte, reduceCtorEq, String.reduceBNe, String.reduceEq, reduceDIte, Nat.reducePow, hrow, lk_old hrow, hbp1, lk_old hbp1, hbf1, lk_old hbf1, hbp2, lk_old hbp2, hbf2, lk_old hbf2, b1, b2, b3, tv1, tt1, tl1, tv2, tt2, tl2, hap, n1, n2, n3, n4, List.nil_append, Nat.zero_add]
      refine Thn_n ?_
      refine hK _ _ ?_
      clear hK K
      refine AW.ret ?_
      refine hQ _ _ _ ?_
      refine RetP.pick [(m.length + 2, 2), (m.length + 3, F1.length + F2.length)] (Or.inr rfl) ?_ ?_ ?_ hwf ?_
      · simp only [resA, resOne, resTv, AV.tv, push_cast, Nat.reduceAdd, Nat.reduceMul, Nat.reduceSub, Nat.reduceLeDiff, Nat.reduceLT, Nat.reduceEqDiff, Nat.reduceBEq, Nat.reduceBNe, Nat.reduceMod, Nat.reduceDiv, Int.reduceLE, Int.reduceLT, Int.reduceToNat, Int.reduceAdd, Int.reduceSub, Int.reduceMul, Int.reduceNeg, Int.reduceEq, Int.reduceBEq, Int.reduceBNe, ↓reduceIte, reduceCtorEq, String.reduceBNe, String.reduceEq, reduceDIte, Nat.reducePow]
        simp [renV, renT, renL, renC, renIdx, hlt0]
      · simp only [picks, push_cast, Nat.reduceAdd, Nat.reduceMul, Nat.reduceSub, Nat.reduceLeDiff, Nat.reduceLT, Nat.reduceEqDiff, Nat.reduceBEq, Nat.reduceBNe, Nat.reduceMod, Nat.reduceDiv, Int.reduceLE, Int.reduceLT, Int.reduceToNat, Int.reduceAdd, Int.reduceSub, Int.reduceMul, Int.reduceNeg, Int.reduceEq, Int.reduceBEq, Int.reduceBNe, ↓reduceIte, reduceCtorEq, String.reduceBNe, String.reduceEq, reduceDIte, Nat.reducePow]
      · simp [distinctFrom]
      · exact MWf_cons (tL_below _ _) (MWf_one (tL_below _ _))
end Go.Proofs.Ytiogpaehelpmhaa

set_option linter.unusedSimpArgs false
set_option linter.unusedVariables false
set_option maxRecDepth 100000
set_option maxHeartbeats 4000000
namespace Go.Proofs.Ytiogpaehelpmhaa
open Go Go.Eng

def insE (k : EK) : List EK → List EK
  | [] => [k]
  | x :: l => if leE k x then k :: x :: l else x :: insE k l
def isE : List EK → List EK
  | [] => []
  | k :: l => insE k (isE l)
theorem insE_perm (k : EK) : ∀ l : List EK, (insE k l).Perm (k :: l)
  | [] => .refl _
  | x :: l => by
    unfold insE; split
    · exact .refl _
    · exact ((insE_perm k l).cons x).trans (.swap k x l)
theorem isE_perm : ∀ l : List EK, (isE l).Perm l
  | [] => .refl _
  | k :: l => (insE_perm k _).trans ((isE_perm l).cons k)
theorem insE_sorted {k : EK} : ∀ {l : List EK}, (l.Pairwise fun a b => leE a b = true) → ((insE k l).Pairwise fun a b => leE a b = true)
  | [], _ => List.pairwise_singleton _ _
  | x :: l, h => by
    rw [List.pairwise_cons] at h
    unfold insE; split
    · rename_i hk
      refine List.pairwise_cons.2 ⟨fun y hy => ?_, List.pairwise_cons.2 h⟩
      rcases List.mem_cons.1 hy with rfl | hy
      · exact hk
      · exact leE_trans _ _ _ hk (h.1 y hy)
    · rename_i hk
      refine List.pairwise_cons.2 ⟨fun y hy => ?_, insE_sorted h.2⟩
      rcases List.mem_cons.1 ((insE_perm k l).mem_iff.1 hy) with rfl | hy
      · have := leE_total y x
        rw [Bool.or_eq_true] at this
        exact this.resolve_left hk
      · exact h.1 y hy
theorem isE_sorted : ∀ l : List EK, (isE l).Pairwise fun a b => leE a b = true
  | [] => .nil
  | k :: l => insE_sorted (isE_sorted l)
theorem isE_eq (l : List EK) : isE l = srtE l := srtE_eq (isE_perm l) (isE_sorted l)
def tlF (Fs : List T3) : List (EK × Int) := tally Fs Fs.length
def ksX (Fs : List T3) : List EK := isE ((tlF Fs).map (·.1))
def fnX (n : Nat) (Fs : List T3) : List T3 := Fs.flatMap (finF n (ksX Fs))
theorem fnX_eq (n : Nat) (Fs : List T3) : fnF n Fs = fnX n Fs := by
  unfold fnF fnX ksX ksE tlF; rw [isE_eq]
def clB (Fs : List T3) : Bool := (tlF Fs).all fun e => e.2 == 2
theorem clB_cs {Fs : List T3} (h : clB Fs = true) : ∀ i, i < (tally Fs Fs.length).length → (csE (tally Fs Fs.length))[i]? = some 2 := fun i hi => by
  have hl := ksE_len (tally Fs Fs.length)
  obtain ⟨k, hk⟩ : ∃ k, (ksE (tally Fs Fs.length))[i]? = some k := ⟨_, List.getElem?_eq_getElem (by omega)⟩
  obtain ⟨j, c, q1, q2, q3⟩ := ksE_mem (List.mem_of_getElem? hk)
  unfold csE
  rw [List.getElem?_map, hk, Option.map_some, q3]
  have := List.all_eq_true.1 h _ (List.mem_of_getElem? q1)
  simp at this
  rw [this]
theorem cr_chk : chk 8 crF = 0 := by decide
theorem cr_tl : (tlF crF).length = 18 := by kernel_rfl
theorem cr_cl : clB crF = true := by kernel_rfl
def okB (n : Nat) (l : List T3) : Bool := l.all fun t => decide (0 ≤ t.1) && decide (t.1 < n) && !decide (t.1 = t.2.1) && decide (0 ≤ t.2.1) && decide (t.2.1 < n) && !decide (t.2.1 = t.2.2) && decide (0 ≤ t.2.2) && decide (t.2.2 < n) && !decide (t.2.2 = t.1)
theorem okB_chk {n : Nat} {l : List T3} (h : okB n l = true) (hn : n ≤ 1024) (hl : l.length ≤ 1024) : chk n l = 0 := by
  refine chk_0 (by omega) fun t ht => ?_
  have := List.all_eq_true.1 h t ht
  simp at this
  unfold okF
  omega
theorem cr_ok2 : okB 26 (fnX 8 crF) = true := by kernel_rfl
theorem fnP_len (P Fs : List T3) : (fnP P Fs).length = P.length + (tlF Fs).length := by unfold fnP tlF; rw [List.length_append, List.length_map, ksE_len]
theorem fnF_len (n : Nat) (Fs : List T3) : (fnF n Fs).length = 4 * Fs.length := fl_len _ _ _
end Go.Proofs.Ytiogpaehelpmhaa

set_option linter.unusedSimpArgs false
set_option linter.unusedVariables false
set_option maxRecDepth 100000
set_option maxHeartbeats 4000000
namespace Go.Proofs.Ytiogpaehelpmhaa
open Go Go.Eng

theorem awakeL_c (m : AMem) : Ctr Try.prog 8 [] m (.one (.bool true)) m := by
  refine Ctr.enter Try.func8 rfl (by decide) (rs := [.tmp 0]) (nt := 53) rfl rfl fun hwf Q hQ => ?_
  have hl1 : (fnP (crP 65536 65536 65536) crF).length = 26 := by rw [fnP_len, cr_tl]; rfl
  have hl2 : (fnF (crP 65536 65536 65536).length crF).length = 48 := by rw [fnF_len]; rfl
  have hl3 : (tally crF crF.length).length = 18 := cr_tl
  have hck : chk (fnP (crP 65536 65536 65536) crF).length (fnF (crP 65536 65536 65536).length crF) = 0 := by
    rw [hl1]
    have : fnF (crP 65536 65536 65536).length crF = fnX 8 crF := fnX_eq 8 crF
    rw [this]
    exact okB_chk cr_ok2 (by omega) (by rw [← fnX_eq, fnF_len]; decide)
  refine AW.seq_k fun K hK => ?_
  refine AW.region (by decide) ?_
  simp only [push_cast, Nat.reduceAdd, Nat.reduceMul, Nat.reduceSub, Nat.reduceLeDiff, Nat.reduceLT, Nat.reduceEqDiff, Nat.reduceBEq, Nat.reduceBNe, Nat.reduceMod, Nat.reduceDiv, Int.reduceLE, Int.reduceLT, Int.reduceToNat, Int.reduceAdd, Int.reduceSub, Int.reduceMul, Int.reduceNeg, Int.reduceEq, Int.reduceBEq, Int.reduceBNe, ↓reduceIte, reduceCtorEq, String.reduceBNe, String.reduceEq, reduceDIte, Nat.reducePow, hl1, hl2, hl3]
  refine Thn_n ?_
  refine hK _ _ ?_
  clear hK K
  refine AW.seq_k fun K hK => ?_
  refine AW.region (by decide) ?_
  simp only [push_cast, Nat.reduceAdd, Nat.reduceMul, Nat.reduceSub, Nat.reduceLeDiff, Nat.reduceLT, Nat.reduceEqDiff, Nat.reduceBEq, Nat.reduceBNe, Nat.reduceMod, Nat.reduceDiv, Int.reduceLE, Int.reduceLT, Int.reduceToNat, Int.reduceAdd, Int.reduceSub, Int.reduceMul, Int.reduceNeg, Int.reduceEq, Int.reduceBEq, Int.reduceBNe, ↓reduceIte, reduceCtorEq, String.reduceBNe, String.reduceEq, reduceDIte, Nat.reducePow, hl1, hl2, hl3]
  refine CThen.by (crate_c 65536 65536 65536 _) ?_
  simp only [push_cast, Nat.reduceAdd, Nat.reduceMul, Nat.reduceSub, Nat.reduceLeDiff, Nat.reduceLT, Nat.reduceEqDiff, Nat.reduceBEq, Nat.reduceBNe, Nat.reduceMod, Nat.reduceDiv, Int.reduceLE, Int.reduceLT, Int.reduceToNat, Int.reduceAdd, Int.reduceSub, Int.reduceMul, Int.reduceNeg, Int.reduceEq, Int.reduceBEq, Int.reduceBNe, ↓reduceIte, reduceCtorEq, String.reduceBNe, String.reduceEq, reduceDIte, Nat.reducePow, hl1, hl2, hl3]
  refine Thn_n ?_
  refine hK _ _ ?_
  clear hK K
  refine AW.seq_k fun K hK => ?_
  refine AW.region (by decide) ?_
  simp only [push_cast, Nat.reduceAdd, Nat.reduceMul, Nat.reduceSub, Nat.reduceLeDiff, Nat.reduceLT, Nat.reduceEqDiff, Nat.reduceBEq, Nat.reduceBNe, Nat.reduceMod, Nat.reduceDiv, Int.reduceLE, Int.reduceLT, Int.reduceToNat, Int.reduceAdd, Int.reduceSub, Int.reduceMul, Int.reduceNeg, Int.reduceEq, Int.reduceBEq, Int.reduceBNe, ↓reduceIte, reduceCtorEq, String.reduceBNe, String.reduceEq, reduceDIte, Nat.reducePow, hl1, hl2, hl3]
  refine CThen.by (edges_x m.length 0 (m.length + 1) 0 (crP 65536 65536 65536) crF _ (by simp) ⟨.grow, 3, by simp only [push_cast, Nat.reduceAdd, Nat.reduceMul, Nat.reduceSub, Nat.reduceLeDiff, Nat.reduceLT, Nat.reduceEqDiff, Nat.reduceBEq, Nat.reduceBNe, Nat.reduceMod, Nat.reduceDiv, Int.reduceLE, Int.reduceLT, Int.reduceToNat, Int.reduceAdd, Int.reduceSub, Int.reduceMul, Int.reduceNeg, Int.reduceEq, Int.reduceBEq, Int.reduceBNe, ↓reduceIte, reduceCtorEq, String.reduceBNe, String.reduceEq, reduceDIte, Nat.reducePow]⟩ cr_chk _ rfl (tally_bk (n := 8) cr_chk _)) ?_
  simp only [push_cast, Nat.reduceAdd, Nat.reduceMul, Nat.reduceSub, Nat.reduceLeDiff, Nat.reduceLT, Nat.reduceEqDiff, Nat.reduceBEq, Nat.reduceBNe, Nat.reduceMod, Nat.reduceDiv, Int.reduceLE, Int.reduceLT, Int.reduceToNat, Int.reduceAdd, Int.reduceSub, Int.reduceMul, Int.reduceNeg, Int.reduceEq, Int.reduceBEq, Int.reduceBNe, ↓reduceIte, reduceCtorEq, String.reduceBNe, String.reduceEq, reduceDIte, Nat.reducePow, hl1, hl2, hl3]
  refine Thn_n ?_
  refine hK _ _ ?_
  clear hK K
  refine AW.seq_k fun K hK => ?_
  refine AW.region (by decide) ?_
  simp only [push_cast, Nat.reduceAdd, Nat.reduceMul, Nat.reduceSub, Nat.reduceLeDiff, Nat.reduceLT, Nat.reduceEqDiff, Nat.reduceBEq, Nat.reduceBNe, Nat.reduceMod, Nat.reduceDiv, Int.reduceLE, Int.reduceLT, Int.reduceToNat, Int.reduceAdd, Int.reduceSub, Int.reduceMul, Int.reduceNeg, Int.reduceEq, Int.reduceBEq, Int.reduceBNe, ↓reduceIte, reduceCtorEq, String.reduceBNe, String.reduceEq, reduceDIte, Nat.reducePow, hl1, hl2, hl3]
  refine CThen.by (finer_ok m.length 0 (m.length + 1) 0 (crP 65536 65536 65536) crF _ (by simp) ⟨.grow, 3, by simp only [push_cast, Nat.reduceAdd, Nat.reduceMul, Nat.reduceSub, Nat.reduceLeDiff, Nat.reduceLT, Nat.reduceEqDiff, Nat.reduceBEq, Nat.reduceBNe, Nat.reduceMod, Nat.reduceDiv, Int.reduceLE, Int.reduceLT, Int.reduceToNat, Int.reduceAdd, Int.reduceSub, Int.reduceMul, Int.reduceNeg, Int.reduceEq, Int.reduceBEq, Int.reduceBNe, ↓reduceIte, reduceCtorEq, String.reduceBNe, String.reduceEq, reduceDIte, Nat.reducePow]⟩ ⟨.grow, 3, by simp only [push_cast, Nat.reduceAdd, Nat.reduceMul, Nat.reduceSub, Nat.reduceLeDiff, Nat.reduceLT, Nat.reduceEqDiff, Nat.reduceBEq, Nat.reduceBNe, Nat.reduceMod, Nat.reduceDiv, Int.reduceLE, Int.reduceLT, Int.reduceToNat, Int.reduceAdd, Int.reduceSub, Int.reduceMul, Int.reduceNeg, Int.reduceEq, Int.reduceBEq, Int.reduceBNe, ↓reduceIte, reduceCtorEq, String.reduceBNe, String.reduceEq, reduceDIte, Nat.reducePow]⟩ (by decide) (by decide) cr_chk hck) ?_
  simp only [push_cast, Nat.reduceAdd, Nat.reduceMul, Nat.reduceSub, Nat.reduceLeDiff, Nat.reduceLT, Nat.reduceEqDiff, Nat.reduceBEq, Nat.reduceBNe, Nat.reduceMod, Nat.reduceDiv, Int.reduceLE, Int.reduceLT, Int.reduceToNat, Int.reduceAdd, Int.reduceSub, Int.reduceMul, Int.reduceNeg, Int.reduceEq, Int.reduceBEq, Int.reduceBNe, ↓reduceIte, reduceCtorEq, String.reduceBNe, String.reduceEq, reduceDIte, Nat.reducePow, hl1, hl2, hl3]
  refine Thn_n ?_
  refine hK _ _ ?_
  clear hK K
  refine AW.seq_k fun K hK => ?_
  refine AW.region (by decide) ?_
  simp only [push_cast, Nat.reduceAdd, Nat.reduceMul, Nat.reduceSub, Nat.reduceLeDiff, Nat.reduceLT, Nat.reduceEqDiff, Nat.reduceBEq, Nat.reduceBNe, Nat.reduceMod, Nat.reduceDiv, Int.reduceLE, Int.reduceLT, Int.reduceToNat, Int.reduceAdd, Int.reduceSub, Int.reduceMul, Int.reduceNeg, Int.reduceEq, Int.reduceBEq, Int.reduceBNe, ↓reduceIte, reduceCtorEq, String.reduceBNe, String.reduceEq, reduceDIte, Nat.reducePow, hl1, hl2, hl3]
  refine CThen.by (closed_c m.length 0 (m.length + 1) 0 (crP 65536 65536 65536) crF _ (by simp) ⟨.grow, 3, by simp only [push_cast, Nat.reduceAdd, Nat.reduceMul, Nat.reduceSub, Nat.reduceLeDiff, Nat.reduceLT, Nat.reduceEqDiff, Nat.reduceBEq, Nat.reduceBNe, Nat.reduceMod, Nat.reduceDiv, Int.reduceLE, Int.reduceLT, Int.reduceToNat, Int.reduceAdd, Int.reduceSub, Int.reduceMul, Int.reduceNeg, Int.reduceEq, Int.reduceBEq, Int.reduceBNe, ↓reduceIte, reduceCtorEq, String.reduceBNe, String.reduceEq, reduceDIte, Nat.reducePow]⟩ cr_chk _ rfl (tally_bk (n := 8) cr_chk _) (clB_cs cr_cl) (by rw [hl3]; omega)) ?_
  simp only [push_cast, Nat.reduceAdd, Nat.reduceMul, Nat.reduceSub, Nat.reduceLeDiff, Nat.reduceLT, Nat.reduceEqDiff, Nat.reduceBEq, Nat.reduceBNe, Nat.reduceMod, Nat.reduceDiv, Int.reduceLE, Int.reduceLT, Int.reduceToNat, Int.reduceAdd, Int.reduceSub, Int.reduceMul, Int.reduceNeg, Int.reduceEq, Int.reduceBEq, Int.reduceBNe, ↓reduceIte, reduceCtorEq, String.reduceBNe, String.reduceEq, reduceDIte, Nat.reducePow, hl1, hl2, hl3]
  refine Thn_n ?_
  refine hK _ _ ?_
  clear hK K
  refine AW.ret ?_
  refine hQ _ _ _ ?_
  first | refine RetP.drop0 (Or.inr rfl) ?_ ?_ hwf | refine RetP.drop (Or.inr rfl) ?_ ?_ hwf
  · simp only [resA, resOne, resTv, AV.tv, push_cast, Nat.reduceAdd, Nat.reduceMul, Nat.reduceSub, Nat.reduceLeDiff, Nat.reduceLT, Nat.reduceEqDiff, Nat.reduceBEq, Nat.reduceBNe, Nat.reduceMod, Nat.reduceDiv, Int.reduceLE, Int.reduceLT, Int.reduceToNat, Int.reduceAdd, Int.reduceSub, Int.reduceMul, Int.reduceNeg, Int.reduceEq, Int.reduceBEq, Int.reduceBNe, ↓reduceIte, reduceCtorEq, String.reduceBNe, String.reduceEq, reduceDIte, Nat.reducePow, hl1, hl2, hl3]
  · rfl
end Go.Proofs.Ytiogpaehelpmhaa

set_option linter.unusedSimpArgs false
set_option linter.unusedVariables false
set_option maxRecDepth 100000
set_option maxHeartbeats 4000000
namespace Go.Proofs.Ytiogpaehelpmhaa
open Go Go.Eng

/-- Two arms come together: some state of a kind. -/
theorem AW.condE {P : Program} {nt : Nat} {tm : Tm} {mem : AMem} {Q : Exit → Tm → AMem → Prop} {ι : Type} {c : Operand} {x y : Code} {b : Bool} (hc : opd tm c = .one (.bool b)) (keep : List Nat) (I : ι → Prop) (M : ι → AMem) (hl : ∀ j, I j → mem.length ≤ (M j).length)
    (ht : b = true → AW P nt x tm mem (Thn (fun tm' m' => ∃ j, I j ∧ Weak nt tm' m' (keepL tm keep) (M j)) Q)) (hf : b = false → AW P nt y tm mem (Thn (fun tm' m' => ∃ j, I j ∧ Weak nt tm' m' (keepL tm keep) (M j)) Q))
    (h : ∀ j, I j → Q .normal (keepL tm keep) (M j)) : AW P nt (.cond c x y) tm mem Q := by
  have go : ∀ {z : Code}, AW P nt z tm mem (Thn (fun tm' m' => ∃ j, I j ∧ Weak nt tm' m' (keepL tm keep) (M j)) Q) → AW P nt z tm mem Q := by
    intro z hz ρ a w hr
    refine wp_mono (hz ρ a w hr) ?_
    rintro e a' w' ⟨ρ', tm', mem', hr', hs, hd, hq⟩
    cases e with
    | normal =>
      obtain ⟨j, hj, hw⟩ := hq
      obtain ⟨ρ2, hr2, hs2⟩ := hw ρ' a' w' hr'
      exact ⟨ρ2, _, _, hr2, hs2 _ _ _ (hl j hj) hs, hd, h j hj⟩
    | _ => exact ⟨ρ', tm', mem', hr', hs, hd, hq⟩
  exact AW.cond hc (fun hb => go (ht hb)) (fun hb => go (hf hb))
theorem AW.anyMem {P : Program} {nt : Nat} {tm : Tm} {mem : AMem} {Q : Exit → Tm → AMem → Prop} {c : Code} (I : AMem → Prop) (h0 : I mem) (h : ∀ M, I M → AW P nt c tm M Q) : AW P nt c tm mem Q := h mem h0
/-- What the law holds between its steps: the boxes, the mesh's cell, the mesh's rows. -/
structure StL (m : AMem) (L : Nat) (b3 b4 : Blk) (r7 : Nat) (P Fs : List T3) (r1 v1 r2 v2 : Nat) (M : AMem) : Prop where
  ext : ∃ X, M = m ++ X
  len : L ≤ M.length
  g7 : m.length + 2 ≤ r7
  h3 : M[m.length]? = some b3
  h4 : M[m.length + 1]? = some b4
  h7 : M[r7]? = some ⟨.fix, 37, 0, 0, [.sl r1 v1 0 P.length, .sl r2 v2 0 Fs.length]⟩
  l1 : r1 < M.length
  p1 : TRow M 49 r1 v1 P
  p2 : TRow M 54 r2 v2 Fs
  n1 : r1 ≠ r7
  n2 : r2 ≠ r7
/-- The mesh's cell takes new rows. -/
theorem StL.put {m : AMem} {L : Nat} {b3 b4 : Blk} {r7 : Nat} {P Fs : List T3} {r1 v1 r2 v2 : Nat} {M : AMem} (h : StL m L b3 b4 r7 P Fs r1 v1 r2 v2 M) {X : AMem} {P' Fs' : List T3} {k1 k2 : BK} {e1 e2 s1 s2 w1 w2 : Nat}
    (hs1 : (M ++ X)[s1]? = some ⟨k1, 49, w1, e1, tL P'⟩) (hs2 : (M ++ X)[s2]? = some ⟨k2, 54, w2, e2, tL Fs'⟩) (q1 : s1 ≠ r7) (q2 : s2 ≠ r7) (L' : Nat) (hL : L' ≤ M.length) :
    StL m L' b3 b4 r7 P' Fs' s1 w1 s2 w2 ((M ++ X).set r7 ⟨.fix, 37, 0, 0, [.sl s1 w1 0 P'.length, .sl s2 w2 0 Fs'.length]⟩) := by
  obtain ⟨Y, hY⟩ := h.ext
  have l7 := get_lt h.h7
  have g7 := h.g7
  refine ⟨⟨(Y ++ X).set (r7 - m.length) ⟨.fix, 37, 0, 0, [.sl s1 w1 0 P'.length, .sl s2 w2 0 Fs'.length]⟩, ?_⟩, by rw [List.length_set, List.length_append]; omega, g7, ?_, ?_, ?_, ?_, ⟨k1, e1, ?_⟩, ⟨k2, e2, ?_⟩, q1, q2⟩
  · rw [hY, List.append_assoc, List.set_append_right _ _ (by omega)]
  · rw [List.getElem?_set_ne (by omega)]; exact lk_old h.h3 X
  · rw [List.getElem?_set_ne (by omega)]; exact lk_old h.h4 X
  · rw [List.getElem?_set_self (by rw [List.length_append]; omega)]
  · rw [List.length_set]; exact get_lt hs1
  · rw [List.getElem?_set_ne q1.symm]; exact hs1
  · rw [List.getElem?_set_ne q2.symm]; exact hs2
end Go.Proofs.Ytiogpaehelpmhaa

set_option linter.unusedSimpArgs false
set_option linter.unusedVariables false
set_option maxRecDepth 100000
set_option maxHeartbeats 4000000
namespace Go.Proofs.Ytiogpaehelpmhaa
open Go Go.Eng

def tpA (a : Bool) : List T3 := if a then crF.map trF else crF
def nB (b : Bool) : Nat := if b then 26 else 8
def tpB (a b : Bool) : List T3 := if b then fnX 8 (tpA a) else tpA a
def tpC (a b c : Bool) : List T3 := if c then (tpB a b).map trF else tpB a b
def eB (b : Bool) : Nat := if b then 72 else 18
def nD (b d : Bool) : Nat := if d then nB b + eB b else nB b
def tpD (a b c d : Bool) : List T3 := if d then fnX (nB b) (tpC a b c) else tpC a b c
theorem tpA_ok : ∀ a, okB 8 (tpA a) = true ∧ (tlF (tpA a)).length = 18 ∧ okB 26 (fnX 8 (tpA a)) = true ∧ (tpA a).length = 12
  | true => ⟨by kernel_rfl, by kernel_rfl, by kernel_rfl, rfl⟩
  | false => ⟨by kernel_rfl, by kernel_rfl, by kernel_rfl, rfl⟩
theorem tpC_ok : ∀ a b c, okB (nB b) (tpC a b c) = true ∧ (tlF (tpC a b c)).length = eB b ∧ okB (nD b true) (fnX (nB b) (tpC a b c)) = true
  | true, true, true => ⟨by kernel_rfl, by kernel_rfl, by kernel_rfl⟩
  | true, true, false => ⟨by kernel_rfl, by kernel_rfl, by kernel_rfl⟩
  | true, false, true => ⟨by kernel_rfl, by kernel_rfl, by kernel_rfl⟩
  | true, false, false => ⟨by kernel_rfl, by kernel_rfl, by kernel_rfl⟩
  | false, true, true => ⟨by kernel_rfl, by kernel_rfl, by kernel_rfl⟩
  | false, true, false => ⟨by kernel_rfl, by kernel_rfl, by kernel_rfl⟩
  | false, false, true => ⟨by kernel_rfl, by kernel_rfl, by kernel_rfl⟩
  | false, false, false => ⟨by kernel_rfl, by kernel_rfl, by kernel_rfl⟩
theorem fnX_len (n : Nat) (Fs : List T3) : (fnX n Fs).length = 4 * Fs.length := by rw [← fnX_eq, fnF_len]
theorem tpB_len (a b : Bool) : (tpB a b).length = if b then 48 else 12 := by
  unfold tpB; split
  · rw [fnX_len, (tpA_ok a).2.2.2]
  · exact (tpA_ok a).2.2.2
theorem tpC_len (a b c : Bool) : (tpC a b c).length = if b then 48 else 12 := by
  unfold tpC; split
  · rw [List.length_map, tpB_len]
  · exact tpB_len a b
theorem tpD_len (a b c d : Bool) : (tpD a b c d).length ≤ 192 ∧ 12 ≤ (tpD a b c d).length := by
  unfold tpD; split
  · rw [fnX_len, tpC_len]; split <;> omega
  · rw [tpC_len]; split <;> omega
end Go.Proofs.Ytiogpaehelpmhaa

set_option linter.unusedSimpArgs false
set_option linter.unusedVariables false
set_option maxRecDepth 100000
set_option maxHeartbeats 4000000
namespace Go.Proofs.Ytiogpaehelpmhaa
open Go Go.Eng

theorem tp_ok_tttt : okB (nD true true) (tpD true true true true) = true := by kernel_rfl
theorem tp_cl_tttt : clB (tpD true true true true) = true := by kernel_rfl
theorem tp_okj_tttt : okB (nD true true + 8) ((tpD true true true true) ++ crF.map (shF (nD true true))) = true := by kernel_rfl
theorem tp_clj_tttt : clB ((tpD true true true true) ++ crF.map (shF (nD true true))) = true := by kernel_rfl
theorem tp_ok_tttf : okB (nD true false) (tpD true true true false) = true := by kernel_rfl
theorem tp_cl_tttf : clB (tpD true true true false) = true := by kernel_rfl
theorem tp_okj_tttf : okB (nD true false + 8) ((tpD true true true false) ++ crF.map (shF (nD true false))) = true := by kernel_rfl
theorem tp_clj_tttf : clB ((tpD true true true false) ++ crF.map (shF (nD true false))) = true := by kernel_rfl
theorem tp_ok_ttft : okB (nD true true) (tpD true true false true) = true := by kernel_rfl
theorem tp_cl_ttft : clB (tpD true true false true) = true := by kernel_rfl
theorem tp_okj_ttft : okB (nD true true + 8) ((tpD true true false true) ++ crF.map (shF (nD true true))) = true := by kernel_rfl
theorem tp_clj_ttft : clB ((tpD true true false true) ++ crF.map (shF (nD true true))) = true := by kernel_rfl
theorem tp_ok_ttff : okB (nD true false) (tpD true true false false) = true := by kernel_rfl
theorem tp_cl_ttff : clB (tpD true true false false) = true := by kernel_rfl
theorem tp_okj_ttff : okB (nD true false + 8) ((tpD true true false false) ++ crF.map (shF (nD true false))) = true := by kernel_rfl
theorem tp_clj_ttff : clB ((tpD true true false false) ++ crF.map (shF (nD true false))) = true := by kernel_rfl
theorem tp_ok_tftt : okB (nD false true) (tpD true false true true) = true := by kernel_rfl
theorem tp_cl_tftt : clB (tpD true false true true) = true := by kernel_rfl
theorem tp_okj_tftt : okB (nD false true + 8) ((tpD true false true true) ++ crF.map (shF (nD false true))) = true := by kernel_rfl
theorem tp_clj_tftt : clB ((tpD true false true true) ++ crF.map (shF (nD false true))) = true := by kernel_rfl
theorem tp_ok_tftf : okB (nD false false) (tpD true false true false) = true := by kernel_rfl
theorem tp_cl_tftf : clB (tpD true false true false) = true := by kernel_rfl
theorem tp_okj_tftf : okB (nD false false + 8) ((tpD true false true false) ++ crF.map (shF (nD false false))) = true := by kernel_rfl
theorem tp_clj_tftf : clB ((tpD true false true false) ++ crF.map (shF (nD false false))) = true := by kernel_rfl
theorem tp_ok_tfft : okB (nD false true) (tpD true false false true) = true := by kernel_rfl
theorem tp_cl_tfft : clB (tpD true false false true) = true := by kernel_rfl
theorem tp_okj_tfft : okB (nD false true + 8) ((tpD true false false true) ++ crF.map (shF (nD false true))) = true := by kernel_rfl
theorem tp_clj_tfft : clB ((tpD true false false true) ++ crF.map (shF (nD false true))) = true := by kernel_rfl
theorem tp_ok_tfff : okB (nD false false) (tpD true false false false) = true := by kernel_rfl
theorem tp_cl_tfff : clB (tpD true false false false) = true := by kernel_rfl
theorem tp_okj_tfff : okB (nD false false + 8) ((tpD true false false false) ++ crF.map (shF (nD false false))) = true := by kernel_rfl
theorem tp_clj_tfff : clB ((tpD true false false false) ++ crF.map (shF (nD false false))) = true := by kernel_rfl
end Go.Proofs.Ytiogpaehelpmhaa

set_option linter.unusedSimpArgs false
set_option linter.unusedVariables false
set_option maxRecDepth 100000
set_option maxHeartbeats 4000000
namespace Go.Proofs.Ytiogpaehelpmhaa
open Go Go.Eng

theorem tp_ok_fttt : okB (nD true true) (tpD false true true true) = true := by kernel_rfl
theorem tp_cl_fttt : clB (tpD false true true true) = true := by kernel_rfl
theorem tp_okj_fttt : okB (nD true true + 8) ((tpD false true true true) ++ crF.map (shF (nD true true))) = true := by kernel_rfl
theorem tp_clj_fttt : clB ((tpD false true true true) ++ crF.map (shF (nD true true))) = true := by kernel_rfl
theorem tp_ok_fttf : okB (nD true false) (tpD false true true false) = true := by kernel_rfl
theorem tp_cl_fttf : clB (tpD false true true false) = true := by kernel_rfl
theorem tp_okj_fttf : okB (nD true false + 8) ((tpD false true true false) ++ crF.map (shF (nD true false))) = true := by kernel_rfl
theorem tp_clj_fttf : clB ((tpD false true true false) ++ crF.map (shF (nD true false))) = true := by kernel_rfl
theorem tp_ok_ftft : okB (nD true true) (tpD false true false true) = true := by kernel_rfl
theorem tp_cl_ftft : clB (tpD false true false true) = true := by kernel_rfl
theorem tp_okj_ftft : okB (nD true true + 8) ((tpD false true false true) ++ crF.map (shF (nD true true))) = true := by kernel_rfl
theorem tp_clj_ftft : clB ((tpD false true false true) ++ crF.map (shF (nD true true))) = true := by kernel_rfl
theorem tp_ok_ftff : okB (nD true false) (tpD false true false false) = true := by kernel_rfl
theorem tp_cl_ftff : clB (tpD false true false false) = true := by kernel_rfl
theorem tp_okj_ftff : okB (nD true false + 8) ((tpD false true false false) ++ crF.map (shF (nD true false))) = true := by kernel_rfl
theorem tp_clj_ftff : clB ((tpD false true false false) ++ crF.map (shF (nD true false))) = true := by kernel_rfl
theorem tp_ok_fftt : okB (nD false true) (tpD false false true true) = true := by kernel_rfl
theorem tp_cl_fftt : clB (tpD false false true true) = true := by kernel_rfl
theorem tp_okj_fftt : okB (nD false true + 8) ((tpD false false true true) ++ crF.map (shF (nD false true))) = true := by kernel_rfl
theorem tp_clj_fftt : clB ((tpD false false true true) ++ crF.map (shF (nD false true))) = true := by kernel_rfl
theorem tp_ok_fftf : okB (nD false false) (tpD false false true false) = true := by kernel_rfl
theorem tp_cl_fftf : clB (tpD false false true false) = true := by kernel_rfl
theorem tp_okj_fftf : okB (nD false false + 8) ((tpD false false true false) ++ crF.map (shF (nD false false))) = true := by kernel_rfl
theorem tp_clj_fftf : clB ((tpD false false true false) ++ crF.map (shF (nD false false))) = true := by kernel_rfl
theorem tp_ok_ffft : okB (nD false true) (tpD false false false true) = true := by kernel_rfl
theorem tp_cl_ffft : clB (tpD false false false true) = true := by kernel_rfl
theorem tp_okj_ffft : okB (nD false true + 8) ((tpD false false false true) ++ crF.map (shF (nD false true))) = true := by kernel_rfl
theorem tp_clj_ffft : clB ((tpD false false false true) ++ crF.map (shF (nD false true))) = true := by kernel_rfl
theorem tp_ok_ffff : okB (nD false false) (tpD false false false false) = true := by kernel_rfl
theorem tp_cl_ffff : clB (tpD false false false false) = true := by kernel_rfl
theorem tp_okj_ffff : okB (nD false false + 8) ((tpD false false false false) ++ crF.map (shF (nD false false))) = true := by kernel_rfl
theorem tp_clj_ffff : clB ((tpD false false false false) ++ crF.map (shF (nD false false))) = true := by kernel_rfl
end Go.Proofs.Ytiogpaehelpmhaa

set_option linter.unusedSimpArgs false
set_option linter.unusedVariables false
set_option maxRecDepth 100000
set_option maxHeartbeats 4000000
namespace Go.Proofs.Ytiogpaehelpmhaa
open Go Go.Eng

theorem tp_ok : ∀ a b c d, okB (nD b d) (tpD a b c d) = true
  | true, true, true, true => tp_ok_tttt
  | true, true, true, false => tp_ok_tttf
  | true, true, false, true => tp_ok_ttft
  | true, true, false, false => tp_ok_ttff
  | true, false, true, true => tp_ok_tftt
  | true, false, true, false => tp_ok_tftf
  | true, false, false, true => tp_ok_tfft
  | true, false, false, false => tp_ok_tfff
  | false, true, true, true => tp_ok_fttt
  | false, true, true, false => tp_ok_fttf
  | false, true, false, true => tp_ok_ftft
  | false, true, false, false => tp_ok_ftff
  | false, false, true, true => tp_ok_fftt
  | false, false, true, false => tp_ok_fftf
  | false, false, false, true => tp_ok_ffft
  | false, false, false, false => tp_ok_ffff
theorem tp_cl : ∀ a b c d, clB (tpD a b c d) = true
  | true, true, true, true => tp_cl_tttt
  | true, true, true, false => tp_cl_tttf
  | true, true, false, true => tp_cl_ttft
  | true, true, false, false => tp_cl_ttff
  | true, false, true, true => tp_cl_tftt
  | true, false, true, false => tp_cl_tftf
  | true, false, false, true => tp_cl_tfft
  | true, false, false, false => tp_cl_tfff
  | false, true, true, true => tp_cl_fttt
  | false, true, true, false => tp_cl_fttf
  | false, true, false, true => tp_cl_ftft
  | false, true, false, false => tp_cl_ftff
  | false, false, true, true => tp_cl_fftt
  | false, false, true, false => tp_cl_fftf
  | false, false, false, true => tp_cl_ffft
  | false, false, false, false => tp_cl_ffff
theorem tp_okj : ∀ a b c d, okB (nD b d + 8) ((tpD a b c d) ++ crF.map (shF (nD b d))) = true
  | true, true, true, true => tp_okj_tttt
  | true, true, true, false => tp_okj_tttf
  | true, true, false, true => tp_okj_ttft
  | true, true, false, false => tp_okj_ttff
  | true, false, true, true => tp_okj_tftt
  | true, false, true, false => tp_okj_tftf
  | true, false, false, true => tp_okj_tfft
  | true, false, false, false => tp_okj_tfff
  | false, true, true, true => tp_okj_fttt
  | false, true, true, false => tp_okj_fttf
  | false, true, false, true => tp_okj_ftft
  | false, true, false, false => tp_okj_ftff
  | false, false, true, true => tp_okj_fftt
  | false, false, true, false => tp_okj_fftf
  | false, false, false, true => tp_okj_ffft
  | false, false, false, false => tp_okj_ffff
theorem tp_clj : ∀ a b c d, clB ((tpD a b c d) ++ crF.map (shF (nD b d))) = true
  | true, true, true, true => tp_clj_tttt
  | true, true, true, false => tp_clj_tttf
  | true, true, false, true => tp_clj_ttft
  | true, true, false, false => tp_clj_ttff
  | true, false, true, true => tp_clj_tftt
  | true, false, true, false => tp_clj_tftf
  | true, false, false, true => tp_clj_tfft
  | true, false, false, false => tp_clj_tfff
  | false, true, true, true => tp_clj_fttt
  | false, true, true, false => tp_clj_fttf
  | false, true, false, true => tp_clj_ftft
  | false, true, false, false => tp_clj_ftff
  | false, false, true, true => tp_clj_fftt
  | false, false, true, false => tp_clj_fftf
  | false, false, false, true => tp_clj_ffft
  | false, false, false, false => tp_clj_ffff
end Go.Proofs.Ytiogpaehelpmhaa

set_option linter.unusedSimpArgs false
set_option linter.unusedVariables false
set_option maxRecDepth 100000
set_option maxHeartbeats 4000000
namespace Go.Proofs.Ytiogpaehelpmhaa
open Go Go.Eng

structure JL where
  M : AMem
  P : List T3
  r1 : Nat
  v1 : Nat
  r2 : Nat
  v2 : Nat
  b : Bool
theorem tl_pos {Fs : List T3} (h : 0 < Fs.length) : 0 < (tally Fs Fs.length).length := by
  have h1 := tally_has (k := 0) (by omega) h (List.getElem?_eq_getElem h)
  have h2 := List.length_pos_of_mem h1
  rwa [List.length_map] at h2
theorem closedL_c (a0 a1 a2 x0 x1 x2 y0 y1 y2 z0 z1 z2 t0 t1 t2 z : Int) (hz : 0 ≤ z ∧ z < 256) (m : AMem) : Ctr Try.prog 4 [.agg [.int .i64 (a0), .int .i64 (a1), .int .i64 (a2)], .agg [.int .i64 (x0), .int .i64 (x1), .int .i64 (x2), .int .i64 (y0), .int .i64 (y1), .int .i64 (y2), .int .i64 (z0), .int .i64 (z1), .int .i64 (z2), .int .i64 (t0), .int .i64 (t1), .int .i64 (t2)], .one (.int .u8 z)] m (.one (.bool true)) m := by
  refine Ctr.enter Try.func4 rfl (by decide) (rs := [.tmp 6]) (nt := 93) rfl rfl fun hwf Q hQ => ?_
  refine AW.seq_k fun K hK => ?_
  refine AW.region (by decide) ?_
  simp only [push_cast, Nat.reduceAdd, Nat.reduceMul, Nat.reduceSub, Nat.reduceLeDiff, Nat.reduceLT, Nat.reduceEqDiff, Nat.reduceBEq, Nat.reduceBNe, Nat.reduceMod, Nat.reduceDiv, Int.reduceLE, Int.reduceLT, Int.reduceToNat, Int.reduceAdd, Int.reduceSub, Int.reduceMul, Int.reduceNeg, Int.reduceEq, Int.reduceBEq, Int.reduceBNe, ↓reduceIte, reduceCtorEq, String.reduceBNe, String.reduceEq, reduceDIte, Nat.reducePow]
  refine Thn_n ?_
  refine hK _ _ ?_
  clear hK K
  refine AW.seq_k fun K hK => ?_
  refine AW.region (by decide) ?_
  simp only [push_cast, Nat.reduceAdd, Nat.reduceMul, Nat.reduceSub, Nat.reduceLeDiff, Nat.reduceLT, Nat.reduceEqDiff, Nat.reduceBEq, Nat.reduceBNe, Nat.reduceMod, Nat.reduceDiv, Int.reduceLE, Int.reduceLT, Int.reduceToNat, Int.reduceAdd, Int.reduceSub, Int.reduceMul, Int.reduceNeg, Int.reduceEq, Int.reduceBEq, Int.reduceBNe, ↓reduceIte, reduceCtorEq, String.reduceBNe, String.reduceEq, reduceDIte, Nat.reducePow]
  refine CThen.by (v2to_c _ _ _ _) ?_
  simp only [push_cast, Nat.reduceAdd, Nat.reduceMul, Nat.reduceSub, Nat.reduceLeDiff, Nat.reduceLT, Nat.reduceEqDiff, Nat.reduceBEq, Nat.reduceBNe, Nat.reduceMod, Nat.reduceDiv, Int.reduceLE, Int.reduceLT, Int.reduceToNat, Int.reduceAdd, Int.reduceSub, Int.reduceMul, Int.reduceNeg, Int.reduceEq, Int.reduceBEq, Int.reduceBNe, ↓reduceIte, reduceCtorEq, String.reduceBNe, String.reduceEq, reduceDIte, Nat.reducePow]
  refine CThen.by (crate_c _ _ _ _) ?_
  simp only [push_cast, Nat.reduceAdd, Nat.reduceMul, Nat.reduceSub, Nat.reduceLeDiff, Nat.reduceLT, Nat.reduceEqDiff, Nat.reduceBEq, Nat.reduceBNe, Nat.reduceMod, Nat.reduceDiv, Int.reduceLE, Int.reduceLT, Int.reduceToNat, Int.reduceAdd, Int.reduceSub, Int.reduceMul, Int.reduceNeg, Int.reduceEq, Int.reduceBEq, Int.reduceBNe, ↓reduceIte, reduceCtorEq, String.reduceBNe, String.reduceEq, reduceDIte, Nat.reducePow]
  refine Thn_n ?_
  refine hK _ _ ?_
  clear hK K
  refine AW.seq_k fun K hK => ?_
  refine AW.seq_k fun K hK => ?_
  obtain ⟨P0, hP0⟩ : ∃ P0, P0 = crP a0 a1 a2 := ⟨_, rfl⟩
  have hn0 : P0.length = 8 := by rw [hP0]; rfl
  rw [← hP0]
  refine AW.anyMem (fun M => StL m 0 (⟨.fix, 24, 0, 0, [.int .i64 (a0), .int .i64 (a1), .int .i64 (a2)]⟩) (⟨.fix, 27, 0, 0, [.int .i64 (x0), .int .i64 (x1), .int .i64 (x2), .int .i64 (y0), .int .i64 (y1), .int .i64 (y2), .int .i64 (z0), .int .i64 (z1), .int .i64 (z2), .int .i64 (t0), .int .i64 (t1), .int .i64 (t2)]⟩) (m.length + 4) P0 crF (m.length + 2) 0 (m.length + 3) 0 M) ⟨⟨_, rfl⟩, Nat.zero_le _, by omega, by simp, by simp, by simp [hn0]; rfl, by simp, ⟨.grow, 3, by simp⟩, ⟨.grow, 3, by simp⟩, by omega, by omega⟩ (fun M0 hj0 => ?_)
  generalize m.length + 2 = r0 at *
  generalize m.length + 3 = u0 at *
  have h3_0 := hj0.h3
  have h4_0 := hj0.h4
  have h7_0 := hj0.h7
  have l7_0 := get_lt h7_0
  have l1_0 := hj0.l1
  have n1_0 := hj0.n1
  have n2_0 := hj0.n2
  obtain ⟨kp0, ep0, hp0⟩ := hj0.p1.hb
  obtain ⟨kf0, ef0, hf0⟩ := hj0.p2.hb
  have l2_0 := get_lt hf0
  have hlF0 : (crF).length ≤ 48 := by decide
  have hlP0 : P0.length ≤ 98 := by rw [hn0]; first | decide | (first | (cases qb <;> decide) | (cases qb <;> cases qd <;> decide))
  refine AW.region (by decide) ?_
  simp only [push_cast, Nat.reduceAdd, Nat.reduceMul, Nat.reduceSub, Nat.reduceLeDiff, Nat.reduceLT, Nat.reduceEqDiff, Nat.reduceBEq, Nat.reduceBNe, Nat.reduceMod, Nat.reduceDiv, Int.reduceLE, Int.reduceLT, Int.reduceToNat, Int.reduceAdd, Int.reduceSub, Int.reduceMul, Int.reduceNeg, Int.reduceEq, Int.reduceBEq, Int.reduceBNe, ↓reduceIte, reduceCtorEq, String.reduceBNe, String.reduceEq, reduceDIte, Nat.reducePow]
  refine Thn_n ?_
  refine hK _ _ ?_
  clear hK K
  refine AW.block ?_
  refine AW.rounds 3 ?_
  refine ARounds.succ fun K hK => ?_
  refine AW.seq_k fun K hK => ?_
  refine AW.region (by decide) ?_
  simp only [push_cast, Nat.reduceAdd, Nat.reduceMul, Nat.reduceSub, Nat.reduceLeDiff, Nat.reduceLT, Nat.reduceEqDiff, Nat.reduceBEq, Nat.reduceBNe, Nat.reduceMod, Nat.reduceDiv, Int.reduceLE, Int.reduceLT, Int.reduceToNat, Int.reduceAdd, Int.reduceSub, Int.reduceMul, Int.reduceNeg, Int.reduceEq, Int.reduceBEq, Int.reduceBNe, ↓reduceIte, reduceCtorEq, String.reduceBNe, String.reduceEq, reduceDIte, Nat.reducePow]
  refine Thn_n ?_
  refine hK _ _ ?_
  clear hK K
  refine AW.seq_k fun K hK => ?_
  refine AW.cond_t rfl ?_
  refine AW.skip ?_
  refine Thn_n ?_
  refine hK _ _ ?_
  clear hK K
  refine AW.seq_k fun K hK => ?_
  refine AW.block ?_
  refine AW.seq_k fun K hK => ?_
  refine AW.region (by decide) ?_
  simp only [push_cast, Nat.reduceAdd, Nat.reduceMul, Nat.reduceSub, Nat.reduceLeDiff, Nat.reduceLT, Nat.reduceEqDiff, Nat.reduceBEq, Nat.reduceBNe, Nat.reduceMod, Nat.reduceDiv, Int.reduceLE, Int.reduceLT, Int.reduceToNat, Int.reduceAdd, Int.reduceSub, Int.reduceMul, Int.reduceNeg, Int.reduceEq, Int.reduceBEq, Int.reduceBNe, ↓reduceIte, reduceCtorEq, String.reduceBNe, String.reduceEq, reduceDIte, Nat.reducePow]
  refine Thn_n ?_
  refine hK _ _ ?_
  clear hK K
  refine AW.seq_k fun K hK => ?_
  refine AW.seq_k fun K hK => ?_
  refine AW.region (by decide) ?_
  simp only [push_cast, Nat.reduceAdd, Nat.reduceMul, Nat.reduceSub, Nat.reduceLeDiff, Nat.reduceLT, Nat.reduceEqDiff, Nat.reduceBEq, Nat.reduceBNe, Nat.reduceMod, Nat.reduceDiv, Int.reduceLE, Int.reduceLT, Int.reduceToNat, Int.reduceAdd, Int.reduceSub, Int.reduceMul, Int.reduceNeg, Int.reduceEq, Int.reduceBEq, Int.reduceBNe, ↓reduceIte, reduceCtorEq, String.reduceBNe, String.reduceEq, reduceDIte, Nat.reducePow]
  refine Thn_n ?_
  refine hK _ _ ?_
  clear hK K
  refine AW.condE rfl [2, 3, 4, 7, 8, 16] (fun j : JL => StL m M0.length (⟨.fix, 24, 0, 0, [.int .i64 (a0), .int .i64 (a1), .int .i64 (a2)]⟩) (⟨.fix, 27, 0, 0, [.int .i64 (x0), .int .i64 (x1), .int .i64 (x2), .int .i64 (y0), .int .i64 (y1), .int .i64 (y2), .int .i64 (z0), .int .i64 (z1), .int .i64 (z2), .int .i64 (t0), .int .i64 (t1), .int .i64 (t2)]⟩) (m.length + 4) j.P (tpA j.b) j.r1 j.v1 j.r2 j.v2 j.M ∧ j.P.length = 8) (fun j => j.M) (fun j hj => hj.1.len) (fun h23 => ?_) (fun h23 => ?_) ?_
  · refine AW.region (by decide) ?_
    simp only [push_cast, Nat.reduceAdd, Nat.reduceMul, Nat.reduceSub, Nat.reduceLeDiff, Nat.reduceLT, Nat.reduceEqDiff, Nat.reduceBEq, Nat.reduceBNe, Nat.reduceMod, Nat.reduceDiv, Int.reduceLE, Int.reduceLT, Int.reduceToNat, Int.reduceAdd, Int.reduceSub, Int.reduceMul, Int.reduceNeg, Int.reduceEq, Int.reduceBEq, Int.reduceBNe, ↓reduceIte, reduceCtorEq, String.reduceBNe, String.reduceEq, reduceDIte, Nat.reducePow, h3_0, lk_old h3_0, h4_0, lk_old h4_0, h7_0, lk_old h7_0]
    refine CThen.by (turned_c r0 0 u0 0 P0 (crF) _ l1_0 hj0.p1 hj0.p2 (by omega) (by omega)) ?_
    simp only [push_cast, Nat.reduceAdd, Nat.reduceMul, Nat.reduceSub, Nat.reduceLeDiff, Nat.reduceLT, Nat.reduceEqDiff, Nat.reduceBEq, Nat.reduceBNe, Nat.reduceMod, Nat.reduceDiv, Int.reduceLE, Int.reduceLT, Int.reduceToNat, Int.reduceAdd, Int.reduceSub, Int.reduceMul, Int.reduceNeg, Int.reduceEq, Int.reduceBEq, Int.reduceBNe, ↓reduceIte, reduceCtorEq, String.reduceBNe, String.reduceEq, reduceDIte, Nat.reducePow, h3_0, lk_old h3_0, h4_0, lk_old h4_0, h7_0, lk_old h7_0]
    refine Thn_n ?_
    try simp only [keepL, setAll, push_cast, Nat.reduceAdd, Nat.reduceMul, Nat.reduceSub, Nat.reduceLeDiff, Nat.reduceLT, Nat.reduceEqDiff, Nat.reduceBEq, Nat.reduceBNe, Nat.reduceMod, Nat.reduceDiv, Int.reduceLE, Int.reduceLT, Int.reduceToNat, Int.reduceAdd, Int.reduceSub, Int.reduceMul, Int.reduceNeg, Int.reduceEq, Int.reduceBEq, Int.reduceBNe, ↓reduceIte, reduceCtorEq, String.reduceBNe, String.reduceEq, reduceDIte, Nat.reducePow, h3_0, lk_old h3_0, h4_0, lk_old h4_0, h7_0, lk_old h7_0]
    refine ⟨⟨_, P0, M0.length, 0, M0.length + 1, 0, true⟩, ⟨hj0.put (X := [⟨.grow, 49, 0, 3, tL (P0)⟩, ⟨.grow, 54, 0, 3, tL (tpA true)⟩]) (k1 := .grow) (k2 := .grow) (e1 := 3) (e2 := 3) (w1 := 0) (w2 := 0) (P' := P0) (Fs' := tpA true) (s1 := M0.length) (s2 := M0.length + 1) (by rw [List.getElem?_append_right (by omega)]; simp) (by rw [List.getElem?_append_right (by omega)]; simp) (by omega) (by omega) _ (Nat.le_refl _), hn0⟩, Weak.same (by simp only [Keeps, Tm.get_cons, Nat.reduceEqDiff, ↓reduceIte, if_true, if_false, ite_true, ite_false, true_and, and_true, and_self, reduceCtorEq]) (by first | rfl | simp only [tpA, tpB, tpC, tpD, if_true, if_false, ite_true, ite_false, List.length_map, Bool.false_eq_true, reduceIte])⟩
  · refine AW.skip ?_
    refine Thn_n ?_
    try simp only [keepL, setAll, push_cast, Nat.reduceAdd, Nat.reduceMul, Nat.reduceSub, Nat.reduceLeDiff, Nat.reduceLT, Nat.reduceEqDiff, Nat.reduceBEq, Nat.reduceBNe, Nat.reduceMod, Nat.reduceDiv, Int.reduceLE, Int.reduceLT, Int.reduceToNat, Int.reduceAdd, Int.reduceSub, Int.reduceMul, Int.reduceNeg, Int.reduceEq, Int.reduceBEq, Int.reduceBNe, ↓reduceIte, reduceCtorEq, String.reduceBNe, String.reduceEq, reduceDIte, Nat.reducePow, h3_0, lk_old h3_0, h4_0, lk_old h4_0, h7_0, lk_old h7_0]
    refine ⟨⟨M0, P0, r0, 0, u0, 0, false⟩, ⟨⟨hj0.ext, Nat.le_refl _, hj0.g7, h3_0, h4_0, h7_0, l1_0, hj0.p1, hj0.p2, n1_0, n2_0⟩, hn0⟩, Weak.same (by simp only [Keeps, Tm.get_cons, Nat.reduceEqDiff, ↓reduceIte, if_true, if_false, ite_true, ite_false, true_and, and_true, and_self, reduceCtorEq]) rfl⟩
  intro j hj
  obtain ⟨M1, P1, r1, v1, u1, w1, qa⟩ := j
  obtain ⟨hj1, hn1⟩ := hj
  dsimp only at hj1 hn1 ⊢
  have h3_1 := hj1.h3
  have h4_1 := hj1.h4
  have h7_1 := hj1.h7
  have l7_1 := get_lt h7_1
  have l1_1 := hj1.l1
  have n1_1 := hj1.n1
  have n2_1 := hj1.n2
  obtain ⟨kp1, ep1, hp1⟩ := hj1.p1.hb
  obtain ⟨kf1, ef1, hf1⟩ := hj1.p2.hb
  have l2_1 := get_lt hf1
  have hlF1 : (tpA qa).length ≤ 48 := by rw [(tpA_ok qa).2.2.2]; omega
  have hlP1 : P1.length ≤ 98 := by rw [hn1]; first | decide | (first | (cases qb <;> decide) | (cases qb <;> cases qd <;> decide))
  try simp only [keepL, setAll, push_cast, Nat.reduceAdd, Nat.reduceMul, Nat.reduceSub, Nat.reduceLeDiff, Nat.reduceLT, Nat.reduceEqDiff, Nat.reduceBEq, Nat.reduceBNe, Nat.reduceMod, Nat.reduceDiv, Int.reduceLE, Int.reduceLT, Int.reduceToNat, Int.reduceAdd, Int.reduceSub, Int.reduceMul, Int.reduceNeg, Int.reduceEq, Int.reduceBEq, Int.reduceBNe, ↓reduceIte, reduceCtorEq, String.reduceBNe, String.reduceEq, reduceDIte, Nat.reducePow, h3_1, lk_old h3_1, h4_1, lk_old h4_1, h7_1, lk_old h7_1]
  refine Thn_n ?_
  refine hK _ _ ?_
  clear hK K
  refine AW.seq_k fun K hK => ?_
  refine AW.seq_k fun K hK => ?_
  refine AW.region (by decide) ?_
  simp only [push_cast, Nat.reduceAdd, Nat.reduceMul, Nat.reduceSub, Nat.reduceLeDiff, Nat.reduceLT, Nat.reduceEqDiff, Nat.reduceBEq, Nat.reduceBNe, Nat.reduceMod, Nat.reduceDiv, Int.reduceLE, Int.reduceLT, Int.reduceToNat, Int.reduceAdd, Int.reduceSub, Int.reduceMul, Int.reduceNeg, Int.reduceEq, Int.reduceBEq, Int.reduceBNe, ↓reduceIte, reduceCtorEq, String.reduceBNe, String.reduceEq, reduceDIte, Nat.reducePow, h3_1, lk_old h3_1, h4_1, lk_old h4_1, h7_1, lk_old h7_1]
  refine Thn_n ?_
  refine hK _ _ ?_
  clear hK K
  refine AW.condE rfl [2, 3, 4, 7, 8, 16] (fun j : JL => StL m M1.length (⟨.fix, 24, 0, 0, [.int .i64 (a0), .int .i64 (a1), .int .i64 (a2)]⟩) (⟨.fix, 27, 0, 0, [.int .i64 (x0), .int .i64 (x1), .int .i64 (x2), .int .i64 (y0), .int .i64 (y1), .int .i64 (y2), .int .i64 (z0), .int .i64 (z1), .int .i64 (z2), .int .i64 (t0), .int .i64 (t1), .int .i64 (t2)]⟩) (m.length + 4) j.P (tpA qa) j.r1 j.v1 j.r2 j.v2 j.M ∧ j.P.length = 8) (fun j => j.M) (fun j hj => hj.1.len) (fun h31 => ?_) (fun h31 => ?_) ?_
  · refine AW.draw [.rd 0, .rd 0, .ext, .ext, .wr] fol (by decide) (by kernel_rfl) ?_
    simp only [push_cast, Nat.reduceAdd, Nat.reduceMul, Nat.reduceSub, Nat.reduceLeDiff, Nat.reduceLT, Nat.reduceEqDiff, Nat.reduceBEq, Nat.reduceBNe, Nat.reduceMod, Nat.reduceDiv, Int.reduceLE, Int.reduceLT, Int.reduceToNat, Int.reduceAdd, Int.reduceSub, Int.reduceMul, Int.reduceNeg, Int.reduceEq, Int.reduceBEq, Int.reduceBNe, ↓reduceIte, reduceCtorEq, String.reduceBNe, String.reduceEq, reduceDIte, Nat.reducePow, h3_1, lk_old h3_1, h4_1, lk_old h4_1, h7_1, lk_old h7_1, h3_1, lk_old h3_1, h4_1, lk_old h4_1, h7_1, lk_old h7_1]
    refine DCall.by0 (toMat_c _ _ _ _ _ _ _ _ _ _ _ _ _ ) ?_
    simp only [push_cast, Nat.reduceAdd, Nat.reduceMul, Nat.reduceSub, Nat.reduceLeDiff, Nat.reduceLT, Nat.reduceEqDiff, Nat.reduceBEq, Nat.reduceBNe, Nat.reduceMod, Nat.reduceDiv, Int.reduceLE, Int.reduceLT, Int.reduceToNat, Int.reduceAdd, Int.reduceSub, Int.reduceMul, Int.reduceNeg, Int.reduceEq, Int.reduceBEq, Int.reduceBNe, ↓reduceIte, reduceCtorEq, String.reduceBNe, String.reduceEq, reduceDIte, Nat.reducePow, h3_1, lk_old h3_1, h4_1, lk_old h4_1, h7_1, lk_old h7_1, h3_1, lk_old h3_1, h4_1, lk_old h4_1, h7_1, lk_old h7_1]
    refine DCall.by (moved_c r1 v1 u1 w1 P1 (tpA qa) x0 x1 x2 y0 y1 y2 z0 z1 z2 t0 t1 t2 _ l1_1 hj1.p1 hj1.p2 (by omega) (by omega)) ?_
    simp only [push_cast, Nat.reduceAdd, Nat.reduceMul, Nat.reduceSub, Nat.reduceLeDiff, Nat.reduceLT, Nat.reduceEqDiff, Nat.reduceBEq, Nat.reduceBNe, Nat.reduceMod, Nat.reduceDiv, Int.reduceLE, Int.reduceLT, Int.reduceToNat, Int.reduceAdd, Int.reduceSub, Int.reduceMul, Int.reduceNeg, Int.reduceEq, Int.reduceBEq, Int.reduceBNe, ↓reduceIte, reduceCtorEq, String.reduceBNe, String.reduceEq, reduceDIte, Nat.reducePow, h3_1, lk_old h3_1, h4_1, lk_old h4_1, h7_1, lk_old h7_1, h3_1, lk_old h3_1, h4_1, lk_old h4_1, h7_1, lk_old h7_1]
    refine Thn_n ?_
    try simp only [keepL, setAll, push_cast, Nat.reduceAdd, Nat.reduceMul, Nat.reduceSub, Nat.reduceLeDiff, Nat.reduceLT, Nat.reduceEqDiff, Nat.reduceBEq, Nat.reduceBNe, Nat.reduceMod, Nat.reduceDiv, Int.reduceLE, Int.reduceLT, Int.reduceToNat, Int.reduceAdd, Int.reduceSub, Int.reduceMul, Int.reduceNeg, Int.reduceEq, Int.reduceBEq, Int.reduceBNe, ↓reduceIte, reduceCtorEq, String.reduceBNe, String.reduceEq, reduceDIte, Nat.reducePow, h3_1, lk_old h3_1, h4_1, lk_old h4_1, h7_1, lk_old h7_1, h3_1, lk_old h3_1, h4_1, lk_old h4_1, h7_1, lk_old h7_1]
    refine ⟨⟨_, P1.map (ptM x0 x1 x2 y0 y1 y2 z0 z1 z2 t0 t1 t2), M1.length, 0, M1.length + 1, 0, true⟩, ⟨hj1.put (X := [⟨.grow, 49, 0, 3, tL (P1.map (ptM x0 x1 x2 y0 y1 y2 z0 z1 z2 t0 t1 t2))⟩, ⟨.grow, 54, 0, 3, tL (tpA qa)⟩]) (k1 := .grow) (k2 := .grow) (e1 := 3) (e2 := 3) (w1 := 0) (w2 := 0) (P' := P1.map (ptM x0 x1 x2 y0 y1 y2 z0 z1 z2 t0 t1 t2)) (Fs' := tpA qa) (s1 := M1.length) (s2 := M1.length + 1) (by rw [List.getElem?_append_right (by omega)]; simp) (by rw [List.getElem?_append_right (by omega)]; simp) (by omega) (by omega) _ (Nat.le_refl _), (by rw [List.length_map]; exact hn1)⟩, Weak.same (by simp only [Keeps, Tm.get_cons, Nat.reduceEqDiff, ↓reduceIte, if_true, if_false, ite_true, ite_false, true_and, and_true, and_self, reduceCtorEq]) (by first | rfl | simp only [tpA, tpB, tpC, tpD, if_true, if_false, ite_true, ite_false, List.length_map, Bool.false_eq_true, reduceIte])⟩
  · refine AW.skip ?_
    refine Thn_n ?_
    try simp only [keepL, setAll, push_cast, Nat.reduceAdd, Nat.reduceMul, Nat.reduceSub, Nat.reduceLeDiff, Nat.reduceLT, Nat.reduceEqDiff, Nat.reduceBEq, Nat.reduceBNe, Nat.reduceMod, Nat.reduceDiv, Int.reduceLE, Int.reduceLT, Int.reduceToNat, Int.reduceAdd, Int.reduceSub, Int.reduceMul, Int.reduceNeg, Int.reduceEq, Int.reduceBEq, Int.reduceBNe, ↓reduceIte, reduceCtorEq, String.reduceBNe, String.reduceEq, reduceDIte, Nat.reducePow, h3_1, lk_old h3_1, h4_1, lk_old h4_1, h7_1, lk_old h7_1, h3_1, lk_old h3_1, h4_1, lk_old h4_1, h7_1, lk_old h7_1]
    refine ⟨⟨M1, P1, r1, v1, u1, w1, false⟩, ⟨⟨hj1.ext, Nat.le_refl _, hj1.g7, h3_1, h4_1, h7_1, l1_1, hj1.p1, hj1.p2, n1_1, n2_1⟩, hn1⟩, Weak.same (by simp only [Keeps, Tm.get_cons, Nat.reduceEqDiff, ↓reduceIte, if_true, if_false, ite_true, ite_false, true_and, and_true, and_self, reduceCtorEq]) rfl⟩
  intro j hj
  obtain ⟨M2, P2, r2, v2, u2, w2, _q⟩ := j
  obtain ⟨hj2, hn2⟩ := hj
  dsimp only at hj2 hn2 ⊢
  have h3_2 := hj2.h3
  have h4_2 := hj2.h4
  have h7_2 := hj2.h7
  have l7_2 := get_lt h7_2
  have l1_2 := hj2.l1
  have n1_2 := hj2.n1
  have n2_2 := hj2.n2
  obtain ⟨kp2, ep2, hp2⟩ := hj2.p1.hb
  obtain ⟨kf2, ef2, hf2⟩ := hj2.p2.hb
  have l2_2 := get_lt hf2
  have hlF2 : (tpA qa).length ≤ 48 := by rw [(tpA_ok qa).2.2.2]; omega
  have hlP2 : P2.length ≤ 98 := by rw [hn2]; first | decide | (first | (cases qb <;> decide) | (cases qb <;> cases qd <;> decide))
  have hca2 : chk P2.length (tpA qa) = 0 := by rw [hn2]; exact okB_chk (tpA_ok qa).1 (by first | decide | (cases qb <;> decide)) (by omega)
  have hfx2 : fnF P2.length (tpA qa) = tpB qa true := by rw [hn2, fnX_eq]; rfl
  have hfl2 : (tpB qa true).length = 4 * (tpA qa).length := by rw [← hfx2]; exact fnF_len _ _
  have hnf : (fnP P2 (tpA qa)).length = nB true := by rw [fnP_len, hn2, (tpA_ok qa).2.1]; rfl
  have hcf2 : chk (fnP P2 (tpA qa)).length (fnF P2.length (tpA qa)) = 0 := by rw [hnf, hfx2]; exact okB_chk (tpA_ok qa).2.2.1 (by first | decide | (cases qb <;> decide)) (by omega)
  have hfin2 := finer_ok r2 v2 u2 w2 P2 (tpA qa) M2 l1_2 hj2.p1 hj2.p2 (by omega) (by omega) hca2 hcf2
  rw [hfx2] at hfin2
  have hw42 : IntKind.i64.wrap (4 * ((tpA qa).length : Int)) = ((tpB qa true).length : Int) := by
    rw [hfl2, Int.natCast_mul]; exact wi (by omega)
  try simp only [keepL, setAll, push_cast, Nat.reduceAdd, Nat.reduceMul, Nat.reduceSub, Nat.reduceLeDiff, Nat.reduceLT, Nat.reduceEqDiff, Nat.reduceBEq, Nat.reduceBNe, Nat.reduceMod, Nat.reduceDiv, Int.reduceLE, Int.reduceLT, Int.reduceToNat, Int.reduceAdd, Int.reduceSub, Int.reduceMul, Int.reduceNeg, Int.reduceEq, Int.reduceBEq, Int.reduceBNe, ↓reduceIte, reduceCtorEq, String.reduceBNe, String.reduceEq, reduceDIte, Nat.reducePow, h3_1, lk_old h3_1, h4_1, lk_old h4_1, h7_1, lk_old h7_1, hw42, bne_self_eq_false, h3_2, lk_old h3_2, h4_2, lk_old h4_2, h7_2, lk_old h7_2]
  refine Thn_n ?_
  refine hK _ _ ?_
  clear hK K
  refine AW.seq_k fun K hK => ?_
  refine AW.region (by decide) ?_
  simp only [push_cast, Nat.reduceAdd, Nat.reduceMul, Nat.reduceSub, Nat.reduceLeDiff, Nat.reduceLT, Nat.reduceEqDiff, Nat.reduceBEq, Nat.reduceBNe, Nat.reduceMod, Nat.reduceDiv, Int.reduceLE, Int.reduceLT, Int.reduceToNat, Int.reduceAdd, Int.reduceSub, Int.reduceMul, Int.reduceNeg, Int.reduceEq, Int.reduceBEq, Int.reduceBNe, ↓reduceIte, reduceCtorEq, String.reduceBNe, String.reduceEq, reduceDIte, Nat.reducePow, h3_1, lk_old h3_1, h4_1, lk_old h4_1, h7_1, lk_old h7_1, hw42, bne_self_eq_false, h3_2, lk_old h3_2, h4_2, lk_old h4_2, h7_2, lk_old h7_2]
  refine Thn_n ?_
  refine hK _ _ ?_
  clear hK K
  refine AW.condE rfl [2, 3, 4, 7, 16] (fun j : JL => StL m M2.length (⟨.fix, 24, 0, 0, [.int .i64 (a0), .int .i64 (a1), .int .i64 (a2)]⟩) (⟨.fix, 27, 0, 0, [.int .i64 (x0), .int .i64 (x1), .int .i64 (x2), .int .i64 (y0), .int .i64 (y1), .int .i64 (y2), .int .i64 (z0), .int .i64 (z1), .int .i64 (z2), .int .i64 (t0), .int .i64 (t1), .int .i64 (t2)]⟩) (m.length + 4) j.P (tpB qa j.b) j.r1 j.v1 j.r2 j.v2 j.M ∧ j.P.length = nB j.b) (fun j => j.M) (fun j hj => hj.1.len) (fun h41 => ?_) (fun h41 => ?_) ?_
  · refine AW.seq_k fun K hK => ?_
    refine AW.region (by decide) ?_
    simp only [push_cast, Nat.reduceAdd, Nat.reduceMul, Nat.reduceSub, Nat.reduceLeDiff, Nat.reduceLT, Nat.reduceEqDiff, Nat.reduceBEq, Nat.reduceBNe, Nat.reduceMod, Nat.reduceDiv, Int.reduceLE, Int.reduceLT, Int.reduceToNat, Int.reduceAdd, Int.reduceSub, Int.reduceMul, Int.reduceNeg, Int.reduceEq, Int.reduceBEq, Int.reduceBNe, ↓reduceIte, reduceCtorEq, String.reduceBNe, String.reduceEq, reduceDIte, Nat.reducePow, h3_1, lk_old h3_1, h4_1, lk_old h4_1, h7_1, lk_old h7_1, hw42, bne_self_eq_false, h3_2, lk_old h3_2, h4_2, lk_old h4_2, h7_2, lk_old h7_2, hw42, bne_self_eq_false, h3_2, lk_old h3_2, h4_2, lk_old h4_2, h7_2, lk_old h7_2]
    refine CThen.by (hfin2) ?_
    simp only [push_cast, Nat.reduceAdd, Nat.reduceMul, Nat.reduceSub, Nat.reduceLeDiff, Nat.reduceLT, Nat.reduceEqDiff, Nat.reduceBEq, Nat.reduceBNe, Nat.reduceMod, Nat.reduceDiv, Int.reduceLE, Int.reduceLT, Int.reduceToNat, Int.reduceAdd, Int.reduceSub, Int.reduceMul, Int.reduceNeg, Int.reduceEq, Int.reduceBEq, Int.reduceBNe, ↓reduceIte, reduceCtorEq, String.reduceBNe, String.reduceEq, reduceDIte, Nat.reducePow, h3_1, lk_old h3_1, h4_1, lk_old h4_1, h7_1, lk_old h7_1, hw42, bne_self_eq_false, h3_2, lk_old h3_2, h4_2, lk_old h4_2, h7_2, lk_old h7_2, hw42, bne_self_eq_false, h3_2, lk_old h3_2, h4_2, lk_old h4_2, h7_2, lk_old h7_2]
    refine Thn_n ?_
    refine hK _ _ ?_
    clear hK K
    refine AW.seq_k fun K hK => ?_
    refine AW.seq_k fun K hK => ?_
    refine AW.region (by decide) ?_
    simp only [push_cast, Nat.reduceAdd, Nat.reduceMul, Nat.reduceSub, Nat.reduceLeDiff, Nat.reduceLT, Nat.reduceEqDiff, Nat.reduceBEq, Nat.reduceBNe, Nat.reduceMod, Nat.reduceDiv, Int.reduceLE, Int.reduceLT, Int.reduceToNat, Int.reduceAdd, Int.reduceSub, Int.reduceMul, Int.reduceNeg, Int.reduceEq, Int.reduceBEq, Int.reduceBNe, ↓reduceIte, reduceCtorEq, String.reduceBNe, String.reduceEq, reduceDIte, Nat.reducePow, h3_1, lk_old h3_1, h4_1, lk_old h4_1, h7_1, lk_old h7_1, hw42, bne_self_eq_false, h3_2, lk_old h3_2, h4_2, lk_old h4_2, h7_2, lk_old h7_2, hw42, bne_self_eq_false, h3_2, lk_old h3_2, h4_2, lk_old h4_2, h7_2, lk_old h7_2]
    refine Thn_n ?_
    refine hK _ _ ?_
    clear hK K
    refine AW.cond_f rfl ?_
    refine AW.skip ?_
    refine Thn_n ?_
    refine hK _ _ ?_
    clear hK K
    refine AW.region (by decide) ?_
    simp only [push_cast, Nat.reduceAdd, Nat.reduceMul, Nat.reduceSub, Nat.reduceLeDiff, Nat.reduceLT, Nat.reduceEqDiff, Nat.reduceBEq, Nat.reduceBNe, Nat.reduceMod, Nat.reduceDiv, Int.reduceLE, Int.reduceLT, Int.reduceToNat, Int.reduceAdd, Int.reduceSub, Int.reduceMul, Int.reduceNeg, Int.reduceEq, Int.reduceBEq, Int.reduceBNe, ↓reduceIte, reduceCtorEq, String.reduceBNe, String.reduceEq, reduceDIte, Nat.reducePow, h3_1, lk_old h3_1, h4_1, lk_old h4_1, h7_1, lk_old h7_1, hw42, bne_self_eq_false, h3_2, lk_old h3_2, h4_2, lk_old h4_2, h7_2, lk_old h7_2, hw42, bne_self_eq_false, h3_2, lk_old h3_2, h4_2, lk_old h4_2, h7_2, lk_old h7_2]
    refine Thn_n ?_
    try simp only [keepL, setAll, push_cast, Nat.reduceAdd, Nat.reduceMul, Nat.reduceSub, Nat.reduceLeDiff, Nat.reduceLT, Nat.reduceEqDiff, Nat.reduceBEq, Nat.reduceBNe, Nat.reduceMod, Nat.reduceDiv, Int.reduceLE, Int.reduceLT, Int.reduceToNat, Int.reduceAdd, Int.reduceSub, Int.reduceMul, Int.reduceNeg, Int.reduceEq, Int.reduceBEq, Int.reduceBNe, ↓reduceIte, reduceCtorEq, String.reduceBNe, String.reduceEq, reduceDIte, Nat.reducePow, h3_1, lk_old h3_1, h4_1, lk_old h4_1, h7_1, lk_old h7_1, hw42, bne_self_eq_false, h3_2, lk_old h3_2, h4_2, lk_old h4_2, h7_2, lk_old h7_2, hw42, bne_self_eq_false, h3_2, lk_old h3_2, h4_2, lk_old h4_2, h7_2, lk_old h7_2]
    refine ⟨⟨_, fnP P2 (tpA qa), M2.length, 0, M2.length + 1, 0, true⟩, ⟨hj2.put (X := [⟨.grow, 49, 0, 3, tL (fnP P2 (tpA qa))⟩, ⟨.grow, 54, 0, 3, tL (tpB qa true)⟩, ⟨.fix, 37, 0, 0, [.sl M2.length 0 0 (fnP P2 (tpA qa)).length, .sl (M2.length + 1) 0 0 (tpB qa true).length]⟩]) (k1 := .grow) (k2 := .grow) (e1 := 3) (e2 := 3) (w1 := 0) (w2 := 0) (P' := fnP P2 (tpA qa)) (Fs' := tpB qa true) (s1 := M2.length) (s2 := M2.length + 1) (by rw [List.getElem?_append_right (by omega)]; simp) (by rw [List.getElem?_append_right (by omega)]; simp) (by omega) (by omega) _ (Nat.le_refl _), hnf⟩, Weak.same (by simp only [Keeps, Tm.get_cons, Nat.reduceEqDiff, ↓reduceIte, if_true, if_false, ite_true, ite_false, true_and, and_true, and_self, reduceCtorEq]) (by first | rfl | simp only [tpA, tpB, tpC, tpD, if_true, if_false, ite_true, ite_false, List.length_map, Bool.false_eq_true, reduceIte])⟩
  · refine AW.skip ?_
    refine Thn_n ?_
    try simp only [keepL, setAll, push_cast, Nat.reduceAdd, Nat.reduceMul, Nat.reduceSub, Nat.reduceLeDiff, Nat.reduceLT, Nat.reduceEqDiff, Nat.reduceBEq, Nat.reduceBNe, Nat.reduceMod, Nat.reduceDiv, Int.reduceLE, Int.reduceLT, Int.reduceToNat, Int.reduceAdd, Int.reduceSub, Int.reduceMul, Int.reduceNeg, Int.reduceEq, Int.reduceBEq, Int.reduceBNe, ↓reduceIte, reduceCtorEq, String.reduceBNe, String.reduceEq, reduceDIte, Nat.reducePow, h3_1, lk_old h3_1, h4_1, lk_old h4_1, h7_1, lk_old h7_1, hw42, bne_self_eq_false, h3_2, lk_old h3_2, h4_2, lk_old h4_2, h7_2, lk_old h7_2, hw42, bne_self_eq_false, h3_2, lk_old h3_2, h4_2, lk_old h4_2, h7_2, lk_old h7_2]
    refine ⟨⟨M2, P2, r2, v2, u2, w2, false⟩, ⟨⟨hj2.ext, Nat.le_refl _, hj2.g7, h3_2, h4_2, h7_2, l1_2, hj2.p1, hj2.p2, n1_2, n2_2⟩, hn2⟩, Weak.same (by simp only [Keeps, Tm.get_cons, Nat.reduceEqDiff, ↓reduceIte, if_true, if_false, ite_true, ite_false, true_and, and_true, and_self, reduceCtorEq]) rfl⟩
  intro j hj
  obtain ⟨M3, P3, r3, v3, u3, w3, qb⟩ := j
  obtain ⟨hj3, hn3⟩ := hj
  dsimp only at hj3 hn3 ⊢
  have h3_3 := hj3.h3
  have h4_3 := hj3.h4
  have h7_3 := hj3.h7
  have l7_3 := get_lt h7_3
  have l1_3 := hj3.l1
  have n1_3 := hj3.n1
  have n2_3 := hj3.n2
  obtain ⟨kp3, ep3, hp3⟩ := hj3.p1.hb
  obtain ⟨kf3, ef3, hf3⟩ := hj3.p2.hb
  have l2_3 := get_lt hf3
  have hlF3 : (tpB qa qb).length ≤ 48 := by rw [tpB_len]; split <;> omega
  have hlP3 : P3.length ≤ 98 := by rw [hn3]; first | decide | (first | (cases qb <;> decide) | (cases qb <;> cases qd <;> decide))
  try simp only [keepL, setAll, push_cast, Nat.reduceAdd, Nat.reduceMul, Nat.reduceSub, Nat.reduceLeDiff, Nat.reduceLT, Nat.reduceEqDiff, Nat.reduceBEq, Nat.reduceBNe, Nat.reduceMod, Nat.reduceDiv, Int.reduceLE, Int.reduceLT, Int.reduceToNat, Int.reduceAdd, Int.reduceSub, Int.reduceMul, Int.reduceNeg, Int.reduceEq, Int.reduceBEq, Int.reduceBNe, ↓reduceIte, reduceCtorEq, String.reduceBNe, String.reduceEq, reduceDIte, Nat.reducePow, h3_1, lk_old h3_1, h4_1, lk_old h4_1, h7_1, lk_old h7_1, hw42, bne_self_eq_false, h3_2, lk_old h3_2, h4_2, lk_old h4_2, h7_2, lk_old h7_2, h3_3, lk_old h3_3, h4_3, lk_old h4_3, h7_3, lk_old h7_3]
  refine InB_n ?_
  refine Thn_n ?_
  refine hK _ _ ?_
  clear hK K
  refine AW.region (by decide) ?_
  simp only [push_cast, Nat.reduceAdd, Nat.reduceMul, Nat.reduceSub, Nat.reduceLeDiff, Nat.reduceLT, Nat.reduceEqDiff, Nat.reduceBEq, Nat.reduceBNe, Nat.reduceMod, Nat.reduceDiv, Int.reduceLE, Int.reduceLT, Int.reduceToNat, Int.reduceAdd, Int.reduceSub, Int.reduceMul, Int.reduceNeg, Int.reduceEq, Int.reduceBEq, Int.reduceBNe, ↓reduceIte, reduceCtorEq, String.reduceBNe, String.reduceEq, reduceDIte, Nat.reducePow, h3_1, lk_old h3_1, h4_1, lk_old h4_1, h7_1, lk_old h7_1, hw42, bne_self_eq_false, h3_2, lk_old h3_2, h4_2, lk_old h4_2, h7_2, lk_old h7_2, h3_3, lk_old h3_3, h4_3, lk_old h4_3, h7_3, lk_old h7_3]
  refine Thn_n ?_
  refine hK _ _ ?_
  clear hK K
  refine ARounds.succ fun K hK => ?_
  refine AW.seq_k fun K hK => ?_
  refine AW.region (by decide) ?_
  simp only [push_cast, Nat.reduceAdd, Nat.reduceMul, Nat.reduceSub, Nat.reduceLeDiff, Nat.reduceLT, Nat.reduceEqDiff, Nat.reduceBEq, Nat.reduceBNe, Nat.reduceMod, Nat.reduceDiv, Int.reduceLE, Int.reduceLT, Int.reduceToNat, Int.reduceAdd, Int.reduceSub, Int.reduceMul, Int.reduceNeg, Int.reduceEq, Int.reduceBEq, Int.reduceBNe, ↓reduceIte, reduceCtorEq, String.reduceBNe, String.reduceEq, reduceDIte, Nat.reducePow]
  refine Thn_n ?_
  refine hK _ _ ?_
  clear hK K
  refine AW.seq_k fun K hK => ?_
  refine AW.cond_t rfl ?_
  refine AW.skip ?_
  refine Thn_n ?_
  refine hK _ _ ?_
  clear hK K
  refine AW.seq_k fun K hK => ?_
  refine AW.block ?_
  refine AW.seq_k fun K hK => ?_
  refine AW.region (by decide) ?_
  simp only [push_cast, Nat.reduceAdd, Nat.reduceMul, Nat.reduceSub, Nat.reduceLeDiff, Nat.reduceLT, Nat.reduceEqDiff, Nat.reduceBEq, Nat.reduceBNe, Nat.reduceMod, Nat.reduceDiv, Int.reduceLE, Int.reduceLT, Int.reduceToNat, Int.reduceAdd, Int.reduceSub, Int.reduceMul, Int.reduceNeg, Int.reduceEq, Int.reduceBEq, Int.reduceBNe, ↓reduceIte, reduceCtorEq, String.reduceBNe, String.reduceEq, reduceDIte, Nat.reducePow]
  refine Thn_n ?_
  refine hK _ _ ?_
  clear hK K
  refine AW.seq_k fun K hK => ?_
  refine AW.seq_k fun K hK => ?_
  refine AW.region (by decide) ?_
  simp only [push_cast, Nat.reduceAdd, Nat.reduceMul, Nat.reduceSub, Nat.reduceLeDiff, Nat.reduceLT, Nat.reduceEqDiff, Nat.reduceBEq, Nat.reduceBNe, Nat.reduceMod, Nat.reduceDiv, Int.reduceLE, Int.reduceLT, Int.reduceToNat, Int.reduceAdd, Int.reduceSub, Int.reduceMul, Int.reduceNeg, Int.reduceEq, Int.reduceBEq, Int.reduceBNe, ↓reduceIte, reduceCtorEq, String.reduceBNe, String.reduceEq, reduceDIte, Nat.reducePow]
  refine Thn_n ?_
  refine hK _ _ ?_
  clear hK K
  refine AW.condE rfl [2, 3, 4, 7, 8, 16] (fun j : JL => StL m M3.length (⟨.fix, 24, 0, 0, [.int .i64 (a0), .int .i64 (a1), .int .i64 (a2)]⟩) (⟨.fix, 27, 0, 0, [.int .i64 (x0), .int .i64 (x1), .int .i64 (x2), .int .i64 (y0), .int .i64 (y1), .int .i64 (y2), .int .i64 (z0), .int .i64 (z1), .int .i64 (z2), .int .i64 (t0), .int .i64 (t1), .int .i64 (t2)]⟩) (m.length + 4) j.P (tpC qa qb j.b) j.r1 j.v1 j.r2 j.v2 j.M ∧ j.P.length = nB qb) (fun j => j.M) (fun j hj => hj.1.len) (fun h23 => ?_) (fun h23 => ?_) ?_
  · refine AW.region (by decide) ?_
    simp only [push_cast, Nat.reduceAdd, Nat.reduceMul, Nat.reduceSub, Nat.reduceLeDiff, Nat.reduceLT, Nat.reduceEqDiff, Nat.reduceBEq, Nat.reduceBNe, Nat.reduceMod, Nat.reduceDiv, Int.reduceLE, Int.reduceLT, Int.reduceToNat, Int.reduceAdd, Int.reduceSub, Int.reduceMul, Int.reduceNeg, Int.reduceEq, Int.reduceBEq, Int.reduceBNe, ↓reduceIte, reduceCtorEq, String.reduceBNe, String.reduceEq, reduceDIte, Nat.reducePow, h3_3, lk_old h3_3, h4_3, lk_old h4_3, h7_3, lk_old h7_3]
    refine CThen.by (turned_c r3 v3 u3 w3 P3 (tpB qa qb) _ l1_3 hj3.p1 hj3.p2 (by omega) (by omega)) ?_
    simp only [push_cast, Nat.reduceAdd, Nat.reduceMul, Nat.reduceSub, Nat.reduceLeDiff, Nat.reduceLT, Nat.reduceEqDiff, Nat.reduceBEq, Nat.reduceBNe, Nat.reduceMod, Nat.reduceDiv, Int.reduceLE, Int.reduceLT, Int.reduceToNat, Int.reduceAdd, Int.reduceSub, Int.reduceMul, Int.reduceNeg, Int.reduceEq, Int.reduceBEq, Int.reduceBNe, ↓reduceIte, reduceCtorEq, String.reduceBNe, String.reduceEq, reduceDIte, Nat.reducePow, h3_3, lk_old h3_3, h4_3, lk_old h4_3, h7_3, lk_old h7_3]
    refine Thn_n ?_
    try simp only [keepL, setAll, push_cast, Nat.reduceAdd, Nat.reduceMul, Nat.reduceSub, Nat.reduceLeDiff, Nat.reduceLT, Nat.reduceEqDiff, Nat.reduceBEq, Nat.reduceBNe, Nat.reduceMod, Nat.reduceDiv, Int.reduceLE, Int.reduceLT, Int.reduceToNat, Int.reduceAdd, Int.reduceSub, Int.reduceMul, Int.reduceNeg, Int.reduceEq, Int.reduceBEq, Int.reduceBNe, ↓reduceIte, reduceCtorEq, String.reduceBNe, String.reduceEq, reduceDIte, Nat.reducePow, h3_3, lk_old h3_3, h4_3, lk_old h4_3, h7_3, lk_old h7_3]
    refine ⟨⟨_, P3, M3.length, 0, M3.length + 1, 0, true⟩, ⟨hj3.put (X := [⟨.grow, 49, 0, 3, tL (P3)⟩, ⟨.grow, 54, 0, 3, tL (tpC qa qb true)⟩]) (k1 := .grow) (k2 := .grow) (e1 := 3) (e2 := 3) (w1 := 0) (w2 := 0) (P' := P3) (Fs' := tpC qa qb true) (s1 := M3.length) (s2 := M3.length + 1) (by rw [List.getElem?_append_right (by omega)]; simp) (by rw [List.getElem?_append_right (by omega)]; simp) (by omega) (by omega) _ (Nat.le_refl _), hn3⟩, Weak.same (by simp only [Keeps, Tm.get_cons, Nat.reduceEqDiff, ↓reduceIte, if_true, if_false, ite_true, ite_false, true_and, and_true, and_self, reduceCtorEq]) (by first | rfl | simp only [tpA, tpB, tpC, tpD, if_true, if_false, ite_true, ite_false, List.length_map, Bool.false_eq_true, reduceIte])⟩
  · refine AW.skip ?_
    refine Thn_n ?_
    try simp only [keepL, setAll, push_cast, Nat.reduceAdd, Nat.reduceMul, Nat.reduceSub, Nat.reduceLeDiff, Nat.reduceLT, Nat.reduceEqDiff, Nat.reduceBEq, Nat.reduceBNe, Nat.reduceMod, Nat.reduceDiv, Int.reduceLE, Int.reduceLT, Int.reduceToNat, Int.reduceAdd, Int.reduceSub, Int.reduceMul, Int.reduceNeg, Int.reduceEq, Int.reduceBEq, Int.reduceBNe, ↓reduceIte, reduceCtorEq, String.reduceBNe, String.reduceEq, reduceDIte, Nat.reducePow, h3_3, lk_old h3_3, h4_3, lk_old h4_3, h7_3, lk_old h7_3]
    refine ⟨⟨M3, P3, r3, v3, u3, w3, false⟩, ⟨⟨hj3.ext, Nat.le_refl _, hj3.g7, h3_3, h4_3, h7_3, l1_3, hj3.p1, hj3.p2, n1_3, n2_3⟩, hn3⟩, Weak.same (by simp only [Keeps, Tm.get_cons, Nat.reduceEqDiff, ↓reduceIte, if_true, if_false, ite_true, ite_false, true_and, and_true, and_self, reduceCtorEq]) rfl⟩
  intro j hj
  obtain ⟨M4, P4, r4, v4, u4, w4, qc⟩ := j
  obtain ⟨hj4, hn4⟩ := hj
  dsimp only at hj4 hn4 ⊢
  have h3_4 := hj4.h3
  have h4_4 := hj4.h4
  have h7_4 := hj4.h7
  have l7_4 := get_lt h7_4
  have l1_4 := hj4.l1
  have n1_4 := hj4.n1
  have n2_4 := hj4.n2
  obtain ⟨kp4, ep4, hp4⟩ := hj4.p1.hb
  obtain ⟨kf4, ef4, hf4⟩ := hj4.p2.hb
  have l2_4 := get_lt hf4
  have hlF4 : (tpC qa qb qc).length ≤ 48 := by rw [tpC_len]; split <;> omega
  have hlP4 : P4.length ≤ 98 := by rw [hn4]; first | decide | (first | (cases qb <;> decide) | (cases qb <;> cases qd <;> decide))
  try simp only [keepL, setAll, push_cast, Nat.reduceAdd, Nat.reduceMul, Nat.reduceSub, Nat.reduceLeDiff, Nat.reduceLT, Nat.reduceEqDiff, Nat.reduceBEq, Nat.reduceBNe, Nat.reduceMod, Nat.reduceDiv, Int.reduceLE, Int.reduceLT, Int.reduceToNat, Int.reduceAdd, Int.reduceSub, Int.reduceMul, Int.reduceNeg, Int.reduceEq, Int.reduceBEq, Int.reduceBNe, ↓reduceIte, reduceCtorEq, String.reduceBNe, String.reduceEq, reduceDIte, Nat.reducePow, h3_4, lk_old h3_4, h4_4, lk_old h4_4, h7_4, lk_old h7_4]
  refine Thn_n ?_
  refine hK _ _ ?_
  clear hK K
  refine AW.seq_k fun K hK => ?_
  refine AW.seq_k fun K hK => ?_
  refine AW.region (by decide) ?_
  simp only [push_cast, Nat.reduceAdd, Nat.reduceMul, Nat.reduceSub, Nat.reduceLeDiff, Nat.reduceLT, Nat.reduceEqDiff, Nat.reduceBEq, Nat.reduceBNe, Nat.reduceMod, Nat.reduceDiv, Int.reduceLE, Int.reduceLT, Int.reduceToNat, Int.reduceAdd, Int.reduceSub, Int.reduceMul, Int.reduceNeg, Int.reduceEq, Int.reduceBEq, Int.reduceBNe, ↓reduceIte, reduceCtorEq, String.reduceBNe, String.reduceEq, reduceDIte, Nat.reducePow, h3_4, lk_old h3_4, h4_4, lk_old h4_4, h7_4, lk_old h7_4]
  refine Thn_n ?_
  refine hK _ _ ?_
  clear hK K
  refine AW.condE rfl [2, 3, 4, 7, 8, 16] (fun j : JL => StL m M4.length (⟨.fix, 24, 0, 0, [.int .i64 (a0), .int .i64 (a1), .int .i64 (a2)]⟩) (⟨.fix, 27, 0, 0, [.int .i64 (x0), .int .i64 (x1), .int .i64 (x2), .int .i64 (y0), .int .i64 (y1), .int .i64 (y2), .int .i64 (z0), .int .i64 (z1), .int .i64 (z2), .int .i64 (t0), .int .i64 (t1), .int .i64 (t2)]⟩) (m.length + 4) j.P (tpC qa qb qc) j.r1 j.v1 j.r2 j.v2 j.M ∧ j.P.length = nB qb) (fun j => j.M) (fun j hj => hj.1.len) (fun h31 => ?_) (fun h31 => ?_) ?_
  · refine AW.draw [.rd 0, .rd 0, .ext, .ext, .wr] fol (by decide) (by kernel_rfl) ?_
    simp only [push_cast, Nat.reduceAdd, Nat.reduceMul, Nat.reduceSub, Nat.reduceLeDiff, Nat.reduceLT, Nat.reduceEqDiff, Nat.reduceBEq, Nat.reduceBNe, Nat.reduceMod, Nat.reduceDiv, Int.reduceLE, Int.reduceLT, Int.reduceToNat, Int.reduceAdd, Int.reduceSub, Int.reduceMul, Int.reduceNeg, Int.reduceEq, Int.reduceBEq, Int.reduceBNe, ↓reduceIte, reduceCtorEq, String.reduceBNe, String.reduceEq, reduceDIte, Nat.reducePow, h3_4, lk_old h3_4, h4_4, lk_old h4_4, h7_4, lk_old h7_4, h3_4, lk_old h3_4, h4_4, lk_old h4_4, h7_4, lk_old h7_4]
    refine DCall.by0 (toMat_c _ _ _ _ _ _ _ _ _ _ _ _ _ ) ?_
    simp only [push_cast, Nat.reduceAdd, Nat.reduceMul, Nat.reduceSub, Nat.reduceLeDiff, Nat.reduceLT, Nat.reduceEqDiff, Nat.reduceBEq, Nat.reduceBNe, Nat.reduceMod, Nat.reduceDiv, Int.reduceLE, Int.reduceLT, Int.reduceToNat, Int.reduceAdd, Int.reduceSub, Int.reduceMul, Int.reduceNeg, Int.reduceEq, Int.reduceBEq, Int.reduceBNe, ↓reduceIte, reduceCtorEq, String.reduceBNe, String.reduceEq, reduceDIte, Nat.reducePow, h3_4, lk_old h3_4, h4_4, lk_old h4_4, h7_4, lk_old h7_4, h3_4, lk_old h3_4, h4_4, lk_old h4_4, h7_4, lk_old h7_4]
    refine DCall.by (moved_c r4 v4 u4 w4 P4 (tpC qa qb qc) x0 x1 x2 y0 y1 y2 z0 z1 z2 t0 t1 t2 _ l1_4 hj4.p1 hj4.p2 (by omega) (by omega)) ?_
    simp only [push_cast, Nat.reduceAdd, Nat.reduceMul, Nat.reduceSub, Nat.reduceLeDiff, Nat.reduceLT, Nat.reduceEqDiff, Nat.reduceBEq, Nat.reduceBNe, Nat.reduceMod, Nat.reduceDiv, Int.reduceLE, Int.reduceLT, Int.reduceToNat, Int.reduceAdd, Int.reduceSub, Int.reduceMul, Int.reduceNeg, Int.reduceEq, Int.reduceBEq, Int.reduceBNe, ↓reduceIte, reduceCtorEq, String.reduceBNe, String.reduceEq, reduceDIte, Nat.reducePow, h3_4, lk_old h3_4, h4_4, lk_old h4_4, h7_4, lk_old h7_4, h3_4, lk_old h3_4, h4_4, lk_old h4_4, h7_4, lk_old h7_4]
    refine Thn_n ?_
    try simp only [keepL, setAll, push_cast, Nat.reduceAdd, Nat.reduceMul, Nat.reduceSub, Nat.reduceLeDiff, Nat.reduceLT, Nat.reduceEqDiff, Nat.reduceBEq, Nat.reduceBNe, Nat.reduceMod, Nat.reduceDiv, Int.reduceLE, Int.reduceLT, Int.reduceToNat, Int.reduceAdd, Int.reduceSub, Int.reduceMul, Int.reduceNeg, Int.reduceEq, Int.reduceBEq, Int.reduceBNe, ↓reduceIte, reduceCtorEq, String.reduceBNe, String.reduceEq, reduceDIte, Nat.reducePow, h3_4, lk_old h3_4, h4_4, lk_old h4_4, h7_4, lk_old h7_4, h3_4, lk_old h3_4, h4_4, lk_old h4_4, h7_4, lk_old h7_4]
    refine ⟨⟨_, P4.map (ptM x0 x1 x2 y0 y1 y2 z0 z1 z2 t0 t1 t2), M4.length, 0, M4.length + 1, 0, true⟩, ⟨hj4.put (X := [⟨.grow, 49, 0, 3, tL (P4.map (ptM x0 x1 x2 y0 y1 y2 z0 z1 z2 t0 t1 t2))⟩, ⟨.grow, 54, 0, 3, tL (tpC qa qb qc)⟩]) (k1 := .grow) (k2 := .grow) (e1 := 3) (e2 := 3) (w1 := 0) (w2 := 0) (P' := P4.map (ptM x0 x1 x2 y0 y1 y2 z0 z1 z2 t0 t1 t2)) (Fs' := tpC qa qb qc) (s1 := M4.length) (s2 := M4.length + 1) (by rw [List.getElem?_append_right (by omega)]; simp) (by rw [List.getElem?_append_right (by omega)]; simp) (by omega) (by omega) _ (Nat.le_refl _), (by rw [List.length_map]; exact hn4)⟩, Weak.same (by simp only [Keeps, Tm.get_cons, Nat.reduceEqDiff, ↓reduceIte, if_true, if_false, ite_true, ite_false, true_and, and_true, and_self, reduceCtorEq]) (by first | rfl | simp only [tpA, tpB, tpC, tpD, if_true, if_false, ite_true, ite_false, List.length_map, Bool.false_eq_true, reduceIte])⟩
  · refine AW.skip ?_
    refine Thn_n ?_
    try simp only [keepL, setAll, push_cast, Nat.reduceAdd, Nat.reduceMul, Nat.reduceSub, Nat.reduceLeDiff, Nat.reduceLT, Nat.reduceEqDiff, Nat.reduceBEq, Nat.reduceBNe, Nat.reduceMod, Nat.reduceDiv, Int.reduceLE, Int.reduceLT, Int.reduceToNat, Int.reduceAdd, Int.reduceSub, Int.reduceMul, Int.reduceNeg, Int.reduceEq, Int.reduceBEq, Int.reduceBNe, ↓reduceIte, reduceCtorEq, String.reduceBNe, String.reduceEq, reduceDIte, Nat.reducePow, h3_4, lk_old h3_4, h4_4, lk_old h4_4, h7_4, lk_old h7_4, h3_4, lk_old h3_4, h4_4, lk_old h4_4, h7_4, lk_old h7_4]
    refine ⟨⟨M4, P4, r4, v4, u4, w4, false⟩, ⟨⟨hj4.ext, Nat.le_refl _, hj4.g7, h3_4, h4_4, h7_4, l1_4, hj4.p1, hj4.p2, n1_4, n2_4⟩, hn4⟩, Weak.same (by simp only [Keeps, Tm.get_cons, Nat.reduceEqDiff, ↓reduceIte, if_true, if_false, ite_true, ite_false, true_and, and_true, and_self, reduceCtorEq]) rfl⟩
  intro j hj
  obtain ⟨M5, P5, r5, v5, u5, w5, _q⟩ := j
  obtain ⟨hj5, hn5⟩ := hj
  dsimp only at hj5 hn5 ⊢
  have h3_5 := hj5.h3
  have h4_5 := hj5.h4
  have h7_5 := hj5.h7
  have l7_5 := get_lt h7_5
  have l1_5 := hj5.l1
  have n1_5 := hj5.n1
  have n2_5 := hj5.n2
  obtain ⟨kp5, ep5, hp5⟩ := hj5.p1.hb
  obtain ⟨kf5, ef5, hf5⟩ := hj5.p2.hb
  have l2_5 := get_lt hf5
  have hlF5 : (tpC qa qb qc).length ≤ 48 := by rw [tpC_len]; split <;> omega
  have hlP5 : P5.length ≤ 98 := by rw [hn5]; first | decide | (first | (cases qb <;> decide) | (cases qb <;> cases qd <;> decide))
  have hca5 : chk P5.length (tpC qa qb qc) = 0 := by rw [hn5]; exact okB_chk (tpC_ok qa qb qc).1 (by first | decide | (cases qb <;> decide)) (by omega)
  have hfx5 : fnF P5.length (tpC qa qb qc) = tpD qa qb qc true := by rw [hn5, fnX_eq]; rfl
  have hfl5 : (tpD qa qb qc true).length = 4 * (tpC qa qb qc).length := by rw [← hfx5]; exact fnF_len _ _
  have hnf : (fnP P5 (tpC qa qb qc)).length = nD qb true := by rw [fnP_len, hn5, (tpC_ok qa qb qc).2.1]; rfl
  have hcf5 : chk (fnP P5 (tpC qa qb qc)).length (fnF P5.length (tpC qa qb qc)) = 0 := by rw [hnf, hfx5]; exact okB_chk (tpC_ok qa qb qc).2.2 (by first | decide | (cases qb <;> decide)) (by omega)
  have hfin5 := finer_ok r5 v5 u5 w5 P5 (tpC qa qb qc) M5 l1_5 hj5.p1 hj5.p2 (by omega) (by omega) hca5 hcf5
  rw [hfx5] at hfin5
  have hw45 : IntKind.i64.wrap (4 * ((tpC qa qb qc).length : Int)) = ((tpD qa qb qc true).length : Int) := by
    rw [hfl5, Int.natCast_mul]; exact wi (by omega)
  try simp only [keepL, setAll, push_cast, Nat.reduceAdd, Nat.reduceMul, Nat.reduceSub, Nat.reduceLeDiff, Nat.reduceLT, Nat.reduceEqDiff, Nat.reduceBEq, Nat.reduceBNe, Nat.reduceMod, Nat.reduceDiv, Int.reduceLE, Int.reduceLT, Int.reduceToNat, Int.reduceAdd, Int.reduceSub, Int.reduceMul, Int.reduceNeg, Int.reduceEq, Int.reduceBEq, Int.reduceBNe, ↓reduceIte, reduceCtorEq, String.reduceBNe, String.reduceEq, reduceDIte, Nat.reducePow, h3_4, lk_old h3_4, h4_4, lk_old h4_4, h7_4, lk_old h7_4, hw45, bne_self_eq_false, h3_5, lk_old h3_5, h4_5, lk_old h4_5, h7_5, lk_old h7_5]
  refine Thn_n ?_
  refine hK _ _ ?_
  clear hK K
  refine AW.seq_k fun K hK => ?_
  refine AW.region (by decide) ?_
  simp only [push_cast, Nat.reduceAdd, Nat.reduceMul, Nat.reduceSub, Nat.reduceLeDiff, Nat.reduceLT, Nat.reduceEqDiff, Nat.reduceBEq, Nat.reduceBNe, Nat.reduceMod, Nat.reduceDiv, Int.reduceLE, Int.reduceLT, Int.reduceToNat, Int.reduceAdd, Int.reduceSub, Int.reduceMul, Int.reduceNeg, Int.reduceEq, Int.reduceBEq, Int.reduceBNe, ↓reduceIte, reduceCtorEq, String.reduceBNe, String.reduceEq, reduceDIte, Nat.reducePow, h3_4, lk_old h3_4, h4_4, lk_old h4_4, h7_4, lk_old h7_4, hw45, bne_self_eq_false, h3_5, lk_old h3_5, h4_5, lk_old h4_5, h7_5, lk_old h7_5]
  refine Thn_n ?_
  refine hK _ _ ?_
  clear hK K
  refine AW.condE rfl [2, 3, 4, 7, 16] (fun j : JL => StL m M5.length (⟨.fix, 24, 0, 0, [.int .i64 (a0), .int .i64 (a1), .int .i64 (a2)]⟩) (⟨.fix, 27, 0, 0, [.int .i64 (x0), .int .i64 (x1), .int .i64 (x2), .int .i64 (y0), .int .i64 (y1), .int .i64 (y2), .int .i64 (z0), .int .i64 (z1), .int .i64 (z2), .int .i64 (t0), .int .i64 (t1), .int .i64 (t2)]⟩) (m.length + 4) j.P (tpD qa qb qc j.b) j.r1 j.v1 j.r2 j.v2 j.M ∧ j.P.length = nD qb j.b) (fun j => j.M) (fun j hj => hj.1.len) (fun h41 => ?_) (fun h41 => ?_) ?_
  · refine AW.seq_k fun K hK => ?_
    refine AW.region (by decide) ?_
    simp only [push_cast, Nat.reduceAdd, Nat.reduceMul, Nat.reduceSub, Nat.reduceLeDiff, Nat.reduceLT, Nat.reduceEqDiff, Nat.reduceBEq, Nat.reduceBNe, Nat.reduceMod, Nat.reduceDiv, Int.reduceLE, Int.reduceLT, Int.reduceToNat, Int.reduceAdd, Int.reduceSub, Int.reduceMul, Int.reduceNeg, Int.reduceEq, Int.reduceBEq, Int.reduceBNe, ↓reduceIte, reduceCtorEq, String.reduceBNe, String.reduceEq, reduceDIte, Nat.reducePow, h3_4, lk_old h3_4, h4_4, lk_old h4_4, h7_4, lk_old h7_4, hw45, bne_self_eq_false, h3_5, lk_old h3_5, h4_5, lk_old h4_5, h7_5, lk_old h7_5, hw45, bne_self_eq_false, h3_5, lk_old h3_5, h4_5, lk_old h4_5, h7_5, lk_old h7_5]
    refine CThen.by (hfin5) ?_
    simp only [push_cast, Nat.reduceAdd, Nat.reduceMul, Nat.reduceSub, Nat.reduceLeDiff, Nat.reduceLT, Nat.reduceEqDiff, Nat.reduceBEq, Nat.reduceBNe, Nat.reduceMod, Nat.reduceDiv, Int.reduceLE, Int.reduceLT, Int.reduceToNat, Int.reduceAdd, Int.reduceSub, Int.reduceMul, Int.reduceNeg, Int.reduceEq, Int.reduceBEq, Int.reduceBNe, ↓reduceIte, reduceCtorEq, String.reduceBNe, String.reduceEq, reduceDIte, Nat.reducePow, h3_4, lk_old h3_4, h4_4, lk_old h4_4, h7_4, lk_old h7_4, hw45, bne_self_eq_false, h3_5, lk_old h3_5, h4_5, lk_old h4_5, h7_5, lk_old h7_5, hw45, bne_self_eq_false, h3_5, lk_old h3_5, h4_5, lk_old h4_5, h7_5, lk_old h7_5]
    refine Thn_n ?_
    refine hK _ _ ?_
    clear hK K
    refine AW.seq_k fun K hK => ?_
    refine AW.seq_k fun K hK => ?_
    refine AW.region (by decide) ?_
    simp only [push_cast, Nat.reduceAdd, Nat.reduceMul, Nat.reduceSub, Nat.reduceLeDiff, Nat.reduceLT, Nat.reduceEqDiff, Nat.reduceBEq, Nat.reduceBNe, Nat.reduceMod, Nat.reduceDiv, Int.reduceLE, Int.reduceLT, Int.reduceToNat, Int.reduceAdd, Int.reduceSub, Int.reduceMul, Int.reduceNeg, Int.reduceEq, Int.reduceBEq, Int.reduceBNe, ↓reduceIte, reduceCtorEq, String.reduceBNe, String.reduceEq, reduceDIte, Nat.reducePow, h3_4, lk_old h3_4, h4_4, lk_old h4_4, h7_4, lk_old h7_4, hw45, bne_self_eq_false, h3_5, lk_old h3_5, h4_5, lk_old h4_5, h7_5, lk_old h7_5, hw45, bne_self_eq_false, h3_5, lk_old h3_5, h4_5, lk_old h4_5, h7_5, lk_old h7_5]
    refine Thn_n ?_
    refine hK _ _ ?_
    clear hK K
    refine AW.cond_f rfl ?_
    refine AW.skip ?_
    refine Thn_n ?_
    refine hK _ _ ?_
    clear hK K
    refine AW.region (by decide) ?_
    simp only [push_cast, Nat.reduceAdd, Nat.reduceMul, Nat.reduceSub, Nat.reduceLeDiff, Nat.reduceLT, Nat.reduceEqDiff, Nat.reduceBEq, Nat.reduceBNe, Nat.reduceMod, Nat.reduceDiv, Int.reduceLE, Int.reduceLT, Int.reduceToNat, Int.reduceAdd, Int.reduceSub, Int.reduceMul, Int.reduceNeg, Int.reduceEq, Int.reduceBEq, Int.reduceBNe, ↓reduceIte, reduceCtorEq, String.reduceBNe, String.reduceEq, reduceDIte, Nat.reducePow, h3_4, lk_old h3_4, h4_4, lk_old h4_4, h7_4, lk_old h7_4, hw45, bne_self_eq_false, h3_5, lk_old h3_5, h4_5, lk_old h4_5, h7_5, lk_old h7_5, hw45, bne_self_eq_false, h3_5, lk_old h3_5, h4_5, lk_old h4_5, h7_5, lk_old h7_5]
    refine Thn_n ?_
    try simp only [keepL, setAll, push_cast, Nat.reduceAdd, Nat.reduceMul, Nat.reduceSub, Nat.reduceLeDiff, Nat.reduceLT, Nat.reduceEqDiff, Nat.reduceBEq, Nat.reduceBNe, Nat.reduceMod, Nat.reduceDiv, Int.reduceLE, Int.reduceLT, Int.reduceToNat, Int.reduceAdd, Int.reduceSub, Int.reduceMul, Int.reduceNeg, Int.reduceEq, Int.reduceBEq, Int.reduceBNe, ↓reduceIte, reduceCtorEq, String.reduceBNe, String.reduceEq, reduceDIte, Nat.reducePow, h3_4, lk_old h3_4, h4_4, lk_old h4_4, h7_4, lk_old h7_4, hw45, bne_self_eq_false, h3_5, lk_old h3_5, h4_5, lk_old h4_5, h7_5, lk_old h7_5, hw45, bne_self_eq_false, h3_5, lk_old h3_5, h4_5, lk_old h4_5, h7_5, lk_old h7_5]
    refine ⟨⟨_, fnP P5 (tpC qa qb qc), M5.length, 0, M5.length + 1, 0, true⟩, ⟨hj5.put (X := [⟨.grow, 49, 0, 3, tL (fnP P5 (tpC qa qb qc))⟩, ⟨.grow, 54, 0, 3, tL (tpD qa qb qc true)⟩, ⟨.fix, 37, 0, 0, [.sl M5.length 0 0 (fnP P5 (tpC qa qb qc)).length, .sl (M5.length + 1) 0 0 (tpD qa qb qc true).length]⟩]) (k1 := .grow) (k2 := .grow) (e1 := 3) (e2 := 3) (w1 := 0) (w2 := 0) (P' := fnP P5 (tpC qa qb qc)) (Fs' := tpD qa qb qc true) (s1 := M5.length) (s2 := M5.length + 1) (by rw [List.getElem?_append_right (by omega)]; simp) (by rw [List.getElem?_append_right (by omega)]; simp) (by omega) (by omega) _ (Nat.le_refl _), hnf⟩, Weak.same (by simp only [Keeps, Tm.get_cons, Nat.reduceEqDiff, ↓reduceIte, if_true, if_false, ite_true, ite_false, true_and, and_true, and_self, reduceCtorEq]) (by first | rfl | simp only [tpA, tpB, tpC, tpD, if_true, if_false, ite_true, ite_false, List.length_map, Bool.false_eq_true, reduceIte])⟩
  · refine AW.skip ?_
    refine Thn_n ?_
    try simp only [keepL, setAll, push_cast, Nat.reduceAdd, Nat.reduceMul, Nat.reduceSub, Nat.reduceLeDiff, Nat.reduceLT, Nat.reduceEqDiff, Nat.reduceBEq, Nat.reduceBNe, Nat.reduceMod, Nat.reduceDiv, Int.reduceLE, Int.reduceLT, Int.reduceToNat, Int.reduceAdd, Int.reduceSub, Int.reduceMul, Int.reduceNeg, Int.reduceEq, Int.reduceBEq, Int.reduceBNe, ↓reduceIte, reduceCtorEq, String.reduceBNe, String.reduceEq, reduceDIte, Nat.reducePow, h3_4, lk_old h3_4, h4_4, lk_old h4_4, h7_4, lk_old h7_4, hw45, bne_self_eq_false, h3_5, lk_old h3_5, h4_5, lk_old h4_5, h7_5, lk_old h7_5, hw45, bne_self_eq_false, h3_5, lk_old h3_5, h4_5, lk_old h4_5, h7_5, lk_old h7_5]
    refine ⟨⟨M5, P5, r5, v5, u5, w5, false⟩, ⟨⟨hj5.ext, Nat.le_refl _, hj5.g7, h3_5, h4_5, h7_5, l1_5, hj5.p1, hj5.p2, n1_5, n2_5⟩, hn5⟩, Weak.same (by simp only [Keeps, Tm.get_cons, Nat.reduceEqDiff, ↓reduceIte, if_true, if_false, ite_true, ite_false, true_and, and_true, and_self, reduceCtorEq]) rfl⟩
  intro j hj
  obtain ⟨M6, P6, r6, v6, u6, w6, qd⟩ := j
  obtain ⟨hj6, hn6⟩ := hj
  dsimp only at hj6 hn6 ⊢
  have h3_6 := hj6.h3
  have h4_6 := hj6.h4
  have h7_6 := hj6.h7
  have l7_6 := get_lt h7_6
  have l1_6 := hj6.l1
  have n1_6 := hj6.n1
  have n2_6 := hj6.n2
  obtain ⟨kp6, ep6, hp6⟩ := hj6.p1.hb
  obtain ⟨kf6, ef6, hf6⟩ := hj6.p2.hb
  have l2_6 := get_lt hf6
  have hlF6 : (tpD qa qb qc qd).length ≤ 192 := by exact (tpD_len _ _ _ _).1
  have hlP6 : P6.length ≤ 98 := by rw [hn6]; first | decide | (first | (cases qb <;> decide) | (cases qb <;> cases qd <;> decide))
  have hca6 : chk P6.length (tpD qa qb qc qd) = 0 := by rw [hn6]; exact okB_chk (tp_ok qa qb qc qd) (by cases qb <;> cases qd <;> decide) (by omega)
  have hcr : crF.length = 12 := rfl
  have hcp : (crP a0 a1 a2).length = 8 := rfl
  have hcj : chk (P6.length + (crP a0 a1 a2).length) (tpD qa qb qc qd ++ crF.map (shF P6.length)) = 0 := by
    rw [hn6, hcp]
    exact okB_chk (tp_okj qa qb qc qd) (by cases qb <;> cases qd <;> decide) (by rw [List.length_append, List.length_map, hcr]; omega)
  have hclj : clB (tpD qa qb qc qd ++ crF.map (shF P6.length)) = true := by rw [hn6]; exact tp_clj qa qb qc qd
  have hcjp : 0 < (tally (tpD qa qb qc qd ++ crF.map (shF P6.length)) (tpD qa qb qc qd ++ crF.map (shF P6.length)).length).length := tl_pos (by rw [List.length_append]; have := (tpD_len qa qb qc qd).2; omega)
  have hcp6 : 0 < (tally (tpD qa qb qc qd) (tpD qa qb qc qd).length).length := tl_pos (by have := (tpD_len qa qb qc qd).2; omega)
  have hcj2 : chk (P6 ++ crP a0 a1 a2).length (tpD qa qb qc qd ++ crF.map (shF P6.length)) = 0 := by rw [List.length_append]; exact hcj
  have hw12 : IntKind.i64.wrap (((tpD qa qb qc qd).length : Int) + 12) = ((tpD qa qb qc qd).length : Int) + 12 := wi (by omega)
  try simp only [keepL, setAll, push_cast, Nat.reduceAdd, Nat.reduceMul, Nat.reduceSub, Nat.reduceLeDiff, Nat.reduceLT, Nat.reduceEqDiff, Nat.reduceBEq, Nat.reduceBNe, Nat.reduceMod, Nat.reduceDiv, Int.reduceLE, Int.reduceLT, Int.reduceToNat, Int.reduceAdd, Int.reduceSub, Int.reduceMul, Int.reduceNeg, Int.reduceEq, Int.reduceBEq, Int.reduceBNe, ↓reduceIte, reduceCtorEq, String.reduceBNe, String.reduceEq, reduceDIte, Nat.reducePow, h3_4, lk_old h3_4, h4_4, lk_old h4_4, h7_4, lk_old h7_4, hw45, bne_self_eq_false, h3_5, lk_old h3_5, h4_5, lk_old h4_5, h7_5, lk_old h7_5, h3_6, lk_old h3_6, h4_6, lk_old h4_6, h7_6, lk_old h7_6]
  refine InB_n ?_
  refine Thn_n ?_
  refine hK _ _ ?_
  clear hK K
  refine AW.region (by decide) ?_
  simp only [push_cast, Nat.reduceAdd, Nat.reduceMul, Nat.reduceSub, Nat.reduceLeDiff, Nat.reduceLT, Nat.reduceEqDiff, Nat.reduceBEq, Nat.reduceBNe, Nat.reduceMod, Nat.reduceDiv, Int.reduceLE, Int.reduceLT, Int.reduceToNat, Int.reduceAdd, Int.reduceSub, Int.reduceMul, Int.reduceNeg, Int.reduceEq, Int.reduceBEq, Int.reduceBNe, ↓reduceIte, reduceCtorEq, String.reduceBNe, String.reduceEq, reduceDIte, Nat.reducePow, h3_4, lk_old h3_4, h4_4, lk_old h4_4, h7_4, lk_old h7_4, hw45, bne_self_eq_false, h3_5, lk_old h3_5, h4_5, lk_old h4_5, h7_5, lk_old h7_5, h3_6, lk_old h3_6, h4_6, lk_old h4_6, h7_6, lk_old h7_6]
  refine Thn_n ?_
  refine hK _ _ ?_
  clear hK K
  refine ARounds.succ fun K hK => ?_
  refine AW.seq_k fun K hK => ?_
  refine AW.region (by decide) ?_
  simp only [push_cast, Nat.reduceAdd, Nat.reduceMul, Nat.reduceSub, Nat.reduceLeDiff, Nat.reduceLT, Nat.reduceEqDiff, Nat.reduceBEq, Nat.reduceBNe, Nat.reduceMod, Nat.reduceDiv, Int.reduceLE, Int.reduceLT, Int.reduceToNat, Int.reduceAdd, Int.reduceSub, Int.reduceMul, Int.reduceNeg, Int.reduceEq, Int.reduceBEq, Int.reduceBNe, ↓reduceIte, reduceCtorEq, String.reduceBNe, String.reduceEq, reduceDIte, Nat.reducePow]
  refine Thn_n ?_
  refine hK _ _ ?_
  clear hK K
  refine AW.seq_k fun K hK => ?_
  refine AW.cond_f rfl ?_
  refine AW.exit ?_
  refine Thn_e ?_
  clear hK K
  refine Thn_e ?_
  clear hK K
  refine InB_here ?_
  refine Thn_n ?_
  refine hK _ _ ?_
  clear hK K
  refine AW.seq_k fun K hK => ?_
  refine AW.draw [.rd 0, .rd 0, .ext, .ext, .ext, .ext, .val, .val, .val, .fl, .wr, .val] fol (by decide) (by kernel_rfl) ?_
  skip
  simp only [push_cast, Nat.reduceAdd, Nat.reduceMul, Nat.reduceSub, Nat.reduceLeDiff, Nat.reduceLT, Nat.reduceEqDiff, Nat.reduceBEq, Nat.reduceBNe, Nat.reduceMod, Nat.reduceDiv, Int.reduceLE, Int.reduceLT, Int.reduceToNat, Int.reduceAdd, Int.reduceSub, Int.reduceMul, Int.reduceNeg, Int.reduceEq, Int.reduceBEq, Int.reduceBNe, ↓reduceIte, reduceCtorEq, String.reduceBNe, String.reduceEq, reduceDIte, Nat.reducePow, h3_6, lk_old h3_6, h4_6, lk_old h4_6, h7_6, lk_old h7_6]
  refine DCall.by0 (v2to_c _ _ _ _) ?_
  simp only [push_cast, Nat.reduceAdd, Nat.reduceMul, Nat.reduceSub, Nat.reduceLeDiff, Nat.reduceLT, Nat.reduceEqDiff, Nat.reduceBEq, Nat.reduceBNe, Nat.reduceMod, Nat.reduceDiv, Int.reduceLE, Int.reduceLT, Int.reduceToNat, Int.reduceAdd, Int.reduceSub, Int.reduceMul, Int.reduceNeg, Int.reduceEq, Int.reduceBEq, Int.reduceBNe, ↓reduceIte, reduceCtorEq, String.reduceBNe, String.reduceEq, reduceDIte, Nat.reducePow, h3_6, lk_old h3_6, h4_6, lk_old h4_6, h7_6, lk_old h7_6]
  refine DCall.by (crate_c _ _ _ _) ?_
  simp only [push_cast, Nat.reduceAdd, Nat.reduceMul, Nat.reduceSub, Nat.reduceLeDiff, Nat.reduceLT, Nat.reduceEqDiff, Nat.reduceBEq, Nat.reduceBNe, Nat.reduceMod, Nat.reduceDiv, Int.reduceLE, Int.reduceLT, Int.reduceToNat, Int.reduceAdd, Int.reduceSub, Int.reduceMul, Int.reduceNeg, Int.reduceEq, Int.reduceBEq, Int.reduceBNe, ↓reduceIte, reduceCtorEq, String.reduceBNe, String.reduceEq, reduceDIte, Nat.reducePow, h3_6, lk_old h3_6, h4_6, lk_old h4_6, h7_6, lk_old h7_6]
  refine DExt.by (by first | rfl | (simp only [List.append_assoc, List.cons_append, List.nil_append]; rfl)) ?_
  simp only [push_cast, Nat.reduceAdd, Nat.reduceMul, Nat.reduceSub, Nat.reduceLeDiff, Nat.reduceLT, Nat.reduceEqDiff, Nat.reduceBEq, Nat.reduceBNe, Nat.reduceMod, Nat.reduceDiv, Int.reduceLE, Int.reduceLT, Int.reduceToNat, Int.reduceAdd, Int.reduceSub, Int.reduceMul, Int.reduceNeg, Int.reduceEq, Int.reduceBEq, Int.reduceBNe, ↓reduceIte, reduceCtorEq, String.reduceBNe, String.reduceEq, reduceDIte, Nat.reducePow, h3_6, lk_old h3_6, h4_6, lk_old h4_6, h7_6, lk_old h7_6]
  refine DCall.by (join2_c r6 v6 u6 w6 P6 (tpD qa qb qc qd) M6.length 0 (M6.length + 1) 0 (crP a0 a1 a2) crF (M6.length + 2) 0 _ (by simp only [push_cast, Nat.reduceAdd, Nat.reduceMul, Nat.reduceSub, Nat.reduceLeDiff, Nat.reduceLT, Nat.reduceEqDiff, Nat.reduceBEq, Nat.reduceBNe, Nat.reduceMod, Nat.reduceDiv, Int.reduceLE, Int.reduceLT, Int.reduceToNat, Int.reduceAdd, Int.reduceSub, Int.reduceMul, Int.reduceNeg, Int.reduceEq, Int.reduceBEq, Int.reduceBNe, ↓reduceIte, reduceCtorEq, String.reduceBNe, String.reduceEq, reduceDIte, Nat.reducePow]; rfl) (by simp; omega) (hj6.p1.mono _) (hj6.p2.mono _) hca6 (by simp) ⟨.grow, 3, by simp only [push_cast, Nat.reduceAdd, Nat.reduceMul, Nat.reduceSub, Nat.reduceLeDiff, Nat.reduceLT, Nat.reduceEqDiff, Nat.reduceBEq, Nat.reduceBNe, Nat.reduceMod, Nat.reduceDiv, Int.reduceLE, Int.reduceLT, Int.reduceToNat, Int.reduceAdd, Int.reduceSub, Int.reduceMul, Int.reduceNeg, Int.reduceEq, Int.reduceBEq, Int.reduceBNe, ↓reduceIte, reduceCtorEq, String.reduceBNe, String.reduceEq, reduceDIte, Nat.reducePow]⟩ ⟨.grow, 3, by simp only [push_cast, Nat.reduceAdd, Nat.reduceMul, Nat.reduceSub, Nat.reduceLeDiff, Nat.reduceLT, Nat.reduceEqDiff, Nat.reduceBEq, Nat.reduceBNe, Nat.reduceMod, Nat.reduceDiv, Int.reduceLE, Int.reduceLT, Int.reduceToNat, Int.reduceAdd, Int.reduceSub, Int.reduceMul, Int.reduceNeg, Int.reduceEq, Int.reduceBEq, Int.reduceBNe, ↓reduceIte, reduceCtorEq, String.reduceBNe, String.reduceEq, reduceDIte, Nat.reducePow]⟩ cr_chk hcj) ?_
  simp only [push_cast, Nat.reduceAdd, Nat.reduceMul, Nat.reduceSub, Nat.reduceLeDiff, Nat.reduceLT, Nat.reduceEqDiff, Nat.reduceBEq, Nat.reduceBNe, Nat.reduceMod, Nat.reduceDiv, Int.reduceLE, Int.reduceLT, Int.reduceToNat, Int.reduceAdd, Int.reduceSub, Int.reduceMul, Int.reduceNeg, Int.reduceEq, Int.reduceBEq, Int.reduceBNe, ↓reduceIte, reduceCtorEq, String.reduceBNe, String.reduceEq, reduceDIte, Nat.reducePow, h3_6, lk_old h3_6, h4_6, lk_old h4_6, h7_6, lk_old h7_6]
  refine Thn_n ?_
  refine hK _ _ ?_
  clear hK K
  refine AW.seq_k fun K hK => ?_
  refine AW.region (by decide) ?_
  skip
  simp only [push_cast, Nat.reduceAdd, Nat.reduceMul, Nat.reduceSub, Nat.reduceLeDiff, Nat.reduceLT, Nat.reduceEqDiff, Nat.reduceBEq, Nat.reduceBNe, Nat.reduceMod, Nat.reduceDiv, Int.reduceLE, Int.reduceLT, Int.reduceToNat, Int.reduceAdd, Int.reduceSub, Int.reduceMul, Int.reduceNeg, Int.reduceEq, Int.reduceBEq, Int.reduceBNe, ↓reduceIte, reduceCtorEq, String.reduceBNe, String.reduceEq, reduceDIte, Nat.reducePow, h3_6, lk_old h3_6, h4_6, lk_old h4_6, h7_6, lk_old h7_6, h3_6, lk_old h3_6, h4_6, lk_old h4_6, h7_6, lk_old h7_6, hcr, hw12]
  refine CThen.by (awakeL_c _) ?_
  simp only [push_cast, Nat.reduceAdd, Nat.reduceMul, Nat.reduceSub, Nat.reduceLeDiff, Nat.reduceLT, Nat.reduceEqDiff, Nat.reduceBEq, Nat.reduceBNe, Nat.reduceMod, Nat.reduceDiv, Int.reduceLE, Int.reduceLT, Int.reduceToNat, Int.reduceAdd, Int.reduceSub, Int.reduceMul, Int.reduceNeg, Int.reduceEq, Int.reduceBEq, Int.reduceBNe, ↓reduceIte, reduceCtorEq, String.reduceBNe, String.reduceEq, reduceDIte, Nat.reducePow, h3_6, lk_old h3_6, h4_6, lk_old h4_6, h7_6, lk_old h7_6, h3_6, lk_old h3_6, h4_6, lk_old h4_6, h7_6, lk_old h7_6, hcr, hw12]
  refine CThen.by (closed_c r6 v6 u6 w6 P6 (tpD qa qb qc qd) _ (by simp; omega) (hj6.p2.mono _) hca6 _ rfl (tally_bk hca6 _) (clB_cs (tp_cl qa qb qc qd)) hcp6) ?_
  simp only [push_cast, Nat.reduceAdd, Nat.reduceMul, Nat.reduceSub, Nat.reduceLeDiff, Nat.reduceLT, Nat.reduceEqDiff, Nat.reduceBEq, Nat.reduceBNe, Nat.reduceMod, Nat.reduceDiv, Int.reduceLE, Int.reduceLT, Int.reduceToNat, Int.reduceAdd, Int.reduceSub, Int.reduceMul, Int.reduceNeg, Int.reduceEq, Int.reduceBEq, Int.reduceBNe, ↓reduceIte, reduceCtorEq, String.reduceBNe, String.reduceEq, reduceDIte, Nat.reducePow, h3_6, lk_old h3_6, h4_6, lk_old h4_6, h7_6, lk_old h7_6, h3_6, lk_old h3_6, h4_6, lk_old h4_6, h7_6, lk_old h7_6, hcr, hw12]
  refine CThen.by (by
    have h := fun m2 => closed_c (M6.length + 3) 0 (M6.length + 4) 0 (P6 ++ crP a0 a1 a2) (tpD qa qb qc qd ++ crF.map (shF P6.length)) m2
    simp only [List.length_append, List.length_map] at h
    exact h _ (by simp) ⟨.grow, 3, by simp only [push_cast, Nat.reduceAdd, Nat.reduceMul, Nat.reduceSub, Nat.reduceLeDiff, Nat.reduceLT, Nat.reduceEqDiff, Nat.reduceBEq, Nat.reduceBNe, Nat.reduceMod, Nat.reduceDiv, Int.reduceLE, Int.reduceLT, Int.reduceToNat, Int.reduceAdd, Int.reduceSub, Int.reduceMul, Int.reduceNeg, Int.reduceEq, Int.reduceBEq, Int.reduceBNe, ↓reduceIte, reduceCtorEq, String.reduceBNe, String.reduceEq, reduceDIte, Nat.reducePow]⟩ hcj _ rfl (tally_bk hcj2 _) (by have := clB_cs hclj; simpa only [List.length_append, List.length_map] using this) (by have := hcjp; simpa only [List.length_append, List.length_map] using this)) ?_
  simp only [push_cast, Nat.reduceAdd, Nat.reduceMul, Nat.reduceSub, Nat.reduceLeDiff, Nat.reduceLT, Nat.reduceEqDiff, Nat.reduceBEq, Nat.reduceBNe, Nat.reduceMod, Nat.reduceDiv, Int.reduceLE, Int.reduceLT, Int.reduceToNat, Int.reduceAdd, Int.reduceSub, Int.reduceMul, Int.reduceNeg, Int.reduceEq, Int.reduceBEq, Int.reduceBNe, ↓reduceIte, reduceCtorEq, String.reduceBNe, String.reduceEq, reduceDIte, Nat.reducePow, h3_6, lk_old h3_6, h4_6, lk_old h4_6, h7_6, lk_old h7_6, h3_6, lk_old h3_6, h4_6, lk_old h4_6, h7_6, lk_old h7_6, hcr, hw12]
  refine Thn_n ?_
  refine hK _ _ ?_
  clear hK K
  refine AW.ret ?_
  refine hQ _ _ _ ?_
  obtain ⟨X6, hX6⟩ := hj6.ext
  rw [hX6, List.append_assoc]
  refine RetP.drop (by first | exact Or.inr rfl | exact Or.inl rfl) ?_ ?_ hwf
  · simp only [resA, resOne, resTv, AV.tv, push_cast, Nat.reduceAdd, Nat.reduceMul, Nat.reduceSub, Nat.reduceLeDiff, Nat.reduceLT, Nat.reduceEqDiff, Nat.reduceBEq, Nat.reduceBNe, Nat.reduceMod, Nat.reduceDiv, Int.reduceLE, Int.reduceLT, Int.reduceToNat, Int.reduceAdd, Int.reduceSub, Int.reduceMul, Int.reduceNeg, Int.reduceEq, Int.reduceBEq, Int.reduceBNe, ↓reduceIte, reduceCtorEq, String.reduceBNe, String.reduceEq, reduceDIte, Nat.reducePow]
    refine congrArg some (congrArg AV.one (congrArg CV.bool ?_))
    rw [beq_iff_eq]; omega
  · rfl
end Go.Proofs.Ytiogpaehelpmhaa
