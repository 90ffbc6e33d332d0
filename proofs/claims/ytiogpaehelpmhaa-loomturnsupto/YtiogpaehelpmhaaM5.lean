/- Walks and facts of this seat's program over abstract states, printed by programs of mine; no conditions but those that each theorem names. -/
import Derived.Test.YtiogpaehelpmhaaM4
set_option linter.unusedSimpArgs false
set_option linter.unusedVariables false
set_option maxRecDepth 100000
set_option maxHeartbeats 4000000
namespace Go.Proofs.Ytiogpaehelpmhaa
open Go Go.Eng

theorem finer_ok (rp vp rf vf : Nat) (P Fs : List T3) (m : AMem) (hp : rp < m.length) (hpt : TRow m 49 rp vp P) (hf : TRow m 54 rf vf Fs) (hP : P.length ≤ 4096) (hF : Fs.length ≤ 4096) (hc : chk P.length Fs = 0) (hc2 : chk (fnP P Fs).length (fnF P.length Fs) = 0) : Ctr Try.prog 12 [.agg [.sl rp vp 0 P.length, .sl rf vf 0 Fs.length]] m (.tup [(true, [.sl m.length 0 0 (fnP P Fs).length, .sl (m.length + 1) 0 0 (fnF P.length Fs).length]), (false, [.int .i64 0])]) (m ++ [⟨.grow, 49, 0, 3, tL (fnP P Fs)⟩, ⟨.grow, 54, 0, 3, tL (fnF P.length Fs)⟩]) := by
  refine Ctr.enter Try.func12 rfl (by decide) (rs := [.cell 2 37, .tmp 3]) (nt := 122) rfl rfl fun hwf Q hQ => ?_
  obtain ⟨k0, ez0, hb0⟩ := hpt.hb
  obtain ⟨k1, ez1, hb⟩ := hf.hb
  have hr0 := get_lt hb
  have hlt0 : ∀ k, ¬ m.length + k < m.length := fun k => by omega
  obtain ⟨T, hT⟩ : ∃ T, T = tally Fs Fs.length := ⟨_, rfl⟩
  obtain ⟨ke, hke⟩ : ∃ ke, ke = ksE T := ⟨_, rfl⟩
  obtain ⟨N, hN⟩ : ∃ N, N = T.length := ⟨_, rfl⟩
  have hTb : BK1 (T.map (·.1)) := by rw [hT]; exact tally_bk hc _
  have hKN : ke.length = N := by rw [hke, hN]; exact ksE_len T
  have hKn : ke.Nodup := by rw [hke, hT]; exact ks_nd Fs
  have hKi : ∀ x, x ∈ ke → EIn P.length x := by rw [hke, hT]; exact ks_in hc
  have hKh : ∀ {t : T3} {j k : Nat}, Fs[j]? = some t → k < 3 → fKey t k ∈ ke := by rw [hke, hT]; exact ks_has
  have hfp : fnP P Fs = P ++ ke.map (midP P) := by rw [hke, hT]; rfl
  have hff : fnF P.length Fs = Fs.flatMap (finF P.length ke) := by rw [hke, hT]; rfl
  have hfpl : (P ++ ke.map (midP P)).length = P.length + N := by simp [hKN]
  have hffl := fl_len P.length ke Fs
  rw [hfp, hff] at hc2 hQ
  rw [hfpl] at hc2 hQ
  rw [hffl] at hQ
  have hll0 := chk_len hc
  have hTl : N ≤ 3072 := by rw [hN, hT]; have := tally_len Fs Fs.length; omega
  have b0 : (chk P.length Fs != 0) = false := by simp [hc]
  have b1 : (chk (P.length + N) (Fs.flatMap (finF P.length ke)) != 0) = false := by simp [hc2]
  refine AW.seq_k fun K hK => ?_
  refine AW.region (by decide) ?_
  simp only [push_cast, simprocAttr, hb, lk_old hb, hb0, lk_old hb0, b0, b1, ← hN, ← hke]
  refine Thn_n ?_
  refine hK _ _ ?_
  clear hK K
  refine AW.seq_k fun K hK => ?_
  refine AW.seq_k fun K hK => ?_
  refine AW.region (by decide) ?_
  simp only [push_cast, simprocAttr, hb, lk_old hb, hb0, lk_old hb0, b0, b1, ← hN, ← hke]
  refine CThen.by (check_c rp vp rf vf P Fs _ (by simp; omega) (hf.mono _)) ?_
  simp only [push_cast, simprocAttr, hb, lk_old hb, hb0, lk_old hb0, b0, b1, ← hN, ← hke]
  refine Thn_n ?_
  refine hK _ _ ?_
  clear hK K
  refine AW.seq_k fun K hK => ?_
  refine AW.region (by decide) ?_
  simp only [push_cast, simprocAttr, hb, lk_old hb, hb0, lk_old hb0, b0, b1, ← hN, ← hke]
  refine Thn_n ?_
  refine hK _ _ ?_
  clear hK K
  refine AW.cond_f rfl ?_
  refine AW.skip ?_
  refine Thn_n ?_
  refine hK _ _ ?_
  clear hK K
  refine AW.seq_k fun K hK => ?_
  refine AW.region (by decide) ?_
  simp only [push_cast, simprocAttr, hb, lk_old hb, hb0, lk_old hb0, b0, b1, ← hN, ← hke]
  refine CThen.by (clonev_c rp vp P.length P _ (by simp; omega) (hpt.mono _) rfl hP) ?_
  simp only [push_cast, simprocAttr, hb, lk_old hb, hb0, lk_old hb0, b0, b1, ← hN, ← hke]
  refine Thn_n ?_
  refine hK _ _ ?_
  clear hK K
  refine AW.seq_k fun K hK => ?_
  refine AW.region (by decide) ?_
  simp only [push_cast, simprocAttr, hb, lk_old hb, hb0, lk_old hb0, b0, b1, ← hN, ← hke]
  refine CThen.by (edges_x rp vp rf vf P Fs _ (by simp; omega) (hf.mono _) hc T hT hTb) ?_
  simp only [push_cast, simprocAttr, hb, lk_old hb, hb0, lk_old hb0, b0, b1, ← hN, ← hke]
  refine Thn_n ?_
  refine hK _ _ ?_
  clear hK K
  refine AW.seq_k fun K hK => ?_
  refine AW.region (by decide) ?_
  simp only [push_cast, simprocAttr, hb, lk_old hb, hb0, lk_old hb0, b0, b1, ← hN, ← hke]
  refine Thn_n ?_
  refine hK _ _ ?_
  clear hK K
  refine AW.seq_k fun K hK => ?_
  refine AW.seq_k fun K hK => ?_
  refine AW.region (by decide) ?_
  simp only [push_cast, simprocAttr, hb, lk_old hb, hb0, lk_old hb0, b0, b1, ← hN, ← hke]
  refine Thn_n ?_
  refine hK _ _ ?_
  clear hK K
  refine AW.block ?_
  refine AW.loopK [1, 2, 5, 8, 34, 35] (fun i => i ≤ N) (fun i => [(36, .one (.int .i64 (i : Int)))]) (fun i => [(m.length + 2, ⟨.grow, 49, i, 3, tL (P ++ (ke.take i).map (midP P))⟩), (m.length + 3, ⟨.fix, 37, 0, 0, [.sl (m.length + 2) i 0 (P.length + i), .nils]⟩), (m.length + 6, ⟨.map true false i (mE 0 (nmE P.length (ke.take i))), 91, 0, 0, []⟩)]) (fun i => N - i) 0 (by omega) ?_ ?_ fun i hi10 => ?_
  · first | rfl | (simp only [Keeps, Tm.get_cons, Nat.reduceEqDiff, ↓reduceIte, if_true, if_false, ite_true, ite_false, true_and, and_true, and_self, reduceCtorEq, Int.natCast_zero, List.take_zero, List.map_nil, List.append_nil, nmE, mE, Nat.add_zero] <;> rfl)
  · first | rfl | (simp only [setAll, push_cast, simprocAttr, hb, lk_old hb, hb0, lk_old hb0, b0, b1, ← hN, ← hke, Int.natCast_zero, List.take_zero, List.map_nil, List.append_nil, nmE, mE, Nat.add_zero] <;> rfl)
  try simp only [keepL, setAll, push_cast, simprocAttr, hb, lk_old hb, hb0, lk_old hb0, b0, b1, ← hN, ← hke]
  refine AW.seq_k fun K hK => ?_
  refine AW.region (by decide) ?_
  simp only [push_cast, simprocAttr, hb, lk_old hb, hb0, lk_old hb0, b0, b1, ← hN, ← hke]
  refine Thn_n ?_
  refine hK _ _ ?_
  clear hK K
  refine AW.seq_k fun K hK => ?_
  refine AW.cond rfl (fun h37 => ?_) (fun h37 => ?_)
  · have hlt : i < N := by have := of_decide_eq_true h37; omega
    have c1 : (0 : Int) ≤ (i : Int) := by omega
    have c2 : (i : Int) < (N : Nat) := by omega
    have c3 : i * 2 + 2 ≤ N * 2 := by omega
    obtain ⟨k, hk⟩ : ∃ k, ke[i]? = some k := ⟨_, List.getElem?_eq_getElem (by omega)⟩
    have g0 := pL_at hk
    have gl := pL_len ke
    rw [hKN] at gl
    have hin := hKi k (List.mem_of_getElem? hk)
    obtain ⟨e1, e2, e3, e4⟩ := hin
    obtain ⟨ka, kb⟩ := k
    obtain ⟨a, rfl⟩ := Int.eq_ofNat_of_zero_le e1
    obtain ⟨b, rfl⟩ := Int.eq_ofNat_of_zero_le e3
    dsimp only at e1 e2 e3 e4 g0
    have ha : a < P.length := by omega
    have hb' : b < P.length := by omega
    obtain ⟨p, hpa⟩ : ∃ p, P[a]? = some p := ⟨_, List.getElem?_eq_getElem ha⟩
    obtain ⟨q, hqb⟩ : ∃ q, P[b]? = some q := ⟨_, List.getElem?_eq_getElem hb'⟩
    have gp := tL_at hpa
    have gq := tL_at hqb
    have gpl := tL_len P
    have c4 : a * 3 + 3 ≤ P.length * 3 := by omega
    have c5 : b * 3 + 3 ≤ P.length * 3 := by omega
    obtain ⟨hns1, hns2⟩ := nm_step (s := P.length) hk hKn
    have hfd : findL [CV.int .i64 (a : Int), .int .i64 (b : Int)] (mE 0 (nmE P.length (ke.take i))) = some none := (findL_mE _ 0 _).trans (by rw [hns2])
    have hnl : (nmE P.length (ke.take i)).length = i := by rw [nmE_len, List.length_take]; omega
    have hns : mE 0 (nmE P.length (ke.take i)) ++ [(i, [CV.int .i64 (a : Int), .int .i64 (b : Int)], [.int .i64 ((P.length + i : Nat) : Int)])] = mE 0 (nmE P.length (ke.take (i + 1))) := by
      rw [← hns1, ← mE_app, Nat.zero_add, hnl]
    have hst0 := md_step (P := P) hk
    have hmid : midP P ((a : Int), (b : Int)) = midT p q := by unfold midP; rw [atP_at hpa, atP_at hqb]
    rw [hmid] at hst0
    have hst : tL (P ++ (ke.take i).map (midP P)) ++ [.int .i64 (lerpI p.1 q.1 32768), .int .i64 (lerpI p.2.1 q.2.1 32768), .int .i64 (lerpI p.2.2 q.2.2 32768)] = tL (P ++ (ke.take (i + 1)).map (midP P)) := hst0
    have htk : (tL (P ++ (ke.take i).map (midP P))).length = (P.length + i) * 3 := by rw [tL_len, List.length_append, List.length_map, List.length_take]; congr 1; omega
    have m1 : P.length + (i + 1) ≤ 140737488355328 := by omega
    have m2 : (P.length + (i + 1)) * 24 ≤ 140737488355328 := by omega
    rw [Int.natCast_add] at hns
    refine AW.skip ?_
    refine Thn_n ?_
    refine hK _ _ ?_
    clear hK K
    refine AW.seq_k fun K hK => ?_
    refine AW.block ?_
    iterate 2
      refine AW.seq_k fun K hK => ?_
      refine AW.region (by decide) ?_
      simp only [push_cast, simprocAttr, hb, lk_old hb, hb0, lk_old hb0, b0, b1, ← hN, ← hke, c1, c2, c3, g0, gl, e1, e2, e3, e4, gp, gq, gpl, c4, c5, hfd, htk, m1, m2, hnl]
      refine Thn_n ?_
      refine hK _ _ ?_
      clear hK K
    refine AW.draw [.val, .rd 0, .val, .rd 0, .val, .rd 0, .val, .rd 0, .val, .rd 0, .val, .rd 0, .val, .rd 0, .ext, .ext, .wr, .val, .wr] fol (by decide) (by kernel_rfl) ?_
    simp only [push_cast, simprocAttr, hb, lk_old hb, hb0, lk_old hb0, b0, b1, ← hN, ← hke, c1, c2, c3, g0, gl, e1, e2, e3, e4, gp, gq, gpl, c4, c5, hfd, htk, m1, m2, hnl]
    refine DCall.by0 (vmix_c _ _ _ _ _ _ _ _) ?_
    simp only [push_cast, simprocAttr, hb, lk_old hb, hb0, lk_old hb0, b0, b1, ← hN, ← hke, c1, c2, c3, g0, gl, e1, e2, e3, e4, gp, gq, gpl, c4, c5, hfd, htk, m1, m2, hnl]
    refine DExt.by (by first | rfl | (simp only [List.append_assoc, List.cons_append, List.nil_append]; rfl)) ?_
    simp only [push_cast, simprocAttr, hb, lk_old hb, hb0, lk_old hb0, b0, b1, ← hN, ← hke, c1, c2, c3, g0, gl, e1, e2, e3, e4, gp, gq, gpl, c4, c5, hfd, htk, m1, m2, hnl]
    refine InB_n ?_
    refine Thn_n ?_
    refine hK _ _ ?_
    clear hK K
    refine AW.region (by decide) ?_
    simp only [push_cast, simprocAttr, hb, lk_old hb, hb0, lk_old hb0, b0, b1, ← hN, ← hke, c1, c2, c3, g0, gl, e1, e2, e3, e4, gp, gq, gpl, c4, c5, hfd, htk, m1, m2, hnl]
    refine Thn_n ?_
    have hwi : IntKind.i64.wrap ((i:Int)+1) = (i:Int)+1 := wi (by omega)
    refine ⟨i + 1, by omega, by omega, ?_⟩
    try simp only [keepL, setAll, push_cast, simprocAttr, hb, lk_old hb, hb0, lk_old hb0, b0, b1, ← hN, ← hke, c1, c2, c3, g0, gl, e1, e2, e3, e4, gp, gq, gpl, c4, c5, hfd, htk, m1, m2, hnl, hwi, hst, hns]
    exact Weak.to (extra := [_, _]) (by simp only [Keeps, Tm.get_cons, Nat.reduceEqDiff, ↓reduceIte, if_true, if_false, ite_true, ite_false, true_and, and_true, and_self, reduceCtorEq, hwi, hst, hns]) (by first | rfl | (simp only [List.append_assoc, List.cons_append, List.nil_append]; rfl)) (by first | rfl | (simp [AV.below, CV.below]; done) | (simp [AV.below, CV.below]; omega)) (by
      refine MWf.app (hwf.grow (by simp)) (MWf_cons ?_ (MWf_cons rfl (MWf_cons (tL_below _ _) (MWf_cons ?_ (MWf_cons (pL_below _ _) (MWf_cons (ic_below _ _) (MWf_cons rfl (MWf_cons ?_ MWf_nil) (mE_below _ _ _))))))))
      all_goals (first | (simp [CV.below]; done) | (simp [CV.below]; omega)))
  · have hin : i = N := by have := of_decide_eq_false h37; omega
    have hin2 := hin.symm
    subst hin2
    have hKt : ke.take N = ke := List.take_of_length_le (by omega)
    refine AW.exit ?_
    refine Thn_e ?_
    clear hK K
    refine Thn_e ?_
    refine InB_here ?_
    refine Thn_n ?_
    refine hK _ _ ?_
    clear hK K
    refine AW.seq_k fun K hK => ?_
    refine AW.region (by decide) ?_
    simp only [push_cast, simprocAttr, hb, lk_old hb, hb0, lk_old hb0, b0, b1, ← hN, ← hke, hKt]
    refine Thn_n ?_
    refine hK _ _ ?_
    clear hK K
    refine AW.seq_k fun K hK => ?_
    refine AW.seq_k fun K hK => ?_
    refine AW.region (by decide) ?_
    simp only [push_cast, simprocAttr, hb, lk_old hb, hb0, lk_old hb0, b0, b1, ← hN, ← hke, hKt]
    refine Thn_n ?_
    refine hK _ _ ?_
    clear hK K
    refine AW.block ?_
    refine AW.nilCell 54 3 (m.length + 3) 1 (by simp only [push_cast, simprocAttr, hb, lk_old hb, hb0, lk_old hb0, b0, b1, ← hN, ← hke, hKt]; first | done | rfl) (by intro e; cases e) rfl ?_
    try simp only [push_cast, simprocAttr, hb, lk_old hb, hb0, lk_old hb0, b0, b1, ← hN, ← hke, hKt]
    refine AW.loopK [2, 5, 11, 66, 67] (fun i => i ≤ Fs.length) (fun i => [(68, .one (.int .i64 (i : Int)))]) (fun i => [(m.length + 3, ⟨.fix, 37, 0, 0, [.sl (m.length + 2) N 0 (P.length + N), .sl (m.length + 8) i 0 (4 * i)]⟩), (m.length + 8, ⟨.grow, 54, i, 3, tL ((Fs.take i).flatMap (finF P.length ke))⟩)]) (fun i => Fs.length - i) 0 (by omega) ?_ ?_ fun i hi19 => ?_
    · first | rfl | (simp only [Keeps, Tm.get_cons, Nat.reduceEqDiff, ↓reduceIte, if_true, if_false, ite_true, ite_false, true_and, and_true, and_self, reduceCtorEq, Int.natCast_zero, List.take_zero, tL, List.flatMap_nil, Nat.mul_zero] <;> rfl)
    · first | rfl | (simp only [setAll, push_cast, simprocAttr, hb, lk_old hb, hb0, lk_old hb0, b0, b1, ← hN, ← hke, hKt, Int.natCast_zero, List.take_zero, tL, List.flatMap_nil, Nat.mul_zero] <;> rfl)
    try simp only [keepL, setAll, push_cast, simprocAttr, hb, lk_old hb, hb0, lk_old hb0, b0, b1, ← hN, ← hke, hKt]
    refine AW.seq_k fun K hK => ?_
    refine AW.region (by decide) ?_
    simp only [push_cast, simprocAttr, hb, lk_old hb, hb0, lk_old hb0, b0, b1, ← hN, ← hke, hKt]
    refine Thn_n ?_
    refine hK _ _ ?_
    clear hK K
    refine AW.seq_k fun K hK => ?_
    refine AW.cond rfl (fun h69 => ?_) (fun h69 => ?_)
    · have hlt : i < Fs.length := by have := of_decide_eq_true h69; omega
      have c1 : (0 : Int) ≤ (i : Int) := by omega
      have c2 : (i : Int) < (Fs.length : Nat) := by omega
      have c3 : i * 3 + 3 ≤ Fs.length * 3 := by omega
      obtain ⟨t, ht⟩ : ∃ t, Fs[i]? = some t := ⟨_, List.getElem?_eq_getElem hlt⟩
      have g0 := tL_get0 ht
      have g1 := tL_get1 ht
      have g2 := tL_get2 ht
      have g3 := tL_at ht
      have gl := tL_len Fs
      have k0' := hKh ht (show 0 < 3 by omega)
      have k1' := hKh ht (show 1 < 3 by omega)
      have k2' := hKh ht (show 2 < 3 by omega)
      have hst : tL ((Fs.take i).flatMap (finF P.length ke)) ++ [.int .i64 (t.1), .int .i64 (cntE (nmE P.length ke) (eKey t.1 t.2.1)), .int .i64 (cntE (nmE P.length ke) (eKey t.2.2 t.1)), .int .i64 (cntE (nmE P.length ke) (eKey t.1 t.2.1)), .int .i64 (t.2.1), .int .i64 (cntE (nmE P.length ke) (eKey t.2.1 t.2.2)), .int .i64 (cntE (nmE P.length ke) (eKey t.2.2 t.1)), .int .i64 (cntE (nmE P.length ke) (eKey t.2.1 t.2.2)), .int .i64 (t.2.2), .int .i64 (cntE (nmE P.length ke) (eKey t.1 t.2.1)), .int .i64 (cntE (nmE P.length ke) (eKey t.2.1 t.2.2)), .int .i64 (cntE (nmE P.length ke) (eKey t.2.2 t.1))] = tL ((Fs.take (i + 1)).flatMap (finF P.length ke)) := fl_step ht
      have htk : (tL ((Fs.take i).flatMap (finF P.length ke))).length = 4 * i * 3 := by rw [tL_len, fl_len, List.length_take]; congr 2; omega
      have h4 : 4 * (i + 1) = 4 * i + 4 := by omega
      have m1 : 4 * i + 4 ≤ 140737488355328 := by omega
      have m2 : (4 * i + 4) * 24 ≤ 140737488355328 := by omega
      refine AW.skip ?_
      refine Thn_n ?_
      refine hK _ _ ?_
      clear hK K
      refine AW.seq_k fun K hK => ?_
      refine AW.block ?_
      refine AW.seq_k fun K hK => ?_
      refine AW.region (by decide) ?_
      simp only [push_cast, simprocAttr, hb, lk_old hb, hb0, lk_old hb0, b0, b1, ← hN, ← hke, hKt, c1, c2, c3, g0, g1, g2, g3, gl, htk, m1, m2]
      refine Thn_n ?_
      refine hK _ _ ?_
      clear hK K
      refine AW.seq_k fun K hK => ?_
      refine AW.draw [.val, .val, .rd 0, .val, .rd 0, .ext, .val, .val, .rd 0, .val, .rd 0, .ext, .val, .val, .rd 0, .val, .rd 0, .ext, .val, .val, .val] fol (by decide) (by kernel_rfl) ?_
      simp only [push_cast, simprocAttr, hb, lk_old hb, hb0, lk_old hb0, b0, b1, ← hN, ← hke, hKt, c1, c2, c3, g0, g1, g2, g3, gl, htk, m1, m2]
      refine DCall.by0 (fin1_c (t.1) (t.2.1) (m.length + 7) (m.length + 6) N (nmE P.length ke) _ (by simp only [push_cast, simprocAttr]) (by simp only [push_cast, simprocAttr]) (by rw [nmE_fst]; assumption)) ?_
      simp only [push_cast, simprocAttr, hb, lk_old hb, hb0, lk_old hb0, b0, b1, ← hN, ← hke, hKt, c1, c2, c3, g0, g1, g2, g3, gl, htk, m1, m2]
      refine DCall.by0 (fin1_c (t.2.1) (t.2.2) (m.length + 7) (m.length + 6) N (nmE P.length ke) _ (by simp only [push_cast, simprocAttr]) (by simp only [push_cast, simprocAttr]) (by rw [nmE_fst]; assumption)) ?_
      simp only [push_cast, simprocAttr, hb, lk_old hb, hb0, lk_old hb0, b0, b1, ← hN, ← hke, hKt, c1, c2, c3, g0, g1, g2, g3, gl, htk, m1, m2]
      refine DCall.by0 (fin1_c (t.2.2) (t.1) (m.length + 7) (m.length + 6) N (nmE P.length ke) _ (by simp only [push_cast, simprocAttr]) (by simp only [push_cast, simprocAttr]) (by rw [nmE_fst]; assumption)) ?_
      simp only [push_cast, simprocAttr, hb, lk_old hb, hb0, lk_old hb0, b0, b1, ← hN, ← hke, hKt, c1, c2, c3, g0, g1, g2, g3, gl, htk, m1, m2]
      refine Thn_n ?_
      refine hK _ _ ?_
      clear hK K
      refine AW.region (by decide) ?_
      simp only [push_cast, simprocAttr, hb, lk_old hb, hb0, lk_old hb0, b0, b1, ← hN, ← hke, hKt, c1, c2, c3, g0, g1, g2, g3, gl, htk, m1, m2]
      refine InB_n ?_
      refine Thn_n ?_
      refine hK _ _ ?_
      clear hK K
      refine AW.region (by decide) ?_
      simp only [push_cast, simprocAttr, hb, lk_old hb, hb0, lk_old hb0, b0, b1, ← hN, ← hke, hKt, c1, c2, c3, g0, g1, g2, g3, gl, htk, m1, m2]
      refine Thn_n ?_
      have hwi : IntKind.i64.wrap ((i:Int)+1) = (i:Int)+1 := wi (by omega)
      refine ⟨i + 1, by omega, by omega, ?_⟩
      try simp only [keepL, setAll, push_cast, simprocAttr, hb, lk_old hb, hb0, lk_old hb0, b0, b1, ← hN, ← hke, hKt, c1, c2, c3, g0, g1, g2, g3, gl, htk, m1, m2, hwi, hst, h4]
      exact Weak.to (extra := [_, _]) (by simp only [Keeps, Tm.get_cons, Nat.reduceEqDiff, ↓reduceIte, if_true, if_false, ite_true, ite_false, true_and, and_true, and_self, reduceCtorEq, hwi, hst, h4]) (by first | rfl | (simp only [List.append_assoc, List.cons_append, List.nil_append]; rfl)) (by first | rfl | (simp [AV.below, CV.below]; done) | (simp [AV.below, CV.below]; omega)) (by
        refine MWf.app (hwf.grow (by simp)) (MWf_cons ?_ (MWf_cons rfl (MWf_cons (tL_below _ _) (MWf_cons ?_ (MWf_cons (pL_below _ _) (MWf_cons (ic_below _ _) (MWf_cons rfl (MWf_cons ?_ (MWf_cons (tL_below _ _) MWf_nil)) (mE_below _ _ _))))))))
        all_goals (first | (simp [CV.below]; done) | (simp [CV.below]; omega)))
    · have hin : i = Fs.length := by have := of_decide_eq_false h69; omega
      subst hin
      have hFt : Fs.take Fs.length = Fs := List.take_of_length_le (Nat.le_refl _)
      refine AW.exit ?_
      refine Thn_e ?_
      clear hK K
      refine Thn_e ?_
      refine InB_here ?_
      refine Thn_n ?_
      refine hK _ _ ?_
      clear hK K
      refine AW.seq_k fun K hK => ?_
      refine AW.seq_k fun K hK => ?_
      refine AW.region (by decide) ?_
      simp only [push_cast, simprocAttr, hb, lk_old hb, hb0, lk_old hb0, b0, b1, ← hN, ← hke, hKt, hFt]
      refine CThen.by (by
        have h := fun m2 => check_c (m.length + 2) N (m.length + 8) Fs.length (P ++ ke.map (midP P)) (Fs.flatMap (finF P.length ke)) m2
        simp only [hfpl, hffl] at h
        exact h _ (by simp) ⟨.grow, 3, by simp only [push_cast, simprocAttr]⟩) ?_
      simp only [push_cast, simprocAttr, hb, lk_old hb, hb0, lk_old hb0, b0, b1, ← hN, ← hke, hKt, hFt]
      refine Thn_n ?_
      refine hK _ _ ?_
      clear hK K
      refine AW.seq_k fun K hK => ?_
      refine AW.region (by decide) ?_
      simp only [push_cast, simprocAttr, hb, lk_old hb, hb0, lk_old hb0, b0, b1, ← hN, ← hke, hKt, hFt]
      refine Thn_n ?_
      refine hK _ _ ?_
      clear hK K
      refine AW.cond_f rfl ?_
      refine AW.skip ?_
      refine Thn_n ?_
      refine hK _ _ ?_
      clear hK K
      refine AW.seq_k fun K hK => ?_
      refine AW.region (by decide) ?_
      simp only [push_cast, simprocAttr, hb, lk_old hb, hb0, lk_old hb0, b0, b1, ← hN, ← hke, hKt, hFt]
      refine Thn_n ?_
      refine hK _ _ ?_
      clear hK K
      refine AW.ret ?_
      refine hQ _ _ _ ?_
      refine RetP.pick [(m.length + 2, N), (m.length + 8, Fs.length)] (Or.inr rfl) ?_ ?_ ?_ hwf ?_
      · simp only [resA, resOne, resTv, AV.tv, push_cast, simprocAttr]
        simp [renV, renT, renL, renC, renIdx, hlt0]
      · simp only [picks, push_cast, simprocAttr]
      · simp [distinctFrom]
      · exact MWf_cons (tL_below _ _) (MWf_one (tL_below _ _))
end Go.Proofs.Ytiogpaehelpmhaa

set_option linter.unusedSimpArgs false
set_option linter.unusedVariables false
set_option maxRecDepth 100000
set_option maxHeartbeats 4000000
namespace Go.Proofs.Ytiogpaehelpmhaa
open Go Go.Eng

def shF (n : Nat) (t : T3) : T3 := (t.1 + n, t.2.1 + n, t.2.2 + n)
theorem tk_step {l : List T3} {i : Nat} {t : T3} (h : l[i]? = some t) : tL (l.take i) ++ tC t = tL (l.take (i + 1)) := by
  rw [List.take_add_one, h]; simp [tL]
theorem tk2_step {a l : List T3} {f : T3 → T3} {i : Nat} {t : T3} (h : l[i]? = some t) : tL (a ++ (l.map f).take i) ++ tC (f t) = tL (a ++ (l.map f).take (i + 1)) := by
  rw [← tL_app, ← tL_app, ← take_step h, List.append_assoc]
theorem join2_c (rp1 vp1 rf1 vf1 : Nat) (P1 F1 : List T3) (rp2 vp2 rf2 vf2 : Nat) (P2 F2 : List T3) (r v : Nat) (m : AMem) (hrow : m[r]? = some ⟨.grow, 37, v, 2, [.sl rp1 vp1 0 P1.length, .sl rf1 vf1 0 F1.length, .sl rp2 vp2 0 P2.length, .sl rf2 vf2 0 F2.length]⟩) (hp1 : rp1 < m.length) (hpt1 : TRow m 49 rp1 vp1 P1) (hf1 : TRow m 54 rf1 vf1 F1) (hc1 : chk P1.length F1 = 0) (hp2 : rp2 < m.length) (hpt2 : TRow m 49 rp2 vp2 P2) (hf2 : TRow m 54 rf2 vf2 F2) (hc2 : chk P2.length F2 = 0) (hc3 : chk (P1.length + P2.length) (F1 ++ F2.map (shF P1.length)) = 0) : Ctr Try.prog 10 [.one (.sl r v 0 2)] m (.tup [(true, [.sl m.length 0 0 (P1.length + P2.length), .sl (m.length + 1) 0 0 (F1.length + F2.length)]), (false, [.int .i64 0])]) (m ++ [⟨.grow, 49, 0, 3, tL (P1 ++ P2)⟩, ⟨.grow, 54, 0, 3, tL (F1 ++ F2.map (shF P1.length))⟩]) := by
  refine Ctr.enter Try.func10 rfl (by decide) (rs := [.cell 2 37, .tmp 3]) (nt := 67) rfl rfl fun hwf Q hQ => ?_
  have hlt0 : ∀ k, ¬ m.length + k < m.length := fun k => by omega
  have hrl := get_lt hrow
  obtain ⟨kp1, ezp1, hbp1⟩ := hpt1.hb
  obtain ⟨kf1, ezf1, hbf1⟩ := hf1.hb
  have hrf1 := get_lt hbf1
  have hl1 := chk_len hc1
  have ok1 := chk_ok hc1
  have b1 : (chk P1.length F1 != 0) = false := by simp [hc1]
  have tv1 := tL_vals P1
  have tt1 := tL_take P1
  have tl1 := tL_len P1
  obtain ⟨kp2, ezp2, hbp2⟩ := hpt2.hb
  obtain ⟨kf2, ezf2, hbf2⟩ := hf2.hb
  have hrf2 := get_lt hbf2
  have hl2 := chk_len hc2
  have ok2 := chk_ok hc2
  have b2 : (chk P2.length F2 != 0) = false := by simp [hc2]
  have tv2 := tL_vals P2
  have tt2 := tL_take P2
  have tl2 := tL_len P2
  have hl3 := chk_len hc3
  have b3 : (chk (P1.length + P2.length) (F1 ++ F2.map (shF P1.length)) != 0) = false := by simp [hc3]
  have hap : tL P1 ++ tL P2 = tL (P1 ++ P2) := tL_app _ _
  have n1 : P1.length ≤ 140737488355328 := by omega
  have n2 : P1.length * 24 ≤ 140737488355328 := by omega
  have n3 : P1.length + P2.length ≤ 140737488355328 := by omega
  have n4 : (P1.length + P2.length) * 24 ≤ 140737488355328 := by omega
  iterate 2
    refine AW.seq_k fun K hK => ?_
    refine AW.region (by decide) ?_
    simp only [push_cast, simprocAttr, hrow, lk_old hrow, hbp1, lk_old hbp1, hbf1, lk_old hbf1, hbp2, lk_old hbp2, hbf2, lk_old hbf2, b1, b2, b3, tv1, tt1, tl1, tv2, tt2, tl2, hap, n1, n2, n3, n4, List.nil_append, Nat.zero_add]
    refine Thn_n ?_
    refine hK _ _ ?_
    clear hK K
  refine AW.seq_k fun K hK => ?_
  refine AW.seq_k fun K hK => ?_
  refine AW.nilCell 49 3 (m.length + 1) 0 (by simp only [push_cast, simprocAttr]; first | done | rfl) (by intro e; cases e) rfl ?_
  try simp only [push_cast, simprocAttr]
  refine AW.nilCell 54 3 (m.length + 1) 1 (by simp only [push_cast, simprocAttr]; first | done | rfl) (by intro e; cases e) rfl ?_
  try simp only [push_cast, simprocAttr]
  refine AW.region (by decide) ?_
  simp only [push_cast, simprocAttr, hrow, lk_old hrow, hbp1, lk_old hbp1, hbf1, lk_old hbf1, hbp2, lk_old hbp2, hbf2, lk_old hbf2, b1, b2, b3, tv1, tt1, tl1, tv2, tt2, tl2, hap, n1, n2, n3, n4, List.nil_append, Nat.zero_add]
  refine Thn_n ?_
  refine hK _ _ ?_
  clear hK K
  refine AW.block ?_
  refine AW.rounds 3 ?_
  refine ARounds.succ fun K hK => ?_
  refine AW.seq_k fun K hK => ?_
  refine AW.region (by decide) ?_
  simp only [push_cast, simprocAttr, hrow, lk_old hrow, hbp1, lk_old hbp1, hbf1, lk_old hbf1, hbp2, lk_old hbp2, hbf2, lk_old hbf2, b1, b2, b3, tv1, tt1, tl1, tv2, tt2, tl2, hap, n1, n2, n3, n4, List.nil_append, Nat.zero_add]
  refine Thn_n ?_
  refine hK _ _ ?_
  clear hK K
  refine AW.seq_k fun K hK => ?_
  refine AW.cond_t rfl ?_
  refine AW.skip ?_
  refine Thn_n ?_
  refine hK _ _ ?_
  clear hK K
  refine AW.seq_k fun K hK => ?_
  refine AW.block ?_
  refine AW.seq_k fun K hK => ?_
  refine AW.region (by decide) ?_
  simp only [push_cast, simprocAttr, hrow, lk_old hrow, hbp1, lk_old hbp1, hbf1, lk_old hbf1, hbp2, lk_old hbp2, hbf2, lk_old hbf2, b1, b2, b3, tv1, tt1, tl1, tv2, tt2, tl2, hap, n1, n2, n3, n4, List.nil_append, Nat.zero_add]
  refine Thn_n ?_
  refine hK _ _ ?_
  clear hK K
  refine AW.seq_k fun K hK => ?_
  refine AW.seq_k fun K hK => ?_
  refine AW.region (by decide) ?_
  simp only [push_cast, simprocAttr, hrow, lk_old hrow, hbp1, lk_old hbp1, hbf1, lk_old hbf1, hbp2, lk_old hbp2, hbf2, lk_old hbf2, b1, b2, b3, tv1, tt1, tl1, tv2, tt2, tl2, hap, n1, n2, n3, n4, List.nil_append, Nat.zero_add]
  refine CThen.by (check_c rp1 vp1 rf1 vf1 P1 F1 _ (by simp; omega) (hf1.mono _)) ?_
  simp only [push_cast, simprocAttr, hrow, lk_old hrow, hbp1, lk_old hbp1, hbf1, lk_old hbf1, hbp2, lk_old hbp2, hbf2, lk_old hbf2, b1, b2, b3, tv1, tt1, tl1, tv2, tt2, tl2, hap, n1, n2, n3, n4, List.nil_append, Nat.zero_add]
  refine Thn_n ?_
  refine hK _ _ ?_
  clear hK K
  refine AW.seq_k fun K hK => ?_
  refine AW.region (by decide) ?_
  simp only [push_cast, simprocAttr, hrow, lk_old hrow, hbp1, lk_old hbp1, hbf1, lk_old hbf1, hbp2, lk_old hbp2, hbf2, lk_old hbf2, b1, b2, b3, tv1, tt1, tl1, tv2, tt2, tl2, hap, n1, n2, n3, n4, List.nil_append, Nat.zero_add]
  refine Thn_n ?_
  refine hK _ _ ?_
  clear hK K
  refine AW.cond_f rfl ?_
  refine AW.skip ?_
  iterate 2
    refine Thn_n ?_
    refine hK _ _ ?_
    clear hK K
    refine AW.seq_k fun K hK => ?_
    refine AW.region (by decide) ?_
    simp only [push_cast, simprocAttr, hrow, lk_old hrow, hbp1, lk_old hbp1, hbf1, lk_old hbf1, hbp2, lk_old hbp2, hbf2, lk_old hbf2, b1, b2, b3, tv1, tt1, tl1, tv2, tt2, tl2, hap, n1, n2, n3, n4, List.nil_append, Nat.zero_add]
  refine Thn_n ?_
  refine hK _ _ ?_
  clear hK K
  refine AW.seq_k fun K hK => ?_
  refine AW.seq_k fun K hK => ?_
  refine AW.region (by decide) ?_
  simp only [push_cast, simprocAttr, hrow, lk_old hrow, hbp1, lk_old hbp1, hbf1, lk_old hbf1, hbp2, lk_old hbp2, hbf2, lk_old hbf2, b1, b2, b3, tv1, tt1, tl1, tv2, tt2, tl2, hap, n1, n2, n3, n4, List.nil_append, Nat.zero_add]
  refine Thn_n ?_
  refine hK _ _ ?_
  clear hK K
  refine AW.block ?_
  refine AW.loopK [2, 4, 8, 12, 13, 14, 34, 35] (fun i => i ≤ F1.length) (fun i => [(36, .one (.int .i64 (i : Int)))]) (fun i => [(m.length + 1, ⟨.fix, 37, 0, 0, [.sl (m.length + 2) 1 0 P1.length, .sl (m.length + 3) i 0 i]⟩), (m.length + 3, ⟨.grow, 54, i, 3, tL (F1.take i)⟩)]) (fun i => F1.length - i) 0 (by omega) ?_ ?_ fun i hi17 => ?_
  · first | rfl | (simp only [Keeps, Tm.get_cons, Nat.reduceEqDiff, ↓reduceIte, if_true, if_false, ite_true, ite_false, true_and, and_true, and_self, reduceCtorEq, Int.natCast_zero, List.take_zero, tL, List.flatMap_nil, Nat.add_zero, List.append_nil] <;> rfl)
  · first | rfl | (simp only [setAll, push_cast, simprocAttr, hrow, lk_old hrow, hbp1, lk_old hbp1, hbf1, lk_old hbf1, hbp2, lk_old hbp2, hbf2, lk_old hbf2, b1, b2, b3, tv1, tt1, tl1, tv2, tt2, tl2, hap, n1, n2, n3, n4, List.nil_append, Nat.zero_add, Int.natCast_zero, List.take_zero, tL, List.flatMap_nil, Nat.add_zero, List.append_nil] <;> rfl)
  try simp only [keepL, setAll, push_cast, simprocAttr, hrow, lk_old hrow, hbp1, lk_old hbp1, hbf1, lk_old hbf1, hbp2, lk_old hbp2, hbf2, lk_old hbf2, b1, b2, b3, tv1, tt1, tl1, tv2, tt2, tl2, hap, n1, n2, n3, n4, List.nil_append, Nat.zero_add]
  refine AW.seq_k fun K hK => ?_
  refine AW.region (by decide) ?_
  simp only [push_cast, simprocAttr, hrow, lk_old hrow, hbp1, lk_old hbp1, hbf1, lk_old hbf1, hbp2, lk_old hbp2, hbf2, lk_old hbf2, b1, b2, b3, tv1, tt1, tl1, tv2, tt2, tl2, hap, n1, n2, n3, n4, List.nil_append, Nat.zero_add]
  refine Thn_n ?_
  refine hK _ _ ?_
  clear hK K
  refine AW.seq_k fun K hK => ?_
  refine AW.cond rfl (fun h37 => ?_) (fun h37 => ?_)
  · have hlt : i < F1.length := by have := of_decide_eq_true h37; omega
    have c1 : (0 : Int) ≤ (i : Int) := by omega
    have c2 : (i : Int) < (F1.length : Nat) := by omega
    have c3 : i * 3 + 3 ≤ F1.length * 3 := by omega
    obtain ⟨t, ht⟩ : ∃ t, F1[i]? = some t := ⟨_, List.getElem?_eq_getElem hlt⟩
    have g0 := tL_get0 ht
    have g1 := tL_get1 ht
    have g2 := tL_get2 ht
    have g3 := tL_at ht
    have gl := tL_len F1
    have ho := ok1 t (List.mem_of_getElem? ht)
    have i0 := fv_in ho 0
    have i1 := fv_in ho 1
    have i2 := fv_in ho 2
    simp only [fv] at i0 i1 i2
    have w0 : IntKind.i64.wrap t.1 = t.1 := wi (by omega)
    have w1 : IntKind.i64.wrap t.2.1 = t.2.1 := wi (by omega)
    have w2 : IntKind.i64.wrap t.2.2 = t.2.2 := wi (by omega)
    have hst : tL (F1.take i) ++ [.int .i64 t.1, .int .i64 t.2.1, .int .i64 t.2.2] = tL (F1.take (i + 1)) := tk_step ht
    have htk : (tL (F1.take i)).length = i * 3 := by rw [tL_len, List.length_take]; congr 1; omega
    have m1 : i ≤ 140737488355327 := by omega
    have m2 : (i + 1) * 24 ≤ 140737488355328 := by omega
    refine AW.skip ?_
    refine Thn_n ?_
    refine hK _ _ ?_
    clear hK K
    refine AW.seq_k fun K hK => ?_
    refine AW.block ?_
    refine AW.seq_k fun K hK => ?_
    refine AW.region (by decide) ?_
    simp only [push_cast, simprocAttr, hrow, lk_old hrow, hbp1, lk_old hbp1, hbf1, lk_old hbf1, hbp2, lk_old hbp2, hbf2, lk_old hbf2, b1, b2, b3, tv1, tt1, tl1, tv2, tt2, tl2, hap, n1, n2, n3, n4, List.nil_append, Nat.zero_add, c1, c2, c3, g0, g1, g2, g3, gl, w0, w1, w2, Int.add_zero, htk, m1, m2]
    refine Thn_n ?_
    refine hK _ _ ?_
    clear hK K
    refine AW.region (by decide) ?_
    simp only [push_cast, simprocAttr, hrow, lk_old hrow, hbp1, lk_old hbp1, hbf1, lk_old hbf1, hbp2, lk_old hbp2, hbf2, lk_old hbf2, b1, b2, b3, tv1, tt1, tl1, tv2, tt2, tl2, hap, n1, n2, n3, n4, List.nil_append, Nat.zero_add, c1, c2, c3, g0, g1, g2, g3, gl, w0, w1, w2, Int.add_zero, htk, m1, m2]
    refine InB_n ?_
    refine Thn_n ?_
    refine hK _ _ ?_
    clear hK K
    refine AW.region (by decide) ?_
    simp only [push_cast, simprocAttr, hrow, lk_old hrow, hbp1, lk_old hbp1, hbf1, lk_old hbf1, hbp2, lk_old hbp2, hbf2, lk_old hbf2, b1, b2, b3, tv1, tt1, tl1, tv2, tt2, tl2, hap, n1, n2, n3, n4, List.nil_append, Nat.zero_add, c1, c2, c3, g0, g1, g2, g3, gl, w0, w1, w2, Int.add_zero, htk, m1, m2]
    refine Thn_n ?_
    have hwi : IntKind.i64.wrap ((i:Int)+1) = (i:Int)+1 := wi (by omega)
    refine ⟨i + 1, by omega, by omega, ?_⟩
    try simp only [keepL, setAll, push_cast, simprocAttr, hrow, lk_old hrow, hbp1, lk_old hbp1, hbf1, lk_old hbf1, hbp2, lk_old hbp2, hbf2, lk_old hbf2, b1, b2, b3, tv1, tt1, tl1, tv2, tt2, tl2, hap, n1, n2, n3, n4, List.nil_append, Nat.zero_add, c1, c2, c3, g0, g1, g2, g3, gl, w0, w1, w2, Int.add_zero, htk, m1, m2, hwi, hst]
    exact Weak.to (extra := [_, _]) (by simp only [Keeps, Tm.get_cons, Nat.reduceEqDiff, ↓reduceIte, if_true, if_false, ite_true, ite_false, true_and, and_true, and_self, reduceCtorEq, hwi, hst]) (by first | rfl | (simp only [List.append_assoc, List.cons_append, List.nil_append]; rfl)) (by first | rfl | (simp [AV.below, CV.below, tL_below]; done) | (simp [AV.below, CV.below, tL_below]; omega)) (by
      first | exact hwf | refine MWf.app (hwf.grow (by simp)) ?_
      repeat (first | exact MWf_nil | (refine MWf_cons ?_ ?_; · first | rfl | (simp [CV.below, tL_below]; done) | (simp [CV.below, tL_below]; omega))))
  · have hin : i = F1.length := by have := of_decide_eq_false h37; omega
    subst hin
    have hta : F1.take F1.length = F1 := List.take_of_length_le (Nat.le_refl _)
    refine AW.exit ?_
    refine Thn_e ?_
    clear hK K
    refine Thn_e ?_
    refine InB_here ?_
    refine Thn_n ?_
    refine hK _ _ ?_
    clear hK K
    refine AW.seq_k fun K hK => ?_
    refine AW.region (by decide) ?_
    simp only [push_cast, simprocAttr, hrow, lk_old hrow, hbp1, lk_old hbp1, hbf1, lk_old hbf1, hbp2, lk_old hbp2, hbf2, lk_old hbf2, b1, b2, b3, tv1, tt1, tl1, tv2, tt2, tl2, hap, n1, n2, n3, n4, List.nil_append, Nat.zero_add, hta]
    refine CThen.by (check_c (m.length + 2) 1 (m.length + 3) F1.length P1 F1 _ (by simp) ⟨.grow, 3, by simp only [push_cast, simprocAttr]⟩) ?_
    simp only [push_cast, simprocAttr, hrow, lk_old hrow, hbp1, lk_old hbp1, hbf1, lk_old hbf1, hbp2, lk_old hbp2, hbf2, lk_old hbf2, b1, b2, b3, tv1, tt1, tl1, tv2, tt2, tl2, hap, n1, n2, n3, n4, List.nil_append, Nat.zero_add, hta]
    refine Thn_n ?_
    refine hK _ _ ?_
    clear hK K
    refine AW.seq_k fun K hK => ?_
    refine AW.region (by decide) ?_
    simp only [push_cast, simprocAttr, hrow, lk_old hrow, hbp1, lk_old hbp1, hbf1, lk_old hbf1, hbp2, lk_old hbp2, hbf2, lk_old hbf2, b1, b2, b3, tv1, tt1, tl1, tv2, tt2, tl2, hap, n1, n2, n3, n4, List.nil_append, Nat.zero_add, hta]
    refine Thn_n ?_
    refine hK _ _ ?_
    clear hK K
    refine AW.cond_f rfl ?_
    refine AW.skip ?_
    refine InB_n ?_
    refine Thn_n ?_
    refine hK _ _ ?_
    clear hK K
    refine AW.region (by decide) ?_
    simp only [push_cast, simprocAttr, hrow, lk_old hrow, hbp1, lk_old hbp1, hbf1, lk_old hbf1, hbp2, lk_old hbp2, hbf2, lk_old hbf2, b1, b2, b3, tv1, tt1, tl1, tv2, tt2, tl2, hap, n1, n2, n3, n4, List.nil_append, Nat.zero_add, hta]
    refine Thn_n ?_
    refine hK _ _ ?_
    clear hK K
    refine ARounds.succ fun K hK => ?_
    refine AW.seq_k fun K hK => ?_
    refine AW.region (by decide) ?_
    simp only [push_cast, simprocAttr, hrow, lk_old hrow, hbp1, lk_old hbp1, hbf1, lk_old hbf1, hbp2, lk_old hbp2, hbf2, lk_old hbf2, b1, b2, b3, tv1, tt1, tl1, tv2, tt2, tl2, hap, n1, n2, n3, n4, List.nil_append, Nat.zero_add]
    refine Thn_n ?_
    refine hK _ _ ?_
    clear hK K
    refine AW.seq_k fun K hK => ?_
    refine AW.cond_t rfl ?_
    refine AW.skip ?_
    refine Thn_n ?_
    refine hK _ _ ?_
    clear hK K
    refine AW.seq_k fun K hK => ?_
    refine AW.block ?_
    refine AW.seq_k fun K hK => ?_
    refine AW.region (by decide) ?_
    simp only [push_cast, simprocAttr, hrow, lk_old hrow, hbp1, lk_old hbp1, hbf1, lk_old hbf1, hbp2, lk_old hbp2, hbf2, lk_old hbf2, b1, b2, b3, tv1, tt1, tl1, tv2, tt2, tl2, hap, n1, n2, n3, n4, List.nil_append, Nat.zero_add]
    refine Thn_n ?_
    refine hK _ _ ?_
    clear hK K
    refine AW.seq_k fun K hK => ?_
    refine AW.seq_k fun K hK => ?_
    refine AW.region (by decide) ?_
    simp only [push_cast, simprocAttr, hrow, lk_old hrow, hbp1, lk_old hbp1, hbf1, lk_old hbf1, hbp2, lk_old hbp2, hbf2, lk_old hbf2, b1, b2, b3, tv1, tt1, tl1, tv2, tt2, tl2, hap, n1, n2, n3, n4, List.nil_append, Nat.zero_add]
    refine CThen.by (check_c rp2 vp2 rf2 vf2 P2 F2 _ (by simp; omega) (hf2.mono _)) ?_
    simp only [push_cast, simprocAttr, hrow, lk_old hrow, hbp1, lk_old hbp1, hbf1, lk_old hbf1, hbp2, lk_old hbp2, hbf2, lk_old hbf2, b1, b2, b3, tv1, tt1, tl1, tv2, tt2, tl2, hap, n1, n2, n3, n4, List.nil_append, Nat.zero_add]
    refine Thn_n ?_
    refine hK _ _ ?_
    clear hK K
    refine AW.seq_k fun K hK => ?_
    refine AW.region (by decide) ?_
    simp only [push_cast, simprocAttr, hrow, lk_old hrow, hbp1, lk_old hbp1, hbf1, lk_old hbf1, hbp2, lk_old hbp2, hbf2, lk_old hbf2, b1, b2, b3, tv1, tt1, tl1, tv2, tt2, tl2, hap, n1, n2, n3, n4, List.nil_append, Nat.zero_add]
    refine Thn_n ?_
    refine hK _ _ ?_
    clear hK K
    refine AW.cond_f rfl ?_
    refine AW.skip ?_
    iterate 2
      refine Thn_n ?_
      refine hK _ _ ?_
      clear hK K
      refine AW.seq_k fun K hK => ?_
      refine AW.region (by decide) ?_
      simp only [push_cast, simprocAttr, hrow, lk_old hrow, hbp1, lk_old hbp1, hbf1, lk_old hbf1, hbp2, lk_old hbp2, hbf2, lk_old hbf2, b1, b2, b3, tv1, tt1, tl1, tv2, tt2, tl2, hap, n1, n2, n3, n4, List.nil_append, Nat.zero_add]
    refine Thn_n ?_
    refine hK _ _ ?_
    clear hK K
    refine AW.seq_k fun K hK => ?_
    refine AW.seq_k fun K hK => ?_
    refine AW.region (by decide) ?_
    simp only [push_cast, simprocAttr, hrow, lk_old hrow, hbp1, lk_old hbp1, hbf1, lk_old hbf1, hbp2, lk_old hbp2, hbf2, lk_old hbf2, b1, b2, b3, tv1, tt1, tl1, tv2, tt2, tl2, hap, n1, n2, n3, n4, List.nil_append, Nat.zero_add]
    refine Thn_n ?_
    refine hK _ _ ?_
    clear hK K
    refine AW.block ?_
    refine AW.loopK [2, 4, 8, 12, 13, 14, 34, 35] (fun i => i ≤ F2.length) (fun i => [(36, .one (.int .i64 (i : Int)))]) (fun i => [(m.length + 1, ⟨.fix, 37, 0, 0, [.sl (m.length + 2) 2 0 (P1.length + P2.length), .sl (m.length + 3) (F1.length + i) 0 (F1.length + i)]⟩), (m.length + 3, ⟨.grow, 54, (F1.length + i), 3, tL (F1 ++ (F2.map (shF P1.length)).take i)⟩)]) (fun i => F2.length - i) 0 (by omega) ?_ ?_ fun i hi36 => ?_
    · first | rfl | (simp only [Keeps, Tm.get_cons, Nat.reduceEqDiff, ↓reduceIte, if_true, if_false, ite_true, ite_false, true_and, and_true, and_self, reduceCtorEq, Int.natCast_zero, List.take_zero, tL, List.flatMap_nil, Nat.add_zero, List.append_nil] <;> rfl)
    · first | rfl | (simp only [setAll, push_cast, simprocAttr, hrow, lk_old hrow, hbp1, lk_old hbp1, hbf1, lk_old hbf1, hbp2, lk_old hbp2, hbf2, lk_old hbf2, b1, b2, b3, tv1, tt1, tl1, tv2, tt2, tl2, hap, n1, n2, n3, n4, List.nil_append, Nat.zero_add, Int.natCast_zero, List.take_zero, tL, List.flatMap_nil, Nat.add_zero, List.append_nil] <;> rfl)
    try simp only [keepL, setAll, push_cast, simprocAttr, hrow, lk_old hrow, hbp1, lk_old hbp1, hbf1, lk_old hbf1, hbp2, lk_old hbp2, hbf2, lk_old hbf2, b1, b2, b3, tv1, tt1, tl1, tv2, tt2, tl2, hap, n1, n2, n3, n4, List.nil_append, Nat.zero_add]
    refine AW.seq_k fun K hK => ?_
    refine AW.region (by decide) ?_
    simp only [push_cast, simprocAttr, hrow, lk_old hrow, hbp1, lk_old hbp1, hbf1, lk_old hbf1, hbp2, lk_old hbp2, hbf2, lk_old hbf2, b1, b2, b3, tv1, tt1, tl1, tv2, tt2, tl2, hap, n1, n2, n3, n4, List.nil_append, Nat.zero_add]
    refine Thn_n ?_
    refine hK _ _ ?_
    clear hK K
    refine AW.seq_k fun K hK => ?_
    refine AW.cond rfl (fun h37 => ?_) (fun h37 => ?_)
    · have hlt : i < F2.length := by have := of_decide_eq_true h37; omega
      have c1 : (0 : Int) ≤ (i : Int) := by omega
      have c2 : (i : Int) < (F2.length : Nat) := by omega
      have c3 : i * 3 + 3 ≤ F2.length * 3 := by omega
      obtain ⟨t, ht⟩ : ∃ t, F2[i]? = some t := ⟨_, List.getElem?_eq_getElem hlt⟩
      have g0 := tL_get0 ht
      have g1 := tL_get1 ht
      have g2 := tL_get2 ht
      have g3 := tL_at ht
      have gl := tL_len F2
      have ho := ok2 t (List.mem_of_getElem? ht)
      have i0 := fv_in ho 0
      have i1 := fv_in ho 1
      have i2 := fv_in ho 2
      simp only [fv] at i0 i1 i2
      have w0 : IntKind.i64.wrap (t.1 + P1.length) = t.1 + P1.length := wi (by omega)
      have w1 : IntKind.i64.wrap (t.2.1 + P1.length) = t.2.1 + P1.length := wi (by omega)
      have w2 : IntKind.i64.wrap (t.2.2 + P1.length) = t.2.2 + P1.length := wi (by omega)
      have hst : tL (F1 ++ (F2.map (shF P1.length)).take i) ++ [.int .i64 (t.1 + P1.length), .int .i64 (t.2.1 + P1.length), .int .i64 (t.2.2 + P1.length)] = tL (F1 ++ (F2.map (shF P1.length)).take (i + 1)) := tk2_step ht
      have htk : (tL (F1 ++ (F2.map (shF P1.length)).take i)).length = (F1.length + i) * 3 := by rw [tL_len, List.length_append, List.length_take, List.length_map]; congr 2; omega
      have m1 : F1.length + (i + 1) ≤ 140737488355328 := by omega
      have m2 : (F1.length + (i + 1)) * 24 ≤ 140737488355328 := by omega
      refine AW.skip ?_
      refine Thn_n ?_
      refine hK _ _ ?_
      clear hK K
      refine AW.seq_k fun K hK => ?_
      refine AW.block ?_
      refine AW.seq_k fun K hK => ?_
      refine AW.region (by decide) ?_
      simp only [push_cast, simprocAttr, hrow, lk_old hrow, hbp1, lk_old hbp1, hbf1, lk_old hbf1, hbp2, lk_old hbp2, hbf2, lk_old hbf2, b1, b2, b3, tv1, tt1, tl1, tv2, tt2, tl2, hap, n1, n2, n3, n4, List.nil_append, Nat.zero_add, c1, c2, c3, g0, g1, g2, g3, gl, w0, w1, w2, Int.add_zero, htk, m1, m2]
      refine Thn_n ?_
      refine hK _ _ ?_
      clear hK K
      refine AW.region (by decide) ?_
      simp only [push_cast, simprocAttr, hrow, lk_old hrow, hbp1, lk_old hbp1, hbf1, lk_old hbf1, hbp2, lk_old hbp2, hbf2, lk_old hbf2, b1, b2, b3, tv1, tt1, tl1, tv2, tt2, tl2, hap, n1, n2, n3, n4, List.nil_append, Nat.zero_add, c1, c2, c3, g0, g1, g2, g3, gl, w0, w1, w2, Int.add_zero, htk, m1, m2]
      refine InB_n ?_
      refine Thn_n ?_
      refine hK _ _ ?_
      clear hK K
      refine AW.region (by decide) ?_
      simp only [push_cast, simprocAttr, hrow, lk_old hrow, hbp1, lk_old hbp1, hbf1, lk_old hbf1, hbp2, lk_old hbp2, hbf2, lk_old hbf2, b1, b2, b3, tv1, tt1, tl1, tv2, tt2, tl2, hap, n1, n2, n3, n4, List.nil_append, Nat.zero_add, c1, c2, c3, g0, g1, g2, g3, gl, w0, w1, w2, Int.add_zero, htk, m1, m2]
      refine Thn_n ?_
      have hwi : IntKind.i64.wrap ((i:Int)+1) = (i:Int)+1 := wi (by omega)
      refine ⟨i + 1, by omega, by omega, ?_⟩
      try simp only [keepL, setAll, push_cast, simprocAttr, hrow, lk_old hrow, hbp1, lk_old hbp1, hbf1, lk_old hbf1, hbp2, lk_old hbp2, hbf2, lk_old hbf2, b1, b2, b3, tv1, tt1, tl1, tv2, tt2, tl2, hap, n1, n2, n3, n4, List.nil_append, Nat.zero_add, c1, c2, c3, g0, g1, g2, g3, gl, w0, w1, w2, Int.add_zero, htk, m1, m2, hwi, hst]
      exact Weak.to (extra := [_, _]) (by simp only [Keeps, Tm.get_cons, Nat.reduceEqDiff, ↓reduceIte, if_true, if_false, ite_true, ite_false, true_and, and_true, and_self, reduceCtorEq, hwi, hst]) (by first | rfl | (simp only [List.append_assoc, List.cons_append, List.nil_append]; rfl)) (by first | rfl | (simp [AV.below, CV.below, tL_below]; done) | (simp [AV.below, CV.below, tL_below]; omega)) (by
        first | exact hwf | refine MWf.app (hwf.grow (by simp)) ?_
        repeat (first | exact MWf_nil | (refine MWf_cons ?_ ?_; · first | rfl | (simp [CV.below, tL_below]; done) | (simp [CV.below, tL_below]; omega))))
    · have hin : i = F2.length := by have := of_decide_eq_false h37; omega
      subst hin
      have hta := take_all (shF P1.length) F2
      refine AW.exit ?_
      refine Thn_e ?_
      clear hK K
      refine Thn_e ?_
      refine InB_here ?_
      refine Thn_n ?_
      refine hK _ _ ?_
      clear hK K
      refine AW.seq_k fun K hK => ?_
      refine AW.region (by decide) ?_
      simp only [push_cast, simprocAttr, hrow, lk_old hrow, hbp1, lk_old hbp1, hbf1, lk_old hbf1, hbp2, lk_old hbp2, hbf2, lk_old hbf2, b1, b2, b3, tv1, tt1, tl1, tv2, tt2, tl2, hap, n1, n2, n3, n4, List.nil_append, Nat.zero_add, hta]
      refine CThen.by (by
        have h := fun m2 => check_c (m.length + 2) 2 (m.length + 3) (F1.length + F2.length) (P1 ++ P2) (F1 ++ F2.map (shF P1.length)) m2
        simp only [List.length_append, List.length_map] at h
        exact h _ (by simp) ⟨.grow, 3, by simp only [push_cast, simprocAttr]⟩) ?_
      simp only [push_cast, simprocAttr, hrow, lk_old hrow, hbp1, lk_old hbp1, hbf1, lk_old hbf1, hbp2, lk_old hbp2, hbf2, lk_old hbf2, b1, b2, b3, tv1, tt1, tl1, tv2, tt2, tl2, hap, n1, n2, n3, n4, List.nil_append, Nat.zero_add, hta]
      refine Thn_n ?_
      refine hK _ _ ?_
      clear hK K
      refine AW.seq_k fun K hK => ?_
      refine AW.region (by decide) ?_
      simp only [push_cast, simprocAttr, hrow, lk_old hrow, hbp1, lk_old hbp1, hbf1, lk_old hbf1, hbp2, lk_old hbp2, hbf2, lk_old hbf2, b1, b2, b3, tv1, tt1, tl1, tv2, tt2, tl2, hap, n1, n2, n3, n4, List.nil_append, Nat.zero_add, hta]
      refine Thn_n ?_
      refine hK _ _ ?_
      clear hK K
      refine AW.cond_f rfl ?_
      refine AW.skip ?_
      refine InB_n ?_
      refine Thn_n ?_
      refine hK _ _ ?_
      clear hK K
      refine AW.region (by decide) ?_
      simp only [push_cast, simprocAttr, hrow, lk_old hrow, hbp1, lk_old hbp1, hbf1, lk_old hbf1, hbp2, lk_old hbp2, hbf2, lk_old hbf2, b1, b2, b3, tv1, tt1, tl1, tv2, tt2, tl2, hap, n1, n2, n3, n4, List.nil_append, Nat.zero_add, hta]
      refine Thn_n ?_
      refine hK _ _ ?_
      clear hK K
      refine ARounds.succ fun K hK => ?_
      refine AW.seq_k fun K hK => ?_
      refine AW.region (by decide) ?_
      simp only [push_cast, simprocAttr, hrow, lk_old hrow, hbp1, lk_old hbp1, hbf1, lk_old hbf1, hbp2, lk_old hbp2, hbf2, lk_old hbf2, b1, b2, b3, tv1, tt1, tl1, tv2, tt2, tl2, hap, n1, n2, n3, n4, List.nil_append, Nat.zero_add]
      refine Thn_n ?_
      refine hK _ _ ?_
      clear hK K
      refine AW.seq_k fun K hK => ?_
      refine AW.cond_f rfl ?_
      refine AW.exit ?_
      refine Thn_e ?_
      clear hK K
      refine Thn_e ?_
      clear hK K
      refine InB_here ?_
      refine Thn_n ?_
      refine hK _ _ ?_
      clear hK K
      refine AW.seq_k fun K hK => ?_
      refine AW.region (by decide) ?_
      simp only [push_cast, simprocAttr, hrow, lk_old hrow, hbp1, lk_old hbp1, hbf1, lk_old hbf1, hbp2, lk_old hbp2, hbf2, lk_old hbf2, b1, b2, b3, tv1, tt1, tl1, tv2, tt2, tl2, hap, n1, n2, n3, n4, List.nil_append, Nat.zero_add]
      refine Thn_n ?_
      refine hK _ _ ?_
      clear hK K
      refine AW.ret ?_
      refine hQ _ _ _ ?_
      refine RetP.pick [(m.length + 2, 2), (m.length + 3, F1.length + F2.length)] (Or.inr rfl) ?_ ?_ ?_ hwf ?_
      · simp only [resA, resOne, resTv, AV.tv, push_cast, simprocAttr]
        simp [renV, renT, renL, renC, renIdx, hlt0]
      · simp only [picks, push_cast, simprocAttr]
      · simp [distinctFrom]
      · exact MWf_cons (tL_below _ _) (MWf_one (tL_below _ _))
end Go.Proofs.Ytiogpaehelpmhaa

set_option linter.unusedSimpArgs false
set_option linter.unusedVariables false
set_option maxRecDepth 100000
set_option maxHeartbeats 4000000
namespace Go.Proofs.Ytiogpaehelpmhaa
open Go Go.Eng

def insE (k : EK) : List EK → List EK
  | [] => [k]
  | x :: l => if leE k x then k :: x :: l else x :: insE k l
def isE : List EK → List EK
  | [] => []
  | k :: l => insE k (isE l)
theorem insE_perm (k : EK) : ∀ l : List EK, (insE k l).Perm (k :: l)
  | [] => .refl _
  | x :: l => by
    unfold insE; split
    · exact .refl _
    · exact ((insE_perm k l).cons x).trans (.swap k x l)
theorem isE_perm : ∀ l : List EK, (isE l).Perm l
  | [] => .refl _
  | k :: l => (insE_perm k _).trans ((isE_perm l).cons k)
theorem insE_sorted {k : EK} : ∀ {l : List EK}, (l.Pairwise fun a b => leE a b = true) → ((insE k l).Pairwise fun a b => leE a b = true)
  | [], _ => List.pairwise_singleton _ _
  | x :: l, h => by
    rw [List.pairwise_cons] at h
    unfold insE; split
    · rename_i hk
      refine List.pairwise_cons.2 ⟨fun y hy => ?_, List.pairwise_cons.2 h⟩
      rcases List.mem_cons.1 hy with rfl | hy
      · exact hk
      · exact leE_trans _ _ _ hk (h.1 y hy)
    · rename_i hk
      refine List.pairwise_cons.2 ⟨fun y hy => ?_, insE_sorted h.2⟩
      rcases List.mem_cons.1 ((insE_perm k l).mem_iff.1 hy) with rfl | hy
      · have := leE_total y x
        rw [Bool.or_eq_true] at this
        exact this.resolve_left hk
      · exact h.1 y hy
theorem isE_sorted : ∀ l : List EK, (isE l).Pairwise fun a b => leE a b = true
  | [] => .nil
  | k :: l => insE_sorted (isE_sorted l)
theorem isE_eq (l : List EK) : isE l = srtE l := srtE_eq (isE_perm l) (isE_sorted l)
def tlF (Fs : List T3) : List (EK × Int) := tally Fs Fs.length
def ksX (Fs : List T3) : List EK := isE ((tlF Fs).map (·.1))
def fnX (n : Nat) (Fs : List T3) : List T3 := Fs.flatMap (finF n (ksX Fs))
theorem fnX_eq (n : Nat) (Fs : List T3) : fnF n Fs = fnX n Fs := by
  unfold fnF fnX ksX ksE tlF; rw [isE_eq]
def clB (Fs : List T3) : Bool := (tlF Fs).all fun e => e.2 == 2
theorem clB_cs {Fs : List T3} (h : clB Fs = true) : ∀ i, i < (tally Fs Fs.length).length → (csE (tally Fs Fs.length))[i]? = some 2 := fun i hi => by
  have hl := ksE_len (tally Fs Fs.length)
  obtain ⟨k, hk⟩ : ∃ k, (ksE (tally Fs Fs.length))[i]? = some k := ⟨_, List.getElem?_eq_getElem (by omega)⟩
  obtain ⟨j, c, q1, q2, q3⟩ := ksE_mem (List.mem_of_getElem? hk)
  unfold csE
  rw [List.getElem?_map, hk, Option.map_some, q3]
  have := List.all_eq_true.1 h _ (List.mem_of_getElem? q1)
  simp at this
  rw [this]
theorem cr_chk : chk 8 crF = 0 := by decide
theorem cr_tl : (tlF crF).length = 18 := by kernel_rfl
theorem cr_cl : clB crF = true := by kernel_rfl
def okB (n : Nat) (l : List T3) : Bool := l.all fun t => decide (0 ≤ t.1) && decide (t.1 < n) && !decide (t.1 = t.2.1) && decide (0 ≤ t.2.1) && decide (t.2.1 < n) && !decide (t.2.1 = t.2.2) && decide (0 ≤ t.2.2) && decide (t.2.2 < n) && !decide (t.2.2 = t.1)
theorem okB_chk {n : Nat} {l : List T3} (h : okB n l = true) (hn : n ≤ 1024) (hl : l.length ≤ 1024) : chk n l = 0 := by
  refine chk_0 (by omega) fun t ht => ?_
  have := List.all_eq_true.1 h t ht
  simp at this
  unfold okF
  omega
theorem cr_ok2 : okB 26 (fnX 8 crF) = true := by kernel_rfl
theorem fnP_len (P Fs : List T3) : (fnP P Fs).length = P.length + (tlF Fs).length := by unfold fnP tlF; rw [List.length_append, List.length_map, ksE_len]
theorem fnF_len (n : Nat) (Fs : List T3) : (fnF n Fs).length = 4 * Fs.length := fl_len _ _ _
end Go.Proofs.Ytiogpaehelpmhaa

set_option linter.unusedSimpArgs false
set_option linter.unusedVariables false
set_option maxRecDepth 100000
set_option maxHeartbeats 4000000
namespace Go.Proofs.Ytiogpaehelpmhaa
open Go Go.Eng

/-- How often two numbers are of a face; how many faces have both. -/
def hitK (t : T3) (a b : Int) : Nat → Int
  | 0 => 0
  | k + 1 => hitK t a b k + (if fv t k = a ∨ fv t k = b then 1 else 0)
def many (Fs : List T3) (a b : Int) : Nat → Int
  | 0 => 0
  | i + 1 => many Fs a b i + (match Fs[i]? with | some t => if hitK t a b 3 = 2 then 1 else 0 | none => 0)
theorem many_s {Fs : List T3} {a b : Int} {i : Nat} {t : T3} (h : Fs[i]? = some t) : many Fs a b (i + 1) = many Fs a b i + (if hitK t a b 3 = 2 then 1 else 0) := by
  show _ + (match Fs[i]? with | some t => _ | none => _) = _
  rw [h]
theorem hitK_b (t : T3) (a b : Int) : ∀ k : Nat, 0 ≤ hitK t a b k ∧ hitK t a b k ≤ k
  | 0 => ⟨Int.le_refl _, Int.le_refl _⟩
  | k + 1 => by
    have := hitK_b t a b k
    unfold hitK; split <;> omega
theorem many_b (Fs : List T3) (a b : Int) : ∀ i : Nat, 0 ≤ many Fs a b i ∧ many Fs a b i ≤ i
  | 0 => ⟨Int.le_refl _, Int.le_refl _⟩
  | i + 1 => by
    have := many_b Fs a b i
    unfold many; split
    · split <;> omega
    · omega
def manyA (Fs : List T3) (a b : Int) : Int := many Fs a b Fs.length
/-- The document's edges: by the first number, then by the second one. -/
def rowE (Fs : List T3) (a b : Nat) : List EK := ((List.range b).filter fun (j : Nat) => decide (a < j) && decide (0 < manyA Fs (a : Int) (j : Int))).map fun (j : Nat) => ((a : Int), (j : Int))
def allE (Fs : List T3) (N a : Nat) : List EK := (List.range a).flatMap fun x => rowE Fs x N
def cntL (Fs : List T3) (l : List EK) : List Int := l.map fun k => manyA Fs k.1 k.2
theorem rowE_0 (Fs : List T3) (a : Nat) : rowE Fs a (a + 1) = [] := by
  unfold rowE
  rw [List.filter_eq_nil_iff.2 fun j hj => by
    have := List.mem_range.1 hj
    simp; omega]
  rfl
theorem rowE_yes {Fs : List T3} {a b : Nat} (h : a < b) (hm : 0 < manyA Fs (a : Int) (b : Int)) : rowE Fs a (b + 1) = rowE Fs a b ++ [((a : Int), (b : Int))] := by
  unfold rowE
  rw [List.range_succ, List.filter_append, List.map_append]
  simp [h, hm]
theorem rowE_no {Fs : List T3} {a b : Nat} (hm : ¬ 0 < manyA Fs (a : Int) (b : Int)) : rowE Fs a (b + 1) = rowE Fs a b := by
  unfold rowE
  rw [List.range_succ, List.filter_append, List.map_append]
  simp [hm]
theorem allE_s (Fs : List T3) (N a : Nat) : allE Fs N (a + 1) = allE Fs N a ++ rowE Fs a N := by
  unfold allE; rw [List.range_succ, List.flatMap_append]; simp
theorem rowE_len (Fs : List T3) (a b : Nat) : (rowE Fs a b).length ≤ b := by
  unfold rowE
  rw [List.length_map]
  have := List.length_filter_le (fun j => decide (a < j) && decide (0 < manyA Fs (a : Int) (j : Int))) (List.range b)
  rwa [List.length_range] at this
theorem allE_len (Fs : List T3) (N : Nat) : ∀ a, (allE Fs N a).length ≤ a * N
  | 0 => Nat.zero_le _
  | a + 1 => by
    have h1 := allE_len Fs N a
    have h2 := rowE_len Fs a N
    rw [allE_s, List.length_append, Nat.succ_mul]; omega
theorem cntL_app (Fs : List T3) (a b : List EK) : cntL Fs (a ++ b) = cntL Fs a ++ cntL Fs b := List.map_append
theorem cntL_len (Fs : List T3) (l : List EK) : (cntL Fs l).length = l.length := List.length_map _
/-- Faces that may be: the sum of hits is a count of edges. -/
theorem hk_key {n : Nat} {t : T3} (h : okF n t) {a b : Int} (hab : a < b) : (if hitK t a b 3 = 2 then (1 : Int) else 0) = (if fKey t 0 = (a, b) then 1 else 0) + (if fKey t 1 = (a, b) then 1 else 0) + (if fKey t 2 = (a, b) then 1 else 0) := by
  have ho := h
  unfold okF at ho
  have e0 : fKey t 0 = (a, b) ↔ (Eng.minI t.1 t.2.1 = a ∧ Eng.maxI t.1 t.2.1 = b) := by
    show eKey t.1 t.2.1 = _ ↔ _
    unfold eKey; rw [Prod.mk.injEq]
  have e1 : fKey t 1 = (a, b) ↔ (Eng.minI t.2.1 t.2.2 = a ∧ Eng.maxI t.2.1 t.2.2 = b) := by
    show eKey t.2.1 t.2.2 = _ ↔ _
    unfold eKey; rw [Prod.mk.injEq]
  have e2 : fKey t 2 = (a, b) ↔ (Eng.minI t.2.2 t.1 = a ∧ Eng.maxI t.2.2 t.1 = b) := by
    show eKey t.2.2 t.1 = _ ↔ _
    unfold eKey; rw [Prod.mk.injEq]
  have hh : hitK t a b 3 = 0 + (if t.1 = a ∨ t.1 = b then 1 else 0) + (if t.2.1 = a ∨ t.2.1 = b then 1 else 0) + (if t.2.2 = a ∨ t.2.2 = b then 1 else 0) := rfl
  rw [hh]
  simp only [e0, e1, e2]
  clear e0 e1 e2 hh h
  generalize t.1 = x at *
  generalize t.2.1 = y at *
  generalize t.2.2 = z at *
  have m1 : (Eng.minI x y = x ∧ Eng.maxI x y = y ∧ x < y) ∨ (Eng.minI x y = y ∧ Eng.maxI x y = x ∧ y < x) := by unfold Eng.minI Eng.maxI; split <;> split <;> omega
  have m2 : (Eng.minI y z = y ∧ Eng.maxI y z = z ∧ y < z) ∨ (Eng.minI y z = z ∧ Eng.maxI y z = y ∧ z < y) := by unfold Eng.minI Eng.maxI; split <;> split <;> omega
  have m3 : (Eng.minI z x = z ∧ Eng.maxI z x = x ∧ z < x) ∨ (Eng.minI z x = x ∧ Eng.maxI z x = z ∧ x < z) := by unfold Eng.minI Eng.maxI; split <;> split <;> omega
  generalize Eng.minI x y = p1 at *
  generalize Eng.maxI x y = q1 at *
  generalize Eng.minI y z = p2 at *
  generalize Eng.maxI y z = q2 at *
  generalize Eng.minI z x = p3 at *
  generalize Eng.maxI z x = q3 at *
  (repeat' split) <;> omega
/-- How often a key is among entries' counts. -/
def cnt0 (k : EK) : List (EK × Int) → Int
  | [] => 0
  | e :: E => if e.1 = k then e.2 else cnt0 k E
theorem cntE_0 (k : EK) : ∀ E : List (EK × Int), k ∈ E.map (·.1) → cntE E k = cnt0 k E
  | [], h => by cases h
  | e :: E, h => by
    unfold cntE cnt0
    rw [List.find?_cons]
    by_cases hk : e.1 = k
    · rw [show (e.1 == k) = true by simpa using hk, if_pos hk]; rfl
    · rw [show (e.1 == k) = false by simpa using hk, if_neg hk]
      rcases List.mem_cons.1 h with h2 | h2
      · exact (hk h2.symm).elim
      · exact cntE_0 k E h2
theorem cnt0_inc (k x : EK) : ∀ E : List (EK × Int), cnt0 k (inc x E) = cnt0 k E + (if x = k then 1 else 0)
  | [] => by
    unfold inc cnt0; by_cases h : x = k
    · rw [if_pos h, if_pos h]; rfl
    · rw [if_neg h, if_neg h]; rfl
  | e :: E => by
    unfold inc
    by_cases he : e.1 = x
    · rw [if_pos he]
      unfold cnt0
      by_cases h : x = k
      · rw [if_pos h, if_pos h, if_pos (he.trans h)]
      · rw [if_neg h, if_neg h, if_neg (fun h2 => h (he.symm.trans h2)), Int.add_zero]
    · rw [if_neg he]
      show (if e.1 = k then e.2 else cnt0 k (inc x E)) = (if e.1 = k then e.2 else cnt0 k E) + _
      by_cases h : e.1 = k
      · rw [if_pos h, if_pos h, if_neg (fun h2 => he (h.trans h2.symm)), Int.add_zero]
      · rw [if_neg h, if_neg h, cnt0_inc k x E]
theorem cnt0_face (k : EK) (E : List (EK × Int)) (t : T3) : cnt0 k (faceE E t 3) = cnt0 k E + ((if fKey t 0 = k then 1 else 0) + (if fKey t 1 = k then 1 else 0) + (if fKey t 2 = k then 1 else 0)) := by
  show cnt0 k (inc _ (inc _ (inc _ E))) = _
  rw [cnt0_inc, cnt0_inc, cnt0_inc]
  simp only [Int.add_assoc]
theorem cnt0_tally {n : Nat} {Fs : List T3} (h : ∀ t, t ∈ Fs → okF n t) {a b : Int} (hab : a < b) : ∀ i, cnt0 (a, b) (tally Fs i) = many Fs a b i
  | 0 => rfl
  | i + 1 => by
    have ih := cnt0_tally h hab i
    cases ht : Fs[i]? with
    | none =>
      have e : tally Fs (i + 1) = tally Fs i := by show (match Fs[i]? with | some t => _ | none => _) = _; rw [ht]
      have e2 : many Fs a b (i + 1) = many Fs a b i := by show _ + (match Fs[i]? with | some t => _ | none => _) = _; rw [ht]; exact Int.add_zero _
      rw [e, e2, ih]
    | some t => rw [tally_s ht, many_s ht, cnt0_face, ih, hk_key (h t (List.mem_of_getElem? ht)) hab]
theorem cnt0_pos {k : EK} : ∀ {E : List (EK × Int)}, 0 < cnt0 k E → k ∈ E.map (·.1)
  | [], h => by unfold cnt0 at h; omega
  | e :: E, h => by
    unfold cnt0 at h
    split at h
    · rename_i hk; rw [List.map_cons, hk]; exact List.mem_cons_self
    · exact List.mem_cons_of_mem _ (cnt0_pos h)
theorem tally_pos (Fs : List T3) : ∀ i e, e ∈ tally Fs i → 0 < e.2 := by
  have hinc : ∀ (k : EK) (E : List (EK × Int)), (∀ e, e ∈ E → 0 < e.2) → ∀ e, e ∈ inc k E → 0 < e.2 := by
    intro k E
    induction E with
    | nil => intro _ e he; simp [inc] at he; subst he; show (0 : Int) < 1; omega
    | cons x E ih =>
      intro h e he
      unfold inc at he
      split at he
      · rcases List.mem_cons.1 he with rfl | he
        · have := h x List.mem_cons_self; show 0 < x.2 + 1; omega
        · exact h e (List.mem_cons_of_mem _ he)
      · rcases List.mem_cons.1 he with rfl | he
        · exact h _ List.mem_cons_self
        · exact ih (fun y hy => h y (List.mem_cons_of_mem _ hy)) e he
  intro i
  induction i with
  | zero => intro e he; cases he
  | succ i ih =>
    cases ht : Fs[i]? with
    | none =>
      have e : tally Fs (i + 1) = tally Fs i := by show (match Fs[i]? with | some t => _ | none => _) = _; rw [ht]
      rw [e]; exact ih
    | some t =>
      rw [tally_s ht]
      exact hinc _ _ (hinc _ _ (hinc _ _ ih))
theorem cnt0_mem_pos {k : EK} : ∀ {E : List (EK × Int)}, (∀ e, e ∈ E → 0 < e.2) → k ∈ E.map (·.1) → 0 < cnt0 k E
  | [], _, h => by cases h
  | e :: E, hp, h => by
    unfold cnt0
    split
    · exact hp e List.mem_cons_self
    · rename_i hk
      rcases List.mem_cons.1 h with h2 | h2
      · exact (hk h2.symm).elim
      · exact cnt0_mem_pos (fun y hy => hp y (List.mem_cons_of_mem _ hy)) h2
theorem eKey_lt {a b : Int} (h : ¬ a = b) : (eKey a b).1 < (eKey a b).2 := by
  show Eng.minI a b < Eng.maxI a b
  unfold Eng.minI Eng.maxI; split <;> split <;> omega
theorem tally_src {Fs : List T3} : ∀ i x, x ∈ (tally Fs i).map (·.1) → ∃ t, t ∈ Fs ∧ (x = fKey t 0 ∨ x = fKey t 1 ∨ x = fKey t 2)
  | 0, x, h => by cases h
  | i + 1, x, h => by
    cases ht : Fs[i]? with
    | none =>
      have e : tally Fs (i + 1) = tally Fs i := by show (match Fs[i]? with | some t => _ | none => _) = _; rw [ht]
      rw [e] at h; exact tally_src i x h
    | some t =>
      rw [tally_s ht] at h
      have hm := List.mem_of_getElem? ht
      rcases inc_mem.1 (show x ∈ (inc (fKey t 2) (inc (fKey t 1) (inc (fKey t 0) (tally Fs i)))).map (·.1) from h) with h | h
      · exact ⟨t, hm, .inr (.inr h)⟩
      · rcases inc_mem.1 h with h | h
        · exact ⟨t, hm, .inr (.inl h)⟩
        · rcases inc_mem.1 h with h | h
          · exact ⟨t, hm, .inl h⟩
          · exact tally_src i x h
theorem tally_lt {n : Nat} {Fs : List T3} (h : ∀ t, t ∈ Fs → okF n t) {i : Nat} {x : EK} (hx : x ∈ (tally Fs i).map (·.1)) : x.1 < x.2 := by
  obtain ⟨t, ht, hk⟩ := tally_src i x hx
  have ho := h t ht
  unfold okF at ho
  rcases hk with rfl | rfl | rfl
  · exact eKey_lt (a := t.1) (b := t.2.1) ho.2.2.1
  · exact eKey_lt (a := t.2.1) (b := t.2.2) ho.2.2.2.2.2.1
  · exact eKey_lt (a := t.2.2) (b := t.1) ho.2.2.2.2.2.2.2.2
theorem rowE_mem {Fs : List T3} {a b : Nat} {x : EK} : x ∈ rowE Fs a b ↔ ∃ j : Nat, j < b ∧ a < j ∧ 0 < manyA Fs (a : Int) (j : Int) ∧ x = ((a : Int), (j : Int)) := by
  unfold rowE
  simp only [List.mem_map, List.mem_filter, List.mem_range, Bool.and_eq_true, decide_eq_true_eq]
  constructor
  · rintro ⟨j, ⟨h1, h2, h3⟩, rfl⟩; exact ⟨j, h1, h2, h3, rfl⟩
  · rintro ⟨j, h1, h2, h3, rfl⟩; exact ⟨j, ⟨h1, h2, h3⟩, rfl⟩
def ltE (a b : EK) : Prop := a.1 < b.1 ∨ (a.1 = b.1 ∧ a.2 < b.2)
theorem tL_getk {l : List T3} {i k : Nat} {t : T3} (h : l[i]? = some t) (hk3 : k < 3) : (tL l)[i * 3 + k]? = some (.int .i64 (fv t k)) := by
  match k, hk3 with
  | 0, _ => exact tL_get0 h
  | 1, _ => exact tL_get1 h
  | 2, _ => exact tL_get2 h
def curE (Fs : List T3) (N a b : Nat) : List EK := allE Fs N a ++ rowE Fs a b
theorem curE_0 (Fs : List T3) (N a : Nat) : curE Fs N a (a + 1) = allE Fs N a := by unfold curE; rw [rowE_0, List.append_nil]
theorem curE_N (Fs : List T3) (N a : Nat) : curE Fs N a N = allE Fs N (a + 1) := (allE_s Fs N a).symm
theorem curE_yes {Fs : List T3} {N a b : Nat} (h : a < b) (hm : 0 < manyA Fs (a : Int) (b : Int)) : curE Fs N a (b + 1) = curE Fs N a b ++ [((a : Int), (b : Int))] := by unfold curE; rw [rowE_yes h hm, List.append_assoc]
theorem curE_no {Fs : List T3} {N a b : Nat} (hm : ¬ 0 < manyA Fs (a : Int) (b : Int)) : curE Fs N a (b + 1) = curE Fs N a b := by unfold curE; rw [rowE_no hm]
theorem curE_len (Fs : List T3) (N a b : Nat) : (curE Fs N a b).length ≤ a * N + b := by
  have h1 := allE_len Fs N a
  have h2 := rowE_len Fs a b
  unfold curE; rw [List.length_append]; omega
theorem rowE_sorted (Fs : List T3) (a b : Nat) : (rowE Fs a b).Pairwise ltE := by
  unfold rowE
  rw [List.pairwise_map]
  refine (List.pairwise_lt_range.filter _).imp fun {x y} h => ?_
  exact .inr ⟨rfl, by show (x : Int) < (y : Int); omega⟩
theorem allE_sorted (Fs : List T3) (N a : Nat) : (allE Fs N a).Pairwise ltE := by
  unfold allE
  rw [List.pairwise_flatMap]
  refine ⟨fun x _ => rowE_sorted Fs x N, List.pairwise_lt_range.imp fun {x y} h p hp q hq => ?_⟩
  obtain ⟨_, _, _, _, rfl⟩ := rowE_mem.1 hp
  obtain ⟨_, _, _, _, rfl⟩ := rowE_mem.1 hq
  exact .inl (by show (x : Int) < (y : Int); omega)
theorem edges_eq {n : Nat} {Fs : List T3} (hc : chk n Fs = 0) : allE Fs n n = ksE (tally Fs Fs.length) ∧ cntL Fs (allE Fs n n) = csE (tally Fs Fs.length) := by
  have ok := chk_ok hc
  have hs := allE_sorted Fs n n
  have hmem : ∀ x : EK, x ∈ allE Fs n n ↔ x ∈ (tally Fs Fs.length).map (·.1) := fun x => by
    constructor
    · intro h
      unfold allE at h
      obtain ⟨a, ha, h2⟩ := List.mem_flatMap.1 h
      obtain ⟨j, h3, h4, h5, rfl⟩ := rowE_mem.1 h2
      refine cnt0_pos ?_
      rw [cnt0_tally ok (by omega)]; exact h5
    · intro h
      have h1 := tally_in hc _ x h
      have h2 := tally_lt ok h
      obtain ⟨xa, xb⟩ := x
      obtain ⟨e1, e2, e3, e4⟩ := h1
      obtain ⟨a, rfl⟩ := Int.eq_ofNat_of_zero_le e1
      obtain ⟨b, rfl⟩ := Int.eq_ofNat_of_zero_le e3
      dsimp only at e1 e2 e3 e4 h2
      unfold allE
      refine List.mem_flatMap.2 ⟨a, List.mem_range.2 (by omega), rowE_mem.2 ⟨b, by omega, by omega, ?_, rfl⟩⟩
      unfold manyA
      rw [← cnt0_tally ok (by omega)]
      exact cnt0_mem_pos (tally_pos Fs _) h
  have hnd : (allE Fs n n).Nodup := hs.imp fun {a b} h e => by
    subst e; rcases h with h | h
    · omega
    · omega
  have hp : (allE Fs n n).Perm ((tally Fs Fs.length).map (·.1)) := (List.perm_ext_iff_of_nodup hnd (tally_nd Fs _)).2 hmem
  have he : allE Fs n n = ksE (tally Fs Fs.length) := srtE_eq hp (hs.imp fun {a b} h => leE_iff.2 (by rcases h with h | h <;> omega))
  refine ⟨he, ?_⟩
  unfold csE
  rw [← he]
  unfold cntL
  refine List.map_congr_left fun x hx => ?_
  have h1 := (hmem x).1 hx
  rw [cntE_0 x _ h1]
  exact (cnt0_tally ok (tally_lt ok h1) _).symm
end Go.Proofs.Ytiogpaehelpmhaa

set_option linter.unusedSimpArgs false
set_option linter.unusedVariables false
set_option maxRecDepth 100000
set_option maxHeartbeats 4000000
namespace Go.Proofs.Ytiogpaehelpmhaa
open Go Go.Eng

theorem rmany_c (rp vp rf vf : Nat) (a b : Int) (P Fs : List T3) (m : AMem) (hp : rp < m.length) (hf : TRow m 54 rf vf Fs) (hF : Fs.length ≤ 4096) : Ctr Try.prog 53 [.agg [.sl rp vp 0 P.length, .sl rf vf 0 Fs.length], .one (.int .i64 a), .one (.int .i64 b)] m (.one (.int .i64 (manyA Fs a b))) m := by
  refine Ctr.enter Try.func53 rfl (by decide) (rs := [.tmp 6]) (nt := 49) rfl rfl fun hwf Q hQ => ?_
  obtain ⟨k0, ez, hb⟩ := hf.hb
  have hr0 := get_lt hb
  have hr : many Fs a b Fs.length = manyA Fs a b := rfl
  iterate 2
    refine AW.seq_k fun K hK => ?_
    refine AW.region (by decide) ?_
    simp only [push_cast, simprocAttr, hb, lk_old hb]
    refine Thn_n ?_
    refine hK _ _ ?_
    clear hK K
  refine AW.seq_k fun K hK => ?_
  refine AW.seq_k fun K hK => ?_
  refine AW.region (by decide) ?_
  simp only [push_cast, simprocAttr, hb, lk_old hb]
  refine Thn_n ?_
  refine hK _ _ ?_
  clear hK K
  refine AW.block ?_
  refine AW.loopK [1, 2, 3] (fun i => i ≤ Fs.length) (fun i => [(7, .one (.int .i64 (many Fs a b i))), (8, .one (.int .i64 (i : Int)))]) (fun i => []) (fun i => Fs.length - i) 0 (by omega) ?_ ?_ fun i hi5 => ?_
  · first | rfl | (simp only [Keeps, Tm.get_cons, Nat.reduceEqDiff, ↓reduceIte, if_true, if_false, ite_true, ite_false, true_and, and_true, and_self, reduceCtorEq, Int.natCast_zero, many] <;> rfl)
  · first | rfl | (simp only [setAll, push_cast, simprocAttr, hb, lk_old hb, Int.natCast_zero, many] <;> rfl)
  try simp only [keepL, setAll, push_cast, simprocAttr, hb, lk_old hb]
  refine AW.seq_k fun K hK => ?_
  refine AW.seq_k fun K hK => ?_
  refine AW.region (by decide) ?_
  simp only [push_cast, simprocAttr, hb, lk_old hb]
  refine Thn_n ?_
  refine hK _ _ ?_
  clear hK K
  refine AW.cond rfl (fun h15 => ?_) (fun h15 => ?_)
  · have hlt : i < Fs.length := by have := of_decide_eq_true h15; omega
    have c1 : (0 : Int) ≤ (i : Int) := by omega
    have c2 : (i : Int) < (Fs.length : Nat) := by omega
    have c3 : i * 3 + 3 ≤ Fs.length * 3 := by omega
    obtain ⟨t, ht⟩ : ∃ t, Fs[i]? = some t := ⟨_, List.getElem?_eq_getElem hlt⟩
    have g0 := tL_get0 ht
    have g1 := tL_get1 ht
    have g2 := tL_get2 ht
    have g3 := tL_at ht
    have gl := tL_len Fs
    have hmb := many_b Fs a b i
    refine AW.skip ?_
    refine Thn_n ?_
    refine hK _ _ ?_
    clear hK K
    refine AW.seq_k fun K hK => ?_
    refine AW.block ?_
    refine AW.seq_k fun K hK => ?_
    refine AW.region (by decide) ?_
    simp only [push_cast, simprocAttr, hb, lk_old hb, c1, c2, c3, g0, g1, g2, g3, gl]
    refine Thn_n ?_
    refine hK _ _ ?_
    clear hK K
    refine AW.seq_k fun K hK => ?_
    refine AW.seq_k fun K hK => ?_
    refine AW.region (by decide) ?_
    simp only [push_cast, simprocAttr, hb, lk_old hb, c1, c2, c3, g0, g1, g2, g3, gl]
    refine Thn_n ?_
    refine hK _ _ ?_
    clear hK K
    refine AW.block ?_
    refine AW.loopK [1, 2, 3, 7, 8] (fun k => k ≤ (3 : Nat)) (fun k => [(9, .one (.int .i64 (hitK t a b k))), (10, .one (.int .i64 (k : Int)))]) (fun k => []) (fun k => 3 - k) 0 (by omega) ?_ ?_ fun k hi12 => ?_
    · first | rfl | (simp only [Keeps, Tm.get_cons, Nat.reduceEqDiff, ↓reduceIte, if_true, if_false, ite_true, ite_false, true_and, and_true, and_self, reduceCtorEq, Int.natCast_zero, hitK] <;> rfl)
    · first | rfl | (simp only [setAll, push_cast, simprocAttr, hb, lk_old hb, c1, c2, c3, g0, g1, g2, g3, gl, Int.natCast_zero, hitK] <;> rfl)
    have hkx : k ≤ 3 := hi12
    try simp only [keepL, setAll, push_cast, simprocAttr, hb, lk_old hb, c1, c2, c3, g0, g1, g2, g3, gl]
    refine AW.seq_k fun K hK => ?_
    refine AW.seq_k fun K hK => ?_
    refine AW.region (by decide) ?_
    simp only [push_cast, simprocAttr, hb, lk_old hb, c1, c2, c3, g0, g1, g2, g3, gl]
    refine Thn_n ?_
    refine hK _ _ ?_
    clear hK K
    refine AW.cond rfl (fun h19 => ?_) (fun h19 => ?_)
    · have hk3 : k < 3 := by have := of_decide_eq_true h19; omega
      have d1 : (0 : Int) ≤ (k : Int) := by omega
      have d2 : (k : Int) < 3 := by omega
      have hv := tL_getk ht hk3
      have hhb := hitK_b t a b k
      refine AW.skip ?_
      refine Thn_n ?_
      refine hK _ _ ?_
      clear hK K
      refine AW.seq_k fun K hK => ?_
      refine AW.block ?_
      refine AW.seq_k fun K hK => ?_
      obtain ⟨x, hx⟩ : ∃ x, x = fv t k := ⟨_, rfl⟩
      rw [← hx] at hv
      rcases (by omega : x = a ∨ (¬ x = a ∧ x = b) ∨ (¬ x = a ∧ ¬ x = b)) with q1 | ⟨q1, q2⟩ | ⟨q1, q2⟩
      · have y1 : (x == a) = true := by rw [beq_iff_eq]; exact q1
        have hks : IntKind.i64.wrap (hitK t a b k + 1) = hitK t a b (k + 1) := by
          show _ = hitK t a b k + (if fv t k = a ∨ fv t k = b then 1 else 0)
          rw [← hx, if_pos (.inl q1)]; exact wi (by omega)
        refine AW.region (by decide) ?_
        simp only [push_cast, simprocAttr, hb, lk_old hb, c1, c2, c3, g0, g1, g2, g3, gl, d1, d2, hv, y1]
        refine Thn_n ?_
        refine hK _ _ ?_
        clear hK K
        refine AW.cond_t rfl ?_
        refine AW.region (by decide) ?_
        simp only [push_cast, simprocAttr, hb, lk_old hb, c1, c2, c3, g0, g1, g2, g3, gl, d1, d2, hv, y1]
        refine InB_n ?_
        refine Thn_n ?_
        refine hK _ _ ?_
        clear hK K
        refine AW.region (by decide) ?_
        simp only [push_cast, simprocAttr, hb, lk_old hb, c1, c2, c3, g0, g1, g2, g3, gl, d1, d2, hv, y1]
        refine Thn_n ?_
        have hwk : IntKind.i64.wrap ((k:Int)+1) = (k:Int)+1 := wi (by omega)
        refine ⟨k + 1, hk3, by omega, ?_⟩
        try simp only [keepL, setAll, push_cast, simprocAttr, hb, lk_old hb, c1, c2, c3, g0, g1, g2, g3, gl, d1, d2, hv, y1, hwk, hks]
        exact Weak.same (by simp only [Keeps, Tm.get_cons, Nat.reduceEqDiff, ↓reduceIte, if_true, if_false, ite_true, ite_false, true_and, and_true, and_self, reduceCtorEq, hwk, hks]) (by first | rfl | simp only [Keeps, Tm.get_cons, Nat.reduceEqDiff, ↓reduceIte, if_true, if_false, ite_true, ite_false, true_and, and_true, and_self, reduceCtorEq, hwk, hks])
      · have y1 : (x == a) = false := by rw [beq_eq_false_iff_ne]; exact q1
        have y2 : (x == b) = true := by rw [beq_iff_eq]; exact q2
        have hks : IntKind.i64.wrap (hitK t a b k + 1) = hitK t a b (k + 1) := by
          show _ = hitK t a b k + (if fv t k = a ∨ fv t k = b then 1 else 0)
          rw [← hx, if_pos (.inr q2)]; exact wi (by omega)
        refine AW.region (by decide) ?_
        simp only [push_cast, simprocAttr, hb, lk_old hb, c1, c2, c3, g0, g1, g2, g3, gl, d1, d2, hv, y1, y2]
        refine Thn_n ?_
        refine hK _ _ ?_
        clear hK K
        refine AW.cond_t rfl ?_
        refine AW.region (by decide) ?_
        simp only [push_cast, simprocAttr, hb, lk_old hb, c1, c2, c3, g0, g1, g2, g3, gl, d1, d2, hv, y1, y2]
        refine InB_n ?_
        refine Thn_n ?_
        refine hK _ _ ?_
        clear hK K
        refine AW.region (by decide) ?_
        simp only [push_cast, simprocAttr, hb, lk_old hb, c1, c2, c3, g0, g1, g2, g3, gl, d1, d2, hv, y1, y2]
        refine Thn_n ?_
        have hwk : IntKind.i64.wrap ((k:Int)+1) = (k:Int)+1 := wi (by omega)
        refine ⟨k + 1, hk3, by omega, ?_⟩
        try simp only [keepL, setAll, push_cast, simprocAttr, hb, lk_old hb, c1, c2, c3, g0, g1, g2, g3, gl, d1, d2, hv, y1, y2, hwk, hks]
        exact Weak.same (by simp only [Keeps, Tm.get_cons, Nat.reduceEqDiff, ↓reduceIte, if_true, if_false, ite_true, ite_false, true_and, and_true, and_self, reduceCtorEq, hwk, hks]) (by first | rfl | simp only [Keeps, Tm.get_cons, Nat.reduceEqDiff, ↓reduceIte, if_true, if_false, ite_true, ite_false, true_and, and_true, and_self, reduceCtorEq, hwk, hks])
      · have y1 : (x == a) = false := by rw [beq_eq_false_iff_ne]; exact q1
        have y2 : (x == b) = false := by rw [beq_eq_false_iff_ne]; exact q2
        have hks : hitK t a b (k + 1) = hitK t a b k := by
          show hitK t a b k + (if fv t k = a ∨ fv t k = b then 1 else 0) = _
          rw [← hx, if_neg (fun h => h.elim q1 q2), Int.add_zero]
        refine AW.region (by decide) ?_
        simp only [push_cast, simprocAttr, hb, lk_old hb, c1, c2, c3, g0, g1, g2, g3, gl, d1, d2, hv, y1, y2]
        refine Thn_n ?_
        refine hK _ _ ?_
        clear hK K
        refine AW.cond_f rfl ?_
        refine AW.skip ?_
        refine InB_n ?_
        refine Thn_n ?_
        refine hK _ _ ?_
        clear hK K
        refine AW.region (by decide) ?_
        simp only [push_cast, simprocAttr, hb, lk_old hb, c1, c2, c3, g0, g1, g2, g3, gl, d1, d2, hv, y1, y2]
        refine Thn_n ?_
        have hwk : IntKind.i64.wrap ((k:Int)+1) = (k:Int)+1 := wi (by omega)
        refine ⟨k + 1, hk3, by omega, ?_⟩
        try simp only [keepL, setAll, push_cast, simprocAttr, hb, lk_old hb, c1, c2, c3, g0, g1, g2, g3, gl, d1, d2, hv, y1, y2, hwk, hks]
        exact Weak.same (by simp only [Keeps, Tm.get_cons, Nat.reduceEqDiff, ↓reduceIte, if_true, if_false, ite_true, ite_false, true_and, and_true, and_self, reduceCtorEq, hwk, hks]) (by first | rfl | simp only [Keeps, Tm.get_cons, Nat.reduceEqDiff, ↓reduceIte, if_true, if_false, ite_true, ite_false, true_and, and_true, and_self, reduceCtorEq, hwk, hks])
    · have hk3 : k = 3 := by have := of_decide_eq_false h19; omega
      subst hk3
      refine AW.exit ?_
      refine Thn_e ?_
      clear hK K
      refine Thn_e ?_
      refine InB_here ?_
      refine Thn_n ?_
      refine hK _ _ ?_
      clear hK K
      refine AW.seq_k fun K hK => ?_
      refine AW.region (by decide) ?_
      simp only [push_cast, simprocAttr, hb, lk_old hb, c1, c2, c3, g0, g1, g2, g3, gl]
      refine Thn_n ?_
      refine hK _ _ ?_
      clear hK K
      refine AW.condJ rfl [1, 2, 3, 8] [(7, .one (.int .i64 (many Fs a b (i + 1))))] [] (fun h45 => ?_) (fun h45 => ?_) ?_
      · have h2 : hitK t a b 3 = 2 := by simpa using h45
        have hms : IntKind.i64.wrap (many Fs a b i + 1) = many Fs a b (i + 1) := by rw [many_s ht, if_pos h2]; exact wi (by omega)
        refine AW.region (by decide) ?_
        simp only [push_cast, simprocAttr, hb, lk_old hb, c1, c2, c3, g0, g1, g2, g3, gl]
        refine Thn_n ?_
        try simp only [keepL, setAll, push_cast, simprocAttr, hb, lk_old hb, c1, c2, c3, g0, g1, g2, g3, gl, hms]
        exact Weak.same (by simp only [Keeps, Tm.get_cons, Nat.reduceEqDiff, ↓reduceIte, if_true, if_false, ite_true, ite_false, true_and, and_true, and_self, reduceCtorEq, hms]) (by first | rfl | simp only [Keeps, Tm.get_cons, Nat.reduceEqDiff, ↓reduceIte, if_true, if_false, ite_true, ite_false, true_and, and_true, and_self, reduceCtorEq, hms])
      · have h2 : ¬ hitK t a b 3 = 2 := by simpa using h45
        have hms : many Fs a b (i + 1) = many Fs a b i := by rw [many_s ht, if_neg h2, Int.add_zero]
        refine AW.skip ?_
        refine Thn_n ?_
        try simp only [keepL, setAll, push_cast, simprocAttr, hb, lk_old hb, c1, c2, c3, g0, g1, g2, g3, gl, hms]
        exact Weak.same (by simp only [Keeps, Tm.get_cons, Nat.reduceEqDiff, ↓reduceIte, if_true, if_false, ite_true, ite_false, true_and, and_true, and_self, reduceCtorEq, hms]) (by first | rfl | simp only [Keeps, Tm.get_cons, Nat.reduceEqDiff, ↓reduceIte, if_true, if_false, ite_true, ite_false, true_and, and_true, and_self, reduceCtorEq, hms])
      try simp only [keepL, setAll, push_cast, simprocAttr, hb, lk_old hb, c1, c2, c3, g0, g1, g2, g3, gl]
      refine InB_n ?_
      refine Thn_n ?_
      refine hK _ _ ?_
      clear hK K
      refine AW.region (by decide) ?_
      simp only [push_cast, simprocAttr, hb, lk_old hb, c1, c2, c3, g0, g1, g2, g3, gl]
      refine Thn_n ?_
      have hwi : IntKind.i64.wrap ((i:Int)+1) = (i:Int)+1 := wi (by omega)
      refine ⟨i + 1, by omega, by omega, ?_⟩
      try simp only [keepL, setAll, push_cast, simprocAttr, hb, lk_old hb, c1, c2, c3, g0, g1, g2, g3, gl, hwi]
      exact Weak.same (by simp only [Keeps, Tm.get_cons, Nat.reduceEqDiff, ↓reduceIte, if_true, if_false, ite_true, ite_false, true_and, and_true, and_self, reduceCtorEq, hwi]) (by first | rfl | simp only [Keeps, Tm.get_cons, Nat.reduceEqDiff, ↓reduceIte, if_true, if_false, ite_true, ite_false, true_and, and_true, and_self, reduceCtorEq, hwi])
  · have hin : i = Fs.length := by have := of_decide_eq_false h15; omega
    subst hin
    refine AW.exit ?_
    refine Thn_e ?_
    clear hK K
    refine Thn_e ?_
    refine InB_here ?_
    refine Thn_n ?_
    refine hK _ _ ?_
    clear hK K
    refine AW.seq_k fun K hK => ?_
    refine AW.region (by decide) ?_
    simp only [push_cast, simprocAttr, hb, lk_old hb]
    refine Thn_n ?_
    refine hK _ _ ?_
    clear hK K
    refine AW.ret ?_
    refine hQ _ _ _ ?_
    first | refine RetP.drop0 (Or.inr rfl) ?_ ?_ hwf | refine RetP.drop (Or.inr rfl) ?_ ?_ hwf
    · simp only [resA, resOne, resTv, AV.tv, push_cast, simprocAttr, hb, lk_old hb, hr]
    · rfl
theorem redges_c (rp vp rf vf : Nat) (P Fs : List T3) (m : AMem) (hp : rp < m.length) (hf : TRow m 54 rf vf Fs) (hF : Fs.length ≤ 4096) (hP : P.length ≤ 1024) : Ctr Try.prog 29 [.agg [.sl rp vp 0 P.length, .sl rf vf 0 Fs.length]] m (.tup [(false, [.sl m.length 0 0 (allE Fs P.length P.length).length]), (false, [.sl (m.length + 1) 0 0 (allE Fs P.length P.length).length])]) (m ++ [⟨.grow, 75, 0, 2, pL (allE Fs P.length P.length)⟩, ⟨.grow, 3, 0, 1, (cntL Fs (allE Fs P.length P.length)).map (CV.int .i64)⟩]) := by
  refine Ctr.enter Try.func29 rfl (by decide) (rs := [.tmp 2, .tmp 3]) (nt := 43) rfl rfl fun hwf Q hQ => ?_
  obtain ⟨k0, ez, hb⟩ := hf.hb
  have hr0 := get_lt hb
  have hlt0 : ∀ k, ¬ m.length + k < m.length := fun k => by omega
  have ha0 : allE Fs P.length 0 = [] := rfl
  have hc0 : cntL Fs [] = [] := rfl
  iterate 3
    refine AW.seq_k fun K hK => ?_
    refine AW.region (by decide) ?_
    simp only [push_cast, simprocAttr, hb, lk_old hb]
    refine Thn_n ?_
    refine hK _ _ ?_
    clear hK K
  refine AW.seq_k fun K hK => ?_
  refine AW.seq_k fun K hK => ?_
  refine AW.region (by decide) ?_
  simp only [push_cast, simprocAttr, hb, lk_old hb]
  refine Thn_n ?_
  refine hK _ _ ?_
  clear hK K
  refine AW.block ?_
  refine AW.nilTm 75 2 4 rfl ?_
  try simp only [push_cast, simprocAttr, hb, lk_old hb]
  refine AW.nilTm 3 1 5 rfl ?_
  try simp only [push_cast, simprocAttr, hb, lk_old hb]
  refine AW.loopK [1] (fun a => a ≤ P.length) (fun a => [(4, .one (.sl (m.length + 1) (allE Fs P.length a).length 0 (allE Fs P.length a).length)), (5, .one (.sl (m.length + 2) (allE Fs P.length a).length 0 (allE Fs P.length a).length)), (6, .one (.int .i64 (a : Int)))]) (fun a => [(m.length + 1, ⟨.grow, 75, (allE Fs P.length a).length, 2, pL (allE Fs P.length a)⟩), (m.length + 2, ⟨.grow, 3, (allE Fs P.length a).length, 1, (cntL Fs (allE Fs P.length a)).map (CV.int .i64)⟩)]) (fun a => P.length - a) 0 (by omega) ?_ ?_ fun a hi6 => ?_
  · first | rfl | (simp only [Keeps, Tm.get_cons, Nat.reduceEqDiff, ↓reduceIte, if_true, if_false, ite_true, ite_false, true_and, and_true, and_self, reduceCtorEq, Int.natCast_zero, ha0, hc0, List.length_nil, List.map_nil, pL, List.flatMap_nil] <;> rfl)
  · first | rfl | (simp only [setAll, push_cast, simprocAttr, hb, lk_old hb, Int.natCast_zero, ha0, hc0, List.length_nil, List.map_nil, pL, List.flatMap_nil] <;> rfl)
  try simp only [keepL, setAll, push_cast, simprocAttr, hb, lk_old hb]
  refine AW.seq_k fun K hK => ?_
  refine AW.seq_k fun K hK => ?_
  refine AW.region (by decide) ?_
  simp only [push_cast, simprocAttr, hb, lk_old hb]
  refine Thn_n ?_
  refine hK _ _ ?_
  clear hK K
  refine AW.cond rfl (fun h13 => ?_) (fun h13 => ?_)
  · have hlt : a < P.length := by have := of_decide_eq_true h13; omega
    have hwa : IntKind.i64.wrap ((a : Int) + 1) = (a : Int) + 1 := wi (by omega)
    refine AW.skip ?_
    refine Thn_n ?_
    refine hK _ _ ?_
    clear hK K
    refine AW.seq_k fun K hK => ?_
    refine AW.block ?_
    refine AW.seq_k fun K hK => ?_
    refine AW.region (by decide) ?_
    simp only [push_cast, simprocAttr, hb, lk_old hb, hwa]
    refine Thn_n ?_
    refine hK _ _ ?_
    clear hK K
    refine AW.block ?_
    refine AW.loopK [1, 6] (fun b => a < b ∧ b ≤ P.length) (fun b => [(4, .one (.sl (m.length + 1) (curE Fs P.length a b).length 0 (curE Fs P.length a b).length)), (5, .one (.sl (m.length + 2) (curE Fs P.length a b).length 0 (curE Fs P.length a b).length)), (7, .one (.int .i64 (b : Int)))]) (fun b => [(m.length + 1, ⟨.grow, 75, (curE Fs P.length a b).length, 2, pL (curE Fs P.length a b)⟩), (m.length + 2, ⟨.grow, 3, (curE Fs P.length a b).length, 1, (cntL Fs (curE Fs P.length a b)).map (CV.int .i64)⟩)]) (fun b => P.length - b) (a + 1) ⟨by omega, by omega⟩ ?_ ?_ fun b hi11 => ?_
    · first | rfl | (simp only [Keeps, Tm.get_cons, Nat.reduceEqDiff, ↓reduceIte, if_true, if_false, ite_true, ite_false, true_and, and_true, and_self, reduceCtorEq, Int.natCast_add, Int.natCast_one, curE_0] <;> rfl)
    · first | rfl | (simp only [setAll, push_cast, simprocAttr, hb, lk_old hb, hwa, Int.natCast_add, Int.natCast_one, curE_0] <;> rfl)
    obtain ⟨hab, hbn⟩ := hi11
    try simp only [keepL, setAll, push_cast, simprocAttr, hb, lk_old hb, hwa]
    refine AW.seq_k fun K hK => ?_
    refine AW.seq_k fun K hK => ?_
    refine AW.region (by decide) ?_
    simp only [push_cast, simprocAttr, hb, lk_old hb, hwa]
    refine Thn_n ?_
    refine hK _ _ ?_
    clear hK K
    refine AW.cond rfl (fun h22 => ?_) (fun h22 => ?_)
    · have hbl : b < P.length := by have := of_decide_eq_true h22; omega
      have hcl := curE_len Fs P.length a b
      have hpn : a * P.length ≤ 1024 * 1024 := Nat.mul_le_mul (by omega) (by omega)
      have gl := pL_len (curE Fs P.length a b)
      have gt : ((cntL Fs (curE Fs P.length a b)).map (CV.int .i64)).length = (curE Fs P.length a b).length := by rw [List.length_map, cntL_len]
      have m1 : (curE Fs P.length a b).length ≤ 140737488355327 := by omega
      have m2 : ((curE Fs P.length a b).length + 1) * 16 ≤ 140737488355328 := by omega
      have m3 : ((curE Fs P.length a b).length + 1) * 8 ≤ 140737488355328 := by omega
      refine AW.skip ?_
      refine Thn_n ?_
      refine hK _ _ ?_
      clear hK K
      refine AW.seq_k fun K hK => ?_
      refine AW.block ?_
      refine AW.seq_k fun K hK => ?_
      refine AW.region (by decide) ?_
      simp only [push_cast, simprocAttr, hb, lk_old hb, hwa, gl, gt, m1, m2, m3]
      refine CThen.by (rmany_c rp vp rf vf (a : Int) (b : Int) P Fs _ (by simp; omega) (hf.mono _) hF) ?_
      simp only [push_cast, simprocAttr, hb, lk_old hb, hwa, gl, gt, m1, m2, m3]
      refine Thn_n ?_
      refine hK _ _ ?_
      clear hK K
      refine AW.seq_k fun K hK => ?_
      refine AW.region (by decide) ?_
      simp only [push_cast, simprocAttr, hb, lk_old hb, hwa, gl, gt, m1, m2, m3]
      refine Thn_n ?_
      refine hK _ _ ?_
      clear hK K
      refine AW.condJ rfl [1, 6, 7] [(4, .one (.sl (m.length + 1) (curE Fs P.length a (b + 1)).length 0 (curE Fs P.length a (b + 1)).length)), (5, .one (.sl (m.length + 2) (curE Fs P.length a (b + 1)).length 0 (curE Fs P.length a (b + 1)).length))] [(m.length + 1, ⟨.grow, 75, (curE Fs P.length a (b + 1)).length, 2, pL (curE Fs P.length a (b + 1))⟩), (m.length + 2, ⟨.grow, 3, (curE Fs P.length a (b + 1)).length, 1, (cntL Fs (curE Fs P.length a (b + 1))).map (CV.int .i64)⟩)] (fun h30 => ?_) (fun h30 => ?_) ?_
      · have hpos := of_decide_eq_true h30
        have hce := curE_yes (N := P.length) hab hpos
        have hc1 : pL (curE Fs P.length a b) ++ [.int .i64 (a : Int), .int .i64 (b : Int)] = pL (curE Fs P.length a (b + 1)) := by rw [hce]; exact pL_snoc _ _ _
        have hc2 : (cntL Fs (curE Fs P.length a b)).map (CV.int .i64) ++ [.int .i64 (manyA Fs (a : Int) (b : Int))] = (cntL Fs (curE Fs P.length a (b + 1))).map (CV.int .i64) := by rw [hce, cntL_app, List.map_append]; rfl
        have hc3 : (curE Fs P.length a (b + 1)).length = (curE Fs P.length a b).length + 1 := by rw [hce, List.length_append]; rfl
        refine AW.seq_k fun K hK => ?_
        refine AW.region (by decide) ?_
        simp only [push_cast, simprocAttr, hb, lk_old hb, hwa, gl, gt, m1, m2, m3]
        refine Thn_n ?_
        refine hK _ _ ?_
        clear hK K
        refine AW.region (by decide) ?_
        simp only [push_cast, simprocAttr, hb, lk_old hb, hwa, gl, gt, m1, m2, m3]
        refine Thn_n ?_
        try simp only [keepL, setAll, push_cast, simprocAttr, hb, lk_old hb, hwa, gl, gt, m1, m2, m3, hc1, hc2, hc3]
        exact Weak.to (extra := [_, _]) (by simp only [Keeps, Tm.get_cons, Nat.reduceEqDiff, ↓reduceIte, if_true, if_false, ite_true, ite_false, true_and, and_true, and_self, reduceCtorEq, hc1, hc2, hc3]) (by first | rfl | (simp only [List.append_assoc, List.cons_append, List.nil_append]; rfl)) (by first | rfl | (simp [AV.below, CV.below]; done) | (simp [AV.below, CV.below]; omega)) (by
          refine MWf.app (hwf.grow (by simp)) (MWf_cons ?_ (MWf_cons (pL_below _ _) (MWf_cons (ic_below _ _) MWf_nil)))
          first | (simp [CV.below]; done) | (simp [CV.below]; omega))
      · have hneg := of_decide_eq_false h30
        have hc1 := curE_no (N := P.length) hneg
        have hc2 := hc1
        have hc3 := hc1
        refine AW.skip ?_
        refine Thn_n ?_
        try simp only [keepL, setAll, push_cast, simprocAttr, hb, lk_old hb, hwa, gl, gt, m1, m2, m3, hc1, hc2, hc3]
        exact Weak.same (by simp only [Keeps, Tm.get_cons, Nat.reduceEqDiff, ↓reduceIte, if_true, if_false, ite_true, ite_false, true_and, and_true, and_self, reduceCtorEq, hc1, hc2, hc3]) (by first | rfl | simp only [Keeps, Tm.get_cons, Nat.reduceEqDiff, ↓reduceIte, if_true, if_false, ite_true, ite_false, true_and, and_true, and_self, reduceCtorEq, hc1, hc2, hc3])
      try simp only [keepL, setAll, push_cast, simprocAttr, hb, lk_old hb, hwa, gl, gt, m1, m2, m3]
      refine InB_n ?_
      refine Thn_n ?_
      refine hK _ _ ?_
      clear hK K
      refine AW.region (by decide) ?_
      simp only [push_cast, simprocAttr, hb, lk_old hb, hwa, gl, gt, m1, m2, m3]
      refine Thn_n ?_
      have hwb : IntKind.i64.wrap ((b:Int)+1) = (b:Int)+1 := wi (by omega)
      refine ⟨b + 1, ⟨by omega, by omega⟩, by omega, ?_⟩
      try simp only [keepL, setAll, push_cast, simprocAttr, hb, lk_old hb, hwa, gl, gt, m1, m2, m3, hwb]
      exact Weak.same (by simp only [Keeps, Tm.get_cons, Nat.reduceEqDiff, ↓reduceIte, if_true, if_false, ite_true, ite_false, true_and, and_true, and_self, reduceCtorEq, hwb]) (by first | rfl | simp only [Keeps, Tm.get_cons, Nat.reduceEqDiff, ↓reduceIte, if_true, if_false, ite_true, ite_false, true_and, and_true, and_self, reduceCtorEq, hwb])
    · have hin : b = P.length := by have := of_decide_eq_false h22; omega
      subst hin
      refine AW.exit ?_
      refine Thn_e ?_
      clear hK K
      refine Thn_e ?_
      refine InB_here ?_
      refine InB_n ?_
      refine Thn_n ?_
      refine hK _ _ ?_
      clear hK K
      refine AW.region (by decide) ?_
      simp only [push_cast, simprocAttr, hb, lk_old hb, hwa]
      refine Thn_n ?_
      refine ⟨a + 1, by omega, by omega, ?_⟩
      try simp only [keepL, setAll, push_cast, simprocAttr, hb, lk_old hb, hwa, hwa, curE_N]
      exact Weak.same (by simp only [Keeps, Tm.get_cons, Nat.reduceEqDiff, ↓reduceIte, if_true, if_false, ite_true, ite_false, true_and, and_true, and_self, reduceCtorEq, hwa, curE_N]) (by first | rfl | simp only [Keeps, Tm.get_cons, Nat.reduceEqDiff, ↓reduceIte, if_true, if_false, ite_true, ite_false, true_and, and_true, and_self, reduceCtorEq, hwa, curE_N])
  · have hin : a = P.length := by have := of_decide_eq_false h13; omega
    subst hin
    refine AW.exit ?_
    refine Thn_e ?_
    clear hK K
    refine Thn_e ?_
    refine InB_here ?_
    refine Thn_n ?_
    refine hK _ _ ?_
    clear hK K
    refine AW.seq_k fun K hK => ?_
    refine AW.region (by decide) ?_
    simp only [push_cast, simprocAttr, hb, lk_old hb]
    refine Thn_n ?_
    refine hK _ _ ?_
    clear hK K
    refine AW.ret ?_
    refine hQ _ _ _ ?_
    refine RetP.pick [(m.length + 1, (allE Fs P.length P.length).length), (m.length + 2, (allE Fs P.length P.length).length)] (Or.inr rfl) ?_ ?_ ?_ hwf ?_
    · simp only [resA, resOne, resTv, AV.tv, push_cast, simprocAttr]
      simp [renV, renT, renL, renC, renIdx, hlt0]
    · simp only [picks, push_cast, simprocAttr]
    · simp [distinctFrom]
    · exact MWf_cons (pL_below _ _) (MWf_one (ic_below _ _))
end Go.Proofs.Ytiogpaehelpmhaa

set_option linter.unusedSimpArgs false
set_option linter.unusedVariables false
set_option maxRecDepth 100000
set_option maxHeartbeats 4000000
namespace Go.Proofs.Ytiogpaehelpmhaa
open Go Go.Eng

theorem from33_c (rp vp rf vf : Nat) (P Fs : List T3) (m : AMem) (hp : rf < m.length) (hpt : TRow m 49 rp vp P) (hP : P.length ≤ 4096) : Ctr Try.prog 18 [.agg [.sl rp vp 0 P.length, .sl rf vf 0 Fs.length]] m (.agg [.sl m.length 0 0 P.length, .sl rf vf 0 Fs.length]) (m ++ [⟨.grow, 24, 0, 3, tL P⟩]) := by
  refine Ctr.enter Try.func18 rfl (by decide) (rs := [.cell 2 34]) (nt := 25) rfl rfl fun hwf Q hQ => ?_
  obtain ⟨k0, ez0, hb⟩ := hpt.hb
  have hr0 := get_lt hb
  have hlt0 : ∀ k, ¬ m.length + k < m.length := fun k => by omega
  have hta : P.take P.length = P := List.take_of_length_le (Nat.le_refl _)
  iterate 2
    refine AW.seq_k fun K hK => ?_
    refine AW.region (by decide) ?_
    simp only [push_cast, simprocAttr, hb, lk_old hb]
    refine Thn_n ?_
    refine hK _ _ ?_
    clear hK K
  refine AW.seq_k fun K hK => ?_
  refine AW.seq_k fun K hK => ?_
  refine AW.region (by decide) ?_
  simp only [push_cast, simprocAttr, hb, lk_old hb]
  refine Thn_n ?_
  refine hK _ _ ?_
  clear hK K
  refine AW.block ?_
  refine AW.nilCell 24 3 (m.length + 2) 0 (by simp only [push_cast, simprocAttr, hb, lk_old hb]; first | done | rfl) (by intro e; cases e) rfl ?_
  try simp only [push_cast, simprocAttr, hb, lk_old hb]
  refine AW.loopK [2, 3, 10, 11] (fun i => i ≤ P.length) (fun i => [(12, .one (.int .i64 (i : Int)))]) (fun i => [(m.length + 2, ⟨.fix, 34, 0, 0, [.sl (m.length + 3) i 0 i, .sl rf vf 0 Fs.length]⟩), (m.length + 3, ⟨.grow, 24, i, 3, tL (P.take i)⟩)]) (fun i => P.length - i) 0 (by omega) ?_ ?_ fun i hi5 => ?_
  · first | rfl | (simp only [Keeps, Tm.get_cons, Nat.reduceEqDiff, ↓reduceIte, if_true, if_false, ite_true, ite_false, true_and, and_true, and_self, reduceCtorEq, Int.natCast_zero, List.take_zero, tL, List.flatMap_nil] <;> rfl)
  · first | rfl | (simp only [setAll, push_cast, simprocAttr, hb, lk_old hb, Int.natCast_zero, List.take_zero, tL, List.flatMap_nil] <;> rfl)
  try simp only [keepL, setAll, push_cast, simprocAttr, hb, lk_old hb]
  refine AW.seq_k fun K hK => ?_
  refine AW.region (by decide) ?_
  simp only [push_cast, simprocAttr, hb, lk_old hb]
  refine Thn_n ?_
  refine hK _ _ ?_
  clear hK K
  refine AW.seq_k fun K hK => ?_
  refine AW.cond rfl (fun h13 => ?_) (fun h13 => ?_)
  · have hlt : i < P.length := by have := of_decide_eq_true h13; omega
    have c1 : (0 : Int) ≤ (i : Int) := by omega
    have c2 : (i : Int) < (P.length : Nat) := by omega
    have c3 : i * 3 + 3 ≤ P.length * 3 := by omega
    have m1 : i ≤ 140737488355327 := by omega
    have m2 : (i + 1) * 24 ≤ 140737488355328 := by omega
    obtain ⟨t, ht⟩ : ∃ t, P[i]? = some t := ⟨_, List.getElem?_eq_getElem hlt⟩
    have g0 := tL_get0 ht
    have g1 := tL_get1 ht
    have g2 := tL_get2 ht
    have g3 := tL_at ht
    have gl := tL_len P
    have hst : tL (P.take i) ++ [.int .i64 t.1, .int .i64 t.2.1, .int .i64 t.2.2] = tL (P.take (i + 1)) := by rw [List.take_add_one, ht]; simp [tL, tC]
    have htk : (tL (P.take i)).length = i * 3 := by rw [tL_len, List.length_take]; congr 1; omega
    refine AW.skip ?_
    refine Thn_n ?_
    refine hK _ _ ?_
    clear hK K
    refine AW.seq_k fun K hK => ?_
    refine AW.block ?_
    refine AW.seq_k fun K hK => ?_
    refine AW.region (by decide) ?_
    simp only [push_cast, simprocAttr, hb, lk_old hb, c1, c2, c3, g0, g1, g2, g3, gl, htk, m1, m2]
    refine Thn_n ?_
    refine hK _ _ ?_
    clear hK K
    refine AW.draw [.val, .rd 0, .rd 0, .ext, .ext, .wr, .val, .wr] fol (by decide) (by kernel_rfl) ?_
    simp only [push_cast, simprocAttr, hb, lk_old hb, c1, c2, c3, g0, g1, g2, g3, gl, htk, m1, m2]
    refine DCall.by0 (v2from_c _ _ _ _) ?_
    simp only [push_cast, simprocAttr, hb, lk_old hb, c1, c2, c3, g0, g1, g2, g3, gl, htk, m1, m2]
    refine DExt.by (by first | rfl | (simp only [List.append_assoc, List.cons_append, List.nil_append]; rfl)) ?_
    simp only [push_cast, simprocAttr, hb, lk_old hb, c1, c2, c3, g0, g1, g2, g3, gl, htk, m1, m2]
    refine InB_n ?_
    refine Thn_n ?_
    refine hK _ _ ?_
    clear hK K
    refine AW.region (by decide) ?_
    simp only [push_cast, simprocAttr, hb, lk_old hb, c1, c2, c3, g0, g1, g2, g3, gl, htk, m1, m2]
    refine Thn_n ?_
    have hwi : IntKind.i64.wrap ((i:Int)+1) = (i:Int)+1 := wi (by omega)
    refine ⟨i + 1, by omega, by omega, ?_⟩
    try simp only [keepL, setAll, push_cast, simprocAttr, hb, lk_old hb, c1, c2, c3, g0, g1, g2, g3, gl, htk, m1, m2, hwi, hst]
    exact Weak.to (extra := [_, _]) (by simp only [Keeps, Tm.get_cons, Nat.reduceEqDiff, ↓reduceIte, if_true, if_false, ite_true, ite_false, true_and, and_true, and_self, reduceCtorEq, hwi, hst]) (by first | rfl | (simp only [List.append_assoc, List.cons_append, List.nil_append]; rfl)) (by first | rfl | (simp [AV.below, CV.below, tL_below]; done) | (simp [AV.below, CV.below, tL_below]; omega)) (by
      first | exact hwf | refine MWf.app (hwf.grow (by simp)) ?_
      repeat (first | exact MWf_nil | (refine MWf_cons ?_ ?_; · first | rfl | (simp [CV.below, tL_below]; done) | (simp [CV.below, tL_below]; omega))))
  · have hin : i = P.length := by have := of_decide_eq_false h13; omega
    subst hin
    refine AW.exit ?_
    refine Thn_e ?_
    clear hK K
    refine Thn_e ?_
    refine InB_here ?_
    refine Thn_n ?_
    refine hK _ _ ?_
    clear hK K
    refine AW.seq_k fun K hK => ?_
    refine AW.region (by decide) ?_
    simp only [push_cast, simprocAttr, hb, lk_old hb, hta]
    refine Thn_n ?_
    refine hK _ _ ?_
    clear hK K
    refine AW.ret ?_
    refine hQ _ _ _ ?_
    refine RetP.pick [(m.length + 3, P.length)] (Or.inr rfl) ?_ ?_ ?_ hwf ?_
    · simp only [resA, resOne, resTv, AV.tv, push_cast, simprocAttr]
      simp [renV, renT, renL, renC, renIdx, hlt0, hp]
    · simp only [picks, push_cast, simprocAttr]
    · simp [distinctFrom]
    · exact MWf_one (tL_below _ _)
theorem same33_c (ra va rb vb qa ua qb ub : Nat) (P Fs : List T3) (m : AMem) (h1 : TRow m 24 ra va P) (h2 : TRow m 24 rb vb P) (h3 : TRow m 54 qa ua Fs) (h4 : TRow m 54 qb ub Fs) (hP : P.length ≤ 4096) (hF : Fs.length ≤ 4096) : Ctr Try.prog 17 [.agg [.sl ra va 0 P.length, .sl qa ua 0 Fs.length], .agg [.sl rb vb 0 P.length, .sl qb ub 0 Fs.length]] m (.one (.bool true)) m := by
  refine Ctr.enter Try.func17 rfl (by decide) (rs := [.tmp 4]) (nt := 59) rfl rfl fun hwf Q hQ => ?_
  obtain ⟨k1, e1, b1⟩ := h1.hb
  have r1 := get_lt b1
  obtain ⟨k2, e2, b2⟩ := h2.hb
  have r2 := get_lt b2
  obtain ⟨k3, e3, b3⟩ := h3.hb
  have r3 := get_lt b3
  obtain ⟨k4, e4, b4⟩ := h4.hb
  have r4 := get_lt b4
  refine AW.seq_k fun K hK => ?_
  refine AW.region (by decide) ?_
  simp only [push_cast, simprocAttr, b1, lk_old b1, b2, lk_old b2, b3, lk_old b3, b4, lk_old b4, bne_self_eq_false, beq_self_eq_true]
  refine Thn_n ?_
  refine hK _ _ ?_
  clear hK K
  refine AW.seq_k fun K hK => ?_
  refine AW.seq_k fun K hK => ?_
  refine AW.region (by decide) ?_
  simp only [push_cast, simprocAttr, b1, lk_old b1, b2, lk_old b2, b3, lk_old b3, b4, lk_old b4, bne_self_eq_false, beq_self_eq_true]
  refine Thn_n ?_
  refine hK _ _ ?_
  clear hK K
  refine AW.cond_f rfl ?_
  refine AW.skip ?_
  refine Thn_n ?_
  refine hK _ _ ?_
  clear hK K
  refine AW.seq_k fun K hK => ?_
  refine AW.seq_k fun K hK => ?_
  refine AW.region (by decide) ?_
  simp only [push_cast, simprocAttr, b1, lk_old b1, b2, lk_old b2, b3, lk_old b3, b4, lk_old b4, bne_self_eq_false, beq_self_eq_true]
  refine Thn_n ?_
  refine hK _ _ ?_
  clear hK K
  refine AW.block ?_
  refine AW.loopK [2, 3] (fun i => i ≤ P.length) (fun i => [(5, .one (.int .i64 (i : Int)))]) (fun i => []) (fun i => P.length - i) 0 (by omega) ?_ ?_ fun i hi6 => ?_
  · first | rfl | (simp only [Keeps, Tm.get_cons, Nat.reduceEqDiff, ↓reduceIte, if_true, if_false, ite_true, ite_false, true_and, and_true, and_self, reduceCtorEq, Int.natCast_zero] <;> rfl)
  · first | rfl | (simp only [setAll, push_cast, simprocAttr, b1, lk_old b1, b2, lk_old b2, b3, lk_old b3, b4, lk_old b4, bne_self_eq_false, beq_self_eq_true, Int.natCast_zero] <;> rfl)
  try simp only [keepL, setAll, push_cast, simprocAttr, b1, lk_old b1, b2, lk_old b2, b3, lk_old b3, b4, lk_old b4, bne_self_eq_false, beq_self_eq_true]
  refine AW.seq_k fun K hK => ?_
  refine AW.seq_k fun K hK => ?_
  refine AW.region (by decide) ?_
  simp only [push_cast, simprocAttr, b1, lk_old b1, b2, lk_old b2, b3, lk_old b3, b4, lk_old b4, bne_self_eq_false, beq_self_eq_true]
  refine Thn_n ?_
  refine hK _ _ ?_
  clear hK K
  refine AW.cond rfl (fun h27 => ?_) (fun h27 => ?_)
  · have hlt : i < P.length := by have := of_decide_eq_true h27; omega
    have c1 : (0 : Int) ≤ (i : Int) := by omega
    have c2 : (i : Int) < (P.length : Nat) := by omega
    have c3 : i * 3 + 3 ≤ P.length * 3 := by omega
    obtain ⟨t, ht⟩ : ∃ t, P[i]? = some t := ⟨_, List.getElem?_eq_getElem hlt⟩
    have g0 := tL_get0 ht
    have g1 := tL_get1 ht
    have g2 := tL_get2 ht
    have g3 := tL_at ht
    have gl := tL_len P
    have hq : ∀ x : Int, (x == x) = true := fun x => beq_self_eq_true x
    refine AW.skip ?_
    refine Thn_n ?_
    refine hK _ _ ?_
    clear hK K
    refine AW.seq_k fun K hK => ?_
    refine AW.block ?_
    refine AW.seq_k fun K hK => ?_
    refine AW.draw [.val, .rd 0, .val, .val, .rd 0, .val, .rd 0, .val, .val, .rd 0, .val] fol (by decide) (by kernel_rfl) ?_
    simp only [push_cast, simprocAttr, b1, lk_old b1, b2, lk_old b2, b3, lk_old b3, b4, lk_old b4, bne_self_eq_false, beq_self_eq_true, c1, c2, c3, g0, g1, g2, g3, gl, hq]
    refine Thn_n ?_
    refine hK _ _ ?_
    clear hK K
    refine AW.cond_f rfl ?_
    refine AW.skip ?_
    refine InB_n ?_
    refine Thn_n ?_
    refine hK _ _ ?_
    clear hK K
    refine AW.region (by decide) ?_
    simp only [push_cast, simprocAttr, b1, lk_old b1, b2, lk_old b2, b3, lk_old b3, b4, lk_old b4, bne_self_eq_false, beq_self_eq_true, c1, c2, c3, g0, g1, g2, g3, gl, hq]
    refine Thn_n ?_
    have hwi : IntKind.i64.wrap ((i:Int)+1) = (i:Int)+1 := wi (by omega)
    refine ⟨i + 1, by omega, by omega, ?_⟩
    try simp only [keepL, setAll, push_cast, simprocAttr, b1, lk_old b1, b2, lk_old b2, b3, lk_old b3, b4, lk_old b4, bne_self_eq_false, beq_self_eq_true, c1, c2, c3, g0, g1, g2, g3, gl, hq, hwi]
    exact Weak.same (by simp only [Keeps, Tm.get_cons, Nat.reduceEqDiff, ↓reduceIte, if_true, if_false, ite_true, ite_false, true_and, and_true, and_self, reduceCtorEq, hwi]) (by first | rfl | simp only [Keeps, Tm.get_cons, Nat.reduceEqDiff, ↓reduceIte, if_true, if_false, ite_true, ite_false, true_and, and_true, and_self, reduceCtorEq, hwi])
  · have hin : i = P.length := by have := of_decide_eq_false h27; omega
    refine AW.exit ?_
    refine Thn_e ?_
    clear hK K
    refine Thn_e ?_
    refine InB_here ?_
    refine Thn_n ?_
    refine hK _ _ ?_
    clear hK K
    refine AW.seq_k fun K hK => ?_
    refine AW.seq_k fun K hK => ?_
    refine AW.region (by decide) ?_
    simp only [push_cast, simprocAttr, b1, lk_old b1, b2, lk_old b2, b3, lk_old b3, b4, lk_old b4, bne_self_eq_false, beq_self_eq_true]
    refine Thn_n ?_
    refine hK _ _ ?_
    clear hK K
    refine AW.block ?_
    refine AW.loopK [2, 3] (fun i => i ≤ Fs.length) (fun i => [(6, .one (.int .i64 (i : Int)))]) (fun i => []) (fun i => Fs.length - i) 0 (by omega) ?_ ?_ fun i hi13 => ?_
    · first | rfl | (simp only [Keeps, Tm.get_cons, Nat.reduceEqDiff, ↓reduceIte, if_true, if_false, ite_true, ite_false, true_and, and_true, and_self, reduceCtorEq, Int.natCast_zero] <;> rfl)
    · first | rfl | (simp only [setAll, push_cast, simprocAttr, b1, lk_old b1, b2, lk_old b2, b3, lk_old b3, b4, lk_old b4, bne_self_eq_false, beq_self_eq_true, Int.natCast_zero] <;> rfl)
    try simp only [keepL, setAll, push_cast, simprocAttr, b1, lk_old b1, b2, lk_old b2, b3, lk_old b3, b4, lk_old b4, bne_self_eq_false, beq_self_eq_true]
    refine AW.seq_k fun K hK => ?_
    refine AW.seq_k fun K hK => ?_
    refine AW.region (by decide) ?_
    simp only [push_cast, simprocAttr, b1, lk_old b1, b2, lk_old b2, b3, lk_old b3, b4, lk_old b4, bne_self_eq_false, beq_self_eq_true]
    refine Thn_n ?_
    refine hK _ _ ?_
    clear hK K
    refine AW.cond rfl (fun h45 => ?_) (fun h45 => ?_)
    · have hlt : i < Fs.length := by have := of_decide_eq_true h45; omega
      have c1 : (0 : Int) ≤ (i : Int) := by omega
      have c2 : (i : Int) < (Fs.length : Nat) := by omega
      have c3 : i * 3 + 3 ≤ Fs.length * 3 := by omega
      obtain ⟨t, ht⟩ : ∃ t, Fs[i]? = some t := ⟨_, List.getElem?_eq_getElem hlt⟩
      have g0 := tL_get0 ht
      have g1 := tL_get1 ht
      have g2 := tL_get2 ht
      have g3 := tL_at ht
      have gl := tL_len Fs
      have hq : ∀ x : Int, (x == x) = true := fun x => beq_self_eq_true x
      refine AW.skip ?_
      refine Thn_n ?_
      refine hK _ _ ?_
      clear hK K
      refine AW.seq_k fun K hK => ?_
      refine AW.block ?_
      refine AW.seq_k fun K hK => ?_
      refine AW.draw [.val, .rd 0, .val, .val, .rd 0, .val, .rd 0, .val, .val, .rd 0, .val] fol (by decide) (by kernel_rfl) ?_
      simp only [push_cast, simprocAttr, b1, lk_old b1, b2, lk_old b2, b3, lk_old b3, b4, lk_old b4, bne_self_eq_false, beq_self_eq_true, c1, c2, c3, g0, g1, g2, g3, gl, hq]
      refine Thn_n ?_
      refine hK _ _ ?_
      clear hK K
      refine AW.cond_f rfl ?_
      refine AW.skip ?_
      refine InB_n ?_
      refine Thn_n ?_
      refine hK _ _ ?_
      clear hK K
      refine AW.region (by decide) ?_
      simp only [push_cast, simprocAttr, b1, lk_old b1, b2, lk_old b2, b3, lk_old b3, b4, lk_old b4, bne_self_eq_false, beq_self_eq_true, c1, c2, c3, g0, g1, g2, g3, gl, hq]
      refine Thn_n ?_
      have hwi : IntKind.i64.wrap ((i:Int)+1) = (i:Int)+1 := wi (by omega)
      refine ⟨i + 1, by omega, by omega, ?_⟩
      try simp only [keepL, setAll, push_cast, simprocAttr, b1, lk_old b1, b2, lk_old b2, b3, lk_old b3, b4, lk_old b4, bne_self_eq_false, beq_self_eq_true, c1, c2, c3, g0, g1, g2, g3, gl, hq, hwi]
      exact Weak.same (by simp only [Keeps, Tm.get_cons, Nat.reduceEqDiff, ↓reduceIte, if_true, if_false, ite_true, ite_false, true_and, and_true, and_self, reduceCtorEq, hwi]) (by first | rfl | simp only [Keeps, Tm.get_cons, Nat.reduceEqDiff, ↓reduceIte, if_true, if_false, ite_true, ite_false, true_and, and_true, and_self, reduceCtorEq, hwi])
    · have hin : i = Fs.length := by have := of_decide_eq_false h45; omega
      refine AW.exit ?_
      refine Thn_e ?_
      clear hK K
      refine Thn_e ?_
      refine InB_here ?_
      refine Thn_n ?_
      refine hK _ _ ?_
      clear hK K
      refine AW.seq_k fun K hK => ?_
      refine AW.region (by decide) ?_
      simp only [push_cast, simprocAttr, b1, lk_old b1, b2, lk_old b2, b3, lk_old b3, b4, lk_old b4, bne_self_eq_false, beq_self_eq_true]
      refine Thn_n ?_
      refine hK _ _ ?_
      clear hK K
      refine AW.ret ?_
      refine hQ _ _ _ ?_
      first | refine RetP.drop0 (Or.inr rfl) ?_ ?_ hwf | refine RetP.drop (Or.inr rfl) ?_ ?_ hwf
      · simp only [resA, resOne, resTv, AV.tv, push_cast, simprocAttr, b1, lk_old b1, b2, lk_old b2, b3, lk_old b3, b4, lk_old b4, bne_self_eq_false, beq_self_eq_true]
      · rfl
end Go.Proofs.Ytiogpaehelpmhaa

set_option linter.unusedSimpArgs false
set_option linter.unusedVariables false
set_option maxRecDepth 100000
set_option maxHeartbeats 4000000
namespace Go.Proofs.Ytiogpaehelpmhaa
open Go Go.Eng

def crT (p q r : T3) : T3 :=
  let a : T3 := (subI q.1 p.1, subI q.2.1 p.2.1, subI q.2.2 p.2.2)
  let b : T3 := (subI r.1 p.1, subI r.2.1 p.2.1, subI r.2.2 p.2.2)
  (subI (mulI a.2.1 b.2.2) (mulI a.2.2 b.2.1), subI (mulI a.2.2 b.1) (mulI a.1 b.2.2), subI (mulI a.1 b.2.1) (mulI a.2.1 b.1))
noncomputable def lnT (v : T3) : Int := rootI (dotI v.1 v.2.1 v.2.2 v.1 v.2.1 v.2.2)
noncomputable def skT (P : List T3) (t : T3) : Int := lnT (crT (atP P t.1) (atP P t.2.1) (atP P t.2.2))
noncomputable def skS (P Fs : List T3) : Nat → Int
  | 0 => 0
  | i + 1 => addI (skS P Fs i) (match Fs[i]? with | some t => skT P t | none => 0)
theorem skS_s {P Fs : List T3} {i : Nat} {t : T3} (h : Fs[i]? = some t) : skS P Fs (i + 1) = addI (skS P Fs i) (skT P t) := by
  show addI _ (match Fs[i]? with | some t => _ | none => _) = _
  rw [h]
def clV (T : List (EK × Int)) (i : Nat) : Bool := decide (0 < T.length) && ((csE T).take i).all fun n => n == 2
theorem clV_s {T : List (EK × Int)} {i : Nat} {c : Int} (h : (csE T)[i]? = some c) : clV T (i + 1) = (clV T i && (c == 2)) := by
  unfold clV; rw [List.take_add_one, h]; simp [Bool.and_assoc]
theorem light1_t (r v rp vp np rf vf nf : Nat) (m : AMem) (hrow : ∃ k e, m[r]? = some ⟨k, 34, v, e, [.sl rp vp 0 np, .sl rf vf 0 nf]⟩) (h1 : np ≤ 40) (h2 : nf ≤ 60) : Ctr Try.prog 7 [.one (.sl r v 0 1)] m (.one (.bool true)) m := by
  refine Ctr.enter Try.func7 rfl (by decide) (rs := [.tmp 2]) (nt := 25) rfl rfl fun hwf Q hQ => ?_
  obtain ⟨k0, e0, hrow⟩ := hrow
  have hrl := get_lt hrow
  have q1 : ¬ (40 : Int) < (np : Int) := by omega
  have q2 : ¬ (60 : Int) < (nf : Int) := by omega
  refine AW.seq_k fun K hK => ?_
  refine AW.region (by decide) ?_
  simp only [push_cast, simprocAttr, hrow, lk_old hrow, q1, q2]
  refine Thn_n ?_
  refine hK _ _ ?_
  clear hK K
  refine AW.seq_k fun K hK => ?_
  refine AW.seq_k fun K hK => ?_
  refine AW.region (by decide) ?_
  simp only [push_cast, simprocAttr, hrow, lk_old hrow, q1, q2]
  refine Thn_n ?_
  refine hK _ _ ?_
  clear hK K
  refine AW.block ?_
  refine AW.rounds 2 ?_
  refine ARounds.succ fun K hK => ?_
  refine AW.seq_k fun K hK => ?_
  refine AW.region (by decide) ?_
  simp only [push_cast, simprocAttr, hrow, lk_old hrow, q1, q2]
  refine Thn_n ?_
  refine hK _ _ ?_
  clear hK K
  refine AW.seq_k fun K hK => ?_
  refine AW.cond_t rfl ?_
  refine AW.skip ?_
  refine Thn_n ?_
  refine hK _ _ ?_
  clear hK K
  refine AW.seq_k fun K hK => ?_
  refine AW.block ?_
  iterate 2
    refine AW.seq_k fun K hK => ?_
    refine AW.region (by decide) ?_
    simp only [push_cast, simprocAttr, hrow, lk_old hrow, q1, q2]
    refine Thn_n ?_
    refine hK _ _ ?_
    clear hK K
  refine AW.cond_f rfl ?_
  refine AW.skip ?_
  refine InB_n ?_
  refine Thn_n ?_
  refine hK _ _ ?_
  clear hK K
  refine AW.region (by decide) ?_
  simp only [push_cast, simprocAttr, hrow, lk_old hrow, q1, q2]
  refine Thn_n ?_
  refine hK _ _ ?_
  clear hK K
  refine ARounds.succ fun K hK => ?_
  refine AW.seq_k fun K hK => ?_
  refine AW.region (by decide) ?_
  simp only [push_cast, simprocAttr, hrow, lk_old hrow, q1, q2]
  refine Thn_n ?_
  refine hK _ _ ?_
  clear hK K
  refine AW.seq_k fun K hK => ?_
  refine AW.cond_f rfl ?_
  refine AW.exit ?_
  refine Thn_e ?_
  clear hK K
  refine Thn_e ?_
  clear hK K
  refine InB_here ?_
  refine Thn_n ?_
  refine hK _ _ ?_
  clear hK K
  refine AW.seq_k fun K hK => ?_
  refine AW.region (by decide) ?_
  simp only [push_cast, simprocAttr, hrow, lk_old hrow, q1, q2]
  refine Thn_n ?_
  refine hK _ _ ?_
  clear hK K
  refine AW.ret ?_
  refine hQ _ _ _ ?_
  first | refine RetP.drop0 (Or.inr rfl) ?_ ?_ hwf | refine RetP.drop (Or.inr rfl) ?_ ?_ hwf
  · simp only [resA, resOne, resTv, AV.tv, push_cast, simprocAttr, hrow, lk_old hrow, q1, q2]
  · rfl
theorem light1_a (r v rp vp np rf vf nf : Nat) (m : AMem) (hrow : ∃ k e, m[r]? = some ⟨k, 34, v, e, [.sl rp vp 0 np, .sl rf vf 0 nf]⟩) (h1 : ¬ np ≤ 40) : Ctr Try.prog 7 [.one (.sl r v 0 1)] m (.one (.bool false)) m := by
  refine Ctr.enter Try.func7 rfl (by decide) (rs := [.tmp 2]) (nt := 25) rfl rfl fun hwf Q hQ => ?_
  obtain ⟨k0, e0, hrow⟩ := hrow
  have hrl := get_lt hrow
  have q1 : (40 : Int) < (np : Int) := by omega
  have q2 := q1
  refine AW.seq_k fun K hK => ?_
  refine AW.region (by decide) ?_
  simp only [push_cast, simprocAttr, hrow, lk_old hrow, q1, q2]
  refine Thn_n ?_
  refine hK _ _ ?_
  clear hK K
  refine AW.seq_k fun K hK => ?_
  refine AW.seq_k fun K hK => ?_
  refine AW.region (by decide) ?_
  simp only [push_cast, simprocAttr, hrow, lk_old hrow, q1, q2]
  refine Thn_n ?_
  refine hK _ _ ?_
  clear hK K
  refine AW.block ?_
  refine AW.rounds 2 ?_
  refine ARounds.succ fun K hK => ?_
  refine AW.seq_k fun K hK => ?_
  refine AW.region (by decide) ?_
  simp only [push_cast, simprocAttr, hrow, lk_old hrow, q1, q2]
  refine Thn_n ?_
  refine hK _ _ ?_
  clear hK K
  refine AW.seq_k fun K hK => ?_
  refine AW.cond_t rfl ?_
  refine AW.skip ?_
  refine Thn_n ?_
  refine hK _ _ ?_
  clear hK K
  refine AW.seq_k fun K hK => ?_
  refine AW.block ?_
  iterate 2
    refine AW.seq_k fun K hK => ?_
    refine AW.region (by decide) ?_
    simp only [push_cast, simprocAttr, hrow, lk_old hrow, q1, q2]
    refine Thn_n ?_
    refine hK _ _ ?_
    clear hK K
  refine AW.cond_t rfl ?_
  refine AW.seq_k fun K hK => ?_
  refine AW.region (by decide) ?_
  simp only [push_cast, simprocAttr, hrow, lk_old hrow, q1, q2]
  refine Thn_n ?_
  refine hK _ _ ?_
  clear hK K
  refine AW.ret ?_
  refine InB_r ?_
  refine Thn_r ?_
  refine Thn_r ?_
  refine InB_r ?_
  refine Thn_r ?_
  refine hQ _ _ _ ?_
  first | refine RetP.drop0 (Or.inr rfl) ?_ ?_ hwf | refine RetP.drop (Or.inr rfl) ?_ ?_ hwf
  · simp only [resA, resOne, resTv, AV.tv, push_cast, simprocAttr, hrow, lk_old hrow, q1, q2]
  · rfl
theorem light1_b (r v rp vp np rf vf nf : Nat) (m : AMem) (hrow : ∃ k e, m[r]? = some ⟨k, 34, v, e, [.sl rp vp 0 np, .sl rf vf 0 nf]⟩) (h1 : np ≤ 40) (h2 : ¬ nf ≤ 60) : Ctr Try.prog 7 [.one (.sl r v 0 1)] m (.one (.bool false)) m := by
  refine Ctr.enter Try.func7 rfl (by decide) (rs := [.tmp 2]) (nt := 25) rfl rfl fun hwf Q hQ => ?_
  obtain ⟨k0, e0, hrow⟩ := hrow
  have hrl := get_lt hrow
  have q1 : ¬ (40 : Int) < (np : Int) := by omega
  have q2 : (60 : Int) < (nf : Int) := by omega
  refine AW.seq_k fun K hK => ?_
  refine AW.region (by decide) ?_
  simp only [push_cast, simprocAttr, hrow, lk_old hrow, q1, q2]
  refine Thn_n ?_
  refine hK _ _ ?_
  clear hK K
  refine AW.seq_k fun K hK => ?_
  refine AW.seq_k fun K hK => ?_
  refine AW.region (by decide) ?_
  simp only [push_cast, simprocAttr, hrow, lk_old hrow, q1, q2]
  refine Thn_n ?_
  refine hK _ _ ?_
  clear hK K
  refine AW.block ?_
  refine AW.rounds 2 ?_
  refine ARounds.succ fun K hK => ?_
  refine AW.seq_k fun K hK => ?_
  refine AW.region (by decide) ?_
  simp only [push_cast, simprocAttr, hrow, lk_old hrow, q1, q2]
  refine Thn_n ?_
  refine hK _ _ ?_
  clear hK K
  refine AW.seq_k fun K hK => ?_
  refine AW.cond_t rfl ?_
  refine AW.skip ?_
  refine Thn_n ?_
  refine hK _ _ ?_
  clear hK K
  refine AW.seq_k fun K hK => ?_
  refine AW.block ?_
  iterate 2
    refine AW.seq_k fun K hK => ?_
    refine AW.region (by decide) ?_
    simp only [push_cast, simprocAttr, hrow, lk_old hrow, q1, q2]
    refine Thn_n ?_
    refine hK _ _ ?_
    clear hK K
  refine AW.cond_t rfl ?_
  refine AW.seq_k fun K hK => ?_
  refine AW.region (by decide) ?_
  simp only [push_cast, simprocAttr, hrow, lk_old hrow, q1, q2]
  refine Thn_n ?_
  refine hK _ _ ?_
  clear hK K
  refine AW.ret ?_
  refine InB_r ?_
  refine Thn_r ?_
  refine Thn_r ?_
  refine InB_r ?_
  refine Thn_r ?_
  refine hQ _ _ _ ?_
  first | refine RetP.drop0 (Or.inr rfl) ?_ ?_ hwf | refine RetP.drop (Or.inr rfl) ?_ ?_ hwf
  · simp only [resA, resOne, resTv, AV.tv, push_cast, simprocAttr, hrow, lk_old hrow, q1, q2]
  · rfl
theorem to33_c (rp vp rf vf : Nat) (P Fs : List T3) (m : AMem) (hp : rp < m.length) (hpt : TRow m 24 rp vp P) (hf : TRow m 54 rf vf Fs) (hP : P.length ≤ 4096) (hF : Fs.length ≤ 4096) : Ctr Try.prog 9 [.agg [.sl rp vp 0 P.length, .sl rf vf 0 Fs.length]] m (.agg [.sl m.length 0 0 P.length, .sl (m.length + 1) 0 0 Fs.length]) (m ++ [⟨.grow, 49, 0, 3, tL P⟩, ⟨.grow, 54, 0, 3, tL Fs⟩]) := by
  refine Ctr.enter Try.func9 rfl (by decide) (rs := [.cell 2 37]) (nt := 27) rfl rfl fun hwf Q hQ => ?_
  obtain ⟨k0, ez0, hb⟩ := hpt.hb
  obtain ⟨k1, ez1, hbf⟩ := hf.hb
  have hrf := get_lt hbf
  have hlt0 : ∀ k, ¬ m.length + k < m.length := fun k => by omega
  have hta : P.take P.length = P := List.take_of_length_le (Nat.le_refl _)
  have tv := tL_vals Fs
  have tt := tL_take Fs
  have tl := tL_len Fs
  have n1 : Fs.length ≤ 140737488355328 := by omega
  have n2 : Fs.length * 24 ≤ 140737488355328 := by omega
  iterate 2
    refine AW.seq_k fun K hK => ?_
    refine AW.region (by decide) ?_
    simp only [push_cast, simprocAttr, hb, lk_old hb, hbf, lk_old hbf, tv, tt, tl, n1, n2, Nat.zero_add, List.nil_append]
    refine Thn_n ?_
    refine hK _ _ ?_
    clear hK K
  refine AW.seq_k fun K hK => ?_
  refine AW.seq_k fun K hK => ?_
  refine AW.nilCell 49 3 (m.length + 3) 0 (by simp only [push_cast, simprocAttr]; first | done | rfl) (by intro e; cases e) rfl ?_
  try simp only [push_cast, simprocAttr]
  refine AW.region (by decide) ?_
  simp only [push_cast, simprocAttr, hb, lk_old hb, hbf, lk_old hbf, tv, tt, tl, n1, n2, Nat.zero_add, List.nil_append]
  refine Thn_n ?_
  refine hK _ _ ?_
  clear hK K
  refine AW.block ?_
  refine AW.loopK [2, 3, 12, 13] (fun i => i ≤ P.length) (fun i => [(14, .one (.int .i64 (i : Int)))]) (fun i => [(m.length + 3, ⟨.fix, 37, 0, 0, [.sl (m.length + 4) i 0 i, .sl (m.length + 2) 1 0 Fs.length]⟩), (m.length + 4, ⟨.grow, 49, i, 3, tL (P.take i)⟩)]) (fun i => P.length - i) 0 (by omega) ?_ ?_ fun i hi5 => ?_
  · first | rfl | (simp only [Keeps, Tm.get_cons, Nat.reduceEqDiff, ↓reduceIte, if_true, if_false, ite_true, ite_false, true_and, and_true, and_self, reduceCtorEq, Int.natCast_zero, List.take_zero, tL, List.flatMap_nil] <;> rfl)
  · first | rfl | (simp only [setAll, push_cast, simprocAttr, hb, lk_old hb, hbf, lk_old hbf, tv, tt, tl, n1, n2, Nat.zero_add, List.nil_append, Int.natCast_zero, List.take_zero, tL, List.flatMap_nil] <;> rfl)
  try simp only [keepL, setAll, push_cast, simprocAttr, hb, lk_old hb, hbf, lk_old hbf, tv, tt, tl, n1, n2, Nat.zero_add, List.nil_append]
  refine AW.seq_k fun K hK => ?_
  refine AW.region (by decide) ?_
  simp only [push_cast, simprocAttr, hb, lk_old hb, hbf, lk_old hbf, tv, tt, tl, n1, n2, Nat.zero_add, List.nil_append]
  refine Thn_n ?_
  refine hK _ _ ?_
  clear hK K
  refine AW.seq_k fun K hK => ?_
  refine AW.cond rfl (fun h15 => ?_) (fun h15 => ?_)
  · have hlt : i < P.length := by have := of_decide_eq_true h15; omega
    have c1 : (0 : Int) ≤ (i : Int) := by omega
    have c2 : (i : Int) < (P.length : Nat) := by omega
    have c3 : i * 3 + 3 ≤ P.length * 3 := by omega
    have m1 : i ≤ 140737488355327 := by omega
    have m2 : (i + 1) * 24 ≤ 140737488355328 := by omega
    obtain ⟨t, ht⟩ : ∃ t, P[i]? = some t := ⟨_, List.getElem?_eq_getElem hlt⟩
    have g0 := tL_get0 ht
    have g1 := tL_get1 ht
    have g2 := tL_get2 ht
    have g3 := tL_at ht
    have gl := tL_len P
    have hst : tL (P.take i) ++ [.int .i64 t.1, .int .i64 t.2.1, .int .i64 t.2.2] = tL (P.take (i + 1)) := by rw [List.take_add_one, ht]; simp [tL, tC]
    have htk : (tL (P.take i)).length = i * 3 := by rw [tL_len, List.length_take]; congr 1; omega
    refine AW.skip ?_
    refine Thn_n ?_
    refine hK _ _ ?_
    clear hK K
    refine AW.seq_k fun K hK => ?_
    refine AW.block ?_
    refine AW.seq_k fun K hK => ?_
    refine AW.region (by decide) ?_
    simp only [push_cast, simprocAttr, hb, lk_old hb, hbf, lk_old hbf, tv, tt, tl, n1, n2, Nat.zero_add, List.nil_append, c1, c2, c3, g0, g1, g2, g3, gl, htk, m1, m2]
    refine Thn_n ?_
    refine hK _ _ ?_
    clear hK K
    refine AW.draw [.val, .rd 0, .rd 0, .ext, .ext, .wr, .val, .wr] fol (by decide) (by kernel_rfl) ?_
    simp only [push_cast, simprocAttr, hb, lk_old hb, hbf, lk_old hbf, tv, tt, tl, n1, n2, Nat.zero_add, List.nil_append, c1, c2, c3, g0, g1, g2, g3, gl, htk, m1, m2]
    refine DCall.by0 (v2to_c _ _ _ _) ?_
    simp only [push_cast, simprocAttr, hb, lk_old hb, hbf, lk_old hbf, tv, tt, tl, n1, n2, Nat.zero_add, List.nil_append, c1, c2, c3, g0, g1, g2, g3, gl, htk, m1, m2]
    refine DExt.by (by first | rfl | (simp only [List.append_assoc, List.cons_append, List.nil_append]; rfl)) ?_
    simp only [push_cast, simprocAttr, hb, lk_old hb, hbf, lk_old hbf, tv, tt, tl, n1, n2, Nat.zero_add, List.nil_append, c1, c2, c3, g0, g1, g2, g3, gl, htk, m1, m2]
    refine InB_n ?_
    refine Thn_n ?_
    refine hK _ _ ?_
    clear hK K
    refine AW.region (by decide) ?_
    simp only [push_cast, simprocAttr, hb, lk_old hb, hbf, lk_old hbf, tv, tt, tl, n1, n2, Nat.zero_add, List.nil_append, c1, c2, c3, g0, g1, g2, g3, gl, htk, m1, m2]
    refine Thn_n ?_
    have hwi : IntKind.i64.wrap ((i:Int)+1) = (i:Int)+1 := wi (by omega)
    refine ⟨i + 1, by omega, by omega, ?_⟩
    try simp only [keepL, setAll, push_cast, simprocAttr, hb, lk_old hb, hbf, lk_old hbf, tv, tt, tl, n1, n2, Nat.zero_add, List.nil_append, c1, c2, c3, g0, g1, g2, g3, gl, htk, m1, m2, hwi, hst]
    exact Weak.to (extra := [_, _]) (by simp only [Keeps, Tm.get_cons, Nat.reduceEqDiff, ↓reduceIte, if_true, if_false, ite_true, ite_false, true_and, and_true, and_self, reduceCtorEq, hwi, hst]) (by first | rfl | (simp only [List.append_assoc, List.cons_append, List.nil_append]; rfl)) (by first | rfl | (simp [AV.below, CV.below, tL_below]; done) | (simp [AV.below, CV.below, tL_below]; omega)) (by
      first | exact hwf | refine MWf.app (hwf.grow (by simp)) ?_
      repeat (first | exact MWf_nil | (refine MWf_cons ?_ ?_; · first | rfl | (simp [CV.below, tL_below]; done) | (simp [CV.below, tL_below]; omega))))
  · have hin : i = P.length := by have := of_decide_eq_false h15; omega
    subst hin
    refine AW.exit ?_
    refine Thn_e ?_
    clear hK K
    refine Thn_e ?_
    refine InB_here ?_
    refine Thn_n ?_
    refine hK _ _ ?_
    clear hK K
    refine AW.seq_k fun K hK => ?_
    refine AW.region (by decide) ?_
    simp only [push_cast, simprocAttr, hb, lk_old hb, hbf, lk_old hbf, tv, tt, tl, n1, n2, Nat.zero_add, List.nil_append, hta]
    refine Thn_n ?_
    refine hK _ _ ?_
    clear hK K
    refine AW.ret ?_
    refine hQ _ _ _ ?_
    refine RetP.pick [(m.length + 4, P.length), (m.length + 2, 1)] (Or.inr rfl) ?_ ?_ ?_ hwf ?_
    · simp only [resA, resOne, resTv, AV.tv, push_cast, simprocAttr, hta]
      simp [renV, renT, renL, renC, renIdx, hlt0]
    · simp only [picks, push_cast, simprocAttr, hta]
    · simp [distinctFrom]
    · exact MWf_cons (tL_below _ _) (MWf_one (tL_below _ _))
theorem skin_ok (rp vp rf vf : Nat) (P Fs : List T3) (m : AMem) (hp : rp < m.length) (hpt : TRow m 49 rp vp P) (hf : TRow m 54 rf vf Fs) (hP : P.length ≤ 4096) (hF : Fs.length ≤ 4096) (hc : chk P.length Fs = 0) : Ctr Try.prog 28 [.agg [.sl rp vp 0 P.length, .sl rf vf 0 Fs.length]] m (.one (.int .i64 (skS P Fs Fs.length))) m := by
  refine Ctr.enter Try.func28 rfl (by decide) (rs := [.tmp 2]) (nt := 45) rfl rfl fun hwf Q hQ => ?_
  obtain ⟨k0, ez0, hb0⟩ := hpt.hb
  obtain ⟨k1, ez1, hb⟩ := hf.hb
  have hr0 := get_lt hb
  have hll := chk_len hc
  have ok := chk_ok hc
  have b0 : (chk P.length Fs != 0) = false := by simp [hc]
  
  refine AW.seq_k fun K hK => ?_
  refine AW.region (by decide) ?_
  simp only [push_cast, simprocAttr, hb, lk_old hb, hb0, lk_old hb0, b0]
  refine Thn_n ?_
  refine hK _ _ ?_
  clear hK K
  refine AW.seq_k fun K hK => ?_
  refine AW.seq_k fun K hK => ?_
  refine AW.region (by decide) ?_
  simp only [push_cast, simprocAttr, hb, lk_old hb, hb0, lk_old hb0, b0]
  refine CThen.by (check_c rp vp rf vf P Fs _ (by simp; omega) (hf.mono _)) ?_
  simp only [push_cast, simprocAttr, hb, lk_old hb, hb0, lk_old hb0, b0]
  refine Thn_n ?_
  refine hK _ _ ?_
  clear hK K
  refine AW.cond_f rfl ?_
  refine AW.skip ?_
  refine Thn_n ?_
  refine hK _ _ ?_
  clear hK K
  refine AW.seq_k fun K hK => ?_
  refine AW.region (by decide) ?_
  simp only [push_cast, simprocAttr, hb, lk_old hb, hb0, lk_old hb0, b0]
  refine Thn_n ?_
  refine hK _ _ ?_
  clear hK K
  refine AW.seq_k fun K hK => ?_
  refine AW.seq_k fun K hK => ?_
  refine AW.region (by decide) ?_
  simp only [push_cast, simprocAttr, hb, lk_old hb, hb0, lk_old hb0, b0]
  refine Thn_n ?_
  refine hK _ _ ?_
  clear hK K
  refine AW.block ?_
  refine AW.loopK [1, 11, 12] (fun i => i ≤ Fs.length) (fun i => [(3, .one (.int .i64 (skS P Fs i))), (13, .one (.int .i64 (i : Int)))]) (fun i => []) (fun i => Fs.length - i) 0 (by omega) ?_ ?_ fun i hi7 => ?_
  · first | rfl | (simp only [Keeps, Tm.get_cons, Nat.reduceEqDiff, ↓reduceIte, if_true, if_false, ite_true, ite_false, true_and, and_true, and_self, reduceCtorEq, Int.natCast_zero, skS] <;> rfl)
  · first | rfl | (simp only [setAll, push_cast, simprocAttr, hb, lk_old hb, hb0, lk_old hb0, b0, Int.natCast_zero, skS] <;> rfl)
  try simp only [keepL, setAll, push_cast, simprocAttr, hb, lk_old hb, hb0, lk_old hb0, b0]
  refine AW.seq_k fun K hK => ?_
  refine AW.region (by decide) ?_
  simp only [push_cast, simprocAttr, hb, lk_old hb, hb0, lk_old hb0, b0]
  refine Thn_n ?_
  refine hK _ _ ?_
  clear hK K
  refine AW.seq_k fun K hK => ?_
  refine AW.cond rfl (fun h14 => ?_) (fun h14 => ?_)
  · have hlt : i < Fs.length := by have := of_decide_eq_true h14; omega
    have c1 : (0 : Int) ≤ (i : Int) := by omega
    have c2 : (i : Int) < (Fs.length : Nat) := by omega
    have c3 : i * 3 + 3 ≤ Fs.length * 3 := by omega
    obtain ⟨t, ht⟩ : ∃ t, Fs[i]? = some t := ⟨_, List.getElem?_eq_getElem hlt⟩
    have g0 := tL_get0 ht
    have g1 := tL_get1 ht
    have g2 := tL_get2 ht
    have g3 := tL_at ht
    have gl := tL_len Fs
    have ho := ok t (List.mem_of_getElem? ht)
    unfold okF at ho
    obtain ⟨a, qa⟩ := Int.eq_ofNat_of_zero_le (show 0 ≤ t.1 by omega)
    have la : a < P.length := by omega
    obtain ⟨pa, wa⟩ : ∃ p, P[a]? = some p := ⟨_, List.getElem?_eq_getElem la⟩
    have ta := atP_at wa
    have ca : a * 3 + 3 ≤ P.length * 3 := by omega
    have za : (0 : Int) ≤ (a : Int) := by omega
    have ua : ((a : Nat) : Int) < (P.length : Nat) := by omega
    have va := tL_at wa
    obtain ⟨b, qb⟩ := Int.eq_ofNat_of_zero_le (show 0 ≤ t.2.1 by omega)
    have lb : b < P.length := by omega
    obtain ⟨pb, wb⟩ : ∃ p, P[b]? = some p := ⟨_, List.getElem?_eq_getElem lb⟩
    have tb := atP_at wb
    have cb : b * 3 + 3 ≤ P.length * 3 := by omega
    have zb : (0 : Int) ≤ (b : Int) := by omega
    have ub : ((b : Nat) : Int) < (P.length : Nat) := by omega
    have vb := tL_at wb
    obtain ⟨c, qc⟩ := Int.eq_ofNat_of_zero_le (show 0 ≤ t.2.2 by omega)
    have lc : c < P.length := by omega
    obtain ⟨pc, wc⟩ : ∃ p, P[c]? = some p := ⟨_, List.getElem?_eq_getElem lc⟩
    have tc := atP_at wc
    have cc : c * 3 + 3 ≤ P.length * 3 := by omega
    have zc : (0 : Int) ≤ (c : Int) := by omega
    have uc : ((c : Nat) : Int) < (P.length : Nat) := by omega
    have vc := tL_at wc
    have hst : addI (skS P Fs i) (lnT (crT pa pb pc)) = skS P Fs (i + 1) := by
      rw [skS_s ht]; unfold skT; rw [qa, qb, qc, ta, tb, tc]
    have gpl := tL_len P
    
    refine AW.skip ?_
    refine Thn_n ?_
    refine hK _ _ ?_
    clear hK K
    refine AW.seq_k fun K hK => ?_
    refine AW.block ?_
    iterate 2
      refine AW.seq_k fun K hK => ?_
      refine AW.region (by decide) ?_
      simp only [push_cast, simprocAttr, hb, lk_old hb, hb0, lk_old hb0, b0, c1, c2, c3, g0, g1, g2, g3, gl, qa, qb, qc, ca, za, ua, va, cb, zb, ub, vb, cc, zc, uc, vc, gpl]
      refine Thn_n ?_
      refine hK _ _ ?_
      clear hK K
    refine AW.draw [.val, .val, .rd 0, .val, .rd 0, .val, .rd 0, .rd 0, .ext, .val, .rd 0, .val, .rd 0, .val, .rd 0, .rd 0, .ext, .ext, .ext, .ext, .val] fol (by decide) (by kernel_rfl) ?_
    iterate 2
      simp only [push_cast, simprocAttr, hb, lk_old hb, hb0, lk_old hb0, b0, c1, c2, c3, g0, g1, g2, g3, gl, qa, qb, qc, ca, za, ua, va, cb, zb, ub, vb, cc, zc, uc, vc, gpl]
      refine DCall.by0 (vsub_c _ _ _ _ _ _ _) ?_
    simp only [push_cast, simprocAttr, hb, lk_old hb, hb0, lk_old hb0, b0, c1, c2, c3, g0, g1, g2, g3, gl, qa, qb, qc, ca, za, ua, va, cb, zb, ub, vb, cc, zc, uc, vc, gpl]
    refine DCall.by0 (vcross_c _ _ _ _ _ _ _) ?_
    simp only [push_cast, simprocAttr, hb, lk_old hb, hb0, lk_old hb0, b0, c1, c2, c3, g0, g1, g2, g3, gl, qa, qb, qc, ca, za, ua, va, cb, zb, ub, vb, cc, zc, uc, vc, gpl]
    refine DCall.by0 (vlen_c _ _ _ _) ?_
    simp only [push_cast, simprocAttr, hb, lk_old hb, hb0, lk_old hb0, b0, c1, c2, c3, g0, g1, g2, g3, gl, qa, qb, qc, ca, za, ua, va, cb, zb, ub, vb, cc, zc, uc, vc, gpl]
    refine DCall.by0 (add_c _ _ _) ?_
    simp only [push_cast, simprocAttr, hb, lk_old hb, hb0, lk_old hb0, b0, c1, c2, c3, g0, g1, g2, g3, gl, qa, qb, qc, ca, za, ua, va, cb, zb, ub, vb, cc, zc, uc, vc, gpl]
    refine InB_n ?_
    refine Thn_n ?_
    refine hK _ _ ?_
    clear hK K
    refine AW.region (by decide) ?_
    simp only [push_cast, simprocAttr, hb, lk_old hb, hb0, lk_old hb0, b0, c1, c2, c3, g0, g1, g2, g3, gl, qa, qb, qc, ca, za, ua, va, cb, zb, ub, vb, cc, zc, uc, vc, gpl]
    refine Thn_n ?_
    have hwi : IntKind.i64.wrap ((i:Int)+1) = (i:Int)+1 := wi (by omega)
    unfold lnT crT at hst
    dsimp only at hst
    refine ⟨i + 1, by omega, by omega, ?_⟩
    try simp only [keepL, setAll, push_cast, simprocAttr, hb, lk_old hb, hb0, lk_old hb0, b0, c1, c2, c3, g0, g1, g2, g3, gl, qa, qb, qc, ca, za, ua, va, cb, zb, ub, vb, cc, zc, uc, vc, gpl, hwi, hst]
    exact Weak.to (extra := [_, _]) (by simp only [Keeps, Tm.get_cons, Nat.reduceEqDiff, ↓reduceIte, if_true, if_false, ite_true, ite_false, true_and, and_true, and_self, reduceCtorEq, hwi, hst]) (by first | rfl | (simp only [List.append_assoc, List.cons_append, List.nil_append]; rfl)) (by first | rfl | (simp [AV.below, CV.below]; done) | (simp [AV.below, CV.below]; omega)) (by
      first | exact hwf | refine MWf.app (hwf.grow (by simp)) ?_
      repeat (first | exact MWf_nil | (refine MWf_cons ?_ ?_; · first | rfl | (simp [CV.below]; done) | (simp [CV.below]; omega))))
  · have hin : i = Fs.length := by have := of_decide_eq_false h14; omega
    subst hin
    refine AW.exit ?_
    refine Thn_e ?_
    clear hK K
    refine Thn_e ?_
    refine InB_here ?_
    refine Thn_n ?_
    refine hK _ _ ?_
    clear hK K
    refine AW.seq_k fun K hK => ?_
    refine AW.region (by decide) ?_
    simp only [push_cast, simprocAttr, hb, lk_old hb, hb0, lk_old hb0, b0]
    refine Thn_n ?_
    refine hK _ _ ?_
    clear hK K
    refine AW.ret ?_
    refine hQ _ _ _ ?_
    first | refine RetP.drop0 (Or.inr rfl) ?_ ?_ hwf | refine RetP.drop (Or.inr rfl) ?_ ?_ hwf
    · simp only [resA, resOne, resTv, AV.tv, push_cast, simprocAttr, hb, lk_old hb, hb0, lk_old hb0, b0]
    · rfl
theorem rskin_ok (rp vp rf vf : Nat) (P Fs : List T3) (m : AMem) (hp : rp < m.length) (hpt : TRow m 24 rp vp P) (hf : TRow m 54 rf vf Fs) (hP : P.length ≤ 4096) (hF : Fs.length ≤ 4096) (hc : chk P.length Fs = 0) : Ctr Try.prog 31 [.agg [.sl rp vp 0 P.length, .sl rf vf 0 Fs.length]] m (.one (.int .i64 (skS P Fs Fs.length))) m := by
  refine Ctr.enter Try.func31 rfl (by decide) (rs := [.tmp 2]) (nt := 56) rfl rfl fun hwf Q hQ => ?_
  obtain ⟨k0, ez0, hb0⟩ := hpt.hb
  obtain ⟨k1, ez1, hb⟩ := hf.hb
  have hr0 := get_lt hb
  have hll := chk_len hc
  have ok := chk_ok hc
  have b0 : (chk P.length Fs != 0) = false := by simp [hc]
  
  iterate 2
    refine AW.seq_k fun K hK => ?_
    refine AW.region (by decide) ?_
    simp only [push_cast, simprocAttr, hb, lk_old hb, hb0, lk_old hb0, b0]
    refine Thn_n ?_
    refine hK _ _ ?_
    clear hK K
  refine AW.seq_k fun K hK => ?_
  refine AW.seq_k fun K hK => ?_
  refine AW.region (by decide) ?_
  simp only [push_cast, simprocAttr, hb, lk_old hb, hb0, lk_old hb0, b0]
  refine Thn_n ?_
  refine hK _ _ ?_
  clear hK K
  refine AW.block ?_
  refine AW.loopK [1] (fun i => i ≤ Fs.length) (fun i => [(3, .one (.int .i64 (skS P Fs i))), (4, .one (.int .i64 (i : Int)))]) (fun i => []) (fun i => Fs.length - i) 0 (by omega) ?_ ?_ fun i hi5 => ?_
  · first | rfl | (simp only [Keeps, Tm.get_cons, Nat.reduceEqDiff, ↓reduceIte, if_true, if_false, ite_true, ite_false, true_and, and_true, and_self, reduceCtorEq, Int.natCast_zero, skS] <;> rfl)
  · first | rfl | (simp only [setAll, push_cast, simprocAttr, hb, lk_old hb, hb0, lk_old hb0, b0, Int.natCast_zero, skS] <;> rfl)
  try simp only [keepL, setAll, push_cast, simprocAttr, hb, lk_old hb, hb0, lk_old hb0, b0]
  refine AW.seq_k fun K hK => ?_
  refine AW.seq_k fun K hK => ?_
  refine AW.region (by decide) ?_
  simp only [push_cast, simprocAttr, hb, lk_old hb, hb0, lk_old hb0, b0]
  refine Thn_n ?_
  refine hK _ _ ?_
  clear hK K
  refine AW.cond rfl (fun h12 => ?_) (fun h12 => ?_)
  · have hlt : i < Fs.length := by have := of_decide_eq_true h12; omega
    have c1 : (0 : Int) ≤ (i : Int) := by omega
    have c2 : (i : Int) < (Fs.length : Nat) := by omega
    have c3 : i * 3 + 3 ≤ Fs.length * 3 := by omega
    obtain ⟨t, ht⟩ : ∃ t, Fs[i]? = some t := ⟨_, List.getElem?_eq_getElem hlt⟩
    have g0 := tL_get0 ht
    have g1 := tL_get1 ht
    have g2 := tL_get2 ht
    have g3 := tL_at ht
    have gl := tL_len Fs
    have ho := ok t (List.mem_of_getElem? ht)
    unfold okF at ho
    obtain ⟨a, qa⟩ := Int.eq_ofNat_of_zero_le (show 0 ≤ t.1 by omega)
    have la : a < P.length := by omega
    obtain ⟨pa, wa⟩ : ∃ p, P[a]? = some p := ⟨_, List.getElem?_eq_getElem la⟩
    have ta := atP_at wa
    have ca : a * 3 + 3 ≤ P.length * 3 := by omega
    have za : (0 : Int) ≤ (a : Int) := by omega
    have ua : ((a : Nat) : Int) < (P.length : Nat) := by omega
    have va := tL_at wa
    obtain ⟨b, qb⟩ := Int.eq_ofNat_of_zero_le (show 0 ≤ t.2.1 by omega)
    have lb : b < P.length := by omega
    obtain ⟨pb, wb⟩ : ∃ p, P[b]? = some p := ⟨_, List.getElem?_eq_getElem lb⟩
    have tb := atP_at wb
    have cb : b * 3 + 3 ≤ P.length * 3 := by omega
    have zb : (0 : Int) ≤ (b : Int) := by omega
    have ub : ((b : Nat) : Int) < (P.length : Nat) := by omega
    have vb := tL_at wb
    obtain ⟨c, qc⟩ := Int.eq_ofNat_of_zero_le (show 0 ≤ t.2.2 by omega)
    have lc : c < P.length := by omega
    obtain ⟨pc, wc⟩ : ∃ p, P[c]? = some p := ⟨_, List.getElem?_eq_getElem lc⟩
    have tc := atP_at wc
    have cc : c * 3 + 3 ≤ P.length * 3 := by omega
    have zc : (0 : Int) ≤ (c : Int) := by omega
    have uc : ((c : Nat) : Int) < (P.length : Nat) := by omega
    have vc := tL_at wc
    have hst : addI (skS P Fs i) (lnT (crT pa pb pc)) = skS P Fs (i + 1) := by
      rw [skS_s ht]; unfold skT; rw [qa, qb, qc, ta, tb, tc]
    have gpl := tL_len P
    
    refine AW.skip ?_
    refine Thn_n ?_
    refine hK _ _ ?_
    clear hK K
    refine AW.seq_k fun K hK => ?_
    refine AW.block ?_
    refine AW.seq_k fun K hK => ?_
    refine AW.draw [.val, .rd 0, .val, .rd 0, .val, .val, .val, .rd 0, .val, .rd 0, .val, .rw 0, .val, .rw 0, .val, .val, .val, .rw 0, .val, .rw 0, .val, .rw 0, .val, .rw 0, .val, .val, .val, .rw 0, .val, .rw 0, .ext, .fl, .fl, .wr, .wr, .wr] fol (by decide) (by kernel_rfl) ?_
    simp only [push_cast, simprocAttr, hb, lk_old hb, hb0, lk_old hb0, b0, c1, c2, c3, g0, g1, g2, g3, gl, qa, qb, qc, ca, za, ua, va, cb, zb, ub, vb, cc, zc, uc, vc, gpl]
    refine DExt.by (by first | rfl | (simp only [List.append_assoc, List.cons_append, List.nil_append]; rfl)) ?_
    simp only [push_cast, simprocAttr, hb, lk_old hb, hb0, lk_old hb0, b0, c1, c2, c3, g0, g1, g2, g3, gl, qa, qb, qc, ca, za, ua, va, cb, zb, ub, vb, cc, zc, uc, vc, gpl]
    refine AOpsD_end (by simp only [watchS, allAt, push_cast, simprocAttr, hb, lk_old hb, hb0, lk_old hb0, b0, c1, c2, c3, g0, g1, g2, g3, gl, qa, qb, qc, ca, za, ua, va, cb, zb, ub, vb, cc, zc, uc, vc, gpl]) ?_
    refine Thn_n ?_
    refine hK _ _ ?_
    clear hK K
    refine AW.draw [.val, .rd 0, .rd 0, .ext, .rd 0, .rd 0, .ext, .ext, .ext, .ext, .val] fol (by decide) (by kernel_rfl) ?_
    iterate 2
      simp only [push_cast, simprocAttr, hb, lk_old hb, hb0, lk_old hb0, b0, c1, c2, c3, g0, g1, g2, g3, gl, qa, qb, qc, ca, za, ua, va, cb, zb, ub, vb, cc, zc, uc, vc, gpl]
      refine DCall.by0 (rvsub_c _ _ _ _ _ _ _) ?_
    simp only [push_cast, simprocAttr, hb, lk_old hb, hb0, lk_old hb0, b0, c1, c2, c3, g0, g1, g2, g3, gl, qa, qb, qc, ca, za, ua, va, cb, zb, ub, vb, cc, zc, uc, vc, gpl]
    refine DCall.by0 (rvcross_c _ _ _ _ _ _ _) ?_
    simp only [push_cast, simprocAttr, hb, lk_old hb, hb0, lk_old hb0, b0, c1, c2, c3, g0, g1, g2, g3, gl, qa, qb, qc, ca, za, ua, va, cb, zb, ub, vb, cc, zc, uc, vc, gpl]
    refine DCall.by0 (rvlen_c _ _ _ _) ?_
    simp only [push_cast, simprocAttr, hb, lk_old hb, hb0, lk_old hb0, b0, c1, c2, c3, g0, g1, g2, g3, gl, qa, qb, qc, ca, za, ua, va, cb, zb, ub, vb, cc, zc, uc, vc, gpl]
    refine DCall.by0 (radd_c _ _ _) ?_
    simp only [push_cast, simprocAttr, hb, lk_old hb, hb0, lk_old hb0, b0, c1, c2, c3, g0, g1, g2, g3, gl, qa, qb, qc, ca, za, ua, va, cb, zb, ub, vb, cc, zc, uc, vc, gpl]
    refine InB_n ?_
    refine Thn_n ?_
    refine hK _ _ ?_
    clear hK K
    refine AW.region (by decide) ?_
    simp only [push_cast, simprocAttr, hb, lk_old hb, hb0, lk_old hb0, b0, c1, c2, c3, g0, g1, g2, g3, gl, qa, qb, qc, ca, za, ua, va, cb, zb, ub, vb, cc, zc, uc, vc, gpl]
    refine Thn_n ?_
    have hwi : IntKind.i64.wrap ((i:Int)+1) = (i:Int)+1 := wi (by omega)
    unfold lnT crT at hst
    dsimp only at hst
    refine ⟨i + 1, by omega, by omega, ?_⟩
    try simp only [keepL, setAll, push_cast, simprocAttr, hb, lk_old hb, hb0, lk_old hb0, b0, c1, c2, c3, g0, g1, g2, g3, gl, qa, qb, qc, ca, za, ua, va, cb, zb, ub, vb, cc, zc, uc, vc, gpl, hwi, hst]
    exact Weak.to (extra := [_, _, _]) (by simp only [Keeps, Tm.get_cons, Nat.reduceEqDiff, ↓reduceIte, if_true, if_false, ite_true, ite_false, true_and, and_true, and_self, reduceCtorEq, hwi, hst]) (by first | rfl | (simp only [List.append_assoc, List.cons_append, List.nil_append]; rfl)) (by first | rfl | (simp [AV.below, CV.below]; done) | (simp [AV.below, CV.below]; omega)) (by
      first | exact hwf | refine MWf.app (hwf.grow (by simp)) ?_
      repeat (first | exact MWf_nil | (refine MWf_cons ?_ ?_; · first | rfl | (simp [CV.below]; done) | (simp [CV.below]; omega))))
  · have hin : i = Fs.length := by have := of_decide_eq_false h12; omega
    subst hin
    refine AW.exit ?_
    refine Thn_e ?_
    clear hK K
    refine Thn_e ?_
    refine InB_here ?_
    refine Thn_n ?_
    refine hK _ _ ?_
    clear hK K
    refine AW.seq_k fun K hK => ?_
    refine AW.region (by decide) ?_
    simp only [push_cast, simprocAttr, hb, lk_old hb, hb0, lk_old hb0, b0]
    refine Thn_n ?_
    refine hK _ _ ?_
    clear hK K
    refine AW.ret ?_
    refine hQ _ _ _ ?_
    first | refine RetP.drop0 (Or.inr rfl) ?_ ?_ hwf | refine RetP.drop (Or.inr rfl) ?_ ?_ hwf
    · simp only [resA, resOne, resTv, AV.tv, push_cast, simprocAttr, hb, lk_old hb, hb0, lk_old hb0, b0]
    · rfl
theorem skin_no (rp vp rf vf : Nat) (P Fs : List T3) (m : AMem) (hp : rp < m.length) (hpt : TRow m 49 rp vp P) (hf : TRow m 54 rf vf Fs) (hP : P.length ≤ 4096) (hF : Fs.length ≤ 4096) (hc : ¬ chk P.length Fs = 0) : Ctr Try.prog 28 [.agg [.sl rp vp 0 P.length, .sl rf vf 0 Fs.length]] m (.one (.int .i64 0)) m := by
  refine Ctr.enter Try.func28 rfl (by decide) (rs := [.tmp 2]) (nt := 45) rfl rfl fun hwf Q hQ => ?_
  have hb0 : (chk P.length Fs != 0) = true := by simp [hc]
  refine AW.seq_k fun K hK => ?_
  refine AW.region (by decide) ?_
  simp only [push_cast, simprocAttr, hb0]
  refine Thn_n ?_
  refine hK _ _ ?_
  clear hK K
  refine AW.seq_k fun K hK => ?_
  refine AW.seq_k fun K hK => ?_
  refine AW.region (by decide) ?_
  simp only [push_cast, simprocAttr, hb0]
  refine CThen.by (check_c rp vp rf vf P Fs _ (by simp; omega) (hf.mono _)) ?_
  simp only [push_cast, simprocAttr, hb0]
  refine Thn_n ?_
  refine hK _ _ ?_
  clear hK K
  refine AW.cond_t rfl ?_
  refine AW.seq_k fun K hK => ?_
  refine AW.region (by decide) ?_
  simp only [push_cast, simprocAttr, hb0]
  refine Thn_n ?_
  refine hK _ _ ?_
  clear hK K
  refine AW.ret ?_
  refine Thn_r ?_
  refine hQ _ _ _ ?_
  first | refine RetP.drop0 (Or.inr rfl) ?_ ?_ hwf | refine RetP.drop (Or.inr rfl) ?_ ?_ hwf
  · simp only [resA, resOne, resTv, AV.tv, push_cast, simprocAttr, hb0]
  · rfl
theorem closed_no (rp vp rf vf : Nat) (P Fs : List T3) (m : AMem) (hp : rp < m.length) (hf : TRow m 54 rf vf Fs) (hc : ¬ chk P.length Fs = 0) : Ctr Try.prog 25 [.agg [.sl rp vp 0 P.length, .sl rf vf 0 Fs.length]] m (.one (.bool false)) m := by
  refine Ctr.enter Try.func25 rfl (by decide) (rs := [.tmp 2]) (nt := 24) rfl rfl fun hwf Q hQ => ?_
  refine AW.seq_k fun K hK => ?_
  refine AW.region (by decide) ?_
  simp only [push_cast, simprocAttr]
  refine Thn_n ?_
  refine hK _ _ ?_
  clear hK K
  refine AW.seq_k fun K hK => ?_
  refine AW.region (by decide) ?_
  simp only [push_cast, simprocAttr]
  refine CThen.by (edges_no rp vp rf vf P Fs _ (by simp; omega) (hf.mono _) hc) ?_
  simp only [push_cast, simprocAttr]
  refine Thn_n ?_
  refine hK _ _ ?_
  clear hK K
  refine AW.seq_k fun K hK => ?_
  refine AW.seq_k fun K hK => ?_
  refine AW.region (by decide) ?_
  simp only [push_cast, simprocAttr]
  refine Thn_n ?_
  refine hK _ _ ?_
  clear hK K
  refine AW.block ?_
  refine AW.rounds 1 ?_
  refine ARounds.succ fun K hK => ?_
  refine AW.seq_k fun K hK => ?_
  refine AW.region (by decide) ?_
  simp only [push_cast, simprocAttr]
  refine Thn_n ?_
  refine hK _ _ ?_
  clear hK K
  refine AW.seq_k fun K hK => ?_
  refine AW.cond_f rfl ?_
  refine AW.exit ?_
  refine Thn_e ?_
  clear hK K
  refine Thn_e ?_
  clear hK K
  refine InB_here ?_
  refine Thn_n ?_
  refine hK _ _ ?_
  clear hK K
  refine AW.seq_k fun K hK => ?_
  refine AW.region (by decide) ?_
  simp only [push_cast, simprocAttr]
  refine Thn_n ?_
  refine hK _ _ ?_
  clear hK K
  refine AW.ret ?_
  refine hQ _ _ _ ?_
  first | refine RetP.drop0 (Or.inr rfl) ?_ ?_ hwf | refine RetP.drop (Or.inr rfl) ?_ ?_ hwf
  · simp only [resA, resOne, resTv, AV.tv, push_cast, simprocAttr]
  · rfl
theorem closed_g (rp vp rf vf : Nat) (P Fs : List T3) (m : AMem) (hp : rp < m.length) (hf : TRow m 54 rf vf Fs) (hc : chk P.length Fs = 0) (T : List (EK × Int)) (hT : T = tally Fs Fs.length) : Ctr Try.prog 25 [.agg [.sl rp vp 0 P.length, .sl rf vf 0 Fs.length]] m (.one (.bool (clV T T.length))) m := by
  refine Ctr.enter Try.func25 rfl (by decide) (rs := [.tmp 2]) (nt := 24) rfl rfl fun hwf Q hQ => ?_
  have hTb : BK1 (T.map (·.1)) := by rw [hT]; exact tally_bk hc _
  have hll0 := chk_len hc
  have hTl : T.length ≤ 3072 := by rw [hT]; have := tally_len Fs Fs.length; omega
  have hcl := csE_len T
  refine AW.seq_k fun K hK => ?_
  refine AW.region (by decide) ?_
  simp only [push_cast, simprocAttr]
  refine Thn_n ?_
  refine hK _ _ ?_
  clear hK K
  refine AW.seq_k fun K hK => ?_
  refine AW.region (by decide) ?_
  simp only [push_cast, simprocAttr]
  refine CThen.by (edges_x rp vp rf vf P Fs _ (by simp; omega) (hf.mono _) hc T hT hTb) ?_
  simp only [push_cast, simprocAttr]
  refine Thn_n ?_
  refine hK _ _ ?_
  clear hK K
  refine AW.seq_k fun K hK => ?_
  refine AW.seq_k fun K hK => ?_
  refine AW.region (by decide) ?_
  simp only [push_cast, simprocAttr]
  refine Thn_n ?_
  refine hK _ _ ?_
  clear hK K
  refine AW.block ?_
  refine AW.loopK [3, 12, 13] (fun i => i ≤ T.length ∧ ∀ j, j < i → (csE T)[j]? = some 2) (fun i => [(14, .one (.int .i64 (i : Int)))]) (fun i => []) (fun i => T.length - i) 0 ⟨Nat.zero_le _, fun j h => absurd h (Nat.not_lt_zero _)⟩ ?_ ?_ fun i hi5 => ?_
  · first | rfl | (simp only [Keeps, Tm.get_cons, Nat.reduceEqDiff, ↓reduceIte, if_true, if_false, ite_true, ite_false, true_and, and_true, and_self, reduceCtorEq, Int.natCast_zero] <;> rfl)
  · first | rfl | (simp only [setAll, push_cast, simprocAttr, Int.natCast_zero] <;> rfl)
  obtain ⟨hiN, hall⟩ := hi5
  try simp only [keepL, setAll, push_cast, simprocAttr]
  refine AW.seq_k fun K hK => ?_
  refine AW.region (by decide) ?_
  simp only [push_cast, simprocAttr]
  refine Thn_n ?_
  refine hK _ _ ?_
  clear hK K
  refine AW.seq_k fun K hK => ?_
  refine AW.cond rfl (fun h15 => ?_) (fun h15 => ?_)
  · have hlt : i < T.length := by have := of_decide_eq_true h15; omega
    have c1 : (0 : Int) ≤ (i : Int) := by omega
    have c2 : (i : Int) < (T.length : Nat) := by omega
    obtain ⟨n, hn⟩ : ∃ n, (csE T)[i]? = some n := ⟨_, List.getElem?_eq_getElem (by omega)⟩
    have g1 : ((csE T).map (CV.int .i64))[i]? = some (.int .i64 n) := by rw [List.getElem?_map, hn]; rfl
    refine AW.skip ?_
    refine Thn_n ?_
    refine hK _ _ ?_
    clear hK K
    refine AW.seq_k fun K hK => ?_
    refine AW.block ?_
    iterate 2
      refine AW.seq_k fun K hK => ?_
      refine AW.region (by decide) ?_
      simp only [push_cast, simprocAttr, c1, c2, g1]
      refine Thn_n ?_
      refine hK _ _ ?_
      clear hK K
    refine AW.cond rfl (fun h19 => ?_) (fun h19 => ?_)
    · have hne : ¬ n = 2 := by simpa using h19
      have hr : clV T T.length = false := by
        unfold clV
        rw [Bool.and_eq_false_iff]
        refine .inr ?_
        rw [List.all_eq_false]
        exact ⟨n, by rw [List.take_of_length_le (by omega)]; exact List.mem_of_getElem? hn, by simpa using hne⟩
      refine AW.seq_k fun K hK => ?_
      refine AW.region (by decide) ?_
      simp only [push_cast, simprocAttr, c1, c2, g1]
      refine Thn_n ?_
      refine hK _ _ ?_
      clear hK K
      refine AW.ret ?_
      refine InB_r ?_
      refine Thn_r ?_
      refine Thn_r ?_
      refine InB_r ?_
      refine Thn_r ?_
      refine hQ _ _ _ ?_
      first | refine RetP.drop0 (Or.inr rfl) ?_ ?_ hwf | refine RetP.drop (Or.inr rfl) ?_ ?_ hwf
      · simp only [resA, resOne, resTv, AV.tv, push_cast, simprocAttr, c1, c2, g1, hr]
      · rfl
    · have he : n = 2 := by simpa using h19
      have h2i : (csE T)[i]? = some 2 := by rw [hn, he]
      refine AW.skip ?_
      refine InB_n ?_
      refine Thn_n ?_
      refine hK _ _ ?_
      clear hK K
      refine AW.region (by decide) ?_
      simp only [push_cast, simprocAttr, c1, c2, g1]
      refine Thn_n ?_
      have hwi : IntKind.i64.wrap ((i:Int)+1) = (i:Int)+1 := wi (by omega)
      refine ⟨i + 1, ⟨by omega, fun j hj => by
        rcases Nat.lt_or_ge j i with h | h
        · exact hall j h
        · rw [show j = i by omega]; exact h2i⟩, by omega, ?_⟩
      try simp only [keepL, setAll, push_cast, simprocAttr, c1, c2, g1, hwi]
      exact Weak.same (by simp only [Keeps, Tm.get_cons, Nat.reduceEqDiff, ↓reduceIte, if_true, if_false, ite_true, ite_false, true_and, and_true, and_self, reduceCtorEq, hwi]) (by first | rfl | simp only [Keeps, Tm.get_cons, Nat.reduceEqDiff, ↓reduceIte, if_true, if_false, ite_true, ite_false, true_and, and_true, and_self, reduceCtorEq, hwi])
  · have hin : i = T.length := by have := of_decide_eq_false h15; omega
    have hr : clV T T.length = decide ((0 : Int) < (T.length : Nat)) := by
      unfold clV
      have : ((csE T).take T.length).all (fun n => n == 2) = true := by
        rw [List.all_eq_true]
        intro x hx
        rw [List.take_of_length_le (by omega)] at hx
        obtain ⟨j, hj⟩ := List.getElem?_of_mem hx
        rw [hall j (by have := (List.getElem?_eq_some_iff.1 hj).1; omega)] at hj
        injection hj with hj; rw [← hj]; rfl
      rw [this, Bool.and_true]
      exact decide_eq_decide.2 (by omega)
    refine AW.exit ?_
    refine Thn_e ?_
    clear hK K
    refine Thn_e ?_
    refine InB_here ?_
    refine Thn_n ?_
    refine hK _ _ ?_
    clear hK K
    refine AW.seq_k fun K hK => ?_
    refine AW.region (by decide) ?_
    simp only [push_cast, simprocAttr]
    refine Thn_n ?_
    refine hK _ _ ?_
    clear hK K
    refine AW.ret ?_
    refine hQ _ _ _ ?_
    first | refine RetP.drop0 (Or.inr rfl) ?_ ?_ hwf | refine RetP.drop (Or.inr rfl) ?_ ?_ hwf
    · simp only [resA, resOne, resTv, AV.tv, push_cast, simprocAttr, hr]
    · rfl
end Go.Proofs.Ytiogpaehelpmhaa

set_option linter.unusedSimpArgs false
set_option linter.unusedVariables false
set_option maxRecDepth 100000
set_option maxHeartbeats 4000000
namespace Go.Proofs.Ytiogpaehelpmhaa
open Go Go.Eng

def shC (j p : Int) (P : List T3) (t : T3) : List CV := [.int .i64 (j), .int .i64 (p), .int .i64 (1), .int .i64 ((atP P t.1).1), .int .i64 ((atP P t.1).2.1), .int .i64 ((atP P t.1).2.2), .int .i64 ((atP P t.2.1).1), .int .i64 ((atP P t.2.1).2.1), .int .i64 ((atP P t.2.1).2.2), .int .i64 ((atP P t.2.2).1), .int .i64 ((atP P t.2.2).2.1), .int .i64 ((atP P t.2.2).2.2), .int .i64 (0)]
def shL (j p : Int) (P l : List T3) : List CV := l.flatMap (shC j p P)
theorem shL_len (j p : Int) (P : List T3) : ∀ l : List T3, (shL j p P l).length = l.length * 13
  | [] => rfl
  | t :: l => by
    show (shC j p P t ++ shL j p P l).length = _
    rw [List.length_append, shL_len j p P l, List.length_cons]
    show 13 + _ = _
    omega
theorem shL_below (L : Nat) (j p : Int) (P : List T3) : ∀ l : List T3, (shL j p P l).all (CV.below L) = true
  | [] => rfl
  | t :: l => by
    show (shC j p P t ++ shL j p P l).all _ = true
    rw [List.all_append, shL_below L j p P l]; rfl
theorem shL_drop (j p : Int) (P : List T3) : ∀ (l : List T3) (i : Nat), (shL j p P l).drop (i * 13) = shL j p P (l.drop i)
  | [], i => by simp [shL]
  | t :: l, 0 => by simp
  | t :: l, i + 1 => by
    show (shC j p P t ++ shL j p P l).drop _ = _
    rw [List.drop_append, List.drop_of_length_le (by show 13 ≤ _; omega), show (shC j p P t).length = 13 from rfl, show (i + 1) * 13 - 13 = i * 13 by omega, List.nil_append, shL_drop j p P l i]
    rfl
theorem shL_at {j p : Int} {P l : List T3} {i : Nat} {t : T3} (h : l[i]? = some t) : ((shL j p P l).drop (i * 13)).take 13 = shC j p P t := by
  obtain ⟨hlt, hg⟩ := List.getElem?_eq_some_iff.1 h
  rw [shL_drop, List.drop_eq_getElem_cons hlt, hg]
  rfl
theorem sh_step {j p : Int} {P l : List T3} {i : Nat} {t : T3} (h : l[i]? = some t) : shL j p P (l.take i) ++ shC j p P t = shL j p P (l.take (i + 1)) := by
  rw [List.take_add_one, h]; simp [shL]
theorem shapes_ok (j p : Int) (rp vp rf vf : Nat) (P Fs : List T3) (m : AMem) (hp : rp < m.length) (hpt : TRow m 49 rp vp P) (hf : TRow m 54 rf vf Fs) (hP : P.length ≤ 4096) (hF : Fs.length ≤ 4096) (hc : chk P.length Fs = 0) : Ctr Try.prog 27 [.agg [.sl rp vp 0 P.length, .sl rf vf 0 Fs.length], .one (.int .i64 j), .one (.int .i64 p)] m (.one (.sl m.length 0 0 Fs.length)) (m ++ [⟨.grow, 80, 0, 13, shL j p P Fs⟩]) := by
  refine Ctr.enter Try.func27 rfl (by decide) (rs := [.tmp 6]) (nt := 47) rfl rfl fun hwf Q hQ => ?_
  obtain ⟨k0, ez0, hb0⟩ := hpt.hb
  obtain ⟨k1, ez1, hb⟩ := hf.hb
  have hr0 := get_lt hb
  have hll := chk_len hc
  have ok := chk_ok hc
  have b0 : (chk P.length Fs != 0) = false := by simp [hc]
  have hlt0 : ∀ k, ¬ m.length + k < m.length := fun k => by omega
  refine AW.seq_k fun K hK => ?_
  refine AW.region (by decide) ?_
  simp only [push_cast, simprocAttr, hb, lk_old hb, hb0, lk_old hb0, b0]
  refine Thn_n ?_
  refine hK _ _ ?_
  clear hK K
  refine AW.seq_k fun K hK => ?_
  refine AW.seq_k fun K hK => ?_
  refine AW.region (by decide) ?_
  simp only [push_cast, simprocAttr, hb, lk_old hb, hb0, lk_old hb0, b0]
  refine CThen.by (check_c rp vp rf vf P Fs _ (by simp; omega) (hf.mono _)) ?_
  simp only [push_cast, simprocAttr, hb, lk_old hb, hb0, lk_old hb0, b0]
  refine Thn_n ?_
  refine hK _ _ ?_
  clear hK K
  refine AW.cond_f rfl ?_
  refine AW.skip ?_
  refine Thn_n ?_
  refine hK _ _ ?_
  clear hK K
  refine AW.seq_k fun K hK => ?_
  refine AW.region (by decide) ?_
  simp only [push_cast, simprocAttr, hb, lk_old hb, hb0, lk_old hb0, b0]
  refine Thn_n ?_
  refine hK _ _ ?_
  clear hK K
  refine AW.seq_k fun K hK => ?_
  refine AW.seq_k fun K hK => ?_
  refine AW.region (by decide) ?_
  simp only [push_cast, simprocAttr, hb, lk_old hb, hb0, lk_old hb0, b0]
  refine Thn_n ?_
  refine hK _ _ ?_
  clear hK K
  refine AW.block ?_
  refine AW.nilTm 80 13 7 rfl ?_
  try simp only [push_cast, simprocAttr, hb, lk_old hb, hb0, lk_old hb0, b0]
  refine AW.loopK [1, 2, 3, 14, 15] (fun i => i ≤ Fs.length) (fun i => [(7, .one (.sl (m.length + 1) i 0 i)), (16, .one (.int .i64 (i : Int)))]) (fun i => [(m.length + 1, ⟨.grow, 80, i, 13, shL j p P (Fs.take i)⟩)]) (fun i => Fs.length - i) 0 (by omega) ?_ ?_ fun i hi7 => ?_
  · first | rfl | (simp only [Keeps, Tm.get_cons, Nat.reduceEqDiff, ↓reduceIte, if_true, if_false, ite_true, ite_false, true_and, and_true, and_self, reduceCtorEq, Int.natCast_zero, List.take_zero, shL, List.flatMap_nil] <;> rfl)
  · first | rfl | (simp only [setAll, push_cast, simprocAttr, hb, lk_old hb, hb0, lk_old hb0, b0, Int.natCast_zero, List.take_zero, shL, List.flatMap_nil] <;> rfl)
  try simp only [keepL, setAll, push_cast, simprocAttr, hb, lk_old hb, hb0, lk_old hb0, b0]
  refine AW.seq_k fun K hK => ?_
  refine AW.region (by decide) ?_
  simp only [push_cast, simprocAttr, hb, lk_old hb, hb0, lk_old hb0, b0]
  refine Thn_n ?_
  refine hK _ _ ?_
  clear hK K
  refine AW.seq_k fun K hK => ?_
  refine AW.cond rfl (fun h17 => ?_) (fun h17 => ?_)
  · have hlt : i < Fs.length := by have := of_decide_eq_true h17; omega
    have c1 : (0 : Int) ≤ (i : Int) := by omega
    have c2 : (i : Int) < (Fs.length : Nat) := by omega
    have c3 : i * 3 + 3 ≤ Fs.length * 3 := by omega
    obtain ⟨t, ht⟩ : ∃ t, Fs[i]? = some t := ⟨_, List.getElem?_eq_getElem hlt⟩
    have g0 := tL_get0 ht
    have g1 := tL_get1 ht
    have g2 := tL_get2 ht
    have g3 := tL_at ht
    have gl := tL_len Fs
    have ho := ok t (List.mem_of_getElem? ht)
    unfold okF at ho
    obtain ⟨a, qa⟩ := Int.eq_ofNat_of_zero_le (show 0 ≤ t.1 by omega)
    have la : a < P.length := by omega
    obtain ⟨pa, wa⟩ : ∃ p, P[a]? = some p := ⟨_, List.getElem?_eq_getElem la⟩
    have ta := atP_at wa
    have ca : a * 3 + 3 ≤ P.length * 3 := by omega
    have za : (0 : Int) ≤ (a : Int) := by omega
    have ua : ((a : Nat) : Int) < (P.length : Nat) := by omega
    have va := tL_at wa
    obtain ⟨b, qb⟩ := Int.eq_ofNat_of_zero_le (show 0 ≤ t.2.1 by omega)
    have lb : b < P.length := by omega
    obtain ⟨pb, wb⟩ : ∃ p, P[b]? = some p := ⟨_, List.getElem?_eq_getElem lb⟩
    have tb := atP_at wb
    have cb : b * 3 + 3 ≤ P.length * 3 := by omega
    have zb : (0 : Int) ≤ (b : Int) := by omega
    have ub : ((b : Nat) : Int) < (P.length : Nat) := by omega
    have vb := tL_at wb
    obtain ⟨c, qc⟩ := Int.eq_ofNat_of_zero_le (show 0 ≤ t.2.2 by omega)
    have lc : c < P.length := by omega
    obtain ⟨pc, wc⟩ : ∃ p, P[c]? = some p := ⟨_, List.getElem?_eq_getElem lc⟩
    have tc := atP_at wc
    have cc : c * 3 + 3 ≤ P.length * 3 := by omega
    have zc : (0 : Int) ≤ (c : Int) := by omega
    have uc : ((c : Nat) : Int) < (P.length : Nat) := by omega
    have vc := tL_at wc
    have gpl := tL_len P
    have hst : shL j p P (Fs.take i) ++ [.int .i64 (j), .int .i64 (p), .int .i64 (1), .int .i64 (pa.1), .int .i64 (pa.2.1), .int .i64 (pa.2.2), .int .i64 (pb.1), .int .i64 (pb.2.1), .int .i64 (pb.2.2), .int .i64 (pc.1), .int .i64 (pc.2.1), .int .i64 (pc.2.2), .int .i64 (0)] = shL j p P (Fs.take (i + 1)) := by
      rw [← sh_step ht]; unfold shC; rw [qa, qb, qc, ta, tb, tc]
    have htk : (shL j p P (Fs.take i)).length = i * 13 := by rw [shL_len, List.length_take]; congr 1; omega
    have m1 : i ≤ 140737488355327 := by omega
    have m2 : (i + 1) * 104 ≤ 140737488355328 := by omega
    refine AW.skip ?_
    refine Thn_n ?_
    refine hK _ _ ?_
    clear hK K
    refine AW.seq_k fun K hK => ?_
    refine AW.block ?_
    refine AW.seq_k fun K hK => ?_
    refine AW.region (by decide) ?_
    simp only [push_cast, simprocAttr, hb, lk_old hb, hb0, lk_old hb0, b0, c1, c2, c3, g0, g1, g2, g3, gl, qa, qb, qc, ca, za, ua, va, cb, zb, ub, vb, cc, zc, uc, vc, gpl, htk, m1, m2]
    refine Thn_n ?_
    refine hK _ _ ?_
    clear hK K
    refine AW.draw [.val, .val, .val, .val, .val, .rd 0, .val, .rd 0, .val, .rd 0, .val, .rd 0, .val, .rd 0, .val, .rd 0, .val, .rd 0, .val, .rd 0, .val, .rd 0, .val, .ext, .wr, .val] fol (by decide) (by kernel_rfl) ?_
    simp only [push_cast, simprocAttr, hb, lk_old hb, hb0, lk_old hb0, b0, c1, c2, c3, g0, g1, g2, g3, gl, qa, qb, qc, ca, za, ua, va, cb, zb, ub, vb, cc, zc, uc, vc, gpl, htk, m1, m2]
    refine DExt.by (by first | rfl | (simp only [List.append_assoc, List.cons_append, List.nil_append]; rfl)) ?_
    simp only [push_cast, simprocAttr, hb, lk_old hb, hb0, lk_old hb0, b0, c1, c2, c3, g0, g1, g2, g3, gl, qa, qb, qc, ca, za, ua, va, cb, zb, ub, vb, cc, zc, uc, vc, gpl, htk, m1, m2]
    refine InB_n ?_
    refine Thn_n ?_
    refine hK _ _ ?_
    clear hK K
    refine AW.region (by decide) ?_
    simp only [push_cast, simprocAttr, hb, lk_old hb, hb0, lk_old hb0, b0, c1, c2, c3, g0, g1, g2, g3, gl, qa, qb, qc, ca, za, ua, va, cb, zb, ub, vb, cc, zc, uc, vc, gpl, htk, m1, m2]
    refine Thn_n ?_
    have hwi : IntKind.i64.wrap ((i:Int)+1) = (i:Int)+1 := wi (by omega)
    refine ⟨i + 1, by omega, by omega, ?_⟩
    try simp only [keepL, setAll, push_cast, simprocAttr, hb, lk_old hb, hb0, lk_old hb0, b0, c1, c2, c3, g0, g1, g2, g3, gl, qa, qb, qc, ca, za, ua, va, cb, zb, ub, vb, cc, zc, uc, vc, gpl, htk, m1, m2, hwi, hst]
    exact Weak.to (extra := [_, _]) (by simp only [Keeps, Tm.get_cons, Nat.reduceEqDiff, ↓reduceIte, if_true, if_false, ite_true, ite_false, true_and, and_true, and_self, reduceCtorEq, hwi, hst]) (by first | rfl | (simp only [List.append_assoc, List.cons_append, List.nil_append]; rfl)) (by first | rfl | (simp [AV.below, CV.below, shL_below]; done) | (simp [AV.below, CV.below, shL_below]; omega)) (by
      first | exact hwf | refine MWf.app (hwf.grow (by simp)) ?_
      repeat (first | exact MWf_nil | (refine MWf_cons ?_ ?_; · first | rfl | (simp [CV.below, shL_below]; done) | (simp [CV.below, shL_below]; omega))))
  · have hin : i = Fs.length := by have := of_decide_eq_false h17; omega
    subst hin
    have hta : Fs.take Fs.length = Fs := List.take_of_length_le (Nat.le_refl _)
    refine AW.exit ?_
    refine Thn_e ?_
    clear hK K
    refine Thn_e ?_
    refine InB_here ?_
    refine Thn_n ?_
    refine hK _ _ ?_
    clear hK K
    refine AW.seq_k fun K hK => ?_
    refine AW.region (by decide) ?_
    simp only [push_cast, simprocAttr, hb, lk_old hb, hb0, lk_old hb0, b0, hta]
    refine Thn_n ?_
    refine hK _ _ ?_
    clear hK K
    refine AW.ret ?_
    refine hQ _ _ _ ?_
    refine RetP.pick [(m.length + 1, Fs.length)] (Or.inr rfl) ?_ ?_ ?_ hwf ?_
    · simp only [resA, resOne, resTv, AV.tv, push_cast, simprocAttr]
      simp [renV, renT, renL, renC, renIdx, hlt0]
    · simp only [picks, push_cast, simprocAttr, hta]
    · simp [distinctFrom]
    · exact MWf_one (shL_below _ _ _ _ _)
theorem shapes_no (j p : Int) (rp vp rf vf : Nat) (P Fs : List T3) (m : AMem) (hp : rp < m.length) (hpt : TRow m 49 rp vp P) (hf : TRow m 54 rf vf Fs) (hP : P.length ≤ 4096) (hF : Fs.length ≤ 4096) (hc : ¬ chk P.length Fs = 0) : Ctr Try.prog 27 [.agg [.sl rp vp 0 P.length, .sl rf vf 0 Fs.length], .one (.int .i64 j), .one (.int .i64 p)] m (.one .nils) m := by
  refine Ctr.enter Try.func27 rfl (by decide) (rs := [.tmp 6]) (nt := 47) rfl rfl fun hwf Q hQ => ?_
  have hb0 : (chk P.length Fs != 0) = true := by simp [hc]
  refine AW.seq_k fun K hK => ?_
  refine AW.region (by decide) ?_
  simp only [push_cast, simprocAttr, hb0]
  refine Thn_n ?_
  refine hK _ _ ?_
  clear hK K
  refine AW.seq_k fun K hK => ?_
  refine AW.seq_k fun K hK => ?_
  refine AW.region (by decide) ?_
  simp only [push_cast, simprocAttr, hb0]
  refine CThen.by (check_c rp vp rf vf P Fs _ (by simp; omega) (hf.mono _)) ?_
  simp only [push_cast, simprocAttr, hb0]
  refine Thn_n ?_
  refine hK _ _ ?_
  clear hK K
  refine AW.cond_t rfl ?_
  refine AW.seq_k fun K hK => ?_
  refine AW.region (by decide) ?_
  simp only [push_cast, simprocAttr, hb0]
  refine Thn_n ?_
  refine hK _ _ ?_
  clear hK K
  refine AW.ret ?_
  refine Thn_r ?_
  refine hQ _ _ _ ?_
  first | refine RetP.drop0 (Or.inr rfl) ?_ ?_ hwf | refine RetP.drop (Or.inr rfl) ?_ ?_ hwf
  · simp only [resA, resOne, resTv, AV.tv, push_cast, simprocAttr, hb0]
  · rfl
end Go.Proofs.Ytiogpaehelpmhaa

set_option linter.unusedSimpArgs false
set_option linter.unusedVariables false
set_option maxRecDepth 100000
set_option maxHeartbeats 4000000
namespace Go.Proofs.Ytiogpaehelpmhaa
open Go Go.Eng

theorem awakeL_c (m : AMem) : Ctr Try.prog 8 [] m (.one (.bool true)) m := by
  refine Ctr.enter Try.func8 rfl (by decide) (rs := [.tmp 0]) (nt := 53) rfl rfl fun hwf Q hQ => ?_
  have hl1 : (fnP (crP 65536 65536 65536) crF).length = 26 := by rw [fnP_len, cr_tl]; rfl
  have hl2 : (fnF (crP 65536 65536 65536).length crF).length = 48 := by rw [fnF_len]; rfl
  have hl3 : (tally crF crF.length).length = 18 := cr_tl
  have hck : chk (fnP (crP 65536 65536 65536) crF).length (fnF (crP 65536 65536 65536).length crF) = 0 := by
    rw [hl1]
    have : fnF (crP 65536 65536 65536).length crF = fnX 8 crF := fnX_eq 8 crF
    rw [this]
    exact okB_chk cr_ok2 (by omega) (by rw [← fnX_eq, fnF_len]; decide)
  refine AW.seq_k fun K hK => ?_
  refine AW.region (by decide) ?_
  simp only [push_cast, simprocAttr, hl1, hl2, hl3]
  refine Thn_n ?_
  refine hK _ _ ?_
  clear hK K
  refine AW.seq_k fun K hK => ?_
  refine AW.region (by decide) ?_
  simp only [push_cast, simprocAttr, hl1, hl2, hl3]
  refine CThen.by (crate_c 65536 65536 65536 _) ?_
  simp only [push_cast, simprocAttr, hl1, hl2, hl3]
  refine Thn_n ?_
  refine hK _ _ ?_
  clear hK K
  refine AW.seq_k fun K hK => ?_
  refine AW.region (by decide) ?_
  simp only [push_cast, simprocAttr, hl1, hl2, hl3]
  refine CThen.by (edges_x m.length 0 (m.length + 1) 0 (crP 65536 65536 65536) crF _ (by simp) ⟨.grow, 3, by simp only [push_cast, simprocAttr]⟩ cr_chk _ rfl (tally_bk (n := 8) cr_chk _)) ?_
  simp only [push_cast, simprocAttr, hl1, hl2, hl3]
  refine Thn_n ?_
  refine hK _ _ ?_
  clear hK K
  refine AW.seq_k fun K hK => ?_
  refine AW.region (by decide) ?_
  simp only [push_cast, simprocAttr, hl1, hl2, hl3]
  refine CThen.by (finer_ok m.length 0 (m.length + 1) 0 (crP 65536 65536 65536) crF _ (by simp) ⟨.grow, 3, by simp only [push_cast, simprocAttr]⟩ ⟨.grow, 3, by simp only [push_cast, simprocAttr]⟩ (by decide) (by decide) cr_chk hck) ?_
  simp only [push_cast, simprocAttr, hl1, hl2, hl3]
  refine Thn_n ?_
  refine hK _ _ ?_
  clear hK K
  refine AW.seq_k fun K hK => ?_
  refine AW.region (by decide) ?_
  simp only [push_cast, simprocAttr, hl1, hl2, hl3]
  refine CThen.by (closed_c m.length 0 (m.length + 1) 0 (crP 65536 65536 65536) crF _ (by simp) ⟨.grow, 3, by simp only [push_cast, simprocAttr]⟩ cr_chk _ rfl (tally_bk (n := 8) cr_chk _) (clB_cs cr_cl) (by rw [hl3]; omega)) ?_
  simp only [push_cast, simprocAttr, hl1, hl2, hl3]
  refine Thn_n ?_
  refine hK _ _ ?_
  clear hK K
  refine AW.ret ?_
  refine hQ _ _ _ ?_
  first | refine RetP.drop0 (Or.inr rfl) ?_ ?_ hwf | refine RetP.drop (Or.inr rfl) ?_ ?_ hwf
  · simp only [resA, resOne, resTv, AV.tv, push_cast, simprocAttr, hl1, hl2, hl3]
  · rfl
end Go.Proofs.Ytiogpaehelpmhaa

set_option linter.unusedSimpArgs false
set_option linter.unusedVariables false
set_option maxRecDepth 100000
set_option maxHeartbeats 4000000
namespace Go.Proofs.Ytiogpaehelpmhaa
open Go Go.Eng

theorem tells_a (rp vp rf vf : Nat) (P Fs : List T3) (j p : Int) (m : AMem) (hpt : TRow m 24 rp vp P) (hf : TRow m 54 rf vf Fs) (h1 : ¬ P.length ≤ 40) : Ctr Try.prog 5 [.agg [.sl rp vp 0 P.length, .sl rf vf 0 Fs.length], .one (.int .i64 j), .one (.int .i64 p)] m (.one (.bool true)) m := by
  refine Ctr.enter Try.func5 rfl (by decide) (rs := [.tmp 6]) (nt := 212) rfl rfl fun hwf Q hQ => ?_
  obtain ⟨k0, ez0, hb0⟩ := hpt.hb
  obtain ⟨k1, ez1, hb⟩ := hf.hb
  have hr0 := get_lt hb
  have hr1 := get_lt hb0
  
  refine AW.seq_k fun K hK => ?_
  refine AW.region (by decide) ?_
  simp only [push_cast, simprocAttr, hb, lk_old hb, hb0, lk_old hb0]
  refine Thn_n ?_
  refine hK _ _ ?_
  clear hK K
  refine AW.seq_k fun K hK => ?_
  refine AW.seq_k fun K hK => ?_
  refine AW.region (by decide) ?_
  simp only [push_cast, simprocAttr, hb, lk_old hb, hb0, lk_old hb0]
  refine CThen.by (light1_a (m.length + 1) 0 rp vp P.length rf vf Fs.length _ ⟨.grow, 2, by simp only [push_cast, simprocAttr]⟩ h1) ?_
  simp only [push_cast, simprocAttr, hb, lk_old hb, hb0, lk_old hb0]
  refine Thn_n ?_
  refine hK _ _ ?_
  clear hK K
  refine AW.cond_t rfl ?_
  refine AW.seq_k fun K hK => ?_
  refine AW.region (by decide) ?_
  simp only [push_cast, simprocAttr, hb, lk_old hb, hb0, lk_old hb0]
  refine CThen.by (awakeL_c _) ?_
  simp only [push_cast, simprocAttr, hb, lk_old hb, hb0, lk_old hb0]
  refine Thn_n ?_
  refine hK _ _ ?_
  clear hK K
  refine AW.ret ?_
  refine Thn_r ?_
  refine hQ _ _ _ ?_
  first | refine RetP.drop0 (Or.inr rfl) ?_ ?_ hwf | refine RetP.drop (Or.inr rfl) ?_ ?_ hwf
  · simp only [resA, resOne, resTv, AV.tv, push_cast, simprocAttr, hb, lk_old hb, hb0, lk_old hb0]
  · rfl
theorem tells_b (rp vp rf vf : Nat) (P Fs : List T3) (j p : Int) (m : AMem) (hpt : TRow m 24 rp vp P) (hf : TRow m 54 rf vf Fs) (h1 : P.length ≤ 40) (h2 : ¬ Fs.length ≤ 60) : Ctr Try.prog 5 [.agg [.sl rp vp 0 P.length, .sl rf vf 0 Fs.length], .one (.int .i64 j), .one (.int .i64 p)] m (.one (.bool true)) m := by
  refine Ctr.enter Try.func5 rfl (by decide) (rs := [.tmp 6]) (nt := 212) rfl rfl fun hwf Q hQ => ?_
  obtain ⟨k0, ez0, hb0⟩ := hpt.hb
  obtain ⟨k1, ez1, hb⟩ := hf.hb
  have hr0 := get_lt hb
  have hr1 := get_lt hb0
  
  refine AW.seq_k fun K hK => ?_
  refine AW.region (by decide) ?_
  simp only [push_cast, simprocAttr, hb, lk_old hb, hb0, lk_old hb0]
  refine Thn_n ?_
  refine hK _ _ ?_
  clear hK K
  refine AW.seq_k fun K hK => ?_
  refine AW.seq_k fun K hK => ?_
  refine AW.region (by decide) ?_
  simp only [push_cast, simprocAttr, hb, lk_old hb, hb0, lk_old hb0]
  refine CThen.by (light1_b (m.length + 1) 0 rp vp P.length rf vf Fs.length _ ⟨.grow, 2, by simp only [push_cast, simprocAttr]⟩ h1 h2) ?_
  simp only [push_cast, simprocAttr, hb, lk_old hb, hb0, lk_old hb0]
  refine Thn_n ?_
  refine hK _ _ ?_
  clear hK K
  refine AW.cond_t rfl ?_
  refine AW.seq_k fun K hK => ?_
  refine AW.region (by decide) ?_
  simp only [push_cast, simprocAttr, hb, lk_old hb, hb0, lk_old hb0]
  refine CThen.by (awakeL_c _) ?_
  simp only [push_cast, simprocAttr, hb, lk_old hb, hb0, lk_old hb0]
  refine Thn_n ?_
  refine hK _ _ ?_
  clear hK K
  refine AW.ret ?_
  refine Thn_r ?_
  refine hQ _ _ _ ?_
  first | refine RetP.drop0 (Or.inr rfl) ?_ ?_ hwf | refine RetP.drop (Or.inr rfl) ?_ ?_ hwf
  · simp only [resA, resOne, resTv, AV.tv, push_cast, simprocAttr, hb, lk_old hb, hb0, lk_old hb0]
  · rfl
theorem tells_no (rp vp rf vf : Nat) (P Fs : List T3) (j p : Int) (m : AMem) (hpt : TRow m 24 rp vp P) (hf : TRow m 54 rf vf Fs) (h1 : P.length ≤ 40) (h2 : Fs.length ≤ 60) (hc : ¬ chk P.length Fs = 0) : Ctr Try.prog 5 [.agg [.sl rp vp 0 P.length, .sl rf vf 0 Fs.length], .one (.int .i64 j), .one (.int .i64 p)] m (.one (.bool true)) m := by
  refine Ctr.enter Try.func5 rfl (by decide) (rs := [.tmp 6]) (nt := 212) rfl rfl fun hwf Q hQ => ?_
  obtain ⟨k0, ez0, hb0⟩ := hpt.hb
  obtain ⟨k1, ez1, hb⟩ := hf.hb
  have hr0 := get_lt hb
  have hr1 := get_lt hb0
  have b0 : (chk P.length Fs != 0) = true := by simp [hc]
  
  refine AW.seq_k fun K hK => ?_
  refine AW.region (by decide) ?_
  simp only [push_cast, simprocAttr, hb, lk_old hb, hb0, lk_old hb0, b0]
  refine Thn_n ?_
  refine hK _ _ ?_
  clear hK K
  refine AW.seq_k fun K hK => ?_
  refine AW.seq_k fun K hK => ?_
  refine AW.region (by decide) ?_
  simp only [push_cast, simprocAttr, hb, lk_old hb, hb0, lk_old hb0, b0]
  refine CThen.by (light1_t (m.length + 1) 0 rp vp P.length rf vf Fs.length _ ⟨.grow, 2, by simp only [push_cast, simprocAttr]⟩ h1 h2) ?_
  simp only [push_cast, simprocAttr, hb, lk_old hb, hb0, lk_old hb0, b0]
  refine Thn_n ?_
  refine hK _ _ ?_
  clear hK K
  refine AW.cond_f rfl ?_
  refine AW.skip ?_
  refine Thn_n ?_
  refine hK _ _ ?_
  clear hK K
  refine AW.seq_k fun K hK => ?_
  refine AW.region (by decide) ?_
  simp only [push_cast, simprocAttr, hb, lk_old hb, hb0, lk_old hb0, b0]
  refine CThen.by (to33_c rp vp rf vf P Fs _ (by simp; omega) (hpt.mono _) (hf.mono _) (by omega) (by omega)) ?_
  simp only [push_cast, simprocAttr, hb, lk_old hb, hb0, lk_old hb0, b0]
  refine Thn_n ?_
  refine hK _ _ ?_
  clear hK K
  refine AW.seq_k fun K hK => ?_
  refine AW.region (by decide) ?_
  simp only [push_cast, simprocAttr, hb, lk_old hb, hb0, lk_old hb0, b0]
  refine CThen.by (edges_no (m.length + 2) 0 (m.length + 3) 0 P Fs _ (by simp) ⟨.grow, 3, by simp only [push_cast, simprocAttr]⟩ hc) ?_
  simp only [push_cast, simprocAttr, hb, lk_old hb, hb0, lk_old hb0, b0]
  refine Thn_n ?_
  refine hK _ _ ?_
  clear hK K
  refine AW.seq_k fun K hK => ?_
  refine AW.region (by decide) ?_
  simp only [push_cast, simprocAttr, hb, lk_old hb, hb0, lk_old hb0, b0]
  refine CThen.by (shapes_no j p (m.length + 2) 0 (m.length + 3) 0 P Fs _ (by simp) ⟨.grow, 3, by simp only [push_cast, simprocAttr]⟩ ⟨.grow, 3, by simp only [push_cast, simprocAttr]⟩ (by omega) (by omega) hc) ?_
  simp only [push_cast, simprocAttr, hb, lk_old hb, hb0, lk_old hb0, b0]
  refine Thn_n ?_
  refine hK _ _ ?_
  clear hK K
  refine AW.seq_k fun K hK => ?_
  refine AW.seq_k fun K hK => ?_
  refine AW.region (by decide) ?_
  simp only [push_cast, simprocAttr, hb, lk_old hb, hb0, lk_old hb0, b0]
  refine CThen.by (rcheck_c rp vp rf vf P Fs _ (by simp; omega) (hf.mono _)) ?_
  simp only [push_cast, simprocAttr, hb, lk_old hb, hb0, lk_old hb0, b0]
  refine Thn_n ?_
  refine hK _ _ ?_
  clear hK K
  refine AW.cond_t rfl ?_
  refine AW.seq_k fun K hK => ?_
  refine AW.region (by decide) ?_
  simp only [push_cast, simprocAttr, hb, lk_old hb, hb0, lk_old hb0, b0]
  refine CThen.by (awakeL_c _) ?_
  simp only [push_cast, simprocAttr, hb, lk_old hb, hb0, lk_old hb0, b0]
  refine CThen.by (closed_no (m.length + 2) 0 (m.length + 3) 0 P Fs _ (by simp) ⟨.grow, 3, by simp only [push_cast, simprocAttr]⟩ hc) ?_
  simp only [push_cast, simprocAttr, hb, lk_old hb, hb0, lk_old hb0, b0]
  refine CThen.by (skin_no (m.length + 2) 0 (m.length + 3) 0 P Fs _ (by simp) ⟨.grow, 3, by simp only [push_cast, simprocAttr]⟩ ⟨.grow, 3, by simp only [push_cast, simprocAttr]⟩ (by omega) (by omega) hc) ?_
  simp only [push_cast, simprocAttr, hb, lk_old hb, hb0, lk_old hb0, b0]
  refine Thn_n ?_
  refine hK _ _ ?_
  clear hK K
  refine AW.ret ?_
  refine Thn_r ?_
  refine hQ _ _ _ ?_
  first | refine RetP.drop0 (Or.inr rfl) ?_ ?_ hwf | refine RetP.drop (Or.inr rfl) ?_ ?_ hwf
  · simp only [resA, resOne, resTv, AV.tv, push_cast, simprocAttr, hb, lk_old hb, hb0, lk_old hb0, b0]
  · rfl
theorem tells_ok (rp vp rf vf : Nat) (P Fs : List T3) (j p : Int) (m : AMem) (hpt : TRow m 24 rp vp P) (hf : TRow m 54 rf vf Fs) (h1 : P.length ≤ 40) (h2 : Fs.length ≤ 60) (hc : chk P.length Fs = 0) : Ctr Try.prog 5 [.agg [.sl rp vp 0 P.length, .sl rf vf 0 Fs.length], .one (.int .i64 j), .one (.int .i64 p)] m (.one (.bool true)) m := by
  refine Ctr.enter Try.func5 rfl (by decide) (rs := [.tmp 6]) (nt := 212) rfl rfl fun hwf Q hQ => ?_
  obtain ⟨k0, ez0, hb0⟩ := hpt.hb
  obtain ⟨k1, ez1, hb⟩ := hf.hb
  have hr0 := get_lt hb
  have hr1 := get_lt hb0
  have b0 : (chk P.length Fs != 0) = false := by simp [hc]
  have ok := chk_ok hc
  obtain ⟨T, hT⟩ : ∃ T, T = tally Fs Fs.length := ⟨_, rfl⟩
  have hTb : BK1 (T.map (·.1)) := by rw [hT]; exact tally_bk hc _
  have hTl : T.length ≤ 3072 := by rw [hT]; have := tally_len Fs Fs.length; omega
  obtain ⟨e1, e2⟩ := edges_eq hc
  rw [← hT] at e1 e2
  have hcl := csE_len T
  have hkl := ksE_len T
  have hre : ∀ m2 : AMem, rp < m2.length → TRow m2 54 rf vf Fs → Ctr Try.prog 29 [.agg [.sl rp vp 0 P.length, .sl rf vf 0 Fs.length]] m2 (.tup [(false, [.sl m2.length 0 0 T.length]), (false, [.sl (m2.length + 1) 0 0 T.length])]) (m2 ++ [⟨.grow, 75, 0, 2, pL (ksE T)⟩, ⟨.grow, 3, 0, 1, (csE T).map (CV.int .i64)⟩]) := fun m2 q1 q2 => by
    have := redges_c rp vp rf vf P Fs m2 q1 q2 (by omega) (by omega)
    rw [e2, e1, hkl] at this
    exact this
  have hq : ∀ x : Int, (x == x) = true := fun x => beq_self_eq_true x
  have hcl0 : decide ((0 : Int) < (T.length : Nat)) = clV T 0 := by
    unfold clV
    rw [List.take_zero, List.all_nil, Bool.and_true]
    exact decide_eq_decide.2 (by omega)
  
  refine AW.seq_k fun K hK => ?_
  refine AW.region (by decide) ?_
  simp only [push_cast, simprocAttr, hb, lk_old hb, hb0, lk_old hb0, b0, bne_self_eq_false, hcl0]
  refine Thn_n ?_
  refine hK _ _ ?_
  clear hK K
  refine AW.seq_k fun K hK => ?_
  refine AW.seq_k fun K hK => ?_
  refine AW.region (by decide) ?_
  simp only [push_cast, simprocAttr, hb, lk_old hb, hb0, lk_old hb0, b0, bne_self_eq_false, hcl0]
  refine CThen.by (light1_t (m.length + 1) 0 rp vp P.length rf vf Fs.length _ ⟨.grow, 2, by simp only [push_cast, simprocAttr]⟩ h1 h2) ?_
  simp only [push_cast, simprocAttr, hb, lk_old hb, hb0, lk_old hb0, b0, bne_self_eq_false, hcl0]
  refine Thn_n ?_
  refine hK _ _ ?_
  clear hK K
  refine AW.cond_f rfl ?_
  refine AW.skip ?_
  refine Thn_n ?_
  refine hK _ _ ?_
  clear hK K
  refine AW.seq_k fun K hK => ?_
  refine AW.region (by decide) ?_
  simp only [push_cast, simprocAttr, hb, lk_old hb, hb0, lk_old hb0, b0, bne_self_eq_false, hcl0]
  refine CThen.by (to33_c rp vp rf vf P Fs _ (by simp; omega) (hpt.mono _) (hf.mono _) (by omega) (by omega)) ?_
  simp only [push_cast, simprocAttr, hb, lk_old hb, hb0, lk_old hb0, b0, bne_self_eq_false, hcl0]
  refine Thn_n ?_
  refine hK _ _ ?_
  clear hK K
  refine AW.seq_k fun K hK => ?_
  refine AW.region (by decide) ?_
  simp only [push_cast, simprocAttr, hb, lk_old hb, hb0, lk_old hb0, b0, bne_self_eq_false, hcl0]
  refine CThen.by (edges_x (m.length + 2) 0 (m.length + 3) 0 P Fs _ (by simp) ⟨.grow, 3, by simp only [push_cast, simprocAttr]⟩ hc T hT hTb) ?_
  simp only [push_cast, simprocAttr, hb, lk_old hb, hb0, lk_old hb0, b0, bne_self_eq_false, hcl0]
  refine Thn_n ?_
  refine hK _ _ ?_
  clear hK K
  refine AW.seq_k fun K hK => ?_
  refine AW.region (by decide) ?_
  simp only [push_cast, simprocAttr, hb, lk_old hb, hb0, lk_old hb0, b0, bne_self_eq_false, hcl0]
  refine CThen.by (shapes_ok j p (m.length + 2) 0 (m.length + 3) 0 P Fs _ (by simp) ⟨.grow, 3, by simp only [push_cast, simprocAttr]⟩ ⟨.grow, 3, by simp only [push_cast, simprocAttr]⟩ (by omega) (by omega) hc) ?_
  simp only [push_cast, simprocAttr, hb, lk_old hb, hb0, lk_old hb0, b0, bne_self_eq_false, hcl0]
  refine Thn_n ?_
  refine hK _ _ ?_
  clear hK K
  refine AW.seq_k fun K hK => ?_
  refine AW.seq_k fun K hK => ?_
  refine AW.region (by decide) ?_
  simp only [push_cast, simprocAttr, hb, lk_old hb, hb0, lk_old hb0, b0, bne_self_eq_false, hcl0]
  refine CThen.by (rcheck_c rp vp rf vf P Fs _ (by simp; omega) (hf.mono _)) ?_
  simp only [push_cast, simprocAttr, hb, lk_old hb, hb0, lk_old hb0, b0, bne_self_eq_false, hcl0]
  refine Thn_n ?_
  refine hK _ _ ?_
  clear hK K
  refine AW.cond_f rfl ?_
  refine AW.skip ?_
  refine Thn_n ?_
  refine hK _ _ ?_
  clear hK K
  refine AW.seq_k fun K hK => ?_
  refine AW.region (by decide) ?_
  simp only [push_cast, simprocAttr, hb, lk_old hb, hb0, lk_old hb0, b0, bne_self_eq_false, hcl0]
  refine CThen.by (hre _ (by simp; omega) (hf.mono _)) ?_
  simp only [push_cast, simprocAttr, hb, lk_old hb, hb0, lk_old hb0, b0, bne_self_eq_false, hcl0]
  refine Thn_n ?_
  refine hK _ _ ?_
  clear hK K
  refine AW.seq_k fun K hK => ?_
  refine AW.seq_k fun K hK => ?_
  refine AW.region (by decide) ?_
  simp only [push_cast, simprocAttr, hb, lk_old hb, hb0, lk_old hb0, b0, bne_self_eq_false, hcl0]
  refine Thn_n ?_
  refine hK _ _ ?_
  clear hK K
  refine AW.cond_f rfl ?_
  refine AW.skip ?_
  refine Thn_n ?_
  refine hK _ _ ?_
  clear hK K
  refine AW.seq_k fun K hK => ?_
  refine AW.region (by decide) ?_
  simp only [push_cast, simprocAttr, hb, lk_old hb, hb0, lk_old hb0, b0, bne_self_eq_false, hcl0]
  refine Thn_n ?_
  refine hK _ _ ?_
  clear hK K
  refine AW.seq_k fun K hK => ?_
  refine AW.seq_k fun K hK => ?_
  refine AW.region (by decide) ?_
  simp only [push_cast, simprocAttr, hb, lk_old hb, hb0, lk_old hb0, b0, bne_self_eq_false, hcl0]
  refine Thn_n ?_
  refine hK _ _ ?_
  clear hK K
  refine AW.block ?_
  refine AW.loopK [1, 2, 3, 7, 8, 9, 10, 11, 12, 87] (fun i => i ≤ T.length) (fun i => [(13, .one (.bool (clV T i))), (88, .one (.int .i64 (i : Int)))]) (fun i => []) (fun i => T.length - i) 0 (by omega) ?_ ?_ fun i hi15 => ?_
  · first | rfl | (simp only [Keeps, Tm.get_cons, Nat.reduceEqDiff, ↓reduceIte, if_true, if_false, ite_true, ite_false, true_and, and_true, and_self, reduceCtorEq, Int.natCast_zero, hcl0] <;> rfl)
  · first | rfl | (simp only [setAll, push_cast, simprocAttr, hb, lk_old hb, hb0, lk_old hb0, b0, bne_self_eq_false, hcl0, Int.natCast_zero, hcl0] <;> rfl)
  try simp only [keepL, setAll, push_cast, simprocAttr, hb, lk_old hb, hb0, lk_old hb0, b0, bne_self_eq_false, hcl0]
  refine AW.seq_k fun K hK => ?_
  refine AW.region (by decide) ?_
  simp only [push_cast, simprocAttr, hb, lk_old hb, hb0, lk_old hb0, b0, bne_self_eq_false, hcl0]
  refine Thn_n ?_
  refine hK _ _ ?_
  clear hK K
  refine AW.seq_k fun K hK => ?_
  refine AW.cond rfl (fun h89 => ?_) (fun h89 => ?_)
  · have hlt : i < T.length := by have := of_decide_eq_true h89; omega
    have c1 : (0 : Int) ≤ (i : Int) := by omega
    have c2 : (i : Int) < (T.length : Nat) := by omega
    have c3 : i * 2 + 2 ≤ T.length * 2 := by omega
    obtain ⟨k, hk⟩ : ∃ k, (ksE T)[i]? = some k := ⟨_, List.getElem?_eq_getElem (by omega)⟩
    have g0 := pL_at hk
    have gl := pL_len (ksE T)
    rw [hkl] at gl
    obtain ⟨n, hn⟩ : ∃ n, (csE T)[i]? = some n := ⟨_, List.getElem?_eq_getElem (by omega)⟩
    have g1 : ((csE T).map (CV.int .i64))[i]? = some (.int .i64 n) := by rw [List.getElem?_map, hn]; rfl
    have hcs := clV_s hn
    refine AW.skip ?_
    refine Thn_n ?_
    refine hK _ _ ?_
    clear hK K
    refine AW.seq_k fun K hK => ?_
    refine AW.block ?_
    refine AW.seq_k fun K hK => ?_
    refine AW.region (by decide) ?_
    simp only [push_cast, simprocAttr, hb, lk_old hb, hb0, lk_old hb0, b0, bne_self_eq_false, hcl0, c1, c2, c3, g0, gl, g1, hq]
    refine Thn_n ?_
    refine hK _ _ ?_
    clear hK K
    refine AW.seq_k fun K hK => ?_
    refine AW.seq_k fun K hK => ?_
    refine AW.draw [.val, .val, .val, .rd 0, .val, .val, .val, .rd 0, .val, .val, .val, .val, .val, .rd 0, .val, .val, .val, .rd 0, .val, .val] fol (by decide) (by kernel_rfl) ?_
    simp only [push_cast, simprocAttr, hb, lk_old hb, hb0, lk_old hb0, b0, bne_self_eq_false, hcl0, c1, c2, c3, g0, gl, g1, hq]
    refine Thn_n ?_
    refine hK _ _ ?_
    clear hK K
    refine AW.cond_f rfl ?_
    refine AW.skip ?_
    refine Thn_n ?_
    refine hK _ _ ?_
    clear hK K
    rcases hb13 : clV T i with _ | _
    · refine AW.region (by decide) ?_
      simp only [push_cast, simprocAttr, hb, lk_old hb, hb0, lk_old hb0, b0, bne_self_eq_false, hcl0, c1, c2, c3, g0, gl, g1, hq, hcs]
      refine InB_n ?_
      refine Thn_n ?_
      refine hK _ _ ?_
      clear hK K
      refine AW.region (by decide) ?_
      simp only [push_cast, simprocAttr, hb, lk_old hb, hb0, lk_old hb0, b0, bne_self_eq_false, hcl0, c1, c2, c3, g0, gl, g1, hq, hcs]
      refine Thn_n ?_
      have hwi : IntKind.i64.wrap ((i:Int)+1) = (i:Int)+1 := wi (by omega)
      refine ⟨i + 1, by omega, by omega, ?_⟩
      try simp only [keepL, setAll, push_cast, simprocAttr, hb, lk_old hb, hb0, lk_old hb0, b0, bne_self_eq_false, hcl0, c1, c2, c3, g0, gl, g1, hq, hcs, hwi, hcs, hb13, Bool.false_and, Bool.true_and]
      exact Weak.same (by simp only [Keeps, Tm.get_cons, Nat.reduceEqDiff, ↓reduceIte, if_true, if_false, ite_true, ite_false, true_and, and_true, and_self, reduceCtorEq, hwi, hcs, hb13, Bool.false_and, Bool.true_and]) (by first | rfl | simp only [Keeps, Tm.get_cons, Nat.reduceEqDiff, ↓reduceIte, if_true, if_false, ite_true, ite_false, true_and, and_true, and_self, reduceCtorEq, hwi, hcs, hb13, Bool.false_and, Bool.true_and])
    · refine AW.region (by decide) ?_
      simp only [push_cast, simprocAttr, hb, lk_old hb, hb0, lk_old hb0, b0, bne_self_eq_false, hcl0, c1, c2, c3, g0, gl, g1, hq, hcs]
      refine InB_n ?_
      refine Thn_n ?_
      refine hK _ _ ?_
      clear hK K
      refine AW.region (by decide) ?_
      simp only [push_cast, simprocAttr, hb, lk_old hb, hb0, lk_old hb0, b0, bne_self_eq_false, hcl0, c1, c2, c3, g0, gl, g1, hq, hcs]
      refine Thn_n ?_
      have hwi : IntKind.i64.wrap ((i:Int)+1) = (i:Int)+1 := wi (by omega)
      refine ⟨i + 1, by omega, by omega, ?_⟩
      try simp only [keepL, setAll, push_cast, simprocAttr, hb, lk_old hb, hb0, lk_old hb0, b0, bne_self_eq_false, hcl0, c1, c2, c3, g0, gl, g1, hq, hcs, hwi, hcs, hb13, Bool.false_and, Bool.true_and]
      exact Weak.same (by simp only [Keeps, Tm.get_cons, Nat.reduceEqDiff, ↓reduceIte, if_true, if_false, ite_true, ite_false, true_and, and_true, and_self, reduceCtorEq, hwi, hcs, hb13, Bool.false_and, Bool.true_and]) (by first | rfl | simp only [Keeps, Tm.get_cons, Nat.reduceEqDiff, ↓reduceIte, if_true, if_false, ite_true, ite_false, true_and, and_true, and_self, reduceCtorEq, hwi, hcs, hb13, Bool.false_and, Bool.true_and])
  · have hin : i = T.length := by have := of_decide_eq_false h89; omega
    have hin2 := hin
    subst hin2
    refine AW.exit ?_
    refine Thn_e ?_
    clear hK K
    refine Thn_e ?_
    refine InB_here ?_
    refine Thn_n ?_
    refine hK _ _ ?_
    clear hK K
    refine AW.seq_k fun K hK => ?_
    refine AW.seq_k fun K hK => ?_
    refine AW.region (by decide) ?_
    simp only [push_cast, simprocAttr, hb, lk_old hb, hb0, lk_old hb0, b0, bne_self_eq_false, hcl0]
    refine Thn_n ?_
    refine hK _ _ ?_
    clear hK K
    refine AW.block ?_
    refine AW.loopK [1, 2, 3, 7, 13, 120, 121] (fun i => i ≤ Fs.length) (fun i => [(122, .one (.int .i64 (i : Int)))]) (fun i => []) (fun i => Fs.length - i) 0 (by omega) ?_ ?_ fun i hi24 => ?_
    · first | rfl | (simp only [Keeps, Tm.get_cons, Nat.reduceEqDiff, ↓reduceIte, if_true, if_false, ite_true, ite_false, true_and, and_true, and_self, reduceCtorEq, Int.natCast_zero] <;> rfl)
    · first | rfl | (simp only [setAll, push_cast, simprocAttr, hb, lk_old hb, hb0, lk_old hb0, b0, bne_self_eq_false, hcl0, Int.natCast_zero] <;> rfl)
    try simp only [keepL, setAll, push_cast, simprocAttr, hb, lk_old hb, hb0, lk_old hb0, b0, bne_self_eq_false, hcl0]
    refine AW.seq_k fun K hK => ?_
    refine AW.region (by decide) ?_
    simp only [push_cast, simprocAttr, hb, lk_old hb, hb0, lk_old hb0, b0, bne_self_eq_false, hcl0]
    refine Thn_n ?_
    refine hK _ _ ?_
    clear hK K
    refine AW.seq_k fun K hK => ?_
    refine AW.cond rfl (fun h123 => ?_) (fun h123 => ?_)
    · have hlt : i < Fs.length := by have := of_decide_eq_true h123; omega
      have c1 : (0 : Int) ≤ (i : Int) := by omega
      have c2 : (i : Int) < (Fs.length : Nat) := by omega
      have c3 : i * 3 + 3 ≤ Fs.length * 3 := by omega
      obtain ⟨t, ht⟩ : ∃ t, Fs[i]? = some t := ⟨_, List.getElem?_eq_getElem hlt⟩
      have g0 := tL_get0 ht
      have g1 := tL_get1 ht
      have g2 := tL_get2 ht
      have g3 := tL_at ht
      have gl := tL_len Fs
      have ho := ok t (List.mem_of_getElem? ht)
      unfold okF at ho
      obtain ⟨a, qa⟩ := Int.eq_ofNat_of_zero_le (show 0 ≤ t.1 by omega)
      have la : a < P.length := by omega
      obtain ⟨pa, wa⟩ : ∃ p, P[a]? = some p := ⟨_, List.getElem?_eq_getElem la⟩
      have ta := atP_at wa
      have ca : a * 3 + 3 ≤ P.length * 3 := by omega
      have za : (0 : Int) ≤ (a : Int) := by omega
      have ua : ((a : Nat) : Int) < (P.length : Nat) := by omega
      have va := tL_at wa
      obtain ⟨b, qb⟩ := Int.eq_ofNat_of_zero_le (show 0 ≤ t.2.1 by omega)
      have lb : b < P.length := by omega
      obtain ⟨pb, wb⟩ : ∃ p, P[b]? = some p := ⟨_, List.getElem?_eq_getElem lb⟩
      have tb := atP_at wb
      have cb : b * 3 + 3 ≤ P.length * 3 := by omega
      have zb : (0 : Int) ≤ (b : Int) := by omega
      have ub : ((b : Nat) : Int) < (P.length : Nat) := by omega
      have vb := tL_at wb
      obtain ⟨c, qc⟩ := Int.eq_ofNat_of_zero_le (show 0 ≤ t.2.2 by omega)
      have lc : c < P.length := by omega
      obtain ⟨pc, wc⟩ : ∃ p, P[c]? = some p := ⟨_, List.getElem?_eq_getElem lc⟩
      have tc := atP_at wc
      have cc : c * 3 + 3 ≤ P.length * 3 := by omega
      have zc : (0 : Int) ≤ (c : Int) := by omega
      have uc : ((c : Nat) : Int) < (P.length : Nat) := by omega
      have vc := tL_at wc
      have gpl := tL_len P
      have hsl := shL_len j p P Fs
      have c4 : i * 13 + 13 ≤ Fs.length * 13 := by omega
      have hsh : ((shL j p P Fs).drop (i * 13)).take 13 = [.int .i64 (j), .int .i64 (p), .int .i64 (1), .int .i64 (pa.1), .int .i64 (pa.2.1), .int .i64 (pa.2.2), .int .i64 (pb.1), .int .i64 (pb.2.1), .int .i64 (pb.2.2), .int .i64 (pc.1), .int .i64 (pc.2.1), .int .i64 (pc.2.2), .int .i64 (0)] := by
        rw [shL_at ht]; unfold shC; rw [qa, qb, qc, ta, tb, tc]
      refine AW.skip ?_
      refine Thn_n ?_
      refine hK _ _ ?_
      clear hK K
      refine AW.seq_k fun K hK => ?_
      refine AW.block ?_
      refine AW.seq_k fun K hK => ?_
      refine AW.region (by decide) ?_
      simp only [push_cast, simprocAttr, hb, lk_old hb, hb0, lk_old hb0, b0, bne_self_eq_false, hcl0, c1, c2, c3, g0, g1, g2, g3, gl, qa, qb, qc, ca, za, ua, va, cb, zb, ub, vb, cc, zc, uc, vc, gpl, hsl, c4, hsh, hq]
      refine Thn_n ?_
      refine hK _ _ ?_
      clear hK K
      refine AW.seq_k fun K hK => ?_
      refine AW.draw [.val, .val, .rd 0, .val, .val, .val, .val, .val, .rd 0, .val, .val, .val, .val, .val, .rd 0, .val, .val, .val, .val, .rd 0, .ext, .val, .rd 0, .val, .rd 0, .val, .val, .val, .rd 0, .val, .rd 0, .val, .val, .val, .val, .rd 1, .ext, .val, .rd 1, .val, .rd 1, .val, .val, .val, .rd 1, .val, .rd 1, .val, .val, .val, .val, .rd 2, .ext, .val, .rd 2, .val, .rd 2, .val, .val, .val, .rd 2, .val, .rd 2, .val, .val, .val, .val, .rd 3, .val, .val] fol (by decide) (by kernel_rfl) ?_
      simp only [List.append_eq, List.cons_append, List.nil_append]
      iterate 3
        simp only [push_cast, simprocAttr, hb, lk_old hb, hb0, lk_old hb0, b0, bne_self_eq_false, hcl0, c1, c2, c3, g0, g1, g2, g3, gl, qa, qb, qc, ca, za, ua, va, cb, zb, ub, vb, cc, zc, uc, vc, gpl, hsl, c4, hsh, hq]
        refine DCall.by0 (v2from_c _ _ _ _) ?_
      simp only [push_cast, simprocAttr, hb, lk_old hb, hb0, lk_old hb0, b0, bne_self_eq_false, hcl0, c1, c2, c3, g0, g1, g2, g3, gl, qa, qb, qc, ca, za, ua, va, cb, zb, ub, vb, cc, zc, uc, vc, gpl, hsl, c4, hsh, hq]
      refine Thn_n ?_
      refine hK _ _ ?_
      clear hK K
      refine AW.cond_f rfl ?_
      refine AW.skip ?_
      refine InB_n ?_
      refine Thn_n ?_
      refine hK _ _ ?_
      clear hK K
      refine AW.region (by decide) ?_
      simp only [push_cast, simprocAttr, hb, lk_old hb, hb0, lk_old hb0, b0, bne_self_eq_false, hcl0, c1, c2, c3, g0, g1, g2, g3, gl, qa, qb, qc, ca, za, ua, va, cb, zb, ub, vb, cc, zc, uc, vc, gpl, hsl, c4, hsh, hq]
      refine Thn_n ?_
      have hwi : IntKind.i64.wrap ((i:Int)+1) = (i:Int)+1 := wi (by omega)
      refine ⟨i + 1, by omega, by omega, ?_⟩
      try simp only [keepL, setAll, push_cast, simprocAttr, hb, lk_old hb, hb0, lk_old hb0, b0, bne_self_eq_false, hcl0, c1, c2, c3, g0, g1, g2, g3, gl, qa, qb, qc, ca, za, ua, va, cb, zb, ub, vb, cc, zc, uc, vc, gpl, hsl, c4, hsh, hq, hwi]
      exact Weak.to (extra := [_]) (by simp only [Keeps, Tm.get_cons, Nat.reduceEqDiff, ↓reduceIte, if_true, if_false, ite_true, ite_false, true_and, and_true, and_self, reduceCtorEq, hwi]) (by first | rfl | (simp only [List.append_assoc, List.cons_append, List.nil_append]; rfl)) (by first | rfl | (simp [AV.below, CV.below, tL_below, pL_below, ic_below, shL_below]; done) | (simp [AV.below, CV.below, tL_below, pL_below, ic_below, shL_below]; omega)) (by
        first | exact hwf | refine MWf.app (hwf.grow (by simp)) ?_
        repeat (first | exact MWf_nil | (refine MWf_cons ?_ ?_; · first | rfl | (simp [CV.below, tL_below, pL_below, ic_below, shL_below]; done) | (simp [CV.below, tL_below, pL_below, ic_below, shL_below]; omega))))
    · refine AW.exit ?_
      refine Thn_e ?_
      clear hK K
      refine Thn_e ?_
      refine InB_here ?_
      refine Thn_n ?_
      refine hK _ _ ?_
      clear hK K
      refine AW.seq_k fun K hK => ?_
      refine AW.draw [.ext, .val, .rd 1, .ext, .val, .val, .val, .val, .rd 2, .ext, .rd 2, .ext, .val, .val, .val] fol (by decide) (by kernel_rfl) ?_
      simp only [push_cast, simprocAttr, hb, lk_old hb, hb0, lk_old hb0, b0, bne_self_eq_false, hcl0]
      refine DCall.by0 (awakeL_c _) ?_
      simp only [push_cast, simprocAttr, hb, lk_old hb, hb0, lk_old hb0, b0, bne_self_eq_false, hcl0]
      refine DCall.by0 (closed_g (m.length + 2) 0 (m.length + 3) 0 P Fs _ (by simp) ⟨.grow, 3, by simp only [push_cast, simprocAttr]⟩ hc T hT) ?_
      simp only [push_cast, simprocAttr, hb, lk_old hb, hb0, lk_old hb0, b0, bne_self_eq_false, hcl0]
      refine DCall.by0 (skin_ok (m.length + 2) 0 (m.length + 3) 0 P Fs _ (by simp) ⟨.grow, 3, by simp only [push_cast, simprocAttr]⟩ ⟨.grow, 3, by simp only [push_cast, simprocAttr]⟩ (by omega) (by omega) hc) ?_
      simp only [push_cast, simprocAttr, hb, lk_old hb, hb0, lk_old hb0, b0, bne_self_eq_false, hcl0]
      refine DCall.by0 (rskin_ok rp vp rf vf P Fs _ (by simp; omega) (hpt.mono _) (hf.mono _) (by omega) (by omega) hc) ?_
      simp only [push_cast, simprocAttr, hb, lk_old hb, hb0, lk_old hb0, b0, bne_self_eq_false, hcl0]
      refine Thn_n ?_
      refine hK _ _ ?_
      clear hK K
      refine AW.ret ?_
      refine hQ _ _ _ ?_
      first | refine RetP.drop0 (Or.inr rfl) ?_ ?_ hwf | refine RetP.drop (Or.inr rfl) ?_ ?_ hwf
      · simp only [resA, resOne, resTv, AV.tv, push_cast, simprocAttr, hb, lk_old hb, hb0, lk_old hb0, b0, bne_self_eq_false, hcl0]
      · rfl
theorem tells_c (rp vp rf vf : Nat) (P Fs : List T3) (j p : Int) (m : AMem) (hpt : TRow m 24 rp vp P) (hf : TRow m 54 rf vf Fs) : Ctr Try.prog 5 [.agg [.sl rp vp 0 P.length, .sl rf vf 0 Fs.length], .one (.int .i64 j), .one (.int .i64 p)] m (.one (.bool true)) m := by
  by_cases h1 : P.length ≤ 40
  · by_cases h2 : Fs.length ≤ 60
    · by_cases hc : chk P.length Fs = 0
      · exact tells_ok rp vp rf vf P Fs j p m hpt hf h1 h2 hc
      · exact tells_no rp vp rf vf P Fs j p m hpt hf h1 h2 hc
    · exact tells_b rp vp rf vf P Fs j p m hpt hf h1 h2
  · exact tells_a rp vp rf vf P Fs j p m hpt hf h1
end Go.Proofs.Ytiogpaehelpmhaa

set_option linter.unusedSimpArgs false
set_option linter.unusedVariables false
set_option maxRecDepth 100000
set_option maxHeartbeats 4000000
namespace Go.Proofs.Ytiogpaehelpmhaa
open Go Go.Eng

/-- Two arms come together: some state of a kind. -/
theorem AW.condE {P : Program} {nt : Nat} {tm : Tm} {mem : AMem} {Q : Exit → Tm → AMem → Prop} {ι : Type} {c : Operand} {x y : Code} {b : Bool} (hc : opd tm c = .one (.bool b)) (keep : List Nat) (I : ι → Prop) (M : ι → AMem) (hl : ∀ j, I j → mem.length ≤ (M j).length)
    (ht : b = true → AW P nt x tm mem (Thn (fun tm' m' => ∃ j, I j ∧ Weak nt tm' m' (keepL tm keep) (M j)) Q)) (hf : b = false → AW P nt y tm mem (Thn (fun tm' m' => ∃ j, I j ∧ Weak nt tm' m' (keepL tm keep) (M j)) Q))
    (h : ∀ j, I j → Q .normal (keepL tm keep) (M j)) : AW P nt (.cond c x y) tm mem Q := by
  have go : ∀ {z : Code}, AW P nt z tm mem (Thn (fun tm' m' => ∃ j, I j ∧ Weak nt tm' m' (keepL tm keep) (M j)) Q) → AW P nt z tm mem Q := by
    intro z hz ρ a w hr
    refine wp_mono (hz ρ a w hr) ?_
    rintro e a' w' ⟨ρ', tm', mem', hr', hs, hd, hq⟩
    cases e with
    | normal =>
      obtain ⟨j, hj, hw⟩ := hq
      obtain ⟨ρ2, hr2, hs2⟩ := hw ρ' a' w' hr'
      exact ⟨ρ2, _, _, hr2, hs2 _ _ _ (hl j hj) hs, hd, h j hj⟩
    | _ => exact ⟨ρ', tm', mem', hr', hs, hd, hq⟩
  exact AW.cond hc (fun hb => go (ht hb)) (fun hb => go (hf hb))
theorem AW.anyMem {P : Program} {nt : Nat} {tm : Tm} {mem : AMem} {Q : Exit → Tm → AMem → Prop} {c : Code} (I : AMem → Prop) (h0 : I mem) (h : ∀ M, I M → AW P nt c tm M Q) : AW P nt c tm mem Q := h mem h0
/-- What the law holds between its steps: the boxes, the mesh's cell, the mesh's rows. -/
structure StL (m : AMem) (L : Nat) (b3 b4 : Blk) (r7 : Nat) (P Fs : List T3) (r1 v1 r2 v2 : Nat) (M : AMem) : Prop where
  ext : ∃ X, M = m ++ X
  len : L ≤ M.length
  g7 : m.length + 2 ≤ r7
  h3 : M[m.length]? = some b3
  h4 : M[m.length + 1]? = some b4
  h7 : M[r7]? = some ⟨.fix, 37, 0, 0, [.sl r1 v1 0 P.length, .sl r2 v2 0 Fs.length]⟩
  l1 : r1 < M.length
  p1 : TRow M 49 r1 v1 P
  p2 : TRow M 54 r2 v2 Fs
  n1 : r1 ≠ r7
  n2 : r2 ≠ r7
/-- The mesh's cell takes new rows. -/
theorem StL.put {m : AMem} {L : Nat} {b3 b4 : Blk} {r7 : Nat} {P Fs : List T3} {r1 v1 r2 v2 : Nat} {M : AMem} (h : StL m L b3 b4 r7 P Fs r1 v1 r2 v2 M) {X : AMem} {P' Fs' : List T3} {k1 k2 : BK} {e1 e2 s1 s2 w1 w2 : Nat}
    (hs1 : (M ++ X)[s1]? = some ⟨k1, 49, w1, e1, tL P'⟩) (hs2 : (M ++ X)[s2]? = some ⟨k2, 54, w2, e2, tL Fs'⟩) (q1 : s1 ≠ r7) (q2 : s2 ≠ r7) (L' : Nat) (hL : L' ≤ M.length) :
    StL m L' b3 b4 r7 P' Fs' s1 w1 s2 w2 ((M ++ X).set r7 ⟨.fix, 37, 0, 0, [.sl s1 w1 0 P'.length, .sl s2 w2 0 Fs'.length]⟩) := by
  obtain ⟨Y, hY⟩ := h.ext
  have l7 := get_lt h.h7
  have g7 := h.g7
  refine ⟨⟨(Y ++ X).set (r7 - m.length) ⟨.fix, 37, 0, 0, [.sl s1 w1 0 P'.length, .sl s2 w2 0 Fs'.length]⟩, ?_⟩, by rw [List.length_set, List.length_append]; omega, g7, ?_, ?_, ?_, ?_, ⟨k1, e1, ?_⟩, ⟨k2, e2, ?_⟩, q1, q2⟩
  · rw [hY, List.append_assoc, List.set_append_right _ _ (by omega)]
  · rw [List.getElem?_set_ne (by omega)]; exact lk_old h.h3 X
  · rw [List.getElem?_set_ne (by omega)]; exact lk_old h.h4 X
  · rw [List.getElem?_set_self (by rw [List.length_append]; omega)]
  · rw [List.length_set]; exact get_lt hs1
  · rw [List.getElem?_set_ne q1.symm]; exact hs1
  · rw [List.getElem?_set_ne q2.symm]; exact hs2
end Go.Proofs.Ytiogpaehelpmhaa

set_option linter.unusedSimpArgs false
set_option linter.unusedVariables false
set_option maxRecDepth 100000
set_option maxHeartbeats 4000000
namespace Go.Proofs.Ytiogpaehelpmhaa
open Go Go.Eng

/-- A loop whose rounds may end in any state of a kind. -/
theorem AW.loopX {P : Program} {nt : Nat} {tm : Tm} {mem : AMem} {Q : Exit → Tm → AMem → Prop} {ι : Type} {c : Code} (keep : List Nat) (I : ι → Prop) (V : ι → Tm) (M : ι → AMem) (μ : ι → Nat) (i : ι) (hi : I i) (hv : Keeps tm (V i)) (hm : M i = mem)
    (hl : ∀ j, I j → mem.length ≤ (M j).length)
    (h : ∀ i, I i → AW P nt c (V i ++ keepL tm keep) (M i) (Thn (fun tm' mem' => ∃ j, I j ∧ μ j < μ i ∧ Weak nt tm' mem' (V j ++ keepL tm keep) (M j)) Q)) : AW P nt (.loop c) tm mem Q := by
  subst hm
  refine AW.weak (tm' := V i ++ keepL tm keep) (Keeps.append hv (keeps_keepL _ _)) ?_
  exact AL.loop (AL.inv I (fun j => V j ++ keepL tm keep) M μ hl h (μ i) i hi (Nat.le_refl _))
/-- Meshes in a row. -/
structure MI where
  rp : Nat
  vp : Nat
  rf : Nat
  vf : Nat
  P : List T3
  F : List T3
def mC (x : MI) : List CV := [.sl x.rp x.vp 0 x.P.length, .sl x.rf x.vf 0 x.F.length]
def mL (l : List MI) : List CV := l.flatMap mC
theorem mL_len : ∀ l : List MI, (mL l).length = l.length * 2
  | [] => rfl
  | t :: l => by
    show (mC t ++ mL l).length = _
    rw [List.length_append, mL_len l, List.length_cons]
    show 2 + _ = _
    omega
theorem mL_drop : ∀ (l : List MI) (i : Nat), (mL l).drop (i * 2) = mL (l.drop i)
  | [], i => by simp [mL]
  | t :: l, 0 => by simp
  | t :: l, i + 1 => by
    show (mC t ++ mL l).drop _ = _
    rw [List.drop_append, List.drop_of_length_le (by show 2 ≤ _; omega), show (mC t).length = 2 from rfl, show (i + 1) * 2 - 2 = i * 2 by omega, List.nil_append, mL_drop l i]
    rfl
theorem mL_at {l : List MI} {i : Nat} {x : MI} (h : l[i]? = some x) : ((mL l).drop (i * 2)).take 2 = [.sl x.rp x.vp 0 x.P.length, .sl x.rf x.vf 0 x.F.length] := by
  obtain ⟨hlt, hg⟩ := List.getElem?_eq_some_iff.1 h
  rw [mL_drop, List.drop_eq_getElem_cons hlt, hg]
  rfl
theorem mL_get0 {l : List MI} {i : Nat} {x : MI} (h : l[i]? = some x) : (mL l)[i * 2]? = some (.sl x.rp x.vp 0 x.P.length) := by
  have := congrArg (fun c => c[0]?) (mL_at h)
  simpa [List.getElem?_take, List.getElem?_drop] using this
theorem mL_get1 {l : List MI} {i : Nat} {x : MI} (h : l[i]? = some x) : (mL l)[i * 2 + 1]? = some (.sl x.rf x.vf 0 x.F.length) := by
  have := congrArg (fun c => c[1]?) (mL_at h)
  simpa [List.getElem?_take, List.getElem?_drop] using this
theorem mL_snoc (l : List MI) (x : MI) : mL l ++ [.sl x.rp x.vp 0 x.P.length, .sl x.rf x.vf 0 x.F.length] = mL (l ++ [x]) := by simp [mL, mC]
theorem mL_below {L : Nat} : ∀ {l : List MI}, (∀ x, x ∈ l → x.rp < L ∧ x.rf < L) → (mL l).all (CV.below L) = true
  | [], _ => rfl
  | t :: l, h => by
    show (mC t ++ mL l).all _ = true
    have h1 := h t List.mem_cons_self
    rw [List.all_append, mL_below fun x hx => h x (List.mem_cons_of_mem _ hx)]
    simp [mC, CV.below, h1.1, h1.2]
/-- Where a row's meshes are. -/
structure MAt (m : AMem) (pt : Nat) (x : MI) : Prop where
  lp : x.rp < m.length
  lf : x.rf < m.length
  p : TRow m pt x.rp x.vp x.P
  f : TRow m 54 x.rf x.vf x.F
theorem MAt.mono {m : AMem} {pt : Nat} {x : MI} (h : MAt m pt x) (X : AMem) : MAt (m ++ X) pt x := ⟨by rw [List.length_append]; have := h.lp; omega, by rw [List.length_append]; have := h.lf; omega, h.p.mono X, h.f.mono X⟩
/-- Meshes as one: points, faces, what is wrong. -/
def jP (l : List MI) (i : Nat) : List T3 := (l.take i).flatMap (·.P)
def jF (l : List MI) : Nat → List T3
  | 0 => []
  | i + 1 => jF l i ++ (match l[i]? with | some x => x.F.map (shF (jP l i).length) | none => [])
def jnE (l : List MI) : Nat → Int
  | 0 => 0
  | i + 1 => if jnE l i ≠ 0 then jnE l i else match l[i]? with
    | some x => if chk x.P.length x.F ≠ 0 then chk x.P.length x.F else chk (jP l (i + 1)).length (jF l (i + 1))
    | none => 0
def jnR (l : List MI) : List T3 × List T3 × Int := if jnE l l.length = 0 then (jP l l.length, jF l l.length, 0) else ([], [], jnE l l.length)
theorem jP_s {l : List MI} {i : Nat} {x : MI} (h : l[i]? = some x) : jP l (i + 1) = jP l i ++ x.P := by
  unfold jP; rw [List.take_add_one, h]; simp
theorem jF_s {l : List MI} {i : Nat} {x : MI} (h : l[i]? = some x) : jF l (i + 1) = jF l i ++ x.F.map (shF (jP l i).length) := by
  show _ ++ (match l[i]? with | some x => _ | none => _) = _
  rw [h]
theorem jnE_s {l : List MI} {i : Nat} {x : MI} (h : l[i]? = some x) (h0 : jnE l i = 0) : jnE l (i + 1) = if chk x.P.length x.F ≠ 0 then chk x.P.length x.F else chk (jP l (i + 1)).length (jF l (i + 1)) := by
  show (if jnE l i ≠ 0 then _ else match l[i]? with | some x => _ | none => _) = _
  rw [h, if_neg (by omega)]
theorem jnE_stay {l : List MI} {i : Nat} (h : jnE l i ≠ 0) : ∀ d, jnE l (i + d) = jnE l i
  | 0 => rfl
  | d + 1 => by
    have ih := jnE_stay h d
    show (if jnE l (i + d) ≠ 0 then jnE l (i + d) else _) = _
    rw [if_pos (by rw [ih]; exact h), ih]
theorem jnR_bad {l : List MI} {i : Nat} {c : Int} (hi : i < l.length) (h : jnE l (i + 1) = c) (hc : c ≠ 0) : jnR l = ([], [], c) := by
  have h1 := jnE_stay (l := l) (i := i + 1) (by rw [h]; exact hc) (l.length - (i + 1))
  rw [show i + 1 + (l.length - (i + 1)) = l.length by omega, h] at h1
  unfold jnR; rw [h1, if_neg hc]
theorem jn_small {l : List MI} : ∀ {i : Nat}, i ≤ l.length → jnE l i = 0 → (jP l i).length ≤ 1024 ∧ (jF l i).length ≤ 1024
  | 0, _, _ => ⟨by simp [jP], by simp [jF]⟩
  | i + 1, hi, h => by
    obtain ⟨x, hx⟩ : ∃ x, l[i]? = some x := ⟨_, List.getElem?_eq_getElem (by omega)⟩
    have h0 : jnE l i = 0 := by
      rcases Classical.em (jnE l i = 0) with h0 | h0
      · exact h0
      · have := jnE_stay h0 1; omega
    rw [jnE_s hx h0] at h
    split at h
    · contradiction
    · have := chk_len h; omega
theorem jn_chk {l : List MI} : chk (jnR l).1.length (jnR l).2.1 = 0 := by
  unfold jnR
  split
  · rename_i h
    cases hn : l.length with
    | zero => show chk (jP l 0).length (jF l 0) = 0; rfl
    | succ n =>
      rw [hn] at h
      obtain ⟨x, hx⟩ : ∃ x, l[n]? = some x := ⟨_, List.getElem?_eq_getElem (by omega)⟩
      have h0 : jnE l n = 0 := by
        rcases Classical.em (jnE l n = 0) with h0 | h0
        · exact h0
        · have := jnE_stay h0 1; omega
      rw [jnE_s hx h0] at h
      split at h
      · contradiction
      · exact h
  · rfl
def ltB (l : List MI) : Bool := l.all (fun x => decide (x.P.length ≤ 40) && decide (x.F.length ≤ 60)) && decide (l.length ≤ 10)
end Go.Proofs.Ytiogpaehelpmhaa

set_option linter.unusedSimpArgs false
set_option linter.unusedVariables false
set_option maxRecDepth 100000
set_option maxHeartbeats 4000000
namespace Go.Proofs.Ytiogpaehelpmhaa
open Go Go.Eng

theorem light_c (r v : Nat) (l : List MI) (m : AMem) (hrow : ∃ k e, m[r]? = some ⟨k, 34, v, e, mL l⟩) (hn : l.length ≤ 1048576) : Ctr Try.prog 7 [.one (.sl r v 0 l.length)] m (.one (.bool (ltB l))) m := by
  refine Ctr.enter Try.func7 rfl (by decide) (rs := [.tmp 2]) (nt := 25) rfl rfl fun hwf Q hQ => ?_
  obtain ⟨k0, e0, hb⟩ := hrow
  have hrl := get_lt hb
  refine AW.seq_k fun K hK => ?_
  refine AW.region (by decide) ?_
  simp only [push_cast, simprocAttr, hb, lk_old hb]
  refine Thn_n ?_
  refine hK _ _ ?_
  clear hK K
  refine AW.seq_k fun K hK => ?_
  refine AW.seq_k fun K hK => ?_
  refine AW.region (by decide) ?_
  simp only [push_cast, simprocAttr, hb, lk_old hb]
  refine Thn_n ?_
  refine hK _ _ ?_
  clear hK K
  refine AW.block ?_
  refine AW.loopK [0, 5, 6] (fun i => i ≤ l.length ∧ ∀ j x, j < i → l[j]? = some x → x.P.length ≤ 40 ∧ x.F.length ≤ 60) (fun i => [(7, .one (.int .i64 (i : Int)))]) (fun i => []) (fun i => l.length - i) 0 ⟨Nat.zero_le _, fun j x h => absurd h (Nat.not_lt_zero _)⟩ ?_ ?_ fun i hi4 => ?_
  · first | rfl | (simp only [Keeps, Tm.get_cons, Nat.reduceEqDiff, ↓reduceIte, if_true, if_false, ite_true, ite_false, true_and, and_true, and_self, reduceCtorEq, Int.natCast_zero] <;> rfl)
  · first | rfl | (simp only [setAll, push_cast, simprocAttr, hb, lk_old hb, Int.natCast_zero] <;> rfl)
  obtain ⟨hiN, hall⟩ := hi4
  try simp only [keepL, setAll, push_cast, simprocAttr, hb, lk_old hb]
  refine AW.seq_k fun K hK => ?_
  refine AW.region (by decide) ?_
  simp only [push_cast, simprocAttr, hb, lk_old hb]
  refine Thn_n ?_
  refine hK _ _ ?_
  clear hK K
  refine AW.seq_k fun K hK => ?_
  refine AW.cond rfl (fun h8 => ?_) (fun h8 => ?_)
  · have hlt : i < l.length := by have := of_decide_eq_true h8; omega
    have c1 : (0 : Int) ≤ (i : Int) := by omega
    have c2 : (i : Int) < (l.length : Nat) := by omega
    have c3 : i * 2 + 2 ≤ l.length * 2 := by omega
    obtain ⟨x, hx⟩ : ∃ x, l[i]? = some x := ⟨_, List.getElem?_eq_getElem hlt⟩
    have g0 := mL_at hx
    have gl := mL_len l
    have hmem := List.mem_of_getElem? hx
    refine AW.skip ?_
    refine Thn_n ?_
    refine hK _ _ ?_
    clear hK K
    refine AW.seq_k fun K hK => ?_
    refine AW.block ?_
    refine AW.seq_k fun K hK => ?_
    refine AW.region (by decide) ?_
    simp only [push_cast, simprocAttr, hb, lk_old hb, c1, c2, c3, g0, gl]
    refine Thn_n ?_
    refine hK _ _ ?_
    clear hK K
    refine AW.seq_k fun K hK => ?_
    rcases (by omega : ¬ x.P.length ≤ 40 ∨ (x.P.length ≤ 40 ∧ ¬ x.F.length ≤ 60) ∨ (x.P.length ≤ 40 ∧ x.F.length ≤ 60)) with q1 | ⟨q1, q2⟩ | ⟨q1, q2⟩
    · have w1 : (40 : Int) < (x.P.length : Nat) := by omega
      have hr : ltB l = false := by
        unfold ltB
        rw [Bool.and_eq_false_iff]
        refine .inl ?_
        rw [List.all_eq_false]
        exact ⟨x, hmem, by simp [q1]⟩
      refine AW.region (by decide) ?_
      simp only [push_cast, simprocAttr, hb, lk_old hb, c1, c2, c3, g0, gl, w1]
      refine Thn_n ?_
      refine hK _ _ ?_
      clear hK K
      refine AW.cond_t rfl ?_
      refine AW.seq_k fun K hK => ?_
      refine AW.region (by decide) ?_
      simp only [push_cast, simprocAttr, hb, lk_old hb, c1, c2, c3, g0, gl, w1]
      refine Thn_n ?_
      refine hK _ _ ?_
      clear hK K
      refine AW.ret ?_
      refine InB_r ?_
      refine Thn_r ?_
      refine Thn_r ?_
      refine InB_r ?_
      refine Thn_r ?_
      refine hQ _ _ _ ?_
      first | refine RetP.drop0 (Or.inr rfl) ?_ ?_ hwf | refine RetP.drop (Or.inr rfl) ?_ ?_ hwf
      · simp only [resA, resOne, resTv, AV.tv, push_cast, simprocAttr, hb, lk_old hb, c1, c2, c3, g0, gl, w1, hr]
      · rfl
    · have w1 : ¬ (40 : Int) < (x.P.length : Nat) := by omega
      have w2 : (60 : Int) < (x.F.length : Nat) := by omega
      have hr : ltB l = false := by
        unfold ltB
        rw [Bool.and_eq_false_iff]
        refine .inl ?_
        rw [List.all_eq_false]
        exact ⟨x, hmem, by simp [q2]⟩
      refine AW.region (by decide) ?_
      simp only [push_cast, simprocAttr, hb, lk_old hb, c1, c2, c3, g0, gl, w1, w2]
      refine Thn_n ?_
      refine hK _ _ ?_
      clear hK K
      refine AW.cond_t rfl ?_
      refine AW.seq_k fun K hK => ?_
      refine AW.region (by decide) ?_
      simp only [push_cast, simprocAttr, hb, lk_old hb, c1, c2, c3, g0, gl, w1, w2]
      refine Thn_n ?_
      refine hK _ _ ?_
      clear hK K
      refine AW.ret ?_
      refine InB_r ?_
      refine Thn_r ?_
      refine Thn_r ?_
      refine InB_r ?_
      refine Thn_r ?_
      refine hQ _ _ _ ?_
      first | refine RetP.drop0 (Or.inr rfl) ?_ ?_ hwf | refine RetP.drop (Or.inr rfl) ?_ ?_ hwf
      · simp only [resA, resOne, resTv, AV.tv, push_cast, simprocAttr, hb, lk_old hb, c1, c2, c3, g0, gl, w1, w2, hr]
      · rfl
    · have w1 : ¬ (40 : Int) < (x.P.length : Nat) := by omega
      have w2 : ¬ (60 : Int) < (x.F.length : Nat) := by omega
      refine AW.region (by decide) ?_
      simp only [push_cast, simprocAttr, hb, lk_old hb, c1, c2, c3, g0, gl, w1, w2]
      refine Thn_n ?_
      refine hK _ _ ?_
      clear hK K
      refine AW.cond_f rfl ?_
      refine AW.skip ?_
      refine InB_n ?_
      refine Thn_n ?_
      refine hK _ _ ?_
      clear hK K
      refine AW.region (by decide) ?_
      simp only [push_cast, simprocAttr, hb, lk_old hb, c1, c2, c3, g0, gl, w1, w2]
      refine Thn_n ?_
      have hwi : IntKind.i64.wrap ((i:Int)+1) = (i:Int)+1 := wi (by omega)
      refine ⟨i + 1, ⟨by omega, fun j y hj hy => by
        rcases Nat.lt_or_ge j i with h | h
        · exact hall j y h hy
        · rw [show j = i by omega, hx] at hy; injection hy with hy; rw [← hy]; exact ⟨q1, q2⟩⟩, by omega, ?_⟩
      try simp only [keepL, setAll, push_cast, simprocAttr, hb, lk_old hb, c1, c2, c3, g0, gl, w1, w2, hwi]
      exact Weak.to (extra := [_]) (by simp only [Keeps, Tm.get_cons, Nat.reduceEqDiff, ↓reduceIte, if_true, if_false, ite_true, ite_false, true_and, and_true, and_self, reduceCtorEq, hwi]) (by first | rfl | (simp only [List.append_assoc, List.cons_append, List.nil_append]; rfl)) (by first | rfl | (simp [AV.below, CV.below]; done) | (simp [AV.below, CV.below]; omega)) (by
        first | exact hwf | refine MWf.app (hwf.grow (by simp)) ?_
        repeat (first | exact MWf_nil | (refine MWf_cons ?_ ?_; · first | rfl | (simp [CV.below]; done) | (simp [CV.below]; omega))))
  · have hin : i = l.length := by have := of_decide_eq_false h8; omega
    have hr : decide ((l.length : Int) ≤ 10) = ltB l := by
      unfold ltB
      have : l.all (fun x => decide (x.P.length ≤ 40) && decide (x.F.length ≤ 60)) = true := by
        rw [List.all_eq_true]
        intro x hx
        obtain ⟨j, hj⟩ := List.getElem?_of_mem hx
        have := hall j x (by have := (List.getElem?_eq_some_iff.1 hj).1; omega) hj
        simp [this]
      rw [this, Bool.true_and]
      exact decide_eq_decide.2 (by omega)
    refine AW.exit ?_
    refine Thn_e ?_
    clear hK K
    refine Thn_e ?_
    refine InB_here ?_
    refine Thn_n ?_
    refine hK _ _ ?_
    clear hK K
    refine AW.seq_k fun K hK => ?_
    refine AW.region (by decide) ?_
    simp only [push_cast, simprocAttr, hb, lk_old hb]
    refine Thn_n ?_
    refine hK _ _ ?_
    clear hK K
    refine AW.ret ?_
    refine hQ _ _ _ ?_
    first | refine RetP.drop0 (Or.inr rfl) ?_ ?_ hwf | refine RetP.drop (Or.inr rfl) ?_ ?_ hwf
    · simp only [resA, resOne, resTv, AV.tv, push_cast, simprocAttr, hb, lk_old hb, hr]
    · rfl
theorem join_c (r v : Nat) (l : List MI) (m : AMem) (hrow : ∃ k e, m[r]? = some ⟨k, 37, v, e, mL l⟩) (hl : ∀ x, x ∈ l → MAt m 49 x) (hn : l.length ≤ 1048576) : Ctr Try.prog 10 [.one (.sl r v 0 l.length)] m (.tup [(true, [.sl m.length 0 0 (jnR l).1.length, .sl (m.length + 1) 0 0 (jnR l).2.1.length]), (false, [.int .i64 (jnR l).2.2])]) (m ++ [⟨.grow, 49, 0, 3, tL (jnR l).1⟩, ⟨.grow, 54, 0, 3, tL (jnR l).2.1⟩]) := by
  refine Ctr.enter Try.func10 rfl (by decide) (rs := [.cell 2 37, .tmp 3]) (nt := 67) rfl rfl fun hwf Q hQ => ?_
  obtain ⟨k0, e0, hb⟩ := hrow
  have hrl := get_lt hb
  have hlt0 : ∀ k, ¬ m.length + k < m.length := fun k => by omega
  have hlt1 : ¬ m.length < m.length := Nat.lt_irrefl _
  have hp0 : jP l 0 = [] := rfl
  have hf0 : jF l 0 = [] := rfl
  iterate 2
    refine AW.seq_k fun K hK => ?_
    refine AW.region (by decide) ?_
    simp only [push_cast, simprocAttr, hb, lk_old hb]
    refine Thn_n ?_
    refine hK _ _ ?_
    clear hK K
  refine AW.seq_k fun K hK => ?_
  refine AW.seq_k fun K hK => ?_
  refine AW.nilCell 49 3 (m.length + 1) 0 (by simp only [push_cast, simprocAttr]; first | done | rfl) (by intro e; cases e) rfl ?_
  try simp only [push_cast, simprocAttr]
  refine AW.nilCell 54 3 (m.length + 1) 1 (by simp only [push_cast, simprocAttr]; first | done | rfl) (by intro e; cases e) rfl ?_
  try simp only [push_cast, simprocAttr]
  refine AW.region (by decide) ?_
  simp only [push_cast, simprocAttr, hb, lk_old hb]
  refine Thn_n ?_
  refine hK _ _ ?_
  clear hK K
  refine AW.block ?_
  refine AW.loopK [2, 4, 12, 13] (fun i => i ≤ l.length ∧ jnE l i = 0) (fun i => [(14, .one (.int .i64 (i : Int)))]) (fun i => [(m.length + 1, ⟨.fix, 37, 0, 0, [.sl (m.length + 2) (i) 0 (jP l i).length, .sl (m.length + 3) ((jF l i).length) 0 ((jF l i).length)]⟩), (m.length + 2, ⟨.grow, 49, i, 3, tL (jP l i)⟩), (m.length + 3, ⟨.grow, 54, (jF l i).length, 3, tL (jF l i)⟩)]) (fun i => l.length - i) 0 ⟨Nat.zero_le _, rfl⟩ ?_ ?_ fun i hi5 => ?_
  · first | rfl | (simp only [Keeps, Tm.get_cons, Nat.reduceEqDiff, ↓reduceIte, if_true, if_false, ite_true, ite_false, true_and, and_true, and_self, reduceCtorEq, Int.natCast_zero, hp0, hf0, List.length_nil, tL, List.flatMap_nil] <;> rfl)
  · first | rfl | (simp only [setAll, push_cast, simprocAttr, hb, lk_old hb, Int.natCast_zero, hp0, hf0, List.length_nil, tL, List.flatMap_nil] <;> rfl)
  obtain ⟨hiN, hj0⟩ := hi5
  try simp only [keepL, setAll, push_cast, simprocAttr, hb, lk_old hb]
  refine AW.seq_k fun K hK => ?_
  refine AW.region (by decide) ?_
  simp only [push_cast, simprocAttr, hb, lk_old hb]
  refine Thn_n ?_
  refine hK _ _ ?_
  clear hK K
  refine AW.seq_k fun K hK => ?_
  refine AW.cond rfl (fun h15 => ?_) (fun h15 => ?_)
  · have hlt : i < l.length := by have := of_decide_eq_true h15; omega
    have c1 : (0 : Int) ≤ (i : Int) := by omega
    have c2 : (i : Int) < (l.length : Nat) := by omega
    have c3 : i * 2 + 2 ≤ l.length * 2 := by omega
    obtain ⟨x, hx⟩ : ∃ x, l[i]? = some x := ⟨_, List.getElem?_eq_getElem hlt⟩
    have g0 := mL_at hx
    have gg0 := mL_get0 hx
    have gg1 := mL_get1 hx
    have gl := mL_len l
    obtain ⟨hx1, hx2, hx3, hx4⟩ := hl x (List.mem_of_getElem? hx)
    obtain ⟨kp, ep, hbp⟩ := hx3.hb
    obtain ⟨kf, ef, hbf⟩ := hx4.hb
    have hsm := jn_small hiN hj0
    have hPs := jP_s hx
    have hFs := jF_s hx
    have hEs := jnE_s hx hj0
    have tv := tL_vals x.P
    have tt := tL_take x.P
    have tl := tL_len x.P
    refine AW.skip ?_
    refine Thn_n ?_
    refine hK _ _ ?_
    clear hK K
    refine AW.seq_k fun K hK => ?_
    refine AW.block ?_
    refine AW.seq_k fun K hK => ?_
    refine AW.region (by decide) ?_
    simp only [push_cast, simprocAttr, hb, lk_old hb, c1, c2, c3, g0, gg0, gg1, gl, hbp, lk_old hbp, hbf, lk_old hbf, tv, tt, tl]
    refine Thn_n ?_
    refine hK _ _ ?_
    clear hK K
    refine AW.seq_k fun K hK => ?_
    refine AW.seq_k fun K hK => ?_
    refine AW.region (by decide) ?_
    simp only [push_cast, simprocAttr, hb, lk_old hb, c1, c2, c3, g0, gg0, gg1, gl, hbp, lk_old hbp, hbf, lk_old hbf, tv, tt, tl]
    refine CThen.by (check_c _ _ _ _ x.P x.F _ (by simp; omega) (hx4.mono _)) ?_
    simp only [push_cast, simprocAttr, hb, lk_old hb, c1, c2, c3, g0, gg0, gg1, gl, hbp, lk_old hbp, hbf, lk_old hbf, tv, tt, tl]
    refine Thn_n ?_
    refine hK _ _ ?_
    clear hK K
    refine AW.seq_k fun K hK => ?_
    refine AW.region (by decide) ?_
    simp only [push_cast, simprocAttr, hb, lk_old hb, c1, c2, c3, g0, gg0, gg1, gl, hbp, lk_old hbp, hbf, lk_old hbf, tv, tt, tl]
    refine Thn_n ?_
    refine hK _ _ ?_
    clear hK K
    refine AW.cond rfl (fun h21 => ?_) (fun h21 => ?_)
    · have hck : ¬ chk x.P.length x.F = 0 := by simpa using h21
      have hRa : jnR l = ([], [], chk x.P.length x.F) := jnR_bad hlt (by rw [hEs, if_pos hck]) hck
      refine AW.seq_k fun K hK => ?_
      refine AW.region (by decide) ?_
      simp only [push_cast, simprocAttr, hb, lk_old hb, c1, c2, c3, g0, gg0, gg1, gl, hbp, lk_old hbp, hbf, lk_old hbf, tv, tt, tl]
      refine Thn_n ?_
      refine hK _ _ ?_
      clear hK K
      refine AW.nilCell 49 3 (m.length) 0 (by simp only [push_cast, simprocAttr]; first | done | rfl) (by intro e; cases e) rfl ?_
      try simp only [push_cast, simprocAttr]
      refine AW.nilCell 54 3 (m.length) 1 (by simp only [push_cast, simprocAttr]; first | done | rfl) (by intro e; cases e) rfl ?_
      try simp only [push_cast, simprocAttr]
      refine AW.ret ?_
      refine Thn_r ?_
      refine InB_r ?_
      refine Thn_r ?_
      refine Thn_r ?_
      refine InB_r ?_
      refine Thn_r ?_
      refine hQ _ _ _ ?_
      rw [hRa]
      refine RetP.pick [(m.length + 5, 0), (m.length + 6, 0)] (Or.inr rfl) ?_ ?_ ?_ hwf ?_
      · simp only [resA, resOne, resTv, AV.tv, push_cast, simprocAttr]
        simp [renV, renT, renL, renC, renIdx, hlt0]
      · simp only [picks, push_cast, simprocAttr] <;> rfl
      · simp [distinctFrom]
      · exact MWf_cons (tL_below _ _) (MWf_one (tL_below _ _))
    · have hck : chk x.P.length x.F = 0 := by simpa using h21
      have hck2 := chk_len hck
      have hok := chk_ok hck
      have tl2 : (tL (jP l i)).length = (jP l i).length * 3 := tL_len _
      have hap : tL (jP l i) ++ tL x.P = tL (jP l i ++ x.P) := tL_app _ _
      have n3 : (jP l i).length + x.P.length ≤ 140737488355328 := by omega
      have n4 : ((jP l i).length + x.P.length) * 24 ≤ 140737488355328 := by omega
      refine AW.skip ?_
      iterate 2
        refine Thn_n ?_
        refine hK _ _ ?_
        clear hK K
        refine AW.seq_k fun K hK => ?_
        refine AW.region (by decide) ?_
        simp only [push_cast, simprocAttr, hb, lk_old hb, c1, c2, c3, g0, gg0, gg1, gl, hbp, lk_old hbp, hbf, lk_old hbf, tv, tt, tl, tl2, hap, n3, n4, List.nil_append, Nat.zero_add]
      refine Thn_n ?_
      refine hK _ _ ?_
      clear hK K
      refine AW.seq_k fun K hK => ?_
      refine AW.seq_k fun K hK => ?_
      refine AW.region (by decide) ?_
      simp only [push_cast, simprocAttr, hb, lk_old hb, c1, c2, c3, g0, gg0, gg1, gl, hbp, lk_old hbp, hbf, lk_old hbf, tv, tt, tl, tl2, hap, n3, n4, List.nil_append, Nat.zero_add]
      refine Thn_n ?_
      refine hK _ _ ?_
      clear hK K
      refine AW.block ?_
      refine AW.loopK [2, 4, 8, 12, 13, 14, 34, 35] (fun k => k ≤ x.F.length) (fun k => [(36, .one (.int .i64 (k : Int)))]) (fun k => [(m.length + 1, ⟨.fix, 37, 0, 0, [.sl (m.length + 2) (i + 1) 0 (jP l i ++ x.P).length, .sl (m.length + 3) ((jF l i).length + k) 0 ((jF l i).length + k)]⟩), (m.length + 2, ⟨.grow, 49, i + 1, 3, tL (jP l i ++ x.P)⟩), (m.length + 3, ⟨.grow, 54, (jF l i).length + k, 3, tL (jF l i ++ (x.F.map (shF (jP l i).length)).take k)⟩)]) (fun k => x.F.length - k) 0 (by omega) ?_ ?_ fun k hi18 => ?_
      · first | rfl | (simp only [Keeps, Tm.get_cons, Nat.reduceEqDiff, ↓reduceIte, if_true, if_false, ite_true, ite_false, true_and, and_true, and_self, reduceCtorEq, Int.natCast_zero, List.take_zero, List.append_nil, Nat.add_zero, List.length_append, Int.natCast_add] <;> rfl)
      · first | rfl | (simp only [setAll, push_cast, simprocAttr, hb, lk_old hb, c1, c2, c3, g0, gg0, gg1, gl, hbp, lk_old hbp, hbf, lk_old hbf, tv, tt, tl, tl2, hap, n3, n4, List.nil_append, Nat.zero_add, Int.natCast_zero, List.take_zero, List.append_nil, Nat.add_zero, List.length_append, Int.natCast_add] <;> rfl)
      have hkx : k ≤ x.F.length := hi18
      try simp only [keepL, setAll, push_cast, simprocAttr, hb, lk_old hb, c1, c2, c3, g0, gg0, gg1, gl, hbp, lk_old hbp, hbf, lk_old hbf, tv, tt, tl, tl2, hap, n3, n4, List.nil_append, Nat.zero_add]
      refine AW.seq_k fun K hK => ?_
      refine AW.region (by decide) ?_
      simp only [push_cast, simprocAttr, hb, lk_old hb, c1, c2, c3, g0, gg0, gg1, gl, hbp, lk_old hbp, hbf, lk_old hbf, tv, tt, tl, tl2, hap, n3, n4, List.nil_append, Nat.zero_add]
      refine Thn_n ?_
      refine hK _ _ ?_
      clear hK K
      refine AW.seq_k fun K hK => ?_
      refine AW.cond rfl (fun h37 => ?_) (fun h37 => ?_)
      · have hlk : k < x.F.length := by have := of_decide_eq_true h37; omega
        have d1 : (0 : Int) ≤ (k : Int) := by omega
        have d2 : (k : Int) < (x.F.length : Nat) := by omega
        have d3 : k * 3 + 3 ≤ x.F.length * 3 := by omega
        obtain ⟨t, ht⟩ : ∃ t, x.F[k]? = some t := ⟨_, List.getElem?_eq_getElem hlk⟩
        have u0 := tL_get0 ht
        have u1 := tL_get1 ht
        have u2 := tL_get2 ht
        have u3 := tL_at ht
        have ul := tL_len x.F
        have ho := hok t (List.mem_of_getElem? ht)
        have i0 := fv_in ho 0
        have i1 := fv_in ho 1
        have i2 := fv_in ho 2
        simp only [fv] at i0 i1 i2
        have w0 : IntKind.i64.wrap (t.1 + ((jP l i).length : Int)) = t.1 + ((jP l i).length : Int) := by rw [wi (by omega)]
        have w1 : IntKind.i64.wrap (t.2.1 + ((jP l i).length : Int)) = t.2.1 + ((jP l i).length : Int) := by rw [wi (by omega)]
        have w2 : IntKind.i64.wrap (t.2.2 + ((jP l i).length : Int)) = t.2.2 + ((jP l i).length : Int) := by rw [wi (by omega)]
        have hst : tL (jF l i ++ (x.F.map (shF (jP l i).length)).take k) ++ [.int .i64 (t.1 + (jP l i).length), .int .i64 (t.2.1 + (jP l i).length), .int .i64 (t.2.2 + (jP l i).length)] = tL (jF l i ++ (x.F.map (shF (jP l i).length)).take (k + 1)) := tk2_step ht
        have htk : (tL (jF l i ++ (x.F.map (shF (jP l i).length)).take k)).length = ((jF l i).length + k) * 3 := by rw [tL_len, List.length_append, List.length_take, List.length_map]; congr 2; omega
        have m1 : (jF l i).length + (k + 1) ≤ 140737488355328 := by omega
        have m2 : ((jF l i).length + (k + 1)) * 24 ≤ 140737488355328 := by omega
        refine AW.skip ?_
        refine Thn_n ?_
        refine hK _ _ ?_
        clear hK K
        refine AW.seq_k fun K hK => ?_
        refine AW.block ?_
        refine AW.seq_k fun K hK => ?_
        refine AW.region (by decide) ?_
        simp only [push_cast, simprocAttr, hb, lk_old hb, c1, c2, c3, g0, gg0, gg1, gl, hbp, lk_old hbp, hbf, lk_old hbf, tv, tt, tl, tl2, hap, n3, n4, List.nil_append, Nat.zero_add, d1, d2, d3, u0, u1, u2, u3, ul, htk, m1, m2, w0, w1, w2]
        refine Thn_n ?_
        refine hK _ _ ?_
        clear hK K
        refine AW.region (by decide) ?_
        simp only [push_cast, simprocAttr, hb, lk_old hb, c1, c2, c3, g0, gg0, gg1, gl, hbp, lk_old hbp, hbf, lk_old hbf, tv, tt, tl, tl2, hap, n3, n4, List.nil_append, Nat.zero_add, d1, d2, d3, u0, u1, u2, u3, ul, htk, m1, m2, w0, w1, w2]
        refine InB_n ?_
        refine Thn_n ?_
        refine hK _ _ ?_
        clear hK K
        refine AW.region (by decide) ?_
        simp only [push_cast, simprocAttr, hb, lk_old hb, c1, c2, c3, g0, gg0, gg1, gl, hbp, lk_old hbp, hbf, lk_old hbf, tv, tt, tl, tl2, hap, n3, n4, List.nil_append, Nat.zero_add, d1, d2, d3, u0, u1, u2, u3, ul, htk, m1, m2, w0, w1, w2]
        refine Thn_n ?_
        have hwk : IntKind.i64.wrap ((k:Int)+1) = (k:Int)+1 := wi (by omega)
        refine ⟨k + 1, by omega, by omega, ?_⟩
        try simp only [keepL, setAll, push_cast, simprocAttr, hb, lk_old hb, c1, c2, c3, g0, gg0, gg1, gl, hbp, lk_old hbp, hbf, lk_old hbf, tv, tt, tl, tl2, hap, n3, n4, List.nil_append, Nat.zero_add, d1, d2, d3, u0, u1, u2, u3, ul, htk, m1, m2, w0, w1, w2, hwk, hst]
        exact Weak.to (extra := [_, _]) (by simp only [Keeps, Tm.get_cons, Nat.reduceEqDiff, ↓reduceIte, if_true, if_false, ite_true, ite_false, true_and, and_true, and_self, reduceCtorEq, hwk, hst]) (by first | rfl | (simp only [List.append_assoc, List.cons_append, List.nil_append]; rfl)) (by first | rfl | (simp [AV.below, CV.below, tL_below]; done) | (simp [AV.below, CV.below, tL_below]; omega)) (by
          first | exact hwf | refine MWf.app (hwf.grow (by simp)) ?_
          repeat (first | exact MWf_nil | (refine MWf_cons ?_ ?_; · first | rfl | (simp [CV.below, tL_below]; done) | (simp [CV.below, tL_below]; omega))))
      · have hin : k = x.F.length := by have := of_decide_eq_false h37; omega
        subst hin
        have hta := take_all (shF (jP l i).length) x.F
        refine AW.exit ?_
        refine Thn_e ?_
        clear hK K
        refine Thn_e ?_
        refine InB_here ?_
        refine Thn_n ?_
        refine hK _ _ ?_
        clear hK K
        refine AW.seq_k fun K hK => ?_
        refine AW.region (by decide) ?_
        simp only [push_cast, simprocAttr, hb, lk_old hb, c1, c2, c3, g0, gg0, gg1, gl, hbp, lk_old hbp, hbf, lk_old hbf, tv, tt, tl, tl2, hap, n3, n4, List.nil_append, Nat.zero_add, hta]
        refine CThen.by (by
          have h := fun m2 => check_c (m.length + 2) (i + 1) (m.length + 3) ((jF l i).length + x.F.length) (jP l i ++ x.P) (jF l i ++ x.F.map (shF (jP l i).length)) m2
          simp only [List.length_append, List.length_map] at h
          exact h _ (by simp) ⟨.grow, 3, by simp only [push_cast, simprocAttr]⟩) ?_
        simp only [push_cast, simprocAttr, hb, lk_old hb, c1, c2, c3, g0, gg0, gg1, gl, hbp, lk_old hbp, hbf, lk_old hbf, tv, tt, tl, tl2, hap, n3, n4, List.nil_append, Nat.zero_add, hta]
        refine Thn_n ?_
        refine hK _ _ ?_
        clear hK K
        refine AW.seq_k fun K hK => ?_
        refine AW.region (by decide) ?_
        simp only [push_cast, simprocAttr, hb, lk_old hb, c1, c2, c3, g0, gg0, gg1, gl, hbp, lk_old hbp, hbf, lk_old hbf, tv, tt, tl, tl2, hap, n3, n4, List.nil_append, Nat.zero_add, hta]
        refine Thn_n ?_
        refine hK _ _ ?_
        clear hK K
        refine AW.cond rfl (fun h62 => ?_) (fun h62 => ?_)
        · have hcz : ¬ chk ((jP l i).length + x.P.length) (jF l i ++ x.F.map (shF (jP l i).length)) = 0 := by simpa using h62
          have hRb : jnR l = ([], [], chk ((jP l i).length + x.P.length) (jF l i ++ x.F.map (shF (jP l i).length))) := jnR_bad hlt (by rw [hEs, if_neg (by omega), hPs, hFs, List.length_append]) hcz
          refine AW.seq_k fun K hK => ?_
          refine AW.region (by decide) ?_
          simp only [push_cast, simprocAttr, hb, lk_old hb, c1, c2, c3, g0, gg0, gg1, gl, hbp, lk_old hbp, hbf, lk_old hbf, tv, tt, tl, tl2, hap, n3, n4, List.nil_append, Nat.zero_add, hta]
          refine Thn_n ?_
          refine hK _ _ ?_
          clear hK K
          refine AW.nilCell 49 3 (m.length) 0 (by simp only [push_cast, simprocAttr]; first | done | rfl) (by intro e; cases e) rfl ?_
          try simp only [push_cast, simprocAttr]
          refine AW.nilCell 54 3 (m.length) 1 (by simp only [push_cast, simprocAttr]; first | done | rfl) (by intro e; cases e) rfl ?_
          try simp only [push_cast, simprocAttr]
          refine AW.ret ?_
          refine InB_r ?_
          refine Thn_r ?_
          refine Thn_r ?_
          refine InB_r ?_
          refine Thn_r ?_
          refine hQ _ _ _ ?_
          rw [hRb]
          refine RetP.pick [(m.length + 5, 0), (m.length + 6, 0)] (Or.inr rfl) ?_ ?_ ?_ hwf ?_
          · simp only [resA, resOne, resTv, AV.tv, push_cast, simprocAttr]
            simp [renV, renT, renL, renC, renIdx, hlt0]
          · simp only [picks, push_cast, simprocAttr] <;> rfl
          · simp [distinctFrom]
          · exact MWf_cons (tL_below _ _) (MWf_one (tL_below _ _))
        · have hcz : chk ((jP l i).length + x.P.length) (jF l i ++ x.F.map (shF (jP l i).length)) = 0 := by simpa using h62
          have hj1 : jnE l (i + 1) = 0 := by rw [hEs, if_neg (by omega), hPs, hFs, List.length_append, hcz]
          refine AW.skip ?_
          refine InB_n ?_
          refine Thn_n ?_
          refine hK _ _ ?_
          clear hK K
          refine AW.region (by decide) ?_
          simp only [push_cast, simprocAttr, hb, lk_old hb, c1, c2, c3, g0, gg0, gg1, gl, hbp, lk_old hbp, hbf, lk_old hbf, tv, tt, tl, tl2, hap, n3, n4, List.nil_append, Nat.zero_add, hta]
          refine Thn_n ?_
          have hwi : IntKind.i64.wrap ((i:Int)+1) = (i:Int)+1 := wi (by omega)
          refine ⟨i + 1, ⟨by omega, hj1⟩, by omega, ?_⟩
          try simp only [keepL, setAll, push_cast, simprocAttr, hb, lk_old hb, c1, c2, c3, g0, gg0, gg1, gl, hbp, lk_old hbp, hbf, lk_old hbf, tv, tt, tl, tl2, hap, n3, n4, List.nil_append, Nat.zero_add, hta, hwi, hPs, hFs, List.length_append, List.length_map]
          exact Weak.to (extra := [_]) (by simp only [Keeps, Tm.get_cons, Nat.reduceEqDiff, ↓reduceIte, if_true, if_false, ite_true, ite_false, true_and, and_true, and_self, reduceCtorEq, hwi, hPs, hFs, List.length_append, List.length_map]) (by first | rfl | (simp only [List.append_assoc, List.cons_append, List.nil_append]; rfl)) (by first | rfl | (simp [AV.below, CV.below, tL_below]; done) | (simp [AV.below, CV.below, tL_below]; omega)) (by
            first | exact hwf | refine MWf.app (hwf.grow (by simp)) ?_
            repeat (first | exact MWf_nil | (refine MWf_cons ?_ ?_; · first | rfl | (simp [CV.below, tL_below]; done) | (simp [CV.below, tL_below]; omega))))
  · have hin : i = l.length := by have := of_decide_eq_false h15; omega
    have hin2 := hin
    subst hin2
    have hRc : jnR l = (jP l l.length, jF l l.length, 0) := by unfold jnR; rw [if_pos hj0]
    refine AW.exit ?_
    refine Thn_e ?_
    clear hK K
    refine Thn_e ?_
    refine InB_here ?_
    refine Thn_n ?_
    refine hK _ _ ?_
    clear hK K
    refine AW.seq_k fun K hK => ?_
    refine AW.region (by decide) ?_
    simp only [push_cast, simprocAttr, hb, lk_old hb]
    refine Thn_n ?_
    refine hK _ _ ?_
    clear hK K
    refine AW.ret ?_
    refine hQ _ _ _ ?_
    rw [hRc]
    refine RetP.pick [(m.length + 2, l.length), (m.length + 3, (jF l l.length).length)] (Or.inr rfl) ?_ ?_ ?_ hwf ?_
    · simp only [resA, resOne, resTv, AV.tv, push_cast, simprocAttr]
      simp [renV, renT, renL, renC, renIdx, hlt0]
    · simp only [picks, push_cast, simprocAttr] <;> rfl
    · simp [distinctFrom]
    · exact MWf_cons (tL_below _ _) (MWf_one (tL_below _ _))
theorem rjoin_c (r v : Nat) (l : List MI) (m : AMem) (hrow : ∃ k e, m[r]? = some ⟨k, 34, v, e, mL l⟩) (hl : ∀ x, x ∈ l → MAt m 24 x) (hn : l.length ≤ 1048576) : Ctr Try.prog 11 [.one (.sl r v 0 l.length)] m (.tup [(true, [.sl m.length 0 0 (jnR l).1.length, .sl (m.length + 1) 0 0 (jnR l).2.1.length]), (false, [.int .i64 (jnR l).2.2])]) (m ++ [⟨.grow, 24, 0, 3, tL (jnR l).1⟩, ⟨.grow, 54, 0, 3, tL (jnR l).2.1⟩]) := by
  refine Ctr.enter Try.func11 rfl (by decide) (rs := [.cell 2 34, .tmp 3]) (nt := 80) rfl rfl fun hwf Q hQ => ?_
  obtain ⟨k0, e0, hb⟩ := hrow
  have hrl := get_lt hb
  have hlt0 : ∀ k, ¬ m.length + k < m.length := fun k => by omega
  have hlt1 : ¬ m.length < m.length := Nat.lt_irrefl _
  have hp0 : jP l 0 = [] := rfl
  have hf0 : jF l 0 = [] := rfl
  iterate 2
    refine AW.seq_k fun K hK => ?_
    refine AW.region (by decide) ?_
    simp only [push_cast, simprocAttr, hb, lk_old hb]
    refine Thn_n ?_
    refine hK _ _ ?_
    clear hK K
  refine AW.seq_k fun K hK => ?_
  refine AW.seq_k fun K hK => ?_
  refine AW.nilCell 24 3 (m.length + 1) 0 (by simp only [push_cast, simprocAttr]; first | done | rfl) (by intro e; cases e) rfl ?_
  try simp only [push_cast, simprocAttr]
  refine AW.nilCell 54 3 (m.length + 1) 1 (by simp only [push_cast, simprocAttr]; first | done | rfl) (by intro e; cases e) rfl ?_
  try simp only [push_cast, simprocAttr]
  refine AW.region (by decide) ?_
  simp only [push_cast, simprocAttr, hb, lk_old hb]
  refine Thn_n ?_
  refine hK _ _ ?_
  clear hK K
  refine AW.block ?_
  refine AW.loopK [0, 2, 4] (fun i => i ≤ l.length ∧ jnE l i = 0) (fun i => [(5, .one (.int .i64 (i : Int)))]) (fun i => [(m.length + 1, ⟨.fix, 34, 0, 0, [.sl (m.length + 2) (i) 0 (jP l i).length, .sl (m.length + 3) ((jF l i).length) 0 ((jF l i).length)]⟩), (m.length + 2, ⟨.grow, 24, i, 3, tL (jP l i)⟩), (m.length + 3, ⟨.grow, 54, (jF l i).length, 3, tL (jF l i)⟩)]) (fun i => l.length - i) 0 ⟨Nat.zero_le _, rfl⟩ ?_ ?_ fun i hi5 => ?_
  · first | rfl | (simp only [Keeps, Tm.get_cons, Nat.reduceEqDiff, ↓reduceIte, if_true, if_false, ite_true, ite_false, true_and, and_true, and_self, reduceCtorEq, Int.natCast_zero, hp0, hf0, List.length_nil, tL, List.flatMap_nil] <;> rfl)
  · first | rfl | (simp only [setAll, push_cast, simprocAttr, hb, lk_old hb, Int.natCast_zero, hp0, hf0, List.length_nil, tL, List.flatMap_nil] <;> rfl)
  obtain ⟨hiN, hj0⟩ := hi5
  try simp only [keepL, setAll, push_cast, simprocAttr, hb, lk_old hb]
  refine AW.seq_k fun K hK => ?_
  refine AW.seq_k fun K hK => ?_
  refine AW.region (by decide) ?_
  simp only [push_cast, simprocAttr, hb, lk_old hb]
  refine Thn_n ?_
  refine hK _ _ ?_
  clear hK K
  refine AW.cond rfl (fun h13 => ?_) (fun h13 => ?_)
  · have hlt : i < l.length := by have := of_decide_eq_true h13; omega
    have c1 : (0 : Int) ≤ (i : Int) := by omega
    have c2 : (i : Int) < (l.length : Nat) := by omega
    have c3 : i * 2 + 2 ≤ l.length * 2 := by omega
    obtain ⟨x, hx⟩ : ∃ x, l[i]? = some x := ⟨_, List.getElem?_eq_getElem hlt⟩
    have g0 := mL_at hx
    have gg0 := mL_get0 hx
    have gg1 := mL_get1 hx
    have gl := mL_len l
    obtain ⟨hx1, hx2, hx3, hx4⟩ := hl x (List.mem_of_getElem? hx)
    obtain ⟨kp, ep, hbp⟩ := hx3.hb
    obtain ⟨kf, ef, hbf⟩ := hx4.hb
    have hsm := jn_small hiN hj0
    have hPs := jP_s hx
    have hFs := jF_s hx
    have hEs := jnE_s hx hj0
    have tv := tL_vals x.P
    have tt := tL_take x.P
    have tl := tL_len x.P
    refine AW.skip ?_
    refine Thn_n ?_
    refine hK _ _ ?_
    clear hK K
    refine AW.seq_k fun K hK => ?_
    refine AW.block ?_
    refine AW.seq_k fun K hK => ?_
    refine AW.region (by decide) ?_
    simp only [push_cast, simprocAttr, hb, lk_old hb, c1, c2, c3, g0, gg0, gg1, gl, hbp, lk_old hbp, hbf, lk_old hbf, tv, tt, tl]
    refine CThen.by (rcheck_c _ _ _ _ x.P x.F _ (by simp; omega) (hx4.mono _)) ?_
    simp only [push_cast, simprocAttr, hb, lk_old hb, c1, c2, c3, g0, gg0, gg1, gl, hbp, lk_old hbp, hbf, lk_old hbf, tv, tt, tl]
    refine Thn_n ?_
    refine hK _ _ ?_
    clear hK K
    refine AW.seq_k fun K hK => ?_
    refine AW.seq_k fun K hK => ?_
    refine AW.region (by decide) ?_
    simp only [push_cast, simprocAttr, hb, lk_old hb, c1, c2, c3, g0, gg0, gg1, gl, hbp, lk_old hbp, hbf, lk_old hbf, tv, tt, tl]
    refine Thn_n ?_
    refine hK _ _ ?_
    clear hK K
    refine AW.cond rfl (fun h22 => ?_) (fun h22 => ?_)
    · have hck : ¬ chk x.P.length x.F = 0 := by simpa using h22
      have hRa : jnR l = ([], [], chk x.P.length x.F) := jnR_bad hlt (by rw [hEs, if_pos hck]) hck
      refine AW.seq_k fun K hK => ?_
      refine AW.region (by decide) ?_
      simp only [push_cast, simprocAttr, hb, lk_old hb, c1, c2, c3, g0, gg0, gg1, gl, hbp, lk_old hbp, hbf, lk_old hbf, tv, tt, tl]
      refine Thn_n ?_
      refine hK _ _ ?_
      clear hK K
      refine AW.nilCell 24 3 (m.length) 0 (by simp only [push_cast, simprocAttr]; first | done | rfl) (by intro e; cases e) rfl ?_
      try simp only [push_cast, simprocAttr]
      refine AW.nilCell 54 3 (m.length) 1 (by simp only [push_cast, simprocAttr]; first | done | rfl) (by intro e; cases e) rfl ?_
      try simp only [push_cast, simprocAttr]
      refine AW.ret ?_
      refine Thn_r ?_
      refine InB_r ?_
      refine Thn_r ?_
      refine Thn_r ?_
      refine InB_r ?_
      refine Thn_r ?_
      refine hQ _ _ _ ?_
      rw [hRa]
      refine RetP.pick [(m.length + 4, 0), (m.length + 5, 0)] (Or.inr rfl) ?_ ?_ ?_ hwf ?_
      · simp only [resA, resOne, resTv, AV.tv, push_cast, simprocAttr]
        simp [renV, renT, renL, renC, renIdx, hlt0]
      · simp only [picks, push_cast, simprocAttr] <;> rfl
      · simp [distinctFrom]
      · exact MWf_cons (tL_below _ _) (MWf_one (tL_below _ _))
    · have hck : chk x.P.length x.F = 0 := by simpa using h22
      have hck2 := chk_len hck
      have hok := chk_ok hck
      have tl2 : (tL (jP l i)).length = (jP l i).length * 3 := tL_len _
      have hap : tL (jP l i) ++ tL x.P = tL (jP l i ++ x.P) := tL_app _ _
      have n3 : (jP l i).length + x.P.length ≤ 140737488355328 := by omega
      have n4 : ((jP l i).length + x.P.length) * 24 ≤ 140737488355328 := by omega
      refine AW.skip ?_
      refine Thn_n ?_
      refine hK _ _ ?_
      clear hK K
      refine AW.seq_k fun K hK => ?_
      refine AW.region (by decide) ?_
      simp only [push_cast, simprocAttr, hb, lk_old hb, c1, c2, c3, g0, gg0, gg1, gl, hbp, lk_old hbp, hbf, lk_old hbf, tv, tt, tl, tl2, hap, n3, n4, List.nil_append, Nat.zero_add]
      refine Thn_n ?_
      refine hK _ _ ?_
      clear hK K
      refine AW.seq_k fun K hK => ?_
      refine AW.draw [.val, .rd 0, .val, .val, .val, .val, .rd 0, .wr, .val, .wr] fol (by decide) (by kernel_rfl) ?_
      simp only [push_cast, simprocAttr, hb, lk_old hb, c1, c2, c3, g0, gg0, gg1, gl, hbp, lk_old hbp, hbf, lk_old hbf, tv, tt, tl, tl2, hap, n3, n4, List.nil_append, Nat.zero_add]
      refine Thn_n ?_
      refine hK _ _ ?_
      clear hK K
      refine AW.seq_k fun K hK => ?_
      refine AW.seq_k fun K hK => ?_
      refine AW.region (by decide) ?_
      simp only [push_cast, simprocAttr, hb, lk_old hb, c1, c2, c3, g0, gg0, gg1, gl, hbp, lk_old hbp, hbf, lk_old hbf, tv, tt, tl, tl2, hap, n3, n4, List.nil_append, Nat.zero_add]
      refine Thn_n ?_
      refine hK _ _ ?_
      clear hK K
      refine AW.block ?_
      refine AW.loopK [0, 2, 4, 5, 7] (fun k => k ≤ x.F.length) (fun k => [(8, .one (.int .i64 (k : Int)))]) (fun k => [(m.length + 1, ⟨.fix, 34, 0, 0, [.sl (m.length + 2) (i + 1) 0 (jP l i ++ x.P).length, .sl (m.length + 3) ((jF l i).length + k) 0 ((jF l i).length + k)]⟩), (m.length + 2, ⟨.grow, 24, i + 1, 3, tL (jP l i ++ x.P)⟩), (m.length + 3, ⟨.grow, 54, (jF l i).length + k, 3, tL (jF l i ++ (x.F.map (shF (jP l i).length)).take k)⟩)]) (fun k => x.F.length - k) 0 (by omega) ?_ ?_ fun k hi17 => ?_
      · first | rfl | (simp only [Keeps, Tm.get_cons, Nat.reduceEqDiff, ↓reduceIte, if_true, if_false, ite_true, ite_false, true_and, and_true, and_self, reduceCtorEq, Int.natCast_zero, List.take_zero, List.append_nil, Nat.add_zero, List.length_append, Int.natCast_add] <;> rfl)
      · first | rfl | (simp only [setAll, push_cast, simprocAttr, hb, lk_old hb, c1, c2, c3, g0, gg0, gg1, gl, hbp, lk_old hbp, hbf, lk_old hbf, tv, tt, tl, tl2, hap, n3, n4, List.nil_append, Nat.zero_add, Int.natCast_zero, List.take_zero, List.append_nil, Nat.add_zero, List.length_append, Int.natCast_add] <;> rfl)
      have hkx : k ≤ x.F.length := hi17
      try simp only [keepL, setAll, push_cast, simprocAttr, hb, lk_old hb, c1, c2, c3, g0, gg0, gg1, gl, hbp, lk_old hbp, hbf, lk_old hbf, tv, tt, tl, tl2, hap, n3, n4, List.nil_append, Nat.zero_add]
      refine AW.seq_k fun K hK => ?_
      refine AW.seq_k fun K hK => ?_
      refine AW.region (by decide) ?_
      simp only [push_cast, simprocAttr, hb, lk_old hb, c1, c2, c3, g0, gg0, gg1, gl, hbp, lk_old hbp, hbf, lk_old hbf, tv, tt, tl, tl2, hap, n3, n4, List.nil_append, Nat.zero_add]
      refine Thn_n ?_
      refine hK _ _ ?_
      clear hK K
      refine AW.cond rfl (fun h44 => ?_) (fun h44 => ?_)
      · have hlk : k < x.F.length := by have := of_decide_eq_true h44; omega
        have d1 : (0 : Int) ≤ (k : Int) := by omega
        have d2 : (k : Int) < (x.F.length : Nat) := by omega
        have d3 : k * 3 + 3 ≤ x.F.length * 3 := by omega
        obtain ⟨t, ht⟩ : ∃ t, x.F[k]? = some t := ⟨_, List.getElem?_eq_getElem hlk⟩
        have u0 := tL_get0 ht
        have u1 := tL_get1 ht
        have u2 := tL_get2 ht
        have u3 := tL_at ht
        have ul := tL_len x.F
        have ho := hok t (List.mem_of_getElem? ht)
        have i0 := fv_in ho 0
        have i1 := fv_in ho 1
        have i2 := fv_in ho 2
        simp only [fv] at i0 i1 i2
        have w0 : IntKind.i64.wrap (((jP l i).length : Int) + t.1) = t.1 + ((jP l i).length : Int) := by rw [wi (by omega)]; omega
        have w1 : IntKind.i64.wrap (((jP l i).length : Int) + t.2.1) = t.2.1 + ((jP l i).length : Int) := by rw [wi (by omega)]; omega
        have w2 : IntKind.i64.wrap (((jP l i).length : Int) + t.2.2) = t.2.2 + ((jP l i).length : Int) := by rw [wi (by omega)]; omega
        have hst : tL (jF l i ++ (x.F.map (shF (jP l i).length)).take k) ++ [.int .i64 (t.1 + (jP l i).length), .int .i64 (t.2.1 + (jP l i).length), .int .i64 (t.2.2 + (jP l i).length)] = tL (jF l i ++ (x.F.map (shF (jP l i).length)).take (k + 1)) := tk2_step ht
        have htk : (tL (jF l i ++ (x.F.map (shF (jP l i).length)).take k)).length = ((jF l i).length + k) * 3 := by rw [tL_len, List.length_append, List.length_take, List.length_map]; congr 2; omega
        have m1 : (jF l i).length + (k + 1) ≤ 140737488355328 := by omega
        have m2 : ((jF l i).length + (k + 1)) * 24 ≤ 140737488355328 := by omega
        refine AW.skip ?_
        refine Thn_n ?_
        refine hK _ _ ?_
        clear hK K
        refine AW.seq_k fun K hK => ?_
        refine AW.block ?_
        refine AW.seq_k fun K hK => ?_
        refine AW.region (by decide) ?_
        simp only [push_cast, simprocAttr, hb, lk_old hb, c1, c2, c3, g0, gg0, gg1, gl, hbp, lk_old hbp, hbf, lk_old hbf, tv, tt, tl, tl2, hap, n3, n4, List.nil_append, Nat.zero_add, d1, d2, d3, u0, u1, u2, u3, ul, htk, m1, m2, w0, w1, w2]
        refine Thn_n ?_
        refine hK _ _ ?_
        clear hK K
        refine AW.region (by decide) ?_
        simp only [push_cast, simprocAttr, hb, lk_old hb, c1, c2, c3, g0, gg0, gg1, gl, hbp, lk_old hbp, hbf, lk_old hbf, tv, tt, tl, tl2, hap, n3, n4, List.nil_append, Nat.zero_add, d1, d2, d3, u0, u1, u2, u3, ul, htk, m1, m2, w0, w1, w2]
        refine InB_n ?_
        refine Thn_n ?_
        refine hK _ _ ?_
        clear hK K
        refine AW.region (by decide) ?_
        simp only [push_cast, simprocAttr, hb, lk_old hb, c1, c2, c3, g0, gg0, gg1, gl, hbp, lk_old hbp, hbf, lk_old hbf, tv, tt, tl, tl2, hap, n3, n4, List.nil_append, Nat.zero_add, d1, d2, d3, u0, u1, u2, u3, ul, htk, m1, m2, w0, w1, w2]
        refine Thn_n ?_
        have hwk : IntKind.i64.wrap ((k:Int)+1) = (k:Int)+1 := wi (by omega)
        refine ⟨k + 1, by omega, by omega, ?_⟩
        try simp only [keepL, setAll, push_cast, simprocAttr, hb, lk_old hb, c1, c2, c3, g0, gg0, gg1, gl, hbp, lk_old hbp, hbf, lk_old hbf, tv, tt, tl, tl2, hap, n3, n4, List.nil_append, Nat.zero_add, d1, d2, d3, u0, u1, u2, u3, ul, htk, m1, m2, w0, w1, w2, hwk, hst]
        exact Weak.to (extra := [_, _]) (by simp only [Keeps, Tm.get_cons, Nat.reduceEqDiff, ↓reduceIte, if_true, if_false, ite_true, ite_false, true_and, and_true, and_self, reduceCtorEq, hwk, hst]) (by first | rfl | (simp only [List.append_assoc, List.cons_append, List.nil_append]; rfl)) (by first | rfl | (simp [AV.below, CV.below, tL_below]; done) | (simp [AV.below, CV.below, tL_below]; omega)) (by
          first | exact hwf | refine MWf.app (hwf.grow (by simp)) ?_
          repeat (first | exact MWf_nil | (refine MWf_cons ?_ ?_; · first | rfl | (simp [CV.below, tL_below]; done) | (simp [CV.below, tL_below]; omega))))
      · have hin : k = x.F.length := by have := of_decide_eq_false h44; omega
        subst hin
        have hta := take_all (shF (jP l i).length) x.F
        refine AW.exit ?_
        refine Thn_e ?_
        clear hK K
        refine Thn_e ?_
        refine InB_here ?_
        refine Thn_n ?_
        refine hK _ _ ?_
        clear hK K
        refine AW.seq_k fun K hK => ?_
        refine AW.region (by decide) ?_
        simp only [push_cast, simprocAttr, hb, lk_old hb, c1, c2, c3, g0, gg0, gg1, gl, hbp, lk_old hbp, hbf, lk_old hbf, tv, tt, tl, tl2, hap, n3, n4, List.nil_append, Nat.zero_add, hta]
        refine CThen.by (by
          have h := fun m2 => rcheck_c (m.length + 2) (i + 1) (m.length + 3) ((jF l i).length + x.F.length) (jP l i ++ x.P) (jF l i ++ x.F.map (shF (jP l i).length)) m2
          simp only [List.length_append, List.length_map] at h
          exact h _ (by simp) ⟨.grow, 3, by simp only [push_cast, simprocAttr]⟩) ?_
        simp only [push_cast, simprocAttr, hb, lk_old hb, c1, c2, c3, g0, gg0, gg1, gl, hbp, lk_old hbp, hbf, lk_old hbf, tv, tt, tl, tl2, hap, n3, n4, List.nil_append, Nat.zero_add, hta]
        refine Thn_n ?_
        refine hK _ _ ?_
        clear hK K
        refine AW.seq_k fun K hK => ?_
        refine AW.region (by decide) ?_
        simp only [push_cast, simprocAttr, hb, lk_old hb, c1, c2, c3, g0, gg0, gg1, gl, hbp, lk_old hbp, hbf, lk_old hbf, tv, tt, tl, tl2, hap, n3, n4, List.nil_append, Nat.zero_add, hta]
        refine Thn_n ?_
        refine hK _ _ ?_
        clear hK K
        refine AW.cond rfl (fun h76 => ?_) (fun h76 => ?_)
        · have hcz : ¬ chk ((jP l i).length + x.P.length) (jF l i ++ x.F.map (shF (jP l i).length)) = 0 := by simpa using h76
          have hRb : jnR l = ([], [], chk ((jP l i).length + x.P.length) (jF l i ++ x.F.map (shF (jP l i).length))) := jnR_bad hlt (by rw [hEs, if_neg (by omega), hPs, hFs, List.length_append]) hcz
          refine AW.seq_k fun K hK => ?_
          refine AW.region (by decide) ?_
          simp only [push_cast, simprocAttr, hb, lk_old hb, c1, c2, c3, g0, gg0, gg1, gl, hbp, lk_old hbp, hbf, lk_old hbf, tv, tt, tl, tl2, hap, n3, n4, List.nil_append, Nat.zero_add, hta]
          refine Thn_n ?_
          refine hK _ _ ?_
          clear hK K
          refine AW.nilCell 24 3 (m.length) 0 (by simp only [push_cast, simprocAttr]; first | done | rfl) (by intro e; cases e) rfl ?_
          try simp only [push_cast, simprocAttr]
          refine AW.nilCell 54 3 (m.length) 1 (by simp only [push_cast, simprocAttr]; first | done | rfl) (by intro e; cases e) rfl ?_
          try simp only [push_cast, simprocAttr]
          refine AW.ret ?_
          refine InB_r ?_
          refine Thn_r ?_
          refine Thn_r ?_
          refine InB_r ?_
          refine Thn_r ?_
          refine hQ _ _ _ ?_
          rw [hRb]
          refine RetP.pick [(m.length + 4, 0), (m.length + 5, 0)] (Or.inr rfl) ?_ ?_ ?_ hwf ?_
          · simp only [resA, resOne, resTv, AV.tv, push_cast, simprocAttr]
            simp [renV, renT, renL, renC, renIdx, hlt0]
          · simp only [picks, push_cast, simprocAttr] <;> rfl
          · simp [distinctFrom]
          · exact MWf_cons (tL_below _ _) (MWf_one (tL_below _ _))
        · have hcz : chk ((jP l i).length + x.P.length) (jF l i ++ x.F.map (shF (jP l i).length)) = 0 := by simpa using h76
          have hj1 : jnE l (i + 1) = 0 := by rw [hEs, if_neg (by omega), hPs, hFs, List.length_append, hcz]
          refine AW.skip ?_
          refine InB_n ?_
          refine Thn_n ?_
          refine hK _ _ ?_
          clear hK K
          refine AW.region (by decide) ?_
          simp only [push_cast, simprocAttr, hb, lk_old hb, c1, c2, c3, g0, gg0, gg1, gl, hbp, lk_old hbp, hbf, lk_old hbf, tv, tt, tl, tl2, hap, n3, n4, List.nil_append, Nat.zero_add, hta]
          refine Thn_n ?_
          have hwi : IntKind.i64.wrap ((i:Int)+1) = (i:Int)+1 := wi (by omega)
          refine ⟨i + 1, ⟨by omega, hj1⟩, by omega, ?_⟩
          try simp only [keepL, setAll, push_cast, simprocAttr, hb, lk_old hb, c1, c2, c3, g0, gg0, gg1, gl, hbp, lk_old hbp, hbf, lk_old hbf, tv, tt, tl, tl2, hap, n3, n4, List.nil_append, Nat.zero_add, hta, hwi, hPs, hFs, List.length_append, List.length_map]
          exact Weak.same (by simp only [Keeps, Tm.get_cons, Nat.reduceEqDiff, ↓reduceIte, if_true, if_false, ite_true, ite_false, true_and, and_true, and_self, reduceCtorEq, hwi, hPs, hFs, List.length_append, List.length_map]) (by first | rfl | simp only [Keeps, Tm.get_cons, Nat.reduceEqDiff, ↓reduceIte, if_true, if_false, ite_true, ite_false, true_and, and_true, and_self, reduceCtorEq, hwi, hPs, hFs, List.length_append, List.length_map])
  · have hin : i = l.length := by have := of_decide_eq_false h13; omega
    have hin2 := hin
    subst hin2
    have hRc : jnR l = (jP l l.length, jF l l.length, 0) := by unfold jnR; rw [if_pos hj0]
    refine AW.exit ?_
    refine Thn_e ?_
    clear hK K
    refine Thn_e ?_
    refine InB_here ?_
    refine Thn_n ?_
    refine hK _ _ ?_
    clear hK K
    refine AW.seq_k fun K hK => ?_
    refine AW.region (by decide) ?_
    simp only [push_cast, simprocAttr, hb, lk_old hb]
    refine Thn_n ?_
    refine hK _ _ ?_
    clear hK K
    refine AW.ret ?_
    refine hQ _ _ _ ?_
    rw [hRc]
    refine RetP.pick [(m.length + 2, l.length), (m.length + 3, (jF l l.length).length)] (Or.inr rfl) ?_ ?_ ?_ hwf ?_
    · simp only [resA, resOne, resTv, AV.tv, push_cast, simprocAttr]
      simp [renV, renT, renL, renC, renIdx, hlt0]
    · simp only [picks, push_cast, simprocAttr] <;> rfl
    · simp [distinctFrom]
    · exact MWf_cons (tL_below _ _) (MWf_one (tL_below _ _))
end Go.Proofs.Ytiogpaehelpmhaa

set_option linter.unusedSimpArgs false
set_option linter.unusedVariables false
set_option maxRecDepth 100000
set_option maxHeartbeats 4000000
namespace Go.Proofs.Ytiogpaehelpmhaa
open Go Go.Eng

theorem rturned_c (rp vp rf vf : Nat) (P Fs : List T3) (m : AMem) (hp : rp < m.length) (hq : rf < m.length) (hpt : TRow m 24 rp vp P) (hf : TRow m 54 rf vf Fs) (hP : P.length ≤ 4096) (hF : Fs.length ≤ 4096) : Ctr Try.prog 22 [.agg [.sl rp vp 0 P.length, .sl rf vf 0 Fs.length]] m (.agg [.sl rp vp 0 P.length, .sl m.length 0 0 Fs.length]) (m ++ [⟨.grow, 54, 0, 3, tL (Fs.map trF)⟩]) := by
  refine Ctr.enter Try.func22 rfl (by decide) (rs := [.cell 2 34]) (nt := 40) rfl rfl fun hwf Q hQ => ?_
  obtain ⟨k0, ez0, hb0⟩ := hpt.hb
  obtain ⟨k1, ez1, hb⟩ := hf.hb
  have hlt0 : ∀ k, ¬ m.length + k < m.length := fun k => by omega
  have hta := take_all trF Fs
  iterate 2
    refine AW.seq_k fun K hK => ?_
    refine AW.region (by decide) ?_
    simp only [push_cast, simprocAttr, hb, lk_old hb, hb0, lk_old hb0]
    refine Thn_n ?_
    refine hK _ _ ?_
    clear hK K
  refine AW.seq_k fun K hK => ?_
  refine AW.seq_k fun K hK => ?_
  refine AW.nilCell 54 3 (m.length + 2) 1 (by simp only [push_cast, simprocAttr]; first | done | rfl) (by intro e; cases e) rfl ?_
  try simp only [push_cast, simprocAttr]
  refine AW.region (by decide) ?_
  simp only [push_cast, simprocAttr, hb, lk_old hb, hb0, lk_old hb0]
  refine Thn_n ?_
  refine hK _ _ ?_
  clear hK K
  refine AW.block ?_
  refine AW.loopK [1, 2, 3] (fun i => i ≤ Fs.length) (fun i => [(4, .one (.int .i64 (i : Int)))]) (fun i => [(m.length + 2, ⟨.fix, 34, 0, 0, [.sl rp vp 0 P.length, .sl (m.length + 3) i 0 i]⟩), (m.length + 3, ⟨.grow, 54, i, 3, tL ((Fs.map trF).take i)⟩)]) (fun i => Fs.length - i) 0 (by omega) ?_ ?_ fun i hi5 => ?_
  · first | rfl | (simp only [Keeps, Tm.get_cons, Nat.reduceEqDiff, ↓reduceIte, if_true, if_false, ite_true, ite_false, true_and, and_true, and_self, reduceCtorEq, Int.natCast_zero, List.take_zero, tL, List.flatMap_nil] <;> rfl)
  · first | rfl | (simp only [setAll, push_cast, simprocAttr, hb, lk_old hb, hb0, lk_old hb0, Int.natCast_zero, List.take_zero, tL, List.flatMap_nil] <;> rfl)
  try simp only [keepL, setAll, push_cast, simprocAttr, hb, lk_old hb, hb0, lk_old hb0]
  refine AW.seq_k fun K hK => ?_
  refine AW.seq_k fun K hK => ?_
  refine AW.region (by decide) ?_
  simp only [push_cast, simprocAttr, hb, lk_old hb, hb0, lk_old hb0]
  refine Thn_n ?_
  refine hK _ _ ?_
  clear hK K
  refine AW.cond rfl (fun h12 => ?_) (fun h12 => ?_)
  · have hlt : i < Fs.length := by have := of_decide_eq_true h12; omega
    have c1 : (0 : Int) ≤ (i : Int) := by omega
    have c2 : (i : Int) < (Fs.length : Nat) := by omega
    have c3 : i * 3 + 3 ≤ Fs.length * 3 := by omega
    have m1 : i ≤ 140737488355327 := by omega
    have m2 : (i + 1) * 24 ≤ 140737488355328 := by omega
    obtain ⟨t, ht⟩ : ∃ t, Fs[i]? = some t := ⟨_, List.getElem?_eq_getElem hlt⟩
    have g0 := tL_get0 ht
    have g1 := tL_get1 ht
    have g2 := tL_get2 ht
    have g3 := tL_at ht
    have gl := tL_len Fs
    have hst : tL ((Fs.map trF).take i) ++ [.int .i64 t.1, .int .i64 t.2.2, .int .i64 t.2.1] = tL ((Fs.map trF).take (i + 1)) := take_step ht
    have htk : (tL ((Fs.map trF).take i)).length = i * 3 := tk_len (by omega)
    refine AW.skip ?_
    refine Thn_n ?_
    refine hK _ _ ?_
    clear hK K
    refine AW.seq_k fun K hK => ?_
    refine AW.block ?_
    refine AW.draw [.val, .rd 0, .val, .rd 0, .val, .val, .val, .rd 0, .val, .rd 0, .val, .val, .val, .rd 0, .val, .rd 0, .val, .val, .val, .rd 0, .val, .ext, .wr, .val, .wr] fol (by decide) (by kernel_rfl) ?_
    simp only [push_cast, simprocAttr, hb, lk_old hb, hb0, lk_old hb0, c1, c2, c3, g0, g1, g2, g3, gl, htk, m1, m2]
    refine DExt.by (by first | rfl | (simp only [List.append_assoc, List.cons_append, List.nil_append]; rfl)) ?_
    simp only [push_cast, simprocAttr, hb, lk_old hb, hb0, lk_old hb0, c1, c2, c3, g0, g1, g2, g3, gl, htk, m1, m2]
    refine InB_n ?_
    refine Thn_n ?_
    refine hK _ _ ?_
    clear hK K
    refine AW.region (by decide) ?_
    simp only [push_cast, simprocAttr, hb, lk_old hb, hb0, lk_old hb0, c1, c2, c3, g0, g1, g2, g3, gl, htk, m1, m2]
    refine Thn_n ?_
    have hwi : IntKind.i64.wrap ((i:Int)+1) = (i:Int)+1 := wi (by omega)
    refine ⟨i + 1, by omega, by omega, ?_⟩
    try simp only [keepL, setAll, push_cast, simprocAttr, hb, lk_old hb, hb0, lk_old hb0, c1, c2, c3, g0, g1, g2, g3, gl, htk, m1, m2, hwi, hst]
    exact Weak.to (extra := [_]) (by simp only [Keeps, Tm.get_cons, Nat.reduceEqDiff, ↓reduceIte, if_true, if_false, ite_true, ite_false, true_and, and_true, and_self, reduceCtorEq, hwi, hst]) (by first | rfl | (simp only [List.append_assoc, List.cons_append, List.nil_append]; rfl)) (by first | rfl | (simp [AV.below, CV.below, tL_below]; done) | (simp [AV.below, CV.below, tL_below]; omega)) (by
      first | exact hwf | refine MWf.app (hwf.grow (by simp)) ?_
      repeat (first | exact MWf_nil | (refine MWf_cons ?_ ?_; · first | rfl | (simp [CV.below, tL_below]; done) | (simp [CV.below, tL_below]; omega))))
  · have hin : i = Fs.length := by have := of_decide_eq_false h12; omega
    subst hin
    refine AW.exit ?_
    refine Thn_e ?_
    clear hK K
    refine Thn_e ?_
    refine InB_here ?_
    refine Thn_n ?_
    refine hK _ _ ?_
    clear hK K
    refine AW.seq_k fun K hK => ?_
    refine AW.region (by decide) ?_
    simp only [push_cast, simprocAttr, hb, lk_old hb, hb0, lk_old hb0, hta]
    refine Thn_n ?_
    refine hK _ _ ?_
    clear hK K
    refine AW.ret ?_
    refine hQ _ _ _ ?_
    refine RetP.pick [(m.length + 3, Fs.length)] (Or.inr rfl) ?_ ?_ ?_ hwf ?_
    · simp only [resA, resOne, resTv, AV.tv, push_cast, simprocAttr]
      simp [renV, renT, renL, renC, renIdx, hlt0, hp, hq]
    · simp only [picks, push_cast, simprocAttr]
    · simp [distinctFrom]
    · exact MWf_one (tL_below _ _)
theorem rmoved_c (rp vp rf vf : Nat) (P Fs : List T3) (x0 x1 x2 y0 y1 y2 z0 z1 z2 t0 t1 t2 : Int) (m : AMem) (hp : rp < m.length) (hq : rf < m.length) (hpt : TRow m 24 rp vp P) (hf : TRow m 54 rf vf Fs) (hP : P.length ≤ 4096) (hF : Fs.length ≤ 4096) : Ctr Try.prog 21 [.agg [.sl rp vp 0 P.length, .sl rf vf 0 Fs.length], .agg [.int .i64 (x0), .int .i64 (x1), .int .i64 (x2), .int .i64 (y0), .int .i64 (y1), .int .i64 (y2), .int .i64 (z0), .int .i64 (z1), .int .i64 (z2), .int .i64 (t0), .int .i64 (t1), .int .i64 (t2)]] m (.agg [.sl m.length 0 0 P.length, .sl rf vf 0 Fs.length]) (m ++ [⟨.grow, 24, 0, 3, tL (P.map (ptM x0 x1 x2 y0 y1 y2 z0 z1 z2 t0 t1 t2))⟩]) := by
  refine Ctr.enter Try.func21 rfl (by decide) (rs := [.cell 4 34]) (nt := 30) rfl rfl fun hwf Q hQ => ?_
  obtain ⟨k0, ez0, hb0⟩ := hpt.hb
  obtain ⟨k1, ez1, hb⟩ := hf.hb
  have hlt0 : ∀ k, ¬ m.length + k < m.length := fun k => by omega
  have hta := take_all (ptM x0 x1 x2 y0 y1 y2 z0 z1 z2 t0 t1 t2) P
  iterate 2
    refine AW.seq_k fun K hK => ?_
    refine AW.region (by decide) ?_
    simp only [push_cast, simprocAttr, hb, lk_old hb, hb0, lk_old hb0]
    refine Thn_n ?_
    refine hK _ _ ?_
    clear hK K
  refine AW.seq_k fun K hK => ?_
  refine AW.seq_k fun K hK => ?_
  refine AW.nilCell 24 3 (m.length + 3) 0 (by simp only [push_cast, simprocAttr]; first | done | rfl) (by intro e; cases e) rfl ?_
  try simp only [push_cast, simprocAttr]
  refine AW.region (by decide) ?_
  simp only [push_cast, simprocAttr, hb, lk_old hb, hb0, lk_old hb0]
  refine Thn_n ?_
  refine hK _ _ ?_
  clear hK K
  refine AW.block ?_
  refine AW.loopK [2, 3, 4, 5] (fun i => i ≤ P.length) (fun i => [(6, .one (.int .i64 (i : Int)))]) (fun i => [(m.length + 3, ⟨.fix, 34, 0, 0, [.sl (m.length + 4) i 0 i, .sl rf vf 0 Fs.length]⟩), (m.length + 4, ⟨.grow, 24, i, 3, tL ((P.map (ptM x0 x1 x2 y0 y1 y2 z0 z1 z2 t0 t1 t2)).take i)⟩)]) (fun i => P.length - i) 0 (by omega) ?_ ?_ fun i hi5 => ?_
  · first | rfl | (simp only [Keeps, Tm.get_cons, Nat.reduceEqDiff, ↓reduceIte, if_true, if_false, ite_true, ite_false, true_and, and_true, and_self, reduceCtorEq, Int.natCast_zero, List.take_zero, tL, List.flatMap_nil] <;> rfl)
  · first | rfl | (simp only [setAll, push_cast, simprocAttr, hb, lk_old hb, hb0, lk_old hb0, Int.natCast_zero, List.take_zero, tL, List.flatMap_nil] <;> rfl)
  try simp only [keepL, setAll, push_cast, simprocAttr, hb, lk_old hb, hb0, lk_old hb0]
  refine AW.seq_k fun K hK => ?_
  refine AW.seq_k fun K hK => ?_
  refine AW.region (by decide) ?_
  simp only [push_cast, simprocAttr, hb, lk_old hb, hb0, lk_old hb0]
  refine Thn_n ?_
  refine hK _ _ ?_
  clear hK K
  refine AW.cond rfl (fun h14 => ?_) (fun h14 => ?_)
  · have hlt : i < P.length := by have := of_decide_eq_true h14; omega
    have c1 : (0 : Int) ≤ (i : Int) := by omega
    have c2 : (i : Int) < (P.length : Nat) := by omega
    have c3 : i * 3 + 3 ≤ P.length * 3 := by omega
    have m1 : i ≤ 140737488355327 := by omega
    have m2 : (i + 1) * 24 ≤ 140737488355328 := by omega
    obtain ⟨t, ht⟩ : ∃ t, P[i]? = some t := ⟨_, List.getElem?_eq_getElem hlt⟩
    have g0 := tL_get0 ht
    have g1 := tL_get1 ht
    have g2 := tL_get2 ht
    have g3 := tL_at ht
    have gl := tL_len P
    have hst : tL ((P.map (ptM x0 x1 x2 y0 y1 y2 z0 z1 z2 t0 t1 t2)).take i) ++ [.int .i64 (addI (dirI x0 y0 z0 t.1 t.2.1 t.2.2) t0), .int .i64 (addI (dirI x1 y1 z1 t.1 t.2.1 t.2.2) t1), .int .i64 (addI (dirI x2 y2 z2 t.1 t.2.1 t.2.2) t2)] = tL ((P.map (ptM x0 x1 x2 y0 y1 y2 z0 z1 z2 t0 t1 t2)).take (i + 1)) := take_step ht
    have htk : (tL ((P.map (ptM x0 x1 x2 y0 y1 y2 z0 z1 z2 t0 t1 t2)).take i)).length = i * 3 := tk_len (by omega)
    refine AW.skip ?_
    refine Thn_n ?_
    refine hK _ _ ?_
    clear hK K
    refine AW.seq_k fun K hK => ?_
    refine AW.block ?_
    refine AW.draw [.val, .rd 0, .rd 0, .val, .rd 0, .val, .val, .rd 0, .ext, .ext, .wr, .val, .wr] fol (by decide) (by kernel_rfl) ?_
    simp only [push_cast, simprocAttr, hb, lk_old hb, hb0, lk_old hb0, c1, c2, c3, g0, g1, g2, g3, gl, htk, m1, m2]
    refine DCall.by0 (rmpoint_c _ _ _ _ _ _ _ _ _ _ _ _ _ _ _ _ ) ?_
    simp only [push_cast, simprocAttr, hb, lk_old hb, hb0, lk_old hb0, c1, c2, c3, g0, g1, g2, g3, gl, htk, m1, m2]
    refine DExt.by (by first | rfl | (simp only [List.append_assoc, List.cons_append, List.nil_append]; rfl)) ?_
    simp only [push_cast, simprocAttr, hb, lk_old hb, hb0, lk_old hb0, c1, c2, c3, g0, g1, g2, g3, gl, htk, m1, m2]
    refine InB_n ?_
    refine Thn_n ?_
    refine hK _ _ ?_
    clear hK K
    refine AW.region (by decide) ?_
    simp only [push_cast, simprocAttr, hb, lk_old hb, hb0, lk_old hb0, c1, c2, c3, g0, g1, g2, g3, gl, htk, m1, m2]
    refine Thn_n ?_
    have hwi : IntKind.i64.wrap ((i:Int)+1) = (i:Int)+1 := wi (by omega)
    refine ⟨i + 1, by omega, by omega, ?_⟩
    try simp only [keepL, setAll, push_cast, simprocAttr, hb, lk_old hb, hb0, lk_old hb0, c1, c2, c3, g0, g1, g2, g3, gl, htk, m1, m2, hwi, hst]
    exact Weak.to (extra := [_]) (by simp only [Keeps, Tm.get_cons, Nat.reduceEqDiff, ↓reduceIte, if_true, if_false, ite_true, ite_false, true_and, and_true, and_self, reduceCtorEq, hwi, hst]) (by first | rfl | (simp only [List.append_assoc, List.cons_append, List.nil_append]; rfl)) (by first | rfl | (simp [AV.below, CV.below, tL_below]; done) | (simp [AV.below, CV.below, tL_below]; omega)) (by
      first | exact hwf | refine MWf.app (hwf.grow (by simp)) ?_
      repeat (first | exact MWf_nil | (refine MWf_cons ?_ ?_; · first | rfl | (simp [CV.below, tL_below]; done) | (simp [CV.below, tL_below]; omega))))
  · have hin : i = P.length := by have := of_decide_eq_false h14; omega
    subst hin
    refine AW.exit ?_
    refine Thn_e ?_
    clear hK K
    refine Thn_e ?_
    refine InB_here ?_
    refine Thn_n ?_
    refine hK _ _ ?_
    clear hK K
    refine AW.seq_k fun K hK => ?_
    refine AW.region (by decide) ?_
    simp only [push_cast, simprocAttr, hb, lk_old hb, hb0, lk_old hb0, hta]
    refine Thn_n ?_
    refine hK _ _ ?_
    clear hK K
    refine AW.ret ?_
    refine hQ _ _ _ ?_
    refine RetP.pick [(m.length + 4, P.length)] (Or.inr rfl) ?_ ?_ ?_ hwf ?_
    · simp only [resA, resOne, resTv, AV.tv, push_cast, simprocAttr]
      simp [renV, renT, renL, renC, renIdx, hlt0, hp, hq]
    · simp only [picks, push_cast, simprocAttr]
    · simp [distinctFrom]
    · exact MWf_one (tL_below _ _)
end Go.Proofs.Ytiogpaehelpmhaa
