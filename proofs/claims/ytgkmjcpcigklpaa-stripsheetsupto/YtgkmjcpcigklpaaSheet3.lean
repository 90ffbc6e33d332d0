/- Walks and facts of this seat's program over abstract states, printed by a program of mine; no conditions but those that each theorem names. -/
import Derived.Test.YtgkmjcpcigklpaaSheet2
set_option linter.unusedSimpArgs false
set_option linter.unusedVariables false
set_option maxRecDepth 100000
set_option maxHeartbeats 4000000
namespace Go.Proofs.Ytgkmjcpcigklpaa
open Go Go.Eng

theorem sheet_ok (r v k : Nat) (W H : Nat → Int) (rr n : Nat → Nat) (x ln : Nat) (d0 d1 d2 : Int) (kk : BK) (ez : Nat) (m : AMem) (hb : m[r]? = some ⟨kk, 33, v, ez, pl k W H rr n⟩) (A : Nat → Nat → Nat → Int) (hp : ∀ j, j < k → PicAt m (rr j) 0 (n j) (A j)) (hin : inR k (x : Int) (ln : Int)) (w h wl hl wd hg : Nat) (hall : ∀ j, j < k → W j = (w : Int) ∧ H j = (h : Int) ∧ n j = w * h ∧ picR (w : Int) (h : Int) (n j) = true) (c : ShOk k w h ln (acN k x) (rowsN k x) wl hl wd hg) (hs : szR (wd : Int) (hg : Int) = true) : Ctr Try.prog 11 [.one (.int .i64 (x : Int)), .one (.int .i64 (ln : Int)), .agg [.int .u8 d0, .int .u8 d1, .int .u8 d2], .one (.sl r v 0 k)] m (.tup [(true, [.int .i64 ((wd : Int)), .int .i64 ((hg : Int)), .sl m.length 0 0 (wd * hg)]), (false, [.int .i64 0])]) (m ++ [⟨.grow, 22, 0, 3, dl (wd * hg) (sheetG k w h (acN k x) wl hl wd A (cD d0 d1 d2))⟩]) := by
  refine Ctr.enter Try.func11 rfl (by decide) (rs := [.cell 8 33, .tmp 9]) (nt := 96) rfl rfl fun hwf Q hQ => ?_
  obtain ⟨p1, p2, p3, p4, p5, p6⟩ := hin
  have hr := get_lt hb
  obtain ⟨b1, b2, b3, b4, b5, b6, b7, b8, b9⟩ := c.b
  have k1 := c.k1
  have k2 := c.k2
  have l2 := c.l2
  have w2 := c.w2
  have h2 := c.h2
  have a1 := c.a1
  have a2 := c.a2
  have hwd := c.hwd
  have hhg := c.hhg
  have hwl := c.hwl
  have hhl := c.hhl
  have hrw := c.hr
  have hac : acN k x = if k < x then k else x := rfl
  have c3 : (0 : Int) < (k : Int) := by omega
  obtain ⟨z0, z1, z2⟩ := pl_get (W := W) (H := H) (r := rr) (n := n) (show 0 < k by omega)
  simp only [Nat.zero_mul, Nat.zero_add] at z0 z1 z2
  obtain ⟨y0, y1, _, _⟩ := hall 0 (by omega)
  rw [y0] at z0
  rw [y1] at z1
  have hlt0 : ∀ k, ¬ m.length + k < m.length := fun k => by omega
  have hsz : wd ≤ 64 ∧ hg ≤ 64 := by have := szR_iff.1 hs; omega
  have f1 : minI (x : Int) (k : Int) = ((acN k x : Nat) : Int) := by rw [hac]; simp only [minI]; split <;> split <;> omega
  have f2 : IntKind.i64.wrap ((k : Int) + ((acN k x : Nat) : Int)) = (k : Int) + ((acN k x : Nat) : Int) := i64i (by omega)
  have f3 : IntKind.i64.wrap ((k : Int) + ((acN k x : Nat) : Int) - 1) = ((k + acN k x - 1 : Nat) : Int) := by rw [i64i (by omega)]; omega
  have hac0 : ¬ ((acN k x : Nat) : Int) = 0 := by omega
  have f4 : IntKind.i64.wrap (((k + acN k x - 1 : Nat) : Int).tdiv ((acN k x : Nat) : Int)) = ((rowsN k x : Nat) : Int) := by
    rw [tdivN, i64n (by have := Nat.div_le_self (k + acN k x - 1) (acN k x); omega)]; rfl
  generalize hS : ((k + acN k x - 1 : Nat) : Int) = S at *
  have f5 : IntKind.i64.wrap ((w : Int) + (ln : Int)) = (wl : Int) := by rw [i64i (by omega)]; omega
  have f6 : IntKind.i64.wrap ((h : Int) + (ln : Int)) = (hl : Int) := by rw [i64i (by omega)]; omega
  have f7 : IntKind.i64.wrap (((acN k x : Nat) : Int) * (wl : Int)) = ((acN k x * wl : Nat) : Int) := by rw [← Int.natCast_mul, i64n (by omega)]
  have f8 : IntKind.i64.wrap (((acN k x * wl : Nat) : Int) - (ln : Int)) = (wd : Int) := by rw [i64i (by omega)]; omega
  have f9 : IntKind.i64.wrap (((rowsN k x : Nat) : Int) * (hl : Int)) = ((rowsN k x * hl : Nat) : Int) := by rw [← Int.natCast_mul, i64n (by omega)]
  have f10 : IntKind.i64.wrap (((rowsN k x * hl : Nat) : Int) - (ln : Int)) = (hg : Int) := by rw [i64i (by omega)]; omega
  generalize hM1 : ((acN k x * wl : Nat) : Int) = M1 at *
  generalize hM2 : ((rowsN k x * hl : Nat) : Int) = M2 at *
  
  refine AW.seq_k fun K hK => ?_
  refine AW.region (by decide) ?_
  simp only [push_cast, Nat.reduceAdd, Nat.reduceMul, Nat.reduceSub, Nat.reduceLeDiff, Nat.reduceLT, Nat.reduceEqDiff, Nat.reduceBEq, Nat.reduceBNe, Nat.reduceMod, Nat.reduceDiv, Int.reduceLE, Int.reduceLT, Int.reduceToNat, Int.reduceAdd, Int.reduceSub, Int.reduceMul, Int.reduceNeg, Int.reduceEq, Int.reduceBEq, Int.reduceBNe, ↓reduceIte, reduceCtorEq, String.reduceBNe, String.reduceEq, reduceDIte, Nat.reducePow, hb, lk_old hb, p1, p2, p3, p4, p5, p6, z0, z1, z2, c3, f1, f2, f3, hac0, f4, f5, f6, f7, f8, f9, f10]
  refine Thn_n ?_
  refine hK _ _ ?_
  clear hK K
  refine AW.seq_k fun K hK => ?_
  refine AW.seq_k fun K hK => ?_
  refine AW.region (by decide) ?_
  simp only [push_cast, Nat.reduceAdd, Nat.reduceMul, Nat.reduceSub, Nat.reduceLeDiff, Nat.reduceLT, Nat.reduceEqDiff, Nat.reduceBEq, Nat.reduceBNe, Nat.reduceMod, Nat.reduceDiv, Int.reduceLE, Int.reduceLT, Int.reduceToNat, Int.reduceAdd, Int.reduceSub, Int.reduceMul, Int.reduceNeg, Int.reduceEq, Int.reduceBEq, Int.reduceBNe, ↓reduceIte, reduceCtorEq, String.reduceBNe, String.reduceEq, reduceDIte, Nat.reducePow, hb, lk_old hb, p1, p2, p3, p4, p5, p6, z0, z1, z2, c3, f1, f2, f3, hac0, f4, f5, f6, f7, f8, f9, f10]
  refine Thn_n ?_
  refine hK _ _ ?_
  clear hK K
  refine AW.cond_f rfl ?_
  refine AW.skip ?_
  refine Thn_n ?_
  refine hK _ _ ?_
  clear hK K
  refine AW.seq_k fun K hK => ?_
  refine AW.region (by decide) ?_
  simp only [push_cast, Nat.reduceAdd, Nat.reduceMul, Nat.reduceSub, Nat.reduceLeDiff, Nat.reduceLT, Nat.reduceEqDiff, Nat.reduceBEq, Nat.reduceBNe, Nat.reduceMod, Nat.reduceDiv, Int.reduceLE, Int.reduceLT, Int.reduceToNat, Int.reduceAdd, Int.reduceSub, Int.reduceMul, Int.reduceNeg, Int.reduceEq, Int.reduceBEq, Int.reduceBNe, ↓reduceIte, reduceCtorEq, String.reduceBNe, String.reduceEq, reduceDIte, Nat.reducePow, hb, lk_old hb, p1, p2, p3, p4, p5, p6, z0, z1, z2, c3, f1, f2, f3, hac0, f4, f5, f6, f7, f8, f9, f10]
  refine Thn_n ?_
  refine hK _ _ ?_
  clear hK K
  refine AW.seq_k fun K hK => ?_
  refine AW.seq_k fun K hK => ?_
  refine AW.region (by decide) ?_
  simp only [push_cast, Nat.reduceAdd, Nat.reduceMul, Nat.reduceSub, Nat.reduceLeDiff, Nat.reduceLT, Nat.reduceEqDiff, Nat.reduceBEq, Nat.reduceBNe, Nat.reduceMod, Nat.reduceDiv, Int.reduceLE, Int.reduceLT, Int.reduceToNat, Int.reduceAdd, Int.reduceSub, Int.reduceMul, Int.reduceNeg, Int.reduceEq, Int.reduceBEq, Int.reduceBNe, ↓reduceIte, reduceCtorEq, String.reduceBNe, String.reduceEq, reduceDIte, Nat.reducePow, hb, lk_old hb, p1, p2, p3, p4, p5, p6, z0, z1, z2, c3, f1, f2, f3, hac0, f4, f5, f6, f7, f8, f9, f10]
  refine Thn_n ?_
  refine hK _ _ ?_
  clear hK K
  refine AW.block ?_
  refine AW.loopK [1, 4, 6, 7, 8, 10, 45, 46] (fun i => i ≤ k) (fun i => [(47, .one (.int .i64 (i : Int)))]) (fun i => []) (fun i => k - i) 0 (by omega) ?_ ?_ fun i hi7 => ?_
  · first | rfl | (simp only [Keeps, Tm.get_cons, Nat.reduceEqDiff, ↓reduceIte, if_true, if_false, ite_true, ite_false, true_and, and_true, and_self, reduceCtorEq] <;> rfl)
  · first | rfl | (simp only [setAll, push_cast, Nat.reduceAdd, Nat.reduceMul, Nat.reduceSub, Nat.reduceLeDiff, Nat.reduceLT, Nat.reduceEqDiff, Nat.reduceBEq, Nat.reduceBNe, Nat.reduceMod, Nat.reduceDiv, Int.reduceLE, Int.reduceLT, Int.reduceToNat, Int.reduceAdd, Int.reduceSub, Int.reduceMul, Int.reduceNeg, Int.reduceEq, Int.reduceBEq, Int.reduceBNe, ↓reduceIte, reduceCtorEq, String.reduceBNe, String.reduceEq, reduceDIte, Nat.reducePow, hb, lk_old hb, p1, p2, p3, p4, p5, p6, z0, z1, z2, c3, f1, f2, f3, hac0, f4, f5, f6, f7, f8, f9, f10] <;> rfl)
  try simp only [keepL, setAll, push_cast, Nat.reduceAdd, Nat.reduceMul, Nat.reduceSub, Nat.reduceLeDiff, Nat.reduceLT, Nat.reduceEqDiff, Nat.reduceBEq, Nat.reduceBNe, Nat.reduceMod, Nat.reduceDiv, Int.reduceLE, Int.reduceLT, Int.reduceToNat, Int.reduceAdd, Int.reduceSub, Int.reduceMul, Int.reduceNeg, Int.reduceEq, Int.reduceBEq, Int.reduceBNe, ↓reduceIte, reduceCtorEq, String.reduceBNe, String.reduceEq, reduceDIte, Nat.reducePow, hb, lk_old hb, p1, p2, p3, p4, p5, p6, z0, z1, z2, c3, f1, f2, f3, hac0, f4, f5, f6, f7, f8, f9, f10]
  refine AW.seq_k fun K hK => ?_
  refine AW.region (by decide) ?_
  simp only [push_cast, Nat.reduceAdd, Nat.reduceMul, Nat.reduceSub, Nat.reduceLeDiff, Nat.reduceLT, Nat.reduceEqDiff, Nat.reduceBEq, Nat.reduceBNe, Nat.reduceMod, Nat.reduceDiv, Int.reduceLE, Int.reduceLT, Int.reduceToNat, Int.reduceAdd, Int.reduceSub, Int.reduceMul, Int.reduceNeg, Int.reduceEq, Int.reduceBEq, Int.reduceBNe, ↓reduceIte, reduceCtorEq, String.reduceBNe, String.reduceEq, reduceDIte, Nat.reducePow, hb, lk_old hb, p1, p2, p3, p4, p5, p6, z0, z1, z2, c3, f1, f2, f3, hac0, f4, f5, f6, f7, f8, f9, f10]
  refine Thn_n ?_
  refine hK _ _ ?_
  clear hK K
  refine AW.seq_k fun K hK => ?_
  refine AW.cond rfl (fun h48 => ?_) (fun h48 => ?_)
  · have hlt : i < k := by have := of_decide_eq_true h48; omega
    have c1 : (i : Int) < (k : Int) := by omega
    have c2 : (0 : Int) ≤ (i : Int) := by omega
    obtain ⟨g0, g1, g2⟩ := pl_get (W := W) (H := H) (r := rr) (n := n) hlt
    obtain ⟨i0, i1, i2, i3⟩ := hall i hlt
    rw [i0] at g0
    rw [i1] at g1
    refine AW.skip ?_
    refine Thn_n ?_
    refine hK _ _ ?_
    clear hK K
    refine AW.seq_k fun K hK => ?_
    refine AW.block ?_
    refine AW.seq_k fun K hK => ?_
    refine AW.region (by decide) ?_
    simp only [push_cast, Nat.reduceAdd, Nat.reduceMul, Nat.reduceSub, Nat.reduceLeDiff, Nat.reduceLT, Nat.reduceEqDiff, Nat.reduceBEq, Nat.reduceBNe, Nat.reduceMod, Nat.reduceDiv, Int.reduceLE, Int.reduceLT, Int.reduceToNat, Int.reduceAdd, Int.reduceSub, Int.reduceMul, Int.reduceNeg, Int.reduceEq, Int.reduceBEq, Int.reduceBNe, ↓reduceIte, reduceCtorEq, String.reduceBNe, String.reduceEq, reduceDIte, Nat.reducePow, hb, lk_old hb, p1, p2, p3, p4, p5, p6, z0, z1, z2, c3, f1, f2, f3, hac0, f4, f5, f6, f7, f8, f9, f10, c1, c2, g0, g1, g2, i3]
    refine Thn_n ?_
    refine hK _ _ ?_
    clear hK K
    refine AW.seq_k fun K hK => ?_
    refine AW.region (by decide) ?_
    simp only [push_cast, Nat.reduceAdd, Nat.reduceMul, Nat.reduceSub, Nat.reduceLeDiff, Nat.reduceLT, Nat.reduceEqDiff, Nat.reduceBEq, Nat.reduceBNe, Nat.reduceMod, Nat.reduceDiv, Int.reduceLE, Int.reduceLT, Int.reduceToNat, Int.reduceAdd, Int.reduceSub, Int.reduceMul, Int.reduceNeg, Int.reduceEq, Int.reduceBEq, Int.reduceBNe, ↓reduceIte, reduceCtorEq, String.reduceBNe, String.reduceEq, reduceDIte, Nat.reducePow, hb, lk_old hb, p1, p2, p3, p4, p5, p6, z0, z1, z2, c3, f1, f2, f3, hac0, f4, f5, f6, f7, f8, f9, f10, c1, c2, g0, g1, g2, i3]
    refine CThen.by (picRight_c _ _ _ _ _ _) ?_
    simp only [push_cast, Nat.reduceAdd, Nat.reduceMul, Nat.reduceSub, Nat.reduceLeDiff, Nat.reduceLT, Nat.reduceEqDiff, Nat.reduceBEq, Nat.reduceBNe, Nat.reduceMod, Nat.reduceDiv, Int.reduceLE, Int.reduceLT, Int.reduceToNat, Int.reduceAdd, Int.reduceSub, Int.reduceMul, Int.reduceNeg, Int.reduceEq, Int.reduceBEq, Int.reduceBNe, ↓reduceIte, reduceCtorEq, String.reduceBNe, String.reduceEq, reduceDIte, Nat.reducePow, hb, lk_old hb, p1, p2, p3, p4, p5, p6, z0, z1, z2, c3, f1, f2, f3, hac0, f4, f5, f6, f7, f8, f9, f10, c1, c2, g0, g1, g2, i3]
    refine Thn_n ?_
    refine hK _ _ ?_
    clear hK K
    refine AW.cond_f rfl ?_
    refine AW.skip ?_
    refine InB_n ?_
    refine Thn_n ?_
    refine hK _ _ ?_
    clear hK K
    refine AW.region (by decide) ?_
    simp only [push_cast, Nat.reduceAdd, Nat.reduceMul, Nat.reduceSub, Nat.reduceLeDiff, Nat.reduceLT, Nat.reduceEqDiff, Nat.reduceBEq, Nat.reduceBNe, Nat.reduceMod, Nat.reduceDiv, Int.reduceLE, Int.reduceLT, Int.reduceToNat, Int.reduceAdd, Int.reduceSub, Int.reduceMul, Int.reduceNeg, Int.reduceEq, Int.reduceBEq, Int.reduceBNe, ↓reduceIte, reduceCtorEq, String.reduceBNe, String.reduceEq, reduceDIte, Nat.reducePow, hb, lk_old hb, p1, p2, p3, p4, p5, p6, z0, z1, z2, c3, f1, f2, f3, hac0, f4, f5, f6, f7, f8, f9, f10, c1, c2, g0, g1, g2, i3]
    refine Thn_n ?_
    have hwi : IntKind.i64.wrap ((i:Int)+1) = (i:Int)+1 := by rw [IntKind.wrap_i64]; omega
    refine ⟨i + 1, by omega, by omega, ?_⟩
    try simp only [keepL, setAll, push_cast, Nat.reduceAdd, Nat.reduceMul, Nat.reduceSub, Nat.reduceLeDiff, Nat.reduceLT, Nat.reduceEqDiff, Nat.reduceBEq, Nat.reduceBNe, Nat.reduceMod, Nat.reduceDiv, Int.reduceLE, Int.reduceLT, Int.reduceToNat, Int.reduceAdd, Int.reduceSub, Int.reduceMul, Int.reduceNeg, Int.reduceEq, Int.reduceBEq, Int.reduceBNe, ↓reduceIte, reduceCtorEq, String.reduceBNe, String.reduceEq, reduceDIte, Nat.reducePow, hb, lk_old hb, p1, p2, p3, p4, p5, p6, z0, z1, z2, c3, f1, f2, f3, hac0, f4, f5, f6, f7, f8, f9, f10, c1, c2, g0, g1, g2, i3, hwi]
    exact Weak.to (extra := [_]) (by simp only [Keeps, Tm.get_cons, Nat.reduceEqDiff, ↓reduceIte, if_true, if_false, ite_true, ite_false, true_and, and_true, and_self, reduceCtorEq, hwi]) (by first | rfl | (simp only [List.append_assoc, List.cons_append, List.nil_append]; rfl)) (by first | rfl | (simp [AV.below, CV.below, hr]; done) | (simp [AV.below, CV.below, hr]; omega)) (by
      first | exact hwf | refine MWf.app (hwf.grow (by simp)) ?_
      repeat (first | exact MWf_nil | (refine MWf_cons ?_ ?_; · first | rfl | (simp [CV.below, hr]; done) | (simp [CV.below, hr]; omega))))
  · refine AW.exit ?_
    refine Thn_e ?_
    clear hK K
    refine Thn_e ?_
    refine InB_here ?_
    iterate 2
      refine Thn_n ?_
      refine hK _ _ ?_
      clear hK K
      refine AW.seq_k fun K hK => ?_
      refine AW.region (by decide) ?_
      simp only [push_cast, Nat.reduceAdd, Nat.reduceMul, Nat.reduceSub, Nat.reduceLeDiff, Nat.reduceLT, Nat.reduceEqDiff, Nat.reduceBEq, Nat.reduceBNe, Nat.reduceMod, Nat.reduceDiv, Int.reduceLE, Int.reduceLT, Int.reduceToNat, Int.reduceAdd, Int.reduceSub, Int.reduceMul, Int.reduceNeg, Int.reduceEq, Int.reduceBEq, Int.reduceBNe, ↓reduceIte, reduceCtorEq, String.reduceBNe, String.reduceEq, reduceDIte, Nat.reducePow, hb, lk_old hb, p1, p2, p3, p4, p5, p6, z0, z1, z2, c3, f1, f2, f3, hac0, f4, f5, f6, f7, f8, f9, f10]
    refine Thn_n ?_
    refine hK _ _ ?_
    clear hK K
    refine AW.seq_k fun K hK => ?_
    refine AW.draw [.val, .rd 0, .val, .val, .val, .rw 0, .val, .val, .ext, .fl, .wr, .wr] fol (by decide) (by kernel_rfl) ?_
    simp only [push_cast, Nat.reduceAdd, Nat.reduceMul, Nat.reduceSub, Nat.reduceLeDiff, Nat.reduceLT, Nat.reduceEqDiff, Nat.reduceBEq, Nat.reduceBNe, Nat.reduceMod, Nat.reduceDiv, Int.reduceLE, Int.reduceLT, Int.reduceToNat, Int.reduceAdd, Int.reduceSub, Int.reduceMul, Int.reduceNeg, Int.reduceEq, Int.reduceBEq, Int.reduceBNe, ↓reduceIte, reduceCtorEq, String.reduceBNe, String.reduceEq, reduceDIte, Nat.reducePow, hb, lk_old hb, p1, p2, p3, p4, p5, p6, z0, z1, z2, c3, f1, f2, f3, hac0, f4, f5, f6, f7, f8, f9, f10]
    refine DExt.by (by first | rfl | (simp only [List.append_assoc, List.cons_append, List.nil_append]; rfl)) ?_
    simp only [push_cast, Nat.reduceAdd, Nat.reduceMul, Nat.reduceSub, Nat.reduceLeDiff, Nat.reduceLT, Nat.reduceEqDiff, Nat.reduceBEq, Nat.reduceBNe, Nat.reduceMod, Nat.reduceDiv, Int.reduceLE, Int.reduceLT, Int.reduceToNat, Int.reduceAdd, Int.reduceSub, Int.reduceMul, Int.reduceNeg, Int.reduceEq, Int.reduceBEq, Int.reduceBNe, ↓reduceIte, reduceCtorEq, String.reduceBNe, String.reduceEq, reduceDIte, Nat.reducePow, hb, lk_old hb, p1, p2, p3, p4, p5, p6, z0, z1, z2, c3, f1, f2, f3, hac0, f4, f5, f6, f7, f8, f9, f10]
    refine AOpsD_end (by simp only [watchS, allAt, push_cast, Nat.reduceAdd, Nat.reduceMul, Nat.reduceSub, Nat.reduceLeDiff, Nat.reduceLT, Nat.reduceEqDiff, Nat.reduceBEq, Nat.reduceBNe, Nat.reduceMod, Nat.reduceDiv, Int.reduceLE, Int.reduceLT, Int.reduceToNat, Int.reduceAdd, Int.reduceSub, Int.reduceMul, Int.reduceNeg, Int.reduceEq, Int.reduceBEq, Int.reduceBNe, ↓reduceIte, reduceCtorEq, String.reduceBNe, String.reduceEq, reduceDIte, Nat.reducePow, hb, lk_old hb, p1, p2, p3, p4, p5, p6, z0, z1, z2, c3, f1, f2, f3, hac0, f4, f5, f6, f7, f8, f9, f10]) ?_
    refine Thn_n ?_
    refine hK _ _ ?_
    clear hK K
    refine AW.seq_k fun K hK => ?_
    refine AW.region (by decide) ?_
    simp only [push_cast, Nat.reduceAdd, Nat.reduceMul, Nat.reduceSub, Nat.reduceLeDiff, Nat.reduceLT, Nat.reduceEqDiff, Nat.reduceBEq, Nat.reduceBNe, Nat.reduceMod, Nat.reduceDiv, Int.reduceLE, Int.reduceLT, Int.reduceToNat, Int.reduceAdd, Int.reduceSub, Int.reduceMul, Int.reduceNeg, Int.reduceEq, Int.reduceBEq, Int.reduceBNe, ↓reduceIte, reduceCtorEq, String.reduceBNe, String.reduceEq, reduceDIte, Nat.reducePow, hb, lk_old hb, p1, p2, p3, p4, p5, p6, z0, z1, z2, c3, f1, f2, f3, hac0, f4, f5, f6, f7, f8, f9, f10]
    refine CThen.by (make_c _ _ _ _ (wd * hg) (sheetG k w h (acN k x) wl hl wd A (cD d0 d1 d2)) _ hs (by simp) (by simp [CV.below]) (fun i ex hi => by simp only [capsAV, List.map_cons, List.map_nil, List.cons_append, List.nil_append, List.append_assoc]; exact sheetd k w h ln (acN k x) (rowsN k x) wl hl wd hg _ _ _ _ _ _ r v i W H rr n A d0 d1 d2 kk ez _ (by simp only [push_cast, Nat.reduceAdd, Nat.reduceMul, Nat.reduceSub, Nat.reduceLeDiff, Nat.reduceLT, Nat.reduceEqDiff, Nat.reduceBEq, Nat.reduceBNe, Nat.reduceMod, Nat.reduceDiv, Int.reduceLE, Int.reduceLT, Int.reduceToNat, Int.reduceAdd, Int.reduceSub, Int.reduceMul, Int.reduceNeg, Int.reduceEq, Int.reduceBEq, Int.reduceBNe, ↓reduceIte, reduceCtorEq, String.reduceBNe, String.reduceEq, reduceDIte, Nat.reducePow]) (by simp only [push_cast, Nat.reduceAdd, Nat.reduceMul, Nat.reduceSub, Nat.reduceLeDiff, Nat.reduceLT, Nat.reduceEqDiff, Nat.reduceBEq, Nat.reduceBNe, Nat.reduceMod, Nat.reduceDiv, Int.reduceLE, Int.reduceLT, Int.reduceToNat, Int.reduceAdd, Int.reduceSub, Int.reduceMul, Int.reduceNeg, Int.reduceEq, Int.reduceBEq, Int.reduceBNe, ↓reduceIte, reduceCtorEq, String.reduceBNe, String.reduceEq, reduceDIte, Nat.reducePow]) (by simp only [push_cast, Nat.reduceAdd, Nat.reduceMul, Nat.reduceSub, Nat.reduceLeDiff, Nat.reduceLT, Nat.reduceEqDiff, Nat.reduceBEq, Nat.reduceBNe, Nat.reduceMod, Nat.reduceDiv, Int.reduceLE, Int.reduceLT, Int.reduceToNat, Int.reduceAdd, Int.reduceSub, Int.reduceMul, Int.reduceNeg, Int.reduceEq, Int.reduceBEq, Int.reduceBNe, ↓reduceIte, reduceCtorEq, String.reduceBNe, String.reduceEq, reduceDIte, Nat.reducePow]) (by simp only [push_cast, Nat.reduceAdd, Nat.reduceMul, Nat.reduceSub, Nat.reduceLeDiff, Nat.reduceLT, Nat.reduceEqDiff, Nat.reduceBEq, Nat.reduceBNe, Nat.reduceMod, Nat.reduceDiv, Int.reduceLE, Int.reduceLT, Int.reduceToNat, Int.reduceAdd, Int.reduceSub, Int.reduceMul, Int.reduceNeg, Int.reduceEq, Int.reduceBEq, Int.reduceBNe, ↓reduceIte, reduceCtorEq, String.reduceBNe, String.reduceEq, reduceDIte, Nat.reducePow]) (by simp only [push_cast, Nat.reduceAdd, Nat.reduceMul, Nat.reduceSub, Nat.reduceLeDiff, Nat.reduceLT, Nat.reduceEqDiff, Nat.reduceBEq, Nat.reduceBNe, Nat.reduceMod, Nat.reduceDiv, Int.reduceLE, Int.reduceLT, Int.reduceToNat, Int.reduceAdd, Int.reduceSub, Int.reduceMul, Int.reduceNeg, Int.reduceEq, Int.reduceBEq, Int.reduceBNe, ↓reduceIte, reduceCtorEq, String.reduceBNe, String.reduceEq, reduceDIte, Nat.reducePow]) (by simp only [push_cast, Nat.reduceAdd, Nat.reduceMul, Nat.reduceSub, Nat.reduceLeDiff, Nat.reduceLT, Nat.reduceEqDiff, Nat.reduceBEq, Nat.reduceBNe, Nat.reduceMod, Nat.reduceDiv, Int.reduceLE, Int.reduceLT, Int.reduceToNat, Int.reduceAdd, Int.reduceSub, Int.reduceMul, Int.reduceNeg, Int.reduceEq, Int.reduceBEq, Int.reduceBNe, ↓reduceIte, reduceCtorEq, String.reduceBNe, String.reduceEq, reduceDIte, Nat.reducePow]) (lk_old hb _) (fun j hj => (hp j hj).mono _) (fun j hj => ⟨(hall j hj).1, (hall j hj).2.2.1⟩) c hsz hi)) ?_
    simp only [push_cast, Nat.reduceAdd, Nat.reduceMul, Nat.reduceSub, Nat.reduceLeDiff, Nat.reduceLT, Nat.reduceEqDiff, Nat.reduceBEq, Nat.reduceBNe, Nat.reduceMod, Nat.reduceDiv, Int.reduceLE, Int.reduceLT, Int.reduceToNat, Int.reduceAdd, Int.reduceSub, Int.reduceMul, Int.reduceNeg, Int.reduceEq, Int.reduceBEq, Int.reduceBNe, ↓reduceIte, reduceCtorEq, String.reduceBNe, String.reduceEq, reduceDIte, Nat.reducePow, hb, lk_old hb, p1, p2, p3, p4, p5, p6, z0, z1, z2, c3, f1, f2, f3, hac0, f4, f5, f6, f7, f8, f9, f10]
    refine Thn_n ?_
    refine hK _ _ ?_
    clear hK K
    refine AW.ret ?_
    refine hQ _ _ _ ?_
    refine RetP.pick [(m.length + 7, 0)] (Or.inr rfl) ?_ ?_ ?_ hwf ?_
    · simp only [resA, resOne, resTv, AV.tv, push_cast, Nat.reduceAdd, Nat.reduceMul, Nat.reduceSub, Nat.reduceLeDiff, Nat.reduceLT, Nat.reduceEqDiff, Nat.reduceBEq, Nat.reduceBNe, Nat.reduceMod, Nat.reduceDiv, Int.reduceLE, Int.reduceLT, Int.reduceToNat, Int.reduceAdd, Int.reduceSub, Int.reduceMul, Int.reduceNeg, Int.reduceEq, Int.reduceBEq, Int.reduceBNe, ↓reduceIte, reduceCtorEq, String.reduceBNe, String.reduceEq, reduceDIte, Nat.reducePow]
      simp [renV, renT, renL, renC, renIdx, hlt0]
    · simp only [picks, push_cast, Nat.reduceAdd, Nat.reduceMul, Nat.reduceSub, Nat.reduceLeDiff, Nat.reduceLT, Nat.reduceEqDiff, Nat.reduceBEq, Nat.reduceBNe, Nat.reduceMod, Nat.reduceDiv, Int.reduceLE, Int.reduceLT, Int.reduceToNat, Int.reduceAdd, Int.reduceSub, Int.reduceMul, Int.reduceNeg, Int.reduceEq, Int.reduceBEq, Int.reduceBNe, ↓reduceIte, reduceCtorEq, String.reduceBNe, String.reduceEq, reduceDIte, Nat.reducePow]
    · simp [distinctFrom]
    · exact MWf_one (dl_below _ _ _)
    
theorem sheet_big (r v k : Nat) (W H : Nat → Int) (rr n : Nat → Nat) (x ln : Nat) (d0 d1 d2 : Int) (kk : BK) (ez : Nat) (m : AMem) (hb : m[r]? = some ⟨kk, 33, v, ez, pl k W H rr n⟩) (A : Nat → Nat → Nat → Int) (hp : ∀ j, j < k → PicAt m (rr j) 0 (n j) (A j)) (hin : inR k (x : Int) (ln : Int)) (w h wl hl wd hg : Nat) (hall : ∀ j, j < k → W j = (w : Int) ∧ H j = (h : Int) ∧ n j = w * h ∧ picR (w : Int) (h : Int) (n j) = true) (c : ShOk k w h ln (acN k x) (rowsN k x) wl hl wd hg) (hs : szR (wd : Int) (hg : Int) = false) : Ctr Try.prog 11 [.one (.int .i64 (x : Int)), .one (.int .i64 (ln : Int)), .agg [.int .u8 d0, .int .u8 d1, .int .u8 d2], .one (.sl r v 0 k)] m (.tup [(true, [.int .i64 0, .int .i64 0, .nils]), (false, [.int .i64 1])]) m := by
  refine Ctr.enter Try.func11 rfl (by decide) (rs := [.cell 8 33, .tmp 9]) (nt := 96) rfl rfl fun hwf Q hQ => ?_
  obtain ⟨p1, p2, p3, p4, p5, p6⟩ := hin
  have hr := get_lt hb
  obtain ⟨b1, b2, b3, b4, b5, b6, b7, b8, b9⟩ := c.b
  have k1 := c.k1
  have k2 := c.k2
  have l2 := c.l2
  have w2 := c.w2
  have h2 := c.h2
  have a1 := c.a1
  have a2 := c.a2
  have hwd := c.hwd
  have hhg := c.hhg
  have hwl := c.hwl
  have hhl := c.hhl
  have hrw := c.hr
  have hac : acN k x = if k < x then k else x := rfl
  have c3 : (0 : Int) < (k : Int) := by omega
  obtain ⟨z0, z1, z2⟩ := pl_get (W := W) (H := H) (r := rr) (n := n) (show 0 < k by omega)
  simp only [Nat.zero_mul, Nat.zero_add] at z0 z1 z2
  obtain ⟨y0, y1, _, _⟩ := hall 0 (by omega)
  rw [y0] at z0
  rw [y1] at z1
  have f1 : minI (x : Int) (k : Int) = ((acN k x : Nat) : Int) := by rw [hac]; simp only [minI]; split <;> split <;> omega
  have f2 : IntKind.i64.wrap ((k : Int) + ((acN k x : Nat) : Int)) = (k : Int) + ((acN k x : Nat) : Int) := i64i (by omega)
  have f3 : IntKind.i64.wrap ((k : Int) + ((acN k x : Nat) : Int) - 1) = ((k + acN k x - 1 : Nat) : Int) := by rw [i64i (by omega)]; omega
  have hac0 : ¬ ((acN k x : Nat) : Int) = 0 := by omega
  have f4 : IntKind.i64.wrap (((k + acN k x - 1 : Nat) : Int).tdiv ((acN k x : Nat) : Int)) = ((rowsN k x : Nat) : Int) := by
    rw [tdivN, i64n (by have := Nat.div_le_self (k + acN k x - 1) (acN k x); omega)]; rfl
  generalize hS : ((k + acN k x - 1 : Nat) : Int) = S at *
  have f5 : IntKind.i64.wrap ((w : Int) + (ln : Int)) = (wl : Int) := by rw [i64i (by omega)]; omega
  have f6 : IntKind.i64.wrap ((h : Int) + (ln : Int)) = (hl : Int) := by rw [i64i (by omega)]; omega
  have f7 : IntKind.i64.wrap (((acN k x : Nat) : Int) * (wl : Int)) = ((acN k x * wl : Nat) : Int) := by rw [← Int.natCast_mul, i64n (by omega)]
  have f8 : IntKind.i64.wrap (((acN k x * wl : Nat) : Int) - (ln : Int)) = (wd : Int) := by rw [i64i (by omega)]; omega
  have f9 : IntKind.i64.wrap (((rowsN k x : Nat) : Int) * (hl : Int)) = ((rowsN k x * hl : Nat) : Int) := by rw [← Int.natCast_mul, i64n (by omega)]
  have f10 : IntKind.i64.wrap (((rowsN k x * hl : Nat) : Int) - (ln : Int)) = (hg : Int) := by rw [i64i (by omega)]; omega
  generalize hM1 : ((acN k x * wl : Nat) : Int) = M1 at *
  generalize hM2 : ((rowsN k x * hl : Nat) : Int) = M2 at *
  
  refine AW.seq_k fun K hK => ?_
  refine AW.region (by decide) ?_
  simp only [push_cast, Nat.reduceAdd, Nat.reduceMul, Nat.reduceSub, Nat.reduceLeDiff, Nat.reduceLT, Nat.reduceEqDiff, Nat.reduceBEq, Nat.reduceBNe, Nat.reduceMod, Nat.reduceDiv, Int.reduceLE, Int.reduceLT, Int.reduceToNat, Int.reduceAdd, Int.reduceSub, Int.reduceMul, Int.reduceNeg, Int.reduceEq, Int.reduceBEq, Int.reduceBNe, ↓reduceIte, reduceCtorEq, String.reduceBNe, String.reduceEq, reduceDIte, Nat.reducePow, hb, lk_old hb, p1, p2, p3, p4, p5, p6, z0, z1, z2, c3, f1, f2, f3, hac0, f4, f5, f6, f7, f8, f9, f10]
  refine Thn_n ?_
  refine hK _ _ ?_
  clear hK K
  refine AW.seq_k fun K hK => ?_
  refine AW.seq_k fun K hK => ?_
  refine AW.region (by decide) ?_
  simp only [push_cast, Nat.reduceAdd, Nat.reduceMul, Nat.reduceSub, Nat.reduceLeDiff, Nat.reduceLT, Nat.reduceEqDiff, Nat.reduceBEq, Nat.reduceBNe, Nat.reduceMod, Nat.reduceDiv, Int.reduceLE, Int.reduceLT, Int.reduceToNat, Int.reduceAdd, Int.reduceSub, Int.reduceMul, Int.reduceNeg, Int.reduceEq, Int.reduceBEq, Int.reduceBNe, ↓reduceIte, reduceCtorEq, String.reduceBNe, String.reduceEq, reduceDIte, Nat.reducePow, hb, lk_old hb, p1, p2, p3, p4, p5, p6, z0, z1, z2, c3, f1, f2, f3, hac0, f4, f5, f6, f7, f8, f9, f10]
  refine Thn_n ?_
  refine hK _ _ ?_
  clear hK K
  refine AW.cond_f rfl ?_
  refine AW.skip ?_
  refine Thn_n ?_
  refine hK _ _ ?_
  clear hK K
  refine AW.seq_k fun K hK => ?_
  refine AW.region (by decide) ?_
  simp only [push_cast, Nat.reduceAdd, Nat.reduceMul, Nat.reduceSub, Nat.reduceLeDiff, Nat.reduceLT, Nat.reduceEqDiff, Nat.reduceBEq, Nat.reduceBNe, Nat.reduceMod, Nat.reduceDiv, Int.reduceLE, Int.reduceLT, Int.reduceToNat, Int.reduceAdd, Int.reduceSub, Int.reduceMul, Int.reduceNeg, Int.reduceEq, Int.reduceBEq, Int.reduceBNe, ↓reduceIte, reduceCtorEq, String.reduceBNe, String.reduceEq, reduceDIte, Nat.reducePow, hb, lk_old hb, p1, p2, p3, p4, p5, p6, z0, z1, z2, c3, f1, f2, f3, hac0, f4, f5, f6, f7, f8, f9, f10]
  refine Thn_n ?_
  refine hK _ _ ?_
  clear hK K
  refine AW.seq_k fun K hK => ?_
  refine AW.seq_k fun K hK => ?_
  refine AW.region (by decide) ?_
  simp only [push_cast, Nat.reduceAdd, Nat.reduceMul, Nat.reduceSub, Nat.reduceLeDiff, Nat.reduceLT, Nat.reduceEqDiff, Nat.reduceBEq, Nat.reduceBNe, Nat.reduceMod, Nat.reduceDiv, Int.reduceLE, Int.reduceLT, Int.reduceToNat, Int.reduceAdd, Int.reduceSub, Int.reduceMul, Int.reduceNeg, Int.reduceEq, Int.reduceBEq, Int.reduceBNe, ↓reduceIte, reduceCtorEq, String.reduceBNe, String.reduceEq, reduceDIte, Nat.reducePow, hb, lk_old hb, p1, p2, p3, p4, p5, p6, z0, z1, z2, c3, f1, f2, f3, hac0, f4, f5, f6, f7, f8, f9, f10]
  refine Thn_n ?_
  refine hK _ _ ?_
  clear hK K
  refine AW.block ?_
  refine AW.loopK [1, 4, 6, 7, 8, 10, 45, 46] (fun i => i ≤ k) (fun i => [(47, .one (.int .i64 (i : Int)))]) (fun i => []) (fun i => k - i) 0 (by omega) ?_ ?_ fun i hi7 => ?_
  · first | rfl | (simp only [Keeps, Tm.get_cons, Nat.reduceEqDiff, ↓reduceIte, if_true, if_false, ite_true, ite_false, true_and, and_true, and_self, reduceCtorEq] <;> rfl)
  · first | rfl | (simp only [setAll, push_cast, Nat.reduceAdd, Nat.reduceMul, Nat.reduceSub, Nat.reduceLeDiff, Nat.reduceLT, Nat.reduceEqDiff, Nat.reduceBEq, Nat.reduceBNe, Nat.reduceMod, Nat.reduceDiv, Int.reduceLE, Int.reduceLT, Int.reduceToNat, Int.reduceAdd, Int.reduceSub, Int.reduceMul, Int.reduceNeg, Int.reduceEq, Int.reduceBEq, Int.reduceBNe, ↓reduceIte, reduceCtorEq, String.reduceBNe, String.reduceEq, reduceDIte, Nat.reducePow, hb, lk_old hb, p1, p2, p3, p4, p5, p6, z0, z1, z2, c3, f1, f2, f3, hac0, f4, f5, f6, f7, f8, f9, f10] <;> rfl)
  try simp only [keepL, setAll, push_cast, Nat.reduceAdd, Nat.reduceMul, Nat.reduceSub, Nat.reduceLeDiff, Nat.reduceLT, Nat.reduceEqDiff, Nat.reduceBEq, Nat.reduceBNe, Nat.reduceMod, Nat.reduceDiv, Int.reduceLE, Int.reduceLT, Int.reduceToNat, Int.reduceAdd, Int.reduceSub, Int.reduceMul, Int.reduceNeg, Int.reduceEq, Int.reduceBEq, Int.reduceBNe, ↓reduceIte, reduceCtorEq, String.reduceBNe, String.reduceEq, reduceDIte, Nat.reducePow, hb, lk_old hb, p1, p2, p3, p4, p5, p6, z0, z1, z2, c3, f1, f2, f3, hac0, f4, f5, f6, f7, f8, f9, f10]
  refine AW.seq_k fun K hK => ?_
  refine AW.region (by decide) ?_
  simp only [push_cast, Nat.reduceAdd, Nat.reduceMul, Nat.reduceSub, Nat.reduceLeDiff, Nat.reduceLT, Nat.reduceEqDiff, Nat.reduceBEq, Nat.reduceBNe, Nat.reduceMod, Nat.reduceDiv, Int.reduceLE, Int.reduceLT, Int.reduceToNat, Int.reduceAdd, Int.reduceSub, Int.reduceMul, Int.reduceNeg, Int.reduceEq, Int.reduceBEq, Int.reduceBNe, ↓reduceIte, reduceCtorEq, String.reduceBNe, String.reduceEq, reduceDIte, Nat.reducePow, hb, lk_old hb, p1, p2, p3, p4, p5, p6, z0, z1, z2, c3, f1, f2, f3, hac0, f4, f5, f6, f7, f8, f9, f10]
  refine Thn_n ?_
  refine hK _ _ ?_
  clear hK K
  refine AW.seq_k fun K hK => ?_
  refine AW.cond rfl (fun h48 => ?_) (fun h48 => ?_)
  · have hlt : i < k := by have := of_decide_eq_true h48; omega
    have c1 : (i : Int) < (k : Int) := by omega
    have c2 : (0 : Int) ≤ (i : Int) := by omega
    obtain ⟨g0, g1, g2⟩ := pl_get (W := W) (H := H) (r := rr) (n := n) hlt
    obtain ⟨i0, i1, i2, i3⟩ := hall i hlt
    rw [i0] at g0
    rw [i1] at g1
    refine AW.skip ?_
    refine Thn_n ?_
    refine hK _ _ ?_
    clear hK K
    refine AW.seq_k fun K hK => ?_
    refine AW.block ?_
    refine AW.seq_k fun K hK => ?_
    refine AW.region (by decide) ?_
    simp only [push_cast, Nat.reduceAdd, Nat.reduceMul, Nat.reduceSub, Nat.reduceLeDiff, Nat.reduceLT, Nat.reduceEqDiff, Nat.reduceBEq, Nat.reduceBNe, Nat.reduceMod, Nat.reduceDiv, Int.reduceLE, Int.reduceLT, Int.reduceToNat, Int.reduceAdd, Int.reduceSub, Int.reduceMul, Int.reduceNeg, Int.reduceEq, Int.reduceBEq, Int.reduceBNe, ↓reduceIte, reduceCtorEq, String.reduceBNe, String.reduceEq, reduceDIte, Nat.reducePow, hb, lk_old hb, p1, p2, p3, p4, p5, p6, z0, z1, z2, c3, f1, f2, f3, hac0, f4, f5, f6, f7, f8, f9, f10, c1, c2, g0, g1, g2, i3]
    refine Thn_n ?_
    refine hK _ _ ?_
    clear hK K
    refine AW.seq_k fun K hK => ?_
    refine AW.region (by decide) ?_
    simp only [push_cast, Nat.reduceAdd, Nat.reduceMul, Nat.reduceSub, Nat.reduceLeDiff, Nat.reduceLT, Nat.reduceEqDiff, Nat.reduceBEq, Nat.reduceBNe, Nat.reduceMod, Nat.reduceDiv, Int.reduceLE, Int.reduceLT, Int.reduceToNat, Int.reduceAdd, Int.reduceSub, Int.reduceMul, Int.reduceNeg, Int.reduceEq, Int.reduceBEq, Int.reduceBNe, ↓reduceIte, reduceCtorEq, String.reduceBNe, String.reduceEq, reduceDIte, Nat.reducePow, hb, lk_old hb, p1, p2, p3, p4, p5, p6, z0, z1, z2, c3, f1, f2, f3, hac0, f4, f5, f6, f7, f8, f9, f10, c1, c2, g0, g1, g2, i3]
    refine CThen.by (picRight_c _ _ _ _ _ _) ?_
    simp only [push_cast, Nat.reduceAdd, Nat.reduceMul, Nat.reduceSub, Nat.reduceLeDiff, Nat.reduceLT, Nat.reduceEqDiff, Nat.reduceBEq, Nat.reduceBNe, Nat.reduceMod, Nat.reduceDiv, Int.reduceLE, Int.reduceLT, Int.reduceToNat, Int.reduceAdd, Int.reduceSub, Int.reduceMul, Int.reduceNeg, Int.reduceEq, Int.reduceBEq, Int.reduceBNe, ↓reduceIte, reduceCtorEq, String.reduceBNe, String.reduceEq, reduceDIte, Nat.reducePow, hb, lk_old hb, p1, p2, p3, p4, p5, p6, z0, z1, z2, c3, f1, f2, f3, hac0, f4, f5, f6, f7, f8, f9, f10, c1, c2, g0, g1, g2, i3]
    refine Thn_n ?_
    refine hK _ _ ?_
    clear hK K
    refine AW.cond_f rfl ?_
    refine AW.skip ?_
    refine InB_n ?_
    refine Thn_n ?_
    refine hK _ _ ?_
    clear hK K
    refine AW.region (by decide) ?_
    simp only [push_cast, Nat.reduceAdd, Nat.reduceMul, Nat.reduceSub, Nat.reduceLeDiff, Nat.reduceLT, Nat.reduceEqDiff, Nat.reduceBEq, Nat.reduceBNe, Nat.reduceMod, Nat.reduceDiv, Int.reduceLE, Int.reduceLT, Int.reduceToNat, Int.reduceAdd, Int.reduceSub, Int.reduceMul, Int.reduceNeg, Int.reduceEq, Int.reduceBEq, Int.reduceBNe, ↓reduceIte, reduceCtorEq, String.reduceBNe, String.reduceEq, reduceDIte, Nat.reducePow, hb, lk_old hb, p1, p2, p3, p4, p5, p6, z0, z1, z2, c3, f1, f2, f3, hac0, f4, f5, f6, f7, f8, f9, f10, c1, c2, g0, g1, g2, i3]
    refine Thn_n ?_
    have hwi : IntKind.i64.wrap ((i:Int)+1) = (i:Int)+1 := by rw [IntKind.wrap_i64]; omega
    refine ⟨i + 1, by omega, by omega, ?_⟩
    try simp only [keepL, setAll, push_cast, Nat.reduceAdd, Nat.reduceMul, Nat.reduceSub, Nat.reduceLeDiff, Nat.reduceLT, Nat.reduceEqDiff, Nat.reduceBEq, Nat.reduceBNe, Nat.reduceMod, Nat.reduceDiv, Int.reduceLE, Int.reduceLT, Int.reduceToNat, Int.reduceAdd, Int.reduceSub, Int.reduceMul, Int.reduceNeg, Int.reduceEq, Int.reduceBEq, Int.reduceBNe, ↓reduceIte, reduceCtorEq, String.reduceBNe, String.reduceEq, reduceDIte, Nat.reducePow, hb, lk_old hb, p1, p2, p3, p4, p5, p6, z0, z1, z2, c3, f1, f2, f3, hac0, f4, f5, f6, f7, f8, f9, f10, c1, c2, g0, g1, g2, i3, hwi]
    exact Weak.to (extra := [_]) (by simp only [Keeps, Tm.get_cons, Nat.reduceEqDiff, ↓reduceIte, if_true, if_false, ite_true, ite_false, true_and, and_true, and_self, reduceCtorEq, hwi]) (by first | rfl | (simp only [List.append_assoc, List.cons_append, List.nil_append]; rfl)) (by first | rfl | (simp [AV.below, CV.below, hr]; done) | (simp [AV.below, CV.below, hr]; omega)) (by
      first | exact hwf | refine MWf.app (hwf.grow (by simp)) ?_
      repeat (first | exact MWf_nil | (refine MWf_cons ?_ ?_; · first | rfl | (simp [CV.below, hr]; done) | (simp [CV.below, hr]; omega))))
  · refine AW.exit ?_
    refine Thn_e ?_
    clear hK K
    refine Thn_e ?_
    refine InB_here ?_
    iterate 2
      refine Thn_n ?_
      refine hK _ _ ?_
      clear hK K
      refine AW.seq_k fun K hK => ?_
      refine AW.region (by decide) ?_
      simp only [push_cast, Nat.reduceAdd, Nat.reduceMul, Nat.reduceSub, Nat.reduceLeDiff, Nat.reduceLT, Nat.reduceEqDiff, Nat.reduceBEq, Nat.reduceBNe, Nat.reduceMod, Nat.reduceDiv, Int.reduceLE, Int.reduceLT, Int.reduceToNat, Int.reduceAdd, Int.reduceSub, Int.reduceMul, Int.reduceNeg, Int.reduceEq, Int.reduceBEq, Int.reduceBNe, ↓reduceIte, reduceCtorEq, String.reduceBNe, String.reduceEq, reduceDIte, Nat.reducePow, hb, lk_old hb, p1, p2, p3, p4, p5, p6, z0, z1, z2, c3, f1, f2, f3, hac0, f4, f5, f6, f7, f8, f9, f10]
    refine Thn_n ?_
    refine hK _ _ ?_
    clear hK K
    refine AW.seq_k fun K hK => ?_
    refine AW.draw [.val, .rd 0, .val, .val, .val, .rw 0, .val, .val, .ext, .fl, .wr, .wr] fol (by decide) (by kernel_rfl) ?_
    simp only [push_cast, Nat.reduceAdd, Nat.reduceMul, Nat.reduceSub, Nat.reduceLeDiff, Nat.reduceLT, Nat.reduceEqDiff, Nat.reduceBEq, Nat.reduceBNe, Nat.reduceMod, Nat.reduceDiv, Int.reduceLE, Int.reduceLT, Int.reduceToNat, Int.reduceAdd, Int.reduceSub, Int.reduceMul, Int.reduceNeg, Int.reduceEq, Int.reduceBEq, Int.reduceBNe, ↓reduceIte, reduceCtorEq, String.reduceBNe, String.reduceEq, reduceDIte, Nat.reducePow, hb, lk_old hb, p1, p2, p3, p4, p5, p6, z0, z1, z2, c3, f1, f2, f3, hac0, f4, f5, f6, f7, f8, f9, f10]
    refine DExt.by (by first | rfl | (simp only [List.append_assoc, List.cons_append, List.nil_append]; rfl)) ?_
    simp only [push_cast, Nat.reduceAdd, Nat.reduceMul, Nat.reduceSub, Nat.reduceLeDiff, Nat.reduceLT, Nat.reduceEqDiff, Nat.reduceBEq, Nat.reduceBNe, Nat.reduceMod, Nat.reduceDiv, Int.reduceLE, Int.reduceLT, Int.reduceToNat, Int.reduceAdd, Int.reduceSub, Int.reduceMul, Int.reduceNeg, Int.reduceEq, Int.reduceBEq, Int.reduceBNe, ↓reduceIte, reduceCtorEq, String.reduceBNe, String.reduceEq, reduceDIte, Nat.reducePow, hb, lk_old hb, p1, p2, p3, p4, p5, p6, z0, z1, z2, c3, f1, f2, f3, hac0, f4, f5, f6, f7, f8, f9, f10]
    refine AOpsD_end (by simp only [watchS, allAt, push_cast, Nat.reduceAdd, Nat.reduceMul, Nat.reduceSub, Nat.reduceLeDiff, Nat.reduceLT, Nat.reduceEqDiff, Nat.reduceBEq, Nat.reduceBNe, Nat.reduceMod, Nat.reduceDiv, Int.reduceLE, Int.reduceLT, Int.reduceToNat, Int.reduceAdd, Int.reduceSub, Int.reduceMul, Int.reduceNeg, Int.reduceEq, Int.reduceBEq, Int.reduceBNe, ↓reduceIte, reduceCtorEq, String.reduceBNe, String.reduceEq, reduceDIte, Nat.reducePow, hb, lk_old hb, p1, p2, p3, p4, p5, p6, z0, z1, z2, c3, f1, f2, f3, hac0, f4, f5, f6, f7, f8, f9, f10]) ?_
    refine Thn_n ?_
    refine hK _ _ ?_
    clear hK K
    refine AW.seq_k fun K hK => ?_
    refine AW.region (by decide) ?_
    simp only [push_cast, Nat.reduceAdd, Nat.reduceMul, Nat.reduceSub, Nat.reduceLeDiff, Nat.reduceLT, Nat.reduceEqDiff, Nat.reduceBEq, Nat.reduceBNe, Nat.reduceMod, Nat.reduceDiv, Int.reduceLE, Int.reduceLT, Int.reduceToNat, Int.reduceAdd, Int.reduceSub, Int.reduceMul, Int.reduceNeg, Int.reduceEq, Int.reduceBEq, Int.reduceBNe, ↓reduceIte, reduceCtorEq, String.reduceBNe, String.reduceEq, reduceDIte, Nat.reducePow, hb, lk_old hb, p1, p2, p3, p4, p5, p6, z0, z1, z2, c3, f1, f2, f3, hac0, f4, f5, f6, f7, f8, f9, f10]
    refine CThen.by (make_bad _ _ _ _ _ hs) ?_
    simp only [push_cast, Nat.reduceAdd, Nat.reduceMul, Nat.reduceSub, Nat.reduceLeDiff, Nat.reduceLT, Nat.reduceEqDiff, Nat.reduceBEq, Nat.reduceBNe, Nat.reduceMod, Nat.reduceDiv, Int.reduceLE, Int.reduceLT, Int.reduceToNat, Int.reduceAdd, Int.reduceSub, Int.reduceMul, Int.reduceNeg, Int.reduceEq, Int.reduceBEq, Int.reduceBNe, ↓reduceIte, reduceCtorEq, String.reduceBNe, String.reduceEq, reduceDIte, Nat.reducePow, hb, lk_old hb, p1, p2, p3, p4, p5, p6, z0, z1, z2, c3, f1, f2, f3, hac0, f4, f5, f6, f7, f8, f9, f10]
    refine Thn_n ?_
    refine hK _ _ ?_
    clear hK K
    refine AW.ret ?_
    refine hQ _ _ _ ?_
    first | refine RetP.drop0 (Or.inr rfl) ?_ ?_ hwf | refine RetP.drop (Or.inr rfl) ?_ ?_ hwf
    · simp only [resA, resOne, resTv, AV.tv, push_cast, Nat.reduceAdd, Nat.reduceMul, Nat.reduceSub, Nat.reduceLeDiff, Nat.reduceLT, Nat.reduceEqDiff, Nat.reduceBEq, Nat.reduceBNe, Nat.reduceMod, Nat.reduceDiv, Int.reduceLE, Int.reduceLT, Int.reduceToNat, Int.reduceAdd, Int.reduceSub, Int.reduceMul, Int.reduceNeg, Int.reduceEq, Int.reduceBEq, Int.reduceBNe, ↓reduceIte, reduceCtorEq, String.reduceBNe, String.reduceEq, reduceDIte, Nat.reducePow, hb, lk_old hb, p1, p2, p3, p4, p5, p6, z0, z1, z2, c3, f1, f2, f3, hac0, f4, f5, f6, f7, f8, f9, f10]
    · rfl
/-- Pictures laid one behind the other. -/
def shS (k w h ac wl hl wd : Nat) (A : Nat → Nat → Nat → Int) (dd : Nat → Nat → Int) (s : Nat) : Nat → Nat → Int := sheetG s w h ac wl hl wd A dd
theorem shS_0 {k w h ac wl hl wd N : Nat} {A : Nat → Nat → Nat → Int} {dd : Nat → Nat → Int} : dl N (shS k w h ac wl hl wd A dd 0) = dl N dd := dl_congr fun i q hi hq => by
  simp only [shS, sheetG]; rw [if_neg (fun h => Nat.not_lt_zero _ h.1)]
theorem tile {X wl w s : Nat} (hw : w ≤ wl) (hw1 : 1 ≤ w) : (0 ≤ (X : Int) - ((s * wl : Nat) : Int) ∧ (X : Int) - ((s * wl : Nat) : Int) < (w : Int)) ↔ (X / wl = s ∧ X % wl < w) := by
  have hwl : 0 < wl := by omega
  have e := lin_at X wl
  have hm := Nat.mod_lt X hwl
  constructor
  · rintro ⟨h1, h2⟩
    obtain ⟨u, hu⟩ : ∃ u, X = s * wl + u := ⟨X - s * wl, by omega⟩
    have hd := div_at (v := s) (u := u) (w := wl) (by omega)
    rw [← hu] at hd
    exact ⟨hd.1, by omega⟩
  · rintro ⟨h1, h2⟩
    rw [h1] at e
    omega
theorem shS_step {k w h ln ac rows wl hl wd hg s : Nat} (c : ShOk k w h ln ac rows wl hl wd hg) (hs : s < k) {A : Nat → Nat → Nat → Int} {dd : Nat → Nat → Int} :
    dl (wd * hg) (layG wd w h ((s % ac * wl : Nat) : Int) ((s / ac * hl : Nat) : Int) (shS k w h ac wl hl wd A dd s) (A s)) = dl (wd * hg) (shS k w h ac wl hl wd A dd (s + 1)) := by
  refine dl_congr fun i q hi hq => ?_
  obtain ⟨hv, hx⟩ := row_lt hi c.wdp.1
  obtain ⟨b1, b2, b3, b4, b5, b6, b7, b8, b9⟩ := c.b
  have a1 := c.a1
  have t1 := tile (X := i % wd) (s := s % ac) (show w ≤ wl by have := c.hwl; omega) c.w1
  have t2 := tile (X := i / wd) (s := s / ac) (show h ≤ hl by have := c.hhl; omega) c.h1
  have hxa : i % wd / wl < ac := (Nat.div_lt_iff_lt_mul (by omega)).2 (by have := c.hwd; omega)
  have hsa := Nat.mod_lt s (show 0 < ac by omega)
  have es := lin_at s ac
  simp only [layG, shS, sheetG, Bool.and_eq_true, decide_eq_true_eq]
  generalize hX : i % wd = X at *
  generalize hY : i / wd = Y at *
  by_cases h1 : (X / wl = s % ac ∧ X % wl < w) ∧ (Y / hl = s / ac ∧ Y % hl < h)
  · have h3 := t1.2 h1.1
    have h4 := t2.2 h1.2
    rw [if_pos (show ((0 ≤ (X : Int) - ((s % ac * wl : Nat) : Int) ∧ (X : Int) - ((s % ac * wl : Nat) : Int) < (w : Int)) ∧ 0 ≤ (Y : Int) - ((s / ac * hl : Nat) : Int)) ∧ (Y : Int) - ((s / ac * hl : Nat) : Int) < (h : Int) from ⟨⟨h3, h4.1⟩, h4.2⟩)]
    have et : Y / hl * ac + X / wl = s := by rw [h1.1.1, h1.2.1]; exact es.symm
    rw [et, if_pos ⟨by omega, h1.1.2, h1.2.2⟩]
    have e1 := lin_at X wl
    have e2 := lin_at Y hl
    rw [h1.1.1] at e1
    rw [h1.2.1] at e2
    rw [show ((X : Int) - ((s % ac * wl : Nat) : Int)).toNat = X % wl by omega, show ((Y : Int) - ((s / ac * hl : Nat) : Int)).toNat = Y % hl by omega]
  · rw [if_neg (fun h2 => h1 ⟨t1.1 h2.1.1, t2.1 ⟨h2.1.2, h2.2⟩⟩)]
    by_cases h5 : Y / hl * ac + X / wl < s ∧ X % wl < w ∧ Y % hl < h
    · rw [if_pos h5, if_pos ⟨by omega, h5.2⟩]
    · rw [if_neg h5, if_neg]
      intro h6
      have : Y / hl * ac + X / wl = s := by
        rcases Nat.lt_or_ge (Y / hl * ac + X / wl) s with h | h
        · exact absurd ⟨h, h6.2⟩ h5
        · omega
      rw [es] at this
      obtain ⟨u1, u2⟩ := uniq hxa hsa this
      exact h1 ⟨⟨u2, h6.2.1⟩, u1, h6.2.2⟩
def shE (S : Nat → Nat → Nat → Int) (N : Nat) : Nat → AMem
  | 0 => []
  | i + 1 => shE S N i ++ [⟨.grow, 22, 0, 3, dl N (S (i + 1))⟩]
theorem shE_len (S : Nat → Nat → Nat → Int) (N : Nat) : ∀ i, (shE S N i).length = i
  | 0 => rfl
  | i + 1 => by simp [shE, shE_len S N i]
theorem shE_get (S : Nat → Nat → Nat → Int) (N i : Nat) : (shE S N (i + 1))[i]? = some ⟨.grow, 22, 0, 3, dl N (S (i + 1))⟩ := by
  rw [shE, List.getElem?_append_right (by rw [shE_len]; omega), shE_len, Nat.sub_self]; rfl
def ixN (i : Nat) : Nat := if i = 0 then 2 else i + 3
theorem rows_eq {k ac : Nat} (ha : 1 ≤ ac) : (k + ac - 1) / ac = if k % ac = 0 then k / ac else k / ac + 1 := by
  have e := Nat.div_add_mod k ac
  have hm := Nat.mod_lt k (show 0 < ac by omega)
  by_cases h : k % ac = 0
  · rw [if_pos h]
    have : k + ac - 1 = ac * (k / ac) + (ac - 1) := by omega
    rw [this, Nat.mul_add_div (by omega), Nat.div_eq_of_lt (show ac - 1 < ac by omega)]; rfl
  · rw [if_neg h]
    have : k + ac - 1 = ac * (k / ac + 1) + (k % ac - 1) := by rw [Nat.mul_add]; omega
    rw [this, Nat.mul_add_div (by omega), Nat.div_eq_of_lt (show k % ac - 1 < ac by omega)]

end Go.Proofs.Ytgkmjcpcigklpaa
