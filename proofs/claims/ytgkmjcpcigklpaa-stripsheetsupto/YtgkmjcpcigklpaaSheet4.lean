/- Walks and facts of this seat's program over abstract states, printed by a program of mine; no conditions but those that each theorem names. -/
import Derived.Test.YtgkmjcpcigklpaaSheet3
set_option linter.unusedSimpArgs false
set_option linter.unusedVariables false
set_option maxRecDepth 100000
set_option maxHeartbeats 4000000
namespace Go.Proofs.Ytgkmjcpcigklpaa
open Go Go.Eng

theorem rsheet_ok (r v k : Nat) (W H : Nat → Int) (rr n : Nat → Nat) (x ln : Nat) (d0 d1 d2 : Int) (kk : BK) (ez : Nat) (m : AMem) (hb : m[r]? = some ⟨kk, 29, v, ez, pl k W H rr n⟩) (A : Nat → Nat → Nat → Int) (hp : ∀ j, j < k → PicAt m (rr j) 0 (n j) (A j)) (hin : inR k (x : Int) (ln : Int)) (w h wl hl wd hg : Nat) (hall : ∀ j, j < k → W j = (w : Int) ∧ H j = (h : Int) ∧ n j = w * h ∧ picR (w : Int) (h : Int) (n j) = true) (c : ShOk k w h ln (acN k x) (rowsN k x) wl hl wd hg) (hs : szR (wd : Int) (hg : Int) = true) : Ctr Try.prog 12 [.one (.int .i64 (x : Int)), .one (.int .i64 (ln : Int)), .agg [.int .u8 d0, .int .u8 d1, .int .u8 d2], .one (.sl r v 0 k)] m (.tup [(true, [.int .i64 ((wd : Int)), .int .i64 ((hg : Int)), .sl m.length 0 0 (wd * hg)]), (false, [.int .i64 0])]) (m ++ [⟨.grow, 22, 0, 3, dl (wd * hg) (sheetG k w h (acN k x) wl hl wd A (cD d0 d1 d2))⟩]) := by
  refine Ctr.enter Try.func12 rfl (by decide) (rs := [.cell 8 29, .tmp 9]) (nt := 160) rfl rfl fun hwf Q hQ => ?_
  obtain ⟨p1, p2, p3, p4, p5, p6⟩ := hin
  have hr := get_lt hb
  obtain ⟨b1, b2, b3, b4, b5, b6, b7, b8, b9⟩ := c.b
  have k1 := c.k1
  have k2 := c.k2
  have l2 := c.l2
  have w2 := c.w2
  have h2 := c.h2
  have a1 := c.a1
  have a2 := c.a2
  have hwd := c.hwd
  have hhg := c.hhg
  have hwl := c.hwl
  have hhl := c.hhl
  have hrw := c.hr
  have hac : acN k x = if k < x then k else x := rfl
  have c3 : (0 : Int) < (k : Int) := by omega
  obtain ⟨z0, z1, z2⟩ := pl_get (W := W) (H := H) (r := rr) (n := n) (show 0 < k by omega)
  simp only [Nat.zero_mul, Nat.zero_add] at z0 z1 z2
  obtain ⟨y0, y1, _, _⟩ := hall 0 (by omega)
  rw [y0] at z0
  rw [y1] at z1
  have hlt0 : ∀ k, ¬ m.length + k < m.length := fun k => by omega
  have hsz : wd ≤ 64 ∧ hg ≤ 64 := by have := szR_iff.1 hs; omega
  have f1 : acN k x * w + (acN k x - 1) * ln = wd := by
    obtain ⟨a, ha⟩ : ∃ a, acN k x = a + 1 := ⟨acN k x - 1, by omega⟩
    rw [ha] at hwd ⊢
    rw [hwl, Nat.mul_add, Nat.succ_mul a ln] at hwd
    simp only [Nat.add_sub_cancel]; omega
  have f2 : rowsN k x * h + (rowsN k x - 1) * ln = hg := by
    obtain ⟨a, ha⟩ : ∃ a, rowsN k x = a + 1 := ⟨rowsN k x - 1, by omega⟩
    rw [ha] at hhg ⊢
    rw [hhl, Nat.mul_add, Nat.succ_mul a ln] at hhg
    simp only [Nat.add_sub_cancel]; omega
  have hac0 : ¬ ((acN k x : Nat) : Int) = 0 := by omega
  have f3 : IntKind.i64.wrap ((k : Int).tdiv ((acN k x : Nat) : Int)) = ((k / acN k x : Nat) : Int) := by rw [tdivN, i64n (by have := Nat.div_le_self k (acN k x); omega)]
  have f4 : (k : Int).tmod ((acN k x : Nat) : Int) = ((k % acN k x : Nat) : Int) := rfl
  have hrw2 := rows_eq (k := k) a1
  rw [← hrw] at hrw2
  have hq1 := Nat.div_le_self k (acN k x)
  generalize hq : k / acN k x = q at *
  generalize hrm : k % acN k x = rm at *
  have f5 : IntKind.i64.wrap ((w : Int) + (ln : Int)) = (wl : Int) := by rw [i64i (by omega)]; omega
  have f6 : IntKind.i64.wrap ((h : Int) + (ln : Int)) = (hl : Int) := by rw [i64i (by omega)]; omega
  have hm1 := Nat.mul_le_mul b5 w2
  have hm2 := Nat.mul_le_mul b7 h2
  have hm3 := Nat.mul_le_mul (show acN k x - 1 ≤ 32 by omega) l2
  have hm4 := Nat.mul_le_mul (show rowsN k x - 1 ≤ 32 by omega) l2
  have f7 : IntKind.i64.wrap (((acN k x : Nat) : Int) * (w : Int)) = ((acN k x * w : Nat) : Int) := by rw [← Int.natCast_mul, i64n (by omega)]
  have f8 : IntKind.i64.wrap (((acN k x : Nat) : Int) - 1) = ((acN k x - 1 : Nat) : Int) := by rw [i64i (by omega)]; omega
  have f9 : IntKind.i64.wrap (((acN k x - 1 : Nat) : Int) * (ln : Int)) = (((acN k x - 1) * ln : Nat) : Int) := by rw [← Int.natCast_mul, i64n (by omega)]
  have f10 : IntKind.i64.wrap (((acN k x * w : Nat) : Int) + (((acN k x - 1) * ln : Nat) : Int)) = (wd : Int) := by rw [i64i (by omega)]; omega
  have f11 : IntKind.i64.wrap (((rowsN k x : Nat) : Int) * (h : Int)) = ((rowsN k x * h : Nat) : Int) := by rw [← Int.natCast_mul, i64n (by omega)]
  have f12 : IntKind.i64.wrap (((rowsN k x : Nat) : Int) - 1) = ((rowsN k x - 1 : Nat) : Int) := by rw [i64i (by omega)]; omega
  have f13 : IntKind.i64.wrap (((rowsN k x - 1 : Nat) : Int) * (ln : Int)) = (((rowsN k x - 1) * ln : Nat) : Int) := by rw [← Int.natCast_mul, i64n (by omega)]
  have f14 : IntKind.i64.wrap (((rowsN k x * h : Nat) : Int) + (((rowsN k x - 1) * ln : Nat) : Int)) = (hg : Int) := by rw [i64i (by omega)]; omega
  have f15 : IntKind.i64.wrap ((q : Int) + 1) = (q : Int) + 1 := i64i (by omega)
  generalize hM1 : ((acN k x * w : Nat) : Int) = M1 at *
  generalize hM2 : ((acN k x - 1 : Nat) : Int) = M2 at *
  generalize hM3 : (((acN k x - 1) * ln : Nat) : Int) = M3 at *
  generalize hM4 : ((rowsN k x * h : Nat) : Int) = M4 at *
  generalize hM5 : ((rowsN k x - 1 : Nat) : Int) = M5 at *
  generalize hM6 : (((rowsN k x - 1) * ln : Nat) : Int) = M6 at *
  
  refine AW.seq_k fun K hK => ?_
  refine AW.region (by decide) ?_
  simp only [push_cast, Nat.reduceAdd, Nat.reduceMul, Nat.reduceSub, Nat.reduceLeDiff, Nat.reduceLT, Nat.reduceEqDiff, Nat.reduceBEq, Nat.reduceBNe, Nat.reduceMod, Nat.reduceDiv, Int.reduceLE, Int.reduceLT, Int.reduceToNat, Int.reduceAdd, Int.reduceSub, Int.reduceMul, Int.reduceNeg, Int.reduceEq, Int.reduceBEq, Int.reduceBNe, ↓reduceIte, reduceCtorEq, String.reduceBNe, String.reduceEq, reduceDIte, Nat.reducePow, hb, lk_old hb, p1, p2, p3, p4, p5, p6, z0, z1, z2, c3, hac0, f3, f4, f5, f6, f7, f8, f9, f10, f11, f12, f13, f14, f15, hs]
  refine Thn_n ?_
  refine hK _ _ ?_
  clear hK K
  refine AW.seq_k fun K hK => ?_
  refine AW.seq_k fun K hK => ?_
  refine AW.region (by decide) ?_
  simp only [push_cast, Nat.reduceAdd, Nat.reduceMul, Nat.reduceSub, Nat.reduceLeDiff, Nat.reduceLT, Nat.reduceEqDiff, Nat.reduceBEq, Nat.reduceBNe, Nat.reduceMod, Nat.reduceDiv, Int.reduceLE, Int.reduceLT, Int.reduceToNat, Int.reduceAdd, Int.reduceSub, Int.reduceMul, Int.reduceNeg, Int.reduceEq, Int.reduceBEq, Int.reduceBNe, ↓reduceIte, reduceCtorEq, String.reduceBNe, String.reduceEq, reduceDIte, Nat.reducePow, hb, lk_old hb, p1, p2, p3, p4, p5, p6, z0, z1, z2, c3, hac0, f3, f4, f5, f6, f7, f8, f9, f10, f11, f12, f13, f14, f15, hs]
  refine Thn_n ?_
  refine hK _ _ ?_
  clear hK K
  refine AW.cond_f rfl ?_
  refine AW.skip ?_
  refine Thn_n ?_
  refine hK _ _ ?_
  clear hK K
  refine AW.seq_k fun K hK => ?_
  refine AW.seq_k fun K hK => ?_
  refine AW.region (by decide) ?_
  simp only [push_cast, Nat.reduceAdd, Nat.reduceMul, Nat.reduceSub, Nat.reduceLeDiff, Nat.reduceLT, Nat.reduceEqDiff, Nat.reduceBEq, Nat.reduceBNe, Nat.reduceMod, Nat.reduceDiv, Int.reduceLE, Int.reduceLT, Int.reduceToNat, Int.reduceAdd, Int.reduceSub, Int.reduceMul, Int.reduceNeg, Int.reduceEq, Int.reduceBEq, Int.reduceBNe, ↓reduceIte, reduceCtorEq, String.reduceBNe, String.reduceEq, reduceDIte, Nat.reducePow, hb, lk_old hb, p1, p2, p3, p4, p5, p6, z0, z1, z2, c3, hac0, f3, f4, f5, f6, f7, f8, f9, f10, f11, f12, f13, f14, f15, hs]
  refine Thn_n ?_
  refine hK _ _ ?_
  clear hK K
  refine AW.block ?_
  refine AW.loopK [0, 1, 3, 6, 8] (fun i => i ≤ k) (fun i => [(10, .one (.int .i64 (i : Int)))]) (fun i => []) (fun i => k - i) 0 (by omega) ?_ ?_ fun i hi6 => ?_
  · first | rfl | (simp only [Keeps, Tm.get_cons, Nat.reduceEqDiff, ↓reduceIte, if_true, if_false, ite_true, ite_false, true_and, and_true, and_self, reduceCtorEq] <;> rfl)
  · first | rfl | (simp only [setAll, push_cast, Nat.reduceAdd, Nat.reduceMul, Nat.reduceSub, Nat.reduceLeDiff, Nat.reduceLT, Nat.reduceEqDiff, Nat.reduceBEq, Nat.reduceBNe, Nat.reduceMod, Nat.reduceDiv, Int.reduceLE, Int.reduceLT, Int.reduceToNat, Int.reduceAdd, Int.reduceSub, Int.reduceMul, Int.reduceNeg, Int.reduceEq, Int.reduceBEq, Int.reduceBNe, ↓reduceIte, reduceCtorEq, String.reduceBNe, String.reduceEq, reduceDIte, Nat.reducePow, hb, lk_old hb, p1, p2, p3, p4, p5, p6, z0, z1, z2, c3, hac0, f3, f4, f5, f6, f7, f8, f9, f10, f11, f12, f13, f14, f15, hs] <;> rfl)
  try simp only [keepL, setAll, push_cast, Nat.reduceAdd, Nat.reduceMul, Nat.reduceSub, Nat.reduceLeDiff, Nat.reduceLT, Nat.reduceEqDiff, Nat.reduceBEq, Nat.reduceBNe, Nat.reduceMod, Nat.reduceDiv, Int.reduceLE, Int.reduceLT, Int.reduceToNat, Int.reduceAdd, Int.reduceSub, Int.reduceMul, Int.reduceNeg, Int.reduceEq, Int.reduceBEq, Int.reduceBNe, ↓reduceIte, reduceCtorEq, String.reduceBNe, String.reduceEq, reduceDIte, Nat.reducePow, hb, lk_old hb, p1, p2, p3, p4, p5, p6, z0, z1, z2, c3, hac0, f3, f4, f5, f6, f7, f8, f9, f10, f11, f12, f13, f14, f15, hs]
  refine AW.seq_k fun K hK => ?_
  refine AW.seq_k fun K hK => ?_
  refine AW.region (by decide) ?_
  simp only [push_cast, Nat.reduceAdd, Nat.reduceMul, Nat.reduceSub, Nat.reduceLeDiff, Nat.reduceLT, Nat.reduceEqDiff, Nat.reduceBEq, Nat.reduceBNe, Nat.reduceMod, Nat.reduceDiv, Int.reduceLE, Int.reduceLT, Int.reduceToNat, Int.reduceAdd, Int.reduceSub, Int.reduceMul, Int.reduceNeg, Int.reduceEq, Int.reduceBEq, Int.reduceBNe, ↓reduceIte, reduceCtorEq, String.reduceBNe, String.reduceEq, reduceDIte, Nat.reducePow, hb, lk_old hb, p1, p2, p3, p4, p5, p6, z0, z1, z2, c3, hac0, f3, f4, f5, f6, f7, f8, f9, f10, f11, f12, f13, f14, f15, hs]
  refine Thn_n ?_
  refine hK _ _ ?_
  clear hK K
  refine AW.cond rfl (fun h46 => ?_) (fun h46 => ?_)
  · have hlt : i < k := by have := of_decide_eq_true h46; omega
    have c1 : (i : Int) < (k : Int) := by omega
    have c2 : (0 : Int) ≤ (i : Int) := by omega
    obtain ⟨g0, g1, g2⟩ := pl_get (W := W) (H := H) (r := rr) (n := n) hlt
    obtain ⟨i0, i1, i2, i3⟩ := hall i hlt
    rw [i0] at g0
    rw [i1] at g1
    refine AW.skip ?_
    refine Thn_n ?_
    refine hK _ _ ?_
    clear hK K
    refine AW.seq_k fun K hK => ?_
    refine AW.block ?_
    refine AW.seq_k fun K hK => ?_
    refine AW.draw [.val, .val, .val, .rd 0, .ext, .val, .val, .val, .val, .val, .val, .rd 1, .val, .val, .val, .rd 1, .val, .val, .val, .val, .val, .val, .val, .rd 1, .val, .val, .val, .rd 1, .val, .val] fol (by decide) (by kernel_rfl) ?_
    simp only [push_cast, Nat.reduceAdd, Nat.reduceMul, Nat.reduceSub, Nat.reduceLeDiff, Nat.reduceLT, Nat.reduceEqDiff, Nat.reduceBEq, Nat.reduceBNe, Nat.reduceMod, Nat.reduceDiv, Int.reduceLE, Int.reduceLT, Int.reduceToNat, Int.reduceAdd, Int.reduceSub, Int.reduceMul, Int.reduceNeg, Int.reduceEq, Int.reduceBEq, Int.reduceBNe, ↓reduceIte, reduceCtorEq, String.reduceBNe, String.reduceEq, reduceDIte, Nat.reducePow, hb, lk_old hb, p1, p2, p3, p4, p5, p6, z0, z1, z2, c3, hac0, f3, f4, f5, f6, f7, f8, f9, f10, f11, f12, f13, f14, f15, hs, c1, c2, g0, g1, g2, i0, i1, i3, Nat.zero_mul, Nat.zero_add]
    refine DCall.by0 (refRight_c _ _ _ _ _ _) ?_
    simp only [push_cast, Nat.reduceAdd, Nat.reduceMul, Nat.reduceSub, Nat.reduceLeDiff, Nat.reduceLT, Nat.reduceEqDiff, Nat.reduceBEq, Nat.reduceBNe, Nat.reduceMod, Nat.reduceDiv, Int.reduceLE, Int.reduceLT, Int.reduceToNat, Int.reduceAdd, Int.reduceSub, Int.reduceMul, Int.reduceNeg, Int.reduceEq, Int.reduceBEq, Int.reduceBNe, ↓reduceIte, reduceCtorEq, String.reduceBNe, String.reduceEq, reduceDIte, Nat.reducePow, hb, lk_old hb, p1, p2, p3, p4, p5, p6, z0, z1, z2, c3, hac0, f3, f4, f5, f6, f7, f8, f9, f10, f11, f12, f13, f14, f15, hs, c1, c2, g0, g1, g2, i0, i1, i3, Nat.zero_mul, Nat.zero_add]
    refine Thn_n ?_
    refine hK _ _ ?_
    clear hK K
    refine AW.cond_f rfl ?_
    refine AW.skip ?_
    refine InB_n ?_
    refine Thn_n ?_
    refine hK _ _ ?_
    clear hK K
    refine AW.region (by decide) ?_
    simp only [push_cast, Nat.reduceAdd, Nat.reduceMul, Nat.reduceSub, Nat.reduceLeDiff, Nat.reduceLT, Nat.reduceEqDiff, Nat.reduceBEq, Nat.reduceBNe, Nat.reduceMod, Nat.reduceDiv, Int.reduceLE, Int.reduceLT, Int.reduceToNat, Int.reduceAdd, Int.reduceSub, Int.reduceMul, Int.reduceNeg, Int.reduceEq, Int.reduceBEq, Int.reduceBNe, ↓reduceIte, reduceCtorEq, String.reduceBNe, String.reduceEq, reduceDIte, Nat.reducePow, hb, lk_old hb, p1, p2, p3, p4, p5, p6, z0, z1, z2, c3, hac0, f3, f4, f5, f6, f7, f8, f9, f10, f11, f12, f13, f14, f15, hs, c1, c2, g0, g1, g2, i0, i1, i3, Nat.zero_mul, Nat.zero_add]
    refine Thn_n ?_
    have hwi : IntKind.i64.wrap ((i:Int)+1) = (i:Int)+1 := by rw [IntKind.wrap_i64]; omega
    refine ⟨i + 1, by omega, by omega, ?_⟩
    try simp only [keepL, setAll, push_cast, Nat.reduceAdd, Nat.reduceMul, Nat.reduceSub, Nat.reduceLeDiff, Nat.reduceLT, Nat.reduceEqDiff, Nat.reduceBEq, Nat.reduceBNe, Nat.reduceMod, Nat.reduceDiv, Int.reduceLE, Int.reduceLT, Int.reduceToNat, Int.reduceAdd, Int.reduceSub, Int.reduceMul, Int.reduceNeg, Int.reduceEq, Int.reduceBEq, Int.reduceBNe, ↓reduceIte, reduceCtorEq, String.reduceBNe, String.reduceEq, reduceDIte, Nat.reducePow, hb, lk_old hb, p1, p2, p3, p4, p5, p6, z0, z1, z2, c3, hac0, f3, f4, f5, f6, f7, f8, f9, f10, f11, f12, f13, f14, f15, hs, c1, c2, g0, g1, g2, i0, i1, i3, Nat.zero_mul, Nat.zero_add, hwi]
    exact Weak.same (by simp only [Keeps, Tm.get_cons, Nat.reduceEqDiff, ↓reduceIte, if_true, if_false, ite_true, ite_false, true_and, and_true, and_self, reduceCtorEq, hwi]) (by first | rfl | simp only [Keeps, Tm.get_cons, Nat.reduceEqDiff, ↓reduceIte, if_true, if_false, ite_true, ite_false, true_and, and_true, and_self, reduceCtorEq, hwi])
  · refine AW.exit ?_
    refine Thn_e ?_
    clear hK K
    refine Thn_e ?_
    refine InB_here ?_
    refine Thn_n ?_
    refine hK _ _ ?_
    clear hK K
    refine AW.seq_k fun K hK => ?_
    refine AW.draw [.val, .val, .val, .rd 0, .val, .val, .val, .rd 0, .val, .val] fol (by decide) (by kernel_rfl) ?_
    simp only [push_cast, Nat.reduceAdd, Nat.reduceMul, Nat.reduceSub, Nat.reduceLeDiff, Nat.reduceLT, Nat.reduceEqDiff, Nat.reduceBEq, Nat.reduceBNe, Nat.reduceMod, Nat.reduceDiv, Int.reduceLE, Int.reduceLT, Int.reduceToNat, Int.reduceAdd, Int.reduceSub, Int.reduceMul, Int.reduceNeg, Int.reduceEq, Int.reduceBEq, Int.reduceBNe, ↓reduceIte, reduceCtorEq, String.reduceBNe, String.reduceEq, reduceDIte, Nat.reducePow, hb, lk_old hb, p1, p2, p3, p4, p5, p6, z0, z1, z2, c3, hac0, f3, f4, f5, f6, f7, f8, f9, f10, f11, f12, f13, f14, f15, hs]
    refine Thn_n ?_
    refine hK _ _ ?_
    clear hK K
    refine AW.seq_k fun K hK => ?_
    refine AW.seq_k fun K hK => ?_
    refine AW.region (by decide) ?_
    simp only [push_cast, Nat.reduceAdd, Nat.reduceMul, Nat.reduceSub, Nat.reduceLeDiff, Nat.reduceLT, Nat.reduceEqDiff, Nat.reduceBEq, Nat.reduceBNe, Nat.reduceMod, Nat.reduceDiv, Int.reduceLE, Int.reduceLT, Int.reduceToNat, Int.reduceAdd, Int.reduceSub, Int.reduceMul, Int.reduceNeg, Int.reduceEq, Int.reduceBEq, Int.reduceBNe, ↓reduceIte, reduceCtorEq, String.reduceBNe, String.reduceEq, reduceDIte, Nat.reducePow, hb, lk_old hb, p1, p2, p3, p4, p5, p6, z0, z1, z2, c3, hac0, f3, f4, f5, f6, f7, f8, f9, f10, f11, f12, f13, f14, f15, hs]
    refine Thn_n ?_
    refine hK _ _ ?_
    clear hK K
    refine AW.condJ rfl [1, 3, 6, 8, 11, 12] [(0, .one (.int .i64 ((acN k x : Nat) : Int)))] [] (fun h91 => ?_) (fun h91 => ?_) ?_
    · have e : ((acN k x : Nat) : Int) = (k : Int) := by have h1 := of_decide_eq_true h91; rw [hac, if_pos (by omega)]
      refine AW.region (by decide) ?_
      simp only [push_cast, Nat.reduceAdd, Nat.reduceMul, Nat.reduceSub, Nat.reduceLeDiff, Nat.reduceLT, Nat.reduceEqDiff, Nat.reduceBEq, Nat.reduceBNe, Nat.reduceMod, Nat.reduceDiv, Int.reduceLE, Int.reduceLT, Int.reduceToNat, Int.reduceAdd, Int.reduceSub, Int.reduceMul, Int.reduceNeg, Int.reduceEq, Int.reduceBEq, Int.reduceBNe, ↓reduceIte, reduceCtorEq, String.reduceBNe, String.reduceEq, reduceDIte, Nat.reducePow, hb, lk_old hb, p1, p2, p3, p4, p5, p6, z0, z1, z2, c3, hac0, f3, f4, f5, f6, f7, f8, f9, f10, f11, f12, f13, f14, f15, hs]
      refine Thn_n ?_
      try simp only [keepL, setAll, push_cast, Nat.reduceAdd, Nat.reduceMul, Nat.reduceSub, Nat.reduceLeDiff, Nat.reduceLT, Nat.reduceEqDiff, Nat.reduceBEq, Nat.reduceBNe, Nat.reduceMod, Nat.reduceDiv, Int.reduceLE, Int.reduceLT, Int.reduceToNat, Int.reduceAdd, Int.reduceSub, Int.reduceMul, Int.reduceNeg, Int.reduceEq, Int.reduceBEq, Int.reduceBNe, ↓reduceIte, reduceCtorEq, String.reduceBNe, String.reduceEq, reduceDIte, Nat.reducePow, hb, lk_old hb, p1, p2, p3, p4, p5, p6, z0, z1, z2, c3, hac0, f3, f4, f5, f6, f7, f8, f9, f10, f11, f12, f13, f14, f15, hs, e]
      exact Weak.same (by simp only [Keeps, Tm.get_cons, Nat.reduceEqDiff, ↓reduceIte, if_true, if_false, ite_true, ite_false, true_and, and_true, and_self, reduceCtorEq, e]) (by first | rfl | simp only [Keeps, Tm.get_cons, Nat.reduceEqDiff, ↓reduceIte, if_true, if_false, ite_true, ite_false, true_and, and_true, and_self, reduceCtorEq, e])
    · have e : ((acN k x : Nat) : Int) = (x : Int) := by have h1 := of_decide_eq_false h91; rw [hac, if_neg (by omega)]
      refine AW.skip ?_
      refine Thn_n ?_
      try simp only [keepL, setAll, push_cast, Nat.reduceAdd, Nat.reduceMul, Nat.reduceSub, Nat.reduceLeDiff, Nat.reduceLT, Nat.reduceEqDiff, Nat.reduceBEq, Nat.reduceBNe, Nat.reduceMod, Nat.reduceDiv, Int.reduceLE, Int.reduceLT, Int.reduceToNat, Int.reduceAdd, Int.reduceSub, Int.reduceMul, Int.reduceNeg, Int.reduceEq, Int.reduceBEq, Int.reduceBNe, ↓reduceIte, reduceCtorEq, String.reduceBNe, String.reduceEq, reduceDIte, Nat.reducePow, hb, lk_old hb, p1, p2, p3, p4, p5, p6, z0, z1, z2, c3, hac0, f3, f4, f5, f6, f7, f8, f9, f10, f11, f12, f13, f14, f15, hs, e]
      exact Weak.same (by simp only [Keeps, Tm.get_cons, Nat.reduceEqDiff, ↓reduceIte, if_true, if_false, ite_true, ite_false, true_and, and_true, and_self, reduceCtorEq, e]) (by first | rfl | simp only [Keeps, Tm.get_cons, Nat.reduceEqDiff, ↓reduceIte, if_true, if_false, ite_true, ite_false, true_and, and_true, and_self, reduceCtorEq, e])
    try simp only [keepL, setAll, push_cast, Nat.reduceAdd, Nat.reduceMul, Nat.reduceSub, Nat.reduceLeDiff, Nat.reduceLT, Nat.reduceEqDiff, Nat.reduceBEq, Nat.reduceBNe, Nat.reduceMod, Nat.reduceDiv, Int.reduceLE, Int.reduceLT, Int.reduceToNat, Int.reduceAdd, Int.reduceSub, Int.reduceMul, Int.reduceNeg, Int.reduceEq, Int.reduceBEq, Int.reduceBNe, ↓reduceIte, reduceCtorEq, String.reduceBNe, String.reduceEq, reduceDIte, Nat.reducePow, hb, lk_old hb, p1, p2, p3, p4, p5, p6, z0, z1, z2, c3, hac0, f3, f4, f5, f6, f7, f8, f9, f10, f11, f12, f13, f14, f15, hs]
    refine Thn_n ?_
    refine hK _ _ ?_
    clear hK K
    refine AW.seq_k fun K hK => ?_
    refine AW.region (by decide) ?_
    simp only [push_cast, Nat.reduceAdd, Nat.reduceMul, Nat.reduceSub, Nat.reduceLeDiff, Nat.reduceLT, Nat.reduceEqDiff, Nat.reduceBEq, Nat.reduceBNe, Nat.reduceMod, Nat.reduceDiv, Int.reduceLE, Int.reduceLT, Int.reduceToNat, Int.reduceAdd, Int.reduceSub, Int.reduceMul, Int.reduceNeg, Int.reduceEq, Int.reduceBEq, Int.reduceBNe, ↓reduceIte, reduceCtorEq, String.reduceBNe, String.reduceEq, reduceDIte, Nat.reducePow, hb, lk_old hb, p1, p2, p3, p4, p5, p6, z0, z1, z2, c3, hac0, f3, f4, f5, f6, f7, f8, f9, f10, f11, f12, f13, f14, f15, hs]
    refine Thn_n ?_
    refine hK _ _ ?_
    clear hK K
    refine AW.seq_k fun K hK => ?_
    refine AW.seq_k fun K hK => ?_
    refine AW.region (by decide) ?_
    simp only [push_cast, Nat.reduceAdd, Nat.reduceMul, Nat.reduceSub, Nat.reduceLeDiff, Nat.reduceLT, Nat.reduceEqDiff, Nat.reduceBEq, Nat.reduceBNe, Nat.reduceMod, Nat.reduceDiv, Int.reduceLE, Int.reduceLT, Int.reduceToNat, Int.reduceAdd, Int.reduceSub, Int.reduceMul, Int.reduceNeg, Int.reduceEq, Int.reduceBEq, Int.reduceBNe, ↓reduceIte, reduceCtorEq, String.reduceBNe, String.reduceEq, reduceDIte, Nat.reducePow, hb, lk_old hb, p1, p2, p3, p4, p5, p6, z0, z1, z2, c3, hac0, f3, f4, f5, f6, f7, f8, f9, f10, f11, f12, f13, f14, f15, hs]
    refine Thn_n ?_
    refine hK _ _ ?_
    clear hK K
    refine AW.condJ rfl [0, 1, 3, 6, 8, 11, 12] [(13, .one (.int .i64 ((rowsN k x : Nat) : Int)))] [] (fun h102 => ?_) (fun h102 => ?_) ?_
    · have e : ((rowsN k x : Nat) : Int) = (q : Int) + 1 := by
        have h1 : ¬ rm = 0 := by intro h0; subst h0; simp at h102
        rw [if_neg h1] at hrw2; omega
      refine AW.region (by decide) ?_
      simp only [push_cast, Nat.reduceAdd, Nat.reduceMul, Nat.reduceSub, Nat.reduceLeDiff, Nat.reduceLT, Nat.reduceEqDiff, Nat.reduceBEq, Nat.reduceBNe, Nat.reduceMod, Nat.reduceDiv, Int.reduceLE, Int.reduceLT, Int.reduceToNat, Int.reduceAdd, Int.reduceSub, Int.reduceMul, Int.reduceNeg, Int.reduceEq, Int.reduceBEq, Int.reduceBNe, ↓reduceIte, reduceCtorEq, String.reduceBNe, String.reduceEq, reduceDIte, Nat.reducePow, hb, lk_old hb, p1, p2, p3, p4, p5, p6, z0, z1, z2, c3, hac0, f3, f4, f5, f6, f7, f8, f9, f10, f11, f12, f13, f14, f15, hs]
      refine Thn_n ?_
      try simp only [keepL, setAll, push_cast, Nat.reduceAdd, Nat.reduceMul, Nat.reduceSub, Nat.reduceLeDiff, Nat.reduceLT, Nat.reduceEqDiff, Nat.reduceBEq, Nat.reduceBNe, Nat.reduceMod, Nat.reduceDiv, Int.reduceLE, Int.reduceLT, Int.reduceToNat, Int.reduceAdd, Int.reduceSub, Int.reduceMul, Int.reduceNeg, Int.reduceEq, Int.reduceBEq, Int.reduceBNe, ↓reduceIte, reduceCtorEq, String.reduceBNe, String.reduceEq, reduceDIte, Nat.reducePow, hb, lk_old hb, p1, p2, p3, p4, p5, p6, z0, z1, z2, c3, hac0, f3, f4, f5, f6, f7, f8, f9, f10, f11, f12, f13, f14, f15, hs, e]
      exact Weak.same (by simp only [Keeps, Tm.get_cons, Nat.reduceEqDiff, ↓reduceIte, if_true, if_false, ite_true, ite_false, true_and, and_true, and_self, reduceCtorEq, e]) (by first | rfl | simp only [Keeps, Tm.get_cons, Nat.reduceEqDiff, ↓reduceIte, if_true, if_false, ite_true, ite_false, true_and, and_true, and_self, reduceCtorEq, e])
    · have e : ((rowsN k x : Nat) : Int) = (q : Int) := by
        have h1 : rm = 0 := by
          have : ((rm : Int) != 0) = false := h102
          simp at this; omega
        rw [if_pos h1] at hrw2; omega
      refine AW.skip ?_
      refine Thn_n ?_
      try simp only [keepL, setAll, push_cast, Nat.reduceAdd, Nat.reduceMul, Nat.reduceSub, Nat.reduceLeDiff, Nat.reduceLT, Nat.reduceEqDiff, Nat.reduceBEq, Nat.reduceBNe, Nat.reduceMod, Nat.reduceDiv, Int.reduceLE, Int.reduceLT, Int.reduceToNat, Int.reduceAdd, Int.reduceSub, Int.reduceMul, Int.reduceNeg, Int.reduceEq, Int.reduceBEq, Int.reduceBNe, ↓reduceIte, reduceCtorEq, String.reduceBNe, String.reduceEq, reduceDIte, Nat.reducePow, hb, lk_old hb, p1, p2, p3, p4, p5, p6, z0, z1, z2, c3, hac0, f3, f4, f5, f6, f7, f8, f9, f10, f11, f12, f13, f14, f15, hs, e]
      exact Weak.same (by simp only [Keeps, Tm.get_cons, Nat.reduceEqDiff, ↓reduceIte, if_true, if_false, ite_true, ite_false, true_and, and_true, and_self, reduceCtorEq, e]) (by first | rfl | simp only [Keeps, Tm.get_cons, Nat.reduceEqDiff, ↓reduceIte, if_true, if_false, ite_true, ite_false, true_and, and_true, and_self, reduceCtorEq, e])
    try simp only [keepL, setAll, push_cast, Nat.reduceAdd, Nat.reduceMul, Nat.reduceSub, Nat.reduceLeDiff, Nat.reduceLT, Nat.reduceEqDiff, Nat.reduceBEq, Nat.reduceBNe, Nat.reduceMod, Nat.reduceDiv, Int.reduceLE, Int.reduceLT, Int.reduceToNat, Int.reduceAdd, Int.reduceSub, Int.reduceMul, Int.reduceNeg, Int.reduceEq, Int.reduceBEq, Int.reduceBNe, ↓reduceIte, reduceCtorEq, String.reduceBNe, String.reduceEq, reduceDIte, Nat.reducePow, hb, lk_old hb, p1, p2, p3, p4, p5, p6, z0, z1, z2, c3, hac0, f3, f4, f5, f6, f7, f8, f9, f10, f11, f12, f13, f14, f15, hs]
    iterate 2
      refine Thn_n ?_
      refine hK _ _ ?_
      clear hK K
      refine AW.seq_k fun K hK => ?_
      refine AW.region (by decide) ?_
      simp only [push_cast, Nat.reduceAdd, Nat.reduceMul, Nat.reduceSub, Nat.reduceLeDiff, Nat.reduceLT, Nat.reduceEqDiff, Nat.reduceBEq, Nat.reduceBNe, Nat.reduceMod, Nat.reduceDiv, Int.reduceLE, Int.reduceLT, Int.reduceToNat, Int.reduceAdd, Int.reduceSub, Int.reduceMul, Int.reduceNeg, Int.reduceEq, Int.reduceBEq, Int.reduceBNe, ↓reduceIte, reduceCtorEq, String.reduceBNe, String.reduceEq, reduceDIte, Nat.reducePow, hb, lk_old hb, p1, p2, p3, p4, p5, p6, z0, z1, z2, c3, hac0, f3, f4, f5, f6, f7, f8, f9, f10, f11, f12, f13, f14, f15, hs]
    refine Thn_n ?_
    refine hK _ _ ?_
    clear hK K
    refine AW.seq_k fun K hK => ?_
    refine AW.seq_k fun K hK => ?_
    refine AW.region (by decide) ?_
    simp only [push_cast, Nat.reduceAdd, Nat.reduceMul, Nat.reduceSub, Nat.reduceLeDiff, Nat.reduceLT, Nat.reduceEqDiff, Nat.reduceBEq, Nat.reduceBNe, Nat.reduceMod, Nat.reduceDiv, Int.reduceLE, Int.reduceLT, Int.reduceToNat, Int.reduceAdd, Int.reduceSub, Int.reduceMul, Int.reduceNeg, Int.reduceEq, Int.reduceBEq, Int.reduceBNe, ↓reduceIte, reduceCtorEq, String.reduceBNe, String.reduceEq, reduceDIte, Nat.reducePow, hb, lk_old hb, p1, p2, p3, p4, p5, p6, z0, z1, z2, c3, hac0, f3, f4, f5, f6, f7, f8, f9, f10, f11, f12, f13, f14, f15, hs]
    refine CThen.by (rightSize_c _ _ _) ?_
    simp only [push_cast, Nat.reduceAdd, Nat.reduceMul, Nat.reduceSub, Nat.reduceLeDiff, Nat.reduceLT, Nat.reduceEqDiff, Nat.reduceBEq, Nat.reduceBNe, Nat.reduceMod, Nat.reduceDiv, Int.reduceLE, Int.reduceLT, Int.reduceToNat, Int.reduceAdd, Int.reduceSub, Int.reduceMul, Int.reduceNeg, Int.reduceEq, Int.reduceBEq, Int.reduceBNe, ↓reduceIte, reduceCtorEq, String.reduceBNe, String.reduceEq, reduceDIte, Nat.reducePow, hb, lk_old hb, p1, p2, p3, p4, p5, p6, z0, z1, z2, c3, hac0, f3, f4, f5, f6, f7, f8, f9, f10, f11, f12, f13, f14, f15, hs]
    refine Thn_n ?_
    refine hK _ _ ?_
    clear hK K
    refine AW.cond_f rfl ?_
    refine AW.skip ?_
    refine Thn_n ?_
    refine hK _ _ ?_
    clear hK K
    refine AW.seq_k fun K hK => ?_
    refine AW.region (by decide) ?_
    simp only [push_cast, Nat.reduceAdd, Nat.reduceMul, Nat.reduceSub, Nat.reduceLeDiff, Nat.reduceLT, Nat.reduceEqDiff, Nat.reduceBEq, Nat.reduceBNe, Nat.reduceMod, Nat.reduceDiv, Int.reduceLE, Int.reduceLT, Int.reduceToNat, Int.reduceAdd, Int.reduceSub, Int.reduceMul, Int.reduceNeg, Int.reduceEq, Int.reduceBEq, Int.reduceBNe, ↓reduceIte, reduceCtorEq, String.reduceBNe, String.reduceEq, reduceDIte, Nat.reducePow, hb, lk_old hb, p1, p2, p3, p4, p5, p6, z0, z1, z2, c3, hac0, f3, f4, f5, f6, f7, f8, f9, f10, f11, f12, f13, f14, f15, hs]
    refine CThen.by (rplain_ok _ _ _ _ _ (wd * hg) _ hs (by simp)) ?_
    simp only [push_cast, Nat.reduceAdd, Nat.reduceMul, Nat.reduceSub, Nat.reduceLeDiff, Nat.reduceLT, Nat.reduceEqDiff, Nat.reduceBEq, Nat.reduceBNe, Nat.reduceMod, Nat.reduceDiv, Int.reduceLE, Int.reduceLT, Int.reduceToNat, Int.reduceAdd, Int.reduceSub, Int.reduceMul, Int.reduceNeg, Int.reduceEq, Int.reduceBEq, Int.reduceBNe, ↓reduceIte, reduceCtorEq, String.reduceBNe, String.reduceEq, reduceDIte, Nat.reducePow, hb, lk_old hb, p1, p2, p3, p4, p5, p6, z0, z1, z2, c3, hac0, f3, f4, f5, f6, f7, f8, f9, f10, f11, f12, f13, f14, f15, hs]
    refine Thn_n ?_
    refine hK _ _ ?_
    clear hK K
    refine AW.seq_k fun K hK => ?_
    refine AW.seq_k fun K hK => ?_
    refine AW.region (by decide) ?_
    simp only [push_cast, Nat.reduceAdd, Nat.reduceMul, Nat.reduceSub, Nat.reduceLeDiff, Nat.reduceLT, Nat.reduceEqDiff, Nat.reduceBEq, Nat.reduceBNe, Nat.reduceMod, Nat.reduceDiv, Int.reduceLE, Int.reduceLT, Int.reduceToNat, Int.reduceAdd, Int.reduceSub, Int.reduceMul, Int.reduceNeg, Int.reduceEq, Int.reduceBEq, Int.reduceBNe, ↓reduceIte, reduceCtorEq, String.reduceBNe, String.reduceEq, reduceDIte, Nat.reducePow, hb, lk_old hb, p1, p2, p3, p4, p5, p6, z0, z1, z2, c3, hac0, f3, f4, f5, f6, f7, f8, f9, f10, f11, f12, f13, f14, f15, hs]
    refine Thn_n ?_
    refine hK _ _ ?_
    clear hK K
    refine AW.block ?_
    refine AW.loopE0 [0, 1, 3, 8, 11, 12, 16] (fun i => i ≤ k) (fun i => [(17, .one (.int .i64 (i : Int)))]) (fun i => [(m.length + 3, ⟨.fix, 29, 0, 0, [.int .i64 (wd : Int), .int .i64 (hg : Int), .sl (m.length + ixN i) 0 0 (wd * hg)]⟩)]) (fun i => shE (shS k w h (acN k x) wl hl wd A (cD d0 d1 d2)) (wd * hg) i) (fun i => k - i) 0 (by omega) ?_ ?_ ?_ fun i hi26 => ?_
    · first | rfl | (simp only [Keeps, Tm.get_cons, Nat.reduceEqDiff, ↓reduceIte, if_true, if_false, ite_true, ite_false, true_and, and_true, and_self, reduceCtorEq, ixN, shE] <;> rfl)
    · first | rfl | (simp only [setAll, push_cast, Nat.reduceAdd, Nat.reduceMul, Nat.reduceSub, Nat.reduceLeDiff, Nat.reduceLT, Nat.reduceEqDiff, Nat.reduceBEq, Nat.reduceBNe, Nat.reduceMod, Nat.reduceDiv, Int.reduceLE, Int.reduceLT, Int.reduceToNat, Int.reduceAdd, Int.reduceSub, Int.reduceMul, Int.reduceNeg, Int.reduceEq, Int.reduceBEq, Int.reduceBNe, ↓reduceIte, reduceCtorEq, String.reduceBNe, String.reduceEq, reduceDIte, Nat.reducePow, hb, lk_old hb, p1, p2, p3, p4, p5, p6, z0, z1, z2, c3, hac0, f3, f4, f5, f6, f7, f8, f9, f10, f11, f12, f13, f14, f15, hs, ixN, shE] <;> rfl)
    · exact fun i j _ _ h => by simp only [shE_len]; omega
    try simp only [keepL, setAll, push_cast, Nat.reduceAdd, Nat.reduceMul, Nat.reduceSub, Nat.reduceLeDiff, Nat.reduceLT, Nat.reduceEqDiff, Nat.reduceBEq, Nat.reduceBNe, Nat.reduceMod, Nat.reduceDiv, Int.reduceLE, Int.reduceLT, Int.reduceToNat, Int.reduceAdd, Int.reduceSub, Int.reduceMul, Int.reduceNeg, Int.reduceEq, Int.reduceBEq, Int.reduceBNe, ↓reduceIte, reduceCtorEq, String.reduceBNe, String.reduceEq, reduceDIte, Nat.reducePow, hb, lk_old hb, p1, p2, p3, p4, p5, p6, z0, z1, z2, c3, hac0, f3, f4, f5, f6, f7, f8, f9, f10, f11, f12, f13, f14, f15, hs]
    refine AW.seq_k fun K hK => ?_
    refine AW.seq_k fun K hK => ?_
    refine AW.region (by decide) ?_
    simp only [push_cast, Nat.reduceAdd, Nat.reduceMul, Nat.reduceSub, Nat.reduceLeDiff, Nat.reduceLT, Nat.reduceEqDiff, Nat.reduceBEq, Nat.reduceBNe, Nat.reduceMod, Nat.reduceDiv, Int.reduceLE, Int.reduceLT, Int.reduceToNat, Int.reduceAdd, Int.reduceSub, Int.reduceMul, Int.reduceNeg, Int.reduceEq, Int.reduceBEq, Int.reduceBNe, ↓reduceIte, reduceCtorEq, String.reduceBNe, String.reduceEq, reduceDIte, Nat.reducePow, hb, lk_old hb, p1, p2, p3, p4, p5, p6, z0, z1, z2, c3, hac0, f3, f4, f5, f6, f7, f8, f9, f10, f11, f12, f13, f14, f15, hs]
    refine Thn_n ?_
    refine hK _ _ ?_
    clear hK K
    refine AW.cond rfl (fun h133 => ?_) (fun h133 => ?_)
    · have hlt : i < k := by have := of_decide_eq_true h133; omega
      have c1 : (i : Int) < (k : Int) := by omega
      have c2 : (0 : Int) ≤ (i : Int) := by omega
      obtain ⟨g0, g1, g2⟩ := pl_get (W := W) (H := H) (r := rr) (n := n) hlt
      obtain ⟨i0, i1, i2, i3⟩ := hall i hlt
      rw [i0] at g0
      rw [i1] at g1
      have hpic : ∀ b0 b1 b3, PicAt (m ++ (b0 :: b1 :: ⟨.grow, 22, 0, 3, dl (wd * hg) (cD d0 d1 d2)⟩ :: b3 :: shE (shS k w h (acN k x) wl hl wd A (cD d0 d1 d2)) (wd * hg) i)) (m.length + ixN i) 0 (wd * hg) ((shS k w h (acN k x) wl hl wd A (cD d0 d1 d2)) i) := fun b0 b1 b3 => by
        cases i with
        | zero => exact ⟨.grow, 3, by rw [shS_0, lk_app]; rfl⟩
        | succ i => exact ⟨.grow, 3, by rw [lk_app]; exact shE_get _ _ i⟩
      have hEl := shE_len (shS k w h (acN k x) wl hl wd A (cD d0 d1 d2)) (wd * hg) i
      have hix : ixN (i + 1) = i + 4 := by simp [ixN]
      have hstep := shS_step c hlt (A := A) (dd := cD d0 d1 d2)
      have hil := Nat.mod_lt i (show 0 < acN k x by omega)
      have u1 : (i : Int).tmod ((acN k x : Nat) : Int) = ((i % acN k x : Nat) : Int) := rfl
      have hid := Nat.div_le_self i (acN k x)
      have u2 : IntKind.i64.wrap ((i : Int).tdiv ((acN k x : Nat) : Int)) = ((i / acN k x : Nat) : Int) := by rw [tdivN, i64n (by omega)]
      have m1 := Nat.mul_le_mul_right wl (show i % acN k x + 1 ≤ acN k x by omega)
      have hir : i / acN k x + 1 ≤ rowsN k x := by
        have h1 : i / acN k x ≤ (k - 1) / acN k x := Nat.div_le_div_right (by omega)
        have h2 : rowsN k x = (k - 1) / acN k x + 1 := by
          rw [hrw, show k + acN k x - 1 = (k - 1) + acN k x by omega, Nat.add_div_right _ (by omega)]
        omega
      have m2 := Nat.mul_le_mul_right hl hir
      rw [Nat.succ_mul] at m1 m2
      have u3 : IntKind.i64.wrap (((i % acN k x : Nat) : Int) * (wl : Int)) = ((i % acN k x * wl : Nat) : Int) := by rw [← Int.natCast_mul, i64n (by omega)]
      have u4 : IntKind.i64.wrap (((i / acN k x : Nat) : Int) * (hl : Int)) = ((i / acN k x * hl : Nat) : Int) := by rw [← Int.natCast_mul, i64n (by omega)]
      have hpN : picR (wd : Int) (hg : Int) (wd * hg) = true := by
        simp only [picR, hs, Bool.true_and, beq_iff_eq]
        have := wh_le hsz.1 hsz.2
        rw [← Int.natCast_mul, i64n (by omega)]
      have hlay : layF (wd : Int) (hg : Int) (wd * hg) ((shS k w h (acN k x) wl hl wd A (cD d0 d1 d2)) i) (w : Int) (h : Int) (n i) (A i) ((i % acN k x * wl : Nat) : Int) ((i / acN k x * hl : Nat) : Int) = ⟨(wd : Int), (hg : Int), wd * hg, layG wd w h ((i % acN k x * wl : Nat) : Int) ((i / acN k x * hl : Nat) : Int) ((shS k w h (acN k x) wl hl wd A (cD d0 d1 d2)) i) (A i), 0⟩ := by
        rw [layF, if_pos]
        · rfl
        · rw [layR, hpN, i3, Bool.true_and, Bool.true_and, decide_eq_true_eq]
          omega
      generalize hX0 : ((i % acN k x * wl : Nat) : Int) = X0 at *
      generalize hY0 : ((i / acN k x * hl : Nat) : Int) = Y0 at *
      generalize hX1 : ((i % acN k x : Nat) : Int) = X1 at *
      generalize hY1 : ((i / acN k x : Nat) : Int) = Y1 at *
      refine AW.skip ?_
      refine Thn_n ?_
      refine hK _ _ ?_
      clear hK K
      refine AW.seq_k fun K hK => ?_
      refine AW.block ?_
      refine AW.draw [.rd 0, .val, .val, .val, .rd 0, .val, .val, .val, .val, .val, .val, .val, .val, .val, .val, .val, .val, .val, .val, .ext, .val, .val, .val, .wr] fol (by decide) (by kernel_rfl) ?_
      simp only [push_cast, Nat.reduceAdd, Nat.reduceMul, Nat.reduceSub, Nat.reduceLeDiff, Nat.reduceLT, Nat.reduceEqDiff, Nat.reduceBEq, Nat.reduceBNe, Nat.reduceMod, Nat.reduceDiv, Int.reduceLE, Int.reduceLT, Int.reduceToNat, Int.reduceAdd, Int.reduceSub, Int.reduceMul, Int.reduceNeg, Int.reduceEq, Int.reduceBEq, Int.reduceBNe, ↓reduceIte, reduceCtorEq, String.reduceBNe, String.reduceEq, reduceDIte, Nat.reducePow, hb, lk_old hb, p1, p2, p3, p4, p5, p6, z0, z1, z2, c3, hac0, f3, f4, f5, f6, f7, f8, f9, f10, f11, f12, f13, f14, f15, hs, c1, c2, g0, g1, g2, hEl, u1, u2, u3, u4, hlay, PE.ret, PE.pic, PE.blk]
      refine DCall.by (rlay_c _ _ _ _ _ _ _ _ _ _ _ _ _ (A i) _ (hpic _ _ _) ((hp i hlt).mono _)) ?_
      simp only [push_cast, Nat.reduceAdd, Nat.reduceMul, Nat.reduceSub, Nat.reduceLeDiff, Nat.reduceLT, Nat.reduceEqDiff, Nat.reduceBEq, Nat.reduceBNe, Nat.reduceMod, Nat.reduceDiv, Int.reduceLE, Int.reduceLT, Int.reduceToNat, Int.reduceAdd, Int.reduceSub, Int.reduceMul, Int.reduceNeg, Int.reduceEq, Int.reduceBEq, Int.reduceBNe, ↓reduceIte, reduceCtorEq, String.reduceBNe, String.reduceEq, reduceDIte, Nat.reducePow, hb, lk_old hb, p1, p2, p3, p4, p5, p6, z0, z1, z2, c3, hac0, f3, f4, f5, f6, f7, f8, f9, f10, f11, f12, f13, f14, f15, hs, c1, c2, g0, g1, g2, hEl, u1, u2, u3, u4, hlay, PE.ret, PE.pic, PE.blk]
      refine InB_n ?_
      refine Thn_n ?_
      refine hK _ _ ?_
      clear hK K
      refine AW.region (by decide) ?_
      simp only [push_cast, Nat.reduceAdd, Nat.reduceMul, Nat.reduceSub, Nat.reduceLeDiff, Nat.reduceLT, Nat.reduceEqDiff, Nat.reduceBEq, Nat.reduceBNe, Nat.reduceMod, Nat.reduceDiv, Int.reduceLE, Int.reduceLT, Int.reduceToNat, Int.reduceAdd, Int.reduceSub, Int.reduceMul, Int.reduceNeg, Int.reduceEq, Int.reduceBEq, Int.reduceBNe, ↓reduceIte, reduceCtorEq, String.reduceBNe, String.reduceEq, reduceDIte, Nat.reducePow, hb, lk_old hb, p1, p2, p3, p4, p5, p6, z0, z1, z2, c3, hac0, f3, f4, f5, f6, f7, f8, f9, f10, f11, f12, f13, f14, f15, hs, c1, c2, g0, g1, g2, hEl, u1, u2, u3, u4, hlay, PE.ret, PE.pic, PE.blk]
      refine Thn_n ?_
      have hwi : IntKind.i64.wrap ((i:Int)+1) = (i:Int)+1 := by rw [IntKind.wrap_i64]; omega
      refine ⟨i + 1, by omega, by omega, ?_⟩
      try simp only [keepL, setAll, push_cast, Nat.reduceAdd, Nat.reduceMul, Nat.reduceSub, Nat.reduceLeDiff, Nat.reduceLT, Nat.reduceEqDiff, Nat.reduceBEq, Nat.reduceBNe, Nat.reduceMod, Nat.reduceDiv, Int.reduceLE, Int.reduceLT, Int.reduceToNat, Int.reduceAdd, Int.reduceSub, Int.reduceMul, Int.reduceNeg, Int.reduceEq, Int.reduceBEq, Int.reduceBNe, ↓reduceIte, reduceCtorEq, String.reduceBNe, String.reduceEq, reduceDIte, Nat.reducePow, hb, lk_old hb, p1, p2, p3, p4, p5, p6, z0, z1, z2, c3, hac0, f3, f4, f5, f6, f7, f8, f9, f10, f11, f12, f13, f14, f15, hs, c1, c2, g0, g1, g2, hEl, u1, u2, u3, u4, hlay, PE.ret, PE.pic, PE.blk, hwi, hix, shE, hstep]
      exact Weak.same (by simp only [Keeps, Tm.get_cons, Nat.reduceEqDiff, ↓reduceIte, if_true, if_false, ite_true, ite_false, true_and, and_true, and_self, reduceCtorEq, hwi, hix, shE, hstep]) (by first | rfl | simp only [Keeps, Tm.get_cons, Nat.reduceEqDiff, ↓reduceIte, if_true, if_false, ite_true, ite_false, true_and, and_true, and_self, reduceCtorEq, hwi, hix, shE, hstep])
    · have hie : k = i := by have := of_decide_eq_false h133; omega
      subst hie
      have hixk : ixN k = k + 3 := by unfold ixN; rw [if_neg (by omega)]
      have hrowk : ∀ b0 b1 b2 b3, (m ++ (b0 :: b1 :: b2 :: b3 :: shE (shS k w h (acN k x) wl hl wd A (cD d0 d1 d2)) (wd * hg) k))[m.length + (k + 3)]? = some ⟨.grow, 22, 0, 3, dl (wd * hg) (sheetG k w h (acN k x) wl hl wd A (cD d0 d1 d2))⟩ := fun b0 b1 b2 b3 => by
        obtain ⟨k', hk'⟩ : ∃ k', k = k' + 1 := ⟨k - 1, by omega⟩
        rw [lk_app]
        have e := shE_get (shS k w h (acN k x) wl hl wd A (cD d0 d1 d2)) (wd * hg) k'
        rw [← hk'] at e
        rw [show k + 3 = k' + 4 by omega]
        exact e
      refine AW.exit ?_
      refine Thn_e ?_
      clear hK K
      refine Thn_e ?_
      refine InB_here ?_
      refine Thn_n ?_
      refine hK _ _ ?_
      clear hK K
      refine AW.seq_k fun K hK => ?_
      refine AW.region (by decide) ?_
      simp only [push_cast, Nat.reduceAdd, Nat.reduceMul, Nat.reduceSub, Nat.reduceLeDiff, Nat.reduceLT, Nat.reduceEqDiff, Nat.reduceBEq, Nat.reduceBNe, Nat.reduceMod, Nat.reduceDiv, Int.reduceLE, Int.reduceLT, Int.reduceToNat, Int.reduceAdd, Int.reduceSub, Int.reduceMul, Int.reduceNeg, Int.reduceEq, Int.reduceBEq, Int.reduceBNe, ↓reduceIte, reduceCtorEq, String.reduceBNe, String.reduceEq, reduceDIte, Nat.reducePow, hb, lk_old hb, p1, p2, p3, p4, p5, p6, z0, z1, z2, c3, hac0, f3, f4, f5, f6, f7, f8, f9, f10, f11, f12, f13, f14, f15, hs, hixk]
      refine Thn_n ?_
      refine hK _ _ ?_
      clear hK K
      refine AW.ret ?_
      refine hQ _ _ _ ?_
      refine RetP.pick [(m.length + (k + 3), 0)] (Or.inr rfl) ?_ ?_ ?_ hwf ?_
      · simp only [resA, resOne, resTv, AV.tv, push_cast, Nat.reduceAdd, Nat.reduceMul, Nat.reduceSub, Nat.reduceLeDiff, Nat.reduceLT, Nat.reduceEqDiff, Nat.reduceBEq, Nat.reduceBNe, Nat.reduceMod, Nat.reduceDiv, Int.reduceLE, Int.reduceLT, Int.reduceToNat, Int.reduceAdd, Int.reduceSub, Int.reduceMul, Int.reduceNeg, Int.reduceEq, Int.reduceBEq, Int.reduceBNe, ↓reduceIte, reduceCtorEq, String.reduceBNe, String.reduceEq, reduceDIte, Nat.reducePow]
        simp [renV, renT, renL, renC, renIdx, hlt0]
      · simp only [picks, hrowk, push_cast, Nat.reduceAdd, Nat.reduceMul, Nat.reduceSub, Nat.reduceLeDiff, Nat.reduceLT, Nat.reduceEqDiff, Nat.reduceBEq, Nat.reduceBNe, Nat.reduceMod, Nat.reduceDiv, Int.reduceLE, Int.reduceLT, Int.reduceToNat, Int.reduceAdd, Int.reduceSub, Int.reduceMul, Int.reduceNeg, Int.reduceEq, Int.reduceBEq, Int.reduceBNe, ↓reduceIte, reduceCtorEq, String.reduceBNe, String.reduceEq, reduceDIte, Nat.reducePow]
      · simp [distinctFrom]
      · exact MWf_one (dl_below _ _ _)
      
theorem rsheet_big (r v k : Nat) (W H : Nat → Int) (rr n : Nat → Nat) (x ln : Nat) (d0 d1 d2 : Int) (kk : BK) (ez : Nat) (m : AMem) (hb : m[r]? = some ⟨kk, 29, v, ez, pl k W H rr n⟩) (A : Nat → Nat → Nat → Int) (hp : ∀ j, j < k → PicAt m (rr j) 0 (n j) (A j)) (hin : inR k (x : Int) (ln : Int)) (w h wl hl wd hg : Nat) (hall : ∀ j, j < k → W j = (w : Int) ∧ H j = (h : Int) ∧ n j = w * h ∧ picR (w : Int) (h : Int) (n j) = true) (c : ShOk k w h ln (acN k x) (rowsN k x) wl hl wd hg) (hs : szR (wd : Int) (hg : Int) = false) : Ctr Try.prog 12 [.one (.int .i64 (x : Int)), .one (.int .i64 (ln : Int)), .agg [.int .u8 d0, .int .u8 d1, .int .u8 d2], .one (.sl r v 0 k)] m (.tup [(true, [.int .i64 0, .int .i64 0, .nils]), (false, [.int .i64 1])]) m := by
  refine Ctr.enter Try.func12 rfl (by decide) (rs := [.cell 8 29, .tmp 9]) (nt := 160) rfl rfl fun hwf Q hQ => ?_
  obtain ⟨p1, p2, p3, p4, p5, p6⟩ := hin
  have hr := get_lt hb
  obtain ⟨b1, b2, b3, b4, b5, b6, b7, b8, b9⟩ := c.b
  have k1 := c.k1
  have k2 := c.k2
  have l2 := c.l2
  have w2 := c.w2
  have h2 := c.h2
  have a1 := c.a1
  have a2 := c.a2
  have hwd := c.hwd
  have hhg := c.hhg
  have hwl := c.hwl
  have hhl := c.hhl
  have hrw := c.hr
  have hac : acN k x = if k < x then k else x := rfl
  have c3 : (0 : Int) < (k : Int) := by omega
  obtain ⟨z0, z1, z2⟩ := pl_get (W := W) (H := H) (r := rr) (n := n) (show 0 < k by omega)
  simp only [Nat.zero_mul, Nat.zero_add] at z0 z1 z2
  obtain ⟨y0, y1, _, _⟩ := hall 0 (by omega)
  rw [y0] at z0
  rw [y1] at z1
  have f1 : acN k x * w + (acN k x - 1) * ln = wd := by
    obtain ⟨a, ha⟩ : ∃ a, acN k x = a + 1 := ⟨acN k x - 1, by omega⟩
    rw [ha] at hwd ⊢
    rw [hwl, Nat.mul_add, Nat.succ_mul a ln] at hwd
    simp only [Nat.add_sub_cancel]; omega
  have f2 : rowsN k x * h + (rowsN k x - 1) * ln = hg := by
    obtain ⟨a, ha⟩ : ∃ a, rowsN k x = a + 1 := ⟨rowsN k x - 1, by omega⟩
    rw [ha] at hhg ⊢
    rw [hhl, Nat.mul_add, Nat.succ_mul a ln] at hhg
    simp only [Nat.add_sub_cancel]; omega
  have hac0 : ¬ ((acN k x : Nat) : Int) = 0 := by omega
  have f3 : IntKind.i64.wrap ((k : Int).tdiv ((acN k x : Nat) : Int)) = ((k / acN k x : Nat) : Int) := by rw [tdivN, i64n (by have := Nat.div_le_self k (acN k x); omega)]
  have f4 : (k : Int).tmod ((acN k x : Nat) : Int) = ((k % acN k x : Nat) : Int) := rfl
  have hrw2 := rows_eq (k := k) a1
  rw [← hrw] at hrw2
  have hq1 := Nat.div_le_self k (acN k x)
  generalize hq : k / acN k x = q at *
  generalize hrm : k % acN k x = rm at *
  have f5 : IntKind.i64.wrap ((w : Int) + (ln : Int)) = (wl : Int) := by rw [i64i (by omega)]; omega
  have f6 : IntKind.i64.wrap ((h : Int) + (ln : Int)) = (hl : Int) := by rw [i64i (by omega)]; omega
  have hm1 := Nat.mul_le_mul b5 w2
  have hm2 := Nat.mul_le_mul b7 h2
  have hm3 := Nat.mul_le_mul (show acN k x - 1 ≤ 32 by omega) l2
  have hm4 := Nat.mul_le_mul (show rowsN k x - 1 ≤ 32 by omega) l2
  have f7 : IntKind.i64.wrap (((acN k x : Nat) : Int) * (w : Int)) = ((acN k x * w : Nat) : Int) := by rw [← Int.natCast_mul, i64n (by omega)]
  have f8 : IntKind.i64.wrap (((acN k x : Nat) : Int) - 1) = ((acN k x - 1 : Nat) : Int) := by rw [i64i (by omega)]; omega
  have f9 : IntKind.i64.wrap (((acN k x - 1 : Nat) : Int) * (ln : Int)) = (((acN k x - 1) * ln : Nat) : Int) := by rw [← Int.natCast_mul, i64n (by omega)]
  have f10 : IntKind.i64.wrap (((acN k x * w : Nat) : Int) + (((acN k x - 1) * ln : Nat) : Int)) = (wd : Int) := by rw [i64i (by omega)]; omega
  have f11 : IntKind.i64.wrap (((rowsN k x : Nat) : Int) * (h : Int)) = ((rowsN k x * h : Nat) : Int) := by rw [← Int.natCast_mul, i64n (by omega)]
  have f12 : IntKind.i64.wrap (((rowsN k x : Nat) : Int) - 1) = ((rowsN k x - 1 : Nat) : Int) := by rw [i64i (by omega)]; omega
  have f13 : IntKind.i64.wrap (((rowsN k x - 1 : Nat) : Int) * (ln : Int)) = (((rowsN k x - 1) * ln : Nat) : Int) := by rw [← Int.natCast_mul, i64n (by omega)]
  have f14 : IntKind.i64.wrap (((rowsN k x * h : Nat) : Int) + (((rowsN k x - 1) * ln : Nat) : Int)) = (hg : Int) := by rw [i64i (by omega)]; omega
  have f15 : IntKind.i64.wrap ((q : Int) + 1) = (q : Int) + 1 := i64i (by omega)
  generalize hM1 : ((acN k x * w : Nat) : Int) = M1 at *
  generalize hM2 : ((acN k x - 1 : Nat) : Int) = M2 at *
  generalize hM3 : (((acN k x - 1) * ln : Nat) : Int) = M3 at *
  generalize hM4 : ((rowsN k x * h : Nat) : Int) = M4 at *
  generalize hM5 : ((rowsN k x - 1 : Nat) : Int) = M5 at *
  generalize hM6 : (((rowsN k x - 1) * ln : Nat) : Int) = M6 at *
  
  refine AW.seq_k fun K hK => ?_
  refine AW.region (by decide) ?_
  simp only [push_cast, Nat.reduceAdd, Nat.reduceMul, Nat.reduceSub, Nat.reduceLeDiff, Nat.reduceLT, Nat.reduceEqDiff, Nat.reduceBEq, Nat.reduceBNe, Nat.reduceMod, Nat.reduceDiv, Int.reduceLE, Int.reduceLT, Int.reduceToNat, Int.reduceAdd, Int.reduceSub, Int.reduceMul, Int.reduceNeg, Int.reduceEq, Int.reduceBEq, Int.reduceBNe, ↓reduceIte, reduceCtorEq, String.reduceBNe, String.reduceEq, reduceDIte, Nat.reducePow, hb, lk_old hb, p1, p2, p3, p4, p5, p6, z0, z1, z2, c3, hac0, f3, f4, f5, f6, f7, f8, f9, f10, f11, f12, f13, f14, f15, hs]
  refine Thn_n ?_
  refine hK _ _ ?_
  clear hK K
  refine AW.seq_k fun K hK => ?_
  refine AW.seq_k fun K hK => ?_
  refine AW.region (by decide) ?_
  simp only [push_cast, Nat.reduceAdd, Nat.reduceMul, Nat.reduceSub, Nat.reduceLeDiff, Nat.reduceLT, Nat.reduceEqDiff, Nat.reduceBEq, Nat.reduceBNe, Nat.reduceMod, Nat.reduceDiv, Int.reduceLE, Int.reduceLT, Int.reduceToNat, Int.reduceAdd, Int.reduceSub, Int.reduceMul, Int.reduceNeg, Int.reduceEq, Int.reduceBEq, Int.reduceBNe, ↓reduceIte, reduceCtorEq, String.reduceBNe, String.reduceEq, reduceDIte, Nat.reducePow, hb, lk_old hb, p1, p2, p3, p4, p5, p6, z0, z1, z2, c3, hac0, f3, f4, f5, f6, f7, f8, f9, f10, f11, f12, f13, f14, f15, hs]
  refine Thn_n ?_
  refine hK _ _ ?_
  clear hK K
  refine AW.cond_f rfl ?_
  refine AW.skip ?_
  refine Thn_n ?_
  refine hK _ _ ?_
  clear hK K
  refine AW.seq_k fun K hK => ?_
  refine AW.seq_k fun K hK => ?_
  refine AW.region (by decide) ?_
  simp only [push_cast, Nat.reduceAdd, Nat.reduceMul, Nat.reduceSub, Nat.reduceLeDiff, Nat.reduceLT, Nat.reduceEqDiff, Nat.reduceBEq, Nat.reduceBNe, Nat.reduceMod, Nat.reduceDiv, Int.reduceLE, Int.reduceLT, Int.reduceToNat, Int.reduceAdd, Int.reduceSub, Int.reduceMul, Int.reduceNeg, Int.reduceEq, Int.reduceBEq, Int.reduceBNe, ↓reduceIte, reduceCtorEq, String.reduceBNe, String.reduceEq, reduceDIte, Nat.reducePow, hb, lk_old hb, p1, p2, p3, p4, p5, p6, z0, z1, z2, c3, hac0, f3, f4, f5, f6, f7, f8, f9, f10, f11, f12, f13, f14, f15, hs]
  refine Thn_n ?_
  refine hK _ _ ?_
  clear hK K
  refine AW.block ?_
  refine AW.loopK [0, 1, 3, 6, 8] (fun i => i ≤ k) (fun i => [(10, .one (.int .i64 (i : Int)))]) (fun i => []) (fun i => k - i) 0 (by omega) ?_ ?_ fun i hi6 => ?_
  · first | rfl | (simp only [Keeps, Tm.get_cons, Nat.reduceEqDiff, ↓reduceIte, if_true, if_false, ite_true, ite_false, true_and, and_true, and_self, reduceCtorEq] <;> rfl)
  · first | rfl | (simp only [setAll, push_cast, Nat.reduceAdd, Nat.reduceMul, Nat.reduceSub, Nat.reduceLeDiff, Nat.reduceLT, Nat.reduceEqDiff, Nat.reduceBEq, Nat.reduceBNe, Nat.reduceMod, Nat.reduceDiv, Int.reduceLE, Int.reduceLT, Int.reduceToNat, Int.reduceAdd, Int.reduceSub, Int.reduceMul, Int.reduceNeg, Int.reduceEq, Int.reduceBEq, Int.reduceBNe, ↓reduceIte, reduceCtorEq, String.reduceBNe, String.reduceEq, reduceDIte, Nat.reducePow, hb, lk_old hb, p1, p2, p3, p4, p5, p6, z0, z1, z2, c3, hac0, f3, f4, f5, f6, f7, f8, f9, f10, f11, f12, f13, f14, f15, hs] <;> rfl)
  try simp only [keepL, setAll, push_cast, Nat.reduceAdd, Nat.reduceMul, Nat.reduceSub, Nat.reduceLeDiff, Nat.reduceLT, Nat.reduceEqDiff, Nat.reduceBEq, Nat.reduceBNe, Nat.reduceMod, Nat.reduceDiv, Int.reduceLE, Int.reduceLT, Int.reduceToNat, Int.reduceAdd, Int.reduceSub, Int.reduceMul, Int.reduceNeg, Int.reduceEq, Int.reduceBEq, Int.reduceBNe, ↓reduceIte, reduceCtorEq, String.reduceBNe, String.reduceEq, reduceDIte, Nat.reducePow, hb, lk_old hb, p1, p2, p3, p4, p5, p6, z0, z1, z2, c3, hac0, f3, f4, f5, f6, f7, f8, f9, f10, f11, f12, f13, f14, f15, hs]
  refine AW.seq_k fun K hK => ?_
  refine AW.seq_k fun K hK => ?_
  refine AW.region (by decide) ?_
  simp only [push_cast, Nat.reduceAdd, Nat.reduceMul, Nat.reduceSub, Nat.reduceLeDiff, Nat.reduceLT, Nat.reduceEqDiff, Nat.reduceBEq, Nat.reduceBNe, Nat.reduceMod, Nat.reduceDiv, Int.reduceLE, Int.reduceLT, Int.reduceToNat, Int.reduceAdd, Int.reduceSub, Int.reduceMul, Int.reduceNeg, Int.reduceEq, Int.reduceBEq, Int.reduceBNe, ↓reduceIte, reduceCtorEq, String.reduceBNe, String.reduceEq, reduceDIte, Nat.reducePow, hb, lk_old hb, p1, p2, p3, p4, p5, p6, z0, z1, z2, c3, hac0, f3, f4, f5, f6, f7, f8, f9, f10, f11, f12, f13, f14, f15, hs]
  refine Thn_n ?_
  refine hK _ _ ?_
  clear hK K
  refine AW.cond rfl (fun h46 => ?_) (fun h46 => ?_)
  · have hlt : i < k := by have := of_decide_eq_true h46; omega
    have c1 : (i : Int) < (k : Int) := by omega
    have c2 : (0 : Int) ≤ (i : Int) := by omega
    obtain ⟨g0, g1, g2⟩ := pl_get (W := W) (H := H) (r := rr) (n := n) hlt
    obtain ⟨i0, i1, i2, i3⟩ := hall i hlt
    rw [i0] at g0
    rw [i1] at g1
    refine AW.skip ?_
    refine Thn_n ?_
    refine hK _ _ ?_
    clear hK K
    refine AW.seq_k fun K hK => ?_
    refine AW.block ?_
    refine AW.seq_k fun K hK => ?_
    refine AW.draw [.val, .val, .val, .rd 0, .ext, .val, .val, .val, .val, .val, .val, .rd 1, .val, .val, .val, .rd 1, .val, .val, .val, .val, .val, .val, .val, .rd 1, .val, .val, .val, .rd 1, .val, .val] fol (by decide) (by kernel_rfl) ?_
    simp only [push_cast, Nat.reduceAdd, Nat.reduceMul, Nat.reduceSub, Nat.reduceLeDiff, Nat.reduceLT, Nat.reduceEqDiff, Nat.reduceBEq, Nat.reduceBNe, Nat.reduceMod, Nat.reduceDiv, Int.reduceLE, Int.reduceLT, Int.reduceToNat, Int.reduceAdd, Int.reduceSub, Int.reduceMul, Int.reduceNeg, Int.reduceEq, Int.reduceBEq, Int.reduceBNe, ↓reduceIte, reduceCtorEq, String.reduceBNe, String.reduceEq, reduceDIte, Nat.reducePow, hb, lk_old hb, p1, p2, p3, p4, p5, p6, z0, z1, z2, c3, hac0, f3, f4, f5, f6, f7, f8, f9, f10, f11, f12, f13, f14, f15, hs, c1, c2, g0, g1, g2, i0, i1, i3, Nat.zero_mul, Nat.zero_add]
    refine DCall.by0 (refRight_c _ _ _ _ _ _) ?_
    simp only [push_cast, Nat.reduceAdd, Nat.reduceMul, Nat.reduceSub, Nat.reduceLeDiff, Nat.reduceLT, Nat.reduceEqDiff, Nat.reduceBEq, Nat.reduceBNe, Nat.reduceMod, Nat.reduceDiv, Int.reduceLE, Int.reduceLT, Int.reduceToNat, Int.reduceAdd, Int.reduceSub, Int.reduceMul, Int.reduceNeg, Int.reduceEq, Int.reduceBEq, Int.reduceBNe, ↓reduceIte, reduceCtorEq, String.reduceBNe, String.reduceEq, reduceDIte, Nat.reducePow, hb, lk_old hb, p1, p2, p3, p4, p5, p6, z0, z1, z2, c3, hac0, f3, f4, f5, f6, f7, f8, f9, f10, f11, f12, f13, f14, f15, hs, c1, c2, g0, g1, g2, i0, i1, i3, Nat.zero_mul, Nat.zero_add]
    refine Thn_n ?_
    refine hK _ _ ?_
    clear hK K
    refine AW.cond_f rfl ?_
    refine AW.skip ?_
    refine InB_n ?_
    refine Thn_n ?_
    refine hK _ _ ?_
    clear hK K
    refine AW.region (by decide) ?_
    simp only [push_cast, Nat.reduceAdd, Nat.reduceMul, Nat.reduceSub, Nat.reduceLeDiff, Nat.reduceLT, Nat.reduceEqDiff, Nat.reduceBEq, Nat.reduceBNe, Nat.reduceMod, Nat.reduceDiv, Int.reduceLE, Int.reduceLT, Int.reduceToNat, Int.reduceAdd, Int.reduceSub, Int.reduceMul, Int.reduceNeg, Int.reduceEq, Int.reduceBEq, Int.reduceBNe, ↓reduceIte, reduceCtorEq, String.reduceBNe, String.reduceEq, reduceDIte, Nat.reducePow, hb, lk_old hb, p1, p2, p3, p4, p5, p6, z0, z1, z2, c3, hac0, f3, f4, f5, f6, f7, f8, f9, f10, f11, f12, f13, f14, f15, hs, c1, c2, g0, g1, g2, i0, i1, i3, Nat.zero_mul, Nat.zero_add]
    refine Thn_n ?_
    have hwi : IntKind.i64.wrap ((i:Int)+1) = (i:Int)+1 := by rw [IntKind.wrap_i64]; omega
    refine ⟨i + 1, by omega, by omega, ?_⟩
    try simp only [keepL, setAll, push_cast, Nat.reduceAdd, Nat.reduceMul, Nat.reduceSub, Nat.reduceLeDiff, Nat.reduceLT, Nat.reduceEqDiff, Nat.reduceBEq, Nat.reduceBNe, Nat.reduceMod, Nat.reduceDiv, Int.reduceLE, Int.reduceLT, Int.reduceToNat, Int.reduceAdd, Int.reduceSub, Int.reduceMul, Int.reduceNeg, Int.reduceEq, Int.reduceBEq, Int.reduceBNe, ↓reduceIte, reduceCtorEq, String.reduceBNe, String.reduceEq, reduceDIte, Nat.reducePow, hb, lk_old hb, p1, p2, p3, p4, p5, p6, z0, z1, z2, c3, hac0, f3, f4, f5, f6, f7, f8, f9, f10, f11, f12, f13, f14, f15, hs, c1, c2, g0, g1, g2, i0, i1, i3, Nat.zero_mul, Nat.zero_add, hwi]
    exact Weak.same (by simp only [Keeps, Tm.get_cons, Nat.reduceEqDiff, ↓reduceIte, if_true, if_false, ite_true, ite_false, true_and, and_true, and_self, reduceCtorEq, hwi]) (by first | rfl | simp only [Keeps, Tm.get_cons, Nat.reduceEqDiff, ↓reduceIte, if_true, if_false, ite_true, ite_false, true_and, and_true, and_self, reduceCtorEq, hwi])
  · refine AW.exit ?_
    refine Thn_e ?_
    clear hK K
    refine Thn_e ?_
    refine InB_here ?_
    refine Thn_n ?_
    refine hK _ _ ?_
    clear hK K
    refine AW.seq_k fun K hK => ?_
    refine AW.draw [.val, .val, .val, .rd 0, .val, .val, .val, .rd 0, .val, .val] fol (by decide) (by kernel_rfl) ?_
    simp only [push_cast, Nat.reduceAdd, Nat.reduceMul, Nat.reduceSub, Nat.reduceLeDiff, Nat.reduceLT, Nat.reduceEqDiff, Nat.reduceBEq, Nat.reduceBNe, Nat.reduceMod, Nat.reduceDiv, Int.reduceLE, Int.reduceLT, Int.reduceToNat, Int.reduceAdd, Int.reduceSub, Int.reduceMul, Int.reduceNeg, Int.reduceEq, Int.reduceBEq, Int.reduceBNe, ↓reduceIte, reduceCtorEq, String.reduceBNe, String.reduceEq, reduceDIte, Nat.reducePow, hb, lk_old hb, p1, p2, p3, p4, p5, p6, z0, z1, z2, c3, hac0, f3, f4, f5, f6, f7, f8, f9, f10, f11, f12, f13, f14, f15, hs]
    refine Thn_n ?_
    refine hK _ _ ?_
    clear hK K
    refine AW.seq_k fun K hK => ?_
    refine AW.seq_k fun K hK => ?_
    refine AW.region (by decide) ?_
    simp only [push_cast, Nat.reduceAdd, Nat.reduceMul, Nat.reduceSub, Nat.reduceLeDiff, Nat.reduceLT, Nat.reduceEqDiff, Nat.reduceBEq, Nat.reduceBNe, Nat.reduceMod, Nat.reduceDiv, Int.reduceLE, Int.reduceLT, Int.reduceToNat, Int.reduceAdd, Int.reduceSub, Int.reduceMul, Int.reduceNeg, Int.reduceEq, Int.reduceBEq, Int.reduceBNe, ↓reduceIte, reduceCtorEq, String.reduceBNe, String.reduceEq, reduceDIte, Nat.reducePow, hb, lk_old hb, p1, p2, p3, p4, p5, p6, z0, z1, z2, c3, hac0, f3, f4, f5, f6, f7, f8, f9, f10, f11, f12, f13, f14, f15, hs]
    refine Thn_n ?_
    refine hK _ _ ?_
    clear hK K
    refine AW.condJ rfl [1, 3, 6, 8, 11, 12] [(0, .one (.int .i64 ((acN k x : Nat) : Int)))] [] (fun h91 => ?_) (fun h91 => ?_) ?_
    · have e : ((acN k x : Nat) : Int) = (k : Int) := by have h1 := of_decide_eq_true h91; rw [hac, if_pos (by omega)]
      refine AW.region (by decide) ?_
      simp only [push_cast, Nat.reduceAdd, Nat.reduceMul, Nat.reduceSub, Nat.reduceLeDiff, Nat.reduceLT, Nat.reduceEqDiff, Nat.reduceBEq, Nat.reduceBNe, Nat.reduceMod, Nat.reduceDiv, Int.reduceLE, Int.reduceLT, Int.reduceToNat, Int.reduceAdd, Int.reduceSub, Int.reduceMul, Int.reduceNeg, Int.reduceEq, Int.reduceBEq, Int.reduceBNe, ↓reduceIte, reduceCtorEq, String.reduceBNe, String.reduceEq, reduceDIte, Nat.reducePow, hb, lk_old hb, p1, p2, p3, p4, p5, p6, z0, z1, z2, c3, hac0, f3, f4, f5, f6, f7, f8, f9, f10, f11, f12, f13, f14, f15, hs]
      refine Thn_n ?_
      try simp only [keepL, setAll, push_cast, Nat.reduceAdd, Nat.reduceMul, Nat.reduceSub, Nat.reduceLeDiff, Nat.reduceLT, Nat.reduceEqDiff, Nat.reduceBEq, Nat.reduceBNe, Nat.reduceMod, Nat.reduceDiv, Int.reduceLE, Int.reduceLT, Int.reduceToNat, Int.reduceAdd, Int.reduceSub, Int.reduceMul, Int.reduceNeg, Int.reduceEq, Int.reduceBEq, Int.reduceBNe, ↓reduceIte, reduceCtorEq, String.reduceBNe, String.reduceEq, reduceDIte, Nat.reducePow, hb, lk_old hb, p1, p2, p3, p4, p5, p6, z0, z1, z2, c3, hac0, f3, f4, f5, f6, f7, f8, f9, f10, f11, f12, f13, f14, f15, hs, e]
      exact Weak.same (by simp only [Keeps, Tm.get_cons, Nat.reduceEqDiff, ↓reduceIte, if_true, if_false, ite_true, ite_false, true_and, and_true, and_self, reduceCtorEq, e]) (by first | rfl | simp only [Keeps, Tm.get_cons, Nat.reduceEqDiff, ↓reduceIte, if_true, if_false, ite_true, ite_false, true_and, and_true, and_self, reduceCtorEq, e])
    · have e : ((acN k x : Nat) : Int) = (x : Int) := by have h1 := of_decide_eq_false h91; rw [hac, if_neg (by omega)]
      refine AW.skip ?_
      refine Thn_n ?_
      try simp only [keepL, setAll, push_cast, Nat.reduceAdd, Nat.reduceMul, Nat.reduceSub, Nat.reduceLeDiff, Nat.reduceLT, Nat.reduceEqDiff, Nat.reduceBEq, Nat.reduceBNe, Nat.reduceMod, Nat.reduceDiv, Int.reduceLE, Int.reduceLT, Int.reduceToNat, Int.reduceAdd, Int.reduceSub, Int.reduceMul, Int.reduceNeg, Int.reduceEq, Int.reduceBEq, Int.reduceBNe, ↓reduceIte, reduceCtorEq, String.reduceBNe, String.reduceEq, reduceDIte, Nat.reducePow, hb, lk_old hb, p1, p2, p3, p4, p5, p6, z0, z1, z2, c3, hac0, f3, f4, f5, f6, f7, f8, f9, f10, f11, f12, f13, f14, f15, hs, e]
      exact Weak.same (by simp only [Keeps, Tm.get_cons, Nat.reduceEqDiff, ↓reduceIte, if_true, if_false, ite_true, ite_false, true_and, and_true, and_self, reduceCtorEq, e]) (by first | rfl | simp only [Keeps, Tm.get_cons, Nat.reduceEqDiff, ↓reduceIte, if_true, if_false, ite_true, ite_false, true_and, and_true, and_self, reduceCtorEq, e])
    try simp only [keepL, setAll, push_cast, Nat.reduceAdd, Nat.reduceMul, Nat.reduceSub, Nat.reduceLeDiff, Nat.reduceLT, Nat.reduceEqDiff, Nat.reduceBEq, Nat.reduceBNe, Nat.reduceMod, Nat.reduceDiv, Int.reduceLE, Int.reduceLT, Int.reduceToNat, Int.reduceAdd, Int.reduceSub, Int.reduceMul, Int.reduceNeg, Int.reduceEq, Int.reduceBEq, Int.reduceBNe, ↓reduceIte, reduceCtorEq, String.reduceBNe, String.reduceEq, reduceDIte, Nat.reducePow, hb, lk_old hb, p1, p2, p3, p4, p5, p6, z0, z1, z2, c3, hac0, f3, f4, f5, f6, f7, f8, f9, f10, f11, f12, f13, f14, f15, hs]
    refine Thn_n ?_
    refine hK _ _ ?_
    clear hK K
    refine AW.seq_k fun K hK => ?_
    refine AW.region (by decide) ?_
    simp only [push_cast, Nat.reduceAdd, Nat.reduceMul, Nat.reduceSub, Nat.reduceLeDiff, Nat.reduceLT, Nat.reduceEqDiff, Nat.reduceBEq, Nat.reduceBNe, Nat.reduceMod, Nat.reduceDiv, Int.reduceLE, Int.reduceLT, Int.reduceToNat, Int.reduceAdd, Int.reduceSub, Int.reduceMul, Int.reduceNeg, Int.reduceEq, Int.reduceBEq, Int.reduceBNe, ↓reduceIte, reduceCtorEq, String.reduceBNe, String.reduceEq, reduceDIte, Nat.reducePow, hb, lk_old hb, p1, p2, p3, p4, p5, p6, z0, z1, z2, c3, hac0, f3, f4, f5, f6, f7, f8, f9, f10, f11, f12, f13, f14, f15, hs]
    refine Thn_n ?_
    refine hK _ _ ?_
    clear hK K
    refine AW.seq_k fun K hK => ?_
    refine AW.seq_k fun K hK => ?_
    refine AW.region (by decide) ?_
    simp only [push_cast, Nat.reduceAdd, Nat.reduceMul, Nat.reduceSub, Nat.reduceLeDiff, Nat.reduceLT, Nat.reduceEqDiff, Nat.reduceBEq, Nat.reduceBNe, Nat.reduceMod, Nat.reduceDiv, Int.reduceLE, Int.reduceLT, Int.reduceToNat, Int.reduceAdd, Int.reduceSub, Int.reduceMul, Int.reduceNeg, Int.reduceEq, Int.reduceBEq, Int.reduceBNe, ↓reduceIte, reduceCtorEq, String.reduceBNe, String.reduceEq, reduceDIte, Nat.reducePow, hb, lk_old hb, p1, p2, p3, p4, p5, p6, z0, z1, z2, c3, hac0, f3, f4, f5, f6, f7, f8, f9, f10, f11, f12, f13, f14, f15, hs]
    refine Thn_n ?_
    refine hK _ _ ?_
    clear hK K
    refine AW.condJ rfl [0, 1, 3, 6, 8, 11, 12] [(13, .one (.int .i64 ((rowsN k x : Nat) : Int)))] [] (fun h102 => ?_) (fun h102 => ?_) ?_
    · have e : ((rowsN k x : Nat) : Int) = (q : Int) + 1 := by
        have h1 : ¬ rm = 0 := by intro h0; subst h0; simp at h102
        rw [if_neg h1] at hrw2; omega
      refine AW.region (by decide) ?_
      simp only [push_cast, Nat.reduceAdd, Nat.reduceMul, Nat.reduceSub, Nat.reduceLeDiff, Nat.reduceLT, Nat.reduceEqDiff, Nat.reduceBEq, Nat.reduceBNe, Nat.reduceMod, Nat.reduceDiv, Int.reduceLE, Int.reduceLT, Int.reduceToNat, Int.reduceAdd, Int.reduceSub, Int.reduceMul, Int.reduceNeg, Int.reduceEq, Int.reduceBEq, Int.reduceBNe, ↓reduceIte, reduceCtorEq, String.reduceBNe, String.reduceEq, reduceDIte, Nat.reducePow, hb, lk_old hb, p1, p2, p3, p4, p5, p6, z0, z1, z2, c3, hac0, f3, f4, f5, f6, f7, f8, f9, f10, f11, f12, f13, f14, f15, hs]
      refine Thn_n ?_
      try simp only [keepL, setAll, push_cast, Nat.reduceAdd, Nat.reduceMul, Nat.reduceSub, Nat.reduceLeDiff, Nat.reduceLT, Nat.reduceEqDiff, Nat.reduceBEq, Nat.reduceBNe, Nat.reduceMod, Nat.reduceDiv, Int.reduceLE, Int.reduceLT, Int.reduceToNat, Int.reduceAdd, Int.reduceSub, Int.reduceMul, Int.reduceNeg, Int.reduceEq, Int.reduceBEq, Int.reduceBNe, ↓reduceIte, reduceCtorEq, String.reduceBNe, String.reduceEq, reduceDIte, Nat.reducePow, hb, lk_old hb, p1, p2, p3, p4, p5, p6, z0, z1, z2, c3, hac0, f3, f4, f5, f6, f7, f8, f9, f10, f11, f12, f13, f14, f15, hs, e]
      exact Weak.same (by simp only [Keeps, Tm.get_cons, Nat.reduceEqDiff, ↓reduceIte, if_true, if_false, ite_true, ite_false, true_and, and_true, and_self, reduceCtorEq, e]) (by first | rfl | simp only [Keeps, Tm.get_cons, Nat.reduceEqDiff, ↓reduceIte, if_true, if_false, ite_true, ite_false, true_and, and_true, and_self, reduceCtorEq, e])
    · have e : ((rowsN k x : Nat) : Int) = (q : Int) := by
        have h1 : rm = 0 := by
          have : ((rm : Int) != 0) = false := h102
          simp at this; omega
        rw [if_pos h1] at hrw2; omega
      refine AW.skip ?_
      refine Thn_n ?_
      try simp only [keepL, setAll, push_cast, Nat.reduceAdd, Nat.reduceMul, Nat.reduceSub, Nat.reduceLeDiff, Nat.reduceLT, Nat.reduceEqDiff, Nat.reduceBEq, Nat.reduceBNe, Nat.reduceMod, Nat.reduceDiv, Int.reduceLE, Int.reduceLT, Int.reduceToNat, Int.reduceAdd, Int.reduceSub, Int.reduceMul, Int.reduceNeg, Int.reduceEq, Int.reduceBEq, Int.reduceBNe, ↓reduceIte, reduceCtorEq, String.reduceBNe, String.reduceEq, reduceDIte, Nat.reducePow, hb, lk_old hb, p1, p2, p3, p4, p5, p6, z0, z1, z2, c3, hac0, f3, f4, f5, f6, f7, f8, f9, f10, f11, f12, f13, f14, f15, hs, e]
      exact Weak.same (by simp only [Keeps, Tm.get_cons, Nat.reduceEqDiff, ↓reduceIte, if_true, if_false, ite_true, ite_false, true_and, and_true, and_self, reduceCtorEq, e]) (by first | rfl | simp only [Keeps, Tm.get_cons, Nat.reduceEqDiff, ↓reduceIte, if_true, if_false, ite_true, ite_false, true_and, and_true, and_self, reduceCtorEq, e])
    try simp only [keepL, setAll, push_cast, Nat.reduceAdd, Nat.reduceMul, Nat.reduceSub, Nat.reduceLeDiff, Nat.reduceLT, Nat.reduceEqDiff, Nat.reduceBEq, Nat.reduceBNe, Nat.reduceMod, Nat.reduceDiv, Int.reduceLE, Int.reduceLT, Int.reduceToNat, Int.reduceAdd, Int.reduceSub, Int.reduceMul, Int.reduceNeg, Int.reduceEq, Int.reduceBEq, Int.reduceBNe, ↓reduceIte, reduceCtorEq, String.reduceBNe, String.reduceEq, reduceDIte, Nat.reducePow, hb, lk_old hb, p1, p2, p3, p4, p5, p6, z0, z1, z2, c3, hac0, f3, f4, f5, f6, f7, f8, f9, f10, f11, f12, f13, f14, f15, hs]
    iterate 2
      refine Thn_n ?_
      refine hK _ _ ?_
      clear hK K
      refine AW.seq_k fun K hK => ?_
      refine AW.region (by decide) ?_
      simp only [push_cast, Nat.reduceAdd, Nat.reduceMul, Nat.reduceSub, Nat.reduceLeDiff, Nat.reduceLT, Nat.reduceEqDiff, Nat.reduceBEq, Nat.reduceBNe, Nat.reduceMod, Nat.reduceDiv, Int.reduceLE, Int.reduceLT, Int.reduceToNat, Int.reduceAdd, Int.reduceSub, Int.reduceMul, Int.reduceNeg, Int.reduceEq, Int.reduceBEq, Int.reduceBNe, ↓reduceIte, reduceCtorEq, String.reduceBNe, String.reduceEq, reduceDIte, Nat.reducePow, hb, lk_old hb, p1, p2, p3, p4, p5, p6, z0, z1, z2, c3, hac0, f3, f4, f5, f6, f7, f8, f9, f10, f11, f12, f13, f14, f15, hs]
    refine Thn_n ?_
    refine hK _ _ ?_
    clear hK K
    refine AW.seq_k fun K hK => ?_
    refine AW.seq_k fun K hK => ?_
    refine AW.region (by decide) ?_
    simp only [push_cast, Nat.reduceAdd, Nat.reduceMul, Nat.reduceSub, Nat.reduceLeDiff, Nat.reduceLT, Nat.reduceEqDiff, Nat.reduceBEq, Nat.reduceBNe, Nat.reduceMod, Nat.reduceDiv, Int.reduceLE, Int.reduceLT, Int.reduceToNat, Int.reduceAdd, Int.reduceSub, Int.reduceMul, Int.reduceNeg, Int.reduceEq, Int.reduceBEq, Int.reduceBNe, ↓reduceIte, reduceCtorEq, String.reduceBNe, String.reduceEq, reduceDIte, Nat.reducePow, hb, lk_old hb, p1, p2, p3, p4, p5, p6, z0, z1, z2, c3, hac0, f3, f4, f5, f6, f7, f8, f9, f10, f11, f12, f13, f14, f15, hs]
    refine CThen.by (rightSize_c _ _ _) ?_
    simp only [push_cast, Nat.reduceAdd, Nat.reduceMul, Nat.reduceSub, Nat.reduceLeDiff, Nat.reduceLT, Nat.reduceEqDiff, Nat.reduceBEq, Nat.reduceBNe, Nat.reduceMod, Nat.reduceDiv, Int.reduceLE, Int.reduceLT, Int.reduceToNat, Int.reduceAdd, Int.reduceSub, Int.reduceMul, Int.reduceNeg, Int.reduceEq, Int.reduceBEq, Int.reduceBNe, ↓reduceIte, reduceCtorEq, String.reduceBNe, String.reduceEq, reduceDIte, Nat.reducePow, hb, lk_old hb, p1, p2, p3, p4, p5, p6, z0, z1, z2, c3, hac0, f3, f4, f5, f6, f7, f8, f9, f10, f11, f12, f13, f14, f15, hs]
    refine Thn_n ?_
    refine hK _ _ ?_
    clear hK K
    refine AW.cond_t rfl ?_
    refine AW.seq_k fun K hK => ?_
    refine AW.region (by decide) ?_
    simp only [push_cast, Nat.reduceAdd, Nat.reduceMul, Nat.reduceSub, Nat.reduceLeDiff, Nat.reduceLT, Nat.reduceEqDiff, Nat.reduceBEq, Nat.reduceBNe, Nat.reduceMod, Nat.reduceDiv, Int.reduceLE, Int.reduceLT, Int.reduceToNat, Int.reduceAdd, Int.reduceSub, Int.reduceMul, Int.reduceNeg, Int.reduceEq, Int.reduceBEq, Int.reduceBNe, ↓reduceIte, reduceCtorEq, String.reduceBNe, String.reduceEq, reduceDIte, Nat.reducePow, hb, lk_old hb, p1, p2, p3, p4, p5, p6, z0, z1, z2, c3, hac0, f3, f4, f5, f6, f7, f8, f9, f10, f11, f12, f13, f14, f15, hs]
    refine Thn_n ?_
    refine hK _ _ ?_
    clear hK K
    refine AW.ret ?_
    refine Thn_r ?_
    refine hQ _ _ _ ?_
    first | refine RetP.drop0 (Or.inr rfl) ?_ ?_ hwf | refine RetP.drop (Or.inr rfl) ?_ ?_ hwf
    · simp only [resA, resOne, resTv, AV.tv, push_cast, Nat.reduceAdd, Nat.reduceMul, Nat.reduceSub, Nat.reduceLeDiff, Nat.reduceLT, Nat.reduceEqDiff, Nat.reduceBEq, Nat.reduceBNe, Nat.reduceMod, Nat.reduceDiv, Int.reduceLE, Int.reduceLT, Int.reduceToNat, Int.reduceAdd, Int.reduceSub, Int.reduceMul, Int.reduceNeg, Int.reduceEq, Int.reduceBEq, Int.reduceBNe, ↓reduceIte, reduceCtorEq, String.reduceBNe, String.reduceEq, reduceDIte, Nat.reducePow, hb, lk_old hb, p1, p2, p3, p4, p5, p6, z0, z1, z2, c3, hac0, f3, f4, f5, f6, f7, f8, f9, f10, f11, f12, f13, f14, f15, hs]
    · rfl
end Go.Proofs.Ytgkmjcpcigklpaa
