/- Walks and facts of this seat's program over abstract states, printed by a program of mine; no conditions but those that each theorem names. -/
import Derived.Test.YtgkmjcpcigklpaaParts2
set_option linter.unusedSimpArgs false
set_option linter.unusedVariables false
set_option maxRecDepth 100000
set_option maxHeartbeats 4000000
namespace Go.Proofs.Ytgkmjcpcigklpaa
open Go Go.Eng

theorem rlay_ok (pw ph qw qh r v n r2 v2 n2 : Nat) (x y : Int) (P B : Nat → Nat → Int) (m : AMem) (hp : PicAt m r v n P) (hq : PicAt m r2 v2 n2 B) (c : LayOk pw ph n qw qh n2 x y) : Ctr Try.prog 24 [.agg [.int .i64 (pw : Int), .int .i64 (ph : Int), .sl r v 0 n], .agg [.int .i64 (qw : Int), .int .i64 (qh : Int), .sl r2 v2 0 n2], .one (.int .i64 x), .one (.int .i64 y)] m (.tup [(true, [.int .i64 (pw : Int), .int .i64 (ph : Int), .sl m.length 0 0 n]), (false, [.int .i64 0])]) (m ++ [⟨.grow, 22, 0, 3, dl n (layG pw qw qh x y P B)⟩]) := by
  refine Ctr.enter Try.func24 rfl (by decide) (rs := [.cell 8 29, .tmp 9]) (nt := 103) rfl rfl fun hwf Q hQ => ?_
  have hlt : ∀ k, ¬ m.length + k < m.length := fun k => by omega
  obtain ⟨kp, ez, hb⟩ := hp.hb
  obtain ⟨kp2, ez2, hb2⟩ := hq.hb
  have hr := get_lt hb
  have hr2 := get_lt hb2
  have q1 := c.hx
  have q2 := c.hy
  have p1 := c.hp
  have p2 := c.hq
  have p3 := c.hs
  have hnl := c.ls
  have e1 : ¬ x < -64 := by omega
  have e2 : ¬ 64 < x := by omega
  have e3 : ¬ y < -64 := by omega
  have e4 : ¬ 64 < y := by omega
  have hn := c.hn
  subst hn
  have k1 := c.a1
  have k2 := c.a2
  have k3 := c.a3
  have k4 := c.a4
  have k5 := c.b1
  have k6 := c.b2
  have k7 := c.b4
  have h1 : pw * ph ≤ 140737488355328 := by omega
  have h2 : pw * ph * 3 ≤ 140737488355328 := by omega
  have h3 : (dl (pw * ph) P).take (pw * ph * 3) = dl (pw * ph) P := List.take_of_length_le (by rw [dl_len]; omega)
  have h4 : (dl (pw * ph) P).length = pw * ph * 3 := dl_len _ _
  have h5 : (dl (pw * ph) P).all CV.isVal = true := dl_vals _ _
  refine AW.seq_k fun K hK => ?_
  refine AW.region (by decide) ?_
  simp only [push_cast, Nat.reduceAdd, Nat.reduceMul, Nat.reduceSub, Nat.reduceLeDiff, Nat.reduceLT, Nat.reduceEqDiff, Nat.reduceBEq, Nat.reduceBNe, Nat.reduceMod, Nat.reduceDiv, Int.reduceLE, Int.reduceLT, Int.reduceToNat, Int.reduceAdd, Int.reduceSub, Int.reduceMul, Int.reduceNeg, Int.reduceEq, Int.reduceBEq, Int.reduceBNe, ↓reduceIte, reduceCtorEq, String.reduceBNe, String.reduceEq, reduceDIte, Nat.reducePow, lk_old hb, lk_old hb2, p1, p2, e1, e2, e3, e4, h1, h2, h3, h4, h5]
  refine Thn_n ?_
  refine hK _ _ ?_
  clear hK K
  refine AW.seq_k fun K hK => ?_
  refine AW.seq_k fun K hK => ?_
  refine AW.region (by decide) ?_
  iterate 2
    simp only [push_cast, Nat.reduceAdd, Nat.reduceMul, Nat.reduceSub, Nat.reduceLeDiff, Nat.reduceLT, Nat.reduceEqDiff, Nat.reduceBEq, Nat.reduceBNe, Nat.reduceMod, Nat.reduceDiv, Int.reduceLE, Int.reduceLT, Int.reduceToNat, Int.reduceAdd, Int.reduceSub, Int.reduceMul, Int.reduceNeg, Int.reduceEq, Int.reduceBEq, Int.reduceBNe, ↓reduceIte, reduceCtorEq, String.reduceBNe, String.reduceEq, reduceDIte, Nat.reducePow, lk_old hb, lk_old hb2, p1, p2, e1, e2, e3, e4, h1, h2, h3, h4, h5]
    refine CThen.by (refRight_c _ _ _ _ _ _) ?_
  simp only [push_cast, Nat.reduceAdd, Nat.reduceMul, Nat.reduceSub, Nat.reduceLeDiff, Nat.reduceLT, Nat.reduceEqDiff, Nat.reduceBEq, Nat.reduceBNe, Nat.reduceMod, Nat.reduceDiv, Int.reduceLE, Int.reduceLT, Int.reduceToNat, Int.reduceAdd, Int.reduceSub, Int.reduceMul, Int.reduceNeg, Int.reduceEq, Int.reduceBEq, Int.reduceBNe, ↓reduceIte, reduceCtorEq, String.reduceBNe, String.reduceEq, reduceDIte, Nat.reducePow, lk_old hb, lk_old hb2, p1, p2, e1, e2, e3, e4, h1, h2, h3, h4, h5]
  refine Thn_n ?_
  refine hK _ _ ?_
  clear hK K
  refine AW.cond_f rfl ?_
  refine AW.skip ?_
  refine Thn_n ?_
  refine hK _ _ ?_
  clear hK K
  refine AW.seq_k fun K hK => ?_
  refine AW.draw [.val, .rd 0, .val, .rd 0, .ext, .val, .rd 0, .up 0, .val, .fl, .wr] fol (by decide) (by kernel_rfl) ?_
  simp only [push_cast, Nat.reduceAdd, Nat.reduceMul, Nat.reduceSub, Nat.reduceLeDiff, Nat.reduceLT, Nat.reduceEqDiff, Nat.reduceBEq, Nat.reduceBNe, Nat.reduceMod, Nat.reduceDiv, Int.reduceLE, Int.reduceLT, Int.reduceToNat, Int.reduceAdd, Int.reduceSub, Int.reduceMul, Int.reduceNeg, Int.reduceEq, Int.reduceBEq, Int.reduceBNe, ↓reduceIte, reduceCtorEq, String.reduceBNe, String.reduceEq, reduceDIte, Nat.reducePow, lk_old hb, lk_old hb2, p1, p2, e1, e2, e3, e4, h1, h2, h3, h4, h5]
  refine DExt.by (by first | rfl | (simp only [List.append_assoc, List.cons_append, List.nil_append]; rfl)) ?_
  simp only [push_cast, Nat.reduceAdd, Nat.reduceMul, Nat.reduceSub, Nat.reduceLeDiff, Nat.reduceLT, Nat.reduceEqDiff, Nat.reduceBEq, Nat.reduceBNe, Nat.reduceMod, Nat.reduceDiv, Int.reduceLE, Int.reduceLT, Int.reduceToNat, Int.reduceAdd, Int.reduceSub, Int.reduceMul, Int.reduceNeg, Int.reduceEq, Int.reduceBEq, Int.reduceBNe, ↓reduceIte, reduceCtorEq, String.reduceBNe, String.reduceEq, reduceDIte, Nat.reducePow, lk_old hb, lk_old hb2, p1, p2, e1, e2, e3, e4, h1, h2, h3, h4, h5]
  refine DUp.by (by first | rfl | (simp only [List.append_assoc, List.cons_append, List.nil_append]; rfl)) (by first | rfl | (simp only [List.append_assoc, List.cons_append, List.nil_append]; rfl)) ?_
  simp only [push_cast, Nat.reduceAdd, Nat.reduceMul, Nat.reduceSub, Nat.reduceLeDiff, Nat.reduceLT, Nat.reduceEqDiff, Nat.reduceBEq, Nat.reduceBNe, Nat.reduceMod, Nat.reduceDiv, Int.reduceLE, Int.reduceLT, Int.reduceToNat, Int.reduceAdd, Int.reduceSub, Int.reduceMul, Int.reduceNeg, Int.reduceEq, Int.reduceBEq, Int.reduceBNe, ↓reduceIte, reduceCtorEq, String.reduceBNe, String.reduceEq, reduceDIte, Nat.reducePow, lk_old hb, lk_old hb2, p1, p2, e1, e2, e3, e4, h1, h2, h3, h4, h5]
  refine Thn_n ?_
  refine hK _ _ ?_
  clear hK K
  refine AW.seq_k fun K hK => ?_
  refine AW.seq_k fun K hK => ?_
  refine AW.region (by decide) ?_
  simp only [push_cast, Nat.reduceAdd, Nat.reduceMul, Nat.reduceSub, Nat.reduceLeDiff, Nat.reduceLT, Nat.reduceEqDiff, Nat.reduceBEq, Nat.reduceBNe, Nat.reduceMod, Nat.reduceDiv, Int.reduceLE, Int.reduceLT, Int.reduceToNat, Int.reduceAdd, Int.reduceSub, Int.reduceMul, Int.reduceNeg, Int.reduceEq, Int.reduceBEq, Int.reduceBNe, ↓reduceIte, reduceCtorEq, String.reduceBNe, String.reduceEq, reduceDIte, Nat.reducePow, lk_old hb, lk_old hb2, p1, p2, e1, e2, e3, e4, h1, h2, h3, h4, h5]
  refine Thn_n ?_
  refine hK _ _ ?_
  clear hK K
  refine AW.block ?_
  refine AW.loopK [2, 3, 4, 5, 8, 10] (fun vv => vv ≤ qh) (fun vv => [(11, .one (.int .i64 (vv : Int)))]) (fun vv => [(m.length + 3, ⟨.grow, 22, 1, 3, dl (pw * ph) (laySt pw qw qh x y P B vv 0)⟩)]) (fun vv => qh - vv) 0 (by omega) ?_ ?_ fun vv hi7 => ?_
  · first | rfl | (simp only [Keeps, Tm.get_cons, Nat.reduceEqDiff, ↓reduceIte, if_true, if_false, ite_true, ite_false, true_and, and_true, and_self, reduceCtorEq, lay_first] <;> rfl)
  · first | rfl | (simp only [setAll, push_cast, Nat.reduceAdd, Nat.reduceMul, Nat.reduceSub, Nat.reduceLeDiff, Nat.reduceLT, Nat.reduceEqDiff, Nat.reduceBEq, Nat.reduceBNe, Nat.reduceMod, Nat.reduceDiv, Int.reduceLE, Int.reduceLT, Int.reduceToNat, Int.reduceAdd, Int.reduceSub, Int.reduceMul, Int.reduceNeg, Int.reduceEq, Int.reduceBEq, Int.reduceBNe, ↓reduceIte, reduceCtorEq, String.reduceBNe, String.reduceEq, reduceDIte, Nat.reducePow, lk_old hb, lk_old hb2, p1, p2, e1, e2, e3, e4, h1, h2, h3, h4, h5, lay_first] <;> rfl)
  try simp only [keepL, setAll, push_cast, Nat.reduceAdd, Nat.reduceMul, Nat.reduceSub, Nat.reduceLeDiff, Nat.reduceLT, Nat.reduceEqDiff, Nat.reduceBEq, Nat.reduceBNe, Nat.reduceMod, Nat.reduceDiv, Int.reduceLE, Int.reduceLT, Int.reduceToNat, Int.reduceAdd, Int.reduceSub, Int.reduceMul, Int.reduceNeg, Int.reduceEq, Int.reduceBEq, Int.reduceBNe, ↓reduceIte, reduceCtorEq, String.reduceBNe, String.reduceEq, reduceDIte, Nat.reducePow, lk_old hb, lk_old hb2, p1, p2, e1, e2, e3, e4, h1, h2, h3, h4, h5]
  refine AW.seq_k fun K hK => ?_
  refine AW.seq_k fun K hK => ?_
  refine AW.region (by decide) ?_
  simp only [push_cast, Nat.reduceAdd, Nat.reduceMul, Nat.reduceSub, Nat.reduceLeDiff, Nat.reduceLT, Nat.reduceEqDiff, Nat.reduceBEq, Nat.reduceBNe, Nat.reduceMod, Nat.reduceDiv, Int.reduceLE, Int.reduceLT, Int.reduceToNat, Int.reduceAdd, Int.reduceSub, Int.reduceMul, Int.reduceNeg, Int.reduceEq, Int.reduceBEq, Int.reduceBNe, ↓reduceIte, reduceCtorEq, String.reduceBNe, String.reduceEq, reduceDIte, Nat.reducePow, lk_old hb, lk_old hb2, p1, p2, e1, e2, e3, e4, h1, h2, h3, h4, h5]
  refine Thn_n ?_
  refine hK _ _ ?_
  clear hK K
  refine AW.cond rfl (fun h50 => ?_) (fun h50 => ?_)
  · have hv : vv < qh := by have := of_decide_eq_true h50; omega
    refine AW.skip ?_
    refine Thn_n ?_
    refine hK _ _ ?_
    clear hK K
    refine AW.seq_k fun K hK => ?_
    refine AW.block ?_
    refine AW.seq_k fun K hK => ?_
    refine AW.region (by decide) ?_
    simp only [push_cast, Nat.reduceAdd, Nat.reduceMul, Nat.reduceSub, Nat.reduceLeDiff, Nat.reduceLT, Nat.reduceEqDiff, Nat.reduceBEq, Nat.reduceBNe, Nat.reduceMod, Nat.reduceDiv, Int.reduceLE, Int.reduceLT, Int.reduceToNat, Int.reduceAdd, Int.reduceSub, Int.reduceMul, Int.reduceNeg, Int.reduceEq, Int.reduceBEq, Int.reduceBNe, ↓reduceIte, reduceCtorEq, String.reduceBNe, String.reduceEq, reduceDIte, Nat.reducePow, lk_old hb, lk_old hb2, p1, p2, e1, e2, e3, e4, h1, h2, h3, h4, h5]
    refine Thn_n ?_
    refine hK _ _ ?_
    clear hK K
    refine AW.block ?_
    refine AW.loopK [2, 3, 4, 5, 8, 10, 11] (fun u => u ≤ qw) (fun u => [(12, .one (.int .i64 (u : Int)))]) (fun u => [(m.length + 3, ⟨.grow, 22, 1, 3, dl (pw * ph) (laySt pw qw qh x y P B vv u)⟩)]) (fun u => qw - u) 0 (by omega) ?_ ?_ fun u hi12 => ?_
    · first | rfl | (simp only [Keeps, Tm.get_cons, Nat.reduceEqDiff, ↓reduceIte, if_true, if_false, ite_true, ite_false, true_and, and_true, and_self, reduceCtorEq] <;> rfl)
    · first | rfl | (simp only [setAll, push_cast, Nat.reduceAdd, Nat.reduceMul, Nat.reduceSub, Nat.reduceLeDiff, Nat.reduceLT, Nat.reduceEqDiff, Nat.reduceBEq, Nat.reduceBNe, Nat.reduceMod, Nat.reduceDiv, Int.reduceLE, Int.reduceLT, Int.reduceToNat, Int.reduceAdd, Int.reduceSub, Int.reduceMul, Int.reduceNeg, Int.reduceEq, Int.reduceBEq, Int.reduceBNe, ↓reduceIte, reduceCtorEq, String.reduceBNe, String.reduceEq, reduceDIte, Nat.reducePow, lk_old hb, lk_old hb2, p1, p2, e1, e2, e3, e4, h1, h2, h3, h4, h5] <;> rfl)
    try simp only [keepL, setAll, push_cast, Nat.reduceAdd, Nat.reduceMul, Nat.reduceSub, Nat.reduceLeDiff, Nat.reduceLT, Nat.reduceEqDiff, Nat.reduceBEq, Nat.reduceBNe, Nat.reduceMod, Nat.reduceDiv, Int.reduceLE, Int.reduceLT, Int.reduceToNat, Int.reduceAdd, Int.reduceSub, Int.reduceMul, Int.reduceNeg, Int.reduceEq, Int.reduceBEq, Int.reduceBNe, ↓reduceIte, reduceCtorEq, String.reduceBNe, String.reduceEq, reduceDIte, Nat.reducePow, lk_old hb, lk_old hb2, p1, p2, e1, e2, e3, e4, h1, h2, h3, h4, h5]
    refine AW.seq_k fun K hK => ?_
    refine AW.seq_k fun K hK => ?_
    refine AW.region (by decide) ?_
    simp only [push_cast, Nat.reduceAdd, Nat.reduceMul, Nat.reduceSub, Nat.reduceLeDiff, Nat.reduceLT, Nat.reduceEqDiff, Nat.reduceBEq, Nat.reduceBNe, Nat.reduceMod, Nat.reduceDiv, Int.reduceLE, Int.reduceLT, Int.reduceToNat, Int.reduceAdd, Int.reduceSub, Int.reduceMul, Int.reduceNeg, Int.reduceEq, Int.reduceBEq, Int.reduceBNe, ↓reduceIte, reduceCtorEq, String.reduceBNe, String.reduceEq, reduceDIte, Nat.reducePow, lk_old hb, lk_old hb2, p1, p2, e1, e2, e3, e4, h1, h2, h3, h4, h5]
    refine Thn_n ?_
    refine hK _ _ ?_
    clear hK K
    refine AW.cond rfl (fun h56 => ?_) (fun h56 => ?_)
    · have hu : u < qw := by have := of_decide_eq_true h56; omega
      have hib : vv * qw + u < n2 := by rw [c.hn2]; exact ix_lt hu hv
      have w1 : IntKind.i64.wrap (x + (u : Int)) = x + (u : Int) := by rw [IntKind.wrap_i64]; omega
      have w2 : IntKind.i64.wrap (y + (vv : Int)) = y + (vv : Int) := by rw [IntKind.wrap_i64]; omega
      rcases chain4 (0 ≤ x + (u : Int)) (x + (u : Int) < (pw : Int)) (0 ≤ y + (vv : Int)) (y + (vv : Int) < (ph : Int)) with ⟨s1, s2, s3, s4⟩ | ⟨s1, s2, s3, s4⟩ | ⟨s1, s2, s3, s4⟩ | ⟨s1, s2, s3, s4⟩ | ⟨s1, s2, s3, s4⟩
      · refine AW.skip ?_
        refine Thn_n ?_
        refine hK _ _ ?_
        clear hK K
        refine AW.seq_k fun K hK => ?_
        refine AW.block ?_
        refine AW.seq_k fun K hK => ?_
        refine AW.region (by decide) ?_
        simp only [push_cast, Nat.reduceAdd, Nat.reduceMul, Nat.reduceSub, Nat.reduceLeDiff, Nat.reduceLT, Nat.reduceEqDiff, Nat.reduceBEq, Nat.reduceBNe, Nat.reduceMod, Nat.reduceDiv, Int.reduceLE, Int.reduceLT, Int.reduceToNat, Int.reduceAdd, Int.reduceSub, Int.reduceMul, Int.reduceNeg, Int.reduceEq, Int.reduceBEq, Int.reduceBNe, ↓reduceIte, reduceCtorEq, String.reduceBNe, String.reduceEq, reduceDIte, Nat.reducePow, lk_old hb, lk_old hb2, p1, p2, e1, e2, e3, e4, h1, h2, h3, h4, h5, w1, w2, s1, s2, s3, s4]
        refine Thn_n ?_
        refine hK _ _ ?_
        clear hK K
        refine AW.cond_t rfl ?_
        refine AW.draw [.val, .rd 0, .val, .val, .val, .val, .rd 0, .val, .val, .val, .val, .val, .rd 0, .val, .val, .ext, .val, .wr] fol (by decide) (by kernel_rfl) ?_
        obtain ⟨X, hX⟩ : ∃ X : Nat, (X : Int) = x + (u : Int) := ⟨(x + (u : Int)).toNat, by omega⟩
        obtain ⟨Y, hY⟩ : ∃ Y : Nat, (Y : Int) = y + (vv : Int) := ⟨(y + (vv : Int)).toNat, by omega⟩
        have hXl : X < pw := by omega
        have hYl : Y < ph := by omega
        have hst := lay_in (P := P) (B := B) hu hv hX hY hXl hYl
        have hj := ix_lt hXl hYl
        have g0 : IntKind.i64.wrap ((y + (vv : Int)) * (pw : Int)) = ((Y * pw : Nat) : Int) := by rw [← hY, ← Int.natCast_mul, i64n (by omega)]
        have g1 : IntKind.i64.wrap (IntKind.i64.wrap (((Y * pw : Nat) : Int) + x) + (u : Int)) = ((Y * pw + X : Nat) : Int) := by
          rw [IntKind.wrap_i64, IntKind.wrap_i64]; omega
        have hlen := fun (g : Nat → Nat → Int) => dl_len (pw * ph) g
        have hle : (Y * pw + X) * 3 + 3 ≤ pw * ph * 3 := by omega
        have hi1 : (0 : Int) ≤ ((Y * pw + X : Nat) : Int) := by omega
        have hi2 : ((Y * pw + X : Nat) : Int) < (pw : Int) * (ph : Int) := by rw [← Int.natCast_mul]; omega
        generalize hJ0 : ((Y * pw : Nat) : Int) = j0 at *
        generalize hJ : Y * pw + X = j at *
        simp only [push_cast, Nat.reduceAdd, Nat.reduceMul, Nat.reduceSub, Nat.reduceLeDiff, Nat.reduceLT, Nat.reduceEqDiff, Nat.reduceBEq, Nat.reduceBNe, Nat.reduceMod, Nat.reduceDiv, Int.reduceLE, Int.reduceLT, Int.reduceToNat, Int.reduceAdd, Int.reduceSub, Int.reduceMul, Int.reduceNeg, Int.reduceEq, Int.reduceBEq, Int.reduceBNe, ↓reduceIte, reduceCtorEq, String.reduceBNe, String.reduceEq, reduceDIte, Nat.reducePow, lk_old hb, lk_old hb2, p1, p2, e1, e2, e3, e4, h1, h2, h3, h4, h5, w1, w2, s1, s2, s3, s4, g0, g1, hlen, hle, hi1, hi2]
        refine DCall.by0 (At_i _ _ _ qw u vv _ _ _ B _ rfl rfl (hq.mono _) hib (by omega)) ?_
        simp only [push_cast, Nat.reduceAdd, Nat.reduceMul, Nat.reduceSub, Nat.reduceLeDiff, Nat.reduceLT, Nat.reduceEqDiff, Nat.reduceBEq, Nat.reduceBNe, Nat.reduceMod, Nat.reduceDiv, Int.reduceLE, Int.reduceLT, Int.reduceToNat, Int.reduceAdd, Int.reduceSub, Int.reduceMul, Int.reduceNeg, Int.reduceEq, Int.reduceBEq, Int.reduceBNe, ↓reduceIte, reduceCtorEq, String.reduceBNe, String.reduceEq, reduceDIte, Nat.reducePow, lk_old hb, lk_old hb2, p1, p2, e1, e2, e3, e4, h1, h2, h3, h4, h5, w1, w2, s1, s2, s3, s4, g0, g1, hlen, hle, hi1, hi2]
        refine InB_n ?_
        refine Thn_n ?_
        refine hK _ _ ?_
        clear hK K
        refine AW.region (by decide) ?_
        simp only [push_cast, Nat.reduceAdd, Nat.reduceMul, Nat.reduceSub, Nat.reduceLeDiff, Nat.reduceLT, Nat.reduceEqDiff, Nat.reduceBEq, Nat.reduceBNe, Nat.reduceMod, Nat.reduceDiv, Int.reduceLE, Int.reduceLT, Int.reduceToNat, Int.reduceAdd, Int.reduceSub, Int.reduceMul, Int.reduceNeg, Int.reduceEq, Int.reduceBEq, Int.reduceBNe, ↓reduceIte, reduceCtorEq, String.reduceBNe, String.reduceEq, reduceDIte, Nat.reducePow, lk_old hb, lk_old hb2, p1, p2, e1, e2, e3, e4, h1, h2, h3, h4, h5, w1, w2, s1, s2, s3, s4, g0, g1, hlen, hle, hi1, hi2]
        refine Thn_n ?_
        have hwi : IntKind.i64.wrap ((u:Int)+1) = (u:Int)+1 := by rw [IntKind.wrap_i64]; omega
        refine ⟨u + 1, by omega, by omega, ?_⟩
        try simp only [keepL, setAll, push_cast, Nat.reduceAdd, Nat.reduceMul, Nat.reduceSub, Nat.reduceLeDiff, Nat.reduceLT, Nat.reduceEqDiff, Nat.reduceBEq, Nat.reduceBNe, Nat.reduceMod, Nat.reduceDiv, Int.reduceLE, Int.reduceLT, Int.reduceToNat, Int.reduceAdd, Int.reduceSub, Int.reduceMul, Int.reduceNeg, Int.reduceEq, Int.reduceBEq, Int.reduceBNe, ↓reduceIte, reduceCtorEq, String.reduceBNe, String.reduceEq, reduceDIte, Nat.reducePow, lk_old hb, lk_old hb2, p1, p2, e1, e2, e3, e4, h1, h2, h3, h4, h5, w1, w2, s1, s2, s3, s4, g0, g1, hlen, hle, hi1, hi2, hwi, hst]
        exact Weak.same (by simp only [Keeps, Tm.get_cons, Nat.reduceEqDiff, ↓reduceIte, if_true, if_false, ite_true, ite_false, true_and, and_true, and_self, reduceCtorEq, hwi, hst]) (by first | rfl | simp only [Keeps, Tm.get_cons, Nat.reduceEqDiff, ↓reduceIte, if_true, if_false, ite_true, ite_false, true_and, and_true, and_self, reduceCtorEq, hwi, hst])
      all_goals (
      refine AW.skip ?_
      refine Thn_n ?_
      refine hK _ _ ?_
      clear hK K
      refine AW.seq_k fun K hK => ?_
      refine AW.block ?_
      refine AW.seq_k fun K hK => ?_
      refine AW.region (by decide) ?_
      simp only [push_cast, Nat.reduceAdd, Nat.reduceMul, Nat.reduceSub, Nat.reduceLeDiff, Nat.reduceLT, Nat.reduceEqDiff, Nat.reduceBEq, Nat.reduceBNe, Nat.reduceMod, Nat.reduceDiv, Int.reduceLE, Int.reduceLT, Int.reduceToNat, Int.reduceAdd, Int.reduceSub, Int.reduceMul, Int.reduceNeg, Int.reduceEq, Int.reduceBEq, Int.reduceBNe, ↓reduceIte, reduceCtorEq, String.reduceBNe, String.reduceEq, reduceDIte, Nat.reducePow, lk_old hb, lk_old hb2, p1, p2, e1, e2, e3, e4, h1, h2, h3, h4, h5, w1, w2, s1, s2, s3, s4]
      refine Thn_n ?_
      refine hK _ _ ?_
      clear hK K
      refine AW.cond_f rfl ?_
      refine AW.skip ?_
      refine InB_n ?_
      refine Thn_n ?_
      refine hK _ _ ?_
      clear hK K
      refine AW.region (by decide) ?_
      have hst := lay_out (P := P) (B := B) (y := y) c.a1 hu hv (x := x) (ph := ph) (by omega)
      simp only [push_cast, Nat.reduceAdd, Nat.reduceMul, Nat.reduceSub, Nat.reduceLeDiff, Nat.reduceLT, Nat.reduceEqDiff, Nat.reduceBEq, Nat.reduceBNe, Nat.reduceMod, Nat.reduceDiv, Int.reduceLE, Int.reduceLT, Int.reduceToNat, Int.reduceAdd, Int.reduceSub, Int.reduceMul, Int.reduceNeg, Int.reduceEq, Int.reduceBEq, Int.reduceBNe, ↓reduceIte, reduceCtorEq, String.reduceBNe, String.reduceEq, reduceDIte, Nat.reducePow, lk_old hb, lk_old hb2, p1, p2, e1, e2, e3, e4, h1, h2, h3, h4, h5, w1, w2, s1, s2, s3, s4]
      refine Thn_n ?_
      have hwi : IntKind.i64.wrap ((u:Int)+1) = (u:Int)+1 := by rw [IntKind.wrap_i64]; omega
      refine ⟨u + 1, by omega, by omega, ?_⟩
      try simp only [keepL, setAll, push_cast, Nat.reduceAdd, Nat.reduceMul, Nat.reduceSub, Nat.reduceLeDiff, Nat.reduceLT, Nat.reduceEqDiff, Nat.reduceBEq, Nat.reduceBNe, Nat.reduceMod, Nat.reduceDiv, Int.reduceLE, Int.reduceLT, Int.reduceToNat, Int.reduceAdd, Int.reduceSub, Int.reduceMul, Int.reduceNeg, Int.reduceEq, Int.reduceBEq, Int.reduceBNe, ↓reduceIte, reduceCtorEq, String.reduceBNe, String.reduceEq, reduceDIte, Nat.reducePow, lk_old hb, lk_old hb2, p1, p2, e1, e2, e3, e4, h1, h2, h3, h4, h5, w1, w2, s1, s2, s3, s4, hwi, hst]
      exact Weak.same (by simp only [Keeps, Tm.get_cons, Nat.reduceEqDiff, ↓reduceIte, if_true, if_false, ite_true, ite_false, true_and, and_true, and_self, reduceCtorEq, hwi, hst]) (by first | rfl | simp only [Keeps, Tm.get_cons, Nat.reduceEqDiff, ↓reduceIte, if_true, if_false, ite_true, ite_false, true_and, and_true, and_self, reduceCtorEq, hwi, hst])
      )
    · have hue : qw = u := by have := of_decide_eq_false h56; omega
      subst hue
      refine AW.exit ?_
      refine Thn_e ?_
      clear hK K
      refine Thn_e ?_
      refine InB_here ?_
      refine InB_n ?_
      refine Thn_n ?_
      refine hK _ _ ?_
      clear hK K
      refine AW.region (by decide) ?_
      simp only [push_cast, Nat.reduceAdd, Nat.reduceMul, Nat.reduceSub, Nat.reduceLeDiff, Nat.reduceLT, Nat.reduceEqDiff, Nat.reduceBEq, Nat.reduceBNe, Nat.reduceMod, Nat.reduceDiv, Int.reduceLE, Int.reduceLT, Int.reduceToNat, Int.reduceAdd, Int.reduceSub, Int.reduceMul, Int.reduceNeg, Int.reduceEq, Int.reduceBEq, Int.reduceBNe, ↓reduceIte, reduceCtorEq, String.reduceBNe, String.reduceEq, reduceDIte, Nat.reducePow, lk_old hb, lk_old hb2, p1, p2, e1, e2, e3, e4, h1, h2, h3, h4, h5]
      refine Thn_n ?_
      have hwi : IntKind.i64.wrap ((vv:Int)+1) = (vv:Int)+1 := by rw [IntKind.wrap_i64]; omega
      refine ⟨vv + 1, by omega, by omega, ?_⟩
      try simp only [keepL, setAll, push_cast, Nat.reduceAdd, Nat.reduceMul, Nat.reduceSub, Nat.reduceLeDiff, Nat.reduceLT, Nat.reduceEqDiff, Nat.reduceBEq, Nat.reduceBNe, Nat.reduceMod, Nat.reduceDiv, Int.reduceLE, Int.reduceLT, Int.reduceToNat, Int.reduceAdd, Int.reduceSub, Int.reduceMul, Int.reduceNeg, Int.reduceEq, Int.reduceBEq, Int.reduceBNe, ↓reduceIte, reduceCtorEq, String.reduceBNe, String.reduceEq, reduceDIte, Nat.reducePow, lk_old hb, lk_old hb2, p1, p2, e1, e2, e3, e4, h1, h2, h3, h4, h5, hwi, lay_row]
      exact Weak.same (by simp only [Keeps, Tm.get_cons, Nat.reduceEqDiff, ↓reduceIte, if_true, if_false, ite_true, ite_false, true_and, and_true, and_self, reduceCtorEq, hwi, lay_row]) (by first | rfl | simp only [Keeps, Tm.get_cons, Nat.reduceEqDiff, ↓reduceIte, if_true, if_false, ite_true, ite_false, true_and, and_true, and_self, reduceCtorEq, hwi, lay_row])
  · have hve : qh = vv := by have := of_decide_eq_false h50; omega
    subst hve
    have hfin := @lay_last pw qw qh (pw * ph) x y P B
    refine AW.exit ?_
    refine Thn_e ?_
    clear hK K
    refine Thn_e ?_
    refine InB_here ?_
    refine Thn_n ?_
    refine hK _ _ ?_
    clear hK K
    refine AW.seq_k fun K hK => ?_
    refine AW.region (by decide) ?_
    simp only [push_cast, Nat.reduceAdd, Nat.reduceMul, Nat.reduceSub, Nat.reduceLeDiff, Nat.reduceLT, Nat.reduceEqDiff, Nat.reduceBEq, Nat.reduceBNe, Nat.reduceMod, Nat.reduceDiv, Int.reduceLE, Int.reduceLT, Int.reduceToNat, Int.reduceAdd, Int.reduceSub, Int.reduceMul, Int.reduceNeg, Int.reduceEq, Int.reduceBEq, Int.reduceBNe, ↓reduceIte, reduceCtorEq, String.reduceBNe, String.reduceEq, reduceDIte, Nat.reducePow, lk_old hb, lk_old hb2, p1, p2, e1, e2, e3, e4, h1, h2, h3, h4, h5, hfin]
    refine Thn_n ?_
    refine hK _ _ ?_
    clear hK K
    refine AW.ret ?_
    refine hQ _ _ _ ?_
    refine RetP.pick [(m.length + 3, 1)] (Or.inr rfl) ?_ ?_ ?_ hwf ?_
    · simp only [resA, resOne, resTv, AV.tv, push_cast, Nat.reduceAdd, Nat.reduceMul, Nat.reduceSub, Nat.reduceLeDiff, Nat.reduceLT, Nat.reduceEqDiff, Nat.reduceBEq, Nat.reduceBNe, Nat.reduceMod, Nat.reduceDiv, Int.reduceLE, Int.reduceLT, Int.reduceToNat, Int.reduceAdd, Int.reduceSub, Int.reduceMul, Int.reduceNeg, Int.reduceEq, Int.reduceBEq, Int.reduceBNe, ↓reduceIte, reduceCtorEq, String.reduceBNe, String.reduceEq, reduceDIte, Nat.reducePow]
      simp [renV, renT, renL, renC, renIdx, hlt]
    · simp only [picks, push_cast, Nat.reduceAdd, Nat.reduceMul, Nat.reduceSub, Nat.reduceLeDiff, Nat.reduceLT, Nat.reduceEqDiff, Nat.reduceBEq, Nat.reduceBNe, Nat.reduceMod, Nat.reduceDiv, Int.reduceLE, Int.reduceLT, Int.reduceToNat, Int.reduceAdd, Int.reduceSub, Int.reduceMul, Int.reduceNeg, Int.reduceEq, Int.reduceBEq, Int.reduceBNe, ↓reduceIte, reduceCtorEq, String.reduceBNe, String.reduceEq, reduceDIte, Nat.reducePow]
    · simp [distinctFrom]
    · exact MWf_one (dl_below _ _ _)
    
theorem rlay_c (PW PH QW QH x y : Int) (r v n r2 v2 n2 : Nat) (P B : Nat → Nat → Int) (m : AMem) (hp : PicAt m r v n P) (hq : PicAt m r2 v2 n2 B) : Ctr Try.prog 24 [.agg [.int .i64 PW, .int .i64 PH, .sl r v 0 n], .agg [.int .i64 QW, .int .i64 QH, .sl r2 v2 0 n2], .one (.int .i64 x), .one (.int .i64 y)] m ((layF PW PH n P QW QH n2 B x y).ret m.length) (m ++ [(layF PW PH n P QW QH n2 B x y).blk]) := by
  unfold layF
  split
  · rename_i hc
    obtain ⟨pw, ph, qw, qh, rfl, rfl, rfl, rfl, c⟩ := layR_nat hc
    exact rlay_ok pw ph qw qh r v n r2 v2 n2 x y P B m hp hq c
  · rename_i hc
    exact noP_of (rlay_no PW PH QW QH x y r v n r2 v2 n2 m (by simpa using hc))
end Go.Proofs.Ytgkmjcpcigklpaa
