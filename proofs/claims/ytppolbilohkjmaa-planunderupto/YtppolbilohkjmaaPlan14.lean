/- Walks and facts of this seat's program over abstract states, printed by a program of mine; no conditions but those that each theorem names. -/
import Derived.Test.YtppolbilohkjmaaPlan13
set_option linter.unusedSimpArgs false
set_option linter.unusedVariables false
set_option maxRecDepth 100000
set_option maxHeartbeats 4000000
namespace Go.Proofs.Ytppolbilohkjmaa
open Go Go.Eng

theorem unm_le {N : Nat} {s : Nat → Bool} : unm N s ≤ N := by
  have := List.length_filter_le (fun x => !s x) (List.range N)
  rw [List.length_range] at this; exact this
theorem bl_zero {z : Value} {N : Nat} (hz : z = .bool false) : zeros z N = bl N (fun _ => false) := by
  refine bl_of (by simp [zeros]) fun i hi => ?_
  subst hz
  simp [zeros, hi, Value.cells, cellOf, Nat.mod_one]
theorem punder_c (rp N : Nat) (ln : Nat → Nat) (q : Nat → Nat → Int) (m : AMem) (hp : RowsAt m rp N ln q) (hl : ∀ i, i < N → ln i ≤ 1048576) (hN : N ≤ 1048576) (hall : AllP N ln q) (h40 : ∀ x, x < N → ln x ≤ 40) (hs : N ≤ 256) (hz : CheckZ N ln q 0) (i : Nat) (hi : i < N) (s : Nat → Bool) (hS : ClosedU N ln q i s) : Ctr Try.prog 14 [.one (.sl rp 0 0 N), .one (.int .i64 (i : Int))] m (.one (.sl m.length 0 0 (flt s N).length)) (m ++ [⟨.grow, 3, 0, 1, il (flt s N).length (oF (flt s N))⟩]) := by
  refine Ctr.enter Try.func14 rfl (by decide) (rs := [.tmp 4]) (nt := 74) rfl rfl fun hwf Q hQ => ?_
  obtain ⟨k0, v0, ez, rr, hv0, hb, hrows⟩ := hp.hb
  subst hv0
  have hr := get_lt hb
  have hrow := hrows i hi
  obtain ⟨k1, ez1, hb1⟩ := hrow.hb
  have g := rl_get (r := rr) (ln := ln) hi
  have hli := hl i hi
  have i1 : (0 : Int) ≤ (i : Int) := by omega
  have i2 : (i : Int) < (N : Int) := by omega
  have i3 : ¬ (i : Int) < 0 := by omega
  have i4 : ¬ (N : Int) ≤ (i : Int) := by omega
  have hlt0 : ∀ k, ¬ m.length + k < m.length := fun k => by omega
  have n0 : (0 : Int) ≤ (N : Int) := by omega
  have n2 : (N : Int) ≤ 281474976710656 := by omega
  have hz1 := bl_zero (z := .bool false) (N := N) rfl
  simp only [push_cast, Nat.reduceAdd, Nat.reduceMul, Nat.reduceSub, Nat.reduceLeDiff, Nat.reduceLT, Nat.reduceEqDiff, Nat.reduceBEq, Nat.reduceBNe, Nat.reduceMod, Nat.reduceDiv, Int.reduceLE, Int.reduceLT, Int.reduceToNat, Int.reduceAdd, Int.reduceSub, Int.reduceMul, Int.reduceNeg, Int.reduceEq, Int.reduceBEq, Int.reduceBNe, ↓reduceIte, reduceCtorEq, String.reduceBNe, String.reduceEq, reduceDIte, Nat.reducePow] at hz1
  have hr0 := row_il hall hi
  have hr1 := @row_len ln q i
  refine AW.seq_k fun K hK => ?_
  refine AW.region (by decide) ?_
  simp only [push_cast, Nat.reduceAdd, Nat.reduceMul, Nat.reduceSub, Nat.reduceLeDiff, Nat.reduceLT, Nat.reduceEqDiff, Nat.reduceBEq, Nat.reduceBNe, Nat.reduceMod, Nat.reduceDiv, Int.reduceLE, Int.reduceLT, Int.reduceToNat, Int.reduceAdd, Int.reduceSub, Int.reduceMul, Int.reduceNeg, Int.reduceEq, Int.reduceBEq, Int.reduceBNe, ↓reduceIte, reduceCtorEq, String.reduceBNe, String.reduceEq, reduceDIte, Nat.reducePow, hb, lk_old hb, hb1, lk_old hb1, g, i1, i2, i3, i4, n0, n2, hz1, bl_len, il_len, Int.le_refl, Nat.le_refl, Int.one_mul, Nat.sub_zero]
  refine Thn_n ?_
  refine hK _ _ ?_
  clear hK K
  refine AW.seq_k fun K hK => ?_
  refine AW.seq_k fun K hK => ?_
  refine AW.region (by decide) ?_
  simp only [push_cast, Nat.reduceAdd, Nat.reduceMul, Nat.reduceSub, Nat.reduceLeDiff, Nat.reduceLT, Nat.reduceEqDiff, Nat.reduceBEq, Nat.reduceBNe, Nat.reduceMod, Nat.reduceDiv, Int.reduceLE, Int.reduceLT, Int.reduceToNat, Int.reduceAdd, Int.reduceSub, Int.reduceMul, Int.reduceNeg, Int.reduceEq, Int.reduceBEq, Int.reduceBNe, ↓reduceIte, reduceCtorEq, String.reduceBNe, String.reduceEq, reduceDIte, Nat.reducePow, hb, lk_old hb, hb1, lk_old hb1, g, i1, i2, i3, i4, n0, n2, hz1, bl_len, il_len, Int.le_refl, Nat.le_refl, Int.one_mul, Nat.sub_zero]
  refine CThen.by (pcheck_c rp N ln q _ hp hl hN 0 hz) ?_
  simp only [push_cast, Nat.reduceAdd, Nat.reduceMul, Nat.reduceSub, Nat.reduceLeDiff, Nat.reduceLT, Nat.reduceEqDiff, Nat.reduceBEq, Nat.reduceBNe, Nat.reduceMod, Nat.reduceDiv, Int.reduceLE, Int.reduceLT, Int.reduceToNat, Int.reduceAdd, Int.reduceSub, Int.reduceMul, Int.reduceNeg, Int.reduceEq, Int.reduceBEq, Int.reduceBNe, ↓reduceIte, reduceCtorEq, String.reduceBNe, String.reduceEq, reduceDIte, Nat.reducePow, hb, lk_old hb, hb1, lk_old hb1, g, i1, i2, i3, i4, n0, n2, hz1, bl_len, il_len, Int.le_refl, Nat.le_refl, Int.one_mul, Nat.sub_zero]
  refine Thn_n ?_
  refine hK _ _ ?_
  clear hK K
  refine AW.cond_f rfl ?_
  refine AW.skip ?_
  iterate 2
    refine Thn_n ?_
    refine hK _ _ ?_
    clear hK K
    refine AW.seq_k fun K hK => ?_
    refine AW.region (by decide) ?_
    simp only [push_cast, Nat.reduceAdd, Nat.reduceMul, Nat.reduceSub, Nat.reduceLeDiff, Nat.reduceLT, Nat.reduceEqDiff, Nat.reduceBEq, Nat.reduceBNe, Nat.reduceMod, Nat.reduceDiv, Int.reduceLE, Int.reduceLT, Int.reduceToNat, Int.reduceAdd, Int.reduceSub, Int.reduceMul, Int.reduceNeg, Int.reduceEq, Int.reduceBEq, Int.reduceBNe, ↓reduceIte, reduceCtorEq, String.reduceBNe, String.reduceEq, reduceDIte, Nat.reducePow, hb, lk_old hb, hb1, lk_old hb1, g, i1, i2, i3, i4, n0, n2, hz1, bl_len, il_len, Int.le_refl, Nat.le_refl, Int.one_mul, Nat.sub_zero]
  refine CThen.by (clone_c _ _ (q i) _ (hrow.mono _) hli) ?_
  simp only [push_cast, Nat.reduceAdd, Nat.reduceMul, Nat.reduceSub, Nat.reduceLeDiff, Nat.reduceLT, Nat.reduceEqDiff, Nat.reduceBEq, Nat.reduceBNe, Nat.reduceMod, Nat.reduceDiv, Int.reduceLE, Int.reduceLT, Int.reduceToNat, Int.reduceAdd, Int.reduceSub, Int.reduceMul, Int.reduceNeg, Int.reduceEq, Int.reduceBEq, Int.reduceBNe, ↓reduceIte, reduceCtorEq, String.reduceBNe, String.reduceEq, reduceDIte, Nat.reducePow, hb, lk_old hb, hb1, lk_old hb1, g, i1, i2, i3, i4, n0, n2, hz1, bl_len, il_len, Int.le_refl, Nat.le_refl, Int.one_mul, Nat.sub_zero]
  refine Thn_n ?_
  refine hK _ _ ?_
  clear hK K
  refine AW.seq_k fun K hK => ?_
  refine AW.block ?_
  refine AW.loopK [0, 5] (fun p => InvU N ln q i (dfI ln q i p.1) ∧ muU N (dfI ln q i p.1) ≤ 1048576) (fun p => [(6, .one (.sl (m.length + 1) p.2 0 (dfI ln q i p.1).1.length))]) (fun p => [(m.length, ⟨.grow, 4, 0, 1, bl N (dfI ln q i p.1).2⟩), (m.length + 1, ⟨.grow, 3, p.2, 1, il (dfI ln q i p.1).1.length (oF (dfI ln q i p.1).1)⟩)]) (fun p => muU N (dfI ln q i p.1)) (0, 0) ⟨invU hall hi 0, by have := h40 i hi; simp only [dfI, muU, row_len]; have := @unm_le N (fun _ => false); omega⟩ ?_ ?_ fun p hi7 => ?_
  · first | rfl | (simp only [Keeps, Tm.get_cons, Nat.reduceEqDiff, ↓reduceIte, if_true, if_false, ite_true, ite_false, true_and, and_true, and_self, reduceCtorEq, dfI, hr0, hr1] <;> rfl)
  · first | rfl | (simp only [setAll, push_cast, Nat.reduceAdd, Nat.reduceMul, Nat.reduceSub, Nat.reduceLeDiff, Nat.reduceLT, Nat.reduceEqDiff, Nat.reduceBEq, Nat.reduceBNe, Nat.reduceMod, Nat.reduceDiv, Int.reduceLE, Int.reduceLT, Int.reduceToNat, Int.reduceAdd, Int.reduceSub, Int.reduceMul, Int.reduceNeg, Int.reduceEq, Int.reduceBEq, Int.reduceBNe, ↓reduceIte, reduceCtorEq, String.reduceBNe, String.reduceEq, reduceDIte, Nat.reducePow, hb, lk_old hb, hb1, lk_old hb1, g, i1, i2, i3, i4, n0, n2, hz1, bl_len, il_len, Int.le_refl, Nat.le_refl, Int.one_mul, Nat.sub_zero, dfI, hr0, hr1] <;> rfl)
  obtain ⟨k, v⟩ := p
  obtain ⟨hinv, hmu⟩ := hi7
  have hnx : dfI ln q i (k + 1) = dfS ln q (dfI ln q i k) := rfl
  dsimp only at hinv hmu ⊢
  generalize dfI ln q i k = P0 at hnx hinv hmu ⊢
  obtain ⟨st, s0⟩ := P0
  dsimp only at hnx hinv hmu ⊢
  try simp only [keepL, setAll, push_cast, Nat.reduceAdd, Nat.reduceMul, Nat.reduceSub, Nat.reduceLeDiff, Nat.reduceLT, Nat.reduceEqDiff, Nat.reduceBEq, Nat.reduceBNe, Nat.reduceMod, Nat.reduceDiv, Int.reduceLE, Int.reduceLT, Int.reduceToNat, Int.reduceAdd, Int.reduceSub, Int.reduceMul, Int.reduceNeg, Int.reduceEq, Int.reduceBEq, Int.reduceBNe, ↓reduceIte, reduceCtorEq, String.reduceBNe, String.reduceEq, reduceDIte, Nat.reducePow, hb, lk_old hb, hb1, lk_old hb1, g, i1, i2, i3, i4, n0, n2, hz1, bl_len, il_len, Int.le_refl, Nat.le_refl, Int.one_mul, Nat.sub_zero]
  refine AW.seq_k fun K hK => ?_
  refine AW.seq_k fun K hK => ?_
  refine AW.region (by decide) ?_
  simp only [push_cast, Nat.reduceAdd, Nat.reduceMul, Nat.reduceSub, Nat.reduceLeDiff, Nat.reduceLT, Nat.reduceEqDiff, Nat.reduceBEq, Nat.reduceBNe, Nat.reduceMod, Nat.reduceDiv, Int.reduceLE, Int.reduceLT, Int.reduceToNat, Int.reduceAdd, Int.reduceSub, Int.reduceMul, Int.reduceNeg, Int.reduceEq, Int.reduceBEq, Int.reduceBNe, ↓reduceIte, reduceCtorEq, String.reduceBNe, String.reduceEq, reduceDIte, Nat.reducePow, hb, lk_old hb, hb1, lk_old hb1, g, i1, i2, i3, i4, n0, n2, hz1, bl_len, il_len, Int.le_refl, Nat.le_refl, Int.one_mul, Nat.sub_zero]
  refine Thn_n ?_
  refine hK _ _ ?_
  clear hK K
  refine AW.cond rfl (fun h34 => ?_) (fun h34 => ?_)
  · have hpos := of_decide_eq_true h34
    have hne : st ≠ [] := fun e => by rw [e] at hpos; simp at hpos
    obtain ⟨n, x, hn, hdn, hx, hxm, hox, hpop⟩ := st_last hne
    obtain ⟨hxN, _⟩ := hinv.st x hxm
    have hmd := muU_lt (p := (st, s0)) (ln := ln) (q := q) hne (fun y hy => (hinv.st y hy).1) h40
    have hmu2 : n + 1 ≤ 1048576 := by simp only [muU] at hmu; omega
    have gL := il_get (f := oF st) (n := n + 1) (i := n) (by omega)
    rw [hox] at gL
    have gB := bl_get (f := s0) hxN
    have gx := rl_get (r := rr) (ln := ln) hxN
    obtain ⟨k2, ez2, hb2⟩ := (hrows x hxN).hb
    have h4 := h40 x hxN
    have x1 : (0 : Int) ≤ (x : Int) := by omega
    have x2 : (x : Int) < (N : Int) := by omega
    have x3 : x + 1 ≤ N := hxN
    have w1 : IntKind.i64.wrap ((n : Int) + 1 - 1) = (n : Int) := by rw [IntKind.wrap_i64]; omega
    have w2 : (0 : Int) ≤ (n : Int) := by omega
    have w3 : (n : Int) < (n : Int) + 1 := by omega
    have w4 : (n : Int) ≤ (n : Int) + 1 := by omega
    have q1 : n + ln x ≤ 140737488355328 := by omega
    have q2 : (n + ln x) * 8 ≤ 140737488355328 := by omega
    have hvx := il_vals (ln x) (q x)
    have htx := List.take_of_length_le (l := il (ln x) (q x)) (i := ln x) (by rw [il_len]; exact Nat.le_refl _)
    refine AW.skip ?_
    refine Thn_n ?_
    refine hK _ _ ?_
    clear hK K
    refine AW.block ?_
    iterate 2
      refine AW.seq_k fun K hK => ?_
      refine AW.region (by decide) ?_
      simp only [push_cast, Nat.reduceAdd, Nat.reduceMul, Nat.reduceSub, Nat.reduceLeDiff, Nat.reduceLT, Nat.reduceEqDiff, Nat.reduceBEq, Nat.reduceBNe, Nat.reduceMod, Nat.reduceDiv, Int.reduceLE, Int.reduceLT, Int.reduceToNat, Int.reduceAdd, Int.reduceSub, Int.reduceMul, Int.reduceNeg, Int.reduceEq, Int.reduceBEq, Int.reduceBNe, ↓reduceIte, reduceCtorEq, String.reduceBNe, String.reduceEq, reduceDIte, Nat.reducePow, hb, lk_old hb, hb1, lk_old hb1, g, i1, i2, i3, i4, n0, n2, hz1, bl_len, il_len, Int.le_refl, Nat.le_refl, Int.one_mul, Nat.sub_zero, hn, gL, gB, gx, hb2, lk_old hb2, x1, x2, x3, w1, w2, w3, w4, q1, q2, hvx, htx, hpop]
      refine Thn_n ?_
      refine hK _ _ ?_
      clear hK K
    refine AW.seq_k fun K hK => ?_
    refine AW.cut (m.length + 1) n (b := ⟨.grow, 3, v, 1, il (n + 1) (oF st)⟩) (by simp only [push_cast, Nat.reduceAdd, Nat.reduceMul, Nat.reduceSub, Nat.reduceLeDiff, Nat.reduceLT, Nat.reduceEqDiff, Nat.reduceBEq, Nat.reduceBNe, Nat.reduceMod, Nat.reduceDiv, Int.reduceLE, Int.reduceLT, Int.reduceToNat, Int.reduceAdd, Int.reduceSub, Int.reduceMul, Int.reduceNeg, Int.reduceEq, Int.reduceBEq, Int.reduceBNe, ↓reduceIte, reduceCtorEq, String.reduceBNe, String.reduceEq, reduceDIte, Nat.reducePow, hn]) rfl ?_
    simp only [push_cast, Nat.reduceAdd, Nat.reduceMul, Nat.reduceSub, Nat.reduceLeDiff, Nat.reduceLT, Nat.reduceEqDiff, Nat.reduceBEq, Nat.reduceBNe, Nat.reduceMod, Nat.reduceDiv, Int.reduceLE, Int.reduceLT, Int.reduceToNat, Int.reduceAdd, Int.reduceSub, Int.reduceMul, Int.reduceNeg, Int.reduceEq, Int.reduceBEq, Int.reduceBNe, ↓reduceIte, reduceCtorEq, String.reduceBNe, String.reduceEq, reduceDIte, Nat.reducePow, hpop]
    refine AW.region (by decide) ?_
    simp only [push_cast, Nat.reduceAdd, Nat.reduceMul, Nat.reduceSub, Nat.reduceLeDiff, Nat.reduceLT, Nat.reduceEqDiff, Nat.reduceBEq, Nat.reduceBNe, Nat.reduceMod, Nat.reduceDiv, Int.reduceLE, Int.reduceLT, Int.reduceToNat, Int.reduceAdd, Int.reduceSub, Int.reduceMul, Int.reduceNeg, Int.reduceEq, Int.reduceBEq, Int.reduceBNe, ↓reduceIte, reduceCtorEq, String.reduceBNe, String.reduceEq, reduceDIte, Nat.reducePow, hb, lk_old hb, hb1, lk_old hb1, g, i1, i2, i3, i4, n0, n2, hz1, bl_len, il_len, Int.le_refl, Nat.le_refl, Int.one_mul, Nat.sub_zero, hn, gL, gB, gx, hb2, lk_old hb2, x1, x2, x3, w1, w2, w3, w4, q1, q2, hvx, htx, hpop]
    refine Thn_n ?_
    refine hK _ _ ?_
    clear hK K
    refine AW.cond rfl (fun h50 => ?_) (fun h50 => ?_)
    · have hsx : s0 x = false := by simpa using h50
      have hset : (bl N s0).set x (.bool true) = bl N (updB s0 x true) := bl_set
      have hdf : dfS ln q (st, s0) = (st.dropLast ++ rowL ln q x, updB s0 x true) := by simp only [dfS, hx, hsx]; rfl
      have hps := st_push hall hxN hdn
      have hpl : (st.dropLast ++ rowL ln q x).length = n + ln x := by rw [List.length_append, hdn, row_len]
      obtain ⟨v2, hv2⟩ : ∃ v2, v + 1 = v2 := ⟨_, rfl⟩
      refine AW.seq_k fun K hK => ?_
      refine AW.region (by decide) ?_
      simp only [push_cast, Nat.reduceAdd, Nat.reduceMul, Nat.reduceSub, Nat.reduceLeDiff, Nat.reduceLT, Nat.reduceEqDiff, Nat.reduceBEq, Nat.reduceBNe, Nat.reduceMod, Nat.reduceDiv, Int.reduceLE, Int.reduceLT, Int.reduceToNat, Int.reduceAdd, Int.reduceSub, Int.reduceMul, Int.reduceNeg, Int.reduceEq, Int.reduceBEq, Int.reduceBNe, ↓reduceIte, reduceCtorEq, String.reduceBNe, String.reduceEq, reduceDIte, Nat.reducePow, hb, lk_old hb, hb1, lk_old hb1, g, i1, i2, i3, i4, n0, n2, hz1, bl_len, il_len, Int.le_refl, Nat.le_refl, Int.one_mul, Nat.sub_zero, hn, gL, gB, gx, hb2, lk_old hb2, x1, x2, x3, w1, w2, w3, w4, q1, q2, hvx, htx, hpop, hset, hv2]
      refine Thn_n ?_
      refine hK _ _ ?_
      clear hK K
      refine AW.region (by decide) ?_
      simp only [push_cast, Nat.reduceAdd, Nat.reduceMul, Nat.reduceSub, Nat.reduceLeDiff, Nat.reduceLT, Nat.reduceEqDiff, Nat.reduceBEq, Nat.reduceBNe, Nat.reduceMod, Nat.reduceDiv, Int.reduceLE, Int.reduceLT, Int.reduceToNat, Int.reduceAdd, Int.reduceSub, Int.reduceMul, Int.reduceNeg, Int.reduceEq, Int.reduceBEq, Int.reduceBNe, ↓reduceIte, reduceCtorEq, String.reduceBNe, String.reduceEq, reduceDIte, Nat.reducePow, hb, lk_old hb, hb1, lk_old hb1, g, i1, i2, i3, i4, n0, n2, hz1, bl_len, il_len, Int.le_refl, Nat.le_refl, Int.one_mul, Nat.sub_zero, hn, gL, gB, gx, hb2, lk_old hb2, x1, x2, x3, w1, w2, w3, w4, q1, q2, hvx, htx, hpop, hset, hv2]
      refine InB_n ?_
      refine Thn_n ?_
      refine ⟨(k + 1, v2), ⟨by rw [hnx]; exact hinv.next hall, by rw [hnx]; omega⟩, by rw [hnx]; exact hmd, ?_⟩
      try simp only [keepL, setAll, push_cast, Nat.reduceAdd, Nat.reduceMul, Nat.reduceSub, Nat.reduceLeDiff, Nat.reduceLT, Nat.reduceEqDiff, Nat.reduceBEq, Nat.reduceBNe, Nat.reduceMod, Nat.reduceDiv, Int.reduceLE, Int.reduceLT, Int.reduceToNat, Int.reduceAdd, Int.reduceSub, Int.reduceMul, Int.reduceNeg, Int.reduceEq, Int.reduceBEq, Int.reduceBNe, ↓reduceIte, reduceCtorEq, String.reduceBNe, String.reduceEq, reduceDIte, Nat.reducePow, hb, lk_old hb, hb1, lk_old hb1, g, i1, i2, i3, i4, n0, n2, hz1, bl_len, il_len, Int.le_refl, Nat.le_refl, Int.one_mul, Nat.sub_zero, hn, gL, gB, gx, hb2, lk_old hb2, x1, x2, x3, w1, w2, w3, w4, q1, q2, hvx, htx, hpop, hset, hv2, hnx, hdf, hdn, hps, hpl]
      exact Weak.same (by simp only [Keeps, Tm.get_cons, Nat.reduceEqDiff, ↓reduceIte, if_true, if_false, ite_true, ite_false, true_and, and_true, and_self, reduceCtorEq, hnx, hdf, hdn, hps, hpl]) (by first | rfl | simp only [Keeps, Tm.get_cons, Nat.reduceEqDiff, ↓reduceIte, if_true, if_false, ite_true, ite_false, true_and, and_true, and_self, reduceCtorEq, hnx, hdf, hdn, hps, hpl])
    · have hsx : s0 x = true := by simpa using h50
      have hdf : dfS ln q (st, s0) = (st.dropLast, s0) := by simp only [dfS, hx, hsx]; rfl
      have hps : True := trivial
      have hpl : True := trivial
      obtain ⟨v2, hv2⟩ : ∃ v2, v2 = v := ⟨_, rfl⟩
      subst hv2
      refine AW.skip ?_
      refine InB_n ?_
      refine Thn_n ?_
      refine ⟨(k + 1, v2), ⟨by rw [hnx]; exact hinv.next hall, by rw [hnx]; omega⟩, by rw [hnx]; exact hmd, ?_⟩
      try simp only [keepL, setAll, push_cast, Nat.reduceAdd, Nat.reduceMul, Nat.reduceSub, Nat.reduceLeDiff, Nat.reduceLT, Nat.reduceEqDiff, Nat.reduceBEq, Nat.reduceBNe, Nat.reduceMod, Nat.reduceDiv, Int.reduceLE, Int.reduceLT, Int.reduceToNat, Int.reduceAdd, Int.reduceSub, Int.reduceMul, Int.reduceNeg, Int.reduceEq, Int.reduceBEq, Int.reduceBNe, ↓reduceIte, reduceCtorEq, String.reduceBNe, String.reduceEq, reduceDIte, Nat.reducePow, hb, lk_old hb, hb1, lk_old hb1, g, i1, i2, i3, i4, n0, n2, hz1, bl_len, il_len, Int.le_refl, Nat.le_refl, Int.one_mul, Nat.sub_zero, hn, gL, gB, gx, hb2, lk_old hb2, x1, x2, x3, w1, w2, w3, w4, q1, q2, hvx, htx, hpop, hnx, hdf, hdn, hps, hpl]
      exact Weak.same (by simp only [Keeps, Tm.get_cons, Nat.reduceEqDiff, ↓reduceIte, if_true, if_false, ite_true, ite_false, true_and, and_true, and_self, reduceCtorEq, hnx, hdf, hdn, hps, hpl]) (by first | rfl | simp only [Keeps, Tm.get_cons, Nat.reduceEqDiff, ↓reduceIte, if_true, if_false, ite_true, ite_false, true_and, and_true, and_self, reduceCtorEq, hnx, hdf, hdn, hps, hpl])
  · have hemp : st = [] := by
      have := of_decide_eq_false h34
      have : st.length = 0 := by omega
      exact List.eq_nil_of_length_eq_zero this
    have hS0 := (closed_of_inv hinv hemp).eq hS
    simp only at hS0
    have hS1 := hS0.symm
    clear hS0
    subst hS1
    refine AW.exit ?_
    refine Thn_e ?_
    clear hK K
    refine Thn_e ?_
    refine InB_here ?_
    refine Thn_n ?_
    refine hK _ _ ?_
    clear hK K
    refine AW.seq_k fun K hK => ?_
    refine AW.region (by decide) ?_
    simp only [push_cast, Nat.reduceAdd, Nat.reduceMul, Nat.reduceSub, Nat.reduceLeDiff, Nat.reduceLT, Nat.reduceEqDiff, Nat.reduceBEq, Nat.reduceBNe, Nat.reduceMod, Nat.reduceDiv, Int.reduceLE, Int.reduceLT, Int.reduceToNat, Int.reduceAdd, Int.reduceSub, Int.reduceMul, Int.reduceNeg, Int.reduceEq, Int.reduceBEq, Int.reduceBNe, ↓reduceIte, reduceCtorEq, String.reduceBNe, String.reduceEq, reduceDIte, Nat.reducePow, hb, lk_old hb, hb1, lk_old hb1, g, i1, i2, i3, i4, n0, n2, hz1, bl_len, il_len, Int.le_refl, Nat.le_refl, Int.one_mul, Nat.sub_zero]
    refine Thn_n ?_
    refine hK _ _ ?_
    clear hK K
    refine AW.seq_k fun K hK => ?_
    refine AW.seq_k fun K hK => ?_
    refine AW.region (by decide) ?_
    simp only [push_cast, Nat.reduceAdd, Nat.reduceMul, Nat.reduceSub, Nat.reduceLeDiff, Nat.reduceLT, Nat.reduceEqDiff, Nat.reduceBEq, Nat.reduceBNe, Nat.reduceMod, Nat.reduceDiv, Int.reduceLE, Int.reduceLT, Int.reduceToNat, Int.reduceAdd, Int.reduceSub, Int.reduceMul, Int.reduceNeg, Int.reduceEq, Int.reduceBEq, Int.reduceBNe, ↓reduceIte, reduceCtorEq, String.reduceBNe, String.reduceEq, reduceDIte, Nat.reducePow, hb, lk_old hb, hb1, lk_old hb1, g, i1, i2, i3, i4, n0, n2, hz1, bl_len, il_len, Int.le_refl, Nat.le_refl, Int.one_mul, Nat.sub_zero]
    refine Thn_n ?_
    refine hK _ _ ?_
    clear hK K
    refine AW.block ?_
    refine AW.nilTm 3 1 8 rfl ?_
    try simp only [push_cast, Nat.reduceAdd, Nat.reduceMul, Nat.reduceSub, Nat.reduceLeDiff, Nat.reduceLT, Nat.reduceEqDiff, Nat.reduceBEq, Nat.reduceBNe, Nat.reduceMod, Nat.reduceDiv, Int.reduceLE, Int.reduceLT, Int.reduceToNat, Int.reduceAdd, Int.reduceSub, Int.reduceMul, Int.reduceNeg, Int.reduceEq, Int.reduceBEq, Int.reduceBNe, ↓reduceIte, reduceCtorEq, String.reduceBNe, String.reduceEq, reduceDIte, Nat.reducePow, hb, lk_old hb, hb1, lk_old hb1, g, i1, i2, i3, i4, n0, n2, hz1, bl_len, il_len, Int.le_refl, Nat.le_refl, Int.one_mul, Nat.sub_zero]
    refine AW.loopK [60, 61] (fun j => j ≤ N) (fun j => [(8, .one (.sl (m.length + 2) (flt s j).length 0 (flt s j).length)), (62, .one (.int .i64 (j : Int)))]) (fun j => [(m.length + 2, ⟨.grow, 3, (flt s j).length, 1, il (flt s j).length (oF (flt s j))⟩)]) (fun j => N - j) 0 (by omega) ?_ ?_ fun j hi17 => ?_
    · first | rfl | (simp only [Keeps, Tm.get_cons, Nat.reduceEqDiff, ↓reduceIte, if_true, if_false, ite_true, ite_false, true_and, and_true, and_self, reduceCtorEq, flt, List.range_zero, List.filter_nil, il, List.length_nil, Int.natCast_zero] <;> rfl)
    · first | rfl | (simp only [setAll, push_cast, Nat.reduceAdd, Nat.reduceMul, Nat.reduceSub, Nat.reduceLeDiff, Nat.reduceLT, Nat.reduceEqDiff, Nat.reduceBEq, Nat.reduceBNe, Nat.reduceMod, Nat.reduceDiv, Int.reduceLE, Int.reduceLT, Int.reduceToNat, Int.reduceAdd, Int.reduceSub, Int.reduceMul, Int.reduceNeg, Int.reduceEq, Int.reduceBEq, Int.reduceBNe, ↓reduceIte, reduceCtorEq, String.reduceBNe, String.reduceEq, reduceDIte, Nat.reducePow, hb, lk_old hb, hb1, lk_old hb1, g, i1, i2, i3, i4, n0, n2, hz1, bl_len, il_len, Int.le_refl, Nat.le_refl, Int.one_mul, Nat.sub_zero, flt, List.range_zero, List.filter_nil, il, List.length_nil, Int.natCast_zero] <;> rfl)
    try simp only [keepL, setAll, push_cast, Nat.reduceAdd, Nat.reduceMul, Nat.reduceSub, Nat.reduceLeDiff, Nat.reduceLT, Nat.reduceEqDiff, Nat.reduceBEq, Nat.reduceBNe, Nat.reduceMod, Nat.reduceDiv, Int.reduceLE, Int.reduceLT, Int.reduceToNat, Int.reduceAdd, Int.reduceSub, Int.reduceMul, Int.reduceNeg, Int.reduceEq, Int.reduceBEq, Int.reduceBNe, ↓reduceIte, reduceCtorEq, String.reduceBNe, String.reduceEq, reduceDIte, Nat.reducePow, hb, lk_old hb, hb1, lk_old hb1, g, i1, i2, i3, i4, n0, n2, hz1, bl_len, il_len, Int.le_refl, Nat.le_refl, Int.one_mul, Nat.sub_zero]
    refine AW.seq_k fun K hK => ?_
    refine AW.region (by decide) ?_
    simp only [push_cast, Nat.reduceAdd, Nat.reduceMul, Nat.reduceSub, Nat.reduceLeDiff, Nat.reduceLT, Nat.reduceEqDiff, Nat.reduceBEq, Nat.reduceBNe, Nat.reduceMod, Nat.reduceDiv, Int.reduceLE, Int.reduceLT, Int.reduceToNat, Int.reduceAdd, Int.reduceSub, Int.reduceMul, Int.reduceNeg, Int.reduceEq, Int.reduceBEq, Int.reduceBNe, ↓reduceIte, reduceCtorEq, String.reduceBNe, String.reduceEq, reduceDIte, Nat.reducePow, hb, lk_old hb, hb1, lk_old hb1, g, i1, i2, i3, i4, n0, n2, hz1, bl_len, il_len, Int.le_refl, Nat.le_refl, Int.one_mul, Nat.sub_zero]
    refine Thn_n ?_
    refine hK _ _ ?_
    clear hK K
    refine AW.seq_k fun K hK => ?_
    refine AW.cond rfl (fun h63 => ?_) (fun h63 => ?_)
    · have hlt : j < N := by have := of_decide_eq_true h63; omega
      have c1 : (0 : Int) ≤ (j : Int) := by omega
      have c2 : (j : Int) < (N : Int) := by omega
      have hol := @flt_len s j
      have gi := il_len (flt s j).length (oF (flt s j))
      have q1 : (flt s j).length + 1 ≤ 140737488355328 := by omega
      have q2 : ((flt s j).length + 1) * 8 ≤ 140737488355328 := by omega
      have gs := bl_get (f := s) hlt
      refine AW.skip ?_
      refine Thn_n ?_
      refine hK _ _ ?_
      clear hK K
      refine AW.seq_k fun K hK => ?_
      refine AW.block ?_
      iterate 2
        refine AW.seq_k fun K hK => ?_
        refine AW.region (by decide) ?_
        simp only [push_cast, Nat.reduceAdd, Nat.reduceMul, Nat.reduceSub, Nat.reduceLeDiff, Nat.reduceLT, Nat.reduceEqDiff, Nat.reduceBEq, Nat.reduceBNe, Nat.reduceMod, Nat.reduceDiv, Int.reduceLE, Int.reduceLT, Int.reduceToNat, Int.reduceAdd, Int.reduceSub, Int.reduceMul, Int.reduceNeg, Int.reduceEq, Int.reduceBEq, Int.reduceBNe, ↓reduceIte, reduceCtorEq, String.reduceBNe, String.reduceEq, reduceDIte, Nat.reducePow, hb, lk_old hb, hb1, lk_old hb1, g, i1, i2, i3, i4, n0, n2, hz1, bl_len, il_len, Int.le_refl, Nat.le_refl, Int.one_mul, Nat.sub_zero, c1, c2, gi, q1, q2, gs]
        refine Thn_n ?_
        refine hK _ _ ?_
        clear hK K
      refine AW.cond rfl (fun h67 => ?_) (fun h67 => ?_)
      · have hit := flt_t (s := s) (k := j) (by simpa using h67)
        have hst2 := il_snoc (flt s j) j
        have hlen : ((flt s j) ++ [j]).length = (flt s j).length + 1 := by rw [List.length_append]; rfl
        refine AW.region (by decide) ?_
        simp only [push_cast, Nat.reduceAdd, Nat.reduceMul, Nat.reduceSub, Nat.reduceLeDiff, Nat.reduceLT, Nat.reduceEqDiff, Nat.reduceBEq, Nat.reduceBNe, Nat.reduceMod, Nat.reduceDiv, Int.reduceLE, Int.reduceLT, Int.reduceToNat, Int.reduceAdd, Int.reduceSub, Int.reduceMul, Int.reduceNeg, Int.reduceEq, Int.reduceBEq, Int.reduceBNe, ↓reduceIte, reduceCtorEq, String.reduceBNe, String.reduceEq, reduceDIte, Nat.reducePow, hb, lk_old hb, hb1, lk_old hb1, g, i1, i2, i3, i4, n0, n2, hz1, bl_len, il_len, Int.le_refl, Nat.le_refl, Int.one_mul, Nat.sub_zero, c1, c2, gi, q1, q2, gs]
        refine InB_n ?_
        refine Thn_n ?_
        refine hK _ _ ?_
        clear hK K
        refine AW.region (by decide) ?_
        simp only [push_cast, Nat.reduceAdd, Nat.reduceMul, Nat.reduceSub, Nat.reduceLeDiff, Nat.reduceLT, Nat.reduceEqDiff, Nat.reduceBEq, Nat.reduceBNe, Nat.reduceMod, Nat.reduceDiv, Int.reduceLE, Int.reduceLT, Int.reduceToNat, Int.reduceAdd, Int.reduceSub, Int.reduceMul, Int.reduceNeg, Int.reduceEq, Int.reduceBEq, Int.reduceBNe, ↓reduceIte, reduceCtorEq, String.reduceBNe, String.reduceEq, reduceDIte, Nat.reducePow, hb, lk_old hb, hb1, lk_old hb1, g, i1, i2, i3, i4, n0, n2, hz1, bl_len, il_len, Int.le_refl, Nat.le_refl, Int.one_mul, Nat.sub_zero, c1, c2, gi, q1, q2, gs]
        refine Thn_n ?_
        have hwi : IntKind.i64.wrap ((j:Int)+1) = (j:Int)+1 := by rw [IntKind.wrap_i64]; omega
        refine ⟨j + 1, by omega, by omega, ?_⟩
        try simp only [keepL, setAll, push_cast, Nat.reduceAdd, Nat.reduceMul, Nat.reduceSub, Nat.reduceLeDiff, Nat.reduceLT, Nat.reduceEqDiff, Nat.reduceBEq, Nat.reduceBNe, Nat.reduceMod, Nat.reduceDiv, Int.reduceLE, Int.reduceLT, Int.reduceToNat, Int.reduceAdd, Int.reduceSub, Int.reduceMul, Int.reduceNeg, Int.reduceEq, Int.reduceBEq, Int.reduceBNe, ↓reduceIte, reduceCtorEq, String.reduceBNe, String.reduceEq, reduceDIte, Nat.reducePow, hb, lk_old hb, hb1, lk_old hb1, g, i1, i2, i3, i4, n0, n2, hz1, bl_len, il_len, Int.le_refl, Nat.le_refl, Int.one_mul, Nat.sub_zero, c1, c2, gi, q1, q2, gs, hwi, hit, hst2, hlen]
        first
          | exact Weak.same (by simp only [Keeps, Tm.get_cons, Nat.reduceEqDiff, ↓reduceIte, if_true, if_false, ite_true, ite_false, true_and, and_true, and_self, reduceCtorEq, hwi, hit, hst2, hlen]) (by first | rfl | simp only [Keeps, Tm.get_cons, Nat.reduceEqDiff, ↓reduceIte, if_true, if_false, ite_true, ite_false, true_and, and_true, and_self, reduceCtorEq, hwi, hit, hst2, hlen])
          | exact Weak.to (extra := [_]) (by simp only [Keeps, Tm.get_cons, Nat.reduceEqDiff, ↓reduceIte, if_true, if_false, ite_true, ite_false, true_and, and_true, and_self, reduceCtorEq, hwi, hit, hst2, hlen]) (by first | rfl | (simp only [List.append_assoc, List.cons_append, List.nil_append]; rfl)) (by first | rfl | (simp [AV.below, CV.below, il_below, bl_below]; done) | (simp [AV.below, CV.below, il_below, bl_below]; omega)) (by
              first | exact hwf | refine MWf.app (hwf.grow (by simp)) ?_
              repeat (first | exact MWf_nil | (refine MWf_cons ?_ ?_; · first | rfl | (simp [CV.below, il_below, bl_below]; done) | (simp [CV.below, il_below, bl_below]; omega))))
      · have hit := flt_f (s := s) (k := j) (by simpa using h67)
        have hst2 : True := trivial
        have hlen : True := trivial
        refine AW.skip ?_
        refine InB_n ?_
        refine Thn_n ?_
        refine hK _ _ ?_
        clear hK K
        refine AW.region (by decide) ?_
        simp only [push_cast, Nat.reduceAdd, Nat.reduceMul, Nat.reduceSub, Nat.reduceLeDiff, Nat.reduceLT, Nat.reduceEqDiff, Nat.reduceBEq, Nat.reduceBNe, Nat.reduceMod, Nat.reduceDiv, Int.reduceLE, Int.reduceLT, Int.reduceToNat, Int.reduceAdd, Int.reduceSub, Int.reduceMul, Int.reduceNeg, Int.reduceEq, Int.reduceBEq, Int.reduceBNe, ↓reduceIte, reduceCtorEq, String.reduceBNe, String.reduceEq, reduceDIte, Nat.reducePow, hb, lk_old hb, hb1, lk_old hb1, g, i1, i2, i3, i4, n0, n2, hz1, bl_len, il_len, Int.le_refl, Nat.le_refl, Int.one_mul, Nat.sub_zero, c1, c2, gi, q1, q2, gs]
        refine Thn_n ?_
        have hwi : IntKind.i64.wrap ((j:Int)+1) = (j:Int)+1 := by rw [IntKind.wrap_i64]; omega
        refine ⟨j + 1, by omega, by omega, ?_⟩
        try simp only [keepL, setAll, push_cast, Nat.reduceAdd, Nat.reduceMul, Nat.reduceSub, Nat.reduceLeDiff, Nat.reduceLT, Nat.reduceEqDiff, Nat.reduceBEq, Nat.reduceBNe, Nat.reduceMod, Nat.reduceDiv, Int.reduceLE, Int.reduceLT, Int.reduceToNat, Int.reduceAdd, Int.reduceSub, Int.reduceMul, Int.reduceNeg, Int.reduceEq, Int.reduceBEq, Int.reduceBNe, ↓reduceIte, reduceCtorEq, String.reduceBNe, String.reduceEq, reduceDIte, Nat.reducePow, hb, lk_old hb, hb1, lk_old hb1, g, i1, i2, i3, i4, n0, n2, hz1, bl_len, il_len, Int.le_refl, Nat.le_refl, Int.one_mul, Nat.sub_zero, c1, c2, gi, q1, q2, gs, hwi, hit, hst2, hlen]
        first
          | exact Weak.same (by simp only [Keeps, Tm.get_cons, Nat.reduceEqDiff, ↓reduceIte, if_true, if_false, ite_true, ite_false, true_and, and_true, and_self, reduceCtorEq, hwi, hit, hst2, hlen]) (by first | rfl | simp only [Keeps, Tm.get_cons, Nat.reduceEqDiff, ↓reduceIte, if_true, if_false, ite_true, ite_false, true_and, and_true, and_self, reduceCtorEq, hwi, hit, hst2, hlen])
          | exact Weak.to (extra := [_]) (by simp only [Keeps, Tm.get_cons, Nat.reduceEqDiff, ↓reduceIte, if_true, if_false, ite_true, ite_false, true_and, and_true, and_self, reduceCtorEq, hwi, hit, hst2, hlen]) (by first | rfl | (simp only [List.append_assoc, List.cons_append, List.nil_append]; rfl)) (by first | rfl | (simp [AV.below, CV.below, il_below, bl_below]; done) | (simp [AV.below, CV.below, il_below, bl_below]; omega)) (by
              first | exact hwf | refine MWf.app (hwf.grow (by simp)) ?_
              repeat (first | exact MWf_nil | (refine MWf_cons ?_ ?_; · first | rfl | (simp [CV.below, il_below, bl_below]; done) | (simp [CV.below, il_below, bl_below]; omega))))
    · have hin : N = j := by have := of_decide_eq_false h63; omega
      subst hin
      refine AW.exit ?_
      refine Thn_e ?_
      clear hK K
      refine Thn_e ?_
      refine InB_here ?_
      refine Thn_n ?_
      refine hK _ _ ?_
      clear hK K
      refine AW.seq_k fun K hK => ?_
      refine AW.region (by decide) ?_
      simp only [push_cast, Nat.reduceAdd, Nat.reduceMul, Nat.reduceSub, Nat.reduceLeDiff, Nat.reduceLT, Nat.reduceEqDiff, Nat.reduceBEq, Nat.reduceBNe, Nat.reduceMod, Nat.reduceDiv, Int.reduceLE, Int.reduceLT, Int.reduceToNat, Int.reduceAdd, Int.reduceSub, Int.reduceMul, Int.reduceNeg, Int.reduceEq, Int.reduceBEq, Int.reduceBNe, ↓reduceIte, reduceCtorEq, String.reduceBNe, String.reduceEq, reduceDIte, Nat.reducePow, hb, lk_old hb, hb1, lk_old hb1, g, i1, i2, i3, i4, n0, n2, hz1, bl_len, il_len, Int.le_refl, Nat.le_refl, Int.one_mul, Nat.sub_zero]
      refine Thn_n ?_
      refine hK _ _ ?_
      clear hK K
      refine AW.ret ?_
      refine hQ _ _ _ ?_
      refine RetP.pick [(m.length + 2, (flt s N).length)] (Or.inr rfl) ?_ ?_ ?_ hwf ?_
      · simp only [resA, resOne, resTv, AV.tv, push_cast, Nat.reduceAdd, Nat.reduceMul, Nat.reduceSub, Nat.reduceLeDiff, Nat.reduceLT, Nat.reduceEqDiff, Nat.reduceBEq, Nat.reduceBNe, Nat.reduceMod, Nat.reduceDiv, Int.reduceLE, Int.reduceLT, Int.reduceToNat, Int.reduceAdd, Int.reduceSub, Int.reduceMul, Int.reduceNeg, Int.reduceEq, Int.reduceBEq, Int.reduceBNe, ↓reduceIte, reduceCtorEq, String.reduceBNe, String.reduceEq, reduceDIte, Nat.reducePow]
        simp [renV, renT, renL, renC, renIdx, hlt0]
      · simp only [picks, push_cast, Nat.reduceAdd, Nat.reduceMul, Nat.reduceSub, Nat.reduceLeDiff, Nat.reduceLT, Nat.reduceEqDiff, Nat.reduceBEq, Nat.reduceBNe, Nat.reduceMod, Nat.reduceDiv, Int.reduceLE, Int.reduceLT, Int.reduceToNat, Int.reduceAdd, Int.reduceSub, Int.reduceMul, Int.reduceNeg, Int.reduceEq, Int.reduceBEq, Int.reduceBNe, ↓reduceIte, reduceCtorEq, String.reduceBNe, String.reduceEq, reduceDIte, Nat.reducePow]
      · simp [distinctFrom]
      · exact MWf_one (il_below _ _ _)
      
end Go.Proofs.Ytppolbilohkjmaa
