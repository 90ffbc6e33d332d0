/- Walks and facts of this seat's program over abstract states, printed by a program of mine; no conditions but those that each theorem names. -/
import Derived.Test.YtgkmjcpcigklpaaTurns
set_option linter.unusedSimpArgs false
set_option linter.unusedVariables false
set_option maxRecDepth 100000
set_option maxHeartbeats 4000000
namespace Go.Proofs.Ytgkmjcpcigklpaa
open Go Go.Eng

theorem half_ok (hw hh pw ph r v n : Nat) (G : Nat → Nat → Int) (m : AMem) (hp : PicAt m r v n G) (hu : ∀ i k, 0 ≤ G i k ∧ G i k ≤ 255) (c : HalfOk hw hh pw ph n) : Ctr Try.prog 32 [.agg [.int .i64 (pw : Int), .int .i64 (ph : Int), .sl r v 0 n]] m (.tup [(true, [.int .i64 ((hw : Int)), .int .i64 ((hh : Int)), .sl m.length 0 0 (hw * hh)]), (false, [.int .i64 0])]) (m ++ [⟨.grow, 22, 0, 3, dl (hw * hh) (halfG hw pw G)⟩]) := by
  refine Ctr.enter Try.func32 rfl (by decide) (rs := [.cell 2 33, .tmp 3]) (nt := 35) rfl rfl fun hwf Q hQ => ?_
  have hlt : ∀ k, ¬ m.length + k < m.length := fun k => by omega
  obtain ⟨kp, ez, hb⟩ := hp.hb
  have hr := get_lt hb
  have q1 := c.a2
  have q2 := c.a4
  have q3 := c.hpw
  have q4 := c.hph
  have p1 := c.hp
  have p2 := c.hs
  have e1 : (pw : Int).tmod 2 = 0 := by rw [show (2 : Int) = ((2 : Nat) : Int) from rfl, tmodN]; omega
  have e2 : (ph : Int).tmod 2 = 0 := by rw [show (2 : Int) = ((2 : Nat) : Int) from rfl, tmodN]; omega
  have e3 : IntKind.i64.wrap ((pw : Int).tdiv 2) = (hw : Int) := by rw [show (2 : Int) = ((2 : Nat) : Int) from rfl, tdivN, i64n (by omega)]; omega
  have e4 : IntKind.i64.wrap ((ph : Int).tdiv 2) = (hh : Int) := by rw [show (2 : Int) = ((2 : Nat) : Int) from rfl, tdivN, i64n (by omega)]; omega
  
  refine AW.seq_k fun K hK => ?_
  refine AW.region (by decide) ?_
  simp only [push_cast, Nat.reduceAdd, Nat.reduceMul, Nat.reduceSub, Nat.reduceLeDiff, Nat.reduceLT, Nat.reduceEqDiff, Nat.reduceBEq, Nat.reduceBNe, Nat.reduceMod, Nat.reduceDiv, Int.reduceLE, Int.reduceLT, Int.reduceToNat, Int.reduceAdd, Int.reduceSub, Int.reduceMul, Int.reduceNeg, Int.reduceEq, Int.reduceBEq, Int.reduceBNe, ↓reduceIte, reduceCtorEq, String.reduceBNe, String.reduceEq, reduceDIte, Nat.reducePow, lk_old hb, p1, p2, e1, e2, e3, e4]
  refine Thn_n ?_
  refine hK _ _ ?_
  clear hK K
  refine AW.seq_k fun K hK => ?_
  refine AW.seq_k fun K hK => ?_
  refine AW.region (by decide) ?_
  simp only [push_cast, Nat.reduceAdd, Nat.reduceMul, Nat.reduceSub, Nat.reduceLeDiff, Nat.reduceLT, Nat.reduceEqDiff, Nat.reduceBEq, Nat.reduceBNe, Nat.reduceMod, Nat.reduceDiv, Int.reduceLE, Int.reduceLT, Int.reduceToNat, Int.reduceAdd, Int.reduceSub, Int.reduceMul, Int.reduceNeg, Int.reduceEq, Int.reduceBEq, Int.reduceBNe, ↓reduceIte, reduceCtorEq, String.reduceBNe, String.reduceEq, reduceDIte, Nat.reducePow, lk_old hb, p1, p2, e1, e2, e3, e4]
  refine CThen.by (picRight_c _ _ _ _ _ _) ?_
  simp only [push_cast, Nat.reduceAdd, Nat.reduceMul, Nat.reduceSub, Nat.reduceLeDiff, Nat.reduceLT, Nat.reduceEqDiff, Nat.reduceBEq, Nat.reduceBNe, Nat.reduceMod, Nat.reduceDiv, Int.reduceLE, Int.reduceLT, Int.reduceToNat, Int.reduceAdd, Int.reduceSub, Int.reduceMul, Int.reduceNeg, Int.reduceEq, Int.reduceBEq, Int.reduceBNe, ↓reduceIte, reduceCtorEq, String.reduceBNe, String.reduceEq, reduceDIte, Nat.reducePow, lk_old hb, p1, p2, e1, e2, e3, e4]
  refine Thn_n ?_
  refine hK _ _ ?_
  clear hK K
  refine AW.cond_f rfl ?_
  refine AW.skip ?_
  refine Thn_n ?_
  refine hK _ _ ?_
  clear hK K
  refine AW.seq_k fun K hK => ?_
  refine AW.region (by decide) ?_
  simp only [push_cast, Nat.reduceAdd, Nat.reduceMul, Nat.reduceSub, Nat.reduceLeDiff, Nat.reduceLT, Nat.reduceEqDiff, Nat.reduceBEq, Nat.reduceBNe, Nat.reduceMod, Nat.reduceDiv, Int.reduceLE, Int.reduceLT, Int.reduceToNat, Int.reduceAdd, Int.reduceSub, Int.reduceMul, Int.reduceNeg, Int.reduceEq, Int.reduceBEq, Int.reduceBNe, ↓reduceIte, reduceCtorEq, String.reduceBNe, String.reduceEq, reduceDIte, Nat.reducePow, lk_old hb, p1, p2, e1, e2, e3, e4]
  refine CThen.by (make_c _ _ _ _ (hw * hh) (halfG hw pw G) _ p2 (by simp) (by simp [CV.below]) (fun i ex hi => by simp only [capsAV, List.map_cons, List.map_nil, List.cons_append, List.nil_append, List.append_assoc]; exact halfd_c hw hh pw ph r v n _ i G _ (by simp only [push_cast, Nat.reduceAdd, Nat.reduceMul, Nat.reduceSub, Nat.reduceLeDiff, Nat.reduceLT, Nat.reduceEqDiff, Nat.reduceBEq, Nat.reduceBNe, Nat.reduceMod, Nat.reduceDiv, Int.reduceLE, Int.reduceLT, Int.reduceToNat, Int.reduceAdd, Int.reduceSub, Int.reduceMul, Int.reduceNeg, Int.reduceEq, Int.reduceBEq, Int.reduceBNe, ↓reduceIte, reduceCtorEq, String.reduceBNe, String.reduceEq, reduceDIte, Nat.reducePow]) (hp.mono _) hu c hi)) ?_
  simp only [push_cast, Nat.reduceAdd, Nat.reduceMul, Nat.reduceSub, Nat.reduceLeDiff, Nat.reduceLT, Nat.reduceEqDiff, Nat.reduceBEq, Nat.reduceBNe, Nat.reduceMod, Nat.reduceDiv, Int.reduceLE, Int.reduceLT, Int.reduceToNat, Int.reduceAdd, Int.reduceSub, Int.reduceMul, Int.reduceNeg, Int.reduceEq, Int.reduceBEq, Int.reduceBNe, ↓reduceIte, reduceCtorEq, String.reduceBNe, String.reduceEq, reduceDIte, Nat.reducePow, lk_old hb, p1, p2, e1, e2, e3, e4]
  refine Thn_n ?_
  refine hK _ _ ?_
  clear hK K
  refine AW.ret ?_
  refine hQ _ _ _ ?_
  refine RetP.pick [(m.length + 2, 0)] (Or.inr rfl) ?_ ?_ ?_ hwf ?_
  · simp only [resA, resOne, resTv, AV.tv, push_cast, Nat.reduceAdd, Nat.reduceMul, Nat.reduceSub, Nat.reduceLeDiff, Nat.reduceLT, Nat.reduceEqDiff, Nat.reduceBEq, Nat.reduceBNe, Nat.reduceMod, Nat.reduceDiv, Int.reduceLE, Int.reduceLT, Int.reduceToNat, Int.reduceAdd, Int.reduceSub, Int.reduceMul, Int.reduceNeg, Int.reduceEq, Int.reduceBEq, Int.reduceBNe, ↓reduceIte, reduceCtorEq, String.reduceBNe, String.reduceEq, reduceDIte, Nat.reducePow]
    simp [renV, renT, renL, renC, renIdx, hlt]
  · simp only [picks, push_cast, Nat.reduceAdd, Nat.reduceMul, Nat.reduceSub, Nat.reduceLeDiff, Nat.reduceLT, Nat.reduceEqDiff, Nat.reduceBEq, Nat.reduceBNe, Nat.reduceMod, Nat.reduceDiv, Int.reduceLE, Int.reduceLT, Int.reduceToNat, Int.reduceAdd, Int.reduceSub, Int.reduceMul, Int.reduceNeg, Int.reduceEq, Int.reduceBEq, Int.reduceBNe, ↓reduceIte, reduceCtorEq, String.reduceBNe, String.reduceEq, reduceDIte, Nat.reducePow]
  · simp [distinctFrom]
  · exact MWf_one (dl_below _ _ _)
  
theorem ne_b {x y : Int} (h : ¬ x = y) : (x == y) = false ∧ (x != y) = true := by simp [h]
theorem eq_b {x y : Int} (h : x = y) : (x == y) = true ∧ (x != y) = false := by simp [h]
theorem odd_b {W : Int} (h : ¬ W.tmod 2 = 0) (h1 : 1 ≤ W) : W.tmod 2 = 1 := by
  have h2 := Int.tmod_nonneg 2 (show 0 ≤ W by omega)
  have h3 := Int.tmod_lt_of_pos W (show (0 : Int) < 2 by omega)
  omega
theorem half_no (W H : Int) (r v n : Nat) (m : AMem) (hbad : halfR W H n = false) : Ctr Try.prog 32 [.agg [.int .i64 W, .int .i64 H, .sl r v 0 n]] m (.tup [(true, [.int .i64 0, .int .i64 0, .nils]), (false, [.int .i64 1])]) m := by
  refine Ctr.enter Try.func32 rfl (by decide) (rs := [.cell 2 33, .tmp 3]) (nt := 35) rfl rfl fun hwf Q hQ => ?_
  rcases chain3 (picR W H n = true) (W.tmod 2 = 0) (H.tmod 2 = 0) with ⟨p1, p2, p3⟩ | ⟨p1, p2, p3⟩ | ⟨p1, p2, p3⟩ | ⟨p1, p2, p3⟩
  · exfalso
    rw [halfR, p1, decide_eq_true p2, decide_eq_true p3] at hbad; cases hbad
  all_goals (
  try simp only [Bool.not_eq_true, Bool.not_eq_false, Classical.not_not] at p1 p2 p3
  have nb2 : (W.tmod 2 != 0) = decide (¬ W.tmod 2 = 0) := by by_cases h : W.tmod 2 = 0 <;> simp [h]
  have nb3 : (H.tmod 2 != 0) = decide (¬ H.tmod 2 = 0) := by by_cases h : H.tmod 2 = 0 <;> simp [h]
  refine AW.seq_k fun K hK => ?_
  refine AW.region (by decide) ?_
  simp only [push_cast, Nat.reduceAdd, Nat.reduceMul, Nat.reduceSub, Nat.reduceLeDiff, Nat.reduceLT, Nat.reduceEqDiff, Nat.reduceBEq, Nat.reduceBNe, Nat.reduceMod, Nat.reduceDiv, Int.reduceLE, Int.reduceLT, Int.reduceToNat, Int.reduceAdd, Int.reduceSub, Int.reduceMul, Int.reduceNeg, Int.reduceEq, Int.reduceBEq, Int.reduceBNe, ↓reduceIte, reduceCtorEq, String.reduceBNe, String.reduceEq, reduceDIte, Nat.reducePow, p1, p2, p3, nb2, nb3]
  refine Thn_n ?_
  refine hK _ _ ?_
  clear hK K
  refine AW.seq_k fun K hK => ?_
  refine AW.seq_k fun K hK => ?_
  refine AW.region (by decide) ?_
  simp only [push_cast, Nat.reduceAdd, Nat.reduceMul, Nat.reduceSub, Nat.reduceLeDiff, Nat.reduceLT, Nat.reduceEqDiff, Nat.reduceBEq, Nat.reduceBNe, Nat.reduceMod, Nat.reduceDiv, Int.reduceLE, Int.reduceLT, Int.reduceToNat, Int.reduceAdd, Int.reduceSub, Int.reduceMul, Int.reduceNeg, Int.reduceEq, Int.reduceBEq, Int.reduceBNe, ↓reduceIte, reduceCtorEq, String.reduceBNe, String.reduceEq, reduceDIte, Nat.reducePow, p1, p2, p3, nb2, nb3]
  try (refine CThen.by (picRight_c _ _ _ _ _ _) ?_; simp only [push_cast, Nat.reduceAdd, Nat.reduceMul, Nat.reduceSub, Nat.reduceLeDiff, Nat.reduceLT, Nat.reduceEqDiff, Nat.reduceBEq, Nat.reduceBNe, Nat.reduceMod, Nat.reduceDiv, Int.reduceLE, Int.reduceLT, Int.reduceToNat, Int.reduceAdd, Int.reduceSub, Int.reduceMul, Int.reduceNeg, Int.reduceEq, Int.reduceBEq, Int.reduceBNe, ↓reduceIte, reduceCtorEq, String.reduceBNe, String.reduceEq, reduceDIte, Nat.reducePow, p1, p2, p3, nb2, nb3])
  refine Thn_n ?_
  refine hK _ _ ?_
  clear hK K
  refine AW.cond_t rfl ?_
  refine AW.seq_k fun K hK => ?_
  refine AW.region (by decide) ?_
  simp only [push_cast, Nat.reduceAdd, Nat.reduceMul, Nat.reduceSub, Nat.reduceLeDiff, Nat.reduceLT, Nat.reduceEqDiff, Nat.reduceBEq, Nat.reduceBNe, Nat.reduceMod, Nat.reduceDiv, Int.reduceLE, Int.reduceLT, Int.reduceToNat, Int.reduceAdd, Int.reduceSub, Int.reduceMul, Int.reduceNeg, Int.reduceEq, Int.reduceBEq, Int.reduceBNe, ↓reduceIte, reduceCtorEq, String.reduceBNe, String.reduceEq, reduceDIte, Nat.reducePow, p1, p2, p3, nb2, nb3]
  refine Thn_n ?_
  refine hK _ _ ?_
  clear hK K
  refine AW.ret ?_
  refine Thn_r ?_
  refine hQ _ _ _ ?_
  first | refine RetP.drop0 (Or.inr rfl) ?_ ?_ hwf | refine RetP.drop (Or.inr rfl) ?_ ?_ hwf
  · simp only [resA, resOne, resTv, AV.tv, push_cast, Nat.reduceAdd, Nat.reduceMul, Nat.reduceSub, Nat.reduceLeDiff, Nat.reduceLT, Nat.reduceEqDiff, Nat.reduceBEq, Nat.reduceBNe, Nat.reduceMod, Nat.reduceDiv, Int.reduceLE, Int.reduceLT, Int.reduceToNat, Int.reduceAdd, Int.reduceSub, Int.reduceMul, Int.reduceNeg, Int.reduceEq, Int.reduceBEq, Int.reduceBNe, ↓reduceIte, reduceCtorEq, String.reduceBNe, String.reduceEq, reduceDIte, Nat.reducePow, p1, p2, p3, nb2, nb3]
  · rfl
  )
theorem rhalf_no (W H : Int) (r v n : Nat) (m : AMem) (hbad : halfR W H n = false) : Ctr Try.prog 35 [.agg [.int .i64 W, .int .i64 H, .sl r v 0 n]] m (.tup [(true, [.int .i64 0, .int .i64 0, .nils]), (false, [.int .i64 1])]) m := by
  refine Ctr.enter Try.func35 rfl (by decide) (rs := [.cell 2 29, .tmp 3]) (nt := 85) rfl rfl fun hwf Q hQ => ?_
  rcases chain3 (picR W H n = true) (W.tmod 2 = 0) (H.tmod 2 = 0) with ⟨p1, p2, p3⟩ | ⟨p1, p2, p3⟩ | ⟨p1, p2, p3⟩ | ⟨p1, p2, p3⟩
  · exfalso
    rw [halfR, p1, decide_eq_true p2, decide_eq_true p3] at hbad; cases hbad
  all_goals (
  try simp only [Bool.not_eq_true, Bool.not_eq_false, Classical.not_not] at p1 p2 p3
  have nb2 : picR W H n = true → (W.tmod 2 == 1) = decide (¬ W.tmod 2 = 0) := fun p1 => by
    obtain ⟨pw, ph, rfl, rfl, a1, a2, a3, a4, hn, _⟩ := picR_nat p1
    by_cases h : (pw : Int).tmod 2 = 0
    · simp [h]
    · simp [odd_b h (by omega)]
  have nb3 : picR W H n = true → (H.tmod 2 == 1) = decide (¬ H.tmod 2 = 0) := fun p1 => by
    obtain ⟨pw, ph, rfl, rfl, a1, a2, a3, a4, hn, _⟩ := picR_nat p1
    by_cases h : (ph : Int).tmod 2 = 0
    · simp [h]
    · simp [odd_b h (by omega)]
  try replace nb2 := nb2 p1
  try replace nb3 := nb3 p1
  refine AW.seq_k fun K hK => ?_
  refine AW.region (by decide) ?_
  simp only [push_cast, Nat.reduceAdd, Nat.reduceMul, Nat.reduceSub, Nat.reduceLeDiff, Nat.reduceLT, Nat.reduceEqDiff, Nat.reduceBEq, Nat.reduceBNe, Nat.reduceMod, Nat.reduceDiv, Int.reduceLE, Int.reduceLT, Int.reduceToNat, Int.reduceAdd, Int.reduceSub, Int.reduceMul, Int.reduceNeg, Int.reduceEq, Int.reduceBEq, Int.reduceBNe, ↓reduceIte, reduceCtorEq, String.reduceBNe, String.reduceEq, reduceDIte, Nat.reducePow, p1, p2, p3, nb2, nb3]
  refine Thn_n ?_
  refine hK _ _ ?_
  clear hK K
  refine AW.seq_k fun K hK => ?_
  refine AW.seq_k fun K hK => ?_
  refine AW.region (by decide) ?_
  simp only [push_cast, Nat.reduceAdd, Nat.reduceMul, Nat.reduceSub, Nat.reduceLeDiff, Nat.reduceLT, Nat.reduceEqDiff, Nat.reduceBEq, Nat.reduceBNe, Nat.reduceMod, Nat.reduceDiv, Int.reduceLE, Int.reduceLT, Int.reduceToNat, Int.reduceAdd, Int.reduceSub, Int.reduceMul, Int.reduceNeg, Int.reduceEq, Int.reduceBEq, Int.reduceBNe, ↓reduceIte, reduceCtorEq, String.reduceBNe, String.reduceEq, reduceDIte, Nat.reducePow, p1, p2, p3, nb2, nb3]
  try (refine CThen.by (refRight_c _ _ _ _ _ _) ?_; simp only [push_cast, Nat.reduceAdd, Nat.reduceMul, Nat.reduceSub, Nat.reduceLeDiff, Nat.reduceLT, Nat.reduceEqDiff, Nat.reduceBEq, Nat.reduceBNe, Nat.reduceMod, Nat.reduceDiv, Int.reduceLE, Int.reduceLT, Int.reduceToNat, Int.reduceAdd, Int.reduceSub, Int.reduceMul, Int.reduceNeg, Int.reduceEq, Int.reduceBEq, Int.reduceBNe, ↓reduceIte, reduceCtorEq, String.reduceBNe, String.reduceEq, reduceDIte, Nat.reducePow, p1, p2, p3, nb2, nb3])
  refine Thn_n ?_
  refine hK _ _ ?_
  clear hK K
  refine AW.cond_t rfl ?_
  refine AW.seq_k fun K hK => ?_
  refine AW.region (by decide) ?_
  simp only [push_cast, Nat.reduceAdd, Nat.reduceMul, Nat.reduceSub, Nat.reduceLeDiff, Nat.reduceLT, Nat.reduceEqDiff, Nat.reduceBEq, Nat.reduceBNe, Nat.reduceMod, Nat.reduceDiv, Int.reduceLE, Int.reduceLT, Int.reduceToNat, Int.reduceAdd, Int.reduceSub, Int.reduceMul, Int.reduceNeg, Int.reduceEq, Int.reduceBEq, Int.reduceBNe, ↓reduceIte, reduceCtorEq, String.reduceBNe, String.reduceEq, reduceDIte, Nat.reducePow, p1, p2, p3, nb2, nb3]
  refine Thn_n ?_
  refine hK _ _ ?_
  clear hK K
  refine AW.ret ?_
  refine Thn_r ?_
  refine hQ _ _ _ ?_
  first | refine RetP.drop0 (Or.inr rfl) ?_ ?_ hwf | refine RetP.drop (Or.inr rfl) ?_ ?_ hwf
  · simp only [resA, resOne, resTv, AV.tv, push_cast, Nat.reduceAdd, Nat.reduceMul, Nat.reduceSub, Nat.reduceLeDiff, Nat.reduceLT, Nat.reduceEqDiff, Nat.reduceBEq, Nat.reduceBNe, Nat.reduceMod, Nat.reduceDiv, Int.reduceLE, Int.reduceLT, Int.reduceToNat, Int.reduceAdd, Int.reduceSub, Int.reduceMul, Int.reduceNeg, Int.reduceEq, Int.reduceBEq, Int.reduceBNe, ↓reduceIte, reduceCtorEq, String.reduceBNe, String.reduceEq, reduceDIte, Nat.reducePow, p1, p2, p3, nb2, nb3]
  · rfl
  )
theorem rhalf_ok (hw hh pw ph r v n : Nat) (G : Nat → Nat → Int) (m : AMem) (hp : PicAt m r v n G) (hu : ∀ i k, 0 ≤ G i k ∧ G i k ≤ 255) (c : HalfOk hw hh pw ph n) : Ctr Try.prog 35 [.agg [.int .i64 (pw : Int), .int .i64 (ph : Int), .sl r v 0 n]] m (.tup [(true, [.int .i64 ((hw : Int)), .int .i64 ((hh : Int)), .sl m.length 0 0 (hw * hh)]), (false, [.int .i64 0])]) (m ++ [⟨.grow, 22, 0, 3, dl (hw * hh) (halfG hw pw G)⟩]) := by
  refine Ctr.enter Try.func35 rfl (by decide) (rs := [.cell 2 29, .tmp 3]) (nt := 85) rfl rfl fun hwf Q hQ => ?_
  have hlt : ∀ k, ¬ m.length + k < m.length := fun k => by omega
  obtain ⟨kp, ez, hb⟩ := hp.hb
  have hr := get_lt hb
  have q1 := c.a2
  have q2 := c.a4
  have q3 := c.hpw
  have q4 := c.hph
  have p1 := c.hp
  have p2 := c.hs
  have e1 : (pw : Int).tmod 2 = 0 := by rw [show (2 : Int) = ((2 : Nat) : Int) from rfl, tmodN]; omega
  have e2 : (ph : Int).tmod 2 = 0 := by rw [show (2 : Int) = ((2 : Nat) : Int) from rfl, tmodN]; omega
  have e3 : IntKind.i64.wrap ((pw : Int).tdiv 2) = (hw : Int) := by rw [show (2 : Int) = ((2 : Nat) : Int) from rfl, tdivN, i64n (by omega)]; omega
  have e4 : IntKind.i64.wrap ((ph : Int).tdiv 2) = (hh : Int) := by rw [show (2 : Int) = ((2 : Nat) : Int) from rfl, tdivN, i64n (by omega)]; omega
  have hwh := wh_le (show hw ≤ 64 by omega) (show hh ≤ 64 by omega)
  have hw0 : ¬ (hw : Int) = 0 := by have := c.a1; omega
  refine AW.seq_k fun K hK => ?_
  refine AW.region (by decide) ?_
  simp only [push_cast, Nat.reduceAdd, Nat.reduceMul, Nat.reduceSub, Nat.reduceLeDiff, Nat.reduceLT, Nat.reduceEqDiff, Nat.reduceBEq, Nat.reduceBNe, Nat.reduceMod, Nat.reduceDiv, Int.reduceLE, Int.reduceLT, Int.reduceToNat, Int.reduceAdd, Int.reduceSub, Int.reduceMul, Int.reduceNeg, Int.reduceEq, Int.reduceBEq, Int.reduceBNe, ↓reduceIte, reduceCtorEq, String.reduceBNe, String.reduceEq, reduceDIte, Nat.reducePow, lk_old hb, p1, p2, e1, e2, e3, e4, hw0]
  refine Thn_n ?_
  refine hK _ _ ?_
  clear hK K
  refine AW.seq_k fun K hK => ?_
  refine AW.seq_k fun K hK => ?_
  refine AW.region (by decide) ?_
  simp only [push_cast, Nat.reduceAdd, Nat.reduceMul, Nat.reduceSub, Nat.reduceLeDiff, Nat.reduceLT, Nat.reduceEqDiff, Nat.reduceBEq, Nat.reduceBNe, Nat.reduceMod, Nat.reduceDiv, Int.reduceLE, Int.reduceLT, Int.reduceToNat, Int.reduceAdd, Int.reduceSub, Int.reduceMul, Int.reduceNeg, Int.reduceEq, Int.reduceBEq, Int.reduceBNe, ↓reduceIte, reduceCtorEq, String.reduceBNe, String.reduceEq, reduceDIte, Nat.reducePow, lk_old hb, p1, p2, e1, e2, e3, e4, hw0]
  refine CThen.by (refRight_c _ _ _ _ _ _) ?_
  simp only [push_cast, Nat.reduceAdd, Nat.reduceMul, Nat.reduceSub, Nat.reduceLeDiff, Nat.reduceLT, Nat.reduceEqDiff, Nat.reduceBEq, Nat.reduceBNe, Nat.reduceMod, Nat.reduceDiv, Int.reduceLE, Int.reduceLT, Int.reduceToNat, Int.reduceAdd, Int.reduceSub, Int.reduceMul, Int.reduceNeg, Int.reduceEq, Int.reduceBEq, Int.reduceBNe, ↓reduceIte, reduceCtorEq, String.reduceBNe, String.reduceEq, reduceDIte, Nat.reducePow, lk_old hb, p1, p2, e1, e2, e3, e4, hw0]
  refine Thn_n ?_
  refine hK _ _ ?_
  clear hK K
  refine AW.cond_f rfl ?_
  refine AW.skip ?_
  refine Thn_n ?_
  refine hK _ _ ?_
  clear hK K
  refine AW.seq_k fun K hK => ?_
  refine AW.region (by decide) ?_
  simp only [push_cast, Nat.reduceAdd, Nat.reduceMul, Nat.reduceSub, Nat.reduceLeDiff, Nat.reduceLT, Nat.reduceEqDiff, Nat.reduceBEq, Nat.reduceBNe, Nat.reduceMod, Nat.reduceDiv, Int.reduceLE, Int.reduceLT, Int.reduceToNat, Int.reduceAdd, Int.reduceSub, Int.reduceMul, Int.reduceNeg, Int.reduceEq, Int.reduceBEq, Int.reduceBNe, ↓reduceIte, reduceCtorEq, String.reduceBNe, String.reduceEq, reduceDIte, Nat.reducePow, lk_old hb, p1, p2, e1, e2, e3, e4, hw0]
  refine CThen.by (rplain_ok _ _ _ _ _ (hw * hh) _ p2 (by simp)) ?_
  simp only [push_cast, Nat.reduceAdd, Nat.reduceMul, Nat.reduceSub, Nat.reduceLeDiff, Nat.reduceLT, Nat.reduceEqDiff, Nat.reduceBEq, Nat.reduceBNe, Nat.reduceMod, Nat.reduceDiv, Int.reduceLE, Int.reduceLT, Int.reduceToNat, Int.reduceAdd, Int.reduceSub, Int.reduceMul, Int.reduceNeg, Int.reduceEq, Int.reduceBEq, Int.reduceBNe, ↓reduceIte, reduceCtorEq, String.reduceBNe, String.reduceEq, reduceDIte, Nat.reducePow, lk_old hb, p1, p2, e1, e2, e3, e4, hw0]
  refine Thn_n ?_
  refine hK _ _ ?_
  clear hK K
  refine AW.seq_k fun K hK => ?_
  refine AW.seq_k fun K hK => ?_
  refine AW.region (by decide) ?_
  simp only [push_cast, Nat.reduceAdd, Nat.reduceMul, Nat.reduceSub, Nat.reduceLeDiff, Nat.reduceLT, Nat.reduceEqDiff, Nat.reduceBEq, Nat.reduceBNe, Nat.reduceMod, Nat.reduceDiv, Int.reduceLE, Int.reduceLT, Int.reduceToNat, Int.reduceAdd, Int.reduceSub, Int.reduceMul, Int.reduceNeg, Int.reduceEq, Int.reduceBEq, Int.reduceBNe, ↓reduceIte, reduceCtorEq, String.reduceBNe, String.reduceEq, reduceDIte, Nat.reducePow, lk_old hb, p1, p2, e1, e2, e3, e4, hw0]
  refine Thn_n ?_
  refine hK _ _ ?_
  clear hK K
  refine AW.block ?_
  refine AW.loopK [1, 2, 4] (fun i => i ≤ hw * hh) (fun i => [(5, .one (.int .i64 (i : Int)))]) (fun i => [(m.length + 2, ⟨.grow, 22, 0, 3, dl (hw * hh) (fillT (halfG hw pw G) (cD 0 0 0) i)⟩)]) (fun i => hw * hh - i) 0 (by omega) ?_ ?_ fun i hi7 => ?_
  · first | rfl | (simp only [Keeps, Tm.get_cons, Nat.reduceEqDiff, ↓reduceIte, if_true, if_false, ite_true, ite_false, true_and, and_true, and_self, reduceCtorEq, fill_none] <;> rfl)
  · first | rfl | (simp only [setAll, push_cast, Nat.reduceAdd, Nat.reduceMul, Nat.reduceSub, Nat.reduceLeDiff, Nat.reduceLT, Nat.reduceEqDiff, Nat.reduceBEq, Nat.reduceBNe, Nat.reduceMod, Nat.reduceDiv, Int.reduceLE, Int.reduceLT, Int.reduceToNat, Int.reduceAdd, Int.reduceSub, Int.reduceMul, Int.reduceNeg, Int.reduceEq, Int.reduceBEq, Int.reduceBNe, ↓reduceIte, reduceCtorEq, String.reduceBNe, String.reduceEq, reduceDIte, Nat.reducePow, lk_old hb, p1, p2, e1, e2, e3, e4, hw0, fill_none] <;> rfl)
  try simp only [keepL, setAll, push_cast, Nat.reduceAdd, Nat.reduceMul, Nat.reduceSub, Nat.reduceLeDiff, Nat.reduceLT, Nat.reduceEqDiff, Nat.reduceBEq, Nat.reduceBNe, Nat.reduceMod, Nat.reduceDiv, Int.reduceLE, Int.reduceLT, Int.reduceToNat, Int.reduceAdd, Int.reduceSub, Int.reduceMul, Int.reduceNeg, Int.reduceEq, Int.reduceBEq, Int.reduceBNe, ↓reduceIte, reduceCtorEq, String.reduceBNe, String.reduceEq, reduceDIte, Nat.reducePow, lk_old hb, p1, p2, e1, e2, e3, e4, hw0]
  refine AW.seq_k fun K hK => ?_
  refine AW.seq_k fun K hK => ?_
  refine AW.region (by decide) ?_
  simp only [push_cast, Nat.reduceAdd, Nat.reduceMul, Nat.reduceSub, Nat.reduceLeDiff, Nat.reduceLT, Nat.reduceEqDiff, Nat.reduceBEq, Nat.reduceBNe, Nat.reduceMod, Nat.reduceDiv, Int.reduceLE, Int.reduceLT, Int.reduceToNat, Int.reduceAdd, Int.reduceSub, Int.reduceMul, Int.reduceNeg, Int.reduceEq, Int.reduceBEq, Int.reduceBNe, ↓reduceIte, reduceCtorEq, String.reduceBNe, String.reduceEq, reduceDIte, Nat.reducePow, lk_old hb, p1, p2, e1, e2, e3, e4, hw0]
  refine Thn_n ?_
  refine hK _ _ ?_
  clear hK K
  refine AW.cond rfl (fun h39 => ?_) (fun h39 => ?_)
  · have hlt2 : i < hw * hh := by have := of_decide_eq_true h39; rw [← Int.natCast_mul] at this; omega
    obtain ⟨hv, hx⟩ := row_lt hlt2 c.a1
    have t1 : (i : Int).tmod (hw : Int) = ((i % hw : Nat) : Int) := rfl
    have t2 : IntKind.i64.wrap ((i : Int).tdiv (hw : Int)) = ((i / hw : Nat) : Int) := by rw [tdivN, i64n (by omega)]
    have hcg : ∀ k, halfG hw pw G i k = m4 (G ((2 * (i / hw)) * pw + 2 * (i % hw)) k) (G ((2 * (i / hw)) * pw + (2 * (i % hw) + 1)) k) (G ((2 * (i / hw) + 1) * pw + 2 * (i % hw)) k) (G ((2 * (i / hw) + 1) * pw + (2 * (i % hw) + 1)) k) := fun k => rfl
    generalize i % hw = x at *
    generalize i / hw = y at *
    obtain ⟨A, hA⟩ : ∃ A, A = 2 * x := ⟨_, rfl⟩
    obtain ⟨B, hB⟩ : ∃ B, B = 2 * y := ⟨_, rfl⟩
    simp only [← hA, ← hB] at hcg
    have w1 : IntKind.i64.wrap (2 * (x : Int)) = (A : Int) := by rw [i64i (by omega)]; omega
    have w2 : IntKind.i64.wrap (2 * (y : Int)) = (B : Int) := by rw [i64i (by omega)]; omega
    have w3 : IntKind.i64.wrap ((A : Int) + 1) = (A : Int) + 1 := i64i (by omega)
    have w4 : IntKind.i64.wrap ((B : Int) + 1) = (B : Int) + 1 := i64i (by omega)
    have w5 : IntKind.i64.wrap ((A : Int) + 0) = (A : Int) := by rw [i64i (by omega)]; omega
    have w6 : IntKind.i64.wrap ((B : Int) + 0) = (B : Int) := by rw [i64i (by omega)]; omega
    have d0 : (0 : Int).tmod 2 = 0 ∧ (1 : Int).tmod 2 = 1 ∧ (2 : Int).tmod 2 = 0 ∧ (3 : Int).tmod 2 = 1 := ⟨rfl, rfl, rfl, rfl⟩
    have d1 : (0 : Int).tdiv 2 = 0 ∧ (1 : Int).tdiv 2 = 0 ∧ (2 : Int).tdiv 2 = 1 ∧ (3 : Int).tdiv 2 = 1 := ⟨rfl, rfl, rfl, rfl⟩
    have b1 : B * pw + A < n := c.at (by omega) (by omega)
    have b2 : B * pw + (A + 1) < n := c.at (by omega) (by omega)
    have b3 : (B + 1) * pw + A < n := c.at (by omega) (by omega)
    have b4 : (B + 1) * pw + (A + 1) < n := c.at (by omega) (by omega)
    generalize hj1 : B * pw + A = j1 at *
    generalize hj2 : B * pw + (A + 1) = j2 at *
    generalize hj3 : (B + 1) * pw + A = j3 at *
    generalize hj4 : (B + 1) * pw + (A + 1) = j4 at *
    have hi1 : (0 : Int) ≤ (i : Int) := by omega
    have hi2 : (i : Int) < (hw : Int) * (hh : Int) := by rw [← Int.natCast_mul]; omega
    have hlen := fun (g : Nat → Nat → Int) => dl_len (hw * hh) g
    have hle0 : i * 3 + 1 ≤ hw * hh * 3 := by omega
    have hle1 : i * 3 + 2 ≤ hw * hh * 3 := by omega
    have hle2 : i * 3 + 3 ≤ hw * hh * 3 := by omega
    have u : ∀ j k, IntKind.i64.wrap (G j k) = G j k := fun j k => i64i (by have := hu j k; omega)
    have s1 : ∀ k, IntKind.i64.wrap (0 + G j1 k) = G j1 k := fun k => by have := hu j1 k; rw [i64i (by omega)]; omega
    have s2 : ∀ k, IntKind.i64.wrap (G j1 k + G j2 k) = G j1 k + G j2 k := fun k => by have := hu j1 k; have := hu j2 k; exact i64i (by omega)
    have s3 : ∀ k, IntKind.i64.wrap (G j1 k + G j2 k + G j3 k) = G j1 k + G j2 k + G j3 k := fun k => by have := hu j1 k; have := hu j2 k; have := hu j3 k; exact i64i (by omega)
    have s4 : ∀ k, IntKind.i64.wrap (G j1 k + G j2 k + G j3 k + G j4 k) = G j1 k + G j2 k + G j3 k + G j4 k := fun k => by have := hu j1 k; have := hu j2 k; have := hu j3 k; have := hu j4 k; exact i64i (by omega)
    have hq : ∀ k, (G j1 k + G j2 k + G j3 k + G j4 k).tdiv 4 = m4 (G j1 k) (G j2 k) (G j3 k) (G j4 k) := fun k => Int.tdiv_eq_ediv_of_nonneg (by have := hu j1 k; have := hu j2 k; have := hu j3 k; have := hu j4 k; omega)
    have hm : ∀ k, 0 ≤ m4 (G j1 k) (G j2 k) (G j3 k) (G j4 k) ∧ m4 (G j1 k) (G j2 k) (G j3 k) (G j4 k) ≤ 255 := fun k => by have := hu j1 k; have := hu j2 k; have := hu j3 k; have := hu j4 k; unfold m4; omega
    have s5 : ∀ k, IntKind.i64.wrap (m4 (G j1 k) (G j2 k) (G j3 k) (G j4 k)) = m4 (G j1 k) (G j2 k) (G j3 k) (G j4 k) := fun k => i64i (by have := hm k; omega)
    have s6 : ∀ k, IntKind.u8.wrap (m4 (G j1 k) (G j2 k) (G j3 k) (G j4 k)) = m4 (G j1 k) (G j2 k) (G j3 k) (G j4 k) := fun k => by have := hm k; rw [IntKind.wrap_u8]; omega
    have hst := fill_set3 (D := cD 0 0 0) hlt2 (hcg 0) (hcg 1) (hcg 2)
    refine AW.skip ?_
    refine Thn_n ?_
    refine hK _ _ ?_
    clear hK K
    refine AW.seq_k fun K hK => ?_
    refine AW.block ?_
    refine AW.seq_k fun K hK => ?_
    refine AW.draw [.val, .val, .rd 0, .val, .val, .val, .val, .rd 0, .val, .val, .val, .val] fol (by decide) (by kernel_rfl) ?_
    simp only [push_cast, Nat.reduceAdd, Nat.reduceMul, Nat.reduceSub, Nat.reduceLeDiff, Nat.reduceLT, Nat.reduceEqDiff, Nat.reduceBEq, Nat.reduceBNe, Nat.reduceMod, Nat.reduceDiv, Int.reduceLE, Int.reduceLT, Int.reduceToNat, Int.reduceAdd, Int.reduceSub, Int.reduceMul, Int.reduceNeg, Int.reduceEq, Int.reduceBEq, Int.reduceBNe, ↓reduceIte, reduceCtorEq, String.reduceBNe, String.reduceEq, reduceDIte, Nat.reducePow, lk_old hb, p1, p2, e1, e2, e3, e4, hw0, t1, t2, w1, w2, w3, w4, w5, w6, d0.1, d0.2.1, d0.2.2.1, d0.2.2.2, d1.1, d1.2.1, d1.2.2.1, d1.2.2.2, hi1, hi2, hlen, hle0, hle1, hle2, u, s1, s2, s3, s4, hq, s5, s6]
    refine Thn_n ?_
    refine hK _ _ ?_
    clear hK K
    refine AW.seq_k fun K hK => ?_
    refine AW.region (by decide) ?_
    simp only [push_cast, Nat.reduceAdd, Nat.reduceMul, Nat.reduceSub, Nat.reduceLeDiff, Nat.reduceLT, Nat.reduceEqDiff, Nat.reduceBEq, Nat.reduceBNe, Nat.reduceMod, Nat.reduceDiv, Int.reduceLE, Int.reduceLT, Int.reduceToNat, Int.reduceAdd, Int.reduceSub, Int.reduceMul, Int.reduceNeg, Int.reduceEq, Int.reduceBEq, Int.reduceBNe, ↓reduceIte, reduceCtorEq, String.reduceBNe, String.reduceEq, reduceDIte, Nat.reducePow, lk_old hb, p1, p2, e1, e2, e3, e4, hw0, t1, t2, w1, w2, w3, w4, w5, w6, d0.1, d0.2.1, d0.2.2.1, d0.2.2.2, d1.1, d1.2.1, d1.2.2.1, d1.2.2.2, hi1, hi2, hlen, hle0, hle1, hle2, u, s1, s2, s3, s4, hq, s5, s6]
    refine Thn_n ?_
    refine hK _ _ ?_
    clear hK K
    refine AW.block ?_
    refine AW.rounds 4 ?_
    refine ARounds.succ fun K hK => ?_
    refine AW.seq_k fun K hK => ?_
    refine AW.seq_k fun K hK => ?_
    refine AW.region (by decide) ?_
    simp only [push_cast, Nat.reduceAdd, Nat.reduceMul, Nat.reduceSub, Nat.reduceLeDiff, Nat.reduceLT, Nat.reduceEqDiff, Nat.reduceBEq, Nat.reduceBNe, Nat.reduceMod, Nat.reduceDiv, Int.reduceLE, Int.reduceLT, Int.reduceToNat, Int.reduceAdd, Int.reduceSub, Int.reduceMul, Int.reduceNeg, Int.reduceEq, Int.reduceBEq, Int.reduceBNe, ↓reduceIte, reduceCtorEq, String.reduceBNe, String.reduceEq, reduceDIte, Nat.reducePow, lk_old hb, p1, p2, e1, e2, e3, e4, hw0, t1, t2, w1, w2, w3, w4, w5, w6, d0.1, d0.2.1, d0.2.2.1, d0.2.2.2, d1.1, d1.2.1, d1.2.2.1, d1.2.2.2, hi1, hi2, hlen, hle0, hle1, hle2, u, s1, s2, s3, s4, hq, s5, s6]
    refine Thn_n ?_
    refine hK _ _ ?_
    clear hK K
    refine AW.cond_t rfl ?_
    refine AW.skip ?_
    refine Thn_n ?_
    refine hK _ _ ?_
    clear hK K
    refine AW.seq_k fun K hK => ?_
    refine AW.block ?_
    refine AW.seq_k fun K hK => ?_
    refine AW.region (by decide) ?_
    simp only [push_cast, Nat.reduceAdd, Nat.reduceMul, Nat.reduceSub, Nat.reduceLeDiff, Nat.reduceLT, Nat.reduceEqDiff, Nat.reduceBEq, Nat.reduceBNe, Nat.reduceMod, Nat.reduceDiv, Int.reduceLE, Int.reduceLT, Int.reduceToNat, Int.reduceAdd, Int.reduceSub, Int.reduceMul, Int.reduceNeg, Int.reduceEq, Int.reduceBEq, Int.reduceBNe, ↓reduceIte, reduceCtorEq, String.reduceBNe, String.reduceEq, reduceDIte, Nat.reducePow, lk_old hb, p1, p2, e1, e2, e3, e4, hw0, t1, t2, w1, w2, w3, w4, w5, w6, d0.1, d0.2.1, d0.2.2.1, d0.2.2.2, d1.1, d1.2.1, d1.2.2.1, d1.2.2.2, hi1, hi2, hlen, hle0, hle1, hle2, u, s1, s2, s3, s4, hq, s5, s6]
    refine Thn_n ?_
    refine hK _ _ ?_
    clear hK K
    refine AW.seq_k fun K hK => ?_
    refine AW.seq_k fun K hK => ?_
    refine AW.region (by decide) ?_
    simp only [push_cast, Nat.reduceAdd, Nat.reduceMul, Nat.reduceSub, Nat.reduceLeDiff, Nat.reduceLT, Nat.reduceEqDiff, Nat.reduceBEq, Nat.reduceBNe, Nat.reduceMod, Nat.reduceDiv, Int.reduceLE, Int.reduceLT, Int.reduceToNat, Int.reduceAdd, Int.reduceSub, Int.reduceMul, Int.reduceNeg, Int.reduceEq, Int.reduceBEq, Int.reduceBNe, ↓reduceIte, reduceCtorEq, String.reduceBNe, String.reduceEq, reduceDIte, Nat.reducePow, lk_old hb, p1, p2, e1, e2, e3, e4, hw0, t1, t2, w1, w2, w3, w4, w5, w6, d0.1, d0.2.1, d0.2.2.1, d0.2.2.2, d1.1, d1.2.1, d1.2.2.1, d1.2.2.2, hi1, hi2, hlen, hle0, hle1, hle2, u, s1, s2, s3, s4, hq, s5, s6]
    refine Thn_n ?_
    refine hK _ _ ?_
    clear hK K
    refine AW.block ?_
    refine AW.rounds 5 ?_
    refine ARounds.succ fun K hK => ?_
    refine AW.seq_k fun K hK => ?_
    refine AW.seq_k fun K hK => ?_
    refine AW.region (by decide) ?_
    simp only [push_cast, Nat.reduceAdd, Nat.reduceMul, Nat.reduceSub, Nat.reduceLeDiff, Nat.reduceLT, Nat.reduceEqDiff, Nat.reduceBEq, Nat.reduceBNe, Nat.reduceMod, Nat.reduceDiv, Int.reduceLE, Int.reduceLT, Int.reduceToNat, Int.reduceAdd, Int.reduceSub, Int.reduceMul, Int.reduceNeg, Int.reduceEq, Int.reduceBEq, Int.reduceBNe, ↓reduceIte, reduceCtorEq, String.reduceBNe, String.reduceEq, reduceDIte, Nat.reducePow, lk_old hb, p1, p2, e1, e2, e3, e4, hw0, t1, t2, w1, w2, w3, w4, w5, w6, d0.1, d0.2.1, d0.2.2.1, d0.2.2.2, d1.1, d1.2.1, d1.2.2.1, d1.2.2.2, hi1, hi2, hlen, hle0, hle1, hle2, u, s1, s2, s3, s4, hq, s5, s6]
    refine Thn_n ?_
    refine hK _ _ ?_
    clear hK K
    refine AW.cond_t rfl ?_
    refine AW.skip ?_
    refine Thn_n ?_
    refine hK _ _ ?_
    clear hK K
    refine AW.seq_k fun K hK => ?_
    refine AW.block ?_
    refine AW.region (by decide) ?_
    simp only [push_cast, Nat.reduceAdd, Nat.reduceMul, Nat.reduceSub, Nat.reduceLeDiff, Nat.reduceLT, Nat.reduceEqDiff, Nat.reduceBEq, Nat.reduceBNe, Nat.reduceMod, Nat.reduceDiv, Int.reduceLE, Int.reduceLT, Int.reduceToNat, Int.reduceAdd, Int.reduceSub, Int.reduceMul, Int.reduceNeg, Int.reduceEq, Int.reduceBEq, Int.reduceBNe, ↓reduceIte, reduceCtorEq, String.reduceBNe, String.reduceEq, reduceDIte, Nat.reducePow, lk_old hb, p1, p2, e1, e2, e3, e4, hw0, t1, t2, w1, w2, w3, w4, w5, w6, d0.1, d0.2.1, d0.2.2.1, d0.2.2.2, d1.1, d1.2.1, d1.2.2.1, d1.2.2.2, hi1, hi2, hlen, hle0, hle1, hle2, u, s1, s2, s3, s4, hq, s5, s6]
    refine CThen.by (At_j _ _ _ _ (A) (B) j1 _ _ _ _ _ hj1 (by omega) (by omega) (hp.mono _) b1 (by have := c.nl; omega)) ?_
    simp only [push_cast, Nat.reduceAdd, Nat.reduceMul, Nat.reduceSub, Nat.reduceLeDiff, Nat.reduceLT, Nat.reduceEqDiff, Nat.reduceBEq, Nat.reduceBNe, Nat.reduceMod, Nat.reduceDiv, Int.reduceLE, Int.reduceLT, Int.reduceToNat, Int.reduceAdd, Int.reduceSub, Int.reduceMul, Int.reduceNeg, Int.reduceEq, Int.reduceBEq, Int.reduceBNe, ↓reduceIte, reduceCtorEq, String.reduceBNe, String.reduceEq, reduceDIte, Nat.reducePow, lk_old hb, p1, p2, e1, e2, e3, e4, hw0, t1, t2, w1, w2, w3, w4, w5, w6, d0.1, d0.2.1, d0.2.2.1, d0.2.2.2, d1.1, d1.2.1, d1.2.2.1, d1.2.2.2, hi1, hi2, hlen, hle0, hle1, hle2, u, s1, s2, s3, s4, hq, s5, s6]
    refine InB_n ?_
    refine Thn_n ?_
    refine hK _ _ ?_
    clear hK K
    refine AW.region (by decide) ?_
    simp only [push_cast, Nat.reduceAdd, Nat.reduceMul, Nat.reduceSub, Nat.reduceLeDiff, Nat.reduceLT, Nat.reduceEqDiff, Nat.reduceBEq, Nat.reduceBNe, Nat.reduceMod, Nat.reduceDiv, Int.reduceLE, Int.reduceLT, Int.reduceToNat, Int.reduceAdd, Int.reduceSub, Int.reduceMul, Int.reduceNeg, Int.reduceEq, Int.reduceBEq, Int.reduceBNe, ↓reduceIte, reduceCtorEq, String.reduceBNe, String.reduceEq, reduceDIte, Nat.reducePow, lk_old hb, p1, p2, e1, e2, e3, e4, hw0, t1, t2, w1, w2, w3, w4, w5, w6, d0.1, d0.2.1, d0.2.2.1, d0.2.2.2, d1.1, d1.2.1, d1.2.2.1, d1.2.2.2, hi1, hi2, hlen, hle0, hle1, hle2, u, s1, s2, s3, s4, hq, s5, s6]
    refine Thn_n ?_
    refine hK _ _ ?_
    clear hK K
    refine ARounds.succ fun K hK => ?_
    refine AW.seq_k fun K hK => ?_
    refine AW.seq_k fun K hK => ?_
    refine AW.region (by decide) ?_
    simp only [push_cast, Nat.reduceAdd, Nat.reduceMul, Nat.reduceSub, Nat.reduceLeDiff, Nat.reduceLT, Nat.reduceEqDiff, Nat.reduceBEq, Nat.reduceBNe, Nat.reduceMod, Nat.reduceDiv, Int.reduceLE, Int.reduceLT, Int.reduceToNat, Int.reduceAdd, Int.reduceSub, Int.reduceMul, Int.reduceNeg, Int.reduceEq, Int.reduceBEq, Int.reduceBNe, ↓reduceIte, reduceCtorEq, String.reduceBNe, String.reduceEq, reduceDIte, Nat.reducePow, lk_old hb, p1, p2, e1, e2, e3, e4, hw0, t1, t2, w1, w2, w3, w4, w5, w6, d0.1, d0.2.1, d0.2.2.1, d0.2.2.2, d1.1, d1.2.1, d1.2.2.1, d1.2.2.2, hi1, hi2, hlen, hle0, hle1, hle2, u, s1, s2, s3, s4, hq, s5, s6]
    refine Thn_n ?_
    refine hK _ _ ?_
    clear hK K
    refine AW.cond_t rfl ?_
    refine AW.skip ?_
    refine Thn_n ?_
    refine hK _ _ ?_
    clear hK K
    refine AW.seq_k fun K hK => ?_
    refine AW.block ?_
    refine AW.region (by decide) ?_
    simp only [push_cast, Nat.reduceAdd, Nat.reduceMul, Nat.reduceSub, Nat.reduceLeDiff, Nat.reduceLT, Nat.reduceEqDiff, Nat.reduceBEq, Nat.reduceBNe, Nat.reduceMod, Nat.reduceDiv, Int.reduceLE, Int.reduceLT, Int.reduceToNat, Int.reduceAdd, Int.reduceSub, Int.reduceMul, Int.reduceNeg, Int.reduceEq, Int.reduceBEq, Int.reduceBNe, ↓reduceIte, reduceCtorEq, String.reduceBNe, String.reduceEq, reduceDIte, Nat.reducePow, lk_old hb, p1, p2, e1, e2, e3, e4, hw0, t1, t2, w1, w2, w3, w4, w5, w6, d0.1, d0.2.1, d0.2.2.1, d0.2.2.2, d1.1, d1.2.1, d1.2.2.1, d1.2.2.2, hi1, hi2, hlen, hle0, hle1, hle2, u, s1, s2, s3, s4, hq, s5, s6]
    refine CThen.by (At_j _ _ _ _ (A + 1) (B) j2 _ _ _ _ _ hj2 (by omega) (by omega) (hp.mono _) b2 (by have := c.nl; omega)) ?_
    simp only [push_cast, Nat.reduceAdd, Nat.reduceMul, Nat.reduceSub, Nat.reduceLeDiff, Nat.reduceLT, Nat.reduceEqDiff, Nat.reduceBEq, Nat.reduceBNe, Nat.reduceMod, Nat.reduceDiv, Int.reduceLE, Int.reduceLT, Int.reduceToNat, Int.reduceAdd, Int.reduceSub, Int.reduceMul, Int.reduceNeg, Int.reduceEq, Int.reduceBEq, Int.reduceBNe, ↓reduceIte, reduceCtorEq, String.reduceBNe, String.reduceEq, reduceDIte, Nat.reducePow, lk_old hb, p1, p2, e1, e2, e3, e4, hw0, t1, t2, w1, w2, w3, w4, w5, w6, d0.1, d0.2.1, d0.2.2.1, d0.2.2.2, d1.1, d1.2.1, d1.2.2.1, d1.2.2.2, hi1, hi2, hlen, hle0, hle1, hle2, u, s1, s2, s3, s4, hq, s5, s6]
    refine InB_n ?_
    refine Thn_n ?_
    refine hK _ _ ?_
    clear hK K
    refine AW.region (by decide) ?_
    simp only [push_cast, Nat.reduceAdd, Nat.reduceMul, Nat.reduceSub, Nat.reduceLeDiff, Nat.reduceLT, Nat.reduceEqDiff, Nat.reduceBEq, Nat.reduceBNe, Nat.reduceMod, Nat.reduceDiv, Int.reduceLE, Int.reduceLT, Int.reduceToNat, Int.reduceAdd, Int.reduceSub, Int.reduceMul, Int.reduceNeg, Int.reduceEq, Int.reduceBEq, Int.reduceBNe, ↓reduceIte, reduceCtorEq, String.reduceBNe, String.reduceEq, reduceDIte, Nat.reducePow, lk_old hb, p1, p2, e1, e2, e3, e4, hw0, t1, t2, w1, w2, w3, w4, w5, w6, d0.1, d0.2.1, d0.2.2.1, d0.2.2.2, d1.1, d1.2.1, d1.2.2.1, d1.2.2.2, hi1, hi2, hlen, hle0, hle1, hle2, u, s1, s2, s3, s4, hq, s5, s6]
    refine Thn_n ?_
    refine hK _ _ ?_
    clear hK K
    refine ARounds.succ fun K hK => ?_
    refine AW.seq_k fun K hK => ?_
    refine AW.seq_k fun K hK => ?_
    refine AW.region (by decide) ?_
    simp only [push_cast, Nat.reduceAdd, Nat.reduceMul, Nat.reduceSub, Nat.reduceLeDiff, Nat.reduceLT, Nat.reduceEqDiff, Nat.reduceBEq, Nat.reduceBNe, Nat.reduceMod, Nat.reduceDiv, Int.reduceLE, Int.reduceLT, Int.reduceToNat, Int.reduceAdd, Int.reduceSub, Int.reduceMul, Int.reduceNeg, Int.reduceEq, Int.reduceBEq, Int.reduceBNe, ↓reduceIte, reduceCtorEq, String.reduceBNe, String.reduceEq, reduceDIte, Nat.reducePow, lk_old hb, p1, p2, e1, e2, e3, e4, hw0, t1, t2, w1, w2, w3, w4, w5, w6, d0.1, d0.2.1, d0.2.2.1, d0.2.2.2, d1.1, d1.2.1, d1.2.2.1, d1.2.2.2, hi1, hi2, hlen, hle0, hle1, hle2, u, s1, s2, s3, s4, hq, s5, s6]
    refine Thn_n ?_
    refine hK _ _ ?_
    clear hK K
    refine AW.cond_t rfl ?_
    refine AW.skip ?_
    refine Thn_n ?_
    refine hK _ _ ?_
    clear hK K
    refine AW.seq_k fun K hK => ?_
    refine AW.block ?_
    refine AW.region (by decide) ?_
    simp only [push_cast, Nat.reduceAdd, Nat.reduceMul, Nat.reduceSub, Nat.reduceLeDiff, Nat.reduceLT, Nat.reduceEqDiff, Nat.reduceBEq, Nat.reduceBNe, Nat.reduceMod, Nat.reduceDiv, Int.reduceLE, Int.reduceLT, Int.reduceToNat, Int.reduceAdd, Int.reduceSub, Int.reduceMul, Int.reduceNeg, Int.reduceEq, Int.reduceBEq, Int.reduceBNe, ↓reduceIte, reduceCtorEq, String.reduceBNe, String.reduceEq, reduceDIte, Nat.reducePow, lk_old hb, p1, p2, e1, e2, e3, e4, hw0, t1, t2, w1, w2, w3, w4, w5, w6, d0.1, d0.2.1, d0.2.2.1, d0.2.2.2, d1.1, d1.2.1, d1.2.2.1, d1.2.2.2, hi1, hi2, hlen, hle0, hle1, hle2, u, s1, s2, s3, s4, hq, s5, s6]
    refine CThen.by (At_j _ _ _ _ (A) (B + 1) j3 _ _ _ _ _ hj3 (by omega) (by omega) (hp.mono _) b3 (by have := c.nl; omega)) ?_
    simp only [push_cast, Nat.reduceAdd, Nat.reduceMul, Nat.reduceSub, Nat.reduceLeDiff, Nat.reduceLT, Nat.reduceEqDiff, Nat.reduceBEq, Nat.reduceBNe, Nat.reduceMod, Nat.reduceDiv, Int.reduceLE, Int.reduceLT, Int.reduceToNat, Int.reduceAdd, Int.reduceSub, Int.reduceMul, Int.reduceNeg, Int.reduceEq, Int.reduceBEq, Int.reduceBNe, ↓reduceIte, reduceCtorEq, String.reduceBNe, String.reduceEq, reduceDIte, Nat.reducePow, lk_old hb, p1, p2, e1, e2, e3, e4, hw0, t1, t2, w1, w2, w3, w4, w5, w6, d0.1, d0.2.1, d0.2.2.1, d0.2.2.2, d1.1, d1.2.1, d1.2.2.1, d1.2.2.2, hi1, hi2, hlen, hle0, hle1, hle2, u, s1, s2, s3, s4, hq, s5, s6]
    refine InB_n ?_
    refine Thn_n ?_
    refine hK _ _ ?_
    clear hK K
    refine AW.region (by decide) ?_
    simp only [push_cast, Nat.reduceAdd, Nat.reduceMul, Nat.reduceSub, Nat.reduceLeDiff, Nat.reduceLT, Nat.reduceEqDiff, Nat.reduceBEq, Nat.reduceBNe, Nat.reduceMod, Nat.reduceDiv, Int.reduceLE, Int.reduceLT, Int.reduceToNat, Int.reduceAdd, Int.reduceSub, Int.reduceMul, Int.reduceNeg, Int.reduceEq, Int.reduceBEq, Int.reduceBNe, ↓reduceIte, reduceCtorEq, String.reduceBNe, String.reduceEq, reduceDIte, Nat.reducePow, lk_old hb, p1, p2, e1, e2, e3, e4, hw0, t1, t2, w1, w2, w3, w4, w5, w6, d0.1, d0.2.1, d0.2.2.1, d0.2.2.2, d1.1, d1.2.1, d1.2.2.1, d1.2.2.2, hi1, hi2, hlen, hle0, hle1, hle2, u, s1, s2, s3, s4, hq, s5, s6]
    refine Thn_n ?_
    refine hK _ _ ?_
    clear hK K
    refine ARounds.succ fun K hK => ?_
    refine AW.seq_k fun K hK => ?_
    refine AW.seq_k fun K hK => ?_
    refine AW.region (by decide) ?_
    simp only [push_cast, Nat.reduceAdd, Nat.reduceMul, Nat.reduceSub, Nat.reduceLeDiff, Nat.reduceLT, Nat.reduceEqDiff, Nat.reduceBEq, Nat.reduceBNe, Nat.reduceMod, Nat.reduceDiv, Int.reduceLE, Int.reduceLT, Int.reduceToNat, Int.reduceAdd, Int.reduceSub, Int.reduceMul, Int.reduceNeg, Int.reduceEq, Int.reduceBEq, Int.reduceBNe, ↓reduceIte, reduceCtorEq, String.reduceBNe, String.reduceEq, reduceDIte, Nat.reducePow, lk_old hb, p1, p2, e1, e2, e3, e4, hw0, t1, t2, w1, w2, w3, w4, w5, w6, d0.1, d0.2.1, d0.2.2.1, d0.2.2.2, d1.1, d1.2.1, d1.2.2.1, d1.2.2.2, hi1, hi2, hlen, hle0, hle1, hle2, u, s1, s2, s3, s4, hq, s5, s6]
    refine Thn_n ?_
    refine hK _ _ ?_
    clear hK K
    refine AW.cond_t rfl ?_
    refine AW.skip ?_
    refine Thn_n ?_
    refine hK _ _ ?_
    clear hK K
    refine AW.seq_k fun K hK => ?_
    refine AW.block ?_
    refine AW.region (by decide) ?_
    simp only [push_cast, Nat.reduceAdd, Nat.reduceMul, Nat.reduceSub, Nat.reduceLeDiff, Nat.reduceLT, Nat.reduceEqDiff, Nat.reduceBEq, Nat.reduceBNe, Nat.reduceMod, Nat.reduceDiv, Int.reduceLE, Int.reduceLT, Int.reduceToNat, Int.reduceAdd, Int.reduceSub, Int.reduceMul, Int.reduceNeg, Int.reduceEq, Int.reduceBEq, Int.reduceBNe, ↓reduceIte, reduceCtorEq, String.reduceBNe, String.reduceEq, reduceDIte, Nat.reducePow, lk_old hb, p1, p2, e1, e2, e3, e4, hw0, t1, t2, w1, w2, w3, w4, w5, w6, d0.1, d0.2.1, d0.2.2.1, d0.2.2.2, d1.1, d1.2.1, d1.2.2.1, d1.2.2.2, hi1, hi2, hlen, hle0, hle1, hle2, u, s1, s2, s3, s4, hq, s5, s6]
    refine CThen.by (At_j _ _ _ _ (A + 1) (B + 1) j4 _ _ _ _ _ hj4 (by omega) (by omega) (hp.mono _) b4 (by have := c.nl; omega)) ?_
    simp only [push_cast, Nat.reduceAdd, Nat.reduceMul, Nat.reduceSub, Nat.reduceLeDiff, Nat.reduceLT, Nat.reduceEqDiff, Nat.reduceBEq, Nat.reduceBNe, Nat.reduceMod, Nat.reduceDiv, Int.reduceLE, Int.reduceLT, Int.reduceToNat, Int.reduceAdd, Int.reduceSub, Int.reduceMul, Int.reduceNeg, Int.reduceEq, Int.reduceBEq, Int.reduceBNe, ↓reduceIte, reduceCtorEq, String.reduceBNe, String.reduceEq, reduceDIte, Nat.reducePow, lk_old hb, p1, p2, e1, e2, e3, e4, hw0, t1, t2, w1, w2, w3, w4, w5, w6, d0.1, d0.2.1, d0.2.2.1, d0.2.2.2, d1.1, d1.2.1, d1.2.2.1, d1.2.2.2, hi1, hi2, hlen, hle0, hle1, hle2, u, s1, s2, s3, s4, hq, s5, s6]
    refine InB_n ?_
    refine Thn_n ?_
    refine hK _ _ ?_
    clear hK K
    refine AW.region (by decide) ?_
    simp only [push_cast, Nat.reduceAdd, Nat.reduceMul, Nat.reduceSub, Nat.reduceLeDiff, Nat.reduceLT, Nat.reduceEqDiff, Nat.reduceBEq, Nat.reduceBNe, Nat.reduceMod, Nat.reduceDiv, Int.reduceLE, Int.reduceLT, Int.reduceToNat, Int.reduceAdd, Int.reduceSub, Int.reduceMul, Int.reduceNeg, Int.reduceEq, Int.reduceBEq, Int.reduceBNe, ↓reduceIte, reduceCtorEq, String.reduceBNe, String.reduceEq, reduceDIte, Nat.reducePow, lk_old hb, p1, p2, e1, e2, e3, e4, hw0, t1, t2, w1, w2, w3, w4, w5, w6, d0.1, d0.2.1, d0.2.2.1, d0.2.2.2, d1.1, d1.2.1, d1.2.2.1, d1.2.2.2, hi1, hi2, hlen, hle0, hle1, hle2, u, s1, s2, s3, s4, hq, s5, s6]
    refine Thn_n ?_
    refine hK _ _ ?_
    clear hK K
    refine ARounds.succ fun K hK => ?_
    refine AW.seq_k fun K hK => ?_
    refine AW.seq_k fun K hK => ?_
    refine AW.region (by decide) ?_
    simp only [push_cast, Nat.reduceAdd, Nat.reduceMul, Nat.reduceSub, Nat.reduceLeDiff, Nat.reduceLT, Nat.reduceEqDiff, Nat.reduceBEq, Nat.reduceBNe, Nat.reduceMod, Nat.reduceDiv, Int.reduceLE, Int.reduceLT, Int.reduceToNat, Int.reduceAdd, Int.reduceSub, Int.reduceMul, Int.reduceNeg, Int.reduceEq, Int.reduceBEq, Int.reduceBNe, ↓reduceIte, reduceCtorEq, String.reduceBNe, String.reduceEq, reduceDIte, Nat.reducePow, lk_old hb, p1, p2, e1, e2, e3, e4, hw0, t1, t2, w1, w2, w3, w4, w5, w6, d0.1, d0.2.1, d0.2.2.1, d0.2.2.2, d1.1, d1.2.1, d1.2.2.1, d1.2.2.2, hi1, hi2, hlen, hle0, hle1, hle2, u, s1, s2, s3, s4, hq, s5, s6]
    refine Thn_n ?_
    refine hK _ _ ?_
    clear hK K
    refine AW.cond_f rfl ?_
    refine AW.exit ?_
    refine Thn_e ?_
    clear hK K
    refine Thn_e ?_
    clear hK K
    refine InB_here ?_
    refine Thn_n ?_
    refine hK _ _ ?_
    clear hK K
    refine AW.region (by decide) ?_
    simp only [push_cast, Nat.reduceAdd, Nat.reduceMul, Nat.reduceSub, Nat.reduceLeDiff, Nat.reduceLT, Nat.reduceEqDiff, Nat.reduceBEq, Nat.reduceBNe, Nat.reduceMod, Nat.reduceDiv, Int.reduceLE, Int.reduceLT, Int.reduceToNat, Int.reduceAdd, Int.reduceSub, Int.reduceMul, Int.reduceNeg, Int.reduceEq, Int.reduceBEq, Int.reduceBNe, ↓reduceIte, reduceCtorEq, String.reduceBNe, String.reduceEq, reduceDIte, Nat.reducePow, lk_old hb, p1, p2, e1, e2, e3, e4, hw0, t1, t2, w1, w2, w3, w4, w5, w6, d0.1, d0.2.1, d0.2.2.1, d0.2.2.2, d1.1, d1.2.1, d1.2.2.1, d1.2.2.2, hi1, hi2, hlen, hle0, hle1, hle2, u, s1, s2, s3, s4, hq, s5, s6]
    refine InB_n ?_
    refine Thn_n ?_
    refine hK _ _ ?_
    clear hK K
    refine AW.region (by decide) ?_
    simp only [push_cast, Nat.reduceAdd, Nat.reduceMul, Nat.reduceSub, Nat.reduceLeDiff, Nat.reduceLT, Nat.reduceEqDiff, Nat.reduceBEq, Nat.reduceBNe, Nat.reduceMod, Nat.reduceDiv, Int.reduceLE, Int.reduceLT, Int.reduceToNat, Int.reduceAdd, Int.reduceSub, Int.reduceMul, Int.reduceNeg, Int.reduceEq, Int.reduceBEq, Int.reduceBNe, ↓reduceIte, reduceCtorEq, String.reduceBNe, String.reduceEq, reduceDIte, Nat.reducePow, lk_old hb, p1, p2, e1, e2, e3, e4, hw0, t1, t2, w1, w2, w3, w4, w5, w6, d0.1, d0.2.1, d0.2.2.1, d0.2.2.2, d1.1, d1.2.1, d1.2.2.1, d1.2.2.2, hi1, hi2, hlen, hle0, hle1, hle2, u, s1, s2, s3, s4, hq, s5, s6]
    refine Thn_n ?_
    refine hK _ _ ?_
    clear hK K
    refine ARounds.succ fun K hK => ?_
    refine AW.seq_k fun K hK => ?_
    refine AW.seq_k fun K hK => ?_
    refine AW.region (by decide) ?_
    simp only [push_cast, Nat.reduceAdd, Nat.reduceMul, Nat.reduceSub, Nat.reduceLeDiff, Nat.reduceLT, Nat.reduceEqDiff, Nat.reduceBEq, Nat.reduceBNe, Nat.reduceMod, Nat.reduceDiv, Int.reduceLE, Int.reduceLT, Int.reduceToNat, Int.reduceAdd, Int.reduceSub, Int.reduceMul, Int.reduceNeg, Int.reduceEq, Int.reduceBEq, Int.reduceBNe, ↓reduceIte, reduceCtorEq, String.reduceBNe, String.reduceEq, reduceDIte, Nat.reducePow, lk_old hb, p1, p2, e1, e2, e3, e4, hw0, t1, t2, w1, w2, w3, w4, w5, w6, d0.1, d0.2.1, d0.2.2.1, d0.2.2.2, d1.1, d1.2.1, d1.2.2.1, d1.2.2.2, hi1, hi2, hlen, hle0, hle1, hle2, u, s1, s2, s3, s4, hq, s5, s6]
    refine Thn_n ?_
    refine hK _ _ ?_
    clear hK K
    refine AW.cond_t rfl ?_
    refine AW.skip ?_
    refine Thn_n ?_
    refine hK _ _ ?_
    clear hK K
    refine AW.seq_k fun K hK => ?_
    refine AW.block ?_
    refine AW.seq_k fun K hK => ?_
    refine AW.region (by decide) ?_
    simp only [push_cast, Nat.reduceAdd, Nat.reduceMul, Nat.reduceSub, Nat.reduceLeDiff, Nat.reduceLT, Nat.reduceEqDiff, Nat.reduceBEq, Nat.reduceBNe, Nat.reduceMod, Nat.reduceDiv, Int.reduceLE, Int.reduceLT, Int.reduceToNat, Int.reduceAdd, Int.reduceSub, Int.reduceMul, Int.reduceNeg, Int.reduceEq, Int.reduceBEq, Int.reduceBNe, ↓reduceIte, reduceCtorEq, String.reduceBNe, String.reduceEq, reduceDIte, Nat.reducePow, lk_old hb, p1, p2, e1, e2, e3, e4, hw0, t1, t2, w1, w2, w3, w4, w5, w6, d0.1, d0.2.1, d0.2.2.1, d0.2.2.2, d1.1, d1.2.1, d1.2.2.1, d1.2.2.2, hi1, hi2, hlen, hle0, hle1, hle2, u, s1, s2, s3, s4, hq, s5, s6]
    refine Thn_n ?_
    refine hK _ _ ?_
    clear hK K
    refine AW.seq_k fun K hK => ?_
    refine AW.seq_k fun K hK => ?_
    refine AW.region (by decide) ?_
    simp only [push_cast, Nat.reduceAdd, Nat.reduceMul, Nat.reduceSub, Nat.reduceLeDiff, Nat.reduceLT, Nat.reduceEqDiff, Nat.reduceBEq, Nat.reduceBNe, Nat.reduceMod, Nat.reduceDiv, Int.reduceLE, Int.reduceLT, Int.reduceToNat, Int.reduceAdd, Int.reduceSub, Int.reduceMul, Int.reduceNeg, Int.reduceEq, Int.reduceBEq, Int.reduceBNe, ↓reduceIte, reduceCtorEq, String.reduceBNe, String.reduceEq, reduceDIte, Nat.reducePow, lk_old hb, p1, p2, e1, e2, e3, e4, hw0, t1, t2, w1, w2, w3, w4, w5, w6, d0.1, d0.2.1, d0.2.2.1, d0.2.2.2, d1.1, d1.2.1, d1.2.2.1, d1.2.2.2, hi1, hi2, hlen, hle0, hle1, hle2, u, s1, s2, s3, s4, hq, s5, s6]
    refine Thn_n ?_
    refine hK _ _ ?_
    clear hK K
    refine AW.block ?_
    refine AW.rounds 5 ?_
    refine ARounds.succ fun K hK => ?_
    refine AW.seq_k fun K hK => ?_
    refine AW.seq_k fun K hK => ?_
    refine AW.region (by decide) ?_
    simp only [push_cast, Nat.reduceAdd, Nat.reduceMul, Nat.reduceSub, Nat.reduceLeDiff, Nat.reduceLT, Nat.reduceEqDiff, Nat.reduceBEq, Nat.reduceBNe, Nat.reduceMod, Nat.reduceDiv, Int.reduceLE, Int.reduceLT, Int.reduceToNat, Int.reduceAdd, Int.reduceSub, Int.reduceMul, Int.reduceNeg, Int.reduceEq, Int.reduceBEq, Int.reduceBNe, ↓reduceIte, reduceCtorEq, String.reduceBNe, String.reduceEq, reduceDIte, Nat.reducePow, lk_old hb, p1, p2, e1, e2, e3, e4, hw0, t1, t2, w1, w2, w3, w4, w5, w6, d0.1, d0.2.1, d0.2.2.1, d0.2.2.2, d1.1, d1.2.1, d1.2.2.1, d1.2.2.2, hi1, hi2, hlen, hle0, hle1, hle2, u, s1, s2, s3, s4, hq, s5, s6]
    refine Thn_n ?_
    refine hK _ _ ?_
    clear hK K
    refine AW.cond_t rfl ?_
    refine AW.skip ?_
    refine Thn_n ?_
    refine hK _ _ ?_
    clear hK K
    refine AW.seq_k fun K hK => ?_
    refine AW.block ?_
    refine AW.region (by decide) ?_
    simp only [push_cast, Nat.reduceAdd, Nat.reduceMul, Nat.reduceSub, Nat.reduceLeDiff, Nat.reduceLT, Nat.reduceEqDiff, Nat.reduceBEq, Nat.reduceBNe, Nat.reduceMod, Nat.reduceDiv, Int.reduceLE, Int.reduceLT, Int.reduceToNat, Int.reduceAdd, Int.reduceSub, Int.reduceMul, Int.reduceNeg, Int.reduceEq, Int.reduceBEq, Int.reduceBNe, ↓reduceIte, reduceCtorEq, String.reduceBNe, String.reduceEq, reduceDIte, Nat.reducePow, lk_old hb, p1, p2, e1, e2, e3, e4, hw0, t1, t2, w1, w2, w3, w4, w5, w6, d0.1, d0.2.1, d0.2.2.1, d0.2.2.2, d1.1, d1.2.1, d1.2.2.1, d1.2.2.2, hi1, hi2, hlen, hle0, hle1, hle2, u, s1, s2, s3, s4, hq, s5, s6]
    refine CThen.by (At_j _ _ _ _ (A) (B) j1 _ _ _ _ _ hj1 (by omega) (by omega) (hp.mono _) b1 (by have := c.nl; omega)) ?_
    simp only [push_cast, Nat.reduceAdd, Nat.reduceMul, Nat.reduceSub, Nat.reduceLeDiff, Nat.reduceLT, Nat.reduceEqDiff, Nat.reduceBEq, Nat.reduceBNe, Nat.reduceMod, Nat.reduceDiv, Int.reduceLE, Int.reduceLT, Int.reduceToNat, Int.reduceAdd, Int.reduceSub, Int.reduceMul, Int.reduceNeg, Int.reduceEq, Int.reduceBEq, Int.reduceBNe, ↓reduceIte, reduceCtorEq, String.reduceBNe, String.reduceEq, reduceDIte, Nat.reducePow, lk_old hb, p1, p2, e1, e2, e3, e4, hw0, t1, t2, w1, w2, w3, w4, w5, w6, d0.1, d0.2.1, d0.2.2.1, d0.2.2.2, d1.1, d1.2.1, d1.2.2.1, d1.2.2.2, hi1, hi2, hlen, hle0, hle1, hle2, u, s1, s2, s3, s4, hq, s5, s6]
    refine InB_n ?_
    refine Thn_n ?_
    refine hK _ _ ?_
    clear hK K
    refine AW.region (by decide) ?_
    simp only [push_cast, Nat.reduceAdd, Nat.reduceMul, Nat.reduceSub, Nat.reduceLeDiff, Nat.reduceLT, Nat.reduceEqDiff, Nat.reduceBEq, Nat.reduceBNe, Nat.reduceMod, Nat.reduceDiv, Int.reduceLE, Int.reduceLT, Int.reduceToNat, Int.reduceAdd, Int.reduceSub, Int.reduceMul, Int.reduceNeg, Int.reduceEq, Int.reduceBEq, Int.reduceBNe, ↓reduceIte, reduceCtorEq, String.reduceBNe, String.reduceEq, reduceDIte, Nat.reducePow, lk_old hb, p1, p2, e1, e2, e3, e4, hw0, t1, t2, w1, w2, w3, w4, w5, w6, d0.1, d0.2.1, d0.2.2.1, d0.2.2.2, d1.1, d1.2.1, d1.2.2.1, d1.2.2.2, hi1, hi2, hlen, hle0, hle1, hle2, u, s1, s2, s3, s4, hq, s5, s6]
    refine Thn_n ?_
    refine hK _ _ ?_
    clear hK K
    refine ARounds.succ fun K hK => ?_
    refine AW.seq_k fun K hK => ?_
    refine AW.seq_k fun K hK => ?_
    refine AW.region (by decide) ?_
    simp only [push_cast, Nat.reduceAdd, Nat.reduceMul, Nat.reduceSub, Nat.reduceLeDiff, Nat.reduceLT, Nat.reduceEqDiff, Nat.reduceBEq, Nat.reduceBNe, Nat.reduceMod, Nat.reduceDiv, Int.reduceLE, Int.reduceLT, Int.reduceToNat, Int.reduceAdd, Int.reduceSub, Int.reduceMul, Int.reduceNeg, Int.reduceEq, Int.reduceBEq, Int.reduceBNe, ↓reduceIte, reduceCtorEq, String.reduceBNe, String.reduceEq, reduceDIte, Nat.reducePow, lk_old hb, p1, p2, e1, e2, e3, e4, hw0, t1, t2, w1, w2, w3, w4, w5, w6, d0.1, d0.2.1, d0.2.2.1, d0.2.2.2, d1.1, d1.2.1, d1.2.2.1, d1.2.2.2, hi1, hi2, hlen, hle0, hle1, hle2, u, s1, s2, s3, s4, hq, s5, s6]
    refine Thn_n ?_
    refine hK _ _ ?_
    clear hK K
    refine AW.cond_t rfl ?_
    refine AW.skip ?_
    refine Thn_n ?_
    refine hK _ _ ?_
    clear hK K
    refine AW.seq_k fun K hK => ?_
    refine AW.block ?_
    refine AW.region (by decide) ?_
    simp only [push_cast, Nat.reduceAdd, Nat.reduceMul, Nat.reduceSub, Nat.reduceLeDiff, Nat.reduceLT, Nat.reduceEqDiff, Nat.reduceBEq, Nat.reduceBNe, Nat.reduceMod, Nat.reduceDiv, Int.reduceLE, Int.reduceLT, Int.reduceToNat, Int.reduceAdd, Int.reduceSub, Int.reduceMul, Int.reduceNeg, Int.reduceEq, Int.reduceBEq, Int.reduceBNe, ↓reduceIte, reduceCtorEq, String.reduceBNe, String.reduceEq, reduceDIte, Nat.reducePow, lk_old hb, p1, p2, e1, e2, e3, e4, hw0, t1, t2, w1, w2, w3, w4, w5, w6, d0.1, d0.2.1, d0.2.2.1, d0.2.2.2, d1.1, d1.2.1, d1.2.2.1, d1.2.2.2, hi1, hi2, hlen, hle0, hle1, hle2, u, s1, s2, s3, s4, hq, s5, s6]
    refine CThen.by (At_j _ _ _ _ (A + 1) (B) j2 _ _ _ _ _ hj2 (by omega) (by omega) (hp.mono _) b2 (by have := c.nl; omega)) ?_
    simp only [push_cast, Nat.reduceAdd, Nat.reduceMul, Nat.reduceSub, Nat.reduceLeDiff, Nat.reduceLT, Nat.reduceEqDiff, Nat.reduceBEq, Nat.reduceBNe, Nat.reduceMod, Nat.reduceDiv, Int.reduceLE, Int.reduceLT, Int.reduceToNat, Int.reduceAdd, Int.reduceSub, Int.reduceMul, Int.reduceNeg, Int.reduceEq, Int.reduceBEq, Int.reduceBNe, ↓reduceIte, reduceCtorEq, String.reduceBNe, String.reduceEq, reduceDIte, Nat.reducePow, lk_old hb, p1, p2, e1, e2, e3, e4, hw0, t1, t2, w1, w2, w3, w4, w5, w6, d0.1, d0.2.1, d0.2.2.1, d0.2.2.2, d1.1, d1.2.1, d1.2.2.1, d1.2.2.2, hi1, hi2, hlen, hle0, hle1, hle2, u, s1, s2, s3, s4, hq, s5, s6]
    refine InB_n ?_
    refine Thn_n ?_
    refine hK _ _ ?_
    clear hK K
    refine AW.region (by decide) ?_
    simp only [push_cast, Nat.reduceAdd, Nat.reduceMul, Nat.reduceSub, Nat.reduceLeDiff, Nat.reduceLT, Nat.reduceEqDiff, Nat.reduceBEq, Nat.reduceBNe, Nat.reduceMod, Nat.reduceDiv, Int.reduceLE, Int.reduceLT, Int.reduceToNat, Int.reduceAdd, Int.reduceSub, Int.reduceMul, Int.reduceNeg, Int.reduceEq, Int.reduceBEq, Int.reduceBNe, ↓reduceIte, reduceCtorEq, String.reduceBNe, String.reduceEq, reduceDIte, Nat.reducePow, lk_old hb, p1, p2, e1, e2, e3, e4, hw0, t1, t2, w1, w2, w3, w4, w5, w6, d0.1, d0.2.1, d0.2.2.1, d0.2.2.2, d1.1, d1.2.1, d1.2.2.1, d1.2.2.2, hi1, hi2, hlen, hle0, hle1, hle2, u, s1, s2, s3, s4, hq, s5, s6]
    refine Thn_n ?_
    refine hK _ _ ?_
    clear hK K
    refine ARounds.succ fun K hK => ?_
    refine AW.seq_k fun K hK => ?_
    refine AW.seq_k fun K hK => ?_
    refine AW.region (by decide) ?_
    simp only [push_cast, Nat.reduceAdd, Nat.reduceMul, Nat.reduceSub, Nat.reduceLeDiff, Nat.reduceLT, Nat.reduceEqDiff, Nat.reduceBEq, Nat.reduceBNe, Nat.reduceMod, Nat.reduceDiv, Int.reduceLE, Int.reduceLT, Int.reduceToNat, Int.reduceAdd, Int.reduceSub, Int.reduceMul, Int.reduceNeg, Int.reduceEq, Int.reduceBEq, Int.reduceBNe, ↓reduceIte, reduceCtorEq, String.reduceBNe, String.reduceEq, reduceDIte, Nat.reducePow, lk_old hb, p1, p2, e1, e2, e3, e4, hw0, t1, t2, w1, w2, w3, w4, w5, w6, d0.1, d0.2.1, d0.2.2.1, d0.2.2.2, d1.1, d1.2.1, d1.2.2.1, d1.2.2.2, hi1, hi2, hlen, hle0, hle1, hle2, u, s1, s2, s3, s4, hq, s5, s6]
    refine Thn_n ?_
    refine hK _ _ ?_
    clear hK K
    refine AW.cond_t rfl ?_
    refine AW.skip ?_
    refine Thn_n ?_
    refine hK _ _ ?_
    clear hK K
    refine AW.seq_k fun K hK => ?_
    refine AW.block ?_
    refine AW.region (by decide) ?_
    simp only [push_cast, Nat.reduceAdd, Nat.reduceMul, Nat.reduceSub, Nat.reduceLeDiff, Nat.reduceLT, Nat.reduceEqDiff, Nat.reduceBEq, Nat.reduceBNe, Nat.reduceMod, Nat.reduceDiv, Int.reduceLE, Int.reduceLT, Int.reduceToNat, Int.reduceAdd, Int.reduceSub, Int.reduceMul, Int.reduceNeg, Int.reduceEq, Int.reduceBEq, Int.reduceBNe, ↓reduceIte, reduceCtorEq, String.reduceBNe, String.reduceEq, reduceDIte, Nat.reducePow, lk_old hb, p1, p2, e1, e2, e3, e4, hw0, t1, t2, w1, w2, w3, w4, w5, w6, d0.1, d0.2.1, d0.2.2.1, d0.2.2.2, d1.1, d1.2.1, d1.2.2.1, d1.2.2.2, hi1, hi2, hlen, hle0, hle1, hle2, u, s1, s2, s3, s4, hq, s5, s6]
    refine CThen.by (At_j _ _ _ _ (A) (B + 1) j3 _ _ _ _ _ hj3 (by omega) (by omega) (hp.mono _) b3 (by have := c.nl; omega)) ?_
    simp only [push_cast, Nat.reduceAdd, Nat.reduceMul, Nat.reduceSub, Nat.reduceLeDiff, Nat.reduceLT, Nat.reduceEqDiff, Nat.reduceBEq, Nat.reduceBNe, Nat.reduceMod, Nat.reduceDiv, Int.reduceLE, Int.reduceLT, Int.reduceToNat, Int.reduceAdd, Int.reduceSub, Int.reduceMul, Int.reduceNeg, Int.reduceEq, Int.reduceBEq, Int.reduceBNe, ↓reduceIte, reduceCtorEq, String.reduceBNe, String.reduceEq, reduceDIte, Nat.reducePow, lk_old hb, p1, p2, e1, e2, e3, e4, hw0, t1, t2, w1, w2, w3, w4, w5, w6, d0.1, d0.2.1, d0.2.2.1, d0.2.2.2, d1.1, d1.2.1, d1.2.2.1, d1.2.2.2, hi1, hi2, hlen, hle0, hle1, hle2, u, s1, s2, s3, s4, hq, s5, s6]
    refine InB_n ?_
    refine Thn_n ?_
    refine hK _ _ ?_
    clear hK K
    refine AW.region (by decide) ?_
    simp only [push_cast, Nat.reduceAdd, Nat.reduceMul, Nat.reduceSub, Nat.reduceLeDiff, Nat.reduceLT, Nat.reduceEqDiff, Nat.reduceBEq, Nat.reduceBNe, Nat.reduceMod, Nat.reduceDiv, Int.reduceLE, Int.reduceLT, Int.reduceToNat, Int.reduceAdd, Int.reduceSub, Int.reduceMul, Int.reduceNeg, Int.reduceEq, Int.reduceBEq, Int.reduceBNe, ↓reduceIte, reduceCtorEq, String.reduceBNe, String.reduceEq, reduceDIte, Nat.reducePow, lk_old hb, p1, p2, e1, e2, e3, e4, hw0, t1, t2, w1, w2, w3, w4, w5, w6, d0.1, d0.2.1, d0.2.2.1, d0.2.2.2, d1.1, d1.2.1, d1.2.2.1, d1.2.2.2, hi1, hi2, hlen, hle0, hle1, hle2, u, s1, s2, s3, s4, hq, s5, s6]
    refine Thn_n ?_
    refine hK _ _ ?_
    clear hK K
    refine ARounds.succ fun K hK => ?_
    refine AW.seq_k fun K hK => ?_
    refine AW.seq_k fun K hK => ?_
    refine AW.region (by decide) ?_
    simp only [push_cast, Nat.reduceAdd, Nat.reduceMul, Nat.reduceSub, Nat.reduceLeDiff, Nat.reduceLT, Nat.reduceEqDiff, Nat.reduceBEq, Nat.reduceBNe, Nat.reduceMod, Nat.reduceDiv, Int.reduceLE, Int.reduceLT, Int.reduceToNat, Int.reduceAdd, Int.reduceSub, Int.reduceMul, Int.reduceNeg, Int.reduceEq, Int.reduceBEq, Int.reduceBNe, ↓reduceIte, reduceCtorEq, String.reduceBNe, String.reduceEq, reduceDIte, Nat.reducePow, lk_old hb, p1, p2, e1, e2, e3, e4, hw0, t1, t2, w1, w2, w3, w4, w5, w6, d0.1, d0.2.1, d0.2.2.1, d0.2.2.2, d1.1, d1.2.1, d1.2.2.1, d1.2.2.2, hi1, hi2, hlen, hle0, hle1, hle2, u, s1, s2, s3, s4, hq, s5, s6]
    refine Thn_n ?_
    refine hK _ _ ?_
    clear hK K
    refine AW.cond_t rfl ?_
    refine AW.skip ?_
    refine Thn_n ?_
    refine hK _ _ ?_
    clear hK K
    refine AW.seq_k fun K hK => ?_
    refine AW.block ?_
    refine AW.region (by decide) ?_
    simp only [push_cast, Nat.reduceAdd, Nat.reduceMul, Nat.reduceSub, Nat.reduceLeDiff, Nat.reduceLT, Nat.reduceEqDiff, Nat.reduceBEq, Nat.reduceBNe, Nat.reduceMod, Nat.reduceDiv, Int.reduceLE, Int.reduceLT, Int.reduceToNat, Int.reduceAdd, Int.reduceSub, Int.reduceMul, Int.reduceNeg, Int.reduceEq, Int.reduceBEq, Int.reduceBNe, ↓reduceIte, reduceCtorEq, String.reduceBNe, String.reduceEq, reduceDIte, Nat.reducePow, lk_old hb, p1, p2, e1, e2, e3, e4, hw0, t1, t2, w1, w2, w3, w4, w5, w6, d0.1, d0.2.1, d0.2.2.1, d0.2.2.2, d1.1, d1.2.1, d1.2.2.1, d1.2.2.2, hi1, hi2, hlen, hle0, hle1, hle2, u, s1, s2, s3, s4, hq, s5, s6]
    refine CThen.by (At_j _ _ _ _ (A + 1) (B + 1) j4 _ _ _ _ _ hj4 (by omega) (by omega) (hp.mono _) b4 (by have := c.nl; omega)) ?_
    simp only [push_cast, Nat.reduceAdd, Nat.reduceMul, Nat.reduceSub, Nat.reduceLeDiff, Nat.reduceLT, Nat.reduceEqDiff, Nat.reduceBEq, Nat.reduceBNe, Nat.reduceMod, Nat.reduceDiv, Int.reduceLE, Int.reduceLT, Int.reduceToNat, Int.reduceAdd, Int.reduceSub, Int.reduceMul, Int.reduceNeg, Int.reduceEq, Int.reduceBEq, Int.reduceBNe, ↓reduceIte, reduceCtorEq, String.reduceBNe, String.reduceEq, reduceDIte, Nat.reducePow, lk_old hb, p1, p2, e1, e2, e3, e4, hw0, t1, t2, w1, w2, w3, w4, w5, w6, d0.1, d0.2.1, d0.2.2.1, d0.2.2.2, d1.1, d1.2.1, d1.2.2.1, d1.2.2.2, hi1, hi2, hlen, hle0, hle1, hle2, u, s1, s2, s3, s4, hq, s5, s6]
    refine InB_n ?_
    refine Thn_n ?_
    refine hK _ _ ?_
    clear hK K
    refine AW.region (by decide) ?_
    simp only [push_cast, Nat.reduceAdd, Nat.reduceMul, Nat.reduceSub, Nat.reduceLeDiff, Nat.reduceLT, Nat.reduceEqDiff, Nat.reduceBEq, Nat.reduceBNe, Nat.reduceMod, Nat.reduceDiv, Int.reduceLE, Int.reduceLT, Int.reduceToNat, Int.reduceAdd, Int.reduceSub, Int.reduceMul, Int.reduceNeg, Int.reduceEq, Int.reduceBEq, Int.reduceBNe, ↓reduceIte, reduceCtorEq, String.reduceBNe, String.reduceEq, reduceDIte, Nat.reducePow, lk_old hb, p1, p2, e1, e2, e3, e4, hw0, t1, t2, w1, w2, w3, w4, w5, w6, d0.1, d0.2.1, d0.2.2.1, d0.2.2.2, d1.1, d1.2.1, d1.2.2.1, d1.2.2.2, hi1, hi2, hlen, hle0, hle1, hle2, u, s1, s2, s3, s4, hq, s5, s6]
    refine Thn_n ?_
    refine hK _ _ ?_
    clear hK K
    refine ARounds.succ fun K hK => ?_
    refine AW.seq_k fun K hK => ?_
    refine AW.seq_k fun K hK => ?_
    refine AW.region (by decide) ?_
    simp only [push_cast, Nat.reduceAdd, Nat.reduceMul, Nat.reduceSub, Nat.reduceLeDiff, Nat.reduceLT, Nat.reduceEqDiff, Nat.reduceBEq, Nat.reduceBNe, Nat.reduceMod, Nat.reduceDiv, Int.reduceLE, Int.reduceLT, Int.reduceToNat, Int.reduceAdd, Int.reduceSub, Int.reduceMul, Int.reduceNeg, Int.reduceEq, Int.reduceBEq, Int.reduceBNe, ↓reduceIte, reduceCtorEq, String.reduceBNe, String.reduceEq, reduceDIte, Nat.reducePow, lk_old hb, p1, p2, e1, e2, e3, e4, hw0, t1, t2, w1, w2, w3, w4, w5, w6, d0.1, d0.2.1, d0.2.2.1, d0.2.2.2, d1.1, d1.2.1, d1.2.2.1, d1.2.2.2, hi1, hi2, hlen, hle0, hle1, hle2, u, s1, s2, s3, s4, hq, s5, s6]
    refine Thn_n ?_
    refine hK _ _ ?_
    clear hK K
    refine AW.cond_f rfl ?_
    refine AW.exit ?_
    refine Thn_e ?_
    clear hK K
    refine Thn_e ?_
    clear hK K
    refine InB_here ?_
    refine Thn_n ?_
    refine hK _ _ ?_
    clear hK K
    refine AW.region (by decide) ?_
    simp only [push_cast, Nat.reduceAdd, Nat.reduceMul, Nat.reduceSub, Nat.reduceLeDiff, Nat.reduceLT, Nat.reduceEqDiff, Nat.reduceBEq, Nat.reduceBNe, Nat.reduceMod, Nat.reduceDiv, Int.reduceLE, Int.reduceLT, Int.reduceToNat, Int.reduceAdd, Int.reduceSub, Int.reduceMul, Int.reduceNeg, Int.reduceEq, Int.reduceBEq, Int.reduceBNe, ↓reduceIte, reduceCtorEq, String.reduceBNe, String.reduceEq, reduceDIte, Nat.reducePow, lk_old hb, p1, p2, e1, e2, e3, e4, hw0, t1, t2, w1, w2, w3, w4, w5, w6, d0.1, d0.2.1, d0.2.2.1, d0.2.2.2, d1.1, d1.2.1, d1.2.2.1, d1.2.2.2, hi1, hi2, hlen, hle0, hle1, hle2, u, s1, s2, s3, s4, hq, s5, s6]
    refine InB_n ?_
    refine Thn_n ?_
    refine hK _ _ ?_
    clear hK K
    refine AW.region (by decide) ?_
    simp only [push_cast, Nat.reduceAdd, Nat.reduceMul, Nat.reduceSub, Nat.reduceLeDiff, Nat.reduceLT, Nat.reduceEqDiff, Nat.reduceBEq, Nat.reduceBNe, Nat.reduceMod, Nat.reduceDiv, Int.reduceLE, Int.reduceLT, Int.reduceToNat, Int.reduceAdd, Int.reduceSub, Int.reduceMul, Int.reduceNeg, Int.reduceEq, Int.reduceBEq, Int.reduceBNe, ↓reduceIte, reduceCtorEq, String.reduceBNe, String.reduceEq, reduceDIte, Nat.reducePow, lk_old hb, p1, p2, e1, e2, e3, e4, hw0, t1, t2, w1, w2, w3, w4, w5, w6, d0.1, d0.2.1, d0.2.2.1, d0.2.2.2, d1.1, d1.2.1, d1.2.2.1, d1.2.2.2, hi1, hi2, hlen, hle0, hle1, hle2, u, s1, s2, s3, s4, hq, s5, s6]
    refine Thn_n ?_
    refine hK _ _ ?_
    clear hK K
    refine ARounds.succ fun K hK => ?_
    refine AW.seq_k fun K hK => ?_
    refine AW.seq_k fun K hK => ?_
    refine AW.region (by decide) ?_
    simp only [push_cast, Nat.reduceAdd, Nat.reduceMul, Nat.reduceSub, Nat.reduceLeDiff, Nat.reduceLT, Nat.reduceEqDiff, Nat.reduceBEq, Nat.reduceBNe, Nat.reduceMod, Nat.reduceDiv, Int.reduceLE, Int.reduceLT, Int.reduceToNat, Int.reduceAdd, Int.reduceSub, Int.reduceMul, Int.reduceNeg, Int.reduceEq, Int.reduceBEq, Int.reduceBNe, ↓reduceIte, reduceCtorEq, String.reduceBNe, String.reduceEq, reduceDIte, Nat.reducePow, lk_old hb, p1, p2, e1, e2, e3, e4, hw0, t1, t2, w1, w2, w3, w4, w5, w6, d0.1, d0.2.1, d0.2.2.1, d0.2.2.2, d1.1, d1.2.1, d1.2.2.1, d1.2.2.2, hi1, hi2, hlen, hle0, hle1, hle2, u, s1, s2, s3, s4, hq, s5, s6]
    refine Thn_n ?_
    refine hK _ _ ?_
    clear hK K
    refine AW.cond_t rfl ?_
    refine AW.skip ?_
    refine Thn_n ?_
    refine hK _ _ ?_
    clear hK K
    refine AW.seq_k fun K hK => ?_
    refine AW.block ?_
    refine AW.seq_k fun K hK => ?_
    refine AW.region (by decide) ?_
    simp only [push_cast, Nat.reduceAdd, Nat.reduceMul, Nat.reduceSub, Nat.reduceLeDiff, Nat.reduceLT, Nat.reduceEqDiff, Nat.reduceBEq, Nat.reduceBNe, Nat.reduceMod, Nat.reduceDiv, Int.reduceLE, Int.reduceLT, Int.reduceToNat, Int.reduceAdd, Int.reduceSub, Int.reduceMul, Int.reduceNeg, Int.reduceEq, Int.reduceBEq, Int.reduceBNe, ↓reduceIte, reduceCtorEq, String.reduceBNe, String.reduceEq, reduceDIte, Nat.reducePow, lk_old hb, p1, p2, e1, e2, e3, e4, hw0, t1, t2, w1, w2, w3, w4, w5, w6, d0.1, d0.2.1, d0.2.2.1, d0.2.2.2, d1.1, d1.2.1, d1.2.2.1, d1.2.2.2, hi1, hi2, hlen, hle0, hle1, hle2, u, s1, s2, s3, s4, hq, s5, s6]
    refine Thn_n ?_
    refine hK _ _ ?_
    clear hK K
    refine AW.seq_k fun K hK => ?_
    refine AW.seq_k fun K hK => ?_
    refine AW.region (by decide) ?_
    simp only [push_cast, Nat.reduceAdd, Nat.reduceMul, Nat.reduceSub, Nat.reduceLeDiff, Nat.reduceLT, Nat.reduceEqDiff, Nat.reduceBEq, Nat.reduceBNe, Nat.reduceMod, Nat.reduceDiv, Int.reduceLE, Int.reduceLT, Int.reduceToNat, Int.reduceAdd, Int.reduceSub, Int.reduceMul, Int.reduceNeg, Int.reduceEq, Int.reduceBEq, Int.reduceBNe, ↓reduceIte, reduceCtorEq, String.reduceBNe, String.reduceEq, reduceDIte, Nat.reducePow, lk_old hb, p1, p2, e1, e2, e3, e4, hw0, t1, t2, w1, w2, w3, w4, w5, w6, d0.1, d0.2.1, d0.2.2.1, d0.2.2.2, d1.1, d1.2.1, d1.2.2.1, d1.2.2.2, hi1, hi2, hlen, hle0, hle1, hle2, u, s1, s2, s3, s4, hq, s5, s6]
    refine Thn_n ?_
    refine hK _ _ ?_
    clear hK K
    refine AW.block ?_
    refine AW.rounds 5 ?_
    refine ARounds.succ fun K hK => ?_
    refine AW.seq_k fun K hK => ?_
    refine AW.seq_k fun K hK => ?_
    refine AW.region (by decide) ?_
    simp only [push_cast, Nat.reduceAdd, Nat.reduceMul, Nat.reduceSub, Nat.reduceLeDiff, Nat.reduceLT, Nat.reduceEqDiff, Nat.reduceBEq, Nat.reduceBNe, Nat.reduceMod, Nat.reduceDiv, Int.reduceLE, Int.reduceLT, Int.reduceToNat, Int.reduceAdd, Int.reduceSub, Int.reduceMul, Int.reduceNeg, Int.reduceEq, Int.reduceBEq, Int.reduceBNe, ↓reduceIte, reduceCtorEq, String.reduceBNe, String.reduceEq, reduceDIte, Nat.reducePow, lk_old hb, p1, p2, e1, e2, e3, e4, hw0, t1, t2, w1, w2, w3, w4, w5, w6, d0.1, d0.2.1, d0.2.2.1, d0.2.2.2, d1.1, d1.2.1, d1.2.2.1, d1.2.2.2, hi1, hi2, hlen, hle0, hle1, hle2, u, s1, s2, s3, s4, hq, s5, s6]
    refine Thn_n ?_
    refine hK _ _ ?_
    clear hK K
    refine AW.cond_t rfl ?_
    refine AW.skip ?_
    refine Thn_n ?_
    refine hK _ _ ?_
    clear hK K
    refine AW.seq_k fun K hK => ?_
    refine AW.block ?_
    refine AW.region (by decide) ?_
    simp only [push_cast, Nat.reduceAdd, Nat.reduceMul, Nat.reduceSub, Nat.reduceLeDiff, Nat.reduceLT, Nat.reduceEqDiff, Nat.reduceBEq, Nat.reduceBNe, Nat.reduceMod, Nat.reduceDiv, Int.reduceLE, Int.reduceLT, Int.reduceToNat, Int.reduceAdd, Int.reduceSub, Int.reduceMul, Int.reduceNeg, Int.reduceEq, Int.reduceBEq, Int.reduceBNe, ↓reduceIte, reduceCtorEq, String.reduceBNe, String.reduceEq, reduceDIte, Nat.reducePow, lk_old hb, p1, p2, e1, e2, e3, e4, hw0, t1, t2, w1, w2, w3, w4, w5, w6, d0.1, d0.2.1, d0.2.2.1, d0.2.2.2, d1.1, d1.2.1, d1.2.2.1, d1.2.2.2, hi1, hi2, hlen, hle0, hle1, hle2, u, s1, s2, s3, s4, hq, s5, s6]
    refine CThen.by (At_j _ _ _ _ (A) (B) j1 _ _ _ _ _ hj1 (by omega) (by omega) (hp.mono _) b1 (by have := c.nl; omega)) ?_
    simp only [push_cast, Nat.reduceAdd, Nat.reduceMul, Nat.reduceSub, Nat.reduceLeDiff, Nat.reduceLT, Nat.reduceEqDiff, Nat.reduceBEq, Nat.reduceBNe, Nat.reduceMod, Nat.reduceDiv, Int.reduceLE, Int.reduceLT, Int.reduceToNat, Int.reduceAdd, Int.reduceSub, Int.reduceMul, Int.reduceNeg, Int.reduceEq, Int.reduceBEq, Int.reduceBNe, ↓reduceIte, reduceCtorEq, String.reduceBNe, String.reduceEq, reduceDIte, Nat.reducePow, lk_old hb, p1, p2, e1, e2, e3, e4, hw0, t1, t2, w1, w2, w3, w4, w5, w6, d0.1, d0.2.1, d0.2.2.1, d0.2.2.2, d1.1, d1.2.1, d1.2.2.1, d1.2.2.2, hi1, hi2, hlen, hle0, hle1, hle2, u, s1, s2, s3, s4, hq, s5, s6]
    refine InB_n ?_
    refine Thn_n ?_
    refine hK _ _ ?_
    clear hK K
    refine AW.region (by decide) ?_
    simp only [push_cast, Nat.reduceAdd, Nat.reduceMul, Nat.reduceSub, Nat.reduceLeDiff, Nat.reduceLT, Nat.reduceEqDiff, Nat.reduceBEq, Nat.reduceBNe, Nat.reduceMod, Nat.reduceDiv, Int.reduceLE, Int.reduceLT, Int.reduceToNat, Int.reduceAdd, Int.reduceSub, Int.reduceMul, Int.reduceNeg, Int.reduceEq, Int.reduceBEq, Int.reduceBNe, ↓reduceIte, reduceCtorEq, String.reduceBNe, String.reduceEq, reduceDIte, Nat.reducePow, lk_old hb, p1, p2, e1, e2, e3, e4, hw0, t1, t2, w1, w2, w3, w4, w5, w6, d0.1, d0.2.1, d0.2.2.1, d0.2.2.2, d1.1, d1.2.1, d1.2.2.1, d1.2.2.2, hi1, hi2, hlen, hle0, hle1, hle2, u, s1, s2, s3, s4, hq, s5, s6]
    refine Thn_n ?_
    refine hK _ _ ?_
    clear hK K
    refine ARounds.succ fun K hK => ?_
    refine AW.seq_k fun K hK => ?_
    refine AW.seq_k fun K hK => ?_
    refine AW.region (by decide) ?_
    simp only [push_cast, Nat.reduceAdd, Nat.reduceMul, Nat.reduceSub, Nat.reduceLeDiff, Nat.reduceLT, Nat.reduceEqDiff, Nat.reduceBEq, Nat.reduceBNe, Nat.reduceMod, Nat.reduceDiv, Int.reduceLE, Int.reduceLT, Int.reduceToNat, Int.reduceAdd, Int.reduceSub, Int.reduceMul, Int.reduceNeg, Int.reduceEq, Int.reduceBEq, Int.reduceBNe, ↓reduceIte, reduceCtorEq, String.reduceBNe, String.reduceEq, reduceDIte, Nat.reducePow, lk_old hb, p1, p2, e1, e2, e3, e4, hw0, t1, t2, w1, w2, w3, w4, w5, w6, d0.1, d0.2.1, d0.2.2.1, d0.2.2.2, d1.1, d1.2.1, d1.2.2.1, d1.2.2.2, hi1, hi2, hlen, hle0, hle1, hle2, u, s1, s2, s3, s4, hq, s5, s6]
    refine Thn_n ?_
    refine hK _ _ ?_
    clear hK K
    refine AW.cond_t rfl ?_
    refine AW.skip ?_
    refine Thn_n ?_
    refine hK _ _ ?_
    clear hK K
    refine AW.seq_k fun K hK => ?_
    refine AW.block ?_
    refine AW.region (by decide) ?_
    simp only [push_cast, Nat.reduceAdd, Nat.reduceMul, Nat.reduceSub, Nat.reduceLeDiff, Nat.reduceLT, Nat.reduceEqDiff, Nat.reduceBEq, Nat.reduceBNe, Nat.reduceMod, Nat.reduceDiv, Int.reduceLE, Int.reduceLT, Int.reduceToNat, Int.reduceAdd, Int.reduceSub, Int.reduceMul, Int.reduceNeg, Int.reduceEq, Int.reduceBEq, Int.reduceBNe, ↓reduceIte, reduceCtorEq, String.reduceBNe, String.reduceEq, reduceDIte, Nat.reducePow, lk_old hb, p1, p2, e1, e2, e3, e4, hw0, t1, t2, w1, w2, w3, w4, w5, w6, d0.1, d0.2.1, d0.2.2.1, d0.2.2.2, d1.1, d1.2.1, d1.2.2.1, d1.2.2.2, hi1, hi2, hlen, hle0, hle1, hle2, u, s1, s2, s3, s4, hq, s5, s6]
    refine CThen.by (At_j _ _ _ _ (A + 1) (B) j2 _ _ _ _ _ hj2 (by omega) (by omega) (hp.mono _) b2 (by have := c.nl; omega)) ?_
    simp only [push_cast, Nat.reduceAdd, Nat.reduceMul, Nat.reduceSub, Nat.reduceLeDiff, Nat.reduceLT, Nat.reduceEqDiff, Nat.reduceBEq, Nat.reduceBNe, Nat.reduceMod, Nat.reduceDiv, Int.reduceLE, Int.reduceLT, Int.reduceToNat, Int.reduceAdd, Int.reduceSub, Int.reduceMul, Int.reduceNeg, Int.reduceEq, Int.reduceBEq, Int.reduceBNe, ↓reduceIte, reduceCtorEq, String.reduceBNe, String.reduceEq, reduceDIte, Nat.reducePow, lk_old hb, p1, p2, e1, e2, e3, e4, hw0, t1, t2, w1, w2, w3, w4, w5, w6, d0.1, d0.2.1, d0.2.2.1, d0.2.2.2, d1.1, d1.2.1, d1.2.2.1, d1.2.2.2, hi1, hi2, hlen, hle0, hle1, hle2, u, s1, s2, s3, s4, hq, s5, s6]
    refine InB_n ?_
    refine Thn_n ?_
    refine hK _ _ ?_
    clear hK K
    refine AW.region (by decide) ?_
    simp only [push_cast, Nat.reduceAdd, Nat.reduceMul, Nat.reduceSub, Nat.reduceLeDiff, Nat.reduceLT, Nat.reduceEqDiff, Nat.reduceBEq, Nat.reduceBNe, Nat.reduceMod, Nat.reduceDiv, Int.reduceLE, Int.reduceLT, Int.reduceToNat, Int.reduceAdd, Int.reduceSub, Int.reduceMul, Int.reduceNeg, Int.reduceEq, Int.reduceBEq, Int.reduceBNe, ↓reduceIte, reduceCtorEq, String.reduceBNe, String.reduceEq, reduceDIte, Nat.reducePow, lk_old hb, p1, p2, e1, e2, e3, e4, hw0, t1, t2, w1, w2, w3, w4, w5, w6, d0.1, d0.2.1, d0.2.2.1, d0.2.2.2, d1.1, d1.2.1, d1.2.2.1, d1.2.2.2, hi1, hi2, hlen, hle0, hle1, hle2, u, s1, s2, s3, s4, hq, s5, s6]
    refine Thn_n ?_
    refine hK _ _ ?_
    clear hK K
    refine ARounds.succ fun K hK => ?_
    refine AW.seq_k fun K hK => ?_
    refine AW.seq_k fun K hK => ?_
    refine AW.region (by decide) ?_
    simp only [push_cast, Nat.reduceAdd, Nat.reduceMul, Nat.reduceSub, Nat.reduceLeDiff, Nat.reduceLT, Nat.reduceEqDiff, Nat.reduceBEq, Nat.reduceBNe, Nat.reduceMod, Nat.reduceDiv, Int.reduceLE, Int.reduceLT, Int.reduceToNat, Int.reduceAdd, Int.reduceSub, Int.reduceMul, Int.reduceNeg, Int.reduceEq, Int.reduceBEq, Int.reduceBNe, ↓reduceIte, reduceCtorEq, String.reduceBNe, String.reduceEq, reduceDIte, Nat.reducePow, lk_old hb, p1, p2, e1, e2, e3, e4, hw0, t1, t2, w1, w2, w3, w4, w5, w6, d0.1, d0.2.1, d0.2.2.1, d0.2.2.2, d1.1, d1.2.1, d1.2.2.1, d1.2.2.2, hi1, hi2, hlen, hle0, hle1, hle2, u, s1, s2, s3, s4, hq, s5, s6]
    refine Thn_n ?_
    refine hK _ _ ?_
    clear hK K
    refine AW.cond_t rfl ?_
    refine AW.skip ?_
    refine Thn_n ?_
    refine hK _ _ ?_
    clear hK K
    refine AW.seq_k fun K hK => ?_
    refine AW.block ?_
    refine AW.region (by decide) ?_
    simp only [push_cast, Nat.reduceAdd, Nat.reduceMul, Nat.reduceSub, Nat.reduceLeDiff, Nat.reduceLT, Nat.reduceEqDiff, Nat.reduceBEq, Nat.reduceBNe, Nat.reduceMod, Nat.reduceDiv, Int.reduceLE, Int.reduceLT, Int.reduceToNat, Int.reduceAdd, Int.reduceSub, Int.reduceMul, Int.reduceNeg, Int.reduceEq, Int.reduceBEq, Int.reduceBNe, ↓reduceIte, reduceCtorEq, String.reduceBNe, String.reduceEq, reduceDIte, Nat.reducePow, lk_old hb, p1, p2, e1, e2, e3, e4, hw0, t1, t2, w1, w2, w3, w4, w5, w6, d0.1, d0.2.1, d0.2.2.1, d0.2.2.2, d1.1, d1.2.1, d1.2.2.1, d1.2.2.2, hi1, hi2, hlen, hle0, hle1, hle2, u, s1, s2, s3, s4, hq, s5, s6]
    refine CThen.by (At_j _ _ _ _ (A) (B + 1) j3 _ _ _ _ _ hj3 (by omega) (by omega) (hp.mono _) b3 (by have := c.nl; omega)) ?_
    simp only [push_cast, Nat.reduceAdd, Nat.reduceMul, Nat.reduceSub, Nat.reduceLeDiff, Nat.reduceLT, Nat.reduceEqDiff, Nat.reduceBEq, Nat.reduceBNe, Nat.reduceMod, Nat.reduceDiv, Int.reduceLE, Int.reduceLT, Int.reduceToNat, Int.reduceAdd, Int.reduceSub, Int.reduceMul, Int.reduceNeg, Int.reduceEq, Int.reduceBEq, Int.reduceBNe, ↓reduceIte, reduceCtorEq, String.reduceBNe, String.reduceEq, reduceDIte, Nat.reducePow, lk_old hb, p1, p2, e1, e2, e3, e4, hw0, t1, t2, w1, w2, w3, w4, w5, w6, d0.1, d0.2.1, d0.2.2.1, d0.2.2.2, d1.1, d1.2.1, d1.2.2.1, d1.2.2.2, hi1, hi2, hlen, hle0, hle1, hle2, u, s1, s2, s3, s4, hq, s5, s6]
    refine InB_n ?_
    refine Thn_n ?_
    refine hK _ _ ?_
    clear hK K
    refine AW.region (by decide) ?_
    simp only [push_cast, Nat.reduceAdd, Nat.reduceMul, Nat.reduceSub, Nat.reduceLeDiff, Nat.reduceLT, Nat.reduceEqDiff, Nat.reduceBEq, Nat.reduceBNe, Nat.reduceMod, Nat.reduceDiv, Int.reduceLE, Int.reduceLT, Int.reduceToNat, Int.reduceAdd, Int.reduceSub, Int.reduceMul, Int.reduceNeg, Int.reduceEq, Int.reduceBEq, Int.reduceBNe, ↓reduceIte, reduceCtorEq, String.reduceBNe, String.reduceEq, reduceDIte, Nat.reducePow, lk_old hb, p1, p2, e1, e2, e3, e4, hw0, t1, t2, w1, w2, w3, w4, w5, w6, d0.1, d0.2.1, d0.2.2.1, d0.2.2.2, d1.1, d1.2.1, d1.2.2.1, d1.2.2.2, hi1, hi2, hlen, hle0, hle1, hle2, u, s1, s2, s3, s4, hq, s5, s6]
    refine Thn_n ?_
    refine hK _ _ ?_
    clear hK K
    refine ARounds.succ fun K hK => ?_
    refine AW.seq_k fun K hK => ?_
    refine AW.seq_k fun K hK => ?_
    refine AW.region (by decide) ?_
    simp only [push_cast, Nat.reduceAdd, Nat.reduceMul, Nat.reduceSub, Nat.reduceLeDiff, Nat.reduceLT, Nat.reduceEqDiff, Nat.reduceBEq, Nat.reduceBNe, Nat.reduceMod, Nat.reduceDiv, Int.reduceLE, Int.reduceLT, Int.reduceToNat, Int.reduceAdd, Int.reduceSub, Int.reduceMul, Int.reduceNeg, Int.reduceEq, Int.reduceBEq, Int.reduceBNe, ↓reduceIte, reduceCtorEq, String.reduceBNe, String.reduceEq, reduceDIte, Nat.reducePow, lk_old hb, p1, p2, e1, e2, e3, e4, hw0, t1, t2, w1, w2, w3, w4, w5, w6, d0.1, d0.2.1, d0.2.2.1, d0.2.2.2, d1.1, d1.2.1, d1.2.2.1, d1.2.2.2, hi1, hi2, hlen, hle0, hle1, hle2, u, s1, s2, s3, s4, hq, s5, s6]
    refine Thn_n ?_
    refine hK _ _ ?_
    clear hK K
    refine AW.cond_t rfl ?_
    refine AW.skip ?_
    refine Thn_n ?_
    refine hK _ _ ?_
    clear hK K
    refine AW.seq_k fun K hK => ?_
    refine AW.block ?_
    refine AW.region (by decide) ?_
    simp only [push_cast, Nat.reduceAdd, Nat.reduceMul, Nat.reduceSub, Nat.reduceLeDiff, Nat.reduceLT, Nat.reduceEqDiff, Nat.reduceBEq, Nat.reduceBNe, Nat.reduceMod, Nat.reduceDiv, Int.reduceLE, Int.reduceLT, Int.reduceToNat, Int.reduceAdd, Int.reduceSub, Int.reduceMul, Int.reduceNeg, Int.reduceEq, Int.reduceBEq, Int.reduceBNe, ↓reduceIte, reduceCtorEq, String.reduceBNe, String.reduceEq, reduceDIte, Nat.reducePow, lk_old hb, p1, p2, e1, e2, e3, e4, hw0, t1, t2, w1, w2, w3, w4, w5, w6, d0.1, d0.2.1, d0.2.2.1, d0.2.2.2, d1.1, d1.2.1, d1.2.2.1, d1.2.2.2, hi1, hi2, hlen, hle0, hle1, hle2, u, s1, s2, s3, s4, hq, s5, s6]
    refine CThen.by (At_j _ _ _ _ (A + 1) (B + 1) j4 _ _ _ _ _ hj4 (by omega) (by omega) (hp.mono _) b4 (by have := c.nl; omega)) ?_
    simp only [push_cast, Nat.reduceAdd, Nat.reduceMul, Nat.reduceSub, Nat.reduceLeDiff, Nat.reduceLT, Nat.reduceEqDiff, Nat.reduceBEq, Nat.reduceBNe, Nat.reduceMod, Nat.reduceDiv, Int.reduceLE, Int.reduceLT, Int.reduceToNat, Int.reduceAdd, Int.reduceSub, Int.reduceMul, Int.reduceNeg, Int.reduceEq, Int.reduceBEq, Int.reduceBNe, ↓reduceIte, reduceCtorEq, String.reduceBNe, String.reduceEq, reduceDIte, Nat.reducePow, lk_old hb, p1, p2, e1, e2, e3, e4, hw0, t1, t2, w1, w2, w3, w4, w5, w6, d0.1, d0.2.1, d0.2.2.1, d0.2.2.2, d1.1, d1.2.1, d1.2.2.1, d1.2.2.2, hi1, hi2, hlen, hle0, hle1, hle2, u, s1, s2, s3, s4, hq, s5, s6]
    refine InB_n ?_
    refine Thn_n ?_
    refine hK _ _ ?_
    clear hK K
    refine AW.region (by decide) ?_
    simp only [push_cast, Nat.reduceAdd, Nat.reduceMul, Nat.reduceSub, Nat.reduceLeDiff, Nat.reduceLT, Nat.reduceEqDiff, Nat.reduceBEq, Nat.reduceBNe, Nat.reduceMod, Nat.reduceDiv, Int.reduceLE, Int.reduceLT, Int.reduceToNat, Int.reduceAdd, Int.reduceSub, Int.reduceMul, Int.reduceNeg, Int.reduceEq, Int.reduceBEq, Int.reduceBNe, ↓reduceIte, reduceCtorEq, String.reduceBNe, String.reduceEq, reduceDIte, Nat.reducePow, lk_old hb, p1, p2, e1, e2, e3, e4, hw0, t1, t2, w1, w2, w3, w4, w5, w6, d0.1, d0.2.1, d0.2.2.1, d0.2.2.2, d1.1, d1.2.1, d1.2.2.1, d1.2.2.2, hi1, hi2, hlen, hle0, hle1, hle2, u, s1, s2, s3, s4, hq, s5, s6]
    refine Thn_n ?_
    refine hK _ _ ?_
    clear hK K
    refine ARounds.succ fun K hK => ?_
    refine AW.seq_k fun K hK => ?_
    refine AW.seq_k fun K hK => ?_
    refine AW.region (by decide) ?_
    simp only [push_cast, Nat.reduceAdd, Nat.reduceMul, Nat.reduceSub, Nat.reduceLeDiff, Nat.reduceLT, Nat.reduceEqDiff, Nat.reduceBEq, Nat.reduceBNe, Nat.reduceMod, Nat.reduceDiv, Int.reduceLE, Int.reduceLT, Int.reduceToNat, Int.reduceAdd, Int.reduceSub, Int.reduceMul, Int.reduceNeg, Int.reduceEq, Int.reduceBEq, Int.reduceBNe, ↓reduceIte, reduceCtorEq, String.reduceBNe, String.reduceEq, reduceDIte, Nat.reducePow, lk_old hb, p1, p2, e1, e2, e3, e4, hw0, t1, t2, w1, w2, w3, w4, w5, w6, d0.1, d0.2.1, d0.2.2.1, d0.2.2.2, d1.1, d1.2.1, d1.2.2.1, d1.2.2.2, hi1, hi2, hlen, hle0, hle1, hle2, u, s1, s2, s3, s4, hq, s5, s6]
    refine Thn_n ?_
    refine hK _ _ ?_
    clear hK K
    refine AW.cond_f rfl ?_
    refine AW.exit ?_
    refine Thn_e ?_
    clear hK K
    refine Thn_e ?_
    clear hK K
    refine InB_here ?_
    refine Thn_n ?_
    refine hK _ _ ?_
    clear hK K
    refine AW.region (by decide) ?_
    simp only [push_cast, Nat.reduceAdd, Nat.reduceMul, Nat.reduceSub, Nat.reduceLeDiff, Nat.reduceLT, Nat.reduceEqDiff, Nat.reduceBEq, Nat.reduceBNe, Nat.reduceMod, Nat.reduceDiv, Int.reduceLE, Int.reduceLT, Int.reduceToNat, Int.reduceAdd, Int.reduceSub, Int.reduceMul, Int.reduceNeg, Int.reduceEq, Int.reduceBEq, Int.reduceBNe, ↓reduceIte, reduceCtorEq, String.reduceBNe, String.reduceEq, reduceDIte, Nat.reducePow, lk_old hb, p1, p2, e1, e2, e3, e4, hw0, t1, t2, w1, w2, w3, w4, w5, w6, d0.1, d0.2.1, d0.2.2.1, d0.2.2.2, d1.1, d1.2.1, d1.2.2.1, d1.2.2.2, hi1, hi2, hlen, hle0, hle1, hle2, u, s1, s2, s3, s4, hq, s5, s6]
    refine InB_n ?_
    refine Thn_n ?_
    refine hK _ _ ?_
    clear hK K
    refine AW.region (by decide) ?_
    simp only [push_cast, Nat.reduceAdd, Nat.reduceMul, Nat.reduceSub, Nat.reduceLeDiff, Nat.reduceLT, Nat.reduceEqDiff, Nat.reduceBEq, Nat.reduceBNe, Nat.reduceMod, Nat.reduceDiv, Int.reduceLE, Int.reduceLT, Int.reduceToNat, Int.reduceAdd, Int.reduceSub, Int.reduceMul, Int.reduceNeg, Int.reduceEq, Int.reduceBEq, Int.reduceBNe, ↓reduceIte, reduceCtorEq, String.reduceBNe, String.reduceEq, reduceDIte, Nat.reducePow, lk_old hb, p1, p2, e1, e2, e3, e4, hw0, t1, t2, w1, w2, w3, w4, w5, w6, d0.1, d0.2.1, d0.2.2.1, d0.2.2.2, d1.1, d1.2.1, d1.2.2.1, d1.2.2.2, hi1, hi2, hlen, hle0, hle1, hle2, u, s1, s2, s3, s4, hq, s5, s6]
    refine Thn_n ?_
    refine hK _ _ ?_
    clear hK K
    refine ARounds.succ fun K hK => ?_
    refine AW.seq_k fun K hK => ?_
    refine AW.seq_k fun K hK => ?_
    refine AW.region (by decide) ?_
    simp only [push_cast, Nat.reduceAdd, Nat.reduceMul, Nat.reduceSub, Nat.reduceLeDiff, Nat.reduceLT, Nat.reduceEqDiff, Nat.reduceBEq, Nat.reduceBNe, Nat.reduceMod, Nat.reduceDiv, Int.reduceLE, Int.reduceLT, Int.reduceToNat, Int.reduceAdd, Int.reduceSub, Int.reduceMul, Int.reduceNeg, Int.reduceEq, Int.reduceBEq, Int.reduceBNe, ↓reduceIte, reduceCtorEq, String.reduceBNe, String.reduceEq, reduceDIte, Nat.reducePow, lk_old hb, p1, p2, e1, e2, e3, e4, hw0, t1, t2, w1, w2, w3, w4, w5, w6, d0.1, d0.2.1, d0.2.2.1, d0.2.2.2, d1.1, d1.2.1, d1.2.2.1, d1.2.2.2, hi1, hi2, hlen, hle0, hle1, hle2, u, s1, s2, s3, s4, hq, s5, s6]
    refine Thn_n ?_
    refine hK _ _ ?_
    clear hK K
    refine AW.cond_f rfl ?_
    refine AW.exit ?_
    refine Thn_e ?_
    clear hK K
    refine Thn_e ?_
    clear hK K
    refine InB_here ?_
    refine InB_n ?_
    refine Thn_n ?_
    refine hK _ _ ?_
    clear hK K
    refine AW.region (by decide) ?_
    simp only [push_cast, Nat.reduceAdd, Nat.reduceMul, Nat.reduceSub, Nat.reduceLeDiff, Nat.reduceLT, Nat.reduceEqDiff, Nat.reduceBEq, Nat.reduceBNe, Nat.reduceMod, Nat.reduceDiv, Int.reduceLE, Int.reduceLT, Int.reduceToNat, Int.reduceAdd, Int.reduceSub, Int.reduceMul, Int.reduceNeg, Int.reduceEq, Int.reduceBEq, Int.reduceBNe, ↓reduceIte, reduceCtorEq, String.reduceBNe, String.reduceEq, reduceDIte, Nat.reducePow, lk_old hb, p1, p2, e1, e2, e3, e4, hw0, t1, t2, w1, w2, w3, w4, w5, w6, d0.1, d0.2.1, d0.2.2.1, d0.2.2.2, d1.1, d1.2.1, d1.2.2.1, d1.2.2.2, hi1, hi2, hlen, hle0, hle1, hle2, u, s1, s2, s3, s4, hq, s5, s6]
    refine Thn_n ?_
    have hwi : IntKind.i64.wrap ((i:Int)+1) = (i:Int)+1 := by rw [IntKind.wrap_i64]; omega
    refine ⟨i + 1, by omega, by omega, ?_⟩
    try simp only [keepL, setAll, push_cast, Nat.reduceAdd, Nat.reduceMul, Nat.reduceSub, Nat.reduceLeDiff, Nat.reduceLT, Nat.reduceEqDiff, Nat.reduceBEq, Nat.reduceBNe, Nat.reduceMod, Nat.reduceDiv, Int.reduceLE, Int.reduceLT, Int.reduceToNat, Int.reduceAdd, Int.reduceSub, Int.reduceMul, Int.reduceNeg, Int.reduceEq, Int.reduceBEq, Int.reduceBNe, ↓reduceIte, reduceCtorEq, String.reduceBNe, String.reduceEq, reduceDIte, Nat.reducePow, lk_old hb, p1, p2, e1, e2, e3, e4, hw0, t1, t2, w1, w2, w3, w4, w5, w6, d0.1, d0.2.1, d0.2.2.1, d0.2.2.2, d1.1, d1.2.1, d1.2.2.1, d1.2.2.2, hi1, hi2, hlen, hle0, hle1, hle2, u, s1, s2, s3, s4, hq, s5, s6, hwi, hst]
    exact Weak.same (by simp only [Keeps, Tm.get_cons, Nat.reduceEqDiff, ↓reduceIte, if_true, if_false, ite_true, ite_false, true_and, and_true, and_self, reduceCtorEq, hwi, hst]) (by first | rfl | simp only [Keeps, Tm.get_cons, Nat.reduceEqDiff, ↓reduceIte, if_true, if_false, ite_true, ite_false, true_and, and_true, and_self, reduceCtorEq, hwi, hst])
  · have hie : hw * hh = i := by have := of_decide_eq_false h39; rw [← Int.natCast_mul] at this; omega
    subst hie
    have hfin := fill_all (n := hw * hh) (T := halfG hw pw G) (D := cD 0 0 0)
    refine AW.exit ?_
    refine Thn_e ?_
    clear hK K
    refine Thn_e ?_
    refine InB_here ?_
    refine Thn_n ?_
    refine hK _ _ ?_
    clear hK K
    refine AW.seq_k fun K hK => ?_
    refine AW.region (by decide) ?_
    simp only [push_cast, Nat.reduceAdd, Nat.reduceMul, Nat.reduceSub, Nat.reduceLeDiff, Nat.reduceLT, Nat.reduceEqDiff, Nat.reduceBEq, Nat.reduceBNe, Nat.reduceMod, Nat.reduceDiv, Int.reduceLE, Int.reduceLT, Int.reduceToNat, Int.reduceAdd, Int.reduceSub, Int.reduceMul, Int.reduceNeg, Int.reduceEq, Int.reduceBEq, Int.reduceBNe, ↓reduceIte, reduceCtorEq, String.reduceBNe, String.reduceEq, reduceDIte, Nat.reducePow, lk_old hb, p1, p2, e1, e2, e3, e4, hw0, hfin]
    refine Thn_n ?_
    refine hK _ _ ?_
    clear hK K
    refine AW.ret ?_
    refine hQ _ _ _ ?_
    refine RetP.pick [(m.length + 2, 0)] (Or.inr rfl) ?_ ?_ ?_ hwf ?_
    · simp only [resA, resOne, resTv, AV.tv, push_cast, Nat.reduceAdd, Nat.reduceMul, Nat.reduceSub, Nat.reduceLeDiff, Nat.reduceLT, Nat.reduceEqDiff, Nat.reduceBEq, Nat.reduceBNe, Nat.reduceMod, Nat.reduceDiv, Int.reduceLE, Int.reduceLT, Int.reduceToNat, Int.reduceAdd, Int.reduceSub, Int.reduceMul, Int.reduceNeg, Int.reduceEq, Int.reduceBEq, Int.reduceBNe, ↓reduceIte, reduceCtorEq, String.reduceBNe, String.reduceEq, reduceDIte, Nat.reducePow]
      simp [renV, renT, renL, renC, renIdx, hlt]
    · simp only [picks, push_cast, Nat.reduceAdd, Nat.reduceMul, Nat.reduceSub, Nat.reduceLeDiff, Nat.reduceLT, Nat.reduceEqDiff, Nat.reduceBEq, Nat.reduceBNe, Nat.reduceMod, Nat.reduceDiv, Int.reduceLE, Int.reduceLT, Int.reduceToNat, Int.reduceAdd, Int.reduceSub, Int.reduceMul, Int.reduceNeg, Int.reduceEq, Int.reduceBEq, Int.reduceBNe, ↓reduceIte, reduceCtorEq, String.reduceBNe, String.reduceEq, reduceDIte, Nat.reducePow]
    · simp [distinctFrom]
    · exact MWf_one (dl_below _ _ _)
    
theorem half_c (W H : Int) (r v n : Nat) (G : Nat → Nat → Int) (m : AMem) (hp : PicAt m r v n G) (hu : ∀ i k, 0 ≤ G i k ∧ G i k ≤ 255) : Ctr Try.prog 32 [.agg [.int .i64 W, .int .i64 H, .sl r v 0 n]] m ((halfF W H n G).ret m.length) (m ++ [(halfF W H n G).blk]) := by
  unfold halfF
  split
  · rename_i hc
    obtain ⟨hw, hh, pw, ph, rfl, rfl, c⟩ := halfR_nat hc
    have h1 := half_ok hw hh pw ph r v n G m hp hu c
    rw [show hw = pw / 2 by have := c.hpw; omega, show hh = ph / 2 by have := c.hph; omega] at h1
    exact h1
  · rename_i hc
    exact noP_of (half_no W H r v n m (by simpa using hc))
theorem rhalf_c (W H : Int) (r v n : Nat) (G : Nat → Nat → Int) (m : AMem) (hp : PicAt m r v n G) (hu : ∀ i k, 0 ≤ G i k ∧ G i k ≤ 255) : Ctr Try.prog 35 [.agg [.int .i64 W, .int .i64 H, .sl r v 0 n]] m ((halfF W H n G).ret m.length) (m ++ [(halfF W H n G).blk]) := by
  unfold halfF
  split
  · rename_i hc
    obtain ⟨hw, hh, pw, ph, rfl, rfl, c⟩ := halfR_nat hc
    have h1 := rhalf_ok hw hh pw ph r v n G m hp hu c
    rw [show hw = pw / 2 by have := c.hpw; omega, show hh = ph / 2 by have := c.hph; omega] at h1
    exact h1
  · rename_i hc
    exact noP_of (rhalf_no W H r v n m (by simpa using hc))
end Go.Proofs.Ytgkmjcpcigklpaa
