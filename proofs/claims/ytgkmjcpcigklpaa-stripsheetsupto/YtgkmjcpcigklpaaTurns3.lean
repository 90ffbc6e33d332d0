/- Walks and facts of this seat's program over abstract states, printed by a program of mine; no conditions but those that each theorem names. -/
import Derived.Test.YtgkmjcpcigklpaaTurns2
set_option linter.unusedSimpArgs false
set_option linter.unusedVariables false
set_option maxRecDepth 100000
set_option maxHeartbeats 4000000
namespace Go.Proofs.Ytgkmjcpcigklpaa
open Go Go.Eng

structure GrowOk (b pw ph gw gh n : Nat) : Prop where
  a1 : 1 ≤ pw
  a2 : pw ≤ 64
  a3 : 1 ≤ ph
  a4 : ph ≤ 64
  b1 : 1 ≤ b
  b2 : b ≤ 64
  c1 : 1 ≤ gw
  c2 : gw ≤ 64
  c3 : 1 ≤ gh
  c4 : gh ≤ 64
  hgw : gw = b * pw
  hgh : gh = b * ph
  hn : n = pw * ph
  hp : picR (pw : Int) (ph : Int) n = true
  hs : szR (gw : Int) (gh : Int) = true
def growG (b gw pw : Nat) (G : Nat → Nat → Int) : Nat → Nat → Int := fun i k => G (i / gw / b * pw + i % gw / b) k
def growR (W H : Int) (n : Nat) (b : Int) : Bool := picR W H n && (decide (1 ≤ b ∧ b ≤ 64) && szR (b * W) (b * H))
def growF (W H : Int) (n : Nat) (G : Nat → Nat → Int) (b : Int) : PE := if growR W H n b = true then ⟨b * W, b * H, (b.toNat * W.toNat) * (b.toNat * H.toNat), growG b.toNat (b.toNat * W.toNat) W.toNat G, 0⟩ else noP
theorem growR_nat {W H b : Int} {n : Nat} (hc : growR W H n b = true) : ∃ c pw ph : Nat, W = (pw : Int) ∧ H = (ph : Int) ∧ b = (c : Int) ∧ GrowOk c pw ph (c * pw) (c * ph) n := by
  simp only [growR, Bool.and_eq_true, decide_eq_true_eq] at hc
  obtain ⟨hp, ⟨h1, h2⟩, hs⟩ := hc
  obtain ⟨pw, ph, rfl, rfl, a1, a2, a3, a4, hn, _⟩ := picR_nat hp
  obtain ⟨c, rfl⟩ : ∃ c : Nat, b = (c : Int) := ⟨b.toNat, by omega⟩
  rw [← Int.natCast_mul, ← Int.natCast_mul] at hs
  obtain ⟨s1, s2, s3, s4⟩ := szR_iff.1 hs
  exact ⟨c, pw, ph, rfl, rfl, rfl, ⟨a1, a2, a3, a4, by omega, by omega, by omega, by omega, by omega, by omega, rfl, rfl, hn, hp, hs⟩⟩
theorem GrowOk.at {b pw ph gw gh n i : Nat} (c : GrowOk b pw ph gw gh n) (hi : i < gw * gh) : i / gw / b * pw + i % gw / b < n := by
  obtain ⟨hv, hx⟩ := row_lt hi c.c1
  rw [c.hn]
  exact ix_lt (Nat.div_lt_of_lt_mul (by rw [← c.hgw]; exact hx)) (Nat.div_lt_of_lt_mul (by rw [← c.hgh]; exact hv))
theorem GrowOk.nl {b pw ph gw gh n : Nat} (c : GrowOk b pw ph gw gh n) : n ≤ 4096 := by rw [c.hn]; exact wh_le c.a2 c.a4

theorem growd_c (b pw ph gw gh r v n bp bb i : Nat) (G : Nat → Nat → Int) (M : AMem) (hbp : M[bp]? = some ⟨.fix, 33, 0, 0, [.int .i64 (pw : Int), .int .i64 (ph : Int), .sl r v 0 n]⟩) (hbb : M[bb]? = some ⟨.fix, 3, 0, 0, [.int .i64 (b : Int)]⟩) (hp : PicAt M r v n G) (c : GrowOk b pw ph gw gh n) (hi : i < gw * gh) : Ctr Try.prog 50 [.one (.int .i64 ((i : Int).tmod (gw : Int))), .one (.int .i64 ((i : Int).tdiv (gw : Int))), .one (.ptr bp 0 0), .one (.ptr bb 0 0)] M (.agg [.int .u8 (growG b gw pw G i 0), .int .u8 (growG b gw pw G i 1), .int .u8 (growG b gw pw G i 2)]) M := by
  refine Ctr.enter Try.func50 rfl (by decide) (rs := [.cell 6 22]) (nt := 15) rfl rfl fun hwf Q hQ => ?_
  rw [tmodN, tdivN]
  have hib := c.at hi
  have b0 : ¬ (b : Int) = 0 := by have := c.b1; omega
  have w1 : IntKind.i64.wrap (((i % gw : Nat) : Int).tdiv (b : Int)) = ((i % gw / b : Nat) : Int) := by
    rw [tdivN, i64n]
    have := Nat.div_le_self (i % gw) b
    have := Nat.mod_lt i (show 0 < gw by have := c.c1; omega)
    have := c.c2
    omega
  have w2 : IntKind.i64.wrap (((i / gw : Nat) : Int).tdiv (b : Int)) = ((i / gw / b : Nat) : Int) := by
    rw [tdivN, i64n]
    have := Nat.div_le_self (i / gw) b
    have := (row_lt hi c.c1).1
    have := c.c4
    omega
  have hcg : ∀ k, growG b gw pw G i k = G (i / gw / b * pw + i % gw / b) k := fun k => rfl
  generalize hx' : i % gw / b = x' at *
  generalize hy' : i / gw / b = y' at *
  generalize hU : ((i % gw : Nat) : Int) = U at *
  generalize hV : ((i / gw : Nat) : Int) = V at *
  generalize hj : y' * pw + x' = j at *
  refine AW.seq_k fun K hK => ?_
  refine AW.region (by decide) ?_
  simp only [push_cast, Nat.reduceAdd, Nat.reduceMul, Nat.reduceSub, Nat.reduceLeDiff, Nat.reduceLT, Nat.reduceEqDiff, Nat.reduceBEq, Nat.reduceBNe, Nat.reduceMod, Nat.reduceDiv, Int.reduceLE, Int.reduceLT, Int.reduceToNat, Int.reduceAdd, Int.reduceSub, Int.reduceMul, Int.reduceNeg, Int.reduceEq, Int.reduceBEq, Int.reduceBNe, ↓reduceIte, reduceCtorEq, String.reduceBNe, String.reduceEq, reduceDIte, Nat.reducePow, hbp, lk_old hbp, hbb, lk_old hbb, w1, w2, b0, hcg]
  refine Thn_n ?_
  refine hK _ _ ?_
  clear hK K
  refine AW.seq_k fun K hK => ?_
  refine AW.draw [.rd 0, .val, .rd 0, .val, .val, .rd 0, .val, .ext, .wr] fol (by decide) (by kernel_rfl) ?_
  simp only [push_cast, Nat.reduceAdd, Nat.reduceMul, Nat.reduceSub, Nat.reduceLeDiff, Nat.reduceLT, Nat.reduceEqDiff, Nat.reduceBEq, Nat.reduceBNe, Nat.reduceMod, Nat.reduceDiv, Int.reduceLE, Int.reduceLT, Int.reduceToNat, Int.reduceAdd, Int.reduceSub, Int.reduceMul, Int.reduceNeg, Int.reduceEq, Int.reduceBEq, Int.reduceBNe, ↓reduceIte, reduceCtorEq, String.reduceBNe, String.reduceEq, reduceDIte, Nat.reducePow, hbp, lk_old hbp, hbb, lk_old hbb, w1, w2, b0, hcg]
  refine DCall.by0 (at_j _ _ _ _ x' y' j _ _ _ _ _ hj rfl rfl (hp.mono _) hib (by have := c.nl; omega)) ?_
  simp only [push_cast, Nat.reduceAdd, Nat.reduceMul, Nat.reduceSub, Nat.reduceLeDiff, Nat.reduceLT, Nat.reduceEqDiff, Nat.reduceBEq, Nat.reduceBNe, Nat.reduceMod, Nat.reduceDiv, Int.reduceLE, Int.reduceLT, Int.reduceToNat, Int.reduceAdd, Int.reduceSub, Int.reduceMul, Int.reduceNeg, Int.reduceEq, Int.reduceBEq, Int.reduceBNe, ↓reduceIte, reduceCtorEq, String.reduceBNe, String.reduceEq, reduceDIte, Nat.reducePow, hbp, lk_old hbp, hbb, lk_old hbb, w1, w2, b0, hcg]
  refine Thn_n ?_
  refine hK _ _ ?_
  clear hK K
  refine AW.ret ?_
  refine hQ _ _ _ ?_
  first | refine RetP.drop0 (Or.inr rfl) ?_ ?_ hwf | refine RetP.drop (Or.inr rfl) ?_ ?_ hwf
  · simp only [resA, resOne, resTv, AV.tv, push_cast, Nat.reduceAdd, Nat.reduceMul, Nat.reduceSub, Nat.reduceLeDiff, Nat.reduceLT, Nat.reduceEqDiff, Nat.reduceBEq, Nat.reduceBNe, Nat.reduceMod, Nat.reduceDiv, Int.reduceLE, Int.reduceLT, Int.reduceToNat, Int.reduceAdd, Int.reduceSub, Int.reduceMul, Int.reduceNeg, Int.reduceEq, Int.reduceBEq, Int.reduceBNe, ↓reduceIte, reduceCtorEq, String.reduceBNe, String.reduceEq, reduceDIte, Nat.reducePow, hbp, lk_old hbp, hbb, lk_old hbb, w1, w2, b0, hcg]
  · rfl
theorem grow_ok (b pw ph gw gh r v n : Nat) (G : Nat → Nat → Int) (m : AMem) (hp : PicAt m r v n G) (c : GrowOk b pw ph gw gh n) : Ctr Try.prog 31 [.agg [.int .i64 (pw : Int), .int .i64 (ph : Int), .sl r v 0 n], .one (.int .i64 (b : Int))] m (.tup [(true, [.int .i64 ((gw : Int)), .int .i64 ((gh : Int)), .sl m.length 0 0 (gw * gh)]), (false, [.int .i64 0])]) (m ++ [⟨.grow, 22, 0, 3, dl (gw * gh) (growG b gw pw G)⟩]) := by
  refine Ctr.enter Try.func31 rfl (by decide) (rs := [.cell 4 33, .tmp 5]) (nt := 33) rfl rfl fun hwf Q hQ => ?_
  have hlt : ∀ k, ¬ m.length + k < m.length := fun k => by omega
  obtain ⟨kp, ez, hb⟩ := hp.hb
  have hr := get_lt hb
  have q1 := c.b1
  have q2 := c.b2
  have q3 := c.c2
  have q4 := c.c4
  have p1 := c.hp
  have p2 := c.hs
  have e1 : ¬ (b : Int) < 1 := by omega
  have e2 : ¬ (64 : Int) < (b : Int) := by omega
  have e3 : IntKind.i64.wrap ((b : Int) * (pw : Int)) = (gw : Int) := by rw [← Int.natCast_mul, ← c.hgw]; exact i64n (by omega)
  have e4 : IntKind.i64.wrap ((b : Int) * (ph : Int)) = (gh : Int) := by rw [← Int.natCast_mul, ← c.hgh]; exact i64n (by omega)
  
  refine AW.seq_k fun K hK => ?_
  refine AW.region (by decide) ?_
  simp only [push_cast, Nat.reduceAdd, Nat.reduceMul, Nat.reduceSub, Nat.reduceLeDiff, Nat.reduceLT, Nat.reduceEqDiff, Nat.reduceBEq, Nat.reduceBNe, Nat.reduceMod, Nat.reduceDiv, Int.reduceLE, Int.reduceLT, Int.reduceToNat, Int.reduceAdd, Int.reduceSub, Int.reduceMul, Int.reduceNeg, Int.reduceEq, Int.reduceBEq, Int.reduceBNe, ↓reduceIte, reduceCtorEq, String.reduceBNe, String.reduceEq, reduceDIte, Nat.reducePow, lk_old hb, p1, p2, e1, e2, e3, e4]
  refine Thn_n ?_
  refine hK _ _ ?_
  clear hK K
  refine AW.seq_k fun K hK => ?_
  refine AW.seq_k fun K hK => ?_
  refine AW.region (by decide) ?_
  simp only [push_cast, Nat.reduceAdd, Nat.reduceMul, Nat.reduceSub, Nat.reduceLeDiff, Nat.reduceLT, Nat.reduceEqDiff, Nat.reduceBEq, Nat.reduceBNe, Nat.reduceMod, Nat.reduceDiv, Int.reduceLE, Int.reduceLT, Int.reduceToNat, Int.reduceAdd, Int.reduceSub, Int.reduceMul, Int.reduceNeg, Int.reduceEq, Int.reduceBEq, Int.reduceBNe, ↓reduceIte, reduceCtorEq, String.reduceBNe, String.reduceEq, reduceDIte, Nat.reducePow, lk_old hb, p1, p2, e1, e2, e3, e4]
  refine CThen.by (picRight_c _ _ _ _ _ _) ?_
  simp only [push_cast, Nat.reduceAdd, Nat.reduceMul, Nat.reduceSub, Nat.reduceLeDiff, Nat.reduceLT, Nat.reduceEqDiff, Nat.reduceBEq, Nat.reduceBNe, Nat.reduceMod, Nat.reduceDiv, Int.reduceLE, Int.reduceLT, Int.reduceToNat, Int.reduceAdd, Int.reduceSub, Int.reduceMul, Int.reduceNeg, Int.reduceEq, Int.reduceBEq, Int.reduceBNe, ↓reduceIte, reduceCtorEq, String.reduceBNe, String.reduceEq, reduceDIte, Nat.reducePow, lk_old hb, p1, p2, e1, e2, e3, e4]
  refine Thn_n ?_
  refine hK _ _ ?_
  clear hK K
  refine AW.cond_f rfl ?_
  refine AW.skip ?_
  refine Thn_n ?_
  refine hK _ _ ?_
  clear hK K
  refine AW.seq_k fun K hK => ?_
  refine AW.region (by decide) ?_
  simp only [push_cast, Nat.reduceAdd, Nat.reduceMul, Nat.reduceSub, Nat.reduceLeDiff, Nat.reduceLT, Nat.reduceEqDiff, Nat.reduceBEq, Nat.reduceBNe, Nat.reduceMod, Nat.reduceDiv, Int.reduceLE, Int.reduceLT, Int.reduceToNat, Int.reduceAdd, Int.reduceSub, Int.reduceMul, Int.reduceNeg, Int.reduceEq, Int.reduceBEq, Int.reduceBNe, ↓reduceIte, reduceCtorEq, String.reduceBNe, String.reduceEq, reduceDIte, Nat.reducePow, lk_old hb, p1, p2, e1, e2, e3, e4]
  refine CThen.by (make_c _ _ _ _ (gw * gh) (growG b gw pw G) _ p2 (by simp) (by simp [CV.below]) (fun i ex hi => by simp only [capsAV, List.map_cons, List.map_nil, List.cons_append, List.nil_append, List.append_assoc]; exact growd_c b pw ph gw gh r v n _ _ i G _ (by simp only [push_cast, Nat.reduceAdd, Nat.reduceMul, Nat.reduceSub, Nat.reduceLeDiff, Nat.reduceLT, Nat.reduceEqDiff, Nat.reduceBEq, Nat.reduceBNe, Nat.reduceMod, Nat.reduceDiv, Int.reduceLE, Int.reduceLT, Int.reduceToNat, Int.reduceAdd, Int.reduceSub, Int.reduceMul, Int.reduceNeg, Int.reduceEq, Int.reduceBEq, Int.reduceBNe, ↓reduceIte, reduceCtorEq, String.reduceBNe, String.reduceEq, reduceDIte, Nat.reducePow]) (by simp only [push_cast, Nat.reduceAdd, Nat.reduceMul, Nat.reduceSub, Nat.reduceLeDiff, Nat.reduceLT, Nat.reduceEqDiff, Nat.reduceBEq, Nat.reduceBNe, Nat.reduceMod, Nat.reduceDiv, Int.reduceLE, Int.reduceLT, Int.reduceToNat, Int.reduceAdd, Int.reduceSub, Int.reduceMul, Int.reduceNeg, Int.reduceEq, Int.reduceBEq, Int.reduceBNe, ↓reduceIte, reduceCtorEq, String.reduceBNe, String.reduceEq, reduceDIte, Nat.reducePow]) (hp.mono _) c hi)) ?_
  simp only [push_cast, Nat.reduceAdd, Nat.reduceMul, Nat.reduceSub, Nat.reduceLeDiff, Nat.reduceLT, Nat.reduceEqDiff, Nat.reduceBEq, Nat.reduceBNe, Nat.reduceMod, Nat.reduceDiv, Int.reduceLE, Int.reduceLT, Int.reduceToNat, Int.reduceAdd, Int.reduceSub, Int.reduceMul, Int.reduceNeg, Int.reduceEq, Int.reduceBEq, Int.reduceBNe, ↓reduceIte, reduceCtorEq, String.reduceBNe, String.reduceEq, reduceDIte, Nat.reducePow, lk_old hb, p1, p2, e1, e2, e3, e4]
  refine Thn_n ?_
  refine hK _ _ ?_
  clear hK K
  refine AW.ret ?_
  refine hQ _ _ _ ?_
  refine RetP.pick [(m.length + 3, 0)] (Or.inr rfl) ?_ ?_ ?_ hwf ?_
  · simp only [resA, resOne, resTv, AV.tv, push_cast, Nat.reduceAdd, Nat.reduceMul, Nat.reduceSub, Nat.reduceLeDiff, Nat.reduceLT, Nat.reduceEqDiff, Nat.reduceBEq, Nat.reduceBNe, Nat.reduceMod, Nat.reduceDiv, Int.reduceLE, Int.reduceLT, Int.reduceToNat, Int.reduceAdd, Int.reduceSub, Int.reduceMul, Int.reduceNeg, Int.reduceEq, Int.reduceBEq, Int.reduceBNe, ↓reduceIte, reduceCtorEq, String.reduceBNe, String.reduceEq, reduceDIte, Nat.reducePow]
    simp [renV, renT, renL, renC, renIdx, hlt]
  · simp only [picks, push_cast, Nat.reduceAdd, Nat.reduceMul, Nat.reduceSub, Nat.reduceLeDiff, Nat.reduceLT, Nat.reduceEqDiff, Nat.reduceBEq, Nat.reduceBNe, Nat.reduceMod, Nat.reduceDiv, Int.reduceLE, Int.reduceLT, Int.reduceToNat, Int.reduceAdd, Int.reduceSub, Int.reduceMul, Int.reduceNeg, Int.reduceEq, Int.reduceBEq, Int.reduceBNe, ↓reduceIte, reduceCtorEq, String.reduceBNe, String.reduceEq, reduceDIte, Nat.reducePow]
  · simp [distinctFrom]
  · exact MWf_one (dl_below _ _ _)
  
theorem wrapB2 {W H b : Int} {n : Nat} (hp : picR W H n = true) (h1 : ¬ b < 1) (h2 : ¬ 64 < b) : IntKind.i64.wrap (b * W) = b * W ∧ IntKind.i64.wrap (b * H) = b * H := by
  obtain ⟨pw, ph, rfl, rfl, a1, a2, a3, a4, hn, _⟩ := picR_nat hp
  obtain ⟨c, rfl⟩ : ∃ c : Nat, b = (c : Int) := ⟨b.toNat, by omega⟩
  have h3 := wh_le (show c ≤ 64 by omega) a2
  have h4 := wh_le (show c ≤ 64 by omega) a4
  rw [← Int.natCast_mul, ← Int.natCast_mul, i64n (by omega), i64n (by omega)]
  exact ⟨rfl, rfl⟩
theorem grow_noS {W H b : Int} {n : Nat} (hp : picR W H n = true) (h1 : ¬ b < 1) (h2 : ¬ 64 < b) (hbad : growR W H n b = false) : szR (IntKind.i64.wrap (b * W)) (IntKind.i64.wrap (b * H)) = false := by
  obtain ⟨w1, w2⟩ := wrapB2 hp h1 h2
  rw [w1, w2]
  simp only [growR, hp, Bool.true_and] at hbad
  rw [decide_eq_true (show 1 ≤ b ∧ b ≤ 64 by omega), Bool.true_and] at hbad
  exact hbad
theorem grow_no1 (W H b : Int) (r v n : Nat) (m : AMem) (hbad : growR W H n b = false) (p1 : picR W H n = true) (p2 : ¬ b < 1) (p3 : ¬ 64 < b) : Ctr Try.prog 31 [.agg [.int .i64 W, .int .i64 H, .sl r v 0 n], .one (.int .i64 b)] m (.tup [(true, [.int .i64 0, .int .i64 0, .nils]), (false, [.int .i64 1])]) m := by
  refine Ctr.enter Try.func31 rfl (by decide) (rs := [.cell 4 33, .tmp 5]) (nt := 33) rfl rfl fun hwf Q hQ => ?_
  have hlt : ∀ k, ¬ m.length + k < m.length := fun k => by omega
  have p4 := grow_noS p1 p2 p3 hbad
  refine AW.seq_k fun K hK => ?_
  refine AW.region (by decide) ?_
  simp only [push_cast, Nat.reduceAdd, Nat.reduceMul, Nat.reduceSub, Nat.reduceLeDiff, Nat.reduceLT, Nat.reduceEqDiff, Nat.reduceBEq, Nat.reduceBNe, Nat.reduceMod, Nat.reduceDiv, Int.reduceLE, Int.reduceLT, Int.reduceToNat, Int.reduceAdd, Int.reduceSub, Int.reduceMul, Int.reduceNeg, Int.reduceEq, Int.reduceBEq, Int.reduceBNe, ↓reduceIte, reduceCtorEq, String.reduceBNe, String.reduceEq, reduceDIte, Nat.reducePow, p1, p2, p3, p4]
  refine Thn_n ?_
  refine hK _ _ ?_
  clear hK K
  refine AW.seq_k fun K hK => ?_
  refine AW.seq_k fun K hK => ?_
  refine AW.region (by decide) ?_
  simp only [push_cast, Nat.reduceAdd, Nat.reduceMul, Nat.reduceSub, Nat.reduceLeDiff, Nat.reduceLT, Nat.reduceEqDiff, Nat.reduceBEq, Nat.reduceBNe, Nat.reduceMod, Nat.reduceDiv, Int.reduceLE, Int.reduceLT, Int.reduceToNat, Int.reduceAdd, Int.reduceSub, Int.reduceMul, Int.reduceNeg, Int.reduceEq, Int.reduceBEq, Int.reduceBNe, ↓reduceIte, reduceCtorEq, String.reduceBNe, String.reduceEq, reduceDIte, Nat.reducePow, p1, p2, p3, p4]
  refine CThen.by (picRight_c _ _ _ _ _ _) ?_
  simp only [push_cast, Nat.reduceAdd, Nat.reduceMul, Nat.reduceSub, Nat.reduceLeDiff, Nat.reduceLT, Nat.reduceEqDiff, Nat.reduceBEq, Nat.reduceBNe, Nat.reduceMod, Nat.reduceDiv, Int.reduceLE, Int.reduceLT, Int.reduceToNat, Int.reduceAdd, Int.reduceSub, Int.reduceMul, Int.reduceNeg, Int.reduceEq, Int.reduceBEq, Int.reduceBNe, ↓reduceIte, reduceCtorEq, String.reduceBNe, String.reduceEq, reduceDIte, Nat.reducePow, p1, p2, p3, p4]
  refine Thn_n ?_
  refine hK _ _ ?_
  clear hK K
  refine AW.cond_f rfl ?_
  refine AW.skip ?_
  refine Thn_n ?_
  refine hK _ _ ?_
  clear hK K
  refine AW.seq_k fun K hK => ?_
  refine AW.region (by decide) ?_
  simp only [push_cast, Nat.reduceAdd, Nat.reduceMul, Nat.reduceSub, Nat.reduceLeDiff, Nat.reduceLT, Nat.reduceEqDiff, Nat.reduceBEq, Nat.reduceBNe, Nat.reduceMod, Nat.reduceDiv, Int.reduceLE, Int.reduceLT, Int.reduceToNat, Int.reduceAdd, Int.reduceSub, Int.reduceMul, Int.reduceNeg, Int.reduceEq, Int.reduceBEq, Int.reduceBNe, ↓reduceIte, reduceCtorEq, String.reduceBNe, String.reduceEq, reduceDIte, Nat.reducePow, p1, p2, p3, p4]
  refine CThen.by (make_bad _ _ _ _ _ p4) ?_
  simp only [push_cast, Nat.reduceAdd, Nat.reduceMul, Nat.reduceSub, Nat.reduceLeDiff, Nat.reduceLT, Nat.reduceEqDiff, Nat.reduceBEq, Nat.reduceBNe, Nat.reduceMod, Nat.reduceDiv, Int.reduceLE, Int.reduceLT, Int.reduceToNat, Int.reduceAdd, Int.reduceSub, Int.reduceMul, Int.reduceNeg, Int.reduceEq, Int.reduceBEq, Int.reduceBNe, ↓reduceIte, reduceCtorEq, String.reduceBNe, String.reduceEq, reduceDIte, Nat.reducePow, p1, p2, p3, p4]
  refine Thn_n ?_
  refine hK _ _ ?_
  clear hK K
  refine AW.ret ?_
  refine hQ _ _ _ ?_
  first | refine RetP.drop0 (Or.inr rfl) ?_ ?_ hwf | refine RetP.drop (Or.inr rfl) ?_ ?_ hwf
  · simp only [resA, resOne, resTv, AV.tv, push_cast, Nat.reduceAdd, Nat.reduceMul, Nat.reduceSub, Nat.reduceLeDiff, Nat.reduceLT, Nat.reduceEqDiff, Nat.reduceBEq, Nat.reduceBNe, Nat.reduceMod, Nat.reduceDiv, Int.reduceLE, Int.reduceLT, Int.reduceToNat, Int.reduceAdd, Int.reduceSub, Int.reduceMul, Int.reduceNeg, Int.reduceEq, Int.reduceBEq, Int.reduceBNe, ↓reduceIte, reduceCtorEq, String.reduceBNe, String.reduceEq, reduceDIte, Nat.reducePow, p1, p2, p3, p4]
  · rfl
theorem grow_no2 (W H b : Int) (r v n : Nat) (m : AMem) (hb3 : ¬ (picR W H n = true ∧ ¬ b < 1 ∧ ¬ 64 < b)) : Ctr Try.prog 31 [.agg [.int .i64 W, .int .i64 H, .sl r v 0 n], .one (.int .i64 b)] m (.tup [(true, [.int .i64 0, .int .i64 0, .nils]), (false, [.int .i64 1])]) m := by
  refine Ctr.enter Try.func31 rfl (by decide) (rs := [.cell 4 33, .tmp 5]) (nt := 33) rfl rfl fun hwf Q hQ => ?_
  rcases chain3 (picR W H n = true) (¬ b < 1) (¬ 64 < b) with ⟨p1, p2, p3⟩ | ⟨p1, p2, p3⟩ | ⟨p1, p2, p3⟩ | ⟨p1, p2, p3⟩
  · exact absurd ⟨p1, p2, p3⟩ hb3
  all_goals (
  try simp only [Bool.not_eq_true, Bool.not_eq_false, Classical.not_not] at p1 p2 p3
  refine AW.seq_k fun K hK => ?_
  refine AW.region (by decide) ?_
  simp only [push_cast, Nat.reduceAdd, Nat.reduceMul, Nat.reduceSub, Nat.reduceLeDiff, Nat.reduceLT, Nat.reduceEqDiff, Nat.reduceBEq, Nat.reduceBNe, Nat.reduceMod, Nat.reduceDiv, Int.reduceLE, Int.reduceLT, Int.reduceToNat, Int.reduceAdd, Int.reduceSub, Int.reduceMul, Int.reduceNeg, Int.reduceEq, Int.reduceBEq, Int.reduceBNe, ↓reduceIte, reduceCtorEq, String.reduceBNe, String.reduceEq, reduceDIte, Nat.reducePow, p1, p2, p3]
  refine Thn_n ?_
  refine hK _ _ ?_
  clear hK K
  refine AW.seq_k fun K hK => ?_
  refine AW.seq_k fun K hK => ?_
  refine AW.region (by decide) ?_
  simp only [push_cast, Nat.reduceAdd, Nat.reduceMul, Nat.reduceSub, Nat.reduceLeDiff, Nat.reduceLT, Nat.reduceEqDiff, Nat.reduceBEq, Nat.reduceBNe, Nat.reduceMod, Nat.reduceDiv, Int.reduceLE, Int.reduceLT, Int.reduceToNat, Int.reduceAdd, Int.reduceSub, Int.reduceMul, Int.reduceNeg, Int.reduceEq, Int.reduceBEq, Int.reduceBNe, ↓reduceIte, reduceCtorEq, String.reduceBNe, String.reduceEq, reduceDIte, Nat.reducePow, p1, p2, p3]
  try (refine CThen.by (picRight_c _ _ _ _ _ _) ?_; simp only [push_cast, Nat.reduceAdd, Nat.reduceMul, Nat.reduceSub, Nat.reduceLeDiff, Nat.reduceLT, Nat.reduceEqDiff, Nat.reduceBEq, Nat.reduceBNe, Nat.reduceMod, Nat.reduceDiv, Int.reduceLE, Int.reduceLT, Int.reduceToNat, Int.reduceAdd, Int.reduceSub, Int.reduceMul, Int.reduceNeg, Int.reduceEq, Int.reduceBEq, Int.reduceBNe, ↓reduceIte, reduceCtorEq, String.reduceBNe, String.reduceEq, reduceDIte, Nat.reducePow, p1, p2, p3])
  refine Thn_n ?_
  refine hK _ _ ?_
  clear hK K
  refine AW.cond_t rfl ?_
  refine AW.seq_k fun K hK => ?_
  refine AW.region (by decide) ?_
  simp only [push_cast, Nat.reduceAdd, Nat.reduceMul, Nat.reduceSub, Nat.reduceLeDiff, Nat.reduceLT, Nat.reduceEqDiff, Nat.reduceBEq, Nat.reduceBNe, Nat.reduceMod, Nat.reduceDiv, Int.reduceLE, Int.reduceLT, Int.reduceToNat, Int.reduceAdd, Int.reduceSub, Int.reduceMul, Int.reduceNeg, Int.reduceEq, Int.reduceBEq, Int.reduceBNe, ↓reduceIte, reduceCtorEq, String.reduceBNe, String.reduceEq, reduceDIte, Nat.reducePow, p1, p2, p3]
  refine Thn_n ?_
  refine hK _ _ ?_
  clear hK K
  refine AW.ret ?_
  refine Thn_r ?_
  refine hQ _ _ _ ?_
  first | refine RetP.drop0 (Or.inr rfl) ?_ ?_ hwf | refine RetP.drop (Or.inr rfl) ?_ ?_ hwf
  · simp only [resA, resOne, resTv, AV.tv, push_cast, Nat.reduceAdd, Nat.reduceMul, Nat.reduceSub, Nat.reduceLeDiff, Nat.reduceLT, Nat.reduceEqDiff, Nat.reduceBEq, Nat.reduceBNe, Nat.reduceMod, Nat.reduceDiv, Int.reduceLE, Int.reduceLT, Int.reduceToNat, Int.reduceAdd, Int.reduceSub, Int.reduceMul, Int.reduceNeg, Int.reduceEq, Int.reduceBEq, Int.reduceBNe, ↓reduceIte, reduceCtorEq, String.reduceBNe, String.reduceEq, reduceDIte, Nat.reducePow, p1, p2, p3]
  · rfl
  )
theorem grow_no (W H b : Int) (r v n : Nat) (m : AMem) (hbad : growR W H n b = false) : Ctr Try.prog 31 [.agg [.int .i64 W, .int .i64 H, .sl r v 0 n], .one (.int .i64 b)] m (.tup [(true, [.int .i64 0, .int .i64 0, .nils]), (false, [.int .i64 1])]) m := by
  by_cases h : picR W H n = true ∧ ¬ b < 1 ∧ ¬ 64 < b
  · exact grow_no1 W H b r v n m hbad h.1 h.2.1 h.2.2
  · exact grow_no2 W H b r v n m h
theorem rgrow_no (W H b : Int) (r v n : Nat) (m : AMem) (hbad : growR W H n b = false) : Ctr Try.prog 34 [.agg [.int .i64 W, .int .i64 H, .sl r v 0 n], .one (.int .i64 b)] m (.tup [(true, [.int .i64 0, .int .i64 0, .nils]), (false, [.int .i64 1])]) m := by
  refine Ctr.enter Try.func34 rfl (by decide) (rs := [.cell 4 29, .tmp 5]) (nt := 68) rfl rfl fun hwf Q hQ => ?_
  rcases chain4 (picR W H n = true) (¬ b < 1) (¬ 64 < b) (szR (IntKind.i64.wrap (b * W)) (IntKind.i64.wrap (b * H)) = true) with ⟨p1, p2, p3, p4⟩ | ⟨p1, p2, p3, p4⟩ | ⟨p1, p2, p3, p4⟩ | ⟨p1, p2, p3, p4⟩ | ⟨p1, p2, p3, p4⟩
  · exfalso
    rw [grow_noS p1 p2 p3 hbad] at p4; cases p4
  all_goals (
  try simp only [Bool.not_eq_true, Bool.not_eq_false, Classical.not_not] at p1 p2 p3 p4
  refine AW.seq_k fun K hK => ?_
  refine AW.region (by decide) ?_
  simp only [push_cast, Nat.reduceAdd, Nat.reduceMul, Nat.reduceSub, Nat.reduceLeDiff, Nat.reduceLT, Nat.reduceEqDiff, Nat.reduceBEq, Nat.reduceBNe, Nat.reduceMod, Nat.reduceDiv, Int.reduceLE, Int.reduceLT, Int.reduceToNat, Int.reduceAdd, Int.reduceSub, Int.reduceMul, Int.reduceNeg, Int.reduceEq, Int.reduceBEq, Int.reduceBNe, ↓reduceIte, reduceCtorEq, String.reduceBNe, String.reduceEq, reduceDIte, Nat.reducePow, p1, p2, p3, p4]
  refine Thn_n ?_
  refine hK _ _ ?_
  clear hK K
  refine AW.seq_k fun K hK => ?_
  refine AW.seq_k fun K hK => ?_
  refine AW.region (by decide) ?_
  simp only [push_cast, Nat.reduceAdd, Nat.reduceMul, Nat.reduceSub, Nat.reduceLeDiff, Nat.reduceLT, Nat.reduceEqDiff, Nat.reduceBEq, Nat.reduceBNe, Nat.reduceMod, Nat.reduceDiv, Int.reduceLE, Int.reduceLT, Int.reduceToNat, Int.reduceAdd, Int.reduceSub, Int.reduceMul, Int.reduceNeg, Int.reduceEq, Int.reduceBEq, Int.reduceBNe, ↓reduceIte, reduceCtorEq, String.reduceBNe, String.reduceEq, reduceDIte, Nat.reducePow, p1, p2, p3, p4]
  try (refine CThen.by (refRight_c _ _ _ _ _ _) ?_; simp only [push_cast, Nat.reduceAdd, Nat.reduceMul, Nat.reduceSub, Nat.reduceLeDiff, Nat.reduceLT, Nat.reduceEqDiff, Nat.reduceBEq, Nat.reduceBNe, Nat.reduceMod, Nat.reduceDiv, Int.reduceLE, Int.reduceLT, Int.reduceToNat, Int.reduceAdd, Int.reduceSub, Int.reduceMul, Int.reduceNeg, Int.reduceEq, Int.reduceBEq, Int.reduceBNe, ↓reduceIte, reduceCtorEq, String.reduceBNe, String.reduceEq, reduceDIte, Nat.reducePow, p1, p2, p3, p4])
  try (refine CThen.by (rightSize_c _ _ _) ?_; simp only [push_cast, Nat.reduceAdd, Nat.reduceMul, Nat.reduceSub, Nat.reduceLeDiff, Nat.reduceLT, Nat.reduceEqDiff, Nat.reduceBEq, Nat.reduceBNe, Nat.reduceMod, Nat.reduceDiv, Int.reduceLE, Int.reduceLT, Int.reduceToNat, Int.reduceAdd, Int.reduceSub, Int.reduceMul, Int.reduceNeg, Int.reduceEq, Int.reduceBEq, Int.reduceBNe, ↓reduceIte, reduceCtorEq, String.reduceBNe, String.reduceEq, reduceDIte, Nat.reducePow, p1, p2, p3, p4])
  refine Thn_n ?_
  refine hK _ _ ?_
  clear hK K
  refine AW.cond_t rfl ?_
  refine AW.seq_k fun K hK => ?_
  refine AW.region (by decide) ?_
  simp only [push_cast, Nat.reduceAdd, Nat.reduceMul, Nat.reduceSub, Nat.reduceLeDiff, Nat.reduceLT, Nat.reduceEqDiff, Nat.reduceBEq, Nat.reduceBNe, Nat.reduceMod, Nat.reduceDiv, Int.reduceLE, Int.reduceLT, Int.reduceToNat, Int.reduceAdd, Int.reduceSub, Int.reduceMul, Int.reduceNeg, Int.reduceEq, Int.reduceBEq, Int.reduceBNe, ↓reduceIte, reduceCtorEq, String.reduceBNe, String.reduceEq, reduceDIte, Nat.reducePow, p1, p2, p3, p4]
  refine Thn_n ?_
  refine hK _ _ ?_
  clear hK K
  refine AW.ret ?_
  refine Thn_r ?_
  refine hQ _ _ _ ?_
  first | refine RetP.drop0 (Or.inr rfl) ?_ ?_ hwf | refine RetP.drop (Or.inr rfl) ?_ ?_ hwf
  · simp only [resA, resOne, resTv, AV.tv, push_cast, Nat.reduceAdd, Nat.reduceMul, Nat.reduceSub, Nat.reduceLeDiff, Nat.reduceLT, Nat.reduceEqDiff, Nat.reduceBEq, Nat.reduceBNe, Nat.reduceMod, Nat.reduceDiv, Int.reduceLE, Int.reduceLT, Int.reduceToNat, Int.reduceAdd, Int.reduceSub, Int.reduceMul, Int.reduceNeg, Int.reduceEq, Int.reduceBEq, Int.reduceBNe, ↓reduceIte, reduceCtorEq, String.reduceBNe, String.reduceEq, reduceDIte, Nat.reducePow, p1, p2, p3, p4]
  · rfl
  )
theorem rgrow_ok (b pw ph gw gh r v n : Nat) (G : Nat → Nat → Int) (m : AMem) (hp : PicAt m r v n G) (c : GrowOk b pw ph gw gh n) : Ctr Try.prog 34 [.agg [.int .i64 (pw : Int), .int .i64 (ph : Int), .sl r v 0 n], .one (.int .i64 (b : Int))] m (.tup [(true, [.int .i64 ((gw : Int)), .int .i64 ((gh : Int)), .sl m.length 0 0 (gw * gh)]), (false, [.int .i64 0])]) (m ++ [⟨.grow, 22, 0, 3, dl (gw * gh) (growG b gw pw G)⟩]) := by
  refine Ctr.enter Try.func34 rfl (by decide) (rs := [.cell 4 29, .tmp 5]) (nt := 68) rfl rfl fun hwf Q hQ => ?_
  have hlt : ∀ k, ¬ m.length + k < m.length := fun k => by omega
  obtain ⟨kp, ez, hb⟩ := hp.hb
  have hr := get_lt hb
  have q1 := c.b1
  have q2 := c.b2
  have q3 := c.c2
  have q4 := c.c4
  have p1 := c.hp
  have p2 := c.hs
  have e1 : ¬ (b : Int) < 1 := by omega
  have e2 : ¬ (64 : Int) < (b : Int) := by omega
  have e3 : IntKind.i64.wrap ((b : Int) * (pw : Int)) = (gw : Int) := by rw [← Int.natCast_mul, ← c.hgw]; exact i64n (by omega)
  have e4 : IntKind.i64.wrap ((b : Int) * (ph : Int)) = (gh : Int) := by rw [← Int.natCast_mul, ← c.hgh]; exact i64n (by omega)
  have hwh := wh_le q3 q4
  have g0 : ¬ (gw : Int) = 0 := by have := c.c1; omega
  refine AW.seq_k fun K hK => ?_
  refine AW.region (by decide) ?_
  simp only [push_cast, Nat.reduceAdd, Nat.reduceMul, Nat.reduceSub, Nat.reduceLeDiff, Nat.reduceLT, Nat.reduceEqDiff, Nat.reduceBEq, Nat.reduceBNe, Nat.reduceMod, Nat.reduceDiv, Int.reduceLE, Int.reduceLT, Int.reduceToNat, Int.reduceAdd, Int.reduceSub, Int.reduceMul, Int.reduceNeg, Int.reduceEq, Int.reduceBEq, Int.reduceBNe, ↓reduceIte, reduceCtorEq, String.reduceBNe, String.reduceEq, reduceDIte, Nat.reducePow, lk_old hb, p1, p2, e1, e2, e3, e4, g0]
  refine Thn_n ?_
  refine hK _ _ ?_
  clear hK K
  refine AW.seq_k fun K hK => ?_
  refine AW.seq_k fun K hK => ?_
  refine AW.region (by decide) ?_
  simp only [push_cast, Nat.reduceAdd, Nat.reduceMul, Nat.reduceSub, Nat.reduceLeDiff, Nat.reduceLT, Nat.reduceEqDiff, Nat.reduceBEq, Nat.reduceBNe, Nat.reduceMod, Nat.reduceDiv, Int.reduceLE, Int.reduceLT, Int.reduceToNat, Int.reduceAdd, Int.reduceSub, Int.reduceMul, Int.reduceNeg, Int.reduceEq, Int.reduceBEq, Int.reduceBNe, ↓reduceIte, reduceCtorEq, String.reduceBNe, String.reduceEq, reduceDIte, Nat.reducePow, lk_old hb, p1, p2, e1, e2, e3, e4, g0]
  refine CThen.by (refRight_c _ _ _ _ _ _) ?_
  simp only [push_cast, Nat.reduceAdd, Nat.reduceMul, Nat.reduceSub, Nat.reduceLeDiff, Nat.reduceLT, Nat.reduceEqDiff, Nat.reduceBEq, Nat.reduceBNe, Nat.reduceMod, Nat.reduceDiv, Int.reduceLE, Int.reduceLT, Int.reduceToNat, Int.reduceAdd, Int.reduceSub, Int.reduceMul, Int.reduceNeg, Int.reduceEq, Int.reduceBEq, Int.reduceBNe, ↓reduceIte, reduceCtorEq, String.reduceBNe, String.reduceEq, reduceDIte, Nat.reducePow, lk_old hb, p1, p2, e1, e2, e3, e4, g0]
  refine CThen.by (rightSize_c _ _ _) ?_
  simp only [push_cast, Nat.reduceAdd, Nat.reduceMul, Nat.reduceSub, Nat.reduceLeDiff, Nat.reduceLT, Nat.reduceEqDiff, Nat.reduceBEq, Nat.reduceBNe, Nat.reduceMod, Nat.reduceDiv, Int.reduceLE, Int.reduceLT, Int.reduceToNat, Int.reduceAdd, Int.reduceSub, Int.reduceMul, Int.reduceNeg, Int.reduceEq, Int.reduceBEq, Int.reduceBNe, ↓reduceIte, reduceCtorEq, String.reduceBNe, String.reduceEq, reduceDIte, Nat.reducePow, lk_old hb, p1, p2, e1, e2, e3, e4, g0]
  refine Thn_n ?_
  refine hK _ _ ?_
  clear hK K
  refine AW.cond_f rfl ?_
  refine AW.skip ?_
  refine Thn_n ?_
  refine hK _ _ ?_
  clear hK K
  refine AW.seq_k fun K hK => ?_
  refine AW.region (by decide) ?_
  simp only [push_cast, Nat.reduceAdd, Nat.reduceMul, Nat.reduceSub, Nat.reduceLeDiff, Nat.reduceLT, Nat.reduceEqDiff, Nat.reduceBEq, Nat.reduceBNe, Nat.reduceMod, Nat.reduceDiv, Int.reduceLE, Int.reduceLT, Int.reduceToNat, Int.reduceAdd, Int.reduceSub, Int.reduceMul, Int.reduceNeg, Int.reduceEq, Int.reduceBEq, Int.reduceBNe, ↓reduceIte, reduceCtorEq, String.reduceBNe, String.reduceEq, reduceDIte, Nat.reducePow, lk_old hb, p1, p2, e1, e2, e3, e4, g0]
  refine CThen.by (rplain_ok _ _ _ _ _ (gw * gh) _ p2 (by simp)) ?_
  simp only [push_cast, Nat.reduceAdd, Nat.reduceMul, Nat.reduceSub, Nat.reduceLeDiff, Nat.reduceLT, Nat.reduceEqDiff, Nat.reduceBEq, Nat.reduceBNe, Nat.reduceMod, Nat.reduceDiv, Int.reduceLE, Int.reduceLT, Int.reduceToNat, Int.reduceAdd, Int.reduceSub, Int.reduceMul, Int.reduceNeg, Int.reduceEq, Int.reduceBEq, Int.reduceBNe, ↓reduceIte, reduceCtorEq, String.reduceBNe, String.reduceEq, reduceDIte, Nat.reducePow, lk_old hb, p1, p2, e1, e2, e3, e4, g0]
  refine Thn_n ?_
  refine hK _ _ ?_
  clear hK K
  refine AW.seq_k fun K hK => ?_
  refine AW.seq_k fun K hK => ?_
  refine AW.region (by decide) ?_
  simp only [push_cast, Nat.reduceAdd, Nat.reduceMul, Nat.reduceSub, Nat.reduceLeDiff, Nat.reduceLT, Nat.reduceEqDiff, Nat.reduceBEq, Nat.reduceBNe, Nat.reduceMod, Nat.reduceDiv, Int.reduceLE, Int.reduceLT, Int.reduceToNat, Int.reduceAdd, Int.reduceSub, Int.reduceMul, Int.reduceNeg, Int.reduceEq, Int.reduceBEq, Int.reduceBNe, ↓reduceIte, reduceCtorEq, String.reduceBNe, String.reduceEq, reduceDIte, Nat.reducePow, lk_old hb, p1, p2, e1, e2, e3, e4, g0]
  refine Thn_n ?_
  refine hK _ _ ?_
  clear hK K
  refine AW.block ?_
  refine AW.loopK [1, 2, 4, 6] (fun i => i ≤ gw * gh) (fun i => [(7, .one (.int .i64 (i : Int)))]) (fun i => [(m.length + 2, ⟨.grow, 22, 0, 3, dl (gw * gh) (fillT (growG b gw pw G) (cD 0 0 0) i)⟩)]) (fun i => gw * gh - i) 0 (by omega) ?_ ?_ fun i hi7 => ?_
  · first | rfl | (simp only [Keeps, Tm.get_cons, Nat.reduceEqDiff, ↓reduceIte, if_true, if_false, ite_true, ite_false, true_and, and_true, and_self, reduceCtorEq, fill_none] <;> rfl)
  · first | rfl | (simp only [setAll, push_cast, Nat.reduceAdd, Nat.reduceMul, Nat.reduceSub, Nat.reduceLeDiff, Nat.reduceLT, Nat.reduceEqDiff, Nat.reduceBEq, Nat.reduceBNe, Nat.reduceMod, Nat.reduceDiv, Int.reduceLE, Int.reduceLT, Int.reduceToNat, Int.reduceAdd, Int.reduceSub, Int.reduceMul, Int.reduceNeg, Int.reduceEq, Int.reduceBEq, Int.reduceBNe, ↓reduceIte, reduceCtorEq, String.reduceBNe, String.reduceEq, reduceDIte, Nat.reducePow, lk_old hb, p1, p2, e1, e2, e3, e4, g0, fill_none] <;> rfl)
  try simp only [keepL, setAll, push_cast, Nat.reduceAdd, Nat.reduceMul, Nat.reduceSub, Nat.reduceLeDiff, Nat.reduceLT, Nat.reduceEqDiff, Nat.reduceBEq, Nat.reduceBNe, Nat.reduceMod, Nat.reduceDiv, Int.reduceLE, Int.reduceLT, Int.reduceToNat, Int.reduceAdd, Int.reduceSub, Int.reduceMul, Int.reduceNeg, Int.reduceEq, Int.reduceBEq, Int.reduceBNe, ↓reduceIte, reduceCtorEq, String.reduceBNe, String.reduceEq, reduceDIte, Nat.reducePow, lk_old hb, p1, p2, e1, e2, e3, e4, g0]
  refine AW.seq_k fun K hK => ?_
  refine AW.seq_k fun K hK => ?_
  refine AW.region (by decide) ?_
  simp only [push_cast, Nat.reduceAdd, Nat.reduceMul, Nat.reduceSub, Nat.reduceLeDiff, Nat.reduceLT, Nat.reduceEqDiff, Nat.reduceBEq, Nat.reduceBNe, Nat.reduceMod, Nat.reduceDiv, Int.reduceLE, Int.reduceLT, Int.reduceToNat, Int.reduceAdd, Int.reduceSub, Int.reduceMul, Int.reduceNeg, Int.reduceEq, Int.reduceBEq, Int.reduceBNe, ↓reduceIte, reduceCtorEq, String.reduceBNe, String.reduceEq, reduceDIte, Nat.reducePow, lk_old hb, p1, p2, e1, e2, e3, e4, g0]
  refine Thn_n ?_
  refine hK _ _ ?_
  clear hK K
  refine AW.cond rfl (fun h46 => ?_) (fun h46 => ?_)
  · have hlt2 : i < gw * gh := by have := of_decide_eq_true h46; rw [← Int.natCast_mul] at this; omega
    have t1 : (i : Int).tmod (gw : Int) = ((i % gw : Nat) : Int) := rfl
    have t2 : IntKind.i64.wrap ((i : Int).tdiv (gw : Int)) = ((i / gw : Nat) : Int) := by rw [tdivN, i64n (by have := (row_lt hlt2 c.c1).1; omega)]
    have hib := c.at hlt2
    have b0 : ¬ (b : Int) = 0 := by have := c.b1; omega
    have w1 : IntKind.i64.wrap (((i % gw : Nat) : Int).tdiv (b : Int)) = ((i % gw / b : Nat) : Int) := by
      rw [tdivN, i64n]
      have := Nat.div_le_self (i % gw) b
      have := Nat.mod_lt i (show 0 < gw by have := c.c1; omega)
      have := c.c2
      omega
    have w2 : IntKind.i64.wrap (((i / gw : Nat) : Int).tdiv (b : Int)) = ((i / gw / b : Nat) : Int) := by
      rw [tdivN, i64n]
      have := Nat.div_le_self (i / gw) b
      have := (row_lt hlt2 c.c1).1
      have := c.c4
      omega
    have hcg : ∀ k, growG b gw pw G i k = G (i / gw / b * pw + i % gw / b) k := fun k => rfl
    generalize hx' : i % gw / b = x' at *
    generalize hy' : i / gw / b = y' at *
    generalize hU : ((i % gw : Nat) : Int) = U at *
    generalize hV : ((i / gw : Nat) : Int) = V at *
    generalize hj : y' * pw + x' = j at *
    have hst := fill_set3 (D := cD 0 0 0) hlt2 (hcg 0) (hcg 1) (hcg 2)
    have hlen := fun (g : Nat → Nat → Int) => dl_len (gw * gh) g
    have hle : i * 3 + 3 ≤ gw * gh * 3 := by omega
    have hi1 : (0 : Int) ≤ (i : Int) := by omega
    have hi2 : (i : Int) < (gw : Int) * (gh : Int) := by rw [← Int.natCast_mul]; omega
    refine AW.skip ?_
    refine Thn_n ?_
    refine hK _ _ ?_
    clear hK K
    refine AW.seq_k fun K hK => ?_
    refine AW.block ?_
    refine AW.draw [.val, .rd 0, .val, .rd 0, .val, .val, .rd 0, .val, .val, .val, .val, .val, .rd 0, .val, .val, .val, .ext, .val, .wr] fol (by decide) (by kernel_rfl) ?_
    simp only [push_cast, Nat.reduceAdd, Nat.reduceMul, Nat.reduceSub, Nat.reduceLeDiff, Nat.reduceLT, Nat.reduceEqDiff, Nat.reduceBEq, Nat.reduceBNe, Nat.reduceMod, Nat.reduceDiv, Int.reduceLE, Int.reduceLT, Int.reduceToNat, Int.reduceAdd, Int.reduceSub, Int.reduceMul, Int.reduceNeg, Int.reduceEq, Int.reduceBEq, Int.reduceBNe, ↓reduceIte, reduceCtorEq, String.reduceBNe, String.reduceEq, reduceDIte, Nat.reducePow, lk_old hb, p1, p2, e1, e2, e3, e4, g0, t1, t2, w1, w2, b0, hlen, hle, hi1, hi2]
    refine DCall.by0 (At_j _ _ _ _ x' y' j _ _ _ _ _ hj rfl rfl (hp.mono _) hib (by have := c.nl; omega)) ?_
    simp only [push_cast, Nat.reduceAdd, Nat.reduceMul, Nat.reduceSub, Nat.reduceLeDiff, Nat.reduceLT, Nat.reduceEqDiff, Nat.reduceBEq, Nat.reduceBNe, Nat.reduceMod, Nat.reduceDiv, Int.reduceLE, Int.reduceLT, Int.reduceToNat, Int.reduceAdd, Int.reduceSub, Int.reduceMul, Int.reduceNeg, Int.reduceEq, Int.reduceBEq, Int.reduceBNe, ↓reduceIte, reduceCtorEq, String.reduceBNe, String.reduceEq, reduceDIte, Nat.reducePow, lk_old hb, p1, p2, e1, e2, e3, e4, g0, t1, t2, w1, w2, b0, hlen, hle, hi1, hi2]
    refine InB_n ?_
    refine Thn_n ?_
    refine hK _ _ ?_
    clear hK K
    refine AW.region (by decide) ?_
    simp only [push_cast, Nat.reduceAdd, Nat.reduceMul, Nat.reduceSub, Nat.reduceLeDiff, Nat.reduceLT, Nat.reduceEqDiff, Nat.reduceBEq, Nat.reduceBNe, Nat.reduceMod, Nat.reduceDiv, Int.reduceLE, Int.reduceLT, Int.reduceToNat, Int.reduceAdd, Int.reduceSub, Int.reduceMul, Int.reduceNeg, Int.reduceEq, Int.reduceBEq, Int.reduceBNe, ↓reduceIte, reduceCtorEq, String.reduceBNe, String.reduceEq, reduceDIte, Nat.reducePow, lk_old hb, p1, p2, e1, e2, e3, e4, g0, t1, t2, w1, w2, b0, hlen, hle, hi1, hi2]
    refine Thn_n ?_
    have hwi : IntKind.i64.wrap ((i:Int)+1) = (i:Int)+1 := by rw [IntKind.wrap_i64]; omega
    refine ⟨i + 1, by omega, by omega, ?_⟩
    try simp only [keepL, setAll, push_cast, Nat.reduceAdd, Nat.reduceMul, Nat.reduceSub, Nat.reduceLeDiff, Nat.reduceLT, Nat.reduceEqDiff, Nat.reduceBEq, Nat.reduceBNe, Nat.reduceMod, Nat.reduceDiv, Int.reduceLE, Int.reduceLT, Int.reduceToNat, Int.reduceAdd, Int.reduceSub, Int.reduceMul, Int.reduceNeg, Int.reduceEq, Int.reduceBEq, Int.reduceBNe, ↓reduceIte, reduceCtorEq, String.reduceBNe, String.reduceEq, reduceDIte, Nat.reducePow, lk_old hb, p1, p2, e1, e2, e3, e4, g0, t1, t2, w1, w2, b0, hlen, hle, hi1, hi2, hwi, hst]
    exact Weak.same (by simp only [Keeps, Tm.get_cons, Nat.reduceEqDiff, ↓reduceIte, if_true, if_false, ite_true, ite_false, true_and, and_true, and_self, reduceCtorEq, hwi, hst]) (by first | rfl | simp only [Keeps, Tm.get_cons, Nat.reduceEqDiff, ↓reduceIte, if_true, if_false, ite_true, ite_false, true_and, and_true, and_self, reduceCtorEq, hwi, hst])
  · have hie : gw * gh = i := by have := of_decide_eq_false h46; rw [← Int.natCast_mul] at this; omega
    subst hie
    have hfin := fill_all (n := gw * gh) (T := growG b gw pw G) (D := cD 0 0 0)
    refine AW.exit ?_
    refine Thn_e ?_
    clear hK K
    refine Thn_e ?_
    refine InB_here ?_
    refine Thn_n ?_
    refine hK _ _ ?_
    clear hK K
    refine AW.seq_k fun K hK => ?_
    refine AW.region (by decide) ?_
    simp only [push_cast, Nat.reduceAdd, Nat.reduceMul, Nat.reduceSub, Nat.reduceLeDiff, Nat.reduceLT, Nat.reduceEqDiff, Nat.reduceBEq, Nat.reduceBNe, Nat.reduceMod, Nat.reduceDiv, Int.reduceLE, Int.reduceLT, Int.reduceToNat, Int.reduceAdd, Int.reduceSub, Int.reduceMul, Int.reduceNeg, Int.reduceEq, Int.reduceBEq, Int.reduceBNe, ↓reduceIte, reduceCtorEq, String.reduceBNe, String.reduceEq, reduceDIte, Nat.reducePow, lk_old hb, p1, p2, e1, e2, e3, e4, g0, hfin]
    refine Thn_n ?_
    refine hK _ _ ?_
    clear hK K
    refine AW.ret ?_
    refine hQ _ _ _ ?_
    refine RetP.pick [(m.length + 2, 0)] (Or.inr rfl) ?_ ?_ ?_ hwf ?_
    · simp only [resA, resOne, resTv, AV.tv, push_cast, Nat.reduceAdd, Nat.reduceMul, Nat.reduceSub, Nat.reduceLeDiff, Nat.reduceLT, Nat.reduceEqDiff, Nat.reduceBEq, Nat.reduceBNe, Nat.reduceMod, Nat.reduceDiv, Int.reduceLE, Int.reduceLT, Int.reduceToNat, Int.reduceAdd, Int.reduceSub, Int.reduceMul, Int.reduceNeg, Int.reduceEq, Int.reduceBEq, Int.reduceBNe, ↓reduceIte, reduceCtorEq, String.reduceBNe, String.reduceEq, reduceDIte, Nat.reducePow]
      simp [renV, renT, renL, renC, renIdx, hlt]
    · simp only [picks, push_cast, Nat.reduceAdd, Nat.reduceMul, Nat.reduceSub, Nat.reduceLeDiff, Nat.reduceLT, Nat.reduceEqDiff, Nat.reduceBEq, Nat.reduceBNe, Nat.reduceMod, Nat.reduceDiv, Int.reduceLE, Int.reduceLT, Int.reduceToNat, Int.reduceAdd, Int.reduceSub, Int.reduceMul, Int.reduceNeg, Int.reduceEq, Int.reduceBEq, Int.reduceBNe, ↓reduceIte, reduceCtorEq, String.reduceBNe, String.reduceEq, reduceDIte, Nat.reducePow]
    · simp [distinctFrom]
    · exact MWf_one (dl_below _ _ _)
    
theorem grow_c (W H b : Int) (r v n : Nat) (G : Nat → Nat → Int) (m : AMem) (hp : PicAt m r v n G) : Ctr Try.prog 31 [.agg [.int .i64 W, .int .i64 H, .sl r v 0 n], .one (.int .i64 b)] m ((growF W H n G b).ret m.length) (m ++ [(growF W H n G b).blk]) := by
  unfold growF
  split
  · rename_i hc
    obtain ⟨c, pw, ph, rfl, rfl, rfl, ho⟩ := growR_nat hc
    rw [← Int.natCast_mul, ← Int.natCast_mul]
    exact grow_ok c pw ph (c * pw) (c * ph) r v n G m hp ho
  · rename_i hc
    exact noP_of (grow_no W H b r v n m (by simpa using hc))
theorem rgrow_c (W H b : Int) (r v n : Nat) (G : Nat → Nat → Int) (m : AMem) (hp : PicAt m r v n G) : Ctr Try.prog 34 [.agg [.int .i64 W, .int .i64 H, .sl r v 0 n], .one (.int .i64 b)] m ((growF W H n G b).ret m.length) (m ++ [(growF W H n G b).blk]) := by
  unfold growF
  split
  · rename_i hc
    obtain ⟨c, pw, ph, rfl, rfl, rfl, ho⟩ := growR_nat hc
    rw [← Int.natCast_mul, ← Int.natCast_mul]
    exact rgrow_ok c pw ph (c * pw) (c * ph) r v n G m hp ho
  · rename_i hc
    exact noP_of (rgrow_no W H b r v n m (by simpa using hc))
end Go.Proofs.Ytgkmjcpcigklpaa
