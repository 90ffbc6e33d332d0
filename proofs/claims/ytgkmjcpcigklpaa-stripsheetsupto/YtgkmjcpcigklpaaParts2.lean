/- Walks and facts of this seat's program over abstract states, printed by a program of mine; no conditions but those that each theorem names. -/
import Derived.Test.YtgkmjcpcigklpaaParts
set_option linter.unusedSimpArgs false
set_option linter.unusedVariables false
set_option maxRecDepth 100000
set_option maxHeartbeats 4000000
namespace Go.Proofs.Ytgkmjcpcigklpaa
open Go Go.Eng

theorem rcut_no (PW PH x y w h : Int) (r v n : Nat) (m : AMem) (hbad : cutR PW PH n x y w h = false) (hx : 0 ≤ x ∧ x < 64) (hy : 0 ≤ y ∧ y < 64) (hw : 1 ≤ w ∧ w ≤ 64) (hh : 1 ≤ h ∧ h ≤ 64) : Ctr Try.prog 23 [.agg [.int .i64 PW, .int .i64 PH, .sl r v 0 n], .one (.int .i64 x), .one (.int .i64 y), .one (.int .i64 w), .one (.int .i64 h)] m (.tup [(true, [.int .i64 0, .int .i64 0, .nils]), (false, [.int .i64 1])]) m := by
  refine Ctr.enter Try.func23 rfl (by decide) (rs := [.cell 10 29, .tmp 11]) (nt := 92) rfl rfl fun hwf Q hQ => ?_
  have e1 : IntKind.i64.wrap (x + w) = x + w := by rw [IntKind.wrap_i64]; omega
  have e2 : IntKind.i64.wrap (y + h) = y + h := by rw [IntKind.wrap_i64]; omega
  rcases chain8 (picR PW PH n = true) (szR w h = true) (¬ x < 0) (¬ y < 0) (¬ PW ≤ x) (¬ PH ≤ y) (¬ PW < x + w) (¬ PH < y + h) with ⟨p1, p2, p3, p4, p5, p6, p7, p8⟩ | ⟨p1, p2, p3, p4, p5, p6, p7, p8⟩ | ⟨p1, p2, p3, p4, p5, p6, p7, p8⟩ | ⟨p1, p2, p3, p4, p5, p6, p7, p8⟩ | ⟨p1, p2, p3, p4, p5, p6, p7, p8⟩ | ⟨p1, p2, p3, p4, p5, p6, p7, p8⟩ | ⟨p1, p2, p3, p4, p5, p6, p7, p8⟩ | ⟨p1, p2, p3, p4, p5, p6, p7, p8⟩ | ⟨p1, p2, p3, p4, p5, p6, p7, p8⟩
  · exfalso
    have c : cutR PW PH n x y w h = true := by
      simp only [cutR, p1, p2, Bool.true_and, Bool.and_eq_true, decide_eq_true_eq]
      omega
    rw [hbad] at c; cases c
  all_goals (
  try simp only [Bool.not_eq_true, Bool.not_eq_false, Classical.not_not] at p1 p2 p3 p4 p5 p6 p7 p8
  refine AW.seq_k fun K hK => ?_
  refine AW.region (by decide) ?_
  simp only [push_cast, Nat.reduceAdd, Nat.reduceMul, Nat.reduceSub, Nat.reduceLeDiff, Nat.reduceLT, Nat.reduceEqDiff, Nat.reduceBEq, Nat.reduceBNe, Nat.reduceMod, Nat.reduceDiv, Int.reduceLE, Int.reduceLT, Int.reduceToNat, Int.reduceAdd, Int.reduceSub, Int.reduceMul, Int.reduceNeg, Int.reduceEq, Int.reduceBEq, Int.reduceBNe, ↓reduceIte, reduceCtorEq, String.reduceBNe, String.reduceEq, reduceDIte, Nat.reducePow, p1, p2, p3, p4, p5, p6, p7, p8, e1, e2]
  refine Thn_n ?_
  refine hK _ _ ?_
  clear hK K
  refine AW.seq_k fun K hK => ?_
  refine AW.seq_k fun K hK => ?_
  refine AW.region (by decide) ?_
  simp only [push_cast, Nat.reduceAdd, Nat.reduceMul, Nat.reduceSub, Nat.reduceLeDiff, Nat.reduceLT, Nat.reduceEqDiff, Nat.reduceBEq, Nat.reduceBNe, Nat.reduceMod, Nat.reduceDiv, Int.reduceLE, Int.reduceLT, Int.reduceToNat, Int.reduceAdd, Int.reduceSub, Int.reduceMul, Int.reduceNeg, Int.reduceEq, Int.reduceBEq, Int.reduceBNe, ↓reduceIte, reduceCtorEq, String.reduceBNe, String.reduceEq, reduceDIte, Nat.reducePow, p1, p2, p3, p4, p5, p6, p7, p8, e1, e2]
  try (refine CThen.by (refRight_c _ _ _ _ _ _) ?_; simp only [push_cast, Nat.reduceAdd, Nat.reduceMul, Nat.reduceSub, Nat.reduceLeDiff, Nat.reduceLT, Nat.reduceEqDiff, Nat.reduceBEq, Nat.reduceBNe, Nat.reduceMod, Nat.reduceDiv, Int.reduceLE, Int.reduceLT, Int.reduceToNat, Int.reduceAdd, Int.reduceSub, Int.reduceMul, Int.reduceNeg, Int.reduceEq, Int.reduceBEq, Int.reduceBNe, ↓reduceIte, reduceCtorEq, String.reduceBNe, String.reduceEq, reduceDIte, Nat.reducePow, p1, p2, p3, p4, p5, p6, p7, p8, e1, e2])
  try (refine CThen.by (rightSize_c _ _ _) ?_; simp only [push_cast, Nat.reduceAdd, Nat.reduceMul, Nat.reduceSub, Nat.reduceLeDiff, Nat.reduceLT, Nat.reduceEqDiff, Nat.reduceBEq, Nat.reduceBNe, Nat.reduceMod, Nat.reduceDiv, Int.reduceLE, Int.reduceLT, Int.reduceToNat, Int.reduceAdd, Int.reduceSub, Int.reduceMul, Int.reduceNeg, Int.reduceEq, Int.reduceBEq, Int.reduceBNe, ↓reduceIte, reduceCtorEq, String.reduceBNe, String.reduceEq, reduceDIte, Nat.reducePow, p1, p2, p3, p4, p5, p6, p7, p8, e1, e2])
  refine Thn_n ?_
  refine hK _ _ ?_
  clear hK K
  refine AW.cond_t rfl ?_
  refine AW.seq_k fun K hK => ?_
  refine AW.region (by decide) ?_
  simp only [push_cast, Nat.reduceAdd, Nat.reduceMul, Nat.reduceSub, Nat.reduceLeDiff, Nat.reduceLT, Nat.reduceEqDiff, Nat.reduceBEq, Nat.reduceBNe, Nat.reduceMod, Nat.reduceDiv, Int.reduceLE, Int.reduceLT, Int.reduceToNat, Int.reduceAdd, Int.reduceSub, Int.reduceMul, Int.reduceNeg, Int.reduceEq, Int.reduceBEq, Int.reduceBNe, ↓reduceIte, reduceCtorEq, String.reduceBNe, String.reduceEq, reduceDIte, Nat.reducePow, p1, p2, p3, p4, p5, p6, p7, p8, e1, e2]
  refine Thn_n ?_
  refine hK _ _ ?_
  clear hK K
  refine AW.ret ?_
  refine Thn_r ?_
  refine hQ _ _ _ ?_
  first | refine RetP.drop0 (Or.inr rfl) ?_ ?_ hwf | refine RetP.drop (Or.inr rfl) ?_ ?_ hwf
  · simp only [resA, resOne, resTv, AV.tv, push_cast, Nat.reduceAdd, Nat.reduceMul, Nat.reduceSub, Nat.reduceLeDiff, Nat.reduceLT, Nat.reduceEqDiff, Nat.reduceBEq, Nat.reduceBNe, Nat.reduceMod, Nat.reduceDiv, Int.reduceLE, Int.reduceLT, Int.reduceToNat, Int.reduceAdd, Int.reduceSub, Int.reduceMul, Int.reduceNeg, Int.reduceEq, Int.reduceBEq, Int.reduceBNe, ↓reduceIte, reduceCtorEq, String.reduceBNe, String.reduceEq, reduceDIte, Nat.reducePow, p1, p2, p3, p4, p5, p6, p7, p8, e1, e2]
  · rfl
  )
theorem rcut_c (PW PH x y w h : Int) (r v n : Nat) (G : Nat → Nat → Int) (m : AMem) (hp : PicAt m r v n G) (hx : 0 ≤ x ∧ x < 64) (hy : 0 ≤ y ∧ y < 64) (hw : 1 ≤ w ∧ w ≤ 64) (hh : 1 ≤ h ∧ h ≤ 64) : Ctr Try.prog 23 [.agg [.int .i64 PW, .int .i64 PH, .sl r v 0 n], .one (.int .i64 x), .one (.int .i64 y), .one (.int .i64 w), .one (.int .i64 h)] m ((cutF PW PH n G x y w h).ret m.length) (m ++ [(cutF PW PH n G x y w h).blk]) := by
  unfold cutF
  split
  · rename_i hc
    obtain ⟨pw, ph, x, y, w, h, rfl, rfl, rfl, rfl, rfl, rfl, c⟩ := cutR_nat hc
    exact rcut_ok pw ph x y w h r v n G m hp c
  · rename_i hc
    exact noP_of (rcut_no PW PH x y w h r v n m (by simpa using hc) hx hy hw hh)
/-- A picture laid on another one, as far as that is beside. -/
def laySt (pw qw qh : Nat) (x y : Int) (P B : Nat → Nat → Int) (v u : Nat) : Nat → Nat → Int := fun i k =>
  if 0 ≤ ((i % pw : Nat) : Int) - x ∧ ((i % pw : Nat) : Int) - x < qw ∧ 0 ≤ ((i / pw : Nat) : Int) - y ∧ ((i / pw : Nat) : Int) - y < qh ∧ (((i / pw : Nat) : Int) - y < v ∨ ((i / pw : Nat) : Int) - y = v ∧ ((i % pw : Nat) : Int) - x < u) then
    B ((((i / pw : Nat) : Int) - y).toNat * qw + (((i % pw : Nat) : Int) - x).toNat) k else P i k
def layG (pw qw qh : Nat) (x y : Int) (P B : Nat → Nat → Int) : Nat → Nat → Int := fun i k =>
  if decide (0 ≤ ((i % pw : Nat) : Int) - x) && decide (((i % pw : Nat) : Int) - x < qw) && decide (0 ≤ ((i / pw : Nat) : Int) - y) && decide (((i / pw : Nat) : Int) - y < qh) then
    B ((((i / pw : Nat) : Int) - y).toNat * qw + (((i % pw : Nat) : Int) - x).toNat) k else P i k
theorem lay_first {pw qw qh n : Nat} {x y : Int} {P B : Nat → Nat → Int} : dl n (laySt pw qw qh x y P B 0 0) = dl n P := dl_congr fun i k hi hk => by
  simp only [laySt]; rw [if_neg (by omega)]
theorem lay_row {pw qw qh n v : Nat} {x y : Int} {P B : Nat → Nat → Int} : dl n (laySt pw qw qh x y P B v qw) = dl n (laySt pw qw qh x y P B (v + 1) 0) := dl_congr fun i k hi hk => by
  simp only [laySt]
  generalize ((i % pw : Nat) : Int) - x = a
  generalize ((i / pw : Nat) : Int) - y = b
  by_cases h : 0 ≤ a ∧ a < qw ∧ 0 ≤ b ∧ b < qh ∧ (b < (v : Int) ∨ b = (v : Int) ∧ a < (qw : Int))
  · rw [if_pos h, if_pos (by omega)]
  · rw [if_neg h, if_neg (by omega)]
theorem lay_last {pw qw qh n : Nat} {x y : Int} {P B : Nat → Nat → Int} : dl n (laySt pw qw qh x y P B qh 0) = dl n (layG pw qw qh x y P B) := dl_congr fun i k hi hk => by
  simp only [laySt, layG, Bool.and_eq_true, decide_eq_true_eq]
  generalize ((i % pw : Nat) : Int) - x = a
  generalize ((i / pw : Nat) : Int) - y = b
  by_cases h : ((0 ≤ a ∧ a < qw) ∧ 0 ≤ b) ∧ b < qh
  · rw [if_pos h, if_pos (by omega)]
  · rw [if_neg h, if_neg (by omega)]
theorem lay_out {pw ph qw qh v u : Nat} {x y : Int} {P B : Nat → Nat → Int} (hpw : 1 ≤ pw) (hu : u < qw) (hv : v < qh) (h : ¬ (0 ≤ x + u ∧ x + u < pw ∧ 0 ≤ y + v ∧ y + v < ph)) : dl (pw * ph) (laySt pw qw qh x y P B v (u + 1)) = dl (pw * ph) (laySt pw qw qh x y P B v u) := dl_congr fun i k hi hk => by
  simp only [laySt]
  obtain ⟨h1, h2⟩ := row_lt hi hpw
  generalize i % pw = a at *
  generalize i / pw = b at *
  by_cases h : 0 ≤ (a : Int) - x ∧ (a : Int) - x < qw ∧ 0 ≤ (b : Int) - y ∧ (b : Int) - y < qh ∧ ((b : Int) - y < (v : Int) ∨ (b : Int) - y = (v : Int) ∧ (a : Int) - x < (u : Int))
  · rw [if_pos h, if_pos (by omega)]
  · rw [if_neg h, if_neg (by omega)]
theorem lay_in {pw ph qw qh v u X Y : Nat} {x y : Int} {P B : Nat → Nat → Int} (hu : u < qw) (hv : v < qh) (hX : (X : Int) = x + u) (hY : (Y : Int) = y + v) (hXl : X < pw) (hYl : Y < ph) :
    (((dl (pw * ph) (laySt pw qw qh x y P B v u)).set ((Y * pw + X) * 3) (.int .u8 (B (v * qw + u) 0))).set ((Y * pw + X) * 3 + 1) (.int .u8 (B (v * qw + u) 1))).set ((Y * pw + X) * 3 + 2) (.int .u8 (B (v * qw + u) 2)) = dl (pw * ph) (laySt pw qw qh x y P B v (u + 1)) := by
  rw [dl_set3 (ix_lt hXl hYl)]
  refine dl_congr fun i k hi hk => ?_
  have hpw : 1 ≤ pw := by omega
  obtain ⟨h1, h2⟩ := row_lt hi hpw
  have hd := div_at (v := Y) hXl
  simp only [updD, laySt]
  by_cases e : i = Y * pw + X
  · subst e
    have hc : 0 ≤ (X : Int) - x ∧ (X : Int) - x < qw ∧ 0 ≤ (Y : Int) - y ∧ (Y : Int) - y < qh ∧ ((Y : Int) - y < v ∨ (Y : Int) - y = v ∧ (X : Int) - x < ((u + 1 : Nat) : Int)) := by omega
    rw [if_pos rfl, hd.1, hd.2, if_pos hc, show ((Y : Int) - y).toNat = v by omega, show ((X : Int) - x).toNat = u by omega]
    match k, hk with
    | 0, _ => rfl
    | 1, _ => rfl
    | 2, _ => rfl
  · rw [if_neg e]
    have hne : ¬ (i % pw = X ∧ i / pw = Y) := fun h => e (by have := Nat.div_add_mod i pw; rw [h.1, h.2, Nat.mul_comm] at this; omega)
    generalize i % pw = a at *
    generalize i / pw = b at *
    by_cases h : 0 ≤ (a : Int) - x ∧ (a : Int) - x < qw ∧ 0 ≤ (b : Int) - y ∧ (b : Int) - y < qh ∧ ((b : Int) - y < (v : Int) ∨ (b : Int) - y = (v : Int) ∧ (a : Int) - x < (u : Int))
    · rw [if_pos h, if_pos (by omega)]
    · rw [if_neg h, if_neg (by omega)]
def layR (PW PH : Int) (n : Nat) (QW QH : Int) (n2 : Nat) (x y : Int) : Bool := picR PW PH n && (picR QW QH n2 && (decide (-64 ≤ x ∧ x ≤ 64 ∧ -64 ≤ y ∧ y ≤ 64)))
def layF (PW PH : Int) (n : Nat) (P : Nat → Nat → Int) (QW QH : Int) (n2 : Nat) (B : Nat → Nat → Int) (x y : Int) : PE := if layR PW PH n QW QH n2 x y = true then ⟨PW, PH, n, layG PW.toNat QW.toNat QH.toNat x y P B, 0⟩ else noP
structure LayOk (pw ph n qw qh n2 : Nat) (x y : Int) : Prop where
  a1 : 1 ≤ pw
  a2 : pw ≤ 64
  a3 : 1 ≤ ph
  a4 : ph ≤ 64
  b1 : 1 ≤ qw
  b2 : qw ≤ 64
  b3 : 1 ≤ qh
  b4 : qh ≤ 64
  hn : n = pw * ph
  hn2 : n2 = qw * qh
  hx : -64 ≤ x ∧ x ≤ 64
  hy : -64 ≤ y ∧ y ≤ 64
  hp : picR (pw : Int) (ph : Int) n = true
  hq : picR (qw : Int) (qh : Int) n2 = true
  hs : szR (pw : Int) (ph : Int) = true
theorem layR_nat {PW PH QW QH : Int} {n n2 : Nat} {x y : Int} (hc : layR PW PH n QW QH n2 x y = true) : ∃ pw ph qw qh : Nat, PW = (pw : Int) ∧ PH = (ph : Int) ∧ QW = (qw : Int) ∧ QH = (qh : Int) ∧ LayOk pw ph n qw qh n2 x y := by
  simp only [layR, Bool.and_eq_true, decide_eq_true_eq] at hc
  obtain ⟨hp, hq, c⟩ := hc
  obtain ⟨pw, ph, rfl, rfl, a1, a2, a3, a4, hn, hs⟩ := picR_nat hp
  obtain ⟨qw, qh, rfl, rfl, b1, b2, b3, b4, hn2, _⟩ := picR_nat hq
  exact ⟨pw, ph, qw, qh, rfl, rfl, rfl, rfl, ⟨a1, a2, a3, a4, b1, b2, b3, b4, hn, hn2, ⟨c.1, c.2.1⟩, c.2.2, hp, hq, hs⟩⟩
theorem LayOk.ls {pw ph n qw qh n2 : Nat} {x y : Int} (c : LayOk pw ph n qw qh n2 x y) : n ≤ 4096 ∧ n2 ≤ 4096 := ⟨by rw [c.hn]; exact wh_le c.a2 c.a4, by rw [c.hn2]; exact wh_le c.b2 c.b4⟩

theorem layd_true (pw ph qw qh r v n r2 v2 n2 bq bx by_ bp i : Nat) (x y : Int) (P B : Nat → Nat → Int) (M : AMem) (hbq : M[bq]? = some ⟨.fix, 33, 0, 0, [.int .i64 (qw : Int), .int .i64 (qh : Int), .sl r2 v2 0 n2]⟩) (hbx : M[bx]? = some ⟨.fix, 3, 0, 0, [.int .i64 x]⟩) (hby : M[by_]? = some ⟨.fix, 3, 0, 0, [.int .i64 y]⟩) (hbp : M[bp]? = some ⟨.fix, 33, 0, 0, [.int .i64 (pw : Int), .int .i64 (ph : Int), .sl r v 0 n]⟩) (hp : PicAt M r v n P) (hq : PicAt M r2 v2 n2 B) (c : LayOk pw ph n qw qh n2 x y) (hi : i < pw * ph) (hb : (decide (0 ≤ ((i % pw : Nat) : Int) - x) && decide (((i % pw : Nat) : Int) - x < qw) && decide (0 ≤ ((i / pw : Nat) : Int) - y) && decide (((i / pw : Nat) : Int) - y < qh)) = true) : Ctr Try.prog 46 [.one (.int .i64 ((i : Int).tmod (pw : Int))), .one (.int .i64 ((i : Int).tdiv (pw : Int))), .one (.ptr bq 0 0), .one (.ptr bx 0 0), .one (.ptr by_ 0 0), .one (.ptr bp 0 0)] M (.agg [.int .u8 (layG pw qw qh x y P B i 0), .int .u8 (layG pw qw qh x y P B i 1), .int .u8 (layG pw qw qh x y P B i 2)]) M := by
  refine Ctr.enter Try.func46 rfl (by decide) (rs := [.cell 8 22]) (nt := 30) rfl rfl fun hwf Q hQ => ?_
  obtain ⟨hv, hu⟩ := row_lt hi c.a1
  have q1 := c.a2
  have q2 := c.a4
  have q3 := c.hx
  have q4 := c.hy
  rw [tmodN, tdivN]
  have hcg : ∀ k, layG pw qw qh x y P B i k = B ((((i / pw : Nat) : Int) - y).toNat * qw + (((i % pw : Nat) : Int) - x).toNat) k := fun k => by rw [layG, if_pos hb]
  have hb' := hb
  simp only [Bool.and_eq_true, decide_eq_true_eq] at hb'
  obtain ⟨⟨⟨b1, b2⟩, b3⟩, b4⟩ := hb'
  have hib : (((i / pw : Nat) : Int) - y).toNat * qw + (((i % pw : Nat) : Int) - x).toNat < n2 := by rw [c.hn2]; exact ix_lt (by omega) (by omega)
  generalize hA : i % pw = a at *
  generalize hB : i / pw = b at *
  have w1 : IntKind.i64.wrap ((a : Int) - x) = (a : Int) - x := by rw [IntKind.wrap_i64]; omega
  have w2 : IntKind.i64.wrap ((b : Int) - y) = (b : Int) - y := by rw [IntKind.wrap_i64]; omega
  refine AW.seq_k fun K hK => ?_
  refine AW.region (by decide) ?_
  simp only [push_cast, Nat.reduceAdd, Nat.reduceMul, Nat.reduceSub, Nat.reduceLeDiff, Nat.reduceLT, Nat.reduceEqDiff, Nat.reduceBEq, Nat.reduceBNe, Nat.reduceMod, Nat.reduceDiv, Int.reduceLE, Int.reduceLT, Int.reduceToNat, Int.reduceAdd, Int.reduceSub, Int.reduceMul, Int.reduceNeg, Int.reduceEq, Int.reduceBEq, Int.reduceBNe, ↓reduceIte, reduceCtorEq, String.reduceBNe, String.reduceEq, reduceDIte, Nat.reducePow, lk_old hbp, lk_old hbx, lk_old hby, lk_old hbq, hbp, hbx, hby, hbq, w1, w2, hcg, hb]
  refine Thn_n ?_
  refine hK _ _ ?_
  clear hK K
  refine AW.seq_k fun K hK => ?_
  refine AW.seq_k fun K hK => ?_
  refine AW.region (by decide) ?_
  simp only [push_cast, Nat.reduceAdd, Nat.reduceMul, Nat.reduceSub, Nat.reduceLeDiff, Nat.reduceLT, Nat.reduceEqDiff, Nat.reduceBEq, Nat.reduceBNe, Nat.reduceMod, Nat.reduceDiv, Int.reduceLE, Int.reduceLT, Int.reduceToNat, Int.reduceAdd, Int.reduceSub, Int.reduceMul, Int.reduceNeg, Int.reduceEq, Int.reduceBEq, Int.reduceBNe, ↓reduceIte, reduceCtorEq, String.reduceBNe, String.reduceEq, reduceDIte, Nat.reducePow, lk_old hbp, lk_old hbx, lk_old hby, lk_old hbq, hbp, hbx, hby, hbq, w1, w2, hcg, hb]
  refine CThen.by (in_c _ _ _ _ _) ?_
  simp only [push_cast, Nat.reduceAdd, Nat.reduceMul, Nat.reduceSub, Nat.reduceLeDiff, Nat.reduceLT, Nat.reduceEqDiff, Nat.reduceBEq, Nat.reduceBNe, Nat.reduceMod, Nat.reduceDiv, Int.reduceLE, Int.reduceLT, Int.reduceToNat, Int.reduceAdd, Int.reduceSub, Int.reduceMul, Int.reduceNeg, Int.reduceEq, Int.reduceBEq, Int.reduceBNe, ↓reduceIte, reduceCtorEq, String.reduceBNe, String.reduceEq, reduceDIte, Nat.reducePow, lk_old hbp, lk_old hbx, lk_old hby, lk_old hbq, hbp, hbx, hby, hbq, w1, w2, hcg, hb]
  refine Thn_n ?_
  refine hK _ _ ?_
  clear hK K
  refine AW.cond_t rfl ?_
  refine AW.seq_k fun K hK => ?_
  refine AW.region (by decide) ?_
  simp only [push_cast, Nat.reduceAdd, Nat.reduceMul, Nat.reduceSub, Nat.reduceLeDiff, Nat.reduceLT, Nat.reduceEqDiff, Nat.reduceBEq, Nat.reduceBNe, Nat.reduceMod, Nat.reduceDiv, Int.reduceLE, Int.reduceLT, Int.reduceToNat, Int.reduceAdd, Int.reduceSub, Int.reduceMul, Int.reduceNeg, Int.reduceEq, Int.reduceBEq, Int.reduceBNe, ↓reduceIte, reduceCtorEq, String.reduceBNe, String.reduceEq, reduceDIte, Nat.reducePow, lk_old hbp, lk_old hbx, lk_old hby, lk_old hbq, hbp, hbx, hby, hbq, w1, w2, hcg, hb]
  refine CThen.by (at_i _ _ _ _ _ _ _ _ _ _ _ (by omega) (by omega) (hq.mono _) hib (by have := c.ls.2; omega)) ?_
  simp only [push_cast, Nat.reduceAdd, Nat.reduceMul, Nat.reduceSub, Nat.reduceLeDiff, Nat.reduceLT, Nat.reduceEqDiff, Nat.reduceBEq, Nat.reduceBNe, Nat.reduceMod, Nat.reduceDiv, Int.reduceLE, Int.reduceLT, Int.reduceToNat, Int.reduceAdd, Int.reduceSub, Int.reduceMul, Int.reduceNeg, Int.reduceEq, Int.reduceBEq, Int.reduceBNe, ↓reduceIte, reduceCtorEq, String.reduceBNe, String.reduceEq, reduceDIte, Nat.reducePow, lk_old hbp, lk_old hbx, lk_old hby, lk_old hbq, hbp, hbx, hby, hbq, w1, w2, hcg, hb]
  refine Thn_n ?_
  refine hK _ _ ?_
  clear hK K
  refine AW.ret ?_
  refine Thn_r ?_
  refine hQ _ _ _ ?_
  first | refine RetP.drop0 (Or.inr rfl) ?_ ?_ hwf | refine RetP.drop (Or.inr rfl) ?_ ?_ hwf
  · simp only [resA, resOne, resTv, AV.tv, push_cast, Nat.reduceAdd, Nat.reduceMul, Nat.reduceSub, Nat.reduceLeDiff, Nat.reduceLT, Nat.reduceEqDiff, Nat.reduceBEq, Nat.reduceBNe, Nat.reduceMod, Nat.reduceDiv, Int.reduceLE, Int.reduceLT, Int.reduceToNat, Int.reduceAdd, Int.reduceSub, Int.reduceMul, Int.reduceNeg, Int.reduceEq, Int.reduceBEq, Int.reduceBNe, ↓reduceIte, reduceCtorEq, String.reduceBNe, String.reduceEq, reduceDIte, Nat.reducePow, lk_old hbp, lk_old hbx, lk_old hby, lk_old hbq, hbp, hbx, hby, hbq, w1, w2, hcg, hb]
  · rfl
theorem layd_false (pw ph qw qh r v n r2 v2 n2 bq bx by_ bp i : Nat) (x y : Int) (P B : Nat → Nat → Int) (M : AMem) (hbq : M[bq]? = some ⟨.fix, 33, 0, 0, [.int .i64 (qw : Int), .int .i64 (qh : Int), .sl r2 v2 0 n2]⟩) (hbx : M[bx]? = some ⟨.fix, 3, 0, 0, [.int .i64 x]⟩) (hby : M[by_]? = some ⟨.fix, 3, 0, 0, [.int .i64 y]⟩) (hbp : M[bp]? = some ⟨.fix, 33, 0, 0, [.int .i64 (pw : Int), .int .i64 (ph : Int), .sl r v 0 n]⟩) (hp : PicAt M r v n P) (hq : PicAt M r2 v2 n2 B) (c : LayOk pw ph n qw qh n2 x y) (hi : i < pw * ph) (hb : (decide (0 ≤ ((i % pw : Nat) : Int) - x) && decide (((i % pw : Nat) : Int) - x < qw) && decide (0 ≤ ((i / pw : Nat) : Int) - y) && decide (((i / pw : Nat) : Int) - y < qh)) = false) : Ctr Try.prog 46 [.one (.int .i64 ((i : Int).tmod (pw : Int))), .one (.int .i64 ((i : Int).tdiv (pw : Int))), .one (.ptr bq 0 0), .one (.ptr bx 0 0), .one (.ptr by_ 0 0), .one (.ptr bp 0 0)] M (.agg [.int .u8 (layG pw qw qh x y P B i 0), .int .u8 (layG pw qw qh x y P B i 1), .int .u8 (layG pw qw qh x y P B i 2)]) M := by
  refine Ctr.enter Try.func46 rfl (by decide) (rs := [.cell 8 22]) (nt := 30) rfl rfl fun hwf Q hQ => ?_
  obtain ⟨hv, hu⟩ := row_lt hi c.a1
  have q1 := c.a2
  have q2 := c.a4
  have q3 := c.hx
  have q4 := c.hy
  rw [tmodN, tdivN]
  have hcg : ∀ k, layG pw qw qh x y P B i k = P ((i / pw) * pw + i % pw) k := fun k => by rw [layG, if_neg (by rw [hb]; simp), Nat.mul_comm, Nat.div_add_mod]
  have hib : (i / pw) * pw + i % pw < n := by rw [c.hn]; exact ix_lt hu hv
  generalize hA : i % pw = a at *
  generalize hB : i / pw = b at *
  have w1 : IntKind.i64.wrap ((a : Int) - x) = (a : Int) - x := by rw [IntKind.wrap_i64]; omega
  have w2 : IntKind.i64.wrap ((b : Int) - y) = (b : Int) - y := by rw [IntKind.wrap_i64]; omega
  refine AW.seq_k fun K hK => ?_
  refine AW.region (by decide) ?_
  simp only [push_cast, Nat.reduceAdd, Nat.reduceMul, Nat.reduceSub, Nat.reduceLeDiff, Nat.reduceLT, Nat.reduceEqDiff, Nat.reduceBEq, Nat.reduceBNe, Nat.reduceMod, Nat.reduceDiv, Int.reduceLE, Int.reduceLT, Int.reduceToNat, Int.reduceAdd, Int.reduceSub, Int.reduceMul, Int.reduceNeg, Int.reduceEq, Int.reduceBEq, Int.reduceBNe, ↓reduceIte, reduceCtorEq, String.reduceBNe, String.reduceEq, reduceDIte, Nat.reducePow, lk_old hbp, lk_old hbx, lk_old hby, lk_old hbq, hbp, hbx, hby, hbq, w1, w2, hcg, hb]
  refine Thn_n ?_
  refine hK _ _ ?_
  clear hK K
  refine AW.seq_k fun K hK => ?_
  refine AW.seq_k fun K hK => ?_
  refine AW.region (by decide) ?_
  simp only [push_cast, Nat.reduceAdd, Nat.reduceMul, Nat.reduceSub, Nat.reduceLeDiff, Nat.reduceLT, Nat.reduceEqDiff, Nat.reduceBEq, Nat.reduceBNe, Nat.reduceMod, Nat.reduceDiv, Int.reduceLE, Int.reduceLT, Int.reduceToNat, Int.reduceAdd, Int.reduceSub, Int.reduceMul, Int.reduceNeg, Int.reduceEq, Int.reduceBEq, Int.reduceBNe, ↓reduceIte, reduceCtorEq, String.reduceBNe, String.reduceEq, reduceDIte, Nat.reducePow, lk_old hbp, lk_old hbx, lk_old hby, lk_old hbq, hbp, hbx, hby, hbq, w1, w2, hcg, hb]
  refine CThen.by (in_c _ _ _ _ _) ?_
  simp only [push_cast, Nat.reduceAdd, Nat.reduceMul, Nat.reduceSub, Nat.reduceLeDiff, Nat.reduceLT, Nat.reduceEqDiff, Nat.reduceBEq, Nat.reduceBNe, Nat.reduceMod, Nat.reduceDiv, Int.reduceLE, Int.reduceLT, Int.reduceToNat, Int.reduceAdd, Int.reduceSub, Int.reduceMul, Int.reduceNeg, Int.reduceEq, Int.reduceBEq, Int.reduceBNe, ↓reduceIte, reduceCtorEq, String.reduceBNe, String.reduceEq, reduceDIte, Nat.reducePow, lk_old hbp, lk_old hbx, lk_old hby, lk_old hbq, hbp, hbx, hby, hbq, w1, w2, hcg, hb]
  refine Thn_n ?_
  refine hK _ _ ?_
  clear hK K
  refine AW.cond_f rfl ?_
  refine AW.skip ?_
  refine Thn_n ?_
  refine hK _ _ ?_
  clear hK K
  refine AW.seq_k fun K hK => ?_
  refine AW.region (by decide) ?_
  simp only [push_cast, Nat.reduceAdd, Nat.reduceMul, Nat.reduceSub, Nat.reduceLeDiff, Nat.reduceLT, Nat.reduceEqDiff, Nat.reduceBEq, Nat.reduceBNe, Nat.reduceMod, Nat.reduceDiv, Int.reduceLE, Int.reduceLT, Int.reduceToNat, Int.reduceAdd, Int.reduceSub, Int.reduceMul, Int.reduceNeg, Int.reduceEq, Int.reduceBEq, Int.reduceBNe, ↓reduceIte, reduceCtorEq, String.reduceBNe, String.reduceEq, reduceDIte, Nat.reducePow, lk_old hbp, lk_old hbx, lk_old hby, lk_old hbq, hbp, hbx, hby, hbq, w1, w2, hcg, hb]
  refine CThen.by (at_i _ _ _ _ _ _ _ _ _ _ _ rfl rfl (hp.mono _) hib (by have := c.ls.1; omega)) ?_
  simp only [push_cast, Nat.reduceAdd, Nat.reduceMul, Nat.reduceSub, Nat.reduceLeDiff, Nat.reduceLT, Nat.reduceEqDiff, Nat.reduceBEq, Nat.reduceBNe, Nat.reduceMod, Nat.reduceDiv, Int.reduceLE, Int.reduceLT, Int.reduceToNat, Int.reduceAdd, Int.reduceSub, Int.reduceMul, Int.reduceNeg, Int.reduceEq, Int.reduceBEq, Int.reduceBNe, ↓reduceIte, reduceCtorEq, String.reduceBNe, String.reduceEq, reduceDIte, Nat.reducePow, lk_old hbp, lk_old hbx, lk_old hby, lk_old hbq, hbp, hbx, hby, hbq, w1, w2, hcg, hb]
  refine Thn_n ?_
  refine hK _ _ ?_
  clear hK K
  refine AW.ret ?_
  refine hQ _ _ _ ?_
  first | refine RetP.drop0 (Or.inr rfl) ?_ ?_ hwf | refine RetP.drop (Or.inr rfl) ?_ ?_ hwf
  · simp only [resA, resOne, resTv, AV.tv, push_cast, Nat.reduceAdd, Nat.reduceMul, Nat.reduceSub, Nat.reduceLeDiff, Nat.reduceLT, Nat.reduceEqDiff, Nat.reduceBEq, Nat.reduceBNe, Nat.reduceMod, Nat.reduceDiv, Int.reduceLE, Int.reduceLT, Int.reduceToNat, Int.reduceAdd, Int.reduceSub, Int.reduceMul, Int.reduceNeg, Int.reduceEq, Int.reduceBEq, Int.reduceBNe, ↓reduceIte, reduceCtorEq, String.reduceBNe, String.reduceEq, reduceDIte, Nat.reducePow, lk_old hbp, lk_old hbx, lk_old hby, lk_old hbq, hbp, hbx, hby, hbq, w1, w2, hcg, hb]
  · rfl
theorem layd_c (pw ph qw qh r v n r2 v2 n2 bq bx by_ bp i : Nat) (x y : Int) (P B : Nat → Nat → Int) (M : AMem) (hbq : M[bq]? = some ⟨.fix, 33, 0, 0, [.int .i64 (qw : Int), .int .i64 (qh : Int), .sl r2 v2 0 n2]⟩) (hbx : M[bx]? = some ⟨.fix, 3, 0, 0, [.int .i64 x]⟩) (hby : M[by_]? = some ⟨.fix, 3, 0, 0, [.int .i64 y]⟩) (hbp : M[bp]? = some ⟨.fix, 33, 0, 0, [.int .i64 (pw : Int), .int .i64 (ph : Int), .sl r v 0 n]⟩) (hp : PicAt M r v n P) (hq : PicAt M r2 v2 n2 B) (c : LayOk pw ph n qw qh n2 x y) (hi : i < pw * ph) : Ctr Try.prog 46 [.one (.int .i64 ((i : Int).tmod (pw : Int))), .one (.int .i64 ((i : Int).tdiv (pw : Int))), .one (.ptr bq 0 0), .one (.ptr bx 0 0), .one (.ptr by_ 0 0), .one (.ptr bp 0 0)] M (.agg [.int .u8 (layG pw qw qh x y P B i 0), .int .u8 (layG pw qw qh x y P B i 1), .int .u8 (layG pw qw qh x y P B i 2)]) M := by
  cases hb : (decide (0 ≤ ((i % pw : Nat) : Int) - x) && decide (((i % pw : Nat) : Int) - x < qw) && decide (0 ≤ ((i / pw : Nat) : Int) - y) && decide (((i / pw : Nat) : Int) - y < qh))
  · exact layd_false pw ph qw qh r v n r2 v2 n2 bq bx by_ bp i x y P B M hbq hbx hby hbp hp hq c hi hb
  · exact layd_true pw ph qw qh r v n r2 v2 n2 bq bx by_ bp i x y P B M hbq hbx hby hbp hp hq c hi hb
theorem lay_ok (pw ph qw qh r v n r2 v2 n2 : Nat) (x y : Int) (P B : Nat → Nat → Int) (m : AMem) (hp : PicAt m r v n P) (hq : PicAt m r2 v2 n2 B) (c : LayOk pw ph n qw qh n2 x y) : Ctr Try.prog 17 [.agg [.int .i64 (pw : Int), .int .i64 (ph : Int), .sl r v 0 n], .agg [.int .i64 (qw : Int), .int .i64 (qh : Int), .sl r2 v2 0 n2], .one (.int .i64 x), .one (.int .i64 y)] m (.tup [(true, [.int .i64 (pw : Int), .int .i64 (ph : Int), .sl m.length 0 0 n]), (false, [.int .i64 0])]) (m ++ [⟨.grow, 22, 0, 3, dl n (layG pw qw qh x y P B)⟩]) := by
  refine Ctr.enter Try.func17 rfl (by decide) (rs := [.cell 8 33, .tmp 9]) (nt := 41) rfl rfl fun hwf Q hQ => ?_
  have hlt : ∀ k, ¬ m.length + k < m.length := fun k => by omega
  obtain ⟨kp, ez, hb⟩ := hp.hb
  obtain ⟨kp2, ez2, hb2⟩ := hq.hb
  have hr := get_lt hb
  have hr2 := get_lt hb2
  have q1 := c.hx
  have q2 := c.hy
  have p1 := c.hp
  have p2 := c.hq
  have p3 := c.hs
  have hnl := c.ls
  have e1 : ¬ x < -64 := by omega
  have e2 : ¬ 64 < x := by omega
  have e3 : ¬ y < -64 := by omega
  have e4 : ¬ 64 < y := by omega
  have hn := c.hn
  
  refine AW.seq_k fun K hK => ?_
  refine AW.region (by decide) ?_
  simp only [push_cast, Nat.reduceAdd, Nat.reduceMul, Nat.reduceSub, Nat.reduceLeDiff, Nat.reduceLT, Nat.reduceEqDiff, Nat.reduceBEq, Nat.reduceBNe, Nat.reduceMod, Nat.reduceDiv, Int.reduceLE, Int.reduceLT, Int.reduceToNat, Int.reduceAdd, Int.reduceSub, Int.reduceMul, Int.reduceNeg, Int.reduceEq, Int.reduceBEq, Int.reduceBNe, ↓reduceIte, reduceCtorEq, String.reduceBNe, String.reduceEq, reduceDIte, Nat.reducePow, lk_old hb, lk_old hb2, p1, p2, e1, e2, e3, e4]
  refine Thn_n ?_
  refine hK _ _ ?_
  clear hK K
  refine AW.seq_k fun K hK => ?_
  refine AW.seq_k fun K hK => ?_
  refine AW.region (by decide) ?_
  iterate 2
    simp only [push_cast, Nat.reduceAdd, Nat.reduceMul, Nat.reduceSub, Nat.reduceLeDiff, Nat.reduceLT, Nat.reduceEqDiff, Nat.reduceBEq, Nat.reduceBNe, Nat.reduceMod, Nat.reduceDiv, Int.reduceLE, Int.reduceLT, Int.reduceToNat, Int.reduceAdd, Int.reduceSub, Int.reduceMul, Int.reduceNeg, Int.reduceEq, Int.reduceBEq, Int.reduceBNe, ↓reduceIte, reduceCtorEq, String.reduceBNe, String.reduceEq, reduceDIte, Nat.reducePow, lk_old hb, lk_old hb2, p1, p2, e1, e2, e3, e4]
    refine CThen.by (picRight_c _ _ _ _ _ _) ?_
  simp only [push_cast, Nat.reduceAdd, Nat.reduceMul, Nat.reduceSub, Nat.reduceLeDiff, Nat.reduceLT, Nat.reduceEqDiff, Nat.reduceBEq, Nat.reduceBNe, Nat.reduceMod, Nat.reduceDiv, Int.reduceLE, Int.reduceLT, Int.reduceToNat, Int.reduceAdd, Int.reduceSub, Int.reduceMul, Int.reduceNeg, Int.reduceEq, Int.reduceBEq, Int.reduceBNe, ↓reduceIte, reduceCtorEq, String.reduceBNe, String.reduceEq, reduceDIte, Nat.reducePow, lk_old hb, lk_old hb2, p1, p2, e1, e2, e3, e4]
  refine Thn_n ?_
  refine hK _ _ ?_
  clear hK K
  refine AW.cond_f rfl ?_
  refine AW.skip ?_
  refine Thn_n ?_
  refine hK _ _ ?_
  clear hK K
  refine AW.seq_k fun K hK => ?_
  refine AW.region (by decide) ?_
  simp only [push_cast, Nat.reduceAdd, Nat.reduceMul, Nat.reduceSub, Nat.reduceLeDiff, Nat.reduceLT, Nat.reduceEqDiff, Nat.reduceBEq, Nat.reduceBNe, Nat.reduceMod, Nat.reduceDiv, Int.reduceLE, Int.reduceLT, Int.reduceToNat, Int.reduceAdd, Int.reduceSub, Int.reduceMul, Int.reduceNeg, Int.reduceEq, Int.reduceBEq, Int.reduceBNe, ↓reduceIte, reduceCtorEq, String.reduceBNe, String.reduceEq, reduceDIte, Nat.reducePow, lk_old hb, lk_old hb2, p1, p2, e1, e2, e3, e4]
  refine CThen.by (make_c _ _ _ _ n (layG pw qw qh x y P B) _ p3 (by rw [hn]; simp) (by simp [CV.below]) (fun i ex hi => by simp only [capsAV, List.map_cons, List.map_nil, List.cons_append, List.nil_append, List.append_assoc]; exact layd_c pw ph qw qh r v n r2 v2 n2 _ _ _ _ i x y P B _ (by simp only [push_cast, Nat.reduceAdd, Nat.reduceMul, Nat.reduceSub, Nat.reduceLeDiff, Nat.reduceLT, Nat.reduceEqDiff, Nat.reduceBEq, Nat.reduceBNe, Nat.reduceMod, Nat.reduceDiv, Int.reduceLE, Int.reduceLT, Int.reduceToNat, Int.reduceAdd, Int.reduceSub, Int.reduceMul, Int.reduceNeg, Int.reduceEq, Int.reduceBEq, Int.reduceBNe, ↓reduceIte, reduceCtorEq, String.reduceBNe, String.reduceEq, reduceDIte, Nat.reducePow]) (by simp only [push_cast, Nat.reduceAdd, Nat.reduceMul, Nat.reduceSub, Nat.reduceLeDiff, Nat.reduceLT, Nat.reduceEqDiff, Nat.reduceBEq, Nat.reduceBNe, Nat.reduceMod, Nat.reduceDiv, Int.reduceLE, Int.reduceLT, Int.reduceToNat, Int.reduceAdd, Int.reduceSub, Int.reduceMul, Int.reduceNeg, Int.reduceEq, Int.reduceBEq, Int.reduceBNe, ↓reduceIte, reduceCtorEq, String.reduceBNe, String.reduceEq, reduceDIte, Nat.reducePow]) (by simp only [push_cast, Nat.reduceAdd, Nat.reduceMul, Nat.reduceSub, Nat.reduceLeDiff, Nat.reduceLT, Nat.reduceEqDiff, Nat.reduceBEq, Nat.reduceBNe, Nat.reduceMod, Nat.reduceDiv, Int.reduceLE, Int.reduceLT, Int.reduceToNat, Int.reduceAdd, Int.reduceSub, Int.reduceMul, Int.reduceNeg, Int.reduceEq, Int.reduceBEq, Int.reduceBNe, ↓reduceIte, reduceCtorEq, String.reduceBNe, String.reduceEq, reduceDIte, Nat.reducePow]) (by simp only [push_cast, Nat.reduceAdd, Nat.reduceMul, Nat.reduceSub, Nat.reduceLeDiff, Nat.reduceLT, Nat.reduceEqDiff, Nat.reduceBEq, Nat.reduceBNe, Nat.reduceMod, Nat.reduceDiv, Int.reduceLE, Int.reduceLT, Int.reduceToNat, Int.reduceAdd, Int.reduceSub, Int.reduceMul, Int.reduceNeg, Int.reduceEq, Int.reduceBEq, Int.reduceBNe, ↓reduceIte, reduceCtorEq, String.reduceBNe, String.reduceEq, reduceDIte, Nat.reducePow]) (hp.mono _) (hq.mono _) c (by omega))) ?_
  simp only [push_cast, Nat.reduceAdd, Nat.reduceMul, Nat.reduceSub, Nat.reduceLeDiff, Nat.reduceLT, Nat.reduceEqDiff, Nat.reduceBEq, Nat.reduceBNe, Nat.reduceMod, Nat.reduceDiv, Int.reduceLE, Int.reduceLT, Int.reduceToNat, Int.reduceAdd, Int.reduceSub, Int.reduceMul, Int.reduceNeg, Int.reduceEq, Int.reduceBEq, Int.reduceBNe, ↓reduceIte, reduceCtorEq, String.reduceBNe, String.reduceEq, reduceDIte, Nat.reducePow, lk_old hb, lk_old hb2, p1, p2, e1, e2, e3, e4]
  refine Thn_n ?_
  refine hK _ _ ?_
  clear hK K
  refine AW.ret ?_
  refine hQ _ _ _ ?_
  refine RetP.pick [(m.length + 5, 0)] (Or.inr rfl) ?_ ?_ ?_ hwf ?_
  · simp only [resA, resOne, resTv, AV.tv, push_cast, Nat.reduceAdd, Nat.reduceMul, Nat.reduceSub, Nat.reduceLeDiff, Nat.reduceLT, Nat.reduceEqDiff, Nat.reduceBEq, Nat.reduceBNe, Nat.reduceMod, Nat.reduceDiv, Int.reduceLE, Int.reduceLT, Int.reduceToNat, Int.reduceAdd, Int.reduceSub, Int.reduceMul, Int.reduceNeg, Int.reduceEq, Int.reduceBEq, Int.reduceBNe, ↓reduceIte, reduceCtorEq, String.reduceBNe, String.reduceEq, reduceDIte, Nat.reducePow]
    simp [renV, renT, renL, renC, renIdx, hlt]
  · simp only [picks, push_cast, Nat.reduceAdd, Nat.reduceMul, Nat.reduceSub, Nat.reduceLeDiff, Nat.reduceLT, Nat.reduceEqDiff, Nat.reduceBEq, Nat.reduceBNe, Nat.reduceMod, Nat.reduceDiv, Int.reduceLE, Int.reduceLT, Int.reduceToNat, Int.reduceAdd, Int.reduceSub, Int.reduceMul, Int.reduceNeg, Int.reduceEq, Int.reduceBEq, Int.reduceBNe, ↓reduceIte, reduceCtorEq, String.reduceBNe, String.reduceEq, reduceDIte, Nat.reducePow]
  · simp [distinctFrom]
  · exact MWf_one (dl_below _ _ _)
  
theorem lay_no (PW PH QW QH x y : Int) (r v n r2 v2 n2 : Nat) (m : AMem) (hbad : layR PW PH n QW QH n2 x y = false) : Ctr Try.prog 17 [.agg [.int .i64 PW, .int .i64 PH, .sl r v 0 n], .agg [.int .i64 QW, .int .i64 QH, .sl r2 v2 0 n2], .one (.int .i64 x), .one (.int .i64 y)] m (.tup [(true, [.int .i64 0, .int .i64 0, .nils]), (false, [.int .i64 1])]) m := by
  refine Ctr.enter Try.func17 rfl (by decide) (rs := [.cell 8 33, .tmp 9]) (nt := 41) rfl rfl fun hwf Q hQ => ?_
  rcases chain6 (picR PW PH n = true) (picR QW QH n2 = true) (¬ x < -64) (¬ 64 < x) (¬ y < -64) (¬ 64 < y) with ⟨p1, p2, p3, p4, p5, p6⟩ | ⟨p1, p2, p3, p4, p5, p6⟩ | ⟨p1, p2, p3, p4, p5, p6⟩ | ⟨p1, p2, p3, p4, p5, p6⟩ | ⟨p1, p2, p3, p4, p5, p6⟩ | ⟨p1, p2, p3, p4, p5, p6⟩ | ⟨p1, p2, p3, p4, p5, p6⟩
  · exfalso
    have c : layR PW PH n QW QH n2 x y = true := by
      simp only [layR, p1, p2, Bool.true_and, Bool.and_eq_true, decide_eq_true_eq]
      omega
    rw [hbad] at c; cases c
  all_goals (
  try simp only [Bool.not_eq_true, Bool.not_eq_false, Classical.not_not] at p1 p2 p3 p4 p5 p6
  refine AW.seq_k fun K hK => ?_
  refine AW.region (by decide) ?_
  simp only [push_cast, Nat.reduceAdd, Nat.reduceMul, Nat.reduceSub, Nat.reduceLeDiff, Nat.reduceLT, Nat.reduceEqDiff, Nat.reduceBEq, Nat.reduceBNe, Nat.reduceMod, Nat.reduceDiv, Int.reduceLE, Int.reduceLT, Int.reduceToNat, Int.reduceAdd, Int.reduceSub, Int.reduceMul, Int.reduceNeg, Int.reduceEq, Int.reduceBEq, Int.reduceBNe, ↓reduceIte, reduceCtorEq, String.reduceBNe, String.reduceEq, reduceDIte, Nat.reducePow, p1, p2, p3, p4, p5, p6]
  refine Thn_n ?_
  refine hK _ _ ?_
  clear hK K
  refine AW.seq_k fun K hK => ?_
  refine AW.seq_k fun K hK => ?_
  refine AW.region (by decide) ?_
  simp only [push_cast, Nat.reduceAdd, Nat.reduceMul, Nat.reduceSub, Nat.reduceLeDiff, Nat.reduceLT, Nat.reduceEqDiff, Nat.reduceBEq, Nat.reduceBNe, Nat.reduceMod, Nat.reduceDiv, Int.reduceLE, Int.reduceLT, Int.reduceToNat, Int.reduceAdd, Int.reduceSub, Int.reduceMul, Int.reduceNeg, Int.reduceEq, Int.reduceBEq, Int.reduceBNe, ↓reduceIte, reduceCtorEq, String.reduceBNe, String.reduceEq, reduceDIte, Nat.reducePow, p1, p2, p3, p4, p5, p6]
  try (refine CThen.by (picRight_c _ _ _ _ _ _) ?_; simp only [push_cast, Nat.reduceAdd, Nat.reduceMul, Nat.reduceSub, Nat.reduceLeDiff, Nat.reduceLT, Nat.reduceEqDiff, Nat.reduceBEq, Nat.reduceBNe, Nat.reduceMod, Nat.reduceDiv, Int.reduceLE, Int.reduceLT, Int.reduceToNat, Int.reduceAdd, Int.reduceSub, Int.reduceMul, Int.reduceNeg, Int.reduceEq, Int.reduceBEq, Int.reduceBNe, ↓reduceIte, reduceCtorEq, String.reduceBNe, String.reduceEq, reduceDIte, Nat.reducePow, p1, p2, p3, p4, p5, p6])
  try (refine CThen.by (picRight_c _ _ _ _ _ _) ?_; simp only [push_cast, Nat.reduceAdd, Nat.reduceMul, Nat.reduceSub, Nat.reduceLeDiff, Nat.reduceLT, Nat.reduceEqDiff, Nat.reduceBEq, Nat.reduceBNe, Nat.reduceMod, Nat.reduceDiv, Int.reduceLE, Int.reduceLT, Int.reduceToNat, Int.reduceAdd, Int.reduceSub, Int.reduceMul, Int.reduceNeg, Int.reduceEq, Int.reduceBEq, Int.reduceBNe, ↓reduceIte, reduceCtorEq, String.reduceBNe, String.reduceEq, reduceDIte, Nat.reducePow, p1, p2, p3, p4, p5, p6])
  refine Thn_n ?_
  refine hK _ _ ?_
  clear hK K
  refine AW.cond_t rfl ?_
  refine AW.seq_k fun K hK => ?_
  refine AW.region (by decide) ?_
  simp only [push_cast, Nat.reduceAdd, Nat.reduceMul, Nat.reduceSub, Nat.reduceLeDiff, Nat.reduceLT, Nat.reduceEqDiff, Nat.reduceBEq, Nat.reduceBNe, Nat.reduceMod, Nat.reduceDiv, Int.reduceLE, Int.reduceLT, Int.reduceToNat, Int.reduceAdd, Int.reduceSub, Int.reduceMul, Int.reduceNeg, Int.reduceEq, Int.reduceBEq, Int.reduceBNe, ↓reduceIte, reduceCtorEq, String.reduceBNe, String.reduceEq, reduceDIte, Nat.reducePow, p1, p2, p3, p4, p5, p6]
  refine Thn_n ?_
  refine hK _ _ ?_
  clear hK K
  refine AW.ret ?_
  refine Thn_r ?_
  refine hQ _ _ _ ?_
  first | refine RetP.drop0 (Or.inr rfl) ?_ ?_ hwf | refine RetP.drop (Or.inr rfl) ?_ ?_ hwf
  · simp only [resA, resOne, resTv, AV.tv, push_cast, Nat.reduceAdd, Nat.reduceMul, Nat.reduceSub, Nat.reduceLeDiff, Nat.reduceLT, Nat.reduceEqDiff, Nat.reduceBEq, Nat.reduceBNe, Nat.reduceMod, Nat.reduceDiv, Int.reduceLE, Int.reduceLT, Int.reduceToNat, Int.reduceAdd, Int.reduceSub, Int.reduceMul, Int.reduceNeg, Int.reduceEq, Int.reduceBEq, Int.reduceBNe, ↓reduceIte, reduceCtorEq, String.reduceBNe, String.reduceEq, reduceDIte, Nat.reducePow, p1, p2, p3, p4, p5, p6]
  · rfl
  )
theorem rlay_no (PW PH QW QH x y : Int) (r v n r2 v2 n2 : Nat) (m : AMem) (hbad : layR PW PH n QW QH n2 x y = false) : Ctr Try.prog 24 [.agg [.int .i64 PW, .int .i64 PH, .sl r v 0 n], .agg [.int .i64 QW, .int .i64 QH, .sl r2 v2 0 n2], .one (.int .i64 x), .one (.int .i64 y)] m (.tup [(true, [.int .i64 0, .int .i64 0, .nils]), (false, [.int .i64 1])]) m := by
  refine Ctr.enter Try.func24 rfl (by decide) (rs := [.cell 8 29, .tmp 9]) (nt := 103) rfl rfl fun hwf Q hQ => ?_
  rcases chain6 (picR PW PH n = true) (picR QW QH n2 = true) (¬ x < -64) (¬ 64 < x) (¬ y < -64) (¬ 64 < y) with ⟨p1, p2, p3, p4, p5, p6⟩ | ⟨p1, p2, p3, p4, p5, p6⟩ | ⟨p1, p2, p3, p4, p5, p6⟩ | ⟨p1, p2, p3, p4, p5, p6⟩ | ⟨p1, p2, p3, p4, p5, p6⟩ | ⟨p1, p2, p3, p4, p5, p6⟩ | ⟨p1, p2, p3, p4, p5, p6⟩
  · exfalso
    have c : layR PW PH n QW QH n2 x y = true := by
      simp only [layR, p1, p2, Bool.true_and, Bool.and_eq_true, decide_eq_true_eq]
      omega
    rw [hbad] at c; cases c
  all_goals (
  try simp only [Bool.not_eq_true, Bool.not_eq_false, Classical.not_not] at p1 p2 p3 p4 p5 p6
  refine AW.seq_k fun K hK => ?_
  refine AW.region (by decide) ?_
  simp only [push_cast, Nat.reduceAdd, Nat.reduceMul, Nat.reduceSub, Nat.reduceLeDiff, Nat.reduceLT, Nat.reduceEqDiff, Nat.reduceBEq, Nat.reduceBNe, Nat.reduceMod, Nat.reduceDiv, Int.reduceLE, Int.reduceLT, Int.reduceToNat, Int.reduceAdd, Int.reduceSub, Int.reduceMul, Int.reduceNeg, Int.reduceEq, Int.reduceBEq, Int.reduceBNe, ↓reduceIte, reduceCtorEq, String.reduceBNe, String.reduceEq, reduceDIte, Nat.reducePow, p1, p2, p3, p4, p5, p6]
  refine Thn_n ?_
  refine hK _ _ ?_
  clear hK K
  refine AW.seq_k fun K hK => ?_
  refine AW.seq_k fun K hK => ?_
  refine AW.region (by decide) ?_
  simp only [push_cast, Nat.reduceAdd, Nat.reduceMul, Nat.reduceSub, Nat.reduceLeDiff, Nat.reduceLT, Nat.reduceEqDiff, Nat.reduceBEq, Nat.reduceBNe, Nat.reduceMod, Nat.reduceDiv, Int.reduceLE, Int.reduceLT, Int.reduceToNat, Int.reduceAdd, Int.reduceSub, Int.reduceMul, Int.reduceNeg, Int.reduceEq, Int.reduceBEq, Int.reduceBNe, ↓reduceIte, reduceCtorEq, String.reduceBNe, String.reduceEq, reduceDIte, Nat.reducePow, p1, p2, p3, p4, p5, p6]
  try (refine CThen.by (refRight_c _ _ _ _ _ _) ?_; simp only [push_cast, Nat.reduceAdd, Nat.reduceMul, Nat.reduceSub, Nat.reduceLeDiff, Nat.reduceLT, Nat.reduceEqDiff, Nat.reduceBEq, Nat.reduceBNe, Nat.reduceMod, Nat.reduceDiv, Int.reduceLE, Int.reduceLT, Int.reduceToNat, Int.reduceAdd, Int.reduceSub, Int.reduceMul, Int.reduceNeg, Int.reduceEq, Int.reduceBEq, Int.reduceBNe, ↓reduceIte, reduceCtorEq, String.reduceBNe, String.reduceEq, reduceDIte, Nat.reducePow, p1, p2, p3, p4, p5, p6])
  try (refine CThen.by (refRight_c _ _ _ _ _ _) ?_; simp only [push_cast, Nat.reduceAdd, Nat.reduceMul, Nat.reduceSub, Nat.reduceLeDiff, Nat.reduceLT, Nat.reduceEqDiff, Nat.reduceBEq, Nat.reduceBNe, Nat.reduceMod, Nat.reduceDiv, Int.reduceLE, Int.reduceLT, Int.reduceToNat, Int.reduceAdd, Int.reduceSub, Int.reduceMul, Int.reduceNeg, Int.reduceEq, Int.reduceBEq, Int.reduceBNe, ↓reduceIte, reduceCtorEq, String.reduceBNe, String.reduceEq, reduceDIte, Nat.reducePow, p1, p2, p3, p4, p5, p6])
  refine Thn_n ?_
  refine hK _ _ ?_
  clear hK K
  refine AW.cond_t rfl ?_
  refine AW.seq_k fun K hK => ?_
  refine AW.region (by decide) ?_
  simp only [push_cast, Nat.reduceAdd, Nat.reduceMul, Nat.reduceSub, Nat.reduceLeDiff, Nat.reduceLT, Nat.reduceEqDiff, Nat.reduceBEq, Nat.reduceBNe, Nat.reduceMod, Nat.reduceDiv, Int.reduceLE, Int.reduceLT, Int.reduceToNat, Int.reduceAdd, Int.reduceSub, Int.reduceMul, Int.reduceNeg, Int.reduceEq, Int.reduceBEq, Int.reduceBNe, ↓reduceIte, reduceCtorEq, String.reduceBNe, String.reduceEq, reduceDIte, Nat.reducePow, p1, p2, p3, p4, p5, p6]
  refine Thn_n ?_
  refine hK _ _ ?_
  clear hK K
  refine AW.ret ?_
  refine Thn_r ?_
  refine hQ _ _ _ ?_
  first | refine RetP.drop0 (Or.inr rfl) ?_ ?_ hwf | refine RetP.drop (Or.inr rfl) ?_ ?_ hwf
  · simp only [resA, resOne, resTv, AV.tv, push_cast, Nat.reduceAdd, Nat.reduceMul, Nat.reduceSub, Nat.reduceLeDiff, Nat.reduceLT, Nat.reduceEqDiff, Nat.reduceBEq, Nat.reduceBNe, Nat.reduceMod, Nat.reduceDiv, Int.reduceLE, Int.reduceLT, Int.reduceToNat, Int.reduceAdd, Int.reduceSub, Int.reduceMul, Int.reduceNeg, Int.reduceEq, Int.reduceBEq, Int.reduceBNe, ↓reduceIte, reduceCtorEq, String.reduceBNe, String.reduceEq, reduceDIte, Nat.reducePow, p1, p2, p3, p4, p5, p6]
  · rfl
  )
theorem lay_c (PW PH QW QH x y : Int) (r v n r2 v2 n2 : Nat) (P B : Nat → Nat → Int) (m : AMem) (hp : PicAt m r v n P) (hq : PicAt m r2 v2 n2 B) : Ctr Try.prog 17 [.agg [.int .i64 PW, .int .i64 PH, .sl r v 0 n], .agg [.int .i64 QW, .int .i64 QH, .sl r2 v2 0 n2], .one (.int .i64 x), .one (.int .i64 y)] m ((layF PW PH n P QW QH n2 B x y).ret m.length) (m ++ [(layF PW PH n P QW QH n2 B x y).blk]) := by
  unfold layF
  split
  · rename_i hc
    obtain ⟨pw, ph, qw, qh, rfl, rfl, rfl, rfl, c⟩ := layR_nat hc
    exact lay_ok pw ph qw qh r v n r2 v2 n2 x y P B m hp hq c
  · rename_i hc
    exact noP_of (lay_no PW PH QW QH x y r v n r2 v2 n2 m (by simpa using hc))
end Go.Proofs.Ytgkmjcpcigklpaa
