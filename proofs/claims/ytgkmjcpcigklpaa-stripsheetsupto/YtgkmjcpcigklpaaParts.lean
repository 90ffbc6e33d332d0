/- Walks and facts of this seat's program over abstract states, printed by a program of mine; no conditions but those that each theorem names. -/
import Derived.Test.YtgkmjcpcigklpaaPic3
set_option linter.unusedSimpArgs false
set_option linter.unusedVariables false
set_option maxRecDepth 100000
set_option maxHeartbeats 4000000
namespace Go.Proofs.Ytgkmjcpcigklpaa
open Go Go.Eng

theorem tmodN (i w : Nat) : (i : Int).tmod (w : Int) = ((i % w : Nat) : Int) := rfl
theorem tdivN (i w : Nat) : (i : Int).tdiv (w : Int) = ((i / w : Nat) : Int) := rfl
theorem row_lt {i w h : Nat} (hi : i < w * h) (hw : 1 ≤ w) : i / w < h ∧ i % w < w := ⟨Nat.div_lt_of_lt_mul hi, Nat.mod_lt _ hw⟩
theorem div_at {v u w : Nat} (hu : u < w) : (v * w + u) / w = v ∧ (v * w + u) % w = u := by
  have h0 : 0 < w := by omega
  constructor
  · rw [Nat.mul_comm, Nat.mul_add_div h0, Nat.div_eq_of_lt hu]; rfl
  · rw [Nat.mul_comm, Nat.mul_add_mod, Nat.mod_eq_of_lt hu]
def fillT (T : Nat → Nat → Int) (D : Nat → Nat → Int) (j : Nat) : Nat → Nat → Int := fun i k => if i < j then T i k else D i k
theorem fill_upd {n j : Nat} {T D : Nat → Nat → Int} {a b c : Int} (h0 : T j 0 = a) (h1 : T j 1 = b) (h2 : T j 2 = c) : dl n (updD (fillT T D j) j a b c) = dl n (fillT T D (j + 1)) := by
  refine dl_congr fun i k hi hk => ?_
  simp only [updD, fillT]
  by_cases e : i = j
  · subst e
    rw [if_pos rfl, if_pos (show i < i + 1 by omega)]
    match k, hk with
    | 0, _ => rw [h0]; rfl
    | 1, _ => rw [h1]; rfl
    | 2, _ => rw [h2]; rfl
  · rw [if_neg e]
    by_cases h : i < j
    · rw [if_pos h, if_pos (by omega)]
    · rw [if_neg h, if_neg (by omega)]
theorem dl_set3 {n : Nat} {G : Nat → Nat → Int} {j : Nat} {a b c : Int} (hj : j < n) : (((dl n G).set (j * 3) (.int .u8 a)).set (j * 3 + 1) (.int .u8 b)).set (j * 3 + 2) (.int .u8 c) = dl n (updD G j a b c) := dl_set hj
theorem fill_set3 {n j : Nat} {T D : Nat → Nat → Int} {a b c : Int} (hj : j < n) (h0 : T j 0 = a) (h1 : T j 1 = b) (h2 : T j 2 = c) : (((dl n (fillT T D j)).set (j * 3) (.int .u8 a)).set (j * 3 + 1) (.int .u8 b)).set (j * 3 + 2) (.int .u8 c) = dl n (fillT T D (j + 1)) := by
  rw [dl_set3 hj, fill_upd h0 h1 h2]
theorem fill_all {n : Nat} {T D : Nat → Nat → Int} : dl n (fillT T D n) = dl n T := dl_congr fun i k hi hk => by simp only [fillT]; rw [if_pos hi]
theorem fill_none {n : Nat} {T D : Nat → Nat → Int} : dl n (fillT T D 0) = dl n D := dl_congr fun i k hi hk => by simp only [fillT]; rw [if_neg (by omega)]
def cutR (PW PH : Int) (n : Nat) (x y w h : Int) : Bool := picR PW PH n && (szR w h && ((decide (0 ≤ x) && decide (x < PW) && decide (0 ≤ y) && decide (y < PH)) && (decide (w ≤ PW - x) && decide (h ≤ PH - y))))
def cutG (pw x y w : Nat) (G : Nat → Nat → Int) : Nat → Nat → Int := fun i k => G ((y + i / w) * pw + (x + i % w)) k
def cutF (PW PH : Int) (n : Nat) (G : Nat → Nat → Int) (x y w h : Int) : PE := if cutR PW PH n x y w h = true then ⟨w, h, (w * h).toNat, cutG PW.toNat x.toNat y.toNat w.toNat G, 0⟩ else noP
structure CutOk (pw ph n x y w h : Nat) : Prop where
  a1 : 1 ≤ pw
  a2 : pw ≤ 64
  a3 : 1 ≤ ph
  a4 : ph ≤ 64
  b1 : 1 ≤ w
  b2 : w ≤ 64
  b3 : 1 ≤ h
  b4 : h ≤ 64
  hn : n = pw * ph
  hx : x + w ≤ pw
  hy : y + h ≤ ph
  hp : picR (pw : Int) (ph : Int) n = true
  hs : szR (w : Int) (h : Int) = true
theorem cutR_nat {PW PH : Int} {n : Nat} {x y w h : Int} (hc : cutR PW PH n x y w h = true) : ∃ pw ph x' y' w' h' : Nat, PW = (pw : Int) ∧ PH = (ph : Int) ∧ x = (x' : Int) ∧ y = (y' : Int) ∧ w = (w' : Int) ∧ h = (h' : Int) ∧ CutOk pw ph n x' y' w' h' := by
  simp only [cutR, Bool.and_eq_true, decide_eq_true_eq] at hc
  obtain ⟨hp, hs, ⟨⟨⟨c1, c2⟩, c3⟩, c4⟩, c5, c6⟩ := hc
  obtain ⟨pw, ph, rfl, rfl, a1, a2, a3, a4, hn, _⟩ := picR_nat hp
  obtain ⟨w', h', rfl, rfl, b1, b2, b3, b4⟩ := szR_nat hs
  exact ⟨pw, ph, x.toNat, y.toNat, w', h', rfl, rfl, by omega, by omega, rfl, rfl, ⟨a1, a2, a3, a4, b1, b2, b3, b4, hn, by omega, by omega, hp, hs⟩⟩
theorem CutOk.ix {pw ph n x y w h : Nat} (c : CutOk pw ph n x y w h) {u v : Nat} (hu : u < w) (hv : v < h) : (y + v) * pw + (x + u) < n := by
  rw [c.hn]; exact ix_lt (by have := c.hx; omega) (by have := c.hy; omega)
theorem CutOk.n_le {pw ph n x y w h : Nat} (c : CutOk pw ph n x y w h) : n ≤ 4096 := by rw [c.hn]; exact wh_le c.a2 c.a4

theorem at_i (H X Y : Int) (w x y r v n : Nat) (G : Nat → Nat → Int) (m : AMem) (hX : X = (x : Int)) (hY : Y = (y : Int)) (hp : PicAt m r v n G) (hi : y * w + x < n) (hn : n ≤ 1048576) : Ctr Try.prog 41 [.agg [.int .i64 (w : Int), .int .i64 H, .sl r v 0 n], .one (.int .i64 X), .one (.int .i64 Y)] m (.agg [.int .u8 (G (y * w + x) 0), .int .u8 (G (y * w + x) 1), .int .u8 (G (y * w + x) 2)]) m := by
  subst hX; subst hY; exact at_c H w x y r v n G m hp hi hn
theorem At_i (H X Y : Int) (w x y r v n : Nat) (G : Nat → Nat → Int) (m : AMem) (hX : X = (x : Int)) (hY : Y = (y : Int)) (hp : PicAt m r v n G) (hi : y * w + x < n) (hn : n ≤ 1048576) : Ctr Try.prog 48 [.agg [.int .i64 (w : Int), .int .i64 H, .sl r v 0 n], .one (.int .i64 X), .one (.int .i64 Y)] m (.agg [.int .u8 (G (y * w + x) 0), .int .u8 (G (y * w + x) 1), .int .u8 (G (y * w + x) 2)]) m := by
  subst hX; subst hY; exact At_c H w x y r v n G m hp hi hn
theorem cutd_c (pw ph x y w h r v n bp bx by_ i : Nat) (G : Nat → Nat → Int) (M : AMem) (hbp : M[bp]? = some ⟨.fix, 33, 0, 0, [.int .i64 (pw : Int), .int .i64 (ph : Int), .sl r v 0 n]⟩) (hbx : M[bx]? = some ⟨.fix, 3, 0, 0, [.int .i64 (x : Int)]⟩) (hby : M[by_]? = some ⟨.fix, 3, 0, 0, [.int .i64 (y : Int)]⟩) (hp : PicAt M r v n G) (c : CutOk pw ph n x y w h) (hi : i < w * h) : Ctr Try.prog 45 [.one (.int .i64 ((i : Int).tmod (w : Int))), .one (.int .i64 ((i : Int).tdiv (w : Int))), .one (.ptr bp 0 0), .one (.ptr bx 0 0), .one (.ptr by_ 0 0)] M (.agg [.int .u8 (cutG pw x y w G i 0), .int .u8 (cutG pw x y w G i 1), .int .u8 (cutG pw x y w G i 2)]) M := by
  refine Ctr.enter Try.func45 rfl (by decide) (rs := [.cell 7 22]) (nt := 16) rfl rfl fun hwf Q hQ => ?_
  obtain ⟨hv, hu⟩ := row_lt hi c.b1
  have q1 := c.a2
  have q2 := c.a4
  have q3 := c.hx
  have q4 := c.hy
  rw [tmodN, tdivN]
  have w1 : IntKind.i64.wrap ((x : Int) + ((i % w : Nat) : Int)) = ((x + i % w : Nat) : Int) := by rw [← Int.natCast_add, i64n (by omega)]
  have w2 : IntKind.i64.wrap ((y : Int) + ((i / w : Nat) : Int)) = ((y + i / w : Nat) : Int) := by rw [← Int.natCast_add, i64n (by omega)]
  generalize hU : ((i % w : Nat) : Int) = U at *
  generalize hV : ((i / w : Nat) : Int) = V at *
  generalize hx' : x + i % w = x' at *
  generalize hy' : y + i / w = y' at *
  have hcg : ∀ k, cutG pw x y w G i k = G (y' * pw + x') k := fun k => by simp only [cutG, hx', hy']
  have hib := c.ix hu hv
  rw [hx', hy'] at hib
  refine AW.seq_k fun K hK => ?_
  refine AW.region (by decide) ?_
  simp only [push_cast, Nat.reduceAdd, Nat.reduceMul, Nat.reduceSub, Nat.reduceLeDiff, Nat.reduceLT, Nat.reduceEqDiff, Nat.reduceBEq, Nat.reduceBNe, Nat.reduceMod, Nat.reduceDiv, Int.reduceLE, Int.reduceLT, Int.reduceToNat, Int.reduceAdd, Int.reduceSub, Int.reduceMul, Int.reduceNeg, Int.reduceEq, Int.reduceBEq, Int.reduceBNe, ↓reduceIte, reduceCtorEq, String.reduceBNe, String.reduceEq, reduceDIte, Nat.reducePow, lk_old hbp, lk_old hbx, lk_old hby, hbp, hbx, hby, w1, w2, hcg]
  refine Thn_n ?_
  refine hK _ _ ?_
  clear hK K
  refine AW.seq_k fun K hK => ?_
  refine AW.region (by decide) ?_
  simp only [push_cast, Nat.reduceAdd, Nat.reduceMul, Nat.reduceSub, Nat.reduceLeDiff, Nat.reduceLT, Nat.reduceEqDiff, Nat.reduceBEq, Nat.reduceBNe, Nat.reduceMod, Nat.reduceDiv, Int.reduceLE, Int.reduceLT, Int.reduceToNat, Int.reduceAdd, Int.reduceSub, Int.reduceMul, Int.reduceNeg, Int.reduceEq, Int.reduceBEq, Int.reduceBNe, ↓reduceIte, reduceCtorEq, String.reduceBNe, String.reduceEq, reduceDIte, Nat.reducePow, lk_old hbp, lk_old hbx, lk_old hby, hbp, hbx, hby, w1, w2, hcg]
  refine CThen.by (at_i _ _ _ _ _ _ _ _ _ _ _ rfl rfl (hp.mono _) hib (by have := c.n_le; omega)) ?_
  simp only [push_cast, Nat.reduceAdd, Nat.reduceMul, Nat.reduceSub, Nat.reduceLeDiff, Nat.reduceLT, Nat.reduceEqDiff, Nat.reduceBEq, Nat.reduceBNe, Nat.reduceMod, Nat.reduceDiv, Int.reduceLE, Int.reduceLT, Int.reduceToNat, Int.reduceAdd, Int.reduceSub, Int.reduceMul, Int.reduceNeg, Int.reduceEq, Int.reduceBEq, Int.reduceBNe, ↓reduceIte, reduceCtorEq, String.reduceBNe, String.reduceEq, reduceDIte, Nat.reducePow, lk_old hbp, lk_old hbx, lk_old hby, hbp, hbx, hby, w1, w2, hcg]
  refine Thn_n ?_
  refine hK _ _ ?_
  clear hK K
  refine AW.ret ?_
  refine hQ _ _ _ ?_
  first | refine RetP.drop0 (Or.inr rfl) ?_ ?_ hwf | refine RetP.drop (Or.inr rfl) ?_ ?_ hwf
  · simp only [resA, resOne, resTv, AV.tv, push_cast, Nat.reduceAdd, Nat.reduceMul, Nat.reduceSub, Nat.reduceLeDiff, Nat.reduceLT, Nat.reduceEqDiff, Nat.reduceBEq, Nat.reduceBNe, Nat.reduceMod, Nat.reduceDiv, Int.reduceLE, Int.reduceLT, Int.reduceToNat, Int.reduceAdd, Int.reduceSub, Int.reduceMul, Int.reduceNeg, Int.reduceEq, Int.reduceBEq, Int.reduceBNe, ↓reduceIte, reduceCtorEq, String.reduceBNe, String.reduceEq, reduceDIte, Nat.reducePow, lk_old hbp, lk_old hbx, lk_old hby, hbp, hbx, hby, w1, w2, hcg]
  · rfl
theorem cut_ok (pw ph x y w h r v n : Nat) (G : Nat → Nat → Int) (m : AMem) (hp : PicAt m r v n G) (c : CutOk pw ph n x y w h) : Ctr Try.prog 16 [.agg [.int .i64 (pw : Int), .int .i64 (ph : Int), .sl r v 0 n], .one (.int .i64 (x : Int)), .one (.int .i64 (y : Int)), .agg [.int .i64 (w : Int), .int .i64 (h : Int)]] m (.tup [(true, [.int .i64 (w : Int), .int .i64 (h : Int), .sl m.length 0 0 (w * h)]), (false, [.int .i64 0])]) (m ++ [⟨.grow, 22, 0, 3, dl (w * h) (cutG pw x y w G)⟩]) := by
  refine Ctr.enter Try.func16 rfl (by decide) (rs := [.cell 8 33, .tmp 9]) (nt := 52) rfl rfl fun hwf Q hQ => ?_
  have hlt : ∀ k, ¬ m.length + k < m.length := fun k => by omega
  obtain ⟨kp, ez, hb⟩ := hp.hb
  have hr := get_lt hb
  have q1 := c.a1
  have q2 := c.a2
  have q3 := c.a3
  have q4 := c.a4
  have q5 := c.hx
  have q6 := c.hy
  have q7 := c.b1
  have q8 := c.b3
  have p1 := c.hp
  have p2 := c.hs
  have hnl := c.n_le
  have e1 : IntKind.i64.wrap ((pw : Int) - (x : Int)) = (pw : Int) - (x : Int) := by rw [IntKind.wrap_i64]; omega
  have e2 : IntKind.i64.wrap ((ph : Int) - (y : Int)) = (ph : Int) - (y : Int) := by rw [IntKind.wrap_i64]; omega
  have e3 : ¬ ((pw : Int) - (x : Int) < (w : Int)) := by omega
  have e4 : ¬ ((ph : Int) - (y : Int) < (h : Int)) := by omega
  have e5 : (0 : Int) ≤ (x : Int) := by omega
  have e6 : (x : Int) < (pw : Int) := by omega
  have e7 : (0 : Int) ≤ (y : Int) := by omega
  have e8 : (y : Int) < (ph : Int) := by omega
  refine AW.seq_k fun K hK => ?_
  refine AW.region (by decide) ?_
  simp only [push_cast, Nat.reduceAdd, Nat.reduceMul, Nat.reduceSub, Nat.reduceLeDiff, Nat.reduceLT, Nat.reduceEqDiff, Nat.reduceBEq, Nat.reduceBNe, Nat.reduceMod, Nat.reduceDiv, Int.reduceLE, Int.reduceLT, Int.reduceToNat, Int.reduceAdd, Int.reduceSub, Int.reduceMul, Int.reduceNeg, Int.reduceEq, Int.reduceBEq, Int.reduceBNe, ↓reduceIte, reduceCtorEq, String.reduceBNe, String.reduceEq, reduceDIte, Nat.reducePow, lk_old hb, p1, p2, e1, e2, e3, e4, e5, e6, e7, e8]
  refine Thn_n ?_
  refine hK _ _ ?_
  clear hK K
  refine AW.seq_k fun K hK => ?_
  refine AW.seq_k fun K hK => ?_
  refine AW.region (by decide) ?_
  simp only [push_cast, Nat.reduceAdd, Nat.reduceMul, Nat.reduceSub, Nat.reduceLeDiff, Nat.reduceLT, Nat.reduceEqDiff, Nat.reduceBEq, Nat.reduceBNe, Nat.reduceMod, Nat.reduceDiv, Int.reduceLE, Int.reduceLT, Int.reduceToNat, Int.reduceAdd, Int.reduceSub, Int.reduceMul, Int.reduceNeg, Int.reduceEq, Int.reduceBEq, Int.reduceBNe, ↓reduceIte, reduceCtorEq, String.reduceBNe, String.reduceEq, reduceDIte, Nat.reducePow, lk_old hb, p1, p2, e1, e2, e3, e4, e5, e6, e7, e8]
  refine CThen.by (picRight_c _ _ _ _ _ _) ?_
  simp only [push_cast, Nat.reduceAdd, Nat.reduceMul, Nat.reduceSub, Nat.reduceLeDiff, Nat.reduceLT, Nat.reduceEqDiff, Nat.reduceBEq, Nat.reduceBNe, Nat.reduceMod, Nat.reduceDiv, Int.reduceLE, Int.reduceLT, Int.reduceToNat, Int.reduceAdd, Int.reduceSub, Int.reduceMul, Int.reduceNeg, Int.reduceEq, Int.reduceBEq, Int.reduceBNe, ↓reduceIte, reduceCtorEq, String.reduceBNe, String.reduceEq, reduceDIte, Nat.reducePow, lk_old hb, p1, p2, e1, e2, e3, e4, e5, e6, e7, e8]
  refine CThen.by (sizeRight_c _ _ _) ?_
  simp only [push_cast, Nat.reduceAdd, Nat.reduceMul, Nat.reduceSub, Nat.reduceLeDiff, Nat.reduceLT, Nat.reduceEqDiff, Nat.reduceBEq, Nat.reduceBNe, Nat.reduceMod, Nat.reduceDiv, Int.reduceLE, Int.reduceLT, Int.reduceToNat, Int.reduceAdd, Int.reduceSub, Int.reduceMul, Int.reduceNeg, Int.reduceEq, Int.reduceBEq, Int.reduceBNe, ↓reduceIte, reduceCtorEq, String.reduceBNe, String.reduceEq, reduceDIte, Nat.reducePow, lk_old hb, p1, p2, e1, e2, e3, e4, e5, e6, e7, e8]
  refine CThen.by (in_c _ _ _ _ _) ?_
  simp only [push_cast, Nat.reduceAdd, Nat.reduceMul, Nat.reduceSub, Nat.reduceLeDiff, Nat.reduceLT, Nat.reduceEqDiff, Nat.reduceBEq, Nat.reduceBNe, Nat.reduceMod, Nat.reduceDiv, Int.reduceLE, Int.reduceLT, Int.reduceToNat, Int.reduceAdd, Int.reduceSub, Int.reduceMul, Int.reduceNeg, Int.reduceEq, Int.reduceBEq, Int.reduceBNe, ↓reduceIte, reduceCtorEq, String.reduceBNe, String.reduceEq, reduceDIte, Nat.reducePow, lk_old hb, p1, p2, e1, e2, e3, e4, e5, e6, e7, e8]
  refine Thn_n ?_
  refine hK _ _ ?_
  clear hK K
  refine AW.cond_f rfl ?_
  refine AW.skip ?_
  refine Thn_n ?_
  refine hK _ _ ?_
  clear hK K
  refine AW.seq_k fun K hK => ?_
  refine AW.region (by decide) ?_
  simp only [push_cast, Nat.reduceAdd, Nat.reduceMul, Nat.reduceSub, Nat.reduceLeDiff, Nat.reduceLT, Nat.reduceEqDiff, Nat.reduceBEq, Nat.reduceBNe, Nat.reduceMod, Nat.reduceDiv, Int.reduceLE, Int.reduceLT, Int.reduceToNat, Int.reduceAdd, Int.reduceSub, Int.reduceMul, Int.reduceNeg, Int.reduceEq, Int.reduceBEq, Int.reduceBNe, ↓reduceIte, reduceCtorEq, String.reduceBNe, String.reduceEq, reduceDIte, Nat.reducePow, lk_old hb, p1, p2, e1, e2, e3, e4, e5, e6, e7, e8]
  refine CThen.by (make_c _ _ _ _ (w * h) (cutG pw x y w G) _ c.hs (by simp) (by simp [CV.below]) (fun i ex hi => by simp only [capsAV, List.map_cons, List.map_nil, List.cons_append, List.nil_append, List.append_assoc]; exact cutd_c pw ph x y w h r v n _ _ _ i G _ (by simp only [push_cast, Nat.reduceAdd, Nat.reduceMul, Nat.reduceSub, Nat.reduceLeDiff, Nat.reduceLT, Nat.reduceEqDiff, Nat.reduceBEq, Nat.reduceBNe, Nat.reduceMod, Nat.reduceDiv, Int.reduceLE, Int.reduceLT, Int.reduceToNat, Int.reduceAdd, Int.reduceSub, Int.reduceMul, Int.reduceNeg, Int.reduceEq, Int.reduceBEq, Int.reduceBNe, ↓reduceIte, reduceCtorEq, String.reduceBNe, String.reduceEq, reduceDIte, Nat.reducePow]) (by simp only [push_cast, Nat.reduceAdd, Nat.reduceMul, Nat.reduceSub, Nat.reduceLeDiff, Nat.reduceLT, Nat.reduceEqDiff, Nat.reduceBEq, Nat.reduceBNe, Nat.reduceMod, Nat.reduceDiv, Int.reduceLE, Int.reduceLT, Int.reduceToNat, Int.reduceAdd, Int.reduceSub, Int.reduceMul, Int.reduceNeg, Int.reduceEq, Int.reduceBEq, Int.reduceBNe, ↓reduceIte, reduceCtorEq, String.reduceBNe, String.reduceEq, reduceDIte, Nat.reducePow]) (by simp only [push_cast, Nat.reduceAdd, Nat.reduceMul, Nat.reduceSub, Nat.reduceLeDiff, Nat.reduceLT, Nat.reduceEqDiff, Nat.reduceBEq, Nat.reduceBNe, Nat.reduceMod, Nat.reduceDiv, Int.reduceLE, Int.reduceLT, Int.reduceToNat, Int.reduceAdd, Int.reduceSub, Int.reduceMul, Int.reduceNeg, Int.reduceEq, Int.reduceBEq, Int.reduceBNe, ↓reduceIte, reduceCtorEq, String.reduceBNe, String.reduceEq, reduceDIte, Nat.reducePow]) (hp.mono _) c hi)) ?_
  simp only [push_cast, Nat.reduceAdd, Nat.reduceMul, Nat.reduceSub, Nat.reduceLeDiff, Nat.reduceLT, Nat.reduceEqDiff, Nat.reduceBEq, Nat.reduceBNe, Nat.reduceMod, Nat.reduceDiv, Int.reduceLE, Int.reduceLT, Int.reduceToNat, Int.reduceAdd, Int.reduceSub, Int.reduceMul, Int.reduceNeg, Int.reduceEq, Int.reduceBEq, Int.reduceBNe, ↓reduceIte, reduceCtorEq, String.reduceBNe, String.reduceEq, reduceDIte, Nat.reducePow, lk_old hb, p1, p2, e1, e2, e3, e4, e5, e6, e7, e8]
  refine Thn_n ?_
  refine hK _ _ ?_
  clear hK K
  refine AW.ret ?_
  refine hQ _ _ _ ?_
  refine RetP.pick [(m.length + 5, 0)] (Or.inr rfl) ?_ ?_ ?_ hwf ?_
  · simp only [resA, resOne, resTv, AV.tv, push_cast, Nat.reduceAdd, Nat.reduceMul, Nat.reduceSub, Nat.reduceLeDiff, Nat.reduceLT, Nat.reduceEqDiff, Nat.reduceBEq, Nat.reduceBNe, Nat.reduceMod, Nat.reduceDiv, Int.reduceLE, Int.reduceLT, Int.reduceToNat, Int.reduceAdd, Int.reduceSub, Int.reduceMul, Int.reduceNeg, Int.reduceEq, Int.reduceBEq, Int.reduceBNe, ↓reduceIte, reduceCtorEq, String.reduceBNe, String.reduceEq, reduceDIte, Nat.reducePow]
    simp [renV, renT, renL, renC, renIdx, hlt]
  · simp only [picks, push_cast, Nat.reduceAdd, Nat.reduceMul, Nat.reduceSub, Nat.reduceLeDiff, Nat.reduceLT, Nat.reduceEqDiff, Nat.reduceBEq, Nat.reduceBNe, Nat.reduceMod, Nat.reduceDiv, Int.reduceLE, Int.reduceLT, Int.reduceToNat, Int.reduceAdd, Int.reduceSub, Int.reduceMul, Int.reduceNeg, Int.reduceEq, Int.reduceBEq, Int.reduceBNe, ↓reduceIte, reduceCtorEq, String.reduceBNe, String.reduceEq, reduceDIte, Nat.reducePow]
  · simp [distinctFrom]
  · exact MWf_one (dl_below _ _ _)
  
theorem cut_no (PW PH x y w h : Int) (r v n : Nat) (m : AMem) (hbad : cutR PW PH n x y w h = false) : Ctr Try.prog 16 [.agg [.int .i64 PW, .int .i64 PH, .sl r v 0 n], .one (.int .i64 x), .one (.int .i64 y), .agg [.int .i64 w, .int .i64 h]] m (.tup [(true, [.int .i64 0, .int .i64 0, .nils]), (false, [.int .i64 1])]) m := by
  refine Ctr.enter Try.func16 rfl (by decide) (rs := [.cell 8 33, .tmp 9]) (nt := 52) rfl rfl fun hwf Q hQ => ?_
  rcases chain5 (picR PW PH n = true) (szR w h = true) ((decide (0 ≤ x) && decide (x < PW) && decide (0 ≤ y) && decide (y < PH)) = true) (¬ IntKind.i64.wrap (PW - x) < w) (¬ IntKind.i64.wrap (PH - y) < h) with ⟨p1, p2, p3, p4, p5⟩ | ⟨p1, p2, p3, p4, p5⟩ | ⟨p1, p2, p3, p4, p5⟩ | ⟨p1, p2, p3, p4, p5⟩ | ⟨p1, p2, p3, p4, p5⟩ | ⟨p1, p2, p3, p4, p5⟩
  · exfalso
    have c : cutR PW PH n x y w h = true := by
      obtain ⟨pw, ph, rfl, rfl, a1, a2, a3, a4, hn, _⟩ := picR_nat p1
      have p3' := p3
      simp only [Bool.and_eq_true, decide_eq_true_eq] at p3'
      obtain ⟨⟨⟨c1, c2⟩, c3⟩, c4⟩ := p3'
      rw [IntKind.wrap_i64] at p4 p5
      simp only [cutR, p1, p2, p3, Bool.true_and, Bool.and_eq_true, decide_eq_true_eq]
      omega
    rw [hbad] at c; cases c
  all_goals (
  try simp only [Bool.not_eq_true, Bool.not_eq_false, Classical.not_not] at p1 p2 p3 p4 p5
  refine AW.seq_k fun K hK => ?_
  refine AW.region (by decide) ?_
  simp only [push_cast, Nat.reduceAdd, Nat.reduceMul, Nat.reduceSub, Nat.reduceLeDiff, Nat.reduceLT, Nat.reduceEqDiff, Nat.reduceBEq, Nat.reduceBNe, Nat.reduceMod, Nat.reduceDiv, Int.reduceLE, Int.reduceLT, Int.reduceToNat, Int.reduceAdd, Int.reduceSub, Int.reduceMul, Int.reduceNeg, Int.reduceEq, Int.reduceBEq, Int.reduceBNe, ↓reduceIte, reduceCtorEq, String.reduceBNe, String.reduceEq, reduceDIte, Nat.reducePow, p1, p2, p3, p4, p5]
  refine Thn_n ?_
  refine hK _ _ ?_
  clear hK K
  refine AW.seq_k fun K hK => ?_
  refine AW.seq_k fun K hK => ?_
  refine AW.region (by decide) ?_
  simp only [push_cast, Nat.reduceAdd, Nat.reduceMul, Nat.reduceSub, Nat.reduceLeDiff, Nat.reduceLT, Nat.reduceEqDiff, Nat.reduceBEq, Nat.reduceBNe, Nat.reduceMod, Nat.reduceDiv, Int.reduceLE, Int.reduceLT, Int.reduceToNat, Int.reduceAdd, Int.reduceSub, Int.reduceMul, Int.reduceNeg, Int.reduceEq, Int.reduceBEq, Int.reduceBNe, ↓reduceIte, reduceCtorEq, String.reduceBNe, String.reduceEq, reduceDIte, Nat.reducePow, p1, p2, p3, p4, p5]
  try (refine CThen.by (picRight_c _ _ _ _ _ _) ?_; simp only [push_cast, Nat.reduceAdd, Nat.reduceMul, Nat.reduceSub, Nat.reduceLeDiff, Nat.reduceLT, Nat.reduceEqDiff, Nat.reduceBEq, Nat.reduceBNe, Nat.reduceMod, Nat.reduceDiv, Int.reduceLE, Int.reduceLT, Int.reduceToNat, Int.reduceAdd, Int.reduceSub, Int.reduceMul, Int.reduceNeg, Int.reduceEq, Int.reduceBEq, Int.reduceBNe, ↓reduceIte, reduceCtorEq, String.reduceBNe, String.reduceEq, reduceDIte, Nat.reducePow, p1, p2, p3, p4, p5])
  try (refine CThen.by (sizeRight_c _ _ _) ?_; simp only [push_cast, Nat.reduceAdd, Nat.reduceMul, Nat.reduceSub, Nat.reduceLeDiff, Nat.reduceLT, Nat.reduceEqDiff, Nat.reduceBEq, Nat.reduceBNe, Nat.reduceMod, Nat.reduceDiv, Int.reduceLE, Int.reduceLT, Int.reduceToNat, Int.reduceAdd, Int.reduceSub, Int.reduceMul, Int.reduceNeg, Int.reduceEq, Int.reduceBEq, Int.reduceBNe, ↓reduceIte, reduceCtorEq, String.reduceBNe, String.reduceEq, reduceDIte, Nat.reducePow, p1, p2, p3, p4, p5])
  try (refine CThen.by (in_c _ _ _ _ _) ?_; simp only [push_cast, Nat.reduceAdd, Nat.reduceMul, Nat.reduceSub, Nat.reduceLeDiff, Nat.reduceLT, Nat.reduceEqDiff, Nat.reduceBEq, Nat.reduceBNe, Nat.reduceMod, Nat.reduceDiv, Int.reduceLE, Int.reduceLT, Int.reduceToNat, Int.reduceAdd, Int.reduceSub, Int.reduceMul, Int.reduceNeg, Int.reduceEq, Int.reduceBEq, Int.reduceBNe, ↓reduceIte, reduceCtorEq, String.reduceBNe, String.reduceEq, reduceDIte, Nat.reducePow, p1, p2, p3, p4, p5])
  refine Thn_n ?_
  refine hK _ _ ?_
  clear hK K
  refine AW.cond_t rfl ?_
  refine AW.seq_k fun K hK => ?_
  refine AW.region (by decide) ?_
  simp only [push_cast, Nat.reduceAdd, Nat.reduceMul, Nat.reduceSub, Nat.reduceLeDiff, Nat.reduceLT, Nat.reduceEqDiff, Nat.reduceBEq, Nat.reduceBNe, Nat.reduceMod, Nat.reduceDiv, Int.reduceLE, Int.reduceLT, Int.reduceToNat, Int.reduceAdd, Int.reduceSub, Int.reduceMul, Int.reduceNeg, Int.reduceEq, Int.reduceBEq, Int.reduceBNe, ↓reduceIte, reduceCtorEq, String.reduceBNe, String.reduceEq, reduceDIte, Nat.reducePow, p1, p2, p3, p4, p5]
  refine Thn_n ?_
  refine hK _ _ ?_
  clear hK K
  refine AW.ret ?_
  refine Thn_r ?_
  refine hQ _ _ _ ?_
  first | refine RetP.drop0 (Or.inr rfl) ?_ ?_ hwf | refine RetP.drop (Or.inr rfl) ?_ ?_ hwf
  · simp only [resA, resOne, resTv, AV.tv, push_cast, Nat.reduceAdd, Nat.reduceMul, Nat.reduceSub, Nat.reduceLeDiff, Nat.reduceLT, Nat.reduceEqDiff, Nat.reduceBEq, Nat.reduceBNe, Nat.reduceMod, Nat.reduceDiv, Int.reduceLE, Int.reduceLT, Int.reduceToNat, Int.reduceAdd, Int.reduceSub, Int.reduceMul, Int.reduceNeg, Int.reduceEq, Int.reduceBEq, Int.reduceBNe, ↓reduceIte, reduceCtorEq, String.reduceBNe, String.reduceEq, reduceDIte, Nat.reducePow, p1, p2, p3, p4, p5]
  · rfl
  )
theorem cut_c (PW PH x y w h : Int) (r v n : Nat) (G : Nat → Nat → Int) (m : AMem) (hp : PicAt m r v n G) : Ctr Try.prog 16 [.agg [.int .i64 PW, .int .i64 PH, .sl r v 0 n], .one (.int .i64 x), .one (.int .i64 y), .agg [.int .i64 w, .int .i64 h]] m ((cutF PW PH n G x y w h).ret m.length) (m ++ [(cutF PW PH n G x y w h).blk]) := by
  unfold cutF
  split
  · rename_i hc
    obtain ⟨pw, ph, x, y, w, h, rfl, rfl, rfl, rfl, rfl, rfl, c⟩ := cutR_nat hc
    exact cut_ok pw ph x y w h r v n G m hp c
  · rename_i hc
    exact noP_of (cut_no PW PH x y w h r v n m (by simpa using hc))
theorem rcut_ok (pw ph x y w h r v n : Nat) (G : Nat → Nat → Int) (m : AMem) (hp : PicAt m r v n G) (c : CutOk pw ph n x y w h) : Ctr Try.prog 23 [.agg [.int .i64 (pw : Int), .int .i64 (ph : Int), .sl r v 0 n], .one (.int .i64 (x : Int)), .one (.int .i64 (y : Int)), .one (.int .i64 (w : Int)), .one (.int .i64 (h : Int))] m (.tup [(true, [.int .i64 (w : Int), .int .i64 (h : Int), .sl m.length 0 0 (w * h)]), (false, [.int .i64 0])]) (m ++ [⟨.grow, 22, 0, 3, dl (w * h) (cutG pw x y w G)⟩]) := by
  refine Ctr.enter Try.func23 rfl (by decide) (rs := [.cell 10 29, .tmp 11]) (nt := 92) rfl rfl fun hwf Q hQ => ?_
  have hlt : ∀ k, ¬ m.length + k < m.length := fun k => by omega
  obtain ⟨kp, ez, hb⟩ := hp.hb
  have hr := get_lt hb
  have q1 := c.a1
  have q2 := c.a2
  have q3 := c.a3
  have q4 := c.a4
  have q5 := c.hx
  have q6 := c.hy
  have q7 := c.b1
  have q8 := c.b3
  have p1 := c.hp
  have p2 := c.hs
  have hnl := c.n_le
  have q9 := c.b2
  have q10 := c.b4
  have e1 : IntKind.i64.wrap ((x : Int) + (w : Int)) = (x : Int) + (w : Int) := by rw [IntKind.wrap_i64]; omega
  have e2 : IntKind.i64.wrap ((y : Int) + (h : Int)) = (y : Int) + (h : Int) := by rw [IntKind.wrap_i64]; omega
  have e3 : ¬ ((pw : Int) < (x : Int) + (w : Int)) := by omega
  have e4 : ¬ ((ph : Int) < (y : Int) + (h : Int)) := by omega
  have e5 : ¬ ((x : Int) < 0) := by omega
  have e6 : ¬ ((pw : Int) ≤ (x : Int)) := by omega
  have e7 : ¬ ((y : Int) < 0) := by omega
  have e8 : ¬ ((ph : Int) ≤ (y : Int)) := by omega
  have hwh := wh_le q9 q10
  refine AW.seq_k fun K hK => ?_
  refine AW.region (by decide) ?_
  simp only [push_cast, Nat.reduceAdd, Nat.reduceMul, Nat.reduceSub, Nat.reduceLeDiff, Nat.reduceLT, Nat.reduceEqDiff, Nat.reduceBEq, Nat.reduceBNe, Nat.reduceMod, Nat.reduceDiv, Int.reduceLE, Int.reduceLT, Int.reduceToNat, Int.reduceAdd, Int.reduceSub, Int.reduceMul, Int.reduceNeg, Int.reduceEq, Int.reduceBEq, Int.reduceBNe, ↓reduceIte, reduceCtorEq, String.reduceBNe, String.reduceEq, reduceDIte, Nat.reducePow, lk_old hb, p1, p2, e1, e2, e3, e4, e5, e6, e7, e8]
  refine Thn_n ?_
  refine hK _ _ ?_
  clear hK K
  refine AW.seq_k fun K hK => ?_
  refine AW.seq_k fun K hK => ?_
  refine AW.region (by decide) ?_
  simp only [push_cast, Nat.reduceAdd, Nat.reduceMul, Nat.reduceSub, Nat.reduceLeDiff, Nat.reduceLT, Nat.reduceEqDiff, Nat.reduceBEq, Nat.reduceBNe, Nat.reduceMod, Nat.reduceDiv, Int.reduceLE, Int.reduceLT, Int.reduceToNat, Int.reduceAdd, Int.reduceSub, Int.reduceMul, Int.reduceNeg, Int.reduceEq, Int.reduceBEq, Int.reduceBNe, ↓reduceIte, reduceCtorEq, String.reduceBNe, String.reduceEq, reduceDIte, Nat.reducePow, lk_old hb, p1, p2, e1, e2, e3, e4, e5, e6, e7, e8]
  refine CThen.by (refRight_c _ _ _ _ _ _) ?_
  simp only [push_cast, Nat.reduceAdd, Nat.reduceMul, Nat.reduceSub, Nat.reduceLeDiff, Nat.reduceLT, Nat.reduceEqDiff, Nat.reduceBEq, Nat.reduceBNe, Nat.reduceMod, Nat.reduceDiv, Int.reduceLE, Int.reduceLT, Int.reduceToNat, Int.reduceAdd, Int.reduceSub, Int.reduceMul, Int.reduceNeg, Int.reduceEq, Int.reduceBEq, Int.reduceBNe, ↓reduceIte, reduceCtorEq, String.reduceBNe, String.reduceEq, reduceDIte, Nat.reducePow, lk_old hb, p1, p2, e1, e2, e3, e4, e5, e6, e7, e8]
  refine CThen.by (rightSize_c _ _ _) ?_
  simp only [push_cast, Nat.reduceAdd, Nat.reduceMul, Nat.reduceSub, Nat.reduceLeDiff, Nat.reduceLT, Nat.reduceEqDiff, Nat.reduceBEq, Nat.reduceBNe, Nat.reduceMod, Nat.reduceDiv, Int.reduceLE, Int.reduceLT, Int.reduceToNat, Int.reduceAdd, Int.reduceSub, Int.reduceMul, Int.reduceNeg, Int.reduceEq, Int.reduceBEq, Int.reduceBNe, ↓reduceIte, reduceCtorEq, String.reduceBNe, String.reduceEq, reduceDIte, Nat.reducePow, lk_old hb, p1, p2, e1, e2, e3, e4, e5, e6, e7, e8]
  refine Thn_n ?_
  refine hK _ _ ?_
  clear hK K
  refine AW.cond_f rfl ?_
  refine AW.skip ?_
  refine Thn_n ?_
  refine hK _ _ ?_
  clear hK K
  refine AW.seq_k fun K hK => ?_
  refine AW.region (by decide) ?_
  simp only [push_cast, Nat.reduceAdd, Nat.reduceMul, Nat.reduceSub, Nat.reduceLeDiff, Nat.reduceLT, Nat.reduceEqDiff, Nat.reduceBEq, Nat.reduceBNe, Nat.reduceMod, Nat.reduceDiv, Int.reduceLE, Int.reduceLT, Int.reduceToNat, Int.reduceAdd, Int.reduceSub, Int.reduceMul, Int.reduceNeg, Int.reduceEq, Int.reduceBEq, Int.reduceBNe, ↓reduceIte, reduceCtorEq, String.reduceBNe, String.reduceEq, reduceDIte, Nat.reducePow, lk_old hb, p1, p2, e1, e2, e3, e4, e5, e6, e7, e8]
  refine CThen.by (rplain_ok _ _ _ _ _ (w * h) _ c.hs (by simp)) ?_
  simp only [push_cast, Nat.reduceAdd, Nat.reduceMul, Nat.reduceSub, Nat.reduceLeDiff, Nat.reduceLT, Nat.reduceEqDiff, Nat.reduceBEq, Nat.reduceBNe, Nat.reduceMod, Nat.reduceDiv, Int.reduceLE, Int.reduceLT, Int.reduceToNat, Int.reduceAdd, Int.reduceSub, Int.reduceMul, Int.reduceNeg, Int.reduceEq, Int.reduceBEq, Int.reduceBNe, ↓reduceIte, reduceCtorEq, String.reduceBNe, String.reduceEq, reduceDIte, Nat.reducePow, lk_old hb, p1, p2, e1, e2, e3, e4, e5, e6, e7, e8]
  refine Thn_n ?_
  refine hK _ _ ?_
  clear hK K
  refine AW.seq_k fun K hK => ?_
  refine AW.seq_k fun K hK => ?_
  refine AW.region (by decide) ?_
  simp only [push_cast, Nat.reduceAdd, Nat.reduceMul, Nat.reduceSub, Nat.reduceLeDiff, Nat.reduceLT, Nat.reduceEqDiff, Nat.reduceBEq, Nat.reduceBNe, Nat.reduceMod, Nat.reduceDiv, Int.reduceLE, Int.reduceLT, Int.reduceToNat, Int.reduceAdd, Int.reduceSub, Int.reduceMul, Int.reduceNeg, Int.reduceEq, Int.reduceBEq, Int.reduceBNe, ↓reduceIte, reduceCtorEq, String.reduceBNe, String.reduceEq, reduceDIte, Nat.reducePow, lk_old hb, p1, p2, e1, e2, e3, e4, e5, e6, e7, e8]
  refine Thn_n ?_
  refine hK _ _ ?_
  clear hK K
  refine AW.block ?_
  refine AW.loopK [1, 2, 3, 4, 5, 10, 12] (fun vv => vv ≤ h) (fun vv => [(13, .one (.int .i64 (vv : Int)))]) (fun vv => [(m.length + 2, ⟨.grow, 22, 0, 3, dl (w * h) (fillT (cutG pw x y w G) (cD 0 0 0) (vv * w))⟩)]) (fun vv => h - vv) 0 (by omega) ?_ ?_ fun vv hi7 => ?_
  · first | rfl | (simp only [Keeps, Tm.get_cons, Nat.reduceEqDiff, ↓reduceIte, if_true, if_false, ite_true, ite_false, true_and, and_true, and_self, reduceCtorEq, Nat.zero_mul, fill_none] <;> rfl)
  · first | rfl | (simp only [setAll, push_cast, Nat.reduceAdd, Nat.reduceMul, Nat.reduceSub, Nat.reduceLeDiff, Nat.reduceLT, Nat.reduceEqDiff, Nat.reduceBEq, Nat.reduceBNe, Nat.reduceMod, Nat.reduceDiv, Int.reduceLE, Int.reduceLT, Int.reduceToNat, Int.reduceAdd, Int.reduceSub, Int.reduceMul, Int.reduceNeg, Int.reduceEq, Int.reduceBEq, Int.reduceBNe, ↓reduceIte, reduceCtorEq, String.reduceBNe, String.reduceEq, reduceDIte, Nat.reducePow, lk_old hb, p1, p2, e1, e2, e3, e4, e5, e6, e7, e8, Nat.zero_mul, fill_none] <;> rfl)
  try simp only [keepL, setAll, push_cast, Nat.reduceAdd, Nat.reduceMul, Nat.reduceSub, Nat.reduceLeDiff, Nat.reduceLT, Nat.reduceEqDiff, Nat.reduceBEq, Nat.reduceBNe, Nat.reduceMod, Nat.reduceDiv, Int.reduceLE, Int.reduceLT, Int.reduceToNat, Int.reduceAdd, Int.reduceSub, Int.reduceMul, Int.reduceNeg, Int.reduceEq, Int.reduceBEq, Int.reduceBNe, ↓reduceIte, reduceCtorEq, String.reduceBNe, String.reduceEq, reduceDIte, Nat.reducePow, lk_old hb, p1, p2, e1, e2, e3, e4, e5, e6, e7, e8]
  refine AW.seq_k fun K hK => ?_
  refine AW.seq_k fun K hK => ?_
  refine AW.region (by decide) ?_
  simp only [push_cast, Nat.reduceAdd, Nat.reduceMul, Nat.reduceSub, Nat.reduceLeDiff, Nat.reduceLT, Nat.reduceEqDiff, Nat.reduceBEq, Nat.reduceBNe, Nat.reduceMod, Nat.reduceDiv, Int.reduceLE, Int.reduceLT, Int.reduceToNat, Int.reduceAdd, Int.reduceSub, Int.reduceMul, Int.reduceNeg, Int.reduceEq, Int.reduceBEq, Int.reduceBNe, ↓reduceIte, reduceCtorEq, String.reduceBNe, String.reduceEq, reduceDIte, Nat.reducePow, lk_old hb, p1, p2, e1, e2, e3, e4, e5, e6, e7, e8]
  refine Thn_n ?_
  refine hK _ _ ?_
  clear hK K
  refine AW.cond rfl (fun h67 => ?_) (fun h67 => ?_)
  · have hv : vv < h := by have := of_decide_eq_true h67; omega
    refine AW.skip ?_
    refine Thn_n ?_
    refine hK _ _ ?_
    clear hK K
    refine AW.seq_k fun K hK => ?_
    refine AW.block ?_
    refine AW.seq_k fun K hK => ?_
    refine AW.region (by decide) ?_
    simp only [push_cast, Nat.reduceAdd, Nat.reduceMul, Nat.reduceSub, Nat.reduceLeDiff, Nat.reduceLT, Nat.reduceEqDiff, Nat.reduceBEq, Nat.reduceBNe, Nat.reduceMod, Nat.reduceDiv, Int.reduceLE, Int.reduceLT, Int.reduceToNat, Int.reduceAdd, Int.reduceSub, Int.reduceMul, Int.reduceNeg, Int.reduceEq, Int.reduceBEq, Int.reduceBNe, ↓reduceIte, reduceCtorEq, String.reduceBNe, String.reduceEq, reduceDIte, Nat.reducePow, lk_old hb, p1, p2, e1, e2, e3, e4, e5, e6, e7, e8]
    refine Thn_n ?_
    refine hK _ _ ?_
    clear hK K
    refine AW.block ?_
    refine AW.loopK [1, 2, 3, 4, 5, 10, 12, 13] (fun u => u ≤ w) (fun u => [(14, .one (.int .i64 (u : Int)))]) (fun u => [(m.length + 2, ⟨.grow, 22, 0, 3, dl (w * h) (fillT (cutG pw x y w G) (cD 0 0 0) (vv * w + u))⟩)]) (fun u => w - u) 0 (by omega) ?_ ?_ fun u hi12 => ?_
    · first | rfl | (simp only [Keeps, Tm.get_cons, Nat.reduceEqDiff, ↓reduceIte, if_true, if_false, ite_true, ite_false, true_and, and_true, and_self, reduceCtorEq, Nat.add_zero] <;> rfl)
    · first | rfl | (simp only [setAll, push_cast, Nat.reduceAdd, Nat.reduceMul, Nat.reduceSub, Nat.reduceLeDiff, Nat.reduceLT, Nat.reduceEqDiff, Nat.reduceBEq, Nat.reduceBNe, Nat.reduceMod, Nat.reduceDiv, Int.reduceLE, Int.reduceLT, Int.reduceToNat, Int.reduceAdd, Int.reduceSub, Int.reduceMul, Int.reduceNeg, Int.reduceEq, Int.reduceBEq, Int.reduceBNe, ↓reduceIte, reduceCtorEq, String.reduceBNe, String.reduceEq, reduceDIte, Nat.reducePow, lk_old hb, p1, p2, e1, e2, e3, e4, e5, e6, e7, e8, Nat.add_zero] <;> rfl)
    try simp only [keepL, setAll, push_cast, Nat.reduceAdd, Nat.reduceMul, Nat.reduceSub, Nat.reduceLeDiff, Nat.reduceLT, Nat.reduceEqDiff, Nat.reduceBEq, Nat.reduceBNe, Nat.reduceMod, Nat.reduceDiv, Int.reduceLE, Int.reduceLT, Int.reduceToNat, Int.reduceAdd, Int.reduceSub, Int.reduceMul, Int.reduceNeg, Int.reduceEq, Int.reduceBEq, Int.reduceBNe, ↓reduceIte, reduceCtorEq, String.reduceBNe, String.reduceEq, reduceDIte, Nat.reducePow, lk_old hb, p1, p2, e1, e2, e3, e4, e5, e6, e7, e8]
    refine AW.seq_k fun K hK => ?_
    refine AW.seq_k fun K hK => ?_
    refine AW.region (by decide) ?_
    simp only [push_cast, Nat.reduceAdd, Nat.reduceMul, Nat.reduceSub, Nat.reduceLeDiff, Nat.reduceLT, Nat.reduceEqDiff, Nat.reduceBEq, Nat.reduceBNe, Nat.reduceMod, Nat.reduceDiv, Int.reduceLE, Int.reduceLT, Int.reduceToNat, Int.reduceAdd, Int.reduceSub, Int.reduceMul, Int.reduceNeg, Int.reduceEq, Int.reduceBEq, Int.reduceBNe, ↓reduceIte, reduceCtorEq, String.reduceBNe, String.reduceEq, reduceDIte, Nat.reducePow, lk_old hb, p1, p2, e1, e2, e3, e4, e5, e6, e7, e8]
    refine Thn_n ?_
    refine hK _ _ ?_
    clear hK K
    refine AW.cond rfl (fun h72 => ?_) (fun h72 => ?_)
    · have hu : u < w := by have := of_decide_eq_true h72; omega
      have hib := c.ix hu hv
      have hj := ix_lt (h := h) hu hv
      have w1 : IntKind.i64.wrap (IntKind.i64.wrap ((vv : Int) * (w : Int)) + (u : Int)) = ((vv * w + u : Nat) : Int) := ix_nat (by omega) (by omega)
      have w2 : IntKind.i64.wrap ((x : Int) + (u : Int)) = (x : Int) + (u : Int) := by rw [IntKind.wrap_i64]; omega
      have w3 : IntKind.i64.wrap ((y : Int) + (vv : Int)) = (y : Int) + (vv : Int) := by rw [IntKind.wrap_i64]; omega
      have hd := div_at (v := vv) hu
      have hcg : ∀ k, cutG pw x y w G (vv * w + u) k = G ((y + vv) * pw + (x + u)) k := fun k => by simp only [cutG, hd.1, hd.2]
      have hst := fill_set3 (D := cD 0 0 0) hj (hcg 0) (hcg 1) (hcg 2)
      rw [show vv * w + u + 1 = vv * w + (u + 1) from rfl] at hst
      have hlen := fun (g : Nat → Nat → Int) => dl_len (w * h) g
      have hle : (vv * w + u) * 3 + 3 ≤ w * h * 3 := by omega
      have hi1 : (0 : Int) ≤ ((vv * w + u : Nat) : Int) := by omega
      have hi2 : ((vv * w + u : Nat) : Int) < (w : Int) * (h : Int) := by rw [← Int.natCast_mul]; omega
      generalize hJ : vv * w + u = j at *
      refine AW.skip ?_
      refine Thn_n ?_
      refine hK _ _ ?_
      clear hK K
      refine AW.seq_k fun K hK => ?_
      refine AW.block ?_
      refine AW.draw [.val, .rd 0, .val, .val, .val, .val, .val, .rd 0, .val, .val, .val, .val, .val, .val, .ext, .val, .wr] fol (by decide) (by kernel_rfl) ?_
      simp only [push_cast, Nat.reduceAdd, Nat.reduceMul, Nat.reduceSub, Nat.reduceLeDiff, Nat.reduceLT, Nat.reduceEqDiff, Nat.reduceBEq, Nat.reduceBNe, Nat.reduceMod, Nat.reduceDiv, Int.reduceLE, Int.reduceLT, Int.reduceToNat, Int.reduceAdd, Int.reduceSub, Int.reduceMul, Int.reduceNeg, Int.reduceEq, Int.reduceBEq, Int.reduceBNe, ↓reduceIte, reduceCtorEq, String.reduceBNe, String.reduceEq, reduceDIte, Nat.reducePow, lk_old hb, p1, p2, e1, e2, e3, e4, e5, e6, e7, e8, w1, w2, w3, hlen, hle, hi1, hi2]
      refine DCall.by0 (At_i _ _ _ pw (x + u) (y + vv) _ _ _ G _ (by omega) (by omega) (hp.mono _) hib (by omega)) ?_
      simp only [push_cast, Nat.reduceAdd, Nat.reduceMul, Nat.reduceSub, Nat.reduceLeDiff, Nat.reduceLT, Nat.reduceEqDiff, Nat.reduceBEq, Nat.reduceBNe, Nat.reduceMod, Nat.reduceDiv, Int.reduceLE, Int.reduceLT, Int.reduceToNat, Int.reduceAdd, Int.reduceSub, Int.reduceMul, Int.reduceNeg, Int.reduceEq, Int.reduceBEq, Int.reduceBNe, ↓reduceIte, reduceCtorEq, String.reduceBNe, String.reduceEq, reduceDIte, Nat.reducePow, lk_old hb, p1, p2, e1, e2, e3, e4, e5, e6, e7, e8, w1, w2, w3, hlen, hle, hi1, hi2]
      refine InB_n ?_
      refine Thn_n ?_
      refine hK _ _ ?_
      clear hK K
      refine AW.region (by decide) ?_
      simp only [push_cast, Nat.reduceAdd, Nat.reduceMul, Nat.reduceSub, Nat.reduceLeDiff, Nat.reduceLT, Nat.reduceEqDiff, Nat.reduceBEq, Nat.reduceBNe, Nat.reduceMod, Nat.reduceDiv, Int.reduceLE, Int.reduceLT, Int.reduceToNat, Int.reduceAdd, Int.reduceSub, Int.reduceMul, Int.reduceNeg, Int.reduceEq, Int.reduceBEq, Int.reduceBNe, ↓reduceIte, reduceCtorEq, String.reduceBNe, String.reduceEq, reduceDIte, Nat.reducePow, lk_old hb, p1, p2, e1, e2, e3, e4, e5, e6, e7, e8, w1, w2, w3, hlen, hle, hi1, hi2]
      refine Thn_n ?_
      have hwi : IntKind.i64.wrap ((u:Int)+1) = (u:Int)+1 := by rw [IntKind.wrap_i64]; omega
      refine ⟨u + 1, by omega, by omega, ?_⟩
      try simp only [keepL, setAll, push_cast, Nat.reduceAdd, Nat.reduceMul, Nat.reduceSub, Nat.reduceLeDiff, Nat.reduceLT, Nat.reduceEqDiff, Nat.reduceBEq, Nat.reduceBNe, Nat.reduceMod, Nat.reduceDiv, Int.reduceLE, Int.reduceLT, Int.reduceToNat, Int.reduceAdd, Int.reduceSub, Int.reduceMul, Int.reduceNeg, Int.reduceEq, Int.reduceBEq, Int.reduceBNe, ↓reduceIte, reduceCtorEq, String.reduceBNe, String.reduceEq, reduceDIte, Nat.reducePow, lk_old hb, p1, p2, e1, e2, e3, e4, e5, e6, e7, e8, w1, w2, w3, hlen, hle, hi1, hi2, hwi, hst]
      exact Weak.same (by simp only [Keeps, Tm.get_cons, Nat.reduceEqDiff, ↓reduceIte, if_true, if_false, ite_true, ite_false, true_and, and_true, and_self, reduceCtorEq, hwi, hst]) (by first | rfl | simp only [Keeps, Tm.get_cons, Nat.reduceEqDiff, ↓reduceIte, if_true, if_false, ite_true, ite_false, true_and, and_true, and_self, reduceCtorEq, hwi, hst])
    · have hue : w = u := by have := of_decide_eq_false h72; omega
      subst hue
      have hend : dl (w * h) (fillT (cutG pw x y w G) (cD 0 0 0) (vv * w + w)) = dl (w * h) (fillT (cutG pw x y w G) (cD 0 0 0) ((vv + 1) * w)) := by rw [Nat.succ_mul]
      refine AW.exit ?_
      refine Thn_e ?_
      clear hK K
      refine Thn_e ?_
      refine InB_here ?_
      refine InB_n ?_
      refine Thn_n ?_
      refine hK _ _ ?_
      clear hK K
      refine AW.region (by decide) ?_
      simp only [push_cast, Nat.reduceAdd, Nat.reduceMul, Nat.reduceSub, Nat.reduceLeDiff, Nat.reduceLT, Nat.reduceEqDiff, Nat.reduceBEq, Nat.reduceBNe, Nat.reduceMod, Nat.reduceDiv, Int.reduceLE, Int.reduceLT, Int.reduceToNat, Int.reduceAdd, Int.reduceSub, Int.reduceMul, Int.reduceNeg, Int.reduceEq, Int.reduceBEq, Int.reduceBNe, ↓reduceIte, reduceCtorEq, String.reduceBNe, String.reduceEq, reduceDIte, Nat.reducePow, lk_old hb, p1, p2, e1, e2, e3, e4, e5, e6, e7, e8]
      refine Thn_n ?_
      have hwi : IntKind.i64.wrap ((vv:Int)+1) = (vv:Int)+1 := by rw [IntKind.wrap_i64]; omega
      refine ⟨vv + 1, by omega, by omega, ?_⟩
      try simp only [keepL, setAll, push_cast, Nat.reduceAdd, Nat.reduceMul, Nat.reduceSub, Nat.reduceLeDiff, Nat.reduceLT, Nat.reduceEqDiff, Nat.reduceBEq, Nat.reduceBNe, Nat.reduceMod, Nat.reduceDiv, Int.reduceLE, Int.reduceLT, Int.reduceToNat, Int.reduceAdd, Int.reduceSub, Int.reduceMul, Int.reduceNeg, Int.reduceEq, Int.reduceBEq, Int.reduceBNe, ↓reduceIte, reduceCtorEq, String.reduceBNe, String.reduceEq, reduceDIte, Nat.reducePow, lk_old hb, p1, p2, e1, e2, e3, e4, e5, e6, e7, e8, hwi, hend]
      exact Weak.same (by simp only [Keeps, Tm.get_cons, Nat.reduceEqDiff, ↓reduceIte, if_true, if_false, ite_true, ite_false, true_and, and_true, and_self, reduceCtorEq, hwi, hend]) (by first | rfl | simp only [Keeps, Tm.get_cons, Nat.reduceEqDiff, ↓reduceIte, if_true, if_false, ite_true, ite_false, true_and, and_true, and_self, reduceCtorEq, hwi, hend])
  · have hve : h = vv := by have := of_decide_eq_false h67; omega
    subst hve
    have hfin : dl (w * h) (fillT (cutG pw x y w G) (cD 0 0 0) (h * w)) = dl (w * h) (cutG pw x y w G) := by rw [Nat.mul_comm h w]; exact fill_all
    refine AW.exit ?_
    refine Thn_e ?_
    clear hK K
    refine Thn_e ?_
    refine InB_here ?_
    refine Thn_n ?_
    refine hK _ _ ?_
    clear hK K
    refine AW.seq_k fun K hK => ?_
    refine AW.region (by decide) ?_
    simp only [push_cast, Nat.reduceAdd, Nat.reduceMul, Nat.reduceSub, Nat.reduceLeDiff, Nat.reduceLT, Nat.reduceEqDiff, Nat.reduceBEq, Nat.reduceBNe, Nat.reduceMod, Nat.reduceDiv, Int.reduceLE, Int.reduceLT, Int.reduceToNat, Int.reduceAdd, Int.reduceSub, Int.reduceMul, Int.reduceNeg, Int.reduceEq, Int.reduceBEq, Int.reduceBNe, ↓reduceIte, reduceCtorEq, String.reduceBNe, String.reduceEq, reduceDIte, Nat.reducePow, lk_old hb, p1, p2, e1, e2, e3, e4, e5, e6, e7, e8, hfin]
    refine Thn_n ?_
    refine hK _ _ ?_
    clear hK K
    refine AW.ret ?_
    refine hQ _ _ _ ?_
    refine RetP.pick [(m.length + 2, 0)] (Or.inr rfl) ?_ ?_ ?_ hwf ?_
    · simp only [resA, resOne, resTv, AV.tv, push_cast, Nat.reduceAdd, Nat.reduceMul, Nat.reduceSub, Nat.reduceLeDiff, Nat.reduceLT, Nat.reduceEqDiff, Nat.reduceBEq, Nat.reduceBNe, Nat.reduceMod, Nat.reduceDiv, Int.reduceLE, Int.reduceLT, Int.reduceToNat, Int.reduceAdd, Int.reduceSub, Int.reduceMul, Int.reduceNeg, Int.reduceEq, Int.reduceBEq, Int.reduceBNe, ↓reduceIte, reduceCtorEq, String.reduceBNe, String.reduceEq, reduceDIte, Nat.reducePow]
      simp [renV, renT, renL, renC, renIdx, hlt]
    · simp only [picks, push_cast, Nat.reduceAdd, Nat.reduceMul, Nat.reduceSub, Nat.reduceLeDiff, Nat.reduceLT, Nat.reduceEqDiff, Nat.reduceBEq, Nat.reduceBNe, Nat.reduceMod, Nat.reduceDiv, Int.reduceLE, Int.reduceLT, Int.reduceToNat, Int.reduceAdd, Int.reduceSub, Int.reduceMul, Int.reduceNeg, Int.reduceEq, Int.reduceBEq, Int.reduceBNe, ↓reduceIte, reduceCtorEq, String.reduceBNe, String.reduceEq, reduceDIte, Nat.reducePow]
    · simp [distinctFrom]
    · exact MWf_one (dl_below _ _ _)
    
end Go.Proofs.Ytgkmjcpcigklpaa
