/- Walks and facts of this seat's program over abstract states, printed by a program of mine; no conditions but those that each theorem names. -/
import Derived.Test.YtgkmjcpcigklpaaApart
set_option linter.unusedSimpArgs false
set_option linter.unusedVariables false
set_option maxRecDepth 100000
set_option maxHeartbeats 4000000
namespace Go.Proofs.Ytgkmjcpcigklpaa
open Go Go.Eng

structure ShOk (k w h ln ac rows wl hl wd hg : Nat) : Prop where
  k1 : 1 ≤ k
  k2 : k ≤ 32
  w1 : 1 ≤ w
  w2 : w ≤ 64
  h1 : 1 ≤ h
  h2 : h ≤ 64
  l2 : ln ≤ 64
  a1 : 1 ≤ ac
  a2 : ac ≤ k
  hr : rows = (k + ac - 1) / ac
  hwl : wl = w + ln
  hhl : hl = h + ln
  hwd : wd + ln = ac * wl
  hhg : hg + ln = rows * hl
/-- Pictures side by side. -/
def sheetG (k w h ac wl hl wd : Nat) (A : Nat → Nat → Nat → Int) (dd : Nat → Nat → Int) : Nat → Nat → Int := fun i q =>
  if i / wd / hl * ac + i % wd / wl < k ∧ i % wd % wl < w ∧ i / wd % hl < h then A (i / wd / hl * ac + i % wd / wl) (i / wd % hl * w + i % wd % wl) q else dd i q
theorem ShOk.b {k w h ln ac rows wl hl wd hg : Nat} (c : ShOk k w h ln ac rows wl hl wd hg) : 1 ≤ wl ∧ wl ≤ 128 ∧ 1 ≤ hl ∧ hl ≤ 128 ∧ ac ≤ 32 ∧ 1 ≤ rows ∧ rows ≤ 32 ∧ ac * wl ≤ 4096 ∧ rows * hl ≤ 4096 := by
  have := c.k1
  have := c.k2
  have := c.w1
  have := c.w2
  have := c.h1
  have := c.h2
  have := c.l2
  have a1 := c.a1
  have a2 := c.a2
  have e1 := c.hwl
  have e2 := c.hhl
  have r1 : 1 ≤ rows := by rw [c.hr]; exact (Nat.le_div_iff_mul_le (by omega)).2 (by omega)
  have r2 : rows ≤ 32 := by
    rw [c.hr]
    refine Nat.le_of_lt_succ ((Nat.div_lt_iff_lt_mul (by omega)).2 ?_)
    have : (32 + 1) * 1 ≤ (32 + 1) * ac := Nat.mul_le_mul_left _ a1
    have : k + ac - 1 < (32 + 1) * ac := by omega
    simpa using this
  have m1 := Nat.mul_le_mul (show ac ≤ 32 by omega) (show wl ≤ 128 by omega)
  have m2 := Nat.mul_le_mul r2 (show hl ≤ 128 by omega)
  refine ⟨by omega, by omega, by omega, by omega, by omega, r1, r2, by omega, by omega⟩
theorem ShOk.wdp {k w h ln ac rows wl hl wd hg : Nat} (c : ShOk k w h ln ac rows wl hl wd hg) : 1 ≤ wd ∧ 1 ≤ hg := by
  obtain ⟨b1, b2, b3, b4, b5, b6, b7, b8, b9⟩ := c.b
  have := c.w1
  have := c.h1
  have e1 := c.hwl
  have e2 := c.hhl
  have m1 := Nat.mul_le_mul c.a1 (Nat.le_refl wl)
  have m2 := Nat.mul_le_mul b6 (Nat.le_refl hl)
  have := c.hwd
  have := c.hhg
  omega

theorem sheetd_a (k w h ln ac rows wl hl wd hg bh ba bw bl bs bd rl vl i : Nat) (W H : Nat → Int) (r n : Nat → Nat) (A : Nat → Nat → Nat → Int) (d0 d1 d2 : Int) (kk : BK) (ez : Nat) (M : AMem) (hbh : M[bh]? = some ⟨.fix, 3, 0, 0, [.int .i64 (hl : Int)]⟩) (hba : M[ba]? = some ⟨.fix, 3, 0, 0, [.int .i64 (ac : Int)]⟩) (hbw : M[bw]? = some ⟨.fix, 3, 0, 0, [.int .i64 (wl : Int)]⟩) (hbl : M[bl]? = some ⟨.fix, 26, 0, 0, [.sl rl vl 0 k]⟩) (hbs : M[bs]? = some ⟨.fix, 31, 0, 0, [.int .i64 (w : Int), .int .i64 (h : Int)]⟩) (hbd : M[bd]? = some ⟨.fix, 22, 0, 0, [.int .u8 d0, .int .u8 d1, .int .u8 d2]⟩) (hrow : M[rl]? = some ⟨kk, 33, vl, ez, pl k W H r n⟩) (hp : ∀ j, j < k → PicAt M (r j) 0 (n j) (A j)) (hg0 : ∀ j, j < k → W j = (w : Int) ∧ n j = w * h) (c : ShOk k w h ln ac rows wl hl wd hg) (hs : wd ≤ 64 ∧ hg ≤ 64) (hi : i < wd * hg) (ht : ¬ (i / wd / hl * ac + i % wd / wl) < k) : Ctr Try.prog 39 [.one (.int .i64 ((i : Int).tmod (wd : Int))), .one (.int .i64 ((i : Int).tdiv (wd : Int))), .one (.ptr bh 0 0), .one (.ptr ba 0 0), .one (.ptr bw 0 0), .one (.ptr bl 0 0), .one (.ptr bs 0 0), .one (.ptr bd 0 0)] M (.agg [.int .u8 (sheetG k w h ac wl hl wd A (cD d0 d1 d2) i 0), .int .u8 (sheetG k w h ac wl hl wd A (cD d0 d1 d2) i 1), .int .u8 (sheetG k w h ac wl hl wd A (cD d0 d1 d2) i 2)]) M := by
  refine Ctr.enter Try.func39 rfl (by decide) (rs := [.cell 10 22]) (nt := 48) rfl rfl fun hwf Q hQ => ?_
  obtain ⟨b1, b2, b3, b4, b5, b6, b7, b8, b9⟩ := c.b
  obtain ⟨hv, hx⟩ := row_lt hi c.wdp.1
  rw [tmodN, tdivN]
  have hcg : ∀ q, sheetG k w h ac wl hl wd A (cD d0 d1 d2) i q = cD d0 d1 d2 i q := fun q => by rw [sheetG]; exact if_neg (fun h => ht h.1)
  generalize i / wd = Y at *
  generalize i % wd = X at *
  have z1 : ¬ (hl : Int) = 0 := by omega
  have z2 : ¬ (wl : Int) = 0 := by omega
  have d1' := Nat.div_le_self Y hl
  have d2' := Nat.div_le_self X wl
  have w1 : IntKind.i64.wrap ((Y : Int).tdiv (hl : Int)) = ((Y / hl : Nat) : Int) := by rw [tdivN, i64n (by omega)]
  have w2 : IntKind.i64.wrap ((X : Int).tdiv (wl : Int)) = ((X / wl : Nat) : Int) := by rw [tdivN, i64n (by omega)]
  have w3 : (Y : Int).tmod (hl : Int) = ((Y % hl : Nat) : Int) := rfl
  have w4 : (X : Int).tmod (wl : Int) = ((X % wl : Nat) : Int) := rfl
  have hm := Nat.mul_le_mul (show Y / hl ≤ 64 by omega) b5
  have w5 : IntKind.i64.wrap (IntKind.i64.wrap (((Y / hl : Nat) : Int) * (ac : Int)) + ((X / wl : Nat) : Int)) = ((Y / hl * ac + X / wl : Nat) : Int) := ix_nat (by omega) (by omega)
  generalize hT : Y / hl * ac + X / wl = t at *
  generalize hT1 : ((Y / hl : Nat) : Int) = t1 at *
  generalize hT2 : ((X / wl : Nat) : Int) = t2 at *
  generalize hV : Y % hl = v at *
  generalize hU : X % wl = u at *
  have c0 : (0 : Int) ≤ (t : Int) := by omega
  have e1 : (k : Int) ≤ (t : Int) := by omega
  refine AW.seq_k fun K hK => ?_
  refine AW.region (by decide) ?_
  simp only [push_cast, Nat.reduceAdd, Nat.reduceMul, Nat.reduceSub, Nat.reduceLeDiff, Nat.reduceLT, Nat.reduceEqDiff, Nat.reduceBEq, Nat.reduceBNe, Nat.reduceMod, Nat.reduceDiv, Int.reduceLE, Int.reduceLT, Int.reduceToNat, Int.reduceAdd, Int.reduceSub, Int.reduceMul, Int.reduceNeg, Int.reduceEq, Int.reduceBEq, Int.reduceBNe, ↓reduceIte, reduceCtorEq, String.reduceBNe, String.reduceEq, reduceDIte, Nat.reducePow, hbh, lk_old hbh, hba, lk_old hba, hbw, lk_old hbw, hbl, lk_old hbl, hbs, lk_old hbs, hbd, lk_old hbd, hrow, lk_old hrow, z1, z2, w1, w2, w3, w4, w5, hcg, c0, e1, cD]
  refine Thn_n ?_
  refine hK _ _ ?_
  clear hK K
  refine AW.seq_k fun K hK => ?_
  refine AW.draw [.val, .rd 0, .val, .rd 0, .val, .val, .rd 0, .val, .val, .val] fol (by decide) (by kernel_rfl) ?_
  simp only [push_cast, Nat.reduceAdd, Nat.reduceMul, Nat.reduceSub, Nat.reduceLeDiff, Nat.reduceLT, Nat.reduceEqDiff, Nat.reduceBEq, Nat.reduceBNe, Nat.reduceMod, Nat.reduceDiv, Int.reduceLE, Int.reduceLT, Int.reduceToNat, Int.reduceAdd, Int.reduceSub, Int.reduceMul, Int.reduceNeg, Int.reduceEq, Int.reduceBEq, Int.reduceBNe, ↓reduceIte, reduceCtorEq, String.reduceBNe, String.reduceEq, reduceDIte, Nat.reducePow, hbh, lk_old hbh, hba, lk_old hba, hbw, lk_old hbw, hbl, lk_old hbl, hbs, lk_old hbs, hbd, lk_old hbd, hrow, lk_old hrow, z1, z2, w1, w2, w3, w4, w5, hcg, c0, e1, cD]
  refine Thn_n ?_
  refine hK _ _ ?_
  clear hK K
  refine AW.seq_k fun K hK => ?_
  refine AW.seq_k fun K hK => ?_
  refine AW.draw [.val, .rd 0, .val, .val, .val, .rd 0, .val, .rd 0, .val, .val, .rd 0, .val, .ext, .val, .val] fol (by decide) (by kernel_rfl) ?_
  simp only [push_cast, Nat.reduceAdd, Nat.reduceMul, Nat.reduceSub, Nat.reduceLeDiff, Nat.reduceLT, Nat.reduceEqDiff, Nat.reduceBEq, Nat.reduceBNe, Nat.reduceMod, Nat.reduceDiv, Int.reduceLE, Int.reduceLT, Int.reduceToNat, Int.reduceAdd, Int.reduceSub, Int.reduceMul, Int.reduceNeg, Int.reduceEq, Int.reduceBEq, Int.reduceBNe, ↓reduceIte, reduceCtorEq, String.reduceBNe, String.reduceEq, reduceDIte, Nat.reducePow, hbh, lk_old hbh, hba, lk_old hba, hbw, lk_old hbw, hbl, lk_old hbl, hbs, lk_old hbs, hbd, lk_old hbd, hrow, lk_old hrow, z1, z2, w1, w2, w3, w4, w5, hcg, c0, e1, cD]
  refine Thn_n ?_
  refine hK _ _ ?_
  clear hK K
  refine AW.cond_t rfl ?_
  refine AW.seq_k fun K hK => ?_
  refine AW.region (by decide) ?_
  simp only [push_cast, Nat.reduceAdd, Nat.reduceMul, Nat.reduceSub, Nat.reduceLeDiff, Nat.reduceLT, Nat.reduceEqDiff, Nat.reduceBEq, Nat.reduceBNe, Nat.reduceMod, Nat.reduceDiv, Int.reduceLE, Int.reduceLT, Int.reduceToNat, Int.reduceAdd, Int.reduceSub, Int.reduceMul, Int.reduceNeg, Int.reduceEq, Int.reduceBEq, Int.reduceBNe, ↓reduceIte, reduceCtorEq, String.reduceBNe, String.reduceEq, reduceDIte, Nat.reducePow, hbh, lk_old hbh, hba, lk_old hba, hbw, lk_old hbw, hbl, lk_old hbl, hbs, lk_old hbs, hbd, lk_old hbd, hrow, lk_old hrow, z1, z2, w1, w2, w3, w4, w5, hcg, c0, e1, cD]
  refine Thn_n ?_
  refine hK _ _ ?_
  clear hK K
  refine AW.ret ?_
  refine Thn_r ?_
  refine hQ _ _ _ ?_
  first | refine RetP.drop0 (Or.inr rfl) ?_ ?_ hwf | refine RetP.drop (Or.inr rfl) ?_ ?_ hwf
  · simp only [resA, resOne, resTv, AV.tv, push_cast, Nat.reduceAdd, Nat.reduceMul, Nat.reduceSub, Nat.reduceLeDiff, Nat.reduceLT, Nat.reduceEqDiff, Nat.reduceBEq, Nat.reduceBNe, Nat.reduceMod, Nat.reduceDiv, Int.reduceLE, Int.reduceLT, Int.reduceToNat, Int.reduceAdd, Int.reduceSub, Int.reduceMul, Int.reduceNeg, Int.reduceEq, Int.reduceBEq, Int.reduceBNe, ↓reduceIte, reduceCtorEq, String.reduceBNe, String.reduceEq, reduceDIte, Nat.reducePow, hbh, lk_old hbh, hba, lk_old hba, hbw, lk_old hbw, hbl, lk_old hbl, hbs, lk_old hbs, hbd, lk_old hbd, hrow, lk_old hrow, z1, z2, w1, w2, w3, w4, w5, hcg, c0, e1, cD]
  · rfl
theorem sheetd_b (k w h ln ac rows wl hl wd hg bh ba bw bl bs bd rl vl i : Nat) (W H : Nat → Int) (r n : Nat → Nat) (A : Nat → Nat → Nat → Int) (d0 d1 d2 : Int) (kk : BK) (ez : Nat) (M : AMem) (hbh : M[bh]? = some ⟨.fix, 3, 0, 0, [.int .i64 (hl : Int)]⟩) (hba : M[ba]? = some ⟨.fix, 3, 0, 0, [.int .i64 (ac : Int)]⟩) (hbw : M[bw]? = some ⟨.fix, 3, 0, 0, [.int .i64 (wl : Int)]⟩) (hbl : M[bl]? = some ⟨.fix, 26, 0, 0, [.sl rl vl 0 k]⟩) (hbs : M[bs]? = some ⟨.fix, 31, 0, 0, [.int .i64 (w : Int), .int .i64 (h : Int)]⟩) (hbd : M[bd]? = some ⟨.fix, 22, 0, 0, [.int .u8 d0, .int .u8 d1, .int .u8 d2]⟩) (hrow : M[rl]? = some ⟨kk, 33, vl, ez, pl k W H r n⟩) (hp : ∀ j, j < k → PicAt M (r j) 0 (n j) (A j)) (hg0 : ∀ j, j < k → W j = (w : Int) ∧ n j = w * h) (c : ShOk k w h ln ac rows wl hl wd hg) (hs : wd ≤ 64 ∧ hg ≤ 64) (hi : i < wd * hg) (ht : (i / wd / hl * ac + i % wd / wl) < k) (hb : (decide (0 ≤ ((i % wd % wl : Nat) : Int)) && decide (((i % wd % wl : Nat) : Int) < (w : Int)) && decide (0 ≤ ((i / wd % hl : Nat) : Int)) && decide (((i / wd % hl : Nat) : Int) < (h : Int))) = false) : Ctr Try.prog 39 [.one (.int .i64 ((i : Int).tmod (wd : Int))), .one (.int .i64 ((i : Int).tdiv (wd : Int))), .one (.ptr bh 0 0), .one (.ptr ba 0 0), .one (.ptr bw 0 0), .one (.ptr bl 0 0), .one (.ptr bs 0 0), .one (.ptr bd 0 0)] M (.agg [.int .u8 (sheetG k w h ac wl hl wd A (cD d0 d1 d2) i 0), .int .u8 (sheetG k w h ac wl hl wd A (cD d0 d1 d2) i 1), .int .u8 (sheetG k w h ac wl hl wd A (cD d0 d1 d2) i 2)]) M := by
  refine Ctr.enter Try.func39 rfl (by decide) (rs := [.cell 10 22]) (nt := 48) rfl rfl fun hwf Q hQ => ?_
  obtain ⟨b1, b2, b3, b4, b5, b6, b7, b8, b9⟩ := c.b
  obtain ⟨hv, hx⟩ := row_lt hi c.wdp.1
  rw [tmodN, tdivN]
  have hcg : ∀ q, sheetG k w h ac wl hl wd A (cD d0 d1 d2) i q = cD d0 d1 d2 i q := fun q => by rw [sheetG]; exact if_neg (fun hh => by
    rw [decide_eq_true (show (0 : Int) ≤ ((i % wd % wl : Nat) : Int) from Int.natCast_nonneg _), decide_eq_true (show ((i % wd % wl : Nat) : Int) < (w : Int) by exact Int.ofNat_lt.2 hh.2.1), decide_eq_true (show (0 : Int) ≤ ((i / wd % hl : Nat) : Int) from Int.natCast_nonneg _), decide_eq_true (show ((i / wd % hl : Nat) : Int) < (h : Int) by exact Int.ofNat_lt.2 hh.2.2)] at hb
    cases hb)
  generalize i / wd = Y at *
  generalize i % wd = X at *
  have z1 : ¬ (hl : Int) = 0 := by omega
  have z2 : ¬ (wl : Int) = 0 := by omega
  have d1' := Nat.div_le_self Y hl
  have d2' := Nat.div_le_self X wl
  have w1 : IntKind.i64.wrap ((Y : Int).tdiv (hl : Int)) = ((Y / hl : Nat) : Int) := by rw [tdivN, i64n (by omega)]
  have w2 : IntKind.i64.wrap ((X : Int).tdiv (wl : Int)) = ((X / wl : Nat) : Int) := by rw [tdivN, i64n (by omega)]
  have w3 : (Y : Int).tmod (hl : Int) = ((Y % hl : Nat) : Int) := rfl
  have w4 : (X : Int).tmod (wl : Int) = ((X % wl : Nat) : Int) := rfl
  have hm := Nat.mul_le_mul (show Y / hl ≤ 64 by omega) b5
  have w5 : IntKind.i64.wrap (IntKind.i64.wrap (((Y / hl : Nat) : Int) * (ac : Int)) + ((X / wl : Nat) : Int)) = ((Y / hl * ac + X / wl : Nat) : Int) := ix_nat (by omega) (by omega)
  generalize hT : Y / hl * ac + X / wl = t at *
  generalize hT1 : ((Y / hl : Nat) : Int) = t1 at *
  generalize hT2 : ((X / wl : Nat) : Int) = t2 at *
  generalize hV : Y % hl = v at *
  generalize hU : X % wl = u at *
  have c0 : (0 : Int) ≤ (t : Int) := by omega
  have e1 : ¬ (k : Int) ≤ (t : Int) := by omega
  refine AW.seq_k fun K hK => ?_
  refine AW.region (by decide) ?_
  simp only [push_cast, Nat.reduceAdd, Nat.reduceMul, Nat.reduceSub, Nat.reduceLeDiff, Nat.reduceLT, Nat.reduceEqDiff, Nat.reduceBEq, Nat.reduceBNe, Nat.reduceMod, Nat.reduceDiv, Int.reduceLE, Int.reduceLT, Int.reduceToNat, Int.reduceAdd, Int.reduceSub, Int.reduceMul, Int.reduceNeg, Int.reduceEq, Int.reduceBEq, Int.reduceBNe, ↓reduceIte, reduceCtorEq, String.reduceBNe, String.reduceEq, reduceDIte, Nat.reducePow, hbh, lk_old hbh, hba, lk_old hba, hbw, lk_old hbw, hbl, lk_old hbl, hbs, lk_old hbs, hbd, lk_old hbd, hrow, lk_old hrow, z1, z2, w1, w2, w3, w4, w5, hcg, c0, e1, hb, cD]
  refine Thn_n ?_
  refine hK _ _ ?_
  clear hK K
  refine AW.seq_k fun K hK => ?_
  refine AW.draw [.val, .rd 0, .val, .rd 0, .val, .val, .rd 0, .val, .val, .val] fol (by decide) (by kernel_rfl) ?_
  simp only [push_cast, Nat.reduceAdd, Nat.reduceMul, Nat.reduceSub, Nat.reduceLeDiff, Nat.reduceLT, Nat.reduceEqDiff, Nat.reduceBEq, Nat.reduceBNe, Nat.reduceMod, Nat.reduceDiv, Int.reduceLE, Int.reduceLT, Int.reduceToNat, Int.reduceAdd, Int.reduceSub, Int.reduceMul, Int.reduceNeg, Int.reduceEq, Int.reduceBEq, Int.reduceBNe, ↓reduceIte, reduceCtorEq, String.reduceBNe, String.reduceEq, reduceDIte, Nat.reducePow, hbh, lk_old hbh, hba, lk_old hba, hbw, lk_old hbw, hbl, lk_old hbl, hbs, lk_old hbs, hbd, lk_old hbd, hrow, lk_old hrow, z1, z2, w1, w2, w3, w4, w5, hcg, c0, e1, hb, cD]
  refine Thn_n ?_
  refine hK _ _ ?_
  clear hK K
  refine AW.seq_k fun K hK => ?_
  refine AW.seq_k fun K hK => ?_
  refine AW.draw [.val, .rd 0, .val, .val, .val, .rd 0, .val, .rd 0, .val, .val, .rd 0, .val, .ext, .val, .val] fol (by decide) (by kernel_rfl) ?_
  simp only [push_cast, Nat.reduceAdd, Nat.reduceMul, Nat.reduceSub, Nat.reduceLeDiff, Nat.reduceLT, Nat.reduceEqDiff, Nat.reduceBEq, Nat.reduceBNe, Nat.reduceMod, Nat.reduceDiv, Int.reduceLE, Int.reduceLT, Int.reduceToNat, Int.reduceAdd, Int.reduceSub, Int.reduceMul, Int.reduceNeg, Int.reduceEq, Int.reduceBEq, Int.reduceBNe, ↓reduceIte, reduceCtorEq, String.reduceBNe, String.reduceEq, reduceDIte, Nat.reducePow, hbh, lk_old hbh, hba, lk_old hba, hbw, lk_old hbw, hbl, lk_old hbl, hbs, lk_old hbs, hbd, lk_old hbd, hrow, lk_old hrow, z1, z2, w1, w2, w3, w4, w5, hcg, c0, e1, hb, cD]
  refine DCall.by0 (in_c _ _ _ _ _) ?_
  simp only [push_cast, Nat.reduceAdd, Nat.reduceMul, Nat.reduceSub, Nat.reduceLeDiff, Nat.reduceLT, Nat.reduceEqDiff, Nat.reduceBEq, Nat.reduceBNe, Nat.reduceMod, Nat.reduceDiv, Int.reduceLE, Int.reduceLT, Int.reduceToNat, Int.reduceAdd, Int.reduceSub, Int.reduceMul, Int.reduceNeg, Int.reduceEq, Int.reduceBEq, Int.reduceBNe, ↓reduceIte, reduceCtorEq, String.reduceBNe, String.reduceEq, reduceDIte, Nat.reducePow, hbh, lk_old hbh, hba, lk_old hba, hbw, lk_old hbw, hbl, lk_old hbl, hbs, lk_old hbs, hbd, lk_old hbd, hrow, lk_old hrow, z1, z2, w1, w2, w3, w4, w5, hcg, c0, e1, hb, cD]
  refine Thn_n ?_
  refine hK _ _ ?_
  clear hK K
  refine AW.cond_t rfl ?_
  refine AW.seq_k fun K hK => ?_
  refine AW.region (by decide) ?_
  simp only [push_cast, Nat.reduceAdd, Nat.reduceMul, Nat.reduceSub, Nat.reduceLeDiff, Nat.reduceLT, Nat.reduceEqDiff, Nat.reduceBEq, Nat.reduceBNe, Nat.reduceMod, Nat.reduceDiv, Int.reduceLE, Int.reduceLT, Int.reduceToNat, Int.reduceAdd, Int.reduceSub, Int.reduceMul, Int.reduceNeg, Int.reduceEq, Int.reduceBEq, Int.reduceBNe, ↓reduceIte, reduceCtorEq, String.reduceBNe, String.reduceEq, reduceDIte, Nat.reducePow, hbh, lk_old hbh, hba, lk_old hba, hbw, lk_old hbw, hbl, lk_old hbl, hbs, lk_old hbs, hbd, lk_old hbd, hrow, lk_old hrow, z1, z2, w1, w2, w3, w4, w5, hcg, c0, e1, hb, cD]
  refine Thn_n ?_
  refine hK _ _ ?_
  clear hK K
  refine AW.ret ?_
  refine Thn_r ?_
  refine hQ _ _ _ ?_
  first | refine RetP.drop0 (Or.inr rfl) ?_ ?_ hwf | refine RetP.drop (Or.inr rfl) ?_ ?_ hwf
  · simp only [resA, resOne, resTv, AV.tv, push_cast, Nat.reduceAdd, Nat.reduceMul, Nat.reduceSub, Nat.reduceLeDiff, Nat.reduceLT, Nat.reduceEqDiff, Nat.reduceBEq, Nat.reduceBNe, Nat.reduceMod, Nat.reduceDiv, Int.reduceLE, Int.reduceLT, Int.reduceToNat, Int.reduceAdd, Int.reduceSub, Int.reduceMul, Int.reduceNeg, Int.reduceEq, Int.reduceBEq, Int.reduceBNe, ↓reduceIte, reduceCtorEq, String.reduceBNe, String.reduceEq, reduceDIte, Nat.reducePow, hbh, lk_old hbh, hba, lk_old hba, hbw, lk_old hbw, hbl, lk_old hbl, hbs, lk_old hbs, hbd, lk_old hbd, hrow, lk_old hrow, z1, z2, w1, w2, w3, w4, w5, hcg, c0, e1, hb, cD]
  · rfl
theorem sheetd_c (k w h ln ac rows wl hl wd hg bh ba bw bl bs bd rl vl i : Nat) (W H : Nat → Int) (r n : Nat → Nat) (A : Nat → Nat → Nat → Int) (d0 d1 d2 : Int) (kk : BK) (ez : Nat) (M : AMem) (hbh : M[bh]? = some ⟨.fix, 3, 0, 0, [.int .i64 (hl : Int)]⟩) (hba : M[ba]? = some ⟨.fix, 3, 0, 0, [.int .i64 (ac : Int)]⟩) (hbw : M[bw]? = some ⟨.fix, 3, 0, 0, [.int .i64 (wl : Int)]⟩) (hbl : M[bl]? = some ⟨.fix, 26, 0, 0, [.sl rl vl 0 k]⟩) (hbs : M[bs]? = some ⟨.fix, 31, 0, 0, [.int .i64 (w : Int), .int .i64 (h : Int)]⟩) (hbd : M[bd]? = some ⟨.fix, 22, 0, 0, [.int .u8 d0, .int .u8 d1, .int .u8 d2]⟩) (hrow : M[rl]? = some ⟨kk, 33, vl, ez, pl k W H r n⟩) (hp : ∀ j, j < k → PicAt M (r j) 0 (n j) (A j)) (hg0 : ∀ j, j < k → W j = (w : Int) ∧ n j = w * h) (c : ShOk k w h ln ac rows wl hl wd hg) (hs : wd ≤ 64 ∧ hg ≤ 64) (hi : i < wd * hg) (ht : (i / wd / hl * ac + i % wd / wl) < k) (hb : (decide (0 ≤ ((i % wd % wl : Nat) : Int)) && decide (((i % wd % wl : Nat) : Int) < (w : Int)) && decide (0 ≤ ((i / wd % hl : Nat) : Int)) && decide (((i / wd % hl : Nat) : Int) < (h : Int))) = true) : Ctr Try.prog 39 [.one (.int .i64 ((i : Int).tmod (wd : Int))), .one (.int .i64 ((i : Int).tdiv (wd : Int))), .one (.ptr bh 0 0), .one (.ptr ba 0 0), .one (.ptr bw 0 0), .one (.ptr bl 0 0), .one (.ptr bs 0 0), .one (.ptr bd 0 0)] M (.agg [.int .u8 (sheetG k w h ac wl hl wd A (cD d0 d1 d2) i 0), .int .u8 (sheetG k w h ac wl hl wd A (cD d0 d1 d2) i 1), .int .u8 (sheetG k w h ac wl hl wd A (cD d0 d1 d2) i 2)]) M := by
  refine Ctr.enter Try.func39 rfl (by decide) (rs := [.cell 10 22]) (nt := 48) rfl rfl fun hwf Q hQ => ?_
  have hb' := hb
  simp only [Bool.and_eq_true, decide_eq_true_eq] at hb'
  obtain ⟨⟨⟨_, hb1⟩, _⟩, hb2⟩ := hb'
  have hb3 := Int.ofNat_lt.1 hb1
  have hb4 := Int.ofNat_lt.1 hb2
  obtain ⟨b1, b2, b3, b4, b5, b6, b7, b8, b9⟩ := c.b
  obtain ⟨hv, hx⟩ := row_lt hi c.wdp.1
  rw [tmodN, tdivN]
  have hcg : ∀ q, sheetG k w h ac wl hl wd A (cD d0 d1 d2) i q = A (i / wd / hl * ac + i % wd / wl) (i / wd % hl * w + i % wd % wl) q := fun q => by rw [sheetG]; exact if_pos ⟨ht, hb3, hb4⟩
  generalize i / wd = Y at *
  generalize i % wd = X at *
  have z1 : ¬ (hl : Int) = 0 := by omega
  have z2 : ¬ (wl : Int) = 0 := by omega
  have d1' := Nat.div_le_self Y hl
  have d2' := Nat.div_le_self X wl
  have w1 : IntKind.i64.wrap ((Y : Int).tdiv (hl : Int)) = ((Y / hl : Nat) : Int) := by rw [tdivN, i64n (by omega)]
  have w2 : IntKind.i64.wrap ((X : Int).tdiv (wl : Int)) = ((X / wl : Nat) : Int) := by rw [tdivN, i64n (by omega)]
  have w3 : (Y : Int).tmod (hl : Int) = ((Y % hl : Nat) : Int) := rfl
  have w4 : (X : Int).tmod (wl : Int) = ((X % wl : Nat) : Int) := rfl
  have hm := Nat.mul_le_mul (show Y / hl ≤ 64 by omega) b5
  have w5 : IntKind.i64.wrap (IntKind.i64.wrap (((Y / hl : Nat) : Int) * (ac : Int)) + ((X / wl : Nat) : Int)) = ((Y / hl * ac + X / wl : Nat) : Int) := ix_nat (by omega) (by omega)
  generalize hT : Y / hl * ac + X / wl = t at *
  generalize hT1 : ((Y / hl : Nat) : Int) = t1 at *
  generalize hT2 : ((X / wl : Nat) : Int) = t2 at *
  generalize hV : Y % hl = v at *
  generalize hU : X % wl = u at *
  have c0 : (0 : Int) ≤ (t : Int) := by omega
  have e1 : ¬ (k : Int) ≤ (t : Int) := by omega
  have e2 : (t : Int) < (k : Int) := by omega
  obtain ⟨p1, p2, p3⟩ := pl_get (W := W) (H := H) (r := r) (n := n) ht
  have hpt := hp t ht
  obtain ⟨q1, q2⟩ := hg0 t ht
  have hib : v * w + u < n t := by rw [q2]; exact ix_lt hb3 hb4
  have hnb : n t ≤ 4096 := by rw [q2]; exact wh_le c.w2 c.h2
  generalize hj : v * w + u = j at *
  refine AW.seq_k fun K hK => ?_
  refine AW.region (by decide) ?_
  simp only [push_cast, Nat.reduceAdd, Nat.reduceMul, Nat.reduceSub, Nat.reduceLeDiff, Nat.reduceLT, Nat.reduceEqDiff, Nat.reduceBEq, Nat.reduceBNe, Nat.reduceMod, Nat.reduceDiv, Int.reduceLE, Int.reduceLT, Int.reduceToNat, Int.reduceAdd, Int.reduceSub, Int.reduceMul, Int.reduceNeg, Int.reduceEq, Int.reduceBEq, Int.reduceBNe, ↓reduceIte, reduceCtorEq, String.reduceBNe, String.reduceEq, reduceDIte, Nat.reducePow, hbh, lk_old hbh, hba, lk_old hba, hbw, lk_old hbw, hbl, lk_old hbl, hbs, lk_old hbs, hbd, lk_old hbd, hrow, lk_old hrow, z1, z2, w1, w2, w3, w4, w5, hcg, c0, e1, e2, hb, p1, p2, p3, q1]
  refine Thn_n ?_
  refine hK _ _ ?_
  clear hK K
  refine AW.seq_k fun K hK => ?_
  refine AW.draw [.val, .rd 0, .val, .rd 0, .val, .val, .rd 0, .val, .val, .val] fol (by decide) (by kernel_rfl) ?_
  simp only [push_cast, Nat.reduceAdd, Nat.reduceMul, Nat.reduceSub, Nat.reduceLeDiff, Nat.reduceLT, Nat.reduceEqDiff, Nat.reduceBEq, Nat.reduceBNe, Nat.reduceMod, Nat.reduceDiv, Int.reduceLE, Int.reduceLT, Int.reduceToNat, Int.reduceAdd, Int.reduceSub, Int.reduceMul, Int.reduceNeg, Int.reduceEq, Int.reduceBEq, Int.reduceBNe, ↓reduceIte, reduceCtorEq, String.reduceBNe, String.reduceEq, reduceDIte, Nat.reducePow, hbh, lk_old hbh, hba, lk_old hba, hbw, lk_old hbw, hbl, lk_old hbl, hbs, lk_old hbs, hbd, lk_old hbd, hrow, lk_old hrow, z1, z2, w1, w2, w3, w4, w5, hcg, c0, e1, e2, hb, p1, p2, p3, q1]
  refine Thn_n ?_
  refine hK _ _ ?_
  clear hK K
  refine AW.seq_k fun K hK => ?_
  refine AW.seq_k fun K hK => ?_
  refine AW.draw [.val, .rd 0, .val, .val, .val, .rd 0, .val, .rd 0, .val, .val, .rd 0, .val, .ext, .val, .val] fol (by decide) (by kernel_rfl) ?_
  simp only [push_cast, Nat.reduceAdd, Nat.reduceMul, Nat.reduceSub, Nat.reduceLeDiff, Nat.reduceLT, Nat.reduceEqDiff, Nat.reduceBEq, Nat.reduceBNe, Nat.reduceMod, Nat.reduceDiv, Int.reduceLE, Int.reduceLT, Int.reduceToNat, Int.reduceAdd, Int.reduceSub, Int.reduceMul, Int.reduceNeg, Int.reduceEq, Int.reduceBEq, Int.reduceBNe, ↓reduceIte, reduceCtorEq, String.reduceBNe, String.reduceEq, reduceDIte, Nat.reducePow, hbh, lk_old hbh, hba, lk_old hba, hbw, lk_old hbw, hbl, lk_old hbl, hbs, lk_old hbs, hbd, lk_old hbd, hrow, lk_old hrow, z1, z2, w1, w2, w3, w4, w5, hcg, c0, e1, e2, hb, p1, p2, p3, q1]
  refine DCall.by0 (in_c _ _ _ _ _) ?_
  simp only [push_cast, Nat.reduceAdd, Nat.reduceMul, Nat.reduceSub, Nat.reduceLeDiff, Nat.reduceLT, Nat.reduceEqDiff, Nat.reduceBEq, Nat.reduceBNe, Nat.reduceMod, Nat.reduceDiv, Int.reduceLE, Int.reduceLT, Int.reduceToNat, Int.reduceAdd, Int.reduceSub, Int.reduceMul, Int.reduceNeg, Int.reduceEq, Int.reduceBEq, Int.reduceBNe, ↓reduceIte, reduceCtorEq, String.reduceBNe, String.reduceEq, reduceDIte, Nat.reducePow, hbh, lk_old hbh, hba, lk_old hba, hbw, lk_old hbw, hbl, lk_old hbl, hbs, lk_old hbs, hbd, lk_old hbd, hrow, lk_old hrow, z1, z2, w1, w2, w3, w4, w5, hcg, c0, e1, e2, hb, p1, p2, p3, q1]
  refine Thn_n ?_
  refine hK _ _ ?_
  clear hK K
  refine AW.cond_f rfl ?_
  refine AW.skip ?_
  refine Thn_n ?_
  refine hK _ _ ?_
  clear hK K
  refine AW.seq_k fun K hK => ?_
  refine AW.draw [.rd 0, .val, .val, .rd 0, .val, .rd 0, .val, .val, .rd 0, .val, .ext, .wr] fol (by decide) (by kernel_rfl) ?_
  simp only [push_cast, Nat.reduceAdd, Nat.reduceMul, Nat.reduceSub, Nat.reduceLeDiff, Nat.reduceLT, Nat.reduceEqDiff, Nat.reduceBEq, Nat.reduceBNe, Nat.reduceMod, Nat.reduceDiv, Int.reduceLE, Int.reduceLT, Int.reduceToNat, Int.reduceAdd, Int.reduceSub, Int.reduceMul, Int.reduceNeg, Int.reduceEq, Int.reduceBEq, Int.reduceBNe, ↓reduceIte, reduceCtorEq, String.reduceBNe, String.reduceEq, reduceDIte, Nat.reducePow, hbh, lk_old hbh, hba, lk_old hba, hbw, lk_old hbw, hbl, lk_old hbl, hbs, lk_old hbs, hbd, lk_old hbd, hrow, lk_old hrow, z1, z2, w1, w2, w3, w4, w5, hcg, c0, e1, e2, hb, p1, p2, p3, q1]
  refine DCall.by0 (at_j _ _ _ _ u v j _ _ _ _ _ hj rfl rfl (hpt.mono _) hib (by omega)) ?_
  simp only [push_cast, Nat.reduceAdd, Nat.reduceMul, Nat.reduceSub, Nat.reduceLeDiff, Nat.reduceLT, Nat.reduceEqDiff, Nat.reduceBEq, Nat.reduceBNe, Nat.reduceMod, Nat.reduceDiv, Int.reduceLE, Int.reduceLT, Int.reduceToNat, Int.reduceAdd, Int.reduceSub, Int.reduceMul, Int.reduceNeg, Int.reduceEq, Int.reduceBEq, Int.reduceBNe, ↓reduceIte, reduceCtorEq, String.reduceBNe, String.reduceEq, reduceDIte, Nat.reducePow, hbh, lk_old hbh, hba, lk_old hba, hbw, lk_old hbw, hbl, lk_old hbl, hbs, lk_old hbs, hbd, lk_old hbd, hrow, lk_old hrow, z1, z2, w1, w2, w3, w4, w5, hcg, c0, e1, e2, hb, p1, p2, p3, q1]
  refine Thn_n ?_
  refine hK _ _ ?_
  clear hK K
  refine AW.ret ?_
  refine hQ _ _ _ ?_
  first | refine RetP.drop0 (Or.inr rfl) ?_ ?_ hwf | refine RetP.drop (Or.inr rfl) ?_ ?_ hwf
  · simp only [resA, resOne, resTv, AV.tv, push_cast, Nat.reduceAdd, Nat.reduceMul, Nat.reduceSub, Nat.reduceLeDiff, Nat.reduceLT, Nat.reduceEqDiff, Nat.reduceBEq, Nat.reduceBNe, Nat.reduceMod, Nat.reduceDiv, Int.reduceLE, Int.reduceLT, Int.reduceToNat, Int.reduceAdd, Int.reduceSub, Int.reduceMul, Int.reduceNeg, Int.reduceEq, Int.reduceBEq, Int.reduceBNe, ↓reduceIte, reduceCtorEq, String.reduceBNe, String.reduceEq, reduceDIte, Nat.reducePow, hbh, lk_old hbh, hba, lk_old hba, hbw, lk_old hbw, hbl, lk_old hbl, hbs, lk_old hbs, hbd, lk_old hbd, hrow, lk_old hrow, z1, z2, w1, w2, w3, w4, w5, hcg, c0, e1, e2, hb, p1, p2, p3, q1]
  · rfl
theorem sheetd (k w h ln ac rows wl hl wd hg bh ba bw bl bs bd rl vl i : Nat) (W H : Nat → Int) (r n : Nat → Nat) (A : Nat → Nat → Nat → Int) (d0 d1 d2 : Int) (kk : BK) (ez : Nat) (M : AMem) (hbh : M[bh]? = some ⟨.fix, 3, 0, 0, [.int .i64 (hl : Int)]⟩) (hba : M[ba]? = some ⟨.fix, 3, 0, 0, [.int .i64 (ac : Int)]⟩) (hbw : M[bw]? = some ⟨.fix, 3, 0, 0, [.int .i64 (wl : Int)]⟩) (hbl : M[bl]? = some ⟨.fix, 26, 0, 0, [.sl rl vl 0 k]⟩) (hbs : M[bs]? = some ⟨.fix, 31, 0, 0, [.int .i64 (w : Int), .int .i64 (h : Int)]⟩) (hbd : M[bd]? = some ⟨.fix, 22, 0, 0, [.int .u8 d0, .int .u8 d1, .int .u8 d2]⟩) (hrow : M[rl]? = some ⟨kk, 33, vl, ez, pl k W H r n⟩) (hp : ∀ j, j < k → PicAt M (r j) 0 (n j) (A j)) (hg0 : ∀ j, j < k → W j = (w : Int) ∧ n j = w * h) (c : ShOk k w h ln ac rows wl hl wd hg) (hs : wd ≤ 64 ∧ hg ≤ 64) (hi : i < wd * hg) : Ctr Try.prog 39 [.one (.int .i64 ((i : Int).tmod (wd : Int))), .one (.int .i64 ((i : Int).tdiv (wd : Int))), .one (.ptr bh 0 0), .one (.ptr ba 0 0), .one (.ptr bw 0 0), .one (.ptr bl 0 0), .one (.ptr bs 0 0), .one (.ptr bd 0 0)] M (.agg [.int .u8 (sheetG k w h ac wl hl wd A (cD d0 d1 d2) i 0), .int .u8 (sheetG k w h ac wl hl wd A (cD d0 d1 d2) i 1), .int .u8 (sheetG k w h ac wl hl wd A (cD d0 d1 d2) i 2)]) M := by
  by_cases ht : (i / wd / hl * ac + i % wd / wl) < k
  · cases hb : (decide (0 ≤ ((i % wd % wl : Nat) : Int)) && decide (((i % wd % wl : Nat) : Int) < (w : Int)) && decide (0 ≤ ((i / wd % hl : Nat) : Int)) && decide (((i / wd % hl : Nat) : Int) < (h : Int)))
    · exact sheetd_b k w h ln ac rows wl hl wd hg bh ba bw bl bs bd rl vl i W H r n A d0 d1 d2 kk ez M hbh hba hbw hbl hbs hbd hrow hp hg0 c hs hi ht hb
    · exact sheetd_c k w h ln ac rows wl hl wd hg bh ba bw bl bs bd rl vl i W H r n A d0 d1 d2 kk ez M hbh hba hbw hbl hbs hbd hrow hp hg0 c hs hi ht hb
  · exact sheetd_a k w h ln ac rows wl hl wd hg bh ba bw bl bs bd rl vl i W H r n A d0 d1 d2 kk ez M hbh hba hbw hbl hbs hbd hrow hp hg0 c hs hi ht
end Go.Proofs.Ytgkmjcpcigklpaa
