/- StripSheets answers true whatever it is given, of up to 1048576 values; no other conditions. -/
import Derived.Test.YtgkmjcpcigklpaaSheet4
import Derived.Test.YtgkmjcpcigklpaaStripTurnsLaw
import Derived.Test.YtgkmjcpcigklpaaRows
import Derived.WalkKit
import Derived.ProofKit
import Derived.OpenShut
import Derived.JoinedCond
set_option linter.unusedSimpArgs false
set_option linter.unusedVariables false
set_option maxRecDepth 100000
set_option maxHeartbeats 4000000
namespace Go.Proofs.Ytgkmjcpcigklpaa
open Go Go.Eng

/-- Both sides of a sheet come to one picture, or to none. -/
theorem sheet_both (k : Nat) (W H : Nat → Int) (n : Nat → Nat) (x y d0 d1 d2 : Int) (A : Nat → Nat → Nat → Int) : ∃ p : PE, p.n ≤ 1048576 ∧ (∀ (r v : Nat) (rr : Nat → Nat) (kk : BK) (ez : Nat) (m : AMem), m[r]? = some ⟨kk, 33, v, ez, pl k W H rr n⟩ → (∀ j, j < k → PicAt m (rr j) 0 (n j) (A j)) → Ctr Try.prog 11 [.one (.int .i64 x), .one (.int .i64 y), .agg [.int .u8 d0, .int .u8 d1, .int .u8 d2], .one (.sl r v 0 k)] m (p.ret m.length) (m ++ [p.blk])) ∧ (∀ (r v : Nat) (rr : Nat → Nat) (kk : BK) (ez : Nat) (m : AMem), m[r]? = some ⟨kk, 29, v, ez, pl k W H rr n⟩ → (∀ j, j < k → PicAt m (rr j) 0 (n j) (A j)) → Ctr Try.prog 12 [.one (.int .i64 x), .one (.int .i64 y), .agg [.int .u8 d0, .int .u8 d1, .int .u8 d2], .one (.sl r v 0 k)] m (p.ret m.length) (m ++ [p.blk])) := by
  by_cases hin0 : ¬ inR k x y
  · have hin := hin0
    exact ⟨noP, by simp [noP], fun r v rr kk ez m hb hp => noP_of (sheet_no1 r v k W H rr n x y d0 d1 d2 kk ez m hb hin), fun r v rr kk ez m hb hp => noP_of (rsheet_no1 r v k W H rr n x y d0 d1 d2 kk ez m hb hin)⟩
  have hin : inR k x y := Classical.not_not.1 hin0
  by_cases hg : ∃ j, j < k ∧ goodP W H n j = false
  · exact ⟨noP, by simp [noP], fun r v rr kk ez m hb hp => noP_of (sheet_no2 r v k W H rr n x y d0 d1 d2 kk ez m hb hin hg), fun r v rr kk ez m hb hp => noP_of (rsheet_no2 r v k W H rr n x y d0 d1 d2 kk ez m hb hin hg)⟩
  have hg' : ∀ j, j < k → goodP W H n j = true := fun j hj => by
    cases h : goodP W H n j
    · exact absurd ⟨j, hj, h⟩ hg
    · rfl
  obtain ⟨p1, p2, p3, p4, p5, p6⟩ := id hin
  obtain ⟨w, h, hf, hall⟩ := goodP_nat (by omega) hg'
  obtain ⟨x', rfl⟩ : ∃ x' : Nat, x = (x' : Int) := ⟨x.toNat, by omega⟩
  obtain ⟨ln, rfl⟩ : ∃ ln : Nat, y = (ln : Int) := ⟨y.toNat, by omega⟩
  have c := sh_ok (k := k) (x := x') (ln := ln) ⟨by omega, by omega⟩ (by omega) (by omega) hf
  generalize w + ln = wl at c
  generalize h + ln = hl at c
  generalize acN k x' * wl - ln = wd at c
  generalize rowsN k x' * hl - ln = hg at c
  cases hs : szR (wd : Int) (hg : Int)
  · exact ⟨noP, by simp [noP], fun r v rr kk ez m hb hp => noP_of (sheet_big r v k W H rr n x' ln d0 d1 d2 kk ez m hb A hp hin w h wl hl wd hg hall c hs), fun r v rr kk ez m hb hp => noP_of (rsheet_big r v k W H rr n x' ln d0 d1 d2 kk ez m hb A hp hin w h wl hl wd hg hall c hs)⟩
  · have hsz := szR_iff.1 hs
    have hN := wh_le (show wd ≤ 64 by omega) (show hg ≤ 64 by omega)
    exact ⟨⟨(wd : Int), (hg : Int), wd * hg, sheetG k w h (acN k x') wl hl wd A (cD d0 d1 d2), 0⟩, by simp only; omega, fun r v rr kk ez m hb hp => sheet_ok r v k W H rr n x' ln d0 d1 d2 kk ez m hb A hp hin w h wl hl wd hg hall c hs, fun r v rr kk ez m hb hp => rsheet_ok r v k W H rr n x' ln d0 d1 d2 kk ez m hb A hp hin w h wl hl wd hg hall c hs⟩
theorem light_le {f : Nat → Nat} {k : Nat} (h : lightB f k = true) : (∀ j, j < k → f j ≤ 5000) ∧ k ≤ 40 := by
  simp only [lightB, Bool.and_eq_true, decide_eq_true_eq] at h
  exact ⟨h.1, by omega⟩
theorem apartF_n (W H : Int) (n : Nat) (A : Nat → Nat → Int) (W2 H2 : Int) (n2 : Nat) (B : Nat → Nat → Int) (hn : n ≤ 1048576) : (apartF W H n A W2 H2 n2 B).n ≤ 1048576 := by
  unfold apartF; split
  · exact hn
  · simp [noP]
/-- The blocks that the rounds make. -/
def inE (L : Nat) (W H : Nat → Int) (rr n : Nat → Nat) (A : Nat → Nat → Nat → Int) : Nat → AMem
  | 0 => []
  | i + 1 => inE L W H rr n A i ++ [⟨.fix, 29, 0, 0, [.int .i64 (W i), .int .i64 (H i), .sl (rr i) 0 0 (n i)]⟩, ⟨.grow, 22, 0, 3, dl (n i) (A i)⟩, ⟨.grow, 33, 0, 3, [.int .i64 (W i), .int .i64 (H i), .sl (L + (3 * i + 3)) 0 0 (n i)]⟩]
theorem inE_len (L : Nat) (W H : Nat → Int) (rr n : Nat → Nat) (A : Nat → Nat → Nat → Int) : ∀ i, (inE L W H rr n A i).length = 3 * i
  | 0 => rfl
  | i + 1 => by simp [inE, inE_len L W H rr n A i]; omega
theorem inE_get (L : Nat) (W H : Nat → Int) (rr n : Nat → Nat) (A : Nat → Nat → Nat → Int) (j : Nat) : ∀ i, j < i → (inE L W H rr n A i)[3 * j + 1]? = some ⟨.grow, 22, 0, 3, dl (n j) (A j)⟩
  | i + 1, h => by
    rcases Nat.lt_or_ge j i with h1 | h1
    · rw [inE, List.getElem?_append_left (by rw [inE_len]; omega)]; exact inE_get L W H rr n A j i h1
    · have e : j = i := by omega
      subst e
      rw [inE, List.getElem?_append_right (by rw [inE_len]; omega), inE_len, show 3 * j + 1 - 3 * j = 1 by omega]; rfl

theorem sheets_dark (x y d0 d1 d2 : Int) (r k : Nat) (W H : Nat → Int) (rr n : Nat → Nat) (A : Nat → Nat → Nat → Int) (m : AMem) (hb : m[r]? = some ⟨.ro, 29, 0, 3, pl k W H rr n⟩) (hp : ∀ j, j < k → PicIn m (rr j) (n j) (A j)) (hk : k ≤ 1048576) (hl : lightB n k = false) : Ctr Try.prog 3 [.one (.int .i64 x), .one (.int .i64 y), .agg [.int .u8 d0, .int .u8 d1, .int .u8 d2], .one (.sl r 0 0 k)] m (.one (.bool true)) m := by
  refine Ctr.enter Try.func3 rfl (by decide) (rs := [.tmp 8]) (nt := 90) rfl rfl fun hwf Q hQ => ?_
  refine AW.seq_k fun K hK => ?_
  refine AW.region (by decide) ?_
  simp only [push_cast, Nat.reduceAdd, Nat.reduceMul, Nat.reduceSub, Nat.reduceLeDiff, Nat.reduceLT, Nat.reduceEqDiff, Nat.reduceBEq, Nat.reduceBNe, Nat.reduceMod, Nat.reduceDiv, Int.reduceLE, Int.reduceLT, Int.reduceToNat, Int.reduceAdd, Int.reduceSub, Int.reduceMul, Int.reduceNeg, Int.reduceEq, Int.reduceBEq, Int.reduceBNe, ↓reduceIte, reduceCtorEq, String.reduceBNe, String.reduceEq, reduceDIte, Nat.reducePow, hl]
  refine Thn_n ?_
  refine hK _ _ ?_
  clear hK K
  refine AW.seq_k fun K hK => ?_
  refine AW.seq_k fun K hK => ?_
  refine AW.region (by decide) ?_
  simp only [push_cast, Nat.reduceAdd, Nat.reduceMul, Nat.reduceSub, Nat.reduceLeDiff, Nat.reduceLT, Nat.reduceEqDiff, Nat.reduceBEq, Nat.reduceBNe, Nat.reduceMod, Nat.reduceDiv, Int.reduceLE, Int.reduceLT, Int.reduceToNat, Int.reduceAdd, Int.reduceSub, Int.reduceMul, Int.reduceNeg, Int.reduceEq, Int.reduceBEq, Int.reduceBNe, ↓reduceIte, reduceCtorEq, String.reduceBNe, String.reduceEq, reduceDIte, Nat.reducePow, hl]
  refine CThen.by (light_c r 0 k W H rr n _ .ro 3 (by simp only [push_cast, Nat.reduceAdd, Nat.reduceMul, Nat.reduceSub, Nat.reduceLeDiff, Nat.reduceLT, Nat.reduceEqDiff, Nat.reduceBEq, Nat.reduceBNe, Nat.reduceMod, Nat.reduceDiv, Int.reduceLE, Int.reduceLT, Int.reduceToNat, Int.reduceAdd, Int.reduceSub, Int.reduceMul, Int.reduceNeg, Int.reduceEq, Int.reduceBEq, Int.reduceBNe, ↓reduceIte, reduceCtorEq, String.reduceBNe, String.reduceEq, reduceDIte, Nat.reducePow, hb, lk_old hb]) hk) ?_
  simp only [push_cast, Nat.reduceAdd, Nat.reduceMul, Nat.reduceSub, Nat.reduceLeDiff, Nat.reduceLT, Nat.reduceEqDiff, Nat.reduceBEq, Nat.reduceBNe, Nat.reduceMod, Nat.reduceDiv, Int.reduceLE, Int.reduceLT, Int.reduceToNat, Int.reduceAdd, Int.reduceSub, Int.reduceMul, Int.reduceNeg, Int.reduceEq, Int.reduceBEq, Int.reduceBNe, ↓reduceIte, reduceCtorEq, String.reduceBNe, String.reduceEq, reduceDIte, Nat.reducePow, hl]
  refine Thn_n ?_
  refine hK _ _ ?_
  clear hK K
  refine AW.cond_t rfl ?_
  refine AW.seq_k fun K hK => ?_
  refine AW.region (by decide) ?_
  simp only [push_cast, Nat.reduceAdd, Nat.reduceMul, Nat.reduceSub, Nat.reduceLeDiff, Nat.reduceLT, Nat.reduceEqDiff, Nat.reduceBEq, Nat.reduceBNe, Nat.reduceMod, Nat.reduceDiv, Int.reduceLE, Int.reduceLT, Int.reduceToNat, Int.reduceAdd, Int.reduceSub, Int.reduceMul, Int.reduceNeg, Int.reduceEq, Int.reduceBEq, Int.reduceBNe, ↓reduceIte, reduceCtorEq, String.reduceBNe, String.reduceEq, reduceDIte, Nat.reducePow, hl]
  refine CThen.by (awake_c _) ?_
  simp only [push_cast, Nat.reduceAdd, Nat.reduceMul, Nat.reduceSub, Nat.reduceLeDiff, Nat.reduceLT, Nat.reduceEqDiff, Nat.reduceBEq, Nat.reduceBNe, Nat.reduceMod, Nat.reduceDiv, Int.reduceLE, Int.reduceLT, Int.reduceToNat, Int.reduceAdd, Int.reduceSub, Int.reduceMul, Int.reduceNeg, Int.reduceEq, Int.reduceBEq, Int.reduceBNe, ↓reduceIte, reduceCtorEq, String.reduceBNe, String.reduceEq, reduceDIte, Nat.reducePow, hl]
  refine Thn_n ?_
  refine hK _ _ ?_
  clear hK K
  refine AW.ret ?_
  refine Thn_r ?_
  refine hQ _ _ _ ?_
  first | refine RetP.drop0 (Or.inr rfl) ?_ ?_ hwf | refine RetP.drop (Or.inr rfl) ?_ ?_ hwf
  · simp only [resA, resOne, resTv, AV.tv, push_cast, Nat.reduceAdd, Nat.reduceMul, Nat.reduceSub, Nat.reduceLeDiff, Nat.reduceLT, Nat.reduceEqDiff, Nat.reduceBEq, Nat.reduceBNe, Nat.reduceMod, Nat.reduceDiv, Int.reduceLE, Int.reduceLT, Int.reduceToNat, Int.reduceAdd, Int.reduceSub, Int.reduceMul, Int.reduceNeg, Int.reduceEq, Int.reduceBEq, Int.reduceBNe, ↓reduceIte, reduceCtorEq, String.reduceBNe, String.reduceEq, reduceDIte, Nat.reducePow, hl]
  · rfl
theorem sheets_few (x y d0 d1 d2 : Int) (r k : Nat) (W H : Nat → Int) (rr n : Nat → Nat) (A : Nat → Nat → Nat → Int) (m : AMem) (hb : m[r]? = some ⟨.ro, 29, 0, 3, pl k W H rr n⟩) (hp : ∀ j, j < k → PicIn m (rr j) (n j) (A j)) (hk : k ≤ 1048576) (hl : lightB n k = true) (h2k : ((k : Int) < 2)) : Ctr Try.prog 3 [.one (.int .i64 x), .one (.int .i64 y), .agg [.int .u8 d0, .int .u8 d1, .int .u8 d2], .one (.sl r 0 0 k)] m (.one (.bool true)) m := by
  refine Ctr.enter Try.func3 rfl (by decide) (rs := [.tmp 8]) (nt := 90) rfl rfl fun hwf Q hQ => ?_
  obtain ⟨l1, l2⟩ := light_le hl
  have hr := get_lt hb
  obtain ⟨p, hpn, h1, h2⟩ := sheet_both k W H n x y d0 d1 d2 A
  refine AW.seq_k fun K hK => ?_
  refine AW.region (by decide) ?_
  simp only [push_cast, Nat.reduceAdd, Nat.reduceMul, Nat.reduceSub, Nat.reduceLeDiff, Nat.reduceLT, Nat.reduceEqDiff, Nat.reduceBEq, Nat.reduceBNe, Nat.reduceMod, Nat.reduceDiv, Int.reduceLE, Int.reduceLT, Int.reduceToNat, Int.reduceAdd, Int.reduceSub, Int.reduceMul, Int.reduceNeg, Int.reduceEq, Int.reduceBEq, Int.reduceBNe, ↓reduceIte, reduceCtorEq, String.reduceBNe, String.reduceEq, reduceDIte, Nat.reducePow, hb, lk_old hb, hl, PE.ret, PE.pic, h2k]
  refine Thn_n ?_
  refine hK _ _ ?_
  clear hK K
  refine AW.seq_k fun K hK => ?_
  refine AW.seq_k fun K hK => ?_
  refine AW.region (by decide) ?_
  simp only [push_cast, Nat.reduceAdd, Nat.reduceMul, Nat.reduceSub, Nat.reduceLeDiff, Nat.reduceLT, Nat.reduceEqDiff, Nat.reduceBEq, Nat.reduceBNe, Nat.reduceMod, Nat.reduceDiv, Int.reduceLE, Int.reduceLT, Int.reduceToNat, Int.reduceAdd, Int.reduceSub, Int.reduceMul, Int.reduceNeg, Int.reduceEq, Int.reduceBEq, Int.reduceBNe, ↓reduceIte, reduceCtorEq, String.reduceBNe, String.reduceEq, reduceDIte, Nat.reducePow, hb, lk_old hb, hl, PE.ret, PE.pic, h2k]
  refine CThen.by (light_c r 0 k W H rr n _ .ro 3 (by simp only [push_cast, Nat.reduceAdd, Nat.reduceMul, Nat.reduceSub, Nat.reduceLeDiff, Nat.reduceLT, Nat.reduceEqDiff, Nat.reduceBEq, Nat.reduceBNe, Nat.reduceMod, Nat.reduceDiv, Int.reduceLE, Int.reduceLT, Int.reduceToNat, Int.reduceAdd, Int.reduceSub, Int.reduceMul, Int.reduceNeg, Int.reduceEq, Int.reduceBEq, Int.reduceBNe, ↓reduceIte, reduceCtorEq, String.reduceBNe, String.reduceEq, reduceDIte, Nat.reducePow, hb, lk_old hb]) hk) ?_
  simp only [push_cast, Nat.reduceAdd, Nat.reduceMul, Nat.reduceSub, Nat.reduceLeDiff, Nat.reduceLT, Nat.reduceEqDiff, Nat.reduceBEq, Nat.reduceBNe, Nat.reduceMod, Nat.reduceDiv, Int.reduceLE, Int.reduceLT, Int.reduceToNat, Int.reduceAdd, Int.reduceSub, Int.reduceMul, Int.reduceNeg, Int.reduceEq, Int.reduceBEq, Int.reduceBNe, ↓reduceIte, reduceCtorEq, String.reduceBNe, String.reduceEq, reduceDIte, Nat.reducePow, hb, lk_old hb, hl, PE.ret, PE.pic, h2k]
  refine Thn_n ?_
  refine hK _ _ ?_
  clear hK K
  refine AW.cond_f rfl ?_
  refine AW.skip ?_
  refine Thn_n ?_
  refine hK _ _ ?_
  clear hK K
  refine AW.seq_k fun K hK => ?_
  refine AW.region (by decide) ?_
  simp only [push_cast, Nat.reduceAdd, Nat.reduceMul, Nat.reduceSub, Nat.reduceLeDiff, Nat.reduceLT, Nat.reduceEqDiff, Nat.reduceBEq, Nat.reduceBNe, Nat.reduceMod, Nat.reduceDiv, Int.reduceLE, Int.reduceLT, Int.reduceToNat, Int.reduceAdd, Int.reduceSub, Int.reduceMul, Int.reduceNeg, Int.reduceEq, Int.reduceBEq, Int.reduceBNe, ↓reduceIte, reduceCtorEq, String.reduceBNe, String.reduceEq, reduceDIte, Nat.reducePow, hb, lk_old hb, hl, PE.ret, PE.pic, h2k]
  refine Thn_n ?_
  refine hK _ _ ?_
  clear hK K
  refine AW.seq_k fun K hK => ?_
  refine AW.seq_k fun K hK => ?_
  refine AW.region (by decide) ?_
  simp only [push_cast, Nat.reduceAdd, Nat.reduceMul, Nat.reduceSub, Nat.reduceLeDiff, Nat.reduceLT, Nat.reduceEqDiff, Nat.reduceBEq, Nat.reduceBNe, Nat.reduceMod, Nat.reduceDiv, Int.reduceLE, Int.reduceLT, Int.reduceToNat, Int.reduceAdd, Int.reduceSub, Int.reduceMul, Int.reduceNeg, Int.reduceEq, Int.reduceBEq, Int.reduceBNe, ↓reduceIte, reduceCtorEq, String.reduceBNe, String.reduceEq, reduceDIte, Nat.reducePow, hb, lk_old hb, hl, PE.ret, PE.pic, h2k]
  refine Thn_n ?_
  refine hK _ _ ?_
  clear hK K
  refine AW.block ?_
  refine AW.nilTm 33 3 9 rfl ?_
  try simp only [push_cast, Nat.reduceAdd, Nat.reduceMul, Nat.reduceSub, Nat.reduceLeDiff, Nat.reduceLT, Nat.reduceEqDiff, Nat.reduceBEq, Nat.reduceBNe, Nat.reduceMod, Nat.reduceDiv, Int.reduceLE, Int.reduceLT, Int.reduceToNat, Int.reduceAdd, Int.reduceSub, Int.reduceMul, Int.reduceNeg, Int.reduceEq, Int.reduceBEq, Int.reduceBNe, ↓reduceIte, reduceCtorEq, String.reduceBNe, String.reduceEq, reduceDIte, Nat.reducePow, hb, lk_old hb, hl, PE.ret, PE.pic, h2k]
  refine AW.loopE0 [0, 1, 3, 6, 24, 25] (fun i => i ≤ k) (fun i => [(9, .one (.sl (m.length + 1) i 0 i)), (26, .one (.int .i64 (i : Int)))]) (fun i => [(m.length + 1, ⟨.grow, 33, i, 3, pl i W H (fun j => m.length + (3 * j + 3)) n⟩)]) (fun i => inE m.length W H rr n A i) (fun i => k - i) 0 (by omega) ?_ ?_ ?_ fun i hi7 => ?_
  · first | rfl | (simp only [Keeps, Tm.get_cons, Nat.reduceEqDiff, ↓reduceIte, if_true, if_false, ite_true, ite_false, true_and, and_true, and_self, reduceCtorEq, pl, inE] <;> rfl)
  · first | rfl | (simp only [setAll, push_cast, Nat.reduceAdd, Nat.reduceMul, Nat.reduceSub, Nat.reduceLeDiff, Nat.reduceLT, Nat.reduceEqDiff, Nat.reduceBEq, Nat.reduceBNe, Nat.reduceMod, Nat.reduceDiv, Int.reduceLE, Int.reduceLT, Int.reduceToNat, Int.reduceAdd, Int.reduceSub, Int.reduceMul, Int.reduceNeg, Int.reduceEq, Int.reduceBEq, Int.reduceBNe, ↓reduceIte, reduceCtorEq, String.reduceBNe, String.reduceEq, reduceDIte, Nat.reducePow, hb, lk_old hb, hl, PE.ret, PE.pic, h2k, pl, inE] <;> rfl)
  · exact fun i j _ _ h => by simp only [inE_len]; omega
  try simp only [keepL, setAll, push_cast, Nat.reduceAdd, Nat.reduceMul, Nat.reduceSub, Nat.reduceLeDiff, Nat.reduceLT, Nat.reduceEqDiff, Nat.reduceBEq, Nat.reduceBNe, Nat.reduceMod, Nat.reduceDiv, Int.reduceLE, Int.reduceLT, Int.reduceToNat, Int.reduceAdd, Int.reduceSub, Int.reduceMul, Int.reduceNeg, Int.reduceEq, Int.reduceBEq, Int.reduceBNe, ↓reduceIte, reduceCtorEq, String.reduceBNe, String.reduceEq, reduceDIte, Nat.reducePow, hb, lk_old hb, hl, PE.ret, PE.pic, h2k]
  refine AW.seq_k fun K hK => ?_
  refine AW.region (by decide) ?_
  simp only [push_cast, Nat.reduceAdd, Nat.reduceMul, Nat.reduceSub, Nat.reduceLeDiff, Nat.reduceLT, Nat.reduceEqDiff, Nat.reduceBEq, Nat.reduceBNe, Nat.reduceMod, Nat.reduceDiv, Int.reduceLE, Int.reduceLT, Int.reduceToNat, Int.reduceAdd, Int.reduceSub, Int.reduceMul, Int.reduceNeg, Int.reduceEq, Int.reduceBEq, Int.reduceBNe, ↓reduceIte, reduceCtorEq, String.reduceBNe, String.reduceEq, reduceDIte, Nat.reducePow, hb, lk_old hb, hl, PE.ret, PE.pic, h2k]
  refine Thn_n ?_
  refine hK _ _ ?_
  clear hK K
  refine AW.seq_k fun K hK => ?_
  refine AW.cond rfl (fun h27 => ?_) (fun h27 => ?_)
  · have hlt : i < k := by have := of_decide_eq_true h27; omega
    have c1 : (i : Int) < (k : Int) := by omega
    have c2 : (0 : Int) ≤ (i : Int) := by omega
    obtain ⟨g0, g1, g2⟩ := pl_get (W := W) (H := H) (r := rr) (n := n) hlt
    have hni := l1 i hlt
    have hEl := inE_len m.length W H rr n A i
    have hpl : (pl i W H (fun j => m.length + (3 * j + 3)) n).length = i * 3 := pl_len _ _ _ _ _
    have q1 : i * 3 = i * 3 := rfl
    have q2 : i + 1 ≤ 140737488355328 := by omega
    have q3 : (i + 1) * 40 ≤ 140737488355328 := by omega
    have hE0 : ∀ (l : AMem) (c : Nat), (inE m.length W H rr n A i ++ l)[3 * i + c]? = l[c]? := fun l c => by rw [List.getElem?_append_right (by omega), hEl]; congr 1; omega
    have hE1 : ∀ (l : AMem), (inE m.length W H rr n A i ++ l)[3 * i]? = l[0]? := fun l => hE0 l 0
    have hE2 : ∀ (l : AMem) (c : Nat) (b : Blk), (inE m.length W H rr n A i ++ l).set (3 * i + c) b = inE m.length W H rr n A i ++ l.set c b := fun l c b => by rw [List.set_append_right _ _ (by omega), hEl]; congr 2; omega
    have hE3 : ∀ (l : AMem) (b : Blk), (inE m.length W H rr n A i ++ l).set (3 * i) b = inE m.length W H rr n A i ++ l.set 0 b := fun l b => hE2 l 0 b
    refine AW.skip ?_
    refine Thn_n ?_
    refine hK _ _ ?_
    clear hK K
    refine AW.seq_k fun K hK => ?_
    refine AW.block ?_
    refine AW.seq_k fun K hK => ?_
    refine AW.region (by decide) ?_
    simp only [push_cast, Nat.reduceAdd, Nat.reduceMul, Nat.reduceSub, Nat.reduceLeDiff, Nat.reduceLT, Nat.reduceEqDiff, Nat.reduceBEq, Nat.reduceBNe, Nat.reduceMod, Nat.reduceDiv, Int.reduceLE, Int.reduceLT, Int.reduceToNat, Int.reduceAdd, Int.reduceSub, Int.reduceMul, Int.reduceNeg, Int.reduceEq, Int.reduceBEq, Int.reduceBNe, ↓reduceIte, reduceCtorEq, String.reduceBNe, String.reduceEq, reduceDIte, Nat.reducePow, hb, lk_old hb, hl, PE.ret, PE.pic, h2k, c1, c2, g0, g1, g2, hEl, hpl, q2, q3, hE0, hE1, hE2, hE3]
    refine Thn_n ?_
    refine hK _ _ ?_
    clear hK K
    refine AW.region (by decide) ?_
    simp only [push_cast, Nat.reduceAdd, Nat.reduceMul, Nat.reduceSub, Nat.reduceLeDiff, Nat.reduceLT, Nat.reduceEqDiff, Nat.reduceBEq, Nat.reduceBNe, Nat.reduceMod, Nat.reduceDiv, Int.reduceLE, Int.reduceLT, Int.reduceToNat, Int.reduceAdd, Int.reduceSub, Int.reduceMul, Int.reduceNeg, Int.reduceEq, Int.reduceBEq, Int.reduceBNe, ↓reduceIte, reduceCtorEq, String.reduceBNe, String.reduceEq, reduceDIte, Nat.reducePow, hb, lk_old hb, hl, PE.ret, PE.pic, h2k, c1, c2, g0, g1, g2, hEl, hpl, q2, q3, hE0, hE1, hE2, hE3]
    refine CThen.by (to_c _ _ _ _ _ (A i) _ ((hp i hlt).p.mono _) (by omega)) ?_
    simp only [push_cast, Nat.reduceAdd, Nat.reduceMul, Nat.reduceSub, Nat.reduceLeDiff, Nat.reduceLT, Nat.reduceEqDiff, Nat.reduceBEq, Nat.reduceBNe, Nat.reduceMod, Nat.reduceDiv, Int.reduceLE, Int.reduceLT, Int.reduceToNat, Int.reduceAdd, Int.reduceSub, Int.reduceMul, Int.reduceNeg, Int.reduceEq, Int.reduceBEq, Int.reduceBNe, ↓reduceIte, reduceCtorEq, String.reduceBNe, String.reduceEq, reduceDIte, Nat.reducePow, hb, lk_old hb, hl, PE.ret, PE.pic, h2k, c1, c2, g0, g1, g2, hEl, hpl, q2, q3, hE0, hE1, hE2, hE3]
    refine InB_n ?_
    refine Thn_n ?_
    refine hK _ _ ?_
    clear hK K
    refine AW.region (by decide) ?_
    simp only [push_cast, Nat.reduceAdd, Nat.reduceMul, Nat.reduceSub, Nat.reduceLeDiff, Nat.reduceLT, Nat.reduceEqDiff, Nat.reduceBEq, Nat.reduceBNe, Nat.reduceMod, Nat.reduceDiv, Int.reduceLE, Int.reduceLT, Int.reduceToNat, Int.reduceAdd, Int.reduceSub, Int.reduceMul, Int.reduceNeg, Int.reduceEq, Int.reduceBEq, Int.reduceBNe, ↓reduceIte, reduceCtorEq, String.reduceBNe, String.reduceEq, reduceDIte, Nat.reducePow, hb, lk_old hb, hl, PE.ret, PE.pic, h2k, c1, c2, g0, g1, g2, hEl, hpl, q2, q3, hE0, hE1, hE2, hE3]
    refine Thn_n ?_
    have hwi : IntKind.i64.wrap ((i:Int)+1) = (i:Int)+1 := by rw [IntKind.wrap_i64]; omega
    refine ⟨i + 1, by omega, by omega, ?_⟩
    try simp only [keepL, setAll, push_cast, Nat.reduceAdd, Nat.reduceMul, Nat.reduceSub, Nat.reduceLeDiff, Nat.reduceLT, Nat.reduceEqDiff, Nat.reduceBEq, Nat.reduceBNe, Nat.reduceMod, Nat.reduceDiv, Int.reduceLE, Int.reduceLT, Int.reduceToNat, Int.reduceAdd, Int.reduceSub, Int.reduceMul, Int.reduceNeg, Int.reduceEq, Int.reduceBEq, Int.reduceBNe, ↓reduceIte, reduceCtorEq, String.reduceBNe, String.reduceEq, reduceDIte, Nat.reducePow, hb, lk_old hb, hl, PE.ret, PE.pic, h2k, c1, c2, g0, g1, g2, hEl, hpl, q2, q3, hE0, hE1, hE2, hE3, hwi, pl, inE]
    exact Weak.same (by simp only [Keeps, Tm.get_cons, Nat.reduceEqDiff, ↓reduceIte, if_true, if_false, ite_true, ite_false, true_and, and_true, and_self, reduceCtorEq, hwi, pl, inE]) (by first | rfl | simp only [Keeps, Tm.get_cons, Nat.reduceEqDiff, ↓reduceIte, if_true, if_false, ite_true, ite_false, true_and, and_true, and_self, reduceCtorEq, hwi, pl, inE])
  · have hie : k = i := by have := of_decide_eq_false h27; omega
    subst hie
    have hEl := inE_len m.length W H rr n A k
    have hrows : ∀ b0 b1 ex j, j < k → PicAt (m ++ (b0 :: b1 :: (inE m.length W H rr n A k ++ ex))) (m.length + (3 * j + 3)) 0 (n j) (A j) := fun b0 b1 ex j hj => ⟨.grow, 3, by
      have e := inE_get m.length W H rr n A j k hj
      rw [lk_app, show 3 * j + 3 = (3 * j + 1) + 1 + 1 by omega, List.getElem?_cons_succ, List.getElem?_cons_succ, List.getElem?_append_left (List.getElem?_eq_some_iff.1 e).1]; exact e⟩
    have hrows0 : ∀ b0 b1 j, j < k → PicAt (m ++ (b0 :: b1 :: inE m.length W H rr n A k)) (m.length + (3 * j + 3)) 0 (n j) (A j) := fun b0 b1 j hj => by
      have := hrows b0 b1 [] j hj
      rwa [List.append_nil] at this
    have hE0 : ∀ (l : AMem) (c : Nat), (inE m.length W H rr n A k ++ l)[3 * k + c]? = l[c]? := fun l c => by rw [List.getElem?_append_right (by omega), hEl]; congr 1; omega
    have hE1 : ∀ (l : AMem), (inE m.length W H rr n A k ++ l)[3 * k]? = l[0]? := fun l => hE0 l 0
    have hE2 : ∀ (l : AMem) (c : Nat) (b : Blk), (inE m.length W H rr n A k ++ l).set (3 * k + c) b = inE m.length W H rr n A k ++ l.set c b := fun l c b => by rw [List.set_append_right _ _ (by omega), hEl]; congr 2; omega
    have hE3 : ∀ (l : AMem) (b : Blk), (inE m.length W H rr n A k ++ l).set (3 * k) b = inE m.length W H rr n A k ++ l.set 0 b := fun l b => hE2 l 0 b
    refine AW.exit ?_
    refine Thn_e ?_
    clear hK K
    refine Thn_e ?_
    refine InB_here ?_
    refine Thn_n ?_
    refine hK _ _ ?_
    clear hK K
    refine AW.seq_k fun K hK => ?_
    refine AW.region (by decide) ?_
    simp only [push_cast, Nat.reduceAdd, Nat.reduceMul, Nat.reduceSub, Nat.reduceLeDiff, Nat.reduceLT, Nat.reduceEqDiff, Nat.reduceBEq, Nat.reduceBNe, Nat.reduceMod, Nat.reduceDiv, Int.reduceLE, Int.reduceLT, Int.reduceToNat, Int.reduceAdd, Int.reduceSub, Int.reduceMul, Int.reduceNeg, Int.reduceEq, Int.reduceBEq, Int.reduceBNe, ↓reduceIte, reduceCtorEq, String.reduceBNe, String.reduceEq, reduceDIte, Nat.reducePow, hb, lk_old hb, hl, PE.ret, PE.pic, h2k, hEl, hE0, hE1, hE2, hE3]
    refine CThen.by (h1 _ _ (fun j => m.length + (3 * j + 3)) .grow 3 _ (by simp only [push_cast, Nat.reduceAdd, Nat.reduceMul, Nat.reduceSub, Nat.reduceLeDiff, Nat.reduceLT, Nat.reduceEqDiff, Nat.reduceBEq, Nat.reduceBNe, Nat.reduceMod, Nat.reduceDiv, Int.reduceLE, Int.reduceLT, Int.reduceToNat, Int.reduceAdd, Int.reduceSub, Int.reduceMul, Int.reduceNeg, Int.reduceEq, Int.reduceBEq, Int.reduceBNe, ↓reduceIte, reduceCtorEq, String.reduceBNe, String.reduceEq, reduceDIte, Nat.reducePow]; first | done | rfl) (fun j hj => hrows0 _ _ j hj)) ?_
    simp only [push_cast, Nat.reduceAdd, Nat.reduceMul, Nat.reduceSub, Nat.reduceLeDiff, Nat.reduceLT, Nat.reduceEqDiff, Nat.reduceBEq, Nat.reduceBNe, Nat.reduceMod, Nat.reduceDiv, Int.reduceLE, Int.reduceLT, Int.reduceToNat, Int.reduceAdd, Int.reduceSub, Int.reduceMul, Int.reduceNeg, Int.reduceEq, Int.reduceBEq, Int.reduceBNe, ↓reduceIte, reduceCtorEq, String.reduceBNe, String.reduceEq, reduceDIte, Nat.reducePow, hb, lk_old hb, hl, PE.ret, PE.pic, h2k, hEl, hE0, hE1, hE2, hE3]
    refine Thn_n ?_
    refine hK _ _ ?_
    clear hK K
    refine AW.seq_k fun K hK => ?_
    refine AW.region (by decide) ?_
    simp only [push_cast, Nat.reduceAdd, Nat.reduceMul, Nat.reduceSub, Nat.reduceLeDiff, Nat.reduceLT, Nat.reduceEqDiff, Nat.reduceBEq, Nat.reduceBNe, Nat.reduceMod, Nat.reduceDiv, Int.reduceLE, Int.reduceLT, Int.reduceToNat, Int.reduceAdd, Int.reduceSub, Int.reduceMul, Int.reduceNeg, Int.reduceEq, Int.reduceBEq, Int.reduceBNe, ↓reduceIte, reduceCtorEq, String.reduceBNe, String.reduceEq, reduceDIte, Nat.reducePow, hb, lk_old hb, hl, PE.ret, PE.pic, h2k, hEl, hE0, hE1, hE2, hE3]
    refine CThen.by (h2 _ _ rr .ro 3 _ (lk_old hb _) (fun j hj => (hp j hj).p.mono _)) ?_
    simp only [push_cast, Nat.reduceAdd, Nat.reduceMul, Nat.reduceSub, Nat.reduceLeDiff, Nat.reduceLT, Nat.reduceEqDiff, Nat.reduceBEq, Nat.reduceBNe, Nat.reduceMod, Nat.reduceDiv, Int.reduceLE, Int.reduceLT, Int.reduceToNat, Int.reduceAdd, Int.reduceSub, Int.reduceMul, Int.reduceNeg, Int.reduceEq, Int.reduceBEq, Int.reduceBNe, ↓reduceIte, reduceCtorEq, String.reduceBNe, String.reduceEq, reduceDIte, Nat.reducePow, hb, lk_old hb, hl, PE.ret, PE.pic, h2k, hEl, hE0, hE1, hE2, hE3]
    refine Thn_n ?_
    refine hK _ _ ?_
    clear hK K
    refine AW.seq_k fun K hK => ?_
    refine AW.seq_k fun K hK => ?_
    refine AW.region (by decide) ?_
    simp only [push_cast, Nat.reduceAdd, Nat.reduceMul, Nat.reduceSub, Nat.reduceLeDiff, Nat.reduceLT, Nat.reduceEqDiff, Nat.reduceBEq, Nat.reduceBNe, Nat.reduceMod, Nat.reduceDiv, Int.reduceLE, Int.reduceLT, Int.reduceToNat, Int.reduceAdd, Int.reduceSub, Int.reduceMul, Int.reduceNeg, Int.reduceEq, Int.reduceBEq, Int.reduceBNe, ↓reduceIte, reduceCtorEq, String.reduceBNe, String.reduceEq, reduceDIte, Nat.reducePow, hb, lk_old hb, hl, PE.ret, PE.pic, h2k, hEl, hE0, hE1, hE2, hE3]
    refine CThen.by (is_c _ _ _ _ _ _ _ _ p.G p.G _ ⟨.grow, 3, by simp only [push_cast, Nat.reduceAdd, Nat.reduceMul, Nat.reduceSub, Nat.reduceLeDiff, Nat.reduceLT, Nat.reduceEqDiff, Nat.reduceBEq, Nat.reduceBNe, Nat.reduceMod, Nat.reduceDiv, Int.reduceLE, Int.reduceLT, Int.reduceToNat, Int.reduceAdd, Int.reduceSub, Int.reduceMul, Int.reduceNeg, Int.reduceEq, Int.reduceBEq, Int.reduceBNe, ↓reduceIte, reduceCtorEq, String.reduceBNe, String.reduceEq, reduceDIte, Nat.reducePow, PE.blk, hE0, hE1]; first | done | rfl⟩ ⟨.grow, 3, by simp only [push_cast, Nat.reduceAdd, Nat.reduceMul, Nat.reduceSub, Nat.reduceLeDiff, Nat.reduceLT, Nat.reduceEqDiff, Nat.reduceBEq, Nat.reduceBNe, Nat.reduceMod, Nat.reduceDiv, Int.reduceLE, Int.reduceLT, Int.reduceToNat, Int.reduceAdd, Int.reduceSub, Int.reduceMul, Int.reduceNeg, Int.reduceEq, Int.reduceBEq, Int.reduceBNe, ↓reduceIte, reduceCtorEq, String.reduceBNe, String.reduceEq, reduceDIte, Nat.reducePow, PE.blk, hE0, hE1]; first | done | rfl⟩ (fun _ _ _ _ => rfl) hpn) ?_
    simp only [push_cast, Nat.reduceAdd, Nat.reduceMul, Nat.reduceSub, Nat.reduceLeDiff, Nat.reduceLT, Nat.reduceEqDiff, Nat.reduceBEq, Nat.reduceBNe, Nat.reduceMod, Nat.reduceDiv, Int.reduceLE, Int.reduceLT, Int.reduceToNat, Int.reduceAdd, Int.reduceSub, Int.reduceMul, Int.reduceNeg, Int.reduceEq, Int.reduceBEq, Int.reduceBNe, ↓reduceIte, reduceCtorEq, String.reduceBNe, String.reduceEq, reduceDIte, Nat.reducePow, hb, lk_old hb, hl, PE.ret, PE.pic, h2k, hEl, hE0, hE1, hE2, hE3]
    refine Thn_n ?_
    refine hK _ _ ?_
    clear hK K
    refine AW.cond_f rfl ?_
    refine AW.skip ?_
    refine Thn_n ?_
    refine hK _ _ ?_
    clear hK K
    refine AW.seq_k fun K hK => ?_
    refine AW.seq_k fun K hK => ?_
    refine AW.region (by decide) ?_
    simp only [push_cast, Nat.reduceAdd, Nat.reduceMul, Nat.reduceSub, Nat.reduceLeDiff, Nat.reduceLT, Nat.reduceEqDiff, Nat.reduceBEq, Nat.reduceBNe, Nat.reduceMod, Nat.reduceDiv, Int.reduceLE, Int.reduceLT, Int.reduceToNat, Int.reduceAdd, Int.reduceSub, Int.reduceMul, Int.reduceNeg, Int.reduceEq, Int.reduceBEq, Int.reduceBNe, ↓reduceIte, reduceCtorEq, String.reduceBNe, String.reduceEq, reduceDIte, Nat.reducePow, hb, lk_old hb, hl, PE.ret, PE.pic, h2k, hEl, hE0, hE1, hE2, hE3]
    refine Thn_n ?_
    refine hK _ _ ?_
    clear hK K
    refine AW.cond_t rfl ?_
    refine AW.seq_k fun K hK => ?_
    refine AW.region (by decide) ?_
    simp only [push_cast, Nat.reduceAdd, Nat.reduceMul, Nat.reduceSub, Nat.reduceLeDiff, Nat.reduceLT, Nat.reduceEqDiff, Nat.reduceBEq, Nat.reduceBNe, Nat.reduceMod, Nat.reduceDiv, Int.reduceLE, Int.reduceLT, Int.reduceToNat, Int.reduceAdd, Int.reduceSub, Int.reduceMul, Int.reduceNeg, Int.reduceEq, Int.reduceBEq, Int.reduceBNe, ↓reduceIte, reduceCtorEq, String.reduceBNe, String.reduceEq, reduceDIte, Nat.reducePow, hb, lk_old hb, hl, PE.ret, PE.pic, h2k, hEl, hE0, hE1, hE2, hE3]
    refine CThen.by (awake_c _) ?_
    simp only [push_cast, Nat.reduceAdd, Nat.reduceMul, Nat.reduceSub, Nat.reduceLeDiff, Nat.reduceLT, Nat.reduceEqDiff, Nat.reduceBEq, Nat.reduceBNe, Nat.reduceMod, Nat.reduceDiv, Int.reduceLE, Int.reduceLT, Int.reduceToNat, Int.reduceAdd, Int.reduceSub, Int.reduceMul, Int.reduceNeg, Int.reduceEq, Int.reduceBEq, Int.reduceBNe, ↓reduceIte, reduceCtorEq, String.reduceBNe, String.reduceEq, reduceDIte, Nat.reducePow, hb, lk_old hb, hl, PE.ret, PE.pic, h2k, hEl, hE0, hE1, hE2, hE3]
    refine Thn_n ?_
    refine hK _ _ ?_
    clear hK K
    refine AW.ret ?_
    refine Thn_r ?_
    refine hQ _ _ _ ?_
    first | refine RetP.drop0 (Or.inr rfl) ?_ ?_ hwf | refine RetP.drop (Or.inr rfl) ?_ ?_ hwf
    · simp only [resA, resOne, resTv, AV.tv, push_cast, Nat.reduceAdd, Nat.reduceMul, Nat.reduceSub, Nat.reduceLeDiff, Nat.reduceLT, Nat.reduceEqDiff, Nat.reduceBEq, Nat.reduceBNe, Nat.reduceMod, Nat.reduceDiv, Int.reduceLE, Int.reduceLT, Int.reduceToNat, Int.reduceAdd, Int.reduceSub, Int.reduceMul, Int.reduceNeg, Int.reduceEq, Int.reduceBEq, Int.reduceBNe, ↓reduceIte, reduceCtorEq, String.reduceBNe, String.reduceEq, reduceDIte, Nat.reducePow, hb, lk_old hb, hl, PE.ret, PE.pic, h2k, hEl, hE0, hE1, hE2, hE3]
    · rfl
theorem sheets_more (x y d0 d1 d2 : Int) (r k : Nat) (W H : Nat → Int) (rr n : Nat → Nat) (A : Nat → Nat → Nat → Int) (m : AMem) (hb : m[r]? = some ⟨.ro, 29, 0, 3, pl k W H rr n⟩) (hp : ∀ j, j < k → PicIn m (rr j) (n j) (A j)) (hk : k ≤ 1048576) (hl : lightB n k = true) (h2k : ¬ ((k : Int) < 2)) : Ctr Try.prog 3 [.one (.int .i64 x), .one (.int .i64 y), .agg [.int .u8 d0, .int .u8 d1, .int .u8 d2], .one (.sl r 0 0 k)] m (.one (.bool true)) m := by
  refine Ctr.enter Try.func3 rfl (by decide) (rs := [.tmp 8]) (nt := 90) rfl rfl fun hwf Q hQ => ?_
  obtain ⟨l1, l2⟩ := light_le hl
  have hr := get_lt hb
  obtain ⟨p, hpn, h1, h2⟩ := sheet_both k W H n x y d0 d1 d2 A
  have k0 : (0 : Int) < (k : Int) := by omega
  have k1 : (1 : Int) < (k : Int) := by omega
  obtain ⟨z0, z1, z2⟩ := pl_get (W := W) (H := H) (r := rr) (n := n) (show 0 < k by omega)
  obtain ⟨z3, z4, z5⟩ := pl_get (W := W) (H := H) (r := rr) (n := n) (show 1 < k by omega)
  obtain ⟨w0, w1, w2⟩ := pl_get (W := W) (H := H) (r := fun j => m.length + (3 * j + 3)) (n := n) (show 0 < k by omega)
  obtain ⟨w3, w4, w5⟩ := pl_get (W := W) (H := H) (r := fun j => m.length + (3 * j + 3)) (n := n) (show 1 < k by omega)
  simp only [Nat.zero_mul, Nat.one_mul, Nat.zero_add, Nat.mul_zero, Nat.mul_one, Nat.reduceAdd] at z0 z1 z2 z3 z4 z5 w0 w1 w2 w3 w4 w5
  have hap := apartF_n (W 0) (H 0) (n 0) (A 0) (W 1) (H 1) (n 1) (A 1) (by have := l1 0 (by omega); omega)
  refine AW.seq_k fun K hK => ?_
  refine AW.region (by decide) ?_
  simp only [push_cast, Nat.reduceAdd, Nat.reduceMul, Nat.reduceSub, Nat.reduceLeDiff, Nat.reduceLT, Nat.reduceEqDiff, Nat.reduceBEq, Nat.reduceBNe, Nat.reduceMod, Nat.reduceDiv, Int.reduceLE, Int.reduceLT, Int.reduceToNat, Int.reduceAdd, Int.reduceSub, Int.reduceMul, Int.reduceNeg, Int.reduceEq, Int.reduceBEq, Int.reduceBNe, ↓reduceIte, reduceCtorEq, String.reduceBNe, String.reduceEq, reduceDIte, Nat.reducePow, hb, lk_old hb, hl, PE.ret, PE.pic, h2k, k0, k1, z0, z1, z2, z3, z4, z5, w0, w1, w2, w3, w4, w5]
  refine Thn_n ?_
  refine hK _ _ ?_
  clear hK K
  refine AW.seq_k fun K hK => ?_
  refine AW.seq_k fun K hK => ?_
  refine AW.region (by decide) ?_
  simp only [push_cast, Nat.reduceAdd, Nat.reduceMul, Nat.reduceSub, Nat.reduceLeDiff, Nat.reduceLT, Nat.reduceEqDiff, Nat.reduceBEq, Nat.reduceBNe, Nat.reduceMod, Nat.reduceDiv, Int.reduceLE, Int.reduceLT, Int.reduceToNat, Int.reduceAdd, Int.reduceSub, Int.reduceMul, Int.reduceNeg, Int.reduceEq, Int.reduceBEq, Int.reduceBNe, ↓reduceIte, reduceCtorEq, String.reduceBNe, String.reduceEq, reduceDIte, Nat.reducePow, hb, lk_old hb, hl, PE.ret, PE.pic, h2k, k0, k1, z0, z1, z2, z3, z4, z5, w0, w1, w2, w3, w4, w5]
  refine CThen.by (light_c r 0 k W H rr n _ .ro 3 (by simp only [push_cast, Nat.reduceAdd, Nat.reduceMul, Nat.reduceSub, Nat.reduceLeDiff, Nat.reduceLT, Nat.reduceEqDiff, Nat.reduceBEq, Nat.reduceBNe, Nat.reduceMod, Nat.reduceDiv, Int.reduceLE, Int.reduceLT, Int.reduceToNat, Int.reduceAdd, Int.reduceSub, Int.reduceMul, Int.reduceNeg, Int.reduceEq, Int.reduceBEq, Int.reduceBNe, ↓reduceIte, reduceCtorEq, String.reduceBNe, String.reduceEq, reduceDIte, Nat.reducePow, hb, lk_old hb]) hk) ?_
  simp only [push_cast, Nat.reduceAdd, Nat.reduceMul, Nat.reduceSub, Nat.reduceLeDiff, Nat.reduceLT, Nat.reduceEqDiff, Nat.reduceBEq, Nat.reduceBNe, Nat.reduceMod, Nat.reduceDiv, Int.reduceLE, Int.reduceLT, Int.reduceToNat, Int.reduceAdd, Int.reduceSub, Int.reduceMul, Int.reduceNeg, Int.reduceEq, Int.reduceBEq, Int.reduceBNe, ↓reduceIte, reduceCtorEq, String.reduceBNe, String.reduceEq, reduceDIte, Nat.reducePow, hb, lk_old hb, hl, PE.ret, PE.pic, h2k, k0, k1, z0, z1, z2, z3, z4, z5, w0, w1, w2, w3, w4, w5]
  refine Thn_n ?_
  refine hK _ _ ?_
  clear hK K
  refine AW.cond_f rfl ?_
  refine AW.skip ?_
  refine Thn_n ?_
  refine hK _ _ ?_
  clear hK K
  refine AW.seq_k fun K hK => ?_
  refine AW.region (by decide) ?_
  simp only [push_cast, Nat.reduceAdd, Nat.reduceMul, Nat.reduceSub, Nat.reduceLeDiff, Nat.reduceLT, Nat.reduceEqDiff, Nat.reduceBEq, Nat.reduceBNe, Nat.reduceMod, Nat.reduceDiv, Int.reduceLE, Int.reduceLT, Int.reduceToNat, Int.reduceAdd, Int.reduceSub, Int.reduceMul, Int.reduceNeg, Int.reduceEq, Int.reduceBEq, Int.reduceBNe, ↓reduceIte, reduceCtorEq, String.reduceBNe, String.reduceEq, reduceDIte, Nat.reducePow, hb, lk_old hb, hl, PE.ret, PE.pic, h2k, k0, k1, z0, z1, z2, z3, z4, z5, w0, w1, w2, w3, w4, w5]
  refine Thn_n ?_
  refine hK _ _ ?_
  clear hK K
  refine AW.seq_k fun K hK => ?_
  refine AW.seq_k fun K hK => ?_
  refine AW.region (by decide) ?_
  simp only [push_cast, Nat.reduceAdd, Nat.reduceMul, Nat.reduceSub, Nat.reduceLeDiff, Nat.reduceLT, Nat.reduceEqDiff, Nat.reduceBEq, Nat.reduceBNe, Nat.reduceMod, Nat.reduceDiv, Int.reduceLE, Int.reduceLT, Int.reduceToNat, Int.reduceAdd, Int.reduceSub, Int.reduceMul, Int.reduceNeg, Int.reduceEq, Int.reduceBEq, Int.reduceBNe, ↓reduceIte, reduceCtorEq, String.reduceBNe, String.reduceEq, reduceDIte, Nat.reducePow, hb, lk_old hb, hl, PE.ret, PE.pic, h2k, k0, k1, z0, z1, z2, z3, z4, z5, w0, w1, w2, w3, w4, w5]
  refine Thn_n ?_
  refine hK _ _ ?_
  clear hK K
  refine AW.block ?_
  refine AW.nilTm 33 3 9 rfl ?_
  try simp only [push_cast, Nat.reduceAdd, Nat.reduceMul, Nat.reduceSub, Nat.reduceLeDiff, Nat.reduceLT, Nat.reduceEqDiff, Nat.reduceBEq, Nat.reduceBNe, Nat.reduceMod, Nat.reduceDiv, Int.reduceLE, Int.reduceLT, Int.reduceToNat, Int.reduceAdd, Int.reduceSub, Int.reduceMul, Int.reduceNeg, Int.reduceEq, Int.reduceBEq, Int.reduceBNe, ↓reduceIte, reduceCtorEq, String.reduceBNe, String.reduceEq, reduceDIte, Nat.reducePow, hb, lk_old hb, hl, PE.ret, PE.pic, h2k, k0, k1, z0, z1, z2, z3, z4, z5, w0, w1, w2, w3, w4, w5]
  refine AW.loopE0 [0, 1, 3, 6, 24, 25] (fun i => i ≤ k) (fun i => [(9, .one (.sl (m.length + 1) i 0 i)), (26, .one (.int .i64 (i : Int)))]) (fun i => [(m.length + 1, ⟨.grow, 33, i, 3, pl i W H (fun j => m.length + (3 * j + 3)) n⟩)]) (fun i => inE m.length W H rr n A i) (fun i => k - i) 0 (by omega) ?_ ?_ ?_ fun i hi7 => ?_
  · first | rfl | (simp only [Keeps, Tm.get_cons, Nat.reduceEqDiff, ↓reduceIte, if_true, if_false, ite_true, ite_false, true_and, and_true, and_self, reduceCtorEq, pl, inE] <;> rfl)
  · first | rfl | (simp only [setAll, push_cast, Nat.reduceAdd, Nat.reduceMul, Nat.reduceSub, Nat.reduceLeDiff, Nat.reduceLT, Nat.reduceEqDiff, Nat.reduceBEq, Nat.reduceBNe, Nat.reduceMod, Nat.reduceDiv, Int.reduceLE, Int.reduceLT, Int.reduceToNat, Int.reduceAdd, Int.reduceSub, Int.reduceMul, Int.reduceNeg, Int.reduceEq, Int.reduceBEq, Int.reduceBNe, ↓reduceIte, reduceCtorEq, String.reduceBNe, String.reduceEq, reduceDIte, Nat.reducePow, hb, lk_old hb, hl, PE.ret, PE.pic, h2k, k0, k1, z0, z1, z2, z3, z4, z5, w0, w1, w2, w3, w4, w5, pl, inE] <;> rfl)
  · exact fun i j _ _ h => by simp only [inE_len]; omega
  try simp only [keepL, setAll, push_cast, Nat.reduceAdd, Nat.reduceMul, Nat.reduceSub, Nat.reduceLeDiff, Nat.reduceLT, Nat.reduceEqDiff, Nat.reduceBEq, Nat.reduceBNe, Nat.reduceMod, Nat.reduceDiv, Int.reduceLE, Int.reduceLT, Int.reduceToNat, Int.reduceAdd, Int.reduceSub, Int.reduceMul, Int.reduceNeg, Int.reduceEq, Int.reduceBEq, Int.reduceBNe, ↓reduceIte, reduceCtorEq, String.reduceBNe, String.reduceEq, reduceDIte, Nat.reducePow, hb, lk_old hb, hl, PE.ret, PE.pic, h2k, k0, k1, z0, z1, z2, z3, z4, z5, w0, w1, w2, w3, w4, w5]
  refine AW.seq_k fun K hK => ?_
  refine AW.region (by decide) ?_
  simp only [push_cast, Nat.reduceAdd, Nat.reduceMul, Nat.reduceSub, Nat.reduceLeDiff, Nat.reduceLT, Nat.reduceEqDiff, Nat.reduceBEq, Nat.reduceBNe, Nat.reduceMod, Nat.reduceDiv, Int.reduceLE, Int.reduceLT, Int.reduceToNat, Int.reduceAdd, Int.reduceSub, Int.reduceMul, Int.reduceNeg, Int.reduceEq, Int.reduceBEq, Int.reduceBNe, ↓reduceIte, reduceCtorEq, String.reduceBNe, String.reduceEq, reduceDIte, Nat.reducePow, hb, lk_old hb, hl, PE.ret, PE.pic, h2k, k0, k1, z0, z1, z2, z3, z4, z5, w0, w1, w2, w3, w4, w5]
  refine Thn_n ?_
  refine hK _ _ ?_
  clear hK K
  refine AW.seq_k fun K hK => ?_
  refine AW.cond rfl (fun h27 => ?_) (fun h27 => ?_)
  · have hlt : i < k := by have := of_decide_eq_true h27; omega
    have c1 : (i : Int) < (k : Int) := by omega
    have c2 : (0 : Int) ≤ (i : Int) := by omega
    obtain ⟨g0, g1, g2⟩ := pl_get (W := W) (H := H) (r := rr) (n := n) hlt
    have hni := l1 i hlt
    have hEl := inE_len m.length W H rr n A i
    have hpl : (pl i W H (fun j => m.length + (3 * j + 3)) n).length = i * 3 := pl_len _ _ _ _ _
    have q1 : i * 3 = i * 3 := rfl
    have q2 : i + 1 ≤ 140737488355328 := by omega
    have q3 : (i + 1) * 40 ≤ 140737488355328 := by omega
    have hE0 : ∀ (l : AMem) (c : Nat), (inE m.length W H rr n A i ++ l)[3 * i + c]? = l[c]? := fun l c => by rw [List.getElem?_append_right (by omega), hEl]; congr 1; omega
    have hE1 : ∀ (l : AMem), (inE m.length W H rr n A i ++ l)[3 * i]? = l[0]? := fun l => hE0 l 0
    have hE2 : ∀ (l : AMem) (c : Nat) (b : Blk), (inE m.length W H rr n A i ++ l).set (3 * i + c) b = inE m.length W H rr n A i ++ l.set c b := fun l c b => by rw [List.set_append_right _ _ (by omega), hEl]; congr 2; omega
    have hE3 : ∀ (l : AMem) (b : Blk), (inE m.length W H rr n A i ++ l).set (3 * i) b = inE m.length W H rr n A i ++ l.set 0 b := fun l b => hE2 l 0 b
    refine AW.skip ?_
    refine Thn_n ?_
    refine hK _ _ ?_
    clear hK K
    refine AW.seq_k fun K hK => ?_
    refine AW.block ?_
    refine AW.seq_k fun K hK => ?_
    refine AW.region (by decide) ?_
    simp only [push_cast, Nat.reduceAdd, Nat.reduceMul, Nat.reduceSub, Nat.reduceLeDiff, Nat.reduceLT, Nat.reduceEqDiff, Nat.reduceBEq, Nat.reduceBNe, Nat.reduceMod, Nat.reduceDiv, Int.reduceLE, Int.reduceLT, Int.reduceToNat, Int.reduceAdd, Int.reduceSub, Int.reduceMul, Int.reduceNeg, Int.reduceEq, Int.reduceBEq, Int.reduceBNe, ↓reduceIte, reduceCtorEq, String.reduceBNe, String.reduceEq, reduceDIte, Nat.reducePow, hb, lk_old hb, hl, PE.ret, PE.pic, h2k, k0, k1, z0, z1, z2, z3, z4, z5, w0, w1, w2, w3, w4, w5, c1, c2, g0, g1, g2, hEl, hpl, q2, q3, hE0, hE1, hE2, hE3]
    refine Thn_n ?_
    refine hK _ _ ?_
    clear hK K
    refine AW.region (by decide) ?_
    simp only [push_cast, Nat.reduceAdd, Nat.reduceMul, Nat.reduceSub, Nat.reduceLeDiff, Nat.reduceLT, Nat.reduceEqDiff, Nat.reduceBEq, Nat.reduceBNe, Nat.reduceMod, Nat.reduceDiv, Int.reduceLE, Int.reduceLT, Int.reduceToNat, Int.reduceAdd, Int.reduceSub, Int.reduceMul, Int.reduceNeg, Int.reduceEq, Int.reduceBEq, Int.reduceBNe, ↓reduceIte, reduceCtorEq, String.reduceBNe, String.reduceEq, reduceDIte, Nat.reducePow, hb, lk_old hb, hl, PE.ret, PE.pic, h2k, k0, k1, z0, z1, z2, z3, z4, z5, w0, w1, w2, w3, w4, w5, c1, c2, g0, g1, g2, hEl, hpl, q2, q3, hE0, hE1, hE2, hE3]
    refine CThen.by (to_c _ _ _ _ _ (A i) _ ((hp i hlt).p.mono _) (by omega)) ?_
    simp only [push_cast, Nat.reduceAdd, Nat.reduceMul, Nat.reduceSub, Nat.reduceLeDiff, Nat.reduceLT, Nat.reduceEqDiff, Nat.reduceBEq, Nat.reduceBNe, Nat.reduceMod, Nat.reduceDiv, Int.reduceLE, Int.reduceLT, Int.reduceToNat, Int.reduceAdd, Int.reduceSub, Int.reduceMul, Int.reduceNeg, Int.reduceEq, Int.reduceBEq, Int.reduceBNe, ↓reduceIte, reduceCtorEq, String.reduceBNe, String.reduceEq, reduceDIte, Nat.reducePow, hb, lk_old hb, hl, PE.ret, PE.pic, h2k, k0, k1, z0, z1, z2, z3, z4, z5, w0, w1, w2, w3, w4, w5, c1, c2, g0, g1, g2, hEl, hpl, q2, q3, hE0, hE1, hE2, hE3]
    refine InB_n ?_
    refine Thn_n ?_
    refine hK _ _ ?_
    clear hK K
    refine AW.region (by decide) ?_
    simp only [push_cast, Nat.reduceAdd, Nat.reduceMul, Nat.reduceSub, Nat.reduceLeDiff, Nat.reduceLT, Nat.reduceEqDiff, Nat.reduceBEq, Nat.reduceBNe, Nat.reduceMod, Nat.reduceDiv, Int.reduceLE, Int.reduceLT, Int.reduceToNat, Int.reduceAdd, Int.reduceSub, Int.reduceMul, Int.reduceNeg, Int.reduceEq, Int.reduceBEq, Int.reduceBNe, ↓reduceIte, reduceCtorEq, String.reduceBNe, String.reduceEq, reduceDIte, Nat.reducePow, hb, lk_old hb, hl, PE.ret, PE.pic, h2k, k0, k1, z0, z1, z2, z3, z4, z5, w0, w1, w2, w3, w4, w5, c1, c2, g0, g1, g2, hEl, hpl, q2, q3, hE0, hE1, hE2, hE3]
    refine Thn_n ?_
    have hwi : IntKind.i64.wrap ((i:Int)+1) = (i:Int)+1 := by rw [IntKind.wrap_i64]; omega
    refine ⟨i + 1, by omega, by omega, ?_⟩
    try simp only [keepL, setAll, push_cast, Nat.reduceAdd, Nat.reduceMul, Nat.reduceSub, Nat.reduceLeDiff, Nat.reduceLT, Nat.reduceEqDiff, Nat.reduceBEq, Nat.reduceBNe, Nat.reduceMod, Nat.reduceDiv, Int.reduceLE, Int.reduceLT, Int.reduceToNat, Int.reduceAdd, Int.reduceSub, Int.reduceMul, Int.reduceNeg, Int.reduceEq, Int.reduceBEq, Int.reduceBNe, ↓reduceIte, reduceCtorEq, String.reduceBNe, String.reduceEq, reduceDIte, Nat.reducePow, hb, lk_old hb, hl, PE.ret, PE.pic, h2k, k0, k1, z0, z1, z2, z3, z4, z5, w0, w1, w2, w3, w4, w5, c1, c2, g0, g1, g2, hEl, hpl, q2, q3, hE0, hE1, hE2, hE3, hwi, pl, inE]
    exact Weak.same (by simp only [Keeps, Tm.get_cons, Nat.reduceEqDiff, ↓reduceIte, if_true, if_false, ite_true, ite_false, true_and, and_true, and_self, reduceCtorEq, hwi, pl, inE]) (by first | rfl | simp only [Keeps, Tm.get_cons, Nat.reduceEqDiff, ↓reduceIte, if_true, if_false, ite_true, ite_false, true_and, and_true, and_self, reduceCtorEq, hwi, pl, inE])
  · have hie : k = i := by have := of_decide_eq_false h27; omega
    subst hie
    have hEl := inE_len m.length W H rr n A k
    have hrows : ∀ b0 b1 ex j, j < k → PicAt (m ++ (b0 :: b1 :: (inE m.length W H rr n A k ++ ex))) (m.length + (3 * j + 3)) 0 (n j) (A j) := fun b0 b1 ex j hj => ⟨.grow, 3, by
      have e := inE_get m.length W H rr n A j k hj
      rw [lk_app, show 3 * j + 3 = (3 * j + 1) + 1 + 1 by omega, List.getElem?_cons_succ, List.getElem?_cons_succ, List.getElem?_append_left (List.getElem?_eq_some_iff.1 e).1]; exact e⟩
    have hrows0 : ∀ b0 b1 j, j < k → PicAt (m ++ (b0 :: b1 :: inE m.length W H rr n A k)) (m.length + (3 * j + 3)) 0 (n j) (A j) := fun b0 b1 j hj => by
      have := hrows b0 b1 [] j hj
      rwa [List.append_nil] at this
    have hE0 : ∀ (l : AMem) (c : Nat), (inE m.length W H rr n A k ++ l)[3 * k + c]? = l[c]? := fun l c => by rw [List.getElem?_append_right (by omega), hEl]; congr 1; omega
    have hE1 : ∀ (l : AMem), (inE m.length W H rr n A k ++ l)[3 * k]? = l[0]? := fun l => hE0 l 0
    have hE2 : ∀ (l : AMem) (c : Nat) (b : Blk), (inE m.length W H rr n A k ++ l).set (3 * k + c) b = inE m.length W H rr n A k ++ l.set c b := fun l c b => by rw [List.set_append_right _ _ (by omega), hEl]; congr 2; omega
    have hE3 : ∀ (l : AMem) (b : Blk), (inE m.length W H rr n A k ++ l).set (3 * k) b = inE m.length W H rr n A k ++ l.set 0 b := fun l b => hE2 l 0 b
    refine AW.exit ?_
    refine Thn_e ?_
    clear hK K
    refine Thn_e ?_
    refine InB_here ?_
    refine Thn_n ?_
    refine hK _ _ ?_
    clear hK K
    refine AW.seq_k fun K hK => ?_
    refine AW.region (by decide) ?_
    simp only [push_cast, Nat.reduceAdd, Nat.reduceMul, Nat.reduceSub, Nat.reduceLeDiff, Nat.reduceLT, Nat.reduceEqDiff, Nat.reduceBEq, Nat.reduceBNe, Nat.reduceMod, Nat.reduceDiv, Int.reduceLE, Int.reduceLT, Int.reduceToNat, Int.reduceAdd, Int.reduceSub, Int.reduceMul, Int.reduceNeg, Int.reduceEq, Int.reduceBEq, Int.reduceBNe, ↓reduceIte, reduceCtorEq, String.reduceBNe, String.reduceEq, reduceDIte, Nat.reducePow, hb, lk_old hb, hl, PE.ret, PE.pic, h2k, k0, k1, z0, z1, z2, z3, z4, z5, w0, w1, w2, w3, w4, w5, hEl, hE0, hE1, hE2, hE3]
    refine CThen.by (h1 _ _ (fun j => m.length + (3 * j + 3)) .grow 3 _ (by simp only [push_cast, Nat.reduceAdd, Nat.reduceMul, Nat.reduceSub, Nat.reduceLeDiff, Nat.reduceLT, Nat.reduceEqDiff, Nat.reduceBEq, Nat.reduceBNe, Nat.reduceMod, Nat.reduceDiv, Int.reduceLE, Int.reduceLT, Int.reduceToNat, Int.reduceAdd, Int.reduceSub, Int.reduceMul, Int.reduceNeg, Int.reduceEq, Int.reduceBEq, Int.reduceBNe, ↓reduceIte, reduceCtorEq, String.reduceBNe, String.reduceEq, reduceDIte, Nat.reducePow]; first | done | rfl) (fun j hj => hrows0 _ _ j hj)) ?_
    simp only [push_cast, Nat.reduceAdd, Nat.reduceMul, Nat.reduceSub, Nat.reduceLeDiff, Nat.reduceLT, Nat.reduceEqDiff, Nat.reduceBEq, Nat.reduceBNe, Nat.reduceMod, Nat.reduceDiv, Int.reduceLE, Int.reduceLT, Int.reduceToNat, Int.reduceAdd, Int.reduceSub, Int.reduceMul, Int.reduceNeg, Int.reduceEq, Int.reduceBEq, Int.reduceBNe, ↓reduceIte, reduceCtorEq, String.reduceBNe, String.reduceEq, reduceDIte, Nat.reducePow, hb, lk_old hb, hl, PE.ret, PE.pic, h2k, k0, k1, z0, z1, z2, z3, z4, z5, w0, w1, w2, w3, w4, w5, hEl, hE0, hE1, hE2, hE3]
    refine Thn_n ?_
    refine hK _ _ ?_
    clear hK K
    refine AW.seq_k fun K hK => ?_
    refine AW.region (by decide) ?_
    simp only [push_cast, Nat.reduceAdd, Nat.reduceMul, Nat.reduceSub, Nat.reduceLeDiff, Nat.reduceLT, Nat.reduceEqDiff, Nat.reduceBEq, Nat.reduceBNe, Nat.reduceMod, Nat.reduceDiv, Int.reduceLE, Int.reduceLT, Int.reduceToNat, Int.reduceAdd, Int.reduceSub, Int.reduceMul, Int.reduceNeg, Int.reduceEq, Int.reduceBEq, Int.reduceBNe, ↓reduceIte, reduceCtorEq, String.reduceBNe, String.reduceEq, reduceDIte, Nat.reducePow, hb, lk_old hb, hl, PE.ret, PE.pic, h2k, k0, k1, z0, z1, z2, z3, z4, z5, w0, w1, w2, w3, w4, w5, hEl, hE0, hE1, hE2, hE3]
    refine CThen.by (h2 _ _ rr .ro 3 _ (lk_old hb _) (fun j hj => (hp j hj).p.mono _)) ?_
    simp only [push_cast, Nat.reduceAdd, Nat.reduceMul, Nat.reduceSub, Nat.reduceLeDiff, Nat.reduceLT, Nat.reduceEqDiff, Nat.reduceBEq, Nat.reduceBNe, Nat.reduceMod, Nat.reduceDiv, Int.reduceLE, Int.reduceLT, Int.reduceToNat, Int.reduceAdd, Int.reduceSub, Int.reduceMul, Int.reduceNeg, Int.reduceEq, Int.reduceBEq, Int.reduceBNe, ↓reduceIte, reduceCtorEq, String.reduceBNe, String.reduceEq, reduceDIte, Nat.reducePow, hb, lk_old hb, hl, PE.ret, PE.pic, h2k, k0, k1, z0, z1, z2, z3, z4, z5, w0, w1, w2, w3, w4, w5, hEl, hE0, hE1, hE2, hE3]
    refine Thn_n ?_
    refine hK _ _ ?_
    clear hK K
    refine AW.seq_k fun K hK => ?_
    refine AW.seq_k fun K hK => ?_
    refine AW.region (by decide) ?_
    simp only [push_cast, Nat.reduceAdd, Nat.reduceMul, Nat.reduceSub, Nat.reduceLeDiff, Nat.reduceLT, Nat.reduceEqDiff, Nat.reduceBEq, Nat.reduceBNe, Nat.reduceMod, Nat.reduceDiv, Int.reduceLE, Int.reduceLT, Int.reduceToNat, Int.reduceAdd, Int.reduceSub, Int.reduceMul, Int.reduceNeg, Int.reduceEq, Int.reduceBEq, Int.reduceBNe, ↓reduceIte, reduceCtorEq, String.reduceBNe, String.reduceEq, reduceDIte, Nat.reducePow, hb, lk_old hb, hl, PE.ret, PE.pic, h2k, k0, k1, z0, z1, z2, z3, z4, z5, w0, w1, w2, w3, w4, w5, hEl, hE0, hE1, hE2, hE3]
    refine CThen.by (is_c _ _ _ _ _ _ _ _ p.G p.G _ ⟨.grow, 3, by simp only [push_cast, Nat.reduceAdd, Nat.reduceMul, Nat.reduceSub, Nat.reduceLeDiff, Nat.reduceLT, Nat.reduceEqDiff, Nat.reduceBEq, Nat.reduceBNe, Nat.reduceMod, Nat.reduceDiv, Int.reduceLE, Int.reduceLT, Int.reduceToNat, Int.reduceAdd, Int.reduceSub, Int.reduceMul, Int.reduceNeg, Int.reduceEq, Int.reduceBEq, Int.reduceBNe, ↓reduceIte, reduceCtorEq, String.reduceBNe, String.reduceEq, reduceDIte, Nat.reducePow, PE.blk, hE0, hE1]; first | done | rfl⟩ ⟨.grow, 3, by simp only [push_cast, Nat.reduceAdd, Nat.reduceMul, Nat.reduceSub, Nat.reduceLeDiff, Nat.reduceLT, Nat.reduceEqDiff, Nat.reduceBEq, Nat.reduceBNe, Nat.reduceMod, Nat.reduceDiv, Int.reduceLE, Int.reduceLT, Int.reduceToNat, Int.reduceAdd, Int.reduceSub, Int.reduceMul, Int.reduceNeg, Int.reduceEq, Int.reduceBEq, Int.reduceBNe, ↓reduceIte, reduceCtorEq, String.reduceBNe, String.reduceEq, reduceDIte, Nat.reducePow, PE.blk, hE0, hE1]; first | done | rfl⟩ (fun _ _ _ _ => rfl) hpn) ?_
    simp only [push_cast, Nat.reduceAdd, Nat.reduceMul, Nat.reduceSub, Nat.reduceLeDiff, Nat.reduceLT, Nat.reduceEqDiff, Nat.reduceBEq, Nat.reduceBNe, Nat.reduceMod, Nat.reduceDiv, Int.reduceLE, Int.reduceLT, Int.reduceToNat, Int.reduceAdd, Int.reduceSub, Int.reduceMul, Int.reduceNeg, Int.reduceEq, Int.reduceBEq, Int.reduceBNe, ↓reduceIte, reduceCtorEq, String.reduceBNe, String.reduceEq, reduceDIte, Nat.reducePow, hb, lk_old hb, hl, PE.ret, PE.pic, h2k, k0, k1, z0, z1, z2, z3, z4, z5, w0, w1, w2, w3, w4, w5, hEl, hE0, hE1, hE2, hE3]
    refine Thn_n ?_
    refine hK _ _ ?_
    clear hK K
    refine AW.cond_f rfl ?_
    refine AW.skip ?_
    refine Thn_n ?_
    refine hK _ _ ?_
    clear hK K
    refine AW.seq_k fun K hK => ?_
    refine AW.seq_k fun K hK => ?_
    refine AW.region (by decide) ?_
    simp only [push_cast, Nat.reduceAdd, Nat.reduceMul, Nat.reduceSub, Nat.reduceLeDiff, Nat.reduceLT, Nat.reduceEqDiff, Nat.reduceBEq, Nat.reduceBNe, Nat.reduceMod, Nat.reduceDiv, Int.reduceLE, Int.reduceLT, Int.reduceToNat, Int.reduceAdd, Int.reduceSub, Int.reduceMul, Int.reduceNeg, Int.reduceEq, Int.reduceBEq, Int.reduceBNe, ↓reduceIte, reduceCtorEq, String.reduceBNe, String.reduceEq, reduceDIte, Nat.reducePow, hb, lk_old hb, hl, PE.ret, PE.pic, h2k, k0, k1, z0, z1, z2, z3, z4, z5, w0, w1, w2, w3, w4, w5, hEl, hE0, hE1, hE2, hE3]
    refine Thn_n ?_
    refine hK _ _ ?_
    clear hK K
    refine AW.cond_f rfl ?_
    refine AW.skip ?_
    refine Thn_n ?_
    refine hK _ _ ?_
    clear hK K
    refine AW.seq_k fun K hK => ?_
    refine AW.draw [.val, .val, .rd 0, .val, .val, .rd 0, .ext, .val, .val, .val, .fl, .wr, .val] fol (by decide) (by kernel_rfl) ?_
    simp only [push_cast, Nat.reduceAdd, Nat.reduceMul, Nat.reduceSub, Nat.reduceLeDiff, Nat.reduceLT, Nat.reduceEqDiff, Nat.reduceBEq, Nat.reduceBNe, Nat.reduceMod, Nat.reduceDiv, Int.reduceLE, Int.reduceLT, Int.reduceToNat, Int.reduceAdd, Int.reduceSub, Int.reduceMul, Int.reduceNeg, Int.reduceEq, Int.reduceBEq, Int.reduceBNe, ↓reduceIte, reduceCtorEq, String.reduceBNe, String.reduceEq, reduceDIte, Nat.reducePow, hb, lk_old hb, hl, PE.ret, PE.pic, h2k, k0, k1, z0, z1, z2, z3, z4, z5, w0, w1, w2, w3, w4, w5, hEl, hE0, hE1, hE2, hE3]
    refine DCall.by (apart_c _ _ _ _ _ _ _ _ _ _ (A 0) (A 1) _ (hrows _ _ _ 0 (by omega)) (hrows _ _ _ 1 (by omega)) (hp 0 (by omega)).u (hp 1 (by omega)).u) ?_
    simp only [push_cast, Nat.reduceAdd, Nat.reduceMul, Nat.reduceSub, Nat.reduceLeDiff, Nat.reduceLT, Nat.reduceEqDiff, Nat.reduceBEq, Nat.reduceBNe, Nat.reduceMod, Nat.reduceDiv, Int.reduceLE, Int.reduceLT, Int.reduceToNat, Int.reduceAdd, Int.reduceSub, Int.reduceMul, Int.reduceNeg, Int.reduceEq, Int.reduceBEq, Int.reduceBNe, ↓reduceIte, reduceCtorEq, String.reduceBNe, String.reduceEq, reduceDIte, Nat.reducePow, hb, lk_old hb, hl, PE.ret, PE.pic, h2k, k0, k1, z0, z1, z2, z3, z4, z5, w0, w1, w2, w3, w4, w5, hEl, hE0, hE1, hE2, hE3]
    refine Thn_n ?_
    refine hK _ _ ?_
    clear hK K
    refine AW.seq_k fun K hK => ?_
    refine AW.draw [.val, .val, .rd 0, .val, .val, .rd 0, .ext, .val, .val, .val, .fl, .wr, .val] fol (by decide) (by kernel_rfl) ?_
    simp only [push_cast, Nat.reduceAdd, Nat.reduceMul, Nat.reduceSub, Nat.reduceLeDiff, Nat.reduceLT, Nat.reduceEqDiff, Nat.reduceBEq, Nat.reduceBNe, Nat.reduceMod, Nat.reduceDiv, Int.reduceLE, Int.reduceLT, Int.reduceToNat, Int.reduceAdd, Int.reduceSub, Int.reduceMul, Int.reduceNeg, Int.reduceEq, Int.reduceBEq, Int.reduceBNe, ↓reduceIte, reduceCtorEq, String.reduceBNe, String.reduceEq, reduceDIte, Nat.reducePow, hb, lk_old hb, hl, PE.ret, PE.pic, h2k, k0, k1, z0, z1, z2, z3, z4, z5, w0, w1, w2, w3, w4, w5, hEl, hE0, hE1, hE2, hE3]
    refine DCall.by (rapart_c _ _ _ _ _ _ _ _ _ _ (A 0) (A 1) _ ((hp 0 (by omega)).p.mono _) ((hp 1 (by omega)).p.mono _) (hp 0 (by omega)).u (hp 1 (by omega)).u) ?_
    simp only [push_cast, Nat.reduceAdd, Nat.reduceMul, Nat.reduceSub, Nat.reduceLeDiff, Nat.reduceLT, Nat.reduceEqDiff, Nat.reduceBEq, Nat.reduceBNe, Nat.reduceMod, Nat.reduceDiv, Int.reduceLE, Int.reduceLT, Int.reduceToNat, Int.reduceAdd, Int.reduceSub, Int.reduceMul, Int.reduceNeg, Int.reduceEq, Int.reduceBEq, Int.reduceBNe, ↓reduceIte, reduceCtorEq, String.reduceBNe, String.reduceEq, reduceDIte, Nat.reducePow, hb, lk_old hb, hl, PE.ret, PE.pic, h2k, k0, k1, z0, z1, z2, z3, z4, z5, w0, w1, w2, w3, w4, w5, hEl, hE0, hE1, hE2, hE3]
    refine Thn_n ?_
    refine hK _ _ ?_
    clear hK K
    refine AW.seq_k fun K hK => ?_
    refine AW.region (by decide) ?_
    simp only [push_cast, Nat.reduceAdd, Nat.reduceMul, Nat.reduceSub, Nat.reduceLeDiff, Nat.reduceLT, Nat.reduceEqDiff, Nat.reduceBEq, Nat.reduceBNe, Nat.reduceMod, Nat.reduceDiv, Int.reduceLE, Int.reduceLT, Int.reduceToNat, Int.reduceAdd, Int.reduceSub, Int.reduceMul, Int.reduceNeg, Int.reduceEq, Int.reduceBEq, Int.reduceBNe, ↓reduceIte, reduceCtorEq, String.reduceBNe, String.reduceEq, reduceDIte, Nat.reducePow, hb, lk_old hb, hl, PE.ret, PE.pic, h2k, k0, k1, z0, z1, z2, z3, z4, z5, w0, w1, w2, w3, w4, w5, hEl, hE0, hE1, hE2, hE3]
    refine CThen.by (awake_c _) ?_
    simp only [push_cast, Nat.reduceAdd, Nat.reduceMul, Nat.reduceSub, Nat.reduceLeDiff, Nat.reduceLT, Nat.reduceEqDiff, Nat.reduceBEq, Nat.reduceBNe, Nat.reduceMod, Nat.reduceDiv, Int.reduceLE, Int.reduceLT, Int.reduceToNat, Int.reduceAdd, Int.reduceSub, Int.reduceMul, Int.reduceNeg, Int.reduceEq, Int.reduceBEq, Int.reduceBNe, ↓reduceIte, reduceCtorEq, String.reduceBNe, String.reduceEq, reduceDIte, Nat.reducePow, hb, lk_old hb, hl, PE.ret, PE.pic, h2k, k0, k1, z0, z1, z2, z3, z4, z5, w0, w1, w2, w3, w4, w5, hEl, hE0, hE1, hE2, hE3]
    refine CThen.by (is_c _ _ _ _ _ _ _ _ (apartF (W 0) (H 0) (n 0) (A 0) (W 1) (H 1) (n 1) (A 1)).G (apartF (W 0) (H 0) (n 0) (A 0) (W 1) (H 1) (n 1) (A 1)).G _ ⟨.grow, 3, by simp only [push_cast, Nat.reduceAdd, Nat.reduceMul, Nat.reduceSub, Nat.reduceLeDiff, Nat.reduceLT, Nat.reduceEqDiff, Nat.reduceBEq, Nat.reduceBNe, Nat.reduceMod, Nat.reduceDiv, Int.reduceLE, Int.reduceLT, Int.reduceToNat, Int.reduceAdd, Int.reduceSub, Int.reduceMul, Int.reduceNeg, Int.reduceEq, Int.reduceBEq, Int.reduceBNe, ↓reduceIte, reduceCtorEq, String.reduceBNe, String.reduceEq, reduceDIte, Nat.reducePow, PE.blk, hE0, hE1]; first | done | rfl⟩ ⟨.grow, 3, by simp only [push_cast, Nat.reduceAdd, Nat.reduceMul, Nat.reduceSub, Nat.reduceLeDiff, Nat.reduceLT, Nat.reduceEqDiff, Nat.reduceBEq, Nat.reduceBNe, Nat.reduceMod, Nat.reduceDiv, Int.reduceLE, Int.reduceLT, Int.reduceToNat, Int.reduceAdd, Int.reduceSub, Int.reduceMul, Int.reduceNeg, Int.reduceEq, Int.reduceBEq, Int.reduceBNe, ↓reduceIte, reduceCtorEq, String.reduceBNe, String.reduceEq, reduceDIte, Nat.reducePow, PE.blk, hE0, hE1]; first | done | rfl⟩ (fun _ _ _ _ => rfl) hap) ?_
    simp only [push_cast, Nat.reduceAdd, Nat.reduceMul, Nat.reduceSub, Nat.reduceLeDiff, Nat.reduceLT, Nat.reduceEqDiff, Nat.reduceBEq, Nat.reduceBNe, Nat.reduceMod, Nat.reduceDiv, Int.reduceLE, Int.reduceLT, Int.reduceToNat, Int.reduceAdd, Int.reduceSub, Int.reduceMul, Int.reduceNeg, Int.reduceEq, Int.reduceBEq, Int.reduceBNe, ↓reduceIte, reduceCtorEq, String.reduceBNe, String.reduceEq, reduceDIte, Nat.reducePow, hb, lk_old hb, hl, PE.ret, PE.pic, h2k, k0, k1, z0, z1, z2, z3, z4, z5, w0, w1, w2, w3, w4, w5, hEl, hE0, hE1, hE2, hE3]
    refine Thn_n ?_
    refine hK _ _ ?_
    clear hK K
    refine AW.ret ?_
    refine hQ _ _ _ ?_
    first | refine RetP.drop0 (Or.inr rfl) ?_ ?_ hwf | refine RetP.drop (Or.inr rfl) ?_ ?_ hwf
    · simp only [resA, resOne, resTv, AV.tv, push_cast, Nat.reduceAdd, Nat.reduceMul, Nat.reduceSub, Nat.reduceLeDiff, Nat.reduceLT, Nat.reduceEqDiff, Nat.reduceBEq, Nat.reduceBNe, Nat.reduceMod, Nat.reduceDiv, Int.reduceLE, Int.reduceLT, Int.reduceToNat, Int.reduceAdd, Int.reduceSub, Int.reduceMul, Int.reduceNeg, Int.reduceEq, Int.reduceBEq, Int.reduceBNe, ↓reduceIte, reduceCtorEq, String.reduceBNe, String.reduceEq, reduceDIte, Nat.reducePow, hb, lk_old hb, hl, PE.ret, PE.pic, h2k, k0, k1, z0, z1, z2, z3, z4, z5, w0, w1, w2, w3, w4, w5, hEl, hE0, hE1, hE2, hE3]
    · rfl
theorem dot_of {B : Nat} {m : AMem} {a : AV} (h : goodA Try.prog B m 22 a) : ∃ d0 d1 d2, a = .agg [.int .u8 d0, .int .u8 d1, .int .u8 d2] := by
  obtain ⟨cs, rfl, hg⟩ := h.agg (.inr ⟨_, _, Try.underlying22⟩)
  obtain ⟨q1, q2⟩ := hg.arr Try.underlying22
  obtain ⟨xs, rfl, _⟩ := ints_of (k := .u8) 3 cs (by rw [q1, n22]) fun j hj => by
    obtain ⟨x, q3, q4⟩ := (q2 j hj).int Try.underlying5
    rw [n5, Nat.mul_one] at q3
    exact ⟨x, q3, q4⟩
  rw [n22, List.length_map] at q1
  match xs, q1 with
  | [a, b, c], _ => exact ⟨a, b, c, rfl⟩
theorem pl_of {cells : List CV} {k : Nat} {W H : Nat → Int} {r n : Nat → Nat} (hl : cells.length = k * 3) (h : ∀ i, i < k → (cells.drop (i * 3)).take 3 = [.int .i64 (W i), .int .i64 (H i), .sl (r i) 0 0 (n i)]) : cells = pl k W H r n := by
  refine ext_get fun j => ?_
  rcases Nat.lt_or_ge j (k * 3) with hj | hj
  · obtain ⟨a, b, hb, rfl⟩ : ∃ a b, b < 3 ∧ j = a * 3 + b := ⟨j / 3, j % 3, by omega, by omega⟩
    have hi : a < k := by omega
    obtain ⟨g0, g1, g2⟩ := pl_get (W := W) (H := H) (r := r) (n := n) hi
    have h1 : cells[a * 3 + b]? = ((cells.drop (a * 3)).take 3)[b]? := by
      rw [List.getElem?_take, if_pos hb, List.getElem?_drop]
    rw [h1, h a hi]
    match b, hb with
    | 0, _ => rw [Nat.add_zero, g0]; rfl
    | 1, _ => rw [g1]; rfl
    | 2, _ => rw [g2]; rfl
  · rw [List.getElem?_eq_none (by omega), List.getElem?_eq_none (by rw [pl_len]; omega)]
theorem pics_of {B : Nat} {m : AMem} {a : AV} (h : goodA Try.prog B m 23 a) : ∃ (r k : Nat) (W H : Nat → Int) (rr n : Nat → Nat) (A : Nat → Nat → Nat → Int), a = .one (.sl r 0 0 k) ∧ m[r]? = some ⟨.ro, 29, 0, 3, pl k W H rr n⟩ ∧ (∀ j, j < k → PicIn m (rr j) (n j) (A j)) ∧ k ≤ B := by
  obtain ⟨c, rfl, hg⟩ := h.one (fun fs h => by rw [Try.underlying23] at h; cases h) (fun k e h => by rw [Try.underlying23] at h; cases h)
  obtain ⟨r, k, cells, h2, h3, h4, h5, h6⟩ := hg.row Try.underlying23
  simp only [List.cons.injEq, and_true] at h2
  subst h2
  rw [n29] at h3 h4
  have hx : ∀ j, ∃ (W H : Int) (rr n : Nat) (A : Nat → Nat → Int), j < k → (cells.drop (j * 3)).take 3 = [.int .i64 W, .int .i64 H, .sl rr 0 0 n] ∧ PicIn m rr n A := fun j => by
    by_cases hj : j < k
    · have h7 := h6 j hj
      rw [n29] at h7
      obtain ⟨W, H, rr, n, A, e, hi, _⟩ := picGood h7
      exact ⟨W, H, rr, n, A, fun _ => ⟨e, hi⟩⟩
    · exact ⟨0, 0, 0, 0, fun _ _ => 0, fun h => absurd h hj⟩
  have hx' := fun j => hx j
  obtain ⟨W, hx⟩ := Classical.axiomOfChoice hx
  obtain ⟨H, hx⟩ := Classical.axiomOfChoice hx
  obtain ⟨rr, hx⟩ := Classical.axiomOfChoice hx
  obtain ⟨n, hx⟩ := Classical.axiomOfChoice hx
  obtain ⟨A, hx⟩ := Classical.axiomOfChoice hx
  exact ⟨r, k, W, H, rr, n, A, rfl, by rw [← pl_of h4 fun i hi => (hx i hi).1]; exact h3, fun j hj => (hx j hj).2, h5⟩

namespace stripSheetsLaw
theorem law (m : AMem) (avs : List AV) (h : All2 (fun t a => goodA Try.prog 1048576 m t a) Try.f3.params.toList avs) : Ctr Try.prog 3 avs m (.one (.bool true)) m := by
  rw [Try.params3] at h
  obtain ⟨a0, l0, rfl, g0, h⟩ := all2_cons h
  obtain ⟨a1, l1, rfl, g1, h⟩ := all2_cons h
  obtain ⟨a2, l2, rfl, g2, h⟩ := all2_cons h
  obtain ⟨a3, l3, rfl, g3, h⟩ := all2_cons h
  obtain rfl := all2_nil h
  obtain ⟨x, rfl, _⟩ := int_of g0
  obtain ⟨y, rfl, _⟩ := int_of g1
  obtain ⟨d0, d1, d2, rfl⟩ := dot_of g2
  obtain ⟨r, k, W, H, rr, n, A, rfl, hb, hp, hk⟩ := pics_of g3
  cases hl : lightB n k
  · exact sheets_dark x y d0 d1 d2 r k W H rr n A m hb hp hk hl
  by_cases h2k : (k : Int) < 2
  · exact sheets_few x y d0 d1 d2 r k W H rr n A m hb hp hk hl h2k
  · exact sheets_more x y d0 d1 d2 r k W H rr n A m hb hp hk hl h2k
theorem contract (H : Type) (enc : TypeId × Value → H) (W : World) (base : Nat) (args : Array Value) (ds gs : List (DataW H)) (before : List MemPlace)
    (hval : ∀ (j : Nat) t v, Try.f3.params[j]? = some t → args[j]? = some v → Value.okWide Try.prog W .any base t v)
    (hW : DataW.Whole enc Try.prog Try.f3.params.toList Rows.stripSheetsSpec.vars false W args.toList ds gs before) (hk : Rows.uptoSmall H (ds ++ gs) = true) :
    Calls Try.prog 3 args W fun e W' => ∃ v, e = .returned v ∧ Rows.stripSheetsSpec.post enc Try.prog Try.f3 false true false false W args v W' := by
  refine law_true (B := 1048576) (bulk := Rows.uptoBulk) rfl ?_ laidOut laid (by kernel_rfl) (tb := 4) rfl Try.underlying4 isBulk (fun d hd => small hk d (List.mem_append_left _ hd)) hval hW fun m avs _ h => law m avs h
  obtain ⟨p, q, hA, _⟩ := hW
  rw [Try.params3] at hA
  rintro l rfl
  obtain ⟨v0, vs0, d0, ds0, p0, q0, _, rfl, _, _, r0⟩ := ChangeShapes.trodAll_cons hA
  obtain ⟨v1, vs1, d1, ds1, p1, q1, _, rfl, _, _, r1⟩ := ChangeShapes.trodAll_cons r0
  obtain ⟨v2, vs2, d2, ds2, p2, q2, _, rfl, _, _, r2⟩ := ChangeShapes.trodAll_cons r1
  obtain ⟨v3, vs3, d3, ds3, p3, q3, _, rfl, _, _, r3⟩ := ChangeShapes.trodAll_cons r2
  obtain ⟨_, rfl, _⟩ := ChangeShapes.trodAll_nil r3
  rfl
theorem lifted (os : Os) (started : os.Started) (H : Type) (enc : TypeId × Value → H) (X : Stop.Interp) :
    ReturnsInHanded {} Try.checked os 3 .any ((Rows.OpenSpec.upto Rows.stripSheetsSpec).pre6 enc Try.prog Try.f3 Rows.stripSheetsUptoRow.domain false) (((Rows.OpenSpec.upto Rows.stripSheetsSpec).at X).post enc Try.prog Try.f3 false true false false) := by
  refine returnsInHanded_of_cond (C := Try.checked) (s := Rows.OpenSpec.upto Rows.stripSheetsSpec) (k := Rows.uptoSmall) rfl own started (by kernel_rfl) Try.func3
    (OpenSpec.witness (enc := enc) (C := Try.checked) (s := Rows.OpenSpec.upto Rows.stripSheetsSpec) (k := Rows.uptoSmall) rfl false ⟨#[], #[.int .i64 0, .int .i64 0, .agg #[.int .u8 0, .int .u8 0, .int .u8 0], .slice none 0 0], []⟩ 8 (by kernel_rfl) (by kernel_rfl) (by kernel_rfl)
      (x := ([.lit (.int .i64 0), .lit (.int .i64 0), .agg [.lit (.int .u8 0), .lit (.int .u8 0), .lit (.int .u8 0)], .nil], [], [])) (by kernel_rfl) rfl (by kernel_rfl)) ?_
  intro W base args ds gs before hval hW _ hk _
  exact contract H enc W base args ds gs before hval hW hk
theorem proved : Rows.StripSheetsUptoSaid :=
  OpenClaim.holds_of_cond 3 Try.f3 rfl rfl rfl rfl rfl rfl rfl ⟨rfl, rfl, rfl, rfl, rfl⟩ rfl rfl rfl rfl rfl (by kernel_rfl) Try.func3 (by kernel_rfl)
    (of_decide_eq_true (by kernel_rfl)) (by unfold Func.isWrapper; first | (rw [if_pos (by decide +kernel)]; kernel_rfl) | (rw [if_neg (by decide +kernel)]; exact ⟨rfl, rfl⟩))
    (fun os started H enc _ X => lifted os started H enc X)
end stripSheetsLaw
end Go.Proofs.Ytgkmjcpcigklpaa
