/- Walks and facts of this seat's program over abstract states, printed by a program of mine; no conditions but those that each theorem names. -/
import Derived.Test.YtgkmjcpcigklpaaTurns4
set_option linter.unusedSimpArgs false
set_option linter.unusedVariables false
set_option maxRecDepth 100000
set_option maxHeartbeats 4000000
namespace Go.Proofs.Ytgkmjcpcigklpaa
open Go Go.Eng

def gapV (a b : Int) : Int := if a < b then b - a else a - b
theorem gapV_in {a b : Int} (ha : 0 ≤ a ∧ a ≤ 255) (hb : 0 ≤ b ∧ b ≤ 255) : 0 ≤ gapV a b ∧ gapV a b ≤ 255 := by unfold gapV; split <;> omega
theorem u8i {x : Int} (h : 0 ≤ x ∧ x ≤ 255) : IntKind.u8.wrap x = x := by rw [IntKind.wrap_u8]; omega
def apartG (A B : Nat → Nat → Int) : Nat → Nat → Int := fun i k => gapV (A i k) (B i k)
def apartR (W H : Int) (n : Nat) (W2 H2 : Int) (n2 : Nat) : Bool := picR W H n && (picR W2 H2 n2 && (decide (W = W2) && decide (H = H2)))
def apartF (W H : Int) (n : Nat) (A : Nat → Nat → Int) (W2 H2 : Int) (n2 : Nat) (B : Nat → Nat → Int) : PE := if apartR W H n W2 H2 n2 = true then ⟨W, H, n, apartG A B, 0⟩ else noP
theorem picR_n {W H : Int} {n n2 : Nat} (h1 : picR W H n = true) (h2 : picR W H n2 = true) : n = n2 := by
  simp only [picR, Bool.and_eq_true, beq_iff_eq] at h1 h2
  omega
theorem gap_lt (a b : Int) (m : AMem) (h : a < b) (ha : 0 ≤ a ∧ a ≤ 255) (hb : 0 ≤ b ∧ b ≤ 255) : Ctr Try.prog 43 [.one (.int .u8 a), .one (.int .u8 b)] m (.one (.int .u8 (b - a))) m := by
  refine Ctr.enter Try.func43 rfl (by decide) (rs := [.tmp 4]) (nt := 13) rfl rfl fun hwf Q hQ => ?_
  have w : IntKind.u8.wrap (b - a) = b - a := u8i (by omega)
  refine AW.seq_k fun K hK => ?_
  refine AW.region (by decide) ?_
  simp only [push_cast, Nat.reduceAdd, Nat.reduceMul, Nat.reduceSub, Nat.reduceLeDiff, Nat.reduceLT, Nat.reduceEqDiff, Nat.reduceBEq, Nat.reduceBNe, Nat.reduceMod, Nat.reduceDiv, Int.reduceLE, Int.reduceLT, Int.reduceToNat, Int.reduceAdd, Int.reduceSub, Int.reduceMul, Int.reduceNeg, Int.reduceEq, Int.reduceBEq, Int.reduceBNe, ↓reduceIte, reduceCtorEq, String.reduceBNe, String.reduceEq, reduceDIte, Nat.reducePow, h, w]
  refine Thn_n ?_
  refine hK _ _ ?_
  clear hK K
  refine AW.seq_k fun K hK => ?_
  refine AW.seq_k fun K hK => ?_
  refine AW.region (by decide) ?_
  simp only [push_cast, Nat.reduceAdd, Nat.reduceMul, Nat.reduceSub, Nat.reduceLeDiff, Nat.reduceLT, Nat.reduceEqDiff, Nat.reduceBEq, Nat.reduceBNe, Nat.reduceMod, Nat.reduceDiv, Int.reduceLE, Int.reduceLT, Int.reduceToNat, Int.reduceAdd, Int.reduceSub, Int.reduceMul, Int.reduceNeg, Int.reduceEq, Int.reduceBEq, Int.reduceBNe, ↓reduceIte, reduceCtorEq, String.reduceBNe, String.reduceEq, reduceDIte, Nat.reducePow, h, w]
  refine Thn_n ?_
  refine hK _ _ ?_
  clear hK K
  refine AW.cond_t rfl ?_
  refine AW.region (by decide) ?_
  simp only [push_cast, Nat.reduceAdd, Nat.reduceMul, Nat.reduceSub, Nat.reduceLeDiff, Nat.reduceLT, Nat.reduceEqDiff, Nat.reduceBEq, Nat.reduceBNe, Nat.reduceMod, Nat.reduceDiv, Int.reduceLE, Int.reduceLT, Int.reduceToNat, Int.reduceAdd, Int.reduceSub, Int.reduceMul, Int.reduceNeg, Int.reduceEq, Int.reduceBEq, Int.reduceBNe, ↓reduceIte, reduceCtorEq, String.reduceBNe, String.reduceEq, reduceDIte, Nat.reducePow, h, w]
  refine Thn_n ?_
  refine hK _ _ ?_
  clear hK K
  refine AW.seq_k fun K hK => ?_
  refine AW.region (by decide) ?_
  simp only [push_cast, Nat.reduceAdd, Nat.reduceMul, Nat.reduceSub, Nat.reduceLeDiff, Nat.reduceLT, Nat.reduceEqDiff, Nat.reduceBEq, Nat.reduceBNe, Nat.reduceMod, Nat.reduceDiv, Int.reduceLE, Int.reduceLT, Int.reduceToNat, Int.reduceAdd, Int.reduceSub, Int.reduceMul, Int.reduceNeg, Int.reduceEq, Int.reduceBEq, Int.reduceBNe, ↓reduceIte, reduceCtorEq, String.reduceBNe, String.reduceEq, reduceDIte, Nat.reducePow, h, w]
  refine Thn_n ?_
  refine hK _ _ ?_
  clear hK K
  refine AW.ret ?_
  refine hQ _ _ _ ?_
  first | refine RetP.drop0 (Or.inr rfl) ?_ ?_ hwf | refine RetP.drop (Or.inr rfl) ?_ ?_ hwf
  · simp only [resA, resOne, resTv, AV.tv, push_cast, Nat.reduceAdd, Nat.reduceMul, Nat.reduceSub, Nat.reduceLeDiff, Nat.reduceLT, Nat.reduceEqDiff, Nat.reduceBEq, Nat.reduceBNe, Nat.reduceMod, Nat.reduceDiv, Int.reduceLE, Int.reduceLT, Int.reduceToNat, Int.reduceAdd, Int.reduceSub, Int.reduceMul, Int.reduceNeg, Int.reduceEq, Int.reduceBEq, Int.reduceBNe, ↓reduceIte, reduceCtorEq, String.reduceBNe, String.reduceEq, reduceDIte, Nat.reducePow, h, w]
  · rfl
theorem gap_ge (a b : Int) (m : AMem) (h : ¬ a < b) (ha : 0 ≤ a ∧ a ≤ 255) (hb : 0 ≤ b ∧ b ≤ 255) : Ctr Try.prog 43 [.one (.int .u8 a), .one (.int .u8 b)] m (.one (.int .u8 (a - b))) m := by
  refine Ctr.enter Try.func43 rfl (by decide) (rs := [.tmp 4]) (nt := 13) rfl rfl fun hwf Q hQ => ?_
  have w : IntKind.u8.wrap (a - b) = a - b := u8i (by omega)
  refine AW.seq_k fun K hK => ?_
  refine AW.region (by decide) ?_
  simp only [push_cast, Nat.reduceAdd, Nat.reduceMul, Nat.reduceSub, Nat.reduceLeDiff, Nat.reduceLT, Nat.reduceEqDiff, Nat.reduceBEq, Nat.reduceBNe, Nat.reduceMod, Nat.reduceDiv, Int.reduceLE, Int.reduceLT, Int.reduceToNat, Int.reduceAdd, Int.reduceSub, Int.reduceMul, Int.reduceNeg, Int.reduceEq, Int.reduceBEq, Int.reduceBNe, ↓reduceIte, reduceCtorEq, String.reduceBNe, String.reduceEq, reduceDIte, Nat.reducePow, h, w]
  refine Thn_n ?_
  refine hK _ _ ?_
  clear hK K
  refine AW.seq_k fun K hK => ?_
  refine AW.seq_k fun K hK => ?_
  refine AW.region (by decide) ?_
  simp only [push_cast, Nat.reduceAdd, Nat.reduceMul, Nat.reduceSub, Nat.reduceLeDiff, Nat.reduceLT, Nat.reduceEqDiff, Nat.reduceBEq, Nat.reduceBNe, Nat.reduceMod, Nat.reduceDiv, Int.reduceLE, Int.reduceLT, Int.reduceToNat, Int.reduceAdd, Int.reduceSub, Int.reduceMul, Int.reduceNeg, Int.reduceEq, Int.reduceBEq, Int.reduceBNe, ↓reduceIte, reduceCtorEq, String.reduceBNe, String.reduceEq, reduceDIte, Nat.reducePow, h, w]
  refine Thn_n ?_
  refine hK _ _ ?_
  clear hK K
  refine AW.cond_f rfl ?_
  refine AW.skip ?_
  refine Thn_n ?_
  refine hK _ _ ?_
  clear hK K
  refine AW.seq_k fun K hK => ?_
  refine AW.region (by decide) ?_
  simp only [push_cast, Nat.reduceAdd, Nat.reduceMul, Nat.reduceSub, Nat.reduceLeDiff, Nat.reduceLT, Nat.reduceEqDiff, Nat.reduceBEq, Nat.reduceBNe, Nat.reduceMod, Nat.reduceDiv, Int.reduceLE, Int.reduceLT, Int.reduceToNat, Int.reduceAdd, Int.reduceSub, Int.reduceMul, Int.reduceNeg, Int.reduceEq, Int.reduceBEq, Int.reduceBNe, ↓reduceIte, reduceCtorEq, String.reduceBNe, String.reduceEq, reduceDIte, Nat.reducePow, h, w]
  refine Thn_n ?_
  refine hK _ _ ?_
  clear hK K
  refine AW.ret ?_
  refine hQ _ _ _ ?_
  first | refine RetP.drop0 (Or.inr rfl) ?_ ?_ hwf | refine RetP.drop (Or.inr rfl) ?_ ?_ hwf
  · simp only [resA, resOne, resTv, AV.tv, push_cast, Nat.reduceAdd, Nat.reduceMul, Nat.reduceSub, Nat.reduceLeDiff, Nat.reduceLT, Nat.reduceEqDiff, Nat.reduceBEq, Nat.reduceBNe, Nat.reduceMod, Nat.reduceDiv, Int.reduceLE, Int.reduceLT, Int.reduceToNat, Int.reduceAdd, Int.reduceSub, Int.reduceMul, Int.reduceNeg, Int.reduceEq, Int.reduceBEq, Int.reduceBNe, ↓reduceIte, reduceCtorEq, String.reduceBNe, String.reduceEq, reduceDIte, Nat.reducePow, h, w]
  · rfl
theorem gap_c (a b : Int) (m : AMem) (ha : 0 ≤ a ∧ a ≤ 255) (hb : 0 ≤ b ∧ b ≤ 255) : Ctr Try.prog 43 [.one (.int .u8 a), .one (.int .u8 b)] m (.one (.int .u8 (gapV a b))) m := by
  unfold gapV
  split
  · rename_i h; exact gap_lt a b m h ha hb
  · rename_i h; exact gap_ge a b m h ha hb
theorem apartd_c (w h r v r2 v2 n bp bq i : Nat) (A B : Nat → Nat → Int) (M : AMem) (hbp : M[bp]? = some ⟨.fix, 33, 0, 0, [.int .i64 (w : Int), .int .i64 (h : Int), .sl r v 0 n]⟩) (hbq : M[bq]? = some ⟨.fix, 33, 0, 0, [.int .i64 (w : Int), .int .i64 (h : Int), .sl r2 v2 0 n]⟩) (hp : PicAt M r v n A) (hq : PicAt M r2 v2 n B) (hu : ∀ i k, 0 ≤ A i k ∧ A i k ≤ 255) (hu2 : ∀ i k, 0 ≤ B i k ∧ B i k ≤ 255) (c : FlipOk w h n) (hi : i < n) : Ctr Try.prog 42 [.one (.int .i64 ((i : Int).tmod (w : Int))), .one (.int .i64 ((i : Int).tdiv (w : Int))), .one (.ptr bp 0 0), .one (.ptr bq 0 0)] M (.agg [.int .u8 (apartG A B i 0), .int .u8 (apartG A B i 1), .int .u8 (apartG A B i 2)]) M := by
  refine Ctr.enter Try.func42 rfl (by decide) (rs := [.cell 6 22]) (nt := 33) rfl rfl fun hwf Q hQ => ?_
  rw [tmodN, tdivN]
  have hj : i / w * w + i % w = i := (lin_at i w).symm
  have hcg : ∀ k, apartG A B i k = gapV (A i k) (B i k) := fun k => rfl
  have hnl := c.nl
  generalize i % w = x at *
  generalize i / w = y at *
  refine AW.seq_k fun K hK => ?_
  refine AW.region (by decide) ?_
  simp only [push_cast, Nat.reduceAdd, Nat.reduceMul, Nat.reduceSub, Nat.reduceLeDiff, Nat.reduceLT, Nat.reduceEqDiff, Nat.reduceBEq, Nat.reduceBNe, Nat.reduceMod, Nat.reduceDiv, Int.reduceLE, Int.reduceLT, Int.reduceToNat, Int.reduceAdd, Int.reduceSub, Int.reduceMul, Int.reduceNeg, Int.reduceEq, Int.reduceBEq, Int.reduceBNe, ↓reduceIte, reduceCtorEq, String.reduceBNe, String.reduceEq, reduceDIte, Nat.reducePow, hbp, lk_old hbp, hbq, lk_old hbq, hcg]
  refine Thn_n ?_
  refine hK _ _ ?_
  clear hK K
  refine AW.seq_k fun K hK => ?_
  refine AW.draw [.rd 0, .val, .val, .ext, .rd 0, .val, .val, .ext, .fl, .fl, .wr, .wr] fol (by decide) (by kernel_rfl) ?_
  simp only [push_cast, Nat.reduceAdd, Nat.reduceMul, Nat.reduceSub, Nat.reduceLeDiff, Nat.reduceLT, Nat.reduceEqDiff, Nat.reduceBEq, Nat.reduceBNe, Nat.reduceMod, Nat.reduceDiv, Int.reduceLE, Int.reduceLT, Int.reduceToNat, Int.reduceAdd, Int.reduceSub, Int.reduceMul, Int.reduceNeg, Int.reduceEq, Int.reduceBEq, Int.reduceBNe, ↓reduceIte, reduceCtorEq, String.reduceBNe, String.reduceEq, reduceDIte, Nat.reducePow, hbp, lk_old hbp, hbq, lk_old hbq, hcg]
  refine DCall.by0 (at_j _ _ _ _ x y i _ _ _ _ _ hj rfl rfl (hp.mono _) hi (by omega)) ?_
  simp only [push_cast, Nat.reduceAdd, Nat.reduceMul, Nat.reduceSub, Nat.reduceLeDiff, Nat.reduceLT, Nat.reduceEqDiff, Nat.reduceBEq, Nat.reduceBNe, Nat.reduceMod, Nat.reduceDiv, Int.reduceLE, Int.reduceLT, Int.reduceToNat, Int.reduceAdd, Int.reduceSub, Int.reduceMul, Int.reduceNeg, Int.reduceEq, Int.reduceBEq, Int.reduceBNe, ↓reduceIte, reduceCtorEq, String.reduceBNe, String.reduceEq, reduceDIte, Nat.reducePow, hbp, lk_old hbp, hbq, lk_old hbq, hcg]
  refine DCall.by0 (at_j _ _ _ _ x y i _ _ _ _ _ hj rfl rfl (hq.mono _) hi (by omega)) ?_
  simp only [push_cast, Nat.reduceAdd, Nat.reduceMul, Nat.reduceSub, Nat.reduceLeDiff, Nat.reduceLT, Nat.reduceEqDiff, Nat.reduceBEq, Nat.reduceBNe, Nat.reduceMod, Nat.reduceDiv, Int.reduceLE, Int.reduceLT, Int.reduceToNat, Int.reduceAdd, Int.reduceSub, Int.reduceMul, Int.reduceNeg, Int.reduceEq, Int.reduceBEq, Int.reduceBNe, ↓reduceIte, reduceCtorEq, String.reduceBNe, String.reduceEq, reduceDIte, Nat.reducePow, hbp, lk_old hbp, hbq, lk_old hbq, hcg]
  refine Thn_n ?_
  refine hK _ _ ?_
  clear hK K
  refine AW.seq_k fun K hK => ?_
  refine AW.draw [.val, .rd 0, .val, .rd 0, .ext, .val, .rd 0, .val, .rd 0, .ext, .val, .rd 0, .val, .rd 0, .ext, .val, .wr] fol (by decide) (by kernel_rfl) ?_
  iterate 3
    simp only [push_cast, Nat.reduceAdd, Nat.reduceMul, Nat.reduceSub, Nat.reduceLeDiff, Nat.reduceLT, Nat.reduceEqDiff, Nat.reduceBEq, Nat.reduceBNe, Nat.reduceMod, Nat.reduceDiv, Int.reduceLE, Int.reduceLT, Int.reduceToNat, Int.reduceAdd, Int.reduceSub, Int.reduceMul, Int.reduceNeg, Int.reduceEq, Int.reduceBEq, Int.reduceBNe, ↓reduceIte, reduceCtorEq, String.reduceBNe, String.reduceEq, reduceDIte, Nat.reducePow, hbp, lk_old hbp, hbq, lk_old hbq, hcg]
    refine DCall.by0 (gap_c _ _ _ (hu _ _) (hu2 _ _)) ?_
  simp only [push_cast, Nat.reduceAdd, Nat.reduceMul, Nat.reduceSub, Nat.reduceLeDiff, Nat.reduceLT, Nat.reduceEqDiff, Nat.reduceBEq, Nat.reduceBNe, Nat.reduceMod, Nat.reduceDiv, Int.reduceLE, Int.reduceLT, Int.reduceToNat, Int.reduceAdd, Int.reduceSub, Int.reduceMul, Int.reduceNeg, Int.reduceEq, Int.reduceBEq, Int.reduceBNe, ↓reduceIte, reduceCtorEq, String.reduceBNe, String.reduceEq, reduceDIte, Nat.reducePow, hbp, lk_old hbp, hbq, lk_old hbq, hcg]
  refine Thn_n ?_
  refine hK _ _ ?_
  clear hK K
  refine AW.ret ?_
  refine hQ _ _ _ ?_
  first | refine RetP.drop0 (Or.inr rfl) ?_ ?_ hwf | refine RetP.drop (Or.inr rfl) ?_ ?_ hwf
  · simp only [resA, resOne, resTv, AV.tv, push_cast, Nat.reduceAdd, Nat.reduceMul, Nat.reduceSub, Nat.reduceLeDiff, Nat.reduceLT, Nat.reduceEqDiff, Nat.reduceBEq, Nat.reduceBNe, Nat.reduceMod, Nat.reduceDiv, Int.reduceLE, Int.reduceLT, Int.reduceToNat, Int.reduceAdd, Int.reduceSub, Int.reduceMul, Int.reduceNeg, Int.reduceEq, Int.reduceBEq, Int.reduceBNe, ↓reduceIte, reduceCtorEq, String.reduceBNe, String.reduceEq, reduceDIte, Nat.reducePow, hbp, lk_old hbp, hbq, lk_old hbq, hcg]
  · rfl
theorem apart_ok (w h r v r2 v2 n : Nat) (A B : Nat → Nat → Int) (m : AMem) (hp : PicAt m r v n A) (hq : PicAt m r2 v2 n B) (hu : ∀ i k, 0 ≤ A i k ∧ A i k ≤ 255) (hu2 : ∀ i k, 0 ≤ B i k ∧ B i k ≤ 255) (c : FlipOk w h n) : Ctr Try.prog 14 [.agg [.int .i64 (w : Int), .int .i64 (h : Int), .sl r v 0 n], .agg [.int .i64 (w : Int), .int .i64 (h : Int), .sl r2 v2 0 n]] m (.tup [(true, [.int .i64 ((w : Int)), .int .i64 ((h : Int)), .sl m.length 0 0 (n)]), (false, [.int .i64 0])]) (m ++ [⟨.grow, 22, 0, 3, dl (n) (apartG A B)⟩]) := by
  refine Ctr.enter Try.func14 rfl (by decide) (rs := [.cell 4 33, .tmp 5]) (nt := 28) rfl rfl fun hwf Q hQ => ?_
  have hlt : ∀ k, ¬ m.length + k < m.length := fun k => by omega
  obtain ⟨kp, ez, hb⟩ := hp.hb
  have hr := get_lt hb
  obtain ⟨kp2, ez2, hb2⟩ := hq.hb
  have hr2 := get_lt hb2
  have p1 := c.hp
  have p2 := c.hs
  have hn := c.hn
  have hnl := c.nl
  
  refine AW.seq_k fun K hK => ?_
  refine AW.region (by decide) ?_
  simp only [push_cast, Nat.reduceAdd, Nat.reduceMul, Nat.reduceSub, Nat.reduceLeDiff, Nat.reduceLT, Nat.reduceEqDiff, Nat.reduceBEq, Nat.reduceBNe, Nat.reduceMod, Nat.reduceDiv, Int.reduceLE, Int.reduceLT, Int.reduceToNat, Int.reduceAdd, Int.reduceSub, Int.reduceMul, Int.reduceNeg, Int.reduceEq, Int.reduceBEq, Int.reduceBNe, ↓reduceIte, reduceCtorEq, String.reduceBNe, String.reduceEq, reduceDIte, Nat.reducePow, lk_old hb, lk_old hb2, p1]
  refine Thn_n ?_
  refine hK _ _ ?_
  clear hK K
  refine AW.seq_k fun K hK => ?_
  refine AW.seq_k fun K hK => ?_
  refine AW.region (by decide) ?_
  iterate 2
    simp only [push_cast, Nat.reduceAdd, Nat.reduceMul, Nat.reduceSub, Nat.reduceLeDiff, Nat.reduceLT, Nat.reduceEqDiff, Nat.reduceBEq, Nat.reduceBNe, Nat.reduceMod, Nat.reduceDiv, Int.reduceLE, Int.reduceLT, Int.reduceToNat, Int.reduceAdd, Int.reduceSub, Int.reduceMul, Int.reduceNeg, Int.reduceEq, Int.reduceBEq, Int.reduceBNe, ↓reduceIte, reduceCtorEq, String.reduceBNe, String.reduceEq, reduceDIte, Nat.reducePow, lk_old hb, lk_old hb2, p1]
    refine CThen.by (picRight_c _ _ _ _ _ _) ?_
  simp only [push_cast, Nat.reduceAdd, Nat.reduceMul, Nat.reduceSub, Nat.reduceLeDiff, Nat.reduceLT, Nat.reduceEqDiff, Nat.reduceBEq, Nat.reduceBNe, Nat.reduceMod, Nat.reduceDiv, Int.reduceLE, Int.reduceLT, Int.reduceToNat, Int.reduceAdd, Int.reduceSub, Int.reduceMul, Int.reduceNeg, Int.reduceEq, Int.reduceBEq, Int.reduceBNe, ↓reduceIte, reduceCtorEq, String.reduceBNe, String.reduceEq, reduceDIte, Nat.reducePow, lk_old hb, lk_old hb2, p1]
  refine Thn_n ?_
  refine hK _ _ ?_
  clear hK K
  refine AW.cond_f rfl ?_
  refine AW.skip ?_
  refine Thn_n ?_
  refine hK _ _ ?_
  clear hK K
  refine AW.seq_k fun K hK => ?_
  refine AW.region (by decide) ?_
  simp only [push_cast, Nat.reduceAdd, Nat.reduceMul, Nat.reduceSub, Nat.reduceLeDiff, Nat.reduceLT, Nat.reduceEqDiff, Nat.reduceBEq, Nat.reduceBNe, Nat.reduceMod, Nat.reduceDiv, Int.reduceLE, Int.reduceLT, Int.reduceToNat, Int.reduceAdd, Int.reduceSub, Int.reduceMul, Int.reduceNeg, Int.reduceEq, Int.reduceBEq, Int.reduceBNe, ↓reduceIte, reduceCtorEq, String.reduceBNe, String.reduceEq, reduceDIte, Nat.reducePow, lk_old hb, lk_old hb2, p1]
  refine CThen.by (make_c _ _ _ _ n (apartG A B) _ p2 (by rw [hn]; push_cast; rfl) (by simp [CV.below]) (fun i ex hi => by simp only [capsAV, List.map_cons, List.map_nil, List.cons_append, List.nil_append, List.append_assoc]; exact apartd_c w h r v r2 v2 n _ _ i A B _ (by simp only [push_cast, Nat.reduceAdd, Nat.reduceMul, Nat.reduceSub, Nat.reduceLeDiff, Nat.reduceLT, Nat.reduceEqDiff, Nat.reduceBEq, Nat.reduceBNe, Nat.reduceMod, Nat.reduceDiv, Int.reduceLE, Int.reduceLT, Int.reduceToNat, Int.reduceAdd, Int.reduceSub, Int.reduceMul, Int.reduceNeg, Int.reduceEq, Int.reduceBEq, Int.reduceBNe, ↓reduceIte, reduceCtorEq, String.reduceBNe, String.reduceEq, reduceDIte, Nat.reducePow]) (by simp only [push_cast, Nat.reduceAdd, Nat.reduceMul, Nat.reduceSub, Nat.reduceLeDiff, Nat.reduceLT, Nat.reduceEqDiff, Nat.reduceBEq, Nat.reduceBNe, Nat.reduceMod, Nat.reduceDiv, Int.reduceLE, Int.reduceLT, Int.reduceToNat, Int.reduceAdd, Int.reduceSub, Int.reduceMul, Int.reduceNeg, Int.reduceEq, Int.reduceBEq, Int.reduceBNe, ↓reduceIte, reduceCtorEq, String.reduceBNe, String.reduceEq, reduceDIte, Nat.reducePow]) (hp.mono _) (hq.mono _) hu hu2 c hi)) ?_
  simp only [push_cast, Nat.reduceAdd, Nat.reduceMul, Nat.reduceSub, Nat.reduceLeDiff, Nat.reduceLT, Nat.reduceEqDiff, Nat.reduceBEq, Nat.reduceBNe, Nat.reduceMod, Nat.reduceDiv, Int.reduceLE, Int.reduceLT, Int.reduceToNat, Int.reduceAdd, Int.reduceSub, Int.reduceMul, Int.reduceNeg, Int.reduceEq, Int.reduceBEq, Int.reduceBNe, ↓reduceIte, reduceCtorEq, String.reduceBNe, String.reduceEq, reduceDIte, Nat.reducePow, lk_old hb, lk_old hb2, p1]
  refine Thn_n ?_
  refine hK _ _ ?_
  clear hK K
  refine AW.ret ?_
  refine hQ _ _ _ ?_
  refine RetP.pick [(m.length + 3, 0)] (Or.inr rfl) ?_ ?_ ?_ hwf ?_
  · simp only [resA, resOne, resTv, AV.tv, push_cast, Nat.reduceAdd, Nat.reduceMul, Nat.reduceSub, Nat.reduceLeDiff, Nat.reduceLT, Nat.reduceEqDiff, Nat.reduceBEq, Nat.reduceBNe, Nat.reduceMod, Nat.reduceDiv, Int.reduceLE, Int.reduceLT, Int.reduceToNat, Int.reduceAdd, Int.reduceSub, Int.reduceMul, Int.reduceNeg, Int.reduceEq, Int.reduceBEq, Int.reduceBNe, ↓reduceIte, reduceCtorEq, String.reduceBNe, String.reduceEq, reduceDIte, Nat.reducePow]
    simp [renV, renT, renL, renC, renIdx, hlt]
  · simp only [picks, push_cast, Nat.reduceAdd, Nat.reduceMul, Nat.reduceSub, Nat.reduceLeDiff, Nat.reduceLT, Nat.reduceEqDiff, Nat.reduceBEq, Nat.reduceBNe, Nat.reduceMod, Nat.reduceDiv, Int.reduceLE, Int.reduceLT, Int.reduceToNat, Int.reduceAdd, Int.reduceSub, Int.reduceMul, Int.reduceNeg, Int.reduceEq, Int.reduceBEq, Int.reduceBNe, ↓reduceIte, reduceCtorEq, String.reduceBNe, String.reduceEq, reduceDIte, Nat.reducePow]
  · simp [distinctFrom]
  · exact MWf_one (dl_below _ _ _)
  
theorem apart_no (W H W2 H2 : Int) (r v n r2 v2 n2 : Nat) (m : AMem) (hbad : apartR W H n W2 H2 n2 = false) : Ctr Try.prog 14 [.agg [.int .i64 W, .int .i64 H, .sl r v 0 n], .agg [.int .i64 W2, .int .i64 H2, .sl r2 v2 0 n2]] m (.tup [(true, [.int .i64 0, .int .i64 0, .nils]), (false, [.int .i64 1])]) m := by
  refine Ctr.enter Try.func14 rfl (by decide) (rs := [.cell 4 33, .tmp 5]) (nt := 28) rfl rfl fun hwf Q hQ => ?_
  have mW : (W != W2) = !(W == W2) := rfl
  have mH : (H != H2) = !(H == H2) := rfl
  rcases chain4 (picR W H n = true) (picR W2 H2 n2 = true) ((W == W2) = true) ((H == H2) = true) with ⟨p1, p2, p3, p4⟩ | ⟨p1, p2, p3, p4⟩ | ⟨p1, p2, p3, p4⟩ | ⟨p1, p2, p3, p4⟩ | ⟨p1, p2, p3, p4⟩
  · exfalso
    rw [apartR, p1, p2, decide_eq_true (by simpa using p3), decide_eq_true (by simpa using p4)] at hbad; cases hbad
  all_goals (
  try simp only [Bool.not_eq_true, Bool.not_eq_false, Classical.not_not] at p1 p2 p3 p4
  refine AW.seq_k fun K hK => ?_
  refine AW.region (by decide) ?_
  simp only [push_cast, Nat.reduceAdd, Nat.reduceMul, Nat.reduceSub, Nat.reduceLeDiff, Nat.reduceLT, Nat.reduceEqDiff, Nat.reduceBEq, Nat.reduceBNe, Nat.reduceMod, Nat.reduceDiv, Int.reduceLE, Int.reduceLT, Int.reduceToNat, Int.reduceAdd, Int.reduceSub, Int.reduceMul, Int.reduceNeg, Int.reduceEq, Int.reduceBEq, Int.reduceBNe, ↓reduceIte, reduceCtorEq, String.reduceBNe, String.reduceEq, reduceDIte, Nat.reducePow, p1, p2, p3, p4, mW, mH]
  refine Thn_n ?_
  refine hK _ _ ?_
  clear hK K
  refine AW.seq_k fun K hK => ?_
  refine AW.seq_k fun K hK => ?_
  refine AW.region (by decide) ?_
  simp only [push_cast, Nat.reduceAdd, Nat.reduceMul, Nat.reduceSub, Nat.reduceLeDiff, Nat.reduceLT, Nat.reduceEqDiff, Nat.reduceBEq, Nat.reduceBNe, Nat.reduceMod, Nat.reduceDiv, Int.reduceLE, Int.reduceLT, Int.reduceToNat, Int.reduceAdd, Int.reduceSub, Int.reduceMul, Int.reduceNeg, Int.reduceEq, Int.reduceBEq, Int.reduceBNe, ↓reduceIte, reduceCtorEq, String.reduceBNe, String.reduceEq, reduceDIte, Nat.reducePow, p1, p2, p3, p4, mW, mH]
  try (refine CThen.by (picRight_c _ _ _ _ _ _) ?_; simp only [push_cast, Nat.reduceAdd, Nat.reduceMul, Nat.reduceSub, Nat.reduceLeDiff, Nat.reduceLT, Nat.reduceEqDiff, Nat.reduceBEq, Nat.reduceBNe, Nat.reduceMod, Nat.reduceDiv, Int.reduceLE, Int.reduceLT, Int.reduceToNat, Int.reduceAdd, Int.reduceSub, Int.reduceMul, Int.reduceNeg, Int.reduceEq, Int.reduceBEq, Int.reduceBNe, ↓reduceIte, reduceCtorEq, String.reduceBNe, String.reduceEq, reduceDIte, Nat.reducePow, p1, p2, p3, p4, mW, mH])
  try (refine CThen.by (picRight_c _ _ _ _ _ _) ?_; simp only [push_cast, Nat.reduceAdd, Nat.reduceMul, Nat.reduceSub, Nat.reduceLeDiff, Nat.reduceLT, Nat.reduceEqDiff, Nat.reduceBEq, Nat.reduceBNe, Nat.reduceMod, Nat.reduceDiv, Int.reduceLE, Int.reduceLT, Int.reduceToNat, Int.reduceAdd, Int.reduceSub, Int.reduceMul, Int.reduceNeg, Int.reduceEq, Int.reduceBEq, Int.reduceBNe, ↓reduceIte, reduceCtorEq, String.reduceBNe, String.reduceEq, reduceDIte, Nat.reducePow, p1, p2, p3, p4, mW, mH])
  refine Thn_n ?_
  refine hK _ _ ?_
  clear hK K
  refine AW.cond_t rfl ?_
  refine AW.seq_k fun K hK => ?_
  refine AW.region (by decide) ?_
  simp only [push_cast, Nat.reduceAdd, Nat.reduceMul, Nat.reduceSub, Nat.reduceLeDiff, Nat.reduceLT, Nat.reduceEqDiff, Nat.reduceBEq, Nat.reduceBNe, Nat.reduceMod, Nat.reduceDiv, Int.reduceLE, Int.reduceLT, Int.reduceToNat, Int.reduceAdd, Int.reduceSub, Int.reduceMul, Int.reduceNeg, Int.reduceEq, Int.reduceBEq, Int.reduceBNe, ↓reduceIte, reduceCtorEq, String.reduceBNe, String.reduceEq, reduceDIte, Nat.reducePow, p1, p2, p3, p4, mW, mH]
  refine Thn_n ?_
  refine hK _ _ ?_
  clear hK K
  refine AW.ret ?_
  refine Thn_r ?_
  refine hQ _ _ _ ?_
  first | refine RetP.drop0 (Or.inr rfl) ?_ ?_ hwf | refine RetP.drop (Or.inr rfl) ?_ ?_ hwf
  · simp only [resA, resOne, resTv, AV.tv, push_cast, Nat.reduceAdd, Nat.reduceMul, Nat.reduceSub, Nat.reduceLeDiff, Nat.reduceLT, Nat.reduceEqDiff, Nat.reduceBEq, Nat.reduceBNe, Nat.reduceMod, Nat.reduceDiv, Int.reduceLE, Int.reduceLT, Int.reduceToNat, Int.reduceAdd, Int.reduceSub, Int.reduceMul, Int.reduceNeg, Int.reduceEq, Int.reduceBEq, Int.reduceBNe, ↓reduceIte, reduceCtorEq, String.reduceBNe, String.reduceEq, reduceDIte, Nat.reducePow, p1, p2, p3, p4, mW, mH]
  · rfl
  )
theorem rapart_no (W H W2 H2 : Int) (r v n r2 v2 n2 : Nat) (m : AMem) (hbad : apartR W H n W2 H2 n2 = false) : Ctr Try.prog 15 [.agg [.int .i64 W, .int .i64 H, .sl r v 0 n], .agg [.int .i64 W2, .int .i64 H2, .sl r2 v2 0 n2]] m (.tup [(true, [.int .i64 0, .int .i64 0, .nils]), (false, [.int .i64 1])]) m := by
  refine Ctr.enter Try.func15 rfl (by decide) (rs := [.cell 4 29, .tmp 5]) (nt := 80) rfl rfl fun hwf Q hQ => ?_
  have mW : (W != W2) = !(W == W2) := rfl
  have mH : (H != H2) = !(H == H2) := rfl
  rcases chain4 (picR W H n = true) (picR W2 H2 n2 = true) ((W == W2) = true) ((H == H2) = true) with ⟨p1, p2, p3, p4⟩ | ⟨p1, p2, p3, p4⟩ | ⟨p1, p2, p3, p4⟩ | ⟨p1, p2, p3, p4⟩ | ⟨p1, p2, p3, p4⟩
  · exfalso
    rw [apartR, p1, p2, decide_eq_true (by simpa using p3), decide_eq_true (by simpa using p4)] at hbad; cases hbad
  all_goals (
  try simp only [Bool.not_eq_true, Bool.not_eq_false, Classical.not_not] at p1 p2 p3 p4
  refine AW.seq_k fun K hK => ?_
  refine AW.region (by decide) ?_
  simp only [push_cast, Nat.reduceAdd, Nat.reduceMul, Nat.reduceSub, Nat.reduceLeDiff, Nat.reduceLT, Nat.reduceEqDiff, Nat.reduceBEq, Nat.reduceBNe, Nat.reduceMod, Nat.reduceDiv, Int.reduceLE, Int.reduceLT, Int.reduceToNat, Int.reduceAdd, Int.reduceSub, Int.reduceMul, Int.reduceNeg, Int.reduceEq, Int.reduceBEq, Int.reduceBNe, ↓reduceIte, reduceCtorEq, String.reduceBNe, String.reduceEq, reduceDIte, Nat.reducePow, p1, p2, p3, p4, mW, mH]
  refine Thn_n ?_
  refine hK _ _ ?_
  clear hK K
  refine AW.seq_k fun K hK => ?_
  refine AW.seq_k fun K hK => ?_
  refine AW.region (by decide) ?_
  simp only [push_cast, Nat.reduceAdd, Nat.reduceMul, Nat.reduceSub, Nat.reduceLeDiff, Nat.reduceLT, Nat.reduceEqDiff, Nat.reduceBEq, Nat.reduceBNe, Nat.reduceMod, Nat.reduceDiv, Int.reduceLE, Int.reduceLT, Int.reduceToNat, Int.reduceAdd, Int.reduceSub, Int.reduceMul, Int.reduceNeg, Int.reduceEq, Int.reduceBEq, Int.reduceBNe, ↓reduceIte, reduceCtorEq, String.reduceBNe, String.reduceEq, reduceDIte, Nat.reducePow, p1, p2, p3, p4, mW, mH]
  try (refine CThen.by (refRight_c _ _ _ _ _ _) ?_; simp only [push_cast, Nat.reduceAdd, Nat.reduceMul, Nat.reduceSub, Nat.reduceLeDiff, Nat.reduceLT, Nat.reduceEqDiff, Nat.reduceBEq, Nat.reduceBNe, Nat.reduceMod, Nat.reduceDiv, Int.reduceLE, Int.reduceLT, Int.reduceToNat, Int.reduceAdd, Int.reduceSub, Int.reduceMul, Int.reduceNeg, Int.reduceEq, Int.reduceBEq, Int.reduceBNe, ↓reduceIte, reduceCtorEq, String.reduceBNe, String.reduceEq, reduceDIte, Nat.reducePow, p1, p2, p3, p4, mW, mH])
  try (refine CThen.by (refRight_c _ _ _ _ _ _) ?_; simp only [push_cast, Nat.reduceAdd, Nat.reduceMul, Nat.reduceSub, Nat.reduceLeDiff, Nat.reduceLT, Nat.reduceEqDiff, Nat.reduceBEq, Nat.reduceBNe, Nat.reduceMod, Nat.reduceDiv, Int.reduceLE, Int.reduceLT, Int.reduceToNat, Int.reduceAdd, Int.reduceSub, Int.reduceMul, Int.reduceNeg, Int.reduceEq, Int.reduceBEq, Int.reduceBNe, ↓reduceIte, reduceCtorEq, String.reduceBNe, String.reduceEq, reduceDIte, Nat.reducePow, p1, p2, p3, p4, mW, mH])
  refine Thn_n ?_
  refine hK _ _ ?_
  clear hK K
  refine AW.cond_t rfl ?_
  refine AW.seq_k fun K hK => ?_
  refine AW.region (by decide) ?_
  simp only [push_cast, Nat.reduceAdd, Nat.reduceMul, Nat.reduceSub, Nat.reduceLeDiff, Nat.reduceLT, Nat.reduceEqDiff, Nat.reduceBEq, Nat.reduceBNe, Nat.reduceMod, Nat.reduceDiv, Int.reduceLE, Int.reduceLT, Int.reduceToNat, Int.reduceAdd, Int.reduceSub, Int.reduceMul, Int.reduceNeg, Int.reduceEq, Int.reduceBEq, Int.reduceBNe, ↓reduceIte, reduceCtorEq, String.reduceBNe, String.reduceEq, reduceDIte, Nat.reducePow, p1, p2, p3, p4, mW, mH]
  refine Thn_n ?_
  refine hK _ _ ?_
  clear hK K
  refine AW.ret ?_
  refine Thn_r ?_
  refine hQ _ _ _ ?_
  first | refine RetP.drop0 (Or.inr rfl) ?_ ?_ hwf | refine RetP.drop (Or.inr rfl) ?_ ?_ hwf
  · simp only [resA, resOne, resTv, AV.tv, push_cast, Nat.reduceAdd, Nat.reduceMul, Nat.reduceSub, Nat.reduceLeDiff, Nat.reduceLT, Nat.reduceEqDiff, Nat.reduceBEq, Nat.reduceBNe, Nat.reduceMod, Nat.reduceDiv, Int.reduceLE, Int.reduceLT, Int.reduceToNat, Int.reduceAdd, Int.reduceSub, Int.reduceMul, Int.reduceNeg, Int.reduceEq, Int.reduceBEq, Int.reduceBNe, ↓reduceIte, reduceCtorEq, String.reduceBNe, String.reduceEq, reduceDIte, Nat.reducePow, p1, p2, p3, p4, mW, mH]
  · rfl
  )
theorem rapart_ok (w h r v r2 v2 n : Nat) (A B : Nat → Nat → Int) (m : AMem) (hp : PicAt m r v n A) (hq : PicAt m r2 v2 n B) (hu : ∀ i k, 0 ≤ A i k ∧ A i k ≤ 255) (hu2 : ∀ i k, 0 ≤ B i k ∧ B i k ≤ 255) (c : FlipOk w h n) : Ctr Try.prog 15 [.agg [.int .i64 (w : Int), .int .i64 (h : Int), .sl r v 0 n], .agg [.int .i64 (w : Int), .int .i64 (h : Int), .sl r2 v2 0 n]] m (.tup [(true, [.int .i64 ((w : Int)), .int .i64 ((h : Int)), .sl m.length 0 0 (n)]), (false, [.int .i64 0])]) (m ++ [⟨.grow, 22, 0, 3, dl (n) (apartG A B)⟩]) := by
  refine Ctr.enter Try.func15 rfl (by decide) (rs := [.cell 4 29, .tmp 5]) (nt := 80) rfl rfl fun hwf Q hQ => ?_
  have hlt : ∀ k, ¬ m.length + k < m.length := fun k => by omega
  obtain ⟨kp, ez, hb⟩ := hp.hb
  have hr := get_lt hb
  obtain ⟨kp2, ez2, hb2⟩ := hq.hb
  have hr2 := get_lt hb2
  have p1 := c.hp
  have p2 := c.hs
  have hn := c.hn
  have hnl := c.nl
  
  refine AW.seq_k fun K hK => ?_
  refine AW.region (by decide) ?_
  simp only [push_cast, Nat.reduceAdd, Nat.reduceMul, Nat.reduceSub, Nat.reduceLeDiff, Nat.reduceLT, Nat.reduceEqDiff, Nat.reduceBEq, Nat.reduceBNe, Nat.reduceMod, Nat.reduceDiv, Int.reduceLE, Int.reduceLT, Int.reduceToNat, Int.reduceAdd, Int.reduceSub, Int.reduceMul, Int.reduceNeg, Int.reduceEq, Int.reduceBEq, Int.reduceBNe, ↓reduceIte, reduceCtorEq, String.reduceBNe, String.reduceEq, reduceDIte, Nat.reducePow, lk_old hb, lk_old hb2, p1]
  refine Thn_n ?_
  refine hK _ _ ?_
  clear hK K
  refine AW.seq_k fun K hK => ?_
  refine AW.seq_k fun K hK => ?_
  refine AW.region (by decide) ?_
  iterate 2
    simp only [push_cast, Nat.reduceAdd, Nat.reduceMul, Nat.reduceSub, Nat.reduceLeDiff, Nat.reduceLT, Nat.reduceEqDiff, Nat.reduceBEq, Nat.reduceBNe, Nat.reduceMod, Nat.reduceDiv, Int.reduceLE, Int.reduceLT, Int.reduceToNat, Int.reduceAdd, Int.reduceSub, Int.reduceMul, Int.reduceNeg, Int.reduceEq, Int.reduceBEq, Int.reduceBNe, ↓reduceIte, reduceCtorEq, String.reduceBNe, String.reduceEq, reduceDIte, Nat.reducePow, lk_old hb, lk_old hb2, p1]
    refine CThen.by (refRight_c _ _ _ _ _ _) ?_
  simp only [push_cast, Nat.reduceAdd, Nat.reduceMul, Nat.reduceSub, Nat.reduceLeDiff, Nat.reduceLT, Nat.reduceEqDiff, Nat.reduceBEq, Nat.reduceBNe, Nat.reduceMod, Nat.reduceDiv, Int.reduceLE, Int.reduceLT, Int.reduceToNat, Int.reduceAdd, Int.reduceSub, Int.reduceMul, Int.reduceNeg, Int.reduceEq, Int.reduceBEq, Int.reduceBNe, ↓reduceIte, reduceCtorEq, String.reduceBNe, String.reduceEq, reduceDIte, Nat.reducePow, lk_old hb, lk_old hb2, p1]
  refine Thn_n ?_
  refine hK _ _ ?_
  clear hK K
  refine AW.cond_f rfl ?_
  refine AW.skip ?_
  refine Thn_n ?_
  refine hK _ _ ?_
  clear hK K
  refine AW.seq_k fun K hK => ?_
  refine AW.region (by decide) ?_
  simp only [push_cast, Nat.reduceAdd, Nat.reduceMul, Nat.reduceSub, Nat.reduceLeDiff, Nat.reduceLT, Nat.reduceEqDiff, Nat.reduceBEq, Nat.reduceBNe, Nat.reduceMod, Nat.reduceDiv, Int.reduceLE, Int.reduceLT, Int.reduceToNat, Int.reduceAdd, Int.reduceSub, Int.reduceMul, Int.reduceNeg, Int.reduceEq, Int.reduceBEq, Int.reduceBNe, ↓reduceIte, reduceCtorEq, String.reduceBNe, String.reduceEq, reduceDIte, Nat.reducePow, lk_old hb, lk_old hb2, p1]
  refine CThen.by (rplain_ok _ _ _ _ _ n _ p2 (by rw [hn]; push_cast; rfl)) ?_
  simp only [push_cast, Nat.reduceAdd, Nat.reduceMul, Nat.reduceSub, Nat.reduceLeDiff, Nat.reduceLT, Nat.reduceEqDiff, Nat.reduceBEq, Nat.reduceBNe, Nat.reduceMod, Nat.reduceDiv, Int.reduceLE, Int.reduceLT, Int.reduceToNat, Int.reduceAdd, Int.reduceSub, Int.reduceMul, Int.reduceNeg, Int.reduceEq, Int.reduceBEq, Int.reduceBNe, ↓reduceIte, reduceCtorEq, String.reduceBNe, String.reduceEq, reduceDIte, Nat.reducePow, lk_old hb, lk_old hb2, p1]
  refine Thn_n ?_
  refine hK _ _ ?_
  clear hK K
  refine AW.seq_k fun K hK => ?_
  refine AW.seq_k fun K hK => ?_
  refine AW.region (by decide) ?_
  simp only [push_cast, Nat.reduceAdd, Nat.reduceMul, Nat.reduceSub, Nat.reduceLeDiff, Nat.reduceLT, Nat.reduceEqDiff, Nat.reduceBEq, Nat.reduceBNe, Nat.reduceMod, Nat.reduceDiv, Int.reduceLE, Int.reduceLT, Int.reduceToNat, Int.reduceAdd, Int.reduceSub, Int.reduceMul, Int.reduceNeg, Int.reduceEq, Int.reduceBEq, Int.reduceBNe, ↓reduceIte, reduceCtorEq, String.reduceBNe, String.reduceEq, reduceDIte, Nat.reducePow, lk_old hb, lk_old hb2, p1]
  refine Thn_n ?_
  refine hK _ _ ?_
  clear hK K
  refine AW.block ?_
  refine AW.loopK [2, 3, 4, 6] (fun i => i ≤ n) (fun i => [(7, .one (.int .i64 (i : Int)))]) (fun i => [(m.length + 3, ⟨.grow, 22, 0, 3, dl n (fillT (apartG A B) (cD 0 0 0) i)⟩)]) (fun i => n - i) 0 (by omega) ?_ ?_ fun i hi7 => ?_
  · first | rfl | (simp only [Keeps, Tm.get_cons, Nat.reduceEqDiff, ↓reduceIte, if_true, if_false, ite_true, ite_false, true_and, and_true, and_self, reduceCtorEq, fill_none] <;> rfl)
  · first | rfl | (simp only [setAll, push_cast, Nat.reduceAdd, Nat.reduceMul, Nat.reduceSub, Nat.reduceLeDiff, Nat.reduceLT, Nat.reduceEqDiff, Nat.reduceBEq, Nat.reduceBNe, Nat.reduceMod, Nat.reduceDiv, Int.reduceLE, Int.reduceLT, Int.reduceToNat, Int.reduceAdd, Int.reduceSub, Int.reduceMul, Int.reduceNeg, Int.reduceEq, Int.reduceBEq, Int.reduceBNe, ↓reduceIte, reduceCtorEq, String.reduceBNe, String.reduceEq, reduceDIte, Nat.reducePow, lk_old hb, lk_old hb2, p1, fill_none] <;> rfl)
  try simp only [keepL, setAll, push_cast, Nat.reduceAdd, Nat.reduceMul, Nat.reduceSub, Nat.reduceLeDiff, Nat.reduceLT, Nat.reduceEqDiff, Nat.reduceBEq, Nat.reduceBNe, Nat.reduceMod, Nat.reduceDiv, Int.reduceLE, Int.reduceLT, Int.reduceToNat, Int.reduceAdd, Int.reduceSub, Int.reduceMul, Int.reduceNeg, Int.reduceEq, Int.reduceBEq, Int.reduceBNe, ↓reduceIte, reduceCtorEq, String.reduceBNe, String.reduceEq, reduceDIte, Nat.reducePow, lk_old hb, lk_old hb2, p1]
  refine AW.seq_k fun K hK => ?_
  refine AW.seq_k fun K hK => ?_
  refine AW.region (by decide) ?_
  simp only [push_cast, Nat.reduceAdd, Nat.reduceMul, Nat.reduceSub, Nat.reduceLeDiff, Nat.reduceLT, Nat.reduceEqDiff, Nat.reduceBEq, Nat.reduceBNe, Nat.reduceMod, Nat.reduceDiv, Int.reduceLE, Int.reduceLT, Int.reduceToNat, Int.reduceAdd, Int.reduceSub, Int.reduceMul, Int.reduceNeg, Int.reduceEq, Int.reduceBEq, Int.reduceBNe, ↓reduceIte, reduceCtorEq, String.reduceBNe, String.reduceEq, reduceDIte, Nat.reducePow, lk_old hb, lk_old hb2, p1]
  refine Thn_n ?_
  refine hK _ _ ?_
  clear hK K
  refine AW.cond rfl (fun h43 => ?_) (fun h43 => ?_)
  · have hlt2 : i < n := by have := of_decide_eq_true h43; omega
    have hi1 : (0 : Int) ≤ (i : Int) := by omega
    have hi2 : (i : Int) < (n : Int) := by omega
    have a0 := dl_get0 (G := A) hlt2
    have a1 := dl_get1 (G := A) hlt2
    have a2 := dl_get2 (G := A) hlt2
    have b0 := dl_get0 (G := B) hlt2
    have b1 := dl_get1 (G := B) hlt2
    have b2 := dl_get2 (G := B) hlt2
    have ua : ∀ k, IntKind.i64.wrap (A i k) = A i k := fun k => i64i (by have := hu i k; omega)
    have ub : ∀ k, IntKind.i64.wrap (B i k) = B i k := fun k => i64i (by have := hu2 i k; omega)
    have us : ∀ k, IntKind.i64.wrap (A i k - B i k) = A i k - B i k := fun k => i64i (by have := hu i k; have := hu2 i k; omega)
    have ug : ∀ k, IntKind.u8.wrap (gapV (A i k) (B i k)) = gapV (A i k) (B i k) := fun k => u8i (gapV_in (hu i k) (hu2 i k))
    have hlen := fun (g : Nat → Nat → Int) => dl_len n g
    have hle0 : i * 3 + 1 ≤ n * 3 := by omega
    have hle1 : i * 3 + 2 ≤ n * 3 := by omega
    have hle2 : i * 3 + 3 ≤ n * 3 := by omega
    have hst := fill_set3 (T := apartG A B) (D := cD 0 0 0) hlt2 rfl rfl rfl
    simp only [apartG] at hst
    refine AW.skip ?_
    refine Thn_n ?_
    refine hK _ _ ?_
    clear hK K
    refine AW.seq_k fun K hK => ?_
    refine AW.block ?_
    refine AW.seq_k fun K hK => ?_
    refine AW.region (by decide) ?_
    simp only [push_cast, Nat.reduceAdd, Nat.reduceMul, Nat.reduceSub, Nat.reduceLeDiff, Nat.reduceLT, Nat.reduceEqDiff, Nat.reduceBEq, Nat.reduceBNe, Nat.reduceMod, Nat.reduceDiv, Int.reduceLE, Int.reduceLT, Int.reduceToNat, Int.reduceAdd, Int.reduceSub, Int.reduceMul, Int.reduceNeg, Int.reduceEq, Int.reduceBEq, Int.reduceBNe, ↓reduceIte, reduceCtorEq, String.reduceBNe, String.reduceEq, reduceDIte, Nat.reducePow, lk_old hb, lk_old hb2, p1, hi1, hi2, a0, a1, a2, b0, b1, b2, ua, ub, us, ug, hlen, hle0, hle1, hle2]
    refine Thn_n ?_
    refine hK _ _ ?_
    clear hK K
    refine AW.block ?_
    refine AW.rounds 4 ?_
    refine ARounds.succ fun K hK => ?_
    refine AW.seq_k fun K hK => ?_
    refine AW.seq_k fun K hK => ?_
    refine AW.region (by decide) ?_
    simp only [push_cast, Nat.reduceAdd, Nat.reduceMul, Nat.reduceSub, Nat.reduceLeDiff, Nat.reduceLT, Nat.reduceEqDiff, Nat.reduceBEq, Nat.reduceBNe, Nat.reduceMod, Nat.reduceDiv, Int.reduceLE, Int.reduceLT, Int.reduceToNat, Int.reduceAdd, Int.reduceSub, Int.reduceMul, Int.reduceNeg, Int.reduceEq, Int.reduceBEq, Int.reduceBNe, ↓reduceIte, reduceCtorEq, String.reduceBNe, String.reduceEq, reduceDIte, Nat.reducePow, lk_old hb, lk_old hb2, p1, hi1, hi2, a0, a1, a2, b0, b1, b2, ua, ub, us, ug, hlen, hle0, hle1, hle2]
    refine Thn_n ?_
    refine hK _ _ ?_
    clear hK K
    refine AW.cond_t rfl ?_
    refine AW.skip ?_
    refine Thn_n ?_
    refine hK _ _ ?_
    clear hK K
    refine AW.seq_k fun K hK => ?_
    refine AW.block ?_
    refine AW.seq_k fun K hK => ?_
    refine AW.draw [.val, .rd 0, .val, .val, .val, .val, .rd 0, .val, .val, .rd 0, .val, .val, .val, .val, .rd 0, .val, .val, .val] fol (by decide) (by kernel_rfl) ?_
    simp only [push_cast, Nat.reduceAdd, Nat.reduceMul, Nat.reduceSub, Nat.reduceLeDiff, Nat.reduceLT, Nat.reduceEqDiff, Nat.reduceBEq, Nat.reduceBNe, Nat.reduceMod, Nat.reduceDiv, Int.reduceLE, Int.reduceLT, Int.reduceToNat, Int.reduceAdd, Int.reduceSub, Int.reduceMul, Int.reduceNeg, Int.reduceEq, Int.reduceBEq, Int.reduceBNe, ↓reduceIte, reduceCtorEq, String.reduceBNe, String.reduceEq, reduceDIte, Nat.reducePow, lk_old hb, lk_old hb2, p1, hi1, hi2, a0, a1, a2, b0, b1, b2, ua, ub, us, ug, hlen, hle0, hle1, hle2]
    refine Thn_n ?_
    refine hK _ _ ?_
    clear hK K
    refine AW.seq_k fun K hK => ?_
    refine AW.seq_k fun K hK => ?_
    refine AW.region (by decide) ?_
    simp only [push_cast, Nat.reduceAdd, Nat.reduceMul, Nat.reduceSub, Nat.reduceLeDiff, Nat.reduceLT, Nat.reduceEqDiff, Nat.reduceBEq, Nat.reduceBNe, Nat.reduceMod, Nat.reduceDiv, Int.reduceLE, Int.reduceLT, Int.reduceToNat, Int.reduceAdd, Int.reduceSub, Int.reduceMul, Int.reduceNeg, Int.reduceEq, Int.reduceBEq, Int.reduceBNe, ↓reduceIte, reduceCtorEq, String.reduceBNe, String.reduceEq, reduceDIte, Nat.reducePow, lk_old hb, lk_old hb2, p1, hi1, hi2, a0, a1, a2, b0, b1, b2, ua, ub, us, ug, hlen, hle0, hle1, hle2]
    refine Thn_n ?_
    refine hK _ _ ?_
    clear hK K
    refine AW.condJ rfl [2, 3, 4, 6, 7, 8] [(9, .one (.int .i64 (gapV (A i 0) (B i 0))))] [] (fun h68 => ?_) (fun h68 => ?_) ?_
    · have e : IntKind.i64.wrap (0 - (A i 0 - B i 0)) = gapV (A i 0) (B i 0) := by
        have h1 := of_decide_eq_true h68
        have h2 := hu i 0
        have h3 := hu2 i 0
        rw [i64i (by omega), gapV, if_pos (by omega)]; omega
      refine AW.region (by decide) ?_
      simp only [push_cast, Nat.reduceAdd, Nat.reduceMul, Nat.reduceSub, Nat.reduceLeDiff, Nat.reduceLT, Nat.reduceEqDiff, Nat.reduceBEq, Nat.reduceBNe, Nat.reduceMod, Nat.reduceDiv, Int.reduceLE, Int.reduceLT, Int.reduceToNat, Int.reduceAdd, Int.reduceSub, Int.reduceMul, Int.reduceNeg, Int.reduceEq, Int.reduceBEq, Int.reduceBNe, ↓reduceIte, reduceCtorEq, String.reduceBNe, String.reduceEq, reduceDIte, Nat.reducePow, lk_old hb, lk_old hb2, p1, hi1, hi2, a0, a1, a2, b0, b1, b2, ua, ub, us, ug, hlen, hle0, hle1, hle2]
      refine Thn_n ?_
      try simp only [keepL, setAll, push_cast, Nat.reduceAdd, Nat.reduceMul, Nat.reduceSub, Nat.reduceLeDiff, Nat.reduceLT, Nat.reduceEqDiff, Nat.reduceBEq, Nat.reduceBNe, Nat.reduceMod, Nat.reduceDiv, Int.reduceLE, Int.reduceLT, Int.reduceToNat, Int.reduceAdd, Int.reduceSub, Int.reduceMul, Int.reduceNeg, Int.reduceEq, Int.reduceBEq, Int.reduceBNe, ↓reduceIte, reduceCtorEq, String.reduceBNe, String.reduceEq, reduceDIte, Nat.reducePow, lk_old hb, lk_old hb2, p1, hi1, hi2, a0, a1, a2, b0, b1, b2, ua, ub, us, ug, hlen, hle0, hle1, hle2, e]
      exact Weak.same (by simp only [Keeps, Tm.get_cons, Nat.reduceEqDiff, ↓reduceIte, if_true, if_false, ite_true, ite_false, true_and, and_true, and_self, reduceCtorEq, e]) (by first | rfl | simp only [Keeps, Tm.get_cons, Nat.reduceEqDiff, ↓reduceIte, if_true, if_false, ite_true, ite_false, true_and, and_true, and_self, reduceCtorEq, e])
    · have e : A i 0 - B i 0 = gapV (A i 0) (B i 0) := by
        have h1 := of_decide_eq_false h68
        rw [gapV, if_neg (by omega)]
      refine AW.skip ?_
      refine Thn_n ?_
      try simp only [keepL, setAll, push_cast, Nat.reduceAdd, Nat.reduceMul, Nat.reduceSub, Nat.reduceLeDiff, Nat.reduceLT, Nat.reduceEqDiff, Nat.reduceBEq, Nat.reduceBNe, Nat.reduceMod, Nat.reduceDiv, Int.reduceLE, Int.reduceLT, Int.reduceToNat, Int.reduceAdd, Int.reduceSub, Int.reduceMul, Int.reduceNeg, Int.reduceEq, Int.reduceBEq, Int.reduceBNe, ↓reduceIte, reduceCtorEq, String.reduceBNe, String.reduceEq, reduceDIte, Nat.reducePow, lk_old hb, lk_old hb2, p1, hi1, hi2, a0, a1, a2, b0, b1, b2, ua, ub, us, ug, hlen, hle0, hle1, hle2, e]
      exact Weak.same (by simp only [Keeps, Tm.get_cons, Nat.reduceEqDiff, ↓reduceIte, if_true, if_false, ite_true, ite_false, true_and, and_true, and_self, reduceCtorEq, e]) (by first | rfl | simp only [Keeps, Tm.get_cons, Nat.reduceEqDiff, ↓reduceIte, if_true, if_false, ite_true, ite_false, true_and, and_true, and_self, reduceCtorEq, e])
    try simp only [keepL, setAll, push_cast, Nat.reduceAdd, Nat.reduceMul, Nat.reduceSub, Nat.reduceLeDiff, Nat.reduceLT, Nat.reduceEqDiff, Nat.reduceBEq, Nat.reduceBNe, Nat.reduceMod, Nat.reduceDiv, Int.reduceLE, Int.reduceLT, Int.reduceToNat, Int.reduceAdd, Int.reduceSub, Int.reduceMul, Int.reduceNeg, Int.reduceEq, Int.reduceBEq, Int.reduceBNe, ↓reduceIte, reduceCtorEq, String.reduceBNe, String.reduceEq, reduceDIte, Nat.reducePow, lk_old hb, lk_old hb2, p1, hi1, hi2, a0, a1, a2, b0, b1, b2, ua, ub, us, ug, hlen, hle0, hle1, hle2]
    refine Thn_n ?_
    refine hK _ _ ?_
    clear hK K
    refine AW.region (by decide) ?_
    simp only [push_cast, Nat.reduceAdd, Nat.reduceMul, Nat.reduceSub, Nat.reduceLeDiff, Nat.reduceLT, Nat.reduceEqDiff, Nat.reduceBEq, Nat.reduceBNe, Nat.reduceMod, Nat.reduceDiv, Int.reduceLE, Int.reduceLT, Int.reduceToNat, Int.reduceAdd, Int.reduceSub, Int.reduceMul, Int.reduceNeg, Int.reduceEq, Int.reduceBEq, Int.reduceBNe, ↓reduceIte, reduceCtorEq, String.reduceBNe, String.reduceEq, reduceDIte, Nat.reducePow, lk_old hb, lk_old hb2, p1, hi1, hi2, a0, a1, a2, b0, b1, b2, ua, ub, us, ug, hlen, hle0, hle1, hle2]
    refine InB_n ?_
    refine Thn_n ?_
    refine hK _ _ ?_
    clear hK K
    refine AW.region (by decide) ?_
    simp only [push_cast, Nat.reduceAdd, Nat.reduceMul, Nat.reduceSub, Nat.reduceLeDiff, Nat.reduceLT, Nat.reduceEqDiff, Nat.reduceBEq, Nat.reduceBNe, Nat.reduceMod, Nat.reduceDiv, Int.reduceLE, Int.reduceLT, Int.reduceToNat, Int.reduceAdd, Int.reduceSub, Int.reduceMul, Int.reduceNeg, Int.reduceEq, Int.reduceBEq, Int.reduceBNe, ↓reduceIte, reduceCtorEq, String.reduceBNe, String.reduceEq, reduceDIte, Nat.reducePow, lk_old hb, lk_old hb2, p1, hi1, hi2, a0, a1, a2, b0, b1, b2, ua, ub, us, ug, hlen, hle0, hle1, hle2]
    refine Thn_n ?_
    refine hK _ _ ?_
    clear hK K
    refine ARounds.succ fun K hK => ?_
    refine AW.seq_k fun K hK => ?_
    refine AW.seq_k fun K hK => ?_
    refine AW.region (by decide) ?_
    simp only [push_cast, Nat.reduceAdd, Nat.reduceMul, Nat.reduceSub, Nat.reduceLeDiff, Nat.reduceLT, Nat.reduceEqDiff, Nat.reduceBEq, Nat.reduceBNe, Nat.reduceMod, Nat.reduceDiv, Int.reduceLE, Int.reduceLT, Int.reduceToNat, Int.reduceAdd, Int.reduceSub, Int.reduceMul, Int.reduceNeg, Int.reduceEq, Int.reduceBEq, Int.reduceBNe, ↓reduceIte, reduceCtorEq, String.reduceBNe, String.reduceEq, reduceDIte, Nat.reducePow, lk_old hb, lk_old hb2, p1, hi1, hi2, a0, a1, a2, b0, b1, b2, ua, ub, us, ug, hlen, hle0, hle1, hle2]
    refine Thn_n ?_
    refine hK _ _ ?_
    clear hK K
    refine AW.cond_t rfl ?_
    refine AW.skip ?_
    refine Thn_n ?_
    refine hK _ _ ?_
    clear hK K
    refine AW.seq_k fun K hK => ?_
    refine AW.block ?_
    refine AW.seq_k fun K hK => ?_
    refine AW.draw [.val, .rd 0, .val, .val, .val, .val, .rd 0, .val, .val, .rd 0, .val, .val, .val, .val, .rd 0, .val, .val, .val] fol (by decide) (by kernel_rfl) ?_
    simp only [push_cast, Nat.reduceAdd, Nat.reduceMul, Nat.reduceSub, Nat.reduceLeDiff, Nat.reduceLT, Nat.reduceEqDiff, Nat.reduceBEq, Nat.reduceBNe, Nat.reduceMod, Nat.reduceDiv, Int.reduceLE, Int.reduceLT, Int.reduceToNat, Int.reduceAdd, Int.reduceSub, Int.reduceMul, Int.reduceNeg, Int.reduceEq, Int.reduceBEq, Int.reduceBNe, ↓reduceIte, reduceCtorEq, String.reduceBNe, String.reduceEq, reduceDIte, Nat.reducePow, lk_old hb, lk_old hb2, p1, hi1, hi2, a0, a1, a2, b0, b1, b2, ua, ub, us, ug, hlen, hle0, hle1, hle2]
    refine Thn_n ?_
    refine hK _ _ ?_
    clear hK K
    refine AW.seq_k fun K hK => ?_
    refine AW.seq_k fun K hK => ?_
    refine AW.region (by decide) ?_
    simp only [push_cast, Nat.reduceAdd, Nat.reduceMul, Nat.reduceSub, Nat.reduceLeDiff, Nat.reduceLT, Nat.reduceEqDiff, Nat.reduceBEq, Nat.reduceBNe, Nat.reduceMod, Nat.reduceDiv, Int.reduceLE, Int.reduceLT, Int.reduceToNat, Int.reduceAdd, Int.reduceSub, Int.reduceMul, Int.reduceNeg, Int.reduceEq, Int.reduceBEq, Int.reduceBNe, ↓reduceIte, reduceCtorEq, String.reduceBNe, String.reduceEq, reduceDIte, Nat.reducePow, lk_old hb, lk_old hb2, p1, hi1, hi2, a0, a1, a2, b0, b1, b2, ua, ub, us, ug, hlen, hle0, hle1, hle2]
    refine Thn_n ?_
    refine hK _ _ ?_
    clear hK K
    refine AW.condJ rfl [2, 3, 4, 6, 7, 8] [(9, .one (.int .i64 (gapV (A i 1) (B i 1))))] [] (fun h68 => ?_) (fun h68 => ?_) ?_
    · have e : IntKind.i64.wrap (0 - (A i 1 - B i 1)) = gapV (A i 1) (B i 1) := by
        have h1 := of_decide_eq_true h68
        have h2 := hu i 1
        have h3 := hu2 i 1
        rw [i64i (by omega), gapV, if_pos (by omega)]; omega
      refine AW.region (by decide) ?_
      simp only [push_cast, Nat.reduceAdd, Nat.reduceMul, Nat.reduceSub, Nat.reduceLeDiff, Nat.reduceLT, Nat.reduceEqDiff, Nat.reduceBEq, Nat.reduceBNe, Nat.reduceMod, Nat.reduceDiv, Int.reduceLE, Int.reduceLT, Int.reduceToNat, Int.reduceAdd, Int.reduceSub, Int.reduceMul, Int.reduceNeg, Int.reduceEq, Int.reduceBEq, Int.reduceBNe, ↓reduceIte, reduceCtorEq, String.reduceBNe, String.reduceEq, reduceDIte, Nat.reducePow, lk_old hb, lk_old hb2, p1, hi1, hi2, a0, a1, a2, b0, b1, b2, ua, ub, us, ug, hlen, hle0, hle1, hle2]
      refine Thn_n ?_
      try simp only [keepL, setAll, push_cast, Nat.reduceAdd, Nat.reduceMul, Nat.reduceSub, Nat.reduceLeDiff, Nat.reduceLT, Nat.reduceEqDiff, Nat.reduceBEq, Nat.reduceBNe, Nat.reduceMod, Nat.reduceDiv, Int.reduceLE, Int.reduceLT, Int.reduceToNat, Int.reduceAdd, Int.reduceSub, Int.reduceMul, Int.reduceNeg, Int.reduceEq, Int.reduceBEq, Int.reduceBNe, ↓reduceIte, reduceCtorEq, String.reduceBNe, String.reduceEq, reduceDIte, Nat.reducePow, lk_old hb, lk_old hb2, p1, hi1, hi2, a0, a1, a2, b0, b1, b2, ua, ub, us, ug, hlen, hle0, hle1, hle2, e]
      exact Weak.same (by simp only [Keeps, Tm.get_cons, Nat.reduceEqDiff, ↓reduceIte, if_true, if_false, ite_true, ite_false, true_and, and_true, and_self, reduceCtorEq, e]) (by first | rfl | simp only [Keeps, Tm.get_cons, Nat.reduceEqDiff, ↓reduceIte, if_true, if_false, ite_true, ite_false, true_and, and_true, and_self, reduceCtorEq, e])
    · have e : A i 1 - B i 1 = gapV (A i 1) (B i 1) := by
        have h1 := of_decide_eq_false h68
        rw [gapV, if_neg (by omega)]
      refine AW.skip ?_
      refine Thn_n ?_
      try simp only [keepL, setAll, push_cast, Nat.reduceAdd, Nat.reduceMul, Nat.reduceSub, Nat.reduceLeDiff, Nat.reduceLT, Nat.reduceEqDiff, Nat.reduceBEq, Nat.reduceBNe, Nat.reduceMod, Nat.reduceDiv, Int.reduceLE, Int.reduceLT, Int.reduceToNat, Int.reduceAdd, Int.reduceSub, Int.reduceMul, Int.reduceNeg, Int.reduceEq, Int.reduceBEq, Int.reduceBNe, ↓reduceIte, reduceCtorEq, String.reduceBNe, String.reduceEq, reduceDIte, Nat.reducePow, lk_old hb, lk_old hb2, p1, hi1, hi2, a0, a1, a2, b0, b1, b2, ua, ub, us, ug, hlen, hle0, hle1, hle2, e]
      exact Weak.same (by simp only [Keeps, Tm.get_cons, Nat.reduceEqDiff, ↓reduceIte, if_true, if_false, ite_true, ite_false, true_and, and_true, and_self, reduceCtorEq, e]) (by first | rfl | simp only [Keeps, Tm.get_cons, Nat.reduceEqDiff, ↓reduceIte, if_true, if_false, ite_true, ite_false, true_and, and_true, and_self, reduceCtorEq, e])
    try simp only [keepL, setAll, push_cast, Nat.reduceAdd, Nat.reduceMul, Nat.reduceSub, Nat.reduceLeDiff, Nat.reduceLT, Nat.reduceEqDiff, Nat.reduceBEq, Nat.reduceBNe, Nat.reduceMod, Nat.reduceDiv, Int.reduceLE, Int.reduceLT, Int.reduceToNat, Int.reduceAdd, Int.reduceSub, Int.reduceMul, Int.reduceNeg, Int.reduceEq, Int.reduceBEq, Int.reduceBNe, ↓reduceIte, reduceCtorEq, String.reduceBNe, String.reduceEq, reduceDIte, Nat.reducePow, lk_old hb, lk_old hb2, p1, hi1, hi2, a0, a1, a2, b0, b1, b2, ua, ub, us, ug, hlen, hle0, hle1, hle2]
    refine Thn_n ?_
    refine hK _ _ ?_
    clear hK K
    refine AW.region (by decide) ?_
    simp only [push_cast, Nat.reduceAdd, Nat.reduceMul, Nat.reduceSub, Nat.reduceLeDiff, Nat.reduceLT, Nat.reduceEqDiff, Nat.reduceBEq, Nat.reduceBNe, Nat.reduceMod, Nat.reduceDiv, Int.reduceLE, Int.reduceLT, Int.reduceToNat, Int.reduceAdd, Int.reduceSub, Int.reduceMul, Int.reduceNeg, Int.reduceEq, Int.reduceBEq, Int.reduceBNe, ↓reduceIte, reduceCtorEq, String.reduceBNe, String.reduceEq, reduceDIte, Nat.reducePow, lk_old hb, lk_old hb2, p1, hi1, hi2, a0, a1, a2, b0, b1, b2, ua, ub, us, ug, hlen, hle0, hle1, hle2]
    refine InB_n ?_
    refine Thn_n ?_
    refine hK _ _ ?_
    clear hK K
    refine AW.region (by decide) ?_
    simp only [push_cast, Nat.reduceAdd, Nat.reduceMul, Nat.reduceSub, Nat.reduceLeDiff, Nat.reduceLT, Nat.reduceEqDiff, Nat.reduceBEq, Nat.reduceBNe, Nat.reduceMod, Nat.reduceDiv, Int.reduceLE, Int.reduceLT, Int.reduceToNat, Int.reduceAdd, Int.reduceSub, Int.reduceMul, Int.reduceNeg, Int.reduceEq, Int.reduceBEq, Int.reduceBNe, ↓reduceIte, reduceCtorEq, String.reduceBNe, String.reduceEq, reduceDIte, Nat.reducePow, lk_old hb, lk_old hb2, p1, hi1, hi2, a0, a1, a2, b0, b1, b2, ua, ub, us, ug, hlen, hle0, hle1, hle2]
    refine Thn_n ?_
    refine hK _ _ ?_
    clear hK K
    refine ARounds.succ fun K hK => ?_
    refine AW.seq_k fun K hK => ?_
    refine AW.seq_k fun K hK => ?_
    refine AW.region (by decide) ?_
    simp only [push_cast, Nat.reduceAdd, Nat.reduceMul, Nat.reduceSub, Nat.reduceLeDiff, Nat.reduceLT, Nat.reduceEqDiff, Nat.reduceBEq, Nat.reduceBNe, Nat.reduceMod, Nat.reduceDiv, Int.reduceLE, Int.reduceLT, Int.reduceToNat, Int.reduceAdd, Int.reduceSub, Int.reduceMul, Int.reduceNeg, Int.reduceEq, Int.reduceBEq, Int.reduceBNe, ↓reduceIte, reduceCtorEq, String.reduceBNe, String.reduceEq, reduceDIte, Nat.reducePow, lk_old hb, lk_old hb2, p1, hi1, hi2, a0, a1, a2, b0, b1, b2, ua, ub, us, ug, hlen, hle0, hle1, hle2]
    refine Thn_n ?_
    refine hK _ _ ?_
    clear hK K
    refine AW.cond_t rfl ?_
    refine AW.skip ?_
    refine Thn_n ?_
    refine hK _ _ ?_
    clear hK K
    refine AW.seq_k fun K hK => ?_
    refine AW.block ?_
    refine AW.seq_k fun K hK => ?_
    refine AW.draw [.val, .rd 0, .val, .val, .val, .val, .rd 0, .val, .val, .rd 0, .val, .val, .val, .val, .rd 0, .val, .val, .val] fol (by decide) (by kernel_rfl) ?_
    simp only [push_cast, Nat.reduceAdd, Nat.reduceMul, Nat.reduceSub, Nat.reduceLeDiff, Nat.reduceLT, Nat.reduceEqDiff, Nat.reduceBEq, Nat.reduceBNe, Nat.reduceMod, Nat.reduceDiv, Int.reduceLE, Int.reduceLT, Int.reduceToNat, Int.reduceAdd, Int.reduceSub, Int.reduceMul, Int.reduceNeg, Int.reduceEq, Int.reduceBEq, Int.reduceBNe, ↓reduceIte, reduceCtorEq, String.reduceBNe, String.reduceEq, reduceDIte, Nat.reducePow, lk_old hb, lk_old hb2, p1, hi1, hi2, a0, a1, a2, b0, b1, b2, ua, ub, us, ug, hlen, hle0, hle1, hle2]
    refine Thn_n ?_
    refine hK _ _ ?_
    clear hK K
    refine AW.seq_k fun K hK => ?_
    refine AW.seq_k fun K hK => ?_
    refine AW.region (by decide) ?_
    simp only [push_cast, Nat.reduceAdd, Nat.reduceMul, Nat.reduceSub, Nat.reduceLeDiff, Nat.reduceLT, Nat.reduceEqDiff, Nat.reduceBEq, Nat.reduceBNe, Nat.reduceMod, Nat.reduceDiv, Int.reduceLE, Int.reduceLT, Int.reduceToNat, Int.reduceAdd, Int.reduceSub, Int.reduceMul, Int.reduceNeg, Int.reduceEq, Int.reduceBEq, Int.reduceBNe, ↓reduceIte, reduceCtorEq, String.reduceBNe, String.reduceEq, reduceDIte, Nat.reducePow, lk_old hb, lk_old hb2, p1, hi1, hi2, a0, a1, a2, b0, b1, b2, ua, ub, us, ug, hlen, hle0, hle1, hle2]
    refine Thn_n ?_
    refine hK _ _ ?_
    clear hK K
    refine AW.condJ rfl [2, 3, 4, 6, 7, 8] [(9, .one (.int .i64 (gapV (A i 2) (B i 2))))] [] (fun h68 => ?_) (fun h68 => ?_) ?_
    · have e : IntKind.i64.wrap (0 - (A i 2 - B i 2)) = gapV (A i 2) (B i 2) := by
        have h1 := of_decide_eq_true h68
        have h2 := hu i 2
        have h3 := hu2 i 2
        rw [i64i (by omega), gapV, if_pos (by omega)]; omega
      refine AW.region (by decide) ?_
      simp only [push_cast, Nat.reduceAdd, Nat.reduceMul, Nat.reduceSub, Nat.reduceLeDiff, Nat.reduceLT, Nat.reduceEqDiff, Nat.reduceBEq, Nat.reduceBNe, Nat.reduceMod, Nat.reduceDiv, Int.reduceLE, Int.reduceLT, Int.reduceToNat, Int.reduceAdd, Int.reduceSub, Int.reduceMul, Int.reduceNeg, Int.reduceEq, Int.reduceBEq, Int.reduceBNe, ↓reduceIte, reduceCtorEq, String.reduceBNe, String.reduceEq, reduceDIte, Nat.reducePow, lk_old hb, lk_old hb2, p1, hi1, hi2, a0, a1, a2, b0, b1, b2, ua, ub, us, ug, hlen, hle0, hle1, hle2]
      refine Thn_n ?_
      try simp only [keepL, setAll, push_cast, Nat.reduceAdd, Nat.reduceMul, Nat.reduceSub, Nat.reduceLeDiff, Nat.reduceLT, Nat.reduceEqDiff, Nat.reduceBEq, Nat.reduceBNe, Nat.reduceMod, Nat.reduceDiv, Int.reduceLE, Int.reduceLT, Int.reduceToNat, Int.reduceAdd, Int.reduceSub, Int.reduceMul, Int.reduceNeg, Int.reduceEq, Int.reduceBEq, Int.reduceBNe, ↓reduceIte, reduceCtorEq, String.reduceBNe, String.reduceEq, reduceDIte, Nat.reducePow, lk_old hb, lk_old hb2, p1, hi1, hi2, a0, a1, a2, b0, b1, b2, ua, ub, us, ug, hlen, hle0, hle1, hle2, e]
      exact Weak.same (by simp only [Keeps, Tm.get_cons, Nat.reduceEqDiff, ↓reduceIte, if_true, if_false, ite_true, ite_false, true_and, and_true, and_self, reduceCtorEq, e]) (by first | rfl | simp only [Keeps, Tm.get_cons, Nat.reduceEqDiff, ↓reduceIte, if_true, if_false, ite_true, ite_false, true_and, and_true, and_self, reduceCtorEq, e])
    · have e : A i 2 - B i 2 = gapV (A i 2) (B i 2) := by
        have h1 := of_decide_eq_false h68
        rw [gapV, if_neg (by omega)]
      refine AW.skip ?_
      refine Thn_n ?_
      try simp only [keepL, setAll, push_cast, Nat.reduceAdd, Nat.reduceMul, Nat.reduceSub, Nat.reduceLeDiff, Nat.reduceLT, Nat.reduceEqDiff, Nat.reduceBEq, Nat.reduceBNe, Nat.reduceMod, Nat.reduceDiv, Int.reduceLE, Int.reduceLT, Int.reduceToNat, Int.reduceAdd, Int.reduceSub, Int.reduceMul, Int.reduceNeg, Int.reduceEq, Int.reduceBEq, Int.reduceBNe, ↓reduceIte, reduceCtorEq, String.reduceBNe, String.reduceEq, reduceDIte, Nat.reducePow, lk_old hb, lk_old hb2, p1, hi1, hi2, a0, a1, a2, b0, b1, b2, ua, ub, us, ug, hlen, hle0, hle1, hle2, e]
      exact Weak.same (by simp only [Keeps, Tm.get_cons, Nat.reduceEqDiff, ↓reduceIte, if_true, if_false, ite_true, ite_false, true_and, and_true, and_self, reduceCtorEq, e]) (by first | rfl | simp only [Keeps, Tm.get_cons, Nat.reduceEqDiff, ↓reduceIte, if_true, if_false, ite_true, ite_false, true_and, and_true, and_self, reduceCtorEq, e])
    try simp only [keepL, setAll, push_cast, Nat.reduceAdd, Nat.reduceMul, Nat.reduceSub, Nat.reduceLeDiff, Nat.reduceLT, Nat.reduceEqDiff, Nat.reduceBEq, Nat.reduceBNe, Nat.reduceMod, Nat.reduceDiv, Int.reduceLE, Int.reduceLT, Int.reduceToNat, Int.reduceAdd, Int.reduceSub, Int.reduceMul, Int.reduceNeg, Int.reduceEq, Int.reduceBEq, Int.reduceBNe, ↓reduceIte, reduceCtorEq, String.reduceBNe, String.reduceEq, reduceDIte, Nat.reducePow, lk_old hb, lk_old hb2, p1, hi1, hi2, a0, a1, a2, b0, b1, b2, ua, ub, us, ug, hlen, hle0, hle1, hle2]
    refine Thn_n ?_
    refine hK _ _ ?_
    clear hK K
    refine AW.region (by decide) ?_
    simp only [push_cast, Nat.reduceAdd, Nat.reduceMul, Nat.reduceSub, Nat.reduceLeDiff, Nat.reduceLT, Nat.reduceEqDiff, Nat.reduceBEq, Nat.reduceBNe, Nat.reduceMod, Nat.reduceDiv, Int.reduceLE, Int.reduceLT, Int.reduceToNat, Int.reduceAdd, Int.reduceSub, Int.reduceMul, Int.reduceNeg, Int.reduceEq, Int.reduceBEq, Int.reduceBNe, ↓reduceIte, reduceCtorEq, String.reduceBNe, String.reduceEq, reduceDIte, Nat.reducePow, lk_old hb, lk_old hb2, p1, hi1, hi2, a0, a1, a2, b0, b1, b2, ua, ub, us, ug, hlen, hle0, hle1, hle2]
    refine InB_n ?_
    refine Thn_n ?_
    refine hK _ _ ?_
    clear hK K
    refine AW.region (by decide) ?_
    simp only [push_cast, Nat.reduceAdd, Nat.reduceMul, Nat.reduceSub, Nat.reduceLeDiff, Nat.reduceLT, Nat.reduceEqDiff, Nat.reduceBEq, Nat.reduceBNe, Nat.reduceMod, Nat.reduceDiv, Int.reduceLE, Int.reduceLT, Int.reduceToNat, Int.reduceAdd, Int.reduceSub, Int.reduceMul, Int.reduceNeg, Int.reduceEq, Int.reduceBEq, Int.reduceBNe, ↓reduceIte, reduceCtorEq, String.reduceBNe, String.reduceEq, reduceDIte, Nat.reducePow, lk_old hb, lk_old hb2, p1, hi1, hi2, a0, a1, a2, b0, b1, b2, ua, ub, us, ug, hlen, hle0, hle1, hle2]
    refine Thn_n ?_
    refine hK _ _ ?_
    clear hK K
    refine ARounds.succ fun K hK => ?_
    refine AW.seq_k fun K hK => ?_
    refine AW.seq_k fun K hK => ?_
    refine AW.region (by decide) ?_
    simp only [push_cast, Nat.reduceAdd, Nat.reduceMul, Nat.reduceSub, Nat.reduceLeDiff, Nat.reduceLT, Nat.reduceEqDiff, Nat.reduceBEq, Nat.reduceBNe, Nat.reduceMod, Nat.reduceDiv, Int.reduceLE, Int.reduceLT, Int.reduceToNat, Int.reduceAdd, Int.reduceSub, Int.reduceMul, Int.reduceNeg, Int.reduceEq, Int.reduceBEq, Int.reduceBNe, ↓reduceIte, reduceCtorEq, String.reduceBNe, String.reduceEq, reduceDIte, Nat.reducePow, lk_old hb, lk_old hb2, p1, hi1, hi2, a0, a1, a2, b0, b1, b2, ua, ub, us, ug, hlen, hle0, hle1, hle2]
    refine Thn_n ?_
    refine hK _ _ ?_
    clear hK K
    refine AW.cond_f rfl ?_
    refine AW.exit ?_
    refine Thn_e ?_
    clear hK K
    refine Thn_e ?_
    clear hK K
    refine InB_here ?_
    refine InB_n ?_
    refine Thn_n ?_
    refine hK _ _ ?_
    clear hK K
    refine AW.region (by decide) ?_
    simp only [push_cast, Nat.reduceAdd, Nat.reduceMul, Nat.reduceSub, Nat.reduceLeDiff, Nat.reduceLT, Nat.reduceEqDiff, Nat.reduceBEq, Nat.reduceBNe, Nat.reduceMod, Nat.reduceDiv, Int.reduceLE, Int.reduceLT, Int.reduceToNat, Int.reduceAdd, Int.reduceSub, Int.reduceMul, Int.reduceNeg, Int.reduceEq, Int.reduceBEq, Int.reduceBNe, ↓reduceIte, reduceCtorEq, String.reduceBNe, String.reduceEq, reduceDIte, Nat.reducePow, lk_old hb, lk_old hb2, p1, hi1, hi2, a0, a1, a2, b0, b1, b2, ua, ub, us, ug, hlen, hle0, hle1, hle2]
    refine Thn_n ?_
    have hwi : IntKind.i64.wrap ((i:Int)+1) = (i:Int)+1 := by rw [IntKind.wrap_i64]; omega
    refine ⟨i + 1, by omega, by omega, ?_⟩
    try simp only [keepL, setAll, push_cast, Nat.reduceAdd, Nat.reduceMul, Nat.reduceSub, Nat.reduceLeDiff, Nat.reduceLT, Nat.reduceEqDiff, Nat.reduceBEq, Nat.reduceBNe, Nat.reduceMod, Nat.reduceDiv, Int.reduceLE, Int.reduceLT, Int.reduceToNat, Int.reduceAdd, Int.reduceSub, Int.reduceMul, Int.reduceNeg, Int.reduceEq, Int.reduceBEq, Int.reduceBNe, ↓reduceIte, reduceCtorEq, String.reduceBNe, String.reduceEq, reduceDIte, Nat.reducePow, lk_old hb, lk_old hb2, p1, hi1, hi2, a0, a1, a2, b0, b1, b2, ua, ub, us, ug, hlen, hle0, hle1, hle2, hwi, hst]
    exact Weak.same (by simp only [Keeps, Tm.get_cons, Nat.reduceEqDiff, ↓reduceIte, if_true, if_false, ite_true, ite_false, true_and, and_true, and_self, reduceCtorEq, hwi, hst]) (by first | rfl | simp only [Keeps, Tm.get_cons, Nat.reduceEqDiff, ↓reduceIte, if_true, if_false, ite_true, ite_false, true_and, and_true, and_self, reduceCtorEq, hwi, hst])
  · have hie : n = i := by have := of_decide_eq_false h43; omega
    subst hie
    have hfin := fill_all (n := n) (T := apartG A B) (D := cD 0 0 0)
    refine AW.exit ?_
    refine Thn_e ?_
    clear hK K
    refine Thn_e ?_
    refine InB_here ?_
    refine Thn_n ?_
    refine hK _ _ ?_
    clear hK K
    refine AW.seq_k fun K hK => ?_
    refine AW.region (by decide) ?_
    simp only [push_cast, Nat.reduceAdd, Nat.reduceMul, Nat.reduceSub, Nat.reduceLeDiff, Nat.reduceLT, Nat.reduceEqDiff, Nat.reduceBEq, Nat.reduceBNe, Nat.reduceMod, Nat.reduceDiv, Int.reduceLE, Int.reduceLT, Int.reduceToNat, Int.reduceAdd, Int.reduceSub, Int.reduceMul, Int.reduceNeg, Int.reduceEq, Int.reduceBEq, Int.reduceBNe, ↓reduceIte, reduceCtorEq, String.reduceBNe, String.reduceEq, reduceDIte, Nat.reducePow, lk_old hb, lk_old hb2, p1, hfin]
    refine Thn_n ?_
    refine hK _ _ ?_
    clear hK K
    refine AW.ret ?_
    refine hQ _ _ _ ?_
    refine RetP.pick [(m.length + 3, 0)] (Or.inr rfl) ?_ ?_ ?_ hwf ?_
    · simp only [resA, resOne, resTv, AV.tv, push_cast, Nat.reduceAdd, Nat.reduceMul, Nat.reduceSub, Nat.reduceLeDiff, Nat.reduceLT, Nat.reduceEqDiff, Nat.reduceBEq, Nat.reduceBNe, Nat.reduceMod, Nat.reduceDiv, Int.reduceLE, Int.reduceLT, Int.reduceToNat, Int.reduceAdd, Int.reduceSub, Int.reduceMul, Int.reduceNeg, Int.reduceEq, Int.reduceBEq, Int.reduceBNe, ↓reduceIte, reduceCtorEq, String.reduceBNe, String.reduceEq, reduceDIte, Nat.reducePow]
      simp [renV, renT, renL, renC, renIdx, hlt]
    · simp only [picks, push_cast, Nat.reduceAdd, Nat.reduceMul, Nat.reduceSub, Nat.reduceLeDiff, Nat.reduceLT, Nat.reduceEqDiff, Nat.reduceBEq, Nat.reduceBNe, Nat.reduceMod, Nat.reduceDiv, Int.reduceLE, Int.reduceLT, Int.reduceToNat, Int.reduceAdd, Int.reduceSub, Int.reduceMul, Int.reduceNeg, Int.reduceEq, Int.reduceBEq, Int.reduceBNe, ↓reduceIte, reduceCtorEq, String.reduceBNe, String.reduceEq, reduceDIte, Nat.reducePow]
    · simp [distinctFrom]
    · exact MWf_one (dl_below _ _ _)
    
theorem apart_c (W H W2 H2 : Int) (r v n r2 v2 n2 : Nat) (A B : Nat → Nat → Int) (m : AMem) (hp : PicAt m r v n A) (hq : PicAt m r2 v2 n2 B) (hu : ∀ i k, 0 ≤ A i k ∧ A i k ≤ 255) (hu2 : ∀ i k, 0 ≤ B i k ∧ B i k ≤ 255) : Ctr Try.prog 14 [.agg [.int .i64 W, .int .i64 H, .sl r v 0 n], .agg [.int .i64 W2, .int .i64 H2, .sl r2 v2 0 n2]] m ((apartF W H n A W2 H2 n2 B).ret m.length) (m ++ [(apartF W H n A W2 H2 n2 B).blk]) := by
  unfold apartF
  split
  · rename_i hc
    simp only [apartR, Bool.and_eq_true, decide_eq_true_eq] at hc
    obtain ⟨h1, h2, rfl, rfl⟩ := hc
    obtain rfl := picR_n h1 h2
    obtain ⟨w, h, rfl, rfl, c⟩ := picR_flip h1
    exact apart_ok w h r v r2 v2 n A B m hp hq hu hu2 c
  · rename_i hc
    exact noP_of (apart_no W H W2 H2 r v n r2 v2 n2 m (by simpa using hc))
theorem rapart_c (W H W2 H2 : Int) (r v n r2 v2 n2 : Nat) (A B : Nat → Nat → Int) (m : AMem) (hp : PicAt m r v n A) (hq : PicAt m r2 v2 n2 B) (hu : ∀ i k, 0 ≤ A i k ∧ A i k ≤ 255) (hu2 : ∀ i k, 0 ≤ B i k ∧ B i k ≤ 255) : Ctr Try.prog 15 [.agg [.int .i64 W, .int .i64 H, .sl r v 0 n], .agg [.int .i64 W2, .int .i64 H2, .sl r2 v2 0 n2]] m ((apartF W H n A W2 H2 n2 B).ret m.length) (m ++ [(apartF W H n A W2 H2 n2 B).blk]) := by
  unfold apartF
  split
  · rename_i hc
    simp only [apartR, Bool.and_eq_true, decide_eq_true_eq] at hc
    obtain ⟨h1, h2, rfl, rfl⟩ := hc
    obtain rfl := picR_n h1 h2
    obtain ⟨w, h, rfl, rfl, c⟩ := picR_flip h1
    exact rapart_ok w h r v r2 v2 n A B m hp hq hu hu2 c
  · rename_i hc
    exact noP_of (rapart_no W H W2 H2 r v n r2 v2 n2 m (by simpa using hc))
end Go.Proofs.Ytgkmjcpcigklpaa
