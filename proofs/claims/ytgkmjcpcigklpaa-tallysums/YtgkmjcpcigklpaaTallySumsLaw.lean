/- TallySums answers true whatever it is given; no conditions. -/
import Derived.Test.YtgkmjcpcigklpaaTally
import Derived.Test.YtgkmjcpcigklpaaAwake32
import Derived.Test.YtgkmjcpcigklpaaPicRead
import Derived.Test.YtgkmjcpcigklpaaPartsLaw
import Derived.Test.YtgkmjcpcigklpaaRows
import Derived.WalkKit
import Derived.ProofKit
import Derived.OpenShut
import Derived.JoinedCond
set_option linter.unusedSimpArgs false
set_option linter.unusedVariables false
set_option maxRecDepth 100000
set_option maxHeartbeats 4000000
namespace Go.Proofs.Ytgkmjcpcigklpaa
open Go Go.Eng

def cnt (A : Nat → Nat → Int) (k : Nat) : Nat → Nat
  | 0 => 0
  | i + 1 => if bx A i = k then cnt A k i + 1 else cnt A k i
theorem cnt_le {A : Nat → Nat → Int} {k : Nat} : ∀ i : Nat, cnt A k i ≤ i
  | 0 => Nat.le_refl _
  | i + 1 => by have := cnt_le (A := A) (k := k) i; simp only [cnt]; split <;> omega
theorem bins_cnt {A : Nat → Nat → Int} : ∀ n : Nat, n ≤ 1048576 → (cst A n).b = fun k => (cnt A k n : Int)
  | 0, _ => by funext k; simp [cst, cnt]
  | n + 1, h => by
    funext k
    have ih := bins_cnt (A := A) n (by omega)
    have := cnt_le (A := A) (k := bx A n) n
    simp only [cst_s, upd, ih, cnt]
    by_cases hk : k = bx A n
    · subst hk; rw [if_pos rfl, if_pos rfl, IntKind.wrap_i64]; omega
    · rw [if_neg hk, if_neg (fun e => hk e.symm)]
theorem sumN_upd {f g : Nat → Nat} {j : Nat} (h : ∀ k, g k = if j = k then f k + 1 else f k) : ∀ K : Nat, sumN g K = sumN f K + if j < K then 1 else 0
  | 0 => by simp [sumN]
  | K + 1 => by
    have ih := sumN_upd h K
    simp only [sumN, ih, h K]
    by_cases e : j = K
    · subst e; simp; omega
    · rw [if_neg e]
      by_cases h1 : j < K
      · rw [if_pos h1, if_pos (by omega)]; omega
      · rw [if_neg h1, if_neg (by omega)]; omega
theorem sum_cnt {A : Nat → Nat → Int} (hu : ∀ i k, 0 ≤ A i k ∧ A i k ≤ 255) : ∀ n : Nat, sumN (fun k => cnt A k n) 16 = n
  | 0 => rfl
  | n + 1 => by
    have hb : bx A n < 16 := by have := br_in (hu n 0) (hu n 1) (hu n 2); unfold bx; omega
    rw [sumN_upd (f := fun k => cnt A k n) (j := bx A n) (fun k => by simp only [cnt]) 16, sum_cnt hu n, if_pos hb]
def sumF (f : Nat → Nat) : Nat → Nat → Nat
  | _, 0 => 0
  | k, c + 1 => f k + sumF f (k + 1) c
theorem sumF_eq (f : Nat → Nat) : ∀ c k : Nat, sumN f (k + c) = sumN f k + sumF f k c
  | 0, k => by simp [sumF]
  | c + 1, k => by
    have := sumF_eq f c (k + 1)
    rw [show k + (c + 1) = k + 1 + c by omega, this]
    simp only [sumN, sumF]; omega
theorem midr_pos {f : Nat → Nat} (hf : ∀ k, f k ≤ 1048576) : ∀ (c k : Nat) (left : Int), 0 ≤ left → left ≤ 1048576 → left < sumF f k c → ∃ kk, k ≤ kk ∧ kk < k + c ∧ midr (fun k => (f k : Int)) c k left = (kk : Int) ∧ 0 < f kk
  | 0, k, left, h0, _, h => by simp only [sumF] at h; omega
  | c + 1, k, left, h0, h1, h => by
    simp only [sumF] at h
    simp only [midr]
    have hk := hf k
    by_cases hl : left < (f k : Int)
    · rw [if_pos hl]; exact ⟨k, by omega, by omega, rfl, by omega⟩
    · rw [if_neg hl, show IntKind.i64.wrap (left - (f k : Int)) = left - (f k : Int) from i64i (by omega)]
      obtain ⟨kk, h2, h3, h4, h5⟩ := midr_pos hf c (k + 1) (left - (f k : Int)) (by omega) (by omega) (by omega)
      exact ⟨kk, by omega, by omega, h4, h5⟩
theorem mid_pos {A : Nat → Nat → Int} (hu : ∀ i k, 0 ≤ A i k ∧ A i k ≤ 255) {n : Nat} (h0 : 0 < n) (hn : n ≤ 4096) : ∃ kk : Nat, kk < 16 ∧ mid (n : Int) (cst A n).b = (kk : Int) ∧ 0 < cnt A kk n := by
  rw [mid, bins_cnt n (by omega)]
  have hs := sum_cnt hu n
  have hq := sumF_eq (fun k => cnt A k n) 16 0
  simp only [Nat.zero_add, sumN, Nat.zero_add] at hq
  have hl : IntKind.i64.wrap ((n : Int).tdiv 2) = ((n / 2 : Nat) : Int) := by rw [show (2 : Int) = ((2 : Nat) : Int) from rfl, tdivN, i64n (by omega)]
  rw [hl]
  obtain ⟨kk, h2, h3, h4, h5⟩ := midr_pos (f := fun k => cnt A k n) (fun k => by have := cnt_le (A := A) (k := k) n; omega) 16 0 ((n / 2 : Nat) : Int) (by omega) (by omega) (by
    simp only [sumN] at hs
    omega)
  exact ⟨kk, by omega, h4, h5⟩
structure Ch (n : Nat) (l m s : Int) : Prop where
  a : (n : Int) * l ≤ s
  b : s ≤ (n : Int) * m
  c : 0 ≤ l
  d : m ≤ 255
  e : 0 ≤ s
  f : s ≤ 255 * (n : Int)
theorem Ch.step {n : Nat} {l m s a : Int} (h : Ch n l m s) (hn : n ≤ 1048576) (ha : 0 ≤ a ∧ a ≤ 255) : Ch (n + 1) (minI l a) (maxI m a) (IntKind.i64.wrap (s + a)) := by
  have w : IntKind.i64.wrap (s + a) = s + a := i64i (by have := h.e; have := h.f; omega)
  have h1 : minI l a ≤ l ∧ minI l a ≤ a ∧ 0 ≤ minI l a := by have := h.c; simp only [minI]; split <;> omega
  have h2 : m ≤ maxI m a ∧ a ≤ maxI m a ∧ maxI m a ≤ 255 := by have := h.d; simp only [maxI]; split <;> omega
  have h3 := Int.mul_le_mul_of_nonneg_left h1.1 (show 0 ≤ (n : Int) by omega)
  have h4 := Int.mul_le_mul_of_nonneg_left h2.1 (show 0 ≤ (n : Int) by omega)
  have ha' := h.a
  have hb' := h.b
  have hf' := h.f
  have he' := h.e
  rw [w]
  refine ⟨?_, ?_, h1.2.2, h2.2.2, by omega, by push_cast; omega⟩
  · rw [Int.natCast_add, Int.add_mul]; omega
  · rw [Int.natCast_add, Int.add_mul]; omega
theorem ch_all {A : Nat → Nat → Int} (hu : ∀ i k, 0 ≤ A i k ∧ A i k ≤ 255) : ∀ n : Nat, n ≤ 1048576 → Ch n (cst A n).l0 (cst A n).m0 (cst A n).s0 ∧ Ch n (cst A n).l1 (cst A n).m1 (cst A n).s1 ∧ Ch n (cst A n).l2 (cst A n).m2 (cst A n).s2
  | 0, _ => by
    have h0 := hu 0 0
    have h1 := hu 0 1
    have h2 := hu 0 2
    refine ⟨⟨?_, ?_, ?_, ?_, ?_, ?_⟩, ⟨?_, ?_, ?_, ?_, ?_, ?_⟩, ⟨?_, ?_, ?_, ?_, ?_, ?_⟩⟩ <;> simp only [cst] <;> omega
  | n + 1, h => by
    obtain ⟨i0, i1, i2⟩ := ch_all hu n (by omega)
    simp only [cst_s]
    exact ⟨i0.step (by omega) (hu n 0), i1.step (by omega) (hu n 1), i2.step (by omega) (hu n 2)⟩
theorem Ch.mean {n : Nat} {l m s : Int} (h : Ch n l m s) (h0 : 0 < n) (hn : n ≤ 1048576) : l ≤ tmean n s ∧ tmean n s ≤ m := by
  have hm : maxI (n : Int) 1 = (n : Int) := by simp only [maxI]; split <;> omega
  have hq : s.tdiv (n : Int) = s / (n : Int) := Int.tdiv_eq_ediv_of_nonneg h.e
  have h1 : l ≤ s / (n : Int) := Int.le_ediv_of_mul_le (by omega) (by rw [Int.mul_comm]; exact h.a)
  have h2 : s / (n : Int) ≤ m := Int.ediv_le_of_le_mul (by omega) (by rw [Int.mul_comm]; exact h.b)
  have := h.c
  have := h.d
  rw [tmean, hm, hq, i64i (by omega), u8i (by omega)]
  exact ⟨h1, h2⟩
theorem gd_gap (a b : Int) : gdiff a b = gapV a b := by simp only [gdiff, maxI, gapV]; split <;> split <;> omega
theorem gst_s (A B : Nat → Nat → Int) (i : Nat) : (gst A B (i + 1)).s = IntKind.i64.wrap (IntKind.i64.wrap (IntKind.i64.wrap ((gst A B i).s + gdiff (A i 0) (B i 0)) + gdiff (A i 1) (B i 1)) + gdiff (A i 2) (B i 2)) ∧
    (gst A B (i + 1)).w = maxI (maxI (maxI (gst A B i).w (gdiff (A i 0) (B i 0))) (gdiff (A i 1) (B i 1))) (gdiff (A i 2) (B i 2)) := by
  simp only [gst, gdot, gbyte]; split <;> exact ⟨rfl, rfl⟩
theorem gst_sum {A B : Nat → Nat → Int} (hu : ∀ i k, 0 ≤ A i k ∧ A i k ≤ 255) (hu2 : ∀ i k, 0 ≤ B i k ∧ B i k ≤ 255) : ∀ n : Nat, n ≤ 1048576 → (gst A B n).s = (cst (apartG A B) n).s0 + (cst (apartG A B) n).s1 + (cst (apartG A B) n).s2
  | 0, _ => rfl
  | n + 1, h => by
    have hg : ∀ i k, 0 ≤ apartG A B i k ∧ apartG A B i k ≤ 255 := fun i k => gapV_in (hu i k) (hu2 i k)
    have ih := gst_sum hu hu2 n (by omega)
    obtain ⟨c0, c1, c2⟩ := ch_all hg n (by omega)
    have := c0.e
    have := c1.e
    have := c2.e
    have := c0.f
    have := c1.f
    have := c2.f
    have g0 := hg n 0
    have g1 := hg n 1
    have g2 := hg n 2
    rw [(gst_s A B n).1, ih]
    simp only [cst_s, gd_gap]
    have e0 : gapV (A n 0) (B n 0) = apartG A B n 0 := rfl
    have e1 : gapV (A n 1) (B n 1) = apartG A B n 1 := rfl
    have e2 : gapV (A n 2) (B n 2) = apartG A B n 2 := rfl
    simp only [e0, e1, e2]
    simp only [IntKind.wrap_i64]
    omega
theorem maxI_def (a b : Int) : maxI a b = if a < b then b else a := rfl
theorem gst_worst {A B : Nat → Nat → Int} (hu : ∀ i k, 0 ≤ A i k ∧ A i k ≤ 255) (hu2 : ∀ i k, 0 ≤ B i k ∧ B i k ≤ 255) : ∀ n : Nat, (gst A B (n + 1)).w = maxI (maxI (cst (apartG A B) (n + 1)).m0 (cst (apartG A B) (n + 1)).m1) (cst (apartG A B) (n + 1)).m2
  | 0 => by
    have g0 := gapV_in (hu 0 0) (hu2 0 0)
    have g1 := gapV_in (hu 0 1) (hu2 0 1)
    have g2 := gapV_in (hu 0 2) (hu2 0 2)
    rw [(gst_s A B 0).2]
    simp only [cst, gst, gd_gap, apartG]
    generalize gapV (A 0 0) (B 0 0) = a at *
    generalize gapV (A 0 1) (B 0 1) = b at *
    generalize gapV (A 0 2) (B 0 2) = c at *
    simp only [maxI_def]
    repeat' split
    all_goals omega
  | n + 1 => by
    have ih := gst_worst hu hu2 n
    rw [(gst_s A B (n + 1)).2, ih]
    rw [cst_s (i := n + 1)]
    simp only [gd_gap, apartG]
    generalize gapV (A (n + 1) 0) (B (n + 1) 0) = a
    generalize gapV (A (n + 1) 1) (B (n + 1) 1) = b
    generalize gapV (A (n + 1) 2) (B (n + 1) 2) = c
    generalize (cst (fun i k => gapV (A i k) (B i k)) (n + 1)).m0 = x
    generalize (cst (fun i k => gapV (A i k) (B i k)) (n + 1)).m1 = y
    generalize (cst (fun i k => gapV (A i k) (B i k)) (n + 1)).m2 = z
    simp only [maxI_def]
    repeat' split
    all_goals omega

theorem sums_a (W H W2 H2 : Int) (r1 n1 r2 n2 : Nat) (A B : Nat → Nat → Int) (m : AMem) (hp : PicIn m r1 n1 A) (hq : PicIn m r2 n2 B) (g1 : (5000 : Int) < (n1 : Int)) : Ctr Try.prog 5 [.agg [.int .i64 W, .int .i64 H, .sl r1 0 0 n1], .agg [.int .i64 W2, .int .i64 H2, .sl r2 0 0 n2]] m (.one (.bool true)) m := by
  refine Ctr.enter Try.func5 rfl (by decide) (rs := [.tmp 4]) (nt := 149) rfl rfl fun hwf Q hQ => ?_
  refine AW.seq_k fun K hK => ?_
  refine AW.region (by decide) ?_
  simp only [push_cast, Nat.reduceAdd, Nat.reduceMul, Nat.reduceSub, Nat.reduceLeDiff, Nat.reduceLT, Nat.reduceEqDiff, Nat.reduceBEq, Nat.reduceBNe, Nat.reduceMod, Nat.reduceDiv, Int.reduceLE, Int.reduceLT, Int.reduceToNat, Int.reduceAdd, Int.reduceSub, Int.reduceMul, Int.reduceNeg, Int.reduceEq, Int.reduceBEq, Int.reduceBNe, ↓reduceIte, reduceCtorEq, String.reduceBNe, String.reduceEq, reduceDIte, Nat.reducePow, g1]
  refine Thn_n ?_
  refine hK _ _ ?_
  clear hK K
  refine AW.seq_k fun K hK => ?_
  refine AW.seq_k fun K hK => ?_
  refine AW.region (by decide) ?_
  simp only [push_cast, Nat.reduceAdd, Nat.reduceMul, Nat.reduceSub, Nat.reduceLeDiff, Nat.reduceLT, Nat.reduceEqDiff, Nat.reduceBEq, Nat.reduceBNe, Nat.reduceMod, Nat.reduceDiv, Int.reduceLE, Int.reduceLT, Int.reduceToNat, Int.reduceAdd, Int.reduceSub, Int.reduceMul, Int.reduceNeg, Int.reduceEq, Int.reduceBEq, Int.reduceBNe, ↓reduceIte, reduceCtorEq, String.reduceBNe, String.reduceEq, reduceDIte, Nat.reducePow, g1]
  refine Thn_n ?_
  refine hK _ _ ?_
  clear hK K
  refine AW.cond_t rfl ?_
  refine AW.seq_k fun K hK => ?_
  refine AW.region (by decide) ?_
  simp only [push_cast, Nat.reduceAdd, Nat.reduceMul, Nat.reduceSub, Nat.reduceLeDiff, Nat.reduceLT, Nat.reduceEqDiff, Nat.reduceBEq, Nat.reduceBNe, Nat.reduceMod, Nat.reduceDiv, Int.reduceLE, Int.reduceLT, Int.reduceToNat, Int.reduceAdd, Int.reduceSub, Int.reduceMul, Int.reduceNeg, Int.reduceEq, Int.reduceBEq, Int.reduceBNe, ↓reduceIte, reduceCtorEq, String.reduceBNe, String.reduceEq, reduceDIte, Nat.reducePow, g1]
  refine CThen.by (awake32_c _) ?_
  simp only [push_cast, Nat.reduceAdd, Nat.reduceMul, Nat.reduceSub, Nat.reduceLeDiff, Nat.reduceLT, Nat.reduceEqDiff, Nat.reduceBEq, Nat.reduceBNe, Nat.reduceMod, Nat.reduceDiv, Int.reduceLE, Int.reduceLT, Int.reduceToNat, Int.reduceAdd, Int.reduceSub, Int.reduceMul, Int.reduceNeg, Int.reduceEq, Int.reduceBEq, Int.reduceBNe, ↓reduceIte, reduceCtorEq, String.reduceBNe, String.reduceEq, reduceDIte, Nat.reducePow, g1]
  refine Thn_n ?_
  refine hK _ _ ?_
  clear hK K
  refine AW.ret ?_
  refine Thn_r ?_
  refine hQ _ _ _ ?_
  first | refine RetP.drop0 (Or.inr rfl) ?_ ?_ hwf | refine RetP.drop (Or.inr rfl) ?_ ?_ hwf
  · simp only [resA, resOne, resTv, AV.tv, push_cast, Nat.reduceAdd, Nat.reduceMul, Nat.reduceSub, Nat.reduceLeDiff, Nat.reduceLT, Nat.reduceEqDiff, Nat.reduceBEq, Nat.reduceBNe, Nat.reduceMod, Nat.reduceDiv, Int.reduceLE, Int.reduceLT, Int.reduceToNat, Int.reduceAdd, Int.reduceSub, Int.reduceMul, Int.reduceNeg, Int.reduceEq, Int.reduceBEq, Int.reduceBNe, ↓reduceIte, reduceCtorEq, String.reduceBNe, String.reduceEq, reduceDIte, Nat.reducePow, g1]
  · rfl
theorem sums_b (W H W2 H2 : Int) (r1 n1 r2 n2 : Nat) (A B : Nat → Nat → Int) (m : AMem) (hp : PicIn m r1 n1 A) (hq : PicIn m r2 n2 B) (g1 : ¬ (5000 : Int) < (n1 : Int)) (g2 : (5000 : Int) < (n2 : Int)) : Ctr Try.prog 5 [.agg [.int .i64 W, .int .i64 H, .sl r1 0 0 n1], .agg [.int .i64 W2, .int .i64 H2, .sl r2 0 0 n2]] m (.one (.bool true)) m := by
  refine Ctr.enter Try.func5 rfl (by decide) (rs := [.tmp 4]) (nt := 149) rfl rfl fun hwf Q hQ => ?_
  refine AW.seq_k fun K hK => ?_
  refine AW.region (by decide) ?_
  simp only [push_cast, Nat.reduceAdd, Nat.reduceMul, Nat.reduceSub, Nat.reduceLeDiff, Nat.reduceLT, Nat.reduceEqDiff, Nat.reduceBEq, Nat.reduceBNe, Nat.reduceMod, Nat.reduceDiv, Int.reduceLE, Int.reduceLT, Int.reduceToNat, Int.reduceAdd, Int.reduceSub, Int.reduceMul, Int.reduceNeg, Int.reduceEq, Int.reduceBEq, Int.reduceBNe, ↓reduceIte, reduceCtorEq, String.reduceBNe, String.reduceEq, reduceDIte, Nat.reducePow, g1, g2]
  refine Thn_n ?_
  refine hK _ _ ?_
  clear hK K
  refine AW.seq_k fun K hK => ?_
  refine AW.seq_k fun K hK => ?_
  refine AW.region (by decide) ?_
  simp only [push_cast, Nat.reduceAdd, Nat.reduceMul, Nat.reduceSub, Nat.reduceLeDiff, Nat.reduceLT, Nat.reduceEqDiff, Nat.reduceBEq, Nat.reduceBNe, Nat.reduceMod, Nat.reduceDiv, Int.reduceLE, Int.reduceLT, Int.reduceToNat, Int.reduceAdd, Int.reduceSub, Int.reduceMul, Int.reduceNeg, Int.reduceEq, Int.reduceBEq, Int.reduceBNe, ↓reduceIte, reduceCtorEq, String.reduceBNe, String.reduceEq, reduceDIte, Nat.reducePow, g1, g2]
  refine Thn_n ?_
  refine hK _ _ ?_
  clear hK K
  refine AW.cond_t rfl ?_
  refine AW.seq_k fun K hK => ?_
  refine AW.region (by decide) ?_
  simp only [push_cast, Nat.reduceAdd, Nat.reduceMul, Nat.reduceSub, Nat.reduceLeDiff, Nat.reduceLT, Nat.reduceEqDiff, Nat.reduceBEq, Nat.reduceBNe, Nat.reduceMod, Nat.reduceDiv, Int.reduceLE, Int.reduceLT, Int.reduceToNat, Int.reduceAdd, Int.reduceSub, Int.reduceMul, Int.reduceNeg, Int.reduceEq, Int.reduceBEq, Int.reduceBNe, ↓reduceIte, reduceCtorEq, String.reduceBNe, String.reduceEq, reduceDIte, Nat.reducePow, g1, g2]
  refine CThen.by (awake32_c _) ?_
  simp only [push_cast, Nat.reduceAdd, Nat.reduceMul, Nat.reduceSub, Nat.reduceLeDiff, Nat.reduceLT, Nat.reduceEqDiff, Nat.reduceBEq, Nat.reduceBNe, Nat.reduceMod, Nat.reduceDiv, Int.reduceLE, Int.reduceLT, Int.reduceToNat, Int.reduceAdd, Int.reduceSub, Int.reduceMul, Int.reduceNeg, Int.reduceEq, Int.reduceBEq, Int.reduceBNe, ↓reduceIte, reduceCtorEq, String.reduceBNe, String.reduceEq, reduceDIte, Nat.reducePow, g1, g2]
  refine Thn_n ?_
  refine hK _ _ ?_
  clear hK K
  refine AW.ret ?_
  refine Thn_r ?_
  refine hQ _ _ _ ?_
  first | refine RetP.drop0 (Or.inr rfl) ?_ ?_ hwf | refine RetP.drop (Or.inr rfl) ?_ ?_ hwf
  · simp only [resA, resOne, resTv, AV.tv, push_cast, Nat.reduceAdd, Nat.reduceMul, Nat.reduceSub, Nat.reduceLeDiff, Nat.reduceLT, Nat.reduceEqDiff, Nat.reduceBEq, Nat.reduceBNe, Nat.reduceMod, Nat.reduceDiv, Int.reduceLE, Int.reduceLT, Int.reduceToNat, Int.reduceAdd, Int.reduceSub, Int.reduceMul, Int.reduceNeg, Int.reduceEq, Int.reduceBEq, Int.reduceBNe, ↓reduceIte, reduceCtorEq, String.reduceBNe, String.reduceEq, reduceDIte, Nat.reducePow, g1, g2]
  · rfl
theorem sums_c (W H W2 H2 : Int) (r1 n1 r2 n2 : Nat) (A B : Nat → Nat → Int) (m : AMem) (hp : PicIn m r1 n1 A) (hq : PicIn m r2 n2 B) (g1 : ¬ (5000 : Int) < (n1 : Int)) (g2 : ¬ (5000 : Int) < (n2 : Int)) (p1 : picR W H n1 = false) : Ctr Try.prog 5 [.agg [.int .i64 W, .int .i64 H, .sl r1 0 0 n1], .agg [.int .i64 W2, .int .i64 H2, .sl r2 0 0 n2]] m (.one (.bool true)) m := by
  refine Ctr.enter Try.func5 rfl (by decide) (rs := [.tmp 4]) (nt := 149) rfl rfl fun hwf Q hQ => ?_
  refine AW.seq_k fun K hK => ?_
  refine AW.region (by decide) ?_
  simp only [push_cast, Nat.reduceAdd, Nat.reduceMul, Nat.reduceSub, Nat.reduceLeDiff, Nat.reduceLT, Nat.reduceEqDiff, Nat.reduceBEq, Nat.reduceBNe, Nat.reduceMod, Nat.reduceDiv, Int.reduceLE, Int.reduceLT, Int.reduceToNat, Int.reduceAdd, Int.reduceSub, Int.reduceMul, Int.reduceNeg, Int.reduceEq, Int.reduceBEq, Int.reduceBNe, ↓reduceIte, reduceCtorEq, String.reduceBNe, String.reduceEq, reduceDIte, Nat.reducePow, g1, g2, p1]
  refine Thn_n ?_
  refine hK _ _ ?_
  clear hK K
  refine AW.seq_k fun K hK => ?_
  refine AW.seq_k fun K hK => ?_
  refine AW.region (by decide) ?_
  simp only [push_cast, Nat.reduceAdd, Nat.reduceMul, Nat.reduceSub, Nat.reduceLeDiff, Nat.reduceLT, Nat.reduceEqDiff, Nat.reduceBEq, Nat.reduceBNe, Nat.reduceMod, Nat.reduceDiv, Int.reduceLE, Int.reduceLT, Int.reduceToNat, Int.reduceAdd, Int.reduceSub, Int.reduceMul, Int.reduceNeg, Int.reduceEq, Int.reduceBEq, Int.reduceBNe, ↓reduceIte, reduceCtorEq, String.reduceBNe, String.reduceEq, reduceDIte, Nat.reducePow, g1, g2, p1]
  refine CThen.by (refRight_c _ _ _ _ _ _) ?_
  simp only [push_cast, Nat.reduceAdd, Nat.reduceMul, Nat.reduceSub, Nat.reduceLeDiff, Nat.reduceLT, Nat.reduceEqDiff, Nat.reduceBEq, Nat.reduceBNe, Nat.reduceMod, Nat.reduceDiv, Int.reduceLE, Int.reduceLT, Int.reduceToNat, Int.reduceAdd, Int.reduceSub, Int.reduceMul, Int.reduceNeg, Int.reduceEq, Int.reduceBEq, Int.reduceBNe, ↓reduceIte, reduceCtorEq, String.reduceBNe, String.reduceEq, reduceDIte, Nat.reducePow, g1, g2, p1]
  refine Thn_n ?_
  refine hK _ _ ?_
  clear hK K
  refine AW.cond_t rfl ?_
  refine AW.seq_k fun K hK => ?_
  refine AW.region (by decide) ?_
  simp only [push_cast, Nat.reduceAdd, Nat.reduceMul, Nat.reduceSub, Nat.reduceLeDiff, Nat.reduceLT, Nat.reduceEqDiff, Nat.reduceBEq, Nat.reduceBNe, Nat.reduceMod, Nat.reduceDiv, Int.reduceLE, Int.reduceLT, Int.reduceToNat, Int.reduceAdd, Int.reduceSub, Int.reduceMul, Int.reduceNeg, Int.reduceEq, Int.reduceBEq, Int.reduceBNe, ↓reduceIte, reduceCtorEq, String.reduceBNe, String.reduceEq, reduceDIte, Nat.reducePow, g1, g2, p1]
  refine CThen.by (awake32_c _) ?_
  simp only [push_cast, Nat.reduceAdd, Nat.reduceMul, Nat.reduceSub, Nat.reduceLeDiff, Nat.reduceLT, Nat.reduceEqDiff, Nat.reduceBEq, Nat.reduceBNe, Nat.reduceMod, Nat.reduceDiv, Int.reduceLE, Int.reduceLT, Int.reduceToNat, Int.reduceAdd, Int.reduceSub, Int.reduceMul, Int.reduceNeg, Int.reduceEq, Int.reduceBEq, Int.reduceBNe, ↓reduceIte, reduceCtorEq, String.reduceBNe, String.reduceEq, reduceDIte, Nat.reducePow, g1, g2, p1]
  refine Thn_n ?_
  refine hK _ _ ?_
  clear hK K
  refine AW.ret ?_
  refine Thn_r ?_
  refine hQ _ _ _ ?_
  first | refine RetP.drop0 (Or.inr rfl) ?_ ?_ hwf | refine RetP.drop (Or.inr rfl) ?_ ?_ hwf
  · simp only [resA, resOne, resTv, AV.tv, push_cast, Nat.reduceAdd, Nat.reduceMul, Nat.reduceSub, Nat.reduceLeDiff, Nat.reduceLT, Nat.reduceEqDiff, Nat.reduceBEq, Nat.reduceBNe, Nat.reduceMod, Nat.reduceDiv, Int.reduceLE, Int.reduceLT, Int.reduceToNat, Int.reduceAdd, Int.reduceSub, Int.reduceMul, Int.reduceNeg, Int.reduceEq, Int.reduceBEq, Int.reduceBNe, ↓reduceIte, reduceCtorEq, String.reduceBNe, String.reduceEq, reduceDIte, Nat.reducePow, g1, g2, p1]
  · rfl
theorem sums_d (W H W2 H2 : Int) (r1 n1 r2 n2 : Nat) (A B : Nat → Nat → Int) (m : AMem) (hp : PicIn m r1 n1 A) (hq : PicIn m r2 n2 B) (g1 : ¬ (5000 : Int) < (n1 : Int)) (g2 : ¬ (5000 : Int) < (n2 : Int)) (p1 : picR W H n1 = true) (p2 : picR W2 H2 n2 = false) : Ctr Try.prog 5 [.agg [.int .i64 W, .int .i64 H, .sl r1 0 0 n1], .agg [.int .i64 W2, .int .i64 H2, .sl r2 0 0 n2]] m (.one (.bool true)) m := by
  refine Ctr.enter Try.func5 rfl (by decide) (rs := [.tmp 4]) (nt := 149) rfl rfl fun hwf Q hQ => ?_
  have l1 : n1 ≤ 5000 := by omega
  have l2 : n2 ≤ 5000 := by omega
  obtain ⟨pw, ph, hW, hH, a1, a2, a3, a4, hn, hsz⟩ := picR_nat p1
  have n0 : 0 < n1 := by rw [hn]; exact Nat.mul_pos a1 a3
  have hn4 : n1 ≤ 4096 := by rw [hn]; exact wh_le a2 a4
  have hbn := bins_cnt (A := A) n1 (by omega)
  have hsum := sum_cnt hp.u n1
  obtain ⟨kk, hk, hmid, hpos⟩ := mid_pos hp.u n0 hn4
  obtain ⟨q0, q1, q2⟩ := ch_all hp.u n1 (by omega)
  have m0 := q0.mean n0 (by omega)
  have m1 := q1.mean n0 (by omega)
  have m2 := q2.mean n0 (by omega)
  have x0 : ¬ tmean (n1 : Int) (cst A n1).s0 < (cst A n1).l0 := by omega
  have x1 : ¬ tmean (n1 : Int) (cst A n1).s1 < (cst A n1).l1 := by omega
  have x2 : ¬ tmean (n1 : Int) (cst A n1).s2 < (cst A n1).l2 := by omega
  have y0 : ¬ (cst A n1).m0 < tmean (n1 : Int) (cst A n1).s0 := by omega
  have y1 : ¬ (cst A n1).m1 < tmean (n1 : Int) (cst A n1).s1 := by omega
  have y2 : ¬ (cst A n1).m2 < tmean (n1 : Int) (cst A n1).s2 := by omega
  have hk0 : (0 : Int) ≤ (kk : Int) := by omega
  have hk1 : (kk : Int) < (16 : Int) := by omega
  have gk := fun {x0 x1 x2 x3 x4 x5 x6 x7 x8 x9 : CV} {f : Nat → Int} => @bins_get x0 x1 x2 x3 x4 x5 x6 x7 x8 x9 f _ hk
  have hkb : ((cst A n1).b kk == 0) = false := by rw [hbn]; simp; omega
  have hap : apartF W H n1 A W2 H2 n2 B = noP := by
    rw [apartF, if_neg]
    simp only [apartR, p1, p2, Bool.false_and, Bool.and_false, Bool.true_and]
    exact fun h => by cases h
  refine AW.seq_k fun K hK => ?_
  refine AW.region (by decide) ?_
  simp only [push_cast, Nat.reduceAdd, Nat.reduceMul, Nat.reduceSub, Nat.reduceLeDiff, Nat.reduceLT, Nat.reduceEqDiff, Nat.reduceBEq, Nat.reduceBNe, Nat.reduceMod, Nat.reduceDiv, Int.reduceLE, Int.reduceLT, Int.reduceToNat, Int.reduceAdd, Int.reduceSub, Int.reduceMul, Int.reduceNeg, Int.reduceEq, Int.reduceBEq, Int.reduceBNe, ↓reduceIte, reduceCtorEq, String.reduceBNe, String.reduceEq, reduceDIte, Nat.reducePow, g1, g2, p1, C.cells, PE.ret, PE.pic, hap, noP]
  refine Thn_n ?_
  refine hK _ _ ?_
  clear hK K
  refine AW.seq_k fun K hK => ?_
  refine AW.seq_k fun K hK => ?_
  refine AW.region (by decide) ?_
  simp only [push_cast, Nat.reduceAdd, Nat.reduceMul, Nat.reduceSub, Nat.reduceLeDiff, Nat.reduceLT, Nat.reduceEqDiff, Nat.reduceBEq, Nat.reduceBNe, Nat.reduceMod, Nat.reduceDiv, Int.reduceLE, Int.reduceLT, Int.reduceToNat, Int.reduceAdd, Int.reduceSub, Int.reduceMul, Int.reduceNeg, Int.reduceEq, Int.reduceBEq, Int.reduceBNe, ↓reduceIte, reduceCtorEq, String.reduceBNe, String.reduceEq, reduceDIte, Nat.reducePow, g1, g2, p1, C.cells, PE.ret, PE.pic, hap, noP]
  refine CThen.by (refRight_c _ _ _ _ _ _) ?_
  simp only [push_cast, Nat.reduceAdd, Nat.reduceMul, Nat.reduceSub, Nat.reduceLeDiff, Nat.reduceLT, Nat.reduceEqDiff, Nat.reduceBEq, Nat.reduceBNe, Nat.reduceMod, Nat.reduceDiv, Int.reduceLE, Int.reduceLT, Int.reduceToNat, Int.reduceAdd, Int.reduceSub, Int.reduceMul, Int.reduceNeg, Int.reduceEq, Int.reduceBEq, Int.reduceBNe, ↓reduceIte, reduceCtorEq, String.reduceBNe, String.reduceEq, reduceDIte, Nat.reducePow, g1, g2, p1, C.cells, PE.ret, PE.pic, hap, noP]
  refine Thn_n ?_
  refine hK _ _ ?_
  clear hK K
  refine AW.cond_f rfl ?_
  refine AW.skip ?_
  refine Thn_n ?_
  refine hK _ _ ?_
  clear hK K
  refine AW.seq_k fun K hK => ?_
  refine AW.region (by decide) ?_
  simp only [push_cast, Nat.reduceAdd, Nat.reduceMul, Nat.reduceSub, Nat.reduceLeDiff, Nat.reduceLT, Nat.reduceEqDiff, Nat.reduceBEq, Nat.reduceBNe, Nat.reduceMod, Nat.reduceDiv, Int.reduceLE, Int.reduceLT, Int.reduceToNat, Int.reduceAdd, Int.reduceSub, Int.reduceMul, Int.reduceNeg, Int.reduceEq, Int.reduceBEq, Int.reduceBNe, ↓reduceIte, reduceCtorEq, String.reduceBNe, String.reduceEq, reduceDIte, Nat.reducePow, g1, g2, p1, C.cells, PE.ret, PE.pic, hap, noP]
  refine CThen.by (to_c _ _ _ _ _ A _ (hp.p.mono _) (by omega)) ?_
  simp only [push_cast, Nat.reduceAdd, Nat.reduceMul, Nat.reduceSub, Nat.reduceLeDiff, Nat.reduceLT, Nat.reduceEqDiff, Nat.reduceBEq, Nat.reduceBNe, Nat.reduceMod, Nat.reduceDiv, Int.reduceLE, Int.reduceLT, Int.reduceToNat, Int.reduceAdd, Int.reduceSub, Int.reduceMul, Int.reduceNeg, Int.reduceEq, Int.reduceBEq, Int.reduceBNe, ↓reduceIte, reduceCtorEq, String.reduceBNe, String.reduceEq, reduceDIte, Nat.reducePow, g1, g2, p1, C.cells, PE.ret, PE.pic, hap, noP]
  refine CThen.by (of_t _ _ _ _ _ .grow 3 _ (by simp only [push_cast, Nat.reduceAdd, Nat.reduceMul, Nat.reduceSub, Nat.reduceLeDiff, Nat.reduceLT, Nat.reduceEqDiff, Nat.reduceBEq, Nat.reduceBNe, Nat.reduceMod, Nat.reduceDiv, Int.reduceLE, Int.reduceLT, Int.reduceToNat, Int.reduceAdd, Int.reduceSub, Int.reduceMul, Int.reduceNeg, Int.reduceEq, Int.reduceBEq, Int.reduceBNe, ↓reduceIte, reduceCtorEq, String.reduceBNe, String.reduceEq, reduceDIte, Nat.reducePow, PE.blk]; first | done | rfl) _ (dots_dl hp.u) (by omega) p1 n0) ?_
  simp only [push_cast, Nat.reduceAdd, Nat.reduceMul, Nat.reduceSub, Nat.reduceLeDiff, Nat.reduceLT, Nat.reduceEqDiff, Nat.reduceBEq, Nat.reduceBNe, Nat.reduceMod, Nat.reduceDiv, Int.reduceLE, Int.reduceLT, Int.reduceToNat, Int.reduceAdd, Int.reduceSub, Int.reduceMul, Int.reduceNeg, Int.reduceEq, Int.reduceBEq, Int.reduceBNe, ↓reduceIte, reduceCtorEq, String.reduceBNe, String.reduceEq, reduceDIte, Nat.reducePow, g1, g2, p1, C.cells, PE.ret, PE.pic, hap, noP]
  refine Thn_n ?_
  refine hK _ _ ?_
  clear hK K
  refine AW.seq_k fun K hK => ?_
  refine AW.region (by decide) ?_
  simp only [push_cast, Nat.reduceAdd, Nat.reduceMul, Nat.reduceSub, Nat.reduceLeDiff, Nat.reduceLT, Nat.reduceEqDiff, Nat.reduceBEq, Nat.reduceBNe, Nat.reduceMod, Nat.reduceDiv, Int.reduceLE, Int.reduceLT, Int.reduceToNat, Int.reduceAdd, Int.reduceSub, Int.reduceMul, Int.reduceNeg, Int.reduceEq, Int.reduceBEq, Int.reduceBNe, ↓reduceIte, reduceCtorEq, String.reduceBNe, String.reduceEq, reduceDIte, Nat.reducePow, g1, g2, p1, C.cells, PE.ret, PE.pic, hap, noP]
  refine Thn_n ?_
  refine hK _ _ ?_
  clear hK K
  refine AW.seq_k fun K hK => ?_
  refine AW.seq_k fun K hK => ?_
  refine AW.region (by decide) ?_
  simp only [push_cast, Nat.reduceAdd, Nat.reduceMul, Nat.reduceSub, Nat.reduceLeDiff, Nat.reduceLT, Nat.reduceEqDiff, Nat.reduceBEq, Nat.reduceBNe, Nat.reduceMod, Nat.reduceDiv, Int.reduceLE, Int.reduceLT, Int.reduceToNat, Int.reduceAdd, Int.reduceSub, Int.reduceMul, Int.reduceNeg, Int.reduceEq, Int.reduceBEq, Int.reduceBNe, ↓reduceIte, reduceCtorEq, String.reduceBNe, String.reduceEq, reduceDIte, Nat.reducePow, g1, g2, p1, C.cells, PE.ret, PE.pic, hap, noP]
  refine Thn_n ?_
  refine hK _ _ ?_
  clear hK K
  refine AW.block ?_
  refine AW.loopK [2, 3, 5, 41] (fun i => i ≤ 16) (fun i => [(7, .one (.int .i64 ((sumN (fun k => cnt A k n1) i : Nat) : Int))), (42, .one (.int .i64 (i : Int)))]) (fun i => []) (fun i => 16 - i) 0 (by omega) ?_ ?_ fun i hi8 => ?_
  · first | rfl | (simp only [Keeps, Tm.get_cons, Nat.reduceEqDiff, ↓reduceIte, if_true, if_false, ite_true, ite_false, true_and, and_true, and_self, reduceCtorEq, sumN] <;> rfl)
  · first | rfl | (simp only [setAll, push_cast, Nat.reduceAdd, Nat.reduceMul, Nat.reduceSub, Nat.reduceLeDiff, Nat.reduceLT, Nat.reduceEqDiff, Nat.reduceBEq, Nat.reduceBNe, Nat.reduceMod, Nat.reduceDiv, Int.reduceLE, Int.reduceLT, Int.reduceToNat, Int.reduceAdd, Int.reduceSub, Int.reduceMul, Int.reduceNeg, Int.reduceEq, Int.reduceBEq, Int.reduceBNe, ↓reduceIte, reduceCtorEq, String.reduceBNe, String.reduceEq, reduceDIte, Nat.reducePow, g1, g2, p1, C.cells, PE.ret, PE.pic, hap, noP, sumN] <;> rfl)
  try simp only [keepL, setAll, push_cast, Nat.reduceAdd, Nat.reduceMul, Nat.reduceSub, Nat.reduceLeDiff, Nat.reduceLT, Nat.reduceEqDiff, Nat.reduceBEq, Nat.reduceBNe, Nat.reduceMod, Nat.reduceDiv, Int.reduceLE, Int.reduceLT, Int.reduceToNat, Int.reduceAdd, Int.reduceSub, Int.reduceMul, Int.reduceNeg, Int.reduceEq, Int.reduceBEq, Int.reduceBNe, ↓reduceIte, reduceCtorEq, String.reduceBNe, String.reduceEq, reduceDIte, Nat.reducePow, g1, g2, p1, C.cells, PE.ret, PE.pic, hap, noP]
  refine AW.seq_k fun K hK => ?_
  refine AW.region (by decide) ?_
  simp only [push_cast, Nat.reduceAdd, Nat.reduceMul, Nat.reduceSub, Nat.reduceLeDiff, Nat.reduceLT, Nat.reduceEqDiff, Nat.reduceBEq, Nat.reduceBNe, Nat.reduceMod, Nat.reduceDiv, Int.reduceLE, Int.reduceLT, Int.reduceToNat, Int.reduceAdd, Int.reduceSub, Int.reduceMul, Int.reduceNeg, Int.reduceEq, Int.reduceBEq, Int.reduceBNe, ↓reduceIte, reduceCtorEq, String.reduceBNe, String.reduceEq, reduceDIte, Nat.reducePow, g1, g2, p1, C.cells, PE.ret, PE.pic, hap, noP]
  refine Thn_n ?_
  refine hK _ _ ?_
  clear hK K
  refine AW.seq_k fun K hK => ?_
  refine AW.cond rfl (fun h43 => ?_) (fun h43 => ?_)
  · have hlt : i < 16 := by have := of_decide_eq_true h43; omega
    have c1 : (0 : Int) ≤ (i : Int) := by omega
    have c2 : (i : Int) < (16 : Int) := by omega
    have g1 := @bins_at (cst A n1).b _ hlt
    have hsw : IntKind.i64.wrap (((sumN (fun k => cnt A k n1) i : Nat) : Int) + (cst A n1).b i) = ((sumN (fun k => cnt A k n1) (i + 1) : Nat) : Int) := by
      rw [hbn]
      have e : sumN (fun k => cnt A k n1) (i + 1) = sumN (fun k => cnt A k n1) i + cnt A i n1 := rfl
      have h2 := sumF_eq (fun k => cnt A k n1) (16 - (i + 1)) (i + 1)
      rw [show i + 1 + (16 - (i + 1)) = 16 by omega, hsum] at h2
      rw [e] at h2
      rw [e, i64i (by simp only; omega)]; simp only; omega
    refine AW.skip ?_
    refine Thn_n ?_
    refine hK _ _ ?_
    clear hK K
    refine AW.seq_k fun K hK => ?_
    refine AW.block ?_
    refine AW.seq_k fun K hK => ?_
    refine AW.region (by decide) ?_
    simp only [push_cast, Nat.reduceAdd, Nat.reduceMul, Nat.reduceSub, Nat.reduceLeDiff, Nat.reduceLT, Nat.reduceEqDiff, Nat.reduceBEq, Nat.reduceBNe, Nat.reduceMod, Nat.reduceDiv, Int.reduceLE, Int.reduceLT, Int.reduceToNat, Int.reduceAdd, Int.reduceSub, Int.reduceMul, Int.reduceNeg, Int.reduceEq, Int.reduceBEq, Int.reduceBNe, ↓reduceIte, reduceCtorEq, String.reduceBNe, String.reduceEq, reduceDIte, Nat.reducePow, g1, g2, p1, C.cells, PE.ret, PE.pic, hap, noP, c1, c2, g1]
    refine Thn_n ?_
    refine hK _ _ ?_
    clear hK K
    refine AW.region (by decide) ?_
    simp only [push_cast, Nat.reduceAdd, Nat.reduceMul, Nat.reduceSub, Nat.reduceLeDiff, Nat.reduceLT, Nat.reduceEqDiff, Nat.reduceBEq, Nat.reduceBNe, Nat.reduceMod, Nat.reduceDiv, Int.reduceLE, Int.reduceLT, Int.reduceToNat, Int.reduceAdd, Int.reduceSub, Int.reduceMul, Int.reduceNeg, Int.reduceEq, Int.reduceBEq, Int.reduceBNe, ↓reduceIte, reduceCtorEq, String.reduceBNe, String.reduceEq, reduceDIte, Nat.reducePow, g1, g2, p1, C.cells, PE.ret, PE.pic, hap, noP, c1, c2, g1]
    refine InB_n ?_
    refine Thn_n ?_
    refine hK _ _ ?_
    clear hK K
    refine AW.region (by decide) ?_
    simp only [push_cast, Nat.reduceAdd, Nat.reduceMul, Nat.reduceSub, Nat.reduceLeDiff, Nat.reduceLT, Nat.reduceEqDiff, Nat.reduceBEq, Nat.reduceBNe, Nat.reduceMod, Nat.reduceDiv, Int.reduceLE, Int.reduceLT, Int.reduceToNat, Int.reduceAdd, Int.reduceSub, Int.reduceMul, Int.reduceNeg, Int.reduceEq, Int.reduceBEq, Int.reduceBNe, ↓reduceIte, reduceCtorEq, String.reduceBNe, String.reduceEq, reduceDIte, Nat.reducePow, g1, g2, p1, C.cells, PE.ret, PE.pic, hap, noP, c1, c2, g1]
    refine Thn_n ?_
    have hwi : IntKind.i64.wrap ((i:Int)+1) = (i:Int)+1 := by rw [IntKind.wrap_i64]; omega
    refine ⟨i + 1, by omega, by omega, ?_⟩
    try simp only [keepL, setAll, push_cast, Nat.reduceAdd, Nat.reduceMul, Nat.reduceSub, Nat.reduceLeDiff, Nat.reduceLT, Nat.reduceEqDiff, Nat.reduceBEq, Nat.reduceBNe, Nat.reduceMod, Nat.reduceDiv, Int.reduceLE, Int.reduceLT, Int.reduceToNat, Int.reduceAdd, Int.reduceSub, Int.reduceMul, Int.reduceNeg, Int.reduceEq, Int.reduceBEq, Int.reduceBNe, ↓reduceIte, reduceCtorEq, String.reduceBNe, String.reduceEq, reduceDIte, Nat.reducePow, g1, g2, p1, C.cells, PE.ret, PE.pic, hap, noP, c1, c2, g1, hwi, hsw]
    exact Weak.same (by simp only [Keeps, Tm.get_cons, Nat.reduceEqDiff, ↓reduceIte, if_true, if_false, ite_true, ite_false, true_and, and_true, and_self, reduceCtorEq, hwi, hsw]) (by first | rfl | simp only [Keeps, Tm.get_cons, Nat.reduceEqDiff, ↓reduceIte, if_true, if_false, ite_true, ite_false, true_and, and_true, and_self, reduceCtorEq, hwi, hsw])
  · have hi16 : i = 16 := by have := of_decide_eq_false h43; omega
    subst hi16
    refine AW.exit ?_
    refine Thn_e ?_
    clear hK K
    refine Thn_e ?_
    refine InB_here ?_
    refine Thn_n ?_
    refine hK _ _ ?_
    clear hK K
    refine AW.seq_k fun K hK => ?_
    refine AW.seq_k fun K hK => ?_
    refine AW.region (by decide) ?_
    simp only [push_cast, Nat.reduceAdd, Nat.reduceMul, Nat.reduceSub, Nat.reduceLeDiff, Nat.reduceLT, Nat.reduceEqDiff, Nat.reduceBEq, Nat.reduceBNe, Nat.reduceMod, Nat.reduceDiv, Int.reduceLE, Int.reduceLT, Int.reduceToNat, Int.reduceAdd, Int.reduceSub, Int.reduceMul, Int.reduceNeg, Int.reduceEq, Int.reduceBEq, Int.reduceBNe, ↓reduceIte, reduceCtorEq, String.reduceBNe, String.reduceEq, reduceDIte, Nat.reducePow, g1, g2, p1, C.cells, PE.ret, PE.pic, hap, noP, hsum, hmid, hk0, hk1, gk, hkb, x0, x1, x2, y0, y1, y2]
    refine CThen.by (tmean_c (n1 : Int) (cst A n1) _) ?_
    simp only [push_cast, Nat.reduceAdd, Nat.reduceMul, Nat.reduceSub, Nat.reduceLeDiff, Nat.reduceLT, Nat.reduceEqDiff, Nat.reduceBEq, Nat.reduceBNe, Nat.reduceMod, Nat.reduceDiv, Int.reduceLE, Int.reduceLT, Int.reduceToNat, Int.reduceAdd, Int.reduceSub, Int.reduceMul, Int.reduceNeg, Int.reduceEq, Int.reduceBEq, Int.reduceBNe, ↓reduceIte, reduceCtorEq, String.reduceBNe, String.reduceEq, reduceDIte, Nat.reducePow, g1, g2, p1, C.cells, PE.ret, PE.pic, hap, noP, hsum, hmid, hk0, hk1, gk, hkb, x0, x1, x2, y0, y1, y2]
    refine Thn_n ?_
    refine hK _ _ ?_
    clear hK K
    refine AW.block ?_
    refine AW.rounds 4 ?_
    iterate 3
      refine ARounds.succ fun K hK => ?_
      refine AW.seq_k fun K hK => ?_
      refine AW.region (by decide) ?_
      simp only [push_cast, Nat.reduceAdd, Nat.reduceMul, Nat.reduceSub, Nat.reduceLeDiff, Nat.reduceLT, Nat.reduceEqDiff, Nat.reduceBEq, Nat.reduceBNe, Nat.reduceMod, Nat.reduceDiv, Int.reduceLE, Int.reduceLT, Int.reduceToNat, Int.reduceAdd, Int.reduceSub, Int.reduceMul, Int.reduceNeg, Int.reduceEq, Int.reduceBEq, Int.reduceBNe, ↓reduceIte, reduceCtorEq, String.reduceBNe, String.reduceEq, reduceDIte, Nat.reducePow, g1, g2, p1, C.cells, PE.ret, PE.pic, hap, noP, hsum, hmid, hk0, hk1, gk, hkb, x0, x1, x2, y0, y1, y2]
      refine Thn_n ?_
      refine hK _ _ ?_
      clear hK K
      refine AW.seq_k fun K hK => ?_
      refine AW.cond_t rfl ?_
      refine AW.skip ?_
      refine Thn_n ?_
      refine hK _ _ ?_
      clear hK K
      refine AW.seq_k fun K hK => ?_
      refine AW.block ?_
      refine AW.seq_k fun K hK => ?_
      refine AW.region (by decide) ?_
      simp only [push_cast, Nat.reduceAdd, Nat.reduceMul, Nat.reduceSub, Nat.reduceLeDiff, Nat.reduceLT, Nat.reduceEqDiff, Nat.reduceBEq, Nat.reduceBNe, Nat.reduceMod, Nat.reduceDiv, Int.reduceLE, Int.reduceLT, Int.reduceToNat, Int.reduceAdd, Int.reduceSub, Int.reduceMul, Int.reduceNeg, Int.reduceEq, Int.reduceBEq, Int.reduceBNe, ↓reduceIte, reduceCtorEq, String.reduceBNe, String.reduceEq, reduceDIte, Nat.reducePow, g1, g2, p1, C.cells, PE.ret, PE.pic, hap, noP, hsum, hmid, hk0, hk1, gk, hkb, x0, x1, x2, y0, y1, y2]
      refine Thn_n ?_
      refine hK _ _ ?_
      clear hK K
      refine AW.seq_k fun K hK => ?_
      refine AW.region (by decide) ?_
      simp only [push_cast, Nat.reduceAdd, Nat.reduceMul, Nat.reduceSub, Nat.reduceLeDiff, Nat.reduceLT, Nat.reduceEqDiff, Nat.reduceBEq, Nat.reduceBNe, Nat.reduceMod, Nat.reduceDiv, Int.reduceLE, Int.reduceLT, Int.reduceToNat, Int.reduceAdd, Int.reduceSub, Int.reduceMul, Int.reduceNeg, Int.reduceEq, Int.reduceBEq, Int.reduceBNe, ↓reduceIte, reduceCtorEq, String.reduceBNe, String.reduceEq, reduceDIte, Nat.reducePow, g1, g2, p1, C.cells, PE.ret, PE.pic, hap, noP, hsum, hmid, hk0, hk1, gk, hkb, x0, x1, x2, y0, y1, y2]
      refine Thn_n ?_
      refine hK _ _ ?_
      clear hK K
      refine AW.cond_f rfl ?_
      refine AW.skip ?_
      refine InB_n ?_
      refine Thn_n ?_
      refine hK _ _ ?_
      clear hK K
      refine AW.region (by decide) ?_
      simp only [push_cast, Nat.reduceAdd, Nat.reduceMul, Nat.reduceSub, Nat.reduceLeDiff, Nat.reduceLT, Nat.reduceEqDiff, Nat.reduceBEq, Nat.reduceBNe, Nat.reduceMod, Nat.reduceDiv, Int.reduceLE, Int.reduceLT, Int.reduceToNat, Int.reduceAdd, Int.reduceSub, Int.reduceMul, Int.reduceNeg, Int.reduceEq, Int.reduceBEq, Int.reduceBNe, ↓reduceIte, reduceCtorEq, String.reduceBNe, String.reduceEq, reduceDIte, Nat.reducePow, g1, g2, p1, C.cells, PE.ret, PE.pic, hap, noP, hsum, hmid, hk0, hk1, gk, hkb, x0, x1, x2, y0, y1, y2]
      refine Thn_n ?_
      refine hK _ _ ?_
      clear hK K
    refine ARounds.succ fun K hK => ?_
    refine AW.seq_k fun K hK => ?_
    refine AW.region (by decide) ?_
    simp only [push_cast, Nat.reduceAdd, Nat.reduceMul, Nat.reduceSub, Nat.reduceLeDiff, Nat.reduceLT, Nat.reduceEqDiff, Nat.reduceBEq, Nat.reduceBNe, Nat.reduceMod, Nat.reduceDiv, Int.reduceLE, Int.reduceLT, Int.reduceToNat, Int.reduceAdd, Int.reduceSub, Int.reduceMul, Int.reduceNeg, Int.reduceEq, Int.reduceBEq, Int.reduceBNe, ↓reduceIte, reduceCtorEq, String.reduceBNe, String.reduceEq, reduceDIte, Nat.reducePow, g1, g2, p1, C.cells, PE.ret, PE.pic, hap, noP, hsum, hmid, hk0, hk1, gk, hkb, x0, x1, x2, y0, y1, y2]
    refine Thn_n ?_
    refine hK _ _ ?_
    clear hK K
    refine AW.seq_k fun K hK => ?_
    refine AW.cond_f rfl ?_
    refine AW.exit ?_
    refine Thn_e ?_
    clear hK K
    refine Thn_e ?_
    clear hK K
    refine InB_here ?_
    refine Thn_n ?_
    refine hK _ _ ?_
    clear hK K
    refine AW.seq_k fun K hK => ?_
    refine AW.seq_k fun K hK => ?_
    refine AW.region (by decide) ?_
    simp only [push_cast, Nat.reduceAdd, Nat.reduceMul, Nat.reduceSub, Nat.reduceLeDiff, Nat.reduceLT, Nat.reduceEqDiff, Nat.reduceBEq, Nat.reduceBNe, Nat.reduceMod, Nat.reduceDiv, Int.reduceLE, Int.reduceLT, Int.reduceToNat, Int.reduceAdd, Int.reduceSub, Int.reduceMul, Int.reduceNeg, Int.reduceEq, Int.reduceBEq, Int.reduceBNe, ↓reduceIte, reduceCtorEq, String.reduceBNe, String.reduceEq, reduceDIte, Nat.reducePow, g1, g2, p1, C.cells, PE.ret, PE.pic, hap, noP, hsum, hmid, hk0, hk1, gk, hkb, x0, x1, x2, y0, y1, y2]
    refine CThen.by (middle_c (n1 : Int) (cst A n1) _) ?_
    simp only [push_cast, Nat.reduceAdd, Nat.reduceMul, Nat.reduceSub, Nat.reduceLeDiff, Nat.reduceLT, Nat.reduceEqDiff, Nat.reduceBEq, Nat.reduceBNe, Nat.reduceMod, Nat.reduceDiv, Int.reduceLE, Int.reduceLT, Int.reduceToNat, Int.reduceAdd, Int.reduceSub, Int.reduceMul, Int.reduceNeg, Int.reduceEq, Int.reduceBEq, Int.reduceBNe, ↓reduceIte, reduceCtorEq, String.reduceBNe, String.reduceEq, reduceDIte, Nat.reducePow, g1, g2, p1, C.cells, PE.ret, PE.pic, hap, noP, hsum, hmid, hk0, hk1, gk, hkb, x0, x1, x2, y0, y1, y2]
    refine Thn_n ?_
    refine hK _ _ ?_
    clear hK K
    refine AW.cond_f rfl ?_
    refine AW.skip ?_
    refine Thn_n ?_
    refine hK _ _ ?_
    clear hK K
    refine AW.seq_k fun K hK => ?_
    refine AW.draw [.rd 0, .ext, .rd 0, .ext, .ext, .val, .val, .val, .fl, .wr, .val] fol (by decide) (by kernel_rfl) ?_
    simp only [push_cast, Nat.reduceAdd, Nat.reduceMul, Nat.reduceSub, Nat.reduceLeDiff, Nat.reduceLT, Nat.reduceEqDiff, Nat.reduceBEq, Nat.reduceBNe, Nat.reduceMod, Nat.reduceDiv, Int.reduceLE, Int.reduceLT, Int.reduceToNat, Int.reduceAdd, Int.reduceSub, Int.reduceMul, Int.reduceNeg, Int.reduceEq, Int.reduceBEq, Int.reduceBNe, ↓reduceIte, reduceCtorEq, String.reduceBNe, String.reduceEq, reduceDIte, Nat.reducePow, g1, g2, p1, C.cells, PE.ret, PE.pic, hap, noP, hsum, hmid, hk0, hk1, gk, hkb, x0, x1, x2, y0, y1, y2]
    refine DCall.by (to_c _ _ _ _ _ A _ (hp.p.mono _) (by omega)) ?_
    simp only [push_cast, Nat.reduceAdd, Nat.reduceMul, Nat.reduceSub, Nat.reduceLeDiff, Nat.reduceLT, Nat.reduceEqDiff, Nat.reduceBEq, Nat.reduceBNe, Nat.reduceMod, Nat.reduceDiv, Int.reduceLE, Int.reduceLT, Int.reduceToNat, Int.reduceAdd, Int.reduceSub, Int.reduceMul, Int.reduceNeg, Int.reduceEq, Int.reduceBEq, Int.reduceBNe, ↓reduceIte, reduceCtorEq, String.reduceBNe, String.reduceEq, reduceDIte, Nat.reducePow, g1, g2, p1, C.cells, PE.ret, PE.pic, hap, noP, hsum, hmid, hk0, hk1, gk, hkb, x0, x1, x2, y0, y1, y2]
    refine DCall.by (to_c _ _ _ _ _ B _ (hq.p.mono _) (by omega)) ?_
    simp only [push_cast, Nat.reduceAdd, Nat.reduceMul, Nat.reduceSub, Nat.reduceLeDiff, Nat.reduceLT, Nat.reduceEqDiff, Nat.reduceBEq, Nat.reduceBNe, Nat.reduceMod, Nat.reduceDiv, Int.reduceLE, Int.reduceLT, Int.reduceToNat, Int.reduceAdd, Int.reduceSub, Int.reduceMul, Int.reduceNeg, Int.reduceEq, Int.reduceBEq, Int.reduceBNe, ↓reduceIte, reduceCtorEq, String.reduceBNe, String.reduceEq, reduceDIte, Nat.reducePow, g1, g2, p1, C.cells, PE.ret, PE.pic, hap, noP, hsum, hmid, hk0, hk1, gk, hkb, x0, x1, x2, y0, y1, y2]
    refine DCall.by0 (tapart_f2 _ _ _ _ _ _ _ _ _ .grow .grow 3 3 (dl n1 A) (dl n2 B) (by simp only [push_cast, Nat.reduceAdd, Nat.reduceMul, Nat.reduceSub, Nat.reduceLeDiff, Nat.reduceLT, Nat.reduceEqDiff, Nat.reduceBEq, Nat.reduceBNe, Nat.reduceMod, Nat.reduceDiv, Int.reduceLE, Int.reduceLT, Int.reduceToNat, Int.reduceAdd, Int.reduceSub, Int.reduceMul, Int.reduceNeg, Int.reduceEq, Int.reduceBEq, Int.reduceBNe, ↓reduceIte, reduceCtorEq, String.reduceBNe, String.reduceEq, reduceDIte, Nat.reducePow]; first | done | rfl) (by simp only [push_cast, Nat.reduceAdd, Nat.reduceMul, Nat.reduceSub, Nat.reduceLeDiff, Nat.reduceLT, Nat.reduceEqDiff, Nat.reduceBEq, Nat.reduceBNe, Nat.reduceMod, Nat.reduceDiv, Int.reduceLE, Int.reduceLT, Int.reduceToNat, Int.reduceAdd, Int.reduceSub, Int.reduceMul, Int.reduceNeg, Int.reduceEq, Int.reduceBEq, Int.reduceBNe, ↓reduceIte, reduceCtorEq, String.reduceBNe, String.reduceEq, reduceDIte, Nat.reducePow]; first | done | rfl) A B (dots_dl hp.u) (dots_dl hq.u) (by omega) p1 p2) ?_
    simp only [push_cast, Nat.reduceAdd, Nat.reduceMul, Nat.reduceSub, Nat.reduceLeDiff, Nat.reduceLT, Nat.reduceEqDiff, Nat.reduceBEq, Nat.reduceBNe, Nat.reduceMod, Nat.reduceDiv, Int.reduceLE, Int.reduceLT, Int.reduceToNat, Int.reduceAdd, Int.reduceSub, Int.reduceMul, Int.reduceNeg, Int.reduceEq, Int.reduceBEq, Int.reduceBNe, ↓reduceIte, reduceCtorEq, String.reduceBNe, String.reduceEq, reduceDIte, Nat.reducePow, g1, g2, p1, C.cells, PE.ret, PE.pic, hap, noP, hsum, hmid, hk0, hk1, gk, hkb, x0, x1, x2, y0, y1, y2]
    refine Thn_n ?_
    refine hK _ _ ?_
    clear hK K
    refine AW.seq_k fun K hK => ?_
    refine AW.draw [.rd 0, .ext, .rd 0, .ext, .ext, .val, .val, .val, .fl, .wr, .val] fol (by decide) (by kernel_rfl) ?_
    simp only [push_cast, Nat.reduceAdd, Nat.reduceMul, Nat.reduceSub, Nat.reduceLeDiff, Nat.reduceLT, Nat.reduceEqDiff, Nat.reduceBEq, Nat.reduceBNe, Nat.reduceMod, Nat.reduceDiv, Int.reduceLE, Int.reduceLT, Int.reduceToNat, Int.reduceAdd, Int.reduceSub, Int.reduceMul, Int.reduceNeg, Int.reduceEq, Int.reduceBEq, Int.reduceBNe, ↓reduceIte, reduceCtorEq, String.reduceBNe, String.reduceEq, reduceDIte, Nat.reducePow, g1, g2, p1, C.cells, PE.ret, PE.pic, hap, noP, hsum, hmid, hk0, hk1, gk, hkb, x0, x1, x2, y0, y1, y2]
    refine DCall.by (to_c _ _ _ _ _ A _ (hp.p.mono _) (by omega)) ?_
    simp only [push_cast, Nat.reduceAdd, Nat.reduceMul, Nat.reduceSub, Nat.reduceLeDiff, Nat.reduceLT, Nat.reduceEqDiff, Nat.reduceBEq, Nat.reduceBNe, Nat.reduceMod, Nat.reduceDiv, Int.reduceLE, Int.reduceLT, Int.reduceToNat, Int.reduceAdd, Int.reduceSub, Int.reduceMul, Int.reduceNeg, Int.reduceEq, Int.reduceBEq, Int.reduceBNe, ↓reduceIte, reduceCtorEq, String.reduceBNe, String.reduceEq, reduceDIte, Nat.reducePow, g1, g2, p1, C.cells, PE.ret, PE.pic, hap, noP, hsum, hmid, hk0, hk1, gk, hkb, x0, x1, x2, y0, y1, y2]
    refine DCall.by (to_c _ _ _ _ _ B _ (hq.p.mono _) (by omega)) ?_
    simp only [push_cast, Nat.reduceAdd, Nat.reduceMul, Nat.reduceSub, Nat.reduceLeDiff, Nat.reduceLT, Nat.reduceEqDiff, Nat.reduceBEq, Nat.reduceBNe, Nat.reduceMod, Nat.reduceDiv, Int.reduceLE, Int.reduceLT, Int.reduceToNat, Int.reduceAdd, Int.reduceSub, Int.reduceMul, Int.reduceNeg, Int.reduceEq, Int.reduceBEq, Int.reduceBNe, ↓reduceIte, reduceCtorEq, String.reduceBNe, String.reduceEq, reduceDIte, Nat.reducePow, g1, g2, p1, C.cells, PE.ret, PE.pic, hap, noP, hsum, hmid, hk0, hk1, gk, hkb, x0, x1, x2, y0, y1, y2]
    refine DCall.by (apart_c _ _ _ _ _ _ _ _ _ _ A B _ ⟨.grow, 3, by simp only [push_cast, Nat.reduceAdd, Nat.reduceMul, Nat.reduceSub, Nat.reduceLeDiff, Nat.reduceLT, Nat.reduceEqDiff, Nat.reduceBEq, Nat.reduceBNe, Nat.reduceMod, Nat.reduceDiv, Int.reduceLE, Int.reduceLT, Int.reduceToNat, Int.reduceAdd, Int.reduceSub, Int.reduceMul, Int.reduceNeg, Int.reduceEq, Int.reduceBEq, Int.reduceBNe, ↓reduceIte, reduceCtorEq, String.reduceBNe, String.reduceEq, reduceDIte, Nat.reducePow, PE.blk]⟩ ⟨.grow, 3, by simp only [push_cast, Nat.reduceAdd, Nat.reduceMul, Nat.reduceSub, Nat.reduceLeDiff, Nat.reduceLT, Nat.reduceEqDiff, Nat.reduceBEq, Nat.reduceBNe, Nat.reduceMod, Nat.reduceDiv, Int.reduceLE, Int.reduceLT, Int.reduceToNat, Int.reduceAdd, Int.reduceSub, Int.reduceMul, Int.reduceNeg, Int.reduceEq, Int.reduceBEq, Int.reduceBNe, ↓reduceIte, reduceCtorEq, String.reduceBNe, String.reduceEq, reduceDIte, Nat.reducePow, PE.blk]⟩ hp.u hq.u) ?_
    simp only [push_cast, Nat.reduceAdd, Nat.reduceMul, Nat.reduceSub, Nat.reduceLeDiff, Nat.reduceLT, Nat.reduceEqDiff, Nat.reduceBEq, Nat.reduceBNe, Nat.reduceMod, Nat.reduceDiv, Int.reduceLE, Int.reduceLT, Int.reduceToNat, Int.reduceAdd, Int.reduceSub, Int.reduceMul, Int.reduceNeg, Int.reduceEq, Int.reduceBEq, Int.reduceBNe, ↓reduceIte, reduceCtorEq, String.reduceBNe, String.reduceEq, reduceDIte, Nat.reducePow, g1, g2, p1, C.cells, PE.ret, PE.pic, hap, noP, hsum, hmid, hk0, hk1, gk, hkb, x0, x1, x2, y0, y1, y2]
    refine Thn_n ?_
    refine hK _ _ ?_
    clear hK K
    refine AW.seq_k fun K hK => ?_
    refine AW.seq_k fun K hK => ?_
    refine AW.region (by decide) ?_
    simp only [push_cast, Nat.reduceAdd, Nat.reduceMul, Nat.reduceSub, Nat.reduceLeDiff, Nat.reduceLT, Nat.reduceEqDiff, Nat.reduceBEq, Nat.reduceBNe, Nat.reduceMod, Nat.reduceDiv, Int.reduceLE, Int.reduceLT, Int.reduceToNat, Int.reduceAdd, Int.reduceSub, Int.reduceMul, Int.reduceNeg, Int.reduceEq, Int.reduceBEq, Int.reduceBNe, ↓reduceIte, reduceCtorEq, String.reduceBNe, String.reduceEq, reduceDIte, Nat.reducePow, g1, g2, p1, C.cells, PE.ret, PE.pic, hap, noP, hsum, hmid, hk0, hk1, gk, hkb, x0, x1, x2, y0, y1, y2]
    refine Thn_n ?_
    refine hK _ _ ?_
    clear hK K
    refine AW.cond_f rfl ?_
    refine AW.skip ?_
    refine Thn_n ?_
    refine hK _ _ ?_
    clear hK K
    refine AW.seq_k fun K hK => ?_
    refine AW.seq_k fun K hK => ?_
    refine AW.region (by decide) ?_
    simp only [push_cast, Nat.reduceAdd, Nat.reduceMul, Nat.reduceSub, Nat.reduceLeDiff, Nat.reduceLT, Nat.reduceEqDiff, Nat.reduceBEq, Nat.reduceBNe, Nat.reduceMod, Nat.reduceDiv, Int.reduceLE, Int.reduceLT, Int.reduceToNat, Int.reduceAdd, Int.reduceSub, Int.reduceMul, Int.reduceNeg, Int.reduceEq, Int.reduceBEq, Int.reduceBNe, ↓reduceIte, reduceCtorEq, String.reduceBNe, String.reduceEq, reduceDIte, Nat.reducePow, g1, g2, p1, C.cells, PE.ret, PE.pic, hap, noP, hsum, hmid, hk0, hk1, gk, hkb, x0, x1, x2, y0, y1, y2]
    refine Thn_n ?_
    refine hK _ _ ?_
    clear hK K
    refine AW.cond_t rfl ?_
    refine AW.seq_k fun K hK => ?_
    refine AW.region (by decide) ?_
    simp only [push_cast, Nat.reduceAdd, Nat.reduceMul, Nat.reduceSub, Nat.reduceLeDiff, Nat.reduceLT, Nat.reduceEqDiff, Nat.reduceBEq, Nat.reduceBNe, Nat.reduceMod, Nat.reduceDiv, Int.reduceLE, Int.reduceLT, Int.reduceToNat, Int.reduceAdd, Int.reduceSub, Int.reduceMul, Int.reduceNeg, Int.reduceEq, Int.reduceBEq, Int.reduceBNe, ↓reduceIte, reduceCtorEq, String.reduceBNe, String.reduceEq, reduceDIte, Nat.reducePow, g1, g2, p1, C.cells, PE.ret, PE.pic, hap, noP, hsum, hmid, hk0, hk1, gk, hkb, x0, x1, x2, y0, y1, y2]
    refine CThen.by (awake32_c _) ?_
    simp only [push_cast, Nat.reduceAdd, Nat.reduceMul, Nat.reduceSub, Nat.reduceLeDiff, Nat.reduceLT, Nat.reduceEqDiff, Nat.reduceBEq, Nat.reduceBNe, Nat.reduceMod, Nat.reduceDiv, Int.reduceLE, Int.reduceLT, Int.reduceToNat, Int.reduceAdd, Int.reduceSub, Int.reduceMul, Int.reduceNeg, Int.reduceEq, Int.reduceBEq, Int.reduceBNe, ↓reduceIte, reduceCtorEq, String.reduceBNe, String.reduceEq, reduceDIte, Nat.reducePow, g1, g2, p1, C.cells, PE.ret, PE.pic, hap, noP, hsum, hmid, hk0, hk1, gk, hkb, x0, x1, x2, y0, y1, y2]
    refine Thn_n ?_
    refine hK _ _ ?_
    clear hK K
    refine AW.ret ?_
    refine Thn_r ?_
    refine hQ _ _ _ ?_
    first | refine RetP.drop0 (Or.inr rfl) ?_ ?_ hwf | refine RetP.drop (Or.inr rfl) ?_ ?_ hwf
    · simp only [resA, resOne, resTv, AV.tv, push_cast, Nat.reduceAdd, Nat.reduceMul, Nat.reduceSub, Nat.reduceLeDiff, Nat.reduceLT, Nat.reduceEqDiff, Nat.reduceBEq, Nat.reduceBNe, Nat.reduceMod, Nat.reduceDiv, Int.reduceLE, Int.reduceLT, Int.reduceToNat, Int.reduceAdd, Int.reduceSub, Int.reduceMul, Int.reduceNeg, Int.reduceEq, Int.reduceBEq, Int.reduceBNe, ↓reduceIte, reduceCtorEq, String.reduceBNe, String.reduceEq, reduceDIte, Nat.reducePow, g1, g2, p1, C.cells, PE.ret, PE.pic, hap, noP, hsum, hmid, hk0, hk1, gk, hkb, x0, x1, x2, y0, y1, y2]
    · rfl
theorem sums_e (W H W2 H2 : Int) (r1 n1 r2 n2 : Nat) (A B : Nat → Nat → Int) (m : AMem) (hp : PicIn m r1 n1 A) (hq : PicIn m r2 n2 B) (g1 : ¬ (5000 : Int) < (n1 : Int)) (g2 : ¬ (5000 : Int) < (n2 : Int)) (p1 : picR W H n1 = true) (p2 : picR W2 H2 n2 = true) (p3 : (W == W2 && H == H2) = false) : Ctr Try.prog 5 [.agg [.int .i64 W, .int .i64 H, .sl r1 0 0 n1], .agg [.int .i64 W2, .int .i64 H2, .sl r2 0 0 n2]] m (.one (.bool true)) m := by
  refine Ctr.enter Try.func5 rfl (by decide) (rs := [.tmp 4]) (nt := 149) rfl rfl fun hwf Q hQ => ?_
  have l1 : n1 ≤ 5000 := by omega
  have l2 : n2 ≤ 5000 := by omega
  obtain ⟨pw, ph, hW, hH, a1, a2, a3, a4, hn, hsz⟩ := picR_nat p1
  have n0 : 0 < n1 := by rw [hn]; exact Nat.mul_pos a1 a3
  have hn4 : n1 ≤ 4096 := by rw [hn]; exact wh_le a2 a4
  have hbn := bins_cnt (A := A) n1 (by omega)
  have hsum := sum_cnt hp.u n1
  obtain ⟨kk, hk, hmid, hpos⟩ := mid_pos hp.u n0 hn4
  obtain ⟨q0, q1, q2⟩ := ch_all hp.u n1 (by omega)
  have m0 := q0.mean n0 (by omega)
  have m1 := q1.mean n0 (by omega)
  have m2 := q2.mean n0 (by omega)
  have x0 : ¬ tmean (n1 : Int) (cst A n1).s0 < (cst A n1).l0 := by omega
  have x1 : ¬ tmean (n1 : Int) (cst A n1).s1 < (cst A n1).l1 := by omega
  have x2 : ¬ tmean (n1 : Int) (cst A n1).s2 < (cst A n1).l2 := by omega
  have y0 : ¬ (cst A n1).m0 < tmean (n1 : Int) (cst A n1).s0 := by omega
  have y1 : ¬ (cst A n1).m1 < tmean (n1 : Int) (cst A n1).s1 := by omega
  have y2 : ¬ (cst A n1).m2 < tmean (n1 : Int) (cst A n1).s2 := by omega
  have hk0 : (0 : Int) ≤ (kk : Int) := by omega
  have hk1 : (kk : Int) < (16 : Int) := by omega
  have gk := fun {x0 x1 x2 x3 x4 x5 x6 x7 x8 x9 : CV} {f : Nat → Int} => @bins_get x0 x1 x2 x3 x4 x5 x6 x7 x8 x9 f _ hk
  have hkb : ((cst A n1).b kk == 0) = false := by rw [hbn]; simp; omega
  have hap : apartF W H n1 A W2 H2 n2 B = noP := by
    rw [apartF, if_neg]
    simp only [apartR, p1, p2, Bool.false_and, Bool.and_false, Bool.true_and]
    intro h
    simp only [Bool.and_eq_true, decide_eq_true_eq] at h
    rw [h.1, h.2] at p3; simp at p3
  refine AW.seq_k fun K hK => ?_
  refine AW.region (by decide) ?_
  simp only [push_cast, Nat.reduceAdd, Nat.reduceMul, Nat.reduceSub, Nat.reduceLeDiff, Nat.reduceLT, Nat.reduceEqDiff, Nat.reduceBEq, Nat.reduceBNe, Nat.reduceMod, Nat.reduceDiv, Int.reduceLE, Int.reduceLT, Int.reduceToNat, Int.reduceAdd, Int.reduceSub, Int.reduceMul, Int.reduceNeg, Int.reduceEq, Int.reduceBEq, Int.reduceBNe, ↓reduceIte, reduceCtorEq, String.reduceBNe, String.reduceEq, reduceDIte, Nat.reducePow, g1, g2, p1, C.cells, PE.ret, PE.pic, hap, noP]
  refine Thn_n ?_
  refine hK _ _ ?_
  clear hK K
  refine AW.seq_k fun K hK => ?_
  refine AW.seq_k fun K hK => ?_
  refine AW.region (by decide) ?_
  simp only [push_cast, Nat.reduceAdd, Nat.reduceMul, Nat.reduceSub, Nat.reduceLeDiff, Nat.reduceLT, Nat.reduceEqDiff, Nat.reduceBEq, Nat.reduceBNe, Nat.reduceMod, Nat.reduceDiv, Int.reduceLE, Int.reduceLT, Int.reduceToNat, Int.reduceAdd, Int.reduceSub, Int.reduceMul, Int.reduceNeg, Int.reduceEq, Int.reduceBEq, Int.reduceBNe, ↓reduceIte, reduceCtorEq, String.reduceBNe, String.reduceEq, reduceDIte, Nat.reducePow, g1, g2, p1, C.cells, PE.ret, PE.pic, hap, noP]
  refine CThen.by (refRight_c _ _ _ _ _ _) ?_
  simp only [push_cast, Nat.reduceAdd, Nat.reduceMul, Nat.reduceSub, Nat.reduceLeDiff, Nat.reduceLT, Nat.reduceEqDiff, Nat.reduceBEq, Nat.reduceBNe, Nat.reduceMod, Nat.reduceDiv, Int.reduceLE, Int.reduceLT, Int.reduceToNat, Int.reduceAdd, Int.reduceSub, Int.reduceMul, Int.reduceNeg, Int.reduceEq, Int.reduceBEq, Int.reduceBNe, ↓reduceIte, reduceCtorEq, String.reduceBNe, String.reduceEq, reduceDIte, Nat.reducePow, g1, g2, p1, C.cells, PE.ret, PE.pic, hap, noP]
  refine Thn_n ?_
  refine hK _ _ ?_
  clear hK K
  refine AW.cond_f rfl ?_
  refine AW.skip ?_
  refine Thn_n ?_
  refine hK _ _ ?_
  clear hK K
  refine AW.seq_k fun K hK => ?_
  refine AW.region (by decide) ?_
  simp only [push_cast, Nat.reduceAdd, Nat.reduceMul, Nat.reduceSub, Nat.reduceLeDiff, Nat.reduceLT, Nat.reduceEqDiff, Nat.reduceBEq, Nat.reduceBNe, Nat.reduceMod, Nat.reduceDiv, Int.reduceLE, Int.reduceLT, Int.reduceToNat, Int.reduceAdd, Int.reduceSub, Int.reduceMul, Int.reduceNeg, Int.reduceEq, Int.reduceBEq, Int.reduceBNe, ↓reduceIte, reduceCtorEq, String.reduceBNe, String.reduceEq, reduceDIte, Nat.reducePow, g1, g2, p1, C.cells, PE.ret, PE.pic, hap, noP]
  refine CThen.by (to_c _ _ _ _ _ A _ (hp.p.mono _) (by omega)) ?_
  simp only [push_cast, Nat.reduceAdd, Nat.reduceMul, Nat.reduceSub, Nat.reduceLeDiff, Nat.reduceLT, Nat.reduceEqDiff, Nat.reduceBEq, Nat.reduceBNe, Nat.reduceMod, Nat.reduceDiv, Int.reduceLE, Int.reduceLT, Int.reduceToNat, Int.reduceAdd, Int.reduceSub, Int.reduceMul, Int.reduceNeg, Int.reduceEq, Int.reduceBEq, Int.reduceBNe, ↓reduceIte, reduceCtorEq, String.reduceBNe, String.reduceEq, reduceDIte, Nat.reducePow, g1, g2, p1, C.cells, PE.ret, PE.pic, hap, noP]
  refine CThen.by (of_t _ _ _ _ _ .grow 3 _ (by simp only [push_cast, Nat.reduceAdd, Nat.reduceMul, Nat.reduceSub, Nat.reduceLeDiff, Nat.reduceLT, Nat.reduceEqDiff, Nat.reduceBEq, Nat.reduceBNe, Nat.reduceMod, Nat.reduceDiv, Int.reduceLE, Int.reduceLT, Int.reduceToNat, Int.reduceAdd, Int.reduceSub, Int.reduceMul, Int.reduceNeg, Int.reduceEq, Int.reduceBEq, Int.reduceBNe, ↓reduceIte, reduceCtorEq, String.reduceBNe, String.reduceEq, reduceDIte, Nat.reducePow, PE.blk]; first | done | rfl) _ (dots_dl hp.u) (by omega) p1 n0) ?_
  simp only [push_cast, Nat.reduceAdd, Nat.reduceMul, Nat.reduceSub, Nat.reduceLeDiff, Nat.reduceLT, Nat.reduceEqDiff, Nat.reduceBEq, Nat.reduceBNe, Nat.reduceMod, Nat.reduceDiv, Int.reduceLE, Int.reduceLT, Int.reduceToNat, Int.reduceAdd, Int.reduceSub, Int.reduceMul, Int.reduceNeg, Int.reduceEq, Int.reduceBEq, Int.reduceBNe, ↓reduceIte, reduceCtorEq, String.reduceBNe, String.reduceEq, reduceDIte, Nat.reducePow, g1, g2, p1, C.cells, PE.ret, PE.pic, hap, noP]
  refine Thn_n ?_
  refine hK _ _ ?_
  clear hK K
  refine AW.seq_k fun K hK => ?_
  refine AW.region (by decide) ?_
  simp only [push_cast, Nat.reduceAdd, Nat.reduceMul, Nat.reduceSub, Nat.reduceLeDiff, Nat.reduceLT, Nat.reduceEqDiff, Nat.reduceBEq, Nat.reduceBNe, Nat.reduceMod, Nat.reduceDiv, Int.reduceLE, Int.reduceLT, Int.reduceToNat, Int.reduceAdd, Int.reduceSub, Int.reduceMul, Int.reduceNeg, Int.reduceEq, Int.reduceBEq, Int.reduceBNe, ↓reduceIte, reduceCtorEq, String.reduceBNe, String.reduceEq, reduceDIte, Nat.reducePow, g1, g2, p1, C.cells, PE.ret, PE.pic, hap, noP]
  refine Thn_n ?_
  refine hK _ _ ?_
  clear hK K
  refine AW.seq_k fun K hK => ?_
  refine AW.seq_k fun K hK => ?_
  refine AW.region (by decide) ?_
  simp only [push_cast, Nat.reduceAdd, Nat.reduceMul, Nat.reduceSub, Nat.reduceLeDiff, Nat.reduceLT, Nat.reduceEqDiff, Nat.reduceBEq, Nat.reduceBNe, Nat.reduceMod, Nat.reduceDiv, Int.reduceLE, Int.reduceLT, Int.reduceToNat, Int.reduceAdd, Int.reduceSub, Int.reduceMul, Int.reduceNeg, Int.reduceEq, Int.reduceBEq, Int.reduceBNe, ↓reduceIte, reduceCtorEq, String.reduceBNe, String.reduceEq, reduceDIte, Nat.reducePow, g1, g2, p1, C.cells, PE.ret, PE.pic, hap, noP]
  refine Thn_n ?_
  refine hK _ _ ?_
  clear hK K
  refine AW.block ?_
  refine AW.loopK [2, 3, 5, 41] (fun i => i ≤ 16) (fun i => [(7, .one (.int .i64 ((sumN (fun k => cnt A k n1) i : Nat) : Int))), (42, .one (.int .i64 (i : Int)))]) (fun i => []) (fun i => 16 - i) 0 (by omega) ?_ ?_ fun i hi8 => ?_
  · first | rfl | (simp only [Keeps, Tm.get_cons, Nat.reduceEqDiff, ↓reduceIte, if_true, if_false, ite_true, ite_false, true_and, and_true, and_self, reduceCtorEq, sumN] <;> rfl)
  · first | rfl | (simp only [setAll, push_cast, Nat.reduceAdd, Nat.reduceMul, Nat.reduceSub, Nat.reduceLeDiff, Nat.reduceLT, Nat.reduceEqDiff, Nat.reduceBEq, Nat.reduceBNe, Nat.reduceMod, Nat.reduceDiv, Int.reduceLE, Int.reduceLT, Int.reduceToNat, Int.reduceAdd, Int.reduceSub, Int.reduceMul, Int.reduceNeg, Int.reduceEq, Int.reduceBEq, Int.reduceBNe, ↓reduceIte, reduceCtorEq, String.reduceBNe, String.reduceEq, reduceDIte, Nat.reducePow, g1, g2, p1, C.cells, PE.ret, PE.pic, hap, noP, sumN] <;> rfl)
  try simp only [keepL, setAll, push_cast, Nat.reduceAdd, Nat.reduceMul, Nat.reduceSub, Nat.reduceLeDiff, Nat.reduceLT, Nat.reduceEqDiff, Nat.reduceBEq, Nat.reduceBNe, Nat.reduceMod, Nat.reduceDiv, Int.reduceLE, Int.reduceLT, Int.reduceToNat, Int.reduceAdd, Int.reduceSub, Int.reduceMul, Int.reduceNeg, Int.reduceEq, Int.reduceBEq, Int.reduceBNe, ↓reduceIte, reduceCtorEq, String.reduceBNe, String.reduceEq, reduceDIte, Nat.reducePow, g1, g2, p1, C.cells, PE.ret, PE.pic, hap, noP]
  refine AW.seq_k fun K hK => ?_
  refine AW.region (by decide) ?_
  simp only [push_cast, Nat.reduceAdd, Nat.reduceMul, Nat.reduceSub, Nat.reduceLeDiff, Nat.reduceLT, Nat.reduceEqDiff, Nat.reduceBEq, Nat.reduceBNe, Nat.reduceMod, Nat.reduceDiv, Int.reduceLE, Int.reduceLT, Int.reduceToNat, Int.reduceAdd, Int.reduceSub, Int.reduceMul, Int.reduceNeg, Int.reduceEq, Int.reduceBEq, Int.reduceBNe, ↓reduceIte, reduceCtorEq, String.reduceBNe, String.reduceEq, reduceDIte, Nat.reducePow, g1, g2, p1, C.cells, PE.ret, PE.pic, hap, noP]
  refine Thn_n ?_
  refine hK _ _ ?_
  clear hK K
  refine AW.seq_k fun K hK => ?_
  refine AW.cond rfl (fun h43 => ?_) (fun h43 => ?_)
  · have hlt : i < 16 := by have := of_decide_eq_true h43; omega
    have c1 : (0 : Int) ≤ (i : Int) := by omega
    have c2 : (i : Int) < (16 : Int) := by omega
    have g1 := @bins_at (cst A n1).b _ hlt
    have hsw : IntKind.i64.wrap (((sumN (fun k => cnt A k n1) i : Nat) : Int) + (cst A n1).b i) = ((sumN (fun k => cnt A k n1) (i + 1) : Nat) : Int) := by
      rw [hbn]
      have e : sumN (fun k => cnt A k n1) (i + 1) = sumN (fun k => cnt A k n1) i + cnt A i n1 := rfl
      have h2 := sumF_eq (fun k => cnt A k n1) (16 - (i + 1)) (i + 1)
      rw [show i + 1 + (16 - (i + 1)) = 16 by omega, hsum] at h2
      rw [e] at h2
      rw [e, i64i (by simp only; omega)]; simp only; omega
    refine AW.skip ?_
    refine Thn_n ?_
    refine hK _ _ ?_
    clear hK K
    refine AW.seq_k fun K hK => ?_
    refine AW.block ?_
    refine AW.seq_k fun K hK => ?_
    refine AW.region (by decide) ?_
    simp only [push_cast, Nat.reduceAdd, Nat.reduceMul, Nat.reduceSub, Nat.reduceLeDiff, Nat.reduceLT, Nat.reduceEqDiff, Nat.reduceBEq, Nat.reduceBNe, Nat.reduceMod, Nat.reduceDiv, Int.reduceLE, Int.reduceLT, Int.reduceToNat, Int.reduceAdd, Int.reduceSub, Int.reduceMul, Int.reduceNeg, Int.reduceEq, Int.reduceBEq, Int.reduceBNe, ↓reduceIte, reduceCtorEq, String.reduceBNe, String.reduceEq, reduceDIte, Nat.reducePow, g1, g2, p1, C.cells, PE.ret, PE.pic, hap, noP, c1, c2, g1]
    refine Thn_n ?_
    refine hK _ _ ?_
    clear hK K
    refine AW.region (by decide) ?_
    simp only [push_cast, Nat.reduceAdd, Nat.reduceMul, Nat.reduceSub, Nat.reduceLeDiff, Nat.reduceLT, Nat.reduceEqDiff, Nat.reduceBEq, Nat.reduceBNe, Nat.reduceMod, Nat.reduceDiv, Int.reduceLE, Int.reduceLT, Int.reduceToNat, Int.reduceAdd, Int.reduceSub, Int.reduceMul, Int.reduceNeg, Int.reduceEq, Int.reduceBEq, Int.reduceBNe, ↓reduceIte, reduceCtorEq, String.reduceBNe, String.reduceEq, reduceDIte, Nat.reducePow, g1, g2, p1, C.cells, PE.ret, PE.pic, hap, noP, c1, c2, g1]
    refine InB_n ?_
    refine Thn_n ?_
    refine hK _ _ ?_
    clear hK K
    refine AW.region (by decide) ?_
    simp only [push_cast, Nat.reduceAdd, Nat.reduceMul, Nat.reduceSub, Nat.reduceLeDiff, Nat.reduceLT, Nat.reduceEqDiff, Nat.reduceBEq, Nat.reduceBNe, Nat.reduceMod, Nat.reduceDiv, Int.reduceLE, Int.reduceLT, Int.reduceToNat, Int.reduceAdd, Int.reduceSub, Int.reduceMul, Int.reduceNeg, Int.reduceEq, Int.reduceBEq, Int.reduceBNe, ↓reduceIte, reduceCtorEq, String.reduceBNe, String.reduceEq, reduceDIte, Nat.reducePow, g1, g2, p1, C.cells, PE.ret, PE.pic, hap, noP, c1, c2, g1]
    refine Thn_n ?_
    have hwi : IntKind.i64.wrap ((i:Int)+1) = (i:Int)+1 := by rw [IntKind.wrap_i64]; omega
    refine ⟨i + 1, by omega, by omega, ?_⟩
    try simp only [keepL, setAll, push_cast, Nat.reduceAdd, Nat.reduceMul, Nat.reduceSub, Nat.reduceLeDiff, Nat.reduceLT, Nat.reduceEqDiff, Nat.reduceBEq, Nat.reduceBNe, Nat.reduceMod, Nat.reduceDiv, Int.reduceLE, Int.reduceLT, Int.reduceToNat, Int.reduceAdd, Int.reduceSub, Int.reduceMul, Int.reduceNeg, Int.reduceEq, Int.reduceBEq, Int.reduceBNe, ↓reduceIte, reduceCtorEq, String.reduceBNe, String.reduceEq, reduceDIte, Nat.reducePow, g1, g2, p1, C.cells, PE.ret, PE.pic, hap, noP, c1, c2, g1, hwi, hsw]
    exact Weak.same (by simp only [Keeps, Tm.get_cons, Nat.reduceEqDiff, ↓reduceIte, if_true, if_false, ite_true, ite_false, true_and, and_true, and_self, reduceCtorEq, hwi, hsw]) (by first | rfl | simp only [Keeps, Tm.get_cons, Nat.reduceEqDiff, ↓reduceIte, if_true, if_false, ite_true, ite_false, true_and, and_true, and_self, reduceCtorEq, hwi, hsw])
  · have hi16 : i = 16 := by have := of_decide_eq_false h43; omega
    subst hi16
    refine AW.exit ?_
    refine Thn_e ?_
    clear hK K
    refine Thn_e ?_
    refine InB_here ?_
    refine Thn_n ?_
    refine hK _ _ ?_
    clear hK K
    refine AW.seq_k fun K hK => ?_
    refine AW.seq_k fun K hK => ?_
    refine AW.region (by decide) ?_
    simp only [push_cast, Nat.reduceAdd, Nat.reduceMul, Nat.reduceSub, Nat.reduceLeDiff, Nat.reduceLT, Nat.reduceEqDiff, Nat.reduceBEq, Nat.reduceBNe, Nat.reduceMod, Nat.reduceDiv, Int.reduceLE, Int.reduceLT, Int.reduceToNat, Int.reduceAdd, Int.reduceSub, Int.reduceMul, Int.reduceNeg, Int.reduceEq, Int.reduceBEq, Int.reduceBNe, ↓reduceIte, reduceCtorEq, String.reduceBNe, String.reduceEq, reduceDIte, Nat.reducePow, g1, g2, p1, C.cells, PE.ret, PE.pic, hap, noP, hsum, hmid, hk0, hk1, gk, hkb, x0, x1, x2, y0, y1, y2]
    refine CThen.by (tmean_c (n1 : Int) (cst A n1) _) ?_
    simp only [push_cast, Nat.reduceAdd, Nat.reduceMul, Nat.reduceSub, Nat.reduceLeDiff, Nat.reduceLT, Nat.reduceEqDiff, Nat.reduceBEq, Nat.reduceBNe, Nat.reduceMod, Nat.reduceDiv, Int.reduceLE, Int.reduceLT, Int.reduceToNat, Int.reduceAdd, Int.reduceSub, Int.reduceMul, Int.reduceNeg, Int.reduceEq, Int.reduceBEq, Int.reduceBNe, ↓reduceIte, reduceCtorEq, String.reduceBNe, String.reduceEq, reduceDIte, Nat.reducePow, g1, g2, p1, C.cells, PE.ret, PE.pic, hap, noP, hsum, hmid, hk0, hk1, gk, hkb, x0, x1, x2, y0, y1, y2]
    refine Thn_n ?_
    refine hK _ _ ?_
    clear hK K
    refine AW.block ?_
    refine AW.rounds 4 ?_
    iterate 3
      refine ARounds.succ fun K hK => ?_
      refine AW.seq_k fun K hK => ?_
      refine AW.region (by decide) ?_
      simp only [push_cast, Nat.reduceAdd, Nat.reduceMul, Nat.reduceSub, Nat.reduceLeDiff, Nat.reduceLT, Nat.reduceEqDiff, Nat.reduceBEq, Nat.reduceBNe, Nat.reduceMod, Nat.reduceDiv, Int.reduceLE, Int.reduceLT, Int.reduceToNat, Int.reduceAdd, Int.reduceSub, Int.reduceMul, Int.reduceNeg, Int.reduceEq, Int.reduceBEq, Int.reduceBNe, ↓reduceIte, reduceCtorEq, String.reduceBNe, String.reduceEq, reduceDIte, Nat.reducePow, g1, g2, p1, C.cells, PE.ret, PE.pic, hap, noP, hsum, hmid, hk0, hk1, gk, hkb, x0, x1, x2, y0, y1, y2]
      refine Thn_n ?_
      refine hK _ _ ?_
      clear hK K
      refine AW.seq_k fun K hK => ?_
      refine AW.cond_t rfl ?_
      refine AW.skip ?_
      refine Thn_n ?_
      refine hK _ _ ?_
      clear hK K
      refine AW.seq_k fun K hK => ?_
      refine AW.block ?_
      refine AW.seq_k fun K hK => ?_
      refine AW.region (by decide) ?_
      simp only [push_cast, Nat.reduceAdd, Nat.reduceMul, Nat.reduceSub, Nat.reduceLeDiff, Nat.reduceLT, Nat.reduceEqDiff, Nat.reduceBEq, Nat.reduceBNe, Nat.reduceMod, Nat.reduceDiv, Int.reduceLE, Int.reduceLT, Int.reduceToNat, Int.reduceAdd, Int.reduceSub, Int.reduceMul, Int.reduceNeg, Int.reduceEq, Int.reduceBEq, Int.reduceBNe, ↓reduceIte, reduceCtorEq, String.reduceBNe, String.reduceEq, reduceDIte, Nat.reducePow, g1, g2, p1, C.cells, PE.ret, PE.pic, hap, noP, hsum, hmid, hk0, hk1, gk, hkb, x0, x1, x2, y0, y1, y2]
      refine Thn_n ?_
      refine hK _ _ ?_
      clear hK K
      refine AW.seq_k fun K hK => ?_
      refine AW.region (by decide) ?_
      simp only [push_cast, Nat.reduceAdd, Nat.reduceMul, Nat.reduceSub, Nat.reduceLeDiff, Nat.reduceLT, Nat.reduceEqDiff, Nat.reduceBEq, Nat.reduceBNe, Nat.reduceMod, Nat.reduceDiv, Int.reduceLE, Int.reduceLT, Int.reduceToNat, Int.reduceAdd, Int.reduceSub, Int.reduceMul, Int.reduceNeg, Int.reduceEq, Int.reduceBEq, Int.reduceBNe, ↓reduceIte, reduceCtorEq, String.reduceBNe, String.reduceEq, reduceDIte, Nat.reducePow, g1, g2, p1, C.cells, PE.ret, PE.pic, hap, noP, hsum, hmid, hk0, hk1, gk, hkb, x0, x1, x2, y0, y1, y2]
      refine Thn_n ?_
      refine hK _ _ ?_
      clear hK K
      refine AW.cond_f rfl ?_
      refine AW.skip ?_
      refine InB_n ?_
      refine Thn_n ?_
      refine hK _ _ ?_
      clear hK K
      refine AW.region (by decide) ?_
      simp only [push_cast, Nat.reduceAdd, Nat.reduceMul, Nat.reduceSub, Nat.reduceLeDiff, Nat.reduceLT, Nat.reduceEqDiff, Nat.reduceBEq, Nat.reduceBNe, Nat.reduceMod, Nat.reduceDiv, Int.reduceLE, Int.reduceLT, Int.reduceToNat, Int.reduceAdd, Int.reduceSub, Int.reduceMul, Int.reduceNeg, Int.reduceEq, Int.reduceBEq, Int.reduceBNe, ↓reduceIte, reduceCtorEq, String.reduceBNe, String.reduceEq, reduceDIte, Nat.reducePow, g1, g2, p1, C.cells, PE.ret, PE.pic, hap, noP, hsum, hmid, hk0, hk1, gk, hkb, x0, x1, x2, y0, y1, y2]
      refine Thn_n ?_
      refine hK _ _ ?_
      clear hK K
    refine ARounds.succ fun K hK => ?_
    refine AW.seq_k fun K hK => ?_
    refine AW.region (by decide) ?_
    simp only [push_cast, Nat.reduceAdd, Nat.reduceMul, Nat.reduceSub, Nat.reduceLeDiff, Nat.reduceLT, Nat.reduceEqDiff, Nat.reduceBEq, Nat.reduceBNe, Nat.reduceMod, Nat.reduceDiv, Int.reduceLE, Int.reduceLT, Int.reduceToNat, Int.reduceAdd, Int.reduceSub, Int.reduceMul, Int.reduceNeg, Int.reduceEq, Int.reduceBEq, Int.reduceBNe, ↓reduceIte, reduceCtorEq, String.reduceBNe, String.reduceEq, reduceDIte, Nat.reducePow, g1, g2, p1, C.cells, PE.ret, PE.pic, hap, noP, hsum, hmid, hk0, hk1, gk, hkb, x0, x1, x2, y0, y1, y2]
    refine Thn_n ?_
    refine hK _ _ ?_
    clear hK K
    refine AW.seq_k fun K hK => ?_
    refine AW.cond_f rfl ?_
    refine AW.exit ?_
    refine Thn_e ?_
    clear hK K
    refine Thn_e ?_
    clear hK K
    refine InB_here ?_
    refine Thn_n ?_
    refine hK _ _ ?_
    clear hK K
    refine AW.seq_k fun K hK => ?_
    refine AW.seq_k fun K hK => ?_
    refine AW.region (by decide) ?_
    simp only [push_cast, Nat.reduceAdd, Nat.reduceMul, Nat.reduceSub, Nat.reduceLeDiff, Nat.reduceLT, Nat.reduceEqDiff, Nat.reduceBEq, Nat.reduceBNe, Nat.reduceMod, Nat.reduceDiv, Int.reduceLE, Int.reduceLT, Int.reduceToNat, Int.reduceAdd, Int.reduceSub, Int.reduceMul, Int.reduceNeg, Int.reduceEq, Int.reduceBEq, Int.reduceBNe, ↓reduceIte, reduceCtorEq, String.reduceBNe, String.reduceEq, reduceDIte, Nat.reducePow, g1, g2, p1, C.cells, PE.ret, PE.pic, hap, noP, hsum, hmid, hk0, hk1, gk, hkb, x0, x1, x2, y0, y1, y2]
    refine CThen.by (middle_c (n1 : Int) (cst A n1) _) ?_
    simp only [push_cast, Nat.reduceAdd, Nat.reduceMul, Nat.reduceSub, Nat.reduceLeDiff, Nat.reduceLT, Nat.reduceEqDiff, Nat.reduceBEq, Nat.reduceBNe, Nat.reduceMod, Nat.reduceDiv, Int.reduceLE, Int.reduceLT, Int.reduceToNat, Int.reduceAdd, Int.reduceSub, Int.reduceMul, Int.reduceNeg, Int.reduceEq, Int.reduceBEq, Int.reduceBNe, ↓reduceIte, reduceCtorEq, String.reduceBNe, String.reduceEq, reduceDIte, Nat.reducePow, g1, g2, p1, C.cells, PE.ret, PE.pic, hap, noP, hsum, hmid, hk0, hk1, gk, hkb, x0, x1, x2, y0, y1, y2]
    refine Thn_n ?_
    refine hK _ _ ?_
    clear hK K
    refine AW.cond_f rfl ?_
    refine AW.skip ?_
    refine Thn_n ?_
    refine hK _ _ ?_
    clear hK K
    refine AW.seq_k fun K hK => ?_
    refine AW.draw [.rd 0, .ext, .rd 0, .ext, .ext, .val, .val, .val, .fl, .wr, .val] fol (by decide) (by kernel_rfl) ?_
    simp only [push_cast, Nat.reduceAdd, Nat.reduceMul, Nat.reduceSub, Nat.reduceLeDiff, Nat.reduceLT, Nat.reduceEqDiff, Nat.reduceBEq, Nat.reduceBNe, Nat.reduceMod, Nat.reduceDiv, Int.reduceLE, Int.reduceLT, Int.reduceToNat, Int.reduceAdd, Int.reduceSub, Int.reduceMul, Int.reduceNeg, Int.reduceEq, Int.reduceBEq, Int.reduceBNe, ↓reduceIte, reduceCtorEq, String.reduceBNe, String.reduceEq, reduceDIte, Nat.reducePow, g1, g2, p1, C.cells, PE.ret, PE.pic, hap, noP, hsum, hmid, hk0, hk1, gk, hkb, x0, x1, x2, y0, y1, y2]
    refine DCall.by (to_c _ _ _ _ _ A _ (hp.p.mono _) (by omega)) ?_
    simp only [push_cast, Nat.reduceAdd, Nat.reduceMul, Nat.reduceSub, Nat.reduceLeDiff, Nat.reduceLT, Nat.reduceEqDiff, Nat.reduceBEq, Nat.reduceBNe, Nat.reduceMod, Nat.reduceDiv, Int.reduceLE, Int.reduceLT, Int.reduceToNat, Int.reduceAdd, Int.reduceSub, Int.reduceMul, Int.reduceNeg, Int.reduceEq, Int.reduceBEq, Int.reduceBNe, ↓reduceIte, reduceCtorEq, String.reduceBNe, String.reduceEq, reduceDIte, Nat.reducePow, g1, g2, p1, C.cells, PE.ret, PE.pic, hap, noP, hsum, hmid, hk0, hk1, gk, hkb, x0, x1, x2, y0, y1, y2]
    refine DCall.by (to_c _ _ _ _ _ B _ (hq.p.mono _) (by omega)) ?_
    simp only [push_cast, Nat.reduceAdd, Nat.reduceMul, Nat.reduceSub, Nat.reduceLeDiff, Nat.reduceLT, Nat.reduceEqDiff, Nat.reduceBEq, Nat.reduceBNe, Nat.reduceMod, Nat.reduceDiv, Int.reduceLE, Int.reduceLT, Int.reduceToNat, Int.reduceAdd, Int.reduceSub, Int.reduceMul, Int.reduceNeg, Int.reduceEq, Int.reduceBEq, Int.reduceBNe, ↓reduceIte, reduceCtorEq, String.reduceBNe, String.reduceEq, reduceDIte, Nat.reducePow, g1, g2, p1, C.cells, PE.ret, PE.pic, hap, noP, hsum, hmid, hk0, hk1, gk, hkb, x0, x1, x2, y0, y1, y2]
    refine DCall.by0 (tapart_f3 _ _ _ _ _ _ _ _ _ .grow .grow 3 3 (dl n1 A) (dl n2 B) (by simp only [push_cast, Nat.reduceAdd, Nat.reduceMul, Nat.reduceSub, Nat.reduceLeDiff, Nat.reduceLT, Nat.reduceEqDiff, Nat.reduceBEq, Nat.reduceBNe, Nat.reduceMod, Nat.reduceDiv, Int.reduceLE, Int.reduceLT, Int.reduceToNat, Int.reduceAdd, Int.reduceSub, Int.reduceMul, Int.reduceNeg, Int.reduceEq, Int.reduceBEq, Int.reduceBNe, ↓reduceIte, reduceCtorEq, String.reduceBNe, String.reduceEq, reduceDIte, Nat.reducePow]; first | done | rfl) (by simp only [push_cast, Nat.reduceAdd, Nat.reduceMul, Nat.reduceSub, Nat.reduceLeDiff, Nat.reduceLT, Nat.reduceEqDiff, Nat.reduceBEq, Nat.reduceBNe, Nat.reduceMod, Nat.reduceDiv, Int.reduceLE, Int.reduceLT, Int.reduceToNat, Int.reduceAdd, Int.reduceSub, Int.reduceMul, Int.reduceNeg, Int.reduceEq, Int.reduceBEq, Int.reduceBNe, ↓reduceIte, reduceCtorEq, String.reduceBNe, String.reduceEq, reduceDIte, Nat.reducePow]; first | done | rfl) A B (dots_dl hp.u) (dots_dl hq.u) (by omega) p1 p2 p3) ?_
    simp only [push_cast, Nat.reduceAdd, Nat.reduceMul, Nat.reduceSub, Nat.reduceLeDiff, Nat.reduceLT, Nat.reduceEqDiff, Nat.reduceBEq, Nat.reduceBNe, Nat.reduceMod, Nat.reduceDiv, Int.reduceLE, Int.reduceLT, Int.reduceToNat, Int.reduceAdd, Int.reduceSub, Int.reduceMul, Int.reduceNeg, Int.reduceEq, Int.reduceBEq, Int.reduceBNe, ↓reduceIte, reduceCtorEq, String.reduceBNe, String.reduceEq, reduceDIte, Nat.reducePow, g1, g2, p1, C.cells, PE.ret, PE.pic, hap, noP, hsum, hmid, hk0, hk1, gk, hkb, x0, x1, x2, y0, y1, y2]
    refine Thn_n ?_
    refine hK _ _ ?_
    clear hK K
    refine AW.seq_k fun K hK => ?_
    refine AW.draw [.rd 0, .ext, .rd 0, .ext, .ext, .val, .val, .val, .fl, .wr, .val] fol (by decide) (by kernel_rfl) ?_
    simp only [push_cast, Nat.reduceAdd, Nat.reduceMul, Nat.reduceSub, Nat.reduceLeDiff, Nat.reduceLT, Nat.reduceEqDiff, Nat.reduceBEq, Nat.reduceBNe, Nat.reduceMod, Nat.reduceDiv, Int.reduceLE, Int.reduceLT, Int.reduceToNat, Int.reduceAdd, Int.reduceSub, Int.reduceMul, Int.reduceNeg, Int.reduceEq, Int.reduceBEq, Int.reduceBNe, ↓reduceIte, reduceCtorEq, String.reduceBNe, String.reduceEq, reduceDIte, Nat.reducePow, g1, g2, p1, C.cells, PE.ret, PE.pic, hap, noP, hsum, hmid, hk0, hk1, gk, hkb, x0, x1, x2, y0, y1, y2]
    refine DCall.by (to_c _ _ _ _ _ A _ (hp.p.mono _) (by omega)) ?_
    simp only [push_cast, Nat.reduceAdd, Nat.reduceMul, Nat.reduceSub, Nat.reduceLeDiff, Nat.reduceLT, Nat.reduceEqDiff, Nat.reduceBEq, Nat.reduceBNe, Nat.reduceMod, Nat.reduceDiv, Int.reduceLE, Int.reduceLT, Int.reduceToNat, Int.reduceAdd, Int.reduceSub, Int.reduceMul, Int.reduceNeg, Int.reduceEq, Int.reduceBEq, Int.reduceBNe, ↓reduceIte, reduceCtorEq, String.reduceBNe, String.reduceEq, reduceDIte, Nat.reducePow, g1, g2, p1, C.cells, PE.ret, PE.pic, hap, noP, hsum, hmid, hk0, hk1, gk, hkb, x0, x1, x2, y0, y1, y2]
    refine DCall.by (to_c _ _ _ _ _ B _ (hq.p.mono _) (by omega)) ?_
    simp only [push_cast, Nat.reduceAdd, Nat.reduceMul, Nat.reduceSub, Nat.reduceLeDiff, Nat.reduceLT, Nat.reduceEqDiff, Nat.reduceBEq, Nat.reduceBNe, Nat.reduceMod, Nat.reduceDiv, Int.reduceLE, Int.reduceLT, Int.reduceToNat, Int.reduceAdd, Int.reduceSub, Int.reduceMul, Int.reduceNeg, Int.reduceEq, Int.reduceBEq, Int.reduceBNe, ↓reduceIte, reduceCtorEq, String.reduceBNe, String.reduceEq, reduceDIte, Nat.reducePow, g1, g2, p1, C.cells, PE.ret, PE.pic, hap, noP, hsum, hmid, hk0, hk1, gk, hkb, x0, x1, x2, y0, y1, y2]
    refine DCall.by (apart_c _ _ _ _ _ _ _ _ _ _ A B _ ⟨.grow, 3, by simp only [push_cast, Nat.reduceAdd, Nat.reduceMul, Nat.reduceSub, Nat.reduceLeDiff, Nat.reduceLT, Nat.reduceEqDiff, Nat.reduceBEq, Nat.reduceBNe, Nat.reduceMod, Nat.reduceDiv, Int.reduceLE, Int.reduceLT, Int.reduceToNat, Int.reduceAdd, Int.reduceSub, Int.reduceMul, Int.reduceNeg, Int.reduceEq, Int.reduceBEq, Int.reduceBNe, ↓reduceIte, reduceCtorEq, String.reduceBNe, String.reduceEq, reduceDIte, Nat.reducePow, PE.blk]⟩ ⟨.grow, 3, by simp only [push_cast, Nat.reduceAdd, Nat.reduceMul, Nat.reduceSub, Nat.reduceLeDiff, Nat.reduceLT, Nat.reduceEqDiff, Nat.reduceBEq, Nat.reduceBNe, Nat.reduceMod, Nat.reduceDiv, Int.reduceLE, Int.reduceLT, Int.reduceToNat, Int.reduceAdd, Int.reduceSub, Int.reduceMul, Int.reduceNeg, Int.reduceEq, Int.reduceBEq, Int.reduceBNe, ↓reduceIte, reduceCtorEq, String.reduceBNe, String.reduceEq, reduceDIte, Nat.reducePow, PE.blk]⟩ hp.u hq.u) ?_
    simp only [push_cast, Nat.reduceAdd, Nat.reduceMul, Nat.reduceSub, Nat.reduceLeDiff, Nat.reduceLT, Nat.reduceEqDiff, Nat.reduceBEq, Nat.reduceBNe, Nat.reduceMod, Nat.reduceDiv, Int.reduceLE, Int.reduceLT, Int.reduceToNat, Int.reduceAdd, Int.reduceSub, Int.reduceMul, Int.reduceNeg, Int.reduceEq, Int.reduceBEq, Int.reduceBNe, ↓reduceIte, reduceCtorEq, String.reduceBNe, String.reduceEq, reduceDIte, Nat.reducePow, g1, g2, p1, C.cells, PE.ret, PE.pic, hap, noP, hsum, hmid, hk0, hk1, gk, hkb, x0, x1, x2, y0, y1, y2]
    refine Thn_n ?_
    refine hK _ _ ?_
    clear hK K
    refine AW.seq_k fun K hK => ?_
    refine AW.seq_k fun K hK => ?_
    refine AW.region (by decide) ?_
    simp only [push_cast, Nat.reduceAdd, Nat.reduceMul, Nat.reduceSub, Nat.reduceLeDiff, Nat.reduceLT, Nat.reduceEqDiff, Nat.reduceBEq, Nat.reduceBNe, Nat.reduceMod, Nat.reduceDiv, Int.reduceLE, Int.reduceLT, Int.reduceToNat, Int.reduceAdd, Int.reduceSub, Int.reduceMul, Int.reduceNeg, Int.reduceEq, Int.reduceBEq, Int.reduceBNe, ↓reduceIte, reduceCtorEq, String.reduceBNe, String.reduceEq, reduceDIte, Nat.reducePow, g1, g2, p1, C.cells, PE.ret, PE.pic, hap, noP, hsum, hmid, hk0, hk1, gk, hkb, x0, x1, x2, y0, y1, y2]
    refine Thn_n ?_
    refine hK _ _ ?_
    clear hK K
    refine AW.cond_f rfl ?_
    refine AW.skip ?_
    refine Thn_n ?_
    refine hK _ _ ?_
    clear hK K
    refine AW.seq_k fun K hK => ?_
    refine AW.seq_k fun K hK => ?_
    refine AW.region (by decide) ?_
    simp only [push_cast, Nat.reduceAdd, Nat.reduceMul, Nat.reduceSub, Nat.reduceLeDiff, Nat.reduceLT, Nat.reduceEqDiff, Nat.reduceBEq, Nat.reduceBNe, Nat.reduceMod, Nat.reduceDiv, Int.reduceLE, Int.reduceLT, Int.reduceToNat, Int.reduceAdd, Int.reduceSub, Int.reduceMul, Int.reduceNeg, Int.reduceEq, Int.reduceBEq, Int.reduceBNe, ↓reduceIte, reduceCtorEq, String.reduceBNe, String.reduceEq, reduceDIte, Nat.reducePow, g1, g2, p1, C.cells, PE.ret, PE.pic, hap, noP, hsum, hmid, hk0, hk1, gk, hkb, x0, x1, x2, y0, y1, y2]
    refine Thn_n ?_
    refine hK _ _ ?_
    clear hK K
    refine AW.cond_t rfl ?_
    refine AW.seq_k fun K hK => ?_
    refine AW.region (by decide) ?_
    simp only [push_cast, Nat.reduceAdd, Nat.reduceMul, Nat.reduceSub, Nat.reduceLeDiff, Nat.reduceLT, Nat.reduceEqDiff, Nat.reduceBEq, Nat.reduceBNe, Nat.reduceMod, Nat.reduceDiv, Int.reduceLE, Int.reduceLT, Int.reduceToNat, Int.reduceAdd, Int.reduceSub, Int.reduceMul, Int.reduceNeg, Int.reduceEq, Int.reduceBEq, Int.reduceBNe, ↓reduceIte, reduceCtorEq, String.reduceBNe, String.reduceEq, reduceDIte, Nat.reducePow, g1, g2, p1, C.cells, PE.ret, PE.pic, hap, noP, hsum, hmid, hk0, hk1, gk, hkb, x0, x1, x2, y0, y1, y2]
    refine CThen.by (awake32_c _) ?_
    simp only [push_cast, Nat.reduceAdd, Nat.reduceMul, Nat.reduceSub, Nat.reduceLeDiff, Nat.reduceLT, Nat.reduceEqDiff, Nat.reduceBEq, Nat.reduceBNe, Nat.reduceMod, Nat.reduceDiv, Int.reduceLE, Int.reduceLT, Int.reduceToNat, Int.reduceAdd, Int.reduceSub, Int.reduceMul, Int.reduceNeg, Int.reduceEq, Int.reduceBEq, Int.reduceBNe, ↓reduceIte, reduceCtorEq, String.reduceBNe, String.reduceEq, reduceDIte, Nat.reducePow, g1, g2, p1, C.cells, PE.ret, PE.pic, hap, noP, hsum, hmid, hk0, hk1, gk, hkb, x0, x1, x2, y0, y1, y2]
    refine Thn_n ?_
    refine hK _ _ ?_
    clear hK K
    refine AW.ret ?_
    refine Thn_r ?_
    refine hQ _ _ _ ?_
    first | refine RetP.drop0 (Or.inr rfl) ?_ ?_ hwf | refine RetP.drop (Or.inr rfl) ?_ ?_ hwf
    · simp only [resA, resOne, resTv, AV.tv, push_cast, Nat.reduceAdd, Nat.reduceMul, Nat.reduceSub, Nat.reduceLeDiff, Nat.reduceLT, Nat.reduceEqDiff, Nat.reduceBEq, Nat.reduceBNe, Nat.reduceMod, Nat.reduceDiv, Int.reduceLE, Int.reduceLT, Int.reduceToNat, Int.reduceAdd, Int.reduceSub, Int.reduceMul, Int.reduceNeg, Int.reduceEq, Int.reduceBEq, Int.reduceBNe, ↓reduceIte, reduceCtorEq, String.reduceBNe, String.reduceEq, reduceDIte, Nat.reducePow, g1, g2, p1, C.cells, PE.ret, PE.pic, hap, noP, hsum, hmid, hk0, hk1, gk, hkb, x0, x1, x2, y0, y1, y2]
    · rfl
theorem sums_f (W H W2 H2 : Int) (r1 n1 r2 n2 : Nat) (A B : Nat → Nat → Int) (m : AMem) (hp : PicIn m r1 n1 A) (hq : PicIn m r2 n2 B) (g1 : ¬ (5000 : Int) < (n1 : Int)) (g2 : ¬ (5000 : Int) < (n2 : Int)) (p1 : picR W H n1 = true) (p2 : picR W2 H2 n2 = true) (p3 : (W == W2 && H == H2) = true) (p4 : n1 = n2) : Ctr Try.prog 5 [.agg [.int .i64 W, .int .i64 H, .sl r1 0 0 n1], .agg [.int .i64 W2, .int .i64 H2, .sl r2 0 0 n2]] m (.one (.bool true)) m := by
  refine Ctr.enter Try.func5 rfl (by decide) (rs := [.tmp 4]) (nt := 149) rfl rfl fun hwf Q hQ => ?_
  subst p4
  have l1 : n1 ≤ 5000 := by omega
  obtain ⟨pw, ph, hW, hH, a1, a2, a3, a4, hn, hsz⟩ := picR_nat p1
  have n0 : 0 < n1 := by rw [hn]; exact Nat.mul_pos a1 a3
  have hn4 : n1 ≤ 4096 := by rw [hn]; exact wh_le a2 a4
  have hbn := bins_cnt (A := A) n1 (by omega)
  have hsum := sum_cnt hp.u n1
  obtain ⟨kk, hk, hmid, hpos⟩ := mid_pos hp.u n0 hn4
  obtain ⟨q0, q1, q2⟩ := ch_all hp.u n1 (by omega)
  have m0 := q0.mean n0 (by omega)
  have m1 := q1.mean n0 (by omega)
  have m2 := q2.mean n0 (by omega)
  have x0 : ¬ tmean (n1 : Int) (cst A n1).s0 < (cst A n1).l0 := by omega
  have x1 : ¬ tmean (n1 : Int) (cst A n1).s1 < (cst A n1).l1 := by omega
  have x2 : ¬ tmean (n1 : Int) (cst A n1).s2 < (cst A n1).l2 := by omega
  have y0 : ¬ (cst A n1).m0 < tmean (n1 : Int) (cst A n1).s0 := by omega
  have y1 : ¬ (cst A n1).m1 < tmean (n1 : Int) (cst A n1).s1 := by omega
  have y2 : ¬ (cst A n1).m2 < tmean (n1 : Int) (cst A n1).s2 := by omega
  have hk0 : (0 : Int) ≤ (kk : Int) := by omega
  have hk1 : (kk : Int) < (16 : Int) := by omega
  have gk := fun {x0 x1 x2 x3 x4 x5 x6 x7 x8 x9 : CV} {f : Nat → Int} => @bins_get x0 x1 x2 x3 x4 x5 x6 x7 x8 x9 f _ hk
  have hkb : ((cst A n1).b kk == 0) = false := by rw [hbn]; simp; omega
  have hap : apartF W H n1 A W2 H2 n1 B = ⟨W, H, n1, apartG A B, 0⟩ := by
    rw [apartF, if_pos]
    simp only [Bool.and_eq_true, beq_iff_eq] at p3
    simp only [apartR, p1, p2, p3, decide_true, Bool.and_self]
  have hgu : ∀ i k, 0 ≤ apartG A B i k ∧ apartG A B i k ≤ 255 := fun i k => gapV_in (hp.u i k) (hq.u i k)
  have hS := gst_sum hp.u hq.u n1 (by omega)
  obtain ⟨c0, c1, c2⟩ := ch_all hgu n1 (by omega)
  have k0 := c0.e
  have k1 := c1.e
  have k2 := c2.e
  have k3 := c0.f
  have k4 := c1.f
  have k5 := c2.f
  have hS1 : IntKind.i64.wrap ((cst (apartG A B) n1).s0 + (cst (apartG A B) n1).s1) = (cst (apartG A B) n1).s0 + (cst (apartG A B) n1).s1 := i64i (by omega)
  have hS2 : IntKind.i64.wrap ((cst (apartG A B) n1).s0 + (cst (apartG A B) n1).s1 + (cst (apartG A B) n1).s2) = (cst (apartG A B) n1).s0 + (cst (apartG A B) n1).s1 + (cst (apartG A B) n1).s2 := i64i (by omega)
  have hM : (gst A B n1).w = maxI (maxI (cst (apartG A B) n1).m0 (cst (apartG A B) n1).m1) (cst (apartG A B) n1).m2 := by
    obtain ⟨j, rfl⟩ : ∃ j, n1 = j + 1 := ⟨n1 - 1, by omega⟩
    exact gst_worst hp.u hq.u j
  have hMw : IntKind.i64.wrap (maxI (maxI (cst (apartG A B) n1).m0 (cst (apartG A B) n1).m1) (cst (apartG A B) n1).m2) = maxI (maxI (cst (apartG A B) n1).m0 (cst (apartG A B) n1).m1) (cst (apartG A B) n1).m2 := by
    have := c0.d
    have := c1.d
    have := c2.d
    have h0 : 0 ≤ (gst A B n1).w := by
      clear hM
      have : ∀ j, 0 ≤ (gst A B j).w := fun j => by
        induction j with
        | zero => exact Int.le_refl _
        | succ j ih => rw [(gst_s A B j).2]; simp only [maxI_def]; repeat' split
                       all_goals omega
      exact this n1
    rw [hM] at h0
    refine i64i ⟨by omega, ?_⟩
    simp only [maxI_def]; repeat' split
    all_goals omega
  refine AW.seq_k fun K hK => ?_
  refine AW.region (by decide) ?_
  simp only [push_cast, Nat.reduceAdd, Nat.reduceMul, Nat.reduceSub, Nat.reduceLeDiff, Nat.reduceLT, Nat.reduceEqDiff, Nat.reduceBEq, Nat.reduceBNe, Nat.reduceMod, Nat.reduceDiv, Int.reduceLE, Int.reduceLT, Int.reduceToNat, Int.reduceAdd, Int.reduceSub, Int.reduceMul, Int.reduceNeg, Int.reduceEq, Int.reduceBEq, Int.reduceBNe, ↓reduceIte, reduceCtorEq, String.reduceBNe, String.reduceEq, reduceDIte, Nat.reducePow, g1, g2, p1, C.cells, PE.ret, PE.pic, hap, G.cells, hS, hS1, hS2, hM, hMw]
  refine Thn_n ?_
  refine hK _ _ ?_
  clear hK K
  refine AW.seq_k fun K hK => ?_
  refine AW.seq_k fun K hK => ?_
  refine AW.region (by decide) ?_
  simp only [push_cast, Nat.reduceAdd, Nat.reduceMul, Nat.reduceSub, Nat.reduceLeDiff, Nat.reduceLT, Nat.reduceEqDiff, Nat.reduceBEq, Nat.reduceBNe, Nat.reduceMod, Nat.reduceDiv, Int.reduceLE, Int.reduceLT, Int.reduceToNat, Int.reduceAdd, Int.reduceSub, Int.reduceMul, Int.reduceNeg, Int.reduceEq, Int.reduceBEq, Int.reduceBNe, ↓reduceIte, reduceCtorEq, String.reduceBNe, String.reduceEq, reduceDIte, Nat.reducePow, g1, g2, p1, C.cells, PE.ret, PE.pic, hap, G.cells, hS, hS1, hS2, hM, hMw]
  refine CThen.by (refRight_c _ _ _ _ _ _) ?_
  simp only [push_cast, Nat.reduceAdd, Nat.reduceMul, Nat.reduceSub, Nat.reduceLeDiff, Nat.reduceLT, Nat.reduceEqDiff, Nat.reduceBEq, Nat.reduceBNe, Nat.reduceMod, Nat.reduceDiv, Int.reduceLE, Int.reduceLT, Int.reduceToNat, Int.reduceAdd, Int.reduceSub, Int.reduceMul, Int.reduceNeg, Int.reduceEq, Int.reduceBEq, Int.reduceBNe, ↓reduceIte, reduceCtorEq, String.reduceBNe, String.reduceEq, reduceDIte, Nat.reducePow, g1, g2, p1, C.cells, PE.ret, PE.pic, hap, G.cells, hS, hS1, hS2, hM, hMw]
  refine Thn_n ?_
  refine hK _ _ ?_
  clear hK K
  refine AW.cond_f rfl ?_
  refine AW.skip ?_
  refine Thn_n ?_
  refine hK _ _ ?_
  clear hK K
  refine AW.seq_k fun K hK => ?_
  refine AW.region (by decide) ?_
  simp only [push_cast, Nat.reduceAdd, Nat.reduceMul, Nat.reduceSub, Nat.reduceLeDiff, Nat.reduceLT, Nat.reduceEqDiff, Nat.reduceBEq, Nat.reduceBNe, Nat.reduceMod, Nat.reduceDiv, Int.reduceLE, Int.reduceLT, Int.reduceToNat, Int.reduceAdd, Int.reduceSub, Int.reduceMul, Int.reduceNeg, Int.reduceEq, Int.reduceBEq, Int.reduceBNe, ↓reduceIte, reduceCtorEq, String.reduceBNe, String.reduceEq, reduceDIte, Nat.reducePow, g1, g2, p1, C.cells, PE.ret, PE.pic, hap, G.cells, hS, hS1, hS2, hM, hMw]
  refine CThen.by (to_c _ _ _ _ _ A _ (hp.p.mono _) (by omega)) ?_
  simp only [push_cast, Nat.reduceAdd, Nat.reduceMul, Nat.reduceSub, Nat.reduceLeDiff, Nat.reduceLT, Nat.reduceEqDiff, Nat.reduceBEq, Nat.reduceBNe, Nat.reduceMod, Nat.reduceDiv, Int.reduceLE, Int.reduceLT, Int.reduceToNat, Int.reduceAdd, Int.reduceSub, Int.reduceMul, Int.reduceNeg, Int.reduceEq, Int.reduceBEq, Int.reduceBNe, ↓reduceIte, reduceCtorEq, String.reduceBNe, String.reduceEq, reduceDIte, Nat.reducePow, g1, g2, p1, C.cells, PE.ret, PE.pic, hap, G.cells, hS, hS1, hS2, hM, hMw]
  refine CThen.by (of_t _ _ _ _ _ .grow 3 _ (by simp only [push_cast, Nat.reduceAdd, Nat.reduceMul, Nat.reduceSub, Nat.reduceLeDiff, Nat.reduceLT, Nat.reduceEqDiff, Nat.reduceBEq, Nat.reduceBNe, Nat.reduceMod, Nat.reduceDiv, Int.reduceLE, Int.reduceLT, Int.reduceToNat, Int.reduceAdd, Int.reduceSub, Int.reduceMul, Int.reduceNeg, Int.reduceEq, Int.reduceBEq, Int.reduceBNe, ↓reduceIte, reduceCtorEq, String.reduceBNe, String.reduceEq, reduceDIte, Nat.reducePow, PE.blk]; first | done | rfl) _ (dots_dl hp.u) (by omega) p1 n0) ?_
  simp only [push_cast, Nat.reduceAdd, Nat.reduceMul, Nat.reduceSub, Nat.reduceLeDiff, Nat.reduceLT, Nat.reduceEqDiff, Nat.reduceBEq, Nat.reduceBNe, Nat.reduceMod, Nat.reduceDiv, Int.reduceLE, Int.reduceLT, Int.reduceToNat, Int.reduceAdd, Int.reduceSub, Int.reduceMul, Int.reduceNeg, Int.reduceEq, Int.reduceBEq, Int.reduceBNe, ↓reduceIte, reduceCtorEq, String.reduceBNe, String.reduceEq, reduceDIte, Nat.reducePow, g1, g2, p1, C.cells, PE.ret, PE.pic, hap, G.cells, hS, hS1, hS2, hM, hMw]
  refine Thn_n ?_
  refine hK _ _ ?_
  clear hK K
  refine AW.seq_k fun K hK => ?_
  refine AW.region (by decide) ?_
  simp only [push_cast, Nat.reduceAdd, Nat.reduceMul, Nat.reduceSub, Nat.reduceLeDiff, Nat.reduceLT, Nat.reduceEqDiff, Nat.reduceBEq, Nat.reduceBNe, Nat.reduceMod, Nat.reduceDiv, Int.reduceLE, Int.reduceLT, Int.reduceToNat, Int.reduceAdd, Int.reduceSub, Int.reduceMul, Int.reduceNeg, Int.reduceEq, Int.reduceBEq, Int.reduceBNe, ↓reduceIte, reduceCtorEq, String.reduceBNe, String.reduceEq, reduceDIte, Nat.reducePow, g1, g2, p1, C.cells, PE.ret, PE.pic, hap, G.cells, hS, hS1, hS2, hM, hMw]
  refine Thn_n ?_
  refine hK _ _ ?_
  clear hK K
  refine AW.seq_k fun K hK => ?_
  refine AW.seq_k fun K hK => ?_
  refine AW.region (by decide) ?_
  simp only [push_cast, Nat.reduceAdd, Nat.reduceMul, Nat.reduceSub, Nat.reduceLeDiff, Nat.reduceLT, Nat.reduceEqDiff, Nat.reduceBEq, Nat.reduceBNe, Nat.reduceMod, Nat.reduceDiv, Int.reduceLE, Int.reduceLT, Int.reduceToNat, Int.reduceAdd, Int.reduceSub, Int.reduceMul, Int.reduceNeg, Int.reduceEq, Int.reduceBEq, Int.reduceBNe, ↓reduceIte, reduceCtorEq, String.reduceBNe, String.reduceEq, reduceDIte, Nat.reducePow, g1, g2, p1, C.cells, PE.ret, PE.pic, hap, G.cells, hS, hS1, hS2, hM, hMw]
  refine Thn_n ?_
  refine hK _ _ ?_
  clear hK K
  refine AW.block ?_
  refine AW.loopK [2, 3, 5, 41] (fun i => i ≤ 16) (fun i => [(7, .one (.int .i64 ((sumN (fun k => cnt A k n1) i : Nat) : Int))), (42, .one (.int .i64 (i : Int)))]) (fun i => []) (fun i => 16 - i) 0 (by omega) ?_ ?_ fun i hi8 => ?_
  · first | rfl | (simp only [Keeps, Tm.get_cons, Nat.reduceEqDiff, ↓reduceIte, if_true, if_false, ite_true, ite_false, true_and, and_true, and_self, reduceCtorEq, sumN] <;> rfl)
  · first | rfl | (simp only [setAll, push_cast, Nat.reduceAdd, Nat.reduceMul, Nat.reduceSub, Nat.reduceLeDiff, Nat.reduceLT, Nat.reduceEqDiff, Nat.reduceBEq, Nat.reduceBNe, Nat.reduceMod, Nat.reduceDiv, Int.reduceLE, Int.reduceLT, Int.reduceToNat, Int.reduceAdd, Int.reduceSub, Int.reduceMul, Int.reduceNeg, Int.reduceEq, Int.reduceBEq, Int.reduceBNe, ↓reduceIte, reduceCtorEq, String.reduceBNe, String.reduceEq, reduceDIte, Nat.reducePow, g1, g2, p1, C.cells, PE.ret, PE.pic, hap, G.cells, hS, hS1, hS2, hM, hMw, sumN] <;> rfl)
  try simp only [keepL, setAll, push_cast, Nat.reduceAdd, Nat.reduceMul, Nat.reduceSub, Nat.reduceLeDiff, Nat.reduceLT, Nat.reduceEqDiff, Nat.reduceBEq, Nat.reduceBNe, Nat.reduceMod, Nat.reduceDiv, Int.reduceLE, Int.reduceLT, Int.reduceToNat, Int.reduceAdd, Int.reduceSub, Int.reduceMul, Int.reduceNeg, Int.reduceEq, Int.reduceBEq, Int.reduceBNe, ↓reduceIte, reduceCtorEq, String.reduceBNe, String.reduceEq, reduceDIte, Nat.reducePow, g1, g2, p1, C.cells, PE.ret, PE.pic, hap, G.cells, hS, hS1, hS2, hM, hMw]
  refine AW.seq_k fun K hK => ?_
  refine AW.region (by decide) ?_
  simp only [push_cast, Nat.reduceAdd, Nat.reduceMul, Nat.reduceSub, Nat.reduceLeDiff, Nat.reduceLT, Nat.reduceEqDiff, Nat.reduceBEq, Nat.reduceBNe, Nat.reduceMod, Nat.reduceDiv, Int.reduceLE, Int.reduceLT, Int.reduceToNat, Int.reduceAdd, Int.reduceSub, Int.reduceMul, Int.reduceNeg, Int.reduceEq, Int.reduceBEq, Int.reduceBNe, ↓reduceIte, reduceCtorEq, String.reduceBNe, String.reduceEq, reduceDIte, Nat.reducePow, g1, g2, p1, C.cells, PE.ret, PE.pic, hap, G.cells, hS, hS1, hS2, hM, hMw]
  refine Thn_n ?_
  refine hK _ _ ?_
  clear hK K
  refine AW.seq_k fun K hK => ?_
  refine AW.cond rfl (fun h43 => ?_) (fun h43 => ?_)
  · have hlt : i < 16 := by have := of_decide_eq_true h43; omega
    have c1 : (0 : Int) ≤ (i : Int) := by omega
    have c2 : (i : Int) < (16 : Int) := by omega
    have g1 := @bins_at (cst A n1).b _ hlt
    have hsw : IntKind.i64.wrap (((sumN (fun k => cnt A k n1) i : Nat) : Int) + (cst A n1).b i) = ((sumN (fun k => cnt A k n1) (i + 1) : Nat) : Int) := by
      rw [hbn]
      have e : sumN (fun k => cnt A k n1) (i + 1) = sumN (fun k => cnt A k n1) i + cnt A i n1 := rfl
      have h2 := sumF_eq (fun k => cnt A k n1) (16 - (i + 1)) (i + 1)
      rw [show i + 1 + (16 - (i + 1)) = 16 by omega, hsum] at h2
      rw [e] at h2
      rw [e, i64i (by simp only; omega)]; simp only; omega
    refine AW.skip ?_
    refine Thn_n ?_
    refine hK _ _ ?_
    clear hK K
    refine AW.seq_k fun K hK => ?_
    refine AW.block ?_
    refine AW.seq_k fun K hK => ?_
    refine AW.region (by decide) ?_
    simp only [push_cast, Nat.reduceAdd, Nat.reduceMul, Nat.reduceSub, Nat.reduceLeDiff, Nat.reduceLT, Nat.reduceEqDiff, Nat.reduceBEq, Nat.reduceBNe, Nat.reduceMod, Nat.reduceDiv, Int.reduceLE, Int.reduceLT, Int.reduceToNat, Int.reduceAdd, Int.reduceSub, Int.reduceMul, Int.reduceNeg, Int.reduceEq, Int.reduceBEq, Int.reduceBNe, ↓reduceIte, reduceCtorEq, String.reduceBNe, String.reduceEq, reduceDIte, Nat.reducePow, g1, g2, p1, C.cells, PE.ret, PE.pic, hap, G.cells, hS, hS1, hS2, hM, hMw, c1, c2, g1]
    refine Thn_n ?_
    refine hK _ _ ?_
    clear hK K
    refine AW.region (by decide) ?_
    simp only [push_cast, Nat.reduceAdd, Nat.reduceMul, Nat.reduceSub, Nat.reduceLeDiff, Nat.reduceLT, Nat.reduceEqDiff, Nat.reduceBEq, Nat.reduceBNe, Nat.reduceMod, Nat.reduceDiv, Int.reduceLE, Int.reduceLT, Int.reduceToNat, Int.reduceAdd, Int.reduceSub, Int.reduceMul, Int.reduceNeg, Int.reduceEq, Int.reduceBEq, Int.reduceBNe, ↓reduceIte, reduceCtorEq, String.reduceBNe, String.reduceEq, reduceDIte, Nat.reducePow, g1, g2, p1, C.cells, PE.ret, PE.pic, hap, G.cells, hS, hS1, hS2, hM, hMw, c1, c2, g1]
    refine InB_n ?_
    refine Thn_n ?_
    refine hK _ _ ?_
    clear hK K
    refine AW.region (by decide) ?_
    simp only [push_cast, Nat.reduceAdd, Nat.reduceMul, Nat.reduceSub, Nat.reduceLeDiff, Nat.reduceLT, Nat.reduceEqDiff, Nat.reduceBEq, Nat.reduceBNe, Nat.reduceMod, Nat.reduceDiv, Int.reduceLE, Int.reduceLT, Int.reduceToNat, Int.reduceAdd, Int.reduceSub, Int.reduceMul, Int.reduceNeg, Int.reduceEq, Int.reduceBEq, Int.reduceBNe, ↓reduceIte, reduceCtorEq, String.reduceBNe, String.reduceEq, reduceDIte, Nat.reducePow, g1, g2, p1, C.cells, PE.ret, PE.pic, hap, G.cells, hS, hS1, hS2, hM, hMw, c1, c2, g1]
    refine Thn_n ?_
    have hwi : IntKind.i64.wrap ((i:Int)+1) = (i:Int)+1 := by rw [IntKind.wrap_i64]; omega
    refine ⟨i + 1, by omega, by omega, ?_⟩
    try simp only [keepL, setAll, push_cast, Nat.reduceAdd, Nat.reduceMul, Nat.reduceSub, Nat.reduceLeDiff, Nat.reduceLT, Nat.reduceEqDiff, Nat.reduceBEq, Nat.reduceBNe, Nat.reduceMod, Nat.reduceDiv, Int.reduceLE, Int.reduceLT, Int.reduceToNat, Int.reduceAdd, Int.reduceSub, Int.reduceMul, Int.reduceNeg, Int.reduceEq, Int.reduceBEq, Int.reduceBNe, ↓reduceIte, reduceCtorEq, String.reduceBNe, String.reduceEq, reduceDIte, Nat.reducePow, g1, g2, p1, C.cells, PE.ret, PE.pic, hap, G.cells, hS, hS1, hS2, hM, hMw, c1, c2, g1, hwi, hsw]
    exact Weak.same (by simp only [Keeps, Tm.get_cons, Nat.reduceEqDiff, ↓reduceIte, if_true, if_false, ite_true, ite_false, true_and, and_true, and_self, reduceCtorEq, hwi, hsw]) (by first | rfl | simp only [Keeps, Tm.get_cons, Nat.reduceEqDiff, ↓reduceIte, if_true, if_false, ite_true, ite_false, true_and, and_true, and_self, reduceCtorEq, hwi, hsw])
  · have hi16 : i = 16 := by have := of_decide_eq_false h43; omega
    subst hi16
    refine AW.exit ?_
    refine Thn_e ?_
    clear hK K
    refine Thn_e ?_
    refine InB_here ?_
    refine Thn_n ?_
    refine hK _ _ ?_
    clear hK K
    refine AW.seq_k fun K hK => ?_
    refine AW.seq_k fun K hK => ?_
    refine AW.region (by decide) ?_
    simp only [push_cast, Nat.reduceAdd, Nat.reduceMul, Nat.reduceSub, Nat.reduceLeDiff, Nat.reduceLT, Nat.reduceEqDiff, Nat.reduceBEq, Nat.reduceBNe, Nat.reduceMod, Nat.reduceDiv, Int.reduceLE, Int.reduceLT, Int.reduceToNat, Int.reduceAdd, Int.reduceSub, Int.reduceMul, Int.reduceNeg, Int.reduceEq, Int.reduceBEq, Int.reduceBNe, ↓reduceIte, reduceCtorEq, String.reduceBNe, String.reduceEq, reduceDIte, Nat.reducePow, g1, g2, p1, C.cells, PE.ret, PE.pic, hap, G.cells, hS, hS1, hS2, hM, hMw, hsum, hmid, hk0, hk1, gk, hkb, x0, x1, x2, y0, y1, y2]
    refine CThen.by (tmean_c (n1 : Int) (cst A n1) _) ?_
    simp only [push_cast, Nat.reduceAdd, Nat.reduceMul, Nat.reduceSub, Nat.reduceLeDiff, Nat.reduceLT, Nat.reduceEqDiff, Nat.reduceBEq, Nat.reduceBNe, Nat.reduceMod, Nat.reduceDiv, Int.reduceLE, Int.reduceLT, Int.reduceToNat, Int.reduceAdd, Int.reduceSub, Int.reduceMul, Int.reduceNeg, Int.reduceEq, Int.reduceBEq, Int.reduceBNe, ↓reduceIte, reduceCtorEq, String.reduceBNe, String.reduceEq, reduceDIte, Nat.reducePow, g1, g2, p1, C.cells, PE.ret, PE.pic, hap, G.cells, hS, hS1, hS2, hM, hMw, hsum, hmid, hk0, hk1, gk, hkb, x0, x1, x2, y0, y1, y2]
    refine Thn_n ?_
    refine hK _ _ ?_
    clear hK K
    refine AW.block ?_
    refine AW.rounds 4 ?_
    iterate 3
      refine ARounds.succ fun K hK => ?_
      refine AW.seq_k fun K hK => ?_
      refine AW.region (by decide) ?_
      simp only [push_cast, Nat.reduceAdd, Nat.reduceMul, Nat.reduceSub, Nat.reduceLeDiff, Nat.reduceLT, Nat.reduceEqDiff, Nat.reduceBEq, Nat.reduceBNe, Nat.reduceMod, Nat.reduceDiv, Int.reduceLE, Int.reduceLT, Int.reduceToNat, Int.reduceAdd, Int.reduceSub, Int.reduceMul, Int.reduceNeg, Int.reduceEq, Int.reduceBEq, Int.reduceBNe, ↓reduceIte, reduceCtorEq, String.reduceBNe, String.reduceEq, reduceDIte, Nat.reducePow, g1, g2, p1, C.cells, PE.ret, PE.pic, hap, G.cells, hS, hS1, hS2, hM, hMw, hsum, hmid, hk0, hk1, gk, hkb, x0, x1, x2, y0, y1, y2]
      refine Thn_n ?_
      refine hK _ _ ?_
      clear hK K
      refine AW.seq_k fun K hK => ?_
      refine AW.cond_t rfl ?_
      refine AW.skip ?_
      refine Thn_n ?_
      refine hK _ _ ?_
      clear hK K
      refine AW.seq_k fun K hK => ?_
      refine AW.block ?_
      refine AW.seq_k fun K hK => ?_
      refine AW.region (by decide) ?_
      simp only [push_cast, Nat.reduceAdd, Nat.reduceMul, Nat.reduceSub, Nat.reduceLeDiff, Nat.reduceLT, Nat.reduceEqDiff, Nat.reduceBEq, Nat.reduceBNe, Nat.reduceMod, Nat.reduceDiv, Int.reduceLE, Int.reduceLT, Int.reduceToNat, Int.reduceAdd, Int.reduceSub, Int.reduceMul, Int.reduceNeg, Int.reduceEq, Int.reduceBEq, Int.reduceBNe, ↓reduceIte, reduceCtorEq, String.reduceBNe, String.reduceEq, reduceDIte, Nat.reducePow, g1, g2, p1, C.cells, PE.ret, PE.pic, hap, G.cells, hS, hS1, hS2, hM, hMw, hsum, hmid, hk0, hk1, gk, hkb, x0, x1, x2, y0, y1, y2]
      refine Thn_n ?_
      refine hK _ _ ?_
      clear hK K
      refine AW.seq_k fun K hK => ?_
      refine AW.region (by decide) ?_
      simp only [push_cast, Nat.reduceAdd, Nat.reduceMul, Nat.reduceSub, Nat.reduceLeDiff, Nat.reduceLT, Nat.reduceEqDiff, Nat.reduceBEq, Nat.reduceBNe, Nat.reduceMod, Nat.reduceDiv, Int.reduceLE, Int.reduceLT, Int.reduceToNat, Int.reduceAdd, Int.reduceSub, Int.reduceMul, Int.reduceNeg, Int.reduceEq, Int.reduceBEq, Int.reduceBNe, ↓reduceIte, reduceCtorEq, String.reduceBNe, String.reduceEq, reduceDIte, Nat.reducePow, g1, g2, p1, C.cells, PE.ret, PE.pic, hap, G.cells, hS, hS1, hS2, hM, hMw, hsum, hmid, hk0, hk1, gk, hkb, x0, x1, x2, y0, y1, y2]
      refine Thn_n ?_
      refine hK _ _ ?_
      clear hK K
      refine AW.cond_f rfl ?_
      refine AW.skip ?_
      refine InB_n ?_
      refine Thn_n ?_
      refine hK _ _ ?_
      clear hK K
      refine AW.region (by decide) ?_
      simp only [push_cast, Nat.reduceAdd, Nat.reduceMul, Nat.reduceSub, Nat.reduceLeDiff, Nat.reduceLT, Nat.reduceEqDiff, Nat.reduceBEq, Nat.reduceBNe, Nat.reduceMod, Nat.reduceDiv, Int.reduceLE, Int.reduceLT, Int.reduceToNat, Int.reduceAdd, Int.reduceSub, Int.reduceMul, Int.reduceNeg, Int.reduceEq, Int.reduceBEq, Int.reduceBNe, ↓reduceIte, reduceCtorEq, String.reduceBNe, String.reduceEq, reduceDIte, Nat.reducePow, g1, g2, p1, C.cells, PE.ret, PE.pic, hap, G.cells, hS, hS1, hS2, hM, hMw, hsum, hmid, hk0, hk1, gk, hkb, x0, x1, x2, y0, y1, y2]
      refine Thn_n ?_
      refine hK _ _ ?_
      clear hK K
    refine ARounds.succ fun K hK => ?_
    refine AW.seq_k fun K hK => ?_
    refine AW.region (by decide) ?_
    simp only [push_cast, Nat.reduceAdd, Nat.reduceMul, Nat.reduceSub, Nat.reduceLeDiff, Nat.reduceLT, Nat.reduceEqDiff, Nat.reduceBEq, Nat.reduceBNe, Nat.reduceMod, Nat.reduceDiv, Int.reduceLE, Int.reduceLT, Int.reduceToNat, Int.reduceAdd, Int.reduceSub, Int.reduceMul, Int.reduceNeg, Int.reduceEq, Int.reduceBEq, Int.reduceBNe, ↓reduceIte, reduceCtorEq, String.reduceBNe, String.reduceEq, reduceDIte, Nat.reducePow, g1, g2, p1, C.cells, PE.ret, PE.pic, hap, G.cells, hS, hS1, hS2, hM, hMw, hsum, hmid, hk0, hk1, gk, hkb, x0, x1, x2, y0, y1, y2]
    refine Thn_n ?_
    refine hK _ _ ?_
    clear hK K
    refine AW.seq_k fun K hK => ?_
    refine AW.cond_f rfl ?_
    refine AW.exit ?_
    refine Thn_e ?_
    clear hK K
    refine Thn_e ?_
    clear hK K
    refine InB_here ?_
    refine Thn_n ?_
    refine hK _ _ ?_
    clear hK K
    refine AW.seq_k fun K hK => ?_
    refine AW.seq_k fun K hK => ?_
    refine AW.region (by decide) ?_
    simp only [push_cast, Nat.reduceAdd, Nat.reduceMul, Nat.reduceSub, Nat.reduceLeDiff, Nat.reduceLT, Nat.reduceEqDiff, Nat.reduceBEq, Nat.reduceBNe, Nat.reduceMod, Nat.reduceDiv, Int.reduceLE, Int.reduceLT, Int.reduceToNat, Int.reduceAdd, Int.reduceSub, Int.reduceMul, Int.reduceNeg, Int.reduceEq, Int.reduceBEq, Int.reduceBNe, ↓reduceIte, reduceCtorEq, String.reduceBNe, String.reduceEq, reduceDIte, Nat.reducePow, g1, g2, p1, C.cells, PE.ret, PE.pic, hap, G.cells, hS, hS1, hS2, hM, hMw, hsum, hmid, hk0, hk1, gk, hkb, x0, x1, x2, y0, y1, y2]
    refine CThen.by (middle_c (n1 : Int) (cst A n1) _) ?_
    simp only [push_cast, Nat.reduceAdd, Nat.reduceMul, Nat.reduceSub, Nat.reduceLeDiff, Nat.reduceLT, Nat.reduceEqDiff, Nat.reduceBEq, Nat.reduceBNe, Nat.reduceMod, Nat.reduceDiv, Int.reduceLE, Int.reduceLT, Int.reduceToNat, Int.reduceAdd, Int.reduceSub, Int.reduceMul, Int.reduceNeg, Int.reduceEq, Int.reduceBEq, Int.reduceBNe, ↓reduceIte, reduceCtorEq, String.reduceBNe, String.reduceEq, reduceDIte, Nat.reducePow, g1, g2, p1, C.cells, PE.ret, PE.pic, hap, G.cells, hS, hS1, hS2, hM, hMw, hsum, hmid, hk0, hk1, gk, hkb, x0, x1, x2, y0, y1, y2]
    refine Thn_n ?_
    refine hK _ _ ?_
    clear hK K
    refine AW.cond_f rfl ?_
    refine AW.skip ?_
    refine Thn_n ?_
    refine hK _ _ ?_
    clear hK K
    refine AW.seq_k fun K hK => ?_
    refine AW.draw [.rd 0, .ext, .rd 0, .ext, .ext, .val, .val, .val, .fl, .wr, .val] fol (by decide) (by kernel_rfl) ?_
    simp only [push_cast, Nat.reduceAdd, Nat.reduceMul, Nat.reduceSub, Nat.reduceLeDiff, Nat.reduceLT, Nat.reduceEqDiff, Nat.reduceBEq, Nat.reduceBNe, Nat.reduceMod, Nat.reduceDiv, Int.reduceLE, Int.reduceLT, Int.reduceToNat, Int.reduceAdd, Int.reduceSub, Int.reduceMul, Int.reduceNeg, Int.reduceEq, Int.reduceBEq, Int.reduceBNe, ↓reduceIte, reduceCtorEq, String.reduceBNe, String.reduceEq, reduceDIte, Nat.reducePow, g1, g2, p1, C.cells, PE.ret, PE.pic, hap, G.cells, hS, hS1, hS2, hM, hMw, hsum, hmid, hk0, hk1, gk, hkb, x0, x1, x2, y0, y1, y2]
    refine DCall.by (to_c _ _ _ _ _ A _ (hp.p.mono _) (by omega)) ?_
    simp only [push_cast, Nat.reduceAdd, Nat.reduceMul, Nat.reduceSub, Nat.reduceLeDiff, Nat.reduceLT, Nat.reduceEqDiff, Nat.reduceBEq, Nat.reduceBNe, Nat.reduceMod, Nat.reduceDiv, Int.reduceLE, Int.reduceLT, Int.reduceToNat, Int.reduceAdd, Int.reduceSub, Int.reduceMul, Int.reduceNeg, Int.reduceEq, Int.reduceBEq, Int.reduceBNe, ↓reduceIte, reduceCtorEq, String.reduceBNe, String.reduceEq, reduceDIte, Nat.reducePow, g1, g2, p1, C.cells, PE.ret, PE.pic, hap, G.cells, hS, hS1, hS2, hM, hMw, hsum, hmid, hk0, hk1, gk, hkb, x0, x1, x2, y0, y1, y2]
    refine DCall.by (to_c _ _ _ _ _ B _ (hq.p.mono _) (by omega)) ?_
    simp only [push_cast, Nat.reduceAdd, Nat.reduceMul, Nat.reduceSub, Nat.reduceLeDiff, Nat.reduceLT, Nat.reduceEqDiff, Nat.reduceBEq, Nat.reduceBNe, Nat.reduceMod, Nat.reduceDiv, Int.reduceLE, Int.reduceLT, Int.reduceToNat, Int.reduceAdd, Int.reduceSub, Int.reduceMul, Int.reduceNeg, Int.reduceEq, Int.reduceBEq, Int.reduceBNe, ↓reduceIte, reduceCtorEq, String.reduceBNe, String.reduceEq, reduceDIte, Nat.reducePow, g1, g2, p1, C.cells, PE.ret, PE.pic, hap, G.cells, hS, hS1, hS2, hM, hMw, hsum, hmid, hk0, hk1, gk, hkb, x0, x1, x2, y0, y1, y2]
    refine DCall.by0 (tapart_t _ _ _ _ _ _ _ _ _ .grow .grow 3 3 (dl n1 A) (dl n1 B) (by simp only [push_cast, Nat.reduceAdd, Nat.reduceMul, Nat.reduceSub, Nat.reduceLeDiff, Nat.reduceLT, Nat.reduceEqDiff, Nat.reduceBEq, Nat.reduceBNe, Nat.reduceMod, Nat.reduceDiv, Int.reduceLE, Int.reduceLT, Int.reduceToNat, Int.reduceAdd, Int.reduceSub, Int.reduceMul, Int.reduceNeg, Int.reduceEq, Int.reduceBEq, Int.reduceBNe, ↓reduceIte, reduceCtorEq, String.reduceBNe, String.reduceEq, reduceDIte, Nat.reducePow]; first | done | rfl) (by simp only [push_cast, Nat.reduceAdd, Nat.reduceMul, Nat.reduceSub, Nat.reduceLeDiff, Nat.reduceLT, Nat.reduceEqDiff, Nat.reduceBEq, Nat.reduceBNe, Nat.reduceMod, Nat.reduceDiv, Int.reduceLE, Int.reduceLT, Int.reduceToNat, Int.reduceAdd, Int.reduceSub, Int.reduceMul, Int.reduceNeg, Int.reduceEq, Int.reduceBEq, Int.reduceBNe, ↓reduceIte, reduceCtorEq, String.reduceBNe, String.reduceEq, reduceDIte, Nat.reducePow]; first | done | rfl) A B (dots_dl hp.u) (dots_dl hq.u) (by omega) p1 p2 p3 rfl) ?_
    simp only [push_cast, Nat.reduceAdd, Nat.reduceMul, Nat.reduceSub, Nat.reduceLeDiff, Nat.reduceLT, Nat.reduceEqDiff, Nat.reduceBEq, Nat.reduceBNe, Nat.reduceMod, Nat.reduceDiv, Int.reduceLE, Int.reduceLT, Int.reduceToNat, Int.reduceAdd, Int.reduceSub, Int.reduceMul, Int.reduceNeg, Int.reduceEq, Int.reduceBEq, Int.reduceBNe, ↓reduceIte, reduceCtorEq, String.reduceBNe, String.reduceEq, reduceDIte, Nat.reducePow, g1, g2, p1, C.cells, PE.ret, PE.pic, hap, G.cells, hS, hS1, hS2, hM, hMw, hsum, hmid, hk0, hk1, gk, hkb, x0, x1, x2, y0, y1, y2]
    refine Thn_n ?_
    refine hK _ _ ?_
    clear hK K
    refine AW.seq_k fun K hK => ?_
    refine AW.draw [.rd 0, .ext, .rd 0, .ext, .ext, .val, .val, .val, .fl, .wr, .val] fol (by decide) (by kernel_rfl) ?_
    simp only [push_cast, Nat.reduceAdd, Nat.reduceMul, Nat.reduceSub, Nat.reduceLeDiff, Nat.reduceLT, Nat.reduceEqDiff, Nat.reduceBEq, Nat.reduceBNe, Nat.reduceMod, Nat.reduceDiv, Int.reduceLE, Int.reduceLT, Int.reduceToNat, Int.reduceAdd, Int.reduceSub, Int.reduceMul, Int.reduceNeg, Int.reduceEq, Int.reduceBEq, Int.reduceBNe, ↓reduceIte, reduceCtorEq, String.reduceBNe, String.reduceEq, reduceDIte, Nat.reducePow, g1, g2, p1, C.cells, PE.ret, PE.pic, hap, G.cells, hS, hS1, hS2, hM, hMw, hsum, hmid, hk0, hk1, gk, hkb, x0, x1, x2, y0, y1, y2]
    refine DCall.by (to_c _ _ _ _ _ A _ (hp.p.mono _) (by omega)) ?_
    simp only [push_cast, Nat.reduceAdd, Nat.reduceMul, Nat.reduceSub, Nat.reduceLeDiff, Nat.reduceLT, Nat.reduceEqDiff, Nat.reduceBEq, Nat.reduceBNe, Nat.reduceMod, Nat.reduceDiv, Int.reduceLE, Int.reduceLT, Int.reduceToNat, Int.reduceAdd, Int.reduceSub, Int.reduceMul, Int.reduceNeg, Int.reduceEq, Int.reduceBEq, Int.reduceBNe, ↓reduceIte, reduceCtorEq, String.reduceBNe, String.reduceEq, reduceDIte, Nat.reducePow, g1, g2, p1, C.cells, PE.ret, PE.pic, hap, G.cells, hS, hS1, hS2, hM, hMw, hsum, hmid, hk0, hk1, gk, hkb, x0, x1, x2, y0, y1, y2]
    refine DCall.by (to_c _ _ _ _ _ B _ (hq.p.mono _) (by omega)) ?_
    simp only [push_cast, Nat.reduceAdd, Nat.reduceMul, Nat.reduceSub, Nat.reduceLeDiff, Nat.reduceLT, Nat.reduceEqDiff, Nat.reduceBEq, Nat.reduceBNe, Nat.reduceMod, Nat.reduceDiv, Int.reduceLE, Int.reduceLT, Int.reduceToNat, Int.reduceAdd, Int.reduceSub, Int.reduceMul, Int.reduceNeg, Int.reduceEq, Int.reduceBEq, Int.reduceBNe, ↓reduceIte, reduceCtorEq, String.reduceBNe, String.reduceEq, reduceDIte, Nat.reducePow, g1, g2, p1, C.cells, PE.ret, PE.pic, hap, G.cells, hS, hS1, hS2, hM, hMw, hsum, hmid, hk0, hk1, gk, hkb, x0, x1, x2, y0, y1, y2]
    refine DCall.by (apart_c _ _ _ _ _ _ _ _ _ _ A B _ ⟨.grow, 3, by simp only [push_cast, Nat.reduceAdd, Nat.reduceMul, Nat.reduceSub, Nat.reduceLeDiff, Nat.reduceLT, Nat.reduceEqDiff, Nat.reduceBEq, Nat.reduceBNe, Nat.reduceMod, Nat.reduceDiv, Int.reduceLE, Int.reduceLT, Int.reduceToNat, Int.reduceAdd, Int.reduceSub, Int.reduceMul, Int.reduceNeg, Int.reduceEq, Int.reduceBEq, Int.reduceBNe, ↓reduceIte, reduceCtorEq, String.reduceBNe, String.reduceEq, reduceDIte, Nat.reducePow, PE.blk]⟩ ⟨.grow, 3, by simp only [push_cast, Nat.reduceAdd, Nat.reduceMul, Nat.reduceSub, Nat.reduceLeDiff, Nat.reduceLT, Nat.reduceEqDiff, Nat.reduceBEq, Nat.reduceBNe, Nat.reduceMod, Nat.reduceDiv, Int.reduceLE, Int.reduceLT, Int.reduceToNat, Int.reduceAdd, Int.reduceSub, Int.reduceMul, Int.reduceNeg, Int.reduceEq, Int.reduceBEq, Int.reduceBNe, ↓reduceIte, reduceCtorEq, String.reduceBNe, String.reduceEq, reduceDIte, Nat.reducePow, PE.blk]⟩ hp.u hq.u) ?_
    simp only [push_cast, Nat.reduceAdd, Nat.reduceMul, Nat.reduceSub, Nat.reduceLeDiff, Nat.reduceLT, Nat.reduceEqDiff, Nat.reduceBEq, Nat.reduceBNe, Nat.reduceMod, Nat.reduceDiv, Int.reduceLE, Int.reduceLT, Int.reduceToNat, Int.reduceAdd, Int.reduceSub, Int.reduceMul, Int.reduceNeg, Int.reduceEq, Int.reduceBEq, Int.reduceBNe, ↓reduceIte, reduceCtorEq, String.reduceBNe, String.reduceEq, reduceDIte, Nat.reducePow, g1, g2, p1, C.cells, PE.ret, PE.pic, hap, G.cells, hS, hS1, hS2, hM, hMw, hsum, hmid, hk0, hk1, gk, hkb, x0, x1, x2, y0, y1, y2]
    iterate 2
      refine Thn_n ?_
      refine hK _ _ ?_
      clear hK K
      refine AW.seq_k fun K hK => ?_
      refine AW.seq_k fun K hK => ?_
      refine AW.region (by decide) ?_
      simp only [push_cast, Nat.reduceAdd, Nat.reduceMul, Nat.reduceSub, Nat.reduceLeDiff, Nat.reduceLT, Nat.reduceEqDiff, Nat.reduceBEq, Nat.reduceBNe, Nat.reduceMod, Nat.reduceDiv, Int.reduceLE, Int.reduceLT, Int.reduceToNat, Int.reduceAdd, Int.reduceSub, Int.reduceMul, Int.reduceNeg, Int.reduceEq, Int.reduceBEq, Int.reduceBNe, ↓reduceIte, reduceCtorEq, String.reduceBNe, String.reduceEq, reduceDIte, Nat.reducePow, g1, g2, p1, C.cells, PE.ret, PE.pic, hap, G.cells, hS, hS1, hS2, hM, hMw, hsum, hmid, hk0, hk1, gk, hkb, x0, x1, x2, y0, y1, y2]
      refine Thn_n ?_
      refine hK _ _ ?_
      clear hK K
      refine AW.cond_f rfl ?_
      refine AW.skip ?_
    refine Thn_n ?_
    refine hK _ _ ?_
    clear hK K
    refine AW.seq_k fun K hK => ?_
    refine AW.region (by decide) ?_
    simp only [push_cast, Nat.reduceAdd, Nat.reduceMul, Nat.reduceSub, Nat.reduceLeDiff, Nat.reduceLT, Nat.reduceEqDiff, Nat.reduceBEq, Nat.reduceBNe, Nat.reduceMod, Nat.reduceDiv, Int.reduceLE, Int.reduceLT, Int.reduceToNat, Int.reduceAdd, Int.reduceSub, Int.reduceMul, Int.reduceNeg, Int.reduceEq, Int.reduceBEq, Int.reduceBNe, ↓reduceIte, reduceCtorEq, String.reduceBNe, String.reduceEq, reduceDIte, Nat.reducePow, g1, g2, p1, C.cells, PE.ret, PE.pic, hap, G.cells, hS, hS1, hS2, hM, hMw, hsum, hmid, hk0, hk1, gk, hkb, x0, x1, x2, y0, y1, y2]
    refine CThen.by (of_t _ _ _ _ _ .grow 3 _ (by simp only [push_cast, Nat.reduceAdd, Nat.reduceMul, Nat.reduceSub, Nat.reduceLeDiff, Nat.reduceLT, Nat.reduceEqDiff, Nat.reduceBEq, Nat.reduceBNe, Nat.reduceMod, Nat.reduceDiv, Int.reduceLE, Int.reduceLT, Int.reduceToNat, Int.reduceAdd, Int.reduceSub, Int.reduceMul, Int.reduceNeg, Int.reduceEq, Int.reduceBEq, Int.reduceBNe, ↓reduceIte, reduceCtorEq, String.reduceBNe, String.reduceEq, reduceDIte, Nat.reducePow, PE.blk]; first | done | rfl) _ (dots_dl hgu) (by omega) p1 n0) ?_
    simp only [push_cast, Nat.reduceAdd, Nat.reduceMul, Nat.reduceSub, Nat.reduceLeDiff, Nat.reduceLT, Nat.reduceEqDiff, Nat.reduceBEq, Nat.reduceBNe, Nat.reduceMod, Nat.reduceDiv, Int.reduceLE, Int.reduceLT, Int.reduceToNat, Int.reduceAdd, Int.reduceSub, Int.reduceMul, Int.reduceNeg, Int.reduceEq, Int.reduceBEq, Int.reduceBNe, ↓reduceIte, reduceCtorEq, String.reduceBNe, String.reduceEq, reduceDIte, Nat.reducePow, g1, g2, p1, C.cells, PE.ret, PE.pic, hap, G.cells, hS, hS1, hS2, hM, hMw, hsum, hmid, hk0, hk1, gk, hkb, x0, x1, x2, y0, y1, y2]
    refine Thn_n ?_
    refine hK _ _ ?_
    clear hK K
    refine AW.seq_k fun K hK => ?_
    refine AW.region (by decide) ?_
    simp only [push_cast, Nat.reduceAdd, Nat.reduceMul, Nat.reduceSub, Nat.reduceLeDiff, Nat.reduceLT, Nat.reduceEqDiff, Nat.reduceBEq, Nat.reduceBNe, Nat.reduceMod, Nat.reduceDiv, Int.reduceLE, Int.reduceLT, Int.reduceToNat, Int.reduceAdd, Int.reduceSub, Int.reduceMul, Int.reduceNeg, Int.reduceEq, Int.reduceBEq, Int.reduceBNe, ↓reduceIte, reduceCtorEq, String.reduceBNe, String.reduceEq, reduceDIte, Nat.reducePow, g1, g2, p1, C.cells, PE.ret, PE.pic, hap, G.cells, hS, hS1, hS2, hM, hMw, hsum, hmid, hk0, hk1, gk, hkb, x0, x1, x2, y0, y1, y2]
    refine CThen.by (awake32_c _) ?_
    simp only [push_cast, Nat.reduceAdd, Nat.reduceMul, Nat.reduceSub, Nat.reduceLeDiff, Nat.reduceLT, Nat.reduceEqDiff, Nat.reduceBEq, Nat.reduceBNe, Nat.reduceMod, Nat.reduceDiv, Int.reduceLE, Int.reduceLT, Int.reduceToNat, Int.reduceAdd, Int.reduceSub, Int.reduceMul, Int.reduceNeg, Int.reduceEq, Int.reduceBEq, Int.reduceBNe, ↓reduceIte, reduceCtorEq, String.reduceBNe, String.reduceEq, reduceDIte, Nat.reducePow, g1, g2, p1, C.cells, PE.ret, PE.pic, hap, G.cells, hS, hS1, hS2, hM, hMw, hsum, hmid, hk0, hk1, gk, hkb, x0, x1, x2, y0, y1, y2]
    refine Thn_n ?_
    refine hK _ _ ?_
    clear hK K
    refine AW.ret ?_
    refine hQ _ _ _ ?_
    first | refine RetP.drop0 (Or.inr rfl) ?_ ?_ hwf | refine RetP.drop (Or.inr rfl) ?_ ?_ hwf
    · simp only [resA, resOne, resTv, AV.tv, push_cast, Nat.reduceAdd, Nat.reduceMul, Nat.reduceSub, Nat.reduceLeDiff, Nat.reduceLT, Nat.reduceEqDiff, Nat.reduceBEq, Nat.reduceBNe, Nat.reduceMod, Nat.reduceDiv, Int.reduceLE, Int.reduceLT, Int.reduceToNat, Int.reduceAdd, Int.reduceSub, Int.reduceMul, Int.reduceNeg, Int.reduceEq, Int.reduceBEq, Int.reduceBNe, ↓reduceIte, reduceCtorEq, String.reduceBNe, String.reduceEq, reduceDIte, Nat.reducePow, g1, g2, p1, C.cells, PE.ret, PE.pic, hap, G.cells, hS, hS1, hS2, hM, hMw, hsum, hmid, hk0, hk1, gk, hkb, x0, x1, x2, y0, y1, y2]
    · rfl
namespace tallySumsLaw
theorem law (B : Nat) (m : AMem) (avs : List AV) (h : All2 (fun t a => goodA Try.prog B m t a) Try.f5.params.toList avs) : Ctr Try.prog 5 avs m (.one (.bool true)) m := by
  rw [Try.params5] at h
  obtain ⟨a0, l0, rfl, g0, h⟩ := all2_cons h
  obtain ⟨a1, l1, rfl, g1, h⟩ := all2_cons h
  obtain rfl := all2_nil h
  obtain ⟨W, H, r1, n1, A, rfl, h1, _⟩ := pic_of g0
  obtain ⟨W2, H2, r2, n2, B', rfl, h2, _⟩ := pic_of g1
  by_cases g1 : (5000 : Int) < (n1 : Int)
  · exact sums_a W H W2 H2 r1 n1 r2 n2 A B' m h1 h2 g1
  by_cases g2 : (5000 : Int) < (n2 : Int)
  · exact sums_b W H W2 H2 r1 n1 r2 n2 A B' m h1 h2 g1 g2
  cases p1 : picR W H n1
  · exact sums_c W H W2 H2 r1 n1 r2 n2 A B' m h1 h2 g1 g2 p1
  cases p2 : picR W2 H2 n2
  · exact sums_d W H W2 H2 r1 n1 r2 n2 A B' m h1 h2 g1 g2 p1 p2
  cases p3 : (W == W2 && H == H2)
  · exact sums_e W H W2 H2 r1 n1 r2 n2 A B' m h1 h2 g1 g2 p1 p2 p3
  refine sums_f W H W2 H2 r1 n1 r2 n2 A B' m h1 h2 g1 g2 p1 p2 p3 ?_
  simp only [Bool.and_eq_true, beq_iff_eq] at p3
  obtain ⟨rfl, rfl⟩ := p3
  exact picR_n p1 p2
theorem contract (H : Type) (enc : TypeId × Value → H) (W : World) (base : Nat) (args : Array Value) (ds gs : List (DataW H)) (before : List MemPlace)
    (hval : ∀ (j : Nat) t v, Try.f5.params[j]? = some t → args[j]? = some v → Value.okWide Try.prog W .any base t v)
    (hW : DataW.Whole enc Try.prog Try.f5.params.toList Rows.tallySumsSpec.vars false W args.toList ds gs before) :
    Calls Try.prog 5 args W fun e W' => ∃ v, e = .returned v ∧ Rows.tallySumsSpec.post enc Try.prog Try.f5 false true false false W args v W' := by
  refine law_true (B := Rows.uptoBulkAll ds) (bulk := Rows.uptoBulk) rfl ?_ laidOut laid (by kernel_rfl) (tb := 4) rfl Try.underlying4 isBulk (fun d hd => bulk_mem hd) hval hW fun m avs _ h => law _ m avs h
  obtain ⟨p, q, hA, _⟩ := hW
  rw [Try.params5] at hA
  rintro l rfl
  obtain ⟨v0, vs0, d0, ds0, p0, q0, _, rfl, _, _, r0⟩ := ChangeShapes.trodAll_cons hA
  obtain ⟨v1, vs1, d1, ds1, p1, q1, _, rfl, _, _, r1⟩ := ChangeShapes.trodAll_cons r0
  obtain ⟨_, rfl, _⟩ := ChangeShapes.trodAll_nil r1
  rfl
theorem lifted (os : Os) (started : os.Started) (H : Type) (enc : TypeId × Value → H) :
    ReturnsInHanded {} Try.checked os 5 .any (Rows.tallySumsSpec.pre6 enc Try.prog Try.f5 Rows.tallySumsRow.domain false) (Rows.tallySumsSpec.post enc Try.prog Try.f5 false true false false) := by
  refine returnsInHanded_of_change (C := Try.checked) own started (by kernel_rfl) Try.func5
    (ChangeSpec.witness6 (enc := enc) (C := Try.checked) false ⟨#[], #[.agg #[.int .i64 0, .int .i64 0, .slice none 0 0], .agg #[.int .i64 0, .int .i64 0, .slice none 0 0]], []⟩ 8 (by kernel_rfl) (by kernel_rfl) (by kernel_rfl) (by kernel_rfl)) ?_
  intro W base args ds gs before hval hW _ _
  exact contract H enc W base args ds gs before hval hW
theorem proved : Rows.TallySumsSaid :=
  OpenClaim.holds_of_wide 5 Try.f5 rfl rfl rfl rfl rfl rfl rfl ⟨rfl, rfl, rfl, rfl, rfl⟩ rfl rfl rfl rfl rfl (by kernel_rfl) Try.func5 (by kernel_rfl)
    (of_decide_eq_true (by kernel_rfl)) (by unfold Func.isWrapper; first | (rw [if_pos (by decide +kernel)]; kernel_rfl) | (rw [if_neg (by decide +kernel)]; exact ⟨rfl, rfl⟩))
    (fun os started H enc _ => lifted os started H enc)
end tallySumsLaw
end Go.Proofs.Ytgkmjcpcigklpaa
