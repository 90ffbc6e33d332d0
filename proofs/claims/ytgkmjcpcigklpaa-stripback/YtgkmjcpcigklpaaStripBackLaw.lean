/- StripBack answers true whatever it is given; no conditions. -/
import Derived.Test.YtgkmjcpcigklpaaApart
import Derived.Test.YtgkmjcpcigklpaaStripTurnsLaw
import Derived.Test.YtgkmjcpcigklpaaRows
import Derived.WalkKit
import Derived.ProofKit
import Derived.OpenShut
import Derived.JoinedCond
set_option linter.unusedSimpArgs false
set_option linter.unusedVariables false
set_option maxRecDepth 100000
set_option maxHeartbeats 4000000
namespace Go.Proofs.Ytgkmjcpcigklpaa
open Go Go.Eng

theorem flip_flip {how w h n i : Nat} (c : FlipOk w h n) (hh : how < 3) (hi : i < n) : flipS how w h (flipS how w h i) = i := by
  have a1 := c.a1
  have a3 := c.a3
  rw [c.hn] at hi
  have h1 := row_lt hi a1
  have hl := lin_at i w
  match how with
  | 0 =>
    have hd := div_at (v := i / w) (u := w - 1 - i % w) (w := w) (by omega)
    show (i / w * w + (w - 1 - i % w)) / w * w + (w - 1 - (i / w * w + (w - 1 - i % w)) % w) = i
    rw [hd.1, hd.2, show w - 1 - (w - 1 - i % w) = i % w by omega]; exact hl.symm
  | 1 =>
    have hd := div_at (v := h - 1 - i / w) (u := i % w) (w := w) h1.2
    show (h - 1 - ((h - 1 - i / w) * w + i % w) / w) * w + ((h - 1 - i / w) * w + i % w) % w = i
    rw [hd.1, hd.2, show h - 1 - (h - 1 - i / w) = i / w by (generalize i / w = q at *; omega)]; exact hl.symm
  | 2 =>
    have hd := div_at (v := h - 1 - i / w) (u := w - 1 - i % w) (w := w) (by omega)
    show (h - 1 - ((h - 1 - i / w) * w + (w - 1 - i % w)) / w) * w + (w - 1 - ((h - 1 - i / w) * w + (w - 1 - i % w)) % w) = i
    rw [hd.1, hd.2, show h - 1 - (h - 1 - i / w) = i / w by (generalize i / w = q at *; omega), show w - 1 - (w - 1 - i % w) = i % w by omega]; exact hl.symm
theorem flip_flip3 {w h n i : Nat} (c : FlipOk w h n) (hi : i < n) : flipS 3 w h (flipS 3 h w i) = i := by
  rw [c.hn] at hi
  have h1 := row_lt hi c.a1
  have hd := div_at (v := i % w) (u := i / w) (w := h) h1.1
  show (i % w * h + i / w) % h * w + (i % w * h + i / w) / h = i
  rw [hd.1, hd.2]; exact (lin_at i w).symm
theorem picR_swap {w h n : Nat} (c : FlipOk w h n) : picR (h : Int) (w : Int) n = true := by
  have := c.hp
  simp only [picR, Bool.and_eq_true] at this ⊢
  exact ⟨c.ht, by rw [Int.mul_comm]; exact this.2⟩
theorem flipF_ok {w h n : Nat} {how : Int} {G : Nat → Nat → Int} (hr : flipR (w : Int) (h : Int) n how = true) (hh : ¬ how = 3) : flipF (w : Int) (h : Int) n G how = ⟨(w : Int), (h : Int), n, flipG how.toNat w h G, 0⟩ := by
  rw [flipF, if_pos hr, if_neg hh, if_neg hh]; rfl
theorem flipF_3 {w h n : Nat} {G : Nat → Nat → Int} (hr : flipR (w : Int) (h : Int) n 3 = true) : flipF (w : Int) (h : Int) n G 3 = ⟨(h : Int), (w : Int), n, flipG 3 w h G, 0⟩ := by
  rw [flipF, if_pos hr]; rfl
/-- Turned twice. -/
theorem flip_twice {W H how : Int} {n : Nat} {G : Nat → Nat → Int} (hr : flipR W H n how = true) : ∃ W1 H1 G1 G2, flipF W H n G how = ⟨W1, H1, n, G1, 0⟩ ∧ flipF W1 H1 n G1 how = ⟨W, H, n, G2, 0⟩ ∧ ∀ i k, i < n → k < 3 → G2 i k = G i k := by
  have hr0 := hr
  simp only [flipR, Bool.and_eq_true, decide_eq_true_eq] at hr0
  obtain ⟨hp, h0, h3⟩ := hr0
  obtain ⟨w, h, rfl, rfl, c⟩ := picR_flip hp
  have hd : how = 0 ∨ how = 1 ∨ how = 2 ∨ how = 3 := by omega
  rcases hd with rfl | rfl | rfl | rfl
  · exact ⟨_, _, _, _, flipF_ok hr (by decide), flipF_ok hr (by decide), fun i k hi _ => congrArg (G · k) (flip_flip (how := 0) c (by omega) hi)⟩
  · exact ⟨_, _, _, _, flipF_ok hr (by decide), flipF_ok hr (by decide), fun i k hi _ => congrArg (G · k) (flip_flip (how := 1) c (by omega) hi)⟩
  · exact ⟨_, _, _, _, flipF_ok hr (by decide), flipF_ok hr (by decide), fun i k hi _ => congrArg (G · k) (flip_flip (how := 2) c (by omega) hi)⟩
  · have hr2 : flipR (h : Int) (w : Int) n 3 = true := by rw [flipR, picR_swap c]; rfl
    exact ⟨_, _, _, _, flipF_3 hr, flipF_3 hr2, fun i k hi _ => congrArg (G · k) (flip_flip3 c hi)⟩
theorem div2 (a : Nat) {b : Nat} (hb : b < 2) : (2 * a + b) / 2 = a := by omega
/-- Twice as great, and half of that. -/
theorem grow_half {W H : Int} {n : Nat} {G : Nat → Nat → Int} (hr : growR W H n 2 = true) : ∃ W1 H1 n1 G1 G2, growF W H n G 2 = ⟨W1, H1, n1, G1, 0⟩ ∧ halfF W1 H1 n1 G1 = ⟨W, H, n, G2, 0⟩ ∧ (∀ i k, i < n → k < 3 → G2 i k = G i k) ∧ ((∀ i k, 0 ≤ G i k ∧ G i k ≤ 255) → ∀ i k, 0 ≤ G1 i k ∧ G1 i k ≤ 255) := by
  obtain ⟨c, w, h, rfl, rfl, hc, ho⟩ := growR_nat hr
  have hc2 : c = 2 := by omega
  subst hc2
  have e1 : (2 : Int) * (w : Int) = ((2 * w : Nat) : Int) := by push_cast; rfl
  have e2 : (2 : Int) * (h : Int) = ((2 * h : Nat) : Int) := by push_cast; rfl
  have a1 := ho.a1
  have a3 := ho.a3
  have hp2 : picR ((2 * w : Nat) : Int) ((2 * h : Nat) : Int) ((2 * w) * (2 * h)) = true := by
    simp only [picR, Bool.and_eq_true, beq_iff_eq]
    have := wh_le ho.c2 ho.c4
    exact ⟨ho.hs, by rw [← Int.natCast_mul, i64n (by omega)]⟩
  have hh : halfR ((2 * w : Nat) : Int) ((2 * h : Nat) : Int) ((2 * w) * (2 * h)) = true := by
    simp only [halfR, hp2, Bool.true_and, Bool.and_eq_true, decide_eq_true_eq]
    rw [show (2 : Int) = ((2 : Nat) : Int) from rfl, tmodN, tmodN]; omega
  refine ⟨((2 * w : Nat) : Int), ((2 * h : Nat) : Int), (2 * w) * (2 * h), growG 2 (2 * w) w G, halfG w (2 * w) (growG 2 (2 * w) w G), by rw [growF, if_pos hr, e1, e2]; rfl, ?_, ?_, fun hu i k => hu _ _⟩
  rotate_left
  · intro i k hi _
    have hl := row_lt (w := w) (h := h) (by rw [← ho.hn]; exact hi) a1
    have key : ∀ a b, a < 2 → b < 2 → growG 2 (2 * w) w G ((2 * (i / w) + a) * (2 * w) + (2 * (i % w) + b)) k = G i k := by
      intro a b ha hb
      have hd := div_at (v := 2 * (i / w) + a) (u := 2 * (i % w) + b) (w := 2 * w) (by omega)
      simp only [growG, hd.1, hd.2, div2 _ ha, div2 _ hb]
      rw [← lin_at i w]
    have k0 := key 0 0 (by omega) (by omega)
    have k1 := key 0 1 (by omega) (by omega)
    have k2 := key 1 0 (by omega) (by omega)
    have k3 := key 1 1 (by omega) (by omega)
    simp only [Nat.add_zero] at k0 k1 k2
    simp only [halfG, k0, k1, k2, k3, m4]
    omega
  · rw [halfF, if_pos hh]
    have h1 : ((2 * w : Nat) : Int).tdiv 2 = (w : Int) := by rw [show (2 : Int) = ((2 : Nat) : Int) from rfl, tdivN]; omega
    have h2 : ((2 * h : Nat) : Int).tdiv 2 = (h : Int) := by rw [show (2 : Int) = ((2 : Nat) : Int) from rfl, tdivN]; omega
    have h3 : ((2 * w : Nat) : Int).toNat / 2 = w := by simp only [Int.toNat_natCast]; omega
    have h4 : ((2 * h : Nat) : Int).toNat / 2 = h := by simp only [Int.toNat_natCast]; omega
    rw [h1, h2, h3, h4, ho.hn]; rfl
theorem flip_off {W H how : Int} {n : Nat} {G : Nat → Nat → Int} (hr : flipR W H n how = false) : flipF W H n G how = noP := by rw [flipF, if_neg (by rw [hr]; simp)]
theorem grow_off {W H b : Int} {n : Nat} {G : Nat → Nat → Int} (hr : growR W H n b = false) : growF W H n G b = noP := by rw [growF, if_neg (by rw [hr]; simp)]
theorem apart_self {W H : Int} {n : Nat} {A : Nat → Nat → Int} (hp : picR W H n = true) : apartF W H n A W H n A = ⟨W, H, n, apartG A A, 0⟩ := by
  rw [apartF, if_pos]
  simp [apartR, hp]
theorem apart_z (A : Nat → Nat → Int) (i k : Nat) : apartG A A i k = 0 := by simp [apartG, gapV]

theorem back_dark (W H how : Int) (r1 n1 : Nat) (A : Nat → Nat → Int) (m : AMem) (hp : PicIn m r1 n1 A) (hl : lightB (fun _ => n1) 1 = false) : Ctr Try.prog 7 [.agg [.int .i64 W, .int .i64 H, .sl r1 0 0 n1], .one (.int .i64 how)] m (.one (.bool true)) m := by
  refine Ctr.enter Try.func7 rfl (by decide) (rs := [.tmp 4]) (nt := 94) rfl rfl fun hwf Q hQ => ?_
  have hb := hp.p
  refine AW.seq_k fun K hK => ?_
  refine AW.region (by decide) ?_
  simp only [push_cast, Nat.reduceAdd, Nat.reduceMul, Nat.reduceSub, Nat.reduceLeDiff, Nat.reduceLT, Nat.reduceEqDiff, Nat.reduceBEq, Nat.reduceBNe, Nat.reduceMod, Nat.reduceDiv, Int.reduceLE, Int.reduceLT, Int.reduceToNat, Int.reduceAdd, Int.reduceSub, Int.reduceMul, Int.reduceNeg, Int.reduceEq, Int.reduceBEq, Int.reduceBNe, ↓reduceIte, reduceCtorEq, String.reduceBNe, String.reduceEq, reduceDIte, Nat.reducePow, hl]
  refine Thn_n ?_
  refine hK _ _ ?_
  clear hK K
  refine AW.seq_k fun K hK => ?_
  refine AW.seq_k fun K hK => ?_
  refine AW.region (by decide) ?_
  simp only [push_cast, Nat.reduceAdd, Nat.reduceMul, Nat.reduceSub, Nat.reduceLeDiff, Nat.reduceLT, Nat.reduceEqDiff, Nat.reduceBEq, Nat.reduceBNe, Nat.reduceMod, Nat.reduceDiv, Int.reduceLE, Int.reduceLT, Int.reduceToNat, Int.reduceAdd, Int.reduceSub, Int.reduceMul, Int.reduceNeg, Int.reduceEq, Int.reduceBEq, Int.reduceBNe, ↓reduceIte, reduceCtorEq, String.reduceBNe, String.reduceEq, reduceDIte, Nat.reducePow, hl]
  refine CThen.by (light_c _ _ 1 (fun _ => W) (fun _ => H) (fun _ => r1) (fun _ => n1) _ .grow 3 (by simp only [push_cast, Nat.reduceAdd, Nat.reduceMul, Nat.reduceSub, Nat.reduceLeDiff, Nat.reduceLT, Nat.reduceEqDiff, Nat.reduceBEq, Nat.reduceBNe, Nat.reduceMod, Nat.reduceDiv, Int.reduceLE, Int.reduceLT, Int.reduceToNat, Int.reduceAdd, Int.reduceSub, Int.reduceMul, Int.reduceNeg, Int.reduceEq, Int.reduceBEq, Int.reduceBNe, ↓reduceIte, reduceCtorEq, String.reduceBNe, String.reduceEq, reduceDIte, Nat.reducePow, pl]) (by omega)) ?_
  simp only [push_cast, Nat.reduceAdd, Nat.reduceMul, Nat.reduceSub, Nat.reduceLeDiff, Nat.reduceLT, Nat.reduceEqDiff, Nat.reduceBEq, Nat.reduceBNe, Nat.reduceMod, Nat.reduceDiv, Int.reduceLE, Int.reduceLT, Int.reduceToNat, Int.reduceAdd, Int.reduceSub, Int.reduceMul, Int.reduceNeg, Int.reduceEq, Int.reduceBEq, Int.reduceBNe, ↓reduceIte, reduceCtorEq, String.reduceBNe, String.reduceEq, reduceDIte, Nat.reducePow, hl]
  refine Thn_n ?_
  refine hK _ _ ?_
  clear hK K
  refine AW.cond_t rfl ?_
  refine AW.seq_k fun K hK => ?_
  refine AW.region (by decide) ?_
  simp only [push_cast, Nat.reduceAdd, Nat.reduceMul, Nat.reduceSub, Nat.reduceLeDiff, Nat.reduceLT, Nat.reduceEqDiff, Nat.reduceBEq, Nat.reduceBNe, Nat.reduceMod, Nat.reduceDiv, Int.reduceLE, Int.reduceLT, Int.reduceToNat, Int.reduceAdd, Int.reduceSub, Int.reduceMul, Int.reduceNeg, Int.reduceEq, Int.reduceBEq, Int.reduceBNe, ↓reduceIte, reduceCtorEq, String.reduceBNe, String.reduceEq, reduceDIte, Nat.reducePow, hl]
  refine CThen.by (awake_c _) ?_
  simp only [push_cast, Nat.reduceAdd, Nat.reduceMul, Nat.reduceSub, Nat.reduceLeDiff, Nat.reduceLT, Nat.reduceEqDiff, Nat.reduceBEq, Nat.reduceBNe, Nat.reduceMod, Nat.reduceDiv, Int.reduceLE, Int.reduceLT, Int.reduceToNat, Int.reduceAdd, Int.reduceSub, Int.reduceMul, Int.reduceNeg, Int.reduceEq, Int.reduceBEq, Int.reduceBNe, ↓reduceIte, reduceCtorEq, String.reduceBNe, String.reduceEq, reduceDIte, Nat.reducePow, hl]
  refine Thn_n ?_
  refine hK _ _ ?_
  clear hK K
  refine AW.ret ?_
  refine Thn_r ?_
  refine hQ _ _ _ ?_
  first | refine RetP.drop0 (Or.inr rfl) ?_ ?_ hwf | refine RetP.drop (Or.inr rfl) ?_ ?_ hwf
  · simp only [resA, resOne, resTv, AV.tv, push_cast, Nat.reduceAdd, Nat.reduceMul, Nat.reduceSub, Nat.reduceLeDiff, Nat.reduceLT, Nat.reduceEqDiff, Nat.reduceBEq, Nat.reduceBNe, Nat.reduceMod, Nat.reduceDiv, Int.reduceLE, Int.reduceLT, Int.reduceToNat, Int.reduceAdd, Int.reduceSub, Int.reduceMul, Int.reduceNeg, Int.reduceEq, Int.reduceBEq, Int.reduceBNe, ↓reduceIte, reduceCtorEq, String.reduceBNe, String.reduceEq, reduceDIte, Nat.reducePow, hl]
  · rfl
theorem back_bad (W H how : Int) (r1 n1 : Nat) (A : Nat → Nat → Int) (m : AMem) (hp : PicIn m r1 n1 A) (hl : lightB (fun _ => n1) 1 = true) (hq : picR W H n1 = false) : Ctr Try.prog 7 [.agg [.int .i64 W, .int .i64 H, .sl r1 0 0 n1], .one (.int .i64 how)] m (.one (.bool true)) m := by
  refine Ctr.enter Try.func7 rfl (by decide) (rs := [.tmp 4]) (nt := 94) rfl rfl fun hwf Q hQ => ?_
  have hb := hp.p
  refine AW.seq_k fun K hK => ?_
  refine AW.region (by decide) ?_
  simp only [push_cast, Nat.reduceAdd, Nat.reduceMul, Nat.reduceSub, Nat.reduceLeDiff, Nat.reduceLT, Nat.reduceEqDiff, Nat.reduceBEq, Nat.reduceBNe, Nat.reduceMod, Nat.reduceDiv, Int.reduceLE, Int.reduceLT, Int.reduceToNat, Int.reduceAdd, Int.reduceSub, Int.reduceMul, Int.reduceNeg, Int.reduceEq, Int.reduceBEq, Int.reduceBNe, ↓reduceIte, reduceCtorEq, String.reduceBNe, String.reduceEq, reduceDIte, Nat.reducePow, hl, hq]
  refine Thn_n ?_
  refine hK _ _ ?_
  clear hK K
  refine AW.seq_k fun K hK => ?_
  refine AW.seq_k fun K hK => ?_
  refine AW.region (by decide) ?_
  simp only [push_cast, Nat.reduceAdd, Nat.reduceMul, Nat.reduceSub, Nat.reduceLeDiff, Nat.reduceLT, Nat.reduceEqDiff, Nat.reduceBEq, Nat.reduceBNe, Nat.reduceMod, Nat.reduceDiv, Int.reduceLE, Int.reduceLT, Int.reduceToNat, Int.reduceAdd, Int.reduceSub, Int.reduceMul, Int.reduceNeg, Int.reduceEq, Int.reduceBEq, Int.reduceBNe, ↓reduceIte, reduceCtorEq, String.reduceBNe, String.reduceEq, reduceDIte, Nat.reducePow, hl, hq]
  refine CThen.by (light_c _ _ 1 (fun _ => W) (fun _ => H) (fun _ => r1) (fun _ => n1) _ .grow 3 (by simp only [push_cast, Nat.reduceAdd, Nat.reduceMul, Nat.reduceSub, Nat.reduceLeDiff, Nat.reduceLT, Nat.reduceEqDiff, Nat.reduceBEq, Nat.reduceBNe, Nat.reduceMod, Nat.reduceDiv, Int.reduceLE, Int.reduceLT, Int.reduceToNat, Int.reduceAdd, Int.reduceSub, Int.reduceMul, Int.reduceNeg, Int.reduceEq, Int.reduceBEq, Int.reduceBNe, ↓reduceIte, reduceCtorEq, String.reduceBNe, String.reduceEq, reduceDIte, Nat.reducePow, pl]) (by omega)) ?_
  simp only [push_cast, Nat.reduceAdd, Nat.reduceMul, Nat.reduceSub, Nat.reduceLeDiff, Nat.reduceLT, Nat.reduceEqDiff, Nat.reduceBEq, Nat.reduceBNe, Nat.reduceMod, Nat.reduceDiv, Int.reduceLE, Int.reduceLT, Int.reduceToNat, Int.reduceAdd, Int.reduceSub, Int.reduceMul, Int.reduceNeg, Int.reduceEq, Int.reduceBEq, Int.reduceBNe, ↓reduceIte, reduceCtorEq, String.reduceBNe, String.reduceEq, reduceDIte, Nat.reducePow, hl, hq]
  refine CThen.by (refRight_c _ _ _ _ _ _) ?_
  simp only [push_cast, Nat.reduceAdd, Nat.reduceMul, Nat.reduceSub, Nat.reduceLeDiff, Nat.reduceLT, Nat.reduceEqDiff, Nat.reduceBEq, Nat.reduceBNe, Nat.reduceMod, Nat.reduceDiv, Int.reduceLE, Int.reduceLT, Int.reduceToNat, Int.reduceAdd, Int.reduceSub, Int.reduceMul, Int.reduceNeg, Int.reduceEq, Int.reduceBEq, Int.reduceBNe, ↓reduceIte, reduceCtorEq, String.reduceBNe, String.reduceEq, reduceDIte, Nat.reducePow, hl, hq]
  refine Thn_n ?_
  refine hK _ _ ?_
  clear hK K
  refine AW.cond_t rfl ?_
  refine AW.seq_k fun K hK => ?_
  refine AW.region (by decide) ?_
  simp only [push_cast, Nat.reduceAdd, Nat.reduceMul, Nat.reduceSub, Nat.reduceLeDiff, Nat.reduceLT, Nat.reduceEqDiff, Nat.reduceBEq, Nat.reduceBNe, Nat.reduceMod, Nat.reduceDiv, Int.reduceLE, Int.reduceLT, Int.reduceToNat, Int.reduceAdd, Int.reduceSub, Int.reduceMul, Int.reduceNeg, Int.reduceEq, Int.reduceBEq, Int.reduceBNe, ↓reduceIte, reduceCtorEq, String.reduceBNe, String.reduceEq, reduceDIte, Nat.reducePow, hl, hq]
  refine CThen.by (awake_c _) ?_
  simp only [push_cast, Nat.reduceAdd, Nat.reduceMul, Nat.reduceSub, Nat.reduceLeDiff, Nat.reduceLT, Nat.reduceEqDiff, Nat.reduceBEq, Nat.reduceBNe, Nat.reduceMod, Nat.reduceDiv, Int.reduceLE, Int.reduceLT, Int.reduceToNat, Int.reduceAdd, Int.reduceSub, Int.reduceMul, Int.reduceNeg, Int.reduceEq, Int.reduceBEq, Int.reduceBNe, ↓reduceIte, reduceCtorEq, String.reduceBNe, String.reduceEq, reduceDIte, Nat.reducePow, hl, hq]
  refine Thn_n ?_
  refine hK _ _ ?_
  clear hK K
  refine AW.ret ?_
  refine Thn_r ?_
  refine hQ _ _ _ ?_
  first | refine RetP.drop0 (Or.inr rfl) ?_ ?_ hwf | refine RetP.drop (Or.inr rfl) ?_ ?_ hwf
  · simp only [resA, resOne, resTv, AV.tv, push_cast, Nat.reduceAdd, Nat.reduceMul, Nat.reduceSub, Nat.reduceLeDiff, Nat.reduceLT, Nat.reduceEqDiff, Nat.reduceBEq, Nat.reduceBNe, Nat.reduceMod, Nat.reduceDiv, Int.reduceLE, Int.reduceLT, Int.reduceToNat, Int.reduceAdd, Int.reduceSub, Int.reduceMul, Int.reduceNeg, Int.reduceEq, Int.reduceBEq, Int.reduceBNe, ↓reduceIte, reduceCtorEq, String.reduceBNe, String.reduceEq, reduceDIte, Nat.reducePow, hl, hq]
  · rfl
theorem back_tt (W H how : Int) (r1 n1 : Nat) (A : Nat → Nat → Int) (m : AMem) (hp : PicIn m r1 n1 A) (hl : lightB (fun _ => n1) 1 = true) (hq : picR W H n1 = true) (hfl : flipR W H n1 how = true) (hgr : growR W H n1 2 = true) : Ctr Try.prog 7 [.agg [.int .i64 W, .int .i64 H, .sl r1 0 0 n1], .one (.int .i64 how)] m (.one (.bool true)) m := by
  refine Ctr.enter Try.func7 rfl (by decide) (rs := [.tmp 4]) (nt := 94) rfl rfl fun hwf Q hQ => ?_
  have l1 := light1 hl
  obtain ⟨kp, ez, hb⟩ := hp.p.hb
  have hr := get_lt hb
  obtain ⟨W1, H1, F1, F2, hf1, hf2, hfe⟩ := flip_twice (G := A) hfl
  obtain ⟨W3, H3, n3, G1, G2, hg1, hg2, hge, hgu⟩ := grow_half (G := A) hgr
  have ha1 := apart_self (A := A) hq
  refine AW.seq_k fun K hK => ?_
  refine AW.region (by decide) ?_
  simp only [push_cast, Nat.reduceAdd, Nat.reduceMul, Nat.reduceSub, Nat.reduceLeDiff, Nat.reduceLT, Nat.reduceEqDiff, Nat.reduceBEq, Nat.reduceBNe, Nat.reduceMod, Nat.reduceDiv, Int.reduceLE, Int.reduceLT, Int.reduceToNat, Int.reduceAdd, Int.reduceSub, Int.reduceMul, Int.reduceNeg, Int.reduceEq, Int.reduceBEq, Int.reduceBNe, ↓reduceIte, reduceCtorEq, String.reduceBNe, String.reduceEq, reduceDIte, Nat.reducePow, hl, hq, PE.ret, PE.pic, hf1, hg1, ha1, hf2, hg2]
  refine Thn_n ?_
  refine hK _ _ ?_
  clear hK K
  refine AW.seq_k fun K hK => ?_
  refine AW.seq_k fun K hK => ?_
  refine AW.region (by decide) ?_
  simp only [push_cast, Nat.reduceAdd, Nat.reduceMul, Nat.reduceSub, Nat.reduceLeDiff, Nat.reduceLT, Nat.reduceEqDiff, Nat.reduceBEq, Nat.reduceBNe, Nat.reduceMod, Nat.reduceDiv, Int.reduceLE, Int.reduceLT, Int.reduceToNat, Int.reduceAdd, Int.reduceSub, Int.reduceMul, Int.reduceNeg, Int.reduceEq, Int.reduceBEq, Int.reduceBNe, ↓reduceIte, reduceCtorEq, String.reduceBNe, String.reduceEq, reduceDIte, Nat.reducePow, hl, hq, PE.ret, PE.pic, hf1, hg1, ha1, hf2, hg2]
  refine CThen.by (light_c _ _ 1 (fun _ => W) (fun _ => H) (fun _ => r1) (fun _ => n1) _ .grow 3 (by simp only [push_cast, Nat.reduceAdd, Nat.reduceMul, Nat.reduceSub, Nat.reduceLeDiff, Nat.reduceLT, Nat.reduceEqDiff, Nat.reduceBEq, Nat.reduceBNe, Nat.reduceMod, Nat.reduceDiv, Int.reduceLE, Int.reduceLT, Int.reduceToNat, Int.reduceAdd, Int.reduceSub, Int.reduceMul, Int.reduceNeg, Int.reduceEq, Int.reduceBEq, Int.reduceBNe, ↓reduceIte, reduceCtorEq, String.reduceBNe, String.reduceEq, reduceDIte, Nat.reducePow, pl]) (by omega)) ?_
  simp only [push_cast, Nat.reduceAdd, Nat.reduceMul, Nat.reduceSub, Nat.reduceLeDiff, Nat.reduceLT, Nat.reduceEqDiff, Nat.reduceBEq, Nat.reduceBNe, Nat.reduceMod, Nat.reduceDiv, Int.reduceLE, Int.reduceLT, Int.reduceToNat, Int.reduceAdd, Int.reduceSub, Int.reduceMul, Int.reduceNeg, Int.reduceEq, Int.reduceBEq, Int.reduceBNe, ↓reduceIte, reduceCtorEq, String.reduceBNe, String.reduceEq, reduceDIte, Nat.reducePow, hl, hq, PE.ret, PE.pic, hf1, hg1, ha1, hf2, hg2]
  refine CThen.by (refRight_c _ _ _ _ _ _) ?_
  simp only [push_cast, Nat.reduceAdd, Nat.reduceMul, Nat.reduceSub, Nat.reduceLeDiff, Nat.reduceLT, Nat.reduceEqDiff, Nat.reduceBEq, Nat.reduceBNe, Nat.reduceMod, Nat.reduceDiv, Int.reduceLE, Int.reduceLT, Int.reduceToNat, Int.reduceAdd, Int.reduceSub, Int.reduceMul, Int.reduceNeg, Int.reduceEq, Int.reduceBEq, Int.reduceBNe, ↓reduceIte, reduceCtorEq, String.reduceBNe, String.reduceEq, reduceDIte, Nat.reducePow, hl, hq, PE.ret, PE.pic, hf1, hg1, ha1, hf2, hg2]
  refine Thn_n ?_
  refine hK _ _ ?_
  clear hK K
  refine AW.cond_f rfl ?_
  refine AW.skip ?_
  refine Thn_n ?_
  refine hK _ _ ?_
  clear hK K
  refine AW.seq_k fun K hK => ?_
  refine AW.region (by decide) ?_
  simp only [push_cast, Nat.reduceAdd, Nat.reduceMul, Nat.reduceSub, Nat.reduceLeDiff, Nat.reduceLT, Nat.reduceEqDiff, Nat.reduceBEq, Nat.reduceBNe, Nat.reduceMod, Nat.reduceDiv, Int.reduceLE, Int.reduceLT, Int.reduceToNat, Int.reduceAdd, Int.reduceSub, Int.reduceMul, Int.reduceNeg, Int.reduceEq, Int.reduceBEq, Int.reduceBNe, ↓reduceIte, reduceCtorEq, String.reduceBNe, String.reduceEq, reduceDIte, Nat.reducePow, hl, hq, PE.ret, PE.pic, hf1, hg1, ha1, hf2, hg2]
  refine CThen.by (to_c _ _ _ _ _ A _ (hp.p.mono _) (by omega)) ?_
  simp only [push_cast, Nat.reduceAdd, Nat.reduceMul, Nat.reduceSub, Nat.reduceLeDiff, Nat.reduceLT, Nat.reduceEqDiff, Nat.reduceBEq, Nat.reduceBNe, Nat.reduceMod, Nat.reduceDiv, Int.reduceLE, Int.reduceLT, Int.reduceToNat, Int.reduceAdd, Int.reduceSub, Int.reduceMul, Int.reduceNeg, Int.reduceEq, Int.reduceBEq, Int.reduceBNe, ↓reduceIte, reduceCtorEq, String.reduceBNe, String.reduceEq, reduceDIte, Nat.reducePow, hl, hq, PE.ret, PE.pic, hf1, hg1, ha1, hf2, hg2]
  refine Thn_n ?_
  refine hK _ _ ?_
  clear hK K
  refine AW.seq_k fun K hK => ?_
  refine AW.seq_k fun K hK => ?_
  refine AW.region (by decide) ?_
  simp only [push_cast, Nat.reduceAdd, Nat.reduceMul, Nat.reduceSub, Nat.reduceLeDiff, Nat.reduceLT, Nat.reduceEqDiff, Nat.reduceBEq, Nat.reduceBNe, Nat.reduceMod, Nat.reduceDiv, Int.reduceLE, Int.reduceLT, Int.reduceToNat, Int.reduceAdd, Int.reduceSub, Int.reduceMul, Int.reduceNeg, Int.reduceEq, Int.reduceBEq, Int.reduceBNe, ↓reduceIte, reduceCtorEq, String.reduceBNe, String.reduceEq, reduceDIte, Nat.reducePow, hl, hq, PE.ret, PE.pic, hf1, hg1, ha1, hf2, hg2]
  refine CThen.by (flip_c _ _ _ _ _ _ A _ ⟨.grow, 3, by simp only [push_cast, Nat.reduceAdd, Nat.reduceMul, Nat.reduceSub, Nat.reduceLeDiff, Nat.reduceLT, Nat.reduceEqDiff, Nat.reduceBEq, Nat.reduceBNe, Nat.reduceMod, Nat.reduceDiv, Int.reduceLE, Int.reduceLT, Int.reduceToNat, Int.reduceAdd, Int.reduceSub, Int.reduceMul, Int.reduceNeg, Int.reduceEq, Int.reduceBEq, Int.reduceBNe, ↓reduceIte, reduceCtorEq, String.reduceBNe, String.reduceEq, reduceDIte, Nat.reducePow, PE.blk]⟩) ?_
  simp only [push_cast, Nat.reduceAdd, Nat.reduceMul, Nat.reduceSub, Nat.reduceLeDiff, Nat.reduceLT, Nat.reduceEqDiff, Nat.reduceBEq, Nat.reduceBNe, Nat.reduceMod, Nat.reduceDiv, Int.reduceLE, Int.reduceLT, Int.reduceToNat, Int.reduceAdd, Int.reduceSub, Int.reduceMul, Int.reduceNeg, Int.reduceEq, Int.reduceBEq, Int.reduceBNe, ↓reduceIte, reduceCtorEq, String.reduceBNe, String.reduceEq, reduceDIte, Nat.reducePow, hl, hq, PE.ret, PE.pic, hf1, hg1, ha1, hf2, hg2]
  refine Thn_n ?_
  refine hK _ _ ?_
  clear hK K
  refine AW.seq_k fun K hK => ?_
  refine AW.region (by decide) ?_
  simp only [push_cast, Nat.reduceAdd, Nat.reduceMul, Nat.reduceSub, Nat.reduceLeDiff, Nat.reduceLT, Nat.reduceEqDiff, Nat.reduceBEq, Nat.reduceBNe, Nat.reduceMod, Nat.reduceDiv, Int.reduceLE, Int.reduceLT, Int.reduceToNat, Int.reduceAdd, Int.reduceSub, Int.reduceMul, Int.reduceNeg, Int.reduceEq, Int.reduceBEq, Int.reduceBNe, ↓reduceIte, reduceCtorEq, String.reduceBNe, String.reduceEq, reduceDIte, Nat.reducePow, hl, hq, PE.ret, PE.pic, hf1, hg1, ha1, hf2, hg2]
  refine Thn_n ?_
  refine hK _ _ ?_
  clear hK K
  refine AW.cond_t rfl ?_
  refine AW.seq_k fun K hK => ?_
  refine AW.region (by decide) ?_
  simp only [push_cast, Nat.reduceAdd, Nat.reduceMul, Nat.reduceSub, Nat.reduceLeDiff, Nat.reduceLT, Nat.reduceEqDiff, Nat.reduceBEq, Nat.reduceBNe, Nat.reduceMod, Nat.reduceDiv, Int.reduceLE, Int.reduceLT, Int.reduceToNat, Int.reduceAdd, Int.reduceSub, Int.reduceMul, Int.reduceNeg, Int.reduceEq, Int.reduceBEq, Int.reduceBNe, ↓reduceIte, reduceCtorEq, String.reduceBNe, String.reduceEq, reduceDIte, Nat.reducePow, hl, hq, PE.ret, PE.pic, hf1, hg1, ha1, hf2, hg2]
  refine CThen.by (flip_c _ _ _ _ _ _ F1 _ ⟨.grow, 3, by simp only [push_cast, Nat.reduceAdd, Nat.reduceMul, Nat.reduceSub, Nat.reduceLeDiff, Nat.reduceLT, Nat.reduceEqDiff, Nat.reduceBEq, Nat.reduceBNe, Nat.reduceMod, Nat.reduceDiv, Int.reduceLE, Int.reduceLT, Int.reduceToNat, Int.reduceAdd, Int.reduceSub, Int.reduceMul, Int.reduceNeg, Int.reduceEq, Int.reduceBEq, Int.reduceBNe, ↓reduceIte, reduceCtorEq, String.reduceBNe, String.reduceEq, reduceDIte, Nat.reducePow, PE.blk]⟩) ?_
  simp only [push_cast, Nat.reduceAdd, Nat.reduceMul, Nat.reduceSub, Nat.reduceLeDiff, Nat.reduceLT, Nat.reduceEqDiff, Nat.reduceBEq, Nat.reduceBNe, Nat.reduceMod, Nat.reduceDiv, Int.reduceLE, Int.reduceLT, Int.reduceToNat, Int.reduceAdd, Int.reduceSub, Int.reduceMul, Int.reduceNeg, Int.reduceEq, Int.reduceBEq, Int.reduceBNe, ↓reduceIte, reduceCtorEq, String.reduceBNe, String.reduceEq, reduceDIte, Nat.reducePow, hl, hq, PE.ret, PE.pic, hf1, hg1, ha1, hf2, hg2]
  refine Thn_n ?_
  refine hK _ _ ?_
  clear hK K
  refine AW.seq_k fun K hK => ?_
  refine AW.draw [.val, .val, .val, .rd 0, .ext, .rd 0, .ext, .val, .val] fol (by decide) (by kernel_rfl) ?_
  simp only [push_cast, Nat.reduceAdd, Nat.reduceMul, Nat.reduceSub, Nat.reduceLeDiff, Nat.reduceLT, Nat.reduceEqDiff, Nat.reduceBEq, Nat.reduceBNe, Nat.reduceMod, Nat.reduceDiv, Int.reduceLE, Int.reduceLT, Int.reduceToNat, Int.reduceAdd, Int.reduceSub, Int.reduceMul, Int.reduceNeg, Int.reduceEq, Int.reduceBEq, Int.reduceBNe, ↓reduceIte, reduceCtorEq, String.reduceBNe, String.reduceEq, reduceDIte, Nat.reducePow, hl, hq, PE.ret, PE.pic, hf1, hg1, ha1, hf2, hg2]
  refine DCall.by0 (From_c _ _ _ _ _ _ (by simp)) ?_
  simp only [push_cast, Nat.reduceAdd, Nat.reduceMul, Nat.reduceSub, Nat.reduceLeDiff, Nat.reduceLT, Nat.reduceEqDiff, Nat.reduceBEq, Nat.reduceBNe, Nat.reduceMod, Nat.reduceDiv, Int.reduceLE, Int.reduceLT, Int.reduceToNat, Int.reduceAdd, Int.reduceSub, Int.reduceMul, Int.reduceNeg, Int.reduceEq, Int.reduceBEq, Int.reduceBNe, ↓reduceIte, reduceCtorEq, String.reduceBNe, String.reduceEq, reduceDIte, Nat.reducePow, hl, hq, PE.ret, PE.pic, hf1, hg1, ha1, hf2, hg2]
  refine DCall.by0 (same_c _ _ _ _ _ _ _ (F2) A _ ⟨.grow, 3, by simp only [push_cast, Nat.reduceAdd, Nat.reduceMul, Nat.reduceSub, Nat.reduceLeDiff, Nat.reduceLT, Nat.reduceEqDiff, Nat.reduceBEq, Nat.reduceBNe, Nat.reduceMod, Nat.reduceDiv, Int.reduceLE, Int.reduceLT, Int.reduceToNat, Int.reduceAdd, Int.reduceSub, Int.reduceMul, Int.reduceNeg, Int.reduceEq, Int.reduceBEq, Int.reduceBNe, ↓reduceIte, reduceCtorEq, String.reduceBNe, String.reduceEq, reduceDIte, Nat.reducePow, PE.blk]⟩ (hp.p.mono _) hfe (by omega)) ?_
  simp only [push_cast, Nat.reduceAdd, Nat.reduceMul, Nat.reduceSub, Nat.reduceLeDiff, Nat.reduceLT, Nat.reduceEqDiff, Nat.reduceBEq, Nat.reduceBNe, Nat.reduceMod, Nat.reduceDiv, Int.reduceLE, Int.reduceLT, Int.reduceToNat, Int.reduceAdd, Int.reduceSub, Int.reduceMul, Int.reduceNeg, Int.reduceEq, Int.reduceBEq, Int.reduceBNe, ↓reduceIte, reduceCtorEq, String.reduceBNe, String.reduceEq, reduceDIte, Nat.reducePow, hl, hq, PE.ret, PE.pic, hf1, hg1, ha1, hf2, hg2]
  refine Thn_n ?_
  refine hK _ _ ?_
  clear hK K
  refine AW.cond_f rfl ?_
  refine AW.skip ?_
  refine Thn_n ?_
  refine hK _ _ ?_
  clear hK K
  refine AW.seq_k fun K hK => ?_
  refine AW.seq_k fun K hK => ?_
  refine AW.region (by decide) ?_
  simp only [push_cast, Nat.reduceAdd, Nat.reduceMul, Nat.reduceSub, Nat.reduceLeDiff, Nat.reduceLT, Nat.reduceEqDiff, Nat.reduceBEq, Nat.reduceBNe, Nat.reduceMod, Nat.reduceDiv, Int.reduceLE, Int.reduceLT, Int.reduceToNat, Int.reduceAdd, Int.reduceSub, Int.reduceMul, Int.reduceNeg, Int.reduceEq, Int.reduceBEq, Int.reduceBNe, ↓reduceIte, reduceCtorEq, String.reduceBNe, String.reduceEq, reduceDIte, Nat.reducePow, hl, hq, PE.ret, PE.pic, hf1, hg1, ha1, hf2, hg2]
  refine CThen.by (grow_c _ _ _ _ _ _ A _ ⟨.grow, 3, by simp only [push_cast, Nat.reduceAdd, Nat.reduceMul, Nat.reduceSub, Nat.reduceLeDiff, Nat.reduceLT, Nat.reduceEqDiff, Nat.reduceBEq, Nat.reduceBNe, Nat.reduceMod, Nat.reduceDiv, Int.reduceLE, Int.reduceLT, Int.reduceToNat, Int.reduceAdd, Int.reduceSub, Int.reduceMul, Int.reduceNeg, Int.reduceEq, Int.reduceBEq, Int.reduceBNe, ↓reduceIte, reduceCtorEq, String.reduceBNe, String.reduceEq, reduceDIte, Nat.reducePow, PE.blk]⟩) ?_
  simp only [push_cast, Nat.reduceAdd, Nat.reduceMul, Nat.reduceSub, Nat.reduceLeDiff, Nat.reduceLT, Nat.reduceEqDiff, Nat.reduceBEq, Nat.reduceBNe, Nat.reduceMod, Nat.reduceDiv, Int.reduceLE, Int.reduceLT, Int.reduceToNat, Int.reduceAdd, Int.reduceSub, Int.reduceMul, Int.reduceNeg, Int.reduceEq, Int.reduceBEq, Int.reduceBNe, ↓reduceIte, reduceCtorEq, String.reduceBNe, String.reduceEq, reduceDIte, Nat.reducePow, hl, hq, PE.ret, PE.pic, hf1, hg1, ha1, hf2, hg2]
  refine Thn_n ?_
  refine hK _ _ ?_
  clear hK K
  refine AW.seq_k fun K hK => ?_
  refine AW.region (by decide) ?_
  simp only [push_cast, Nat.reduceAdd, Nat.reduceMul, Nat.reduceSub, Nat.reduceLeDiff, Nat.reduceLT, Nat.reduceEqDiff, Nat.reduceBEq, Nat.reduceBNe, Nat.reduceMod, Nat.reduceDiv, Int.reduceLE, Int.reduceLT, Int.reduceToNat, Int.reduceAdd, Int.reduceSub, Int.reduceMul, Int.reduceNeg, Int.reduceEq, Int.reduceBEq, Int.reduceBNe, ↓reduceIte, reduceCtorEq, String.reduceBNe, String.reduceEq, reduceDIte, Nat.reducePow, hl, hq, PE.ret, PE.pic, hf1, hg1, ha1, hf2, hg2]
  refine Thn_n ?_
  refine hK _ _ ?_
  clear hK K
  refine AW.cond_t rfl ?_
  refine AW.seq_k fun K hK => ?_
  refine AW.region (by decide) ?_
  simp only [push_cast, Nat.reduceAdd, Nat.reduceMul, Nat.reduceSub, Nat.reduceLeDiff, Nat.reduceLT, Nat.reduceEqDiff, Nat.reduceBEq, Nat.reduceBNe, Nat.reduceMod, Nat.reduceDiv, Int.reduceLE, Int.reduceLT, Int.reduceToNat, Int.reduceAdd, Int.reduceSub, Int.reduceMul, Int.reduceNeg, Int.reduceEq, Int.reduceBEq, Int.reduceBNe, ↓reduceIte, reduceCtorEq, String.reduceBNe, String.reduceEq, reduceDIte, Nat.reducePow, hl, hq, PE.ret, PE.pic, hf1, hg1, ha1, hf2, hg2]
  refine CThen.by (half_c _ _ _ _ _ G1 _ ⟨.grow, 3, by simp only [push_cast, Nat.reduceAdd, Nat.reduceMul, Nat.reduceSub, Nat.reduceLeDiff, Nat.reduceLT, Nat.reduceEqDiff, Nat.reduceBEq, Nat.reduceBNe, Nat.reduceMod, Nat.reduceDiv, Int.reduceLE, Int.reduceLT, Int.reduceToNat, Int.reduceAdd, Int.reduceSub, Int.reduceMul, Int.reduceNeg, Int.reduceEq, Int.reduceBEq, Int.reduceBNe, ↓reduceIte, reduceCtorEq, String.reduceBNe, String.reduceEq, reduceDIte, Nat.reducePow, PE.blk]⟩ (hgu hp.u)) ?_
  simp only [push_cast, Nat.reduceAdd, Nat.reduceMul, Nat.reduceSub, Nat.reduceLeDiff, Nat.reduceLT, Nat.reduceEqDiff, Nat.reduceBEq, Nat.reduceBNe, Nat.reduceMod, Nat.reduceDiv, Int.reduceLE, Int.reduceLT, Int.reduceToNat, Int.reduceAdd, Int.reduceSub, Int.reduceMul, Int.reduceNeg, Int.reduceEq, Int.reduceBEq, Int.reduceBNe, ↓reduceIte, reduceCtorEq, String.reduceBNe, String.reduceEq, reduceDIte, Nat.reducePow, hl, hq, PE.ret, PE.pic, hf1, hg1, ha1, hf2, hg2]
  refine Thn_n ?_
  refine hK _ _ ?_
  clear hK K
  refine AW.seq_k fun K hK => ?_
  refine AW.draw [.val, .val, .val, .rd 0, .ext, .rd 0, .ext, .val, .val] fol (by decide) (by kernel_rfl) ?_
  simp only [push_cast, Nat.reduceAdd, Nat.reduceMul, Nat.reduceSub, Nat.reduceLeDiff, Nat.reduceLT, Nat.reduceEqDiff, Nat.reduceBEq, Nat.reduceBNe, Nat.reduceMod, Nat.reduceDiv, Int.reduceLE, Int.reduceLT, Int.reduceToNat, Int.reduceAdd, Int.reduceSub, Int.reduceMul, Int.reduceNeg, Int.reduceEq, Int.reduceBEq, Int.reduceBNe, ↓reduceIte, reduceCtorEq, String.reduceBNe, String.reduceEq, reduceDIte, Nat.reducePow, hl, hq, PE.ret, PE.pic, hf1, hg1, ha1, hf2, hg2]
  refine DCall.by0 (From_c _ _ _ _ _ _ (by simp)) ?_
  simp only [push_cast, Nat.reduceAdd, Nat.reduceMul, Nat.reduceSub, Nat.reduceLeDiff, Nat.reduceLT, Nat.reduceEqDiff, Nat.reduceBEq, Nat.reduceBNe, Nat.reduceMod, Nat.reduceDiv, Int.reduceLE, Int.reduceLT, Int.reduceToNat, Int.reduceAdd, Int.reduceSub, Int.reduceMul, Int.reduceNeg, Int.reduceEq, Int.reduceBEq, Int.reduceBNe, ↓reduceIte, reduceCtorEq, String.reduceBNe, String.reduceEq, reduceDIte, Nat.reducePow, hl, hq, PE.ret, PE.pic, hf1, hg1, ha1, hf2, hg2]
  refine DCall.by0 (same_c _ _ _ _ _ _ _ (G2) A _ ⟨.grow, 3, by simp only [push_cast, Nat.reduceAdd, Nat.reduceMul, Nat.reduceSub, Nat.reduceLeDiff, Nat.reduceLT, Nat.reduceEqDiff, Nat.reduceBEq, Nat.reduceBNe, Nat.reduceMod, Nat.reduceDiv, Int.reduceLE, Int.reduceLT, Int.reduceToNat, Int.reduceAdd, Int.reduceSub, Int.reduceMul, Int.reduceNeg, Int.reduceEq, Int.reduceBEq, Int.reduceBNe, ↓reduceIte, reduceCtorEq, String.reduceBNe, String.reduceEq, reduceDIte, Nat.reducePow, PE.blk]⟩ (hp.p.mono _) hge (by omega)) ?_
  simp only [push_cast, Nat.reduceAdd, Nat.reduceMul, Nat.reduceSub, Nat.reduceLeDiff, Nat.reduceLT, Nat.reduceEqDiff, Nat.reduceBEq, Nat.reduceBNe, Nat.reduceMod, Nat.reduceDiv, Int.reduceLE, Int.reduceLT, Int.reduceToNat, Int.reduceAdd, Int.reduceSub, Int.reduceMul, Int.reduceNeg, Int.reduceEq, Int.reduceBEq, Int.reduceBNe, ↓reduceIte, reduceCtorEq, String.reduceBNe, String.reduceEq, reduceDIte, Nat.reducePow, hl, hq, PE.ret, PE.pic, hf1, hg1, ha1, hf2, hg2]
  refine Thn_n ?_
  refine hK _ _ ?_
  clear hK K
  refine AW.cond_f rfl ?_
  refine AW.skip ?_
  refine Thn_n ?_
  refine hK _ _ ?_
  clear hK K
  refine AW.seq_k fun K hK => ?_
  refine AW.region (by decide) ?_
  simp only [push_cast, Nat.reduceAdd, Nat.reduceMul, Nat.reduceSub, Nat.reduceLeDiff, Nat.reduceLT, Nat.reduceEqDiff, Nat.reduceBEq, Nat.reduceBNe, Nat.reduceMod, Nat.reduceDiv, Int.reduceLE, Int.reduceLT, Int.reduceToNat, Int.reduceAdd, Int.reduceSub, Int.reduceMul, Int.reduceNeg, Int.reduceEq, Int.reduceBEq, Int.reduceBNe, ↓reduceIte, reduceCtorEq, String.reduceBNe, String.reduceEq, reduceDIte, Nat.reducePow, hl, hq, PE.ret, PE.pic, hf1, hg1, ha1, hf2, hg2]
  refine CThen.by (apart_c _ _ _ _ _ _ _ _ _ _ A A _ ⟨.grow, 3, by simp only [push_cast, Nat.reduceAdd, Nat.reduceMul, Nat.reduceSub, Nat.reduceLeDiff, Nat.reduceLT, Nat.reduceEqDiff, Nat.reduceBEq, Nat.reduceBNe, Nat.reduceMod, Nat.reduceDiv, Int.reduceLE, Int.reduceLT, Int.reduceToNat, Int.reduceAdd, Int.reduceSub, Int.reduceMul, Int.reduceNeg, Int.reduceEq, Int.reduceBEq, Int.reduceBNe, ↓reduceIte, reduceCtorEq, String.reduceBNe, String.reduceEq, reduceDIte, Nat.reducePow, PE.blk]⟩ ⟨.grow, 3, by simp only [push_cast, Nat.reduceAdd, Nat.reduceMul, Nat.reduceSub, Nat.reduceLeDiff, Nat.reduceLT, Nat.reduceEqDiff, Nat.reduceBEq, Nat.reduceBNe, Nat.reduceMod, Nat.reduceDiv, Int.reduceLE, Int.reduceLT, Int.reduceToNat, Int.reduceAdd, Int.reduceSub, Int.reduceMul, Int.reduceNeg, Int.reduceEq, Int.reduceBEq, Int.reduceBNe, ↓reduceIte, reduceCtorEq, String.reduceBNe, String.reduceEq, reduceDIte, Nat.reducePow, PE.blk]⟩ hp.u hp.u) ?_
  simp only [push_cast, Nat.reduceAdd, Nat.reduceMul, Nat.reduceSub, Nat.reduceLeDiff, Nat.reduceLT, Nat.reduceEqDiff, Nat.reduceBEq, Nat.reduceBNe, Nat.reduceMod, Nat.reduceDiv, Int.reduceLE, Int.reduceLT, Int.reduceToNat, Int.reduceAdd, Int.reduceSub, Int.reduceMul, Int.reduceNeg, Int.reduceEq, Int.reduceBEq, Int.reduceBNe, ↓reduceIte, reduceCtorEq, String.reduceBNe, String.reduceEq, reduceDIte, Nat.reducePow, hl, hq, PE.ret, PE.pic, hf1, hg1, ha1, hf2, hg2]
  refine Thn_n ?_
  refine hK _ _ ?_
  clear hK K
  refine AW.seq_k fun K hK => ?_
  refine AW.seq_k fun K hK => ?_
  refine AW.region (by decide) ?_
  simp only [push_cast, Nat.reduceAdd, Nat.reduceMul, Nat.reduceSub, Nat.reduceLeDiff, Nat.reduceLT, Nat.reduceEqDiff, Nat.reduceBEq, Nat.reduceBNe, Nat.reduceMod, Nat.reduceDiv, Int.reduceLE, Int.reduceLT, Int.reduceToNat, Int.reduceAdd, Int.reduceSub, Int.reduceMul, Int.reduceNeg, Int.reduceEq, Int.reduceBEq, Int.reduceBNe, ↓reduceIte, reduceCtorEq, String.reduceBNe, String.reduceEq, reduceDIte, Nat.reducePow, hl, hq, PE.ret, PE.pic, hf1, hg1, ha1, hf2, hg2]
  refine Thn_n ?_
  refine hK _ _ ?_
  clear hK K
  refine AW.cond_f rfl ?_
  refine AW.skip ?_
  refine Thn_n ?_
  refine hK _ _ ?_
  clear hK K
  refine AW.seq_k fun K hK => ?_
  refine AW.seq_k fun K hK => ?_
  refine AW.region (by decide) ?_
  simp only [push_cast, Nat.reduceAdd, Nat.reduceMul, Nat.reduceSub, Nat.reduceLeDiff, Nat.reduceLT, Nat.reduceEqDiff, Nat.reduceBEq, Nat.reduceBNe, Nat.reduceMod, Nat.reduceDiv, Int.reduceLE, Int.reduceLT, Int.reduceToNat, Int.reduceAdd, Int.reduceSub, Int.reduceMul, Int.reduceNeg, Int.reduceEq, Int.reduceBEq, Int.reduceBNe, ↓reduceIte, reduceCtorEq, String.reduceBNe, String.reduceEq, reduceDIte, Nat.reducePow, hl, hq, PE.ret, PE.pic, hf1, hg1, ha1, hf2, hg2]
  refine Thn_n ?_
  refine hK _ _ ?_
  clear hK K
  refine AW.block ?_
  refine AW.loopK [83, 84] (fun i => i ≤ n1) (fun i => [(85, .one (.int .i64 (i : Int)))]) (fun i => []) (fun i => n1 - i) 0 (by omega) ?_ ?_ fun i hi20 => ?_
  · first | rfl | (simp only [Keeps, Tm.get_cons, Nat.reduceEqDiff, ↓reduceIte, if_true, if_false, ite_true, ite_false, true_and, and_true, and_self, reduceCtorEq] <;> rfl)
  · first | rfl | (simp only [setAll, push_cast, Nat.reduceAdd, Nat.reduceMul, Nat.reduceSub, Nat.reduceLeDiff, Nat.reduceLT, Nat.reduceEqDiff, Nat.reduceBEq, Nat.reduceBNe, Nat.reduceMod, Nat.reduceDiv, Int.reduceLE, Int.reduceLT, Int.reduceToNat, Int.reduceAdd, Int.reduceSub, Int.reduceMul, Int.reduceNeg, Int.reduceEq, Int.reduceBEq, Int.reduceBNe, ↓reduceIte, reduceCtorEq, String.reduceBNe, String.reduceEq, reduceDIte, Nat.reducePow, hl, hq, PE.ret, PE.pic, hf1, hg1, ha1, hf2, hg2] <;> rfl)
  try simp only [keepL, setAll, push_cast, Nat.reduceAdd, Nat.reduceMul, Nat.reduceSub, Nat.reduceLeDiff, Nat.reduceLT, Nat.reduceEqDiff, Nat.reduceBEq, Nat.reduceBNe, Nat.reduceMod, Nat.reduceDiv, Int.reduceLE, Int.reduceLT, Int.reduceToNat, Int.reduceAdd, Int.reduceSub, Int.reduceMul, Int.reduceNeg, Int.reduceEq, Int.reduceBEq, Int.reduceBNe, ↓reduceIte, reduceCtorEq, String.reduceBNe, String.reduceEq, reduceDIte, Nat.reducePow, hl, hq, PE.ret, PE.pic, hf1, hg1, ha1, hf2, hg2]
  refine AW.seq_k fun K hK => ?_
  refine AW.region (by decide) ?_
  simp only [push_cast, Nat.reduceAdd, Nat.reduceMul, Nat.reduceSub, Nat.reduceLeDiff, Nat.reduceLT, Nat.reduceEqDiff, Nat.reduceBEq, Nat.reduceBNe, Nat.reduceMod, Nat.reduceDiv, Int.reduceLE, Int.reduceLT, Int.reduceToNat, Int.reduceAdd, Int.reduceSub, Int.reduceMul, Int.reduceNeg, Int.reduceEq, Int.reduceBEq, Int.reduceBNe, ↓reduceIte, reduceCtorEq, String.reduceBNe, String.reduceEq, reduceDIte, Nat.reducePow, hl, hq, PE.ret, PE.pic, hf1, hg1, ha1, hf2, hg2]
  refine Thn_n ?_
  refine hK _ _ ?_
  clear hK K
  refine AW.seq_k fun K hK => ?_
  refine AW.cond rfl (fun h86 => ?_) (fun h86 => ?_)
  · have hlt2 : i < n1 := by have := of_decide_eq_true h86; omega
    have hi1 : (0 : Int) ≤ (i : Int) := by omega
    have hi2 : (i : Int) < (n1 : Int) := by omega
    have a0 := dl_get0 (G := apartG A A) hlt2
    have a1 := dl_get1 (G := apartG A A) hlt2
    have a2 := dl_get2 (G := apartG A A) hlt2
    rw [apart_z] at a0 a1 a2
    refine AW.skip ?_
    refine Thn_n ?_
    refine hK _ _ ?_
    clear hK K
    refine AW.seq_k fun K hK => ?_
    refine AW.block ?_
    iterate 2
      refine AW.seq_k fun K hK => ?_
      refine AW.region (by decide) ?_
      simp only [push_cast, Nat.reduceAdd, Nat.reduceMul, Nat.reduceSub, Nat.reduceLeDiff, Nat.reduceLT, Nat.reduceEqDiff, Nat.reduceBEq, Nat.reduceBNe, Nat.reduceMod, Nat.reduceDiv, Int.reduceLE, Int.reduceLT, Int.reduceToNat, Int.reduceAdd, Int.reduceSub, Int.reduceMul, Int.reduceNeg, Int.reduceEq, Int.reduceBEq, Int.reduceBNe, ↓reduceIte, reduceCtorEq, String.reduceBNe, String.reduceEq, reduceDIte, Nat.reducePow, hl, hq, PE.ret, PE.pic, hf1, hg1, ha1, hf2, hg2, hi1, hi2, a0, a1, a2, PE.blk]
      refine Thn_n ?_
      refine hK _ _ ?_
      clear hK K
    refine AW.cond_f rfl ?_
    refine AW.skip ?_
    refine InB_n ?_
    refine Thn_n ?_
    refine hK _ _ ?_
    clear hK K
    refine AW.region (by decide) ?_
    simp only [push_cast, Nat.reduceAdd, Nat.reduceMul, Nat.reduceSub, Nat.reduceLeDiff, Nat.reduceLT, Nat.reduceEqDiff, Nat.reduceBEq, Nat.reduceBNe, Nat.reduceMod, Nat.reduceDiv, Int.reduceLE, Int.reduceLT, Int.reduceToNat, Int.reduceAdd, Int.reduceSub, Int.reduceMul, Int.reduceNeg, Int.reduceEq, Int.reduceBEq, Int.reduceBNe, ↓reduceIte, reduceCtorEq, String.reduceBNe, String.reduceEq, reduceDIte, Nat.reducePow, hl, hq, PE.ret, PE.pic, hf1, hg1, ha1, hf2, hg2, hi1, hi2, a0, a1, a2, PE.blk]
    refine Thn_n ?_
    have hwi : IntKind.i64.wrap ((i:Int)+1) = (i:Int)+1 := by rw [IntKind.wrap_i64]; omega
    refine ⟨i + 1, by omega, by omega, ?_⟩
    try simp only [keepL, setAll, push_cast, Nat.reduceAdd, Nat.reduceMul, Nat.reduceSub, Nat.reduceLeDiff, Nat.reduceLT, Nat.reduceEqDiff, Nat.reduceBEq, Nat.reduceBNe, Nat.reduceMod, Nat.reduceDiv, Int.reduceLE, Int.reduceLT, Int.reduceToNat, Int.reduceAdd, Int.reduceSub, Int.reduceMul, Int.reduceNeg, Int.reduceEq, Int.reduceBEq, Int.reduceBNe, ↓reduceIte, reduceCtorEq, String.reduceBNe, String.reduceEq, reduceDIte, Nat.reducePow, hl, hq, PE.ret, PE.pic, hf1, hg1, ha1, hf2, hg2, hi1, hi2, a0, a1, a2, PE.blk, hwi]
    exact Weak.to (extra := [_]) (by simp only [Keeps, Tm.get_cons, Nat.reduceEqDiff, ↓reduceIte, if_true, if_false, ite_true, ite_false, true_and, and_true, and_self, reduceCtorEq, hwi]) (by first | rfl | (simp only [List.append_assoc, List.cons_append, List.nil_append]; rfl)) (by first | rfl | (simp [AV.below, CV.below, dl_below, hr]; done) | (simp [AV.below, CV.below, dl_below, hr]; omega)) (by
      first | exact hwf | refine MWf.app (hwf.grow (by simp)) ?_
      repeat (first | exact MWf_nil | (refine MWf_cons ?_ ?_; · first | rfl | (simp [CV.below, dl_below, hr]; done) | (simp [CV.below, dl_below, hr]; omega))))
  · refine AW.exit ?_
    refine Thn_e ?_
    clear hK K
    refine Thn_e ?_
    refine InB_here ?_
    refine Thn_n ?_
    refine hK _ _ ?_
    clear hK K
    refine AW.seq_k fun K hK => ?_
    refine AW.region (by decide) ?_
    simp only [push_cast, Nat.reduceAdd, Nat.reduceMul, Nat.reduceSub, Nat.reduceLeDiff, Nat.reduceLT, Nat.reduceEqDiff, Nat.reduceBEq, Nat.reduceBNe, Nat.reduceMod, Nat.reduceDiv, Int.reduceLE, Int.reduceLT, Int.reduceToNat, Int.reduceAdd, Int.reduceSub, Int.reduceMul, Int.reduceNeg, Int.reduceEq, Int.reduceBEq, Int.reduceBNe, ↓reduceIte, reduceCtorEq, String.reduceBNe, String.reduceEq, reduceDIte, Nat.reducePow, hl, hq, PE.ret, PE.pic, hf1, hg1, ha1, hf2, hg2]
    refine CThen.by (awake_c _) ?_
    simp only [push_cast, Nat.reduceAdd, Nat.reduceMul, Nat.reduceSub, Nat.reduceLeDiff, Nat.reduceLT, Nat.reduceEqDiff, Nat.reduceBEq, Nat.reduceBNe, Nat.reduceMod, Nat.reduceDiv, Int.reduceLE, Int.reduceLT, Int.reduceToNat, Int.reduceAdd, Int.reduceSub, Int.reduceMul, Int.reduceNeg, Int.reduceEq, Int.reduceBEq, Int.reduceBNe, ↓reduceIte, reduceCtorEq, String.reduceBNe, String.reduceEq, reduceDIte, Nat.reducePow, hl, hq, PE.ret, PE.pic, hf1, hg1, ha1, hf2, hg2]
    refine Thn_n ?_
    refine hK _ _ ?_
    clear hK K
    refine AW.ret ?_
    refine hQ _ _ _ ?_
    first | refine RetP.drop0 (Or.inr rfl) ?_ ?_ hwf | refine RetP.drop (Or.inr rfl) ?_ ?_ hwf
    · simp only [resA, resOne, resTv, AV.tv, push_cast, Nat.reduceAdd, Nat.reduceMul, Nat.reduceSub, Nat.reduceLeDiff, Nat.reduceLT, Nat.reduceEqDiff, Nat.reduceBEq, Nat.reduceBNe, Nat.reduceMod, Nat.reduceDiv, Int.reduceLE, Int.reduceLT, Int.reduceToNat, Int.reduceAdd, Int.reduceSub, Int.reduceMul, Int.reduceNeg, Int.reduceEq, Int.reduceBEq, Int.reduceBNe, ↓reduceIte, reduceCtorEq, String.reduceBNe, String.reduceEq, reduceDIte, Nat.reducePow, hl, hq, PE.ret, PE.pic, hf1, hg1, ha1, hf2, hg2]
    · rfl
theorem back_tf (W H how : Int) (r1 n1 : Nat) (A : Nat → Nat → Int) (m : AMem) (hp : PicIn m r1 n1 A) (hl : lightB (fun _ => n1) 1 = true) (hq : picR W H n1 = true) (hfl : flipR W H n1 how = true) (hgr : growR W H n1 2 = false) : Ctr Try.prog 7 [.agg [.int .i64 W, .int .i64 H, .sl r1 0 0 n1], .one (.int .i64 how)] m (.one (.bool true)) m := by
  refine Ctr.enter Try.func7 rfl (by decide) (rs := [.tmp 4]) (nt := 94) rfl rfl fun hwf Q hQ => ?_
  have l1 := light1 hl
  obtain ⟨kp, ez, hb⟩ := hp.p.hb
  have hr := get_lt hb
  obtain ⟨W1, H1, F1, F2, hf1, hf2, hfe⟩ := flip_twice (G := A) hfl
  have hg1 := grow_off (G := A) hgr
  have ha1 := apart_self (A := A) hq
  refine AW.seq_k fun K hK => ?_
  refine AW.region (by decide) ?_
  simp only [push_cast, Nat.reduceAdd, Nat.reduceMul, Nat.reduceSub, Nat.reduceLeDiff, Nat.reduceLT, Nat.reduceEqDiff, Nat.reduceBEq, Nat.reduceBNe, Nat.reduceMod, Nat.reduceDiv, Int.reduceLE, Int.reduceLT, Int.reduceToNat, Int.reduceAdd, Int.reduceSub, Int.reduceMul, Int.reduceNeg, Int.reduceEq, Int.reduceBEq, Int.reduceBNe, ↓reduceIte, reduceCtorEq, String.reduceBNe, String.reduceEq, reduceDIte, Nat.reducePow, hl, hq, PE.ret, PE.pic, hf1, hg1, ha1, hf2, noP]
  refine Thn_n ?_
  refine hK _ _ ?_
  clear hK K
  refine AW.seq_k fun K hK => ?_
  refine AW.seq_k fun K hK => ?_
  refine AW.region (by decide) ?_
  simp only [push_cast, Nat.reduceAdd, Nat.reduceMul, Nat.reduceSub, Nat.reduceLeDiff, Nat.reduceLT, Nat.reduceEqDiff, Nat.reduceBEq, Nat.reduceBNe, Nat.reduceMod, Nat.reduceDiv, Int.reduceLE, Int.reduceLT, Int.reduceToNat, Int.reduceAdd, Int.reduceSub, Int.reduceMul, Int.reduceNeg, Int.reduceEq, Int.reduceBEq, Int.reduceBNe, ↓reduceIte, reduceCtorEq, String.reduceBNe, String.reduceEq, reduceDIte, Nat.reducePow, hl, hq, PE.ret, PE.pic, hf1, hg1, ha1, hf2, noP]
  refine CThen.by (light_c _ _ 1 (fun _ => W) (fun _ => H) (fun _ => r1) (fun _ => n1) _ .grow 3 (by simp only [push_cast, Nat.reduceAdd, Nat.reduceMul, Nat.reduceSub, Nat.reduceLeDiff, Nat.reduceLT, Nat.reduceEqDiff, Nat.reduceBEq, Nat.reduceBNe, Nat.reduceMod, Nat.reduceDiv, Int.reduceLE, Int.reduceLT, Int.reduceToNat, Int.reduceAdd, Int.reduceSub, Int.reduceMul, Int.reduceNeg, Int.reduceEq, Int.reduceBEq, Int.reduceBNe, ↓reduceIte, reduceCtorEq, String.reduceBNe, String.reduceEq, reduceDIte, Nat.reducePow, pl]) (by omega)) ?_
  simp only [push_cast, Nat.reduceAdd, Nat.reduceMul, Nat.reduceSub, Nat.reduceLeDiff, Nat.reduceLT, Nat.reduceEqDiff, Nat.reduceBEq, Nat.reduceBNe, Nat.reduceMod, Nat.reduceDiv, Int.reduceLE, Int.reduceLT, Int.reduceToNat, Int.reduceAdd, Int.reduceSub, Int.reduceMul, Int.reduceNeg, Int.reduceEq, Int.reduceBEq, Int.reduceBNe, ↓reduceIte, reduceCtorEq, String.reduceBNe, String.reduceEq, reduceDIte, Nat.reducePow, hl, hq, PE.ret, PE.pic, hf1, hg1, ha1, hf2, noP]
  refine CThen.by (refRight_c _ _ _ _ _ _) ?_
  simp only [push_cast, Nat.reduceAdd, Nat.reduceMul, Nat.reduceSub, Nat.reduceLeDiff, Nat.reduceLT, Nat.reduceEqDiff, Nat.reduceBEq, Nat.reduceBNe, Nat.reduceMod, Nat.reduceDiv, Int.reduceLE, Int.reduceLT, Int.reduceToNat, Int.reduceAdd, Int.reduceSub, Int.reduceMul, Int.reduceNeg, Int.reduceEq, Int.reduceBEq, Int.reduceBNe, ↓reduceIte, reduceCtorEq, String.reduceBNe, String.reduceEq, reduceDIte, Nat.reducePow, hl, hq, PE.ret, PE.pic, hf1, hg1, ha1, hf2, noP]
  refine Thn_n ?_
  refine hK _ _ ?_
  clear hK K
  refine AW.cond_f rfl ?_
  refine AW.skip ?_
  refine Thn_n ?_
  refine hK _ _ ?_
  clear hK K
  refine AW.seq_k fun K hK => ?_
  refine AW.region (by decide) ?_
  simp only [push_cast, Nat.reduceAdd, Nat.reduceMul, Nat.reduceSub, Nat.reduceLeDiff, Nat.reduceLT, Nat.reduceEqDiff, Nat.reduceBEq, Nat.reduceBNe, Nat.reduceMod, Nat.reduceDiv, Int.reduceLE, Int.reduceLT, Int.reduceToNat, Int.reduceAdd, Int.reduceSub, Int.reduceMul, Int.reduceNeg, Int.reduceEq, Int.reduceBEq, Int.reduceBNe, ↓reduceIte, reduceCtorEq, String.reduceBNe, String.reduceEq, reduceDIte, Nat.reducePow, hl, hq, PE.ret, PE.pic, hf1, hg1, ha1, hf2, noP]
  refine CThen.by (to_c _ _ _ _ _ A _ (hp.p.mono _) (by omega)) ?_
  simp only [push_cast, Nat.reduceAdd, Nat.reduceMul, Nat.reduceSub, Nat.reduceLeDiff, Nat.reduceLT, Nat.reduceEqDiff, Nat.reduceBEq, Nat.reduceBNe, Nat.reduceMod, Nat.reduceDiv, Int.reduceLE, Int.reduceLT, Int.reduceToNat, Int.reduceAdd, Int.reduceSub, Int.reduceMul, Int.reduceNeg, Int.reduceEq, Int.reduceBEq, Int.reduceBNe, ↓reduceIte, reduceCtorEq, String.reduceBNe, String.reduceEq, reduceDIte, Nat.reducePow, hl, hq, PE.ret, PE.pic, hf1, hg1, ha1, hf2, noP]
  refine Thn_n ?_
  refine hK _ _ ?_
  clear hK K
  refine AW.seq_k fun K hK => ?_
  refine AW.seq_k fun K hK => ?_
  refine AW.region (by decide) ?_
  simp only [push_cast, Nat.reduceAdd, Nat.reduceMul, Nat.reduceSub, Nat.reduceLeDiff, Nat.reduceLT, Nat.reduceEqDiff, Nat.reduceBEq, Nat.reduceBNe, Nat.reduceMod, Nat.reduceDiv, Int.reduceLE, Int.reduceLT, Int.reduceToNat, Int.reduceAdd, Int.reduceSub, Int.reduceMul, Int.reduceNeg, Int.reduceEq, Int.reduceBEq, Int.reduceBNe, ↓reduceIte, reduceCtorEq, String.reduceBNe, String.reduceEq, reduceDIte, Nat.reducePow, hl, hq, PE.ret, PE.pic, hf1, hg1, ha1, hf2, noP]
  refine CThen.by (flip_c _ _ _ _ _ _ A _ ⟨.grow, 3, by simp only [push_cast, Nat.reduceAdd, Nat.reduceMul, Nat.reduceSub, Nat.reduceLeDiff, Nat.reduceLT, Nat.reduceEqDiff, Nat.reduceBEq, Nat.reduceBNe, Nat.reduceMod, Nat.reduceDiv, Int.reduceLE, Int.reduceLT, Int.reduceToNat, Int.reduceAdd, Int.reduceSub, Int.reduceMul, Int.reduceNeg, Int.reduceEq, Int.reduceBEq, Int.reduceBNe, ↓reduceIte, reduceCtorEq, String.reduceBNe, String.reduceEq, reduceDIte, Nat.reducePow, PE.blk]⟩) ?_
  simp only [push_cast, Nat.reduceAdd, Nat.reduceMul, Nat.reduceSub, Nat.reduceLeDiff, Nat.reduceLT, Nat.reduceEqDiff, Nat.reduceBEq, Nat.reduceBNe, Nat.reduceMod, Nat.reduceDiv, Int.reduceLE, Int.reduceLT, Int.reduceToNat, Int.reduceAdd, Int.reduceSub, Int.reduceMul, Int.reduceNeg, Int.reduceEq, Int.reduceBEq, Int.reduceBNe, ↓reduceIte, reduceCtorEq, String.reduceBNe, String.reduceEq, reduceDIte, Nat.reducePow, hl, hq, PE.ret, PE.pic, hf1, hg1, ha1, hf2, noP]
  refine Thn_n ?_
  refine hK _ _ ?_
  clear hK K
  refine AW.seq_k fun K hK => ?_
  refine AW.region (by decide) ?_
  simp only [push_cast, Nat.reduceAdd, Nat.reduceMul, Nat.reduceSub, Nat.reduceLeDiff, Nat.reduceLT, Nat.reduceEqDiff, Nat.reduceBEq, Nat.reduceBNe, Nat.reduceMod, Nat.reduceDiv, Int.reduceLE, Int.reduceLT, Int.reduceToNat, Int.reduceAdd, Int.reduceSub, Int.reduceMul, Int.reduceNeg, Int.reduceEq, Int.reduceBEq, Int.reduceBNe, ↓reduceIte, reduceCtorEq, String.reduceBNe, String.reduceEq, reduceDIte, Nat.reducePow, hl, hq, PE.ret, PE.pic, hf1, hg1, ha1, hf2, noP]
  refine Thn_n ?_
  refine hK _ _ ?_
  clear hK K
  refine AW.cond_t rfl ?_
  refine AW.seq_k fun K hK => ?_
  refine AW.region (by decide) ?_
  simp only [push_cast, Nat.reduceAdd, Nat.reduceMul, Nat.reduceSub, Nat.reduceLeDiff, Nat.reduceLT, Nat.reduceEqDiff, Nat.reduceBEq, Nat.reduceBNe, Nat.reduceMod, Nat.reduceDiv, Int.reduceLE, Int.reduceLT, Int.reduceToNat, Int.reduceAdd, Int.reduceSub, Int.reduceMul, Int.reduceNeg, Int.reduceEq, Int.reduceBEq, Int.reduceBNe, ↓reduceIte, reduceCtorEq, String.reduceBNe, String.reduceEq, reduceDIte, Nat.reducePow, hl, hq, PE.ret, PE.pic, hf1, hg1, ha1, hf2, noP]
  refine CThen.by (flip_c _ _ _ _ _ _ F1 _ ⟨.grow, 3, by simp only [push_cast, Nat.reduceAdd, Nat.reduceMul, Nat.reduceSub, Nat.reduceLeDiff, Nat.reduceLT, Nat.reduceEqDiff, Nat.reduceBEq, Nat.reduceBNe, Nat.reduceMod, Nat.reduceDiv, Int.reduceLE, Int.reduceLT, Int.reduceToNat, Int.reduceAdd, Int.reduceSub, Int.reduceMul, Int.reduceNeg, Int.reduceEq, Int.reduceBEq, Int.reduceBNe, ↓reduceIte, reduceCtorEq, String.reduceBNe, String.reduceEq, reduceDIte, Nat.reducePow, PE.blk]⟩) ?_
  simp only [push_cast, Nat.reduceAdd, Nat.reduceMul, Nat.reduceSub, Nat.reduceLeDiff, Nat.reduceLT, Nat.reduceEqDiff, Nat.reduceBEq, Nat.reduceBNe, Nat.reduceMod, Nat.reduceDiv, Int.reduceLE, Int.reduceLT, Int.reduceToNat, Int.reduceAdd, Int.reduceSub, Int.reduceMul, Int.reduceNeg, Int.reduceEq, Int.reduceBEq, Int.reduceBNe, ↓reduceIte, reduceCtorEq, String.reduceBNe, String.reduceEq, reduceDIte, Nat.reducePow, hl, hq, PE.ret, PE.pic, hf1, hg1, ha1, hf2, noP]
  refine Thn_n ?_
  refine hK _ _ ?_
  clear hK K
  refine AW.seq_k fun K hK => ?_
  refine AW.draw [.val, .val, .val, .rd 0, .ext, .rd 0, .ext, .val, .val] fol (by decide) (by kernel_rfl) ?_
  simp only [push_cast, Nat.reduceAdd, Nat.reduceMul, Nat.reduceSub, Nat.reduceLeDiff, Nat.reduceLT, Nat.reduceEqDiff, Nat.reduceBEq, Nat.reduceBNe, Nat.reduceMod, Nat.reduceDiv, Int.reduceLE, Int.reduceLT, Int.reduceToNat, Int.reduceAdd, Int.reduceSub, Int.reduceMul, Int.reduceNeg, Int.reduceEq, Int.reduceBEq, Int.reduceBNe, ↓reduceIte, reduceCtorEq, String.reduceBNe, String.reduceEq, reduceDIte, Nat.reducePow, hl, hq, PE.ret, PE.pic, hf1, hg1, ha1, hf2, noP]
  refine DCall.by0 (From_c _ _ _ _ _ _ (by simp)) ?_
  simp only [push_cast, Nat.reduceAdd, Nat.reduceMul, Nat.reduceSub, Nat.reduceLeDiff, Nat.reduceLT, Nat.reduceEqDiff, Nat.reduceBEq, Nat.reduceBNe, Nat.reduceMod, Nat.reduceDiv, Int.reduceLE, Int.reduceLT, Int.reduceToNat, Int.reduceAdd, Int.reduceSub, Int.reduceMul, Int.reduceNeg, Int.reduceEq, Int.reduceBEq, Int.reduceBNe, ↓reduceIte, reduceCtorEq, String.reduceBNe, String.reduceEq, reduceDIte, Nat.reducePow, hl, hq, PE.ret, PE.pic, hf1, hg1, ha1, hf2, noP]
  refine DCall.by0 (same_c _ _ _ _ _ _ _ (F2) A _ ⟨.grow, 3, by simp only [push_cast, Nat.reduceAdd, Nat.reduceMul, Nat.reduceSub, Nat.reduceLeDiff, Nat.reduceLT, Nat.reduceEqDiff, Nat.reduceBEq, Nat.reduceBNe, Nat.reduceMod, Nat.reduceDiv, Int.reduceLE, Int.reduceLT, Int.reduceToNat, Int.reduceAdd, Int.reduceSub, Int.reduceMul, Int.reduceNeg, Int.reduceEq, Int.reduceBEq, Int.reduceBNe, ↓reduceIte, reduceCtorEq, String.reduceBNe, String.reduceEq, reduceDIte, Nat.reducePow, PE.blk]⟩ (hp.p.mono _) hfe (by omega)) ?_
  simp only [push_cast, Nat.reduceAdd, Nat.reduceMul, Nat.reduceSub, Nat.reduceLeDiff, Nat.reduceLT, Nat.reduceEqDiff, Nat.reduceBEq, Nat.reduceBNe, Nat.reduceMod, Nat.reduceDiv, Int.reduceLE, Int.reduceLT, Int.reduceToNat, Int.reduceAdd, Int.reduceSub, Int.reduceMul, Int.reduceNeg, Int.reduceEq, Int.reduceBEq, Int.reduceBNe, ↓reduceIte, reduceCtorEq, String.reduceBNe, String.reduceEq, reduceDIte, Nat.reducePow, hl, hq, PE.ret, PE.pic, hf1, hg1, ha1, hf2, noP]
  refine Thn_n ?_
  refine hK _ _ ?_
  clear hK K
  refine AW.cond_f rfl ?_
  refine AW.skip ?_
  refine Thn_n ?_
  refine hK _ _ ?_
  clear hK K
  refine AW.seq_k fun K hK => ?_
  refine AW.seq_k fun K hK => ?_
  refine AW.region (by decide) ?_
  simp only [push_cast, Nat.reduceAdd, Nat.reduceMul, Nat.reduceSub, Nat.reduceLeDiff, Nat.reduceLT, Nat.reduceEqDiff, Nat.reduceBEq, Nat.reduceBNe, Nat.reduceMod, Nat.reduceDiv, Int.reduceLE, Int.reduceLT, Int.reduceToNat, Int.reduceAdd, Int.reduceSub, Int.reduceMul, Int.reduceNeg, Int.reduceEq, Int.reduceBEq, Int.reduceBNe, ↓reduceIte, reduceCtorEq, String.reduceBNe, String.reduceEq, reduceDIte, Nat.reducePow, hl, hq, PE.ret, PE.pic, hf1, hg1, ha1, hf2, noP]
  refine CThen.by (grow_c _ _ _ _ _ _ A _ ⟨.grow, 3, by simp only [push_cast, Nat.reduceAdd, Nat.reduceMul, Nat.reduceSub, Nat.reduceLeDiff, Nat.reduceLT, Nat.reduceEqDiff, Nat.reduceBEq, Nat.reduceBNe, Nat.reduceMod, Nat.reduceDiv, Int.reduceLE, Int.reduceLT, Int.reduceToNat, Int.reduceAdd, Int.reduceSub, Int.reduceMul, Int.reduceNeg, Int.reduceEq, Int.reduceBEq, Int.reduceBNe, ↓reduceIte, reduceCtorEq, String.reduceBNe, String.reduceEq, reduceDIte, Nat.reducePow, PE.blk]⟩) ?_
  simp only [push_cast, Nat.reduceAdd, Nat.reduceMul, Nat.reduceSub, Nat.reduceLeDiff, Nat.reduceLT, Nat.reduceEqDiff, Nat.reduceBEq, Nat.reduceBNe, Nat.reduceMod, Nat.reduceDiv, Int.reduceLE, Int.reduceLT, Int.reduceToNat, Int.reduceAdd, Int.reduceSub, Int.reduceMul, Int.reduceNeg, Int.reduceEq, Int.reduceBEq, Int.reduceBNe, ↓reduceIte, reduceCtorEq, String.reduceBNe, String.reduceEq, reduceDIte, Nat.reducePow, hl, hq, PE.ret, PE.pic, hf1, hg1, ha1, hf2, noP]
  refine Thn_n ?_
  refine hK _ _ ?_
  clear hK K
  refine AW.seq_k fun K hK => ?_
  refine AW.region (by decide) ?_
  simp only [push_cast, Nat.reduceAdd, Nat.reduceMul, Nat.reduceSub, Nat.reduceLeDiff, Nat.reduceLT, Nat.reduceEqDiff, Nat.reduceBEq, Nat.reduceBNe, Nat.reduceMod, Nat.reduceDiv, Int.reduceLE, Int.reduceLT, Int.reduceToNat, Int.reduceAdd, Int.reduceSub, Int.reduceMul, Int.reduceNeg, Int.reduceEq, Int.reduceBEq, Int.reduceBNe, ↓reduceIte, reduceCtorEq, String.reduceBNe, String.reduceEq, reduceDIte, Nat.reducePow, hl, hq, PE.ret, PE.pic, hf1, hg1, ha1, hf2, noP]
  refine Thn_n ?_
  refine hK _ _ ?_
  clear hK K
  refine AW.cond_f rfl ?_
  refine AW.skip ?_
  refine Thn_n ?_
  refine hK _ _ ?_
  clear hK K
  refine AW.seq_k fun K hK => ?_
  refine AW.region (by decide) ?_
  simp only [push_cast, Nat.reduceAdd, Nat.reduceMul, Nat.reduceSub, Nat.reduceLeDiff, Nat.reduceLT, Nat.reduceEqDiff, Nat.reduceBEq, Nat.reduceBNe, Nat.reduceMod, Nat.reduceDiv, Int.reduceLE, Int.reduceLT, Int.reduceToNat, Int.reduceAdd, Int.reduceSub, Int.reduceMul, Int.reduceNeg, Int.reduceEq, Int.reduceBEq, Int.reduceBNe, ↓reduceIte, reduceCtorEq, String.reduceBNe, String.reduceEq, reduceDIte, Nat.reducePow, hl, hq, PE.ret, PE.pic, hf1, hg1, ha1, hf2, noP]
  refine CThen.by (apart_c _ _ _ _ _ _ _ _ _ _ A A _ ⟨.grow, 3, by simp only [push_cast, Nat.reduceAdd, Nat.reduceMul, Nat.reduceSub, Nat.reduceLeDiff, Nat.reduceLT, Nat.reduceEqDiff, Nat.reduceBEq, Nat.reduceBNe, Nat.reduceMod, Nat.reduceDiv, Int.reduceLE, Int.reduceLT, Int.reduceToNat, Int.reduceAdd, Int.reduceSub, Int.reduceMul, Int.reduceNeg, Int.reduceEq, Int.reduceBEq, Int.reduceBNe, ↓reduceIte, reduceCtorEq, String.reduceBNe, String.reduceEq, reduceDIte, Nat.reducePow, PE.blk]⟩ ⟨.grow, 3, by simp only [push_cast, Nat.reduceAdd, Nat.reduceMul, Nat.reduceSub, Nat.reduceLeDiff, Nat.reduceLT, Nat.reduceEqDiff, Nat.reduceBEq, Nat.reduceBNe, Nat.reduceMod, Nat.reduceDiv, Int.reduceLE, Int.reduceLT, Int.reduceToNat, Int.reduceAdd, Int.reduceSub, Int.reduceMul, Int.reduceNeg, Int.reduceEq, Int.reduceBEq, Int.reduceBNe, ↓reduceIte, reduceCtorEq, String.reduceBNe, String.reduceEq, reduceDIte, Nat.reducePow, PE.blk]⟩ hp.u hp.u) ?_
  simp only [push_cast, Nat.reduceAdd, Nat.reduceMul, Nat.reduceSub, Nat.reduceLeDiff, Nat.reduceLT, Nat.reduceEqDiff, Nat.reduceBEq, Nat.reduceBNe, Nat.reduceMod, Nat.reduceDiv, Int.reduceLE, Int.reduceLT, Int.reduceToNat, Int.reduceAdd, Int.reduceSub, Int.reduceMul, Int.reduceNeg, Int.reduceEq, Int.reduceBEq, Int.reduceBNe, ↓reduceIte, reduceCtorEq, String.reduceBNe, String.reduceEq, reduceDIte, Nat.reducePow, hl, hq, PE.ret, PE.pic, hf1, hg1, ha1, hf2, noP]
  refine Thn_n ?_
  refine hK _ _ ?_
  clear hK K
  refine AW.seq_k fun K hK => ?_
  refine AW.seq_k fun K hK => ?_
  refine AW.region (by decide) ?_
  simp only [push_cast, Nat.reduceAdd, Nat.reduceMul, Nat.reduceSub, Nat.reduceLeDiff, Nat.reduceLT, Nat.reduceEqDiff, Nat.reduceBEq, Nat.reduceBNe, Nat.reduceMod, Nat.reduceDiv, Int.reduceLE, Int.reduceLT, Int.reduceToNat, Int.reduceAdd, Int.reduceSub, Int.reduceMul, Int.reduceNeg, Int.reduceEq, Int.reduceBEq, Int.reduceBNe, ↓reduceIte, reduceCtorEq, String.reduceBNe, String.reduceEq, reduceDIte, Nat.reducePow, hl, hq, PE.ret, PE.pic, hf1, hg1, ha1, hf2, noP]
  refine Thn_n ?_
  refine hK _ _ ?_
  clear hK K
  refine AW.cond_f rfl ?_
  refine AW.skip ?_
  refine Thn_n ?_
  refine hK _ _ ?_
  clear hK K
  refine AW.seq_k fun K hK => ?_
  refine AW.seq_k fun K hK => ?_
  refine AW.region (by decide) ?_
  simp only [push_cast, Nat.reduceAdd, Nat.reduceMul, Nat.reduceSub, Nat.reduceLeDiff, Nat.reduceLT, Nat.reduceEqDiff, Nat.reduceBEq, Nat.reduceBNe, Nat.reduceMod, Nat.reduceDiv, Int.reduceLE, Int.reduceLT, Int.reduceToNat, Int.reduceAdd, Int.reduceSub, Int.reduceMul, Int.reduceNeg, Int.reduceEq, Int.reduceBEq, Int.reduceBNe, ↓reduceIte, reduceCtorEq, String.reduceBNe, String.reduceEq, reduceDIte, Nat.reducePow, hl, hq, PE.ret, PE.pic, hf1, hg1, ha1, hf2, noP]
  refine Thn_n ?_
  refine hK _ _ ?_
  clear hK K
  refine AW.block ?_
  refine AW.loopK [83, 84] (fun i => i ≤ n1) (fun i => [(85, .one (.int .i64 (i : Int)))]) (fun i => []) (fun i => n1 - i) 0 (by omega) ?_ ?_ fun i hi18 => ?_
  · first | rfl | (simp only [Keeps, Tm.get_cons, Nat.reduceEqDiff, ↓reduceIte, if_true, if_false, ite_true, ite_false, true_and, and_true, and_self, reduceCtorEq] <;> rfl)
  · first | rfl | (simp only [setAll, push_cast, Nat.reduceAdd, Nat.reduceMul, Nat.reduceSub, Nat.reduceLeDiff, Nat.reduceLT, Nat.reduceEqDiff, Nat.reduceBEq, Nat.reduceBNe, Nat.reduceMod, Nat.reduceDiv, Int.reduceLE, Int.reduceLT, Int.reduceToNat, Int.reduceAdd, Int.reduceSub, Int.reduceMul, Int.reduceNeg, Int.reduceEq, Int.reduceBEq, Int.reduceBNe, ↓reduceIte, reduceCtorEq, String.reduceBNe, String.reduceEq, reduceDIte, Nat.reducePow, hl, hq, PE.ret, PE.pic, hf1, hg1, ha1, hf2, noP] <;> rfl)
  try simp only [keepL, setAll, push_cast, Nat.reduceAdd, Nat.reduceMul, Nat.reduceSub, Nat.reduceLeDiff, Nat.reduceLT, Nat.reduceEqDiff, Nat.reduceBEq, Nat.reduceBNe, Nat.reduceMod, Nat.reduceDiv, Int.reduceLE, Int.reduceLT, Int.reduceToNat, Int.reduceAdd, Int.reduceSub, Int.reduceMul, Int.reduceNeg, Int.reduceEq, Int.reduceBEq, Int.reduceBNe, ↓reduceIte, reduceCtorEq, String.reduceBNe, String.reduceEq, reduceDIte, Nat.reducePow, hl, hq, PE.ret, PE.pic, hf1, hg1, ha1, hf2, noP]
  refine AW.seq_k fun K hK => ?_
  refine AW.region (by decide) ?_
  simp only [push_cast, Nat.reduceAdd, Nat.reduceMul, Nat.reduceSub, Nat.reduceLeDiff, Nat.reduceLT, Nat.reduceEqDiff, Nat.reduceBEq, Nat.reduceBNe, Nat.reduceMod, Nat.reduceDiv, Int.reduceLE, Int.reduceLT, Int.reduceToNat, Int.reduceAdd, Int.reduceSub, Int.reduceMul, Int.reduceNeg, Int.reduceEq, Int.reduceBEq, Int.reduceBNe, ↓reduceIte, reduceCtorEq, String.reduceBNe, String.reduceEq, reduceDIte, Nat.reducePow, hl, hq, PE.ret, PE.pic, hf1, hg1, ha1, hf2, noP]
  refine Thn_n ?_
  refine hK _ _ ?_
  clear hK K
  refine AW.seq_k fun K hK => ?_
  refine AW.cond rfl (fun h86 => ?_) (fun h86 => ?_)
  · have hlt2 : i < n1 := by have := of_decide_eq_true h86; omega
    have hi1 : (0 : Int) ≤ (i : Int) := by omega
    have hi2 : (i : Int) < (n1 : Int) := by omega
    have a0 := dl_get0 (G := apartG A A) hlt2
    have a1 := dl_get1 (G := apartG A A) hlt2
    have a2 := dl_get2 (G := apartG A A) hlt2
    rw [apart_z] at a0 a1 a2
    refine AW.skip ?_
    refine Thn_n ?_
    refine hK _ _ ?_
    clear hK K
    refine AW.seq_k fun K hK => ?_
    refine AW.block ?_
    iterate 2
      refine AW.seq_k fun K hK => ?_
      refine AW.region (by decide) ?_
      simp only [push_cast, Nat.reduceAdd, Nat.reduceMul, Nat.reduceSub, Nat.reduceLeDiff, Nat.reduceLT, Nat.reduceEqDiff, Nat.reduceBEq, Nat.reduceBNe, Nat.reduceMod, Nat.reduceDiv, Int.reduceLE, Int.reduceLT, Int.reduceToNat, Int.reduceAdd, Int.reduceSub, Int.reduceMul, Int.reduceNeg, Int.reduceEq, Int.reduceBEq, Int.reduceBNe, ↓reduceIte, reduceCtorEq, String.reduceBNe, String.reduceEq, reduceDIte, Nat.reducePow, hl, hq, PE.ret, PE.pic, hf1, hg1, ha1, hf2, noP, hi1, hi2, a0, a1, a2, PE.blk]
      refine Thn_n ?_
      refine hK _ _ ?_
      clear hK K
    refine AW.cond_f rfl ?_
    refine AW.skip ?_
    refine InB_n ?_
    refine Thn_n ?_
    refine hK _ _ ?_
    clear hK K
    refine AW.region (by decide) ?_
    simp only [push_cast, Nat.reduceAdd, Nat.reduceMul, Nat.reduceSub, Nat.reduceLeDiff, Nat.reduceLT, Nat.reduceEqDiff, Nat.reduceBEq, Nat.reduceBNe, Nat.reduceMod, Nat.reduceDiv, Int.reduceLE, Int.reduceLT, Int.reduceToNat, Int.reduceAdd, Int.reduceSub, Int.reduceMul, Int.reduceNeg, Int.reduceEq, Int.reduceBEq, Int.reduceBNe, ↓reduceIte, reduceCtorEq, String.reduceBNe, String.reduceEq, reduceDIte, Nat.reducePow, hl, hq, PE.ret, PE.pic, hf1, hg1, ha1, hf2, noP, hi1, hi2, a0, a1, a2, PE.blk]
    refine Thn_n ?_
    have hwi : IntKind.i64.wrap ((i:Int)+1) = (i:Int)+1 := by rw [IntKind.wrap_i64]; omega
    refine ⟨i + 1, by omega, by omega, ?_⟩
    try simp only [keepL, setAll, push_cast, Nat.reduceAdd, Nat.reduceMul, Nat.reduceSub, Nat.reduceLeDiff, Nat.reduceLT, Nat.reduceEqDiff, Nat.reduceBEq, Nat.reduceBNe, Nat.reduceMod, Nat.reduceDiv, Int.reduceLE, Int.reduceLT, Int.reduceToNat, Int.reduceAdd, Int.reduceSub, Int.reduceMul, Int.reduceNeg, Int.reduceEq, Int.reduceBEq, Int.reduceBNe, ↓reduceIte, reduceCtorEq, String.reduceBNe, String.reduceEq, reduceDIte, Nat.reducePow, hl, hq, PE.ret, PE.pic, hf1, hg1, ha1, hf2, noP, hi1, hi2, a0, a1, a2, PE.blk, hwi]
    exact Weak.to (extra := [_]) (by simp only [Keeps, Tm.get_cons, Nat.reduceEqDiff, ↓reduceIte, if_true, if_false, ite_true, ite_false, true_and, and_true, and_self, reduceCtorEq, hwi]) (by first | rfl | (simp only [List.append_assoc, List.cons_append, List.nil_append]; rfl)) (by first | rfl | (simp [AV.below, CV.below, dl_below, hr]; done) | (simp [AV.below, CV.below, dl_below, hr]; omega)) (by
      first | exact hwf | refine MWf.app (hwf.grow (by simp)) ?_
      repeat (first | exact MWf_nil | (refine MWf_cons ?_ ?_; · first | rfl | (simp [CV.below, dl_below, hr]; done) | (simp [CV.below, dl_below, hr]; omega))))
  · refine AW.exit ?_
    refine Thn_e ?_
    clear hK K
    refine Thn_e ?_
    refine InB_here ?_
    refine Thn_n ?_
    refine hK _ _ ?_
    clear hK K
    refine AW.seq_k fun K hK => ?_
    refine AW.region (by decide) ?_
    simp only [push_cast, Nat.reduceAdd, Nat.reduceMul, Nat.reduceSub, Nat.reduceLeDiff, Nat.reduceLT, Nat.reduceEqDiff, Nat.reduceBEq, Nat.reduceBNe, Nat.reduceMod, Nat.reduceDiv, Int.reduceLE, Int.reduceLT, Int.reduceToNat, Int.reduceAdd, Int.reduceSub, Int.reduceMul, Int.reduceNeg, Int.reduceEq, Int.reduceBEq, Int.reduceBNe, ↓reduceIte, reduceCtorEq, String.reduceBNe, String.reduceEq, reduceDIte, Nat.reducePow, hl, hq, PE.ret, PE.pic, hf1, hg1, ha1, hf2, noP]
    refine CThen.by (awake_c _) ?_
    simp only [push_cast, Nat.reduceAdd, Nat.reduceMul, Nat.reduceSub, Nat.reduceLeDiff, Nat.reduceLT, Nat.reduceEqDiff, Nat.reduceBEq, Nat.reduceBNe, Nat.reduceMod, Nat.reduceDiv, Int.reduceLE, Int.reduceLT, Int.reduceToNat, Int.reduceAdd, Int.reduceSub, Int.reduceMul, Int.reduceNeg, Int.reduceEq, Int.reduceBEq, Int.reduceBNe, ↓reduceIte, reduceCtorEq, String.reduceBNe, String.reduceEq, reduceDIte, Nat.reducePow, hl, hq, PE.ret, PE.pic, hf1, hg1, ha1, hf2, noP]
    refine Thn_n ?_
    refine hK _ _ ?_
    clear hK K
    refine AW.ret ?_
    refine hQ _ _ _ ?_
    first | refine RetP.drop0 (Or.inr rfl) ?_ ?_ hwf | refine RetP.drop (Or.inr rfl) ?_ ?_ hwf
    · simp only [resA, resOne, resTv, AV.tv, push_cast, Nat.reduceAdd, Nat.reduceMul, Nat.reduceSub, Nat.reduceLeDiff, Nat.reduceLT, Nat.reduceEqDiff, Nat.reduceBEq, Nat.reduceBNe, Nat.reduceMod, Nat.reduceDiv, Int.reduceLE, Int.reduceLT, Int.reduceToNat, Int.reduceAdd, Int.reduceSub, Int.reduceMul, Int.reduceNeg, Int.reduceEq, Int.reduceBEq, Int.reduceBNe, ↓reduceIte, reduceCtorEq, String.reduceBNe, String.reduceEq, reduceDIte, Nat.reducePow, hl, hq, PE.ret, PE.pic, hf1, hg1, ha1, hf2, noP]
    · rfl
theorem back_ft (W H how : Int) (r1 n1 : Nat) (A : Nat → Nat → Int) (m : AMem) (hp : PicIn m r1 n1 A) (hl : lightB (fun _ => n1) 1 = true) (hq : picR W H n1 = true) (hfl : flipR W H n1 how = false) (hgr : growR W H n1 2 = true) : Ctr Try.prog 7 [.agg [.int .i64 W, .int .i64 H, .sl r1 0 0 n1], .one (.int .i64 how)] m (.one (.bool true)) m := by
  refine Ctr.enter Try.func7 rfl (by decide) (rs := [.tmp 4]) (nt := 94) rfl rfl fun hwf Q hQ => ?_
  have l1 := light1 hl
  obtain ⟨kp, ez, hb⟩ := hp.p.hb
  have hr := get_lt hb
  have hf1 := flip_off (G := A) hfl
  obtain ⟨W3, H3, n3, G1, G2, hg1, hg2, hge, hgu⟩ := grow_half (G := A) hgr
  have ha1 := apart_self (A := A) hq
  refine AW.seq_k fun K hK => ?_
  refine AW.region (by decide) ?_
  simp only [push_cast, Nat.reduceAdd, Nat.reduceMul, Nat.reduceSub, Nat.reduceLeDiff, Nat.reduceLT, Nat.reduceEqDiff, Nat.reduceBEq, Nat.reduceBNe, Nat.reduceMod, Nat.reduceDiv, Int.reduceLE, Int.reduceLT, Int.reduceToNat, Int.reduceAdd, Int.reduceSub, Int.reduceMul, Int.reduceNeg, Int.reduceEq, Int.reduceBEq, Int.reduceBNe, ↓reduceIte, reduceCtorEq, String.reduceBNe, String.reduceEq, reduceDIte, Nat.reducePow, hl, hq, PE.ret, PE.pic, hf1, hg1, ha1, noP, hg2]
  refine Thn_n ?_
  refine hK _ _ ?_
  clear hK K
  refine AW.seq_k fun K hK => ?_
  refine AW.seq_k fun K hK => ?_
  refine AW.region (by decide) ?_
  simp only [push_cast, Nat.reduceAdd, Nat.reduceMul, Nat.reduceSub, Nat.reduceLeDiff, Nat.reduceLT, Nat.reduceEqDiff, Nat.reduceBEq, Nat.reduceBNe, Nat.reduceMod, Nat.reduceDiv, Int.reduceLE, Int.reduceLT, Int.reduceToNat, Int.reduceAdd, Int.reduceSub, Int.reduceMul, Int.reduceNeg, Int.reduceEq, Int.reduceBEq, Int.reduceBNe, ↓reduceIte, reduceCtorEq, String.reduceBNe, String.reduceEq, reduceDIte, Nat.reducePow, hl, hq, PE.ret, PE.pic, hf1, hg1, ha1, noP, hg2]
  refine CThen.by (light_c _ _ 1 (fun _ => W) (fun _ => H) (fun _ => r1) (fun _ => n1) _ .grow 3 (by simp only [push_cast, Nat.reduceAdd, Nat.reduceMul, Nat.reduceSub, Nat.reduceLeDiff, Nat.reduceLT, Nat.reduceEqDiff, Nat.reduceBEq, Nat.reduceBNe, Nat.reduceMod, Nat.reduceDiv, Int.reduceLE, Int.reduceLT, Int.reduceToNat, Int.reduceAdd, Int.reduceSub, Int.reduceMul, Int.reduceNeg, Int.reduceEq, Int.reduceBEq, Int.reduceBNe, ↓reduceIte, reduceCtorEq, String.reduceBNe, String.reduceEq, reduceDIte, Nat.reducePow, pl]) (by omega)) ?_
  simp only [push_cast, Nat.reduceAdd, Nat.reduceMul, Nat.reduceSub, Nat.reduceLeDiff, Nat.reduceLT, Nat.reduceEqDiff, Nat.reduceBEq, Nat.reduceBNe, Nat.reduceMod, Nat.reduceDiv, Int.reduceLE, Int.reduceLT, Int.reduceToNat, Int.reduceAdd, Int.reduceSub, Int.reduceMul, Int.reduceNeg, Int.reduceEq, Int.reduceBEq, Int.reduceBNe, ↓reduceIte, reduceCtorEq, String.reduceBNe, String.reduceEq, reduceDIte, Nat.reducePow, hl, hq, PE.ret, PE.pic, hf1, hg1, ha1, noP, hg2]
  refine CThen.by (refRight_c _ _ _ _ _ _) ?_
  simp only [push_cast, Nat.reduceAdd, Nat.reduceMul, Nat.reduceSub, Nat.reduceLeDiff, Nat.reduceLT, Nat.reduceEqDiff, Nat.reduceBEq, Nat.reduceBNe, Nat.reduceMod, Nat.reduceDiv, Int.reduceLE, Int.reduceLT, Int.reduceToNat, Int.reduceAdd, Int.reduceSub, Int.reduceMul, Int.reduceNeg, Int.reduceEq, Int.reduceBEq, Int.reduceBNe, ↓reduceIte, reduceCtorEq, String.reduceBNe, String.reduceEq, reduceDIte, Nat.reducePow, hl, hq, PE.ret, PE.pic, hf1, hg1, ha1, noP, hg2]
  refine Thn_n ?_
  refine hK _ _ ?_
  clear hK K
  refine AW.cond_f rfl ?_
  refine AW.skip ?_
  refine Thn_n ?_
  refine hK _ _ ?_
  clear hK K
  refine AW.seq_k fun K hK => ?_
  refine AW.region (by decide) ?_
  simp only [push_cast, Nat.reduceAdd, Nat.reduceMul, Nat.reduceSub, Nat.reduceLeDiff, Nat.reduceLT, Nat.reduceEqDiff, Nat.reduceBEq, Nat.reduceBNe, Nat.reduceMod, Nat.reduceDiv, Int.reduceLE, Int.reduceLT, Int.reduceToNat, Int.reduceAdd, Int.reduceSub, Int.reduceMul, Int.reduceNeg, Int.reduceEq, Int.reduceBEq, Int.reduceBNe, ↓reduceIte, reduceCtorEq, String.reduceBNe, String.reduceEq, reduceDIte, Nat.reducePow, hl, hq, PE.ret, PE.pic, hf1, hg1, ha1, noP, hg2]
  refine CThen.by (to_c _ _ _ _ _ A _ (hp.p.mono _) (by omega)) ?_
  simp only [push_cast, Nat.reduceAdd, Nat.reduceMul, Nat.reduceSub, Nat.reduceLeDiff, Nat.reduceLT, Nat.reduceEqDiff, Nat.reduceBEq, Nat.reduceBNe, Nat.reduceMod, Nat.reduceDiv, Int.reduceLE, Int.reduceLT, Int.reduceToNat, Int.reduceAdd, Int.reduceSub, Int.reduceMul, Int.reduceNeg, Int.reduceEq, Int.reduceBEq, Int.reduceBNe, ↓reduceIte, reduceCtorEq, String.reduceBNe, String.reduceEq, reduceDIte, Nat.reducePow, hl, hq, PE.ret, PE.pic, hf1, hg1, ha1, noP, hg2]
  refine Thn_n ?_
  refine hK _ _ ?_
  clear hK K
  refine AW.seq_k fun K hK => ?_
  refine AW.seq_k fun K hK => ?_
  refine AW.region (by decide) ?_
  simp only [push_cast, Nat.reduceAdd, Nat.reduceMul, Nat.reduceSub, Nat.reduceLeDiff, Nat.reduceLT, Nat.reduceEqDiff, Nat.reduceBEq, Nat.reduceBNe, Nat.reduceMod, Nat.reduceDiv, Int.reduceLE, Int.reduceLT, Int.reduceToNat, Int.reduceAdd, Int.reduceSub, Int.reduceMul, Int.reduceNeg, Int.reduceEq, Int.reduceBEq, Int.reduceBNe, ↓reduceIte, reduceCtorEq, String.reduceBNe, String.reduceEq, reduceDIte, Nat.reducePow, hl, hq, PE.ret, PE.pic, hf1, hg1, ha1, noP, hg2]
  refine CThen.by (flip_c _ _ _ _ _ _ A _ ⟨.grow, 3, by simp only [push_cast, Nat.reduceAdd, Nat.reduceMul, Nat.reduceSub, Nat.reduceLeDiff, Nat.reduceLT, Nat.reduceEqDiff, Nat.reduceBEq, Nat.reduceBNe, Nat.reduceMod, Nat.reduceDiv, Int.reduceLE, Int.reduceLT, Int.reduceToNat, Int.reduceAdd, Int.reduceSub, Int.reduceMul, Int.reduceNeg, Int.reduceEq, Int.reduceBEq, Int.reduceBNe, ↓reduceIte, reduceCtorEq, String.reduceBNe, String.reduceEq, reduceDIte, Nat.reducePow, PE.blk]⟩) ?_
  simp only [push_cast, Nat.reduceAdd, Nat.reduceMul, Nat.reduceSub, Nat.reduceLeDiff, Nat.reduceLT, Nat.reduceEqDiff, Nat.reduceBEq, Nat.reduceBNe, Nat.reduceMod, Nat.reduceDiv, Int.reduceLE, Int.reduceLT, Int.reduceToNat, Int.reduceAdd, Int.reduceSub, Int.reduceMul, Int.reduceNeg, Int.reduceEq, Int.reduceBEq, Int.reduceBNe, ↓reduceIte, reduceCtorEq, String.reduceBNe, String.reduceEq, reduceDIte, Nat.reducePow, hl, hq, PE.ret, PE.pic, hf1, hg1, ha1, noP, hg2]
  refine Thn_n ?_
  refine hK _ _ ?_
  clear hK K
  refine AW.seq_k fun K hK => ?_
  refine AW.region (by decide) ?_
  simp only [push_cast, Nat.reduceAdd, Nat.reduceMul, Nat.reduceSub, Nat.reduceLeDiff, Nat.reduceLT, Nat.reduceEqDiff, Nat.reduceBEq, Nat.reduceBNe, Nat.reduceMod, Nat.reduceDiv, Int.reduceLE, Int.reduceLT, Int.reduceToNat, Int.reduceAdd, Int.reduceSub, Int.reduceMul, Int.reduceNeg, Int.reduceEq, Int.reduceBEq, Int.reduceBNe, ↓reduceIte, reduceCtorEq, String.reduceBNe, String.reduceEq, reduceDIte, Nat.reducePow, hl, hq, PE.ret, PE.pic, hf1, hg1, ha1, noP, hg2]
  refine Thn_n ?_
  refine hK _ _ ?_
  clear hK K
  refine AW.cond_f rfl ?_
  refine AW.skip ?_
  refine Thn_n ?_
  refine hK _ _ ?_
  clear hK K
  refine AW.seq_k fun K hK => ?_
  refine AW.seq_k fun K hK => ?_
  refine AW.region (by decide) ?_
  simp only [push_cast, Nat.reduceAdd, Nat.reduceMul, Nat.reduceSub, Nat.reduceLeDiff, Nat.reduceLT, Nat.reduceEqDiff, Nat.reduceBEq, Nat.reduceBNe, Nat.reduceMod, Nat.reduceDiv, Int.reduceLE, Int.reduceLT, Int.reduceToNat, Int.reduceAdd, Int.reduceSub, Int.reduceMul, Int.reduceNeg, Int.reduceEq, Int.reduceBEq, Int.reduceBNe, ↓reduceIte, reduceCtorEq, String.reduceBNe, String.reduceEq, reduceDIte, Nat.reducePow, hl, hq, PE.ret, PE.pic, hf1, hg1, ha1, noP, hg2]
  refine CThen.by (grow_c _ _ _ _ _ _ A _ ⟨.grow, 3, by simp only [push_cast, Nat.reduceAdd, Nat.reduceMul, Nat.reduceSub, Nat.reduceLeDiff, Nat.reduceLT, Nat.reduceEqDiff, Nat.reduceBEq, Nat.reduceBNe, Nat.reduceMod, Nat.reduceDiv, Int.reduceLE, Int.reduceLT, Int.reduceToNat, Int.reduceAdd, Int.reduceSub, Int.reduceMul, Int.reduceNeg, Int.reduceEq, Int.reduceBEq, Int.reduceBNe, ↓reduceIte, reduceCtorEq, String.reduceBNe, String.reduceEq, reduceDIte, Nat.reducePow, PE.blk]⟩) ?_
  simp only [push_cast, Nat.reduceAdd, Nat.reduceMul, Nat.reduceSub, Nat.reduceLeDiff, Nat.reduceLT, Nat.reduceEqDiff, Nat.reduceBEq, Nat.reduceBNe, Nat.reduceMod, Nat.reduceDiv, Int.reduceLE, Int.reduceLT, Int.reduceToNat, Int.reduceAdd, Int.reduceSub, Int.reduceMul, Int.reduceNeg, Int.reduceEq, Int.reduceBEq, Int.reduceBNe, ↓reduceIte, reduceCtorEq, String.reduceBNe, String.reduceEq, reduceDIte, Nat.reducePow, hl, hq, PE.ret, PE.pic, hf1, hg1, ha1, noP, hg2]
  refine Thn_n ?_
  refine hK _ _ ?_
  clear hK K
  refine AW.seq_k fun K hK => ?_
  refine AW.region (by decide) ?_
  simp only [push_cast, Nat.reduceAdd, Nat.reduceMul, Nat.reduceSub, Nat.reduceLeDiff, Nat.reduceLT, Nat.reduceEqDiff, Nat.reduceBEq, Nat.reduceBNe, Nat.reduceMod, Nat.reduceDiv, Int.reduceLE, Int.reduceLT, Int.reduceToNat, Int.reduceAdd, Int.reduceSub, Int.reduceMul, Int.reduceNeg, Int.reduceEq, Int.reduceBEq, Int.reduceBNe, ↓reduceIte, reduceCtorEq, String.reduceBNe, String.reduceEq, reduceDIte, Nat.reducePow, hl, hq, PE.ret, PE.pic, hf1, hg1, ha1, noP, hg2]
  refine Thn_n ?_
  refine hK _ _ ?_
  clear hK K
  refine AW.cond_t rfl ?_
  refine AW.seq_k fun K hK => ?_
  refine AW.region (by decide) ?_
  simp only [push_cast, Nat.reduceAdd, Nat.reduceMul, Nat.reduceSub, Nat.reduceLeDiff, Nat.reduceLT, Nat.reduceEqDiff, Nat.reduceBEq, Nat.reduceBNe, Nat.reduceMod, Nat.reduceDiv, Int.reduceLE, Int.reduceLT, Int.reduceToNat, Int.reduceAdd, Int.reduceSub, Int.reduceMul, Int.reduceNeg, Int.reduceEq, Int.reduceBEq, Int.reduceBNe, ↓reduceIte, reduceCtorEq, String.reduceBNe, String.reduceEq, reduceDIte, Nat.reducePow, hl, hq, PE.ret, PE.pic, hf1, hg1, ha1, noP, hg2]
  refine CThen.by (half_c _ _ _ _ _ G1 _ ⟨.grow, 3, by simp only [push_cast, Nat.reduceAdd, Nat.reduceMul, Nat.reduceSub, Nat.reduceLeDiff, Nat.reduceLT, Nat.reduceEqDiff, Nat.reduceBEq, Nat.reduceBNe, Nat.reduceMod, Nat.reduceDiv, Int.reduceLE, Int.reduceLT, Int.reduceToNat, Int.reduceAdd, Int.reduceSub, Int.reduceMul, Int.reduceNeg, Int.reduceEq, Int.reduceBEq, Int.reduceBNe, ↓reduceIte, reduceCtorEq, String.reduceBNe, String.reduceEq, reduceDIte, Nat.reducePow, PE.blk]⟩ (hgu hp.u)) ?_
  simp only [push_cast, Nat.reduceAdd, Nat.reduceMul, Nat.reduceSub, Nat.reduceLeDiff, Nat.reduceLT, Nat.reduceEqDiff, Nat.reduceBEq, Nat.reduceBNe, Nat.reduceMod, Nat.reduceDiv, Int.reduceLE, Int.reduceLT, Int.reduceToNat, Int.reduceAdd, Int.reduceSub, Int.reduceMul, Int.reduceNeg, Int.reduceEq, Int.reduceBEq, Int.reduceBNe, ↓reduceIte, reduceCtorEq, String.reduceBNe, String.reduceEq, reduceDIte, Nat.reducePow, hl, hq, PE.ret, PE.pic, hf1, hg1, ha1, noP, hg2]
  refine Thn_n ?_
  refine hK _ _ ?_
  clear hK K
  refine AW.seq_k fun K hK => ?_
  refine AW.draw [.val, .val, .val, .rd 0, .ext, .rd 0, .ext, .val, .val] fol (by decide) (by kernel_rfl) ?_
  simp only [push_cast, Nat.reduceAdd, Nat.reduceMul, Nat.reduceSub, Nat.reduceLeDiff, Nat.reduceLT, Nat.reduceEqDiff, Nat.reduceBEq, Nat.reduceBNe, Nat.reduceMod, Nat.reduceDiv, Int.reduceLE, Int.reduceLT, Int.reduceToNat, Int.reduceAdd, Int.reduceSub, Int.reduceMul, Int.reduceNeg, Int.reduceEq, Int.reduceBEq, Int.reduceBNe, ↓reduceIte, reduceCtorEq, String.reduceBNe, String.reduceEq, reduceDIte, Nat.reducePow, hl, hq, PE.ret, PE.pic, hf1, hg1, ha1, noP, hg2]
  refine DCall.by0 (From_c _ _ _ _ _ _ (by simp)) ?_
  simp only [push_cast, Nat.reduceAdd, Nat.reduceMul, Nat.reduceSub, Nat.reduceLeDiff, Nat.reduceLT, Nat.reduceEqDiff, Nat.reduceBEq, Nat.reduceBNe, Nat.reduceMod, Nat.reduceDiv, Int.reduceLE, Int.reduceLT, Int.reduceToNat, Int.reduceAdd, Int.reduceSub, Int.reduceMul, Int.reduceNeg, Int.reduceEq, Int.reduceBEq, Int.reduceBNe, ↓reduceIte, reduceCtorEq, String.reduceBNe, String.reduceEq, reduceDIte, Nat.reducePow, hl, hq, PE.ret, PE.pic, hf1, hg1, ha1, noP, hg2]
  refine DCall.by0 (same_c _ _ _ _ _ _ _ (G2) A _ ⟨.grow, 3, by simp only [push_cast, Nat.reduceAdd, Nat.reduceMul, Nat.reduceSub, Nat.reduceLeDiff, Nat.reduceLT, Nat.reduceEqDiff, Nat.reduceBEq, Nat.reduceBNe, Nat.reduceMod, Nat.reduceDiv, Int.reduceLE, Int.reduceLT, Int.reduceToNat, Int.reduceAdd, Int.reduceSub, Int.reduceMul, Int.reduceNeg, Int.reduceEq, Int.reduceBEq, Int.reduceBNe, ↓reduceIte, reduceCtorEq, String.reduceBNe, String.reduceEq, reduceDIte, Nat.reducePow, PE.blk]⟩ (hp.p.mono _) hge (by omega)) ?_
  simp only [push_cast, Nat.reduceAdd, Nat.reduceMul, Nat.reduceSub, Nat.reduceLeDiff, Nat.reduceLT, Nat.reduceEqDiff, Nat.reduceBEq, Nat.reduceBNe, Nat.reduceMod, Nat.reduceDiv, Int.reduceLE, Int.reduceLT, Int.reduceToNat, Int.reduceAdd, Int.reduceSub, Int.reduceMul, Int.reduceNeg, Int.reduceEq, Int.reduceBEq, Int.reduceBNe, ↓reduceIte, reduceCtorEq, String.reduceBNe, String.reduceEq, reduceDIte, Nat.reducePow, hl, hq, PE.ret, PE.pic, hf1, hg1, ha1, noP, hg2]
  refine Thn_n ?_
  refine hK _ _ ?_
  clear hK K
  refine AW.cond_f rfl ?_
  refine AW.skip ?_
  refine Thn_n ?_
  refine hK _ _ ?_
  clear hK K
  refine AW.seq_k fun K hK => ?_
  refine AW.region (by decide) ?_
  simp only [push_cast, Nat.reduceAdd, Nat.reduceMul, Nat.reduceSub, Nat.reduceLeDiff, Nat.reduceLT, Nat.reduceEqDiff, Nat.reduceBEq, Nat.reduceBNe, Nat.reduceMod, Nat.reduceDiv, Int.reduceLE, Int.reduceLT, Int.reduceToNat, Int.reduceAdd, Int.reduceSub, Int.reduceMul, Int.reduceNeg, Int.reduceEq, Int.reduceBEq, Int.reduceBNe, ↓reduceIte, reduceCtorEq, String.reduceBNe, String.reduceEq, reduceDIte, Nat.reducePow, hl, hq, PE.ret, PE.pic, hf1, hg1, ha1, noP, hg2]
  refine CThen.by (apart_c _ _ _ _ _ _ _ _ _ _ A A _ ⟨.grow, 3, by simp only [push_cast, Nat.reduceAdd, Nat.reduceMul, Nat.reduceSub, Nat.reduceLeDiff, Nat.reduceLT, Nat.reduceEqDiff, Nat.reduceBEq, Nat.reduceBNe, Nat.reduceMod, Nat.reduceDiv, Int.reduceLE, Int.reduceLT, Int.reduceToNat, Int.reduceAdd, Int.reduceSub, Int.reduceMul, Int.reduceNeg, Int.reduceEq, Int.reduceBEq, Int.reduceBNe, ↓reduceIte, reduceCtorEq, String.reduceBNe, String.reduceEq, reduceDIte, Nat.reducePow, PE.blk]⟩ ⟨.grow, 3, by simp only [push_cast, Nat.reduceAdd, Nat.reduceMul, Nat.reduceSub, Nat.reduceLeDiff, Nat.reduceLT, Nat.reduceEqDiff, Nat.reduceBEq, Nat.reduceBNe, Nat.reduceMod, Nat.reduceDiv, Int.reduceLE, Int.reduceLT, Int.reduceToNat, Int.reduceAdd, Int.reduceSub, Int.reduceMul, Int.reduceNeg, Int.reduceEq, Int.reduceBEq, Int.reduceBNe, ↓reduceIte, reduceCtorEq, String.reduceBNe, String.reduceEq, reduceDIte, Nat.reducePow, PE.blk]⟩ hp.u hp.u) ?_
  simp only [push_cast, Nat.reduceAdd, Nat.reduceMul, Nat.reduceSub, Nat.reduceLeDiff, Nat.reduceLT, Nat.reduceEqDiff, Nat.reduceBEq, Nat.reduceBNe, Nat.reduceMod, Nat.reduceDiv, Int.reduceLE, Int.reduceLT, Int.reduceToNat, Int.reduceAdd, Int.reduceSub, Int.reduceMul, Int.reduceNeg, Int.reduceEq, Int.reduceBEq, Int.reduceBNe, ↓reduceIte, reduceCtorEq, String.reduceBNe, String.reduceEq, reduceDIte, Nat.reducePow, hl, hq, PE.ret, PE.pic, hf1, hg1, ha1, noP, hg2]
  refine Thn_n ?_
  refine hK _ _ ?_
  clear hK K
  refine AW.seq_k fun K hK => ?_
  refine AW.seq_k fun K hK => ?_
  refine AW.region (by decide) ?_
  simp only [push_cast, Nat.reduceAdd, Nat.reduceMul, Nat.reduceSub, Nat.reduceLeDiff, Nat.reduceLT, Nat.reduceEqDiff, Nat.reduceBEq, Nat.reduceBNe, Nat.reduceMod, Nat.reduceDiv, Int.reduceLE, Int.reduceLT, Int.reduceToNat, Int.reduceAdd, Int.reduceSub, Int.reduceMul, Int.reduceNeg, Int.reduceEq, Int.reduceBEq, Int.reduceBNe, ↓reduceIte, reduceCtorEq, String.reduceBNe, String.reduceEq, reduceDIte, Nat.reducePow, hl, hq, PE.ret, PE.pic, hf1, hg1, ha1, noP, hg2]
  refine Thn_n ?_
  refine hK _ _ ?_
  clear hK K
  refine AW.cond_f rfl ?_
  refine AW.skip ?_
  refine Thn_n ?_
  refine hK _ _ ?_
  clear hK K
  refine AW.seq_k fun K hK => ?_
  refine AW.seq_k fun K hK => ?_
  refine AW.region (by decide) ?_
  simp only [push_cast, Nat.reduceAdd, Nat.reduceMul, Nat.reduceSub, Nat.reduceLeDiff, Nat.reduceLT, Nat.reduceEqDiff, Nat.reduceBEq, Nat.reduceBNe, Nat.reduceMod, Nat.reduceDiv, Int.reduceLE, Int.reduceLT, Int.reduceToNat, Int.reduceAdd, Int.reduceSub, Int.reduceMul, Int.reduceNeg, Int.reduceEq, Int.reduceBEq, Int.reduceBNe, ↓reduceIte, reduceCtorEq, String.reduceBNe, String.reduceEq, reduceDIte, Nat.reducePow, hl, hq, PE.ret, PE.pic, hf1, hg1, ha1, noP, hg2]
  refine Thn_n ?_
  refine hK _ _ ?_
  clear hK K
  refine AW.block ?_
  refine AW.loopK [83, 84] (fun i => i ≤ n1) (fun i => [(85, .one (.int .i64 (i : Int)))]) (fun i => []) (fun i => n1 - i) 0 (by omega) ?_ ?_ fun i hi18 => ?_
  · first | rfl | (simp only [Keeps, Tm.get_cons, Nat.reduceEqDiff, ↓reduceIte, if_true, if_false, ite_true, ite_false, true_and, and_true, and_self, reduceCtorEq] <;> rfl)
  · first | rfl | (simp only [setAll, push_cast, Nat.reduceAdd, Nat.reduceMul, Nat.reduceSub, Nat.reduceLeDiff, Nat.reduceLT, Nat.reduceEqDiff, Nat.reduceBEq, Nat.reduceBNe, Nat.reduceMod, Nat.reduceDiv, Int.reduceLE, Int.reduceLT, Int.reduceToNat, Int.reduceAdd, Int.reduceSub, Int.reduceMul, Int.reduceNeg, Int.reduceEq, Int.reduceBEq, Int.reduceBNe, ↓reduceIte, reduceCtorEq, String.reduceBNe, String.reduceEq, reduceDIte, Nat.reducePow, hl, hq, PE.ret, PE.pic, hf1, hg1, ha1, noP, hg2] <;> rfl)
  try simp only [keepL, setAll, push_cast, Nat.reduceAdd, Nat.reduceMul, Nat.reduceSub, Nat.reduceLeDiff, Nat.reduceLT, Nat.reduceEqDiff, Nat.reduceBEq, Nat.reduceBNe, Nat.reduceMod, Nat.reduceDiv, Int.reduceLE, Int.reduceLT, Int.reduceToNat, Int.reduceAdd, Int.reduceSub, Int.reduceMul, Int.reduceNeg, Int.reduceEq, Int.reduceBEq, Int.reduceBNe, ↓reduceIte, reduceCtorEq, String.reduceBNe, String.reduceEq, reduceDIte, Nat.reducePow, hl, hq, PE.ret, PE.pic, hf1, hg1, ha1, noP, hg2]
  refine AW.seq_k fun K hK => ?_
  refine AW.region (by decide) ?_
  simp only [push_cast, Nat.reduceAdd, Nat.reduceMul, Nat.reduceSub, Nat.reduceLeDiff, Nat.reduceLT, Nat.reduceEqDiff, Nat.reduceBEq, Nat.reduceBNe, Nat.reduceMod, Nat.reduceDiv, Int.reduceLE, Int.reduceLT, Int.reduceToNat, Int.reduceAdd, Int.reduceSub, Int.reduceMul, Int.reduceNeg, Int.reduceEq, Int.reduceBEq, Int.reduceBNe, ↓reduceIte, reduceCtorEq, String.reduceBNe, String.reduceEq, reduceDIte, Nat.reducePow, hl, hq, PE.ret, PE.pic, hf1, hg1, ha1, noP, hg2]
  refine Thn_n ?_
  refine hK _ _ ?_
  clear hK K
  refine AW.seq_k fun K hK => ?_
  refine AW.cond rfl (fun h86 => ?_) (fun h86 => ?_)
  · have hlt2 : i < n1 := by have := of_decide_eq_true h86; omega
    have hi1 : (0 : Int) ≤ (i : Int) := by omega
    have hi2 : (i : Int) < (n1 : Int) := by omega
    have a0 := dl_get0 (G := apartG A A) hlt2
    have a1 := dl_get1 (G := apartG A A) hlt2
    have a2 := dl_get2 (G := apartG A A) hlt2
    rw [apart_z] at a0 a1 a2
    refine AW.skip ?_
    refine Thn_n ?_
    refine hK _ _ ?_
    clear hK K
    refine AW.seq_k fun K hK => ?_
    refine AW.block ?_
    iterate 2
      refine AW.seq_k fun K hK => ?_
      refine AW.region (by decide) ?_
      simp only [push_cast, Nat.reduceAdd, Nat.reduceMul, Nat.reduceSub, Nat.reduceLeDiff, Nat.reduceLT, Nat.reduceEqDiff, Nat.reduceBEq, Nat.reduceBNe, Nat.reduceMod, Nat.reduceDiv, Int.reduceLE, Int.reduceLT, Int.reduceToNat, Int.reduceAdd, Int.reduceSub, Int.reduceMul, Int.reduceNeg, Int.reduceEq, Int.reduceBEq, Int.reduceBNe, ↓reduceIte, reduceCtorEq, String.reduceBNe, String.reduceEq, reduceDIte, Nat.reducePow, hl, hq, PE.ret, PE.pic, hf1, hg1, ha1, noP, hg2, hi1, hi2, a0, a1, a2, PE.blk]
      refine Thn_n ?_
      refine hK _ _ ?_
      clear hK K
    refine AW.cond_f rfl ?_
    refine AW.skip ?_
    refine InB_n ?_
    refine Thn_n ?_
    refine hK _ _ ?_
    clear hK K
    refine AW.region (by decide) ?_
    simp only [push_cast, Nat.reduceAdd, Nat.reduceMul, Nat.reduceSub, Nat.reduceLeDiff, Nat.reduceLT, Nat.reduceEqDiff, Nat.reduceBEq, Nat.reduceBNe, Nat.reduceMod, Nat.reduceDiv, Int.reduceLE, Int.reduceLT, Int.reduceToNat, Int.reduceAdd, Int.reduceSub, Int.reduceMul, Int.reduceNeg, Int.reduceEq, Int.reduceBEq, Int.reduceBNe, ↓reduceIte, reduceCtorEq, String.reduceBNe, String.reduceEq, reduceDIte, Nat.reducePow, hl, hq, PE.ret, PE.pic, hf1, hg1, ha1, noP, hg2, hi1, hi2, a0, a1, a2, PE.blk]
    refine Thn_n ?_
    have hwi : IntKind.i64.wrap ((i:Int)+1) = (i:Int)+1 := by rw [IntKind.wrap_i64]; omega
    refine ⟨i + 1, by omega, by omega, ?_⟩
    try simp only [keepL, setAll, push_cast, Nat.reduceAdd, Nat.reduceMul, Nat.reduceSub, Nat.reduceLeDiff, Nat.reduceLT, Nat.reduceEqDiff, Nat.reduceBEq, Nat.reduceBNe, Nat.reduceMod, Nat.reduceDiv, Int.reduceLE, Int.reduceLT, Int.reduceToNat, Int.reduceAdd, Int.reduceSub, Int.reduceMul, Int.reduceNeg, Int.reduceEq, Int.reduceBEq, Int.reduceBNe, ↓reduceIte, reduceCtorEq, String.reduceBNe, String.reduceEq, reduceDIte, Nat.reducePow, hl, hq, PE.ret, PE.pic, hf1, hg1, ha1, noP, hg2, hi1, hi2, a0, a1, a2, PE.blk, hwi]
    exact Weak.to (extra := [_]) (by simp only [Keeps, Tm.get_cons, Nat.reduceEqDiff, ↓reduceIte, if_true, if_false, ite_true, ite_false, true_and, and_true, and_self, reduceCtorEq, hwi]) (by first | rfl | (simp only [List.append_assoc, List.cons_append, List.nil_append]; rfl)) (by first | rfl | (simp [AV.below, CV.below, dl_below, hr]; done) | (simp [AV.below, CV.below, dl_below, hr]; omega)) (by
      first | exact hwf | refine MWf.app (hwf.grow (by simp)) ?_
      repeat (first | exact MWf_nil | (refine MWf_cons ?_ ?_; · first | rfl | (simp [CV.below, dl_below, hr]; done) | (simp [CV.below, dl_below, hr]; omega))))
  · refine AW.exit ?_
    refine Thn_e ?_
    clear hK K
    refine Thn_e ?_
    refine InB_here ?_
    refine Thn_n ?_
    refine hK _ _ ?_
    clear hK K
    refine AW.seq_k fun K hK => ?_
    refine AW.region (by decide) ?_
    simp only [push_cast, Nat.reduceAdd, Nat.reduceMul, Nat.reduceSub, Nat.reduceLeDiff, Nat.reduceLT, Nat.reduceEqDiff, Nat.reduceBEq, Nat.reduceBNe, Nat.reduceMod, Nat.reduceDiv, Int.reduceLE, Int.reduceLT, Int.reduceToNat, Int.reduceAdd, Int.reduceSub, Int.reduceMul, Int.reduceNeg, Int.reduceEq, Int.reduceBEq, Int.reduceBNe, ↓reduceIte, reduceCtorEq, String.reduceBNe, String.reduceEq, reduceDIte, Nat.reducePow, hl, hq, PE.ret, PE.pic, hf1, hg1, ha1, noP, hg2]
    refine CThen.by (awake_c _) ?_
    simp only [push_cast, Nat.reduceAdd, Nat.reduceMul, Nat.reduceSub, Nat.reduceLeDiff, Nat.reduceLT, Nat.reduceEqDiff, Nat.reduceBEq, Nat.reduceBNe, Nat.reduceMod, Nat.reduceDiv, Int.reduceLE, Int.reduceLT, Int.reduceToNat, Int.reduceAdd, Int.reduceSub, Int.reduceMul, Int.reduceNeg, Int.reduceEq, Int.reduceBEq, Int.reduceBNe, ↓reduceIte, reduceCtorEq, String.reduceBNe, String.reduceEq, reduceDIte, Nat.reducePow, hl, hq, PE.ret, PE.pic, hf1, hg1, ha1, noP, hg2]
    refine Thn_n ?_
    refine hK _ _ ?_
    clear hK K
    refine AW.ret ?_
    refine hQ _ _ _ ?_
    first | refine RetP.drop0 (Or.inr rfl) ?_ ?_ hwf | refine RetP.drop (Or.inr rfl) ?_ ?_ hwf
    · simp only [resA, resOne, resTv, AV.tv, push_cast, Nat.reduceAdd, Nat.reduceMul, Nat.reduceSub, Nat.reduceLeDiff, Nat.reduceLT, Nat.reduceEqDiff, Nat.reduceBEq, Nat.reduceBNe, Nat.reduceMod, Nat.reduceDiv, Int.reduceLE, Int.reduceLT, Int.reduceToNat, Int.reduceAdd, Int.reduceSub, Int.reduceMul, Int.reduceNeg, Int.reduceEq, Int.reduceBEq, Int.reduceBNe, ↓reduceIte, reduceCtorEq, String.reduceBNe, String.reduceEq, reduceDIte, Nat.reducePow, hl, hq, PE.ret, PE.pic, hf1, hg1, ha1, noP, hg2]
    · rfl
theorem back_ff (W H how : Int) (r1 n1 : Nat) (A : Nat → Nat → Int) (m : AMem) (hp : PicIn m r1 n1 A) (hl : lightB (fun _ => n1) 1 = true) (hq : picR W H n1 = true) (hfl : flipR W H n1 how = false) (hgr : growR W H n1 2 = false) : Ctr Try.prog 7 [.agg [.int .i64 W, .int .i64 H, .sl r1 0 0 n1], .one (.int .i64 how)] m (.one (.bool true)) m := by
  refine Ctr.enter Try.func7 rfl (by decide) (rs := [.tmp 4]) (nt := 94) rfl rfl fun hwf Q hQ => ?_
  have l1 := light1 hl
  obtain ⟨kp, ez, hb⟩ := hp.p.hb
  have hr := get_lt hb
  have hf1 := flip_off (G := A) hfl
  have hg1 := grow_off (G := A) hgr
  have ha1 := apart_self (A := A) hq
  refine AW.seq_k fun K hK => ?_
  refine AW.region (by decide) ?_
  simp only [push_cast, Nat.reduceAdd, Nat.reduceMul, Nat.reduceSub, Nat.reduceLeDiff, Nat.reduceLT, Nat.reduceEqDiff, Nat.reduceBEq, Nat.reduceBNe, Nat.reduceMod, Nat.reduceDiv, Int.reduceLE, Int.reduceLT, Int.reduceToNat, Int.reduceAdd, Int.reduceSub, Int.reduceMul, Int.reduceNeg, Int.reduceEq, Int.reduceBEq, Int.reduceBNe, ↓reduceIte, reduceCtorEq, String.reduceBNe, String.reduceEq, reduceDIte, Nat.reducePow, hl, hq, PE.ret, PE.pic, hf1, hg1, ha1, noP, noP]
  refine Thn_n ?_
  refine hK _ _ ?_
  clear hK K
  refine AW.seq_k fun K hK => ?_
  refine AW.seq_k fun K hK => ?_
  refine AW.region (by decide) ?_
  simp only [push_cast, Nat.reduceAdd, Nat.reduceMul, Nat.reduceSub, Nat.reduceLeDiff, Nat.reduceLT, Nat.reduceEqDiff, Nat.reduceBEq, Nat.reduceBNe, Nat.reduceMod, Nat.reduceDiv, Int.reduceLE, Int.reduceLT, Int.reduceToNat, Int.reduceAdd, Int.reduceSub, Int.reduceMul, Int.reduceNeg, Int.reduceEq, Int.reduceBEq, Int.reduceBNe, ↓reduceIte, reduceCtorEq, String.reduceBNe, String.reduceEq, reduceDIte, Nat.reducePow, hl, hq, PE.ret, PE.pic, hf1, hg1, ha1, noP, noP]
  refine CThen.by (light_c _ _ 1 (fun _ => W) (fun _ => H) (fun _ => r1) (fun _ => n1) _ .grow 3 (by simp only [push_cast, Nat.reduceAdd, Nat.reduceMul, Nat.reduceSub, Nat.reduceLeDiff, Nat.reduceLT, Nat.reduceEqDiff, Nat.reduceBEq, Nat.reduceBNe, Nat.reduceMod, Nat.reduceDiv, Int.reduceLE, Int.reduceLT, Int.reduceToNat, Int.reduceAdd, Int.reduceSub, Int.reduceMul, Int.reduceNeg, Int.reduceEq, Int.reduceBEq, Int.reduceBNe, ↓reduceIte, reduceCtorEq, String.reduceBNe, String.reduceEq, reduceDIte, Nat.reducePow, pl]) (by omega)) ?_
  simp only [push_cast, Nat.reduceAdd, Nat.reduceMul, Nat.reduceSub, Nat.reduceLeDiff, Nat.reduceLT, Nat.reduceEqDiff, Nat.reduceBEq, Nat.reduceBNe, Nat.reduceMod, Nat.reduceDiv, Int.reduceLE, Int.reduceLT, Int.reduceToNat, Int.reduceAdd, Int.reduceSub, Int.reduceMul, Int.reduceNeg, Int.reduceEq, Int.reduceBEq, Int.reduceBNe, ↓reduceIte, reduceCtorEq, String.reduceBNe, String.reduceEq, reduceDIte, Nat.reducePow, hl, hq, PE.ret, PE.pic, hf1, hg1, ha1, noP, noP]
  refine CThen.by (refRight_c _ _ _ _ _ _) ?_
  simp only [push_cast, Nat.reduceAdd, Nat.reduceMul, Nat.reduceSub, Nat.reduceLeDiff, Nat.reduceLT, Nat.reduceEqDiff, Nat.reduceBEq, Nat.reduceBNe, Nat.reduceMod, Nat.reduceDiv, Int.reduceLE, Int.reduceLT, Int.reduceToNat, Int.reduceAdd, Int.reduceSub, Int.reduceMul, Int.reduceNeg, Int.reduceEq, Int.reduceBEq, Int.reduceBNe, ↓reduceIte, reduceCtorEq, String.reduceBNe, String.reduceEq, reduceDIte, Nat.reducePow, hl, hq, PE.ret, PE.pic, hf1, hg1, ha1, noP, noP]
  refine Thn_n ?_
  refine hK _ _ ?_
  clear hK K
  refine AW.cond_f rfl ?_
  refine AW.skip ?_
  refine Thn_n ?_
  refine hK _ _ ?_
  clear hK K
  refine AW.seq_k fun K hK => ?_
  refine AW.region (by decide) ?_
  simp only [push_cast, Nat.reduceAdd, Nat.reduceMul, Nat.reduceSub, Nat.reduceLeDiff, Nat.reduceLT, Nat.reduceEqDiff, Nat.reduceBEq, Nat.reduceBNe, Nat.reduceMod, Nat.reduceDiv, Int.reduceLE, Int.reduceLT, Int.reduceToNat, Int.reduceAdd, Int.reduceSub, Int.reduceMul, Int.reduceNeg, Int.reduceEq, Int.reduceBEq, Int.reduceBNe, ↓reduceIte, reduceCtorEq, String.reduceBNe, String.reduceEq, reduceDIte, Nat.reducePow, hl, hq, PE.ret, PE.pic, hf1, hg1, ha1, noP, noP]
  refine CThen.by (to_c _ _ _ _ _ A _ (hp.p.mono _) (by omega)) ?_
  simp only [push_cast, Nat.reduceAdd, Nat.reduceMul, Nat.reduceSub, Nat.reduceLeDiff, Nat.reduceLT, Nat.reduceEqDiff, Nat.reduceBEq, Nat.reduceBNe, Nat.reduceMod, Nat.reduceDiv, Int.reduceLE, Int.reduceLT, Int.reduceToNat, Int.reduceAdd, Int.reduceSub, Int.reduceMul, Int.reduceNeg, Int.reduceEq, Int.reduceBEq, Int.reduceBNe, ↓reduceIte, reduceCtorEq, String.reduceBNe, String.reduceEq, reduceDIte, Nat.reducePow, hl, hq, PE.ret, PE.pic, hf1, hg1, ha1, noP, noP]
  refine Thn_n ?_
  refine hK _ _ ?_
  clear hK K
  refine AW.seq_k fun K hK => ?_
  refine AW.seq_k fun K hK => ?_
  refine AW.region (by decide) ?_
  simp only [push_cast, Nat.reduceAdd, Nat.reduceMul, Nat.reduceSub, Nat.reduceLeDiff, Nat.reduceLT, Nat.reduceEqDiff, Nat.reduceBEq, Nat.reduceBNe, Nat.reduceMod, Nat.reduceDiv, Int.reduceLE, Int.reduceLT, Int.reduceToNat, Int.reduceAdd, Int.reduceSub, Int.reduceMul, Int.reduceNeg, Int.reduceEq, Int.reduceBEq, Int.reduceBNe, ↓reduceIte, reduceCtorEq, String.reduceBNe, String.reduceEq, reduceDIte, Nat.reducePow, hl, hq, PE.ret, PE.pic, hf1, hg1, ha1, noP, noP]
  refine CThen.by (flip_c _ _ _ _ _ _ A _ ⟨.grow, 3, by simp only [push_cast, Nat.reduceAdd, Nat.reduceMul, Nat.reduceSub, Nat.reduceLeDiff, Nat.reduceLT, Nat.reduceEqDiff, Nat.reduceBEq, Nat.reduceBNe, Nat.reduceMod, Nat.reduceDiv, Int.reduceLE, Int.reduceLT, Int.reduceToNat, Int.reduceAdd, Int.reduceSub, Int.reduceMul, Int.reduceNeg, Int.reduceEq, Int.reduceBEq, Int.reduceBNe, ↓reduceIte, reduceCtorEq, String.reduceBNe, String.reduceEq, reduceDIte, Nat.reducePow, PE.blk]⟩) ?_
  simp only [push_cast, Nat.reduceAdd, Nat.reduceMul, Nat.reduceSub, Nat.reduceLeDiff, Nat.reduceLT, Nat.reduceEqDiff, Nat.reduceBEq, Nat.reduceBNe, Nat.reduceMod, Nat.reduceDiv, Int.reduceLE, Int.reduceLT, Int.reduceToNat, Int.reduceAdd, Int.reduceSub, Int.reduceMul, Int.reduceNeg, Int.reduceEq, Int.reduceBEq, Int.reduceBNe, ↓reduceIte, reduceCtorEq, String.reduceBNe, String.reduceEq, reduceDIte, Nat.reducePow, hl, hq, PE.ret, PE.pic, hf1, hg1, ha1, noP, noP]
  refine Thn_n ?_
  refine hK _ _ ?_
  clear hK K
  refine AW.seq_k fun K hK => ?_
  refine AW.region (by decide) ?_
  simp only [push_cast, Nat.reduceAdd, Nat.reduceMul, Nat.reduceSub, Nat.reduceLeDiff, Nat.reduceLT, Nat.reduceEqDiff, Nat.reduceBEq, Nat.reduceBNe, Nat.reduceMod, Nat.reduceDiv, Int.reduceLE, Int.reduceLT, Int.reduceToNat, Int.reduceAdd, Int.reduceSub, Int.reduceMul, Int.reduceNeg, Int.reduceEq, Int.reduceBEq, Int.reduceBNe, ↓reduceIte, reduceCtorEq, String.reduceBNe, String.reduceEq, reduceDIte, Nat.reducePow, hl, hq, PE.ret, PE.pic, hf1, hg1, ha1, noP, noP]
  refine Thn_n ?_
  refine hK _ _ ?_
  clear hK K
  refine AW.cond_f rfl ?_
  refine AW.skip ?_
  refine Thn_n ?_
  refine hK _ _ ?_
  clear hK K
  refine AW.seq_k fun K hK => ?_
  refine AW.seq_k fun K hK => ?_
  refine AW.region (by decide) ?_
  simp only [push_cast, Nat.reduceAdd, Nat.reduceMul, Nat.reduceSub, Nat.reduceLeDiff, Nat.reduceLT, Nat.reduceEqDiff, Nat.reduceBEq, Nat.reduceBNe, Nat.reduceMod, Nat.reduceDiv, Int.reduceLE, Int.reduceLT, Int.reduceToNat, Int.reduceAdd, Int.reduceSub, Int.reduceMul, Int.reduceNeg, Int.reduceEq, Int.reduceBEq, Int.reduceBNe, ↓reduceIte, reduceCtorEq, String.reduceBNe, String.reduceEq, reduceDIte, Nat.reducePow, hl, hq, PE.ret, PE.pic, hf1, hg1, ha1, noP, noP]
  refine CThen.by (grow_c _ _ _ _ _ _ A _ ⟨.grow, 3, by simp only [push_cast, Nat.reduceAdd, Nat.reduceMul, Nat.reduceSub, Nat.reduceLeDiff, Nat.reduceLT, Nat.reduceEqDiff, Nat.reduceBEq, Nat.reduceBNe, Nat.reduceMod, Nat.reduceDiv, Int.reduceLE, Int.reduceLT, Int.reduceToNat, Int.reduceAdd, Int.reduceSub, Int.reduceMul, Int.reduceNeg, Int.reduceEq, Int.reduceBEq, Int.reduceBNe, ↓reduceIte, reduceCtorEq, String.reduceBNe, String.reduceEq, reduceDIte, Nat.reducePow, PE.blk]⟩) ?_
  simp only [push_cast, Nat.reduceAdd, Nat.reduceMul, Nat.reduceSub, Nat.reduceLeDiff, Nat.reduceLT, Nat.reduceEqDiff, Nat.reduceBEq, Nat.reduceBNe, Nat.reduceMod, Nat.reduceDiv, Int.reduceLE, Int.reduceLT, Int.reduceToNat, Int.reduceAdd, Int.reduceSub, Int.reduceMul, Int.reduceNeg, Int.reduceEq, Int.reduceBEq, Int.reduceBNe, ↓reduceIte, reduceCtorEq, String.reduceBNe, String.reduceEq, reduceDIte, Nat.reducePow, hl, hq, PE.ret, PE.pic, hf1, hg1, ha1, noP, noP]
  refine Thn_n ?_
  refine hK _ _ ?_
  clear hK K
  refine AW.seq_k fun K hK => ?_
  refine AW.region (by decide) ?_
  simp only [push_cast, Nat.reduceAdd, Nat.reduceMul, Nat.reduceSub, Nat.reduceLeDiff, Nat.reduceLT, Nat.reduceEqDiff, Nat.reduceBEq, Nat.reduceBNe, Nat.reduceMod, Nat.reduceDiv, Int.reduceLE, Int.reduceLT, Int.reduceToNat, Int.reduceAdd, Int.reduceSub, Int.reduceMul, Int.reduceNeg, Int.reduceEq, Int.reduceBEq, Int.reduceBNe, ↓reduceIte, reduceCtorEq, String.reduceBNe, String.reduceEq, reduceDIte, Nat.reducePow, hl, hq, PE.ret, PE.pic, hf1, hg1, ha1, noP, noP]
  refine Thn_n ?_
  refine hK _ _ ?_
  clear hK K
  refine AW.cond_f rfl ?_
  refine AW.skip ?_
  refine Thn_n ?_
  refine hK _ _ ?_
  clear hK K
  refine AW.seq_k fun K hK => ?_
  refine AW.region (by decide) ?_
  simp only [push_cast, Nat.reduceAdd, Nat.reduceMul, Nat.reduceSub, Nat.reduceLeDiff, Nat.reduceLT, Nat.reduceEqDiff, Nat.reduceBEq, Nat.reduceBNe, Nat.reduceMod, Nat.reduceDiv, Int.reduceLE, Int.reduceLT, Int.reduceToNat, Int.reduceAdd, Int.reduceSub, Int.reduceMul, Int.reduceNeg, Int.reduceEq, Int.reduceBEq, Int.reduceBNe, ↓reduceIte, reduceCtorEq, String.reduceBNe, String.reduceEq, reduceDIte, Nat.reducePow, hl, hq, PE.ret, PE.pic, hf1, hg1, ha1, noP, noP]
  refine CThen.by (apart_c _ _ _ _ _ _ _ _ _ _ A A _ ⟨.grow, 3, by simp only [push_cast, Nat.reduceAdd, Nat.reduceMul, Nat.reduceSub, Nat.reduceLeDiff, Nat.reduceLT, Nat.reduceEqDiff, Nat.reduceBEq, Nat.reduceBNe, Nat.reduceMod, Nat.reduceDiv, Int.reduceLE, Int.reduceLT, Int.reduceToNat, Int.reduceAdd, Int.reduceSub, Int.reduceMul, Int.reduceNeg, Int.reduceEq, Int.reduceBEq, Int.reduceBNe, ↓reduceIte, reduceCtorEq, String.reduceBNe, String.reduceEq, reduceDIte, Nat.reducePow, PE.blk]⟩ ⟨.grow, 3, by simp only [push_cast, Nat.reduceAdd, Nat.reduceMul, Nat.reduceSub, Nat.reduceLeDiff, Nat.reduceLT, Nat.reduceEqDiff, Nat.reduceBEq, Nat.reduceBNe, Nat.reduceMod, Nat.reduceDiv, Int.reduceLE, Int.reduceLT, Int.reduceToNat, Int.reduceAdd, Int.reduceSub, Int.reduceMul, Int.reduceNeg, Int.reduceEq, Int.reduceBEq, Int.reduceBNe, ↓reduceIte, reduceCtorEq, String.reduceBNe, String.reduceEq, reduceDIte, Nat.reducePow, PE.blk]⟩ hp.u hp.u) ?_
  simp only [push_cast, Nat.reduceAdd, Nat.reduceMul, Nat.reduceSub, Nat.reduceLeDiff, Nat.reduceLT, Nat.reduceEqDiff, Nat.reduceBEq, Nat.reduceBNe, Nat.reduceMod, Nat.reduceDiv, Int.reduceLE, Int.reduceLT, Int.reduceToNat, Int.reduceAdd, Int.reduceSub, Int.reduceMul, Int.reduceNeg, Int.reduceEq, Int.reduceBEq, Int.reduceBNe, ↓reduceIte, reduceCtorEq, String.reduceBNe, String.reduceEq, reduceDIte, Nat.reducePow, hl, hq, PE.ret, PE.pic, hf1, hg1, ha1, noP, noP]
  refine Thn_n ?_
  refine hK _ _ ?_
  clear hK K
  refine AW.seq_k fun K hK => ?_
  refine AW.seq_k fun K hK => ?_
  refine AW.region (by decide) ?_
  simp only [push_cast, Nat.reduceAdd, Nat.reduceMul, Nat.reduceSub, Nat.reduceLeDiff, Nat.reduceLT, Nat.reduceEqDiff, Nat.reduceBEq, Nat.reduceBNe, Nat.reduceMod, Nat.reduceDiv, Int.reduceLE, Int.reduceLT, Int.reduceToNat, Int.reduceAdd, Int.reduceSub, Int.reduceMul, Int.reduceNeg, Int.reduceEq, Int.reduceBEq, Int.reduceBNe, ↓reduceIte, reduceCtorEq, String.reduceBNe, String.reduceEq, reduceDIte, Nat.reducePow, hl, hq, PE.ret, PE.pic, hf1, hg1, ha1, noP, noP]
  refine Thn_n ?_
  refine hK _ _ ?_
  clear hK K
  refine AW.cond_f rfl ?_
  refine AW.skip ?_
  refine Thn_n ?_
  refine hK _ _ ?_
  clear hK K
  refine AW.seq_k fun K hK => ?_
  refine AW.seq_k fun K hK => ?_
  refine AW.region (by decide) ?_
  simp only [push_cast, Nat.reduceAdd, Nat.reduceMul, Nat.reduceSub, Nat.reduceLeDiff, Nat.reduceLT, Nat.reduceEqDiff, Nat.reduceBEq, Nat.reduceBNe, Nat.reduceMod, Nat.reduceDiv, Int.reduceLE, Int.reduceLT, Int.reduceToNat, Int.reduceAdd, Int.reduceSub, Int.reduceMul, Int.reduceNeg, Int.reduceEq, Int.reduceBEq, Int.reduceBNe, ↓reduceIte, reduceCtorEq, String.reduceBNe, String.reduceEq, reduceDIte, Nat.reducePow, hl, hq, PE.ret, PE.pic, hf1, hg1, ha1, noP, noP]
  refine Thn_n ?_
  refine hK _ _ ?_
  clear hK K
  refine AW.block ?_
  refine AW.loopK [83, 84] (fun i => i ≤ n1) (fun i => [(85, .one (.int .i64 (i : Int)))]) (fun i => []) (fun i => n1 - i) 0 (by omega) ?_ ?_ fun i hi16 => ?_
  · first | rfl | (simp only [Keeps, Tm.get_cons, Nat.reduceEqDiff, ↓reduceIte, if_true, if_false, ite_true, ite_false, true_and, and_true, and_self, reduceCtorEq] <;> rfl)
  · first | rfl | (simp only [setAll, push_cast, Nat.reduceAdd, Nat.reduceMul, Nat.reduceSub, Nat.reduceLeDiff, Nat.reduceLT, Nat.reduceEqDiff, Nat.reduceBEq, Nat.reduceBNe, Nat.reduceMod, Nat.reduceDiv, Int.reduceLE, Int.reduceLT, Int.reduceToNat, Int.reduceAdd, Int.reduceSub, Int.reduceMul, Int.reduceNeg, Int.reduceEq, Int.reduceBEq, Int.reduceBNe, ↓reduceIte, reduceCtorEq, String.reduceBNe, String.reduceEq, reduceDIte, Nat.reducePow, hl, hq, PE.ret, PE.pic, hf1, hg1, ha1, noP, noP] <;> rfl)
  try simp only [keepL, setAll, push_cast, Nat.reduceAdd, Nat.reduceMul, Nat.reduceSub, Nat.reduceLeDiff, Nat.reduceLT, Nat.reduceEqDiff, Nat.reduceBEq, Nat.reduceBNe, Nat.reduceMod, Nat.reduceDiv, Int.reduceLE, Int.reduceLT, Int.reduceToNat, Int.reduceAdd, Int.reduceSub, Int.reduceMul, Int.reduceNeg, Int.reduceEq, Int.reduceBEq, Int.reduceBNe, ↓reduceIte, reduceCtorEq, String.reduceBNe, String.reduceEq, reduceDIte, Nat.reducePow, hl, hq, PE.ret, PE.pic, hf1, hg1, ha1, noP, noP]
  refine AW.seq_k fun K hK => ?_
  refine AW.region (by decide) ?_
  simp only [push_cast, Nat.reduceAdd, Nat.reduceMul, Nat.reduceSub, Nat.reduceLeDiff, Nat.reduceLT, Nat.reduceEqDiff, Nat.reduceBEq, Nat.reduceBNe, Nat.reduceMod, Nat.reduceDiv, Int.reduceLE, Int.reduceLT, Int.reduceToNat, Int.reduceAdd, Int.reduceSub, Int.reduceMul, Int.reduceNeg, Int.reduceEq, Int.reduceBEq, Int.reduceBNe, ↓reduceIte, reduceCtorEq, String.reduceBNe, String.reduceEq, reduceDIte, Nat.reducePow, hl, hq, PE.ret, PE.pic, hf1, hg1, ha1, noP, noP]
  refine Thn_n ?_
  refine hK _ _ ?_
  clear hK K
  refine AW.seq_k fun K hK => ?_
  refine AW.cond rfl (fun h86 => ?_) (fun h86 => ?_)
  · have hlt2 : i < n1 := by have := of_decide_eq_true h86; omega
    have hi1 : (0 : Int) ≤ (i : Int) := by omega
    have hi2 : (i : Int) < (n1 : Int) := by omega
    have a0 := dl_get0 (G := apartG A A) hlt2
    have a1 := dl_get1 (G := apartG A A) hlt2
    have a2 := dl_get2 (G := apartG A A) hlt2
    rw [apart_z] at a0 a1 a2
    refine AW.skip ?_
    refine Thn_n ?_
    refine hK _ _ ?_
    clear hK K
    refine AW.seq_k fun K hK => ?_
    refine AW.block ?_
    iterate 2
      refine AW.seq_k fun K hK => ?_
      refine AW.region (by decide) ?_
      simp only [push_cast, Nat.reduceAdd, Nat.reduceMul, Nat.reduceSub, Nat.reduceLeDiff, Nat.reduceLT, Nat.reduceEqDiff, Nat.reduceBEq, Nat.reduceBNe, Nat.reduceMod, Nat.reduceDiv, Int.reduceLE, Int.reduceLT, Int.reduceToNat, Int.reduceAdd, Int.reduceSub, Int.reduceMul, Int.reduceNeg, Int.reduceEq, Int.reduceBEq, Int.reduceBNe, ↓reduceIte, reduceCtorEq, String.reduceBNe, String.reduceEq, reduceDIte, Nat.reducePow, hl, hq, PE.ret, PE.pic, hf1, hg1, ha1, noP, noP, hi1, hi2, a0, a1, a2, PE.blk]
      refine Thn_n ?_
      refine hK _ _ ?_
      clear hK K
    refine AW.cond_f rfl ?_
    refine AW.skip ?_
    refine InB_n ?_
    refine Thn_n ?_
    refine hK _ _ ?_
    clear hK K
    refine AW.region (by decide) ?_
    simp only [push_cast, Nat.reduceAdd, Nat.reduceMul, Nat.reduceSub, Nat.reduceLeDiff, Nat.reduceLT, Nat.reduceEqDiff, Nat.reduceBEq, Nat.reduceBNe, Nat.reduceMod, Nat.reduceDiv, Int.reduceLE, Int.reduceLT, Int.reduceToNat, Int.reduceAdd, Int.reduceSub, Int.reduceMul, Int.reduceNeg, Int.reduceEq, Int.reduceBEq, Int.reduceBNe, ↓reduceIte, reduceCtorEq, String.reduceBNe, String.reduceEq, reduceDIte, Nat.reducePow, hl, hq, PE.ret, PE.pic, hf1, hg1, ha1, noP, noP, hi1, hi2, a0, a1, a2, PE.blk]
    refine Thn_n ?_
    have hwi : IntKind.i64.wrap ((i:Int)+1) = (i:Int)+1 := by rw [IntKind.wrap_i64]; omega
    refine ⟨i + 1, by omega, by omega, ?_⟩
    try simp only [keepL, setAll, push_cast, Nat.reduceAdd, Nat.reduceMul, Nat.reduceSub, Nat.reduceLeDiff, Nat.reduceLT, Nat.reduceEqDiff, Nat.reduceBEq, Nat.reduceBNe, Nat.reduceMod, Nat.reduceDiv, Int.reduceLE, Int.reduceLT, Int.reduceToNat, Int.reduceAdd, Int.reduceSub, Int.reduceMul, Int.reduceNeg, Int.reduceEq, Int.reduceBEq, Int.reduceBNe, ↓reduceIte, reduceCtorEq, String.reduceBNe, String.reduceEq, reduceDIte, Nat.reducePow, hl, hq, PE.ret, PE.pic, hf1, hg1, ha1, noP, noP, hi1, hi2, a0, a1, a2, PE.blk, hwi]
    exact Weak.to (extra := [_]) (by simp only [Keeps, Tm.get_cons, Nat.reduceEqDiff, ↓reduceIte, if_true, if_false, ite_true, ite_false, true_and, and_true, and_self, reduceCtorEq, hwi]) (by first | rfl | (simp only [List.append_assoc, List.cons_append, List.nil_append]; rfl)) (by first | rfl | (simp [AV.below, CV.below, dl_below, hr]; done) | (simp [AV.below, CV.below, dl_below, hr]; omega)) (by
      first | exact hwf | refine MWf.app (hwf.grow (by simp)) ?_
      repeat (first | exact MWf_nil | (refine MWf_cons ?_ ?_; · first | rfl | (simp [CV.below, dl_below, hr]; done) | (simp [CV.below, dl_below, hr]; omega))))
  · refine AW.exit ?_
    refine Thn_e ?_
    clear hK K
    refine Thn_e ?_
    refine InB_here ?_
    refine Thn_n ?_
    refine hK _ _ ?_
    clear hK K
    refine AW.seq_k fun K hK => ?_
    refine AW.region (by decide) ?_
    simp only [push_cast, Nat.reduceAdd, Nat.reduceMul, Nat.reduceSub, Nat.reduceLeDiff, Nat.reduceLT, Nat.reduceEqDiff, Nat.reduceBEq, Nat.reduceBNe, Nat.reduceMod, Nat.reduceDiv, Int.reduceLE, Int.reduceLT, Int.reduceToNat, Int.reduceAdd, Int.reduceSub, Int.reduceMul, Int.reduceNeg, Int.reduceEq, Int.reduceBEq, Int.reduceBNe, ↓reduceIte, reduceCtorEq, String.reduceBNe, String.reduceEq, reduceDIte, Nat.reducePow, hl, hq, PE.ret, PE.pic, hf1, hg1, ha1, noP, noP]
    refine CThen.by (awake_c _) ?_
    simp only [push_cast, Nat.reduceAdd, Nat.reduceMul, Nat.reduceSub, Nat.reduceLeDiff, Nat.reduceLT, Nat.reduceEqDiff, Nat.reduceBEq, Nat.reduceBNe, Nat.reduceMod, Nat.reduceDiv, Int.reduceLE, Int.reduceLT, Int.reduceToNat, Int.reduceAdd, Int.reduceSub, Int.reduceMul, Int.reduceNeg, Int.reduceEq, Int.reduceBEq, Int.reduceBNe, ↓reduceIte, reduceCtorEq, String.reduceBNe, String.reduceEq, reduceDIte, Nat.reducePow, hl, hq, PE.ret, PE.pic, hf1, hg1, ha1, noP, noP]
    refine Thn_n ?_
    refine hK _ _ ?_
    clear hK K
    refine AW.ret ?_
    refine hQ _ _ _ ?_
    first | refine RetP.drop0 (Or.inr rfl) ?_ ?_ hwf | refine RetP.drop (Or.inr rfl) ?_ ?_ hwf
    · simp only [resA, resOne, resTv, AV.tv, push_cast, Nat.reduceAdd, Nat.reduceMul, Nat.reduceSub, Nat.reduceLeDiff, Nat.reduceLT, Nat.reduceEqDiff, Nat.reduceBEq, Nat.reduceBNe, Nat.reduceMod, Nat.reduceDiv, Int.reduceLE, Int.reduceLT, Int.reduceToNat, Int.reduceAdd, Int.reduceSub, Int.reduceMul, Int.reduceNeg, Int.reduceEq, Int.reduceBEq, Int.reduceBNe, ↓reduceIte, reduceCtorEq, String.reduceBNe, String.reduceEq, reduceDIte, Nat.reducePow, hl, hq, PE.ret, PE.pic, hf1, hg1, ha1, noP, noP]
    · rfl
namespace stripBackLaw
theorem law (B : Nat) (m : AMem) (avs : List AV) (h : All2 (fun t a => goodA Try.prog B m t a) Try.f7.params.toList avs) : Ctr Try.prog 7 avs m (.one (.bool true)) m := by
  rw [Try.params7] at h
  obtain ⟨a0, l0, rfl, g0, h⟩ := all2_cons h
  obtain ⟨a1, l1, rfl, g1, h⟩ := all2_cons h
  obtain rfl := all2_nil h
  obtain ⟨W, H, r1, n1, A, rfl, h1, _⟩ := pic_of g0
  obtain ⟨how, rfl, _⟩ := int_of g1
  cases hl : lightB (fun _ => n1) 1
  · exact back_dark W H how r1 n1 A m h1 hl
  cases hq : picR W H n1
  · exact back_bad W H how r1 n1 A m h1 hl hq
  cases hfl : flipR W H n1 how <;> cases hgr : growR W H n1 2
  · exact back_ff W H how r1 n1 A m h1 hl hq hfl hgr
  · exact back_ft W H how r1 n1 A m h1 hl hq hfl hgr
  · exact back_tf W H how r1 n1 A m h1 hl hq hfl hgr
  · exact back_tt W H how r1 n1 A m h1 hl hq hfl hgr
theorem contract (H : Type) (enc : TypeId × Value → H) (W : World) (base : Nat) (args : Array Value) (ds gs : List (DataW H)) (before : List MemPlace)
    (hval : ∀ (j : Nat) t v, Try.f7.params[j]? = some t → args[j]? = some v → Value.okWide Try.prog W .any base t v)
    (hW : DataW.Whole enc Try.prog Try.f7.params.toList Rows.stripBackSpec.vars false W args.toList ds gs before) :
    Calls Try.prog 7 args W fun e W' => ∃ v, e = .returned v ∧ Rows.stripBackSpec.post enc Try.prog Try.f7 false true false false W args v W' := by
  refine law_true (B := Rows.uptoBulkAll ds) (bulk := Rows.uptoBulk) rfl ?_ laidOut laid (by kernel_rfl) (tb := 4) rfl Try.underlying4 isBulk (fun d hd => bulk_mem hd) hval hW fun m avs _ h => law _ m avs h
  obtain ⟨p, q, hA, _⟩ := hW
  rw [Try.params7] at hA
  rintro l rfl
  obtain ⟨v0, vs0, d0, ds0, p0, q0, _, rfl, _, _, r0⟩ := ChangeShapes.trodAll_cons hA
  obtain ⟨v1, vs1, d1, ds1, p1, q1, _, rfl, _, _, r1⟩ := ChangeShapes.trodAll_cons r0
  obtain ⟨_, rfl, _⟩ := ChangeShapes.trodAll_nil r1
  rfl
theorem lifted (os : Os) (started : os.Started) (H : Type) (enc : TypeId × Value → H) :
    ReturnsInHanded {} Try.checked os 7 .any (Rows.stripBackSpec.pre6 enc Try.prog Try.f7 Rows.stripBackRow.domain false) (Rows.stripBackSpec.post enc Try.prog Try.f7 false true false false) := by
  refine returnsInHanded_of_change (C := Try.checked) own started (by kernel_rfl) Try.func7
    (ChangeSpec.witness6 (enc := enc) (C := Try.checked) false ⟨#[], #[.agg #[.int .i64 0, .int .i64 0, .slice none 0 0], .int .i64 0], []⟩ 8 (by kernel_rfl) (by kernel_rfl) (by kernel_rfl) (by kernel_rfl)) ?_
  intro W base args ds gs before hval hW _ _
  exact contract H enc W base args ds gs before hval hW
theorem proved : Rows.StripBackSaid :=
  OpenClaim.holds_of_wide 7 Try.f7 rfl rfl rfl rfl rfl rfl rfl ⟨rfl, rfl, rfl, rfl, rfl⟩ rfl rfl rfl rfl rfl (by kernel_rfl) Try.func7 (by kernel_rfl)
    (of_decide_eq_true (by kernel_rfl)) (by unfold Func.isWrapper; first | (rw [if_pos (by decide +kernel)]; kernel_rfl) | (rw [if_neg (by decide +kernel)]; exact ⟨rfl, rfl⟩))
    (fun os started H enc _ => lifted os started H enc)
end stripBackLaw
end Go.Proofs.Ytgkmjcpcigklpaa
