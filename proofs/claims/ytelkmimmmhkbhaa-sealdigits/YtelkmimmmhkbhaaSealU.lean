/- Walks and facts of this seat's program over abstract states, printed by a program of mine; no conditions but those that each theorem names. -/
import Derived.Test.YtelkmimmmhkbhaaSealR
set_option linter.unusedSimpArgs false
set_option linter.unusedVariables false
set_option maxRecDepth 100000
set_option maxHeartbeats 4000000
namespace Go.Proofs.Ytelkmimmmhkbhaa
open Go Go.Eng

theorem prod44_c (ra va rb vb : Nat) (x : Int) (m : AMem) (ha : (∃ k ez, m[ra]? = some ⟨k, 52, va, ez, u64l (splL x 4)⟩)) (hb : (∃ k ez, m[rb]? = some ⟨k, 52, vb, ez, u64l (splL x 4)⟩)) : Ctr Try.prog 34 [.one (.sl ra va 0 4), .one (.sl rb vb 0 4)] m (.one (.sl m.length 0 0 8)) (m ++ [⟨.grow, 52, 0, 1, u64l (prodI (splL x 4) (splL x 4))⟩]) := by
  have l1 : (prodI (splL x 4) (splL x 4)).length = 8 := by simp [prodI, prI_len, splL_len]
  have h := product_c ra va rb vb (splL x 4) (splL x 4) m ha hb (by first | (rw [splL_len]; decide) | (rw [l1]; decide)) (by rw [splL_len]; decide)
  simpa only [splL_len, l1] using h
theorem prod84_c (ra va rb vb : Nat) (x : Int) (m : AMem) (ha : (∃ k ez, m[ra]? = some ⟨k, 52, va, ez, u64l (prodI (splL x 4) (splL x 4))⟩)) (hb : (∃ k ez, m[rb]? = some ⟨k, 52, vb, ez, u64l (splL x 4)⟩)) : Ctr Try.prog 34 [.one (.sl ra va 0 8), .one (.sl rb vb 0 4)] m (.one (.sl m.length 0 0 12)) (m ++ [⟨.grow, 52, 0, 1, u64l (prodI (prodI (splL x 4) (splL x 4)) (splL x 4))⟩]) := by
  have l1 : (prodI (splL x 4) (splL x 4)).length = 8 := by simp [prodI, prI_len, splL_len]
  have h := product_c ra va rb vb (prodI (splL x 4) (splL x 4)) (splL x 4) m ha hb (by first | (rw [splL_len]; decide) | (rw [l1]; decide)) (by rw [splL_len]; decide)
  simpa only [splL_len, l1] using h
theorem third_c (x n : Int) (m : AMem) : Ctr Try.prog 28 [.one (.int .u64 x), .one (.int .u64 n)] m (.one (.bool (thirdI x n))) m := by
  refine Ctr.enter Try.func28 rfl (by decide) (rs := [.tmp 4]) (nt := 49) rfl rfl fun hwf Q hQ => ?_
  have hs12 : (((12 : Nat) : Nat) : Int) - 1 = 11 := by decide
  have hw : u64l (wantL n) = [.int .u64 0, .int .u64 0, .int .u64 0, .int .u64 0, .int .u64 0, .int .u64 0, .int .u64 n, .int .u64 0, .int .u64 0, .int .u64 0, .int .u64 0, .int .u64 0] := rfl
  have hcl := cubL_len x
  have hwl : (wantL n).length = 12 := rfl
  have hc : prodI (prodI (splL x 4) (splL x 4)) (splL x 4) = cubL x := rfl
  have hth : thirdI x n = thJ (cubL x) (wantL n) 12 := rfl
  refine AW.seq_k fun K hK => ?_
  refine AW.region (by decide) ?_
  simp only [push_cast, simprocAttr, u64l_len, hc]
  refine Thn_n ?_
  refine hK _ _ ?_
  clear hK K
  refine AW.seq_k fun K hK => ?_
  refine AW.region (by decide) ?_
  iterate 2
    simp only [push_cast, simprocAttr, u64l_len, hc]
    refine CThen.by (split_c _ _) ?_
  simp only [push_cast, simprocAttr, u64l_len, hc]
  refine CThen.by (prod44_c m.length 0 (m.length + 1) 0 x _ ⟨.grow, 1, by simp only [push_cast, simprocAttr]⟩ ⟨.grow, 1, by simp only [push_cast, simprocAttr]⟩) ?_
  simp only [push_cast, simprocAttr, u64l_len, hc]
  refine Thn_n ?_
  refine hK _ _ ?_
  clear hK K
  refine AW.seq_k fun K hK => ?_
  refine AW.region (by decide) ?_
  simp only [push_cast, simprocAttr, u64l_len, hc]
  refine CThen.by (split_c _ _) ?_
  simp only [push_cast, simprocAttr, u64l_len, hc]
  refine CThen.by (prod84_c (m.length + 2) 0 (m.length + 3) 0 x _ ⟨.grow, 1, by simp only [push_cast, simprocAttr]⟩ ⟨.grow, 1, by simp only [push_cast, simprocAttr]⟩) ?_
  iterate 2
    simp only [push_cast, simprocAttr, u64l_len, hc]
    refine Thn_n ?_
    refine hK _ _ ?_
    clear hK K
    refine AW.seq_k fun K hK => ?_
    refine AW.region (by decide) ?_
  simp only [push_cast, simprocAttr, u64l_len, hc]
  refine Thn_n ?_
  refine hK _ _ ?_
  clear hK K
  refine AW.seq_k fun K hK => ?_
  refine AW.seq_k fun K hK => ?_
  refine AW.region (by decide) ?_
  simp only [push_cast, simprocAttr, u64l_len, hc]
  refine Thn_n ?_
  refine hK _ _ ?_
  clear hK K
  refine AW.block ?_
  refine AW.loopK [6, 7] (fun i => i ≤ (12 : Nat) ∧ thirdI x n = thJ (cubL x) (wantL n) i) (fun i => [(8, .one (.int .i64 ((i : Int) - 1)))]) (fun i => [(m.length + 5, ⟨.grow, 52, 0, 1, u64l (wantL n)⟩)]) (fun i => i) 12 ⟨by decide, hth⟩ ?_ ?_ fun i hi8 => ?_
  · first | rfl | (simp only [Keeps, Tm.get_cons, Nat.reduceEqDiff, ↓reduceIte, if_true, if_false, ite_true, ite_false, true_and, and_true, and_self, reduceCtorEq, hw, hs12] <;> rfl)
  · first | rfl | (simp only [setAll, push_cast, simprocAttr, u64l_len, hc, hw, hs12] <;> rfl)
  obtain ⟨hi12, hit⟩ := hi8
  try simp only [keepL, setAll, push_cast, simprocAttr, u64l_len, hc]
  refine AW.seq_k fun K hK => ?_
  refine AW.seq_k fun K hK => ?_
  refine AW.region (by decide) ?_
  simp only [push_cast, simprocAttr, u64l_len, hc]
  refine Thn_n ?_
  refine hK _ _ ?_
  clear hK K
  refine AW.cond rfl (fun h28 => ?_) (fun h28 => ?_)
  · obtain ⟨j, rfl⟩ : ∃ j, i = j + 1 := ⟨i - 1, by have := of_decide_eq_true h28; omega⟩
    have hj1 : ((j + 1 : Nat) : Int) - 1 = (j : Int) := by omega
    simp only [push_cast, simprocAttr] at hj1
    have c1 : (0 : Int) ≤ (j : Int) := by omega
    have c2 : (j : Int) < 12 := by omega
    have g1 := u64l_get (xs := cubL x) (i := j) (by omega)
    have g2 := u64l_get (xs := wantL n) (i := j) (by omega)
    refine AW.skip ?_
    refine Thn_n ?_
    refine hK _ _ ?_
    clear hK K
    refine AW.seq_k fun K hK => ?_
    refine AW.block ?_
    refine AW.seq_k fun K hK => ?_
    refine AW.draw [.val, .val, .val, .rd 0, .val, .val, .val, .rd 0, .val] fol (by decide) (by kernel_rfl) ?_
    simp only [push_cast, simprocAttr, u64l_len, hc, hj1, c1, c2, g1, g2]
    refine Thn_n ?_
    refine hK _ _ ?_
    clear hK K
    refine AW.cond rfl (fun h39 => ?_) (fun h39 => ?_)
    · have hne : ¬ (cubL x).getD j 0 = (wantL n).getD j 0 := by simpa using h39
      have hres : thirdI x n = decide ((cubL x).getD j 0 < (wantL n).getD j 0) := by rw [hit]; simp only [thJ, if_neg hne]
      refine AW.seq_k fun K hK => ?_
      refine AW.draw [.val, .val, .val, .rd 0, .val, .val, .val, .rd 0, .val, .val] fol (by decide) (by kernel_rfl) ?_
      simp only [push_cast, simprocAttr, u64l_len, hc, hj1, c1, c2, g1, g2, hres]
      refine Thn_n ?_
      refine hK _ _ ?_
      clear hK K
      refine AW.ret ?_
      refine InB_r ?_
      refine Thn_r ?_
      refine Thn_r ?_
      refine InB_r ?_
      refine Thn_r ?_
      refine hQ _ _ _ ?_
      first | refine RetP.drop0 (Or.inr rfl) ?_ ?_ hwf | refine RetP.drop (Or.inr rfl) ?_ ?_ hwf
      · simp only [resA, resOne, resTv, AV.tv, push_cast, simprocAttr, u64l_len, hc, hj1, c1, c2, g1, g2, hres]
      · rfl
    · have hne : (cubL x).getD j 0 = (wantL n).getD j 0 := by simpa using h39
      have hnx : thirdI x n = thJ (cubL x) (wantL n) j := by rw [hit]; simp only [thJ, if_pos hne]
      refine AW.skip ?_
      refine InB_n ?_
      refine Thn_n ?_
      refine hK _ _ ?_
      clear hK K
      refine AW.region (by decide) ?_
      simp only [push_cast, simprocAttr, u64l_len, hc, hj1, c1, c2, g1, g2]
      refine Thn_n ?_
      have hwi : IntKind.i64.wrap ((j : Int) - 1) = (j : Int) - 1 := by rw [IntKind.wrap_i64]; omega
      refine ⟨j, ⟨by omega, hnx⟩, by omega, ?_⟩
      try simp only [keepL, setAll, push_cast, simprocAttr, u64l_len, hc, hj1, c1, c2, g1, g2, hwi]
      exact Weak.same (by simp only [Keeps, Tm.get_cons, Nat.reduceEqDiff, ↓reduceIte, if_true, if_false, ite_true, ite_false, true_and, and_true, and_self, reduceCtorEq, hwi]) (by first | rfl | simp only [Keeps, Tm.get_cons, Nat.reduceEqDiff, ↓reduceIte, if_true, if_false, ite_true, ite_false, true_and, and_true, and_self, reduceCtorEq, hwi])
  · have hie : i = 0 := by have := of_decide_eq_false h28; omega
    subst hie
    have hres : thirdI x n = true := hit
    refine AW.exit ?_
    refine Thn_e ?_
    clear hK K
    refine Thn_e ?_
    refine InB_here ?_
    refine Thn_n ?_
    refine hK _ _ ?_
    clear hK K
    refine AW.seq_k fun K hK => ?_
    refine AW.region (by decide) ?_
    simp only [push_cast, simprocAttr, u64l_len, hc, hres]
    refine Thn_n ?_
    refine hK _ _ ?_
    clear hK K
    refine AW.ret ?_
    refine hQ _ _ _ ?_
    first | refine RetP.drop0 (Or.inr rfl) ?_ ?_ hwf | refine RetP.drop (Or.inr rfl) ?_ ?_ hwf
    · simp only [resA, resOne, resTv, AV.tv, push_cast, simprocAttr, u64l_len, hc, hres]
    · rfl
theorem cube_c (n : Int) (m : AMem) : Ctr Try.prog 20 [.one (.int .u64 n)] m (.one (.int .u32 (cubeI n))) m := by
  refine Ctr.enter Try.func20 rfl (by decide) (rs := [.tmp 2]) (nt := 20) rfl rfl fun hwf Q hQ => ?_
  iterate 2
    refine AW.seq_k fun K hK => ?_
    refine AW.region (by decide) ?_
    simp only [push_cast, simprocAttr, w64]
    refine Thn_n ?_
    refine hK _ _ ?_
    clear hK K
  refine AW.seq_k fun K hK => ?_
  refine AW.seq_k fun K hK => ?_
  refine AW.region (by decide) ?_
  simp only [push_cast, simprocAttr, w64]
  refine Thn_n ?_
  refine hK _ _ ?_
  clear hK K
  refine AW.block ?_
  refine AW.loopK [0] (fun t => t ≤ (36 : Nat)) (fun t => [(3, .one (.int .u64 (cubeX n t))), (4, .one (.int .u64 (bitR 34359738368 t)))]) (fun t => []) (fun t => 36 - t) 0 (by omega) ?_ ?_ fun t hi5 => ?_
  · first | rfl | (simp only [Keeps, Tm.get_cons, Nat.reduceEqDiff, ↓reduceIte, if_true, if_false, ite_true, ite_false, true_and, and_true, and_self, reduceCtorEq, bitR, cubeX] <;> rfl)
  · first | rfl | (simp only [setAll, push_cast, simprocAttr, w64, bitR, cubeX] <;> rfl)
  have ht : t ≤ 36 := hi5
  try simp only [keepL, setAll, push_cast, simprocAttr, w64]
  refine AW.seq_k fun K hK => ?_
  refine AW.seq_k fun K hK => ?_
  refine AW.region (by decide) ?_
  simp only [push_cast, simprocAttr, w64]
  refine Thn_n ?_
  refine hK _ _ ?_
  clear hK K
  refine AW.cond rfl (fun h6 => ?_) (fun h6 => ?_)
  · have hlt : t < 36 := by
      have h1 := of_decide_eq_true h6
      rcases Nat.lt_or_ge t 36 with h | h
      · exact h
      · obtain rfl : t = 36 := by omega
        rw [bitC_end] at h1; exact absurd h1 (by decide)
    refine AW.skip ?_
    refine Thn_n ?_
    refine hK _ _ ?_
    clear hK K
    refine AW.seq_k fun K hK => ?_
    refine AW.block ?_
    refine AW.seq_k fun K hK => ?_
    refine AW.region (by decide) ?_
    simp only [push_cast, simprocAttr, w64]
    refine CThen.by (third_c _ _ _) ?_
    simp only [push_cast, simprocAttr, w64]
    refine Thn_n ?_
    refine hK _ _ ?_
    clear hK K
    refine AW.cond rfl (fun h13 => ?_) (fun h13 => ?_)
    · have hnx : cubeX n (t + 1) = IntKind.u64.wrap (cubeX n t + bitR 34359738368 t) := by simp only [cubeX, w64]; exact if_pos h13
      refine AW.region (by decide) ?_
      simp only [push_cast, simprocAttr, w64]
      refine InB_n ?_
      refine Thn_n ?_
      refine hK _ _ ?_
      clear hK K
      refine AW.region (by decide) ?_
      simp only [push_cast, simprocAttr, w64]
      refine Thn_n ?_
      refine ⟨t + 1, hlt, by omega, ?_⟩
      try simp only [keepL, setAll, push_cast, simprocAttr, w64, bitR, w64, hnx]
      exact Weak.same (by simp only [Keeps, Tm.get_cons, Nat.reduceEqDiff, ↓reduceIte, if_true, if_false, ite_true, ite_false, true_and, and_true, and_self, reduceCtorEq, bitR, w64, hnx]) (by first | rfl | simp only [Keeps, Tm.get_cons, Nat.reduceEqDiff, ↓reduceIte, if_true, if_false, ite_true, ite_false, true_and, and_true, and_self, reduceCtorEq, bitR, w64, hnx])
    · have hnx : cubeX n (t + 1) = cubeX n t := by simp only [cubeX, w64]; exact if_neg (by rw [h13]; decide)
      refine AW.skip ?_
      refine InB_n ?_
      refine Thn_n ?_
      refine hK _ _ ?_
      clear hK K
      refine AW.region (by decide) ?_
      simp only [push_cast, simprocAttr, w64]
      refine Thn_n ?_
      refine ⟨t + 1, hlt, by omega, ?_⟩
      try simp only [keepL, setAll, push_cast, simprocAttr, w64, bitR, w64, hnx]
      exact Weak.same (by simp only [Keeps, Tm.get_cons, Nat.reduceEqDiff, ↓reduceIte, if_true, if_false, ite_true, ite_false, true_and, and_true, and_self, reduceCtorEq, bitR, w64, hnx]) (by first | rfl | simp only [Keeps, Tm.get_cons, Nat.reduceEqDiff, ↓reduceIte, if_true, if_false, ite_true, ite_false, true_and, and_true, and_self, reduceCtorEq, bitR, w64, hnx])
  · have hte : t = 36 := by
      have h1 := of_decide_eq_false h6
      rcases Nat.lt_or_ge t 36 with h | h
      · exact absurd (bitC_pos ⟨t, h⟩) h1
      · omega
    subst hte
    refine AW.exit ?_
    refine Thn_e ?_
    clear hK K
    refine Thn_e ?_
    refine InB_here ?_
    refine Thn_n ?_
    refine hK _ _ ?_
    clear hK K
    refine AW.seq_k fun K hK => ?_
    refine AW.region (by decide) ?_
    simp only [push_cast, simprocAttr, w64]
    refine Thn_n ?_
    refine hK _ _ ?_
    clear hK K
    refine AW.ret ?_
    refine hQ _ _ _ ?_
    first | refine RetP.drop0 (Or.inr rfl) ?_ ?_ hwf | refine RetP.drop (Or.inr rfl) ?_ ?_ hwf
    · simp only [resA, resOne, resTv, AV.tv, push_cast, simprocAttr, w64, cubeI]
    · rfl
def pfl (L : List Int) (p : Int) : Nat → Bool
  | 0 => true
  | i + 1 => if p.tmod (L.getD i 0) = 0 then false else pfl L p i
def prL : Nat → List Int
  | 0 => []
  | k + 1 => if pfl (prL k) ((k : Int) + 2) (prL k).length then prL k ++ [(k : Int) + 2] else prL k
theorem prL_pos : ∀ k, ∀ x, x ∈ prL k → 2 ≤ x
  | 0, x, h => by cases h
  | k + 1, x, h => by
    simp only [prL] at h
    split at h
    · rcases List.mem_append.1 h with h | h
      · exact prL_pos k x h
      · simp at h; omega
    · exact prL_pos k x h
theorem prL_mono : ∀ (d k : Nat), (prL k).length ≤ (prL (k + d)).length
  | 0, k => Nat.le_refl _
  | d + 1, k => by
    have := prL_mono d k
    rw [show k + (d + 1) = (k + d) + 1 from rfl]
    simp only [prL]
    split
    · rw [List.length_append]; omega
    · exact this
theorem prL_309 : (prL 309).length = 63 := by decide +kernel
theorem prL_310 : (prL 310).length = 64 := by decide +kernel
theorem primes_c (m : AMem) : Ctr Try.prog 18 [.one (.int .i64 64)] m (.one (.sl m.length 0 0 64)) (m ++ [⟨.grow, 52, 0, 1, u64l (prL 310)⟩]) := by
  refine Ctr.enter Try.func18 rfl (by decide) (rs := [.tmp 2]) (nt := 32) rfl rfl fun hwf Q hQ => ?_
  iterate 2
    refine AW.seq_k fun K hK => ?_
    refine AW.region (by decide) ?_
    simp only [push_cast, simprocAttr, u64l_len]
    refine Thn_n ?_
    refine hK _ _ ?_
    clear hK K
  refine AW.seq_k fun K hK => ?_
  refine AW.seq_k fun K hK => ?_
  refine AW.nilTm 52 1 3 (by simp only [push_cast, simprocAttr]) ?_
  try simp only [push_cast, simprocAttr]
  refine AW.region (by decide) ?_
  simp only [push_cast, simprocAttr, u64l_len]
  refine Thn_n ?_
  refine hK _ _ ?_
  clear hK K
  refine AW.block ?_
  refine AW.loopK [0] (fun k => k ≤ (310 : Nat)) (fun k => [(3, .one (.sl m.length (prL k).length 0 (prL k).length)), (4, .one (.int .u64 ((k : Int) + 2)))]) (fun k => [(m.length, ⟨.grow, 52, (prL k).length, 1, u64l (prL k)⟩)]) (fun k => 310 - k) 0 (by omega) ?_ ?_ fun k hi5 => ?_
  · first | rfl | (simp only [Keeps, Tm.get_cons, Nat.reduceEqDiff, ↓reduceIte, if_true, if_false, ite_true, ite_false, true_and, and_true, and_self, reduceCtorEq, prL, u64l, List.map_nil, List.length_nil, Int.natCast_zero, Int.zero_add] <;> rfl)
  · first | rfl | (simp only [setAll, push_cast, simprocAttr, u64l_len, prL, u64l, List.map_nil, List.length_nil, Int.natCast_zero, Int.zero_add] <;> rfl)
  have hk : k ≤ 310 := hi5
  have hmon : k ≤ 309 → (prL k).length ≤ 63 := fun h => by have := prL_mono (309 - k) k; rw [show k + (309 - k) = 309 by omega, prL_309] at this; exact this
  try simp only [keepL, setAll, push_cast, simprocAttr, u64l_len]
  refine AW.seq_k fun K hK => ?_
  refine AW.seq_k fun K hK => ?_
  refine AW.region (by decide) ?_
  simp only [push_cast, simprocAttr, u64l_len]
  refine Thn_n ?_
  refine hK _ _ ?_
  clear hK K
  refine AW.cond rfl (fun h10 => ?_) (fun h10 => ?_)
  · have hlt : k < 310 := by
      have h1 := of_decide_eq_true h10
      rcases Nat.lt_or_ge k 310 with h | h
      · exact h
      · obtain rfl : k = 310 := by omega
        rw [prL_310] at h1; omega
    have h63 := hmon (by omega)
    have hwk : IntKind.u64.wrap ((k : Int) + 2 + 1) = ((k + 1 : Nat) : Int) + 2 := by rw [IntKind.wrap_u64]; omega
    simp only [push_cast, simprocAttr] at hwk
    have q1 : (prL k).length + 1 ≤ 140737488355328 := by omega
    have q2 : ((prL k).length + 1) * 8 ≤ 140737488355328 := by omega
    refine AW.skip ?_
    refine Thn_n ?_
    refine hK _ _ ?_
    clear hK K
    refine AW.seq_k fun K hK => ?_
    refine AW.block ?_
    refine AW.seq_k fun K hK => ?_
    refine AW.region (by decide) ?_
    simp only [push_cast, simprocAttr, u64l_len, q1, q2]
    refine Thn_n ?_
    refine hK _ _ ?_
    clear hK K
    refine AW.seq_k fun K hK => ?_
    refine AW.seq_k fun K hK => ?_
    refine AW.region (by decide) ?_
    simp only [push_cast, simprocAttr, u64l_len, q1, q2]
    refine Thn_n ?_
    refine hK _ _ ?_
    clear hK K
    refine AW.block ?_
    refine AW.loopK [0, 3, 4] (fun i => i ≤ (prL k).length) (fun i => [(5, .one (.bool (pfl (prL k) ((k : Int) + 2) i))), (6, .one (.int .i64 (i : Int)))]) (fun i => []) (fun i => (prL k).length - i) 0 (by omega) ?_ ?_ fun i hi12 => ?_
    · first | rfl | (simp only [Keeps, Tm.get_cons, Nat.reduceEqDiff, ↓reduceIte, if_true, if_false, ite_true, ite_false, true_and, and_true, and_self, reduceCtorEq, pfl, Int.natCast_zero] <;> rfl)
    · first | rfl | (simp only [setAll, push_cast, simprocAttr, u64l_len, q1, q2, pfl, Int.natCast_zero] <;> rfl)
    try simp only [keepL, setAll, push_cast, simprocAttr, u64l_len, q1, q2]
    refine AW.seq_k fun K hK => ?_
    refine AW.seq_k fun K hK => ?_
    refine AW.region (by decide) ?_
    simp only [push_cast, simprocAttr, u64l_len, q1, q2]
    refine Thn_n ?_
    refine hK _ _ ?_
    clear hK K
    refine AW.cond rfl (fun h16 => ?_) (fun h16 => ?_)
    · have hlti : i < (prL k).length := by have := of_decide_eq_true h16; omega
      have c1 : (0 : Int) ≤ (i : Int) := by omega
      have c2 : (i : Int) < ((prL k).length : Int) := by omega
      have g := u64l_get hlti
      have hge : 2 ≤ (prL k).getD i 0 := prL_pos k _ (by rw [List.getD_eq_getElem?_getD, List.getElem?_eq_getElem hlti]; exact List.getElem_mem hlti)
      have c3 : ¬ (prL k).getD i 0 = 0 := by omega
      refine AW.skip ?_
      refine Thn_n ?_
      refine hK _ _ ?_
      clear hK K
      refine AW.seq_k fun K hK => ?_
      refine AW.block ?_
      refine AW.seq_k fun K hK => ?_
      refine AW.region (by decide) ?_
      simp only [push_cast, simprocAttr, u64l_len, q1, q2, c1, c2, c3, g]
      refine Thn_n ?_
      refine hK _ _ ?_
      clear hK K
      refine AW.cond rfl (fun h25 => ?_) (fun h25 => ?_)
      · have hpf : pfl (prL k) ((k : Int) + 2) (i + 1) = false := by simp only [pfl]; exact if_pos (by simpa using h25)
        refine AW.region (by decide) ?_
        simp only [push_cast, simprocAttr, u64l_len, q1, q2, c1, c2, c3, g]
        refine InB_n ?_
        refine Thn_n ?_
        refine hK _ _ ?_
        clear hK K
        refine AW.region (by decide) ?_
        simp only [push_cast, simprocAttr, u64l_len, q1, q2, c1, c2, c3, g]
        refine Thn_n ?_
        have hwi : IntKind.i64.wrap ((i:Int)+1) = (i:Int)+1 := wi (by omega)
        refine ⟨i + 1, hlti, by omega, ?_⟩
        try simp only [keepL, setAll, push_cast, simprocAttr, u64l_len, q1, q2, c1, c2, c3, g, hwi, hpf]
        exact Weak.same (by simp only [Keeps, Tm.get_cons, Nat.reduceEqDiff, ↓reduceIte, if_true, if_false, ite_true, ite_false, true_and, and_true, and_self, reduceCtorEq, hwi, hpf]) (by first | rfl | simp only [Keeps, Tm.get_cons, Nat.reduceEqDiff, ↓reduceIte, if_true, if_false, ite_true, ite_false, true_and, and_true, and_self, reduceCtorEq, hwi, hpf])
      · have hpf : pfl (prL k) ((k : Int) + 2) (i + 1) = pfl (prL k) ((k : Int) + 2) i := by simp only [pfl]; exact if_neg (by simpa using h25)
        refine AW.skip ?_
        refine InB_n ?_
        refine Thn_n ?_
        refine hK _ _ ?_
        clear hK K
        refine AW.region (by decide) ?_
        simp only [push_cast, simprocAttr, u64l_len, q1, q2, c1, c2, c3, g]
        refine Thn_n ?_
        have hwi : IntKind.i64.wrap ((i:Int)+1) = (i:Int)+1 := wi (by omega)
        refine ⟨i + 1, hlti, by omega, ?_⟩
        try simp only [keepL, setAll, push_cast, simprocAttr, u64l_len, q1, q2, c1, c2, c3, g, hwi, hpf]
        exact Weak.same (by simp only [Keeps, Tm.get_cons, Nat.reduceEqDiff, ↓reduceIte, if_true, if_false, ite_true, ite_false, true_and, and_true, and_self, reduceCtorEq, hwi, hpf]) (by first | rfl | simp only [Keeps, Tm.get_cons, Nat.reduceEqDiff, ↓reduceIte, if_true, if_false, ite_true, ite_false, true_and, and_true, and_self, reduceCtorEq, hwi, hpf])
    · have hie : i = (prL k).length := by have := of_decide_eq_false h16; omega
      subst hie
      refine AW.exit ?_
      refine Thn_e ?_
      clear hK K
      refine Thn_e ?_
      refine InB_here ?_
      refine Thn_n ?_
      refine hK _ _ ?_
      clear hK K
      refine AW.seq_k fun K hK => ?_
      refine AW.region (by decide) ?_
      simp only [push_cast, simprocAttr, u64l_len, q1, q2]
      refine Thn_n ?_
      refine hK _ _ ?_
      clear hK K
      refine AW.cond rfl (fun h26 => ?_) (fun h26 => ?_)
      · have hnx : prL (k + 1) = prL k ++ [(k : Int) + 2] := by simp only [prL]; exact if_pos h26
        have hsn := u64l_snoc (prL k) ((k : Int) + 2)
        have hnl : (prL k ++ [(k : Int) + 2]).length = (prL k).length + 1 := by rw [List.length_append]; rfl
        refine AW.region (by decide) ?_
        simp only [push_cast, simprocAttr, u64l_len, q1, q2, hsn, hnl]
        refine InB_n ?_
        refine Thn_n ?_
        refine hK _ _ ?_
        clear hK K
        refine AW.region (by decide) ?_
        simp only [push_cast, simprocAttr, u64l_len, q1, q2, hsn, hnl]
        refine Thn_n ?_
        refine ⟨k + 1, hlt, by omega, ?_⟩
        try simp only [keepL, setAll, push_cast, simprocAttr, u64l_len, q1, q2, hsn, hnl, hwk, hnx]
        first
          | exact Weak.same (by simp only [Keeps, Tm.get_cons, Nat.reduceEqDiff, ↓reduceIte, if_true, if_false, ite_true, ite_false, true_and, and_true, and_self, reduceCtorEq, hwk, hnx]) (by first | rfl | simp only [Keeps, Tm.get_cons, Nat.reduceEqDiff, ↓reduceIte, if_true, if_false, ite_true, ite_false, true_and, and_true, and_self, reduceCtorEq, hwk, hnx])
          | exact Weak.to (extra := [_]) (by simp only [Keeps, Tm.get_cons, Nat.reduceEqDiff, ↓reduceIte, if_true, if_false, ite_true, ite_false, true_and, and_true, and_self, reduceCtorEq, hwk, hnx]) (by first | rfl | (simp only [List.append_assoc, List.cons_append, List.nil_append]; rfl)) (by first | rfl | (simp [AV.below, CV.below, u64l_below]; done) | (simp [AV.below, CV.below, u64l_below]; omega)) (by
              first | exact hwf | refine MWf.app (hwf.grow (by simp)) ?_
              repeat (first | exact MWf_nil | (refine MWf_cons ?_ ?_; · first | rfl | (simp [CV.below, u64l_below]; done) | (simp [CV.below, u64l_below]; omega))))
      · have hnx : prL (k + 1) = prL k := by simp only [prL]; exact if_neg (by rw [h26]; decide)
        refine AW.skip ?_
        refine InB_n ?_
        refine Thn_n ?_
        refine hK _ _ ?_
        clear hK K
        refine AW.region (by decide) ?_
        simp only [push_cast, simprocAttr, u64l_len, q1, q2]
        refine Thn_n ?_
        refine ⟨k + 1, hlt, by omega, ?_⟩
        try simp only [keepL, setAll, push_cast, simprocAttr, u64l_len, q1, q2, hwk, hnx]
        first
          | exact Weak.same (by simp only [Keeps, Tm.get_cons, Nat.reduceEqDiff, ↓reduceIte, if_true, if_false, ite_true, ite_false, true_and, and_true, and_self, reduceCtorEq, hwk, hnx]) (by first | rfl | simp only [Keeps, Tm.get_cons, Nat.reduceEqDiff, ↓reduceIte, if_true, if_false, ite_true, ite_false, true_and, and_true, and_self, reduceCtorEq, hwk, hnx])
          | exact Weak.to (extra := [_]) (by simp only [Keeps, Tm.get_cons, Nat.reduceEqDiff, ↓reduceIte, if_true, if_false, ite_true, ite_false, true_and, and_true, and_self, reduceCtorEq, hwk, hnx]) (by first | rfl | (simp only [List.append_assoc, List.cons_append, List.nil_append]; rfl)) (by first | rfl | (simp [AV.below, CV.below, u64l_below]; done) | (simp [AV.below, CV.below, u64l_below]; omega)) (by
              first | exact hwf | refine MWf.app (hwf.grow (by simp)) ?_
              repeat (first | exact MWf_nil | (refine MWf_cons ?_ ?_; · first | rfl | (simp [CV.below, u64l_below]; done) | (simp [CV.below, u64l_below]; omega))))
  · have hke : k = 310 := by
      have h1 := of_decide_eq_false h10
      rcases Nat.lt_or_ge k 310 with h | h
      · have := hmon (by omega); omega
      · omega
    subst hke
    have hl := prL_310
    refine AW.exit ?_
    refine Thn_e ?_
    clear hK K
    refine Thn_e ?_
    refine InB_here ?_
    refine Thn_n ?_
    refine hK _ _ ?_
    clear hK K
    refine AW.seq_k fun K hK => ?_
    refine AW.region (by decide) ?_
    simp only [push_cast, simprocAttr, u64l_len, hl]
    refine Thn_n ?_
    refine hK _ _ ?_
    clear hK K
    refine AW.ret ?_
    refine hQ _ _ _ ?_
    refine RetP.pick [(m.length, 64)] (Or.inr rfl) ?_ ?_ ?_ hwf ?_
    · simp only [resA, resOne, resTv, AV.tv, push_cast, simprocAttr]
      simp [renV, renT, renL, renC, renIdx]
    · simp only [picks, push_cast, simprocAttr] <;> rfl
    · simp [distinctFrom]
    · exact MWf_one (u64l_below _ _)
    
end Go.Proofs.Ytelkmimmmhkbhaa
