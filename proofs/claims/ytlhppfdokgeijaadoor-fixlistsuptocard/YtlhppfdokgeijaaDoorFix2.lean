/- Walks and facts of this seat's program over abstract states, printed by a program of mine; no conditions but those that each theorem names. -/
import Derived.Test.YtlhppfdokgeijaaDoorFix1
set_option linter.unusedSimpArgs false
set_option linter.unusedVariables false
set_option maxRecDepth 100000
set_option maxHeartbeats 4000000
namespace Go.Proofs.YtlhppfdokgeijaaDoor
open Go Go.Eng

def floorI (n d : Int) : Int := if 0 < d then n / d else (-n) / (-d)
theorem floor_pos {n d : Int} (hd : 0 < d) : n.tdiv d = (if n.tmod d ≠ 0 ∧ n < 0 then n / d + 1 else n / d) := by
  have h0 := Int.tmod_add_mul_tdiv n d
  have h1 := Int.emod_add_mul_ediv n d
  have hm := tmod_pos (n := n) hd
  have h2 := Int.emod_nonneg n (b := d) (by omega)
  have h3 := Int.emod_lt_of_pos n hd
  have key : ∀ a b : Int, d * a = d * b → a = b := fun a b h => Int.eq_of_mul_eq_mul_left (by omega) h
  split
  · rename_i hc
    refine key _ _ ?_
    rw [Int.mul_add, Int.mul_one]
    omega
  · rename_i hc
    refine key _ _ ?_
    omega
theorem floor_eq {n d : Int} (hd : d ≠ 0) : floorI n d = (if n.tmod d ≠ 0 ∧ (decide (n < 0) != decide (d < 0)) = true then n.tdiv d - 1 else n.tdiv d) := by
  unfold floorI
  rcases Classical.em (0 < d) with h | h
  · rw [if_pos h]
    have h1 := floor_pos (n := n) h
    have h2 : decide (d < 0) = false := decide_eq_false (by omega)
    rw [h2]
    rcases Classical.em (n.tmod d = 0) with h5 | h5
    · rw [if_neg (fun hc => hc.1 h5), h1, if_neg (fun hc => hc.1 h5)]
    · rcases Classical.em (n < 0) with h4 | h4
      · rw [if_pos ⟨h5, by rw [decide_eq_true h4]; rfl⟩, h1, if_pos ⟨h5, h4⟩]; omega
      · rw [if_neg (by rw [decide_eq_false h4]; exact fun hc => by cases hc.2), h1, if_neg (fun hc => h4 hc.2)]
  · rw [if_neg h]
    have h0 : 0 < -d := by omega
    have h1 := floor_pos (n := -n) h0
    have h2 : decide (d < 0) = true := decide_eq_true (by omega)
    have e1 : (-n).tdiv (-d) = n.tdiv d := by rw [Int.neg_tdiv, Int.tdiv_neg, Int.neg_neg]
    have e2 : (-n).tmod (-d) = -(n.tmod d) := by rw [Int.neg_tmod, Int.tmod_neg]
    rw [e1, e2] at h1
    rw [h2]
    rcases Classical.em (n.tmod d = 0) with h5 | h5
    · rw [if_neg (fun hc => hc.1 h5), h1, if_neg (fun hc => hc.1 (by omega))]
    · have h6 : ¬ n = 0 := fun e => by subst e; simp at h5
      rcases Classical.em (n < 0) with h4 | h4
      · rw [if_neg (by rw [decide_eq_true h4]; exact fun hc => by cases hc.2), h1, if_neg (by omega)]
      · rw [if_pos ⟨h5, by rw [decide_eq_false h4]; rfl⟩, h1, if_pos ⟨by omega, by omega⟩]; omega
theorem floor_b {n d : Int} (hd : d ≠ 0) {A : Int} (h : -A ≤ n ∧ n ≤ A) : -A ≤ floorI n d ∧ floorI n d ≤ A := by
  unfold floorI; split
  · rename_i hp; exact ediv_b hp h
  · exact ediv_b (by omega) (by omega)
theorem and_mask (x : Int) (i : Nat) (hi : i ≤ 62) : bits .and .i64 x ((2 : Int) ^ i - 1) = x % (2 : Int) ^ i := by
  have hp : (2 : Nat) ^ i ≤ 2 ^ 62 := Nat.pow_le_pow_right (by decide) hi
  have hp0 : 0 < (2 : Nat) ^ i := Nat.pos_of_ne_zero (by simp)
  have hc : ((2 : Int) ^ i) = ((2 ^ i : Nat) : Int) := by simp
  have e1 : (BitVec.ofInt 64 ((2 : Int) ^ i - 1)).toNat = 2 ^ i - 1 := by
    rw [BitVec.toNat_ofInt, hc]
    have : (((2 ^ i : Nat) : Int) - 1) % ((2 ^ 64 : Nat) : Int) = ((2 ^ i : Nat) : Int) - 1 := Int.emod_eq_of_lt (by omega) (by omega)
    rw [this]; omega
  have e0 : bits .and .i64 x ((2 : Int) ^ i - 1) = IntKind.i64.wrap (((BitVec.ofInt 64 x &&& BitVec.ofInt 64 ((2 : Int) ^ i - 1)).toNat : Nat) : Int) := rfl
  rw [e0, BitVec.toNat_and, e1, Nat.and_two_pow_sub_one_eq_mod, BitVec.toNat_ofInt]
  have h1 : (((x % ((2 ^ 64 : Nat) : Int)).toNat % 2 ^ i : Nat) : Int) = x % (2 : Int) ^ i := by
    rw [Int.natCast_emod, Int.toNat_of_nonneg (Int.emod_nonneg _ (by simp)), hc]
    refine Int.emod_emod_of_dvd _ ?_
    exact_mod_cast Nat.pow_dvd_pow 2 (show i ≤ 64 by omega)
  rw [h1]
  have h2 := Int.emod_nonneg x (b := (2 : Int) ^ i) (by omega)
  have h3 := Int.emod_lt_of_pos x (b := (2 : Int) ^ i) (by omega)
  exact wi (by omega)
theorem and_part (x : Int) : bits .and .i64 x 65535 = x % 65536 := and_mask x 16 (by decide)
theorem and_62 (x : Int) : bits .and .i64 x 4611686018427387903 = x % 4611686018427387904 := and_mask x 62 (by decide)
theorem floor_z (n d : Int) (m : AMem) (hd : d ≠ 0) (hb : -4611686018427387904 ≤ n ∧ n ≤ 4611686018427387904) (h0 : (n.tmod d != 0) = false) : Ctr Tryd.prog 40 [.one (.int .i64 n), .one (.int .i64 d)] m (.one (.int .i64 (floorI n d))) m := by
  refine Ctr.enter Tryd.func40 rfl (by decide) (rs := [.tmp 4]) (nt := 23) rfl rfl fun hwf Q hQ => ?_
  have he := floor_eq (n := n) hd
  have hfb := floor_b (n := n) hd hb
  have hw1 : IntKind.i64.wrap (floorI n d) = floorI n d := wi (by omega)
  have hw0 : IntKind.i64.wrap (n.tdiv d) = n.tdiv d := by
    refine wi ?_
    rw [he] at hfb
    split at hfb <;> omega
  have hr : floorI n d = n.tdiv d := by
    rw [if_neg (fun hc => hc.1 (by simpa using h0))] at he; exact he
  iterate 2
    refine AW.seq_k fun K hK => ?_
    refine AW.region (by decide) ?_
    simp only [push_cast, Nat.reduceAdd, Nat.reduceMul, Nat.reduceSub, Nat.reduceLeDiff, Nat.reduceLT, Nat.reduceEqDiff, Nat.reduceBEq, Nat.reduceBNe, Nat.reduceMod, Nat.reduceDiv, Int.reduceLE, Int.reduceLT, Int.reduceToNat, Int.reduceAdd, Int.reduceSub, Int.reduceMul, Int.reduceNeg, Int.reduceEq, Int.reduceBEq, Int.reduceBNe, ↓reduceIte, reduceCtorEq, String.reduceBNe, String.reduceEq, reduceDIte, Nat.reducePow, hd, hw0, h0]
    refine Thn_n ?_
    refine hK _ _ ?_
    clear hK K
  refine AW.seq_k fun K hK => ?_
  refine AW.seq_k fun K hK => ?_
  refine AW.region (by decide) ?_
  simp only [push_cast, Nat.reduceAdd, Nat.reduceMul, Nat.reduceSub, Nat.reduceLeDiff, Nat.reduceLT, Nat.reduceEqDiff, Nat.reduceBEq, Nat.reduceBNe, Nat.reduceMod, Nat.reduceDiv, Int.reduceLE, Int.reduceLT, Int.reduceToNat, Int.reduceAdd, Int.reduceSub, Int.reduceMul, Int.reduceNeg, Int.reduceEq, Int.reduceBEq, Int.reduceBNe, ↓reduceIte, reduceCtorEq, String.reduceBNe, String.reduceEq, reduceDIte, Nat.reducePow, hd, hw0, h0]
  refine Thn_n ?_
  refine hK _ _ ?_
  clear hK K
  refine AW.cond_f rfl ?_
  refine AW.skip ?_
  refine Thn_n ?_
  refine hK _ _ ?_
  clear hK K
  refine AW.seq_k fun K hK => ?_
  refine AW.region (by decide) ?_
  simp only [push_cast, Nat.reduceAdd, Nat.reduceMul, Nat.reduceSub, Nat.reduceLeDiff, Nat.reduceLT, Nat.reduceEqDiff, Nat.reduceBEq, Nat.reduceBNe, Nat.reduceMod, Nat.reduceDiv, Int.reduceLE, Int.reduceLT, Int.reduceToNat, Int.reduceAdd, Int.reduceSub, Int.reduceMul, Int.reduceNeg, Int.reduceEq, Int.reduceBEq, Int.reduceBNe, ↓reduceIte, reduceCtorEq, String.reduceBNe, String.reduceEq, reduceDIte, Nat.reducePow, hd, hw0, h0]
  refine Thn_n ?_
  refine hK _ _ ?_
  clear hK K
  refine AW.ret ?_
  refine hQ _ _ _ ?_
  first | refine RetP.drop0 (Or.inr rfl) ?_ ?_ hwf | refine RetP.drop (Or.inr rfl) ?_ ?_ hwf
  · simp only [resA, resOne, resTv, AV.tv, push_cast, Nat.reduceAdd, Nat.reduceMul, Nat.reduceSub, Nat.reduceLeDiff, Nat.reduceLT, Nat.reduceEqDiff, Nat.reduceBEq, Nat.reduceBNe, Nat.reduceMod, Nat.reduceDiv, Int.reduceLE, Int.reduceLT, Int.reduceToNat, Int.reduceAdd, Int.reduceSub, Int.reduceMul, Int.reduceNeg, Int.reduceEq, Int.reduceBEq, Int.reduceBNe, ↓reduceIte, reduceCtorEq, String.reduceBNe, String.reduceEq, reduceDIte, Nat.reducePow, hd, hw0, h0, hr]
  · rfl
theorem floor_nz (n d : Int) (m : AMem) (hd : d ≠ 0) (hb : -4611686018427387904 ≤ n ∧ n ≤ 4611686018427387904) (h0 : (n.tmod d != 0) = true) : Ctr Tryd.prog 40 [.one (.int .i64 n), .one (.int .i64 d)] m (.one (.int .i64 (floorI n d))) m := by
  refine Ctr.enter Tryd.func40 rfl (by decide) (rs := [.tmp 4]) (nt := 23) rfl rfl fun hwf Q hQ => ?_
  have he := floor_eq (n := n) hd
  have hfb := floor_b (n := n) hd hb
  have hw1 : IntKind.i64.wrap (floorI n d) = floorI n d := wi (by omega)
  have hw0 : IntKind.i64.wrap (n.tdiv d) = n.tdiv d := by
    refine wi ?_
    rw [he] at hfb
    split at hfb <;> omega
  have hnz : n.tmod d ≠ 0 := by simpa using h0
  iterate 2
    refine AW.seq_k fun K hK => ?_
    refine AW.region (by decide) ?_
    simp only [push_cast, Nat.reduceAdd, Nat.reduceMul, Nat.reduceSub, Nat.reduceLeDiff, Nat.reduceLT, Nat.reduceEqDiff, Nat.reduceBEq, Nat.reduceBNe, Nat.reduceMod, Nat.reduceDiv, Int.reduceLE, Int.reduceLT, Int.reduceToNat, Int.reduceAdd, Int.reduceSub, Int.reduceMul, Int.reduceNeg, Int.reduceEq, Int.reduceBEq, Int.reduceBNe, ↓reduceIte, reduceCtorEq, String.reduceBNe, String.reduceEq, reduceDIte, Nat.reducePow, hd, hw0, h0]
    refine Thn_n ?_
    refine hK _ _ ?_
    clear hK K
  refine AW.seq_k fun K hK => ?_
  refine AW.seq_k fun K hK => ?_
  refine AW.region (by decide) ?_
  simp only [push_cast, Nat.reduceAdd, Nat.reduceMul, Nat.reduceSub, Nat.reduceLeDiff, Nat.reduceLT, Nat.reduceEqDiff, Nat.reduceBEq, Nat.reduceBNe, Nat.reduceMod, Nat.reduceDiv, Int.reduceLE, Int.reduceLT, Int.reduceToNat, Int.reduceAdd, Int.reduceSub, Int.reduceMul, Int.reduceNeg, Int.reduceEq, Int.reduceBEq, Int.reduceBNe, ↓reduceIte, reduceCtorEq, String.reduceBNe, String.reduceEq, reduceDIte, Nat.reducePow, hd, hw0, h0]
  refine Thn_n ?_
  refine hK _ _ ?_
  clear hK K
  refine AW.cond rfl (fun h19 => ?_) (fun h19 => ?_)
  · have hr : IntKind.i64.wrap (n.tdiv d - 1) = floorI n d := by
      rw [if_pos ⟨hnz, h19⟩] at he; rw [← he]; exact hw1
    refine AW.region (by decide) ?_
    simp only [push_cast, Nat.reduceAdd, Nat.reduceMul, Nat.reduceSub, Nat.reduceLeDiff, Nat.reduceLT, Nat.reduceEqDiff, Nat.reduceBEq, Nat.reduceBNe, Nat.reduceMod, Nat.reduceDiv, Int.reduceLE, Int.reduceLT, Int.reduceToNat, Int.reduceAdd, Int.reduceSub, Int.reduceMul, Int.reduceNeg, Int.reduceEq, Int.reduceBEq, Int.reduceBNe, ↓reduceIte, reduceCtorEq, String.reduceBNe, String.reduceEq, reduceDIte, Nat.reducePow, hd, hw0, h0, hr]
    refine Thn_n ?_
    refine hK _ _ ?_
    clear hK K
    refine AW.seq_k fun K hK => ?_
    refine AW.region (by decide) ?_
    simp only [push_cast, Nat.reduceAdd, Nat.reduceMul, Nat.reduceSub, Nat.reduceLeDiff, Nat.reduceLT, Nat.reduceEqDiff, Nat.reduceBEq, Nat.reduceBNe, Nat.reduceMod, Nat.reduceDiv, Int.reduceLE, Int.reduceLT, Int.reduceToNat, Int.reduceAdd, Int.reduceSub, Int.reduceMul, Int.reduceNeg, Int.reduceEq, Int.reduceBEq, Int.reduceBNe, ↓reduceIte, reduceCtorEq, String.reduceBNe, String.reduceEq, reduceDIte, Nat.reducePow, hd, hw0, h0, hr]
    refine Thn_n ?_
    refine hK _ _ ?_
    clear hK K
    refine AW.ret ?_
    refine hQ _ _ _ ?_
    first | refine RetP.drop0 (Or.inr rfl) ?_ ?_ hwf | refine RetP.drop (Or.inr rfl) ?_ ?_ hwf
    · simp only [resA, resOne, resTv, AV.tv, push_cast, Nat.reduceAdd, Nat.reduceMul, Nat.reduceSub, Nat.reduceLeDiff, Nat.reduceLT, Nat.reduceEqDiff, Nat.reduceBEq, Nat.reduceBNe, Nat.reduceMod, Nat.reduceDiv, Int.reduceLE, Int.reduceLT, Int.reduceToNat, Int.reduceAdd, Int.reduceSub, Int.reduceMul, Int.reduceNeg, Int.reduceEq, Int.reduceBEq, Int.reduceBNe, ↓reduceIte, reduceCtorEq, String.reduceBNe, String.reduceEq, reduceDIte, Nat.reducePow, hd, hw0, h0, hr, hr]
    · rfl
  · have hr : floorI n d = n.tdiv d := by
      rw [if_neg (fun hc => by have h2 := hc.2; unfold bne at h2; rw [h19] at h2; cases h2)] at he; exact he
    refine AW.skip ?_
    refine Thn_n ?_
    refine hK _ _ ?_
    clear hK K
    refine AW.seq_k fun K hK => ?_
    refine AW.region (by decide) ?_
    simp only [push_cast, Nat.reduceAdd, Nat.reduceMul, Nat.reduceSub, Nat.reduceLeDiff, Nat.reduceLT, Nat.reduceEqDiff, Nat.reduceBEq, Nat.reduceBNe, Nat.reduceMod, Nat.reduceDiv, Int.reduceLE, Int.reduceLT, Int.reduceToNat, Int.reduceAdd, Int.reduceSub, Int.reduceMul, Int.reduceNeg, Int.reduceEq, Int.reduceBEq, Int.reduceBNe, ↓reduceIte, reduceCtorEq, String.reduceBNe, String.reduceEq, reduceDIte, Nat.reducePow, hd, hw0, h0]
    refine Thn_n ?_
    refine hK _ _ ?_
    clear hK K
    refine AW.ret ?_
    refine hQ _ _ _ ?_
    first | refine RetP.drop0 (Or.inr rfl) ?_ ?_ hwf | refine RetP.drop (Or.inr rfl) ?_ ?_ hwf
    · simp only [resA, resOne, resTv, AV.tv, push_cast, Nat.reduceAdd, Nat.reduceMul, Nat.reduceSub, Nat.reduceLeDiff, Nat.reduceLT, Nat.reduceEqDiff, Nat.reduceBEq, Nat.reduceBNe, Nat.reduceMod, Nat.reduceDiv, Int.reduceLE, Int.reduceLT, Int.reduceToNat, Int.reduceAdd, Int.reduceSub, Int.reduceMul, Int.reduceNeg, Int.reduceEq, Int.reduceBEq, Int.reduceBNe, ↓reduceIte, reduceCtorEq, String.reduceBNe, String.reduceEq, reduceDIte, Nat.reducePow, hd, hw0, h0, hr]
    · rfl
theorem floor_c (n d : Int) (m : AMem) (hd : d ≠ 0) (hb : -4611686018427387904 ≤ n ∧ n ≤ 4611686018427387904) : Ctr Tryd.prog 40 [.one (.int .i64 n), .one (.int .i64 d)] m (.one (.int .i64 (floorI n d))) m := by
  cases h0 : (n.tmod d != 0)
  · exact floor_z n d m hd hb h0
  · exact floor_nz n d m hd hb h0
end Go.Proofs.YtlhppfdokgeijaaDoor
