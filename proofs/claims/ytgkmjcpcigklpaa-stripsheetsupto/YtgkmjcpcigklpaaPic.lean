/- Walks and facts of this seat's program over abstract states, printed by a program of mine; no conditions but those that each theorem names. -/
import Derived.Test.YtgkmjcpcigklpaaFc
import Derived.Test.YtgkmjcpcigklpaaEngP
set_option linter.unusedSimpArgs false
set_option linter.unusedVariables false
set_option maxRecDepth 100000
set_option maxHeartbeats 4000000
namespace Go.Proofs.Ytgkmjcpcigklpaa
open Go Go.Eng

theorem i64n {n : Nat} (h : n ≤ 9000000000000) : IntKind.i64.wrap (n : Int) = (n : Int) := by rw [IntKind.wrap_i64]; omega
/-- The cells of so many dots. -/
def dl : Nat → (Nat → Nat → Int) → List CV
  | 0, _ => []
  | n + 1, G => dl n G ++ [.int .u8 (G n 0), .int .u8 (G n 1), .int .u8 (G n 2)]
theorem dl_len : ∀ (n : Nat) (G : Nat → Nat → Int), (dl n G).length = n * 3
  | 0, _ => rfl
  | n + 1, G => by simp only [dl, List.length_append, dl_len n G, List.length_cons, List.length_nil]; omega
theorem dl_get : ∀ {n : Nat} {G : Nat → Nat → Int} {i k : Nat}, i < n → k < 3 → (dl n G)[i * 3 + k]? = some (.int .u8 (G i k))
  | n + 1, G, i, k, hi, hk => by
    simp only [dl]
    rcases Nat.lt_or_ge i n with h | h
    · rw [List.getElem?_append_left (by rw [dl_len]; omega)]; exact dl_get h hk
    · have e : i = n := by omega
      subst e
      rw [List.getElem?_append_right (by rw [dl_len]; omega), dl_len, show i * 3 + k - i * 3 = k by omega]
      match k, hk with
      | 0, _ => rfl
      | 1, _ => rfl
      | 2, _ => rfl
theorem dl_get0 {n : Nat} {G : Nat → Nat → Int} {i : Nat} (hi : i < n) : (dl n G)[i * 3]? = some (.int .u8 (G i 0)) := dl_get (k := 0) hi (by omega)
theorem dl_get1 {n : Nat} {G : Nat → Nat → Int} {i : Nat} (hi : i < n) : (dl n G)[i * 3 + 1]? = some (.int .u8 (G i 1)) := dl_get hi (by omega)
theorem dl_get2 {n : Nat} {G : Nat → Nat → Int} {i : Nat} (hi : i < n) : (dl n G)[i * 3 + 2]? = some (.int .u8 (G i 2)) := dl_get hi (by omega)
theorem dl_vals : ∀ (n : Nat) (G : Nat → Nat → Int), (dl n G).all CV.isVal = true
  | 0, _ => rfl
  | n + 1, G => by simp only [dl, List.all_append, dl_vals n G, List.all_cons, List.all_nil, CV.isVal]; rfl
theorem dl_below : ∀ (L n : Nat) (G : Nat → Nat → Int), (dl n G).all (CV.below L) = true
  | _, 0, _ => rfl
  | L, n + 1, G => by simp only [dl, List.all_append, dl_below L n G, List.all_cons, List.all_nil, CV.below]; rfl
theorem dl_congr : ∀ {n : Nat} {G H : Nat → Nat → Int}, (∀ i k, i < n → k < 3 → G i k = H i k) → dl n G = dl n H
  | 0, _, _, _ => rfl
  | n + 1, G, H, h => by simp only [dl]; rw [dl_congr fun i k hi hk => h i k (by omega) hk, h n 0 (by omega) (by omega), h n 1 (by omega) (by omega), h n 2 (by omega) (by omega)]
theorem ext_get {α : Type} {a b : List α} (h : ∀ i : Nat, a[i]? = b[i]?) : a = b := List.ext_getElem? h
theorem dl_of {cells : List CV} {n : Nat} {G : Nat → Nat → Int} (hl : cells.length = n * 3) (h : ∀ i k, i < n → k < 3 → cells[i * 3 + k]? = some (.int .u8 (G i k))) : cells = dl n G := by
  refine ext_get fun j => ?_
  rcases Nat.lt_or_ge j (n * 3) with hj | hj
  · have e : j = j / 3 * 3 + j % 3 := by omega
    rw [e, h (j / 3) (j % 3) (by omega) (by omega), dl_get (by omega) (by omega)]
  · rw [List.getElem?_eq_none (by omega), List.getElem?_eq_none (by rw [dl_len]; omega)]
def updD (G : Nat → Nat → Int) (j : Nat) (a b c : Int) : Nat → Nat → Int := fun i k => if i = j then (if k = 0 then a else if k = 1 then b else c) else G i k
theorem dl_set {n : Nat} {G : Nat → Nat → Int} {j : Nat} {a b c : Int} (hj : j < n) : setL (dl n G) (j * 3) [.int .u8 a, .int .u8 b, .int .u8 c] = dl n (updD G j a b c) := by
  have hl : (setL (dl n G) (j * 3) [.int .u8 a, .int .u8 b, .int .u8 c]).length = n * 3 := by rw [setL_length, dl_len]
  refine dl_of hl fun i k hi hk => ?_
  simp only [setL]
  rw [List.getElem?_set, List.getElem?_set, List.getElem?_set]
  simp only [List.length_set, dl_len, updD]
  have hg := dl_get (G := G) hi hk
  by_cases e : i = j
  · subst e
    match k, hk with
    | 0, _ => rw [if_neg (by omega), if_neg (by omega), if_pos (by omega), if_pos (by omega), if_pos rfl, if_pos rfl]
    | 1, _ => rw [if_neg (by omega), if_pos (by omega), if_pos (by omega), if_pos rfl, if_neg (by omega), if_pos rfl]
    | 2, _ => rw [if_pos (by omega), if_pos (by omega), if_pos rfl, if_neg (by omega), if_neg (by omega)]
  · rw [if_neg (by omega), if_neg (by omega), if_neg (by omega), if_neg e]; exact hg
/-- May a size be? -/
def szR (W H : Int) : Bool := decide (1 ≤ W) && decide (W ≤ 64) && decide (1 ≤ H) && decide (H ≤ 64)
theorem szR_iff {W H : Int} : szR W H = true ↔ 1 ≤ W ∧ W ≤ 64 ∧ 1 ≤ H ∧ H ≤ 64 := by simp only [szR, Bool.and_eq_true, decide_eq_true_eq, and_assoc]
/-- May a picture be? -/
def picR (W H : Int) (n : Nat) : Bool := szR W H && ((n : Int) == IntKind.i64.wrap (W * H))
theorem szR_nat {W H : Int} (h : szR W H = true) : ∃ w h : Nat, W = (w : Int) ∧ H = (h : Int) ∧ 1 ≤ w ∧ w ≤ 64 ∧ 1 ≤ h ∧ h ≤ 64 := by
  obtain ⟨h1, h2, h3, h4⟩ := szR_iff.1 h
  exact ⟨W.toNat, H.toNat, by omega, by omega, by omega, by omega, by omega, by omega⟩
theorem wh_le {w h : Nat} (h1 : w ≤ 64) (h2 : h ≤ 64) : w * h ≤ 4096 := Nat.le_trans (Nat.mul_le_mul h1 h2) (by omega)
theorem picR_nat {W H : Int} {n : Nat} (h : picR W H n = true) : ∃ w h : Nat, W = (w : Int) ∧ H = (h : Int) ∧ 1 ≤ w ∧ w ≤ 64 ∧ 1 ≤ h ∧ h ≤ 64 ∧ n = w * h ∧ szR W H = true := by
  simp only [picR, Bool.and_eq_true, beq_iff_eq] at h
  obtain ⟨w, h', rfl, rfl, h1, h2, h3, h4⟩ := szR_nat h.1
  refine ⟨w, h', rfl, rfl, h1, h2, h3, h4, ?_, h.1⟩
  have := wh_le h2 h4
  rw [← Int.natCast_mul, i64n (by omega)] at h
  omega

theorem sizeRight_c (W H : Int) (m : AMem) : Ctr Try.prog 44 [.agg [.int .i64 W, .int .i64 H]] m (.one (.bool (szR W H))) m := by
  refine Ctr.enter Try.func44 rfl (by decide) (rs := [.tmp 2]) (nt := 21) rfl rfl fun hwf Q hQ => ?_
  rcases chain4 (1 ≤ W) (W ≤ 64) (1 ≤ H) (H ≤ 64) with ⟨h1, h2, h3, h4⟩ | ⟨h1, h2, h3, h4⟩ | ⟨h1, h2, h3, h4⟩ | ⟨h1, h2, h3, h4⟩ | ⟨h1, h2, h3, h4⟩ <;>
  (
  iterate 2
    refine AW.seq_k fun K hK => ?_
    refine AW.region (by decide) ?_
    simp only [push_cast, Nat.reduceAdd, Nat.reduceMul, Nat.reduceSub, Nat.reduceLeDiff, Nat.reduceLT, Nat.reduceEqDiff, Nat.reduceBEq, Nat.reduceBNe, Nat.reduceMod, Nat.reduceDiv, Int.reduceLE, Int.reduceLT, Int.reduceToNat, Int.reduceAdd, Int.reduceSub, Int.reduceMul, Int.reduceNeg, Int.reduceEq, Int.reduceBEq, Int.reduceBNe, ↓reduceIte, reduceCtorEq, String.reduceBNe, String.reduceEq, reduceDIte, Nat.reducePow, h1, h2, h3, h4]
    refine Thn_n ?_
    refine hK _ _ ?_
    clear hK K
  refine AW.ret ?_
  refine hQ _ _ _ ?_
  first | refine RetP.drop0 (Or.inr rfl) ?_ ?_ hwf | refine RetP.drop (Or.inr rfl) ?_ ?_ hwf
  · simp only [resA, resOne, resTv, AV.tv, push_cast, Nat.reduceAdd, Nat.reduceMul, Nat.reduceSub, Nat.reduceLeDiff, Nat.reduceLT, Nat.reduceEqDiff, Nat.reduceBEq, Nat.reduceBNe, Nat.reduceMod, Nat.reduceDiv, Int.reduceLE, Int.reduceLT, Int.reduceToNat, Int.reduceAdd, Int.reduceSub, Int.reduceMul, Int.reduceNeg, Int.reduceEq, Int.reduceBEq, Int.reduceBNe, ↓reduceIte, reduceCtorEq, String.reduceBNe, String.reduceEq, reduceDIte, Nat.reducePow, h1, h2, h3, h4, szR]
  · rfl
  )
theorem rightSize_c (W H : Int) (m : AMem) : Ctr Try.prog 19 [.one (.int .i64 W), .one (.int .i64 H)] m (.one (.bool (szR W H))) m := by
  refine Ctr.enter Try.func19 rfl (by decide) (rs := [.tmp 4]) (nt := 19) rfl rfl fun hwf Q hQ => ?_
  rcases chain4 (1 ≤ W) (W ≤ 64) (1 ≤ H) (H ≤ 64) with ⟨h1, h2, h3, h4⟩ | ⟨h1, h2, h3, h4⟩ | ⟨h1, h2, h3, h4⟩ | ⟨h1, h2, h3, h4⟩ | ⟨h1, h2, h3, h4⟩ <;>
  (
  iterate 2
    refine AW.seq_k fun K hK => ?_
    refine AW.region (by decide) ?_
    simp only [push_cast, Nat.reduceAdd, Nat.reduceMul, Nat.reduceSub, Nat.reduceLeDiff, Nat.reduceLT, Nat.reduceEqDiff, Nat.reduceBEq, Nat.reduceBNe, Nat.reduceMod, Nat.reduceDiv, Int.reduceLE, Int.reduceLT, Int.reduceToNat, Int.reduceAdd, Int.reduceSub, Int.reduceMul, Int.reduceNeg, Int.reduceEq, Int.reduceBEq, Int.reduceBNe, ↓reduceIte, reduceCtorEq, String.reduceBNe, String.reduceEq, reduceDIte, Nat.reducePow, h1, h2, h3, h4]
    refine Thn_n ?_
    refine hK _ _ ?_
    clear hK K
  refine AW.ret ?_
  refine hQ _ _ _ ?_
  first | refine RetP.drop0 (Or.inr rfl) ?_ ?_ hwf | refine RetP.drop (Or.inr rfl) ?_ ?_ hwf
  · simp only [resA, resOne, resTv, AV.tv, push_cast, Nat.reduceAdd, Nat.reduceMul, Nat.reduceSub, Nat.reduceLeDiff, Nat.reduceLT, Nat.reduceEqDiff, Nat.reduceBEq, Nat.reduceBNe, Nat.reduceMod, Nat.reduceDiv, Int.reduceLE, Int.reduceLT, Int.reduceToNat, Int.reduceAdd, Int.reduceSub, Int.reduceMul, Int.reduceNeg, Int.reduceEq, Int.reduceBEq, Int.reduceBNe, ↓reduceIte, reduceCtorEq, String.reduceBNe, String.reduceEq, reduceDIte, Nat.reducePow, h1, h2, h3, h4, szR]
  · rfl
  )
theorem pixels_c (W H : Int) (m : AMem) : Ctr Try.prog 47 [.agg [.int .i64 W, .int .i64 H]] m (.one (.int .i64 (IntKind.i64.wrap (W * H)))) m := by
  refine Ctr.enter Try.func47 rfl (by decide) (rs := [.tmp 2]) (nt := 8) rfl rfl fun hwf Q hQ => ?_
  iterate 2
    refine AW.seq_k fun K hK => ?_
    refine AW.region (by decide) ?_
    simp only [push_cast, Nat.reduceAdd, Nat.reduceMul, Nat.reduceSub, Nat.reduceLeDiff, Nat.reduceLT, Nat.reduceEqDiff, Nat.reduceBEq, Nat.reduceBNe, Nat.reduceMod, Nat.reduceDiv, Int.reduceLE, Int.reduceLT, Int.reduceToNat, Int.reduceAdd, Int.reduceSub, Int.reduceMul, Int.reduceNeg, Int.reduceEq, Int.reduceBEq, Int.reduceBNe, ↓reduceIte, reduceCtorEq, String.reduceBNe, String.reduceEq, reduceDIte, Nat.reducePow]
    refine Thn_n ?_
    refine hK _ _ ?_
    clear hK K
  refine AW.ret ?_
  refine hQ _ _ _ ?_
  first | refine RetP.drop0 (Or.inr rfl) ?_ ?_ hwf | refine RetP.drop (Or.inr rfl) ?_ ?_ hwf
  · simp only [resA, resOne, resTv, AV.tv, push_cast, Nat.reduceAdd, Nat.reduceMul, Nat.reduceSub, Nat.reduceLeDiff, Nat.reduceLT, Nat.reduceEqDiff, Nat.reduceBEq, Nat.reduceBNe, Nat.reduceMod, Nat.reduceDiv, Int.reduceLE, Int.reduceLT, Int.reduceToNat, Int.reduceAdd, Int.reduceSub, Int.reduceMul, Int.reduceNeg, Int.reduceEq, Int.reduceBEq, Int.reduceBNe, ↓reduceIte, reduceCtorEq, String.reduceBNe, String.reduceEq, reduceDIte, Nat.reducePow]
  · rfl
theorem picRight_true (W H : Int) (r v n : Nat) (m : AMem) (hz : szR W H = true) : Ctr Try.prog 37 [.agg [.int .i64 W, .int .i64 H, .sl r v 0 n]] m (.one (.bool (picR W H n))) m := by
  refine Ctr.enter Try.func37 rfl (by decide) (rs := [.tmp 2]) (nt := 15) rfl rfl fun hwf Q hQ => ?_
  refine AW.seq_k fun K hK => ?_
  refine AW.region (by decide) ?_
  simp only [push_cast, Nat.reduceAdd, Nat.reduceMul, Nat.reduceSub, Nat.reduceLeDiff, Nat.reduceLT, Nat.reduceEqDiff, Nat.reduceBEq, Nat.reduceBNe, Nat.reduceMod, Nat.reduceDiv, Int.reduceLE, Int.reduceLT, Int.reduceToNat, Int.reduceAdd, Int.reduceSub, Int.reduceMul, Int.reduceNeg, Int.reduceEq, Int.reduceBEq, Int.reduceBNe, ↓reduceIte, reduceCtorEq, String.reduceBNe, String.reduceEq, reduceDIte, Nat.reducePow, hz]
  refine Thn_n ?_
  refine hK _ _ ?_
  clear hK K
  refine AW.seq_k fun K hK => ?_
  refine AW.draw [.val, .rd 0, .ext, .val, .val, .rd 1, .val, .val, .rd 1, .ext, .val, .val, .val] fol (by decide) (by kernel_rfl) ?_
  simp only [push_cast, Nat.reduceAdd, Nat.reduceMul, Nat.reduceSub, Nat.reduceLeDiff, Nat.reduceLT, Nat.reduceEqDiff, Nat.reduceBEq, Nat.reduceBNe, Nat.reduceMod, Nat.reduceDiv, Int.reduceLE, Int.reduceLT, Int.reduceToNat, Int.reduceAdd, Int.reduceSub, Int.reduceMul, Int.reduceNeg, Int.reduceEq, Int.reduceBEq, Int.reduceBNe, ↓reduceIte, reduceCtorEq, String.reduceBNe, String.reduceEq, reduceDIte, Nat.reducePow, hz]
  refine DCall.by0 (sizeRight_c _ _ _) ?_
  simp only [push_cast, Nat.reduceAdd, Nat.reduceMul, Nat.reduceSub, Nat.reduceLeDiff, Nat.reduceLT, Nat.reduceEqDiff, Nat.reduceBEq, Nat.reduceBNe, Nat.reduceMod, Nat.reduceDiv, Int.reduceLE, Int.reduceLT, Int.reduceToNat, Int.reduceAdd, Int.reduceSub, Int.reduceMul, Int.reduceNeg, Int.reduceEq, Int.reduceBEq, Int.reduceBNe, ↓reduceIte, reduceCtorEq, String.reduceBNe, String.reduceEq, reduceDIte, Nat.reducePow, hz]
  refine DCall.by0 (pixels_c _ _ _) ?_
  simp only [push_cast, Nat.reduceAdd, Nat.reduceMul, Nat.reduceSub, Nat.reduceLeDiff, Nat.reduceLT, Nat.reduceEqDiff, Nat.reduceBEq, Nat.reduceBNe, Nat.reduceMod, Nat.reduceDiv, Int.reduceLE, Int.reduceLT, Int.reduceToNat, Int.reduceAdd, Int.reduceSub, Int.reduceMul, Int.reduceNeg, Int.reduceEq, Int.reduceBEq, Int.reduceBNe, ↓reduceIte, reduceCtorEq, String.reduceBNe, String.reduceEq, reduceDIte, Nat.reducePow, hz]
  refine Thn_n ?_
  refine hK _ _ ?_
  clear hK K
  refine AW.ret ?_
  refine hQ _ _ _ ?_
  first | refine RetP.drop0 (Or.inr rfl) ?_ ?_ hwf | refine RetP.drop (Or.inr rfl) ?_ ?_ hwf
  · simp only [resA, resOne, resTv, AV.tv, push_cast, Nat.reduceAdd, Nat.reduceMul, Nat.reduceSub, Nat.reduceLeDiff, Nat.reduceLT, Nat.reduceEqDiff, Nat.reduceBEq, Nat.reduceBNe, Nat.reduceMod, Nat.reduceDiv, Int.reduceLE, Int.reduceLT, Int.reduceToNat, Int.reduceAdd, Int.reduceSub, Int.reduceMul, Int.reduceNeg, Int.reduceEq, Int.reduceBEq, Int.reduceBNe, ↓reduceIte, reduceCtorEq, String.reduceBNe, String.reduceEq, reduceDIte, Nat.reducePow, hz, picR]
  · rfl
theorem picRight_false (W H : Int) (r v n : Nat) (m : AMem) (hz : szR W H = false) : Ctr Try.prog 37 [.agg [.int .i64 W, .int .i64 H, .sl r v 0 n]] m (.one (.bool (picR W H n))) m := by
  refine Ctr.enter Try.func37 rfl (by decide) (rs := [.tmp 2]) (nt := 15) rfl rfl fun hwf Q hQ => ?_
  refine AW.seq_k fun K hK => ?_
  refine AW.region (by decide) ?_
  simp only [push_cast, Nat.reduceAdd, Nat.reduceMul, Nat.reduceSub, Nat.reduceLeDiff, Nat.reduceLT, Nat.reduceEqDiff, Nat.reduceBEq, Nat.reduceBNe, Nat.reduceMod, Nat.reduceDiv, Int.reduceLE, Int.reduceLT, Int.reduceToNat, Int.reduceAdd, Int.reduceSub, Int.reduceMul, Int.reduceNeg, Int.reduceEq, Int.reduceBEq, Int.reduceBNe, ↓reduceIte, reduceCtorEq, String.reduceBNe, String.reduceEq, reduceDIte, Nat.reducePow, hz]
  refine Thn_n ?_
  refine hK _ _ ?_
  clear hK K
  refine AW.seq_k fun K hK => ?_
  refine AW.draw [.val, .rd 0, .ext, .val, .val, .rd 1, .val, .val, .rd 1, .ext, .val, .val, .val] fol (by decide) (by kernel_rfl) ?_
  simp only [push_cast, Nat.reduceAdd, Nat.reduceMul, Nat.reduceSub, Nat.reduceLeDiff, Nat.reduceLT, Nat.reduceEqDiff, Nat.reduceBEq, Nat.reduceBNe, Nat.reduceMod, Nat.reduceDiv, Int.reduceLE, Int.reduceLT, Int.reduceToNat, Int.reduceAdd, Int.reduceSub, Int.reduceMul, Int.reduceNeg, Int.reduceEq, Int.reduceBEq, Int.reduceBNe, ↓reduceIte, reduceCtorEq, String.reduceBNe, String.reduceEq, reduceDIte, Nat.reducePow, hz]
  refine DCall.by0 (sizeRight_c _ _ _) ?_
  simp only [push_cast, Nat.reduceAdd, Nat.reduceMul, Nat.reduceSub, Nat.reduceLeDiff, Nat.reduceLT, Nat.reduceEqDiff, Nat.reduceBEq, Nat.reduceBNe, Nat.reduceMod, Nat.reduceDiv, Int.reduceLE, Int.reduceLT, Int.reduceToNat, Int.reduceAdd, Int.reduceSub, Int.reduceMul, Int.reduceNeg, Int.reduceEq, Int.reduceBEq, Int.reduceBNe, ↓reduceIte, reduceCtorEq, String.reduceBNe, String.reduceEq, reduceDIte, Nat.reducePow, hz]
  refine Thn_n ?_
  refine hK _ _ ?_
  clear hK K
  refine AW.ret ?_
  refine hQ _ _ _ ?_
  first | refine RetP.drop0 (Or.inr rfl) ?_ ?_ hwf | refine RetP.drop (Or.inr rfl) ?_ ?_ hwf
  · simp only [resA, resOne, resTv, AV.tv, push_cast, Nat.reduceAdd, Nat.reduceMul, Nat.reduceSub, Nat.reduceLeDiff, Nat.reduceLT, Nat.reduceEqDiff, Nat.reduceBEq, Nat.reduceBNe, Nat.reduceMod, Nat.reduceDiv, Int.reduceLE, Int.reduceLT, Int.reduceToNat, Int.reduceAdd, Int.reduceSub, Int.reduceMul, Int.reduceNeg, Int.reduceEq, Int.reduceBEq, Int.reduceBNe, ↓reduceIte, reduceCtorEq, String.reduceBNe, String.reduceEq, reduceDIte, Nat.reducePow, hz, picR]
  · rfl
theorem picRight_c (W H : Int) (r v n : Nat) (m : AMem) : Ctr Try.prog 37 [.agg [.int .i64 W, .int .i64 H, .sl r v 0 n]] m (.one (.bool (picR W H n))) m := by
  cases hz : szR W H
  · exact picRight_false W H r v n m hz
  · exact picRight_true W H r v n m hz
theorem refRight_true (W H : Int) (r v n : Nat) (m : AMem) (hz : szR W H = true) : Ctr Try.prog 25 [.agg [.int .i64 W, .int .i64 H, .sl r v 0 n]] m (.one (.bool (picR W H n))) m := by
  refine Ctr.enter Try.func25 rfl (by decide) (rs := [.tmp 2]) (nt := 19) rfl rfl fun hwf Q hQ => ?_
  refine AW.seq_k fun K hK => ?_
  refine AW.region (by decide) ?_
  simp only [push_cast, Nat.reduceAdd, Nat.reduceMul, Nat.reduceSub, Nat.reduceLeDiff, Nat.reduceLT, Nat.reduceEqDiff, Nat.reduceBEq, Nat.reduceBNe, Nat.reduceMod, Nat.reduceDiv, Int.reduceLE, Int.reduceLT, Int.reduceToNat, Int.reduceAdd, Int.reduceSub, Int.reduceMul, Int.reduceNeg, Int.reduceEq, Int.reduceBEq, Int.reduceBNe, ↓reduceIte, reduceCtorEq, String.reduceBNe, String.reduceEq, reduceDIte, Nat.reducePow, hz]
  refine Thn_n ?_
  refine hK _ _ ?_
  clear hK K
  refine AW.seq_k fun K hK => ?_
  refine AW.region (by decide) ?_
  simp only [push_cast, Nat.reduceAdd, Nat.reduceMul, Nat.reduceSub, Nat.reduceLeDiff, Nat.reduceLT, Nat.reduceEqDiff, Nat.reduceBEq, Nat.reduceBNe, Nat.reduceMod, Nat.reduceDiv, Int.reduceLE, Int.reduceLT, Int.reduceToNat, Int.reduceAdd, Int.reduceSub, Int.reduceMul, Int.reduceNeg, Int.reduceEq, Int.reduceBEq, Int.reduceBNe, ↓reduceIte, reduceCtorEq, String.reduceBNe, String.reduceEq, reduceDIte, Nat.reducePow, hz]
  refine CThen.by (rightSize_c _ _ _) ?_
  simp only [push_cast, Nat.reduceAdd, Nat.reduceMul, Nat.reduceSub, Nat.reduceLeDiff, Nat.reduceLT, Nat.reduceEqDiff, Nat.reduceBEq, Nat.reduceBNe, Nat.reduceMod, Nat.reduceDiv, Int.reduceLE, Int.reduceLT, Int.reduceToNat, Int.reduceAdd, Int.reduceSub, Int.reduceMul, Int.reduceNeg, Int.reduceEq, Int.reduceBEq, Int.reduceBNe, ↓reduceIte, reduceCtorEq, String.reduceBNe, String.reduceEq, reduceDIte, Nat.reducePow, hz]
  refine Thn_n ?_
  refine hK _ _ ?_
  clear hK K
  refine AW.ret ?_
  refine hQ _ _ _ ?_
  first | refine RetP.drop0 (Or.inr rfl) ?_ ?_ hwf | refine RetP.drop (Or.inr rfl) ?_ ?_ hwf
  · simp only [resA, resOne, resTv, AV.tv, push_cast, Nat.reduceAdd, Nat.reduceMul, Nat.reduceSub, Nat.reduceLeDiff, Nat.reduceLT, Nat.reduceEqDiff, Nat.reduceBEq, Nat.reduceBNe, Nat.reduceMod, Nat.reduceDiv, Int.reduceLE, Int.reduceLT, Int.reduceToNat, Int.reduceAdd, Int.reduceSub, Int.reduceMul, Int.reduceNeg, Int.reduceEq, Int.reduceBEq, Int.reduceBNe, ↓reduceIte, reduceCtorEq, String.reduceBNe, String.reduceEq, reduceDIte, Nat.reducePow, hz, picR]
  · rfl
theorem refRight_false (W H : Int) (r v n : Nat) (m : AMem) (hz : szR W H = false) : Ctr Try.prog 25 [.agg [.int .i64 W, .int .i64 H, .sl r v 0 n]] m (.one (.bool (picR W H n))) m := by
  refine Ctr.enter Try.func25 rfl (by decide) (rs := [.tmp 2]) (nt := 19) rfl rfl fun hwf Q hQ => ?_
  refine AW.seq_k fun K hK => ?_
  refine AW.region (by decide) ?_
  simp only [push_cast, Nat.reduceAdd, Nat.reduceMul, Nat.reduceSub, Nat.reduceLeDiff, Nat.reduceLT, Nat.reduceEqDiff, Nat.reduceBEq, Nat.reduceBNe, Nat.reduceMod, Nat.reduceDiv, Int.reduceLE, Int.reduceLT, Int.reduceToNat, Int.reduceAdd, Int.reduceSub, Int.reduceMul, Int.reduceNeg, Int.reduceEq, Int.reduceBEq, Int.reduceBNe, ↓reduceIte, reduceCtorEq, String.reduceBNe, String.reduceEq, reduceDIte, Nat.reducePow, hz]
  refine Thn_n ?_
  refine hK _ _ ?_
  clear hK K
  refine AW.seq_k fun K hK => ?_
  refine AW.region (by decide) ?_
  simp only [push_cast, Nat.reduceAdd, Nat.reduceMul, Nat.reduceSub, Nat.reduceLeDiff, Nat.reduceLT, Nat.reduceEqDiff, Nat.reduceBEq, Nat.reduceBNe, Nat.reduceMod, Nat.reduceDiv, Int.reduceLE, Int.reduceLT, Int.reduceToNat, Int.reduceAdd, Int.reduceSub, Int.reduceMul, Int.reduceNeg, Int.reduceEq, Int.reduceBEq, Int.reduceBNe, ↓reduceIte, reduceCtorEq, String.reduceBNe, String.reduceEq, reduceDIte, Nat.reducePow, hz]
  refine CThen.by (rightSize_c _ _ _) ?_
  simp only [push_cast, Nat.reduceAdd, Nat.reduceMul, Nat.reduceSub, Nat.reduceLeDiff, Nat.reduceLT, Nat.reduceEqDiff, Nat.reduceBEq, Nat.reduceBNe, Nat.reduceMod, Nat.reduceDiv, Int.reduceLE, Int.reduceLT, Int.reduceToNat, Int.reduceAdd, Int.reduceSub, Int.reduceMul, Int.reduceNeg, Int.reduceEq, Int.reduceBEq, Int.reduceBNe, ↓reduceIte, reduceCtorEq, String.reduceBNe, String.reduceEq, reduceDIte, Nat.reducePow, hz]
  refine Thn_n ?_
  refine hK _ _ ?_
  clear hK K
  refine AW.ret ?_
  refine hQ _ _ _ ?_
  first | refine RetP.drop0 (Or.inr rfl) ?_ ?_ hwf | refine RetP.drop (Or.inr rfl) ?_ ?_ hwf
  · simp only [resA, resOne, resTv, AV.tv, push_cast, Nat.reduceAdd, Nat.reduceMul, Nat.reduceSub, Nat.reduceLeDiff, Nat.reduceLT, Nat.reduceEqDiff, Nat.reduceBEq, Nat.reduceBNe, Nat.reduceMod, Nat.reduceDiv, Int.reduceLE, Int.reduceLT, Int.reduceToNat, Int.reduceAdd, Int.reduceSub, Int.reduceMul, Int.reduceNeg, Int.reduceEq, Int.reduceBEq, Int.reduceBNe, ↓reduceIte, reduceCtorEq, String.reduceBNe, String.reduceEq, reduceDIte, Nat.reducePow, hz, picR]
  · rfl
theorem refRight_c (W H : Int) (r v n : Nat) (m : AMem) : Ctr Try.prog 25 [.agg [.int .i64 W, .int .i64 H, .sl r v 0 n]] m (.one (.bool (picR W H n))) m := by
  cases hz : szR W H
  · exact refRight_false W H r v n m hz
  · exact refRight_true W H r v n m hz
theorem To_c (W H : Int) (r v n : Nat) (m : AMem) (k : BK) (ez : Nat) (cells : List CV) (hb : m[r]? = some ⟨k, 22, v, ez, cells⟩) (hl : cells.length = n * 3) (hn : n ≤ 1048576) (hall : cells.all CV.isVal = true) (hfl : cells.all (CV.below 0) = true) : Ctr Try.prog 10 [.agg [.int .i64 W, .int .i64 H, .sl r v 0 n]] m (.agg [.int .i64 W, .int .i64 H, .sl m.length 0 0 n]) (m ++ [⟨.grow, 22, 0, 3, cells⟩]) := by
  refine Ctr.enter Try.func10 rfl (by decide) (rs := [.cell 2 33]) (nt := 13) rfl rfl fun hwf Q hQ => ?_
  have h1 : n ≤ 140737488355328 := by omega
  have h2 : n * 3 ≤ 140737488355328 := by omega
  have h3 : cells.take (n * 3) = cells := List.take_of_length_le (by omega)
  have h4 : n * 3 ≤ cells.length := by omega
  have hlt : ∀ k, ¬ m.length + k < m.length := fun k => by omega
  refine AW.seq_k fun K hK => ?_
  refine AW.region (by decide) ?_
  simp only [push_cast, Nat.reduceAdd, Nat.reduceMul, Nat.reduceSub, Nat.reduceLeDiff, Nat.reduceLT, Nat.reduceEqDiff, Nat.reduceBEq, Nat.reduceBNe, Nat.reduceMod, Nat.reduceDiv, Int.reduceLE, Int.reduceLT, Int.reduceToNat, Int.reduceAdd, Int.reduceSub, Int.reduceMul, Int.reduceNeg, Int.reduceEq, Int.reduceBEq, Int.reduceBNe, ↓reduceIte, reduceCtorEq, String.reduceBNe, String.reduceEq, reduceDIte, Nat.reducePow, lk_old hb, h1, h2, h3, h4, hall]
  refine Thn_n ?_
  refine hK _ _ ?_
  clear hK K
  refine AW.seq_k fun K hK => ?_
  refine AW.draw [.val, .rd 0, .val, .rd 0, .val, .ext, .val, .rd 0, .up 0, .val, .wr] fol (by decide) (by kernel_rfl) ?_
  simp only [push_cast, Nat.reduceAdd, Nat.reduceMul, Nat.reduceSub, Nat.reduceLeDiff, Nat.reduceLT, Nat.reduceEqDiff, Nat.reduceBEq, Nat.reduceBNe, Nat.reduceMod, Nat.reduceDiv, Int.reduceLE, Int.reduceLT, Int.reduceToNat, Int.reduceAdd, Int.reduceSub, Int.reduceMul, Int.reduceNeg, Int.reduceEq, Int.reduceBEq, Int.reduceBNe, ↓reduceIte, reduceCtorEq, String.reduceBNe, String.reduceEq, reduceDIte, Nat.reducePow, lk_old hb, h1, h2, h3, h4, hall]
  refine DExt.by (by first | rfl | (simp only [List.append_assoc, List.cons_append, List.nil_append]; rfl)) ?_
  simp only [push_cast, Nat.reduceAdd, Nat.reduceMul, Nat.reduceSub, Nat.reduceLeDiff, Nat.reduceLT, Nat.reduceEqDiff, Nat.reduceBEq, Nat.reduceBNe, Nat.reduceMod, Nat.reduceDiv, Int.reduceLE, Int.reduceLT, Int.reduceToNat, Int.reduceAdd, Int.reduceSub, Int.reduceMul, Int.reduceNeg, Int.reduceEq, Int.reduceBEq, Int.reduceBNe, ↓reduceIte, reduceCtorEq, String.reduceBNe, String.reduceEq, reduceDIte, Nat.reducePow, lk_old hb, h1, h2, h3, h4, hall]
  refine DUp.by (by first | rfl | (simp only [List.append_assoc, List.cons_append, List.nil_append]; rfl)) (by first | rfl | (simp only [List.append_assoc, List.cons_append, List.nil_append]; rfl)) ?_
  simp only [push_cast, Nat.reduceAdd, Nat.reduceMul, Nat.reduceSub, Nat.reduceLeDiff, Nat.reduceLT, Nat.reduceEqDiff, Nat.reduceBEq, Nat.reduceBNe, Nat.reduceMod, Nat.reduceDiv, Int.reduceLE, Int.reduceLT, Int.reduceToNat, Int.reduceAdd, Int.reduceSub, Int.reduceMul, Int.reduceNeg, Int.reduceEq, Int.reduceBEq, Int.reduceBNe, ↓reduceIte, reduceCtorEq, String.reduceBNe, String.reduceEq, reduceDIte, Nat.reducePow, lk_old hb, h1, h2, h3, h4, hall]
  refine Thn_n ?_
  refine hK _ _ ?_
  clear hK K
  refine AW.ret ?_
  refine hQ _ _ _ ?_
  refine RetP.pick [(m.length + 2, 1)] (Or.inr rfl) ?_ ?_ ?_ hwf ?_
  · simp only [resA, resOne, resTv, AV.tv, push_cast, Nat.reduceAdd, Nat.reduceMul, Nat.reduceSub, Nat.reduceLeDiff, Nat.reduceLT, Nat.reduceEqDiff, Nat.reduceBEq, Nat.reduceBNe, Nat.reduceMod, Nat.reduceDiv, Int.reduceLE, Int.reduceLT, Int.reduceToNat, Int.reduceAdd, Int.reduceSub, Int.reduceMul, Int.reduceNeg, Int.reduceEq, Int.reduceBEq, Int.reduceBNe, ↓reduceIte, reduceCtorEq, String.reduceBNe, String.reduceEq, reduceDIte, Nat.reducePow, lk_old hb, h1, h2, h3, h4, hall]
    simp [renV, renL, renC, renIdx, hlt]
  · simp only [picks, push_cast, Nat.reduceAdd, Nat.reduceMul, Nat.reduceSub, Nat.reduceLeDiff, Nat.reduceLT, Nat.reduceEqDiff, Nat.reduceBEq, Nat.reduceBNe, Nat.reduceMod, Nat.reduceDiv, Int.reduceLE, Int.reduceLT, Int.reduceToNat, Int.reduceAdd, Int.reduceSub, Int.reduceMul, Int.reduceNeg, Int.reduceEq, Int.reduceBEq, Int.reduceBNe, ↓reduceIte, reduceCtorEq, String.reduceBNe, String.reduceEq, reduceDIte, Nat.reducePow]
  · simp [distinctFrom]
  · exact MWf_one hfl
  
theorem From_c (W H : Int) (r v n : Nat) (m : AMem) (hr : r < m.length) : Ctr Try.prog 21 [.agg [.int .i64 W, .int .i64 H, .sl r v 0 n]] m (.agg [.int .i64 W, .int .i64 H, .sl r v 0 n]) m := by
  refine Ctr.enter Try.func21 rfl (by decide) (rs := [.cell 2 29]) (nt := 12) rfl rfl fun hwf Q hQ => ?_
  iterate 2
    refine AW.seq_k fun K hK => ?_
    refine AW.region (by decide) ?_
    simp only [push_cast, Nat.reduceAdd, Nat.reduceMul, Nat.reduceSub, Nat.reduceLeDiff, Nat.reduceLT, Nat.reduceEqDiff, Nat.reduceBEq, Nat.reduceBNe, Nat.reduceMod, Nat.reduceDiv, Int.reduceLE, Int.reduceLT, Int.reduceToNat, Int.reduceAdd, Int.reduceSub, Int.reduceMul, Int.reduceNeg, Int.reduceEq, Int.reduceBEq, Int.reduceBNe, ↓reduceIte, reduceCtorEq, String.reduceBNe, String.reduceEq, reduceDIte, Nat.reducePow]
    refine Thn_n ?_
    refine hK _ _ ?_
    clear hK K
  refine AW.ret ?_
  refine hQ _ _ _ ?_
  refine RetP.drop (Or.inr rfl) ?_ ?_ hwf
  · simp only [resA, resOne, resTv, AV.tv, push_cast, Nat.reduceAdd, Nat.reduceMul, Nat.reduceSub, Nat.reduceLeDiff, Nat.reduceLT, Nat.reduceEqDiff, Nat.reduceBEq, Nat.reduceBNe, Nat.reduceMod, Nat.reduceDiv, Int.reduceLE, Int.reduceLT, Int.reduceToNat, Int.reduceAdd, Int.reduceSub, Int.reduceMul, Int.reduceNeg, Int.reduceEq, Int.reduceBEq, Int.reduceBNe, ↓reduceIte, reduceCtorEq, String.reduceBNe, String.reduceEq, reduceDIte, Nat.reducePow]
  · simp [AV.below, CV.below, hr]
end Go.Proofs.Ytgkmjcpcigklpaa
