/- Walks and facts of this seat's program over abstract states, printed by a program of mine; no conditions but those that each theorem names. -/
import Derived.Test.YtmjbbnfmhgcfaaaSeal6
set_option linter.unusedSimpArgs false
set_option linter.unusedVariables false
set_option maxRecDepth 100000
set_option maxHeartbeats 4000000
namespace Go.Proofs.Ytmjbbnfmhgcfaaa
open Go Go.Eng

/-- What is stirred in depends on the block's bytes alone. -/
theorem word_congr {a b : List Int} {o p : Nat} (h : ∀ i, i < 64 → byB a (o + i) = byB b (p + i)) {i : Nat} (hi : i < 16) : wordV a (o + 4 * i) = wordV b (p + 4 * i) := by
  have h0 := h (4 * i) (by omega)
  have h1 := h (4 * i + 1) (by omega)
  have h2 := h (4 * i + 2) (by omega)
  have h3 := h (4 * i + 3) (by omega)
  simp only [wordV, Nat.add_assoc] at *
  rw [h0, h1, h2, h3]
theorem sch_congr {a b : List Int} {o p : Nat} (h : ∀ i, i < 64 → byB a (o + i) = byB b (p + i)) : ∀ i, sch a o i = sch b p i
  | 0 => rfl
  | i + 1 => by
    simp only [sch, sch_congr h i]
    by_cases hi : i < 16
    · rw [if_pos hi, if_pos hi, word_congr h hi]
    · rw [if_neg hi, if_neg hi]
theorem comp_congr (S : S8) {a b : List Int} {o p : Nat} (h : ∀ i, i < 64 → byB a (o + i) = byB b (p + i)) : comp KW S a o = comp KW S b p := by
  simp only [comp, sch_congr h]
theorem byB_app {a b : List Int} {i : Nat} (h : i < a.length) : byB (a ++ b) i = byB a i := by
  simp only [byB, List.getD_eq_getElem?_getD, List.getElem?_append_left h]
theorem byB_drop (a : List Int) (n i : Nat) : byB (a.drop n) i = byB a (n + i) := by
  simp only [byB, List.getD_eq_getElem?_getD, List.getElem?_drop]
theorem compN_app (S : S8) (a b : List Int) : ∀ k, 64 * k ≤ a.length → compN S (a ++ b) k = compN S a k
  | 0, _ => rfl
  | k + 1, h => by
    simp only [compN, compN_app S a b k (by omega)]
    exact comp_congr _ fun i hi => byB_app (by omega)
theorem compN_drop (S : S8) (a : List Int) (k : Nat) : ∀ j, compN (compN S a k) (a.drop (64 * k)) j = compN S a (k + j)
  | 0 => rfl
  | j + 1 => by
    rw [show k + (j + 1) = (k + j) + 1 from rfl]
    simp only [compN, compN_drop S a k j]
    exact comp_congr _ fun i hi => by rw [byB_drop]; congr 1; omega
theorem absS_app (s : PS) (a b : List Int) : absS (absS s a) b = absS s (a ++ b) := by
  obtain ⟨S, r, n⟩ := s
  generalize hx : r ++ a = x
  have e1 : r ++ (a ++ b) = x ++ b := by rw [← hx, List.append_assoc]
  have ed : x.drop (64 * (x.length / 64)) ++ b = (x ++ b).drop (64 * (x.length / 64)) := (List.drop_append_of_le_length (by omega)).symm
  have el : ((x ++ b).drop (64 * (x.length / 64))).length / 64 = (x ++ b).length / 64 - x.length / 64 := by rw [List.length_drop]; omega
  have eg : x.length / 64 ≤ (x ++ b).length / 64 := by rw [List.length_append]; omega
  simp only [absS, hx, e1, ed, el, PS.mk.injEq]
  refine ⟨?_, ?_, ?_⟩
  · rw [← compN_app S x b (x.length / 64) (by omega), compN_drop]; congr 1; omega
  · rw [List.drop_drop]; congr 1; omega
  · rw [IntKind.wrap_u64, IntKind.wrap_u64, IntKind.wrap_u64, List.length_append]; omega
def catP (bf : Nat → List Int) : Nat → List Int
  | 0 => []
  | i + 1 => catP bf i ++ bf i
def PSok (s : PS) : Prop := s.r.length < 64 ∧ 0 ≤ s.n ∧ s.n < 18446744073709551616
theorem absS_nil {s : PS} (h : PSok s) : absS s [] = s := by
  obtain ⟨S, r, n⟩ := s
  obtain ⟨h1, h2, h3⟩ := h
  dsimp only at h1 h2 h3
  have e : r.length / 64 = 0 := by omega
  simp only [absS, List.append_nil, e, Nat.mul_zero, List.drop_zero, compN, List.length_nil, PS.mk.injEq, true_and]
  rw [IntKind.wrap_u64]; omega
theorem accP_cat {s : PS} (h : PSok s) (bf : Nat → List Int) : ∀ n, accP s bf n = absS s (catP bf n)
  | 0 => (absS_nil h).symm
  | n + 1 => by simp only [accP, catP, accP_cat h bf n, absS_app]
theorem absS_ok (s : PS) (a : List Int) : PSok (absS s a) := ⟨absS_r s a, by simp only [absS]; rw [IntKind.wrap_u64]; omega, by simp only [absS]; rw [IntKind.wrap_u64]; omega⟩
def P0 : PS := ⟨IV, [], 0⟩
theorem p0_ok : PSok P0 := ⟨by decide, by decide, by decide⟩
/-- The sum of some bytes. -/
def shaL (bs : List Int) : List Int := digL (finS (absS P0 bs))
theorem shaL_len (bs : List Int) : (shaL bs).length = 32 := rfl
theorem shaL_ok (bs : List Int) : U8ok (shaL bs) := ((((((((fourL_ok _).app (fourL_ok _)).app (fourL_ok _)).app (fourL_ok _)).app (fourL_ok _)).app (fourL_ok _)).app (fourL_ok _)).app (fourL_ok _))
/-- A part, as it comes in. -/
def PartIn (m : AMem) (c : CV) (bs : List Int) : Prop :=
  (c = .nils ∧ bs = []) ∨ ∃ rb k ty v ez off X, c = .sl rb v off bs.length ∧ m[rb]? = some ⟨k, ty, v, ez, u8l X⟩ ∧ off + bs.length ≤ X.length ∧ (X.drop off).take bs.length = bs
theorem PartIn.at {m : AMem} {c : CV} {bs : List Int} (h : PartIn m c bs) (L : AMem) {bb : Nat} (hb : m.length ≤ bb) : PartAt (m ++ L) bb c bs := by
  rcases h with h | ⟨rb, k, ty, v, ez, off, X, h1, h2, h3, h4⟩
  · exact .inl h
  · have := get_lt h2
    exact .inr ⟨rb, k, ty, v, ez, off, X, h1, by omega, lk_old h2 L, h3, h4⟩
theorem catP_ok {bf : Nat → List Int} {np : Nat} (h : ∀ i, i < np → U8ok (bf i)) : ∀ n, n ≤ np → U8ok (catP bf n)
  | 0, _ => U8ok.nil
  | n + 1, hn => (catP_ok h n (by omega)).app (h n (by omega))
theorem writen_c (rp : Nat) (m : AMem) : Ctr Try.prog 23 [.one (.ptr rp 0 0), .one .nils] m (.tup []) m := by
  refine Ctr.enter Try.func23 rfl (by decide) (rs := []) (nt := 64) rfl rfl fun hwf Q hQ => ?_
  refine AW.seq_k fun K hK => ?_
  refine AW.seq_k fun K hK => ?_
  refine AW.region (by decide) ?_
  simp only [push_cast, simprocAttr]
  refine Thn_n ?_
  refine hK _ _ ?_
  clear hK K
  refine AW.cond_f rfl ?_
  refine AW.skip ?_
  refine Thn_n ?_
  refine hK _ _ ?_
  clear hK K
  refine AW.seq_k fun K hK => ?_
  refine AW.region (by decide) ?_
  simp only [push_cast, simprocAttr]
  refine Thn_n ?_
  refine hK _ _ ?_
  clear hK K
  refine AW.block ?_
  refine AW.rounds 1 ?_
  refine ARounds.succ fun K hK => ?_
  refine AW.seq_k fun K hK => ?_
  refine AW.region (by decide) ?_
  simp only [push_cast, simprocAttr]
  refine Thn_n ?_
  refine hK _ _ ?_
  clear hK K
  refine AW.seq_k fun K hK => ?_
  refine AW.cond_f rfl ?_
  refine AW.exit ?_
  refine Thn_e ?_
  clear hK K
  refine Thn_e ?_
  clear hK K
  refine InB_here ?_
  refine hQ _ _ _ ?_
  first | refine RetP.drop0 (Or.inl rfl) ?_ ?_ hwf | refine RetP.drop (Or.inl rfl) ?_ ?_ hwf
  · simp only [resA, resOne, resTv, AV.tv, push_cast, simprocAttr]
  · rfl
end Go.Proofs.Ytmjbbnfmhgcfaaa
