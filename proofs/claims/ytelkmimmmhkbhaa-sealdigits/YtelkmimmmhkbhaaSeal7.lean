/- Walks and facts of this seat's program over abstract states, printed by a program of mine; no conditions but those that each theorem names. -/
import Derived.Test.YtelkmimmmhkbhaaSeal6
set_option linter.unusedSimpArgs false
set_option linter.unusedVariables false
set_option maxRecDepth 100000
set_option maxHeartbeats 4000000
namespace Go.Proofs.Ytelkmimmmhkbhaa
open Go Go.Eng

/-- What is stirred in depends on the block's bytes alone. -/
theorem word_congr {a b : List Int} {o p : Nat} (h : ∀ i, i < 64 → byB a (o + i) = byB b (p + i)) {i : Nat} (hi : i < 16) : wordV a (o + 4 * i) = wordV b (p + 4 * i) := by
  have h0 := h (4 * i) (by omega)
  have h1 := h (4 * i + 1) (by omega)
  have h2 := h (4 * i + 2) (by omega)
  have h3 := h (4 * i + 3) (by omega)
  simp only [wordV, Nat.add_assoc] at *
  rw [h0, h1, h2, h3]
theorem sch_congr {a b : List Int} {o p : Nat} (h : ∀ i, i < 64 → byB a (o + i) = byB b (p + i)) : ∀ i, sch a o i = sch b p i
  | 0 => rfl
  | i + 1 => by
    simp only [sch, sch_congr h i]
    by_cases hi : i < 16
    · rw [if_pos hi, if_pos hi, word_congr h hi]
    · rw [if_neg hi, if_neg hi]
theorem comp_congr (S : S8) {a b : List Int} {o p : Nat} (h : ∀ i, i < 64 → byB a (o + i) = byB b (p + i)) : comp KW S a o = comp KW S b p := by
  simp only [comp, sch_congr h]
theorem byB_app {a b : List Int} {i : Nat} (h : i < a.length) : byB (a ++ b) i = byB a i := by
  simp only [byB, List.getD_eq_getElem?_getD, List.getElem?_append_left h]
theorem byB_drop (a : List Int) (n i : Nat) : byB (a.drop n) i = byB a (n + i) := by
  simp only [byB, List.getD_eq_getElem?_getD, List.getElem?_drop]
theorem compN_app (S : S8) (a b : List Int) : ∀ k, 64 * k ≤ a.length → compN S (a ++ b) k = compN S a k
  | 0, _ => rfl
  | k + 1, h => by
    simp only [compN, compN_app S a b k (by omega)]
    exact comp_congr _ fun i hi => byB_app (by omega)
theorem compN_drop (S : S8) (a : List Int) (k : Nat) : ∀ j, compN (compN S a k) (a.drop (64 * k)) j = compN S a (k + j)
  | 0 => rfl
  | j + 1 => by
    rw [show k + (j + 1) = (k + j) + 1 from rfl]
    simp only [compN, compN_drop S a k j]
    exact comp_congr _ fun i hi => by rw [byB_drop]; congr 1; omega
theorem absS_app (s : PS) (a b : List Int) : absS (absS s a) b = absS s (a ++ b) := by
  obtain ⟨S, r, n⟩ := s
  generalize hx : r ++ a = x
  have e1 : r ++ (a ++ b) = x ++ b := by rw [← hx, List.append_assoc]
  have ed : x.drop (64 * (x.length / 64)) ++ b = (x ++ b).drop (64 * (x.length / 64)) := (List.drop_append_of_le_length (by omega)).symm
  have el : ((x ++ b).drop (64 * (x.length / 64))).length / 64 = (x ++ b).length / 64 - x.length / 64 := by rw [List.length_drop]; omega
  have eg : x.length / 64 ≤ (x ++ b).length / 64 := by rw [List.length_append]; omega
  simp only [absS, hx, e1, ed, el, PS.mk.injEq]
  refine ⟨?_, ?_, ?_⟩
  · rw [← compN_app S x b (x.length / 64) (by omega), compN_drop]; congr 1; omega
  · rw [List.drop_drop]; congr 1; omega
  · rw [IntKind.wrap_u64, IntKind.wrap_u64, IntKind.wrap_u64, List.length_append]; omega
def catP (bf : Nat → List Int) : Nat → List Int
  | 0 => []
  | i + 1 => catP bf i ++ bf i
def PSok (s : PS) : Prop := s.r.length < 64 ∧ 0 ≤ s.n ∧ s.n < 18446744073709551616
theorem absS_nil {s : PS} (h : PSok s) : absS s [] = s := by
  obtain ⟨S, r, n⟩ := s
  obtain ⟨h1, h2, h3⟩ := h
  dsimp only at h1 h2 h3
  have e : r.length / 64 = 0 := by omega
  simp only [absS, List.append_nil, e, Nat.mul_zero, List.drop_zero, compN, List.length_nil, PS.mk.injEq, true_and]
  rw [IntKind.wrap_u64]; omega
theorem accP_cat {s : PS} (h : PSok s) (bf : Nat → List Int) : ∀ n, accP s bf n = absS s (catP bf n)
  | 0 => (absS_nil h).symm
  | n + 1 => by simp only [accP, catP, accP_cat h bf n, absS_app]
theorem absS_ok (s : PS) (a : List Int) : PSok (absS s a) := ⟨absS_r s a, by simp only [absS]; rw [IntKind.wrap_u64]; omega, by simp only [absS]; rw [IntKind.wrap_u64]; omega⟩
def P0 : PS := ⟨IV, [], 0⟩
theorem p0_ok : PSok P0 := ⟨by decide, by decide, by decide⟩
/-- The sum of some bytes. -/
def shaL (bs : List Int) : List Int := digL (finS (absS P0 bs))
theorem shaL_len (bs : List Int) : (shaL bs).length = 32 := rfl
theorem shaL_ok (bs : List Int) : U8ok (shaL bs) := ((((((((fourL_ok _).app (fourL_ok _)).app (fourL_ok _)).app (fourL_ok _)).app (fourL_ok _)).app (fourL_ok _)).app (fourL_ok _)).app (fourL_ok _))
/-- A part, as it comes in. -/
def PartIn (m : AMem) (c : CV) (bs : List Int) : Prop :=
  (c = .nils ∧ bs = []) ∨ ∃ rb k ty v ez off X, c = .sl rb v off bs.length ∧ m[rb]? = some ⟨k, ty, v, ez, u8l X⟩ ∧ off + bs.length ≤ X.length ∧ (X.drop off).take bs.length = bs
theorem PartIn.at {m : AMem} {c : CV} {bs : List Int} (h : PartIn m c bs) (L : AMem) {bb : Nat} (hb : m.length ≤ bb) : PartAt (m ++ L) bb c bs := by
  rcases h with h | ⟨rb, k, ty, v, ez, off, X, h1, h2, h3, h4⟩
  · exact .inl h
  · have := get_lt h2
    exact .inr ⟨rb, k, ty, v, ez, off, X, h1, by omega, lk_old h2 L, h3, h4⟩
theorem catP_ok {bf : Nat → List Int} {np : Nat} (h : ∀ i, i < np → U8ok (bf i)) : ∀ n, n ≤ np → U8ok (catP bf n)
  | 0, _ => U8ok.nil
  | n + 1, hn => (catP_ok h n (by omega)).app (h n (by omega))
theorem writen_c (rp : Nat) (m : AMem) : Ctr Try.prog 12 [.one (.ptr rp 0 0), .one .nils] m (.tup []) m := by
  refine Ctr.enter Try.func12 rfl (by decide) (rs := []) (nt := 64) rfl rfl fun hwf Q hQ => ?_
  refine AW.seq_k fun K hK => ?_
  refine AW.seq_k fun K hK => ?_
  refine AW.region (by decide) ?_
  simp only [push_cast, simprocAttr]
  refine Thn_n ?_
  refine hK _ _ ?_
  clear hK K
  refine AW.cond_f rfl ?_
  refine AW.skip ?_
  refine Thn_n ?_
  refine hK _ _ ?_
  clear hK K
  refine AW.seq_k fun K hK => ?_
  refine AW.region (by decide) ?_
  simp only [push_cast, simprocAttr]
  refine Thn_n ?_
  refine hK _ _ ?_
  clear hK K
  refine AW.block ?_
  refine AW.rounds 1 ?_
  refine ARounds.succ fun K hK => ?_
  refine AW.seq_k fun K hK => ?_
  refine AW.region (by decide) ?_
  simp only [push_cast, simprocAttr]
  refine Thn_n ?_
  refine hK _ _ ?_
  clear hK K
  refine AW.seq_k fun K hK => ?_
  refine AW.cond_f rfl ?_
  refine AW.exit ?_
  refine Thn_e ?_
  clear hK K
  refine Thn_e ?_
  clear hK K
  refine InB_here ?_
  refine hQ _ _ _ ?_
  first | refine RetP.drop0 (Or.inl rfl) ?_ ?_ hwf | refine RetP.drop (Or.inl rfl) ?_ ?_ hwf
  · simp only [resA, resOne, resTv, AV.tv, push_cast, simprocAttr]
  · rfl
theorem of_c (lb vl lo np : Nat) (cf : Nat → CV) (bf : Nat → List Int) (X : List CV) (kl : BK) (el : Nat) (m : AMem) (hl : m[lb]? = some ⟨kl, 22, vl, el, X⟩) (hX : ∀ i, i < np → X[lo + i]? = some (cf i)) (hP : ∀ i, i < np → PartIn m (cf i) (bf i)) (hbl : ∀ i, i < np → (bf i).length ≤ 1000000) (hbo : ∀ i, i < np → U8ok (bf i)) (hnp : np ≤ 1048576) : Ctr Try.prog 8 [.one (.sl lb vl lo np)] m (.agg (u8l (shaL (catP bf np)))) m := by
  refine Ctr.enter Try.func8 rfl (by decide) (rs := [.cell 2 25]) (nt := 10) rfl rfl fun hwf Q hQ => ?_
  have hacc := accP_cat p0_ok bf np
  have hsl : (u8l (shaL (catP bf np))).length = 32 := rfl
  have hrr : (absS P0 (catP bf np)).r.length < 64 := absS_r _ _
  have hoo : U8ok (absS P0 (catP bf np)).r := by rw [← hacc]; exact accP_ok U8ok.nil hbo np (Nat.le_refl _)
  have hd1 : (digL (finS (absS P0 (catP bf np)))).length = 32 := rfl
  have hd2 : setL [.int .u8 0, .int .u8 0, .int .u8 0, .int .u8 0, .int .u8 0, .int .u8 0, .int .u8 0, .int .u8 0, .int .u8 0, .int .u8 0, .int .u8 0, .int .u8 0, .int .u8 0, .int .u8 0, .int .u8 0, .int .u8 0, .int .u8 0, .int .u8 0, .int .u8 0, .int .u8 0, .int .u8 0, .int .u8 0, .int .u8 0, .int .u8 0, .int .u8 0, .int .u8 0, .int .u8 0, .int .u8 0, .int .u8 0, .int .u8 0, .int .u8 0, .int .u8 0] 0 (u8l (digL (finS (absS P0 (catP bf np))))) = u8l (digL (finS (absS P0 (catP bf np)))) := setL_full rfl
  have hd3 := u8l_vals (digL (finS (absS P0 (catP bf np))))
  refine AW.seq_k fun K hK => ?_
  refine AW.region (by decide) ?_
  simp only [push_cast, simprocAttr, hacc, pwr, rowB, prB, u8l_len, Nat.le_refl, hd1, hd2, hd3]
  refine Thn_n ?_
  refine hK _ _ ?_
  clear hK K
  refine AW.seq_k fun K hK => ?_
  refine AW.region (by decide) ?_
  simp only [push_cast, simprocAttr, hacc, pwr, rowB, prB, u8l_len, Nat.le_refl, hd1, hd2, hd3]
  refine CThen.by (new_c _) ?_
  simp only [push_cast, simprocAttr, hacc, pwr, rowB, prB, u8l_len, Nat.le_refl, hd1, hd2, hd3]
  refine Thn_n ?_
  refine hK _ _ ?_
  clear hK K
  refine AW.seq_k fun K hK => ?_
  refine AW.nilCell 5 1 (m.length + 1) 8 (b := ⟨.fix, 56, 0, 0, [.int .u32 (IV).a, .int .u32 (IV).b, .int .u32 (IV).c, .int .u32 (IV).d, .int .u32 (IV).e, .int .u32 (IV).f, .int .u32 (IV).g, .int .u32 (IV).h, .nils, .int .u64 0]⟩) (by simp only [push_cast, simprocAttr]) (by simp) rfl ?_
  simp only [push_cast, simprocAttr]
  refine AW.region (by decide) ?_
  simp only [push_cast, simprocAttr, hacc, pwr, rowB, prB, u8l_len, Nat.le_refl, hd1, hd2, hd3]
  refine CThen.by (write_c (m.length + 1) (m.length + 2) 0 lb vl lo np P0 cf bf X kl el _ (by simp only [push_cast, simprocAttr]; rfl) (by simp only [push_cast, simprocAttr]; rfl) (by simp only [push_cast, simprocAttr, lk_old hl]) (by have := get_lt hl; omega) hX (fun i hi => (hP i hi).at _ (by omega)) hbl hbo (by decide) U8ok.nil hnp) ?_
  simp only [push_cast, simprocAttr, hacc, pwr, rowB, prB, u8l_len, Nat.le_refl, hd1, hd2, hd3]
  refine Thn_n ?_
  refine hK _ _ ?_
  clear hK K
  refine AW.seq_k fun K hK => ?_
  refine AW.region (by decide) ?_
  simp only [push_cast, simprocAttr, hacc, pwr, rowB, prB, u8l_len, Nat.le_refl, hd1, hd2, hd3]
  refine CThen.by (sum_c (m.length + 1) (m.length + 2) (2 * np) (absS P0 (catP bf np)) _ (by simp only [push_cast, simprocAttr, pwr, rowB, prB]) (by simp only [push_cast, simprocAttr, pwr, rowB, prB]) hrr hoo) ?_
  simp only [push_cast, simprocAttr, hacc, pwr, rowB, prB, u8l_len, Nat.le_refl, hd1, hd2, hd3]
  refine Thn_n ?_
  refine hK _ _ ?_
  clear hK K
  refine AW.ret ?_
  refine hQ _ _ _ ?_
  refine RetP.drop (Or.inr rfl) ?_ ?_ hwf
  · simp only [resA, resOne, resTv, AV.tv, push_cast, simprocAttr]
    rfl
  · rfl
  
theorem of0_c (m : AMem) : Ctr Try.prog 8 [.one .nils] m (.agg (u8l (shaL []))) m := by
  refine Ctr.enter Try.func8 rfl (by decide) (rs := [.cell 2 25]) (nt := 10) rfl rfl fun hwf Q hQ => ?_
  have hsl : (u8l (shaL [])).length = 32 := rfl
  have hrr : (absS P0 []).r.length < 64 := absS_r _ _
  have hoo : U8ok (absS P0 []).r := fun x hx => by cases hx
  have hd1 : (digL (finS (absS P0 []))).length = 32 := rfl
  have hd2 : setL [.int .u8 0, .int .u8 0, .int .u8 0, .int .u8 0, .int .u8 0, .int .u8 0, .int .u8 0, .int .u8 0, .int .u8 0, .int .u8 0, .int .u8 0, .int .u8 0, .int .u8 0, .int .u8 0, .int .u8 0, .int .u8 0, .int .u8 0, .int .u8 0, .int .u8 0, .int .u8 0, .int .u8 0, .int .u8 0, .int .u8 0, .int .u8 0, .int .u8 0, .int .u8 0, .int .u8 0, .int .u8 0, .int .u8 0, .int .u8 0, .int .u8 0, .int .u8 0] 0 (u8l (digL (finS (absS P0 [])))) = u8l (digL (finS (absS P0 []))) := setL_full rfl
  have hd3 := u8l_vals (digL (finS (absS P0 [])))
  refine AW.seq_k fun K hK => ?_
  refine AW.region (by decide) ?_
  simp only [push_cast, simprocAttr, pwr, rowB, prB, u8l_len, Nat.le_refl, hd1, hd2, hd3]
  refine Thn_n ?_
  refine hK _ _ ?_
  clear hK K
  refine AW.seq_k fun K hK => ?_
  refine AW.region (by decide) ?_
  simp only [push_cast, simprocAttr, pwr, rowB, prB, u8l_len, Nat.le_refl, hd1, hd2, hd3]
  refine CThen.by (new_c _) ?_
  simp only [push_cast, simprocAttr, pwr, rowB, prB, u8l_len, Nat.le_refl, hd1, hd2, hd3]
  refine Thn_n ?_
  refine hK _ _ ?_
  clear hK K
  refine AW.seq_k fun K hK => ?_
  refine AW.nilCell 5 1 (m.length + 1) 8 (b := ⟨.fix, 56, 0, 0, [.int .u32 (IV).a, .int .u32 (IV).b, .int .u32 (IV).c, .int .u32 (IV).d, .int .u32 (IV).e, .int .u32 (IV).f, .int .u32 (IV).g, .int .u32 (IV).h, .nils, .int .u64 0]⟩) (by simp only [push_cast, simprocAttr]) (by simp) rfl ?_
  simp only [push_cast, simprocAttr]
  refine AW.region (by decide) ?_
  simp only [push_cast, simprocAttr, pwr, rowB, prB, u8l_len, Nat.le_refl, hd1, hd2, hd3]
  refine CThen.by (writen_c _ _) ?_
  simp only [push_cast, simprocAttr, pwr, rowB, prB, u8l_len, Nat.le_refl, hd1, hd2, hd3]
  refine Thn_n ?_
  refine hK _ _ ?_
  clear hK K
  refine AW.seq_k fun K hK => ?_
  refine AW.region (by decide) ?_
  simp only [push_cast, simprocAttr, pwr, rowB, prB, u8l_len, Nat.le_refl, hd1, hd2, hd3]
  refine CThen.by (sum_c (m.length + 1) (m.length + 2) 0 (absS P0 []) _ (by simp only [push_cast, simprocAttr, pwr, rowB, prB]; rfl) (by simp only [push_cast, simprocAttr, pwr, rowB, prB]; rfl) hrr hoo) ?_
  simp only [push_cast, simprocAttr, pwr, rowB, prB, u8l_len, Nat.le_refl, hd1, hd2, hd3]
  refine Thn_n ?_
  refine hK _ _ ?_
  clear hK K
  refine AW.ret ?_
  refine hQ _ _ _ ?_
  refine RetP.drop (Or.inr rfl) ?_ ?_ hwf
  · simp only [resA, resOne, resTv, AV.tv, push_cast, simprocAttr]
    rfl
  · rfl
  
end Go.Proofs.Ytelkmimmmhkbhaa
