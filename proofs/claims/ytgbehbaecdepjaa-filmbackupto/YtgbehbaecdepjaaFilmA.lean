/- Walks and facts of this seat's program over abstract states, printed by a program of mine; no conditions but those that each theorem names. -/
import Derived.Test.YtgbehbaecdepjaaFc
import Derived.Test.YtgbehbaecdepjaaEngV
set_option linter.unusedSimpArgs false
set_option linter.unusedVariables false
set_option maxRecDepth 100000
set_option maxHeartbeats 4000000
namespace Go.Proofs.Ytgbehbaecdepjaa
open Go Go.Eng

/-- The cells of so many integers. -/
def il : Nat → (Nat → Int) → List CV
  | 0, _ => []
  | n + 1, f => il n f ++ [.int .i64 (f n)]
theorem il_len : ∀ (n : Nat) (f : Nat → Int), (il n f).length = n
  | 0, _ => rfl
  | n + 1, f => by simp only [il, List.length_append, il_len n f, List.length_cons, List.length_nil]
theorem il_get : ∀ {n : Nat} {f : Nat → Int} {i : Nat}, i < n → (il n f)[i]? = some (.int .i64 (f i))
  | n + 1, f, i, hi => by
    simp only [il]
    rcases Nat.lt_or_ge i n with h | h
    · rw [List.getElem?_append_left (by rw [il_len]; omega)]; exact il_get h
    · have e : i = n := by omega
      subst e
      rw [List.getElem?_append_right (by rw [il_len]; omega), il_len, Nat.sub_self]; rfl
theorem il_vals : ∀ (n : Nat) (f : Nat → Int), (il n f).all CV.isVal = true
  | 0, _ => rfl
  | n + 1, f => by simp only [il, List.all_append, il_vals n f, List.all_cons, List.all_nil, CV.isVal]; rfl
theorem il_below : ∀ (L n : Nat) (f : Nat → Int), (il n f).all (CV.below L) = true
  | _, 0, _ => rfl
  | L, n + 1, f => by simp only [il, List.all_append, il_below L n f, List.all_cons, List.all_nil, CV.below]; rfl
theorem ext_get {α : Type} {a b : List α} (h : ∀ i : Nat, a[i]? = b[i]?) : a = b := List.ext_getElem? h
theorem il_of {cells : List CV} {n : Nat} {f : Nat → Int} (hl : cells.length = n) (h : ∀ i, i < n → cells[i]? = some (.int .i64 (f i))) : cells = il n f := by
  refine ext_get fun j => ?_
  rcases Nat.lt_or_ge j n with hj | hj
  · rw [h j hj, il_get hj]
  · rw [List.getElem?_eq_none (by omega), List.getElem?_eq_none (by rw [il_len]; omega)]
theorem il_congr {n : Nat} {f g : Nat → Int} (h : ∀ i, i < n → f i = g i) : il n f = il n g := il_of (il_len n f) fun i hi => by rw [il_get hi, h i hi]

/-- The cells of so many dots. -/
def dl : Nat → (Nat → Nat → Int) → List CV
  | 0, _ => []
  | n + 1, G => dl n G ++ [.int .i64 (G n 0), .int .i64 (G n 1), .int .i64 (G n 2)]
theorem dl_len : ∀ (n : Nat) (G : Nat → Nat → Int), (dl n G).length = n * 3
  | 0, _ => rfl
  | n + 1, G => by simp only [dl, List.length_append, dl_len n G, List.length_cons, List.length_nil]; omega
theorem dl_get : ∀ {n : Nat} {G : Nat → Nat → Int} {i k : Nat}, i < n → k < 3 → (dl n G)[i * 3 + k]? = some (.int .i64 (G i k))
  | n + 1, G, i, k, hi, hk => by
    simp only [dl]
    rcases Nat.lt_or_ge i n with h | h
    · rw [List.getElem?_append_left (by rw [dl_len]; omega)]; exact dl_get h hk
    · have e : i = n := by omega
      subst e
      rw [List.getElem?_append_right (by rw [dl_len]; omega), dl_len, show i * 3 + k - i * 3 = k by omega]
      match k, hk with
      | 0, _ => rfl
      | 1, _ => rfl
      | 2, _ => rfl
theorem dl_get0 {n : Nat} {G : Nat → Nat → Int} {i : Nat} (hi : i < n) : (dl n G)[i * 3]? = some (.int .i64 (G i 0)) := dl_get (k := 0) hi (by omega)
theorem dl_get1 {n : Nat} {G : Nat → Nat → Int} {i : Nat} (hi : i < n) : (dl n G)[i * 3 + 1]? = some (.int .i64 (G i 1)) := dl_get hi (by omega)
theorem dl_get2 {n : Nat} {G : Nat → Nat → Int} {i : Nat} (hi : i < n) : (dl n G)[i * 3 + 2]? = some (.int .i64 (G i 2)) := dl_get hi (by omega)
theorem dl_vals : ∀ (n : Nat) (G : Nat → Nat → Int), (dl n G).all CV.isVal = true
  | 0, _ => rfl
  | n + 1, G => by simp only [dl, List.all_append, dl_vals n G, List.all_cons, List.all_nil, CV.isVal]; rfl
theorem dl_below : ∀ (L n : Nat) (G : Nat → Nat → Int), (dl n G).all (CV.below L) = true
  | _, 0, _ => rfl
  | L, n + 1, G => by simp only [dl, List.all_append, dl_below L n G, List.all_cons, List.all_nil, CV.below]; rfl
theorem dl_congr : ∀ {n : Nat} {G H : Nat → Nat → Int}, (∀ i k, i < n → k < 3 → G i k = H i k) → dl n G = dl n H
  | 0, _, _, _ => rfl
  | n + 1, G, H, h => by simp only [dl]; rw [dl_congr fun i k hi hk => h i k (by omega) hk, h n 0 (by omega) (by omega), h n 1 (by omega) (by omega), h n 2 (by omega) (by omega)]
theorem dl_of {cells : List CV} {n : Nat} {G : Nat → Nat → Int} (hl : cells.length = n * 3) (h : ∀ i k, i < n → k < 3 → cells[i * 3 + k]? = some (.int .i64 (G i k))) : cells = dl n G := by
  refine ext_get fun j => ?_
  rcases Nat.lt_or_ge j (n * 3) with hj | hj
  · have e : j = j / 3 * 3 + j % 3 := by omega
    rw [e, h (j / 3) (j % 3) (by omega) (by omega), dl_get (by omega) (by omega)]
  · rw [List.getElem?_eq_none (by omega), List.getElem?_eq_none (by rw [dl_len]; omega)]

/-- May a size be? -/
def szR (W H : Int) : Bool := decide (1 ≤ W) && decide (W ≤ 64) && decide (1 ≤ H) && decide (H ≤ 64)
theorem szR_iff {W H : Int} : szR W H = true ↔ 1 ≤ W ∧ W ≤ 64 ∧ 1 ≤ H ∧ H ≤ 64 := by simp only [szR, Bool.and_eq_true, decide_eq_true_eq, and_assoc]

theorem wi {x : Int} (h : -9223372036854775808 ≤ x ∧ x ≤ 9223372036854775807) : IntKind.i64.wrap x = x := by rw [IntKind.wrap_i64]; omega
theorem il_snoc {n : Nat} {f : Nat → Int} : il n f ++ [.int .i64 (f n)] = il (n + 1) f := rfl
theorem dl_snoc {n : Nat} {G : Nat → Nat → Int} : dl n G ++ [.int .i64 (G n 0), .int .i64 (G n 1), .int .i64 (G n 2)] = dl (n + 1) G := rfl
/-- Rows in memory: of integers, of threes. -/
structure IRow (m : AMem) (ty r n : Nat) (f : Nat → Int) : Prop where
  hb : ∃ k ez, m[r]? = some ⟨k, ty, 0, ez, il n f⟩
structure HRow (m : AMem) (ty r n : Nat) (G : Nat → Nat → Int) : Prop where
  hb : ∃ k ez, m[r]? = some ⟨k, ty, 0, ez, dl n G⟩
theorem IRow.mono {m : AMem} {ty r n : Nat} {f : Nat → Int} (h : IRow m ty r n f) (x : AMem) : IRow (m ++ x) ty r n f := by
  obtain ⟨k, ez, hb⟩ := h.hb; exact ⟨k, ez, lk_old hb x⟩
theorem HRow.mono {m : AMem} {ty r n : Nat} {G : Nat → Nat → Int} (h : HRow m ty r n G) (x : AMem) : HRow (m ++ x) ty r n G := by
  obtain ⟨k, ez, hb⟩ := h.hb; exact ⟨k, ez, lk_old hb x⟩
theorem sizeRight_c (W H : Int) (m : AMem) : Ctr Try.prog 9 [.agg [.int .i64 W, .int .i64 H]] m (.one (.bool (szR W H))) m := by
  refine Ctr.enter Try.func9 rfl (by decide) (rs := [.tmp 2]) (nt := 21) rfl rfl fun hwf Q hQ => ?_
  rcases chain4 (1 ≤ W) (W ≤ 64) (1 ≤ H) (H ≤ 64) with ⟨h1, h2, h3, h4⟩ | ⟨h1, h2, h3, h4⟩ | ⟨h1, h2, h3, h4⟩ | ⟨h1, h2, h3, h4⟩ | ⟨h1, h2, h3, h4⟩ <;>
  (
  iterate 2
    refine AW.seq_k fun K hK => ?_
    refine AW.region (by decide) ?_
    simp only [push_cast, simprocAttr, h1, h2, h3, h4]
    refine Thn_n ?_
    refine hK _ _ ?_
    clear hK K
  refine AW.ret ?_
  refine hQ _ _ _ ?_
  first | refine RetP.drop0 (Or.inr rfl) ?_ ?_ hwf | refine RetP.drop (Or.inr rfl) ?_ ?_ hwf
  · simp only [resA, resOne, resTv, AV.tv, push_cast, simprocAttr, h1, h2, h3, h4, szR]
  · rfl
  )
theorem rightSize_c (W H : Int) (m : AMem) : Ctr Try.prog 10 [.one (.int .i64 W), .one (.int .i64 H)] m (.one (.bool (szR W H))) m := by
  refine Ctr.enter Try.func10 rfl (by decide) (rs := [.tmp 4]) (nt := 19) rfl rfl fun hwf Q hQ => ?_
  rcases chain4 (1 ≤ W) (W ≤ 64) (1 ≤ H) (H ≤ 64) with ⟨h1, h2, h3, h4⟩ | ⟨h1, h2, h3, h4⟩ | ⟨h1, h2, h3, h4⟩ | ⟨h1, h2, h3, h4⟩ | ⟨h1, h2, h3, h4⟩ <;>
  (
  iterate 2
    refine AW.seq_k fun K hK => ?_
    refine AW.region (by decide) ?_
    simp only [push_cast, simprocAttr, h1, h2, h3, h4]
    refine Thn_n ?_
    refine hK _ _ ?_
    clear hK K
  refine AW.ret ?_
  refine hQ _ _ _ ?_
  first | refine RetP.drop0 (Or.inr rfl) ?_ ?_ hwf | refine RetP.drop (Or.inr rfl) ?_ ?_ hwf
  · simp only [resA, resOne, resTv, AV.tv, push_cast, simprocAttr, h1, h2, h3, h4, szR]
  · rfl
  )
theorem pixels_c (W H : Int) (m : AMem) : Ctr Try.prog 15 [.agg [.int .i64 W, .int .i64 H]] m (.one (.int .i64 (IntKind.i64.wrap (W * H)))) m := by
  refine Ctr.enter Try.func15 rfl (by decide) (rs := [.tmp 2]) (nt := 8) rfl rfl fun hwf Q hQ => ?_
  iterate 2
    refine AW.seq_k fun K hK => ?_
    refine AW.region (by decide) ?_
    simp only [push_cast, simprocAttr]
    refine Thn_n ?_
    refine hK _ _ ?_
    clear hK K
  refine AW.ret ?_
  refine hQ _ _ _ ?_
  first | refine RetP.drop0 (Or.inr rfl) ?_ ?_ hwf | refine RetP.drop (Or.inr rfl) ?_ ?_ hwf
  · simp only [resA, resOne, resTv, AV.tv, push_cast, simprocAttr]
  · rfl
/-- May a sheet be? -/
def shR (W H : Int) (n : Nat) : Bool := szR W H && ((n : Int) == IntKind.i64.wrap (W * H))
theorem sheetRight_true (W H : Int) (r v n : Nat) (m : AMem) (hz : szR W H = true) : Ctr Try.prog 11 [.agg [.int .i64 W, .int .i64 H, .sl r v 0 n]] m (.one (.bool (shR W H n))) m := by
  refine Ctr.enter Try.func11 rfl (by decide) (rs := [.tmp 2]) (nt := 15) rfl rfl fun hwf Q hQ => ?_
  refine AW.seq_k fun K hK => ?_
  refine AW.region (by decide) ?_
  simp only [push_cast, simprocAttr, hz]
  refine Thn_n ?_
  refine hK _ _ ?_
  clear hK K
  refine AW.seq_k fun K hK => ?_
  refine AW.draw [.val, .rd 0, .ext, .val, .val, .rd 1, .val, .val, .rd 1, .ext, .val, .val, .val] fol (by decide) (by kernel_rfl) ?_
  simp only [push_cast, simprocAttr, hz]
  refine DCall.by0 (sizeRight_c _ _ _) ?_
  simp only [push_cast, simprocAttr, hz]
  refine DCall.by0 (pixels_c _ _ _) ?_
  simp only [push_cast, simprocAttr, hz]
  refine Thn_n ?_
  refine hK _ _ ?_
  clear hK K
  refine AW.ret ?_
  refine hQ _ _ _ ?_
  first | refine RetP.drop0 (Or.inr rfl) ?_ ?_ hwf | refine RetP.drop (Or.inr rfl) ?_ ?_ hwf
  · simp only [resA, resOne, resTv, AV.tv, push_cast, simprocAttr, hz, shR]
  · rfl
theorem sheetRight_false (W H : Int) (r v n : Nat) (m : AMem) (hz : szR W H = false) : Ctr Try.prog 11 [.agg [.int .i64 W, .int .i64 H, .sl r v 0 n]] m (.one (.bool (shR W H n))) m := by
  refine Ctr.enter Try.func11 rfl (by decide) (rs := [.tmp 2]) (nt := 15) rfl rfl fun hwf Q hQ => ?_
  refine AW.seq_k fun K hK => ?_
  refine AW.region (by decide) ?_
  simp only [push_cast, simprocAttr, hz]
  refine Thn_n ?_
  refine hK _ _ ?_
  clear hK K
  refine AW.seq_k fun K hK => ?_
  refine AW.draw [.val, .rd 0, .ext, .val, .val, .rd 1, .val, .val, .rd 1, .ext, .val, .val, .val] fol (by decide) (by kernel_rfl) ?_
  simp only [push_cast, simprocAttr, hz]
  refine DCall.by0 (sizeRight_c _ _ _) ?_
  simp only [push_cast, simprocAttr, hz]
  refine Thn_n ?_
  refine hK _ _ ?_
  clear hK K
  refine AW.ret ?_
  refine hQ _ _ _ ?_
  first | refine RetP.drop0 (Or.inr rfl) ?_ ?_ hwf | refine RetP.drop (Or.inr rfl) ?_ ?_ hwf
  · simp only [resA, resOne, resTv, AV.tv, push_cast, simprocAttr, hz, shR]
  · rfl
theorem sheetRight_c (W H : Int) (r v n : Nat) (m : AMem) : Ctr Try.prog 11 [.agg [.int .i64 W, .int .i64 H, .sl r v 0 n]] m (.one (.bool (shR W H n))) m := by
  cases hz : szR W H
  · exact sheetRight_false W H r v n m hz
  · exact sheetRight_true W H r v n m hz
theorem refSheet_true (W H : Int) (r v n : Nat) (m : AMem) (hz : szR W H = true) : Ctr Try.prog 12 [.agg [.int .i64 W, .int .i64 H, .sl r v 0 n]] m (.one (.bool (shR W H n))) m := by
  refine Ctr.enter Try.func12 rfl (by decide) (rs := [.tmp 2]) (nt := 19) rfl rfl fun hwf Q hQ => ?_
  refine AW.seq_k fun K hK => ?_
  refine AW.region (by decide) ?_
  simp only [push_cast, simprocAttr, hz]
  refine Thn_n ?_
  refine hK _ _ ?_
  clear hK K
  refine AW.seq_k fun K hK => ?_
  refine AW.region (by decide) ?_
  simp only [push_cast, simprocAttr, hz]
  refine CThen.by (rightSize_c _ _ _) ?_
  simp only [push_cast, simprocAttr, hz]
  refine Thn_n ?_
  refine hK _ _ ?_
  clear hK K
  refine AW.ret ?_
  refine hQ _ _ _ ?_
  first | refine RetP.drop0 (Or.inr rfl) ?_ ?_ hwf | refine RetP.drop (Or.inr rfl) ?_ ?_ hwf
  · simp only [resA, resOne, resTv, AV.tv, push_cast, simprocAttr, hz, shR]
  · rfl
theorem refSheet_false (W H : Int) (r v n : Nat) (m : AMem) (hz : szR W H = false) : Ctr Try.prog 12 [.agg [.int .i64 W, .int .i64 H, .sl r v 0 n]] m (.one (.bool (shR W H n))) m := by
  refine Ctr.enter Try.func12 rfl (by decide) (rs := [.tmp 2]) (nt := 19) rfl rfl fun hwf Q hQ => ?_
  refine AW.seq_k fun K hK => ?_
  refine AW.region (by decide) ?_
  simp only [push_cast, simprocAttr, hz]
  refine Thn_n ?_
  refine hK _ _ ?_
  clear hK K
  refine AW.seq_k fun K hK => ?_
  refine AW.region (by decide) ?_
  simp only [push_cast, simprocAttr, hz]
  refine CThen.by (rightSize_c _ _ _) ?_
  simp only [push_cast, simprocAttr, hz]
  refine Thn_n ?_
  refine hK _ _ ?_
  clear hK K
  refine AW.ret ?_
  refine hQ _ _ _ ?_
  first | refine RetP.drop0 (Or.inr rfl) ?_ ?_ hwf | refine RetP.drop (Or.inr rfl) ?_ ?_ hwf
  · simp only [resA, resOne, resTv, AV.tv, push_cast, simprocAttr, hz, shR]
  · rfl
theorem refSheet_c (W H : Int) (r v n : Nat) (m : AMem) : Ctr Try.prog 12 [.agg [.int .i64 W, .int .i64 H, .sl r v 0 n]] m (.one (.bool (shR W H n))) m := by
  cases hz : szR W H
  · exact refSheet_false W H r v n m hz
  · exact refSheet_true W H r v n m hz
theorem hueTo_c (a b c : Int) (m : AMem) : Ctr Try.prog 31 [.agg [.int .i64 a, .int .i64 b, .int .i64 c]] m (.agg [.int .i64 a, .int .i64 b, .int .i64 c]) m := by
  refine Ctr.enter Try.func31 rfl (by decide) (rs := [.cell 2 68]) (nt := 10) rfl rfl fun hwf Q hQ => ?_
  iterate 2
    refine AW.seq_k fun K hK => ?_
    refine AW.region (by decide) ?_
    simp only [push_cast, simprocAttr]
    refine Thn_n ?_
    refine hK _ _ ?_
    clear hK K
  refine AW.ret ?_
  refine hQ _ _ _ ?_
  first | refine RetP.drop0 (Or.inr rfl) ?_ ?_ hwf | refine RetP.drop (Or.inr rfl) ?_ ?_ hwf
  · simp only [resA, resOne, resTv, AV.tv, push_cast, simprocAttr]
  · rfl
theorem vecTo_c (a b c : Int) (m : AMem) : Ctr Try.prog 30 [.agg [.int .i64 a, .int .i64 b, .int .i64 c]] m (.agg [.int .i64 a, .int .i64 b, .int .i64 c]) m := by
  refine Ctr.enter Try.func30 rfl (by decide) (rs := [.cell 2 73]) (nt := 10) rfl rfl fun hwf Q hQ => ?_
  iterate 2
    refine AW.seq_k fun K hK => ?_
    refine AW.region (by decide) ?_
    simp only [push_cast, simprocAttr]
    refine Thn_n ?_
    refine hK _ _ ?_
    clear hK K
  refine AW.ret ?_
  refine hQ _ _ _ ?_
  first | refine RetP.drop0 (Or.inr rfl) ?_ ?_ hwf | refine RetP.drop (Or.inr rfl) ?_ ?_ hwf
  · simp only [resA, resOne, resTv, AV.tv, push_cast, simprocAttr]
  · rfl
theorem toSheet_c (W H : Int) (r n : Nat) (G : Nat → Nat → Int) (m : AMem) (hp : HRow m 75 r n G) (hn : n ≤ 1048576) : Ctr Try.prog 29 [.agg [.int .i64 W, .int .i64 H, .sl r 0 0 n]] m (.agg [.int .i64 W, .int .i64 H, .sl m.length 0 0 n]) (m ++ [⟨.grow, 68, 0, 3, dl n G⟩]) := by
  refine Ctr.enter Try.func29 rfl (by decide) (rs := [.cell 2 35]) (nt := 28) rfl rfl fun hwf Q hQ => ?_
  obtain ⟨k0, ez, hb⟩ := hp.hb
  have hr := get_lt hb
  have hlt0 : ∀ k, ¬ m.length + k < m.length := fun k => by omega
  iterate 2
    refine AW.seq_k fun K hK => ?_
    refine AW.region (by decide) ?_
    simp only [push_cast, simprocAttr, hb, lk_old hb, dl_len]
    refine Thn_n ?_
    refine hK _ _ ?_
    clear hK K
  refine AW.seq_k fun K hK => ?_
  refine AW.seq_k fun K hK => ?_
  refine AW.region (by decide) ?_
  simp only [push_cast, simprocAttr, hb, lk_old hb, dl_len]
  refine Thn_n ?_
  refine hK _ _ ?_
  clear hK K
  refine AW.block ?_
  refine AW.nilCell 68 3 (m.length + 2) 2 (by simp only [push_cast, simprocAttr, hb, lk_old hb, dl_len]; first | done | rfl) (by intro e; cases e) rfl ?_
  try simp only [push_cast, simprocAttr, hb, lk_old hb, dl_len]
  refine AW.loopK [2, 3, 13, 14] (fun i => i ≤ n) (fun i => [(15, .one (.int .i64 (i : Int)))]) (fun i => [(m.length + 2, ⟨.fix, 35, 0, 0, [.int .i64 W, .int .i64 H, .sl (m.length + 3) i 0 i]⟩), (m.length + 3, ⟨.grow, 68, i, 3, dl i G⟩)]) (fun i => n - i) 0 (by omega) ?_ ?_ fun i hi5 => ?_
  · first | rfl | (simp only [Keeps, Tm.get_cons, Nat.reduceEqDiff, ↓reduceIte, if_true, if_false, ite_true, ite_false, true_and, and_true, and_self, reduceCtorEq, dl, Int.natCast_zero] <;> rfl)
  · first | rfl | (simp only [setAll, push_cast, simprocAttr, hb, lk_old hb, dl_len, dl, Int.natCast_zero] <;> rfl)
  try simp only [keepL, setAll, push_cast, simprocAttr, hb, lk_old hb, dl_len]
  refine AW.seq_k fun K hK => ?_
  refine AW.region (by decide) ?_
  simp only [push_cast, simprocAttr, hb, lk_old hb, dl_len]
  refine Thn_n ?_
  refine hK _ _ ?_
  clear hK K
  refine AW.seq_k fun K hK => ?_
  refine AW.cond rfl (fun h16 => ?_) (fun h16 => ?_)
  · have hlt : i < n := by have := of_decide_eq_true h16; omega
    have c1 : (0 : Int) ≤ (i : Int) := by omega
    have c2 : (i : Int) < (n : Int) := by omega
    have c3 : i * 3 + 3 ≤ n * 3 := by omega
    have g0 := dl_get0 (G := G) hlt
    have g1 := dl_get1 (G := G) hlt
    have g2 := dl_get2 (G := G) hlt
    have gi := dl_len i G
    have q1 : i + 1 ≤ 140737488355328 := by omega
    have q2 : (i + 1) * 24 ≤ 140737488355328 := by omega
    refine AW.skip ?_
    refine Thn_n ?_
    refine hK _ _ ?_
    clear hK K
    refine AW.seq_k fun K hK => ?_
    refine AW.block ?_
    refine AW.seq_k fun K hK => ?_
    refine AW.region (by decide) ?_
    simp only [push_cast, simprocAttr, hb, lk_old hb, dl_len, c1, c2, c3, g0, g1, g2, gi, q1, q2]
    refine Thn_n ?_
    refine hK _ _ ?_
    clear hK K
    refine AW.draw [.val, .rd 0, .rd 0, .ext, .ext, .wr, .val, .wr] fol (by decide) (by kernel_rfl) ?_
    simp only [push_cast, simprocAttr, hb, lk_old hb, dl_len, c1, c2, c3, g0, g1, g2, gi, q1, q2]
    refine DCall.by0 (hueTo_c _ _ _ _) ?_
    simp only [push_cast, simprocAttr, hb, lk_old hb, dl_len, c1, c2, c3, g0, g1, g2, gi, q1, q2]
    refine DExt.by (by first | rfl | (simp only [List.append_assoc, List.cons_append, List.nil_append]; rfl)) ?_
    simp only [push_cast, simprocAttr, hb, lk_old hb, dl_len, c1, c2, c3, g0, g1, g2, gi, q1, q2]
    refine InB_n ?_
    refine Thn_n ?_
    refine hK _ _ ?_
    clear hK K
    refine AW.region (by decide) ?_
    simp only [push_cast, simprocAttr, hb, lk_old hb, dl_len, c1, c2, c3, g0, g1, g2, gi, q1, q2]
    refine Thn_n ?_
    have hwi : IntKind.i64.wrap ((i:Int)+1) = (i:Int)+1 := wi (by omega)
    refine ⟨i + 1, by omega, by omega, ?_⟩
    try simp only [keepL, setAll, push_cast, simprocAttr, hb, lk_old hb, dl_len, c1, c2, c3, g0, g1, g2, gi, q1, q2, hwi, dl_snoc]
    exact Weak.to (extra := [_, _]) (by simp only [Keeps, Tm.get_cons, Nat.reduceEqDiff, ↓reduceIte, if_true, if_false, ite_true, ite_false, true_and, and_true, and_self, reduceCtorEq, hwi, dl_snoc]) (by first | rfl | (simp only [List.append_assoc, List.cons_append, List.nil_append]; rfl)) (by first | rfl | (simp [AV.below, CV.below, dl_below]; done) | (simp [AV.below, CV.below, dl_below]; omega)) (by
      first | exact hwf | refine MWf.app (hwf.grow (by simp)) ?_
      repeat (first | exact MWf_nil | (refine MWf_cons ?_ ?_; · first | rfl | (simp [CV.below, dl_below]; done) | (simp [CV.below, dl_below]; omega))))
  · have hin : n = i := by have := of_decide_eq_false h16; omega
    subst hin
    refine AW.exit ?_
    refine Thn_e ?_
    clear hK K
    refine Thn_e ?_
    refine InB_here ?_
    refine Thn_n ?_
    refine hK _ _ ?_
    clear hK K
    refine AW.seq_k fun K hK => ?_
    refine AW.region (by decide) ?_
    simp only [push_cast, simprocAttr, hb, lk_old hb, dl_len]
    refine Thn_n ?_
    refine hK _ _ ?_
    clear hK K
    refine AW.ret ?_
    refine hQ _ _ _ ?_
    refine RetP.pick [(m.length + 3, n)] (Or.inr rfl) ?_ ?_ ?_ hwf ?_
    · simp only [resA, resOne, resTv, AV.tv, push_cast, simprocAttr]
      simp [renV, renT, renL, renC, renIdx, hlt0]
    · simp only [picks, push_cast, simprocAttr]
    · simp [distinctFrom]
    · exact MWf_one (dl_below _ _ _)
    
end Go.Proofs.Ytgbehbaecdepjaa
