/- Walks and facts of this seat's program over abstract states, printed by a program of mine; no conditions but those that each theorem names. -/
import Derived.Test.YtppolbilohkjmaaPlan12
import Derived.Test.YtppolbilohkjmaaEngU
set_option linter.unusedSimpArgs false
set_option linter.unusedVariables false
set_option maxRecDepth 100000
set_option maxHeartbeats 4000000
namespace Go.Proofs.Ytppolbilohkjmaa
open Go Go.Eng

theorem il_take {n k : Nat} {f : Nat → Int} (h : k ≤ n) : (il n f).take k = il k f := by
  refine il_of (by rw [List.length_take, il_len]; omega) fun i hi => ?_
  rw [List.getElem?_take, if_pos hi, il_get (by omega)]
theorem il_app {a b : Nat} {f g h : Nat → Int} (h1 : ∀ i, i < a → f i = h i) (h2 : ∀ j, j < b → g j = h (a + j)) : il a f ++ il b g = il (a + b) h := by
  refine il_of (by rw [List.length_append, il_len, il_len]) fun i hi => ?_
  rcases Nat.lt_or_ge i a with c | c
  · rw [List.getElem?_append_left (by rw [il_len]; exact c), il_get c, h1 i c]
  · rw [List.getElem?_append_right (by rw [il_len]; exact c), il_len, il_get (by omega), h2 _ (by omega), show a + (i - a) = i by omega]
theorem oF_left {a b : List Nat} {i : Nat} (h : i < a.length) : oF (a ++ b) i = oF a i := by
  simp only [oF, List.getD_eq_getElem?_getD, List.getElem?_append_left h]
theorem oF_right {a b : List Nat} {j : Nat} : oF (a ++ b) (a.length + j) = oF b j := by
  simp only [oF, List.getD_eq_getElem?_getD]
  rw [List.getElem?_append_right (by omega), Nat.add_sub_cancel_left]
theorem oF_row {ln : Nat → Nat} {q : Nat → Nat → Int} {x j : Nat} (hj : j < ln x) : oF (rowL ln q x) j = (nd q x j : Int) := by
  simp only [oF, rowL, List.getD_eq_getElem?_getD, List.getElem?_map, List.getElem?_range hj]; rfl
theorem row_il {N : Nat} {ln : Nat → Nat} {q : Nat → Nat → Int} (h : AllP N ln q) {x : Nat} (hx : x < N) : il (ln x) (oF (rowL ln q x)) = il (ln x) (q x) :=
  il_congr fun j hj => by rw [oF_row hj, (all_nd h hx hj).2]
theorem row_len {ln : Nat → Nat} {q : Nat → Nat → Int} {x : Nat} : (rowL ln q x).length = ln x := by simp [rowL]
/-- A stack's top taken off, a row laid on. -/
theorem st_last {st : List Nat} (hne : st ≠ []) : ∃ n x, st.length = n + 1 ∧ st.dropLast.length = n ∧ st.getLast? = some x ∧ x ∈ st ∧ oF st n = (x : Int) ∧ (il (n + 1) (oF st)).take n = il n (oF st.dropLast) := by
  have hl := List.length_pos_iff.2 hne
  have hd : st.dropLast.length = st.length - 1 := List.length_dropLast
  refine ⟨st.length - 1, st.getLast hne, by omega, hd, List.getLast?_eq_some_getLast hne, List.getLast_mem hne, ?_, ?_⟩
  · rw [oF, List.getD_eq_getElem?_getD, ← List.getLast?_eq_getElem?, List.getLast?_eq_some_getLast hne]; rfl
  · rw [il_take (by omega)]
    refine il_congr fun i hi => ?_
    rw [← oF_left (a := st.dropLast) (b := [st.getLast hne]) (by omega), List.dropLast_concat_getLast]
theorem st_push {N n : Nat} {ln : Nat → Nat} {q : Nat → Nat → Int} (h : AllP N ln q) {x : Nat} (hx : x < N) {dl : List Nat} (hd : dl.length = n) : il n (oF dl) ++ il (ln x) (q x) = il (n + ln x) (oF (dl ++ rowL ln q x)) := by
  subst hd
  refine il_app (fun i hi => (oF_left hi).symm) fun j hj => ?_
  rw [oF_right, oF_row hj, (all_nd h hx hj).2]
def flt (s : Nat → Bool) (k : Nat) : List Nat := (List.range k).filter s
theorem flt_t {s : Nat → Bool} {k : Nat} (h : s k = true) : flt s (k + 1) = flt s k ++ [k] := by
  rw [flt, List.range_succ, List.filter_append, List.filter_cons, if_pos h]; rfl
theorem flt_f {s : Nat → Bool} {k : Nat} (h : s k = false) : flt s (k + 1) = flt s k := by
  rw [flt, List.range_succ, List.filter_append, List.filter_cons, if_neg (by rw [h]; simp)]; simp [flt]
theorem flt_len {s : Nat → Bool} {k : Nat} : (flt s k).length ≤ k := by
  have := List.length_filter_le s (List.range k)
  rw [List.length_range] at this; exact this
theorem clone_pos (r n : Nat) (f : Nat → Int) (m : AMem) (hp : IntsAt m r 0 n f) (hn : n ≤ 1048576) (h0 : 0 < n) : Ctr Try.prog 24 [.one (.sl r 0 0 n)] m (.one (.sl m.length 0 0 n)) (m ++ [⟨.grow, 3, 0, 1, il n f⟩]) := by
  refine Ctr.enter Try.func24 rfl (by decide) (rs := [.tmp 2]) (nt := 8) rfl rfl fun hwf Q hQ => ?_
  obtain ⟨k0, ez, hb⟩ := hp.hb
  have hr := get_lt hb
  have hlt0 : ∀ k, ¬ m.length + k < m.length := fun k => by omega
  have q1 : n ≤ 140737488355328 := by omega
  have q2 : n * 8 ≤ 140737488355328 := by omega
  have hvals := il_vals n f
  have hti := List.take_of_length_le (l := il n f) (i := n) (by rw [il_len]; exact Nat.le_refl _)
  have hlen0 := il_len n f
  refine AW.seq_k fun K hK => ?_
  refine AW.region (by decide) ?_
  simp only [push_cast, Nat.reduceAdd, Nat.reduceMul, Nat.reduceSub, Nat.reduceLeDiff, Nat.reduceLT, Nat.reduceEqDiff, Nat.reduceBEq, Nat.reduceBNe, Nat.reduceMod, Nat.reduceDiv, Int.reduceLE, Int.reduceLT, Int.reduceToNat, Int.reduceAdd, Int.reduceSub, Int.reduceMul, Int.reduceNeg, Int.reduceEq, Int.reduceBEq, Int.reduceBNe, ↓reduceIte, reduceCtorEq, String.reduceBNe, String.reduceEq, reduceDIte, Nat.reducePow, hb, lk_old hb, q1, q2, hvals, hti, hlen0, Nat.zero_add, List.nil_append, h0]
  refine Thn_n ?_
  refine hK _ _ ?_
  clear hK K
  refine AW.seq_k fun K hK => ?_
  refine AW.seq_k fun K hK => ?_
  refine AW.region (by decide) ?_
  simp only [push_cast, Nat.reduceAdd, Nat.reduceMul, Nat.reduceSub, Nat.reduceLeDiff, Nat.reduceLT, Nat.reduceEqDiff, Nat.reduceBEq, Nat.reduceBNe, Nat.reduceMod, Nat.reduceDiv, Int.reduceLE, Int.reduceLT, Int.reduceToNat, Int.reduceAdd, Int.reduceSub, Int.reduceMul, Int.reduceNeg, Int.reduceEq, Int.reduceBEq, Int.reduceBNe, ↓reduceIte, reduceCtorEq, String.reduceBNe, String.reduceEq, reduceDIte, Nat.reducePow, hb, lk_old hb, q1, q2, hvals, hti, hlen0, Nat.zero_add, List.nil_append, h0]
  refine Thn_n ?_
  refine hK _ _ ?_
  clear hK K
  refine AW.cond_f rfl ?_
  refine AW.skip ?_
  refine Thn_n ?_
  refine hK _ _ ?_
  clear hK K
  refine AW.seq_k fun K hK => ?_
  refine AW.region (by decide) ?_
  simp only [push_cast, Nat.reduceAdd, Nat.reduceMul, Nat.reduceSub, Nat.reduceLeDiff, Nat.reduceLT, Nat.reduceEqDiff, Nat.reduceBEq, Nat.reduceBNe, Nat.reduceMod, Nat.reduceDiv, Int.reduceLE, Int.reduceLT, Int.reduceToNat, Int.reduceAdd, Int.reduceSub, Int.reduceMul, Int.reduceNeg, Int.reduceEq, Int.reduceBEq, Int.reduceBNe, ↓reduceIte, reduceCtorEq, String.reduceBNe, String.reduceEq, reduceDIte, Nat.reducePow, hb, lk_old hb, q1, q2, hvals, hti, hlen0, Nat.zero_add, List.nil_append, h0]
  refine Thn_n ?_
  refine hK _ _ ?_
  clear hK K
  refine AW.ret ?_
  refine hQ _ _ _ ?_
  refine RetP.pick [(m.length, 1)] (Or.inr rfl) ?_ ?_ ?_ hwf ?_
  · simp only [resA, resOne, resTv, AV.tv, push_cast, Nat.reduceAdd, Nat.reduceMul, Nat.reduceSub, Nat.reduceLeDiff, Nat.reduceLT, Nat.reduceEqDiff, Nat.reduceBEq, Nat.reduceBNe, Nat.reduceMod, Nat.reduceDiv, Int.reduceLE, Int.reduceLT, Int.reduceToNat, Int.reduceAdd, Int.reduceSub, Int.reduceMul, Int.reduceNeg, Int.reduceEq, Int.reduceBEq, Int.reduceBNe, ↓reduceIte, reduceCtorEq, String.reduceBNe, String.reduceEq, reduceDIte, Nat.reducePow]
    simp [renV, renT, renL, renC, renIdx, hlt0]
  · (simp only [picks, push_cast, Nat.reduceAdd, Nat.reduceMul, Nat.reduceSub, Nat.reduceLeDiff, Nat.reduceLT, Nat.reduceEqDiff, Nat.reduceBEq, Nat.reduceBNe, Nat.reduceMod, Nat.reduceDiv, Int.reduceLE, Int.reduceLT, Int.reduceToNat, Int.reduceAdd, Int.reduceSub, Int.reduceMul, Int.reduceNeg, Int.reduceEq, Int.reduceBEq, Int.reduceBNe, ↓reduceIte, reduceCtorEq, String.reduceBNe, String.reduceEq, reduceDIte, Nat.reducePow]) <;> (simp only [il])
  · simp [distinctFrom]
  · exact MWf_one (il_below _ _ _)
  
theorem clone_nil (r n : Nat) (f : Nat → Int) (m : AMem) (hp : IntsAt m r 0 n f) (hn : n ≤ 1048576) (h0 : n = 0) : Ctr Try.prog 24 [.one (.sl r 0 0 n)] m (.one (.sl m.length 0 0 n)) (m ++ [⟨.grow, 3, 0, 1, il n f⟩]) := by
  refine Ctr.enter Try.func24 rfl (by decide) (rs := [.tmp 2]) (nt := 8) rfl rfl fun hwf Q hQ => ?_
  obtain ⟨k0, ez, hb⟩ := hp.hb
  have hr := get_lt hb
  have hlt0 : ∀ k, ¬ m.length + k < m.length := fun k => by omega
  have q1 : n ≤ 140737488355328 := by omega
  have q2 : n * 8 ≤ 140737488355328 := by omega
  have hvals := il_vals n f
  have hti := List.take_of_length_le (l := il n f) (i := n) (by rw [il_len]; exact Nat.le_refl _)
  have hlen0 := il_len n f
  subst h0
  refine AW.seq_k fun K hK => ?_
  refine AW.region (by decide) ?_
  simp only [push_cast, Nat.reduceAdd, Nat.reduceMul, Nat.reduceSub, Nat.reduceLeDiff, Nat.reduceLT, Nat.reduceEqDiff, Nat.reduceBEq, Nat.reduceBNe, Nat.reduceMod, Nat.reduceDiv, Int.reduceLE, Int.reduceLT, Int.reduceToNat, Int.reduceAdd, Int.reduceSub, Int.reduceMul, Int.reduceNeg, Int.reduceEq, Int.reduceBEq, Int.reduceBNe, ↓reduceIte, reduceCtorEq, String.reduceBNe, String.reduceEq, reduceDIte, Nat.reducePow, hb, lk_old hb, q1, q2, hvals, hti, hlen0, Nat.zero_add, List.nil_append]
  refine Thn_n ?_
  refine hK _ _ ?_
  clear hK K
  refine AW.seq_k fun K hK => ?_
  refine AW.seq_k fun K hK => ?_
  refine AW.eqNil (by decide) ?_
  simp only [nilEqA, push_cast, Nat.reduceAdd, Nat.reduceMul, Nat.reduceSub, Nat.reduceLeDiff, Nat.reduceLT, Nat.reduceEqDiff, Nat.reduceBEq, Nat.reduceBNe, Nat.reduceMod, Nat.reduceDiv, Int.reduceLE, Int.reduceLT, Int.reduceToNat, Int.reduceAdd, Int.reduceSub, Int.reduceMul, Int.reduceNeg, Int.reduceEq, Int.reduceBEq, Int.reduceBNe, ↓reduceIte, reduceCtorEq, String.reduceBNe, String.reduceEq, reduceDIte, Nat.reducePow, hb, lk_old hb, q1, q2, hvals, hti, hlen0, Nat.zero_add, List.nil_append]
  first | refine ⟨rfl, rfl, fun z => ?_⟩ | refine ⟨rfl, fun z => ?_⟩ | refine fun z => ?_
  refine Thn_n ?_
  refine hK _ _ ?_
  clear hK K
  refine AW.cond rfl (fun h4 => ?_) (fun h4 => ?_)
  · refine AW.seq_k fun K hK => ?_
    refine AW.region (by decide) ?_
    simp only [push_cast, Nat.reduceAdd, Nat.reduceMul, Nat.reduceSub, Nat.reduceLeDiff, Nat.reduceLT, Nat.reduceEqDiff, Nat.reduceBEq, Nat.reduceBNe, Nat.reduceMod, Nat.reduceDiv, Int.reduceLE, Int.reduceLT, Int.reduceToNat, Int.reduceAdd, Int.reduceSub, Int.reduceMul, Int.reduceNeg, Int.reduceEq, Int.reduceBEq, Int.reduceBNe, ↓reduceIte, reduceCtorEq, String.reduceBNe, String.reduceEq, reduceDIte, Nat.reducePow, hb, lk_old hb, q1, q2, hvals, hti, hlen0, Nat.zero_add, List.nil_append]
    refine Thn_n ?_
    refine hK _ _ ?_
    clear hK K
    refine AW.nilTmV 3 1 1 2 rfl ?_
    refine AW.ret ?_
    refine Thn_r ?_
    refine hQ _ _ _ ?_
    refine RetP.pick [(m.length, 1)] (Or.inr rfl) ?_ ?_ ?_ hwf ?_
    · simp only [resA, resOne, resTv, AV.tv, push_cast, Nat.reduceAdd, Nat.reduceMul, Nat.reduceSub, Nat.reduceLeDiff, Nat.reduceLT, Nat.reduceEqDiff, Nat.reduceBEq, Nat.reduceBNe, Nat.reduceMod, Nat.reduceDiv, Int.reduceLE, Int.reduceLT, Int.reduceToNat, Int.reduceAdd, Int.reduceSub, Int.reduceMul, Int.reduceNeg, Int.reduceEq, Int.reduceBEq, Int.reduceBNe, ↓reduceIte, reduceCtorEq, String.reduceBNe, String.reduceEq, reduceDIte, Nat.reducePow]
      simp [renV, renT, renL, renC, renIdx, hlt0]
    · (simp only [picks, push_cast, Nat.reduceAdd, Nat.reduceMul, Nat.reduceSub, Nat.reduceLeDiff, Nat.reduceLT, Nat.reduceEqDiff, Nat.reduceBEq, Nat.reduceBNe, Nat.reduceMod, Nat.reduceDiv, Int.reduceLE, Int.reduceLT, Int.reduceToNat, Int.reduceAdd, Int.reduceSub, Int.reduceMul, Int.reduceNeg, Int.reduceEq, Int.reduceBEq, Int.reduceBNe, ↓reduceIte, reduceCtorEq, String.reduceBNe, String.reduceEq, reduceDIte, Nat.reducePow]) <;> (simp only [il])
    · simp [distinctFrom]
    · exact MWf_one (il_below _ _ _)
    
  · refine AW.skip ?_
    refine Thn_n ?_
    refine hK _ _ ?_
    clear hK K
    refine AW.seq_k fun K hK => ?_
    refine AW.region (by decide) ?_
    simp only [push_cast, Nat.reduceAdd, Nat.reduceMul, Nat.reduceSub, Nat.reduceLeDiff, Nat.reduceLT, Nat.reduceEqDiff, Nat.reduceBEq, Nat.reduceBNe, Nat.reduceMod, Nat.reduceDiv, Int.reduceLE, Int.reduceLT, Int.reduceToNat, Int.reduceAdd, Int.reduceSub, Int.reduceMul, Int.reduceNeg, Int.reduceEq, Int.reduceBEq, Int.reduceBNe, ↓reduceIte, reduceCtorEq, String.reduceBNe, String.reduceEq, reduceDIte, Nat.reducePow, hb, lk_old hb, q1, q2, hvals, hti, hlen0, Nat.zero_add, List.nil_append]
    refine Thn_n ?_
    refine hK _ _ ?_
    clear hK K
    refine AW.ret ?_
    refine hQ _ _ _ ?_
    refine RetP.pick [(m.length, 1)] (Or.inr rfl) ?_ ?_ ?_ hwf ?_
    · simp only [resA, resOne, resTv, AV.tv, push_cast, Nat.reduceAdd, Nat.reduceMul, Nat.reduceSub, Nat.reduceLeDiff, Nat.reduceLT, Nat.reduceEqDiff, Nat.reduceBEq, Nat.reduceBNe, Nat.reduceMod, Nat.reduceDiv, Int.reduceLE, Int.reduceLT, Int.reduceToNat, Int.reduceAdd, Int.reduceSub, Int.reduceMul, Int.reduceNeg, Int.reduceEq, Int.reduceBEq, Int.reduceBNe, ↓reduceIte, reduceCtorEq, String.reduceBNe, String.reduceEq, reduceDIte, Nat.reducePow]
      simp [renV, renT, renL, renC, renIdx, hlt0]
    · (simp only [picks, push_cast, Nat.reduceAdd, Nat.reduceMul, Nat.reduceSub, Nat.reduceLeDiff, Nat.reduceLT, Nat.reduceEqDiff, Nat.reduceBEq, Nat.reduceBNe, Nat.reduceMod, Nat.reduceDiv, Int.reduceLE, Int.reduceLT, Int.reduceToNat, Int.reduceAdd, Int.reduceSub, Int.reduceMul, Int.reduceNeg, Int.reduceEq, Int.reduceBEq, Int.reduceBNe, ↓reduceIte, reduceCtorEq, String.reduceBNe, String.reduceEq, reduceDIte, Nat.reducePow]) <;> (simp only [il])
    · simp [distinctFrom]
    · exact MWf_one (il_below _ _ _)
    
theorem clone_c (r n : Nat) (f : Nat → Int) (m : AMem) (hp : IntsAt m r 0 n f) (hn : n ≤ 1048576) : Ctr Try.prog 24 [.one (.sl r 0 0 n)] m (.one (.sl m.length 0 0 n)) (m ++ [⟨.grow, 3, 0, 1, il n f⟩]) := by
  rcases Nat.eq_zero_or_pos n with h | h
  · exact clone_nil r n f m hp hn h
  · exact clone_pos r n f m hp hn h
end Go.Proofs.Ytppolbilohkjmaa
