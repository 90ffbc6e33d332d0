/- Walks and facts of this seat's program over abstract states, printed by a program of mine; no conditions but those that each theorem names. -/
import Derived.Test.YtmjbbnfmhgcfaaaStampF
set_option linter.unusedSimpArgs false
set_option linter.unusedVariables false
set_option maxRecDepth 100000
set_option maxHeartbeats 4000000
namespace Go.Proofs.Ytmjbbnfmhgcfaaa
open Go Go.Eng

theorem ndL_nodup (i : Nat) : (ndL i).Nodup := by
  unfold ndL
  split
  · exact List.nodup_nil
  · split
    · split
      · simp
      · have h5 : 5 ≤ i := by omega
        simp only [List.nodup_cons, List.mem_cons, List.not_mem_nil, or_false, not_or, List.nodup_nil, not_false_eq_true, and_true]
        omega
    · split
      · have h2 : 2 ≤ i := by omega
        simp only [List.nodup_cons, List.mem_cons, List.not_mem_nil, or_false, List.nodup_nil, not_false_eq_true, and_true]
        omega
      · simp
theorem oF_get {xs : List Nat} {j : Nat} (h : j < xs.length) : oF xs j = ((xs[j] : Nat) : Int) := by
  rw [oF, List.getD_eq_getElem?_getD, List.getElem?_eq_getElem h]; rfl
theorem nd_good (N : Nat) : AllP N (fun i => (ndL i).length) (fun i => oF (ndL i)) := fun a b ha hb => by
  have hb : b < (ndL a).length := hb
  have h1 : (ndL a)[b] < a := ndL_lt a _ (List.getElem_mem hb)
  have h2 : inL b (oF (ndL a)) (oF (ndL a) b) = false := by
    cases e : inL b (oF (ndL a)) (oF (ndL a) b)
    · rfl
    · obtain ⟨k, hk, he⟩ := inL_iff.1 e
      rw [oF_get hb, oF_get (Nat.lt_trans hk hb)] at he
      have hn := List.pairwise_iff_getElem.1 (ndL_nodup a) k b (Nat.lt_trans hk hb) hb hk
      exact absurd (by omega) hn
  simp only [goodP, h2]
  have e := oF_get hb
  have e1 : 0 ≤ oF (ndL a) b := by omega
  have e2 : oF (ndL a) b < (N : Int) := by omega
  rw [decide_eq_true e1, decide_eq_true e2]; rfl
theorem rng_contains (k i : Nat) : (List.range k).contains i = decide (i < k) := by
  rw [Bool.eq_iff_iff]; simp
theorem nd_order (N : Nat) : ∀ k, k ≤ N → itO N (fun i => (ndL i).length) (fun i => oF (ndL i)) k = List.range k
  | 0, _ => rfl
  | k + 1, h => by
    have ih := nd_order N k (by omega)
    have hx : nextO N (fun i => (ndL i).length) (fun i => oF (ndL i)) (itO N (fun i => (ndL i).length) (fun i => oF (ndL i)) k) = some k := by
      rw [ih]
      refine next_some (by omega) ?_ fun j hj => ?_
      · simp only [mayB, memO_nat, rng_contains]
        rw [decide_eq_false (by omega), Bool.not_false, Bool.true_and, List.all_eq_true]
        intro j hj
        have hj := List.mem_range.1 hj
        rw [oF_get hj, memO_nat, rng_contains]
        exact decide_eq_true (ndL_lt k _ (List.getElem_mem hj))
      · simp only [mayB, memO_nat, rng_contains]
        rw [decide_eq_true hj]; rfl
    simp only [itO]
    rw [hx, ih, List.range_succ]
theorem nd_check (N : Nat) (h : N ≤ 256) : CheckZ N (fun i => (ndL i).length) (fun i => oF (ndL i)) 0 := by
  refine .inr (.inr ⟨h, nd_good N, ?_⟩)
  rw [okZ, nd_order N N (Nat.le_refl _), List.length_range, if_neg (by omega)]
theorem rng_oF {N i : Nat} (h : i < N) : oF (List.range N) i = (i : Int) := by
  rw [oF_get (by rw [List.length_range]; exact h), List.getElem_range]
/-- The plan of works, as the plan's texts want it. -/
theorem plan_rows (J : List Int) (b n : Nat) (M : AMem) : RowsAt (M ++ (⟨.grow, 37, n, 1, pR M.length n⟩ :: pE J b n)) M.length n n (fun i => (ndL i).length) (fun i => oF (ndL i)) := by
  refine ⟨.grow, 1, _, _, by rw [List.getElem?_append_right (Nat.le_refl _), Nat.sub_self, ← pR_rl]; rfl, fun i hi => ⟨.grow, 1, ?_⟩⟩
  rw [List.getElem?_append_right (by omega), show M.length + (2 * i + 2) - M.length = 2 * i + 1 + 1 by omega, List.getElem?_cons_succ, pE_get J b hi, nl_il]
end Go.Proofs.Ytmjbbnfmhgcfaaa
