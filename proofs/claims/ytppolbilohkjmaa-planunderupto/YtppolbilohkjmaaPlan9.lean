/- Walks and facts of this seat's program over abstract states, printed by a program of mine; no conditions but those that each theorem names. -/
import Derived.Test.YtppolbilohkjmaaPlan8
set_option linter.unusedSimpArgs false
set_option linter.unusedVariables false
set_option maxRecDepth 100000
set_option maxHeartbeats 4000000
namespace Go.Proofs.Ytppolbilohkjmaa
open Go Go.Eng

/-- How deep a step lies. -/
def mxF (g : Nat → Int) : Nat → Int
  | 0 => 0
  | j + 1 => maxI (mxF g j) (g j)
def dpF (ln : Nat → Nat) (q : Nat → Nat → Int) (o : List Nat) : Nat → Nat → Int
  | 0 => fun _ => 0
  | k + 1 => updI (dpF ln q o k) (o.getD k 0) (mxF (fun j => dpF ln q o k (q (o.getD k 0) j).toNat) (ln (o.getD k 0)) + 1)
theorem mxF_0 (g : Nat → Int) : ∀ n, 0 ≤ mxF g n
  | 0 => Int.le_refl _
  | n + 1 => by have := mxF_0 g n; simp only [mxF, maxI]; split <;> omega
theorem mxF_ge {g : Nat → Int} : ∀ {n j}, j < n → g j ≤ mxF g n
  | n + 1, j, h => by
    simp only [mxF, maxI]
    rcases Nat.lt_or_ge j n with h1 | h1
    · have := mxF_ge (g := g) h1; split <;> omega
    · have e : j = n := by omega
      subst e; split <;> omega
theorem mxF_le {g : Nat → Int} {x : Int} (h0 : 0 ≤ x) : ∀ {n}, (∀ j, j < n → g j ≤ x) → mxF g n ≤ x
  | 0, _ => h0
  | n + 1, h => by
    have := mxF_le (g := g) h0 (n := n) fun j hj => h j (by omega)
    have := h n (by omega)
    simp only [mxF, maxI]; split <;> omega
theorem mxF_congr {g h : Nat → Int} : ∀ {n}, (∀ j, j < n → g j = h j) → mxF g n = mxF h n
  | 0, _ => rfl
  | n + 1, e => by simp only [mxF]; rw [mxF_congr (n := n) fun j hj => e j (by omega), e n (by omega)]
section
variable {N : Nat} {ln : Nat → Nat} {q : Nat → Nat → Int}
theorem dp_le {o : List Nat} : ∀ k i, 0 ≤ dpF ln q o k i ∧ dpF ln q o k i ≤ (k : Int)
  | 0, _ => ⟨Int.le_refl _, Int.le_refl _⟩
  | k + 1, i => by
    have ih := dp_le (o := o) k
    simp only [dpF, updI]; split
    · have h0 := mxF_0 (fun j => dpF ln q o k (q (o.getD k 0) j).toNat) (ln (o.getD k 0))
      have h1 := mxF_le (g := fun j => dpF ln q o k (q (o.getD k 0) j).toNat) (x := (k : Int)) (by omega) (n := ln (o.getD k 0)) fun j _ => (ih _).2
      omega
    · have := ih i; omega
/-- What was reckoned stays. -/
theorem dp_stay {o : List Nat} (hn : o.Nodup) : ∀ d k p, p < k → k + d ≤ o.length → dpF ln q o (k + d) (o.getD p 0) = dpF ln q o k (o.getD p 0)
  | 0, _, _, _, _ => rfl
  | d + 1, k, p, hp, hk => by
    rw [show k + (d + 1) = (k + d) + 1 by omega, dpF]
    simp only [updI]
    rw [if_neg, dp_stay hn d k p hp (by omega)]
    have e1 : o.getD p 0 = o[p] := by rw [List.getD_eq_getElem?_getD, List.getElem?_eq_getElem (by omega)]; rfl
    have e2 : o.getD (k + d) 0 = o[k + d] := by rw [List.getD_eq_getElem?_getD, List.getElem?_eq_getElem (by omega)]; rfl
    rw [e1, e2]
    exact List.pairwise_iff_getElem.1 hn p (k + d) (by omega) (by omega) (by omega)
def D (N : Nat) (ln : Nat → Nat) (q : Nat → Nat → Int) : Nat → Int := dpF ln q (itO N ln q N) N
/-- The needs of a step, and how deep it lies. -/
theorem D_at (h : (itO N ln q N).length = N) (k : Nat) (hk : k < N) :
    (∀ j, j < ln ((itO N ln q N).getD k 0) → ∃ p, p < k ∧ q ((itO N ln q N).getD k 0) j = (((itO N ln q N).getD p 0 : Nat) : Int)) ∧
    D N ln q ((itO N ln q N).getD k 0) = mxF (fun j => D N ln q (q ((itO N ln q N).getD k 0) j).toNat) (ln ((itO N ln q N).getD k 0)) + 1 := by
  have hn := (it_ok N ln q N).1
  obtain ⟨i, h1, h2, h3, h4⟩ := it_at h k hk
  have hg : ∀ {p' i' : Nat}, (itO N ln q N)[p']? = some i' → (itO N ln q N).getD p' 0 = i' := fun e => by rw [List.getD_eq_getElem?_getD, e]; rfl
  have hneed : ∀ j, j < ln ((itO N ln q N).getD k 0) → ∃ p, p < k ∧ q ((itO N ln q N).getD k 0) j = (((itO N ln q N).getD p 0 : Nat) : Int) := fun j hj => by
    rw [hg h2] at hj ⊢
    obtain ⟨y, hy, e⟩ := memO_iff.1 (h4 j hj)
    obtain ⟨p, hp, hy'⟩ := h3 y hy
    exact ⟨p, hp, by rw [hg hy', e]⟩
  refine ⟨hneed, ?_⟩
  have e1 := dp_stay (ln := ln) (q := q) hn (N - (k + 1)) (k + 1) k (by omega) (by omega)
  rw [show k + 1 + (N - (k + 1)) = N by omega] at e1
  rw [D, e1, dpF]
  simp only [updI, if_true]
  congr 1
  refine mxF_congr fun j hj => ?_
  obtain ⟨p, hp, e⟩ := hneed j hj
  have e2 := dp_stay (ln := ln) (q := q) hn (N - k) k p hp (by omega)
  rw [show k + (N - k) = N by omega] at e2
  rw [e, Int.toNat_natCast, e2]
theorem D_all (h : (itO N ln q N).length = N) : mxF (fun k => D N ln q ((itO N ln q N).getD k 0)) N = mxF (D N ln q) N := by
  have hok := it_ok N ln q N
  refine Int.le_antisymm (mxF_le (mxF_0 _ _) fun k hk => ?_) (mxF_le (mxF_0 _ _) fun i hi => ?_)
  · refine mxF_ge (g := D N ln q) ?_
    rw [List.getD_eq_getElem?_getD, List.getElem?_eq_getElem (by omega)]
    exact hok.2 _ (List.getElem_mem _)
  · obtain ⟨p, hp⟩ := List.getElem?_of_mem (full_mem hok.1 hok.2 h hi)
    have hpl := (List.getElem?_eq_some_iff.1 hp).1
    have := mxF_ge (g := fun k => D N ln q ((itO N ln q N).getD k 0)) (show p < N by omega)
    simp only [List.getD_eq_getElem?_getD, hp] at this
    exact this
end
end Go.Proofs.Ytppolbilohkjmaa
