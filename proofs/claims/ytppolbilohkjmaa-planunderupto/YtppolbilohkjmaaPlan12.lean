/- Walks and facts of this seat's program over abstract states, printed by a program of mine; no conditions but those that each theorem names. -/
import Derived.Test.YtppolbilohkjmaaPlan11
set_option linter.unusedSimpArgs false
set_option linter.unusedVariables false
set_option maxRecDepth 100000
set_option maxHeartbeats 4000000
namespace Go.Proofs.Ytppolbilohkjmaa
open Go Go.Eng

/-- What lies under a step. -/
def nd (q : Nat → Nat → Int) (i j : Nat) : Nat := (q i j).toNat
def rowL (ln : Nat → Nat) (q : Nat → Nat → Int) (i : Nat) : List Nat := (List.range (ln i)).map (nd q i)
theorem rowL_mem {ln : Nat → Nat} {q : Nat → Nat → Int} {i x : Nat} : x ∈ rowL ln q i ↔ ∃ j, j < ln i ∧ nd q i j = x := by simp [rowL]
inductive RU (ln : Nat → Nat) (q : Nat → Nat → Int) (i : Nat) : Nat → Prop
  | base {j : Nat} : j < ln i → RU ln q i (nd q i j)
  | step {x j : Nat} : RU ln q i x → j < ln x → RU ln q i (nd q x j)
structure ClosedU (N : Nat) (ln : Nat → Nat) (q : Nat → Nat → Int) (i : Nat) (s : Nat → Bool) : Prop where
  ok : ∀ x, s x = true → x < N ∧ RU ln q i x
  b : ∀ j, j < ln i → s (nd q i j) = true
  c : ∀ x, s x = true → ∀ j, j < ln x → s (nd q x j) = true
theorem ClosedU.iff {N : Nat} {ln : Nat → Nat} {q : Nat → Nat → Int} {i : Nat} {s : Nat → Bool} (h : ClosedU N ln q i s) (x : Nat) : s x = true ↔ RU ln q i x := by
  constructor
  · exact fun hx => (h.ok x hx).2
  · intro hx
    induction hx with
    | base hj => exact h.b _ hj
    | step _ hj ih => exact h.c _ ih _ hj
theorem ClosedU.eq {N : Nat} {ln : Nat → Nat} {q : Nat → Nat → Int} {i : Nat} {s t : Nat → Bool} (h : ClosedU N ln q i s) (g : ClosedU N ln q i t) : s = t := by
  funext x
  rw [Bool.eq_iff_iff, h.iff, g.iff]
/-- The walk with a stack. -/
def dfS (ln : Nat → Nat) (q : Nat → Nat → Int) (p : List Nat × (Nat → Bool)) : List Nat × (Nat → Bool) :=
  match p.1.getLast? with
  | none => p
  | some x => if p.2 x then (p.1.dropLast, p.2) else (p.1.dropLast ++ rowL ln q x, updB p.2 x true)
def dfI (ln : Nat → Nat) (q : Nat → Nat → Int) (i : Nat) : Nat → List Nat × (Nat → Bool)
  | 0 => (rowL ln q i, fun _ => false)
  | k + 1 => dfS ln q (dfI ln q i k)
def unm (N : Nat) (s : Nat → Bool) : Nat := ((List.range N).filter fun x => !s x).length
theorem unm_upd {s : Nat → Bool} {x : Nat} (hs : s x = false) : ∀ N, unm N s = unm N (updB s x true) + if x < N then 1 else 0
  | 0 => by simp [unm]
  | N + 1 => by
    have ih := unm_upd hs N
    simp only [unm, List.range_succ, List.filter_append, List.length_append] at ih ⊢
    rw [ih]
    by_cases e : N = x
    · subst e; simp [hs, updB]
    · have h1 : updB s x true N = s N := by simp only [updB]; rw [if_neg e]
      simp only [List.filter_cons, List.filter_nil, h1]
      by_cases hx : x < N
      · have h2 : x < N + 1 := by omega
        simp only [hx, h2, if_true]; omega
      · have h2 : ¬ x < N + 1 := by omega
        simp only [hx, h2, if_false]; omega
def muU (N : Nat) (p : List Nat × (Nat → Bool)) : Nat := 41 * unm N p.2 + p.1.length
theorem muU_lt {N : Nat} {ln : Nat → Nat} {q : Nat → Nat → Int} {p : List Nat × (Nat → Bool)} (hne : p.1 ≠ []) (hN : ∀ x, x ∈ p.1 → x < N) (hl : ∀ x, x < N → ln x ≤ 40) : muU N (dfS ln q p) < muU N p := by
  obtain ⟨st, s⟩ := p
  simp only at hne hN
  have hx : st.getLast? = some (st.getLast hne) := List.getLast?_eq_some_getLast hne
  have hm := List.getLast_mem hne
  have hlen := List.length_pos_iff.2 hne
  simp only [dfS, hx]
  generalize st.getLast hne = x at *
  split
  · simp only [muU, List.length_dropLast]; omega
  · rename_i hs
    have h1 := unm_upd (s := s) (x := x) (by simpa using hs) N
    rw [if_pos (hN x hm)] at h1
    have := hl x (hN x hm)
    simp only [muU, List.length_append, List.length_dropLast, rowL, List.length_map, List.length_range]
    omega
structure InvU (N : Nat) (ln : Nat → Nat) (q : Nat → Nat → Int) (i : Nat) (p : List Nat × (Nat → Bool)) : Prop where
  st : ∀ x, x ∈ p.1 → x < N ∧ RU ln q i x
  ok : ∀ x, p.2 x = true → x < N ∧ RU ln q i x
  b : ∀ j, j < ln i → nd q i j ∈ p.1 ∨ p.2 (nd q i j) = true
  c : ∀ x, p.2 x = true → ∀ j, j < ln x → nd q x j ∈ p.1 ∨ p.2 (nd q x j) = true
theorem all_nd {N : Nat} {ln : Nat → Nat} {q : Nat → Nat → Int} (h : AllP N ln q) {x j : Nat} (hx : x < N) (hj : j < ln x) : nd q x j < N ∧ q x j = (nd q x j : Int) := by
  obtain ⟨h1, h2, _⟩ := goodP_t (h x j hx hj)
  unfold nd; omega
theorem InvU.next {N : Nat} {ln : Nat → Nat} {q : Nat → Nat → Int} {i : Nat} (hall : AllP N ln q) {p : List Nat × (Nat → Bool)} (h : InvU N ln q i p) : InvU N ln q i (dfS ln q p) := by
  obtain ⟨st, s⟩ := p
  by_cases hne : st = []
  · subst hne; exact h
  have hx : st.getLast? = some (st.getLast hne) := List.getLast?_eq_some_getLast hne
  have hm := List.getLast_mem hne
  have hsp : ∀ y, y ∈ st → y ∈ st.dropLast ∨ y = st.getLast hne := fun y hy => by
    rw [← List.dropLast_concat_getLast hne] at hy
    rcases List.mem_append.1 hy with h | h
    · exact .inl h
    · exact .inr (by simpa using h)
  have hdr : ∀ y, y ∈ st.dropLast → y ∈ st := fun y hy => (List.dropLast_sublist st).subset hy
  simp only [dfS, hx]
  generalize st.getLast hne = x at *
  obtain ⟨hxN, hxR⟩ := h.st x hm
  split
  · rename_i hs
    refine ⟨fun y hy => h.st y (hdr y hy), h.ok, fun j hj => ?_, fun y hy j hj => ?_⟩
    · rcases h.b j hj with h1 | h1
      · rcases hsp _ h1 with h2 | h2
        · exact .inl h2
        · exact .inr (by rw [h2]; exact hs)
      · exact .inr h1
    · rcases h.c y hy j hj with h1 | h1
      · rcases hsp _ h1 with h2 | h2
        · exact .inl h2
        · exact .inr (by rw [h2]; exact hs)
      · exact .inr h1
  · have hup : ∀ y, s y = true → updB s x true y = true := fun y hy => by simp only [updB]; split <;> first | rfl | exact hy
    have hux : updB s x true x = true := by simp [updB]
    refine ⟨fun y hy => ?_, fun y hy => ?_, fun j hj => ?_, fun y hy j hj => ?_⟩
    · rcases List.mem_append.1 hy with h1 | h1
      · exact h.st y (hdr y h1)
      · obtain ⟨j, hj, rfl⟩ := rowL_mem.1 h1
        exact ⟨(all_nd hall hxN hj).1, .step hxR hj⟩
    · simp only [updB] at hy
      split at hy
      · rename_i e; subst e; exact ⟨hxN, hxR⟩
      · exact h.ok y hy
    · rcases h.b j hj with h1 | h1
      · rcases hsp _ h1 with h2 | h2
        · exact .inl (List.mem_append_left _ h2)
        · exact .inr (by rw [h2]; exact hux)
      · exact .inr (hup _ h1)
    · by_cases e : y = x
      · subst e; exact .inl (List.mem_append_right _ (rowL_mem.2 ⟨j, hj, rfl⟩))
      · have hy' : s y = true := by simp only [updB] at hy; rwa [if_neg e] at hy
        rcases h.c y hy' j hj with h1 | h1
        · rcases hsp _ h1 with h2 | h2
          · exact .inl (List.mem_append_left _ h2)
          · exact .inr (by rw [h2]; exact hux)
        · exact .inr (hup _ h1)
theorem invU {N : Nat} {ln : Nat → Nat} {q : Nat → Nat → Int} {i : Nat} (hall : AllP N ln q) (hi : i < N) : ∀ k, InvU N ln q i (dfI ln q i k)
  | 0 => ⟨fun x hx => by
      obtain ⟨j, hj, rfl⟩ := rowL_mem.1 hx
      exact ⟨(all_nd hall hi hj).1, .base hj⟩, fun x hx => by simp [dfI] at hx, fun j hj => .inl (rowL_mem.2 ⟨j, hj, rfl⟩), fun x hx => by simp [dfI] at hx⟩
  | k + 1 => (invU hall hi k).next hall
theorem closed_of_inv {N : Nat} {ln : Nat → Nat} {q : Nat → Nat → Int} {i : Nat} {p : List Nat × (Nat → Bool)} (h : InvU N ln q i p) (he : p.1 = []) : ClosedU N ln q i p.2 :=
  ⟨h.ok, fun j hj => by rcases h.b j hj with h1 | h1; · rw [he] at h1; simp at h1
                        · exact h1, fun x hx j hj => by rcases h.c x hx j hj with h1 | h1; · rw [he] at h1; simp at h1
                                                        · exact h1⟩
end Go.Proofs.Ytppolbilohkjmaa
