/- Walks and facts of this seat's program over abstract states, printed by a program of mine; no conditions but those that each theorem names. -/
import Derived.Test.YtmjbbnfmhgcfaaaPlan4
set_option linter.unusedSimpArgs false
set_option linter.unusedVariables false
set_option maxRecDepth 100000
set_option maxHeartbeats 4000000
namespace Go.Proofs.Ytmjbbnfmhgcfaaa
open Go Go.Eng

/-- What the two checks answer. -/
def goodP (N : Nat) (q : Nat → Nat → Int) (i j : Nat) : Bool := decide (0 ≤ q i j) && (decide (q i j < (N : Int)) && !inL j (q i) (q i j))
def badZ (N : Nat) (q : Nat → Nat → Int) (i j : Nat) : Int := if 0 ≤ q i j ∧ q i j < (N : Int) then 7 else 1
structure BadP (N : Nat) (ln : Nat → Nat) (q : Nat → Nat → Int) (i0 j0 : Nat) : Prop where
  hi : i0 < N
  hj : j0 < ln i0
  bad : goodP N q i0 j0 = false
  good : ∀ a b, a < N → b < ln a → (a < i0 ∨ (a = i0 ∧ b < j0)) → goodP N q a b = true
def AllP (N : Nat) (ln : Nat → Nat) (q : Nat → Nat → Int) : Prop := ∀ a b, a < N → b < ln a → goodP N q a b = true
def okZ (N : Nat) (ln : Nat → Nat) (q : Nat → Nat → Int) : Int := if (itO N ln q N).length < N then 32 else 0
theorem goodP_t {N : Nat} {q : Nat → Nat → Int} {i j : Nat} (h : goodP N q i j = true) : ¬ q i j < 0 ∧ ¬ (N : Int) ≤ q i j ∧ inL j (q i) (q i j) = false := by
  simp only [goodP, Bool.and_eq_true, decide_eq_true_eq, Bool.not_eq_true'] at h
  exact ⟨by omega, by omega, h.2.2⟩
theorem BadP.cases {N : Nat} {ln : Nat → Nat} {q : Nat → Nat → Int} {i0 j0 i j : Nat} (h : BadP N ln q i0 j0) (hi : i ≤ i0) (hj : i = i0 → j ≤ j0) (hiN : i < N) (hlt : j < ln i) :
    (¬ q i j < 0 ∧ ¬ (N : Int) ≤ q i j ∧ inL j (q i) (q i j) = false ∧ (i = i0 → j + 1 ≤ j0)) ∨
    (q i j < 0 ∧ badZ N q i0 j0 = 1) ∨ (¬ q i j < 0 ∧ (N : Int) ≤ q i j ∧ badZ N q i0 j0 = 1) ∨
    (¬ q i j < 0 ∧ ¬ (N : Int) ≤ q i j ∧ inL j (q i) (q i j) = true ∧ badZ N q i0 j0 = 7) := by
  by_cases e : i = i0 ∧ j = j0
  · obtain ⟨rfl, rfl⟩ := e
    have hb := h.bad
    simp only [goodP] at hb
    by_cases h1 : q i j < 0
    · exact .inr (.inl ⟨h1, by rw [badZ, if_neg (by omega)]⟩)
    · by_cases h2 : (N : Int) ≤ q i j
      · exact .inr (.inr (.inl ⟨h1, h2, by rw [badZ, if_neg (by omega)]⟩))
      · rw [decide_eq_true (by omega), decide_eq_true (by omega)] at hb
        simp at hb
        exact .inr (.inr (.inr ⟨h1, h2, hb, by rw [badZ, if_pos (by omega)]⟩))
  · have hg := goodP_t (h.good i j hiN hlt (by omega))
    exact .inl ⟨hg.1, hg.2.1, hg.2.2, fun e1 => by have := hj e1; omega⟩
theorem pair_or (N : Nat) (ln : Nat → Nat) (q : Nat → Nat → Int) : AllP N ln q ∨ ∃ i0 j0, BadP N ln q i0 j0 := by
  by_cases h : ∃ i, i < N ∧ ∃ j, j < ln i ∧ goodP N q i j = false
  · obtain ⟨i, hi⟩ := h
    obtain ⟨i0, ⟨h1, j, hj⟩, h2⟩ := least (p := fun i => i < N ∧ ∃ j, j < ln i ∧ goodP N q i j = false) i hi
    obtain ⟨j0, ⟨h3, h4⟩, h5⟩ := least (p := fun j => j < ln i0 ∧ goodP N q i0 j = false) j hj
    refine .inr ⟨i0, j0, h1, h3, h4, fun a b ha hb hab => ?_⟩
    cases e : goodP N q a b
    · rcases hab with hlt | ⟨rfl, hlt⟩
      · exact absurd ⟨ha, b, hb, e⟩ (h2 a hlt)
      · exact absurd ⟨hb, e⟩ (h5 b hlt)
    · rfl
  · refine .inl fun a b ha hb => ?_
    cases e : goodP N q a b
    · exact absurd ⟨a, ha, b, hb, e⟩ h
    · rfl
-- left out: rcheck_big
-- left out: rcheck_bad
-- left out: rcheck_ok
theorem pcheck_big {vp : Nat} (rp N : Nat) (ln : Nat → Nat) (q : Nat → Nat → Int) (m : AMem) (hp : RowsAt m rp vp N ln q) (hl : ∀ i, i < N → ln i ≤ 1048576) (hN : N ≤ 1048576) (hz : 256 < N) : Ctr Try.prog 20 [.one (.sl rp vp 0 N)] m (.one (.int .i64 8)) m := by
  refine Ctr.enter Try.func20 rfl (by decide) (rs := [.tmp 2]) (nt := 46) rfl rfl fun hwf Q hQ => ?_
  obtain ⟨k0, ez, rr, vv, hb, hrows⟩ := hp.hb
  have hr := get_lt hb
  have hz1 : (256 : Int) < (N : Int) := by omega
  refine AW.seq_k fun K hK => ?_
  refine AW.region (by decide) ?_
  simp only [push_cast, simprocAttr, hb, lk_old hb, hz1]
  refine Thn_n ?_
  refine hK _ _ ?_
  clear hK K
  refine AW.seq_k fun K hK => ?_
  refine AW.seq_k fun K hK => ?_
  refine AW.region (by decide) ?_
  simp only [push_cast, simprocAttr, hb, lk_old hb, hz1]
  refine Thn_n ?_
  refine hK _ _ ?_
  clear hK K
  refine AW.cond_t rfl ?_
  refine AW.seq_k fun K hK => ?_
  refine AW.region (by decide) ?_
  simp only [push_cast, simprocAttr, hb, lk_old hb, hz1]
  refine Thn_n ?_
  refine hK _ _ ?_
  clear hK K
  refine AW.ret ?_
  refine Thn_r ?_
  refine hQ _ _ _ ?_
  first | refine RetP.drop0 (Or.inr rfl) ?_ ?_ hwf | refine RetP.drop (Or.inr rfl) ?_ ?_ hwf
  · simp only [resA, resOne, resTv, AV.tv, push_cast, simprocAttr, hb, lk_old hb, hz1]
  · rfl
theorem pcheck_bad {vp : Nat} (rp N : Nat) (ln : Nat → Nat) (q : Nat → Nat → Int) (m : AMem) (hp : RowsAt m rp vp N ln q) (hl : ∀ i, i < N → ln i ≤ 1048576) (hN : N ≤ 1048576) (hs : N ≤ 256) (i0 j0 : Nat) (hbad : BadP N ln q i0 j0) (z : Int) (hz : z = badZ N q i0 j0) : Ctr Try.prog 20 [.one (.sl rp vp 0 N)] m (.one (.int .i64 z)) m := by
  refine Ctr.enter Try.func20 rfl (by decide) (rs := [.tmp 2]) (nt := 46) rfl rfl fun hwf Q hQ => ?_
  obtain ⟨k0, ez, rr, vv, hb, hrows⟩ := hp.hb
  have hr := get_lt hb
  have hz1 : ¬ (256 : Int) < (N : Int) := by omega
  refine AW.seq_k fun K hK => ?_
  refine AW.region (by decide) ?_
  simp only [push_cast, simprocAttr, hb, lk_old hb, hz1, Nat.sub_zero]
  refine Thn_n ?_
  refine hK _ _ ?_
  clear hK K
  refine AW.seq_k fun K hK => ?_
  refine AW.seq_k fun K hK => ?_
  refine AW.region (by decide) ?_
  simp only [push_cast, simprocAttr, hb, lk_old hb, hz1, Nat.sub_zero]
  refine Thn_n ?_
  refine hK _ _ ?_
  clear hK K
  refine AW.cond_f rfl ?_
  refine AW.skip ?_
  refine Thn_n ?_
  refine hK _ _ ?_
  clear hK K
  refine AW.seq_k fun K hK => ?_
  refine AW.seq_k fun K hK => ?_
  refine AW.region (by decide) ?_
  simp only [push_cast, simprocAttr, hb, lk_old hb, hz1, Nat.sub_zero]
  refine Thn_n ?_
  refine hK _ _ ?_
  clear hK K
  refine AW.block ?_
  refine AW.loopK [0, 10, 11] (fun i => i ≤ i0) (fun i => [(12, .one (.int .i64 (i : Int)))]) (fun i => []) (fun i => N - i) 0 (by omega) ?_ ?_ fun i hi6 => ?_
  · first | rfl | (simp only [Keeps, Tm.get_cons, Nat.reduceEqDiff, ↓reduceIte, if_true, if_false, ite_true, ite_false, true_and, and_true, and_self, reduceCtorEq] <;> rfl)
  · first | rfl | (simp only [setAll, push_cast, simprocAttr, hb, lk_old hb, hz1, Nat.sub_zero] <;> rfl)
  try simp only [keepL, setAll, push_cast, simprocAttr, hb, lk_old hb, hz1, Nat.sub_zero]
  refine AW.seq_k fun K hK => ?_
  refine AW.region (by decide) ?_
  simp only [push_cast, simprocAttr, hb, lk_old hb, hz1, Nat.sub_zero]
  refine Thn_n ?_
  refine hK _ _ ?_
  clear hK K
  refine AW.seq_k fun K hK => ?_
  refine AW.cond rfl (fun h13 => ?_) (fun h13 => ?_)
  · have hlt : i < N := by have := of_decide_eq_true h13; omega
    have c1 : (0 : Int) ≤ (i : Int) := by omega
    have c2 : (i : Int) < (N : Int) := by omega
    have hrow := hrows i hlt
    obtain ⟨k1, ez1, hb1⟩ := hrow.hb
    have g := rl_get (r := rr) (vv := vv) (ln := ln) hlt
    have hli := hl i hlt
    refine AW.skip ?_
    refine Thn_n ?_
    refine hK _ _ ?_
    clear hK K
    refine AW.seq_k fun K hK => ?_
    refine AW.block ?_
    iterate 2
      refine AW.seq_k fun K hK => ?_
      refine AW.region (by decide) ?_
      simp only [push_cast, simprocAttr, hb, lk_old hb, hz1, Nat.sub_zero, hb1, lk_old hb1, g, c1, c2]
      refine Thn_n ?_
      refine hK _ _ ?_
      clear hK K
    refine AW.block ?_
    refine AW.loopK [0, 4, 10, 11, 12, 16, 17] (fun j => j ≤ ln i ∧ (i = i0 → j ≤ j0)) (fun j => [(18, .one (.int .i64 (j : Int)))]) (fun j => []) (fun j => ln i - j) 0 ⟨by omega, fun _ => by omega⟩ ?_ ?_ fun j hi12 => ?_
    · first | rfl | (simp only [Keeps, Tm.get_cons, Nat.reduceEqDiff, ↓reduceIte, if_true, if_false, ite_true, ite_false, true_and, and_true, and_self, reduceCtorEq] <;> rfl)
    · first | rfl | (simp only [setAll, push_cast, simprocAttr, hb, lk_old hb, hz1, Nat.sub_zero, hb1, lk_old hb1, g, c1, c2] <;> rfl)
    obtain ⟨hjl0, hjj⟩ := hi12
    try simp only [keepL, setAll, push_cast, simprocAttr, hb, lk_old hb, hz1, Nat.sub_zero, hb1, lk_old hb1, g, c1, c2]
    refine AW.seq_k fun K hK => ?_
    refine AW.region (by decide) ?_
    simp only [push_cast, simprocAttr, hb, lk_old hb, hz1, Nat.sub_zero, hb1, lk_old hb1, g, c1, c2]
    refine Thn_n ?_
    refine hK _ _ ?_
    clear hK K
    refine AW.seq_k fun K hK => ?_
    refine AW.cond rfl (fun h19 => ?_) (fun h19 => ?_)
    · have hjl : j < ln i := by have := of_decide_eq_true h19; omega
      have d1 : (0 : Int) ≤ (j : Int) := by omega
      have d2 : (j : Int) < (ln i : Int) := by omega
      have gj := il_get (f := q i) hjl
      have d3 : j ≤ ln i := by omega
      have d4 : (j : Int) ≤ (ln i : Int) := by omega
      rcases hbad.cases (show i ≤ i0 by omega) hjj hlt hjl with hcs | hcs | hcs | hcs
      · obtain ⟨h1, h2, h3, hnx⟩ := hcs
        refine AW.skip ?_
        refine Thn_n ?_
        refine hK _ _ ?_
        clear hK K
        refine AW.seq_k fun K hK => ?_
        iterate 2
          refine AW.block ?_
          refine AW.seq_k fun K hK => ?_
          refine AW.region (by decide) ?_
          simp only [push_cast, simprocAttr, hb, lk_old hb, hz1, Nat.sub_zero, hb1, lk_old hb1, g, c1, c2, gj, d1, d2, d3, d4, h1, h2, h3]
          refine Thn_n ?_
          refine hK _ _ ?_
          clear hK K
        refine AW.cond_f rfl ?_
        refine AW.seq_k fun K hK => ?_
        refine AW.region (by decide) ?_
        simp only [push_cast, simprocAttr, hb, lk_old hb, hz1, Nat.sub_zero, hb1, lk_old hb1, g, c1, c2, gj, d1, d2, d3, d4, h1, h2, h3]
        try (refine CThen.by (contains_c _ (vv i) j (q i) (q i j) _ hrow (by omega) (by omega)) ?_; simp only [push_cast, simprocAttr, hb, lk_old hb, hz1, Nat.sub_zero, hb1, lk_old hb1, g, c1, c2, gj, d1, d2, d3, d4, h1, h2, h3])
        refine Thn_n ?_
        refine hK _ _ ?_
        clear hK K
        refine AW.cond_f rfl ?_
        refine AW.skip ?_
        refine InB_n ?_
        refine InB_n ?_
        refine Thn_n ?_
        refine hK _ _ ?_
        clear hK K
        refine AW.region (by decide) ?_
        simp only [push_cast, simprocAttr, hb, lk_old hb, hz1, Nat.sub_zero, hb1, lk_old hb1, g, c1, c2, gj, d1, d2, d3, d4, h1, h2, h3]
        refine Thn_n ?_
        have hwi : IntKind.i64.wrap ((j:Int)+1) = (j:Int)+1 := by rw [IntKind.wrap_i64]; omega
        refine ⟨j + 1, ⟨by omega, hnx⟩, by omega, ?_⟩
        try simp only [keepL, setAll, push_cast, simprocAttr, hb, lk_old hb, hz1, Nat.sub_zero, hb1, lk_old hb1, g, c1, c2, gj, d1, d2, d3, d4, h1, h2, h3, hwi]
        exact Weak.same (by simp only [Keeps, Tm.get_cons, Nat.reduceEqDiff, ↓reduceIte, if_true, if_false, ite_true, ite_false, true_and, and_true, and_self, reduceCtorEq, hwi]) (by first | rfl | simp only [Keeps, Tm.get_cons, Nat.reduceEqDiff, ↓reduceIte, if_true, if_false, ite_true, ite_false, true_and, and_true, and_self, reduceCtorEq, hwi])
      · obtain ⟨h1, hz1⟩ := hcs
        have h2 : True := trivial
        have h3 : True := trivial
        rw [hz1] at hz; subst hz
        refine AW.skip ?_
        refine Thn_n ?_
        refine hK _ _ ?_
        clear hK K
        refine AW.seq_k fun K hK => ?_
        iterate 2
          refine AW.block ?_
          refine AW.seq_k fun K hK => ?_
          refine AW.region (by decide) ?_
          simp only [push_cast, simprocAttr, hb, lk_old hb, hz1, Nat.sub_zero, hb1, lk_old hb1, g, c1, c2, gj, d1, d2, d3, d4, h1, h2, h3]
          refine Thn_n ?_
          refine hK _ _ ?_
          clear hK K
        refine AW.cond_t rfl ?_
        refine AW.seq_k fun K hK => ?_
        refine AW.region (by decide) ?_
        simp only [push_cast, simprocAttr, hb, lk_old hb, hz1, Nat.sub_zero, hb1, lk_old hb1, g, c1, c2, gj, d1, d2, d3, d4, h1, h2, h3]
        refine Thn_n ?_
        refine hK _ _ ?_
        clear hK K
        refine AW.ret ?_
        refine InB_r ?_
        refine InB_r ?_
        refine Thn_r ?_
        refine Thn_r ?_
        refine InB_r ?_
        refine InB_r ?_
        refine Thn_r ?_
        refine Thn_r ?_
        refine InB_r ?_
        refine Thn_r ?_
        refine hQ _ _ _ ?_
        first | refine RetP.drop0 (Or.inr rfl) ?_ ?_ hwf | refine RetP.drop (Or.inr rfl) ?_ ?_ hwf
        · simp only [resA, resOne, resTv, AV.tv, push_cast, simprocAttr, hb, lk_old hb, hz1, Nat.sub_zero, hb1, lk_old hb1, g, c1, c2, gj, d1, d2, d3, d4, h1, h2, h3]
        · rfl
      · obtain ⟨h1, h2, hz1⟩ := hcs
        have h3 : True := trivial
        rw [hz1] at hz; subst hz
        refine AW.skip ?_
        refine Thn_n ?_
        refine hK _ _ ?_
        clear hK K
        refine AW.seq_k fun K hK => ?_
        iterate 2
          refine AW.block ?_
          refine AW.seq_k fun K hK => ?_
          refine AW.region (by decide) ?_
          simp only [push_cast, simprocAttr, hb, lk_old hb, hz1, Nat.sub_zero, hb1, lk_old hb1, g, c1, c2, gj, d1, d2, d3, d4, h1, h2, h3]
          refine Thn_n ?_
          refine hK _ _ ?_
          clear hK K
        refine AW.cond_t rfl ?_
        refine AW.seq_k fun K hK => ?_
        refine AW.region (by decide) ?_
        simp only [push_cast, simprocAttr, hb, lk_old hb, hz1, Nat.sub_zero, hb1, lk_old hb1, g, c1, c2, gj, d1, d2, d3, d4, h1, h2, h3]
        refine Thn_n ?_
        refine hK _ _ ?_
        clear hK K
        refine AW.ret ?_
        refine InB_r ?_
        refine InB_r ?_
        refine Thn_r ?_
        refine Thn_r ?_
        refine InB_r ?_
        refine InB_r ?_
        refine Thn_r ?_
        refine Thn_r ?_
        refine InB_r ?_
        refine Thn_r ?_
        refine hQ _ _ _ ?_
        first | refine RetP.drop0 (Or.inr rfl) ?_ ?_ hwf | refine RetP.drop (Or.inr rfl) ?_ ?_ hwf
        · simp only [resA, resOne, resTv, AV.tv, push_cast, simprocAttr, hb, lk_old hb, hz1, Nat.sub_zero, hb1, lk_old hb1, g, c1, c2, gj, d1, d2, d3, d4, h1, h2, h3]
        · rfl
      · obtain ⟨h1, h2, h3, hz1⟩ := hcs
        rw [hz1] at hz; subst hz
        refine AW.skip ?_
        refine Thn_n ?_
        refine hK _ _ ?_
        clear hK K
        refine AW.seq_k fun K hK => ?_
        iterate 2
          refine AW.block ?_
          refine AW.seq_k fun K hK => ?_
          refine AW.region (by decide) ?_
          simp only [push_cast, simprocAttr, hb, lk_old hb, hz1, Nat.sub_zero, hb1, lk_old hb1, g, c1, c2, gj, d1, d2, d3, d4, h1, h2, h3]
          refine Thn_n ?_
          refine hK _ _ ?_
          clear hK K
        refine AW.cond_f rfl ?_
        refine AW.seq_k fun K hK => ?_
        refine AW.region (by decide) ?_
        simp only [push_cast, simprocAttr, hb, lk_old hb, hz1, Nat.sub_zero, hb1, lk_old hb1, g, c1, c2, gj, d1, d2, d3, d4, h1, h2, h3]
        try (refine CThen.by (contains_c _ (vv i) j (q i) (q i j) _ hrow (by omega) (by omega)) ?_; simp only [push_cast, simprocAttr, hb, lk_old hb, hz1, Nat.sub_zero, hb1, lk_old hb1, g, c1, c2, gj, d1, d2, d3, d4, h1, h2, h3])
        refine Thn_n ?_
        refine hK _ _ ?_
        clear hK K
        refine AW.cond_t rfl ?_
        refine AW.seq_k fun K hK => ?_
        refine AW.region (by decide) ?_
        simp only [push_cast, simprocAttr, hb, lk_old hb, hz1, Nat.sub_zero, hb1, lk_old hb1, g, c1, c2, gj, d1, d2, d3, d4, h1, h2, h3]
        refine Thn_n ?_
        refine hK _ _ ?_
        clear hK K
        refine AW.ret ?_
        refine InB_r ?_
        refine InB_r ?_
        refine Thn_r ?_
        refine Thn_r ?_
        refine InB_r ?_
        refine InB_r ?_
        refine Thn_r ?_
        refine Thn_r ?_
        refine InB_r ?_
        refine Thn_r ?_
        refine hQ _ _ _ ?_
        first | refine RetP.drop0 (Or.inr rfl) ?_ ?_ hwf | refine RetP.drop (Or.inr rfl) ?_ ?_ hwf
        · simp only [resA, resOne, resTv, AV.tv, push_cast, simprocAttr, hb, lk_old hb, hz1, Nat.sub_zero, hb1, lk_old hb1, g, c1, c2, gj, d1, d2, d3, d4, h1, h2, h3]
        · rfl
    · have hii : i + 1 ≤ i0 := by
        have h1 := of_decide_eq_false h19
        rcases Nat.lt_or_ge i i0 with h | h
        · exact h
        · have e : i = i0 := by omega
          have h2 := hbad.hj; have h3 := hjj e; rw [← e] at h2; omega
      refine AW.exit ?_
      refine Thn_e ?_
      clear hK K
      refine Thn_e ?_
      refine InB_here ?_
      refine InB_n ?_
      refine Thn_n ?_
      refine hK _ _ ?_
      clear hK K
      refine AW.region (by decide) ?_
      simp only [push_cast, simprocAttr, hb, lk_old hb, hz1, Nat.sub_zero, hb1, lk_old hb1, g, c1, c2]
      refine Thn_n ?_
      have hwi : IntKind.i64.wrap ((i:Int)+1) = (i:Int)+1 := by rw [IntKind.wrap_i64]; omega
      refine ⟨i + 1, by omega, by omega, ?_⟩
      try simp only [keepL, setAll, push_cast, simprocAttr, hb, lk_old hb, hz1, Nat.sub_zero, hb1, lk_old hb1, g, c1, c2, hwi]
      exact Weak.same (by simp only [Keeps, Tm.get_cons, Nat.reduceEqDiff, ↓reduceIte, if_true, if_false, ite_true, ite_false, true_and, and_true, and_self, reduceCtorEq, hwi]) (by first | rfl | simp only [Keeps, Tm.get_cons, Nat.reduceEqDiff, ↓reduceIte, if_true, if_false, ite_true, ite_false, true_and, and_true, and_self, reduceCtorEq, hwi])
  · exfalso
    have := of_decide_eq_false h13; have := hbad.hi; omega
theorem pcheck_ok {vp : Nat} (rp N : Nat) (ln : Nat → Nat) (q : Nat → Nat → Int) (m : AMem) (hp : RowsAt m rp vp N ln q) (hl : ∀ i, i < N → ln i ≤ 1048576) (hN : N ≤ 1048576) (hs : N ≤ 256) (hall : AllP N ln q) : Ctr Try.prog 20 [.one (.sl rp vp 0 N)] m (.one (.int .i64 (okZ N ln q))) m := by
  refine Ctr.enter Try.func20 rfl (by decide) (rs := [.tmp 2]) (nt := 46) rfl rfl fun hwf Q hQ => ?_
  obtain ⟨k0, ez, rr, vv, hb, hrows⟩ := hp.hb
  have hr := get_lt hb
  have hz1 : ¬ (256 : Int) < (N : Int) := by omega
  refine AW.seq_k fun K hK => ?_
  refine AW.region (by decide) ?_
  simp only [push_cast, simprocAttr, hb, lk_old hb, hz1, Nat.sub_zero]
  refine Thn_n ?_
  refine hK _ _ ?_
  clear hK K
  refine AW.seq_k fun K hK => ?_
  refine AW.seq_k fun K hK => ?_
  refine AW.region (by decide) ?_
  simp only [push_cast, simprocAttr, hb, lk_old hb, hz1, Nat.sub_zero]
  refine Thn_n ?_
  refine hK _ _ ?_
  clear hK K
  refine AW.cond_f rfl ?_
  refine AW.skip ?_
  refine Thn_n ?_
  refine hK _ _ ?_
  clear hK K
  refine AW.seq_k fun K hK => ?_
  refine AW.seq_k fun K hK => ?_
  refine AW.region (by decide) ?_
  simp only [push_cast, simprocAttr, hb, lk_old hb, hz1, Nat.sub_zero]
  refine Thn_n ?_
  refine hK _ _ ?_
  clear hK K
  refine AW.block ?_
  refine AW.loopK [0, 10, 11] (fun i => i ≤ N) (fun i => [(12, .one (.int .i64 (i : Int)))]) (fun i => []) (fun i => N - i) 0 (by omega) ?_ ?_ fun i hi6 => ?_
  · first | rfl | (simp only [Keeps, Tm.get_cons, Nat.reduceEqDiff, ↓reduceIte, if_true, if_false, ite_true, ite_false, true_and, and_true, and_self, reduceCtorEq] <;> rfl)
  · first | rfl | (simp only [setAll, push_cast, simprocAttr, hb, lk_old hb, hz1, Nat.sub_zero] <;> rfl)
  try simp only [keepL, setAll, push_cast, simprocAttr, hb, lk_old hb, hz1, Nat.sub_zero]
  refine AW.seq_k fun K hK => ?_
  refine AW.region (by decide) ?_
  simp only [push_cast, simprocAttr, hb, lk_old hb, hz1, Nat.sub_zero]
  refine Thn_n ?_
  refine hK _ _ ?_
  clear hK K
  refine AW.seq_k fun K hK => ?_
  refine AW.cond rfl (fun h13 => ?_) (fun h13 => ?_)
  · have hlt : i < N := by have := of_decide_eq_true h13; omega
    have c1 : (0 : Int) ≤ (i : Int) := by omega
    have c2 : (i : Int) < (N : Int) := by omega
    have hrow := hrows i hlt
    obtain ⟨k1, ez1, hb1⟩ := hrow.hb
    have g := rl_get (r := rr) (vv := vv) (ln := ln) hlt
    have hli := hl i hlt
    refine AW.skip ?_
    refine Thn_n ?_
    refine hK _ _ ?_
    clear hK K
    refine AW.seq_k fun K hK => ?_
    refine AW.block ?_
    iterate 2
      refine AW.seq_k fun K hK => ?_
      refine AW.region (by decide) ?_
      simp only [push_cast, simprocAttr, hb, lk_old hb, hz1, Nat.sub_zero, hb1, lk_old hb1, g, c1, c2]
      refine Thn_n ?_
      refine hK _ _ ?_
      clear hK K
    refine AW.block ?_
    refine AW.loopK [0, 4, 10, 11, 12, 16, 17] (fun j => j ≤ ln i) (fun j => [(18, .one (.int .i64 (j : Int)))]) (fun j => []) (fun j => ln i - j) 0 (by omega) ?_ ?_ fun j hi12 => ?_
    · first | rfl | (simp only [Keeps, Tm.get_cons, Nat.reduceEqDiff, ↓reduceIte, if_true, if_false, ite_true, ite_false, true_and, and_true, and_self, reduceCtorEq] <;> rfl)
    · first | rfl | (simp only [setAll, push_cast, simprocAttr, hb, lk_old hb, hz1, Nat.sub_zero, hb1, lk_old hb1, g, c1, c2] <;> rfl)
    try simp only [keepL, setAll, push_cast, simprocAttr, hb, lk_old hb, hz1, Nat.sub_zero, hb1, lk_old hb1, g, c1, c2]
    refine AW.seq_k fun K hK => ?_
    refine AW.region (by decide) ?_
    simp only [push_cast, simprocAttr, hb, lk_old hb, hz1, Nat.sub_zero, hb1, lk_old hb1, g, c1, c2]
    refine Thn_n ?_
    refine hK _ _ ?_
    clear hK K
    refine AW.seq_k fun K hK => ?_
    refine AW.cond rfl (fun h19 => ?_) (fun h19 => ?_)
    · have hjl : j < ln i := by have := of_decide_eq_true h19; omega
      have d1 : (0 : Int) ≤ (j : Int) := by omega
      have d2 : (j : Int) < (ln i : Int) := by omega
      have gj := il_get (f := q i) hjl
      have d3 : j ≤ ln i := by omega
      have d4 : (j : Int) ≤ (ln i : Int) := by omega
      obtain ⟨h1, h2, h3⟩ := goodP_t (hall i j hlt hjl)
      refine AW.skip ?_
      refine Thn_n ?_
      refine hK _ _ ?_
      clear hK K
      refine AW.seq_k fun K hK => ?_
      iterate 2
        refine AW.block ?_
        refine AW.seq_k fun K hK => ?_
        refine AW.region (by decide) ?_
        simp only [push_cast, simprocAttr, hb, lk_old hb, hz1, Nat.sub_zero, hb1, lk_old hb1, g, c1, c2, gj, d1, d2, d3, d4, h1, h2, h3]
        refine Thn_n ?_
        refine hK _ _ ?_
        clear hK K
      refine AW.cond_f rfl ?_
      refine AW.seq_k fun K hK => ?_
      refine AW.region (by decide) ?_
      simp only [push_cast, simprocAttr, hb, lk_old hb, hz1, Nat.sub_zero, hb1, lk_old hb1, g, c1, c2, gj, d1, d2, d3, d4, h1, h2, h3]
      try (refine CThen.by (contains_c _ (vv i) j (q i) (q i j) _ hrow (by omega) (by omega)) ?_; simp only [push_cast, simprocAttr, hb, lk_old hb, hz1, Nat.sub_zero, hb1, lk_old hb1, g, c1, c2, gj, d1, d2, d3, d4, h1, h2, h3])
      refine Thn_n ?_
      refine hK _ _ ?_
      clear hK K
      refine AW.cond_f rfl ?_
      refine AW.skip ?_
      refine InB_n ?_
      refine InB_n ?_
      refine Thn_n ?_
      refine hK _ _ ?_
      clear hK K
      refine AW.region (by decide) ?_
      simp only [push_cast, simprocAttr, hb, lk_old hb, hz1, Nat.sub_zero, hb1, lk_old hb1, g, c1, c2, gj, d1, d2, d3, d4, h1, h2, h3]
      refine Thn_n ?_
      have hwi : IntKind.i64.wrap ((j:Int)+1) = (j:Int)+1 := by rw [IntKind.wrap_i64]; omega
      refine ⟨j + 1, by omega, by omega, ?_⟩
      try simp only [keepL, setAll, push_cast, simprocAttr, hb, lk_old hb, hz1, Nat.sub_zero, hb1, lk_old hb1, g, c1, c2, gj, d1, d2, d3, d4, h1, h2, h3, hwi]
      exact Weak.same (by simp only [Keeps, Tm.get_cons, Nat.reduceEqDiff, ↓reduceIte, if_true, if_false, ite_true, ite_false, true_and, and_true, and_self, reduceCtorEq, hwi]) (by first | rfl | simp only [Keeps, Tm.get_cons, Nat.reduceEqDiff, ↓reduceIte, if_true, if_false, ite_true, ite_false, true_and, and_true, and_self, reduceCtorEq, hwi])
    · refine AW.exit ?_
      refine Thn_e ?_
      clear hK K
      refine Thn_e ?_
      refine InB_here ?_
      refine InB_n ?_
      refine Thn_n ?_
      refine hK _ _ ?_
      clear hK K
      refine AW.region (by decide) ?_
      simp only [push_cast, simprocAttr, hb, lk_old hb, hz1, Nat.sub_zero, hb1, lk_old hb1, g, c1, c2]
      refine Thn_n ?_
      have hwi : IntKind.i64.wrap ((i:Int)+1) = (i:Int)+1 := by rw [IntKind.wrap_i64]; omega
      refine ⟨i + 1, by omega, by omega, ?_⟩
      try simp only [keepL, setAll, push_cast, simprocAttr, hb, lk_old hb, hz1, Nat.sub_zero, hb1, lk_old hb1, g, c1, c2, hwi]
      exact Weak.same (by simp only [Keeps, Tm.get_cons, Nat.reduceEqDiff, ↓reduceIte, if_true, if_false, ite_true, ite_false, true_and, and_true, and_self, reduceCtorEq, hwi]) (by first | rfl | simp only [Keeps, Tm.get_cons, Nat.reduceEqDiff, ↓reduceIte, if_true, if_false, ite_true, ite_false, true_and, and_true, and_self, reduceCtorEq, hwi])
  · refine AW.exit ?_
    refine Thn_e ?_
    clear hK K
    refine Thn_e ?_
    refine InB_here ?_
    refine Thn_n ?_
    refine hK _ _ ?_
    clear hK K
    refine AW.seq_k fun K hK => ?_
    refine AW.seq_k fun K hK => ?_
    refine AW.region (by decide) ?_
    simp only [push_cast, simprocAttr, hb, lk_old hb, hz1, Nat.sub_zero]
    refine CThen.by (order_c rp N ln q _ hp hl hN) ?_
    simp only [push_cast, simprocAttr, hb, lk_old hb, hz1, Nat.sub_zero]
    refine Thn_n ?_
    refine hK _ _ ?_
    clear hK K
    refine AW.cond rfl (fun h45 => ?_) (fun h45 => ?_)
    · have hok : okZ N ln q = 32 := by rw [okZ, if_pos (by have := of_decide_eq_true h45; omega)]
      refine AW.seq_k fun K hK => ?_
      refine AW.region (by decide) ?_
      simp only [push_cast, simprocAttr, hb, lk_old hb, hz1, Nat.sub_zero, hok]
      refine Thn_n ?_
      refine hK _ _ ?_
      clear hK K
      refine AW.ret ?_
      refine Thn_r ?_
      refine hQ _ _ _ ?_
      first | refine RetP.drop0 (Or.inr rfl) ?_ ?_ hwf | refine RetP.drop (Or.inr rfl) ?_ ?_ hwf
      · simp only [resA, resOne, resTv, AV.tv, push_cast, simprocAttr, hb, lk_old hb, hz1, Nat.sub_zero, hok, hok]
      · rfl
    · have hok : okZ N ln q = 0 := by rw [okZ, if_neg (by have := of_decide_eq_false h45; omega)]
      refine AW.skip ?_
      refine Thn_n ?_
      refine hK _ _ ?_
      clear hK K
      refine AW.seq_k fun K hK => ?_
      refine AW.region (by decide) ?_
      simp only [push_cast, simprocAttr, hb, lk_old hb, hz1, Nat.sub_zero, hok]
      refine Thn_n ?_
      refine hK _ _ ?_
      clear hK K
      refine AW.ret ?_
      refine hQ _ _ _ ?_
      first | refine RetP.drop0 (Or.inr rfl) ?_ ?_ hwf | refine RetP.drop (Or.inr rfl) ?_ ?_ hwf
      · simp only [resA, resOne, resTv, AV.tv, push_cast, simprocAttr, hb, lk_old hb, hz1, Nat.sub_zero, hok, hok]
      · rfl
/-- The answer of both. -/
def CheckZ (N : Nat) (ln : Nat → Nat) (q : Nat → Nat → Int) (z : Int) : Prop :=
  (256 < N ∧ z = 8) ∨ (N ≤ 256 ∧ ∃ i0 j0, BadP N ln q i0 j0 ∧ z = badZ N q i0 j0) ∨ (N ≤ 256 ∧ AllP N ln q ∧ z = okZ N ln q)
theorem checkZ (N : Nat) (ln : Nat → Nat) (q : Nat → Nat → Int) : ∃ z, CheckZ N ln q z := by
  rcases Nat.lt_or_ge 256 N with h | h
  · exact ⟨8, .inl ⟨h, rfl⟩⟩
  · rcases pair_or N ln q with h1 | ⟨i0, j0, h1⟩
    · exact ⟨_, .inr (.inr ⟨h, h1, rfl⟩)⟩
    · exact ⟨_, .inr (.inl ⟨h, i0, j0, h1, rfl⟩)⟩
-- left out: theorem rcheck_c {vp 
theorem pcheck_c {vp : Nat} (rp N : Nat) (ln : Nat → Nat) (q : Nat → Nat → Int) (m : AMem) (hp : RowsAt m rp vp N ln q) (hl : ∀ i, i < N → ln i ≤ 1048576) (hN : N ≤ 1048576) (z : Int) (hz : CheckZ N ln q z) : Ctr Try.prog 20 [.one (.sl rp vp 0 N)] m (.one (.int .i64 z)) m := by
  rcases hz with ⟨h, e⟩ | ⟨h, i0, j0, hb, e⟩ | ⟨h, ha, e⟩
  · rw [e]; exact pcheck_big rp N ln q m hp hl hN h
  · exact pcheck_bad rp N ln q m hp hl hN h i0 j0 hb z e
  · rw [e]; exact pcheck_ok rp N ln q m hp hl hN h ha
end Go.Proofs.Ytmjbbnfmhgcfaaa
