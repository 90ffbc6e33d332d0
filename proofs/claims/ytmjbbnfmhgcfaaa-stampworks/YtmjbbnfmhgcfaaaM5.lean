/- Walks and facts of this seat's program over abstract states, printed by programs of mine; no conditions but those that each theorem names. -/
import Derived.Test.YtmjbbnfmhgcfaaaM4
set_option linter.unusedSimpArgs false
set_option linter.unusedVariables false
set_option maxRecDepth 100000
set_option maxHeartbeats 4000000
namespace Go.Proofs.Ytmjbbnfmhgcfaaa
open Go Go.Eng

/-- What the two checks answer. -/
def goodP (N : Nat) (q : Nat → Nat → Int) (i j : Nat) : Bool := decide (0 ≤ q i j) && (decide (q i j < (N : Int)) && !inL j (q i) (q i j))
def badZ (N : Nat) (q : Nat → Nat → Int) (i j : Nat) : Int := if 0 ≤ q i j ∧ q i j < (N : Int) then 7 else 1
structure BadP (N : Nat) (ln : Nat → Nat) (q : Nat → Nat → Int) (i0 j0 : Nat) : Prop where
  hi : i0 < N
  hj : j0 < ln i0
  bad : goodP N q i0 j0 = false
  good : ∀ a b, a < N → b < ln a → (a < i0 ∨ (a = i0 ∧ b < j0)) → goodP N q a b = true
def AllP (N : Nat) (ln : Nat → Nat) (q : Nat → Nat → Int) : Prop := ∀ a b, a < N → b < ln a → goodP N q a b = true
def okZ (N : Nat) (ln : Nat → Nat) (q : Nat → Nat → Int) : Int := if (itO N ln q N).length < N then 32 else 0
theorem goodP_t {N : Nat} {q : Nat → Nat → Int} {i j : Nat} (h : goodP N q i j = true) : ¬ q i j < 0 ∧ ¬ (N : Int) ≤ q i j ∧ inL j (q i) (q i j) = false := by
  simp only [goodP, Bool.and_eq_true, decide_eq_true_eq, Bool.not_eq_true'] at h
  exact ⟨by omega, by omega, h.2.2⟩
theorem BadP.cases {N : Nat} {ln : Nat → Nat} {q : Nat → Nat → Int} {i0 j0 i j : Nat} (h : BadP N ln q i0 j0) (hi : i ≤ i0) (hj : i = i0 → j ≤ j0) (hiN : i < N) (hlt : j < ln i) :
    (¬ q i j < 0 ∧ ¬ (N : Int) ≤ q i j ∧ inL j (q i) (q i j) = false ∧ (i = i0 → j + 1 ≤ j0)) ∨
    (q i j < 0 ∧ badZ N q i0 j0 = 1) ∨ (¬ q i j < 0 ∧ (N : Int) ≤ q i j ∧ badZ N q i0 j0 = 1) ∨
    (¬ q i j < 0 ∧ ¬ (N : Int) ≤ q i j ∧ inL j (q i) (q i j) = true ∧ badZ N q i0 j0 = 7) := by
  by_cases e : i = i0 ∧ j = j0
  · obtain ⟨rfl, rfl⟩ := e
    have hb := h.bad
    simp only [goodP] at hb
    by_cases h1 : q i j < 0
    · exact .inr (.inl ⟨h1, by rw [badZ, if_neg (by omega)]⟩)
    · by_cases h2 : (N : Int) ≤ q i j
      · exact .inr (.inr (.inl ⟨h1, h2, by rw [badZ, if_neg (by omega)]⟩))
      · rw [decide_eq_true (by omega), decide_eq_true (by omega)] at hb
        simp at hb
        exact .inr (.inr (.inr ⟨h1, h2, hb, by rw [badZ, if_pos (by omega)]⟩))
  · have hg := goodP_t (h.good i j hiN hlt (by omega))
    exact .inl ⟨hg.1, hg.2.1, hg.2.2, fun e1 => by have := hj e1; omega⟩
theorem pair_or (N : Nat) (ln : Nat → Nat) (q : Nat → Nat → Int) : AllP N ln q ∨ ∃ i0 j0, BadP N ln q i0 j0 := by
  by_cases h : ∃ i, i < N ∧ ∃ j, j < ln i ∧ goodP N q i j = false
  · obtain ⟨i, hi⟩ := h
    obtain ⟨i0, ⟨h1, j, hj⟩, h2⟩ := least (p := fun i => i < N ∧ ∃ j, j < ln i ∧ goodP N q i j = false) i hi
    obtain ⟨j0, ⟨h3, h4⟩, h5⟩ := least (p := fun j => j < ln i0 ∧ goodP N q i0 j = false) j hj
    refine .inr ⟨i0, j0, h1, h3, h4, fun a b ha hb hab => ?_⟩
    cases e : goodP N q a b
    · rcases hab with hlt | ⟨rfl, hlt⟩
      · exact absurd ⟨ha, b, hb, e⟩ (h2 a hlt)
      · exact absurd ⟨hb, e⟩ (h5 b hlt)
    · rfl
  · refine .inl fun a b ha hb => ?_
    cases e : goodP N q a b
    · exact absurd ⟨a, ha, b, hb, e⟩ h
    · rfl
-- left out: rcheck_big
-- left out: rcheck_bad
-- left out: rcheck_ok
theorem pcheck_big {vp : Nat} (rp N : Nat) (ln : Nat → Nat) (q : Nat → Nat → Int) (m : AMem) (hp : RowsAt m rp vp N ln q) (hl : ∀ i, i < N → ln i ≤ 1048576) (hN : N ≤ 1048576) (hz : 256 < N) : Ctr Try.prog 20 [.one (.sl rp vp 0 N)] m (.one (.int .i64 8)) m := by
  refine Ctr.enter Try.func20 rfl (by decide) (rs := [.tmp 2]) (nt := 46) rfl rfl fun hwf Q hQ => ?_
  obtain ⟨k0, ez, rr, vv, hb, hrows⟩ := hp.hb
  have hr := get_lt hb
  have hz1 : (256 : Int) < (N : Int) := by omega
  refine AW.seq_k fun K hK => ?_
  refine AW.region (by decide) ?_
  simp only [push_cast, simprocAttr, hb, lk_old hb, hz1]
  refine Thn_n ?_
  refine hK _ _ ?_
  clear hK K
  refine AW.seq_k fun K hK => ?_
  refine AW.seq_k fun K hK => ?_
  refine AW.region (by decide) ?_
  simp only [push_cast, simprocAttr, hb, lk_old hb, hz1]
  refine Thn_n ?_
  refine hK _ _ ?_
  clear hK K
  refine AW.cond_t rfl ?_
  refine AW.seq_k fun K hK => ?_
  refine AW.region (by decide) ?_
  simp only [push_cast, simprocAttr, hb, lk_old hb, hz1]
  refine Thn_n ?_
  refine hK _ _ ?_
  clear hK K
  refine AW.ret ?_
  refine Thn_r ?_
  refine hQ _ _ _ ?_
  first | refine RetP.drop0 (Or.inr rfl) ?_ ?_ hwf | refine RetP.drop (Or.inr rfl) ?_ ?_ hwf
  · simp only [resA, resOne, resTv, AV.tv, push_cast, simprocAttr, hb, lk_old hb, hz1]
  · rfl
theorem pcheck_bad {vp : Nat} (rp N : Nat) (ln : Nat → Nat) (q : Nat → Nat → Int) (m : AMem) (hp : RowsAt m rp vp N ln q) (hl : ∀ i, i < N → ln i ≤ 1048576) (hN : N ≤ 1048576) (hs : N ≤ 256) (i0 j0 : Nat) (hbad : BadP N ln q i0 j0) (z : Int) (hz : z = badZ N q i0 j0) : Ctr Try.prog 20 [.one (.sl rp vp 0 N)] m (.one (.int .i64 z)) m := by
  refine Ctr.enter Try.func20 rfl (by decide) (rs := [.tmp 2]) (nt := 46) rfl rfl fun hwf Q hQ => ?_
  obtain ⟨k0, ez, rr, vv, hb, hrows⟩ := hp.hb
  have hr := get_lt hb
  have hz1 : ¬ (256 : Int) < (N : Int) := by omega
  refine AW.seq_k fun K hK => ?_
  refine AW.region (by decide) ?_
  simp only [push_cast, simprocAttr, hb, lk_old hb, hz1, Nat.sub_zero]
  refine Thn_n ?_
  refine hK _ _ ?_
  clear hK K
  refine AW.seq_k fun K hK => ?_
  refine AW.seq_k fun K hK => ?_
  refine AW.region (by decide) ?_
  simp only [push_cast, simprocAttr, hb, lk_old hb, hz1, Nat.sub_zero]
  refine Thn_n ?_
  refine hK _ _ ?_
  clear hK K
  refine AW.cond_f rfl ?_
  refine AW.skip ?_
  refine Thn_n ?_
  refine hK _ _ ?_
  clear hK K
  refine AW.seq_k fun K hK => ?_
  refine AW.seq_k fun K hK => ?_
  refine AW.region (by decide) ?_
  simp only [push_cast, simprocAttr, hb, lk_old hb, hz1, Nat.sub_zero]
  refine Thn_n ?_
  refine hK _ _ ?_
  clear hK K
  refine AW.block ?_
  refine AW.loopK [0, 10, 11] (fun i => i ≤ i0) (fun i => [(12, .one (.int .i64 (i : Int)))]) (fun i => []) (fun i => N - i) 0 (by omega) ?_ ?_ fun i hi6 => ?_
  · first | rfl | (simp only [Keeps, Tm.get_cons, Nat.reduceEqDiff, ↓reduceIte, if_true, if_false, ite_true, ite_false, true_and, and_true, and_self, reduceCtorEq] <;> rfl)
  · first | rfl | (simp only [setAll, push_cast, simprocAttr, hb, lk_old hb, hz1, Nat.sub_zero] <;> rfl)
  try simp only [keepL, setAll, push_cast, simprocAttr, hb, lk_old hb, hz1, Nat.sub_zero]
  refine AW.seq_k fun K hK => ?_
  refine AW.region (by decide) ?_
  simp only [push_cast, simprocAttr, hb, lk_old hb, hz1, Nat.sub_zero]
  refine Thn_n ?_
  refine hK _ _ ?_
  clear hK K
  refine AW.seq_k fun K hK => ?_
  refine AW.cond rfl (fun h13 => ?_) (fun h13 => ?_)
  · have hlt : i < N := by have := of_decide_eq_true h13; omega
    have c1 : (0 : Int) ≤ (i : Int) := by omega
    have c2 : (i : Int) < (N : Int) := by omega
    have hrow := hrows i hlt
    obtain ⟨k1, ez1, hb1⟩ := hrow.hb
    have g := rl_get (r := rr) (vv := vv) (ln := ln) hlt
    have hli := hl i hlt
    refine AW.skip ?_
    refine Thn_n ?_
    refine hK _ _ ?_
    clear hK K
    refine AW.seq_k fun K hK => ?_
    refine AW.block ?_
    iterate 2
      refine AW.seq_k fun K hK => ?_
      refine AW.region (by decide) ?_
      simp only [push_cast, simprocAttr, hb, lk_old hb, hz1, Nat.sub_zero, hb1, lk_old hb1, g, c1, c2]
      refine Thn_n ?_
      refine hK _ _ ?_
      clear hK K
    refine AW.block ?_
    refine AW.loopK [0, 4, 10, 11, 12, 16, 17] (fun j => j ≤ ln i ∧ (i = i0 → j ≤ j0)) (fun j => [(18, .one (.int .i64 (j : Int)))]) (fun j => []) (fun j => ln i - j) 0 ⟨by omega, fun _ => by omega⟩ ?_ ?_ fun j hi12 => ?_
    · first | rfl | (simp only [Keeps, Tm.get_cons, Nat.reduceEqDiff, ↓reduceIte, if_true, if_false, ite_true, ite_false, true_and, and_true, and_self, reduceCtorEq] <;> rfl)
    · first | rfl | (simp only [setAll, push_cast, simprocAttr, hb, lk_old hb, hz1, Nat.sub_zero, hb1, lk_old hb1, g, c1, c2] <;> rfl)
    obtain ⟨hjl0, hjj⟩ := hi12
    try simp only [keepL, setAll, push_cast, simprocAttr, hb, lk_old hb, hz1, Nat.sub_zero, hb1, lk_old hb1, g, c1, c2]
    refine AW.seq_k fun K hK => ?_
    refine AW.region (by decide) ?_
    simp only [push_cast, simprocAttr, hb, lk_old hb, hz1, Nat.sub_zero, hb1, lk_old hb1, g, c1, c2]
    refine Thn_n ?_
    refine hK _ _ ?_
    clear hK K
    refine AW.seq_k fun K hK => ?_
    refine AW.cond rfl (fun h19 => ?_) (fun h19 => ?_)
    · have hjl : j < ln i := by have := of_decide_eq_true h19; omega
      have d1 : (0 : Int) ≤ (j : Int) := by omega
      have d2 : (j : Int) < (ln i : Int) := by omega
      have gj := il_get (f := q i) hjl
      have d3 : j ≤ ln i := by omega
      have d4 : (j : Int) ≤ (ln i : Int) := by omega
      rcases hbad.cases (show i ≤ i0 by omega) hjj hlt hjl with hcs | hcs | hcs | hcs
      · obtain ⟨h1, h2, h3, hnx⟩ := hcs
        refine AW.skip ?_
        refine Thn_n ?_
        refine hK _ _ ?_
        clear hK K
        refine AW.seq_k fun K hK => ?_
        iterate 2
          refine AW.block ?_
          refine AW.seq_k fun K hK => ?_
          refine AW.region (by decide) ?_
          simp only [push_cast, simprocAttr, hb, lk_old hb, hz1, Nat.sub_zero, hb1, lk_old hb1, g, c1, c2, gj, d1, d2, d3, d4, h1, h2, h3]
          refine Thn_n ?_
          refine hK _ _ ?_
          clear hK K
        refine AW.cond_f rfl ?_
        refine AW.seq_k fun K hK => ?_
        refine AW.region (by decide) ?_
        simp only [push_cast, simprocAttr, hb, lk_old hb, hz1, Nat.sub_zero, hb1, lk_old hb1, g, c1, c2, gj, d1, d2, d3, d4, h1, h2, h3]
        try (refine CThen.by (contains_c _ (vv i) j (q i) (q i j) _ hrow (by omega) (by omega)) ?_; simp only [push_cast, simprocAttr, hb, lk_old hb, hz1, Nat.sub_zero, hb1, lk_old hb1, g, c1, c2, gj, d1, d2, d3, d4, h1, h2, h3])
        refine Thn_n ?_
        refine hK _ _ ?_
        clear hK K
        refine AW.cond_f rfl ?_
        refine AW.skip ?_
        refine InB_n ?_
        refine InB_n ?_
        refine Thn_n ?_
        refine hK _ _ ?_
        clear hK K
        refine AW.region (by decide) ?_
        simp only [push_cast, simprocAttr, hb, lk_old hb, hz1, Nat.sub_zero, hb1, lk_old hb1, g, c1, c2, gj, d1, d2, d3, d4, h1, h2, h3]
        refine Thn_n ?_
        have hwi : IntKind.i64.wrap ((j:Int)+1) = (j:Int)+1 := by rw [IntKind.wrap_i64]; omega
        refine ⟨j + 1, ⟨by omega, hnx⟩, by omega, ?_⟩
        try simp only [keepL, setAll, push_cast, simprocAttr, hb, lk_old hb, hz1, Nat.sub_zero, hb1, lk_old hb1, g, c1, c2, gj, d1, d2, d3, d4, h1, h2, h3, hwi]
        exact Weak.same (by simp only [Keeps, Tm.get_cons, Nat.reduceEqDiff, ↓reduceIte, if_true, if_false, ite_true, ite_false, true_and, and_true, and_self, reduceCtorEq, hwi]) (by first | rfl | simp only [Keeps, Tm.get_cons, Nat.reduceEqDiff, ↓reduceIte, if_true, if_false, ite_true, ite_false, true_and, and_true, and_self, reduceCtorEq, hwi])
      · obtain ⟨h1, hz1⟩ := hcs
        have h2 : True := trivial
        have h3 : True := trivial
        rw [hz1] at hz; subst hz
        refine AW.skip ?_
        refine Thn_n ?_
        refine hK _ _ ?_
        clear hK K
        refine AW.seq_k fun K hK => ?_
        iterate 2
          refine AW.block ?_
          refine AW.seq_k fun K hK => ?_
          refine AW.region (by decide) ?_
          simp only [push_cast, simprocAttr, hb, lk_old hb, hz1, Nat.sub_zero, hb1, lk_old hb1, g, c1, c2, gj, d1, d2, d3, d4, h1, h2, h3]
          refine Thn_n ?_
          refine hK _ _ ?_
          clear hK K
        refine AW.cond_t rfl ?_
        refine AW.seq_k fun K hK => ?_
        refine AW.region (by decide) ?_
        simp only [push_cast, simprocAttr, hb, lk_old hb, hz1, Nat.sub_zero, hb1, lk_old hb1, g, c1, c2, gj, d1, d2, d3, d4, h1, h2, h3]
        refine Thn_n ?_
        refine hK _ _ ?_
        clear hK K
        refine AW.ret ?_
        refine InB_r ?_
        refine InB_r ?_
        refine Thn_r ?_
        refine Thn_r ?_
        refine InB_r ?_
        refine InB_r ?_
        refine Thn_r ?_
        refine Thn_r ?_
        refine InB_r ?_
        refine Thn_r ?_
        refine hQ _ _ _ ?_
        first | refine RetP.drop0 (Or.inr rfl) ?_ ?_ hwf | refine RetP.drop (Or.inr rfl) ?_ ?_ hwf
        · simp only [resA, resOne, resTv, AV.tv, push_cast, simprocAttr, hb, lk_old hb, hz1, Nat.sub_zero, hb1, lk_old hb1, g, c1, c2, gj, d1, d2, d3, d4, h1, h2, h3]
        · rfl
      · obtain ⟨h1, h2, hz1⟩ := hcs
        have h3 : True := trivial
        rw [hz1] at hz; subst hz
        refine AW.skip ?_
        refine Thn_n ?_
        refine hK _ _ ?_
        clear hK K
        refine AW.seq_k fun K hK => ?_
        iterate 2
          refine AW.block ?_
          refine AW.seq_k fun K hK => ?_
          refine AW.region (by decide) ?_
          simp only [push_cast, simprocAttr, hb, lk_old hb, hz1, Nat.sub_zero, hb1, lk_old hb1, g, c1, c2, gj, d1, d2, d3, d4, h1, h2, h3]
          refine Thn_n ?_
          refine hK _ _ ?_
          clear hK K
        refine AW.cond_t rfl ?_
        refine AW.seq_k fun K hK => ?_
        refine AW.region (by decide) ?_
        simp only [push_cast, simprocAttr, hb, lk_old hb, hz1, Nat.sub_zero, hb1, lk_old hb1, g, c1, c2, gj, d1, d2, d3, d4, h1, h2, h3]
        refine Thn_n ?_
        refine hK _ _ ?_
        clear hK K
        refine AW.ret ?_
        refine InB_r ?_
        refine InB_r ?_
        refine Thn_r ?_
        refine Thn_r ?_
        refine InB_r ?_
        refine InB_r ?_
        refine Thn_r ?_
        refine Thn_r ?_
        refine InB_r ?_
        refine Thn_r ?_
        refine hQ _ _ _ ?_
        first | refine RetP.drop0 (Or.inr rfl) ?_ ?_ hwf | refine RetP.drop (Or.inr rfl) ?_ ?_ hwf
        · simp only [resA, resOne, resTv, AV.tv, push_cast, simprocAttr, hb, lk_old hb, hz1, Nat.sub_zero, hb1, lk_old hb1, g, c1, c2, gj, d1, d2, d3, d4, h1, h2, h3]
        · rfl
      · obtain ⟨h1, h2, h3, hz1⟩ := hcs
        rw [hz1] at hz; subst hz
        refine AW.skip ?_
        refine Thn_n ?_
        refine hK _ _ ?_
        clear hK K
        refine AW.seq_k fun K hK => ?_
        iterate 2
          refine AW.block ?_
          refine AW.seq_k fun K hK => ?_
          refine AW.region (by decide) ?_
          simp only [push_cast, simprocAttr, hb, lk_old hb, hz1, Nat.sub_zero, hb1, lk_old hb1, g, c1, c2, gj, d1, d2, d3, d4, h1, h2, h3]
          refine Thn_n ?_
          refine hK _ _ ?_
          clear hK K
        refine AW.cond_f rfl ?_
        refine AW.seq_k fun K hK => ?_
        refine AW.region (by decide) ?_
        simp only [push_cast, simprocAttr, hb, lk_old hb, hz1, Nat.sub_zero, hb1, lk_old hb1, g, c1, c2, gj, d1, d2, d3, d4, h1, h2, h3]
        try (refine CThen.by (contains_c _ (vv i) j (q i) (q i j) _ hrow (by omega) (by omega)) ?_; simp only [push_cast, simprocAttr, hb, lk_old hb, hz1, Nat.sub_zero, hb1, lk_old hb1, g, c1, c2, gj, d1, d2, d3, d4, h1, h2, h3])
        refine Thn_n ?_
        refine hK _ _ ?_
        clear hK K
        refine AW.cond_t rfl ?_
        refine AW.seq_k fun K hK => ?_
        refine AW.region (by decide) ?_
        simp only [push_cast, simprocAttr, hb, lk_old hb, hz1, Nat.sub_zero, hb1, lk_old hb1, g, c1, c2, gj, d1, d2, d3, d4, h1, h2, h3]
        refine Thn_n ?_
        refine hK _ _ ?_
        clear hK K
        refine AW.ret ?_
        refine InB_r ?_
        refine InB_r ?_
        refine Thn_r ?_
        refine Thn_r ?_
        refine InB_r ?_
        refine InB_r ?_
        refine Thn_r ?_
        refine Thn_r ?_
        refine InB_r ?_
        refine Thn_r ?_
        refine hQ _ _ _ ?_
        first | refine RetP.drop0 (Or.inr rfl) ?_ ?_ hwf | refine RetP.drop (Or.inr rfl) ?_ ?_ hwf
        · simp only [resA, resOne, resTv, AV.tv, push_cast, simprocAttr, hb, lk_old hb, hz1, Nat.sub_zero, hb1, lk_old hb1, g, c1, c2, gj, d1, d2, d3, d4, h1, h2, h3]
        · rfl
    · have hii : i + 1 ≤ i0 := by
        have h1 := of_decide_eq_false h19
        rcases Nat.lt_or_ge i i0 with h | h
        · exact h
        · have e : i = i0 := by omega
          have h2 := hbad.hj; have h3 := hjj e; rw [← e] at h2; omega
      refine AW.exit ?_
      refine Thn_e ?_
      clear hK K
      refine Thn_e ?_
      refine InB_here ?_
      refine InB_n ?_
      refine Thn_n ?_
      refine hK _ _ ?_
      clear hK K
      refine AW.region (by decide) ?_
      simp only [push_cast, simprocAttr, hb, lk_old hb, hz1, Nat.sub_zero, hb1, lk_old hb1, g, c1, c2]
      refine Thn_n ?_
      have hwi : IntKind.i64.wrap ((i:Int)+1) = (i:Int)+1 := by rw [IntKind.wrap_i64]; omega
      refine ⟨i + 1, by omega, by omega, ?_⟩
      try simp only [keepL, setAll, push_cast, simprocAttr, hb, lk_old hb, hz1, Nat.sub_zero, hb1, lk_old hb1, g, c1, c2, hwi]
      exact Weak.same (by simp only [Keeps, Tm.get_cons, Nat.reduceEqDiff, ↓reduceIte, if_true, if_false, ite_true, ite_false, true_and, and_true, and_self, reduceCtorEq, hwi]) (by first | rfl | simp only [Keeps, Tm.get_cons, Nat.reduceEqDiff, ↓reduceIte, if_true, if_false, ite_true, ite_false, true_and, and_true, and_self, reduceCtorEq, hwi])
  · exfalso
    have := of_decide_eq_false h13; have := hbad.hi; omega
theorem pcheck_ok {vp : Nat} (rp N : Nat) (ln : Nat → Nat) (q : Nat → Nat → Int) (m : AMem) (hp : RowsAt m rp vp N ln q) (hl : ∀ i, i < N → ln i ≤ 1048576) (hN : N ≤ 1048576) (hs : N ≤ 256) (hall : AllP N ln q) : Ctr Try.prog 20 [.one (.sl rp vp 0 N)] m (.one (.int .i64 (okZ N ln q))) m := by
  refine Ctr.enter Try.func20 rfl (by decide) (rs := [.tmp 2]) (nt := 46) rfl rfl fun hwf Q hQ => ?_
  obtain ⟨k0, ez, rr, vv, hb, hrows⟩ := hp.hb
  have hr := get_lt hb
  have hz1 : ¬ (256 : Int) < (N : Int) := by omega
  refine AW.seq_k fun K hK => ?_
  refine AW.region (by decide) ?_
  simp only [push_cast, simprocAttr, hb, lk_old hb, hz1, Nat.sub_zero]
  refine Thn_n ?_
  refine hK _ _ ?_
  clear hK K
  refine AW.seq_k fun K hK => ?_
  refine AW.seq_k fun K hK => ?_
  refine AW.region (by decide) ?_
  simp only [push_cast, simprocAttr, hb, lk_old hb, hz1, Nat.sub_zero]
  refine Thn_n ?_
  refine hK _ _ ?_
  clear hK K
  refine AW.cond_f rfl ?_
  refine AW.skip ?_
  refine Thn_n ?_
  refine hK _ _ ?_
  clear hK K
  refine AW.seq_k fun K hK => ?_
  refine AW.seq_k fun K hK => ?_
  refine AW.region (by decide) ?_
  simp only [push_cast, simprocAttr, hb, lk_old hb, hz1, Nat.sub_zero]
  refine Thn_n ?_
  refine hK _ _ ?_
  clear hK K
  refine AW.block ?_
  refine AW.loopK [0, 10, 11] (fun i => i ≤ N) (fun i => [(12, .one (.int .i64 (i : Int)))]) (fun i => []) (fun i => N - i) 0 (by omega) ?_ ?_ fun i hi6 => ?_
  · first | rfl | (simp only [Keeps, Tm.get_cons, Nat.reduceEqDiff, ↓reduceIte, if_true, if_false, ite_true, ite_false, true_and, and_true, and_self, reduceCtorEq] <;> rfl)
  · first | rfl | (simp only [setAll, push_cast, simprocAttr, hb, lk_old hb, hz1, Nat.sub_zero] <;> rfl)
  try simp only [keepL, setAll, push_cast, simprocAttr, hb, lk_old hb, hz1, Nat.sub_zero]
  refine AW.seq_k fun K hK => ?_
  refine AW.region (by decide) ?_
  simp only [push_cast, simprocAttr, hb, lk_old hb, hz1, Nat.sub_zero]
  refine Thn_n ?_
  refine hK _ _ ?_
  clear hK K
  refine AW.seq_k fun K hK => ?_
  refine AW.cond rfl (fun h13 => ?_) (fun h13 => ?_)
  · have hlt : i < N := by have := of_decide_eq_true h13; omega
    have c1 : (0 : Int) ≤ (i : Int) := by omega
    have c2 : (i : Int) < (N : Int) := by omega
    have hrow := hrows i hlt
    obtain ⟨k1, ez1, hb1⟩ := hrow.hb
    have g := rl_get (r := rr) (vv := vv) (ln := ln) hlt
    have hli := hl i hlt
    refine AW.skip ?_
    refine Thn_n ?_
    refine hK _ _ ?_
    clear hK K
    refine AW.seq_k fun K hK => ?_
    refine AW.block ?_
    iterate 2
      refine AW.seq_k fun K hK => ?_
      refine AW.region (by decide) ?_
      simp only [push_cast, simprocAttr, hb, lk_old hb, hz1, Nat.sub_zero, hb1, lk_old hb1, g, c1, c2]
      refine Thn_n ?_
      refine hK _ _ ?_
      clear hK K
    refine AW.block ?_
    refine AW.loopK [0, 4, 10, 11, 12, 16, 17] (fun j => j ≤ ln i) (fun j => [(18, .one (.int .i64 (j : Int)))]) (fun j => []) (fun j => ln i - j) 0 (by omega) ?_ ?_ fun j hi12 => ?_
    · first | rfl | (simp only [Keeps, Tm.get_cons, Nat.reduceEqDiff, ↓reduceIte, if_true, if_false, ite_true, ite_false, true_and, and_true, and_self, reduceCtorEq] <;> rfl)
    · first | rfl | (simp only [setAll, push_cast, simprocAttr, hb, lk_old hb, hz1, Nat.sub_zero, hb1, lk_old hb1, g, c1, c2] <;> rfl)
    try simp only [keepL, setAll, push_cast, simprocAttr, hb, lk_old hb, hz1, Nat.sub_zero, hb1, lk_old hb1, g, c1, c2]
    refine AW.seq_k fun K hK => ?_
    refine AW.region (by decide) ?_
    simp only [push_cast, simprocAttr, hb, lk_old hb, hz1, Nat.sub_zero, hb1, lk_old hb1, g, c1, c2]
    refine Thn_n ?_
    refine hK _ _ ?_
    clear hK K
    refine AW.seq_k fun K hK => ?_
    refine AW.cond rfl (fun h19 => ?_) (fun h19 => ?_)
    · have hjl : j < ln i := by have := of_decide_eq_true h19; omega
      have d1 : (0 : Int) ≤ (j : Int) := by omega
      have d2 : (j : Int) < (ln i : Int) := by omega
      have gj := il_get (f := q i) hjl
      have d3 : j ≤ ln i := by omega
      have d4 : (j : Int) ≤ (ln i : Int) := by omega
      obtain ⟨h1, h2, h3⟩ := goodP_t (hall i j hlt hjl)
      refine AW.skip ?_
      refine Thn_n ?_
      refine hK _ _ ?_
      clear hK K
      refine AW.seq_k fun K hK => ?_
      iterate 2
        refine AW.block ?_
        refine AW.seq_k fun K hK => ?_
        refine AW.region (by decide) ?_
        simp only [push_cast, simprocAttr, hb, lk_old hb, hz1, Nat.sub_zero, hb1, lk_old hb1, g, c1, c2, gj, d1, d2, d3, d4, h1, h2, h3]
        refine Thn_n ?_
        refine hK _ _ ?_
        clear hK K
      refine AW.cond_f rfl ?_
      refine AW.seq_k fun K hK => ?_
      refine AW.region (by decide) ?_
      simp only [push_cast, simprocAttr, hb, lk_old hb, hz1, Nat.sub_zero, hb1, lk_old hb1, g, c1, c2, gj, d1, d2, d3, d4, h1, h2, h3]
      try (refine CThen.by (contains_c _ (vv i) j (q i) (q i j) _ hrow (by omega) (by omega)) ?_; simp only [push_cast, simprocAttr, hb, lk_old hb, hz1, Nat.sub_zero, hb1, lk_old hb1, g, c1, c2, gj, d1, d2, d3, d4, h1, h2, h3])
      refine Thn_n ?_
      refine hK _ _ ?_
      clear hK K
      refine AW.cond_f rfl ?_
      refine AW.skip ?_
      refine InB_n ?_
      refine InB_n ?_
      refine Thn_n ?_
      refine hK _ _ ?_
      clear hK K
      refine AW.region (by decide) ?_
      simp only [push_cast, simprocAttr, hb, lk_old hb, hz1, Nat.sub_zero, hb1, lk_old hb1, g, c1, c2, gj, d1, d2, d3, d4, h1, h2, h3]
      refine Thn_n ?_
      have hwi : IntKind.i64.wrap ((j:Int)+1) = (j:Int)+1 := by rw [IntKind.wrap_i64]; omega
      refine ⟨j + 1, by omega, by omega, ?_⟩
      try simp only [keepL, setAll, push_cast, simprocAttr, hb, lk_old hb, hz1, Nat.sub_zero, hb1, lk_old hb1, g, c1, c2, gj, d1, d2, d3, d4, h1, h2, h3, hwi]
      exact Weak.same (by simp only [Keeps, Tm.get_cons, Nat.reduceEqDiff, ↓reduceIte, if_true, if_false, ite_true, ite_false, true_and, and_true, and_self, reduceCtorEq, hwi]) (by first | rfl | simp only [Keeps, Tm.get_cons, Nat.reduceEqDiff, ↓reduceIte, if_true, if_false, ite_true, ite_false, true_and, and_true, and_self, reduceCtorEq, hwi])
    · refine AW.exit ?_
      refine Thn_e ?_
      clear hK K
      refine Thn_e ?_
      refine InB_here ?_
      refine InB_n ?_
      refine Thn_n ?_
      refine hK _ _ ?_
      clear hK K
      refine AW.region (by decide) ?_
      simp only [push_cast, simprocAttr, hb, lk_old hb, hz1, Nat.sub_zero, hb1, lk_old hb1, g, c1, c2]
      refine Thn_n ?_
      have hwi : IntKind.i64.wrap ((i:Int)+1) = (i:Int)+1 := by rw [IntKind.wrap_i64]; omega
      refine ⟨i + 1, by omega, by omega, ?_⟩
      try simp only [keepL, setAll, push_cast, simprocAttr, hb, lk_old hb, hz1, Nat.sub_zero, hb1, lk_old hb1, g, c1, c2, hwi]
      exact Weak.same (by simp only [Keeps, Tm.get_cons, Nat.reduceEqDiff, ↓reduceIte, if_true, if_false, ite_true, ite_false, true_and, and_true, and_self, reduceCtorEq, hwi]) (by first | rfl | simp only [Keeps, Tm.get_cons, Nat.reduceEqDiff, ↓reduceIte, if_true, if_false, ite_true, ite_false, true_and, and_true, and_self, reduceCtorEq, hwi])
  · refine AW.exit ?_
    refine Thn_e ?_
    clear hK K
    refine Thn_e ?_
    refine InB_here ?_
    refine Thn_n ?_
    refine hK _ _ ?_
    clear hK K
    refine AW.seq_k fun K hK => ?_
    refine AW.seq_k fun K hK => ?_
    refine AW.region (by decide) ?_
    simp only [push_cast, simprocAttr, hb, lk_old hb, hz1, Nat.sub_zero]
    refine CThen.by (order_c rp N ln q _ hp hl hN) ?_
    simp only [push_cast, simprocAttr, hb, lk_old hb, hz1, Nat.sub_zero]
    refine Thn_n ?_
    refine hK _ _ ?_
    clear hK K
    refine AW.cond rfl (fun h45 => ?_) (fun h45 => ?_)
    · have hok : okZ N ln q = 32 := by rw [okZ, if_pos (by have := of_decide_eq_true h45; omega)]
      refine AW.seq_k fun K hK => ?_
      refine AW.region (by decide) ?_
      simp only [push_cast, simprocAttr, hb, lk_old hb, hz1, Nat.sub_zero, hok]
      refine Thn_n ?_
      refine hK _ _ ?_
      clear hK K
      refine AW.ret ?_
      refine Thn_r ?_
      refine hQ _ _ _ ?_
      first | refine RetP.drop0 (Or.inr rfl) ?_ ?_ hwf | refine RetP.drop (Or.inr rfl) ?_ ?_ hwf
      · simp only [resA, resOne, resTv, AV.tv, push_cast, simprocAttr, hb, lk_old hb, hz1, Nat.sub_zero, hok, hok]
      · rfl
    · have hok : okZ N ln q = 0 := by rw [okZ, if_neg (by have := of_decide_eq_false h45; omega)]
      refine AW.skip ?_
      refine Thn_n ?_
      refine hK _ _ ?_
      clear hK K
      refine AW.seq_k fun K hK => ?_
      refine AW.region (by decide) ?_
      simp only [push_cast, simprocAttr, hb, lk_old hb, hz1, Nat.sub_zero, hok]
      refine Thn_n ?_
      refine hK _ _ ?_
      clear hK K
      refine AW.ret ?_
      refine hQ _ _ _ ?_
      first | refine RetP.drop0 (Or.inr rfl) ?_ ?_ hwf | refine RetP.drop (Or.inr rfl) ?_ ?_ hwf
      · simp only [resA, resOne, resTv, AV.tv, push_cast, simprocAttr, hb, lk_old hb, hz1, Nat.sub_zero, hok, hok]
      · rfl
/-- The answer of both. -/
def CheckZ (N : Nat) (ln : Nat → Nat) (q : Nat → Nat → Int) (z : Int) : Prop :=
  (256 < N ∧ z = 8) ∨ (N ≤ 256 ∧ ∃ i0 j0, BadP N ln q i0 j0 ∧ z = badZ N q i0 j0) ∨ (N ≤ 256 ∧ AllP N ln q ∧ z = okZ N ln q)
theorem checkZ (N : Nat) (ln : Nat → Nat) (q : Nat → Nat → Int) : ∃ z, CheckZ N ln q z := by
  rcases Nat.lt_or_ge 256 N with h | h
  · exact ⟨8, .inl ⟨h, rfl⟩⟩
  · rcases pair_or N ln q with h1 | ⟨i0, j0, h1⟩
    · exact ⟨_, .inr (.inr ⟨h, h1, rfl⟩)⟩
    · exact ⟨_, .inr (.inl ⟨h, i0, j0, h1, rfl⟩)⟩
-- left out: theorem rcheck_c {vp 
theorem pcheck_c {vp : Nat} (rp N : Nat) (ln : Nat → Nat) (q : Nat → Nat → Int) (m : AMem) (hp : RowsAt m rp vp N ln q) (hl : ∀ i, i < N → ln i ≤ 1048576) (hN : N ≤ 1048576) (z : Int) (hz : CheckZ N ln q z) : Ctr Try.prog 20 [.one (.sl rp vp 0 N)] m (.one (.int .i64 z)) m := by
  rcases hz with ⟨h, e⟩ | ⟨h, i0, j0, hb, e⟩ | ⟨h, ha, e⟩
  · rw [e]; exact pcheck_big rp N ln q m hp hl hN h
  · exact pcheck_bad rp N ln q m hp hl hN h i0 j0 hb z e
  · rw [e]; exact pcheck_ok rp N ln q m hp hl hN h ha
end Go.Proofs.Ytmjbbnfmhgcfaaa

set_option linter.unusedSimpArgs false
set_option linter.unusedVariables false
set_option maxRecDepth 100000
set_option maxHeartbeats 4000000
namespace Go.Proofs.Ytmjbbnfmhgcfaaa
open Go Go.Eng

def lightB (ln : Nat → Nat) (N : Nat) : Bool := decide (∀ i, i < N → ln i ≤ 40) && decide ((N : Int) ≤ 40)
-- left out: light_c
theorem same_c (r v r2 v2 n : Nat) (f : Nat → Int) (m : AMem) (hp : IntsAt m r v n f) (hp2 : IntsAt m r2 v2 n f) (hn : n ≤ 9000000000000) : Ctr Try.prog 9 [.one (.sl r v 0 n), .one (.sl r2 v2 0 n)] m (.one (.bool true)) m := by
  refine Ctr.enter Try.func9 rfl (by decide) (rs := [.tmp 4]) (nt := 26) rfl rfl fun hwf Q hQ => ?_
  obtain ⟨k0, ez, hb⟩ := hp.hb
  obtain ⟨k1, ez1, hb1⟩ := hp2.hb
  have hr := get_lt hb
  have hr1 := get_lt hb1
  refine AW.seq_k fun K hK => ?_
  refine AW.region (by decide) ?_
  simp only [push_cast, simprocAttr, hb, lk_old hb, hb1, lk_old hb1]
  refine Thn_n ?_
  refine hK _ _ ?_
  clear hK K
  refine AW.seq_k fun K hK => ?_
  refine AW.seq_k fun K hK => ?_
  refine AW.region (by decide) ?_
  simp only [push_cast, simprocAttr, hb, lk_old hb, hb1, lk_old hb1]
  refine Thn_n ?_
  refine hK _ _ ?_
  clear hK K
  refine AW.cond_f rfl ?_
  refine AW.skip ?_
  refine Thn_n ?_
  refine hK _ _ ?_
  clear hK K
  refine AW.seq_k fun K hK => ?_
  refine AW.seq_k fun K hK => ?_
  refine AW.region (by decide) ?_
  simp only [push_cast, simprocAttr, hb, lk_old hb, hb1, lk_old hb1]
  refine Thn_n ?_
  refine hK _ _ ?_
  clear hK K
  refine AW.block ?_
  refine AW.loopK [0, 1, 12] (fun i => i ≤ n) (fun i => [(13, .one (.int .i64 (i : Int)))]) (fun i => []) (fun i => n - i) 0 (by omega) ?_ ?_ fun i hi6 => ?_
  · first | rfl | (simp only [Keeps, Tm.get_cons, Nat.reduceEqDiff, ↓reduceIte, if_true, if_false, ite_true, ite_false, true_and, and_true, and_self, reduceCtorEq] <;> rfl)
  · first | rfl | (simp only [setAll, push_cast, simprocAttr, hb, lk_old hb, hb1, lk_old hb1] <;> rfl)
  try simp only [keepL, setAll, push_cast, simprocAttr, hb, lk_old hb, hb1, lk_old hb1]
  refine AW.seq_k fun K hK => ?_
  refine AW.region (by decide) ?_
  simp only [push_cast, simprocAttr, hb, lk_old hb, hb1, lk_old hb1]
  refine Thn_n ?_
  refine hK _ _ ?_
  clear hK K
  refine AW.seq_k fun K hK => ?_
  refine AW.cond rfl (fun h14 => ?_) (fun h14 => ?_)
  · have hlt : i < n := by have := of_decide_eq_true h14; omega
    have c1 : (0 : Int) ≤ (i : Int) := by omega
    have c2 : (i : Int) < (n : Int) := by omega
    have g := il_get (f := f) hlt
    refine AW.skip ?_
    refine Thn_n ?_
    refine hK _ _ ?_
    clear hK K
    refine AW.seq_k fun K hK => ?_
    refine AW.block ?_
    refine AW.seq_k fun K hK => ?_
    refine AW.region (by decide) ?_
    simp only [push_cast, simprocAttr, hb, lk_old hb, hb1, lk_old hb1, c1, c2, g]
    refine Thn_n ?_
    refine hK _ _ ?_
    clear hK K
    refine AW.seq_k fun K hK => ?_
    refine AW.draw [.val, .val, .val, .rd 0, .val, .val, .val, .rd 0, .val] fol (by decide) (by kernel_rfl) ?_
    simp only [push_cast, simprocAttr, hb, lk_old hb, hb1, lk_old hb1, c1, c2, g]
    refine Thn_n ?_
    refine hK _ _ ?_
    clear hK K
    refine AW.cond_f rfl ?_
    refine AW.skip ?_
    refine InB_n ?_
    refine Thn_n ?_
    refine hK _ _ ?_
    clear hK K
    refine AW.region (by decide) ?_
    simp only [push_cast, simprocAttr, hb, lk_old hb, hb1, lk_old hb1, c1, c2, g]
    refine Thn_n ?_
    have hwi : IntKind.i64.wrap ((i:Int)+1) = (i:Int)+1 := by rw [IntKind.wrap_i64]; omega
    refine ⟨i + 1, by omega, by omega, ?_⟩
    try simp only [keepL, setAll, push_cast, simprocAttr, hb, lk_old hb, hb1, lk_old hb1, c1, c2, g, hwi]
    exact Weak.same (by simp only [Keeps, Tm.get_cons, Nat.reduceEqDiff, ↓reduceIte, if_true, if_false, ite_true, ite_false, true_and, and_true, and_self, reduceCtorEq, hwi]) (by first | rfl | simp only [Keeps, Tm.get_cons, Nat.reduceEqDiff, ↓reduceIte, if_true, if_false, ite_true, ite_false, true_and, and_true, and_self, reduceCtorEq, hwi])
  · refine AW.exit ?_
    refine Thn_e ?_
    clear hK K
    refine Thn_e ?_
    refine InB_here ?_
    refine Thn_n ?_
    refine hK _ _ ?_
    clear hK K
    refine AW.seq_k fun K hK => ?_
    refine AW.region (by decide) ?_
    simp only [push_cast, simprocAttr, hb, lk_old hb, hb1, lk_old hb1]
    refine Thn_n ?_
    refine hK _ _ ?_
    clear hK K
    refine AW.ret ?_
    refine hQ _ _ _ ?_
    first | refine RetP.drop0 (Or.inr rfl) ?_ ?_ hwf | refine RetP.drop (Or.inr rfl) ?_ ?_ hwf
    · simp only [resA, resOne, resTv, AV.tv, push_cast, simprocAttr, hb, lk_old hb, hb1, lk_old hb1]
    · rfl
theorem porder_no {vp : Nat} (rp N : Nat) (ln : Nat → Nat) (q : Nat → Nat → Int) (m : AMem) (hp : RowsAt m rp vp N ln q) (hl : ∀ i, i < N → ln i ≤ 1048576) (hN : N ≤ 1048576) (z : Int) (hz : CheckZ N ln q z) (h0 : (z != 0) = true) : Ctr Try.prog 12 [.one (.sl rp vp 0 N)] m (.tup [(false, [.nils]), (false, [.int .i64 z])]) m := by
  refine Ctr.enter Try.func12 rfl (by decide) (rs := [.tmp 2, .tmp 3]) (nt := 12) rfl rfl fun hwf Q hQ => ?_
  refine AW.seq_k fun K hK => ?_
  refine AW.region (by decide) ?_
  simp only [push_cast, simprocAttr, h0]
  refine Thn_n ?_
  refine hK _ _ ?_
  clear hK K
  refine AW.seq_k fun K hK => ?_
  refine AW.seq_k fun K hK => ?_
  refine AW.region (by decide) ?_
  simp only [push_cast, simprocAttr, h0]
  refine CThen.by (pcheck_c rp N ln q _ hp hl hN z hz) ?_
  simp only [push_cast, simprocAttr, h0]
  refine Thn_n ?_
  refine hK _ _ ?_
  clear hK K
  refine AW.seq_k fun K hK => ?_
  refine AW.region (by decide) ?_
  simp only [push_cast, simprocAttr, h0]
  refine Thn_n ?_
  refine hK _ _ ?_
  clear hK K
  refine AW.cond_t rfl ?_
  refine AW.seq_k fun K hK => ?_
  refine AW.region (by decide) ?_
  simp only [push_cast, simprocAttr, h0]
  refine Thn_n ?_
  refine hK _ _ ?_
  clear hK K
  refine AW.ret ?_
  refine Thn_r ?_
  refine hQ _ _ _ ?_
  first | refine RetP.drop0 (Or.inr rfl) ?_ ?_ hwf | refine RetP.drop (Or.inr rfl) ?_ ?_ hwf
  · simp only [resA, resOne, resTv, AV.tv, push_cast, simprocAttr, h0]
  · rfl
theorem porder_ok {vp : Nat} (rp N : Nat) (ln : Nat → Nat) (q : Nat → Nat → Int) (m : AMem) (hp : RowsAt m rp vp N ln q) (hl : ∀ i, i < N → ln i ≤ 1048576) (hN : N ≤ 1048576) (hz : CheckZ N ln q 0) : Ctr Try.prog 12 [.one (.sl rp vp 0 N)] m (.tup [(false, [.sl m.length 0 0 (itO N ln q N).length]), (false, [.int .i64 0])]) (m ++ [⟨.grow, 3, 0, 1, il (itO N ln q N).length (oF (itO N ln q N))⟩]) := by
  refine Ctr.enter Try.func12 rfl (by decide) (rs := [.tmp 2, .tmp 3]) (nt := 12) rfl rfl fun hwf Q hQ => ?_
  have hlt0 : ∀ k, ¬ m.length + k < m.length := fun k => by omega
  refine AW.seq_k fun K hK => ?_
  refine AW.region (by decide) ?_
  simp only [push_cast, simprocAttr]
  refine Thn_n ?_
  refine hK _ _ ?_
  clear hK K
  refine AW.seq_k fun K hK => ?_
  refine AW.seq_k fun K hK => ?_
  refine AW.region (by decide) ?_
  simp only [push_cast, simprocAttr]
  refine CThen.by (pcheck_c rp N ln q _ hp hl hN 0 hz) ?_
  simp only [push_cast, simprocAttr]
  refine Thn_n ?_
  refine hK _ _ ?_
  clear hK K
  refine AW.seq_k fun K hK => ?_
  refine AW.region (by decide) ?_
  simp only [push_cast, simprocAttr]
  refine Thn_n ?_
  refine hK _ _ ?_
  clear hK K
  refine AW.cond_f rfl ?_
  refine AW.skip ?_
  refine Thn_n ?_
  refine hK _ _ ?_
  clear hK K
  refine AW.seq_k fun K hK => ?_
  refine AW.region (by decide) ?_
  simp only [push_cast, simprocAttr]
  refine CThen.by (order_c rp N ln q _ hp hl hN) ?_
  simp only [push_cast, simprocAttr]
  refine Thn_n ?_
  refine hK _ _ ?_
  clear hK K
  refine AW.ret ?_
  refine hQ _ _ _ ?_
  refine RetP.pick [(m.length, 0)] (Or.inr rfl) ?_ ?_ ?_ hwf ?_
  · simp only [resA, resOne, resTv, AV.tv, push_cast, simprocAttr]
    simp [renV, renT, renL, renC, renIdx, hlt0]
  · simp only [picks, push_cast, simprocAttr]
  · simp [distinctFrom]
  · exact MWf_one (il_below _ _ _)
  
end Go.Proofs.Ytmjbbnfmhgcfaaa

set_option linter.unusedSimpArgs false
set_option linter.unusedVariables false
set_option maxRecDepth 100000
set_option maxHeartbeats 4000000
namespace Go.Proofs.Ytmjbbnfmhgcfaaa
open Go Go.Eng

theorem nl_il (xs : List Nat) : nl xs = il xs.length (oF xs) := by
  refine il_of (nl_len xs) fun i hi => ?_
  simp only [nl, List.getElem?_map, List.getElem?_eq_getElem hi, Option.map_some, oF, List.getD_eq_getElem?_getD, Option.getD_some]
def J1 : List Int := 1 :: List.replicate 31 0
theorem j1_ok : U8ok J1 := fun x hx => by
  rcases List.mem_cons.1 hx with rfl | hx
  · omega
  · obtain ⟨_, rfl⟩ := List.mem_replicate.1 hx; omega
theorem awake_c (m : AMem) : Ctr Try.prog 11 [] m (.one (.bool true)) m := by
  refine Ctr.enter Try.func11 rfl (by decide) (rs := [.tmp 0]) (nt := 19) rfl rfl fun hwf Q hQ => ?_
  have hJ : [.int .u8 1, .int .u8 0, .int .u8 0, .int .u8 0, .int .u8 0, .int .u8 0, .int .u8 0, .int .u8 0, .int .u8 0, .int .u8 0, .int .u8 0, .int .u8 0, .int .u8 0, .int .u8 0, .int .u8 0, .int .u8 0, .int .u8 0, .int .u8 0, .int .u8 0, .int .u8 0, .int .u8 0, .int .u8 0, .int .u8 0, .int .u8 0, .int .u8 0, .int .u8 0, .int .u8 0, .int .u8 0, .int .u8 0, .int .u8 0, .int .u8 0, .int .u8 0] = u8l J1 := rfl
  have hG : rwG 2 = [⟨.grow, 3, 0, 1, nl (ndL 1)⟩, ⟨.grow, 3, 0, 1, nl (ndL 2)⟩, ⟨.grow, 3, 0, 1, nl (ndL 3)⟩, ⟨.grow, 3, 0, 1, nl (ndL 5)⟩, ⟨.grow, 3, 0, 1, nl (ndL 6)⟩, ⟨.grow, 3, 0, 1, nl (ndL 7)⟩] := rfl
  have h5 := wR_cell J1 (m.length + 2) 8 5 34 (by decide) (by decide)
  have h5b : (wC J1 (m.length + 2) 5)[34]? = some (.sl (m.length + 5) 0 0 3) := by
    have hl : (u8l (ky J1 5)).length = 32 := by rw [u8l_len, ky_len]
    simp only [wC, List.getElem?_cons_succ]
    rw [List.getElem?_append_right (by omega), hl]; rfl
  rw [h5b] at h5
  simp only [push_cast, simprocAttr] at h5
  refine AW.seq_k fun K hK => ?_
  refine AW.region (by decide) ?_
  simp only [push_cast, simprocAttr, hJ, hG, h5]
  refine Thn_n ?_
  refine hK _ _ ?_
  clear hK K
  refine AW.seq_k fun K hK => ?_
  refine AW.region (by decide) ?_
  simp only [push_cast, simprocAttr, hJ, hG, h5]
  refine CThen.by (works_c J1 2 2 _ rfl j1_ok (by decide) (by decide)) ?_
  simp only [push_cast, simprocAttr, hJ, hG, h5]
  refine Thn_n ?_
  refine hK _ _ ?_
  clear hK K
  refine AW.seq_k fun K hK => ?_
  refine AW.region (by decide) ?_
  simp only [push_cast, simprocAttr, hJ, hG, h5]
  refine CThen.by (same_c (m.length + 5) 0 (m.length + 8) 0 3 (oF [4, 0, 1]) _ ⟨⟨.grow, 1, by simp only [push_cast, simprocAttr]; rfl⟩⟩ ⟨⟨.grow, 1, by simp only [push_cast, simprocAttr]; rfl⟩⟩ (by decide)) ?_
  simp only [push_cast, simprocAttr, hJ, hG, h5]
  refine CThen.by (at_c 1 1 _ (by decide) (by decide)) ?_
  simp only [push_cast, simprocAttr, hJ, hG, h5]
  refine Thn_n ?_
  refine hK _ _ ?_
  clear hK K
  refine AW.ret ?_
  refine hQ _ _ _ ?_
  first | refine RetP.drop0 (Or.inr rfl) ?_ ?_ hwf | refine RetP.drop (Or.inr rfl) ?_ ?_ hwf
  · simp only [resA, resOne, resTv, AV.tv, push_cast, simprocAttr, hJ, hG, h5]
  · rfl
end Go.Proofs.Ytmjbbnfmhgcfaaa

set_option linter.unusedSimpArgs false
set_option linter.unusedVariables false
set_option maxRecDepth 100000
set_option maxHeartbeats 4000000
namespace Go.Proofs.Ytmjbbnfmhgcfaaa
open Go Go.Eng

/-- The plan of works: its rows' cells, and the blocks that its making leaves. -/
def pR (L : Nat) : Nat → List CV
  | 0 => []
  | n + 1 => pR L n ++ [.sl (L + (2 * n + 2)) 1 0 (ndL n).length]
theorem pR_rl (L : Nat) : ∀ n, pR L n = rl n (fun i => L + (2 * i + 2)) (fun _ => 1) (fun i => (ndL i).length)
  | 0 => rfl
  | n + 1 => by simp only [pR, rl, pR_rl L n]
theorem pR_len (L : Nat) (n : Nat) : (pR L n).length = n := by rw [pR_rl, rl_len]
def pE (J : List Int) (b : Nat) : Nat → AMem
  | 0 => []
  | n + 1 => pE J b n ++ [⟨.fix, 39, 0, 0, wC J b n⟩, ⟨.grow, 3, 1, 1, nl (ndL n)⟩]
theorem pE_len (J : List Int) (b : Nat) : ∀ n, (pE J b n).length = 2 * n
  | 0 => rfl
  | n + 1 => by simp only [pE, List.length_append, pE_len J b n, List.length_cons, List.length_nil]; omega
theorem pE_get (J : List Int) (b : Nat) : ∀ {n i : Nat}, i < n → (pE J b n)[2 * i + 1]? = some ⟨.grow, 3, 1, 1, nl (ndL i)⟩
  | n + 1, i, h => by
    have hl := pE_len J b n
    simp only [pE]
    rcases Nat.lt_or_ge i n with hi | hi
    · rw [List.getElem?_append_left (by omega)]; exact pE_get J b hi
    · obtain rfl : i = n := by omega
      rw [List.getElem?_append_right (by omega), hl, show 2 * i + 1 - 2 * i = 1 by omega]; rfl
theorem pR_below {L K : Nat} : ∀ n, L + 1 + 2 * n ≤ K → (pR L n).all (CV.below K) = true
  | 0, _ => rfl
  | n + 1, h => by
    simp only [pR, List.all_append, pR_below (L := L) (K := K) n (by omega), List.all_cons, List.all_nil, CV.below, Bool.and_true, Bool.true_and, decide_eq_true_eq]; omega
theorem pE_wf {J : List Int} {b K : Nat} : ∀ n, (∀ i, i < n → i % 4 ≠ 0 → b + rwN i < K) → MWf K (pE J b n)
  | 0, _ => MWf_nil
  | n + 1, h => by
    refine MWf.app (pE_wf n fun i hi => h i (by omega)) (MWf_cons ?_ (MWf_one (nl_below _ _)))
    have h2 : (ndC b n).below K = true := by
      unfold ndC
      split
      · rfl
      · rename_i h3
        have := h n (by omega) h3
        simpa [CV.below] using this
    simp only [wC, List.all_cons, List.all_append, u8l_below, h2, List.all_nil]; rfl
theorem plan_wf (J : List Int) (b n : Nat) (M : AMem) (v : Nat) (hm : MWf M.length M) (h : ∀ i, i < n → i % 4 ≠ 0 → b + rwN i < M.length) : MWf (M ++ (⟨.grow, 37, v, 1, pR M.length n⟩ :: pE J b n)).length (M ++ (⟨.grow, 37, v, 1, pR M.length n⟩ :: pE J b n)) := by
  have hl := pE_len J b n
  refine MWf.app (hm.grow (by simp)) (MWf_cons (pR_below n ?_) (pE_wf n fun i hi h3 => ?_))
  · simp only [List.length_append, List.length_cons, hl]; omega
  · have := h i hi h3
    simp only [List.length_append, List.length_cons]; omega
theorem ndL_len (i : Nat) : (ndL i).length ≤ 3 := by unfold ndL; split <;> (try split) <;> (try split) <;> simp
theorem ndL_nil {i : Nat} (h : i % 4 = 0) : ndL i = [] := by unfold ndL; rw [if_pos h]
theorem plan_c (J : List Int) (b n wr : Nat) (M : AMem) (hW : M[wr]? = some ⟨.grow, 39, n, 35, wR J b n⟩) (hrows : ∀ i, i < n → i % 4 ≠ 0 → M[b + rwN i]? = some ⟨.grow, 3, 0, 1, nl (ndL i)⟩) (hbl : ∀ i, i < n → i % 4 ≠ 0 → b + rwN i < M.length) (hn : n ≤ 1000) : Ctr Try.prog 8 [.one (.sl wr n 0 n)] M (.one (.sl M.length n 0 n)) (M ++ (⟨.grow, 37, n, 1, pR M.length (n)⟩ :: pE J b n)) := by
  refine Ctr.enter Try.func8 rfl (by decide) (rs := [.tmp 2]) (nt := 22) rfl rfl fun hwf Q hQ => ?_
  have gW := hW
  have hwr := get_lt hW
  have hwfp := fun k hk => plan_wf J b k M k hwf fun i hi h => hbl i (Nat.lt_of_lt_of_le hi hk) h
  have hwl := wR_len J b n
  iterate 2
    refine AW.seq_k fun K hK => ?_
    refine AW.region (by decide) ?_
    simp only [push_cast, simprocAttr, gW, lk_old gW, hwl]
    refine Thn_n ?_
    refine hK _ _ ?_
    clear hK K
  refine AW.seq_k fun K hK => ?_
  refine AW.seq_k fun K hK => ?_
  refine AW.region (by decide) ?_
  simp only [push_cast, simprocAttr, gW, lk_old gW, hwl]
  refine Thn_n ?_
  refine hK _ _ ?_
  clear hK K
  refine AW.block ?_
  refine AW.loopE0 [7, 8] (fun i => i ≤ n) (fun i => [(3, .one (.sl M.length i 0 i)), (9, .one (.int .i64 (i : Int)))]) (fun i => [(M.length, ⟨.grow, 37, i, 1, pR M.length (i)⟩)]) (fun i => pE J b i) (fun i => n - i) 0 (by omega) ?_ ?_ ?_ fun i hi5 => ?_
  · first | rfl | (simp only [Keeps, Tm.get_cons, Nat.reduceEqDiff, ↓reduceIte, if_true, if_false, ite_true, ite_false, true_and, and_true, and_self, reduceCtorEq, pR, pE, Int.natCast_zero] <;> rfl)
  · first | rfl | (simp only [setAll, push_cast, simprocAttr, gW, lk_old gW, hwl, pR, pE, Int.natCast_zero] <;> rfl)
  · exact fun i j _ _ h => by simp only [pE_len]; omega
  try simp only [keepL, setAll, push_cast, simprocAttr, gW, lk_old gW, hwl]
  refine AW.seq_k fun K hK => ?_
  refine AW.region (by decide) ?_
  simp only [push_cast, simprocAttr, gW, lk_old gW, hwl]
  refine Thn_n ?_
  refine hK _ _ ?_
  clear hK K
  refine AW.seq_k fun K hK => ?_
  refine AW.cond rfl (fun h10 => ?_) (fun h10 => ?_)
  · have hlt : i < n := by have := of_decide_eq_true h10; omega
    have c1 : (0 : Int) ≤ (i : Int) := by omega
    have c2 : (i : Int) < (n : Int) := by omega
    have c3 : i * 35 + 35 ≤ n * 35 := by omega
    have hwa := wR_at J b n i hlt
    rw [show 35 * i = i * 35 from Nat.mul_comm _ _] at hwa
    have hcl := wC_len J b i
    have q3 : 35 * n = n * 35 := Nat.mul_comm _ _
    have hct : (wC J b i).take 35 = wC J b i := List.take_of_length_le (by rw [hcl]; exact Nat.le_refl _)
    have hcs : setL [.int .i64 0, .int .i64 0, .int .u8 0, .int .u8 0, .int .u8 0, .int .u8 0, .int .u8 0, .int .u8 0, .int .u8 0, .int .u8 0, .int .u8 0, .int .u8 0, .int .u8 0, .int .u8 0, .int .u8 0, .int .u8 0, .int .u8 0, .int .u8 0, .int .u8 0, .int .u8 0, .int .u8 0, .int .u8 0, .int .u8 0, .int .u8 0, .int .u8 0, .int .u8 0, .int .u8 0, .int .u8 0, .int .u8 0, .int .u8 0, .int .u8 0, .int .u8 0, .int .u8 0, .int .u8 0, .nils] 0 (wC J b i) = wC J b i := setL_full (by rw [hcl]; rfl)
    dsimp only at hcs
    have hcv : (wC J b i).all CV.isVal = true := wC_vals _ _ _
    have hc34 : (wC J b i)[34]? = some (ndC b i) := by
      have hl : (u8l (ky J i)).length = 32 := by rw [u8l_len, ky_len]
      simp only [wC, List.getElem?_cons_succ]
      rw [List.getElem?_append_right (by omega), hl]; rfl
    have hpl := pE_len J b i
    have hpR : pR M.length (i + 1) = pR M.length i ++ [.sl (M.length + (2 * i + 2)) 1 0 (ndL i).length] := rfl
    have hpE : pE J b (i + 1) = pE J b i ++ [⟨.fix, 39, 0, 0, wC J b i⟩, ⟨.grow, 3, 1, 1, nl (ndL i)⟩] := rfl
    have hpr := pR_len M.length i
    have hn3 := ndL_len i
    have hnl := nl_len (ndL i)
    have hnv := nl_vals (ndL i)
    have hnt : (nl (ndL i)).take (ndL i).length = nl (ndL i) := List.take_of_length_le (by rw [hnl]; exact Nat.le_refl _)
    have c5 : (ndL i).length ≤ 140737488355328 := by omega
    have c6 : (ndL i).length * 8 ≤ 140737488355328 := by omega
    have q1 : i + 1 ≤ 140737488355328 := by omega
    have q2 : (i + 1) * 24 ≤ 140737488355328 := by omega
    have hg0 : ∀ (x : Blk) (l : AMem), (pE J b i ++ x :: l)[2 * i]? = some x := fun x l => by rw [List.getElem?_append_right (by omega), hpl, Nat.sub_self]; rfl
    have hs0 : ∀ (x : Blk) (l : AMem) (y : Blk), (pE J b i ++ x :: l).set (2 * i) y = pE J b i ++ y :: l := fun x l y => by rw [List.set_append_right _ _ (by omega), hpl, Nat.sub_self]; rfl
    have hg1 : ∀ (x z : Blk) (l : AMem), (pE J b i ++ x :: z :: l)[2 * i + 1]? = some z := fun x z l => by rw [List.getElem?_append_right (by omega), hpl, Nat.add_sub_cancel_left]; rfl
    have hs1 : ∀ (x z : Blk) (l : AMem) (y : Blk), (pE J b i ++ x :: z :: l).set (2 * i + 1) y = pE J b i ++ x :: y :: l := fun x z l y => by rw [List.set_append_right _ _ (by omega), hpl, Nat.add_sub_cancel_left]; rfl
    have hg2 : ∀ (x z w : Blk) (l : AMem), (pE J b i ++ x :: z :: w :: l)[2 * i + 2]? = some w := fun x z w l => by rw [List.getElem?_append_right (by omega), hpl, Nat.add_sub_cancel_left]; rfl
    refine AW.skip ?_
    refine Thn_n ?_
    refine hK _ _ ?_
    clear hK K
    refine AW.seq_k fun K hK => ?_
    refine AW.block ?_
    refine AW.seq_k fun K hK => ?_
    refine AW.region (by decide) ?_
    simp only [push_cast, simprocAttr, gW, lk_old gW, hwl, hnt, c5, c6, q1, q2, hg0, hs0, hg1, hs1, hg2, c1, c2, c3, hwa, hcl, hct, hcs, hcv, hpl, hpr, hnl, hnv, q3]
    refine Thn_n ?_
    refine hK _ _ ?_
    clear hK K
    rcases Nat.eq_zero_or_pos (i % 4) with hz | hz
    · have hnd : ndC b i = .nils := by unfold ndC; rw [if_pos hz]
      have hnq := ndL_nil hz
      have hn0 : nl [] = [] := rfl
      have gr := hrows
      rw [hnd] at hc34
      refine AW.region (by decide) ?_
      simp only [push_cast, simprocAttr, gW, lk_old gW, hwl, hnt, c5, c6, q1, q2, hg0, hs0, hg1, hs1, hg2, c1, c2, c3, hwa, hcl, hct, hcs, hcv, hpl, hpr, hnl, hnv, q3, hc34, hnq, hn0]
      refine InB_n ?_
      refine Thn_n ?_
      refine hK _ _ ?_
      clear hK K
      refine AW.region (by decide) ?_
      simp only [push_cast, simprocAttr, gW, lk_old gW, hwl, hnt, c5, c6, q1, q2, hg0, hs0, hg1, hs1, hg2, c1, c2, c3, hwa, hcl, hct, hcs, hcv, hpl, hpr, hnl, hnv, q3, hc34, hnq, hn0]
      refine Thn_n ?_
      have hwi : IntKind.i64.wrap ((i:Int)+1) = (i:Int)+1 := by rw [IntKind.wrap_i64]; omega
      refine ⟨i + 1, hlt, by omega, ?_⟩
      try simp only [keepL, setAll, push_cast, simprocAttr, gW, lk_old gW, hwl, hnt, c5, c6, q1, q2, hg0, hs0, hg1, hs1, hg2, c1, c2, c3, hwa, hcl, hct, hcs, hcv, hpl, hpr, hnl, hnv, q3, hc34, hnq, hn0, hwi, hpE, hpR, List.append_assoc]
      exact Weak.to (extra := [_]) (by simp only [Keeps, Tm.get_cons, Nat.reduceEqDiff, ↓reduceIte, if_true, if_false, ite_true, ite_false, true_and, and_true, and_self, reduceCtorEq, hwi, hpE, hpR, List.append_assoc]) (by first | rfl | (simp only [List.append_assoc, List.cons_append, List.nil_append]; rfl)) (by first | rfl | (simp [AV.below, CV.below, nl_below]; done) | (simp [AV.below, CV.below, nl_below]; omega)) (by have h := hwfp (i + 1) hlt; simp only [push_cast, simprocAttr, hpE, hpR, hnq, hn0, List.append_assoc] at h ⊢; exact h)
    · have hnd : ndC b i = .sl (b + rwN i) 0 0 (ndL i).length := by unfold ndC; rw [if_neg (by omega)]
      have hnq : True := trivial
      have hn0 : True := trivial
      have gr := hrows i hlt (by omega)
      rw [hnd] at hc34
      refine AW.region (by decide) ?_
      simp only [push_cast, simprocAttr, gW, lk_old gW, hwl, hnt, c5, c6, q1, q2, hg0, hs0, hg1, hs1, hg2, c1, c2, c3, hwa, hcl, hct, hcs, hcv, hpl, hpr, hnl, hnv, q3, hc34, gr, lk_old gr]
      refine InB_n ?_
      refine Thn_n ?_
      refine hK _ _ ?_
      clear hK K
      refine AW.region (by decide) ?_
      simp only [push_cast, simprocAttr, gW, lk_old gW, hwl, hnt, c5, c6, q1, q2, hg0, hs0, hg1, hs1, hg2, c1, c2, c3, hwa, hcl, hct, hcs, hcv, hpl, hpr, hnl, hnv, q3, hc34, gr, lk_old gr]
      refine Thn_n ?_
      have hwi : IntKind.i64.wrap ((i:Int)+1) = (i:Int)+1 := by rw [IntKind.wrap_i64]; omega
      refine ⟨i + 1, hlt, by omega, ?_⟩
      try simp only [keepL, setAll, push_cast, simprocAttr, gW, lk_old gW, hwl, hnt, c5, c6, q1, q2, hg0, hs0, hg1, hs1, hg2, c1, c2, c3, hwa, hcl, hct, hcs, hcv, hpl, hpr, hnl, hnv, q3, hc34, gr, lk_old gr, hwi, hpE, hpR, List.append_assoc]
      exact Weak.to (extra := [_]) (by simp only [Keeps, Tm.get_cons, Nat.reduceEqDiff, ↓reduceIte, if_true, if_false, ite_true, ite_false, true_and, and_true, and_self, reduceCtorEq, hwi, hpE, hpR, List.append_assoc]) (by first | rfl | (simp only [List.append_assoc, List.cons_append, List.nil_append]; rfl)) (by first | rfl | (simp [AV.below, CV.below, nl_below]; done) | (simp [AV.below, CV.below, nl_below]; omega)) (by have h := hwfp (i + 1) hlt; simp only [push_cast, simprocAttr, hpE, hpR, hnq, hn0, List.append_assoc] at h ⊢; exact h)
  · have hie : i = n := by have := of_decide_eq_false h10; omega
    subst hie
    refine AW.exit ?_
    refine Thn_e ?_
    clear hK K
    refine Thn_e ?_
    refine InB_here ?_
    refine Thn_n ?_
    refine hK _ _ ?_
    clear hK K
    refine AW.seq_k fun K hK => ?_
    refine AW.region (by decide) ?_
    simp only [push_cast, simprocAttr, gW, lk_old gW, hwl]
    refine Thn_n ?_
    refine hK _ _ ?_
    clear hK K
    refine AW.ret ?_
    refine hQ _ _ _ ?_
    refine ⟨Or.inr rfl, _, ?_, Hands.all⟩
    simp only [resA, resOne, resTv, AV.tv, push_cast, simprocAttr]
end Go.Proofs.Ytmjbbnfmhgcfaaa

set_option linter.unusedSimpArgs false
set_option linter.unusedVariables false
set_option maxRecDepth 100000
set_option maxHeartbeats 4000000
namespace Go.Proofs.Ytmjbbnfmhgcfaaa
open Go Go.Eng

theorem ndL_nodup (i : Nat) : (ndL i).Nodup := by
  unfold ndL
  split
  · exact List.nodup_nil
  · split
    · split
      · simp
      · have h5 : 5 ≤ i := by omega
        simp only [List.nodup_cons, List.mem_cons, List.not_mem_nil, or_false, not_or, List.nodup_nil, not_false_eq_true, and_true]
        omega
    · split
      · have h2 : 2 ≤ i := by omega
        simp only [List.nodup_cons, List.mem_cons, List.not_mem_nil, or_false, List.nodup_nil, not_false_eq_true, and_true]
        omega
      · simp
theorem oF_get {xs : List Nat} {j : Nat} (h : j < xs.length) : oF xs j = ((xs[j] : Nat) : Int) := by
  rw [oF, List.getD_eq_getElem?_getD, List.getElem?_eq_getElem h]; rfl
theorem nd_good (N : Nat) : AllP N (fun i => (ndL i).length) (fun i => oF (ndL i)) := fun a b ha hb => by
  have hb : b < (ndL a).length := hb
  have h1 : (ndL a)[b] < a := ndL_lt a _ (List.getElem_mem hb)
  have h2 : inL b (oF (ndL a)) (oF (ndL a) b) = false := by
    cases e : inL b (oF (ndL a)) (oF (ndL a) b)
    · rfl
    · obtain ⟨k, hk, he⟩ := inL_iff.1 e
      rw [oF_get hb, oF_get (Nat.lt_trans hk hb)] at he
      have hn := List.pairwise_iff_getElem.1 (ndL_nodup a) k b (Nat.lt_trans hk hb) hb hk
      exact absurd (by omega) hn
  simp only [goodP, h2]
  have e := oF_get hb
  have e1 : 0 ≤ oF (ndL a) b := by omega
  have e2 : oF (ndL a) b < (N : Int) := by omega
  rw [decide_eq_true e1, decide_eq_true e2]; rfl
theorem rng_contains (k i : Nat) : (List.range k).contains i = decide (i < k) := by
  rw [Bool.eq_iff_iff]; simp
theorem nd_order (N : Nat) : ∀ k, k ≤ N → itO N (fun i => (ndL i).length) (fun i => oF (ndL i)) k = List.range k
  | 0, _ => rfl
  | k + 1, h => by
    have ih := nd_order N k (by omega)
    have hx : nextO N (fun i => (ndL i).length) (fun i => oF (ndL i)) (itO N (fun i => (ndL i).length) (fun i => oF (ndL i)) k) = some k := by
      rw [ih]
      refine next_some (by omega) ?_ fun j hj => ?_
      · simp only [mayB, memO_nat, rng_contains]
        rw [decide_eq_false (by omega), Bool.not_false, Bool.true_and, List.all_eq_true]
        intro j hj
        have hj := List.mem_range.1 hj
        rw [oF_get hj, memO_nat, rng_contains]
        exact decide_eq_true (ndL_lt k _ (List.getElem_mem hj))
      · simp only [mayB, memO_nat, rng_contains]
        rw [decide_eq_true hj]; rfl
    simp only [itO]
    rw [hx, ih, List.range_succ]
theorem nd_check (N : Nat) (h : N ≤ 256) : CheckZ N (fun i => (ndL i).length) (fun i => oF (ndL i)) 0 := by
  refine .inr (.inr ⟨h, nd_good N, ?_⟩)
  rw [okZ, nd_order N N (Nat.le_refl _), List.length_range, if_neg (by omega)]
theorem rng_oF {N i : Nat} (h : i < N) : oF (List.range N) i = (i : Int) := by
  rw [oF_get (by rw [List.length_range]; exact h), List.getElem_range]
/-- The plan of works, as the plan's texts want it. -/
theorem plan_rows (J : List Int) (b n : Nat) (M : AMem) : RowsAt (M ++ (⟨.grow, 37, n, 1, pR M.length n⟩ :: pE J b n)) M.length n n (fun i => (ndL i).length) (fun i => oF (ndL i)) := by
  refine ⟨.grow, 1, _, _, by rw [List.getElem?_append_right (Nat.le_refl _), Nat.sub_self, ← pR_rl]; rfl, fun i hi => ⟨.grow, 1, ?_⟩⟩
  rw [List.getElem?_append_right (by omega), show M.length + (2 * i + 2) - M.length = 2 * i + 1 + 1 by omega, List.getElem?_cons_succ, pE_get J b hi, nl_il]
end Go.Proofs.Ytmjbbnfmhgcfaaa

set_option linter.unusedSimpArgs false
set_option linter.unusedVariables false
set_option maxRecDepth 100000
set_option maxHeartbeats 4000000
namespace Go.Proofs.Ytmjbbnfmhgcfaaa
open Go Go.Eng

theorem sorder_c (J : List Int) (F : Nat) (x : Int) (m : AMem) (hJ : J.length = 32) (hJu : U8ok J) (hF : F ≤ 32) (hx : maxI 0 (minI x 32) = (F : Int)) : Ctr Try.prog 4 [.agg (u8l J), .one (.int .i64 x)] m (.one (.bool true)) m := by
  refine Ctr.enter Try.func4 rfl (by decide) (rs := [.tmp 4]) (nt := 56) rfl rfl fun hwf Q hQ => ?_
  have hj1 := u8l_len J
  have hj2 : (u8l J).take 32 = u8l J := List.take_of_length_le (by rw [u8l_len, hJ]; exact Nat.le_refl _)
  have hj4 := u8l_vals J
  refine AW.seq_k fun K hK => ?_
  refine AW.region (by decide) ?_
  simp only [push_cast, simprocAttr, imp_self, hJ, hj2, hj4, u8l_len]
  refine Thn_n ?_
  refine hK _ _ ?_
  clear hK K
  refine AW.seq_k fun K hK => ?_
  refine AW.region (by decide) ?_
  simp only [push_cast, simprocAttr, imp_self, hJ, hj2, hj4, u8l_len]
  refine CThen.by (works_c J F x _ hJ hJu hF hx) ?_
  simp only [push_cast, simprocAttr, imp_self, hJ, hj2, hj4, u8l_len]
  refine Thn_n ?_
  refine hK _ _ ?_
  clear hK K
  refine AW.seq_k fun K hK => ?_
  obtain ⟨M1, hM1⟩ : ∃ M1, M1 = m ++ (⟨.fix, 22, 0, 0, u8l J⟩ :: ⟨.fix, 36, 0, 0, u8l J⟩ :: ⟨.grow, 39, 4 * F, 35, wR J (m.length + 3) (4 * F)⟩ :: rwG F) := ⟨_, rfl⟩
  rw [← hM1]
  have hwf1 : True := trivial
  have gW : M1[m.length + 2]? = some ⟨.grow, 39, 4 * F, 35, wR J (m.length + 3) (4 * F)⟩ := by rw [hM1, lk_app]; rfl
  have hl1 : M1.length = m.length + (3 + 3 * F) := by rw [hM1]; simp only [List.length_append, List.length_cons, rwG_len]; omega
  have hrw1 : ∀ i, i < 4 * F → i % 4 ≠ 0 → M1[m.length + 3 + rwN i]? = some ⟨.grow, 3, 0, 1, nl (ndL (i))⟩ := fun i hi h => by
    have h1 := rw_get (f := i / 4) (k := i % 4) (F := F) (by omega) (by omega) (by omega)
    rw [hM1, List.getElem?_append_right (by omega), show m.length + 3 + rwN i - m.length = rwN i + 1 + 1 + 1 by omega, List.getElem?_cons_succ, List.getElem?_cons_succ, List.getElem?_cons_succ]
    rw [show 4 * (i / 4) + i % 4 = i by omega] at h1
    exact h1
  have hbl1 : ∀ i, i < 4 * F → i % 4 ≠ 0 → m.length + 3 + rwN i < M1.length := fun i hi h => by rw [hl1]; unfold rwN; omega
  obtain ⟨n, hn⟩ : ∃ n, n = 4 * F := ⟨_, rfl⟩
  rw [← hn] at gW hrw1 hbl1 ⊢
  have hME1 : ∃ E, M1 = m ++ E := ⟨_, hM1⟩
  clear hM1
  refine AW.region (by decide) ?_
  simp only [push_cast, simprocAttr, imp_self, hJ, hj2, hj4, u8l_len]
  refine CThen.by (plan_c J (m.length + 3) n (m.length + 2) _ gW hrw1 hbl1 (by omega)) ?_
  simp only [push_cast, simprocAttr, imp_self, hJ, hj2, hj4, u8l_len]
  refine CThen.by (porder_ok M1.length n (fun i => (ndL i).length) (fun i => oF (ndL i)) _ (plan_rows J (m.length + 3) n M1) (fun i _ => by have := ndL_len i; omega) (by omega) (nd_check n (by omega))) ?_
  simp only [push_cast, simprocAttr, imp_self, hJ, hj2, hj4, u8l_len]
  refine Thn_n ?_
  refine hK _ _ ?_
  clear hK K
  refine AW.seq_k fun K hK => ?_
  refine AW.seq_k fun K hK => ?_
  simp only [nd_order n n (Nat.le_refl _), List.length_range, bne_self_eq_false]
  obtain ⟨M2, hM2⟩ : ∃ M2, M2 = M1 ++ (⟨.grow, 37, n, 1, pR M1.length n⟩ :: (pE J (m.length + 3) n ++ [⟨.grow, 3, 0, 1, il n (oF (List.range n))⟩])) := ⟨_, rfl⟩
  obtain ⟨ro, hro⟩ : ∃ ro, ro = M1.length + ((pE J (m.length + 3) n).length + 1) := ⟨_, rfl⟩
  rw [← hM2, ← hro]
  have gO : M2[ro]? = some ⟨.grow, 3, 0, 1, il n (oF (List.range n))⟩ := by
    rw [hM2, hro, List.getElem?_append_right (by omega), Nat.add_sub_cancel_left, List.getElem?_cons_succ, List.getElem?_append_right (Nat.le_refl _), Nat.sub_self]; rfl
  have gW2 : M2[m.length + 2]? = some ⟨.grow, 39, n, 35, wR J (m.length + 3) n⟩ := by rw [hM2]; exact lk_old gW _
  have hrw2 : ∀ i, i < n → i % 4 ≠ 0 → M2[m.length + 3 + rwN i]? = some ⟨.grow, 3, 0, 1, nl (ndL (i))⟩ := fun i hi h => by rw [hM2]; exact lk_old (hrw1 i hi h) _
  have hwl := wR_len J (m.length + 3) n
  have lw2 := get_lt gW2
  have lo2 := get_lt gO
  have hn128 : n ≤ 128 := by omega
  have hME2 : ∃ E, M2 = m ++ E := by
    obtain ⟨E, h⟩ := hME1
    exact ⟨_, by rw [hM2, h, List.append_assoc]⟩
  clear hM2 hro gW hrw1 hbl1 hl1
  clear hwf1
  refine AW.region (by decide) ?_
  simp only [push_cast, simprocAttr, imp_self, hJ, hj2, hj4, u8l_len]
  refine Thn_n ?_
  refine hK _ _ ?_
  clear hK K
  refine AW.cond_f rfl ?_
  refine AW.skip ?_
  refine Thn_n ?_
  refine hK _ _ ?_
  clear hK K
  refine AW.seq_k fun K hK => ?_
  refine AW.seq_k fun K hK => ?_
  refine AW.region (by decide) ?_
  simp only [push_cast, simprocAttr, imp_self, hJ, hj2, hj4, u8l_len]
  refine Thn_n ?_
  refine hK _ _ ?_
  clear hK K
  refine AW.block ?_
  refine AW.loopK [5, 30, 31] (fun i => i ≤ n) (fun i => [(32, .one (.int .i64 (i : Int)))]) (fun i => []) (fun i => n - i) 0 (by omega) ?_ ?_ fun i hi8 => ?_
  · first | rfl | (simp only [Keeps, Tm.get_cons, Nat.reduceEqDiff, ↓reduceIte, if_true, if_false, ite_true, ite_false, true_and, and_true, and_self, reduceCtorEq] <;> rfl)
  · first | rfl | (simp only [setAll, push_cast, simprocAttr, imp_self, hJ, hj2, hj4, u8l_len] <;> rfl)
  try simp only [keepL, setAll, push_cast, simprocAttr, imp_self, hJ, hj2, hj4, u8l_len]
  refine AW.seq_k fun K hK => ?_
  refine AW.region (by decide) ?_
  simp only [push_cast, simprocAttr, imp_self, hJ, hj2, hj4, u8l_len]
  refine Thn_n ?_
  refine hK _ _ ?_
  clear hK K
  refine AW.seq_k fun K hK => ?_
  refine AW.cond rfl (fun h33 => ?_) (fun h33 => ?_)
  · have hlt : i < n := by have := of_decide_eq_true h33; omega
    have c1 : (0 : Int) ≤ (i : Int) := by omega
    have c2 : (i : Int) < (n : Int) := by omega
    have gi := il_get (f := oF (List.range n)) hlt
    rw [rng_oF hlt] at gi
    have hq := wR_cell J (m.length + 3) n i 34 hlt (by omega)
    have hc34 : (wC J (m.length + 3) i)[34]? = some (ndC (m.length + 3) i) := by
      have hl : (u8l (ky J i)).length = 32 := by rw [u8l_len, ky_len]
      simp only [wC, List.getElem?_cons_succ]
      rw [List.getElem?_append_right (by omega), hl]; rfl
    rw [hc34, show 35 * i + 34 = i * 35 + 34 by omega] at hq
    have q3 : 35 * n = n * 35 := Nat.mul_comm _ _
    have q4 : i * 35 + 34 < n * 35 := by omega
    have hn3 := ndL_len i
    refine AW.skip ?_
    refine Thn_n ?_
    refine hK _ _ ?_
    clear hK K
    refine AW.seq_k fun K hK => ?_
    refine AW.block ?_
    refine AW.seq_k fun K hK => ?_
    refine AW.region (by decide) ?_
    simp only [push_cast, simprocAttr, imp_self, hJ, hj2, hj4, u8l_len, gO, gW2, hwl, c1, c2, gi, q3, q4]
    refine Thn_n ?_
    refine hK _ _ ?_
    clear hK K
    refine AW.seq_k fun K hK => ?_
    refine AW.seq_k fun K hK => ?_
    refine AW.region (by decide) ?_
    simp only [push_cast, simprocAttr, imp_self, hJ, hj2, hj4, u8l_len, gO, gW2, hwl, c1, c2, gi, q3, q4]
    refine Thn_n ?_
    refine hK _ _ ?_
    clear hK K
    refine AW.cond_f rfl ?_
    refine AW.skip ?_
    refine Thn_n ?_
    refine hK _ _ ?_
    clear hK K
    refine AW.seq_k fun K hK => ?_
    rcases Nat.eq_zero_or_pos (i % 4) with hz | hz
    · rw [show ndC (m.length + 3) i = .nils by unfold ndC; rw [if_pos hz]] at hq
      refine AW.region (by decide) ?_
      simp only [push_cast, simprocAttr, imp_self, hJ, hj2, hj4, u8l_len, gO, gW2, hwl, c1, c2, gi, q3, q4, hq]
      refine Thn_n ?_
      refine hK _ _ ?_
      clear hK K
      refine AW.block ?_
      refine AW.rounds 1 ?_
      refine ARounds.succ fun K hK => ?_
      refine AW.seq_k fun K hK => ?_
      refine AW.region (by decide) ?_
      simp only [push_cast, simprocAttr, imp_self, hJ, hj2, hj4, u8l_len, gO, gW2, hwl, c1, c2, gi, q3, q4, hq]
      refine Thn_n ?_
      refine hK _ _ ?_
      clear hK K
      refine AW.seq_k fun K hK => ?_
      refine AW.cond_f rfl ?_
      refine AW.exit ?_
      refine Thn_e ?_
      clear hK K
      refine Thn_e ?_
      clear hK K
      refine InB_here ?_
      refine InB_n ?_
      refine Thn_n ?_
      refine hK _ _ ?_
      clear hK K
      refine AW.region (by decide) ?_
      simp only [push_cast, simprocAttr, imp_self, hJ, hj2, hj4, u8l_len, gO, gW2, hwl, c1, c2, gi, q3, q4, hq]
      refine Thn_n ?_
      have hwi : IntKind.i64.wrap ((i:Int)+1) = (i:Int)+1 := by rw [IntKind.wrap_i64]; omega
      refine ⟨i + 1, by omega, by omega, ?_⟩
      try simp only [keepL, setAll, push_cast, simprocAttr, imp_self, hJ, hj2, hj4, u8l_len, gO, gW2, hwl, c1, c2, gi, q3, q4, hq, hwi]
      exact Weak.same (by simp only [Keeps, Tm.get_cons, Nat.reduceEqDiff, ↓reduceIte, if_true, if_false, ite_true, ite_false, true_and, and_true, and_self, reduceCtorEq, hwi]) (by first | rfl | simp only [Keeps, Tm.get_cons, Nat.reduceEqDiff, ↓reduceIte, if_true, if_false, ite_true, ite_false, true_and, and_true, and_self, reduceCtorEq, hwi])
    · rw [show ndC (m.length + 3) i = .sl (m.length + 3 + rwN i) 0 0 (ndL i).length by unfold ndC; rw [if_neg (by omega)]] at hq
      have gr := hrw2 i hlt (by omega)
      rw [nl_il, Nat.add_assoc] at gr
      refine AW.region (by decide) ?_
      simp only [push_cast, simprocAttr, imp_self, hJ, hj2, hj4, u8l_len, gO, gW2, hwl, c1, c2, gi, q3, q4, hq, gr]
      refine Thn_n ?_
      refine hK _ _ ?_
      clear hK K
      refine AW.block ?_
      refine AW.loopK [5, 8, 30, 31, 32, 44, 45] (fun j => j ≤ (ndL i).length) (fun j => [(46, .one (.int .i64 (j : Int)))]) (fun j => []) (fun j => (ndL i).length - j) 0 (by omega) ?_ ?_ fun j hi19 => ?_
      · first | rfl | (simp only [Keeps, Tm.get_cons, Nat.reduceEqDiff, ↓reduceIte, if_true, if_false, ite_true, ite_false, true_and, and_true, and_self, reduceCtorEq] <;> rfl)
      · first | rfl | (simp only [setAll, push_cast, simprocAttr, imp_self, hJ, hj2, hj4, u8l_len, gO, gW2, hwl, c1, c2, gi, q3, q4, hq, gr] <;> rfl)
      try simp only [keepL, setAll, push_cast, simprocAttr, imp_self, hJ, hj2, hj4, u8l_len, gO, gW2, hwl, c1, c2, gi, q3, q4, hq, gr]
      refine AW.seq_k fun K hK => ?_
      refine AW.region (by decide) ?_
      simp only [push_cast, simprocAttr, imp_self, hJ, hj2, hj4, u8l_len, gO, gW2, hwl, c1, c2, gi, q3, q4, hq, gr]
      refine Thn_n ?_
      refine hK _ _ ?_
      clear hK K
      refine AW.seq_k fun K hK => ?_
      refine AW.cond rfl (fun h47 => ?_) (fun h47 => ?_)
      · have hjl : j < (ndL i).length := by have := of_decide_eq_true h47; omega
        have d1 : (0 : Int) ≤ (j : Int) := by omega
        have d2 : (j : Int) < ((ndL i).length : Int) := by omega
        have gj := il_get (f := oF (ndL i)) hjl
        have hqj : ¬ (i : Int) ≤ oF (ndL i) j := by
          have := ndL_lt i _ (List.getElem_mem hjl)
          rw [oF_get hjl]; omega
        refine AW.skip ?_
        refine Thn_n ?_
        refine hK _ _ ?_
        clear hK K
        refine AW.seq_k fun K hK => ?_
        refine AW.block ?_
        iterate 2
          refine AW.seq_k fun K hK => ?_
          refine AW.region (by decide) ?_
          simp only [push_cast, simprocAttr, imp_self, hJ, hj2, hj4, u8l_len, gO, gW2, hwl, c1, c2, gi, q3, q4, hq, gr, d1, d2, gj, hqj]
          refine Thn_n ?_
          refine hK _ _ ?_
          clear hK K
        refine AW.cond_f rfl ?_
        refine AW.skip ?_
        refine InB_n ?_
        refine Thn_n ?_
        refine hK _ _ ?_
        clear hK K
        refine AW.region (by decide) ?_
        simp only [push_cast, simprocAttr, imp_self, hJ, hj2, hj4, u8l_len, gO, gW2, hwl, c1, c2, gi, q3, q4, hq, gr, d1, d2, gj, hqj]
        refine Thn_n ?_
        have hwi : IntKind.i64.wrap ((j:Int)+1) = (j:Int)+1 := by rw [IntKind.wrap_i64]; omega
        refine ⟨j + 1, by omega, by omega, ?_⟩
        try simp only [keepL, setAll, push_cast, simprocAttr, imp_self, hJ, hj2, hj4, u8l_len, gO, gW2, hwl, c1, c2, gi, q3, q4, hq, gr, d1, d2, gj, hqj, hwi]
        exact Weak.same (by simp only [Keeps, Tm.get_cons, Nat.reduceEqDiff, ↓reduceIte, if_true, if_false, ite_true, ite_false, true_and, and_true, and_self, reduceCtorEq, hwi]) (by first | rfl | simp only [Keeps, Tm.get_cons, Nat.reduceEqDiff, ↓reduceIte, if_true, if_false, ite_true, ite_false, true_and, and_true, and_self, reduceCtorEq, hwi])
      · refine AW.exit ?_
        refine Thn_e ?_
        clear hK K
        refine Thn_e ?_
        refine InB_here ?_
        refine InB_n ?_
        refine Thn_n ?_
        refine hK _ _ ?_
        clear hK K
        refine AW.region (by decide) ?_
        simp only [push_cast, simprocAttr, imp_self, hJ, hj2, hj4, u8l_len, gO, gW2, hwl, c1, c2, gi, q3, q4, hq, gr]
        refine Thn_n ?_
        have hwi : IntKind.i64.wrap ((i:Int)+1) = (i:Int)+1 := by rw [IntKind.wrap_i64]; omega
        refine ⟨i + 1, by omega, by omega, ?_⟩
        try simp only [keepL, setAll, push_cast, simprocAttr, imp_self, hJ, hj2, hj4, u8l_len, gO, gW2, hwl, c1, c2, gi, q3, q4, hq, gr, hwi]
        exact Weak.same (by simp only [Keeps, Tm.get_cons, Nat.reduceEqDiff, ↓reduceIte, if_true, if_false, ite_true, ite_false, true_and, and_true, and_self, reduceCtorEq, hwi]) (by first | rfl | simp only [Keeps, Tm.get_cons, Nat.reduceEqDiff, ↓reduceIte, if_true, if_false, ite_true, ite_false, true_and, and_true, and_self, reduceCtorEq, hwi])
  · refine AW.exit ?_
    refine Thn_e ?_
    clear hK K
    refine Thn_e ?_
    refine InB_here ?_
    refine Thn_n ?_
    refine hK _ _ ?_
    clear hK K
    refine AW.seq_k fun K hK => ?_
    refine AW.region (by decide) ?_
    simp only [push_cast, simprocAttr, imp_self, hJ, hj2, hj4, u8l_len]
    refine CThen.by (awake_c _) ?_
    simp only [push_cast, simprocAttr, imp_self, hJ, hj2, hj4, u8l_len]
    refine Thn_n ?_
    refine hK _ _ ?_
    clear hK K
    refine AW.ret ?_
    refine hQ _ _ _ ?_
    obtain ⟨E2, hE2⟩ := hME2
    rw [hE2]
    refine RetP.drop (Or.inr rfl) ?_ ?_ hwf
    · simp only [resA, resOne, resTv, AV.tv, push_cast, simprocAttr]
    · rfl
end Go.Proofs.Ytmjbbnfmhgcfaaa

set_option linter.unusedSimpArgs false
set_option linter.unusedVariables false
set_option maxRecDepth 100000
set_option maxHeartbeats 4000000
namespace Go.Proofs.Ytmjbbnfmhgcfaaa
open Go Go.Eng

/-- The lists of needs of the first works, one after another. -/
def rwE : Nat → AMem
  | 0 => []
  | n + 1 => rwE n ++ (if n % 4 = 0 then [] else [⟨.grow, 3, 0, 1, nl (ndL (n))⟩])
theorem rwN_succ0 {n : Nat} (h : n % 4 = 0) : rwN (n + 1) = rwN n := by unfold rwN; omega
theorem rwN_succ1 {n : Nat} (h : n % 4 ≠ 0) : rwN (n + 1) = rwN n + 1 := by unfold rwN; omega
theorem rwE_len : ∀ n, (rwE n).length = rwN n
  | 0 => rfl
  | n + 1 => by
    simp only [rwE, List.length_append, rwE_len n]
    split
    · rename_i h; rw [rwN_succ0 h]; rfl
    · rename_i h; rw [rwN_succ1 h]; rfl
theorem rwE_get : ∀ {n i : Nat}, i < n → i % 4 ≠ 0 → (rwE n)[rwN i]? = some ⟨.grow, 3, 0, 1, nl (ndL (i))⟩
  | n + 1, i, h, h4 => by
    have hl := rwE_len n
    simp only [rwE]
    rcases Nat.lt_or_ge i n with hi | hi
    · have e : rwN i < (rwE n).length := (List.getElem?_eq_some_iff.1 (rwE_get hi h4)).1
      rw [List.getElem?_append_left e]; exact rwE_get hi h4
    · obtain rfl : i = n := by omega
      rw [if_neg h4, List.getElem?_append_right (by omega), hl, Nat.sub_self]; rfl
theorem rwE_wf : ∀ n, MWf 0 (rwE n)
  | 0 => MWf_nil
  | n + 1 => by
    refine MWf.app (rwE_wf n) ?_
    split
    · exact MWf_nil
    · exact MWf_one (nl_below _ _)
end Go.Proofs.Ytmjbbnfmhgcfaaa

set_option linter.unusedSimpArgs false
set_option linter.unusedVariables false
set_option maxRecDepth 100000
set_option maxHeartbeats 4000000
namespace Go.Proofs.Ytmjbbnfmhgcfaaa
open Go Go.Eng

theorem rkey_i (k f : Nat) (ki fi : Int) (hki : ki = (k : Int)) (hfi : fi = (f : Int)) (lo vo np : Nat) (D : List Int) (eo : Nat) (m : AMem) (hD : m[lo]? = some ⟨.grow, 22, vo, eo, u8l D⟩) (hl : D.length = 32 * np) (hu : U8ok D) (hnp : np ≤ 30) (hk : k < 4) (hf : f < 4294967296) : Ctr Try.prog 16 [.agg (ul (HLL ++ KW)), .one (.int .i64 ki), .one (.int .i64 fi), .one (.sl lo vo 0 np)] m (.agg (u8l (shaL (hdL (k : Int) (f : Int) ++ D)))) m := by
  subst hki; subst hfi; exact rkey_c k f lo vo np D .grow eo m hD rfl hl hu hnp hk hf
theorem mm_set3 (m : AMem) (a b c d : Blk) (L : AMem) : (m ++ (a :: b :: c :: L)).set (m.length + 2) d = m ++ (a :: b :: d :: L) := by rw [set_app]; rfl
theorem works_wf3 (J : List Int) (m R : AMem) (n v : Nat) (hm : MWf m.length m) (hR : MWf 0 R) (h : ∀ i, i < n → i % 4 ≠ 0 → rwN i < R.length) : MWf (m ++ (⟨.fix, 31, 0, 0, ul (HLL ++ KW)⟩ :: ⟨.fix, 22, 0, 0, u8l J⟩ :: ⟨.grow, 41, v, 35, wR J (m.length + 3) n⟩ :: R)).length (m ++ (⟨.fix, 31, 0, 0, ul (HLL ++ KW)⟩ :: ⟨.fix, 22, 0, 0, u8l J⟩ :: ⟨.grow, 41, v, 35, wR J (m.length + 3) n⟩ :: R)) := by
  refine MWf.app (hm.grow (by simp)) (MWf_cons (ul_below _ _) (MWf_cons (u8l_below _ _) (MWf_cons ?_ (hR.grow (Nat.zero_le _)))))
  refine wR_below n fun i hi h3 => ?_
  have := h i hi h3
  simp only [List.length_append, List.length_cons]; omega
theorem rworks_c (J : List Int) (F : Nat) (m : AMem) (hJ : J.length = 32) (hJu : U8ok J) (hF : F ≤ 32) : Ctr Try.prog 6 [.agg (ul (HLL ++ KW)), .agg (u8l J), .one (.int .i64 (F : Int))] m (.one (.sl (m.length + 2) (4 * F) 0 (4 * F))) (m ++ (⟨.fix, 31, 0, 0, ul (HLL ++ KW)⟩ :: ⟨.fix, 22, 0, 0, u8l J⟩ :: ⟨.grow, 41, 4 * F, 35, wR J (m.length + 3) (4 * F)⟩ :: rwE (4 * F))) := by
  refine Ctr.enter Try.func6 rfl (by decide) (rs := [.tmp 6]) (nt := 72) rfl rfl fun hwf Q hQ => ?_
  have hj1 := u8l_len J
  have hj2 : (u8l J).take 32 = u8l J := List.take_of_length_le (by rw [u8l_len, hJ]; exact Nat.le_refl _)
  have hj3 : setL [.int .u8 0, .int .u8 0, .int .u8 0, .int .u8 0, .int .u8 0, .int .u8 0, .int .u8 0, .int .u8 0, .int .u8 0, .int .u8 0, .int .u8 0, .int .u8 0, .int .u8 0, .int .u8 0, .int .u8 0, .int .u8 0, .int .u8 0, .int .u8 0, .int .u8 0, .int .u8 0, .int .u8 0, .int .u8 0, .int .u8 0, .int .u8 0, .int .u8 0, .int .u8 0, .int .u8 0, .int .u8 0, .int .u8 0, .int .u8 0, .int .u8 0, .int .u8 0] 0 (u8l J) = u8l J := setL_full (by rw [u8l_len, hJ]; rfl)
  have hj4 := u8l_vals J
  have htl : (ul (HLL ++ KW)).take 72 = ul (HLL ++ KW) := rfl
  have hvl : (ul (HLL ++ KW)).length = 72 := rfl
  have w4 : IntKind.i64.wrap (4 * (F : Int)) = 4 * (F : Int) := wi (by omega)
  iterate 2
    refine AW.seq_k fun K hK => ?_
    refine AW.region (by decide) ?_
    simp only [push_cast, simprocAttr, imp_self, hJ, hj2, hj3, hj4, htl, hvl, w4, u8l_len, u8l_app, Nat.le_refl, Int.le_refl]
    refine Thn_n ?_
    refine hK _ _ ?_
    clear hK K
  refine AW.seq_k fun K hK => ?_
  refine AW.seq_k fun K hK => ?_
  refine AW.nilTm 41 35 7 (by simp only [push_cast, simprocAttr]) ?_
  try simp only [push_cast, simprocAttr]
  refine AW.region (by decide) ?_
  simp only [push_cast, simprocAttr, imp_self, hJ, hj2, hj3, hj4, htl, hvl, w4, u8l_len, u8l_app, Nat.le_refl, Int.le_refl]
  refine Thn_n ?_
  refine hK _ _ ?_
  clear hK K
  refine AW.block ?_
  refine AW.loopE0 [2, 3, 4] (fun n => n ≤ 4 * F) (fun n => [(7, .one (.sl (m.length + 2) n 0 n)), (8, .one (.int .i64 (n : Int)))]) (fun n => [(m.length + 2, ⟨.grow, 41, n, 35, wR J (m.length + 3) (n)⟩)]) (fun n => rwE n) (fun n => 4 * F - n) 0 (by omega) ?_ ?_ ?_ fun n hi5 => ?_
  · first | rfl | (simp only [Keeps, Tm.get_cons, Nat.reduceEqDiff, ↓reduceIte, if_true, if_false, ite_true, ite_false, true_and, and_true, and_self, reduceCtorEq, Int.natCast_zero, wR, rwE] <;> rfl)
  · first | rfl | (simp only [setAll, push_cast, simprocAttr, imp_self, hJ, hj2, hj3, hj4, htl, hvl, w4, u8l_len, u8l_app, Nat.le_refl, Int.le_refl, Int.natCast_zero, wR, rwE] <;> rfl)
  · exact fun i j _ _ h => by simp only [rwE_len, rwN]; omega
  try simp only [keepL, setAll, push_cast, simprocAttr, imp_self, hJ, hj2, hj3, hj4, htl, hvl, w4, u8l_len, u8l_app, Nat.le_refl, Int.le_refl]
  refine AW.seq_k fun K hK => ?_
  refine AW.seq_k fun K hK => ?_
  rcases Nat.lt_or_ge n (4 * F) with hlt | hge
  · have c15 : (n : Int) < 4 * (F : Int) := by omega
    have c18 : (n : Int) < 128 := by omega
    refine AW.region (by decide) ?_
    simp only [push_cast, simprocAttr, imp_self, hJ, hj2, hj3, hj4, htl, hvl, w4, u8l_len, u8l_app, Nat.le_refl, Int.le_refl, c15, c18]
    refine Thn_n ?_
    refine hK _ _ ?_
    clear hK K
    refine AW.cond_t rfl ?_
    refine AW.skip ?_
    refine Thn_n ?_
    refine hK _ _ ?_
    clear hK K
    refine AW.seq_k fun K hK => ?_
    refine AW.block ?_
    refine AW.seq_k fun K hK => ?_
    obtain ⟨M, hM⟩ : ∃ M, M = m ++ (⟨.fix, 31, 0, 0, ul (HLL ++ KW)⟩ :: ⟨.fix, 22, 0, 0, u8l J⟩ :: ⟨.grow, 41, n, 35, wR J (m.length + 3) (n)⟩ :: rwE n) := ⟨_, rfl⟩
    rw [← hM]
    have hEl := rwE_len n
    have hMl : M.length = m.length + (3 + rwN n) := by rw [hM]; simp only [List.length_append, List.length_cons, hEl]; omega
    have gT : M[m.length]? = some ⟨.fix, 31, 0, 0, ul (HLL ++ KW)⟩ := by rw [hM, lk_app0]; rfl
    have gJ : M[m.length + 1]? = some ⟨.fix, 22, 0, 0, u8l J⟩ := by rw [hM, lk_app]; rfl
    have gO : M[m.length + 2]? = some ⟨.grow, 41, n, 35, wR J (m.length + 3) (n)⟩ := by rw [hM, lk_app]; rfl
    have lO : m.length + 2 < M.length := by omega
    have kS := fun (L : AMem) (b : Blk) => mk_olds (m := M) (l := M) rfl lO L b
    have kM : ∀ b : Blk, M.set (m.length + 2) b = m ++ (⟨.fix, 31, 0, 0, ul (HLL ++ KW)⟩ :: ⟨.fix, 22, 0, 0, u8l J⟩ :: b :: rwE n) := fun b => by rw [hM]; exact mm_set3 _ _ _ _ _ _
    have hrf : rwE (n + 1) = rwE n ++ (if n % 4 = 0 then [] else [⟨.grow, 3, 0, 1, nl (ndL (n))⟩]) := rfl
    have hwL : ∀ i, i < n + 1 → i % 4 ≠ 0 → rwN i < (rwE (n + 1)).length := fun i hi h => (List.getElem?_eq_some_iff.1 (rwE_get hi h)).1
    have hwf3 := works_wf3 J m (rwE (n + 1)) (n + 1) (n + 1) hwf (rwE_wf _) hwL
    have hwl := wR_len J (m.length + 3) n
    have hky := ky_eq J n
    rw [ofB_eq] at hky
    have hkl := ky_len J n
    have hko := ky_ok J n
    have hkv := u8l_vals (ky J n)
    have hwn : wR J (m.length + 3) (n + 1) = wR J (m.length + 3) n ++ wC J (m.length + 3) n := rfl
    have q1 : n + 1 ≤ 140737488355328 := by omega
    have q3 : 35 * n = n * 35 := Nat.mul_comm _ _
    have q2 : (n + 1) * 72 ≤ 140737488355328 := by omega
    have hcl := wC_len J (m.length + 3) n
    have hct : (wC J (m.length + 3) n).take 35 = wC J (m.length + 3) n := List.take_of_length_le (by rw [hcl]; exact Nat.le_refl _)
    have hcs : setL [.int .i64 0, .int .i64 0, .int .u8 0, .int .u8 0, .int .u8 0, .int .u8 0, .int .u8 0, .int .u8 0, .int .u8 0, .int .u8 0, .int .u8 0, .int .u8 0, .int .u8 0, .int .u8 0, .int .u8 0, .int .u8 0, .int .u8 0, .int .u8 0, .int .u8 0, .int .u8 0, .int .u8 0, .int .u8 0, .int .u8 0, .int .u8 0, .int .u8 0, .int .u8 0, .int .u8 0, .int .u8 0, .int .u8 0, .int .u8 0, .int .u8 0, .int .u8 0, .int .u8 0, .int .u8 0, .nils] 0 (wC J (m.length + 3) n) = wC J (m.length + 3) n := setL_full (by rw [hcl]; rfl)
    dsimp only at hcs
    have hcv : (wC J (m.length + 3) n).all CV.isVal = true := wC_vals _ _ _
    have hwc0 : wC J (m.length + 3) n = .int .i64 ((n % 4 : Nat) : Int) :: .int .i64 ((n / 4 : Nat) : Int) :: (u8l (ky J n) ++ [ndC (m.length + 3) n]) := rfl
    obtain ⟨f, k, hnk, hk4⟩ : ∃ f k, n = 4 * f + k ∧ k < 4 := ⟨n / 4, n % 4, by omega, by omega⟩
    have hcs0 : k = 0 ∨ (k = 1 ∧ f = 0) ∨ (k = 1 ∧ ∃ g, f = g + 1) ∨ k = 2 ∨ k = 3 := by
      have : k = 0 ∨ k = 1 ∨ k = 2 ∨ k = 3 := by omega
      rcases this with h | h | h | h
      · exact .inl h
      · rcases Nat.eq_zero_or_pos f with h0 | h0
        · exact .inr (.inl ⟨h, h0⟩)
        · exact .inr (.inr (.inl ⟨h, f - 1, by omega⟩))
      · exact .inr (.inr (.inr (.inl h)))
      · exact .inr (.inr (.inr (.inr h)))
    rcases hcs0 with rfl | ⟨rfl, rfl⟩ | ⟨rfl, g, rfl⟩ | rfl | rfl
    · have hm0 : n % 4 = 0 := by omega
      have hd0 : n / 4 = f := by omega
      have hmd : (n : Int).tmod 4 = 0 := by
        have h1 : (n : Int).tmod 4 = ((n % 4 : Nat) : Int) := rfl
        rw [h1, hm0]; rfl
      have hdv : IntKind.i64.wrap ((n : Int).tdiv 4) = (f : Int) := by
        have h1 : (n : Int).tdiv 4 = ((n / 4 : Nat) : Int) := rfl
        rw [h1, hd0, IntKind.wrap_i64]; omega
      rw [hm0, hd0] at hky hwc0
      rw [hm0] at hrf
      have hrowA : True := trivial
      have hrowB : True := trivial
      have hnd : ndC (m.length + 3) n = .nils := by unfold ndC; rw [hm0]; rfl
      rw [if_pos rfl] at hky hrf
      rw [List.append_nil] at hrf
      simp only [push_cast, simprocAttr] at hky
      have hwc : CV.int .i64 0 :: .int .i64 (f : Int) :: (u8l (ky J n) ++ [.nils]) = wC J (m.length + 3) n := by rw [hwc0, hnd]; rfl
      have hsk := setL_key (.int .i64 0) (.int .i64 (f : Int)) (.nils) (ky J n) hkl
      dsimp only at hsk
      refine AW.region (by decide) ?_
      simp only [push_cast, simprocAttr, imp_self, hJ, hj2, hj3, hj4, htl, hvl, w4, u8l_len, u8l_app, Nat.le_refl, Int.le_refl, c15, c18, gT, lk_old gT, gJ, lk_old gJ, gO, lk_old gO, kS, hmd, hdv, hkl, hkv, hsk, hwc, hwl, q1, q2, q3, hcl, hct, hcs, hcv, hky.symm]
      refine CThen.by (rneeds0_c f _ (by omega)) ?_
      simp only [push_cast, simprocAttr, imp_self, hJ, hj2, hj3, hj4, htl, hvl, w4, u8l_len, u8l_app, Nat.le_refl, Int.le_refl, c15, c18, gT, lk_old gT, gJ, lk_old gJ, gO, lk_old gO, kS, hmd, hdv, hkl, hkv, hsk, hwc, hwl, q1, q2, q3, hcl, hct, hcs, hcv, hky.symm]
      refine Thn_n ?_
      refine hK _ _ ?_
      clear hK K
      refine AW.seq_k fun K hK => ?_
      refine AW.region (by decide) ?_
      simp only [push_cast, simprocAttr, imp_self, hJ, hj2, hj3, hj4, htl, hvl, w4, u8l_len, u8l_app, Nat.le_refl, Int.le_refl, c15, c18, gT, lk_old gT, gJ, lk_old gJ, gO, lk_old gO, kS, hmd, hdv, hkl, hkv, hsk, hwc, hwl, q1, q2, q3, hcl, hct, hcs, hcv, hky.symm]
      refine Thn_n ?_
      refine hK _ _ ?_
      clear hK K
      refine AW.seq_k fun K hK => ?_
      refine AW.seq_k fun K hK => ?_
      refine AW.region (by decide) ?_
      simp only [push_cast, simprocAttr, imp_self, hJ, hj2, hj3, hj4, htl, hvl, w4, u8l_len, u8l_app, Nat.le_refl, Int.le_refl, c15, c18, gT, lk_old gT, gJ, lk_old gJ, gO, lk_old gO, kS, hmd, hdv, hkl, hkv, hsk, hwc, hwl, q1, q2, q3, hcl, hct, hcs, hcv, hky.symm]
      refine Thn_n ?_
      refine hK _ _ ?_
      clear hK K
      refine AW.cond_t rfl ?_
      refine AW.region (by decide) ?_
      simp only [push_cast, simprocAttr, imp_self, hJ, hj2, hj3, hj4, htl, hvl, w4, u8l_len, u8l_app, Nat.le_refl, Int.le_refl, c15, c18, gT, lk_old gT, gJ, lk_old gJ, gO, lk_old gO, kS, hmd, hdv, hkl, hkv, hsk, hwc, hwl, q1, q2, q3, hcl, hct, hcs, hcv, hky.symm]
      refine Thn_n ?_
      refine hK _ _ ?_
      clear hK K
      refine AW.seq_k fun K hK => ?_
      refine AW.seq_k fun K hK => ?_
      refine AW.region (by decide) ?_
      simp only [push_cast, simprocAttr, imp_self, hJ, hj2, hj3, hj4, htl, hvl, w4, u8l_len, u8l_app, Nat.le_refl, Int.le_refl, c15, c18, gT, lk_old gT, gJ, lk_old gJ, gO, lk_old gO, kS, hmd, hdv, hkl, hkv, hsk, hwc, hwl, q1, q2, q3, hcl, hct, hcs, hcv, hky.symm]
      refine Thn_n ?_
      refine hK _ _ ?_
      clear hK K
      refine AW.block ?_
      refine AW.rounds 1 ?_
      refine ARounds.succ fun K hK => ?_
      refine AW.seq_k fun K hK => ?_
      refine AW.seq_k fun K hK => ?_
      refine AW.region (by decide) ?_
      simp only [push_cast, simprocAttr, imp_self, hJ, hj2, hj3, hj4, htl, hvl, w4, u8l_len, u8l_app, Nat.le_refl, Int.le_refl, c15, c18, gT, lk_old gT, gJ, lk_old gJ, gO, lk_old gO, kS, hmd, hdv, hkl, hkv, hsk, hwc, hwl, q1, q2, q3, hcl, hct, hcs, hcv, hky.symm]
      refine Thn_n ?_
      refine hK _ _ ?_
      clear hK K
      refine AW.cond_f rfl ?_
      refine AW.exit ?_
      refine Thn_e ?_
      clear hK K
      refine Thn_e ?_
      clear hK K
      refine InB_here ?_
      refine Thn_n ?_
      refine hK _ _ ?_
      clear hK K
      refine AW.seq_k fun K hK => ?_
      refine AW.region (by decide) ?_
      simp only [push_cast, simprocAttr, imp_self, hJ, hj2, hj3, hj4, htl, hvl, w4, u8l_len, u8l_app, Nat.le_refl, Int.le_refl, c15, c18, gT, lk_old gT, gJ, lk_old gJ, gO, lk_old gO, kS, hmd, hdv, hkl, hkv, hsk, hwc, hwl, q1, q2, q3, hcl, hct, hcs, hcv, hky.symm]
      refine CThen.by (rkey_i 0 f 0 (f : Int) rfl rfl (M.length + 1) 1 1 J 32 _ (by simp only [push_cast, simprocAttr, gJ, lk_old gJ]) (by rw [hJ]) hJu (by decide) (by decide) (by omega)) ?_
      simp only [push_cast, simprocAttr, imp_self, hJ, hj2, hj3, hj4, htl, hvl, w4, u8l_len, u8l_app, Nat.le_refl, Int.le_refl, c15, c18, gT, lk_old gT, gJ, lk_old gJ, gO, lk_old gO, kS, hmd, hdv, hkl, hkv, hsk, hwc, hwl, q1, q2, q3, hcl, hct, hcs, hcv, hky.symm]
      refine Thn_n ?_
      refine hK _ _ ?_
      clear hK K
      refine AW.region (by decide) ?_
      simp only [push_cast, simprocAttr, imp_self, hJ, hj2, hj3, hj4, htl, hvl, w4, u8l_len, u8l_app, Nat.le_refl, Int.le_refl, c15, c18, gT, lk_old gT, gJ, lk_old gJ, gO, lk_old gO, kS, hmd, hdv, hkl, hkv, hsk, hwc, hwl, q1, q2, q3, hcl, hct, hcs, hcv, hky.symm]
      refine InB_n ?_
      refine Thn_n ?_
      refine hK _ _ ?_
      clear hK K
      refine AW.region (by decide) ?_
      simp only [push_cast, simprocAttr, imp_self, hJ, hj2, hj3, hj4, htl, hvl, w4, u8l_len, u8l_app, Nat.le_refl, Int.le_refl, c15, c18, gT, lk_old gT, gJ, lk_old gJ, gO, lk_old gO, kS, hmd, hdv, hkl, hkv, hsk, hwc, hwl, q1, q2, q3, hcl, hct, hcs, hcv, hky.symm]
      refine Thn_n ?_
      have hwi : IntKind.i64.wrap ((n:Int)+1) = (n:Int)+1 := by rw [IntKind.wrap_i64]; omega
      refine ⟨n + 1, hlt, by omega, ?_⟩
      try simp only [keepL, setAll, push_cast, simprocAttr, imp_self, hJ, hj2, hj3, hj4, htl, hvl, w4, u8l_len, u8l_app, Nat.le_refl, Int.le_refl, c15, c18, gT, lk_old gT, gJ, lk_old gJ, gO, lk_old gO, kS, hmd, hdv, hkl, hkv, hsk, hwc, hwl, q1, q2, q3, hcl, hct, hcs, hcv, hky.symm, hwi, kM, hrf, hwn, List.append_assoc]
      first
        | exact Weak.to (extra := [_, _, _, _]) (by simp only [Keeps, Tm.get_cons, Nat.reduceEqDiff, ↓reduceIte, if_true, if_false, ite_true, ite_false, true_and, and_true, and_self, reduceCtorEq, hwi, kM, hrf, hwn, List.append_assoc]) (by first | rfl | (simp only [List.append_assoc, List.cons_append, List.nil_append]; rfl)) (by first | rfl | (simp [AV.below, CV.below, u8l_below, ul_below]; done) | (simp [AV.below, CV.below, u8l_below, ul_below]; omega)) (by have h := hwf3; simp only [hrf, hwn, hrowA, hrowB, List.append_assoc, push_cast, simprocAttr] at h ⊢; exact h)
        | exact Weak.to (extra := [_, _, _, _, _]) (by simp only [Keeps, Tm.get_cons, Nat.reduceEqDiff, ↓reduceIte, if_true, if_false, ite_true, ite_false, true_and, and_true, and_self, reduceCtorEq, hwi, kM, hrf, hwn, List.append_assoc]) (by first | rfl | (simp only [List.append_assoc, List.cons_append, List.nil_append]; rfl)) (by first | rfl | (simp [AV.below, CV.below, u8l_below, ul_below]; done) | (simp [AV.below, CV.below, u8l_below, ul_below]; omega)) (by have h := hwf3; simp only [hrf, hwn, hrowA, hrowB, List.append_assoc, push_cast, simprocAttr] at h ⊢; exact h)
        | exact Weak.to (extra := [_, _, _, _, _, _]) (by simp only [Keeps, Tm.get_cons, Nat.reduceEqDiff, ↓reduceIte, if_true, if_false, ite_true, ite_false, true_and, and_true, and_self, reduceCtorEq, hwi, kM, hrf, hwn, List.append_assoc]) (by first | rfl | (simp only [List.append_assoc, List.cons_append, List.nil_append]; rfl)) (by first | rfl | (simp [AV.below, CV.below, u8l_below, ul_below]; done) | (simp [AV.below, CV.below, u8l_below, ul_below]; omega)) (by have h := hwf3; simp only [hrf, hwn, hrowA, hrowB, List.append_assoc, push_cast, simprocAttr] at h ⊢; exact h)
    · have hm0 : n % 4 = 1 := by omega
      have hd0 : n / 4 = 0 := by omega
      have hmd : (n : Int).tmod 4 = 1 := by
        have h1 : (n : Int).tmod 4 = ((n % 4 : Nat) : Int) := rfl
        rw [h1, hm0]; rfl
      have hdv : IntKind.i64.wrap ((n : Int).tdiv 4) = 0 := by
        have h1 : (n : Int).tdiv 4 = ((n / 4 : Nat) : Int) := rfl
        rw [h1, hd0, IntKind.wrap_i64]; omega
      rw [hm0, hd0] at hky hwc0
      rw [hm0] at hrf
      have hnn : n = 1 := by omega
      have hndl : ndL n = [0] := by rw [hnn]; exact nd1z
      have hrowA : nl (ndL 1) = [.int .i64 ((0 : Nat) : Int)] := by rw [nd1z]; rfl
      have hrowB : nl (ndL n) = [.int .i64 ((0 : Nat) : Int)] := by rw [hndl]; rfl
      simp only [push_cast, simprocAttr] at hrowA hrowB
      have hnd : ndC (m.length + 3) n = .sl M.length 0 0 1 := by
        unfold ndC; rw [hm0, hndl, if_neg (by decide), hMl]
        congr 1; omega
      rw [if_neg (by decide)] at hky hrf
      rw [hndl] at hky
      simp only [List.flatMap_cons, List.flatMap_nil, List.append_nil] at hky
      have hDl : (ky J (0)).length = 32 * 1 := by simp only [List.length_append, ky_len]
      have hDo : U8ok (ky J (0)) := ky_ok _ _
      simp only [push_cast, simprocAttr] at hky
      have hwc : CV.int .i64 1 :: .int .i64 0 :: (u8l (ky J n) ++ [.sl M.length 0 0 1]) = wC J (m.length + 3) n := by rw [hwc0, hnd]; rfl
      have hsk := setL_key (.int .i64 1) (.int .i64 0) (.sl M.length 0 0 1) (ky J n) hkl
      dsimp only at hsk
      have cp0 : (0 : Int) ≤ (0 : Int) := by omega
      have dp0 : (0 : Int) < (n : Int) := by omega
      have zp0 : ((0 : Int)).toNat = 0 := by omega
      have bp0 : (0) * 35 + 34 ≤ n * 35 := by omega
      have kp0 := wR_key J (m.length + 3) n (0) (by omega)
      rw [show 35 * (0) = (0) * 35 from Nat.mul_comm _ _] at kp0
      have lp0 := ky_len J (0)
      have op0 := ky_ok J (0)
      have sp0 : setL [.int .u8 0, .int .u8 0, .int .u8 0, .int .u8 0, .int .u8 0, .int .u8 0, .int .u8 0, .int .u8 0, .int .u8 0, .int .u8 0, .int .u8 0, .int .u8 0, .int .u8 0, .int .u8 0, .int .u8 0, .int .u8 0, .int .u8 0, .int .u8 0, .int .u8 0, .int .u8 0, .int .u8 0, .int .u8 0, .int .u8 0, .int .u8 0, .int .u8 0, .int .u8 0, .int .u8 0, .int .u8 0, .int .u8 0, .int .u8 0, .int .u8 0, .int .u8 0] 0 (u8l (ky J (0))) = u8l (ky J (0)) := setL_full (by rw [u8l_len, lp0]; rfl)
      have vp0 := u8l_vals (ky J (0))
      have xp0 : (u8l (ky J (0))).take 32 = u8l (ky J (0)) := List.take_of_length_le (by rw [u8l_len, lp0]; exact Nat.le_refl _)
      try simp only [push_cast, simprocAttr] at bp0
      try simp only [push_cast, simprocAttr] at kp0
      refine AW.region (by decide) ?_
      simp only [push_cast, simprocAttr, imp_self, hJ, hj2, hj3, hj4, htl, hvl, w4, u8l_len, u8l_app, Nat.le_refl, Int.le_refl, c15, c18, gT, lk_old gT, gJ, lk_old gJ, gO, lk_old gO, kS, hmd, hdv, hkl, hkv, hsk, hwc, hwl, q1, q2, q3, hcl, hct, hcs, hcv, hky.symm, hrowA, hrowB, cp0, dp0, zp0, bp0, kp0, lp0, sp0, vp0, xp0]
      refine CThen.by (rneeds1z_c _) ?_
      simp only [push_cast, simprocAttr, imp_self, hJ, hj2, hj3, hj4, htl, hvl, w4, u8l_len, u8l_app, Nat.le_refl, Int.le_refl, c15, c18, gT, lk_old gT, gJ, lk_old gJ, gO, lk_old gO, kS, hmd, hdv, hkl, hkv, hsk, hwc, hwl, q1, q2, q3, hcl, hct, hcs, hcv, hky.symm, hrowA, hrowB, cp0, dp0, zp0, bp0, kp0, lp0, sp0, vp0, xp0]
      refine Thn_n ?_
      refine hK _ _ ?_
      clear hK K
      refine AW.seq_k fun K hK => ?_
      refine AW.region (by decide) ?_
      simp only [push_cast, simprocAttr, imp_self, hJ, hj2, hj3, hj4, htl, hvl, w4, u8l_len, u8l_app, Nat.le_refl, Int.le_refl, c15, c18, gT, lk_old gT, gJ, lk_old gJ, gO, lk_old gO, kS, hmd, hdv, hkl, hkv, hsk, hwc, hwl, q1, q2, q3, hcl, hct, hcs, hcv, hky.symm, hrowA, hrowB, cp0, dp0, zp0, bp0, kp0, lp0, sp0, vp0, xp0]
      refine Thn_n ?_
      refine hK _ _ ?_
      clear hK K
      refine AW.seq_k fun K hK => ?_
      refine AW.seq_k fun K hK => ?_
      refine AW.region (by decide) ?_
      simp only [push_cast, simprocAttr, imp_self, hJ, hj2, hj3, hj4, htl, hvl, w4, u8l_len, u8l_app, Nat.le_refl, Int.le_refl, c15, c18, gT, lk_old gT, gJ, lk_old gJ, gO, lk_old gO, kS, hmd, hdv, hkl, hkv, hsk, hwc, hwl, q1, q2, q3, hcl, hct, hcs, hcv, hky.symm, hrowA, hrowB, cp0, dp0, zp0, bp0, kp0, lp0, sp0, vp0, xp0]
      refine Thn_n ?_
      refine hK _ _ ?_
      clear hK K
      refine AW.cond_f rfl ?_
      refine AW.skip ?_
      refine Thn_n ?_
      refine hK _ _ ?_
      clear hK K
      refine AW.seq_k fun K hK => ?_
      refine AW.seq_k fun K hK => ?_
      refine AW.region (by decide) ?_
      simp only [push_cast, simprocAttr, imp_self, hJ, hj2, hj3, hj4, htl, hvl, w4, u8l_len, u8l_app, Nat.le_refl, Int.le_refl, c15, c18, gT, lk_old gT, gJ, lk_old gJ, gO, lk_old gO, kS, hmd, hdv, hkl, hkv, hsk, hwc, hwl, q1, q2, q3, hcl, hct, hcs, hcv, hky.symm, hrowA, hrowB, cp0, dp0, zp0, bp0, kp0, lp0, sp0, vp0, xp0]
      refine Thn_n ?_
      refine hK _ _ ?_
      clear hK K
      refine AW.block ?_
      refine AW.rounds 2 ?_
      refine ARounds.succ fun K hK => ?_
      refine AW.seq_k fun K hK => ?_
      refine AW.seq_k fun K hK => ?_
      refine AW.region (by decide) ?_
      simp only [push_cast, simprocAttr, imp_self, hJ, hj2, hj3, hj4, htl, hvl, w4, u8l_len, u8l_app, Nat.le_refl, Int.le_refl, c15, c18, gT, lk_old gT, gJ, lk_old gJ, gO, lk_old gO, kS, hmd, hdv, hkl, hkv, hsk, hwc, hwl, q1, q2, q3, hcl, hct, hcs, hcv, hky.symm, hrowA, hrowB, cp0, dp0, zp0, bp0, kp0, lp0, sp0, vp0, xp0]
      refine Thn_n ?_
      refine hK _ _ ?_
      clear hK K
      refine AW.cond_t rfl ?_
      refine AW.skip ?_
      refine Thn_n ?_
      refine hK _ _ ?_
      clear hK K
      refine AW.seq_k fun K hK => ?_
      refine AW.block ?_
      refine AW.region (by decide) ?_
      simp only [push_cast, simprocAttr, imp_self, hJ, hj2, hj3, hj4, htl, hvl, w4, u8l_len, u8l_app, Nat.le_refl, Int.le_refl, c15, c18, gT, lk_old gT, gJ, lk_old gJ, gO, lk_old gO, kS, hmd, hdv, hkl, hkv, hsk, hwc, hwl, q1, q2, q3, hcl, hct, hcs, hcv, hky.symm, hrowA, hrowB, cp0, dp0, zp0, bp0, kp0, lp0, sp0, vp0, xp0]
      refine InB_n ?_
      refine Thn_n ?_
      refine hK _ _ ?_
      clear hK K
      refine AW.region (by decide) ?_
      simp only [push_cast, simprocAttr, imp_self, hJ, hj2, hj3, hj4, htl, hvl, w4, u8l_len, u8l_app, Nat.le_refl, Int.le_refl, c15, c18, gT, lk_old gT, gJ, lk_old gJ, gO, lk_old gO, kS, hmd, hdv, hkl, hkv, hsk, hwc, hwl, q1, q2, q3, hcl, hct, hcs, hcv, hky.symm, hrowA, hrowB, cp0, dp0, zp0, bp0, kp0, lp0, sp0, vp0, xp0]
      refine Thn_n ?_
      refine hK _ _ ?_
      clear hK K
      refine ARounds.succ fun K hK => ?_
      refine AW.seq_k fun K hK => ?_
      refine AW.seq_k fun K hK => ?_
      refine AW.region (by decide) ?_
      simp only [push_cast, simprocAttr, imp_self, hJ, hj2, hj3, hj4, htl, hvl, w4, u8l_len, u8l_app, Nat.le_refl, Int.le_refl, c15, c18, gT, lk_old gT, gJ, lk_old gJ, gO, lk_old gO, kS, hmd, hdv, hkl, hkv, hsk, hwc, hwl, q1, q2, q3, hcl, hct, hcs, hcv, hky.symm, hrowA, hrowB, cp0, dp0, zp0, bp0, kp0, lp0, sp0, vp0, xp0]
      refine Thn_n ?_
      refine hK _ _ ?_
      clear hK K
      refine AW.cond_f rfl ?_
      refine AW.exit ?_
      refine Thn_e ?_
      clear hK K
      refine Thn_e ?_
      clear hK K
      refine InB_here ?_
      refine Thn_n ?_
      refine hK _ _ ?_
      clear hK K
      refine AW.seq_k fun K hK => ?_
      refine AW.region (by decide) ?_
      simp only [push_cast, simprocAttr, imp_self, hJ, hj2, hj3, hj4, htl, hvl, w4, u8l_len, u8l_app, Nat.le_refl, Int.le_refl, c15, c18, gT, lk_old gT, gJ, lk_old gJ, gO, lk_old gO, kS, hmd, hdv, hkl, hkv, hsk, hwc, hwl, q1, q2, q3, hcl, hct, hcs, hcv, hky.symm, hrowA, hrowB, cp0, dp0, zp0, bp0, kp0, lp0, sp0, vp0, xp0]
      refine CThen.by (rkey_i 1 0 1 0 rfl (by first | rfl | omega) (M.length + 2) 1 1 (ky J (0)) 32 _ (by simp only [push_cast, simprocAttr, u8l_app]) hDl hDo (by decide) (by decide) (by omega)) ?_
      simp only [push_cast, simprocAttr, imp_self, hJ, hj2, hj3, hj4, htl, hvl, w4, u8l_len, u8l_app, Nat.le_refl, Int.le_refl, c15, c18, gT, lk_old gT, gJ, lk_old gJ, gO, lk_old gO, kS, hmd, hdv, hkl, hkv, hsk, hwc, hwl, q1, q2, q3, hcl, hct, hcs, hcv, hky.symm, hrowA, hrowB, cp0, dp0, zp0, bp0, kp0, lp0, sp0, vp0, xp0]
      refine Thn_n ?_
      refine hK _ _ ?_
      clear hK K
      refine AW.region (by decide) ?_
      simp only [push_cast, simprocAttr, imp_self, hJ, hj2, hj3, hj4, htl, hvl, w4, u8l_len, u8l_app, Nat.le_refl, Int.le_refl, c15, c18, gT, lk_old gT, gJ, lk_old gJ, gO, lk_old gO, kS, hmd, hdv, hkl, hkv, hsk, hwc, hwl, q1, q2, q3, hcl, hct, hcs, hcv, hky.symm, hrowA, hrowB, cp0, dp0, zp0, bp0, kp0, lp0, sp0, vp0, xp0]
      refine InB_n ?_
      refine Thn_n ?_
      refine hK _ _ ?_
      clear hK K
      refine AW.region (by decide) ?_
      simp only [push_cast, simprocAttr, imp_self, hJ, hj2, hj3, hj4, htl, hvl, w4, u8l_len, u8l_app, Nat.le_refl, Int.le_refl, c15, c18, gT, lk_old gT, gJ, lk_old gJ, gO, lk_old gO, kS, hmd, hdv, hkl, hkv, hsk, hwc, hwl, q1, q2, q3, hcl, hct, hcs, hcv, hky.symm, hrowA, hrowB, cp0, dp0, zp0, bp0, kp0, lp0, sp0, vp0, xp0]
      refine Thn_n ?_
      have hwi : IntKind.i64.wrap ((n:Int)+1) = (n:Int)+1 := by rw [IntKind.wrap_i64]; omega
      refine ⟨n + 1, hlt, by omega, ?_⟩
      try simp only [keepL, setAll, push_cast, simprocAttr, imp_self, hJ, hj2, hj3, hj4, htl, hvl, w4, u8l_len, u8l_app, Nat.le_refl, Int.le_refl, c15, c18, gT, lk_old gT, gJ, lk_old gJ, gO, lk_old gO, kS, hmd, hdv, hkl, hkv, hsk, hwc, hwl, q1, q2, q3, hcl, hct, hcs, hcv, hky.symm, hrowA, hrowB, cp0, dp0, zp0, bp0, kp0, lp0, sp0, vp0, xp0, hwi, kM, hrf, hwn, List.append_assoc]
      first
        | exact Weak.to (extra := [_, _, _, _]) (by simp only [Keeps, Tm.get_cons, Nat.reduceEqDiff, ↓reduceIte, if_true, if_false, ite_true, ite_false, true_and, and_true, and_self, reduceCtorEq, hwi, kM, hrf, hwn, List.append_assoc]) (by first | rfl | (simp only [List.append_assoc, List.cons_append, List.nil_append]; rfl)) (by first | rfl | (simp [AV.below, CV.below, u8l_below, ul_below]; done) | (simp [AV.below, CV.below, u8l_below, ul_below]; omega)) (by have h := hwf3; simp only [hrf, hwn, hrowA, hrowB, List.append_assoc, push_cast, simprocAttr] at h ⊢; exact h)
        | exact Weak.to (extra := [_, _, _, _, _]) (by simp only [Keeps, Tm.get_cons, Nat.reduceEqDiff, ↓reduceIte, if_true, if_false, ite_true, ite_false, true_and, and_true, and_self, reduceCtorEq, hwi, kM, hrf, hwn, List.append_assoc]) (by first | rfl | (simp only [List.append_assoc, List.cons_append, List.nil_append]; rfl)) (by first | rfl | (simp [AV.below, CV.below, u8l_below, ul_below]; done) | (simp [AV.below, CV.below, u8l_below, ul_below]; omega)) (by have h := hwf3; simp only [hrf, hwn, hrowA, hrowB, List.append_assoc, push_cast, simprocAttr] at h ⊢; exact h)
        | exact Weak.to (extra := [_, _, _, _, _, _]) (by simp only [Keeps, Tm.get_cons, Nat.reduceEqDiff, ↓reduceIte, if_true, if_false, ite_true, ite_false, true_and, and_true, and_self, reduceCtorEq, hwi, kM, hrf, hwn, List.append_assoc]) (by first | rfl | (simp only [List.append_assoc, List.cons_append, List.nil_append]; rfl)) (by first | rfl | (simp [AV.below, CV.below, u8l_below, ul_below]; done) | (simp [AV.below, CV.below, u8l_below, ul_below]; omega)) (by have h := hwf3; simp only [hrf, hwn, hrowA, hrowB, List.append_assoc, push_cast, simprocAttr] at h ⊢; exact h)
    · have hm0 : n % 4 = 1 := by omega
      have hd0 : n / 4 = (g + 1) := by omega
      have hmd : (n : Int).tmod 4 = 1 := by
        have h1 : (n : Int).tmod 4 = ((n % 4 : Nat) : Int) := rfl
        rw [h1, hm0]; rfl
      have hdv : IntKind.i64.wrap ((n : Int).tdiv 4) = ((g : Int) + 1) := by
        have h1 : (n : Int).tdiv 4 = ((n / 4 : Nat) : Int) := rfl
        rw [h1, hd0, IntKind.wrap_i64]; omega
      rw [hm0, hd0] at hky hwc0
      rw [hm0] at hrf
      have hnn : n = (4 * (g + 1) + 1) := by omega
      have hndl : ndL n = [4 * (g + 1), 4 * g, 4 * g + 1] := by rw [hnn]; exact nd1s g
      have hrowA : nl (ndL (4 * (g + 1) + 1)) = [.int .i64 ((4 * (g + 1) : Nat) : Int), .int .i64 ((4 * g : Nat) : Int), .int .i64 ((4 * g + 1 : Nat) : Int)] := by rw [nd1s g]; rfl
      have hrowB : nl (ndL n) = [.int .i64 ((4 * (g + 1) : Nat) : Int), .int .i64 ((4 * g : Nat) : Int), .int .i64 ((4 * g + 1 : Nat) : Int)] := by rw [hndl]; rfl
      simp only [push_cast, simprocAttr] at hrowA hrowB
      have hnd : ndC (m.length + 3) n = .sl M.length 0 0 3 := by
        unfold ndC; rw [hm0, hndl, if_neg (by decide), hMl]
        congr 1; omega
      rw [if_neg (by decide)] at hky hrf
      rw [hndl] at hky
      simp only [List.flatMap_cons, List.flatMap_nil, List.append_nil] at hky
      have hDl : (ky J (4 * (g + 1)) ++ (ky J (4 * g) ++ (ky J (4 * g + 1)))).length = 32 * 3 := by simp only [List.length_append, ky_len]
      have hDo : U8ok (ky J (4 * (g + 1)) ++ (ky J (4 * g) ++ (ky J (4 * g + 1)))) := (ky_ok _ _).app ((ky_ok _ _).app (ky_ok _ _))
      simp only [push_cast, simprocAttr] at hky
      have hwc : CV.int .i64 1 :: .int .i64 ((g : Int) + 1) :: (u8l (ky J n) ++ [.sl M.length 0 0 3]) = wC J (m.length + 3) n := by rw [hwc0, hnd]; rfl
      have hsk := setL_key (.int .i64 1) (.int .i64 ((g : Int) + 1)) (.sl M.length 0 0 3) (ky J n) hkl
      dsimp only at hsk
      have cp0 : (0 : Int) ≤ 4 * ((g : Int) + 1) := by omega
      have dp0 : 4 * ((g : Int) + 1) < (n : Int) := by omega
      have zp0 : (4 * ((g : Int) + 1)).toNat = 4 * (g + 1) := by omega
      have bp0 : (4 * (g + 1)) * 35 + 34 ≤ n * 35 := by omega
      have kp0 := wR_key J (m.length + 3) n (4 * (g + 1)) (by omega)
      rw [show 35 * (4 * (g + 1)) = (4 * (g + 1)) * 35 from Nat.mul_comm _ _] at kp0
      have lp0 := ky_len J (4 * (g + 1))
      have op0 := ky_ok J (4 * (g + 1))
      have sp0 : setL [.int .u8 0, .int .u8 0, .int .u8 0, .int .u8 0, .int .u8 0, .int .u8 0, .int .u8 0, .int .u8 0, .int .u8 0, .int .u8 0, .int .u8 0, .int .u8 0, .int .u8 0, .int .u8 0, .int .u8 0, .int .u8 0, .int .u8 0, .int .u8 0, .int .u8 0, .int .u8 0, .int .u8 0, .int .u8 0, .int .u8 0, .int .u8 0, .int .u8 0, .int .u8 0, .int .u8 0, .int .u8 0, .int .u8 0, .int .u8 0, .int .u8 0, .int .u8 0] 0 (u8l (ky J (4 * (g + 1)))) = u8l (ky J (4 * (g + 1))) := setL_full (by rw [u8l_len, lp0]; rfl)
      have vp0 := u8l_vals (ky J (4 * (g + 1)))
      have xp0 : (u8l (ky J (4 * (g + 1)))).take 32 = u8l (ky J (4 * (g + 1))) := List.take_of_length_le (by rw [u8l_len, lp0]; exact Nat.le_refl _)
      try simp only [push_cast, simprocAttr] at bp0
      try simp only [push_cast, simprocAttr] at kp0
      have cp1 : (0 : Int) ≤ 4 * (g : Int) := by omega
      have dp1 : 4 * (g : Int) < (n : Int) := by omega
      have zp1 : (4 * (g : Int)).toNat = 4 * g := by omega
      have bp1 : (4 * g) * 35 + 34 ≤ n * 35 := by omega
      have kp1 := wR_key J (m.length + 3) n (4 * g) (by omega)
      rw [show 35 * (4 * g) = (4 * g) * 35 from Nat.mul_comm _ _] at kp1
      have lp1 := ky_len J (4 * g)
      have op1 := ky_ok J (4 * g)
      have sp1 : setL [.int .u8 0, .int .u8 0, .int .u8 0, .int .u8 0, .int .u8 0, .int .u8 0, .int .u8 0, .int .u8 0, .int .u8 0, .int .u8 0, .int .u8 0, .int .u8 0, .int .u8 0, .int .u8 0, .int .u8 0, .int .u8 0, .int .u8 0, .int .u8 0, .int .u8 0, .int .u8 0, .int .u8 0, .int .u8 0, .int .u8 0, .int .u8 0, .int .u8 0, .int .u8 0, .int .u8 0, .int .u8 0, .int .u8 0, .int .u8 0, .int .u8 0, .int .u8 0] 0 (u8l (ky J (4 * g))) = u8l (ky J (4 * g)) := setL_full (by rw [u8l_len, lp1]; rfl)
      have vp1 := u8l_vals (ky J (4 * g))
      have xp1 : (u8l (ky J (4 * g))).take 32 = u8l (ky J (4 * g)) := List.take_of_length_le (by rw [u8l_len, lp1]; exact Nat.le_refl _)
      try simp only [push_cast, simprocAttr] at bp1
      try simp only [push_cast, simprocAttr] at kp1
      have cp2 : (0 : Int) ≤ 4 * (g : Int) + 1 := by omega
      have dp2 : 4 * (g : Int) + 1 < (n : Int) := by omega
      have zp2 : (4 * (g : Int) + 1).toNat = 4 * g + 1 := by omega
      have bp2 : (4 * g + 1) * 35 + 34 ≤ n * 35 := by omega
      have kp2 := wR_key J (m.length + 3) n (4 * g + 1) (by omega)
      rw [show 35 * (4 * g + 1) = (4 * g + 1) * 35 from Nat.mul_comm _ _] at kp2
      have lp2 := ky_len J (4 * g + 1)
      have op2 := ky_ok J (4 * g + 1)
      have sp2 : setL [.int .u8 0, .int .u8 0, .int .u8 0, .int .u8 0, .int .u8 0, .int .u8 0, .int .u8 0, .int .u8 0, .int .u8 0, .int .u8 0, .int .u8 0, .int .u8 0, .int .u8 0, .int .u8 0, .int .u8 0, .int .u8 0, .int .u8 0, .int .u8 0, .int .u8 0, .int .u8 0, .int .u8 0, .int .u8 0, .int .u8 0, .int .u8 0, .int .u8 0, .int .u8 0, .int .u8 0, .int .u8 0, .int .u8 0, .int .u8 0, .int .u8 0, .int .u8 0] 0 (u8l (ky J (4 * g + 1))) = u8l (ky J (4 * g + 1)) := setL_full (by rw [u8l_len, lp2]; rfl)
      have vp2 := u8l_vals (ky J (4 * g + 1))
      have xp2 : (u8l (ky J (4 * g + 1))).take 32 = u8l (ky J (4 * g + 1)) := List.take_of_length_le (by rw [u8l_len, lp2]; exact Nat.le_refl _)
      try simp only [push_cast, simprocAttr] at bp2
      try simp only [push_cast, simprocAttr] at kp2
      refine AW.region (by decide) ?_
      simp only [push_cast, simprocAttr, imp_self, hJ, hj2, hj3, hj4, htl, hvl, w4, u8l_len, u8l_app, Nat.le_refl, Int.le_refl, c15, c18, gT, lk_old gT, gJ, lk_old gJ, gO, lk_old gO, kS, hmd, hdv, hkl, hkv, hsk, hwc, hwl, q1, q2, q3, hcl, hct, hcs, hcv, hky.symm, hrowA, hrowB, cp0, dp0, zp0, bp0, kp0, lp0, sp0, vp0, xp0, cp1, dp1, zp1, bp1, kp1, lp1, sp1, vp1, xp1, cp2, dp2, zp2, bp2, kp2, lp2, sp2, vp2, xp2]
      refine CThen.by (rneeds1s_c g _ (by omega)) ?_
      simp only [push_cast, simprocAttr, imp_self, hJ, hj2, hj3, hj4, htl, hvl, w4, u8l_len, u8l_app, Nat.le_refl, Int.le_refl, c15, c18, gT, lk_old gT, gJ, lk_old gJ, gO, lk_old gO, kS, hmd, hdv, hkl, hkv, hsk, hwc, hwl, q1, q2, q3, hcl, hct, hcs, hcv, hky.symm, hrowA, hrowB, cp0, dp0, zp0, bp0, kp0, lp0, sp0, vp0, xp0, cp1, dp1, zp1, bp1, kp1, lp1, sp1, vp1, xp1, cp2, dp2, zp2, bp2, kp2, lp2, sp2, vp2, xp2]
      refine Thn_n ?_
      refine hK _ _ ?_
      clear hK K
      refine AW.seq_k fun K hK => ?_
      refine AW.region (by decide) ?_
      simp only [push_cast, simprocAttr, imp_self, hJ, hj2, hj3, hj4, htl, hvl, w4, u8l_len, u8l_app, Nat.le_refl, Int.le_refl, c15, c18, gT, lk_old gT, gJ, lk_old gJ, gO, lk_old gO, kS, hmd, hdv, hkl, hkv, hsk, hwc, hwl, q1, q2, q3, hcl, hct, hcs, hcv, hky.symm, hrowA, hrowB, cp0, dp0, zp0, bp0, kp0, lp0, sp0, vp0, xp0, cp1, dp1, zp1, bp1, kp1, lp1, sp1, vp1, xp1, cp2, dp2, zp2, bp2, kp2, lp2, sp2, vp2, xp2]
      refine Thn_n ?_
      refine hK _ _ ?_
      clear hK K
      refine AW.seq_k fun K hK => ?_
      refine AW.seq_k fun K hK => ?_
      refine AW.region (by decide) ?_
      simp only [push_cast, simprocAttr, imp_self, hJ, hj2, hj3, hj4, htl, hvl, w4, u8l_len, u8l_app, Nat.le_refl, Int.le_refl, c15, c18, gT, lk_old gT, gJ, lk_old gJ, gO, lk_old gO, kS, hmd, hdv, hkl, hkv, hsk, hwc, hwl, q1, q2, q3, hcl, hct, hcs, hcv, hky.symm, hrowA, hrowB, cp0, dp0, zp0, bp0, kp0, lp0, sp0, vp0, xp0, cp1, dp1, zp1, bp1, kp1, lp1, sp1, vp1, xp1, cp2, dp2, zp2, bp2, kp2, lp2, sp2, vp2, xp2]
      refine Thn_n ?_
      refine hK _ _ ?_
      clear hK K
      refine AW.cond_f rfl ?_
      refine AW.skip ?_
      refine Thn_n ?_
      refine hK _ _ ?_
      clear hK K
      refine AW.seq_k fun K hK => ?_
      refine AW.seq_k fun K hK => ?_
      refine AW.region (by decide) ?_
      simp only [push_cast, simprocAttr, imp_self, hJ, hj2, hj3, hj4, htl, hvl, w4, u8l_len, u8l_app, Nat.le_refl, Int.le_refl, c15, c18, gT, lk_old gT, gJ, lk_old gJ, gO, lk_old gO, kS, hmd, hdv, hkl, hkv, hsk, hwc, hwl, q1, q2, q3, hcl, hct, hcs, hcv, hky.symm, hrowA, hrowB, cp0, dp0, zp0, bp0, kp0, lp0, sp0, vp0, xp0, cp1, dp1, zp1, bp1, kp1, lp1, sp1, vp1, xp1, cp2, dp2, zp2, bp2, kp2, lp2, sp2, vp2, xp2]
      refine Thn_n ?_
      refine hK _ _ ?_
      clear hK K
      refine AW.block ?_
      refine AW.rounds 4 ?_
      iterate 3
        refine ARounds.succ fun K hK => ?_
        refine AW.seq_k fun K hK => ?_
        refine AW.seq_k fun K hK => ?_
        refine AW.region (by decide) ?_
        simp only [push_cast, simprocAttr, imp_self, hJ, hj2, hj3, hj4, htl, hvl, w4, u8l_len, u8l_app, Nat.le_refl, Int.le_refl, c15, c18, gT, lk_old gT, gJ, lk_old gJ, gO, lk_old gO, kS, hmd, hdv, hkl, hkv, hsk, hwc, hwl, q1, q2, q3, hcl, hct, hcs, hcv, hky.symm, hrowA, hrowB, cp0, dp0, zp0, bp0, kp0, lp0, sp0, vp0, xp0, cp1, dp1, zp1, bp1, kp1, lp1, sp1, vp1, xp1, cp2, dp2, zp2, bp2, kp2, lp2, sp2, vp2, xp2]
        refine Thn_n ?_
        refine hK _ _ ?_
        clear hK K
        refine AW.cond_t rfl ?_
        refine AW.skip ?_
        refine Thn_n ?_
        refine hK _ _ ?_
        clear hK K
        refine AW.seq_k fun K hK => ?_
        refine AW.block ?_
        refine AW.region (by decide) ?_
        simp only [push_cast, simprocAttr, imp_self, hJ, hj2, hj3, hj4, htl, hvl, w4, u8l_len, u8l_app, Nat.le_refl, Int.le_refl, c15, c18, gT, lk_old gT, gJ, lk_old gJ, gO, lk_old gO, kS, hmd, hdv, hkl, hkv, hsk, hwc, hwl, q1, q2, q3, hcl, hct, hcs, hcv, hky.symm, hrowA, hrowB, cp0, dp0, zp0, bp0, kp0, lp0, sp0, vp0, xp0, cp1, dp1, zp1, bp1, kp1, lp1, sp1, vp1, xp1, cp2, dp2, zp2, bp2, kp2, lp2, sp2, vp2, xp2]
        refine InB_n ?_
        refine Thn_n ?_
        refine hK _ _ ?_
        clear hK K
        refine AW.region (by decide) ?_
        simp only [push_cast, simprocAttr, imp_self, hJ, hj2, hj3, hj4, htl, hvl, w4, u8l_len, u8l_app, Nat.le_refl, Int.le_refl, c15, c18, gT, lk_old gT, gJ, lk_old gJ, gO, lk_old gO, kS, hmd, hdv, hkl, hkv, hsk, hwc, hwl, q1, q2, q3, hcl, hct, hcs, hcv, hky.symm, hrowA, hrowB, cp0, dp0, zp0, bp0, kp0, lp0, sp0, vp0, xp0, cp1, dp1, zp1, bp1, kp1, lp1, sp1, vp1, xp1, cp2, dp2, zp2, bp2, kp2, lp2, sp2, vp2, xp2]
        refine Thn_n ?_
        refine hK _ _ ?_
        clear hK K
      refine ARounds.succ fun K hK => ?_
      refine AW.seq_k fun K hK => ?_
      refine AW.seq_k fun K hK => ?_
      refine AW.region (by decide) ?_
      simp only [push_cast, simprocAttr, imp_self, hJ, hj2, hj3, hj4, htl, hvl, w4, u8l_len, u8l_app, Nat.le_refl, Int.le_refl, c15, c18, gT, lk_old gT, gJ, lk_old gJ, gO, lk_old gO, kS, hmd, hdv, hkl, hkv, hsk, hwc, hwl, q1, q2, q3, hcl, hct, hcs, hcv, hky.symm, hrowA, hrowB, cp0, dp0, zp0, bp0, kp0, lp0, sp0, vp0, xp0, cp1, dp1, zp1, bp1, kp1, lp1, sp1, vp1, xp1, cp2, dp2, zp2, bp2, kp2, lp2, sp2, vp2, xp2]
      refine Thn_n ?_
      refine hK _ _ ?_
      clear hK K
      refine AW.cond_f rfl ?_
      refine AW.exit ?_
      refine Thn_e ?_
      clear hK K
      refine Thn_e ?_
      clear hK K
      refine InB_here ?_
      refine Thn_n ?_
      refine hK _ _ ?_
      clear hK K
      refine AW.seq_k fun K hK => ?_
      refine AW.region (by decide) ?_
      simp only [push_cast, simprocAttr, imp_self, hJ, hj2, hj3, hj4, htl, hvl, w4, u8l_len, u8l_app, Nat.le_refl, Int.le_refl, c15, c18, gT, lk_old gT, gJ, lk_old gJ, gO, lk_old gO, kS, hmd, hdv, hkl, hkv, hsk, hwc, hwl, q1, q2, q3, hcl, hct, hcs, hcv, hky.symm, hrowA, hrowB, cp0, dp0, zp0, bp0, kp0, lp0, sp0, vp0, xp0, cp1, dp1, zp1, bp1, kp1, lp1, sp1, vp1, xp1, cp2, dp2, zp2, bp2, kp2, lp2, sp2, vp2, xp2]
      refine CThen.by (rkey_i 1 (g + 1) 1 ((g : Int) + 1) rfl (by first | rfl | omega) (M.length + 2) 3 3 (ky J (4 * (g + 1)) ++ (ky J (4 * g) ++ (ky J (4 * g + 1)))) 32 _ (by simp only [push_cast, simprocAttr, u8l_app]) hDl hDo (by decide) (by decide) (by omega)) ?_
      simp only [push_cast, simprocAttr, imp_self, hJ, hj2, hj3, hj4, htl, hvl, w4, u8l_len, u8l_app, Nat.le_refl, Int.le_refl, c15, c18, gT, lk_old gT, gJ, lk_old gJ, gO, lk_old gO, kS, hmd, hdv, hkl, hkv, hsk, hwc, hwl, q1, q2, q3, hcl, hct, hcs, hcv, hky.symm, hrowA, hrowB, cp0, dp0, zp0, bp0, kp0, lp0, sp0, vp0, xp0, cp1, dp1, zp1, bp1, kp1, lp1, sp1, vp1, xp1, cp2, dp2, zp2, bp2, kp2, lp2, sp2, vp2, xp2]
      refine Thn_n ?_
      refine hK _ _ ?_
      clear hK K
      refine AW.region (by decide) ?_
      simp only [push_cast, simprocAttr, imp_self, hJ, hj2, hj3, hj4, htl, hvl, w4, u8l_len, u8l_app, Nat.le_refl, Int.le_refl, c15, c18, gT, lk_old gT, gJ, lk_old gJ, gO, lk_old gO, kS, hmd, hdv, hkl, hkv, hsk, hwc, hwl, q1, q2, q3, hcl, hct, hcs, hcv, hky.symm, hrowA, hrowB, cp0, dp0, zp0, bp0, kp0, lp0, sp0, vp0, xp0, cp1, dp1, zp1, bp1, kp1, lp1, sp1, vp1, xp1, cp2, dp2, zp2, bp2, kp2, lp2, sp2, vp2, xp2]
      refine InB_n ?_
      refine Thn_n ?_
      refine hK _ _ ?_
      clear hK K
      refine AW.region (by decide) ?_
      simp only [push_cast, simprocAttr, imp_self, hJ, hj2, hj3, hj4, htl, hvl, w4, u8l_len, u8l_app, Nat.le_refl, Int.le_refl, c15, c18, gT, lk_old gT, gJ, lk_old gJ, gO, lk_old gO, kS, hmd, hdv, hkl, hkv, hsk, hwc, hwl, q1, q2, q3, hcl, hct, hcs, hcv, hky.symm, hrowA, hrowB, cp0, dp0, zp0, bp0, kp0, lp0, sp0, vp0, xp0, cp1, dp1, zp1, bp1, kp1, lp1, sp1, vp1, xp1, cp2, dp2, zp2, bp2, kp2, lp2, sp2, vp2, xp2]
      refine Thn_n ?_
      have hwi : IntKind.i64.wrap ((n:Int)+1) = (n:Int)+1 := by rw [IntKind.wrap_i64]; omega
      refine ⟨n + 1, hlt, by omega, ?_⟩
      try simp only [keepL, setAll, push_cast, simprocAttr, imp_self, hJ, hj2, hj3, hj4, htl, hvl, w4, u8l_len, u8l_app, Nat.le_refl, Int.le_refl, c15, c18, gT, lk_old gT, gJ, lk_old gJ, gO, lk_old gO, kS, hmd, hdv, hkl, hkv, hsk, hwc, hwl, q1, q2, q3, hcl, hct, hcs, hcv, hky.symm, hrowA, hrowB, cp0, dp0, zp0, bp0, kp0, lp0, sp0, vp0, xp0, cp1, dp1, zp1, bp1, kp1, lp1, sp1, vp1, xp1, cp2, dp2, zp2, bp2, kp2, lp2, sp2, vp2, xp2, hwi, kM, hrf, hwn, List.append_assoc]
      first
        | exact Weak.to (extra := [_, _, _, _]) (by simp only [Keeps, Tm.get_cons, Nat.reduceEqDiff, ↓reduceIte, if_true, if_false, ite_true, ite_false, true_and, and_true, and_self, reduceCtorEq, hwi, kM, hrf, hwn, List.append_assoc]) (by first | rfl | (simp only [List.append_assoc, List.cons_append, List.nil_append]; rfl)) (by first | rfl | (simp [AV.below, CV.below, u8l_below, ul_below]; done) | (simp [AV.below, CV.below, u8l_below, ul_below]; omega)) (by have h := hwf3; simp only [hrf, hwn, hrowA, hrowB, List.append_assoc, push_cast, simprocAttr] at h ⊢; exact h)
        | exact Weak.to (extra := [_, _, _, _, _]) (by simp only [Keeps, Tm.get_cons, Nat.reduceEqDiff, ↓reduceIte, if_true, if_false, ite_true, ite_false, true_and, and_true, and_self, reduceCtorEq, hwi, kM, hrf, hwn, List.append_assoc]) (by first | rfl | (simp only [List.append_assoc, List.cons_append, List.nil_append]; rfl)) (by first | rfl | (simp [AV.below, CV.below, u8l_below, ul_below]; done) | (simp [AV.below, CV.below, u8l_below, ul_below]; omega)) (by have h := hwf3; simp only [hrf, hwn, hrowA, hrowB, List.append_assoc, push_cast, simprocAttr] at h ⊢; exact h)
        | exact Weak.to (extra := [_, _, _, _, _, _]) (by simp only [Keeps, Tm.get_cons, Nat.reduceEqDiff, ↓reduceIte, if_true, if_false, ite_true, ite_false, true_and, and_true, and_self, reduceCtorEq, hwi, kM, hrf, hwn, List.append_assoc]) (by first | rfl | (simp only [List.append_assoc, List.cons_append, List.nil_append]; rfl)) (by first | rfl | (simp [AV.below, CV.below, u8l_below, ul_below]; done) | (simp [AV.below, CV.below, u8l_below, ul_below]; omega)) (by have h := hwf3; simp only [hrf, hwn, hrowA, hrowB, List.append_assoc, push_cast, simprocAttr] at h ⊢; exact h)
    · have hm0 : n % 4 = 2 := by omega
      have hd0 : n / 4 = f := by omega
      have hmd : (n : Int).tmod 4 = 2 := by
        have h1 : (n : Int).tmod 4 = ((n % 4 : Nat) : Int) := rfl
        rw [h1, hm0]; rfl
      have hdv : IntKind.i64.wrap ((n : Int).tdiv 4) = (f : Int) := by
        have h1 : (n : Int).tdiv 4 = ((n / 4 : Nat) : Int) := rfl
        rw [h1, hd0, IntKind.wrap_i64]; omega
      rw [hm0, hd0] at hky hwc0
      rw [hm0] at hrf
      have hnn : n = (4 * f + 2) := by omega
      have hndl : ndL n = [4 * f, 4 * f + 1] := by rw [hnn]; exact nd2 f
      have hrowA : nl (ndL (4 * f + 2)) = [.int .i64 ((4 * f : Nat) : Int), .int .i64 ((4 * f + 1 : Nat) : Int)] := by rw [nd2 f]; rfl
      have hrowB : nl (ndL n) = [.int .i64 ((4 * f : Nat) : Int), .int .i64 ((4 * f + 1 : Nat) : Int)] := by rw [hndl]; rfl
      simp only [push_cast, simprocAttr] at hrowA hrowB
      have hnd : ndC (m.length + 3) n = .sl M.length 0 0 2 := by
        unfold ndC; rw [hm0, hndl, if_neg (by decide), hMl]
        congr 1; omega
      rw [if_neg (by decide)] at hky hrf
      rw [hndl] at hky
      simp only [List.flatMap_cons, List.flatMap_nil, List.append_nil] at hky
      have hDl : (ky J (4 * f) ++ (ky J (4 * f + 1))).length = 32 * 2 := by simp only [List.length_append, ky_len]
      have hDo : U8ok (ky J (4 * f) ++ (ky J (4 * f + 1))) := (ky_ok _ _).app (ky_ok _ _)
      simp only [push_cast, simprocAttr] at hky
      have hwc : CV.int .i64 2 :: .int .i64 (f : Int) :: (u8l (ky J n) ++ [.sl M.length 0 0 2]) = wC J (m.length + 3) n := by rw [hwc0, hnd]; rfl
      have hsk := setL_key (.int .i64 2) (.int .i64 (f : Int)) (.sl M.length 0 0 2) (ky J n) hkl
      dsimp only at hsk
      have cp0 : (0 : Int) ≤ 4 * (f : Int) := by omega
      have dp0 : 4 * (f : Int) < (n : Int) := by omega
      have zp0 : (4 * (f : Int)).toNat = 4 * f := by omega
      have bp0 : (4 * f) * 35 + 34 ≤ n * 35 := by omega
      have kp0 := wR_key J (m.length + 3) n (4 * f) (by omega)
      rw [show 35 * (4 * f) = (4 * f) * 35 from Nat.mul_comm _ _] at kp0
      have lp0 := ky_len J (4 * f)
      have op0 := ky_ok J (4 * f)
      have sp0 : setL [.int .u8 0, .int .u8 0, .int .u8 0, .int .u8 0, .int .u8 0, .int .u8 0, .int .u8 0, .int .u8 0, .int .u8 0, .int .u8 0, .int .u8 0, .int .u8 0, .int .u8 0, .int .u8 0, .int .u8 0, .int .u8 0, .int .u8 0, .int .u8 0, .int .u8 0, .int .u8 0, .int .u8 0, .int .u8 0, .int .u8 0, .int .u8 0, .int .u8 0, .int .u8 0, .int .u8 0, .int .u8 0, .int .u8 0, .int .u8 0, .int .u8 0, .int .u8 0] 0 (u8l (ky J (4 * f))) = u8l (ky J (4 * f)) := setL_full (by rw [u8l_len, lp0]; rfl)
      have vp0 := u8l_vals (ky J (4 * f))
      have xp0 : (u8l (ky J (4 * f))).take 32 = u8l (ky J (4 * f)) := List.take_of_length_le (by rw [u8l_len, lp0]; exact Nat.le_refl _)
      try simp only [push_cast, simprocAttr] at bp0
      try simp only [push_cast, simprocAttr] at kp0
      have cp1 : (0 : Int) ≤ 4 * (f : Int) + 1 := by omega
      have dp1 : 4 * (f : Int) + 1 < (n : Int) := by omega
      have zp1 : (4 * (f : Int) + 1).toNat = 4 * f + 1 := by omega
      have bp1 : (4 * f + 1) * 35 + 34 ≤ n * 35 := by omega
      have kp1 := wR_key J (m.length + 3) n (4 * f + 1) (by omega)
      rw [show 35 * (4 * f + 1) = (4 * f + 1) * 35 from Nat.mul_comm _ _] at kp1
      have lp1 := ky_len J (4 * f + 1)
      have op1 := ky_ok J (4 * f + 1)
      have sp1 : setL [.int .u8 0, .int .u8 0, .int .u8 0, .int .u8 0, .int .u8 0, .int .u8 0, .int .u8 0, .int .u8 0, .int .u8 0, .int .u8 0, .int .u8 0, .int .u8 0, .int .u8 0, .int .u8 0, .int .u8 0, .int .u8 0, .int .u8 0, .int .u8 0, .int .u8 0, .int .u8 0, .int .u8 0, .int .u8 0, .int .u8 0, .int .u8 0, .int .u8 0, .int .u8 0, .int .u8 0, .int .u8 0, .int .u8 0, .int .u8 0, .int .u8 0, .int .u8 0] 0 (u8l (ky J (4 * f + 1))) = u8l (ky J (4 * f + 1)) := setL_full (by rw [u8l_len, lp1]; rfl)
      have vp1 := u8l_vals (ky J (4 * f + 1))
      have xp1 : (u8l (ky J (4 * f + 1))).take 32 = u8l (ky J (4 * f + 1)) := List.take_of_length_le (by rw [u8l_len, lp1]; exact Nat.le_refl _)
      try simp only [push_cast, simprocAttr] at bp1
      try simp only [push_cast, simprocAttr] at kp1
      refine AW.region (by decide) ?_
      simp only [push_cast, simprocAttr, imp_self, hJ, hj2, hj3, hj4, htl, hvl, w4, u8l_len, u8l_app, Nat.le_refl, Int.le_refl, c15, c18, gT, lk_old gT, gJ, lk_old gJ, gO, lk_old gO, kS, hmd, hdv, hkl, hkv, hsk, hwc, hwl, q1, q2, q3, hcl, hct, hcs, hcv, hky.symm, hrowA, hrowB, cp0, dp0, zp0, bp0, kp0, lp0, sp0, vp0, xp0, cp1, dp1, zp1, bp1, kp1, lp1, sp1, vp1, xp1]
      refine CThen.by (rneeds2_c f _ (by omega)) ?_
      simp only [push_cast, simprocAttr, imp_self, hJ, hj2, hj3, hj4, htl, hvl, w4, u8l_len, u8l_app, Nat.le_refl, Int.le_refl, c15, c18, gT, lk_old gT, gJ, lk_old gJ, gO, lk_old gO, kS, hmd, hdv, hkl, hkv, hsk, hwc, hwl, q1, q2, q3, hcl, hct, hcs, hcv, hky.symm, hrowA, hrowB, cp0, dp0, zp0, bp0, kp0, lp0, sp0, vp0, xp0, cp1, dp1, zp1, bp1, kp1, lp1, sp1, vp1, xp1]
      refine Thn_n ?_
      refine hK _ _ ?_
      clear hK K
      refine AW.seq_k fun K hK => ?_
      refine AW.region (by decide) ?_
      simp only [push_cast, simprocAttr, imp_self, hJ, hj2, hj3, hj4, htl, hvl, w4, u8l_len, u8l_app, Nat.le_refl, Int.le_refl, c15, c18, gT, lk_old gT, gJ, lk_old gJ, gO, lk_old gO, kS, hmd, hdv, hkl, hkv, hsk, hwc, hwl, q1, q2, q3, hcl, hct, hcs, hcv, hky.symm, hrowA, hrowB, cp0, dp0, zp0, bp0, kp0, lp0, sp0, vp0, xp0, cp1, dp1, zp1, bp1, kp1, lp1, sp1, vp1, xp1]
      refine Thn_n ?_
      refine hK _ _ ?_
      clear hK K
      refine AW.seq_k fun K hK => ?_
      refine AW.seq_k fun K hK => ?_
      refine AW.region (by decide) ?_
      simp only [push_cast, simprocAttr, imp_self, hJ, hj2, hj3, hj4, htl, hvl, w4, u8l_len, u8l_app, Nat.le_refl, Int.le_refl, c15, c18, gT, lk_old gT, gJ, lk_old gJ, gO, lk_old gO, kS, hmd, hdv, hkl, hkv, hsk, hwc, hwl, q1, q2, q3, hcl, hct, hcs, hcv, hky.symm, hrowA, hrowB, cp0, dp0, zp0, bp0, kp0, lp0, sp0, vp0, xp0, cp1, dp1, zp1, bp1, kp1, lp1, sp1, vp1, xp1]
      refine Thn_n ?_
      refine hK _ _ ?_
      clear hK K
      refine AW.cond_f rfl ?_
      refine AW.skip ?_
      refine Thn_n ?_
      refine hK _ _ ?_
      clear hK K
      refine AW.seq_k fun K hK => ?_
      refine AW.seq_k fun K hK => ?_
      refine AW.region (by decide) ?_
      simp only [push_cast, simprocAttr, imp_self, hJ, hj2, hj3, hj4, htl, hvl, w4, u8l_len, u8l_app, Nat.le_refl, Int.le_refl, c15, c18, gT, lk_old gT, gJ, lk_old gJ, gO, lk_old gO, kS, hmd, hdv, hkl, hkv, hsk, hwc, hwl, q1, q2, q3, hcl, hct, hcs, hcv, hky.symm, hrowA, hrowB, cp0, dp0, zp0, bp0, kp0, lp0, sp0, vp0, xp0, cp1, dp1, zp1, bp1, kp1, lp1, sp1, vp1, xp1]
      refine Thn_n ?_
      refine hK _ _ ?_
      clear hK K
      refine AW.block ?_
      refine AW.rounds 3 ?_
      iterate 2
        refine ARounds.succ fun K hK => ?_
        refine AW.seq_k fun K hK => ?_
        refine AW.seq_k fun K hK => ?_
        refine AW.region (by decide) ?_
        simp only [push_cast, simprocAttr, imp_self, hJ, hj2, hj3, hj4, htl, hvl, w4, u8l_len, u8l_app, Nat.le_refl, Int.le_refl, c15, c18, gT, lk_old gT, gJ, lk_old gJ, gO, lk_old gO, kS, hmd, hdv, hkl, hkv, hsk, hwc, hwl, q1, q2, q3, hcl, hct, hcs, hcv, hky.symm, hrowA, hrowB, cp0, dp0, zp0, bp0, kp0, lp0, sp0, vp0, xp0, cp1, dp1, zp1, bp1, kp1, lp1, sp1, vp1, xp1]
        refine Thn_n ?_
        refine hK _ _ ?_
        clear hK K
        refine AW.cond_t rfl ?_
        refine AW.skip ?_
        refine Thn_n ?_
        refine hK _ _ ?_
        clear hK K
        refine AW.seq_k fun K hK => ?_
        refine AW.block ?_
        refine AW.region (by decide) ?_
        simp only [push_cast, simprocAttr, imp_self, hJ, hj2, hj3, hj4, htl, hvl, w4, u8l_len, u8l_app, Nat.le_refl, Int.le_refl, c15, c18, gT, lk_old gT, gJ, lk_old gJ, gO, lk_old gO, kS, hmd, hdv, hkl, hkv, hsk, hwc, hwl, q1, q2, q3, hcl, hct, hcs, hcv, hky.symm, hrowA, hrowB, cp0, dp0, zp0, bp0, kp0, lp0, sp0, vp0, xp0, cp1, dp1, zp1, bp1, kp1, lp1, sp1, vp1, xp1]
        refine InB_n ?_
        refine Thn_n ?_
        refine hK _ _ ?_
        clear hK K
        refine AW.region (by decide) ?_
        simp only [push_cast, simprocAttr, imp_self, hJ, hj2, hj3, hj4, htl, hvl, w4, u8l_len, u8l_app, Nat.le_refl, Int.le_refl, c15, c18, gT, lk_old gT, gJ, lk_old gJ, gO, lk_old gO, kS, hmd, hdv, hkl, hkv, hsk, hwc, hwl, q1, q2, q3, hcl, hct, hcs, hcv, hky.symm, hrowA, hrowB, cp0, dp0, zp0, bp0, kp0, lp0, sp0, vp0, xp0, cp1, dp1, zp1, bp1, kp1, lp1, sp1, vp1, xp1]
        refine Thn_n ?_
        refine hK _ _ ?_
        clear hK K
      refine ARounds.succ fun K hK => ?_
      refine AW.seq_k fun K hK => ?_
      refine AW.seq_k fun K hK => ?_
      refine AW.region (by decide) ?_
      simp only [push_cast, simprocAttr, imp_self, hJ, hj2, hj3, hj4, htl, hvl, w4, u8l_len, u8l_app, Nat.le_refl, Int.le_refl, c15, c18, gT, lk_old gT, gJ, lk_old gJ, gO, lk_old gO, kS, hmd, hdv, hkl, hkv, hsk, hwc, hwl, q1, q2, q3, hcl, hct, hcs, hcv, hky.symm, hrowA, hrowB, cp0, dp0, zp0, bp0, kp0, lp0, sp0, vp0, xp0, cp1, dp1, zp1, bp1, kp1, lp1, sp1, vp1, xp1]
      refine Thn_n ?_
      refine hK _ _ ?_
      clear hK K
      refine AW.cond_f rfl ?_
      refine AW.exit ?_
      refine Thn_e ?_
      clear hK K
      refine Thn_e ?_
      clear hK K
      refine InB_here ?_
      refine Thn_n ?_
      refine hK _ _ ?_
      clear hK K
      refine AW.seq_k fun K hK => ?_
      refine AW.region (by decide) ?_
      simp only [push_cast, simprocAttr, imp_self, hJ, hj2, hj3, hj4, htl, hvl, w4, u8l_len, u8l_app, Nat.le_refl, Int.le_refl, c15, c18, gT, lk_old gT, gJ, lk_old gJ, gO, lk_old gO, kS, hmd, hdv, hkl, hkv, hsk, hwc, hwl, q1, q2, q3, hcl, hct, hcs, hcv, hky.symm, hrowA, hrowB, cp0, dp0, zp0, bp0, kp0, lp0, sp0, vp0, xp0, cp1, dp1, zp1, bp1, kp1, lp1, sp1, vp1, xp1]
      refine CThen.by (rkey_i 2 f 2 (f : Int) rfl (by first | rfl | omega) (M.length + 2) 2 2 (ky J (4 * f) ++ (ky J (4 * f + 1))) 32 _ (by simp only [push_cast, simprocAttr, u8l_app]) hDl hDo (by decide) (by decide) (by omega)) ?_
      simp only [push_cast, simprocAttr, imp_self, hJ, hj2, hj3, hj4, htl, hvl, w4, u8l_len, u8l_app, Nat.le_refl, Int.le_refl, c15, c18, gT, lk_old gT, gJ, lk_old gJ, gO, lk_old gO, kS, hmd, hdv, hkl, hkv, hsk, hwc, hwl, q1, q2, q3, hcl, hct, hcs, hcv, hky.symm, hrowA, hrowB, cp0, dp0, zp0, bp0, kp0, lp0, sp0, vp0, xp0, cp1, dp1, zp1, bp1, kp1, lp1, sp1, vp1, xp1]
      refine Thn_n ?_
      refine hK _ _ ?_
      clear hK K
      refine AW.region (by decide) ?_
      simp only [push_cast, simprocAttr, imp_self, hJ, hj2, hj3, hj4, htl, hvl, w4, u8l_len, u8l_app, Nat.le_refl, Int.le_refl, c15, c18, gT, lk_old gT, gJ, lk_old gJ, gO, lk_old gO, kS, hmd, hdv, hkl, hkv, hsk, hwc, hwl, q1, q2, q3, hcl, hct, hcs, hcv, hky.symm, hrowA, hrowB, cp0, dp0, zp0, bp0, kp0, lp0, sp0, vp0, xp0, cp1, dp1, zp1, bp1, kp1, lp1, sp1, vp1, xp1]
      refine InB_n ?_
      refine Thn_n ?_
      refine hK _ _ ?_
      clear hK K
      refine AW.region (by decide) ?_
      simp only [push_cast, simprocAttr, imp_self, hJ, hj2, hj3, hj4, htl, hvl, w4, u8l_len, u8l_app, Nat.le_refl, Int.le_refl, c15, c18, gT, lk_old gT, gJ, lk_old gJ, gO, lk_old gO, kS, hmd, hdv, hkl, hkv, hsk, hwc, hwl, q1, q2, q3, hcl, hct, hcs, hcv, hky.symm, hrowA, hrowB, cp0, dp0, zp0, bp0, kp0, lp0, sp0, vp0, xp0, cp1, dp1, zp1, bp1, kp1, lp1, sp1, vp1, xp1]
      refine Thn_n ?_
      have hwi : IntKind.i64.wrap ((n:Int)+1) = (n:Int)+1 := by rw [IntKind.wrap_i64]; omega
      refine ⟨n + 1, hlt, by omega, ?_⟩
      try simp only [keepL, setAll, push_cast, simprocAttr, imp_self, hJ, hj2, hj3, hj4, htl, hvl, w4, u8l_len, u8l_app, Nat.le_refl, Int.le_refl, c15, c18, gT, lk_old gT, gJ, lk_old gJ, gO, lk_old gO, kS, hmd, hdv, hkl, hkv, hsk, hwc, hwl, q1, q2, q3, hcl, hct, hcs, hcv, hky.symm, hrowA, hrowB, cp0, dp0, zp0, bp0, kp0, lp0, sp0, vp0, xp0, cp1, dp1, zp1, bp1, kp1, lp1, sp1, vp1, xp1, hwi, kM, hrf, hwn, List.append_assoc]
      first
        | exact Weak.to (extra := [_, _, _, _]) (by simp only [Keeps, Tm.get_cons, Nat.reduceEqDiff, ↓reduceIte, if_true, if_false, ite_true, ite_false, true_and, and_true, and_self, reduceCtorEq, hwi, kM, hrf, hwn, List.append_assoc]) (by first | rfl | (simp only [List.append_assoc, List.cons_append, List.nil_append]; rfl)) (by first | rfl | (simp [AV.below, CV.below, u8l_below, ul_below]; done) | (simp [AV.below, CV.below, u8l_below, ul_below]; omega)) (by have h := hwf3; simp only [hrf, hwn, hrowA, hrowB, List.append_assoc, push_cast, simprocAttr] at h ⊢; exact h)
        | exact Weak.to (extra := [_, _, _, _, _]) (by simp only [Keeps, Tm.get_cons, Nat.reduceEqDiff, ↓reduceIte, if_true, if_false, ite_true, ite_false, true_and, and_true, and_self, reduceCtorEq, hwi, kM, hrf, hwn, List.append_assoc]) (by first | rfl | (simp only [List.append_assoc, List.cons_append, List.nil_append]; rfl)) (by first | rfl | (simp [AV.below, CV.below, u8l_below, ul_below]; done) | (simp [AV.below, CV.below, u8l_below, ul_below]; omega)) (by have h := hwf3; simp only [hrf, hwn, hrowA, hrowB, List.append_assoc, push_cast, simprocAttr] at h ⊢; exact h)
        | exact Weak.to (extra := [_, _, _, _, _, _]) (by simp only [Keeps, Tm.get_cons, Nat.reduceEqDiff, ↓reduceIte, if_true, if_false, ite_true, ite_false, true_and, and_true, and_self, reduceCtorEq, hwi, kM, hrf, hwn, List.append_assoc]) (by first | rfl | (simp only [List.append_assoc, List.cons_append, List.nil_append]; rfl)) (by first | rfl | (simp [AV.below, CV.below, u8l_below, ul_below]; done) | (simp [AV.below, CV.below, u8l_below, ul_below]; omega)) (by have h := hwf3; simp only [hrf, hwn, hrowA, hrowB, List.append_assoc, push_cast, simprocAttr] at h ⊢; exact h)
    · have hm0 : n % 4 = 3 := by omega
      have hd0 : n / 4 = f := by omega
      have hmd : (n : Int).tmod 4 = 3 := by
        have h1 : (n : Int).tmod 4 = ((n % 4 : Nat) : Int) := rfl
        rw [h1, hm0]; rfl
      have hdv : IntKind.i64.wrap ((n : Int).tdiv 4) = (f : Int) := by
        have h1 : (n : Int).tdiv 4 = ((n / 4 : Nat) : Int) := rfl
        rw [h1, hd0, IntKind.wrap_i64]; omega
      rw [hm0, hd0] at hky hwc0
      rw [hm0] at hrf
      have hnn : n = (4 * f + 3) := by omega
      have hndl : ndL n = [4 * f + 2] := by rw [hnn]; exact nd3 f
      have hrowA : nl (ndL (4 * f + 3)) = [.int .i64 ((4 * f + 2 : Nat) : Int)] := by rw [nd3 f]; rfl
      have hrowB : nl (ndL n) = [.int .i64 ((4 * f + 2 : Nat) : Int)] := by rw [hndl]; rfl
      simp only [push_cast, simprocAttr] at hrowA hrowB
      have hnd : ndC (m.length + 3) n = .sl M.length 0 0 1 := by
        unfold ndC; rw [hm0, hndl, if_neg (by decide), hMl]
        congr 1; omega
      rw [if_neg (by decide)] at hky hrf
      rw [hndl] at hky
      simp only [List.flatMap_cons, List.flatMap_nil, List.append_nil] at hky
      have hDl : (ky J (4 * f + 2)).length = 32 * 1 := by simp only [List.length_append, ky_len]
      have hDo : U8ok (ky J (4 * f + 2)) := ky_ok _ _
      simp only [push_cast, simprocAttr] at hky
      have hwc : CV.int .i64 3 :: .int .i64 (f : Int) :: (u8l (ky J n) ++ [.sl M.length 0 0 1]) = wC J (m.length + 3) n := by rw [hwc0, hnd]; rfl
      have hsk := setL_key (.int .i64 3) (.int .i64 (f : Int)) (.sl M.length 0 0 1) (ky J n) hkl
      dsimp only at hsk
      have cp0 : (0 : Int) ≤ 4 * (f : Int) + 1 + 1 := by omega
      have dp0 : 4 * (f : Int) + 1 + 1 < (n : Int) := by omega
      have zp0 : (4 * (f : Int) + 1 + 1).toNat = 4 * f + 2 := by omega
      have bp0 : (4 * f + 2) * 35 + 34 ≤ n * 35 := by omega
      have kp0 := wR_key J (m.length + 3) n (4 * f + 2) (by omega)
      rw [show 35 * (4 * f + 2) = (4 * f + 2) * 35 from Nat.mul_comm _ _] at kp0
      have lp0 := ky_len J (4 * f + 2)
      have op0 := ky_ok J (4 * f + 2)
      have sp0 : setL [.int .u8 0, .int .u8 0, .int .u8 0, .int .u8 0, .int .u8 0, .int .u8 0, .int .u8 0, .int .u8 0, .int .u8 0, .int .u8 0, .int .u8 0, .int .u8 0, .int .u8 0, .int .u8 0, .int .u8 0, .int .u8 0, .int .u8 0, .int .u8 0, .int .u8 0, .int .u8 0, .int .u8 0, .int .u8 0, .int .u8 0, .int .u8 0, .int .u8 0, .int .u8 0, .int .u8 0, .int .u8 0, .int .u8 0, .int .u8 0, .int .u8 0, .int .u8 0] 0 (u8l (ky J (4 * f + 2))) = u8l (ky J (4 * f + 2)) := setL_full (by rw [u8l_len, lp0]; rfl)
      have vp0 := u8l_vals (ky J (4 * f + 2))
      have xp0 : (u8l (ky J (4 * f + 2))).take 32 = u8l (ky J (4 * f + 2)) := List.take_of_length_le (by rw [u8l_len, lp0]; exact Nat.le_refl _)
      try simp only [push_cast, simprocAttr] at bp0
      try simp only [push_cast, simprocAttr] at kp0
      refine AW.region (by decide) ?_
      simp only [push_cast, simprocAttr, imp_self, hJ, hj2, hj3, hj4, htl, hvl, w4, u8l_len, u8l_app, Nat.le_refl, Int.le_refl, c15, c18, gT, lk_old gT, gJ, lk_old gJ, gO, lk_old gO, kS, hmd, hdv, hkl, hkv, hsk, hwc, hwl, q1, q2, q3, hcl, hct, hcs, hcv, hky.symm, hrowA, hrowB, cp0, dp0, zp0, bp0, kp0, lp0, sp0, vp0, xp0]
      refine CThen.by (rneeds3_c f _ (by omega)) ?_
      simp only [push_cast, simprocAttr, imp_self, hJ, hj2, hj3, hj4, htl, hvl, w4, u8l_len, u8l_app, Nat.le_refl, Int.le_refl, c15, c18, gT, lk_old gT, gJ, lk_old gJ, gO, lk_old gO, kS, hmd, hdv, hkl, hkv, hsk, hwc, hwl, q1, q2, q3, hcl, hct, hcs, hcv, hky.symm, hrowA, hrowB, cp0, dp0, zp0, bp0, kp0, lp0, sp0, vp0, xp0]
      refine Thn_n ?_
      refine hK _ _ ?_
      clear hK K
      refine AW.seq_k fun K hK => ?_
      refine AW.region (by decide) ?_
      simp only [push_cast, simprocAttr, imp_self, hJ, hj2, hj3, hj4, htl, hvl, w4, u8l_len, u8l_app, Nat.le_refl, Int.le_refl, c15, c18, gT, lk_old gT, gJ, lk_old gJ, gO, lk_old gO, kS, hmd, hdv, hkl, hkv, hsk, hwc, hwl, q1, q2, q3, hcl, hct, hcs, hcv, hky.symm, hrowA, hrowB, cp0, dp0, zp0, bp0, kp0, lp0, sp0, vp0, xp0]
      refine Thn_n ?_
      refine hK _ _ ?_
      clear hK K
      refine AW.seq_k fun K hK => ?_
      refine AW.seq_k fun K hK => ?_
      refine AW.region (by decide) ?_
      simp only [push_cast, simprocAttr, imp_self, hJ, hj2, hj3, hj4, htl, hvl, w4, u8l_len, u8l_app, Nat.le_refl, Int.le_refl, c15, c18, gT, lk_old gT, gJ, lk_old gJ, gO, lk_old gO, kS, hmd, hdv, hkl, hkv, hsk, hwc, hwl, q1, q2, q3, hcl, hct, hcs, hcv, hky.symm, hrowA, hrowB, cp0, dp0, zp0, bp0, kp0, lp0, sp0, vp0, xp0]
      refine Thn_n ?_
      refine hK _ _ ?_
      clear hK K
      refine AW.cond_f rfl ?_
      refine AW.skip ?_
      refine Thn_n ?_
      refine hK _ _ ?_
      clear hK K
      refine AW.seq_k fun K hK => ?_
      refine AW.seq_k fun K hK => ?_
      refine AW.region (by decide) ?_
      simp only [push_cast, simprocAttr, imp_self, hJ, hj2, hj3, hj4, htl, hvl, w4, u8l_len, u8l_app, Nat.le_refl, Int.le_refl, c15, c18, gT, lk_old gT, gJ, lk_old gJ, gO, lk_old gO, kS, hmd, hdv, hkl, hkv, hsk, hwc, hwl, q1, q2, q3, hcl, hct, hcs, hcv, hky.symm, hrowA, hrowB, cp0, dp0, zp0, bp0, kp0, lp0, sp0, vp0, xp0]
      refine Thn_n ?_
      refine hK _ _ ?_
      clear hK K
      refine AW.block ?_
      refine AW.rounds 2 ?_
      refine ARounds.succ fun K hK => ?_
      refine AW.seq_k fun K hK => ?_
      refine AW.seq_k fun K hK => ?_
      refine AW.region (by decide) ?_
      simp only [push_cast, simprocAttr, imp_self, hJ, hj2, hj3, hj4, htl, hvl, w4, u8l_len, u8l_app, Nat.le_refl, Int.le_refl, c15, c18, gT, lk_old gT, gJ, lk_old gJ, gO, lk_old gO, kS, hmd, hdv, hkl, hkv, hsk, hwc, hwl, q1, q2, q3, hcl, hct, hcs, hcv, hky.symm, hrowA, hrowB, cp0, dp0, zp0, bp0, kp0, lp0, sp0, vp0, xp0]
      refine Thn_n ?_
      refine hK _ _ ?_
      clear hK K
      refine AW.cond_t rfl ?_
      refine AW.skip ?_
      refine Thn_n ?_
      refine hK _ _ ?_
      clear hK K
      refine AW.seq_k fun K hK => ?_
      refine AW.block ?_
      refine AW.region (by decide) ?_
      simp only [push_cast, simprocAttr, imp_self, hJ, hj2, hj3, hj4, htl, hvl, w4, u8l_len, u8l_app, Nat.le_refl, Int.le_refl, c15, c18, gT, lk_old gT, gJ, lk_old gJ, gO, lk_old gO, kS, hmd, hdv, hkl, hkv, hsk, hwc, hwl, q1, q2, q3, hcl, hct, hcs, hcv, hky.symm, hrowA, hrowB, cp0, dp0, zp0, bp0, kp0, lp0, sp0, vp0, xp0]
      refine InB_n ?_
      refine Thn_n ?_
      refine hK _ _ ?_
      clear hK K
      refine AW.region (by decide) ?_
      simp only [push_cast, simprocAttr, imp_self, hJ, hj2, hj3, hj4, htl, hvl, w4, u8l_len, u8l_app, Nat.le_refl, Int.le_refl, c15, c18, gT, lk_old gT, gJ, lk_old gJ, gO, lk_old gO, kS, hmd, hdv, hkl, hkv, hsk, hwc, hwl, q1, q2, q3, hcl, hct, hcs, hcv, hky.symm, hrowA, hrowB, cp0, dp0, zp0, bp0, kp0, lp0, sp0, vp0, xp0]
      refine Thn_n ?_
      refine hK _ _ ?_
      clear hK K
      refine ARounds.succ fun K hK => ?_
      refine AW.seq_k fun K hK => ?_
      refine AW.seq_k fun K hK => ?_
      refine AW.region (by decide) ?_
      simp only [push_cast, simprocAttr, imp_self, hJ, hj2, hj3, hj4, htl, hvl, w4, u8l_len, u8l_app, Nat.le_refl, Int.le_refl, c15, c18, gT, lk_old gT, gJ, lk_old gJ, gO, lk_old gO, kS, hmd, hdv, hkl, hkv, hsk, hwc, hwl, q1, q2, q3, hcl, hct, hcs, hcv, hky.symm, hrowA, hrowB, cp0, dp0, zp0, bp0, kp0, lp0, sp0, vp0, xp0]
      refine Thn_n ?_
      refine hK _ _ ?_
      clear hK K
      refine AW.cond_f rfl ?_
      refine AW.exit ?_
      refine Thn_e ?_
      clear hK K
      refine Thn_e ?_
      clear hK K
      refine InB_here ?_
      refine Thn_n ?_
      refine hK _ _ ?_
      clear hK K
      refine AW.seq_k fun K hK => ?_
      refine AW.region (by decide) ?_
      simp only [push_cast, simprocAttr, imp_self, hJ, hj2, hj3, hj4, htl, hvl, w4, u8l_len, u8l_app, Nat.le_refl, Int.le_refl, c15, c18, gT, lk_old gT, gJ, lk_old gJ, gO, lk_old gO, kS, hmd, hdv, hkl, hkv, hsk, hwc, hwl, q1, q2, q3, hcl, hct, hcs, hcv, hky.symm, hrowA, hrowB, cp0, dp0, zp0, bp0, kp0, lp0, sp0, vp0, xp0]
      refine CThen.by (rkey_i 3 f 3 (f : Int) rfl (by first | rfl | omega) (M.length + 2) 1 1 (ky J (4 * f + 2)) 32 _ (by simp only [push_cast, simprocAttr, u8l_app]) hDl hDo (by decide) (by decide) (by omega)) ?_
      simp only [push_cast, simprocAttr, imp_self, hJ, hj2, hj3, hj4, htl, hvl, w4, u8l_len, u8l_app, Nat.le_refl, Int.le_refl, c15, c18, gT, lk_old gT, gJ, lk_old gJ, gO, lk_old gO, kS, hmd, hdv, hkl, hkv, hsk, hwc, hwl, q1, q2, q3, hcl, hct, hcs, hcv, hky.symm, hrowA, hrowB, cp0, dp0, zp0, bp0, kp0, lp0, sp0, vp0, xp0]
      refine Thn_n ?_
      refine hK _ _ ?_
      clear hK K
      refine AW.region (by decide) ?_
      simp only [push_cast, simprocAttr, imp_self, hJ, hj2, hj3, hj4, htl, hvl, w4, u8l_len, u8l_app, Nat.le_refl, Int.le_refl, c15, c18, gT, lk_old gT, gJ, lk_old gJ, gO, lk_old gO, kS, hmd, hdv, hkl, hkv, hsk, hwc, hwl, q1, q2, q3, hcl, hct, hcs, hcv, hky.symm, hrowA, hrowB, cp0, dp0, zp0, bp0, kp0, lp0, sp0, vp0, xp0]
      refine InB_n ?_
      refine Thn_n ?_
      refine hK _ _ ?_
      clear hK K
      refine AW.region (by decide) ?_
      simp only [push_cast, simprocAttr, imp_self, hJ, hj2, hj3, hj4, htl, hvl, w4, u8l_len, u8l_app, Nat.le_refl, Int.le_refl, c15, c18, gT, lk_old gT, gJ, lk_old gJ, gO, lk_old gO, kS, hmd, hdv, hkl, hkv, hsk, hwc, hwl, q1, q2, q3, hcl, hct, hcs, hcv, hky.symm, hrowA, hrowB, cp0, dp0, zp0, bp0, kp0, lp0, sp0, vp0, xp0]
      refine Thn_n ?_
      have hwi : IntKind.i64.wrap ((n:Int)+1) = (n:Int)+1 := by rw [IntKind.wrap_i64]; omega
      refine ⟨n + 1, hlt, by omega, ?_⟩
      try simp only [keepL, setAll, push_cast, simprocAttr, imp_self, hJ, hj2, hj3, hj4, htl, hvl, w4, u8l_len, u8l_app, Nat.le_refl, Int.le_refl, c15, c18, gT, lk_old gT, gJ, lk_old gJ, gO, lk_old gO, kS, hmd, hdv, hkl, hkv, hsk, hwc, hwl, q1, q2, q3, hcl, hct, hcs, hcv, hky.symm, hrowA, hrowB, cp0, dp0, zp0, bp0, kp0, lp0, sp0, vp0, xp0, hwi, kM, hrf, hwn, List.append_assoc]
      first
        | exact Weak.to (extra := [_, _, _, _]) (by simp only [Keeps, Tm.get_cons, Nat.reduceEqDiff, ↓reduceIte, if_true, if_false, ite_true, ite_false, true_and, and_true, and_self, reduceCtorEq, hwi, kM, hrf, hwn, List.append_assoc]) (by first | rfl | (simp only [List.append_assoc, List.cons_append, List.nil_append]; rfl)) (by first | rfl | (simp [AV.below, CV.below, u8l_below, ul_below]; done) | (simp [AV.below, CV.below, u8l_below, ul_below]; omega)) (by have h := hwf3; simp only [hrf, hwn, hrowA, hrowB, List.append_assoc, push_cast, simprocAttr] at h ⊢; exact h)
        | exact Weak.to (extra := [_, _, _, _, _]) (by simp only [Keeps, Tm.get_cons, Nat.reduceEqDiff, ↓reduceIte, if_true, if_false, ite_true, ite_false, true_and, and_true, and_self, reduceCtorEq, hwi, kM, hrf, hwn, List.append_assoc]) (by first | rfl | (simp only [List.append_assoc, List.cons_append, List.nil_append]; rfl)) (by first | rfl | (simp [AV.below, CV.below, u8l_below, ul_below]; done) | (simp [AV.below, CV.below, u8l_below, ul_below]; omega)) (by have h := hwf3; simp only [hrf, hwn, hrowA, hrowB, List.append_assoc, push_cast, simprocAttr] at h ⊢; exact h)
        | exact Weak.to (extra := [_, _, _, _, _, _]) (by simp only [Keeps, Tm.get_cons, Nat.reduceEqDiff, ↓reduceIte, if_true, if_false, ite_true, ite_false, true_and, and_true, and_self, reduceCtorEq, hwi, kM, hrf, hwn, List.append_assoc]) (by first | rfl | (simp only [List.append_assoc, List.cons_append, List.nil_append]; rfl)) (by first | rfl | (simp [AV.below, CV.below, u8l_below, ul_below]; done) | (simp [AV.below, CV.below, u8l_below, ul_below]; omega)) (by have h := hwf3; simp only [hrf, hwn, hrowA, hrowB, List.append_assoc, push_cast, simprocAttr] at h ⊢; exact h)
  · have c15 : ¬ (n : Int) < 4 * (F : Int) := by omega
    have hne : n = 4 * F := by omega
    subst hne
    refine AW.region (by decide) ?_
    simp only [push_cast, simprocAttr, imp_self, hJ, hj2, hj3, hj4, htl, hvl, w4, u8l_len, u8l_app, Nat.le_refl, Int.le_refl, Int.lt_irrefl, decide_false]
    refine Thn_n ?_
    refine hK _ _ ?_
    clear hK K
    refine AW.cond_f rfl ?_
    refine AW.exit ?_
    refine Thn_e ?_
    clear hK K
    refine Thn_e ?_
    refine InB_here ?_
    refine Thn_n ?_
    refine hK _ _ ?_
    clear hK K
    refine AW.seq_k fun K hK => ?_
    refine AW.region (by decide) ?_
    simp only [push_cast, simprocAttr, imp_self, hJ, hj2, hj3, hj4, htl, hvl, w4, u8l_len, u8l_app, Nat.le_refl, Int.le_refl, Int.lt_irrefl, decide_false]
    refine Thn_n ?_
    refine hK _ _ ?_
    clear hK K
    refine AW.ret ?_
    refine hQ _ _ _ ?_
    refine ⟨Or.inr rfl, _, ?_, Hands.all⟩
    simp only [resA, resOne, resTv, AV.tv, push_cast, simprocAttr]
end Go.Proofs.Ytmjbbnfmhgcfaaa

set_option linter.unusedSimpArgs false
set_option linter.unusedVariables false
set_option maxRecDepth 100000
set_option maxHeartbeats 4000000
namespace Go.Proofs.Ytmjbbnfmhgcfaaa
open Go Go.Eng

theorem AW_wf {P : Program} {nt : Nat} {c : Code} {tm : Tm} {mem : AMem} {Q : Exit → Tm → AMem → Prop} (h : MWf mem.length mem → AW P nt c tm mem Q) : AW P nt c tm mem Q := fun ρ a w hr => h hr.mem.wf ρ a w hr
theorem same_nn (m : AMem) : Ctr Try.prog 9 [.one .nils, .one .nils] m (.one (.bool true)) m := by
  refine Ctr.enter Try.func9 rfl (by decide) (rs := [.tmp 4]) (nt := 26) rfl rfl fun hwf Q hQ => ?_
  refine AW.seq_k fun K hK => ?_
  refine AW.region (by decide) ?_
  simp only [push_cast, simprocAttr]
  refine Thn_n ?_
  refine hK _ _ ?_
  clear hK K
  refine AW.seq_k fun K hK => ?_
  refine AW.seq_k fun K hK => ?_
  refine AW.region (by decide) ?_
  simp only [push_cast, simprocAttr]
  refine Thn_n ?_
  refine hK _ _ ?_
  clear hK K
  refine AW.cond_f rfl ?_
  refine AW.skip ?_
  refine Thn_n ?_
  refine hK _ _ ?_
  clear hK K
  refine AW.seq_k fun K hK => ?_
  refine AW.seq_k fun K hK => ?_
  refine AW.region (by decide) ?_
  simp only [push_cast, simprocAttr]
  refine Thn_n ?_
  refine hK _ _ ?_
  clear hK K
  refine AW.block ?_
  refine AW.rounds 1 ?_
  refine ARounds.succ fun K hK => ?_
  refine AW.seq_k fun K hK => ?_
  refine AW.region (by decide) ?_
  simp only [push_cast, simprocAttr]
  refine Thn_n ?_
  refine hK _ _ ?_
  clear hK K
  refine AW.seq_k fun K hK => ?_
  refine AW.cond_f rfl ?_
  refine AW.exit ?_
  refine Thn_e ?_
  clear hK K
  refine Thn_e ?_
  clear hK K
  refine InB_here ?_
  refine Thn_n ?_
  refine hK _ _ ?_
  clear hK K
  refine AW.seq_k fun K hK => ?_
  refine AW.region (by decide) ?_
  simp only [push_cast, simprocAttr]
  refine Thn_n ?_
  refine hK _ _ ?_
  clear hK K
  refine AW.ret ?_
  refine hQ _ _ _ ?_
  first | refine RetP.drop0 (Or.inr rfl) ?_ ?_ hwf | refine RetP.drop (Or.inr rfl) ?_ ?_ hwf
  · simp only [resA, resOne, resTv, AV.tv, push_cast, simprocAttr]
  · rfl
theorem same_0n (r v : Nat) (m : AMem) : Ctr Try.prog 9 [.one (.sl r v 0 0), .one .nils] m (.one (.bool true)) m := by
  refine Ctr.enter Try.func9 rfl (by decide) (rs := [.tmp 4]) (nt := 26) rfl rfl fun hwf Q hQ => ?_
  refine AW.seq_k fun K hK => ?_
  refine AW.region (by decide) ?_
  simp only [push_cast, simprocAttr]
  refine Thn_n ?_
  refine hK _ _ ?_
  clear hK K
  refine AW.seq_k fun K hK => ?_
  refine AW.seq_k fun K hK => ?_
  refine AW.region (by decide) ?_
  simp only [push_cast, simprocAttr]
  refine Thn_n ?_
  refine hK _ _ ?_
  clear hK K
  refine AW.cond_f rfl ?_
  refine AW.skip ?_
  refine Thn_n ?_
  refine hK _ _ ?_
  clear hK K
  refine AW.seq_k fun K hK => ?_
  refine AW.seq_k fun K hK => ?_
  refine AW.region (by decide) ?_
  simp only [push_cast, simprocAttr]
  refine Thn_n ?_
  refine hK _ _ ?_
  clear hK K
  refine AW.block ?_
  refine AW.rounds 1 ?_
  refine ARounds.succ fun K hK => ?_
  refine AW.seq_k fun K hK => ?_
  refine AW.region (by decide) ?_
  simp only [push_cast, simprocAttr]
  refine Thn_n ?_
  refine hK _ _ ?_
  clear hK K
  refine AW.seq_k fun K hK => ?_
  refine AW.cond_f rfl ?_
  refine AW.exit ?_
  refine Thn_e ?_
  clear hK K
  refine Thn_e ?_
  clear hK K
  refine InB_here ?_
  refine Thn_n ?_
  refine hK _ _ ?_
  clear hK K
  refine AW.seq_k fun K hK => ?_
  refine AW.region (by decide) ?_
  simp only [push_cast, simprocAttr]
  refine Thn_n ?_
  refine hK _ _ ?_
  clear hK K
  refine AW.ret ?_
  refine hQ _ _ _ ?_
  first | refine RetP.drop0 (Or.inr rfl) ?_ ?_ hwf | refine RetP.drop (Or.inr rfl) ?_ ?_ hwf
  · simp only [resA, resOne, resTv, AV.tv, push_cast, simprocAttr]
  · rfl
theorem sworks_c (J : List Int) (F : Nat) (x : Int) (m : AMem) (hJ : J.length = 32) (hJu : U8ok J) (hF : F ≤ 32) (hx : maxI 0 (minI x 32) = (F : Int)) : Ctr Try.prog 3 [.agg (u8l J), .one (.int .i64 x)] m (.one (.bool true)) m := by
  refine Ctr.enter Try.func3 rfl (by decide) (rs := [.tmp 4]) (nt := 103) rfl rfl fun hwf Q hQ => ?_
  have hj1 := u8l_len J
  have hj2 : (u8l J).take 32 = u8l J := List.take_of_length_le (by rw [u8l_len, hJ]; exact Nat.le_refl _)
  have hj4 := u8l_vals J
  refine AW.seq_k fun K hK => ?_
  refine AW.region (by decide) ?_
  simp only [push_cast, simprocAttr, imp_self, hJ, hj2, hj4, u8l_len, hx]
  refine Thn_n ?_
  refine hK _ _ ?_
  clear hK K
  refine AW.seq_k fun K hK => ?_
  refine AW.draw [.rd 0, .val, .ext, .ext, .rd 0, .val, .val, .val, .ext, .val, .val] fol (by decide) (by kernel_rfl) ?_
  simp only [push_cast, simprocAttr, imp_self, hJ, hj2, hj4, u8l_len, hx]
  refine DCall.by (works_c J F x _ hJ hJu hF hx) ?_
  simp only [push_cast, simprocAttr, imp_self, hJ, hj2, hj4, u8l_len, hx]
  refine DCall.by0 (make_c _) ?_
  simp only [push_cast, simprocAttr, imp_self, hJ, hj2, hj4, u8l_len, hx]
  refine DCall.by (rworks_c J F _ hJ hJu hF) ?_
  simp only [push_cast, simprocAttr, imp_self, hJ, hj2, hj4, u8l_len, hx]
  refine Thn_n ?_
  refine hK _ _ ?_
  clear hK K
  refine AW.seq_k fun K hK => ?_
  refine AW.seq_k fun K hK => ?_
  refine AW.region (by decide) ?_
  simp only [push_cast, simprocAttr, imp_self, hJ, hj2, hj4, u8l_len, hx]
  refine Thn_n ?_
  refine hK _ _ ?_
  clear hK K
  refine AW.cond_f rfl ?_
  refine AW.skip ?_
  refine Thn_n ?_
  refine hK _ _ ?_
  clear hK K
  refine AW.seq_k fun K hK => ?_
  obtain ⟨b2, hb2⟩ : ∃ b, b = m.length + ((rwG F).length + 6) := ⟨_, rfl⟩
  obtain ⟨wr2, hwr2⟩ : ∃ b, b = m.length + ((rwG F).length + 5) := ⟨_, rfl⟩
  obtain ⟨G, hG⟩ : ∃ G, G = (rwG F).length := ⟨_, rfl⟩
  rw [← hb2, ← hwr2]
  obtain ⟨M1, hM1⟩ : ∃ M1, M1 = m ++ (⟨.fix, 22, 0, 0, u8l J⟩ :: ⟨.fix, 36, 0, 0, u8l J⟩ :: ⟨.grow, 39, 4 * F, 35, wR J (m.length + 3) (4 * F)⟩ :: (rwG F ++ ⟨.fix, 31, 0, 0, ul (HLL ++ KW)⟩ :: ⟨.fix, 22, 0, 0, u8l J⟩ :: ⟨.grow, 41, 4 * F, 35, wR J b2 (4 * F)⟩ :: rwE (4 * F))) := ⟨_, rfl⟩
  rw [← hM1]
  rw [← hG] at hb2 hwr2
  have hG3 : G = 3 * F := by rw [hG, rwG_len]
  have gW : M1[m.length + 2]? = some ⟨.grow, 39, 4 * F, 35, wR J (m.length + 3) (4 * F)⟩ := by rw [hM1, lk_app]; rfl
  have hrw1 : ∀ i, i < 4 * F → i % 4 ≠ 0 → M1[m.length + 3 + rwN i]? = some ⟨.grow, 3, 0, 1, nl (ndL (i))⟩ := fun i hi h => by
    have h1 := rw_get (f := i / 4) (k := i % 4) (F := F) (by omega) (by omega) (by omega)
    rw [hM1, List.getElem?_append_right (by omega), show m.length + 3 + rwN i - m.length = rwN i + 1 + 1 + 1 by omega, List.getElem?_cons_succ, List.getElem?_cons_succ, List.getElem?_cons_succ]
    rw [show 4 * (i / 4) + i % 4 = i by omega] at h1
    rw [List.getElem?_append_left (by rw [rwG_len]; unfold rwN; omega)]
    exact h1
  have gV : M1[wr2]? = some ⟨.grow, 41, 4 * F, 35, wR J b2 (4 * F)⟩ := by
    rw [hM1, hwr2, List.getElem?_append_right (by omega), show m.length + (G + 5) - m.length = G + 2 + 1 + 1 + 1 by omega, List.getElem?_cons_succ, List.getElem?_cons_succ, List.getElem?_cons_succ, List.getElem?_append_right (by omega), ← hG, Nat.add_sub_cancel_left]
    rfl
  have hrw2 : ∀ i, i < 4 * F → i % 4 ≠ 0 → M1[b2 + rwN i]? = some ⟨.grow, 3, 0, 1, nl (ndL (i))⟩ := fun i hi h => by
    have h1 := rwE_get hi h
    rw [hM1, hb2, List.getElem?_append_right (by omega), show m.length + (G + 6) + rwN i - m.length = G + (rwN i + 1 + 1 + 1) + 1 + 1 + 1 by omega, List.getElem?_cons_succ, List.getElem?_cons_succ, List.getElem?_cons_succ, List.getElem?_append_right (by omega), ← hG, Nat.add_sub_cancel_left, List.getElem?_cons_succ, List.getElem?_cons_succ, List.getElem?_cons_succ]
    exact h1
  have hbl1 : ∀ i, i < 4 * F → i % 4 ≠ 0 → m.length + 3 + rwN i < M1.length := fun i hi h => get_lt (hrw1 i hi h)
  have hME1 : ∃ E, M1 = m ++ E := ⟨_, hM1⟩
  obtain ⟨n, hn⟩ : ∃ n, n = 4 * F := ⟨_, rfl⟩
  have hn4 : (4 * (F : Int)) = (n : Int) := by omega
  rw [← hn] at gW gV hrw1 hrw2 hbl1
  simp only [hn4, ← hn]
  clear hM1 hb2 hwr2 hG hG3
  refine AW.region (by decide) ?_
  simp only [push_cast, simprocAttr, imp_self, hJ, hj2, hj4, u8l_len, hx]
  refine CThen.by (plan_c J (m.length + 3) n (m.length + 2) _ gW hrw1 hbl1 (by omega)) ?_
  simp only [push_cast, simprocAttr, imp_self, hJ, hj2, hj4, u8l_len, hx]
  refine Thn_n ?_
  refine hK _ _ ?_
  clear hK K
  refine AW.seq_k fun K hK => ?_
  refine AW.seq_k fun K hK => ?_
  obtain ⟨L1, hL1⟩ : ∃ L1, L1 = M1.length := ⟨_, rfl⟩
  rw [← hL1]
  obtain ⟨M2, hM2⟩ : ∃ M2, M2 = M1 ++ (⟨.grow, 37, n, 1, pR L1 n⟩ :: pE J (m.length + 3) n) := ⟨_, rfl⟩
  rw [← hM2]
  have gW2 : M2[m.length + 2]? = some ⟨.grow, 39, n, 35, wR J (m.length + 3) n⟩ := by rw [hM2]; exact lk_old gW _
  have gV2 : M2[wr2]? = some ⟨.grow, 41, n, 35, wR J b2 (n)⟩ := by rw [hM2]; exact lk_old gV _
  have gP : M2[L1]? = some ⟨.grow, 37, n, 1, pR L1 n⟩ := by rw [hM2, hL1, List.getElem?_append_right (Nat.le_refl _), Nat.sub_self]; rfl
  have hr1 : ∀ i, i < n → i % 4 ≠ 0 → M2[m.length + 3 + rwN i]? = some ⟨.grow, 3, 0, 1, nl (ndL (i))⟩ := fun i hi h => by rw [hM2]; exact lk_old (hrw1 i hi h) _
  have hr2 : ∀ i, i < n → i % 4 ≠ 0 → M2[b2 + rwN i]? = some ⟨.grow, 3, 0, 1, nl (ndL (i))⟩ := fun i hi h => by rw [hM2]; exact lk_old (hrw2 i hi h) _
  have hr3 : ∀ i, i < n → M2[L1 + (2 * i + 2)]? = some ⟨.grow, 3, 1, 1, nl (ndL i)⟩ := fun i hi => by
    rw [hM2, hL1, List.getElem?_append_right (by omega), show M1.length + (2 * i + 2) - M1.length = 2 * i + 1 + 1 by omega, List.getElem?_cons_succ]
    exact pE_get J _ hi
  have hME2 : ∃ E, M2 = m ++ E := by
    obtain ⟨E, h⟩ := hME1
    exact ⟨_, by rw [hM2, h, List.append_assoc]⟩
  have hwl := wR_len J (m.length + 3) n
  have hvl := wR_len J b2 n
  have hpl := pR_len L1 n
  have lw2 := get_lt gW2
  have lv2 := get_lt gV2
  have lp2 := get_lt gP
  have hn128 : n ≤ 128 := by omega
  clear hM2 hL1 gW gV hrw1 hrw2 hbl1
  refine AW_wf fun hwf2 => ?_
  refine AW.region (by decide) ?_
  simp only [push_cast, simprocAttr, imp_self, hJ, hj2, hj4, u8l_len, hx]
  refine Thn_n ?_
  refine hK _ _ ?_
  clear hK K
  refine AW.block ?_
  refine AW.loopK [5, 6, 7, 26, 27] (fun i => i ≤ n) (fun i => [(28, .one (.int .i64 (i : Int)))]) (fun i => []) (fun i => n - i) 0 (by omega) ?_ ?_ fun i hi8 => ?_
  · first | rfl | (simp only [Keeps, Tm.get_cons, Nat.reduceEqDiff, ↓reduceIte, if_true, if_false, ite_true, ite_false, true_and, and_true, and_self, reduceCtorEq] <;> rfl)
  · first | rfl | (simp only [setAll, push_cast, simprocAttr, imp_self, hJ, hj2, hj4, u8l_len, hx] <;> rfl)
  try simp only [keepL, setAll, push_cast, simprocAttr, imp_self, hJ, hj2, hj4, u8l_len, hx]
  refine AW.seq_k fun K hK => ?_
  refine AW.region (by decide) ?_
  simp only [push_cast, simprocAttr, imp_self, hJ, hj2, hj4, u8l_len, hx]
  refine Thn_n ?_
  refine hK _ _ ?_
  clear hK K
  refine AW.seq_k fun K hK => ?_
  refine AW.cond rfl (fun h29 => ?_) (fun h29 => ?_)
  · have hlt : i < n := by have := of_decide_eq_true h29; omega
    have c1 : (0 : Int) ≤ (i : Int) := by omega
    have c2 : (i : Int) < (n : Int) := by omega
    have c3 : i * 35 + 35 ≤ n * 35 := by omega
    have c4 : i * 35 + 34 ≤ n * 35 := by omega
    have c5 : i * 35 < n * 35 := by omega
    have c6 : i * 35 + 1 < n * 35 := by omega
    have c7 : i * 35 + 34 < n * 35 := by omega
    have q3 : 35 * n = n * 35 := Nat.mul_comm _ _
    have hwa := wR_at J (m.length + 3) n i hlt
    rw [show 35 * i = i * 35 from Nat.mul_comm _ _] at hwa
    have hcl := wC_len J (m.length + 3) i
    have hct : (wC J (m.length + 3) i).take 35 = wC J (m.length + 3) i := List.take_of_length_le (by rw [hcl]; exact Nat.le_refl _)
    have hcs : setL [.int .i64 0, .int .i64 0, .int .u8 0, .int .u8 0, .int .u8 0, .int .u8 0, .int .u8 0, .int .u8 0, .int .u8 0, .int .u8 0, .int .u8 0, .int .u8 0, .int .u8 0, .int .u8 0, .int .u8 0, .int .u8 0, .int .u8 0, .int .u8 0, .int .u8 0, .int .u8 0, .int .u8 0, .int .u8 0, .int .u8 0, .int .u8 0, .int .u8 0, .int .u8 0, .int .u8 0, .int .u8 0, .int .u8 0, .int .u8 0, .int .u8 0, .int .u8 0, .int .u8 0, .int .u8 0, .nils] 0 (wC J (m.length + 3) i) = wC J (m.length + 3) i := setL_full (by rw [hcl]; rfl)
    dsimp only at hcs
    have hcv : (wC J (m.length + 3) i).all CV.isVal = true := wC_vals _ _ _
    obtain ⟨f, k, hik, hk4⟩ : ∃ f k, i = 4 * f + k ∧ k < 4 := ⟨i / 4, i % 4, by omega, by omega⟩
    have hm0 : i % 4 = k := by omega
    have hd0 : i / 4 = f := by omega
    have hkl := ky_len J i
    have hul : (u8l (ky J i)).length = 32 := by rw [u8l_len, hkl]
    have hw : ∀ b, wC J b i = .int .i64 (k : Int) :: .int .i64 (f : Int) :: (u8l (ky J i) ++ [ndC b i]) := fun b => by unfold wC; rw [hm0, hd0]
    have h34 : ∀ b, (wC J b i)[34]? = some (ndC b i) := fun b => by
      simp only [wC, List.getElem?_cons_succ]
      rw [List.getElem?_append_right (by omega), hul]; rfl
    have a0 : (wC J (m.length + 3) i)[0]? = some (.int .i64 (k : Int)) := by rw [hw]; rfl
    have a1 : (wC J (m.length + 3) i)[1]? = some (.int .i64 (f : Int)) := by rw [hw]; rfl
    have a34 := h34 (m.length + 3)
    have a2 : ((wC J (m.length + 3) i).drop 2).take 32 = u8l (ky J i) := by
      rw [hw, List.drop_succ_cons, List.drop_succ_cons, List.drop_zero, List.take_append_of_le_length (by omega)]
      exact List.take_of_length_le (by omega)
    have v0 := wR_cell J b2 n i 0 hlt (by omega)
    have v1 := wR_cell J b2 n i 1 hlt (by omega)
    have v34 := wR_cell J b2 n i 34 hlt (by omega)
    rw [hw, Nat.add_zero, show 35 * i = i * 35 from Nat.mul_comm _ _] at v0
    rw [hw, show 35 * i = i * 35 from Nat.mul_comm _ _] at v1
    rw [h34, show 35 * i = i * 35 from Nat.mul_comm _ _] at v34
    rw [List.getElem?_cons_zero] at v0
    rw [List.getElem?_cons_succ, List.getElem?_cons_zero] at v1
    have v2 := wR_key J b2 n i hlt
    rw [show 35 * i = i * 35 from Nat.mul_comm _ _] at v2
    have hpr : (pR L1 n)[i]? = some (.sl (L1 + (2 * i + 2)) 1 0 (ndL i).length) := by rw [pR_rl]; exact rl_get hlt
    have eqk := eqp32 hkl
    have hne : ((4 * (f : Int) + (k : Int)) != (i : Int)) = false := by simp; omega
    have hn3 := ndL_len i
    have g3 := hr3 i hlt
    rw [nl_il] at g3
    refine AW.skip ?_
    refine Thn_n ?_
    refine hK _ _ ?_
    clear hK K
    refine AW.seq_k fun K hK => ?_
    refine AW.block ?_
    refine AW.seq_k fun K hK => ?_
    refine AW.region (by decide) ?_
    simp only [push_cast, simprocAttr, imp_self, hJ, hj2, hj4, u8l_len, hx, gW2, lk_old gW2, gV2, lk_old gV2, gP, lk_old gP, hwl, hvl, hpl, c1, c2, c3, c4, c5, c6, c7, q3, hwa, hcl, hct, hcs, hcv, a0, a1, a2, v0, v1, v2, eqk, hne, hkl]
    refine Thn_n ?_
    refine hK _ _ ?_
    clear hK K
    refine AW.seq_k fun K hK => ?_
    rcases Nat.eq_zero_or_pos k with hz | hz
    · subst hz
      have hdn : ∀ b, ndC b i = .nils := fun b => by unfold ndC; rw [if_pos hm0]
      rw [hdn] at a34 v34
      rw [ndL_nil hm0] at hpr
      have hne0 : (4 * (f : Int) != (i : Int)) = false := by simp; omega
      have hpr : (pR L1 n)[i]? = some (.sl (L1 + (2 * i + 2)) 1 0 0) := hpr
      refine AW.draw [.val, .rd 0, .val, .val, .val, .val, .rd 0, .val, .val, .val, .rd 0, .val, .val, .val, .val, .rd 0, .val, .val, .val, .val, .rd 0, .val, .val, .val, .val, .rd 0, .val, .val, .val, .val, .rd 0, .val, .val, .val, .val, .rd 0, .ext, .val, .val, .val, .val, .val, .val, .rd 1, .val, .val, .val, .val, .rd 1, .ext, .val, .val, .val, .val, .rd 2, .val, .rd 2, .ext, .val, .val, .val] fol (by decide) (by kernel_rfl) ?_
      simp only [push_cast, simprocAttr, imp_self, hJ, hj2, hj4, u8l_len, hx, gW2, lk_old gW2, gV2, lk_old gV2, gP, lk_old gP, hwl, hvl, hpl, c1, c2, c3, c4, c5, c6, c7, q3, hwa, hcl, hct, hcs, hcv, a0, a1, a2, v0, v1, v2, eqk, hne, hkl, a34, v34, hpr, hne0]
      refine DCall.by0 (same_nn _) ?_
      simp only [push_cast, simprocAttr, imp_self, hJ, hj2, hj4, u8l_len, hx, gW2, lk_old gW2, gV2, lk_old gV2, gP, lk_old gP, hwl, hvl, hpl, c1, c2, c3, c4, c5, c6, c7, q3, hwa, hcl, hct, hcs, hcv, a0, a1, a2, v0, v1, v2, eqk, hne, hkl, a34, v34, hpr, hne0]
      refine DCall.by0 (same_0n _ _ _) ?_
      simp only [push_cast, simprocAttr, imp_self, hJ, hj2, hj4, u8l_len, hx, gW2, lk_old gW2, gV2, lk_old gV2, gP, lk_old gP, hwl, hvl, hpl, c1, c2, c3, c4, c5, c6, c7, q3, hwa, hcl, hct, hcs, hcv, a0, a1, a2, v0, v1, v2, eqk, hne, hkl, a34, v34, hpr, hne0]
      refine DCall.by0 (at_c 0 f _ (by decide) (by omega)) ?_
      simp only [push_cast, simprocAttr, imp_self, hJ, hj2, hj4, u8l_len, hx, gW2, lk_old gW2, gV2, lk_old gV2, gP, lk_old gP, hwl, hvl, hpl, c1, c2, c3, c4, c5, c6, c7, q3, hwa, hcl, hct, hcs, hcv, a0, a1, a2, v0, v1, v2, eqk, hne, hkl, a34, v34, hpr, hne0]
      refine Thn_n ?_
      refine hK _ _ ?_
      clear hK K
      refine AW.cond_f rfl ?_
      refine AW.skip ?_
      refine InB_n ?_
      refine Thn_n ?_
      refine hK _ _ ?_
      clear hK K
      refine AW.region (by decide) ?_
      simp only [push_cast, simprocAttr, imp_self, hJ, hj2, hj4, u8l_len, hx, gW2, lk_old gW2, gV2, lk_old gV2, gP, lk_old gP, hwl, hvl, hpl, c1, c2, c3, c4, c5, c6, c7, q3, hwa, hcl, hct, hcs, hcv, a0, a1, a2, v0, v1, v2, eqk, hne, hkl, a34, v34, hpr, hne0]
      refine Thn_n ?_
      have hwi : IntKind.i64.wrap ((i:Int)+1) = (i:Int)+1 := by rw [IntKind.wrap_i64]; omega
      refine ⟨i + 1, by omega, by omega, ?_⟩
      try simp only [keepL, setAll, push_cast, simprocAttr, imp_self, hJ, hj2, hj4, u8l_len, hx, gW2, lk_old gW2, gV2, lk_old gV2, gP, lk_old gP, hwl, hvl, hpl, c1, c2, c3, c4, c5, c6, c7, q3, hwa, hcl, hct, hcs, hcv, a0, a1, a2, v0, v1, v2, eqk, hne, hkl, a34, v34, hpr, hne0, hwi]
      exact Weak.to (extra := [_]) (by simp only [Keeps, Tm.get_cons, Nat.reduceEqDiff, ↓reduceIte, if_true, if_false, ite_true, ite_false, true_and, and_true, and_self, reduceCtorEq, hwi]) (by first | rfl | (simp only [List.append_assoc, List.cons_append, List.nil_append]; rfl)) (by first | rfl | (simp [AV.below, CV.below]; done) | (simp [AV.below, CV.below]; omega)) hwf2
    · have hdn : ∀ b, ndC b i = .sl (b + rwN i) 0 0 (ndL i).length := fun b => by unfold ndC; rw [if_neg (by omega)]
      rw [hdn] at a34 v34
      have g1 := hr1 i hlt (by omega)
      have g2 := hr2 i hlt (by omega)
      rw [nl_il, Nat.add_assoc] at g1
      rw [nl_il] at g2
      rw [Nat.add_assoc] at a34
      refine AW.draw [.val, .rd 0, .val, .val, .val, .val, .rd 0, .val, .val, .val, .rd 0, .val, .val, .val, .val, .rd 0, .val, .val, .val, .val, .rd 0, .val, .val, .val, .val, .rd 0, .val, .val, .val, .val, .rd 0, .val, .val, .val, .val, .rd 0, .ext, .val, .val, .val, .val, .val, .val, .rd 1, .val, .val, .val, .val, .rd 1, .ext, .val, .val, .val, .val, .rd 2, .val, .rd 2, .ext, .val, .val, .val] fol (by decide) (by kernel_rfl) ?_
      simp only [push_cast, simprocAttr, imp_self, hJ, hj2, hj4, u8l_len, hx, gW2, lk_old gW2, gV2, lk_old gV2, gP, lk_old gP, hwl, hvl, hpl, c1, c2, c3, c4, c5, c6, c7, q3, hwa, hcl, hct, hcs, hcv, a0, a1, a2, v0, v1, v2, eqk, hne, hkl, a34, v34, hpr]
      refine DCall.by0 (same_c (m.length + (3 + rwN i)) 0 (b2 + rwN i) 0 (ndL i).length (oF (ndL i)) _ (IntsAt.mono ⟨⟨.grow, 1, g1⟩⟩ _) (IntsAt.mono ⟨⟨.grow, 1, g2⟩⟩ _) (by omega)) ?_
      simp only [push_cast, simprocAttr, imp_self, hJ, hj2, hj4, u8l_len, hx, gW2, lk_old gW2, gV2, lk_old gV2, gP, lk_old gP, hwl, hvl, hpl, c1, c2, c3, c4, c5, c6, c7, q3, hwa, hcl, hct, hcs, hcv, a0, a1, a2, v0, v1, v2, eqk, hne, hkl, a34, v34, hpr]
      refine DCall.by0 (same_c (L1 + (2 * i + 2)) 1 (b2 + rwN i) 0 (ndL i).length (oF (ndL i)) _ (IntsAt.mono ⟨⟨.grow, 1, g3⟩⟩ _) (IntsAt.mono ⟨⟨.grow, 1, g2⟩⟩ _) (by omega)) ?_
      simp only [push_cast, simprocAttr, imp_self, hJ, hj2, hj4, u8l_len, hx, gW2, lk_old gW2, gV2, lk_old gV2, gP, lk_old gP, hwl, hvl, hpl, c1, c2, c3, c4, c5, c6, c7, q3, hwa, hcl, hct, hcs, hcv, a0, a1, a2, v0, v1, v2, eqk, hne, hkl, a34, v34, hpr]
      refine DCall.by0 (at_c k f _ hk4 (by omega)) ?_
      simp only [push_cast, simprocAttr, imp_self, hJ, hj2, hj4, u8l_len, hx, gW2, lk_old gW2, gV2, lk_old gV2, gP, lk_old gP, hwl, hvl, hpl, c1, c2, c3, c4, c5, c6, c7, q3, hwa, hcl, hct, hcs, hcv, a0, a1, a2, v0, v1, v2, eqk, hne, hkl, a34, v34, hpr]
      refine Thn_n ?_
      refine hK _ _ ?_
      clear hK K
      refine AW.cond_f rfl ?_
      refine AW.skip ?_
      refine InB_n ?_
      refine Thn_n ?_
      refine hK _ _ ?_
      clear hK K
      refine AW.region (by decide) ?_
      simp only [push_cast, simprocAttr, imp_self, hJ, hj2, hj4, u8l_len, hx, gW2, lk_old gW2, gV2, lk_old gV2, gP, lk_old gP, hwl, hvl, hpl, c1, c2, c3, c4, c5, c6, c7, q3, hwa, hcl, hct, hcs, hcv, a0, a1, a2, v0, v1, v2, eqk, hne, hkl, a34, v34, hpr]
      refine Thn_n ?_
      have hwi : IntKind.i64.wrap ((i:Int)+1) = (i:Int)+1 := by rw [IntKind.wrap_i64]; omega
      refine ⟨i + 1, by omega, by omega, ?_⟩
      try simp only [keepL, setAll, push_cast, simprocAttr, imp_self, hJ, hj2, hj4, u8l_len, hx, gW2, lk_old gW2, gV2, lk_old gV2, gP, lk_old gP, hwl, hvl, hpl, c1, c2, c3, c4, c5, c6, c7, q3, hwa, hcl, hct, hcs, hcv, a0, a1, a2, v0, v1, v2, eqk, hne, hkl, a34, v34, hpr, hwi]
      exact Weak.to (extra := [_]) (by simp only [Keeps, Tm.get_cons, Nat.reduceEqDiff, ↓reduceIte, if_true, if_false, ite_true, ite_false, true_and, and_true, and_self, reduceCtorEq, hwi]) (by first | rfl | (simp only [List.append_assoc, List.cons_append, List.nil_append]; rfl)) (by first | rfl | (simp [AV.below, CV.below]; done) | (simp [AV.below, CV.below]; omega)) hwf2
  · refine AW.exit ?_
    refine Thn_e ?_
    clear hK K
    refine Thn_e ?_
    refine InB_here ?_
    refine Thn_n ?_
    refine hK _ _ ?_
    clear hK K
    refine AW.seq_k fun K hK => ?_
    refine AW.region (by decide) ?_
    simp only [push_cast, simprocAttr, imp_self, hJ, hj2, hj4, u8l_len, hx]
    refine CThen.by (awake_c _) ?_
    simp only [push_cast, simprocAttr, imp_self, hJ, hj2, hj4, u8l_len, hx]
    refine Thn_n ?_
    refine hK _ _ ?_
    clear hK K
    refine AW.ret ?_
    refine hQ _ _ _ ?_
    obtain ⟨E2, hE2⟩ := hME2
    rw [hE2]
    refine RetP.drop (Or.inr rfl) ?_ ?_ hwf
    · simp only [resA, resOne, resTv, AV.tv, push_cast, simprocAttr]
    · rfl
end Go.Proofs.Ytmjbbnfmhgcfaaa
