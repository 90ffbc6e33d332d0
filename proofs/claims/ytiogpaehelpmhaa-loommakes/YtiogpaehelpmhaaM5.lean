/- Walks and facts of this seat's program over abstract states, printed by programs of mine; no conditions but those that each theorem names. -/
import Derived.Test.YtiogpaehelpmhaaM4
set_option linter.unusedSimpArgs false
set_option linter.unusedVariables false
set_option maxRecDepth 100000
set_option maxHeartbeats 4000000
namespace Go.Proofs.Ytiogpaehelpmhaa
open Go Go.Eng

/-- The wave over half a turn, at a turn, a quarter ahead. -/
def halfI (y : Int) : Int := divI (16 * (y * (65536 - y) / 65536)) (327680 - 4 * (y * (65536 - y) / 65536))
def sinI (a : Int) : Int := if heldI a % 65536 < 32768 then halfI (2 * (heldI a % 65536)) else -halfI (2 * (heldI a % 65536) - 65536)
def cosI (a : Int) : Int := sinI (heldI a % 65536 + 16384)
theorem div_b (a b : Int) : -2147483648 ≤ divI a b ∧ divI a b ≤ 2147483648 := by
  unfold divI
  split
  · split <;> (try split) <;> omega
  · exact held_b _
theorem half_p {y : Int} (h : 0 ≤ y ∧ y ≤ 65536) : 0 ≤ y * (65536 - y) ∧ y * (65536 - y) ≤ 4294967296 ∧ 0 ≤ y * (65536 - y) / 65536 ∧ y * (65536 - y) / 65536 ≤ 65536 := by
  have h1 := mul_b (x := y) (y := 65536 - y) (A := 65536) (B := 65536) (by omega) (by omega)
  have h2 := Int.mul_nonneg h.1 (show 0 ≤ 65536 - y by omega)
  omega
theorem sin_b (a : Int) : -2147483648 ≤ sinI a ∧ sinI a ≤ 2147483648 := by
  unfold sinI halfI
  split
  · exact div_b _ _
  · have := div_b (16 * ((2 * (heldI a % 65536) - 65536) * (65536 - (2 * (heldI a % 65536) - 65536)) / 65536)) (327680 - 4 * ((2 * (heldI a % 65536) - 65536) * (65536 - (2 * (heldI a % 65536) - 65536)) / 65536))
    omega
theorem sin_eq {a b : Int} (h : heldI a % 65536 = heldI b % 65536) : sinI a = sinI b := by unfold sinI; rw [h]
theorem whalf_c (y : Int) (hy : 0 ≤ y ∧ y ≤ 65536) (m : AMem) : Ctr Try.prog 93 [.one (.int .i64 y)] m (.one (.int .i64 (halfI y))) m := by
  refine Ctr.enter Try.func93 rfl (by decide) (rs := [.tmp 2]) (nt := 14) rfl rfl fun hwf Q hQ => ?_
  obtain ⟨q0, q1, q2, q3⟩ := half_p hy
  obtain ⟨p, hp⟩ : ∃ p, p = y * (65536 - y) / 65536 := ⟨_, rfl⟩
  obtain ⟨z, hz⟩ : ∃ z, z = y * (65536 - y) := ⟨_, rfl⟩
  have hr : divI (16 * p) (327680 - 4 * p) = halfI y := by unfold halfI; rw [← hp]
  have hh := held_id (n := y) (by omega)
  have hs : subI 65536 y = 65536 - y := by unfold subI; rw [hh, held_id (n := 65536) (by decide), held_id (by omega)]
  have hm : mulI y (65536 - y) = p := by unfold mulI; rw [hh, held_id (n := 65536 - y) (by omega), ← hp, held_id (by omega)]
  rw [← hz] at q0 q1
  rw [← hp] at q2 q3
  rw [← hz] at hp
  have hz2 := hz.symm
  have hw0 : IntKind.i64.wrap (65536 - y) = 65536 - y := wi (by omega)
  have hw1 : IntKind.i64.wrap (z) = z := wi (by omega)
  have hw2 : IntKind.i64.wrap (16 * p) = 16 * p := wi (by omega)
  have hw3 : IntKind.i64.wrap (4 * p) = 4 * p := wi (by omega)
  have hw4 : IntKind.i64.wrap (327680 - 4 * p) = 327680 - 4 * p := wi (by omega)
  
  refine AW.seq_k fun K hK => ?_
  refine AW.region (by decide) ?_
  simp only [push_cast, simprocAttr, hs, hm, hw0, hw2, hw3, hw4]
  refine Thn_n ?_
  refine hK _ _ ?_
  clear hK K
  refine AW.seq_k fun K hK => ?_
  refine AW.region (by decide) ?_
  simp only [push_cast, simprocAttr, hs, hm, hw0, hw2, hw3, hw4]
  refine CThen.by (sub_c _ _ _) ?_
  simp only [push_cast, simprocAttr, hs, hm, hw0, hw2, hw3, hw4]
  refine CThen.by (mul_c _ _ _) ?_
  simp only [push_cast, simprocAttr, hs, hm, hw0, hw2, hw3, hw4]
  refine Thn_n ?_
  refine hK _ _ ?_
  clear hK K
  refine AW.seq_k fun K hK => ?_
  refine AW.region (by decide) ?_
  simp only [push_cast, simprocAttr, hs, hm, hw0, hw2, hw3, hw4]
  refine CThen.by (div_c _ _ _) ?_
  simp only [push_cast, simprocAttr, hs, hm, hw0, hw2, hw3, hw4]
  refine Thn_n ?_
  refine hK _ _ ?_
  clear hK K
  refine AW.ret ?_
  refine hQ _ _ _ ?_
  first | refine RetP.drop0 (Or.inr rfl) ?_ ?_ hwf | refine RetP.drop (Or.inr rfl) ?_ ?_ hwf
  · simp only [resA, resOne, resTv, AV.tv, push_cast, simprocAttr, hs, hm, hw0, hw2, hw3, hw4, hr]
  · rfl
theorem rwhalf_c (y : Int) (hy : 0 ≤ y ∧ y ≤ 65536) (m : AMem) : Ctr Try.prog 94 [.one (.int .i64 y)] m (.one (.int .i64 (halfI y))) m := by
  refine Ctr.enter Try.func94 rfl (by decide) (rs := [.tmp 2]) (nt := 15) rfl rfl fun hwf Q hQ => ?_
  obtain ⟨q0, q1, q2, q3⟩ := half_p hy
  obtain ⟨p, hp⟩ : ∃ p, p = y * (65536 - y) / 65536 := ⟨_, rfl⟩
  obtain ⟨z, hz⟩ : ∃ z, z = y * (65536 - y) := ⟨_, rfl⟩
  have hr : divI (16 * p) (327680 - 4 * p) = halfI y := by unfold halfI; rw [← hp]
  have hh := held_id (n := y) (by omega)
  have hs : subI 65536 y = 65536 - y := by unfold subI; rw [hh, held_id (n := 65536) (by decide), held_id (by omega)]
  have hm : mulI y (65536 - y) = p := by unfold mulI; rw [hh, held_id (n := 65536 - y) (by omega), ← hp, held_id (by omega)]
  rw [← hz] at q0 q1
  rw [← hp] at q2 q3
  rw [← hz] at hp
  have hz2 := hz.symm
  have hw0 : IntKind.i64.wrap (65536 - y) = 65536 - y := wi (by omega)
  have hw1 : IntKind.i64.wrap (z) = z := wi (by omega)
  have hw2 : IntKind.i64.wrap (16 * p) = 16 * p := wi (by omega)
  have hw3 : IntKind.i64.wrap (4 * p) = 4 * p := wi (by omega)
  have hw4 : IntKind.i64.wrap (327680 - 4 * p) = 327680 - 4 * p := wi (by omega)
  have hp2 := hp.symm
  
  refine AW.seq_k fun K hK => ?_
  refine AW.region (by decide) ?_
  simp only [push_cast, simprocAttr, hw0, hz2, hw1, hp2, hw2, hw3, hw4]
  refine Thn_n ?_
  refine hK _ _ ?_
  clear hK K
  refine AW.seq_k fun K hK => ?_
  refine AW.region (by decide) ?_
  simp only [push_cast, simprocAttr, hw0, hz2, hw1, hp2, hw2, hw3, hw4]
  refine CThen.by (down_c _ _ _ (by decide) (by omega) (by decide)) ?_
  simp only [push_cast, simprocAttr, hw0, hz2, hw1, hp2, hw2, hw3, hw4]
  refine Thn_n ?_
  refine hK _ _ ?_
  clear hK K
  refine AW.seq_k fun K hK => ?_
  refine AW.region (by decide) ?_
  simp only [push_cast, simprocAttr, hw0, hz2, hw1, hp2, hw2, hw3, hw4]
  refine CThen.by (rdiv_c _ _ _) ?_
  simp only [push_cast, simprocAttr, hw0, hz2, hw1, hp2, hw2, hw3, hw4]
  refine Thn_n ?_
  refine hK _ _ ?_
  clear hK K
  refine AW.ret ?_
  refine hQ _ _ _ ?_
  first | refine RetP.drop0 (Or.inr rfl) ?_ ?_ hwf | refine RetP.drop (Or.inr rfl) ?_ ?_ hwf
  · simp only [resA, resOne, resTv, AV.tv, push_cast, simprocAttr, hw0, hz2, hw1, hp2, hw2, hw3, hw4, hr]
  · rfl
theorem wsin_c (a : Int) (m : AMem) : Ctr Try.prog 66 [.one (.int .i64 a)] m (.one (.int .i64 (sinI a))) m := by
  refine Ctr.enter Try.func66 rfl (by decide) (rs := [.tmp 2]) (nt := 16) rfl rfl fun hwf Q hQ => ?_
  have ha := held_b a
  obtain ⟨t, ht⟩ : ∃ t, t = heldI a % 65536 := ⟨_, rfl⟩
  have ht2 := ht.symm
  have b1 : 0 ≤ t ∧ t < 65536 := by omega
  have b2 := sin_b a
  
  refine AW.seq_k fun K hK => ?_
  refine AW.region (by decide) ?_
  simp only [push_cast, simprocAttr, ht2]
  refine Thn_n ?_
  refine hK _ _ ?_
  clear hK K
  refine AW.seq_k fun K hK => ?_
  refine AW.region (by decide) ?_
  simp only [push_cast, simprocAttr, ht2]
  refine CThen.by (part_c _ _) ?_
  simp only [push_cast, simprocAttr, ht2]
  refine Thn_n ?_
  refine hK _ _ ?_
  clear hK K
  refine AW.seq_k fun K hK => ?_
  refine AW.seq_k fun K hK => ?_
  refine AW.region (by decide) ?_
  simp only [push_cast, simprocAttr, ht2]
  refine Thn_n ?_
  refine hK _ _ ?_
  clear hK K
  refine AW.cond rfl (fun h7 => ?_) (fun h7 => ?_)
  · have hc := of_decide_eq_true h7
    have hy : 0 ≤ 2 * t ∧ 2 * t ≤ 65536 := by omega
    have hr : halfI (2 * t) = sinI a := by unfold sinI; rw [← ht, if_pos hc]
    have hw1 : IntKind.i64.wrap (2 * t) = 2 * t := wi (by omega)
    refine AW.seq_k fun K hK => ?_
    refine AW.region (by decide) ?_
    simp only [push_cast, simprocAttr, ht2, hw1]
    refine CThen.by (whalf_c _ hy _) ?_
    simp only [push_cast, simprocAttr, ht2, hw1]
    refine Thn_n ?_
    refine hK _ _ ?_
    clear hK K
    refine AW.ret ?_
    refine Thn_r ?_
    refine hQ _ _ _ ?_
    first | refine RetP.drop0 (Or.inr rfl) ?_ ?_ hwf | refine RetP.drop (Or.inr rfl) ?_ ?_ hwf
    · simp only [resA, resOne, resTv, AV.tv, push_cast, simprocAttr, ht2, hw1, hr]
    · rfl
  · have hc := of_decide_eq_false h7
    have hy : 0 ≤ 2 * t - 65536 ∧ 2 * t - 65536 ≤ 65536 := by omega
    have hr : -halfI (2 * t - 65536) = sinI a := by unfold sinI; rw [← ht, if_neg hc]
    have hw1 : IntKind.i64.wrap (2 * t) = 2 * t := wi (by omega)
    have hw2 : IntKind.i64.wrap (2 * t - 65536) = 2 * t - 65536 := wi (by omega)
    have hw3 : IntKind.i64.wrap (-halfI (2 * t - 65536)) = -halfI (2 * t - 65536) := by rw [hr]; exact wi (by omega)
    refine AW.skip ?_
    refine Thn_n ?_
    refine hK _ _ ?_
    clear hK K
    refine AW.seq_k fun K hK => ?_
    refine AW.region (by decide) ?_
    simp only [push_cast, simprocAttr, ht2, hw1, hw2, hw3, Int.zero_sub]
    refine CThen.by (whalf_c _ hy _) ?_
    simp only [push_cast, simprocAttr, ht2, hw1, hw2, hw3, Int.zero_sub]
    refine Thn_n ?_
    refine hK _ _ ?_
    clear hK K
    refine AW.ret ?_
    refine hQ _ _ _ ?_
    first | refine RetP.drop0 (Or.inr rfl) ?_ ?_ hwf | refine RetP.drop (Or.inr rfl) ?_ ?_ hwf
    · simp only [resA, resOne, resTv, AV.tv, push_cast, simprocAttr, ht2, hw1, hw2, hw3, Int.zero_sub, hr]
    · rfl
theorem rwsin_c (a : Int) (m : AMem) : Ctr Try.prog 69 [.one (.int .i64 a)] m (.one (.int .i64 (sinI a))) m := by
  refine Ctr.enter Try.func69 rfl (by decide) (rs := [.tmp 2]) (nt := 21) rfl rfl fun hwf Q hQ => ?_
  have ha := held_b a
  obtain ⟨t, ht⟩ : ∃ t, t = heldI a % 65536 := ⟨_, rfl⟩
  have ht2 := ht.symm
  have b1 : 0 ≤ t ∧ t < 65536 := by omega
  have b2 := sin_b a
  have hw6 : IntKind.i64.wrap (heldI a / 65536 * 65536) = heldI a / 65536 * 65536 := wi (by omega)
  have hw7 : IntKind.i64.wrap (heldI a - heldI a / 65536 * 65536) = t := by rw [wi (by omega)]; omega
  
  refine AW.seq_k fun K hK => ?_
  refine AW.region (by decide) ?_
  simp only [push_cast, simprocAttr, ht2, hw6, hw7]
  refine Thn_n ?_
  refine hK _ _ ?_
  clear hK K
  refine AW.seq_k fun K hK => ?_
  refine AW.region (by decide) ?_
  iterate 2
    simp only [push_cast, simprocAttr, ht2, hw6, hw7]
    refine CThen.by (held_c _ _) ?_
  simp only [push_cast, simprocAttr, ht2, hw6, hw7]
  refine CThen.by (down_c _ _ _ (by decide) (by omega) (by decide)) ?_
  simp only [push_cast, simprocAttr, ht2, hw6, hw7]
  refine Thn_n ?_
  refine hK _ _ ?_
  clear hK K
  refine AW.seq_k fun K hK => ?_
  refine AW.seq_k fun K hK => ?_
  refine AW.region (by decide) ?_
  simp only [push_cast, simprocAttr, ht2, hw6, hw7]
  refine Thn_n ?_
  refine hK _ _ ?_
  clear hK K
  refine AW.cond rfl (fun h12 => ?_) (fun h12 => ?_)
  · have hc := of_decide_eq_true h12
    have hy : 0 ≤ 2 * t ∧ 2 * t ≤ 65536 := by omega
    have hr : halfI (2 * t) = sinI a := by unfold sinI; rw [← ht, if_pos hc]
    have hw1 : IntKind.i64.wrap (2 * t) = 2 * t := wi (by omega)
    refine AW.seq_k fun K hK => ?_
    refine AW.region (by decide) ?_
    simp only [push_cast, simprocAttr, ht2, hw6, hw7, hw1]
    refine CThen.by (rwhalf_c _ hy _) ?_
    simp only [push_cast, simprocAttr, ht2, hw6, hw7, hw1]
    refine Thn_n ?_
    refine hK _ _ ?_
    clear hK K
    refine AW.ret ?_
    refine Thn_r ?_
    refine hQ _ _ _ ?_
    first | refine RetP.drop0 (Or.inr rfl) ?_ ?_ hwf | refine RetP.drop (Or.inr rfl) ?_ ?_ hwf
    · simp only [resA, resOne, resTv, AV.tv, push_cast, simprocAttr, ht2, hw6, hw7, hw1, hr]
    · rfl
  · have hc := of_decide_eq_false h12
    have hy : 0 ≤ 2 * t - 65536 ∧ 2 * t - 65536 ≤ 65536 := by omega
    have hr : -halfI (2 * t - 65536) = sinI a := by unfold sinI; rw [← ht, if_neg hc]
    have hw1 : IntKind.i64.wrap (2 * t) = 2 * t := wi (by omega)
    have hw2 : IntKind.i64.wrap (2 * t - 65536) = 2 * t - 65536 := wi (by omega)
    have hw3 : IntKind.i64.wrap (-halfI (2 * t - 65536)) = -halfI (2 * t - 65536) := by rw [hr]; exact wi (by omega)
    refine AW.skip ?_
    refine Thn_n ?_
    refine hK _ _ ?_
    clear hK K
    refine AW.seq_k fun K hK => ?_
    refine AW.region (by decide) ?_
    simp only [push_cast, simprocAttr, ht2, hw6, hw7, hw1, hw2, hw3, Int.zero_sub]
    refine CThen.by (rwhalf_c _ hy _) ?_
    simp only [push_cast, simprocAttr, ht2, hw6, hw7, hw1, hw2, hw3, Int.zero_sub]
    refine Thn_n ?_
    refine hK _ _ ?_
    clear hK K
    refine AW.ret ?_
    refine hQ _ _ _ ?_
    first | refine RetP.drop0 (Or.inr rfl) ?_ ?_ hwf | refine RetP.drop (Or.inr rfl) ?_ ?_ hwf
    · simp only [resA, resOne, resTv, AV.tv, push_cast, simprocAttr, ht2, hw6, hw7, hw1, hw2, hw3, Int.zero_sub, hr]
    · rfl
theorem wcos_c (a : Int) (m : AMem) : Ctr Try.prog 65 [.one (.int .i64 a)] m (.one (.int .i64 (cosI a))) m := by
  refine Ctr.enter Try.func65 rfl (by decide) (rs := [.tmp 2]) (nt := 7) rfl rfl fun hwf Q hQ => ?_
  have ha := held_b a
  obtain ⟨t, ht⟩ : ∃ t, t = heldI a % 65536 := ⟨_, rfl⟩
  have ht2 := ht.symm
  have b1 : 0 ≤ t ∧ t < 65536 := by omega
  have b2 := sin_b a
  have hr : sinI (t + 16384) = cosI a := by unfold cosI; rw [ht]
  have hw1 : IntKind.i64.wrap (t + 16384) = t + 16384 := wi (by omega)
  
  refine AW.seq_k fun K hK => ?_
  refine AW.region (by decide) ?_
  simp only [push_cast, simprocAttr, ht2, hw1]
  refine Thn_n ?_
  refine hK _ _ ?_
  clear hK K
  refine AW.seq_k fun K hK => ?_
  refine AW.region (by decide) ?_
  simp only [push_cast, simprocAttr, ht2, hw1]
  refine CThen.by (part_c _ _) ?_
  simp only [push_cast, simprocAttr, ht2, hw1]
  refine CThen.by (wsin_c _ _) ?_
  simp only [push_cast, simprocAttr, ht2, hw1]
  refine Thn_n ?_
  refine hK _ _ ?_
  clear hK K
  refine AW.ret ?_
  refine hQ _ _ _ ?_
  first | refine RetP.drop0 (Or.inr rfl) ?_ ?_ hwf | refine RetP.drop (Or.inr rfl) ?_ ?_ hwf
  · simp only [resA, resOne, resTv, AV.tv, push_cast, simprocAttr, ht2, hw1, hr]
  · rfl
theorem rwcos_c (a : Int) (m : AMem) : Ctr Try.prog 68 [.one (.int .i64 a)] m (.one (.int .i64 (cosI a))) m := by
  refine Ctr.enter Try.func68 rfl (by decide) (rs := [.tmp 2]) (nt := 8) rfl rfl fun hwf Q hQ => ?_
  have ha := held_b a
  obtain ⟨t, ht⟩ : ∃ t, t = heldI a % 65536 := ⟨_, rfl⟩
  have ht2 := ht.symm
  have b1 : 0 ≤ t ∧ t < 65536 := by omega
  have b2 := sin_b a
  have hm := tmod_pos (n := heldI a) (d := 65536) (by decide)
  obtain ⟨q, hq⟩ : ∃ q, q = (heldI a).tmod 65536 := ⟨_, rfl⟩
  have hq2 := hq.symm
  rw [← hq] at hm
  have hr : sinI (q + 16384) = cosI a := by
    unfold cosI
    refine sin_eq ?_
    rw [held_id (by omega), held_id (by omega)]
    omega
  have hw0 : IntKind.i64.wrap q = q := wi (by omega)
  have hw1 : IntKind.i64.wrap (q + 16384) = q + 16384 := wi (by omega)
  
  refine AW.seq_k fun K hK => ?_
  refine AW.region (by decide) ?_
  simp only [push_cast, simprocAttr, hq2, hw0, hw1]
  refine Thn_n ?_
  refine hK _ _ ?_
  clear hK K
  refine AW.seq_k fun K hK => ?_
  refine AW.region (by decide) ?_
  simp only [push_cast, simprocAttr, hq2, hw0, hw1]
  refine CThen.by (held_c _ _) ?_
  simp only [push_cast, simprocAttr, hq2, hw0, hw1]
  refine CThen.by (rwsin_c _ _) ?_
  simp only [push_cast, simprocAttr, hq2, hw0, hw1]
  refine Thn_n ?_
  refine hK _ _ ?_
  clear hK K
  refine AW.ret ?_
  refine hQ _ _ _ ?_
  first | refine RetP.drop0 (Or.inr rfl) ?_ ?_ hwf | refine RetP.drop (Or.inr rfl) ?_ ?_ hwf
  · simp only [resA, resOne, resTv, AV.tv, push_cast, simprocAttr, hq2, hw0, hw1, hr]
  · rfl
end Go.Proofs.Ytiogpaehelpmhaa

set_option linter.unusedSimpArgs false
set_option linter.unusedVariables false
set_option maxRecDepth 100000
set_option maxHeartbeats 4000000
namespace Go.Proofs.Ytiogpaehelpmhaa
open Go Go.Eng

def tbT (S n : Nat) : Int := divI (ofI (n : Int)) (ofI (S : Int))
def tbP (S : Nat) (r h : Int) (n : Nat) : List T3 := [(mulI r (cosI (tbT S n)), 0, mulI r (sinI (tbT S n))), (mulI r (cosI (tbT S n)), h, mulI r (sinI (tbT S n)))]
def tbF (S n : Nat) : List T3 :=
  let a : Int := 2 * (n : Int)
  let b : Int := 2 * (((n + 1) % S : Nat) : Int)
  [(a, b, b + 1), (a, b + 1, a + 1)]
def tuP (S : Nat) (r h : Int) : List T3 := (List.range S).flatMap (tbP S r h)
def tuF (S : Nat) : List T3 := (List.range S).flatMap (tbF S)
theorem fm_len (f : Nat → List T3) (hf : ∀ k, (f k).length = 2) : ∀ k, ((List.range k).flatMap f).length = 2 * k
  | 0 => rfl
  | k + 1 => by rw [rf_s, List.length_append, fm_len f hf k, hf]; omega
theorem tbP_len (S : Nat) (r h : Int) (k : Nat) : ((List.range k).flatMap (tbP S r h)).length = 2 * k := fm_len _ (fun _ => rfl) k
theorem tbF_len (S : Nat) (k : Nat) : ((List.range k).flatMap (tbF S)).length = 2 * k := fm_len _ (fun _ => rfl) k
theorem tuP_len (S : Nat) (r h : Int) : (tuP S r h).length = 2 * S := tbP_len S r h S
theorem tuF_len (S : Nat) : (tuF S).length = 2 * S := tbF_len S S
theorem tube_ok (S : Nat) (r h : Int) (m : AMem) (hS : 3 ≤ S ∧ S ≤ 64) : Ctr Try.prog 34 [.one (.int .i64 (S : Int)), .one (.int .i64 r), .one (.int .i64 h)] m (.tup [(true, [.sl m.length 0 0 (2 * S), .sl (m.length + 1) 0 0 (2 * S)]), (false, [.int .i64 0])]) (m ++ [⟨.grow, 49, 0, 3, tL (tuP S r h)⟩, ⟨.grow, 54, 0, 3, tL (tuF S)⟩]) := by
  refine Ctr.enter Try.func34 rfl (by decide) (rs := [.cell 6 37, .tmp 7]) (nt := 73) rfl rfl fun hwf Q hQ => ?_
  have hlt0 : ∀ k, ¬ m.length + k < m.length := fun k => by omega
  have w1 : ¬ (S : Int) < 3 := by omega
  have w2 : ¬ (64 : Int) < (S : Int) := by omega
  refine AW.seq_k fun K hK => ?_
  refine AW.region (by decide) ?_
  simp only [push_cast, simprocAttr, w1, w2]
  refine Thn_n ?_
  refine hK _ _ ?_
  clear hK K
  refine AW.seq_k fun K hK => ?_
  refine AW.seq_k fun K hK => ?_
  refine AW.region (by decide) ?_
  simp only [push_cast, simprocAttr, w1, w2]
  refine Thn_n ?_
  refine hK _ _ ?_
  clear hK K
  refine AW.cond_f rfl ?_
  refine AW.skip ?_
  refine Thn_n ?_
  refine hK _ _ ?_
  clear hK K
  refine AW.seq_k fun K hK => ?_
  refine AW.region (by decide) ?_
  simp only [push_cast, simprocAttr, w1, w2]
  refine Thn_n ?_
  refine hK _ _ ?_
  clear hK K
  refine AW.seq_k fun K hK => ?_
  refine AW.seq_k fun K hK => ?_
  refine AW.nilCell 49 3 (m.length + 1) 0 (by simp only [push_cast, simprocAttr]; first | done | rfl) (by intro e; cases e) rfl ?_
  try simp only [push_cast, simprocAttr]
  refine AW.region (by decide) ?_
  simp only [push_cast, simprocAttr, w1, w2]
  refine Thn_n ?_
  refine hK _ _ ?_
  clear hK K
  refine AW.block ?_
  refine AW.loopK [0, 1, 2, 6, 8, 23] (fun k => k ≤ S) (fun k => [(24, .one (.int .i64 (k : Int)))]) (fun k => [(m.length + 1, ⟨.fix, 37, 0, 0, [.sl (m.length + 2) (k) 0 (2 * (k)), .nils]⟩), (m.length + 2, ⟨.grow, 49, k, 3, tL ((List.range (k)).flatMap (tbP S r h))⟩)]) (fun k => S - k) 0 (by omega) ?_ ?_ fun k hi7 => ?_
  · first | rfl | (simp only [Keeps, Tm.get_cons, Nat.reduceEqDiff, ↓reduceIte, if_true, if_false, ite_true, ite_false, true_and, and_true, and_self, reduceCtorEq, Int.natCast_zero, Nat.mul_zero, List.range_zero, List.flatMap_nil, tL] <;> rfl)
  · first | rfl | (simp only [setAll, push_cast, simprocAttr, w1, w2, Int.natCast_zero, Nat.mul_zero, List.range_zero, List.flatMap_nil, tL] <;> rfl)
  try simp only [keepL, setAll, push_cast, simprocAttr, w1, w2]
  refine AW.seq_k fun K hK => ?_
  refine AW.region (by decide) ?_
  simp only [push_cast, simprocAttr, w1, w2]
  refine Thn_n ?_
  refine hK _ _ ?_
  clear hK K
  refine AW.seq_k fun K hK => ?_
  refine AW.cond rfl (fun h25 => ?_) (fun h25 => ?_)
  · have hlt : k < S := by have := of_decide_eq_true h25; omega
    have hst0 := congrArg tL (rf_s (tbP S r h) k)
    rw [← tL_app] at hst0
    have hst : tL ((List.range k).flatMap (tbP S r h)) ++ [.int .i64 (mulI r (cosI (tbT S k))), .int .i64 0, .int .i64 (mulI r (sinI (tbT S k))), .int .i64 (mulI r (cosI (tbT S k))), .int .i64 h, .int .i64 (mulI r (sinI (tbT S k)))] = tL ((List.range (k + 1)).flatMap (tbP S r h)) := by rw [hst0]; rfl
    have htk : (tL ((List.range k).flatMap (tbP S r h))).length = 2 * k * 3 := by rw [tL_len, tbP_len]
    have ht0 : divI (ofI (k : Int)) (ofI (S : Int)) = tbT S k := rfl
    have h2k : 2 * (k + 1) = 2 * k + 2 := by omega
    have m1 : 2 * k + 2 ≤ 140737488355328 := by omega
    have m2 : (2 * k + 2) * 24 ≤ 140737488355328 := by omega
    refine AW.skip ?_
    refine Thn_n ?_
    refine hK _ _ ?_
    clear hK K
    refine AW.seq_k fun K hK => ?_
    refine AW.block ?_
    refine AW.seq_k fun K hK => ?_
    refine AW.region (by decide) ?_
    simp only [push_cast, simprocAttr, w1, w2, ht0, htk, m1, m2]
    refine Thn_n ?_
    refine hK _ _ ?_
    clear hK K
    refine AW.seq_k fun K hK => ?_
    refine AW.region (by decide) ?_
    iterate 2
      simp only [push_cast, simprocAttr, w1, w2, ht0, htk, m1, m2]
      refine CThen.by (of_c _ _) ?_
    simp only [push_cast, simprocAttr, w1, w2, ht0, htk, m1, m2]
    refine CThen.by (div_c _ _ _) ?_
    simp only [push_cast, simprocAttr, w1, w2, ht0, htk, m1, m2]
    refine Thn_n ?_
    refine hK _ _ ?_
    clear hK K
    refine AW.seq_k fun K hK => ?_
    refine AW.region (by decide) ?_
    simp only [push_cast, simprocAttr, w1, w2, ht0, htk, m1, m2]
    refine CThen.by (wcos_c _ _) ?_
    simp only [push_cast, simprocAttr, w1, w2, ht0, htk, m1, m2]
    refine CThen.by (mul_c _ _ _) ?_
    simp only [push_cast, simprocAttr, w1, w2, ht0, htk, m1, m2]
    refine CThen.by (wsin_c _ _) ?_
    simp only [push_cast, simprocAttr, w1, w2, ht0, htk, m1, m2]
    refine CThen.by (mul_c _ _ _) ?_
    simp only [push_cast, simprocAttr, w1, w2, ht0, htk, m1, m2]
    refine Thn_n ?_
    refine hK _ _ ?_
    clear hK K
    refine AW.draw [.val, .rd 0, .val, .val, .ext, .val, .val, .val, .ext, .ext, .wr, .val, .wr] fol (by decide) (by kernel_rfl) ?_
    iterate 2
      simp only [push_cast, simprocAttr, w1, w2, ht0, htk, m1, m2]
      refine DCall.by0 (new_v _ _ _ _) ?_
    simp only [push_cast, simprocAttr, w1, w2, ht0, htk, m1, m2]
    refine DExt.by (by first | rfl | (simp only [List.append_assoc, List.cons_append, List.nil_append]; rfl)) ?_
    simp only [push_cast, simprocAttr, w1, w2, ht0, htk, m1, m2]
    refine InB_n ?_
    refine Thn_n ?_
    refine hK _ _ ?_
    clear hK K
    refine AW.region (by decide) ?_
    simp only [push_cast, simprocAttr, w1, w2, ht0, htk, m1, m2]
    refine Thn_n ?_
    have hwi : IntKind.i64.wrap ((k:Int)+1) = (k:Int)+1 := wi (by omega)
    refine ⟨k + 1, by omega, by omega, ?_⟩
    try simp only [keepL, setAll, push_cast, simprocAttr, w1, w2, ht0, htk, m1, m2, hwi, hst, h2k]
    exact Weak.to (extra := [_]) (by simp only [Keeps, Tm.get_cons, Nat.reduceEqDiff, ↓reduceIte, if_true, if_false, ite_true, ite_false, true_and, and_true, and_self, reduceCtorEq, hwi, hst, h2k]) (by first | rfl | (simp only [List.append_assoc, List.cons_append, List.nil_append]; rfl)) (by first | rfl | (simp [AV.below, CV.below, tL_below]; done) | (simp [AV.below, CV.below, tL_below]; omega)) (by
      first | exact hwf | refine MWf.app (hwf.grow (by simp)) ?_
      repeat (first | exact MWf_nil | (refine MWf_cons ?_ ?_; · first | rfl | (simp [CV.below, tL_below]; done) | (simp [CV.below, tL_below]; omega))))
  · have hk0 : k = S := by have := of_decide_eq_false h25; omega
    have hk1 := hk0.symm
    subst hk1
    refine AW.exit ?_
    refine Thn_e ?_
    clear hK K
    refine Thn_e ?_
    refine InB_here ?_
    refine Thn_n ?_
    refine hK _ _ ?_
    clear hK K
    refine AW.seq_k fun K hK => ?_
    refine AW.seq_k fun K hK => ?_
    refine AW.nilCell 54 3 (m.length + 1) 1 (by simp only [push_cast, simprocAttr]; first | done | rfl) (by intro e; cases e) rfl ?_
    try simp only [push_cast, simprocAttr]
    refine AW.region (by decide) ?_
    simp only [push_cast, simprocAttr, w1, w2]
    refine Thn_n ?_
    refine hK _ _ ?_
    clear hK K
    refine AW.block ?_
    refine AW.loopK [0, 6, 8, 53] (fun k => k ≤ S) (fun k => [(54, .one (.int .i64 (k : Int)))]) (fun k => [(m.length + 1, ⟨.fix, 37, 0, 0, [.sl (m.length + 2) S 0 (2 * S), .sl (m.length + 3) (k) 0 (2 * (k))]⟩), (m.length + 3, ⟨.grow, 54, k, 3, tL ((List.range (k)).flatMap (tbF S))⟩)]) (fun k => S - k) 0 (by omega) ?_ ?_ fun k hi16 => ?_
    · first | rfl | (simp only [Keeps, Tm.get_cons, Nat.reduceEqDiff, ↓reduceIte, if_true, if_false, ite_true, ite_false, true_and, and_true, and_self, reduceCtorEq, Int.natCast_zero, Nat.mul_zero, List.range_zero, List.flatMap_nil, tL] <;> rfl)
    · first | rfl | (simp only [setAll, push_cast, simprocAttr, w1, w2, Int.natCast_zero, Nat.mul_zero, List.range_zero, List.flatMap_nil, tL] <;> rfl)
    try simp only [keepL, setAll, push_cast, simprocAttr, w1, w2]
    refine AW.seq_k fun K hK => ?_
    refine AW.region (by decide) ?_
    simp only [push_cast, simprocAttr, w1, w2]
    refine Thn_n ?_
    refine hK _ _ ?_
    clear hK K
    refine AW.seq_k fun K hK => ?_
    refine AW.cond rfl (fun h55 => ?_) (fun h55 => ?_)
    · have hlt : k < S := by have := of_decide_eq_true h55; omega
      obtain ⟨q, hq⟩ : ∃ q, q = (k + 1) % S := ⟨_, rfl⟩
      have hq1 : q < S := by rw [hq]; exact Nat.mod_lt _ (by omega)
      have e1 : ((k : Int) + 1).tmod (S : Int) = (q : Int) := by rw [Int.tmod_eq_emod_of_nonneg (by omega), hq]; push_cast; rfl
      have c0 : ¬ (S : Int) = 0 := by omega
      have e2 : IntKind.i64.wrap (q : Int) = (q : Int) := wi (by omega)
      have e3 : IntKind.i64.wrap (2 * (k : Int)) = 2 * (k : Int) := wi (by omega)
      have e4 : IntKind.i64.wrap (2 * (q : Int)) = 2 * (q : Int) := wi (by omega)
      have e5 : IntKind.i64.wrap (2 * (q : Int) + 1) = 2 * (q : Int) + 1 := wi (by omega)
      have e6 : IntKind.i64.wrap (2 * (k : Int) + 1) = 2 * (k : Int) + 1 := wi (by omega)
      have hwi : IntKind.i64.wrap ((k : Int) + 1) = (k : Int) + 1 := wi (by omega)
      have h2k : 2 * (k + 1) = 2 * k + 2 := by omega
      have hst : (List.range k).flatMap (tbF S) ++ [(2 * (k : Int), 2 * (q : Int), 2 * (q : Int) + 1), (2 * (k : Int), 2 * (q : Int) + 1, 2 * (k : Int) + 1)] = (List.range (k + 1)).flatMap (tbF S) := by
        rw [rf_s, hq]; rfl
      refine AW.skip ?_
      refine Thn_n ?_
      refine hK _ _ ?_
      clear hK K
      refine AW.seq_k fun K hK => ?_
      refine AW.block ?_
      refine AW.seq_k fun K hK => ?_
      refine AW.region (by decide) ?_
      simp only [push_cast, simprocAttr, w1, w2, e1, c0, e2, e3, e4, e5, e6, hwi]
      refine Thn_n ?_
      refine hK _ _ ?_
      clear hK K
      refine AW.seq_k fun K hK => ?_
      refine AW.draw [.val, .val, .val, .val, .val, .val, .val, .val, .val] fol (by decide) (by kernel_rfl) ?_
      simp only [push_cast, simprocAttr, w1, w2, e1, c0, e2, e3, e4, e5, e6, hwi]
      refine Thn_n ?_
      refine hK _ _ ?_
      clear hK K
      refine AW.region (by decide) ?_
      simp only [push_cast, simprocAttr, w1, w2, e1, c0, e2, e3, e4, e5, e6, hwi]
      refine CThen.by (quad_c (m.length + 1) (m.length + 3) k (2 * k) (.sl (m.length + 2) S 0 (2 * S)) ((List.range k).flatMap (tbF S)) _ _ _ _ _ (by simp only [push_cast, simprocAttr]) (by simp only [push_cast, simprocAttr]; first | done | rfl) (by omega) (tbF_len S k) (by omega)) ?_
      simp only [push_cast, simprocAttr, w1, w2, e1, c0, e2, e3, e4, e5, e6, hwi]
      refine InB_n ?_
      refine Thn_n ?_
      refine hK _ _ ?_
      clear hK K
      refine AW.region (by decide) ?_
      simp only [push_cast, simprocAttr, w1, w2, e1, c0, e2, e3, e4, e5, e6, hwi]
      refine Thn_n ?_
      refine ⟨k + 1, by omega, by omega, ?_⟩
      try simp only [keepL, setAll, push_cast, simprocAttr, w1, w2, e1, c0, e2, e3, e4, e5, e6, hwi, hwi, hst, h2k]
      exact Weak.same (by simp only [Keeps, Tm.get_cons, Nat.reduceEqDiff, ↓reduceIte, if_true, if_false, ite_true, ite_false, true_and, and_true, and_self, reduceCtorEq, hwi, hst, h2k]) (by first | rfl | simp only [Keeps, Tm.get_cons, Nat.reduceEqDiff, ↓reduceIte, if_true, if_false, ite_true, ite_false, true_and, and_true, and_self, reduceCtorEq, hwi, hst, h2k])
    · have hk0 : k = S := by have := of_decide_eq_false h55; omega
      have hk1 := hk0.symm
      subst hk1
      refine AW.exit ?_
      refine Thn_e ?_
      clear hK K
      refine Thn_e ?_
      refine InB_here ?_
      refine Thn_n ?_
      refine hK _ _ ?_
      clear hK K
      refine AW.seq_k fun K hK => ?_
      refine AW.region (by decide) ?_
      simp only [push_cast, simprocAttr, w1, w2]
      refine Thn_n ?_
      refine hK _ _ ?_
      clear hK K
      refine AW.ret ?_
      refine hQ _ _ _ ?_
      refine RetP.pick [(m.length + 2, S), (m.length + 3, S)] (Or.inr rfl) ?_ ?_ ?_ hwf ?_
      · simp only [resA, resOne, resTv, AV.tv, push_cast, simprocAttr]
        simp [renV, renT, renL, renC, renIdx, hlt0]
      · simp only [picks, push_cast, simprocAttr, tuP, tuF]
      · simp [distinctFrom]
      · exact MWf_cons (tL_below _ _) (MWf_one (tL_below _ _))
theorem rtube_ok (S : Nat) (r h : Int) (m : AMem) (hS : 3 ≤ S ∧ S ≤ 64) : Ctr Try.prog 35 [.one (.int .i64 (S : Int)), .one (.int .i64 r), .one (.int .i64 h)] m (.tup [(true, [.sl m.length 0 0 (2 * S), .sl (m.length + 1) 0 0 (2 * S)]), (false, [.int .i64 0])]) (m ++ [⟨.grow, 24, 0, 3, tL (tuP S r h)⟩, ⟨.grow, 54, 0, 3, tL (tuF S)⟩]) := by
  refine Ctr.enter Try.func35 rfl (by decide) (rs := [.cell 6 34, .tmp 7]) (nt := 75) rfl rfl fun hwf Q hQ => ?_
  have hlt0 : ∀ k, ¬ m.length + k < m.length := fun k => by omega
  have w1 : ¬ (S : Int) < 3 := by omega
  have w2 : ¬ (64 : Int) < (S : Int) := by omega
  refine AW.seq_k fun K hK => ?_
  refine AW.region (by decide) ?_
  simp only [push_cast, simprocAttr, w1, w2]
  refine Thn_n ?_
  refine hK _ _ ?_
  clear hK K
  refine AW.seq_k fun K hK => ?_
  refine AW.seq_k fun K hK => ?_
  refine AW.region (by decide) ?_
  simp only [push_cast, simprocAttr, w1, w2]
  refine Thn_n ?_
  refine hK _ _ ?_
  clear hK K
  refine AW.cond_f rfl ?_
  refine AW.skip ?_
  refine Thn_n ?_
  refine hK _ _ ?_
  clear hK K
  refine AW.seq_k fun K hK => ?_
  refine AW.region (by decide) ?_
  simp only [push_cast, simprocAttr, w1, w2]
  refine Thn_n ?_
  refine hK _ _ ?_
  clear hK K
  refine AW.seq_k fun K hK => ?_
  refine AW.seq_k fun K hK => ?_
  refine AW.nilCell 24 3 (m.length + 1) 0 (by simp only [push_cast, simprocAttr]; first | done | rfl) (by intro e; cases e) rfl ?_
  try simp only [push_cast, simprocAttr]
  refine AW.region (by decide) ?_
  simp only [push_cast, simprocAttr, w1, w2]
  refine Thn_n ?_
  refine hK _ _ ?_
  clear hK K
  refine AW.block ?_
  refine AW.loopK [0, 1, 2, 6, 8] (fun k => k ≤ S) (fun k => [(9, .one (.int .i64 (k : Int)))]) (fun k => [(m.length + 1, ⟨.fix, 34, 0, 0, [.sl (m.length + 2) (k) 0 (2 * (k)), .nils]⟩), (m.length + 2, ⟨.grow, 24, k, 3, tL ((List.range (k)).flatMap (tbP S r h))⟩)]) (fun k => S - k) 0 (by omega) ?_ ?_ fun k hi7 => ?_
  · first | rfl | (simp only [Keeps, Tm.get_cons, Nat.reduceEqDiff, ↓reduceIte, if_true, if_false, ite_true, ite_false, true_and, and_true, and_self, reduceCtorEq, Int.natCast_zero, Nat.mul_zero, List.range_zero, List.flatMap_nil, tL] <;> rfl)
  · first | rfl | (simp only [setAll, push_cast, simprocAttr, w1, w2, Int.natCast_zero, Nat.mul_zero, List.range_zero, List.flatMap_nil, tL] <;> rfl)
  try simp only [keepL, setAll, push_cast, simprocAttr, w1, w2]
  refine AW.seq_k fun K hK => ?_
  refine AW.seq_k fun K hK => ?_
  refine AW.region (by decide) ?_
  simp only [push_cast, simprocAttr, w1, w2]
  refine Thn_n ?_
  refine hK _ _ ?_
  clear hK K
  refine AW.cond rfl (fun h24 => ?_) (fun h24 => ?_)
  · have hlt : k < S := by have := of_decide_eq_true h24; omega
    have hst0 := congrArg tL (rf_s (tbP S r h) k)
    rw [← tL_app] at hst0
    have hst : tL ((List.range k).flatMap (tbP S r h)) ++ [.int .i64 (mulI r (cosI (tbT S k))), .int .i64 0, .int .i64 (mulI r (sinI (tbT S k))), .int .i64 (mulI r (cosI (tbT S k))), .int .i64 h, .int .i64 (mulI r (sinI (tbT S k)))] = tL ((List.range (k + 1)).flatMap (tbP S r h)) := by rw [hst0]; rfl
    have htk : (tL ((List.range k).flatMap (tbP S r h))).length = 2 * k * 3 := by rw [tL_len, tbP_len]
    have ht0 : divI (ofI (k : Int)) (ofI (S : Int)) = tbT S k := rfl
    have h2k : 2 * (k + 1) = 2 * k + 2 := by omega
    have m1 : 2 * k + 2 ≤ 140737488355328 := by omega
    have m2 : (2 * k + 2) * 24 ≤ 140737488355328 := by omega
    refine AW.skip ?_
    refine Thn_n ?_
    refine hK _ _ ?_
    clear hK K
    refine AW.seq_k fun K hK => ?_
    refine AW.block ?_
    refine AW.seq_k fun K hK => ?_
    refine AW.region (by decide) ?_
    iterate 2
      simp only [push_cast, simprocAttr, w1, w2, ht0, htk, m1, m2]
      refine CThen.by (rof_c _ _) ?_
    simp only [push_cast, simprocAttr, w1, w2, ht0, htk, m1, m2]
    refine CThen.by (rdiv_c _ _ _) ?_
    simp only [push_cast, simprocAttr, w1, w2, ht0, htk, m1, m2]
    refine Thn_n ?_
    refine hK _ _ ?_
    clear hK K
    refine AW.seq_k fun K hK => ?_
    refine AW.region (by decide) ?_
    simp only [push_cast, simprocAttr, w1, w2, ht0, htk, m1, m2]
    refine CThen.by (rwcos_c _ _) ?_
    simp only [push_cast, simprocAttr, w1, w2, ht0, htk, m1, m2]
    refine CThen.by (rmul_c _ _ _) ?_
    simp only [push_cast, simprocAttr, w1, w2, ht0, htk, m1, m2]
    refine Thn_n ?_
    refine hK _ _ ?_
    clear hK K
    refine AW.seq_k fun K hK => ?_
    refine AW.region (by decide) ?_
    simp only [push_cast, simprocAttr, w1, w2, ht0, htk, m1, m2]
    refine CThen.by (rwsin_c _ _) ?_
    simp only [push_cast, simprocAttr, w1, w2, ht0, htk, m1, m2]
    refine CThen.by (rmul_c _ _ _) ?_
    simp only [push_cast, simprocAttr, w1, w2, ht0, htk, m1, m2]
    refine Thn_n ?_
    refine hK _ _ ?_
    clear hK K
    refine AW.region (by decide) ?_
    simp only [push_cast, simprocAttr, w1, w2, ht0, htk, m1, m2]
    refine InB_n ?_
    refine Thn_n ?_
    refine hK _ _ ?_
    clear hK K
    refine AW.region (by decide) ?_
    simp only [push_cast, simprocAttr, w1, w2, ht0, htk, m1, m2]
    refine Thn_n ?_
    have hwi : IntKind.i64.wrap ((k:Int)+1) = (k:Int)+1 := wi (by omega)
    refine ⟨k + 1, by omega, by omega, ?_⟩
    try simp only [keepL, setAll, push_cast, simprocAttr, w1, w2, ht0, htk, m1, m2, hwi, hst, h2k]
    exact Weak.to (extra := [_]) (by simp only [Keeps, Tm.get_cons, Nat.reduceEqDiff, ↓reduceIte, if_true, if_false, ite_true, ite_false, true_and, and_true, and_self, reduceCtorEq, hwi, hst, h2k]) (by first | rfl | (simp only [List.append_assoc, List.cons_append, List.nil_append]; rfl)) (by first | rfl | (simp [AV.below, CV.below, tL_below]; done) | (simp [AV.below, CV.below, tL_below]; omega)) (by
      first | exact hwf | refine MWf.app (hwf.grow (by simp)) ?_
      repeat (first | exact MWf_nil | (refine MWf_cons ?_ ?_; · first | rfl | (simp [CV.below, tL_below]; done) | (simp [CV.below, tL_below]; omega))))
  · have hk0 : k = S := by have := of_decide_eq_false h24; omega
    have hk1 := hk0.symm
    subst hk1
    refine AW.exit ?_
    refine Thn_e ?_
    clear hK K
    refine Thn_e ?_
    refine InB_here ?_
    refine Thn_n ?_
    refine hK _ _ ?_
    clear hK K
    refine AW.seq_k fun K hK => ?_
    refine AW.seq_k fun K hK => ?_
    refine AW.nilCell 54 3 (m.length + 1) 1 (by simp only [push_cast, simprocAttr]; first | done | rfl) (by intro e; cases e) rfl ?_
    try simp only [push_cast, simprocAttr]
    refine AW.region (by decide) ?_
    simp only [push_cast, simprocAttr, w1, w2]
    refine Thn_n ?_
    refine hK _ _ ?_
    clear hK K
    refine AW.block ?_
    refine AW.loopK [0, 6, 8] (fun k => k ≤ S) (fun k => [(13, .one (.int .i64 (k : Int)))]) (fun k => [(m.length + 1, ⟨.fix, 34, 0, 0, [.sl (m.length + 2) S 0 (2 * S), .sl (m.length + 3) (2 * k) 0 (2 * (k))]⟩), (m.length + 3, ⟨.grow, 54, 2 * k, 3, tL ((List.range (k)).flatMap (tbF S))⟩)]) (fun k => S - k) 0 (by omega) ?_ ?_ fun k hi16 => ?_
    · first | rfl | (simp only [Keeps, Tm.get_cons, Nat.reduceEqDiff, ↓reduceIte, if_true, if_false, ite_true, ite_false, true_and, and_true, and_self, reduceCtorEq, Int.natCast_zero, Nat.mul_zero, List.range_zero, List.flatMap_nil, tL] <;> rfl)
    · first | rfl | (simp only [setAll, push_cast, simprocAttr, w1, w2, Int.natCast_zero, Nat.mul_zero, List.range_zero, List.flatMap_nil, tL] <;> rfl)
    try simp only [keepL, setAll, push_cast, simprocAttr, w1, w2]
    refine AW.seq_k fun K hK => ?_
    refine AW.seq_k fun K hK => ?_
    refine AW.region (by decide) ?_
    simp only [push_cast, simprocAttr, w1, w2]
    refine Thn_n ?_
    refine hK _ _ ?_
    clear hK K
    refine AW.cond rfl (fun h54 => ?_) (fun h54 => ?_)
    · have hlt : k < S := by have := of_decide_eq_true h54; omega
      obtain ⟨q, hq⟩ : ∃ q, q = (k + 1) % S := ⟨_, rfl⟩
      have hq1 : q < S := by rw [hq]; exact Nat.mod_lt _ (by omega)
      have e1 : ((k : Int) + 1).tmod (S : Int) = (q : Int) := by rw [Int.tmod_eq_emod_of_nonneg (by omega), hq]; push_cast; rfl
      have c0 : ¬ (S : Int) = 0 := by omega
      have e2 : IntKind.i64.wrap (q : Int) = (q : Int) := wi (by omega)
      have e3 : IntKind.i64.wrap (2 * (k : Int)) = 2 * (k : Int) := wi (by omega)
      have e4 : IntKind.i64.wrap (2 * (q : Int)) = 2 * (q : Int) := wi (by omega)
      have e5 : IntKind.i64.wrap (2 * (q : Int) + 1) = 2 * (q : Int) + 1 := wi (by omega)
      have e6 : IntKind.i64.wrap (2 * (k : Int) + 1) = 2 * (k : Int) + 1 := wi (by omega)
      have hwi : IntKind.i64.wrap ((k : Int) + 1) = (k : Int) + 1 := wi (by omega)
      have h2k : 2 * (k + 1) = 2 * k + 2 := by omega
      have hst : (List.range k).flatMap (tbF S) ++ [(2 * (k : Int), 2 * (q : Int), 2 * (q : Int) + 1), (2 * (k : Int), 2 * (q : Int) + 1, 2 * (k : Int) + 1)] = (List.range (k + 1)).flatMap (tbF S) := by
        rw [rf_s, hq]; rfl
      refine AW.skip ?_
      refine Thn_n ?_
      refine hK _ _ ?_
      clear hK K
      refine AW.seq_k fun K hK => ?_
      refine AW.block ?_
      refine AW.seq_k fun K hK => ?_
      refine AW.region (by decide) ?_
      simp only [push_cast, simprocAttr, w1, w2, e1, c0, e2, e3, e4, e5, e6, hwi]
      refine Thn_n ?_
      refine hK _ _ ?_
      clear hK K
      refine AW.seq_k fun K hK => ?_
      refine AW.seq_k fun K hK => ?_
      refine AW.region (by decide) ?_
      simp only [push_cast, simprocAttr, w1, w2, e1, c0, e2, e3, e4, e5, e6, hwi]
      refine Thn_n ?_
      refine hK _ _ ?_
      clear hK K
      refine AW.condJ rfl [0, 6, 8, 13] [(14, .one (.int .i64 (q : Int)))] [] (fun h61 => ?_) (fun h61 => ?_) ?_
      · have hq0 : (q : Int) = 0 := by
          have h1 := of_decide_eq_true h61
          have : k + 1 = S := by omega
          rw [hq, this, Nat.mod_self]; rfl
        refine AW.region (by decide) ?_
        simp only [push_cast, simprocAttr, w1, w2, e1, c0, e2, e3, e4, e5, e6, hwi]
        refine Thn_n ?_
        try simp only [keepL, setAll, push_cast, simprocAttr, w1, w2, e1, c0, e2, e3, e4, e5, e6, hwi, hq0]
        exact Weak.same (by simp only [Keeps, Tm.get_cons, Nat.reduceEqDiff, ↓reduceIte, if_true, if_false, ite_true, ite_false, true_and, and_true, and_self, reduceCtorEq, hq0]) (by first | rfl | simp only [Keeps, Tm.get_cons, Nat.reduceEqDiff, ↓reduceIte, if_true, if_false, ite_true, ite_false, true_and, and_true, and_self, reduceCtorEq, hq0])
      · have hq0 : (q : Int) = (k : Int) + 1 := by
          have h1 := of_decide_eq_false h61
          have h2 : k + 1 < S := by omega
          rw [hq, Nat.mod_eq_of_lt h2]; push_cast; rfl
        refine AW.skip ?_
        refine Thn_n ?_
        try simp only [keepL, setAll, push_cast, simprocAttr, w1, w2, e1, c0, e2, e3, e4, e5, e6, hwi, hq0]
        exact Weak.same (by simp only [Keeps, Tm.get_cons, Nat.reduceEqDiff, ↓reduceIte, if_true, if_false, ite_true, ite_false, true_and, and_true, and_self, reduceCtorEq, hq0]) (by first | rfl | simp only [Keeps, Tm.get_cons, Nat.reduceEqDiff, ↓reduceIte, if_true, if_false, ite_true, ite_false, true_and, and_true, and_self, reduceCtorEq, hq0])
      try simp only [keepL, setAll, push_cast, simprocAttr, w1, w2, e1, c0, e2, e3, e4, e5, e6, hwi]
      refine Thn_n ?_
      refine hK _ _ ?_
      clear hK K
      refine AW.region (by decide) ?_
      simp only [push_cast, simprocAttr, w1, w2, e1, c0, e2, e3, e4, e5, e6, hwi]
      refine CThen.by (field_c (m.length + 3) (2 * k) (2 * k) (m.length + 2) S (2 * S) ((List.range k).flatMap (tbF S)) _ _ _ _ _ (by simp) (by simp only [push_cast, simprocAttr]) (tbF_len S k) (by omega)) ?_
      simp only [push_cast, simprocAttr, w1, w2, e1, c0, e2, e3, e4, e5, e6, hwi]
      refine InB_n ?_
      refine Thn_n ?_
      refine hK _ _ ?_
      clear hK K
      refine AW.region (by decide) ?_
      simp only [push_cast, simprocAttr, w1, w2, e1, c0, e2, e3, e4, e5, e6, hwi]
      refine Thn_n ?_
      refine ⟨k + 1, by omega, by omega, ?_⟩
      try simp only [keepL, setAll, push_cast, simprocAttr, w1, w2, e1, c0, e2, e3, e4, e5, e6, hwi, hwi, hst, h2k]
      exact Weak.same (by simp only [Keeps, Tm.get_cons, Nat.reduceEqDiff, ↓reduceIte, if_true, if_false, ite_true, ite_false, true_and, and_true, and_self, reduceCtorEq, hwi, hst, h2k]) (by first | rfl | simp only [Keeps, Tm.get_cons, Nat.reduceEqDiff, ↓reduceIte, if_true, if_false, ite_true, ite_false, true_and, and_true, and_self, reduceCtorEq, hwi, hst, h2k])
    · have hk0 : k = S := by have := of_decide_eq_false h54; omega
      have hk1 := hk0.symm
      subst hk1
      refine AW.exit ?_
      refine Thn_e ?_
      clear hK K
      refine Thn_e ?_
      refine InB_here ?_
      refine Thn_n ?_
      refine hK _ _ ?_
      clear hK K
      refine AW.seq_k fun K hK => ?_
      refine AW.region (by decide) ?_
      simp only [push_cast, simprocAttr, w1, w2]
      refine Thn_n ?_
      refine hK _ _ ?_
      clear hK K
      refine AW.ret ?_
      refine hQ _ _ _ ?_
      refine RetP.pick [(m.length + 2, S), (m.length + 3, 2 * S)] (Or.inr rfl) ?_ ?_ ?_ hwf ?_
      · simp only [resA, resOne, resTv, AV.tv, push_cast, simprocAttr]
        simp [renV, renT, renL, renC, renIdx, hlt0]
      · simp only [picks, push_cast, simprocAttr, tuP, tuF]
      · simp [distinctFrom]
      · exact MWf_cons (tL_below _ _) (MWf_one (tL_below _ _))
end Go.Proofs.Ytiogpaehelpmhaa

set_option linter.unusedSimpArgs false
set_option linter.unusedVariables false
set_option maxRecDepth 100000
set_option maxHeartbeats 4000000
namespace Go.Proofs.Ytiogpaehelpmhaa
open Go Go.Eng

def crP (a0 a1 a2 : Int) : List T3 := [(subI 0 (mulI a0 32768), subI 0 (mulI a1 32768), subI 0 (mulI a2 32768)), (mulI a0 32768, subI 0 (mulI a1 32768), subI 0 (mulI a2 32768)), (subI 0 (mulI a0 32768), mulI a1 32768, subI 0 (mulI a2 32768)), (mulI a0 32768, mulI a1 32768, subI 0 (mulI a2 32768)), (subI 0 (mulI a0 32768), subI 0 (mulI a1 32768), mulI a2 32768), (mulI a0 32768, subI 0 (mulI a1 32768), mulI a2 32768), (subI 0 (mulI a0 32768), mulI a1 32768, mulI a2 32768), (mulI a0 32768, mulI a1 32768, mulI a2 32768)]
def crF : List T3 := [(0, 1, 3), (0, 3, 2), (4, 6, 7), (4, 7, 5), (0, 4, 5), (0, 5, 1), (2, 3, 7), (2, 7, 6), (0, 2, 6), (0, 6, 4), (1, 5, 7), (1, 7, 3)]
theorem crate_c (a0 a1 a2 : Int) (m : AMem) : Ctr Try.prog 23 [.agg [.int .i64 a0, .int .i64 a1, .int .i64 a2]] m (.agg [.sl m.length 0 0 8, .sl (m.length + 1) 0 0 12]) (m ++ [⟨.grow, 49, 0, 3, tL (crP a0 a1 a2)⟩, ⟨.grow, 54, 0, 3, tL crF⟩]) := by
  refine Ctr.enter Try.func23 rfl (by decide) (rs := [.cell 2 37]) (nt := 62) rfl rfl fun hwf Q hQ => ?_
  have hlt0 : ∀ k, ¬ m.length + k < m.length := fun k => by omega
  refine AW.seq_k fun K hK => ?_
  refine AW.region (by decide) ?_
  simp only [push_cast, simprocAttr]
  refine Thn_n ?_
  refine hK _ _ ?_
  clear hK K
  refine AW.seq_k fun K hK => ?_
  refine AW.region (by decide) ?_
  simp only [push_cast, simprocAttr]
  refine CThen.by (vscale_c _ _ _ _ _) ?_
  simp only [push_cast, simprocAttr]
  refine Thn_n ?_
  refine hK _ _ ?_
  clear hK K
  refine AW.seq_k fun K hK => ?_
  refine AW.region (by decide) ?_
  simp only [push_cast, simprocAttr]
  refine Thn_n ?_
  refine hK _ _ ?_
  clear hK K
  refine AW.seq_k fun K hK => ?_
  refine AW.seq_k fun K hK => ?_
  refine AW.nilCell 49 3 (m.length + 3) 0 (by simp only [push_cast, simprocAttr]; first | done | rfl) (by intro e; cases e) rfl ?_
  try simp only [push_cast, simprocAttr]
  refine AW.region (by decide) ?_
  simp only [push_cast, simprocAttr]
  refine Thn_n ?_
  refine hK _ _ ?_
  clear hK K
  refine AW.block ?_
  refine AW.rounds 9 ?_
  refine ARounds.succ fun K hK => ?_
  refine AW.seq_k fun K hK => ?_
  refine AW.region (by decide) ?_
  simp only [push_cast, simprocAttr]
  refine Thn_n ?_
  refine hK _ _ ?_
  clear hK K
  refine AW.seq_k fun K hK => ?_
  refine AW.cond_t rfl ?_
  refine AW.skip ?_
  refine Thn_n ?_
  refine hK _ _ ?_
  clear hK K
  refine AW.seq_k fun K hK => ?_
  refine AW.block ?_
  refine AW.seq_k fun K hK => ?_
  refine AW.region (by decide) ?_
  simp only [push_cast, simprocAttr]
  refine Thn_n ?_
  refine hK _ _ ?_
  clear hK K
  refine AW.seq_k fun K hK => ?_
  refine AW.region (by decide) ?_
  simp only [push_cast, simprocAttr]
  refine CThen.by (vneg_c _ _ _ _) ?_
  simp only [push_cast, simprocAttr]
  iterate 3
    refine Thn_n ?_
    refine hK _ _ ?_
    clear hK K
    refine AW.seq_k fun K hK => ?_
    refine AW.seq_k fun K hK => ?_
    refine AW.region (by decide) ?_
    simp only [push_cast, simprocAttr]
    refine Thn_n ?_
    refine hK _ _ ?_
    clear hK K
    refine AW.cond_f rfl ?_
    refine AW.skip ?_
  refine Thn_n ?_
  refine hK _ _ ?_
  clear hK K
  refine AW.region (by decide) ?_
  simp only [push_cast, simprocAttr]
  refine InB_n ?_
  refine Thn_n ?_
  refine hK _ _ ?_
  clear hK K
  refine AW.region (by decide) ?_
  simp only [push_cast, simprocAttr]
  refine Thn_n ?_
  refine hK _ _ ?_
  clear hK K
  refine ARounds.succ fun K hK => ?_
  refine AW.seq_k fun K hK => ?_
  refine AW.region (by decide) ?_
  simp only [push_cast, simprocAttr]
  refine Thn_n ?_
  refine hK _ _ ?_
  clear hK K
  refine AW.seq_k fun K hK => ?_
  refine AW.cond_t rfl ?_
  refine AW.skip ?_
  refine Thn_n ?_
  refine hK _ _ ?_
  clear hK K
  refine AW.seq_k fun K hK => ?_
  refine AW.block ?_
  refine AW.seq_k fun K hK => ?_
  refine AW.region (by decide) ?_
  simp only [push_cast, simprocAttr]
  refine Thn_n ?_
  refine hK _ _ ?_
  clear hK K
  refine AW.seq_k fun K hK => ?_
  refine AW.region (by decide) ?_
  simp only [push_cast, simprocAttr]
  refine CThen.by (vneg_c _ _ _ _) ?_
  simp only [push_cast, simprocAttr]
  refine Thn_n ?_
  refine hK _ _ ?_
  clear hK K
  refine AW.seq_k fun K hK => ?_
  refine AW.seq_k fun K hK => ?_
  refine AW.region (by decide) ?_
  simp only [push_cast, simprocAttr]
  refine Thn_n ?_
  refine hK _ _ ?_
  clear hK K
  refine AW.cond_t rfl ?_
  refine AW.region (by decide) ?_
  simp only [push_cast, simprocAttr]
  iterate 2
    refine Thn_n ?_
    refine hK _ _ ?_
    clear hK K
    refine AW.seq_k fun K hK => ?_
    refine AW.seq_k fun K hK => ?_
    refine AW.region (by decide) ?_
    simp only [push_cast, simprocAttr]
    refine Thn_n ?_
    refine hK _ _ ?_
    clear hK K
    refine AW.cond_f rfl ?_
    refine AW.skip ?_
  refine Thn_n ?_
  refine hK _ _ ?_
  clear hK K
  refine AW.region (by decide) ?_
  simp only [push_cast, simprocAttr]
  refine InB_n ?_
  refine Thn_n ?_
  refine hK _ _ ?_
  clear hK K
  refine AW.region (by decide) ?_
  simp only [push_cast, simprocAttr]
  refine Thn_n ?_
  refine hK _ _ ?_
  clear hK K
  refine ARounds.succ fun K hK => ?_
  refine AW.seq_k fun K hK => ?_
  refine AW.region (by decide) ?_
  simp only [push_cast, simprocAttr]
  refine Thn_n ?_
  refine hK _ _ ?_
  clear hK K
  refine AW.seq_k fun K hK => ?_
  refine AW.cond_t rfl ?_
  refine AW.skip ?_
  refine Thn_n ?_
  refine hK _ _ ?_
  clear hK K
  refine AW.seq_k fun K hK => ?_
  refine AW.block ?_
  refine AW.seq_k fun K hK => ?_
  refine AW.region (by decide) ?_
  simp only [push_cast, simprocAttr]
  refine Thn_n ?_
  refine hK _ _ ?_
  clear hK K
  refine AW.seq_k fun K hK => ?_
  refine AW.region (by decide) ?_
  simp only [push_cast, simprocAttr]
  refine CThen.by (vneg_c _ _ _ _) ?_
  simp only [push_cast, simprocAttr]
  refine Thn_n ?_
  refine hK _ _ ?_
  clear hK K
  refine AW.seq_k fun K hK => ?_
  refine AW.seq_k fun K hK => ?_
  refine AW.region (by decide) ?_
  simp only [push_cast, simprocAttr]
  refine Thn_n ?_
  refine hK _ _ ?_
  clear hK K
  refine AW.cond_f rfl ?_
  refine AW.skip ?_
  refine Thn_n ?_
  refine hK _ _ ?_
  clear hK K
  refine AW.seq_k fun K hK => ?_
  refine AW.seq_k fun K hK => ?_
  refine AW.region (by decide) ?_
  simp only [push_cast, simprocAttr]
  refine Thn_n ?_
  refine hK _ _ ?_
  clear hK K
  refine AW.cond_t rfl ?_
  refine AW.region (by decide) ?_
  simp only [push_cast, simprocAttr]
  refine Thn_n ?_
  refine hK _ _ ?_
  clear hK K
  refine AW.seq_k fun K hK => ?_
  refine AW.seq_k fun K hK => ?_
  refine AW.region (by decide) ?_
  simp only [push_cast, simprocAttr]
  refine Thn_n ?_
  refine hK _ _ ?_
  clear hK K
  refine AW.cond_f rfl ?_
  refine AW.skip ?_
  refine Thn_n ?_
  refine hK _ _ ?_
  clear hK K
  refine AW.region (by decide) ?_
  simp only [push_cast, simprocAttr]
  refine InB_n ?_
  refine Thn_n ?_
  refine hK _ _ ?_
  clear hK K
  refine AW.region (by decide) ?_
  simp only [push_cast, simprocAttr]
  refine Thn_n ?_
  refine hK _ _ ?_
  clear hK K
  refine ARounds.succ fun K hK => ?_
  refine AW.seq_k fun K hK => ?_
  refine AW.region (by decide) ?_
  simp only [push_cast, simprocAttr]
  refine Thn_n ?_
  refine hK _ _ ?_
  clear hK K
  refine AW.seq_k fun K hK => ?_
  refine AW.cond_t rfl ?_
  refine AW.skip ?_
  refine Thn_n ?_
  refine hK _ _ ?_
  clear hK K
  refine AW.seq_k fun K hK => ?_
  refine AW.block ?_
  refine AW.seq_k fun K hK => ?_
  refine AW.region (by decide) ?_
  simp only [push_cast, simprocAttr]
  refine Thn_n ?_
  refine hK _ _ ?_
  clear hK K
  refine AW.seq_k fun K hK => ?_
  refine AW.region (by decide) ?_
  simp only [push_cast, simprocAttr]
  refine CThen.by (vneg_c _ _ _ _) ?_
  iterate 2
    simp only [push_cast, simprocAttr]
    refine Thn_n ?_
    refine hK _ _ ?_
    clear hK K
    refine AW.seq_k fun K hK => ?_
    refine AW.seq_k fun K hK => ?_
    refine AW.region (by decide) ?_
    simp only [push_cast, simprocAttr]
    refine Thn_n ?_
    refine hK _ _ ?_
    clear hK K
    refine AW.cond_t rfl ?_
    refine AW.region (by decide) ?_
  simp only [push_cast, simprocAttr]
  refine Thn_n ?_
  refine hK _ _ ?_
  clear hK K
  refine AW.seq_k fun K hK => ?_
  refine AW.seq_k fun K hK => ?_
  refine AW.region (by decide) ?_
  simp only [push_cast, simprocAttr]
  refine Thn_n ?_
  refine hK _ _ ?_
  clear hK K
  refine AW.cond_f rfl ?_
  refine AW.skip ?_
  refine Thn_n ?_
  refine hK _ _ ?_
  clear hK K
  refine AW.region (by decide) ?_
  simp only [push_cast, simprocAttr]
  refine InB_n ?_
  refine Thn_n ?_
  refine hK _ _ ?_
  clear hK K
  refine AW.region (by decide) ?_
  simp only [push_cast, simprocAttr]
  refine Thn_n ?_
  refine hK _ _ ?_
  clear hK K
  refine ARounds.succ fun K hK => ?_
  refine AW.seq_k fun K hK => ?_
  refine AW.region (by decide) ?_
  simp only [push_cast, simprocAttr]
  refine Thn_n ?_
  refine hK _ _ ?_
  clear hK K
  refine AW.seq_k fun K hK => ?_
  refine AW.cond_t rfl ?_
  refine AW.skip ?_
  refine Thn_n ?_
  refine hK _ _ ?_
  clear hK K
  refine AW.seq_k fun K hK => ?_
  refine AW.block ?_
  refine AW.seq_k fun K hK => ?_
  refine AW.region (by decide) ?_
  simp only [push_cast, simprocAttr]
  refine Thn_n ?_
  refine hK _ _ ?_
  clear hK K
  refine AW.seq_k fun K hK => ?_
  refine AW.region (by decide) ?_
  simp only [push_cast, simprocAttr]
  refine CThen.by (vneg_c _ _ _ _) ?_
  simp only [push_cast, simprocAttr]
  iterate 2
    refine Thn_n ?_
    refine hK _ _ ?_
    clear hK K
    refine AW.seq_k fun K hK => ?_
    refine AW.seq_k fun K hK => ?_
    refine AW.region (by decide) ?_
    simp only [push_cast, simprocAttr]
    refine Thn_n ?_
    refine hK _ _ ?_
    clear hK K
    refine AW.cond_f rfl ?_
    refine AW.skip ?_
  refine Thn_n ?_
  refine hK _ _ ?_
  clear hK K
  refine AW.seq_k fun K hK => ?_
  refine AW.seq_k fun K hK => ?_
  refine AW.region (by decide) ?_
  simp only [push_cast, simprocAttr]
  refine Thn_n ?_
  refine hK _ _ ?_
  clear hK K
  refine AW.cond_t rfl ?_
  refine AW.region (by decide) ?_
  simp only [push_cast, simprocAttr]
  refine Thn_n ?_
  refine hK _ _ ?_
  clear hK K
  refine AW.region (by decide) ?_
  simp only [push_cast, simprocAttr]
  refine InB_n ?_
  refine Thn_n ?_
  refine hK _ _ ?_
  clear hK K
  refine AW.region (by decide) ?_
  simp only [push_cast, simprocAttr]
  refine Thn_n ?_
  refine hK _ _ ?_
  clear hK K
  refine ARounds.succ fun K hK => ?_
  refine AW.seq_k fun K hK => ?_
  refine AW.region (by decide) ?_
  simp only [push_cast, simprocAttr]
  refine Thn_n ?_
  refine hK _ _ ?_
  clear hK K
  refine AW.seq_k fun K hK => ?_
  refine AW.cond_t rfl ?_
  refine AW.skip ?_
  refine Thn_n ?_
  refine hK _ _ ?_
  clear hK K
  refine AW.seq_k fun K hK => ?_
  refine AW.block ?_
  refine AW.seq_k fun K hK => ?_
  refine AW.region (by decide) ?_
  simp only [push_cast, simprocAttr]
  refine Thn_n ?_
  refine hK _ _ ?_
  clear hK K
  refine AW.seq_k fun K hK => ?_
  refine AW.region (by decide) ?_
  simp only [push_cast, simprocAttr]
  refine CThen.by (vneg_c _ _ _ _) ?_
  simp only [push_cast, simprocAttr]
  refine Thn_n ?_
  refine hK _ _ ?_
  clear hK K
  refine AW.seq_k fun K hK => ?_
  refine AW.seq_k fun K hK => ?_
  refine AW.region (by decide) ?_
  simp only [push_cast, simprocAttr]
  refine Thn_n ?_
  refine hK _ _ ?_
  clear hK K
  refine AW.cond_t rfl ?_
  refine AW.region (by decide) ?_
  simp only [push_cast, simprocAttr]
  refine Thn_n ?_
  refine hK _ _ ?_
  clear hK K
  refine AW.seq_k fun K hK => ?_
  refine AW.seq_k fun K hK => ?_
  refine AW.region (by decide) ?_
  simp only [push_cast, simprocAttr]
  refine Thn_n ?_
  refine hK _ _ ?_
  clear hK K
  refine AW.cond_f rfl ?_
  refine AW.skip ?_
  refine Thn_n ?_
  refine hK _ _ ?_
  clear hK K
  refine AW.seq_k fun K hK => ?_
  refine AW.seq_k fun K hK => ?_
  refine AW.region (by decide) ?_
  simp only [push_cast, simprocAttr]
  refine Thn_n ?_
  refine hK _ _ ?_
  clear hK K
  refine AW.cond_t rfl ?_
  refine AW.region (by decide) ?_
  simp only [push_cast, simprocAttr]
  refine Thn_n ?_
  refine hK _ _ ?_
  clear hK K
  refine AW.region (by decide) ?_
  simp only [push_cast, simprocAttr]
  refine InB_n ?_
  refine Thn_n ?_
  refine hK _ _ ?_
  clear hK K
  refine AW.region (by decide) ?_
  simp only [push_cast, simprocAttr]
  refine Thn_n ?_
  refine hK _ _ ?_
  clear hK K
  refine ARounds.succ fun K hK => ?_
  refine AW.seq_k fun K hK => ?_
  refine AW.region (by decide) ?_
  simp only [push_cast, simprocAttr]
  refine Thn_n ?_
  refine hK _ _ ?_
  clear hK K
  refine AW.seq_k fun K hK => ?_
  refine AW.cond_t rfl ?_
  refine AW.skip ?_
  refine Thn_n ?_
  refine hK _ _ ?_
  clear hK K
  refine AW.seq_k fun K hK => ?_
  refine AW.block ?_
  refine AW.seq_k fun K hK => ?_
  refine AW.region (by decide) ?_
  simp only [push_cast, simprocAttr]
  refine Thn_n ?_
  refine hK _ _ ?_
  clear hK K
  refine AW.seq_k fun K hK => ?_
  refine AW.region (by decide) ?_
  simp only [push_cast, simprocAttr]
  refine CThen.by (vneg_c _ _ _ _) ?_
  simp only [push_cast, simprocAttr]
  refine Thn_n ?_
  refine hK _ _ ?_
  clear hK K
  refine AW.seq_k fun K hK => ?_
  refine AW.seq_k fun K hK => ?_
  refine AW.region (by decide) ?_
  simp only [push_cast, simprocAttr]
  refine Thn_n ?_
  refine hK _ _ ?_
  clear hK K
  refine AW.cond_f rfl ?_
  refine AW.skip ?_
  iterate 2
    refine Thn_n ?_
    refine hK _ _ ?_
    clear hK K
    refine AW.seq_k fun K hK => ?_
    refine AW.seq_k fun K hK => ?_
    refine AW.region (by decide) ?_
    simp only [push_cast, simprocAttr]
    refine Thn_n ?_
    refine hK _ _ ?_
    clear hK K
    refine AW.cond_t rfl ?_
    refine AW.region (by decide) ?_
    simp only [push_cast, simprocAttr]
  refine Thn_n ?_
  refine hK _ _ ?_
  clear hK K
  refine AW.region (by decide) ?_
  simp only [push_cast, simprocAttr]
  refine InB_n ?_
  refine Thn_n ?_
  refine hK _ _ ?_
  clear hK K
  refine AW.region (by decide) ?_
  simp only [push_cast, simprocAttr]
  refine Thn_n ?_
  refine hK _ _ ?_
  clear hK K
  refine ARounds.succ fun K hK => ?_
  refine AW.seq_k fun K hK => ?_
  refine AW.region (by decide) ?_
  simp only [push_cast, simprocAttr]
  refine Thn_n ?_
  refine hK _ _ ?_
  clear hK K
  refine AW.seq_k fun K hK => ?_
  refine AW.cond_t rfl ?_
  refine AW.skip ?_
  refine Thn_n ?_
  refine hK _ _ ?_
  clear hK K
  refine AW.seq_k fun K hK => ?_
  refine AW.block ?_
  refine AW.seq_k fun K hK => ?_
  refine AW.region (by decide) ?_
  simp only [push_cast, simprocAttr]
  refine Thn_n ?_
  refine hK _ _ ?_
  clear hK K
  refine AW.seq_k fun K hK => ?_
  refine AW.region (by decide) ?_
  simp only [push_cast, simprocAttr]
  refine CThen.by (vneg_c _ _ _ _) ?_
  iterate 3
    simp only [push_cast, simprocAttr]
    refine Thn_n ?_
    refine hK _ _ ?_
    clear hK K
    refine AW.seq_k fun K hK => ?_
    refine AW.seq_k fun K hK => ?_
    refine AW.region (by decide) ?_
    simp only [push_cast, simprocAttr]
    refine Thn_n ?_
    refine hK _ _ ?_
    clear hK K
    refine AW.cond_t rfl ?_
    refine AW.region (by decide) ?_
  simp only [push_cast, simprocAttr]
  refine Thn_n ?_
  refine hK _ _ ?_
  clear hK K
  refine AW.region (by decide) ?_
  simp only [push_cast, simprocAttr]
  refine InB_n ?_
  refine Thn_n ?_
  refine hK _ _ ?_
  clear hK K
  refine AW.region (by decide) ?_
  simp only [push_cast, simprocAttr]
  refine Thn_n ?_
  refine hK _ _ ?_
  clear hK K
  refine ARounds.succ fun K hK => ?_
  refine AW.seq_k fun K hK => ?_
  refine AW.region (by decide) ?_
  simp only [push_cast, simprocAttr]
  refine Thn_n ?_
  refine hK _ _ ?_
  clear hK K
  refine AW.seq_k fun K hK => ?_
  refine AW.cond_f rfl ?_
  refine AW.exit ?_
  refine Thn_e ?_
  clear hK K
  refine Thn_e ?_
  clear hK K
  refine InB_here ?_
  refine Thn_n ?_
  refine hK _ _ ?_
  clear hK K
  refine AW.seq_k fun K hK => ?_
  refine AW.seq_k fun K hK => ?_
  refine AW.nilCell 54 3 (m.length + 3) 1 (by simp only [push_cast, simprocAttr]; first | done | rfl) (by intro e; cases e) rfl ?_
  try simp only [push_cast, simprocAttr]
  refine AW.region (by decide) ?_
  simp only [push_cast, simprocAttr]
  refine Thn_n ?_
  refine hK _ _ ?_
  clear hK K
  refine AW.block ?_
  refine AW.rounds 7 ?_
  refine ARounds.succ fun K hK => ?_
  refine AW.seq_k fun K hK => ?_
  refine AW.region (by decide) ?_
  simp only [push_cast, simprocAttr]
  refine Thn_n ?_
  refine hK _ _ ?_
  clear hK K
  refine AW.seq_k fun K hK => ?_
  refine AW.cond_t rfl ?_
  refine AW.skip ?_
  refine Thn_n ?_
  refine hK _ _ ?_
  clear hK K
  refine AW.seq_k fun K hK => ?_
  refine AW.block ?_
  refine AW.seq_k fun K hK => ?_
  refine AW.region (by decide) ?_
  simp only [push_cast, simprocAttr]
  refine Thn_n ?_
  refine hK _ _ ?_
  clear hK K
  refine AW.region (by decide) ?_
  simp only [push_cast, simprocAttr]
  refine CThen.by (quad_c (m.length + 3) (m.length + 21) 0 0 (.sl (m.length + 4) 8 0 8) [] 0 1 3 2 _ (by simp only [push_cast, simprocAttr]) (by simp only [push_cast, simprocAttr]; first | done | rfl) (by omega) rfl (by decide)) ?_
  simp only [push_cast, simprocAttr]
  refine InB_n ?_
  refine Thn_n ?_
  refine hK _ _ ?_
  clear hK K
  refine AW.region (by decide) ?_
  simp only [push_cast, simprocAttr]
  refine Thn_n ?_
  refine hK _ _ ?_
  clear hK K
  refine ARounds.succ fun K hK => ?_
  refine AW.seq_k fun K hK => ?_
  refine AW.region (by decide) ?_
  simp only [push_cast, simprocAttr]
  refine Thn_n ?_
  refine hK _ _ ?_
  clear hK K
  refine AW.seq_k fun K hK => ?_
  refine AW.cond_t rfl ?_
  refine AW.skip ?_
  refine Thn_n ?_
  refine hK _ _ ?_
  clear hK K
  refine AW.seq_k fun K hK => ?_
  refine AW.block ?_
  refine AW.seq_k fun K hK => ?_
  refine AW.region (by decide) ?_
  simp only [push_cast, simprocAttr]
  refine Thn_n ?_
  refine hK _ _ ?_
  clear hK K
  refine AW.region (by decide) ?_
  simp only [push_cast, simprocAttr]
  refine CThen.by (quad_c (m.length + 3) (m.length + 21) 1 2 (.sl (m.length + 4) 8 0 8) [(0, 1, 3), (0, 3, 2)] 4 6 7 5 _ (by simp only [push_cast, simprocAttr]) (by simp only [push_cast, simprocAttr]; first | done | rfl) (by omega) rfl (by decide)) ?_
  simp only [push_cast, simprocAttr]
  refine InB_n ?_
  refine Thn_n ?_
  refine hK _ _ ?_
  clear hK K
  refine AW.region (by decide) ?_
  simp only [push_cast, simprocAttr]
  refine Thn_n ?_
  refine hK _ _ ?_
  clear hK K
  refine ARounds.succ fun K hK => ?_
  refine AW.seq_k fun K hK => ?_
  refine AW.region (by decide) ?_
  simp only [push_cast, simprocAttr]
  refine Thn_n ?_
  refine hK _ _ ?_
  clear hK K
  refine AW.seq_k fun K hK => ?_
  refine AW.cond_t rfl ?_
  refine AW.skip ?_
  refine Thn_n ?_
  refine hK _ _ ?_
  clear hK K
  refine AW.seq_k fun K hK => ?_
  refine AW.block ?_
  refine AW.seq_k fun K hK => ?_
  refine AW.region (by decide) ?_
  simp only [push_cast, simprocAttr]
  refine Thn_n ?_
  refine hK _ _ ?_
  clear hK K
  refine AW.region (by decide) ?_
  simp only [push_cast, simprocAttr]
  refine CThen.by (quad_c (m.length + 3) (m.length + 21) 2 4 (.sl (m.length + 4) 8 0 8) [(0, 1, 3), (0, 3, 2), (4, 6, 7), (4, 7, 5)] 0 4 5 1 _ (by simp only [push_cast, simprocAttr]) (by simp only [push_cast, simprocAttr]; first | done | rfl) (by omega) rfl (by decide)) ?_
  simp only [push_cast, simprocAttr]
  refine InB_n ?_
  refine Thn_n ?_
  refine hK _ _ ?_
  clear hK K
  refine AW.region (by decide) ?_
  simp only [push_cast, simprocAttr]
  refine Thn_n ?_
  refine hK _ _ ?_
  clear hK K
  refine ARounds.succ fun K hK => ?_
  refine AW.seq_k fun K hK => ?_
  refine AW.region (by decide) ?_
  simp only [push_cast, simprocAttr]
  refine Thn_n ?_
  refine hK _ _ ?_
  clear hK K
  refine AW.seq_k fun K hK => ?_
  refine AW.cond_t rfl ?_
  refine AW.skip ?_
  refine Thn_n ?_
  refine hK _ _ ?_
  clear hK K
  refine AW.seq_k fun K hK => ?_
  refine AW.block ?_
  refine AW.seq_k fun K hK => ?_
  refine AW.region (by decide) ?_
  simp only [push_cast, simprocAttr]
  refine Thn_n ?_
  refine hK _ _ ?_
  clear hK K
  refine AW.region (by decide) ?_
  simp only [push_cast, simprocAttr]
  refine CThen.by (quad_c (m.length + 3) (m.length + 21) 3 6 (.sl (m.length + 4) 8 0 8) [(0, 1, 3), (0, 3, 2), (4, 6, 7), (4, 7, 5), (0, 4, 5), (0, 5, 1)] 2 3 7 6 _ (by simp only [push_cast, simprocAttr]) (by simp only [push_cast, simprocAttr]; first | done | rfl) (by omega) rfl (by decide)) ?_
  simp only [push_cast, simprocAttr]
  refine InB_n ?_
  refine Thn_n ?_
  refine hK _ _ ?_
  clear hK K
  refine AW.region (by decide) ?_
  simp only [push_cast, simprocAttr]
  refine Thn_n ?_
  refine hK _ _ ?_
  clear hK K
  refine ARounds.succ fun K hK => ?_
  refine AW.seq_k fun K hK => ?_
  refine AW.region (by decide) ?_
  simp only [push_cast, simprocAttr]
  refine Thn_n ?_
  refine hK _ _ ?_
  clear hK K
  refine AW.seq_k fun K hK => ?_
  refine AW.cond_t rfl ?_
  refine AW.skip ?_
  refine Thn_n ?_
  refine hK _ _ ?_
  clear hK K
  refine AW.seq_k fun K hK => ?_
  refine AW.block ?_
  refine AW.seq_k fun K hK => ?_
  refine AW.region (by decide) ?_
  simp only [push_cast, simprocAttr]
  refine Thn_n ?_
  refine hK _ _ ?_
  clear hK K
  refine AW.region (by decide) ?_
  simp only [push_cast, simprocAttr]
  refine CThen.by (quad_c (m.length + 3) (m.length + 21) 4 8 (.sl (m.length + 4) 8 0 8) [(0, 1, 3), (0, 3, 2), (4, 6, 7), (4, 7, 5), (0, 4, 5), (0, 5, 1), (2, 3, 7), (2, 7, 6)] 0 2 6 4 _ (by simp only [push_cast, simprocAttr]) (by simp only [push_cast, simprocAttr]; first | done | rfl) (by omega) rfl (by decide)) ?_
  simp only [push_cast, simprocAttr]
  refine InB_n ?_
  refine Thn_n ?_
  refine hK _ _ ?_
  clear hK K
  refine AW.region (by decide) ?_
  simp only [push_cast, simprocAttr]
  refine Thn_n ?_
  refine hK _ _ ?_
  clear hK K
  refine ARounds.succ fun K hK => ?_
  refine AW.seq_k fun K hK => ?_
  refine AW.region (by decide) ?_
  simp only [push_cast, simprocAttr]
  refine Thn_n ?_
  refine hK _ _ ?_
  clear hK K
  refine AW.seq_k fun K hK => ?_
  refine AW.cond_t rfl ?_
  refine AW.skip ?_
  refine Thn_n ?_
  refine hK _ _ ?_
  clear hK K
  refine AW.seq_k fun K hK => ?_
  refine AW.block ?_
  refine AW.seq_k fun K hK => ?_
  refine AW.region (by decide) ?_
  simp only [push_cast, simprocAttr]
  refine Thn_n ?_
  refine hK _ _ ?_
  clear hK K
  refine AW.region (by decide) ?_
  simp only [push_cast, simprocAttr]
  refine CThen.by (quad_c (m.length + 3) (m.length + 21) 5 10 (.sl (m.length + 4) 8 0 8) [(0, 1, 3), (0, 3, 2), (4, 6, 7), (4, 7, 5), (0, 4, 5), (0, 5, 1), (2, 3, 7), (2, 7, 6), (0, 2, 6), (0, 6, 4)] 1 5 7 3 _ (by simp only [push_cast, simprocAttr]) (by simp only [push_cast, simprocAttr]; first | done | rfl) (by omega) rfl (by decide)) ?_
  simp only [push_cast, simprocAttr]
  refine InB_n ?_
  refine Thn_n ?_
  refine hK _ _ ?_
  clear hK K
  refine AW.region (by decide) ?_
  simp only [push_cast, simprocAttr]
  refine Thn_n ?_
  refine hK _ _ ?_
  clear hK K
  refine ARounds.succ fun K hK => ?_
  refine AW.seq_k fun K hK => ?_
  refine AW.region (by decide) ?_
  simp only [push_cast, simprocAttr]
  refine Thn_n ?_
  refine hK _ _ ?_
  clear hK K
  refine AW.seq_k fun K hK => ?_
  refine AW.cond_f rfl ?_
  refine AW.exit ?_
  refine Thn_e ?_
  clear hK K
  refine Thn_e ?_
  clear hK K
  refine InB_here ?_
  refine Thn_n ?_
  refine hK _ _ ?_
  clear hK K
  refine AW.seq_k fun K hK => ?_
  refine AW.region (by decide) ?_
  simp only [push_cast, simprocAttr]
  refine Thn_n ?_
  refine hK _ _ ?_
  clear hK K
  refine AW.ret ?_
  refine hQ _ _ _ ?_
  refine RetP.pick [(m.length + 4, 8), (m.length + 21, 6)] (Or.inr rfl) ?_ ?_ ?_ hwf ?_
  · simp only [resA, resOne, resTv, AV.tv, push_cast, simprocAttr]
    simp [renV, renT, renL, renC, renIdx, hlt0]
  · simp only [picks, push_cast, simprocAttr] <;> rfl
  · simp [distinctFrom]
  · exact MWf_cons (tL_below _ _) (MWf_one (tL_below _ _))
end Go.Proofs.Ytiogpaehelpmhaa

set_option linter.unusedSimpArgs false
set_option linter.unusedVariables false
set_option maxRecDepth 100000
set_option maxHeartbeats 4000000
namespace Go.Proofs.Ytiogpaehelpmhaa
open Go Go.Eng

theorem rcrate_c (a0 a1 a2 : Int) (m : AMem) : Ctr Try.prog 36 [.agg [.int .i64 a0, .int .i64 a1, .int .i64 a2]] m (.agg [.sl m.length 0 0 8, .sl (m.length + 1) 0 0 12]) (m ++ [⟨.grow, 24, 0, 3, tL (crP a0 a1 a2)⟩, ⟨.grow, 54, 0, 3, tL crF⟩]) := by
  refine Ctr.enter Try.func36 rfl (by decide) (rs := [.cell 2 34]) (nt := 53) rfl rfl fun hwf Q hQ => ?_
  have hlt0 : ∀ k, ¬ m.length + k < m.length := fun k => by omega
  have tm0 : Int.tmod 0 2 = 0 := rfl
  have td0 : Int.tdiv 0 2 = 0 := rfl
  have tm1 : Int.tmod 1 2 = 1 := rfl
  have td1 : Int.tdiv 1 2 = 0 := rfl
  have tm2 : Int.tmod 2 2 = 0 := rfl
  have td2 : Int.tdiv 2 2 = 1 := rfl
  have tm3 : Int.tmod 3 2 = 1 := rfl
  have td3 : Int.tdiv 3 2 = 1 := rfl
  have tm4 : Int.tmod 4 2 = 0 := rfl
  have td4 : Int.tdiv 4 2 = 2 := rfl
  have tm5 : Int.tmod 5 2 = 1 := rfl
  have td5 : Int.tdiv 5 2 = 2 := rfl
  have tm6 : Int.tmod 6 2 = 0 := rfl
  have td6 : Int.tdiv 6 2 = 3 := rfl
  have tm7 : Int.tmod 7 2 = 1 := rfl
  have td7 : Int.tdiv 7 2 = 3 := rfl
  refine AW.seq_k fun K hK => ?_
  refine AW.region (by decide) ?_
  simp only [push_cast, simprocAttr, tm0, td0, tm1, td1, tm2, td2, tm3, td3, tm4, td4, tm5, td5, tm6, td6, tm7, td7]
  refine Thn_n ?_
  refine hK _ _ ?_
  clear hK K
  refine AW.seq_k fun K hK => ?_
  refine AW.region (by decide) ?_
  simp only [push_cast, simprocAttr, tm0, td0, tm1, td1, tm2, td2, tm3, td3, tm4, td4, tm5, td5, tm6, td6, tm7, td7]
  refine CThen.by (rvscale_c _ _ _ _ _) ?_
  simp only [push_cast, simprocAttr, tm0, td0, tm1, td1, tm2, td2, tm3, td3, tm4, td4, tm5, td5, tm6, td6, tm7, td7]
  refine Thn_n ?_
  refine hK _ _ ?_
  clear hK K
  refine AW.seq_k fun K hK => ?_
  refine AW.region (by decide) ?_
  simp only [push_cast, simprocAttr, tm0, td0, tm1, td1, tm2, td2, tm3, td3, tm4, td4, tm5, td5, tm6, td6, tm7, td7]
  refine CThen.by (rvsub_c _ _ _ _ _ _ _) ?_
  simp only [push_cast, simprocAttr, tm0, td0, tm1, td1, tm2, td2, tm3, td3, tm4, td4, tm5, td5, tm6, td6, tm7, td7]
  refine Thn_n ?_
  refine hK _ _ ?_
  clear hK K
  refine AW.seq_k fun K hK => ?_
  refine AW.region (by decide) ?_
  simp only [push_cast, simprocAttr, tm0, td0, tm1, td1, tm2, td2, tm3, td3, tm4, td4, tm5, td5, tm6, td6, tm7, td7]
  refine Thn_n ?_
  refine hK _ _ ?_
  clear hK K
  refine AW.seq_k fun K hK => ?_
  refine AW.seq_k fun K hK => ?_
  refine AW.nilCell 24 3 (m.length + 4) 0 (by simp only [push_cast, simprocAttr]; first | done | rfl) (by intro e; cases e) rfl ?_
  try simp only [push_cast, simprocAttr]
  refine AW.region (by decide) ?_
  simp only [push_cast, simprocAttr, tm0, td0, tm1, td1, tm2, td2, tm3, td3, tm4, td4, tm5, td5, tm6, td6, tm7, td7]
  refine Thn_n ?_
  refine hK _ _ ?_
  clear hK K
  refine AW.block ?_
  refine AW.rounds 9 ?_
  refine ARounds.succ fun K hK => ?_
  refine AW.seq_k fun K hK => ?_
  refine AW.seq_k fun K hK => ?_
  refine AW.region (by decide) ?_
  simp only [push_cast, simprocAttr, tm0, td0, tm1, td1, tm2, td2, tm3, td3, tm4, td4, tm5, td5, tm6, td6, tm7, td7]
  refine Thn_n ?_
  refine hK _ _ ?_
  clear hK K
  refine AW.cond_t rfl ?_
  refine AW.skip ?_
  refine Thn_n ?_
  refine hK _ _ ?_
  clear hK K
  refine AW.seq_k fun K hK => ?_
  refine AW.block ?_
  iterate 2
    refine AW.seq_k fun K hK => ?_
    refine AW.region (by decide) ?_
    simp only [push_cast, simprocAttr, tm0, td0, tm1, td1, tm2, td2, tm3, td3, tm4, td4, tm5, td5, tm6, td6, tm7, td7]
    refine Thn_n ?_
    refine hK _ _ ?_
    clear hK K
  refine AW.seq_k fun K hK => ?_
  refine AW.seq_k fun K hK => ?_
  refine AW.region (by decide) ?_
  simp only [push_cast, simprocAttr, tm0, td0, tm1, td1, tm2, td2, tm3, td3, tm4, td4, tm5, td5, tm6, td6, tm7, td7]
  refine Thn_n ?_
  refine hK _ _ ?_
  clear hK K
  refine AW.block ?_
  refine AW.rounds 4 ?_
  iterate 3
    refine ARounds.succ fun K hK => ?_
    refine AW.seq_k fun K hK => ?_
    refine AW.seq_k fun K hK => ?_
    refine AW.region (by decide) ?_
    simp only [push_cast, simprocAttr, tm0, td0, tm1, td1, tm2, td2, tm3, td3, tm4, td4, tm5, td5, tm6, td6, tm7, td7]
    refine Thn_n ?_
    refine hK _ _ ?_
    clear hK K
    refine AW.cond_t rfl ?_
    refine AW.skip ?_
    refine Thn_n ?_
    refine hK _ _ ?_
    clear hK K
    refine AW.seq_k fun K hK => ?_
    refine AW.block ?_
    refine AW.seq_k fun K hK => ?_
    refine AW.seq_k fun K hK => ?_
    refine AW.region (by decide) ?_
    simp only [push_cast, simprocAttr, tm0, td0, tm1, td1, tm2, td2, tm3, td3, tm4, td4, tm5, td5, tm6, td6, tm7, td7]
    refine Thn_n ?_
    refine hK _ _ ?_
    clear hK K
    refine AW.cond_f rfl ?_
    refine AW.skip ?_
    refine Thn_n ?_
    refine hK _ _ ?_
    clear hK K
    refine AW.region (by decide) ?_
    simp only [push_cast, simprocAttr, tm0, td0, tm1, td1, tm2, td2, tm3, td3, tm4, td4, tm5, td5, tm6, td6, tm7, td7]
    refine InB_n ?_
    refine Thn_n ?_
    refine hK _ _ ?_
    clear hK K
    refine AW.region (by decide) ?_
    simp only [push_cast, simprocAttr, tm0, td0, tm1, td1, tm2, td2, tm3, td3, tm4, td4, tm5, td5, tm6, td6, tm7, td7]
    refine Thn_n ?_
    refine hK _ _ ?_
    clear hK K
  refine ARounds.succ fun K hK => ?_
  refine AW.seq_k fun K hK => ?_
  refine AW.seq_k fun K hK => ?_
  refine AW.region (by decide) ?_
  simp only [push_cast, simprocAttr, tm0, td0, tm1, td1, tm2, td2, tm3, td3, tm4, td4, tm5, td5, tm6, td6, tm7, td7]
  refine Thn_n ?_
  refine hK _ _ ?_
  clear hK K
  refine AW.cond_f rfl ?_
  refine AW.exit ?_
  refine Thn_e ?_
  clear hK K
  refine Thn_e ?_
  clear hK K
  refine InB_here ?_
  refine Thn_n ?_
  refine hK _ _ ?_
  clear hK K
  refine AW.region (by decide) ?_
  simp only [push_cast, simprocAttr, tm0, td0, tm1, td1, tm2, td2, tm3, td3, tm4, td4, tm5, td5, tm6, td6, tm7, td7]
  refine InB_n ?_
  refine Thn_n ?_
  refine hK _ _ ?_
  clear hK K
  refine AW.region (by decide) ?_
  simp only [push_cast, simprocAttr, tm0, td0, tm1, td1, tm2, td2, tm3, td3, tm4, td4, tm5, td5, tm6, td6, tm7, td7]
  refine Thn_n ?_
  refine hK _ _ ?_
  clear hK K
  refine ARounds.succ fun K hK => ?_
  refine AW.seq_k fun K hK => ?_
  refine AW.seq_k fun K hK => ?_
  refine AW.region (by decide) ?_
  simp only [push_cast, simprocAttr, tm0, td0, tm1, td1, tm2, td2, tm3, td3, tm4, td4, tm5, td5, tm6, td6, tm7, td7]
  refine Thn_n ?_
  refine hK _ _ ?_
  clear hK K
  refine AW.cond_t rfl ?_
  refine AW.skip ?_
  refine Thn_n ?_
  refine hK _ _ ?_
  clear hK K
  refine AW.seq_k fun K hK => ?_
  refine AW.block ?_
  iterate 2
    refine AW.seq_k fun K hK => ?_
    refine AW.region (by decide) ?_
    simp only [push_cast, simprocAttr, tm0, td0, tm1, td1, tm2, td2, tm3, td3, tm4, td4, tm5, td5, tm6, td6, tm7, td7]
    refine Thn_n ?_
    refine hK _ _ ?_
    clear hK K
  refine AW.seq_k fun K hK => ?_
  refine AW.seq_k fun K hK => ?_
  refine AW.region (by decide) ?_
  simp only [push_cast, simprocAttr, tm0, td0, tm1, td1, tm2, td2, tm3, td3, tm4, td4, tm5, td5, tm6, td6, tm7, td7]
  refine Thn_n ?_
  refine hK _ _ ?_
  clear hK K
  refine AW.block ?_
  refine AW.rounds 4 ?_
  refine ARounds.succ fun K hK => ?_
  refine AW.seq_k fun K hK => ?_
  refine AW.seq_k fun K hK => ?_
  refine AW.region (by decide) ?_
  simp only [push_cast, simprocAttr, tm0, td0, tm1, td1, tm2, td2, tm3, td3, tm4, td4, tm5, td5, tm6, td6, tm7, td7]
  refine Thn_n ?_
  refine hK _ _ ?_
  clear hK K
  refine AW.cond_t rfl ?_
  refine AW.skip ?_
  refine Thn_n ?_
  refine hK _ _ ?_
  clear hK K
  refine AW.seq_k fun K hK => ?_
  refine AW.block ?_
  refine AW.seq_k fun K hK => ?_
  refine AW.seq_k fun K hK => ?_
  refine AW.region (by decide) ?_
  simp only [push_cast, simprocAttr, tm0, td0, tm1, td1, tm2, td2, tm3, td3, tm4, td4, tm5, td5, tm6, td6, tm7, td7]
  refine Thn_n ?_
  refine hK _ _ ?_
  clear hK K
  refine AW.cond_t rfl ?_
  refine AW.region (by decide) ?_
  simp only [push_cast, simprocAttr, tm0, td0, tm1, td1, tm2, td2, tm3, td3, tm4, td4, tm5, td5, tm6, td6, tm7, td7]
  iterate 2
    refine Thn_n ?_
    refine hK _ _ ?_
    clear hK K
    refine AW.region (by decide) ?_
    simp only [push_cast, simprocAttr, tm0, td0, tm1, td1, tm2, td2, tm3, td3, tm4, td4, tm5, td5, tm6, td6, tm7, td7]
    refine InB_n ?_
    refine Thn_n ?_
    refine hK _ _ ?_
    clear hK K
    refine AW.region (by decide) ?_
    simp only [push_cast, simprocAttr, tm0, td0, tm1, td1, tm2, td2, tm3, td3, tm4, td4, tm5, td5, tm6, td6, tm7, td7]
    refine Thn_n ?_
    refine hK _ _ ?_
    clear hK K
    refine ARounds.succ fun K hK => ?_
    refine AW.seq_k fun K hK => ?_
    refine AW.seq_k fun K hK => ?_
    refine AW.region (by decide) ?_
    simp only [push_cast, simprocAttr, tm0, td0, tm1, td1, tm2, td2, tm3, td3, tm4, td4, tm5, td5, tm6, td6, tm7, td7]
    refine Thn_n ?_
    refine hK _ _ ?_
    clear hK K
    refine AW.cond_t rfl ?_
    refine AW.skip ?_
    refine Thn_n ?_
    refine hK _ _ ?_
    clear hK K
    refine AW.seq_k fun K hK => ?_
    refine AW.block ?_
    refine AW.seq_k fun K hK => ?_
    refine AW.seq_k fun K hK => ?_
    refine AW.region (by decide) ?_
    simp only [push_cast, simprocAttr, tm0, td0, tm1, td1, tm2, td2, tm3, td3, tm4, td4, tm5, td5, tm6, td6, tm7, td7]
    refine Thn_n ?_
    refine hK _ _ ?_
    clear hK K
    refine AW.cond_f rfl ?_
    refine AW.skip ?_
  refine Thn_n ?_
  refine hK _ _ ?_
  clear hK K
  refine AW.region (by decide) ?_
  simp only [push_cast, simprocAttr, tm0, td0, tm1, td1, tm2, td2, tm3, td3, tm4, td4, tm5, td5, tm6, td6, tm7, td7]
  refine InB_n ?_
  refine Thn_n ?_
  refine hK _ _ ?_
  clear hK K
  refine AW.region (by decide) ?_
  simp only [push_cast, simprocAttr, tm0, td0, tm1, td1, tm2, td2, tm3, td3, tm4, td4, tm5, td5, tm6, td6, tm7, td7]
  refine Thn_n ?_
  refine hK _ _ ?_
  clear hK K
  refine ARounds.succ fun K hK => ?_
  refine AW.seq_k fun K hK => ?_
  refine AW.seq_k fun K hK => ?_
  refine AW.region (by decide) ?_
  simp only [push_cast, simprocAttr, tm0, td0, tm1, td1, tm2, td2, tm3, td3, tm4, td4, tm5, td5, tm6, td6, tm7, td7]
  refine Thn_n ?_
  refine hK _ _ ?_
  clear hK K
  refine AW.cond_f rfl ?_
  refine AW.exit ?_
  refine Thn_e ?_
  clear hK K
  refine Thn_e ?_
  clear hK K
  refine InB_here ?_
  refine Thn_n ?_
  refine hK _ _ ?_
  clear hK K
  refine AW.region (by decide) ?_
  simp only [push_cast, simprocAttr, tm0, td0, tm1, td1, tm2, td2, tm3, td3, tm4, td4, tm5, td5, tm6, td6, tm7, td7]
  refine InB_n ?_
  refine Thn_n ?_
  refine hK _ _ ?_
  clear hK K
  refine AW.region (by decide) ?_
  simp only [push_cast, simprocAttr, tm0, td0, tm1, td1, tm2, td2, tm3, td3, tm4, td4, tm5, td5, tm6, td6, tm7, td7]
  refine Thn_n ?_
  refine hK _ _ ?_
  clear hK K
  refine ARounds.succ fun K hK => ?_
  refine AW.seq_k fun K hK => ?_
  refine AW.seq_k fun K hK => ?_
  refine AW.region (by decide) ?_
  simp only [push_cast, simprocAttr, tm0, td0, tm1, td1, tm2, td2, tm3, td3, tm4, td4, tm5, td5, tm6, td6, tm7, td7]
  refine Thn_n ?_
  refine hK _ _ ?_
  clear hK K
  refine AW.cond_t rfl ?_
  refine AW.skip ?_
  refine Thn_n ?_
  refine hK _ _ ?_
  clear hK K
  refine AW.seq_k fun K hK => ?_
  refine AW.block ?_
  iterate 2
    refine AW.seq_k fun K hK => ?_
    refine AW.region (by decide) ?_
    simp only [push_cast, simprocAttr, tm0, td0, tm1, td1, tm2, td2, tm3, td3, tm4, td4, tm5, td5, tm6, td6, tm7, td7]
    refine Thn_n ?_
    refine hK _ _ ?_
    clear hK K
  refine AW.seq_k fun K hK => ?_
  refine AW.seq_k fun K hK => ?_
  refine AW.region (by decide) ?_
  simp only [push_cast, simprocAttr, tm0, td0, tm1, td1, tm2, td2, tm3, td3, tm4, td4, tm5, td5, tm6, td6, tm7, td7]
  refine Thn_n ?_
  refine hK _ _ ?_
  clear hK K
  refine AW.block ?_
  refine AW.rounds 4 ?_
  refine ARounds.succ fun K hK => ?_
  refine AW.seq_k fun K hK => ?_
  refine AW.seq_k fun K hK => ?_
  refine AW.region (by decide) ?_
  simp only [push_cast, simprocAttr, tm0, td0, tm1, td1, tm2, td2, tm3, td3, tm4, td4, tm5, td5, tm6, td6, tm7, td7]
  refine Thn_n ?_
  refine hK _ _ ?_
  clear hK K
  refine AW.cond_t rfl ?_
  refine AW.skip ?_
  refine Thn_n ?_
  refine hK _ _ ?_
  clear hK K
  refine AW.seq_k fun K hK => ?_
  refine AW.block ?_
  refine AW.seq_k fun K hK => ?_
  refine AW.seq_k fun K hK => ?_
  refine AW.region (by decide) ?_
  simp only [push_cast, simprocAttr, tm0, td0, tm1, td1, tm2, td2, tm3, td3, tm4, td4, tm5, td5, tm6, td6, tm7, td7]
  refine Thn_n ?_
  refine hK _ _ ?_
  clear hK K
  refine AW.cond_f rfl ?_
  refine AW.skip ?_
  refine Thn_n ?_
  refine hK _ _ ?_
  clear hK K
  refine AW.region (by decide) ?_
  simp only [push_cast, simprocAttr, tm0, td0, tm1, td1, tm2, td2, tm3, td3, tm4, td4, tm5, td5, tm6, td6, tm7, td7]
  refine InB_n ?_
  refine Thn_n ?_
  refine hK _ _ ?_
  clear hK K
  refine AW.region (by decide) ?_
  simp only [push_cast, simprocAttr, tm0, td0, tm1, td1, tm2, td2, tm3, td3, tm4, td4, tm5, td5, tm6, td6, tm7, td7]
  refine Thn_n ?_
  refine hK _ _ ?_
  clear hK K
  refine ARounds.succ fun K hK => ?_
  refine AW.seq_k fun K hK => ?_
  refine AW.seq_k fun K hK => ?_
  refine AW.region (by decide) ?_
  simp only [push_cast, simprocAttr, tm0, td0, tm1, td1, tm2, td2, tm3, td3, tm4, td4, tm5, td5, tm6, td6, tm7, td7]
  refine Thn_n ?_
  refine hK _ _ ?_
  clear hK K
  refine AW.cond_t rfl ?_
  refine AW.skip ?_
  refine Thn_n ?_
  refine hK _ _ ?_
  clear hK K
  refine AW.seq_k fun K hK => ?_
  refine AW.block ?_
  refine AW.seq_k fun K hK => ?_
  refine AW.seq_k fun K hK => ?_
  refine AW.region (by decide) ?_
  simp only [push_cast, simprocAttr, tm0, td0, tm1, td1, tm2, td2, tm3, td3, tm4, td4, tm5, td5, tm6, td6, tm7, td7]
  refine Thn_n ?_
  refine hK _ _ ?_
  clear hK K
  refine AW.cond_t rfl ?_
  refine AW.region (by decide) ?_
  simp only [push_cast, simprocAttr, tm0, td0, tm1, td1, tm2, td2, tm3, td3, tm4, td4, tm5, td5, tm6, td6, tm7, td7]
  refine Thn_n ?_
  refine hK _ _ ?_
  clear hK K
  refine AW.region (by decide) ?_
  simp only [push_cast, simprocAttr, tm0, td0, tm1, td1, tm2, td2, tm3, td3, tm4, td4, tm5, td5, tm6, td6, tm7, td7]
  refine InB_n ?_
  refine Thn_n ?_
  refine hK _ _ ?_
  clear hK K
  refine AW.region (by decide) ?_
  simp only [push_cast, simprocAttr, tm0, td0, tm1, td1, tm2, td2, tm3, td3, tm4, td4, tm5, td5, tm6, td6, tm7, td7]
  refine Thn_n ?_
  refine hK _ _ ?_
  clear hK K
  refine ARounds.succ fun K hK => ?_
  refine AW.seq_k fun K hK => ?_
  refine AW.seq_k fun K hK => ?_
  refine AW.region (by decide) ?_
  simp only [push_cast, simprocAttr, tm0, td0, tm1, td1, tm2, td2, tm3, td3, tm4, td4, tm5, td5, tm6, td6, tm7, td7]
  refine Thn_n ?_
  refine hK _ _ ?_
  clear hK K
  refine AW.cond_t rfl ?_
  refine AW.skip ?_
  refine Thn_n ?_
  refine hK _ _ ?_
  clear hK K
  refine AW.seq_k fun K hK => ?_
  refine AW.block ?_
  refine AW.seq_k fun K hK => ?_
  refine AW.seq_k fun K hK => ?_
  refine AW.region (by decide) ?_
  simp only [push_cast, simprocAttr, tm0, td0, tm1, td1, tm2, td2, tm3, td3, tm4, td4, tm5, td5, tm6, td6, tm7, td7]
  refine Thn_n ?_
  refine hK _ _ ?_
  clear hK K
  refine AW.cond_f rfl ?_
  refine AW.skip ?_
  refine Thn_n ?_
  refine hK _ _ ?_
  clear hK K
  refine AW.region (by decide) ?_
  simp only [push_cast, simprocAttr, tm0, td0, tm1, td1, tm2, td2, tm3, td3, tm4, td4, tm5, td5, tm6, td6, tm7, td7]
  refine InB_n ?_
  refine Thn_n ?_
  refine hK _ _ ?_
  clear hK K
  refine AW.region (by decide) ?_
  simp only [push_cast, simprocAttr, tm0, td0, tm1, td1, tm2, td2, tm3, td3, tm4, td4, tm5, td5, tm6, td6, tm7, td7]
  refine Thn_n ?_
  refine hK _ _ ?_
  clear hK K
  refine ARounds.succ fun K hK => ?_
  refine AW.seq_k fun K hK => ?_
  refine AW.seq_k fun K hK => ?_
  refine AW.region (by decide) ?_
  simp only [push_cast, simprocAttr, tm0, td0, tm1, td1, tm2, td2, tm3, td3, tm4, td4, tm5, td5, tm6, td6, tm7, td7]
  refine Thn_n ?_
  refine hK _ _ ?_
  clear hK K
  refine AW.cond_f rfl ?_
  refine AW.exit ?_
  refine Thn_e ?_
  clear hK K
  refine Thn_e ?_
  clear hK K
  refine InB_here ?_
  refine Thn_n ?_
  refine hK _ _ ?_
  clear hK K
  refine AW.region (by decide) ?_
  simp only [push_cast, simprocAttr, tm0, td0, tm1, td1, tm2, td2, tm3, td3, tm4, td4, tm5, td5, tm6, td6, tm7, td7]
  refine InB_n ?_
  refine Thn_n ?_
  refine hK _ _ ?_
  clear hK K
  refine AW.region (by decide) ?_
  simp only [push_cast, simprocAttr, tm0, td0, tm1, td1, tm2, td2, tm3, td3, tm4, td4, tm5, td5, tm6, td6, tm7, td7]
  refine Thn_n ?_
  refine hK _ _ ?_
  clear hK K
  refine ARounds.succ fun K hK => ?_
  refine AW.seq_k fun K hK => ?_
  refine AW.seq_k fun K hK => ?_
  refine AW.region (by decide) ?_
  simp only [push_cast, simprocAttr, tm0, td0, tm1, td1, tm2, td2, tm3, td3, tm4, td4, tm5, td5, tm6, td6, tm7, td7]
  refine Thn_n ?_
  refine hK _ _ ?_
  clear hK K
  refine AW.cond_t rfl ?_
  refine AW.skip ?_
  refine Thn_n ?_
  refine hK _ _ ?_
  clear hK K
  refine AW.seq_k fun K hK => ?_
  refine AW.block ?_
  iterate 2
    refine AW.seq_k fun K hK => ?_
    refine AW.region (by decide) ?_
    simp only [push_cast, simprocAttr, tm0, td0, tm1, td1, tm2, td2, tm3, td3, tm4, td4, tm5, td5, tm6, td6, tm7, td7]
    refine Thn_n ?_
    refine hK _ _ ?_
    clear hK K
  refine AW.seq_k fun K hK => ?_
  refine AW.seq_k fun K hK => ?_
  refine AW.region (by decide) ?_
  simp only [push_cast, simprocAttr, tm0, td0, tm1, td1, tm2, td2, tm3, td3, tm4, td4, tm5, td5, tm6, td6, tm7, td7]
  refine Thn_n ?_
  refine hK _ _ ?_
  clear hK K
  refine AW.block ?_
  refine AW.rounds 4 ?_
  iterate 2
    refine ARounds.succ fun K hK => ?_
    refine AW.seq_k fun K hK => ?_
    refine AW.seq_k fun K hK => ?_
    refine AW.region (by decide) ?_
    simp only [push_cast, simprocAttr, tm0, td0, tm1, td1, tm2, td2, tm3, td3, tm4, td4, tm5, td5, tm6, td6, tm7, td7]
    refine Thn_n ?_
    refine hK _ _ ?_
    clear hK K
    refine AW.cond_t rfl ?_
    refine AW.skip ?_
    refine Thn_n ?_
    refine hK _ _ ?_
    clear hK K
    refine AW.seq_k fun K hK => ?_
    refine AW.block ?_
    refine AW.seq_k fun K hK => ?_
    refine AW.seq_k fun K hK => ?_
    refine AW.region (by decide) ?_
    simp only [push_cast, simprocAttr, tm0, td0, tm1, td1, tm2, td2, tm3, td3, tm4, td4, tm5, td5, tm6, td6, tm7, td7]
    refine Thn_n ?_
    refine hK _ _ ?_
    clear hK K
    refine AW.cond_t rfl ?_
    refine AW.region (by decide) ?_
    simp only [push_cast, simprocAttr, tm0, td0, tm1, td1, tm2, td2, tm3, td3, tm4, td4, tm5, td5, tm6, td6, tm7, td7]
    refine Thn_n ?_
    refine hK _ _ ?_
    clear hK K
    refine AW.region (by decide) ?_
    simp only [push_cast, simprocAttr, tm0, td0, tm1, td1, tm2, td2, tm3, td3, tm4, td4, tm5, td5, tm6, td6, tm7, td7]
    refine InB_n ?_
    refine Thn_n ?_
    refine hK _ _ ?_
    clear hK K
    refine AW.region (by decide) ?_
    simp only [push_cast, simprocAttr, tm0, td0, tm1, td1, tm2, td2, tm3, td3, tm4, td4, tm5, td5, tm6, td6, tm7, td7]
    refine Thn_n ?_
    refine hK _ _ ?_
    clear hK K
  refine ARounds.succ fun K hK => ?_
  refine AW.seq_k fun K hK => ?_
  refine AW.seq_k fun K hK => ?_
  refine AW.region (by decide) ?_
  simp only [push_cast, simprocAttr, tm0, td0, tm1, td1, tm2, td2, tm3, td3, tm4, td4, tm5, td5, tm6, td6, tm7, td7]
  refine Thn_n ?_
  refine hK _ _ ?_
  clear hK K
  refine AW.cond_t rfl ?_
  refine AW.skip ?_
  refine Thn_n ?_
  refine hK _ _ ?_
  clear hK K
  refine AW.seq_k fun K hK => ?_
  refine AW.block ?_
  refine AW.seq_k fun K hK => ?_
  refine AW.seq_k fun K hK => ?_
  refine AW.region (by decide) ?_
  simp only [push_cast, simprocAttr, tm0, td0, tm1, td1, tm2, td2, tm3, td3, tm4, td4, tm5, td5, tm6, td6, tm7, td7]
  refine Thn_n ?_
  refine hK _ _ ?_
  clear hK K
  refine AW.cond_f rfl ?_
  refine AW.skip ?_
  refine Thn_n ?_
  refine hK _ _ ?_
  clear hK K
  refine AW.region (by decide) ?_
  simp only [push_cast, simprocAttr, tm0, td0, tm1, td1, tm2, td2, tm3, td3, tm4, td4, tm5, td5, tm6, td6, tm7, td7]
  refine InB_n ?_
  refine Thn_n ?_
  refine hK _ _ ?_
  clear hK K
  refine AW.region (by decide) ?_
  simp only [push_cast, simprocAttr, tm0, td0, tm1, td1, tm2, td2, tm3, td3, tm4, td4, tm5, td5, tm6, td6, tm7, td7]
  refine Thn_n ?_
  refine hK _ _ ?_
  clear hK K
  refine ARounds.succ fun K hK => ?_
  refine AW.seq_k fun K hK => ?_
  refine AW.seq_k fun K hK => ?_
  refine AW.region (by decide) ?_
  simp only [push_cast, simprocAttr, tm0, td0, tm1, td1, tm2, td2, tm3, td3, tm4, td4, tm5, td5, tm6, td6, tm7, td7]
  refine Thn_n ?_
  refine hK _ _ ?_
  clear hK K
  refine AW.cond_f rfl ?_
  refine AW.exit ?_
  refine Thn_e ?_
  clear hK K
  refine Thn_e ?_
  clear hK K
  refine InB_here ?_
  refine Thn_n ?_
  refine hK _ _ ?_
  clear hK K
  refine AW.region (by decide) ?_
  simp only [push_cast, simprocAttr, tm0, td0, tm1, td1, tm2, td2, tm3, td3, tm4, td4, tm5, td5, tm6, td6, tm7, td7]
  refine InB_n ?_
  refine Thn_n ?_
  refine hK _ _ ?_
  clear hK K
  refine AW.region (by decide) ?_
  simp only [push_cast, simprocAttr, tm0, td0, tm1, td1, tm2, td2, tm3, td3, tm4, td4, tm5, td5, tm6, td6, tm7, td7]
  refine Thn_n ?_
  refine hK _ _ ?_
  clear hK K
  refine ARounds.succ fun K hK => ?_
  refine AW.seq_k fun K hK => ?_
  refine AW.seq_k fun K hK => ?_
  refine AW.region (by decide) ?_
  simp only [push_cast, simprocAttr, tm0, td0, tm1, td1, tm2, td2, tm3, td3, tm4, td4, tm5, td5, tm6, td6, tm7, td7]
  refine Thn_n ?_
  refine hK _ _ ?_
  clear hK K
  refine AW.cond_t rfl ?_
  refine AW.skip ?_
  refine Thn_n ?_
  refine hK _ _ ?_
  clear hK K
  refine AW.seq_k fun K hK => ?_
  refine AW.block ?_
  iterate 2
    refine AW.seq_k fun K hK => ?_
    refine AW.region (by decide) ?_
    simp only [push_cast, simprocAttr, tm0, td0, tm1, td1, tm2, td2, tm3, td3, tm4, td4, tm5, td5, tm6, td6, tm7, td7]
    refine Thn_n ?_
    refine hK _ _ ?_
    clear hK K
  refine AW.seq_k fun K hK => ?_
  refine AW.seq_k fun K hK => ?_
  refine AW.region (by decide) ?_
  simp only [push_cast, simprocAttr, tm0, td0, tm1, td1, tm2, td2, tm3, td3, tm4, td4, tm5, td5, tm6, td6, tm7, td7]
  refine Thn_n ?_
  refine hK _ _ ?_
  clear hK K
  refine AW.block ?_
  refine AW.rounds 4 ?_
  iterate 2
    refine ARounds.succ fun K hK => ?_
    refine AW.seq_k fun K hK => ?_
    refine AW.seq_k fun K hK => ?_
    refine AW.region (by decide) ?_
    simp only [push_cast, simprocAttr, tm0, td0, tm1, td1, tm2, td2, tm3, td3, tm4, td4, tm5, td5, tm6, td6, tm7, td7]
    refine Thn_n ?_
    refine hK _ _ ?_
    clear hK K
    refine AW.cond_t rfl ?_
    refine AW.skip ?_
    refine Thn_n ?_
    refine hK _ _ ?_
    clear hK K
    refine AW.seq_k fun K hK => ?_
    refine AW.block ?_
    refine AW.seq_k fun K hK => ?_
    refine AW.seq_k fun K hK => ?_
    refine AW.region (by decide) ?_
    simp only [push_cast, simprocAttr, tm0, td0, tm1, td1, tm2, td2, tm3, td3, tm4, td4, tm5, td5, tm6, td6, tm7, td7]
    refine Thn_n ?_
    refine hK _ _ ?_
    clear hK K
    refine AW.cond_f rfl ?_
    refine AW.skip ?_
    refine Thn_n ?_
    refine hK _ _ ?_
    clear hK K
    refine AW.region (by decide) ?_
    simp only [push_cast, simprocAttr, tm0, td0, tm1, td1, tm2, td2, tm3, td3, tm4, td4, tm5, td5, tm6, td6, tm7, td7]
    refine InB_n ?_
    refine Thn_n ?_
    refine hK _ _ ?_
    clear hK K
    refine AW.region (by decide) ?_
    simp only [push_cast, simprocAttr, tm0, td0, tm1, td1, tm2, td2, tm3, td3, tm4, td4, tm5, td5, tm6, td6, tm7, td7]
    refine Thn_n ?_
    refine hK _ _ ?_
    clear hK K
  refine ARounds.succ fun K hK => ?_
  refine AW.seq_k fun K hK => ?_
  refine AW.seq_k fun K hK => ?_
  refine AW.region (by decide) ?_
  simp only [push_cast, simprocAttr, tm0, td0, tm1, td1, tm2, td2, tm3, td3, tm4, td4, tm5, td5, tm6, td6, tm7, td7]
  refine Thn_n ?_
  refine hK _ _ ?_
  clear hK K
  refine AW.cond_t rfl ?_
  refine AW.skip ?_
  refine Thn_n ?_
  refine hK _ _ ?_
  clear hK K
  refine AW.seq_k fun K hK => ?_
  refine AW.block ?_
  refine AW.seq_k fun K hK => ?_
  refine AW.seq_k fun K hK => ?_
  refine AW.region (by decide) ?_
  simp only [push_cast, simprocAttr, tm0, td0, tm1, td1, tm2, td2, tm3, td3, tm4, td4, tm5, td5, tm6, td6, tm7, td7]
  refine Thn_n ?_
  refine hK _ _ ?_
  clear hK K
  refine AW.cond_t rfl ?_
  refine AW.region (by decide) ?_
  simp only [push_cast, simprocAttr, tm0, td0, tm1, td1, tm2, td2, tm3, td3, tm4, td4, tm5, td5, tm6, td6, tm7, td7]
  refine Thn_n ?_
  refine hK _ _ ?_
  clear hK K
  refine AW.region (by decide) ?_
  simp only [push_cast, simprocAttr, tm0, td0, tm1, td1, tm2, td2, tm3, td3, tm4, td4, tm5, td5, tm6, td6, tm7, td7]
  refine InB_n ?_
  refine Thn_n ?_
  refine hK _ _ ?_
  clear hK K
  refine AW.region (by decide) ?_
  simp only [push_cast, simprocAttr, tm0, td0, tm1, td1, tm2, td2, tm3, td3, tm4, td4, tm5, td5, tm6, td6, tm7, td7]
  refine Thn_n ?_
  refine hK _ _ ?_
  clear hK K
  refine ARounds.succ fun K hK => ?_
  refine AW.seq_k fun K hK => ?_
  refine AW.seq_k fun K hK => ?_
  refine AW.region (by decide) ?_
  simp only [push_cast, simprocAttr, tm0, td0, tm1, td1, tm2, td2, tm3, td3, tm4, td4, tm5, td5, tm6, td6, tm7, td7]
  refine Thn_n ?_
  refine hK _ _ ?_
  clear hK K
  refine AW.cond_f rfl ?_
  refine AW.exit ?_
  refine Thn_e ?_
  clear hK K
  refine Thn_e ?_
  clear hK K
  refine InB_here ?_
  refine Thn_n ?_
  refine hK _ _ ?_
  clear hK K
  refine AW.region (by decide) ?_
  simp only [push_cast, simprocAttr, tm0, td0, tm1, td1, tm2, td2, tm3, td3, tm4, td4, tm5, td5, tm6, td6, tm7, td7]
  refine InB_n ?_
  refine Thn_n ?_
  refine hK _ _ ?_
  clear hK K
  refine AW.region (by decide) ?_
  simp only [push_cast, simprocAttr, tm0, td0, tm1, td1, tm2, td2, tm3, td3, tm4, td4, tm5, td5, tm6, td6, tm7, td7]
  refine Thn_n ?_
  refine hK _ _ ?_
  clear hK K
  refine ARounds.succ fun K hK => ?_
  refine AW.seq_k fun K hK => ?_
  refine AW.seq_k fun K hK => ?_
  refine AW.region (by decide) ?_
  simp only [push_cast, simprocAttr, tm0, td0, tm1, td1, tm2, td2, tm3, td3, tm4, td4, tm5, td5, tm6, td6, tm7, td7]
  refine Thn_n ?_
  refine hK _ _ ?_
  clear hK K
  refine AW.cond_t rfl ?_
  refine AW.skip ?_
  refine Thn_n ?_
  refine hK _ _ ?_
  clear hK K
  refine AW.seq_k fun K hK => ?_
  refine AW.block ?_
  iterate 2
    refine AW.seq_k fun K hK => ?_
    refine AW.region (by decide) ?_
    simp only [push_cast, simprocAttr, tm0, td0, tm1, td1, tm2, td2, tm3, td3, tm4, td4, tm5, td5, tm6, td6, tm7, td7]
    refine Thn_n ?_
    refine hK _ _ ?_
    clear hK K
  refine AW.seq_k fun K hK => ?_
  refine AW.seq_k fun K hK => ?_
  refine AW.region (by decide) ?_
  simp only [push_cast, simprocAttr, tm0, td0, tm1, td1, tm2, td2, tm3, td3, tm4, td4, tm5, td5, tm6, td6, tm7, td7]
  refine Thn_n ?_
  refine hK _ _ ?_
  clear hK K
  refine AW.block ?_
  refine AW.rounds 4 ?_
  refine ARounds.succ fun K hK => ?_
  refine AW.seq_k fun K hK => ?_
  refine AW.seq_k fun K hK => ?_
  refine AW.region (by decide) ?_
  simp only [push_cast, simprocAttr, tm0, td0, tm1, td1, tm2, td2, tm3, td3, tm4, td4, tm5, td5, tm6, td6, tm7, td7]
  refine Thn_n ?_
  refine hK _ _ ?_
  clear hK K
  refine AW.cond_t rfl ?_
  refine AW.skip ?_
  refine Thn_n ?_
  refine hK _ _ ?_
  clear hK K
  refine AW.seq_k fun K hK => ?_
  refine AW.block ?_
  refine AW.seq_k fun K hK => ?_
  refine AW.seq_k fun K hK => ?_
  refine AW.region (by decide) ?_
  simp only [push_cast, simprocAttr, tm0, td0, tm1, td1, tm2, td2, tm3, td3, tm4, td4, tm5, td5, tm6, td6, tm7, td7]
  refine Thn_n ?_
  refine hK _ _ ?_
  clear hK K
  refine AW.cond_t rfl ?_
  refine AW.region (by decide) ?_
  simp only [push_cast, simprocAttr, tm0, td0, tm1, td1, tm2, td2, tm3, td3, tm4, td4, tm5, td5, tm6, td6, tm7, td7]
  refine Thn_n ?_
  refine hK _ _ ?_
  clear hK K
  refine AW.region (by decide) ?_
  simp only [push_cast, simprocAttr, tm0, td0, tm1, td1, tm2, td2, tm3, td3, tm4, td4, tm5, td5, tm6, td6, tm7, td7]
  refine InB_n ?_
  refine Thn_n ?_
  refine hK _ _ ?_
  clear hK K
  refine AW.region (by decide) ?_
  simp only [push_cast, simprocAttr, tm0, td0, tm1, td1, tm2, td2, tm3, td3, tm4, td4, tm5, td5, tm6, td6, tm7, td7]
  refine Thn_n ?_
  refine hK _ _ ?_
  clear hK K
  refine ARounds.succ fun K hK => ?_
  refine AW.seq_k fun K hK => ?_
  refine AW.seq_k fun K hK => ?_
  refine AW.region (by decide) ?_
  simp only [push_cast, simprocAttr, tm0, td0, tm1, td1, tm2, td2, tm3, td3, tm4, td4, tm5, td5, tm6, td6, tm7, td7]
  refine Thn_n ?_
  refine hK _ _ ?_
  clear hK K
  refine AW.cond_t rfl ?_
  refine AW.skip ?_
  refine Thn_n ?_
  refine hK _ _ ?_
  clear hK K
  refine AW.seq_k fun K hK => ?_
  refine AW.block ?_
  refine AW.seq_k fun K hK => ?_
  refine AW.seq_k fun K hK => ?_
  refine AW.region (by decide) ?_
  simp only [push_cast, simprocAttr, tm0, td0, tm1, td1, tm2, td2, tm3, td3, tm4, td4, tm5, td5, tm6, td6, tm7, td7]
  refine Thn_n ?_
  refine hK _ _ ?_
  clear hK K
  refine AW.cond_f rfl ?_
  refine AW.skip ?_
  refine Thn_n ?_
  refine hK _ _ ?_
  clear hK K
  refine AW.region (by decide) ?_
  simp only [push_cast, simprocAttr, tm0, td0, tm1, td1, tm2, td2, tm3, td3, tm4, td4, tm5, td5, tm6, td6, tm7, td7]
  refine InB_n ?_
  refine Thn_n ?_
  refine hK _ _ ?_
  clear hK K
  refine AW.region (by decide) ?_
  simp only [push_cast, simprocAttr, tm0, td0, tm1, td1, tm2, td2, tm3, td3, tm4, td4, tm5, td5, tm6, td6, tm7, td7]
  refine Thn_n ?_
  refine hK _ _ ?_
  clear hK K
  refine ARounds.succ fun K hK => ?_
  refine AW.seq_k fun K hK => ?_
  refine AW.seq_k fun K hK => ?_
  refine AW.region (by decide) ?_
  simp only [push_cast, simprocAttr, tm0, td0, tm1, td1, tm2, td2, tm3, td3, tm4, td4, tm5, td5, tm6, td6, tm7, td7]
  refine Thn_n ?_
  refine hK _ _ ?_
  clear hK K
  refine AW.cond_t rfl ?_
  refine AW.skip ?_
  refine Thn_n ?_
  refine hK _ _ ?_
  clear hK K
  refine AW.seq_k fun K hK => ?_
  refine AW.block ?_
  refine AW.seq_k fun K hK => ?_
  refine AW.seq_k fun K hK => ?_
  refine AW.region (by decide) ?_
  simp only [push_cast, simprocAttr, tm0, td0, tm1, td1, tm2, td2, tm3, td3, tm4, td4, tm5, td5, tm6, td6, tm7, td7]
  refine Thn_n ?_
  refine hK _ _ ?_
  clear hK K
  refine AW.cond_t rfl ?_
  refine AW.region (by decide) ?_
  simp only [push_cast, simprocAttr, tm0, td0, tm1, td1, tm2, td2, tm3, td3, tm4, td4, tm5, td5, tm6, td6, tm7, td7]
  refine Thn_n ?_
  refine hK _ _ ?_
  clear hK K
  refine AW.region (by decide) ?_
  simp only [push_cast, simprocAttr, tm0, td0, tm1, td1, tm2, td2, tm3, td3, tm4, td4, tm5, td5, tm6, td6, tm7, td7]
  refine InB_n ?_
  refine Thn_n ?_
  refine hK _ _ ?_
  clear hK K
  refine AW.region (by decide) ?_
  simp only [push_cast, simprocAttr, tm0, td0, tm1, td1, tm2, td2, tm3, td3, tm4, td4, tm5, td5, tm6, td6, tm7, td7]
  refine Thn_n ?_
  refine hK _ _ ?_
  clear hK K
  refine ARounds.succ fun K hK => ?_
  refine AW.seq_k fun K hK => ?_
  refine AW.seq_k fun K hK => ?_
  refine AW.region (by decide) ?_
  simp only [push_cast, simprocAttr, tm0, td0, tm1, td1, tm2, td2, tm3, td3, tm4, td4, tm5, td5, tm6, td6, tm7, td7]
  refine Thn_n ?_
  refine hK _ _ ?_
  clear hK K
  refine AW.cond_f rfl ?_
  refine AW.exit ?_
  refine Thn_e ?_
  clear hK K
  refine Thn_e ?_
  clear hK K
  refine InB_here ?_
  refine Thn_n ?_
  refine hK _ _ ?_
  clear hK K
  refine AW.region (by decide) ?_
  simp only [push_cast, simprocAttr, tm0, td0, tm1, td1, tm2, td2, tm3, td3, tm4, td4, tm5, td5, tm6, td6, tm7, td7]
  refine InB_n ?_
  refine Thn_n ?_
  refine hK _ _ ?_
  clear hK K
  refine AW.region (by decide) ?_
  simp only [push_cast, simprocAttr, tm0, td0, tm1, td1, tm2, td2, tm3, td3, tm4, td4, tm5, td5, tm6, td6, tm7, td7]
  refine Thn_n ?_
  refine hK _ _ ?_
  clear hK K
  refine ARounds.succ fun K hK => ?_
  refine AW.seq_k fun K hK => ?_
  refine AW.seq_k fun K hK => ?_
  refine AW.region (by decide) ?_
  simp only [push_cast, simprocAttr, tm0, td0, tm1, td1, tm2, td2, tm3, td3, tm4, td4, tm5, td5, tm6, td6, tm7, td7]
  refine Thn_n ?_
  refine hK _ _ ?_
  clear hK K
  refine AW.cond_t rfl ?_
  refine AW.skip ?_
  refine Thn_n ?_
  refine hK _ _ ?_
  clear hK K
  refine AW.seq_k fun K hK => ?_
  refine AW.block ?_
  iterate 2
    refine AW.seq_k fun K hK => ?_
    refine AW.region (by decide) ?_
    simp only [push_cast, simprocAttr, tm0, td0, tm1, td1, tm2, td2, tm3, td3, tm4, td4, tm5, td5, tm6, td6, tm7, td7]
    refine Thn_n ?_
    refine hK _ _ ?_
    clear hK K
  refine AW.seq_k fun K hK => ?_
  refine AW.seq_k fun K hK => ?_
  refine AW.region (by decide) ?_
  simp only [push_cast, simprocAttr, tm0, td0, tm1, td1, tm2, td2, tm3, td3, tm4, td4, tm5, td5, tm6, td6, tm7, td7]
  refine Thn_n ?_
  refine hK _ _ ?_
  clear hK K
  refine AW.block ?_
  refine AW.rounds 4 ?_
  refine ARounds.succ fun K hK => ?_
  refine AW.seq_k fun K hK => ?_
  refine AW.seq_k fun K hK => ?_
  refine AW.region (by decide) ?_
  simp only [push_cast, simprocAttr, tm0, td0, tm1, td1, tm2, td2, tm3, td3, tm4, td4, tm5, td5, tm6, td6, tm7, td7]
  refine Thn_n ?_
  refine hK _ _ ?_
  clear hK K
  refine AW.cond_t rfl ?_
  refine AW.skip ?_
  refine Thn_n ?_
  refine hK _ _ ?_
  clear hK K
  refine AW.seq_k fun K hK => ?_
  refine AW.block ?_
  refine AW.seq_k fun K hK => ?_
  refine AW.seq_k fun K hK => ?_
  refine AW.region (by decide) ?_
  simp only [push_cast, simprocAttr, tm0, td0, tm1, td1, tm2, td2, tm3, td3, tm4, td4, tm5, td5, tm6, td6, tm7, td7]
  refine Thn_n ?_
  refine hK _ _ ?_
  clear hK K
  refine AW.cond_f rfl ?_
  refine AW.skip ?_
  iterate 2
    refine Thn_n ?_
    refine hK _ _ ?_
    clear hK K
    refine AW.region (by decide) ?_
    simp only [push_cast, simprocAttr, tm0, td0, tm1, td1, tm2, td2, tm3, td3, tm4, td4, tm5, td5, tm6, td6, tm7, td7]
    refine InB_n ?_
    refine Thn_n ?_
    refine hK _ _ ?_
    clear hK K
    refine AW.region (by decide) ?_
    simp only [push_cast, simprocAttr, tm0, td0, tm1, td1, tm2, td2, tm3, td3, tm4, td4, tm5, td5, tm6, td6, tm7, td7]
    refine Thn_n ?_
    refine hK _ _ ?_
    clear hK K
    refine ARounds.succ fun K hK => ?_
    refine AW.seq_k fun K hK => ?_
    refine AW.seq_k fun K hK => ?_
    refine AW.region (by decide) ?_
    simp only [push_cast, simprocAttr, tm0, td0, tm1, td1, tm2, td2, tm3, td3, tm4, td4, tm5, td5, tm6, td6, tm7, td7]
    refine Thn_n ?_
    refine hK _ _ ?_
    clear hK K
    refine AW.cond_t rfl ?_
    refine AW.skip ?_
    refine Thn_n ?_
    refine hK _ _ ?_
    clear hK K
    refine AW.seq_k fun K hK => ?_
    refine AW.block ?_
    refine AW.seq_k fun K hK => ?_
    refine AW.seq_k fun K hK => ?_
    refine AW.region (by decide) ?_
    simp only [push_cast, simprocAttr, tm0, td0, tm1, td1, tm2, td2, tm3, td3, tm4, td4, tm5, td5, tm6, td6, tm7, td7]
    refine Thn_n ?_
    refine hK _ _ ?_
    clear hK K
    refine AW.cond_t rfl ?_
    refine AW.region (by decide) ?_
    simp only [push_cast, simprocAttr, tm0, td0, tm1, td1, tm2, td2, tm3, td3, tm4, td4, tm5, td5, tm6, td6, tm7, td7]
  refine Thn_n ?_
  refine hK _ _ ?_
  clear hK K
  refine AW.region (by decide) ?_
  simp only [push_cast, simprocAttr, tm0, td0, tm1, td1, tm2, td2, tm3, td3, tm4, td4, tm5, td5, tm6, td6, tm7, td7]
  refine InB_n ?_
  refine Thn_n ?_
  refine hK _ _ ?_
  clear hK K
  refine AW.region (by decide) ?_
  simp only [push_cast, simprocAttr, tm0, td0, tm1, td1, tm2, td2, tm3, td3, tm4, td4, tm5, td5, tm6, td6, tm7, td7]
  refine Thn_n ?_
  refine hK _ _ ?_
  clear hK K
  refine ARounds.succ fun K hK => ?_
  refine AW.seq_k fun K hK => ?_
  refine AW.seq_k fun K hK => ?_
  refine AW.region (by decide) ?_
  simp only [push_cast, simprocAttr, tm0, td0, tm1, td1, tm2, td2, tm3, td3, tm4, td4, tm5, td5, tm6, td6, tm7, td7]
  refine Thn_n ?_
  refine hK _ _ ?_
  clear hK K
  refine AW.cond_f rfl ?_
  refine AW.exit ?_
  refine Thn_e ?_
  clear hK K
  refine Thn_e ?_
  clear hK K
  refine InB_here ?_
  refine Thn_n ?_
  refine hK _ _ ?_
  clear hK K
  refine AW.region (by decide) ?_
  simp only [push_cast, simprocAttr, tm0, td0, tm1, td1, tm2, td2, tm3, td3, tm4, td4, tm5, td5, tm6, td6, tm7, td7]
  refine InB_n ?_
  refine Thn_n ?_
  refine hK _ _ ?_
  clear hK K
  refine AW.region (by decide) ?_
  simp only [push_cast, simprocAttr, tm0, td0, tm1, td1, tm2, td2, tm3, td3, tm4, td4, tm5, td5, tm6, td6, tm7, td7]
  refine Thn_n ?_
  refine hK _ _ ?_
  clear hK K
  refine ARounds.succ fun K hK => ?_
  refine AW.seq_k fun K hK => ?_
  refine AW.seq_k fun K hK => ?_
  refine AW.region (by decide) ?_
  simp only [push_cast, simprocAttr, tm0, td0, tm1, td1, tm2, td2, tm3, td3, tm4, td4, tm5, td5, tm6, td6, tm7, td7]
  refine Thn_n ?_
  refine hK _ _ ?_
  clear hK K
  refine AW.cond_t rfl ?_
  refine AW.skip ?_
  refine Thn_n ?_
  refine hK _ _ ?_
  clear hK K
  refine AW.seq_k fun K hK => ?_
  refine AW.block ?_
  iterate 2
    refine AW.seq_k fun K hK => ?_
    refine AW.region (by decide) ?_
    simp only [push_cast, simprocAttr, tm0, td0, tm1, td1, tm2, td2, tm3, td3, tm4, td4, tm5, td5, tm6, td6, tm7, td7]
    refine Thn_n ?_
    refine hK _ _ ?_
    clear hK K
  refine AW.seq_k fun K hK => ?_
  refine AW.seq_k fun K hK => ?_
  refine AW.region (by decide) ?_
  simp only [push_cast, simprocAttr, tm0, td0, tm1, td1, tm2, td2, tm3, td3, tm4, td4, tm5, td5, tm6, td6, tm7, td7]
  refine Thn_n ?_
  refine hK _ _ ?_
  clear hK K
  refine AW.block ?_
  refine AW.rounds 4 ?_
  iterate 3
    refine ARounds.succ fun K hK => ?_
    refine AW.seq_k fun K hK => ?_
    refine AW.seq_k fun K hK => ?_
    refine AW.region (by decide) ?_
    simp only [push_cast, simprocAttr, tm0, td0, tm1, td1, tm2, td2, tm3, td3, tm4, td4, tm5, td5, tm6, td6, tm7, td7]
    refine Thn_n ?_
    refine hK _ _ ?_
    clear hK K
    refine AW.cond_t rfl ?_
    refine AW.skip ?_
    refine Thn_n ?_
    refine hK _ _ ?_
    clear hK K
    refine AW.seq_k fun K hK => ?_
    refine AW.block ?_
    refine AW.seq_k fun K hK => ?_
    refine AW.seq_k fun K hK => ?_
    refine AW.region (by decide) ?_
    simp only [push_cast, simprocAttr, tm0, td0, tm1, td1, tm2, td2, tm3, td3, tm4, td4, tm5, td5, tm6, td6, tm7, td7]
    refine Thn_n ?_
    refine hK _ _ ?_
    clear hK K
    refine AW.cond_t rfl ?_
    refine AW.region (by decide) ?_
    simp only [push_cast, simprocAttr, tm0, td0, tm1, td1, tm2, td2, tm3, td3, tm4, td4, tm5, td5, tm6, td6, tm7, td7]
    refine Thn_n ?_
    refine hK _ _ ?_
    clear hK K
    refine AW.region (by decide) ?_
    simp only [push_cast, simprocAttr, tm0, td0, tm1, td1, tm2, td2, tm3, td3, tm4, td4, tm5, td5, tm6, td6, tm7, td7]
    refine InB_n ?_
    refine Thn_n ?_
    refine hK _ _ ?_
    clear hK K
    refine AW.region (by decide) ?_
    simp only [push_cast, simprocAttr, tm0, td0, tm1, td1, tm2, td2, tm3, td3, tm4, td4, tm5, td5, tm6, td6, tm7, td7]
    refine Thn_n ?_
    refine hK _ _ ?_
    clear hK K
  refine ARounds.succ fun K hK => ?_
  refine AW.seq_k fun K hK => ?_
  refine AW.seq_k fun K hK => ?_
  refine AW.region (by decide) ?_
  simp only [push_cast, simprocAttr, tm0, td0, tm1, td1, tm2, td2, tm3, td3, tm4, td4, tm5, td5, tm6, td6, tm7, td7]
  refine Thn_n ?_
  refine hK _ _ ?_
  clear hK K
  refine AW.cond_f rfl ?_
  refine AW.exit ?_
  refine Thn_e ?_
  clear hK K
  refine Thn_e ?_
  clear hK K
  refine InB_here ?_
  refine Thn_n ?_
  refine hK _ _ ?_
  clear hK K
  refine AW.region (by decide) ?_
  simp only [push_cast, simprocAttr, tm0, td0, tm1, td1, tm2, td2, tm3, td3, tm4, td4, tm5, td5, tm6, td6, tm7, td7]
  refine InB_n ?_
  refine Thn_n ?_
  refine hK _ _ ?_
  clear hK K
  refine AW.region (by decide) ?_
  simp only [push_cast, simprocAttr, tm0, td0, tm1, td1, tm2, td2, tm3, td3, tm4, td4, tm5, td5, tm6, td6, tm7, td7]
  refine Thn_n ?_
  refine hK _ _ ?_
  clear hK K
  refine ARounds.succ fun K hK => ?_
  refine AW.seq_k fun K hK => ?_
  refine AW.seq_k fun K hK => ?_
  refine AW.region (by decide) ?_
  simp only [push_cast, simprocAttr, tm0, td0, tm1, td1, tm2, td2, tm3, td3, tm4, td4, tm5, td5, tm6, td6, tm7, td7]
  refine Thn_n ?_
  refine hK _ _ ?_
  clear hK K
  refine AW.cond_f rfl ?_
  refine AW.exit ?_
  refine Thn_e ?_
  clear hK K
  refine Thn_e ?_
  clear hK K
  refine InB_here ?_
  refine Thn_n ?_
  refine hK _ _ ?_
  clear hK K
  refine AW.seq_k fun K hK => ?_
  refine AW.nilCell 54 3 (m.length + 4) 1 (by simp only [push_cast, simprocAttr]; first | done | rfl) (by intro e; cases e) rfl ?_
  try simp only [push_cast, simprocAttr]
  refine AW.region (by decide) ?_
  simp only [push_cast, simprocAttr, tm0, td0, tm1, td1, tm2, td2, tm3, td3, tm4, td4, tm5, td5, tm6, td6, tm7, td7]
  refine CThen.by (field_c (m.length + 22) 0 0 (m.length + 5) 8 8 [] 0 1 3 2 _ (by simp) (by simp only [push_cast, simprocAttr]; first | done | rfl) rfl (by decide)) ?_
  simp only [push_cast, simprocAttr, tm0, td0, tm1, td1, tm2, td2, tm3, td3, tm4, td4, tm5, td5, tm6, td6, tm7, td7]
  refine Thn_n ?_
  refine hK _ _ ?_
  clear hK K
  refine AW.seq_k fun K hK => ?_
  refine AW.region (by decide) ?_
  simp only [push_cast, simprocAttr, tm0, td0, tm1, td1, tm2, td2, tm3, td3, tm4, td4, tm5, td5, tm6, td6, tm7, td7]
  refine CThen.by (field_c (m.length + 22) 2 2 (m.length + 5) 8 8 [(0, 1, 3), (0, 3, 2)] 4 6 7 5 _ (by simp) (by simp only [push_cast, simprocAttr]; first | done | rfl) rfl (by decide)) ?_
  simp only [push_cast, simprocAttr, tm0, td0, tm1, td1, tm2, td2, tm3, td3, tm4, td4, tm5, td5, tm6, td6, tm7, td7]
  refine Thn_n ?_
  refine hK _ _ ?_
  clear hK K
  refine AW.seq_k fun K hK => ?_
  refine AW.region (by decide) ?_
  simp only [push_cast, simprocAttr, tm0, td0, tm1, td1, tm2, td2, tm3, td3, tm4, td4, tm5, td5, tm6, td6, tm7, td7]
  refine CThen.by (field_c (m.length + 22) 4 4 (m.length + 5) 8 8 [(0, 1, 3), (0, 3, 2), (4, 6, 7), (4, 7, 5)] 0 4 5 1 _ (by simp) (by simp only [push_cast, simprocAttr]; first | done | rfl) rfl (by decide)) ?_
  simp only [push_cast, simprocAttr, tm0, td0, tm1, td1, tm2, td2, tm3, td3, tm4, td4, tm5, td5, tm6, td6, tm7, td7]
  refine Thn_n ?_
  refine hK _ _ ?_
  clear hK K
  refine AW.seq_k fun K hK => ?_
  refine AW.region (by decide) ?_
  simp only [push_cast, simprocAttr, tm0, td0, tm1, td1, tm2, td2, tm3, td3, tm4, td4, tm5, td5, tm6, td6, tm7, td7]
  refine CThen.by (field_c (m.length + 22) 6 6 (m.length + 5) 8 8 [(0, 1, 3), (0, 3, 2), (4, 6, 7), (4, 7, 5), (0, 4, 5), (0, 5, 1)] 2 3 7 6 _ (by simp) (by simp only [push_cast, simprocAttr]; first | done | rfl) rfl (by decide)) ?_
  simp only [push_cast, simprocAttr, tm0, td0, tm1, td1, tm2, td2, tm3, td3, tm4, td4, tm5, td5, tm6, td6, tm7, td7]
  refine Thn_n ?_
  refine hK _ _ ?_
  clear hK K
  refine AW.seq_k fun K hK => ?_
  refine AW.region (by decide) ?_
  simp only [push_cast, simprocAttr, tm0, td0, tm1, td1, tm2, td2, tm3, td3, tm4, td4, tm5, td5, tm6, td6, tm7, td7]
  refine CThen.by (field_c (m.length + 22) 8 8 (m.length + 5) 8 8 [(0, 1, 3), (0, 3, 2), (4, 6, 7), (4, 7, 5), (0, 4, 5), (0, 5, 1), (2, 3, 7), (2, 7, 6)] 0 2 6 4 _ (by simp) (by simp only [push_cast, simprocAttr]; first | done | rfl) rfl (by decide)) ?_
  simp only [push_cast, simprocAttr, tm0, td0, tm1, td1, tm2, td2, tm3, td3, tm4, td4, tm5, td5, tm6, td6, tm7, td7]
  refine Thn_n ?_
  refine hK _ _ ?_
  clear hK K
  refine AW.seq_k fun K hK => ?_
  refine AW.region (by decide) ?_
  simp only [push_cast, simprocAttr, tm0, td0, tm1, td1, tm2, td2, tm3, td3, tm4, td4, tm5, td5, tm6, td6, tm7, td7]
  refine CThen.by (field_c (m.length + 22) 10 10 (m.length + 5) 8 8 [(0, 1, 3), (0, 3, 2), (4, 6, 7), (4, 7, 5), (0, 4, 5), (0, 5, 1), (2, 3, 7), (2, 7, 6), (0, 2, 6), (0, 6, 4)] 1 5 7 3 _ (by simp) (by simp only [push_cast, simprocAttr]; first | done | rfl) rfl (by decide)) ?_
  simp only [push_cast, simprocAttr, tm0, td0, tm1, td1, tm2, td2, tm3, td3, tm4, td4, tm5, td5, tm6, td6, tm7, td7]
  refine Thn_n ?_
  refine hK _ _ ?_
  clear hK K
  refine AW.ret ?_
  refine hQ _ _ _ ?_
  refine RetP.pick [(m.length + 5, 8), (m.length + 22, 12)] (Or.inr rfl) ?_ ?_ ?_ hwf ?_
  · simp only [resA, resOne, resTv, AV.tv, push_cast, simprocAttr]
    simp [renV, renT, renL, renC, renIdx, hlt0]
  · simp only [picks, push_cast, simprocAttr] <;> rfl
  · simp [distinctFrom]
  · exact MWf_cons (tL_below _ _) (MWf_one (tL_below _ _))
end Go.Proofs.Ytiogpaehelpmhaa

set_option linter.unusedSimpArgs false
set_option linter.unusedVariables false
set_option maxRecDepth 100000
set_option maxHeartbeats 4000000
namespace Go.Proofs.Ytiogpaehelpmhaa
open Go Go.Eng

theorem from33_c (rp vp rf vf : Nat) (P Fs : List T3) (m : AMem) (hp : rf < m.length) (hpt : TRow m 49 rp vp P) (hP : P.length ≤ 4096) : Ctr Try.prog 18 [.agg [.sl rp vp 0 P.length, .sl rf vf 0 Fs.length]] m (.agg [.sl m.length 0 0 P.length, .sl rf vf 0 Fs.length]) (m ++ [⟨.grow, 24, 0, 3, tL P⟩]) := by
  refine Ctr.enter Try.func18 rfl (by decide) (rs := [.cell 2 34]) (nt := 25) rfl rfl fun hwf Q hQ => ?_
  obtain ⟨k0, ez0, hb⟩ := hpt.hb
  have hr0 := get_lt hb
  have hlt0 : ∀ k, ¬ m.length + k < m.length := fun k => by omega
  have hta : P.take P.length = P := List.take_of_length_le (Nat.le_refl _)
  iterate 2
    refine AW.seq_k fun K hK => ?_
    refine AW.region (by decide) ?_
    simp only [push_cast, simprocAttr, hb, lk_old hb]
    refine Thn_n ?_
    refine hK _ _ ?_
    clear hK K
  refine AW.seq_k fun K hK => ?_
  refine AW.seq_k fun K hK => ?_
  refine AW.region (by decide) ?_
  simp only [push_cast, simprocAttr, hb, lk_old hb]
  refine Thn_n ?_
  refine hK _ _ ?_
  clear hK K
  refine AW.block ?_
  refine AW.nilCell 24 3 (m.length + 2) 0 (by simp only [push_cast, simprocAttr, hb, lk_old hb]; first | done | rfl) (by intro e; cases e) rfl ?_
  try simp only [push_cast, simprocAttr, hb, lk_old hb]
  refine AW.loopK [2, 3, 10, 11] (fun i => i ≤ P.length) (fun i => [(12, .one (.int .i64 (i : Int)))]) (fun i => [(m.length + 2, ⟨.fix, 34, 0, 0, [.sl (m.length + 3) i 0 i, .sl rf vf 0 Fs.length]⟩), (m.length + 3, ⟨.grow, 24, i, 3, tL (P.take i)⟩)]) (fun i => P.length - i) 0 (by omega) ?_ ?_ fun i hi5 => ?_
  · first | rfl | (simp only [Keeps, Tm.get_cons, Nat.reduceEqDiff, ↓reduceIte, if_true, if_false, ite_true, ite_false, true_and, and_true, and_self, reduceCtorEq, Int.natCast_zero, List.take_zero, tL, List.flatMap_nil] <;> rfl)
  · first | rfl | (simp only [setAll, push_cast, simprocAttr, hb, lk_old hb, Int.natCast_zero, List.take_zero, tL, List.flatMap_nil] <;> rfl)
  try simp only [keepL, setAll, push_cast, simprocAttr, hb, lk_old hb]
  refine AW.seq_k fun K hK => ?_
  refine AW.region (by decide) ?_
  simp only [push_cast, simprocAttr, hb, lk_old hb]
  refine Thn_n ?_
  refine hK _ _ ?_
  clear hK K
  refine AW.seq_k fun K hK => ?_
  refine AW.cond rfl (fun h13 => ?_) (fun h13 => ?_)
  · have hlt : i < P.length := by have := of_decide_eq_true h13; omega
    have c1 : (0 : Int) ≤ (i : Int) := by omega
    have c2 : (i : Int) < (P.length : Nat) := by omega
    have c3 : i * 3 + 3 ≤ P.length * 3 := by omega
    have m1 : i ≤ 140737488355327 := by omega
    have m2 : (i + 1) * 24 ≤ 140737488355328 := by omega
    obtain ⟨t, ht⟩ : ∃ t, P[i]? = some t := ⟨_, List.getElem?_eq_getElem hlt⟩
    have g0 := tL_get0 ht
    have g1 := tL_get1 ht
    have g2 := tL_get2 ht
    have g3 := tL_at ht
    have gl := tL_len P
    have hst : tL (P.take i) ++ [.int .i64 t.1, .int .i64 t.2.1, .int .i64 t.2.2] = tL (P.take (i + 1)) := by rw [List.take_add_one, ht]; simp [tL, tC]
    have htk : (tL (P.take i)).length = i * 3 := by rw [tL_len, List.length_take]; congr 1; omega
    refine AW.skip ?_
    refine Thn_n ?_
    refine hK _ _ ?_
    clear hK K
    refine AW.seq_k fun K hK => ?_
    refine AW.block ?_
    refine AW.seq_k fun K hK => ?_
    refine AW.region (by decide) ?_
    simp only [push_cast, simprocAttr, hb, lk_old hb, c1, c2, c3, g0, g1, g2, g3, gl, htk, m1, m2]
    refine Thn_n ?_
    refine hK _ _ ?_
    clear hK K
    refine AW.draw [.val, .rd 0, .rd 0, .ext, .ext, .wr, .val, .wr] fol (by decide) (by kernel_rfl) ?_
    simp only [push_cast, simprocAttr, hb, lk_old hb, c1, c2, c3, g0, g1, g2, g3, gl, htk, m1, m2]
    refine DCall.by0 (v2from_c _ _ _ _) ?_
    simp only [push_cast, simprocAttr, hb, lk_old hb, c1, c2, c3, g0, g1, g2, g3, gl, htk, m1, m2]
    refine DExt.by (by first | rfl | (simp only [List.append_assoc, List.cons_append, List.nil_append]; rfl)) ?_
    simp only [push_cast, simprocAttr, hb, lk_old hb, c1, c2, c3, g0, g1, g2, g3, gl, htk, m1, m2]
    refine InB_n ?_
    refine Thn_n ?_
    refine hK _ _ ?_
    clear hK K
    refine AW.region (by decide) ?_
    simp only [push_cast, simprocAttr, hb, lk_old hb, c1, c2, c3, g0, g1, g2, g3, gl, htk, m1, m2]
    refine Thn_n ?_
    have hwi : IntKind.i64.wrap ((i:Int)+1) = (i:Int)+1 := wi (by omega)
    refine ⟨i + 1, by omega, by omega, ?_⟩
    try simp only [keepL, setAll, push_cast, simprocAttr, hb, lk_old hb, c1, c2, c3, g0, g1, g2, g3, gl, htk, m1, m2, hwi, hst]
    exact Weak.to (extra := [_, _]) (by simp only [Keeps, Tm.get_cons, Nat.reduceEqDiff, ↓reduceIte, if_true, if_false, ite_true, ite_false, true_and, and_true, and_self, reduceCtorEq, hwi, hst]) (by first | rfl | (simp only [List.append_assoc, List.cons_append, List.nil_append]; rfl)) (by first | rfl | (simp [AV.below, CV.below, tL_below]; done) | (simp [AV.below, CV.below, tL_below]; omega)) (by
      first | exact hwf | refine MWf.app (hwf.grow (by simp)) ?_
      repeat (first | exact MWf_nil | (refine MWf_cons ?_ ?_; · first | rfl | (simp [CV.below, tL_below]; done) | (simp [CV.below, tL_below]; omega))))
  · have hin : i = P.length := by have := of_decide_eq_false h13; omega
    subst hin
    refine AW.exit ?_
    refine Thn_e ?_
    clear hK K
    refine Thn_e ?_
    refine InB_here ?_
    refine Thn_n ?_
    refine hK _ _ ?_
    clear hK K
    refine AW.seq_k fun K hK => ?_
    refine AW.region (by decide) ?_
    simp only [push_cast, simprocAttr, hb, lk_old hb, hta]
    refine Thn_n ?_
    refine hK _ _ ?_
    clear hK K
    refine AW.ret ?_
    refine hQ _ _ _ ?_
    refine RetP.pick [(m.length + 3, P.length)] (Or.inr rfl) ?_ ?_ ?_ hwf ?_
    · simp only [resA, resOne, resTv, AV.tv, push_cast, simprocAttr]
      simp [renV, renT, renL, renC, renIdx, hlt0, hp]
    · simp only [picks, push_cast, simprocAttr]
    · simp [distinctFrom]
    · exact MWf_one (tL_below _ _)
theorem same33_c (ra va rb vb qa ua qb ub : Nat) (P Fs : List T3) (m : AMem) (h1 : TRow m 24 ra va P) (h2 : TRow m 24 rb vb P) (h3 : TRow m 54 qa ua Fs) (h4 : TRow m 54 qb ub Fs) (hP : P.length ≤ 4096) (hF : Fs.length ≤ 4096) : Ctr Try.prog 17 [.agg [.sl ra va 0 P.length, .sl qa ua 0 Fs.length], .agg [.sl rb vb 0 P.length, .sl qb ub 0 Fs.length]] m (.one (.bool true)) m := by
  refine Ctr.enter Try.func17 rfl (by decide) (rs := [.tmp 4]) (nt := 59) rfl rfl fun hwf Q hQ => ?_
  obtain ⟨k1, e1, b1⟩ := h1.hb
  have r1 := get_lt b1
  obtain ⟨k2, e2, b2⟩ := h2.hb
  have r2 := get_lt b2
  obtain ⟨k3, e3, b3⟩ := h3.hb
  have r3 := get_lt b3
  obtain ⟨k4, e4, b4⟩ := h4.hb
  have r4 := get_lt b4
  refine AW.seq_k fun K hK => ?_
  refine AW.region (by decide) ?_
  simp only [push_cast, simprocAttr, b1, lk_old b1, b2, lk_old b2, b3, lk_old b3, b4, lk_old b4, bne_self_eq_false, beq_self_eq_true]
  refine Thn_n ?_
  refine hK _ _ ?_
  clear hK K
  refine AW.seq_k fun K hK => ?_
  refine AW.seq_k fun K hK => ?_
  refine AW.region (by decide) ?_
  simp only [push_cast, simprocAttr, b1, lk_old b1, b2, lk_old b2, b3, lk_old b3, b4, lk_old b4, bne_self_eq_false, beq_self_eq_true]
  refine Thn_n ?_
  refine hK _ _ ?_
  clear hK K
  refine AW.cond_f rfl ?_
  refine AW.skip ?_
  refine Thn_n ?_
  refine hK _ _ ?_
  clear hK K
  refine AW.seq_k fun K hK => ?_
  refine AW.seq_k fun K hK => ?_
  refine AW.region (by decide) ?_
  simp only [push_cast, simprocAttr, b1, lk_old b1, b2, lk_old b2, b3, lk_old b3, b4, lk_old b4, bne_self_eq_false, beq_self_eq_true]
  refine Thn_n ?_
  refine hK _ _ ?_
  clear hK K
  refine AW.block ?_
  refine AW.loopK [2, 3] (fun i => i ≤ P.length) (fun i => [(5, .one (.int .i64 (i : Int)))]) (fun i => []) (fun i => P.length - i) 0 (by omega) ?_ ?_ fun i hi6 => ?_
  · first | rfl | (simp only [Keeps, Tm.get_cons, Nat.reduceEqDiff, ↓reduceIte, if_true, if_false, ite_true, ite_false, true_and, and_true, and_self, reduceCtorEq, Int.natCast_zero] <;> rfl)
  · first | rfl | (simp only [setAll, push_cast, simprocAttr, b1, lk_old b1, b2, lk_old b2, b3, lk_old b3, b4, lk_old b4, bne_self_eq_false, beq_self_eq_true, Int.natCast_zero] <;> rfl)
  try simp only [keepL, setAll, push_cast, simprocAttr, b1, lk_old b1, b2, lk_old b2, b3, lk_old b3, b4, lk_old b4, bne_self_eq_false, beq_self_eq_true]
  refine AW.seq_k fun K hK => ?_
  refine AW.seq_k fun K hK => ?_
  refine AW.region (by decide) ?_
  simp only [push_cast, simprocAttr, b1, lk_old b1, b2, lk_old b2, b3, lk_old b3, b4, lk_old b4, bne_self_eq_false, beq_self_eq_true]
  refine Thn_n ?_
  refine hK _ _ ?_
  clear hK K
  refine AW.cond rfl (fun h27 => ?_) (fun h27 => ?_)
  · have hlt : i < P.length := by have := of_decide_eq_true h27; omega
    have c1 : (0 : Int) ≤ (i : Int) := by omega
    have c2 : (i : Int) < (P.length : Nat) := by omega
    have c3 : i * 3 + 3 ≤ P.length * 3 := by omega
    obtain ⟨t, ht⟩ : ∃ t, P[i]? = some t := ⟨_, List.getElem?_eq_getElem hlt⟩
    have g0 := tL_get0 ht
    have g1 := tL_get1 ht
    have g2 := tL_get2 ht
    have g3 := tL_at ht
    have gl := tL_len P
    have hq : ∀ x : Int, (x == x) = true := fun x => beq_self_eq_true x
    refine AW.skip ?_
    refine Thn_n ?_
    refine hK _ _ ?_
    clear hK K
    refine AW.seq_k fun K hK => ?_
    refine AW.block ?_
    refine AW.seq_k fun K hK => ?_
    refine AW.draw [.val, .rd 0, .val, .val, .rd 0, .val, .rd 0, .val, .val, .rd 0, .val] fol (by decide) (by kernel_rfl) ?_
    simp only [push_cast, simprocAttr, b1, lk_old b1, b2, lk_old b2, b3, lk_old b3, b4, lk_old b4, bne_self_eq_false, beq_self_eq_true, c1, c2, c3, g0, g1, g2, g3, gl, hq]
    refine Thn_n ?_
    refine hK _ _ ?_
    clear hK K
    refine AW.cond_f rfl ?_
    refine AW.skip ?_
    refine InB_n ?_
    refine Thn_n ?_
    refine hK _ _ ?_
    clear hK K
    refine AW.region (by decide) ?_
    simp only [push_cast, simprocAttr, b1, lk_old b1, b2, lk_old b2, b3, lk_old b3, b4, lk_old b4, bne_self_eq_false, beq_self_eq_true, c1, c2, c3, g0, g1, g2, g3, gl, hq]
    refine Thn_n ?_
    have hwi : IntKind.i64.wrap ((i:Int)+1) = (i:Int)+1 := wi (by omega)
    refine ⟨i + 1, by omega, by omega, ?_⟩
    try simp only [keepL, setAll, push_cast, simprocAttr, b1, lk_old b1, b2, lk_old b2, b3, lk_old b3, b4, lk_old b4, bne_self_eq_false, beq_self_eq_true, c1, c2, c3, g0, g1, g2, g3, gl, hq, hwi]
    exact Weak.same (by simp only [Keeps, Tm.get_cons, Nat.reduceEqDiff, ↓reduceIte, if_true, if_false, ite_true, ite_false, true_and, and_true, and_self, reduceCtorEq, hwi]) (by first | rfl | simp only [Keeps, Tm.get_cons, Nat.reduceEqDiff, ↓reduceIte, if_true, if_false, ite_true, ite_false, true_and, and_true, and_self, reduceCtorEq, hwi])
  · have hin : i = P.length := by have := of_decide_eq_false h27; omega
    refine AW.exit ?_
    refine Thn_e ?_
    clear hK K
    refine Thn_e ?_
    refine InB_here ?_
    refine Thn_n ?_
    refine hK _ _ ?_
    clear hK K
    refine AW.seq_k fun K hK => ?_
    refine AW.seq_k fun K hK => ?_
    refine AW.region (by decide) ?_
    simp only [push_cast, simprocAttr, b1, lk_old b1, b2, lk_old b2, b3, lk_old b3, b4, lk_old b4, bne_self_eq_false, beq_self_eq_true]
    refine Thn_n ?_
    refine hK _ _ ?_
    clear hK K
    refine AW.block ?_
    refine AW.loopK [2, 3] (fun i => i ≤ Fs.length) (fun i => [(6, .one (.int .i64 (i : Int)))]) (fun i => []) (fun i => Fs.length - i) 0 (by omega) ?_ ?_ fun i hi13 => ?_
    · first | rfl | (simp only [Keeps, Tm.get_cons, Nat.reduceEqDiff, ↓reduceIte, if_true, if_false, ite_true, ite_false, true_and, and_true, and_self, reduceCtorEq, Int.natCast_zero] <;> rfl)
    · first | rfl | (simp only [setAll, push_cast, simprocAttr, b1, lk_old b1, b2, lk_old b2, b3, lk_old b3, b4, lk_old b4, bne_self_eq_false, beq_self_eq_true, Int.natCast_zero] <;> rfl)
    try simp only [keepL, setAll, push_cast, simprocAttr, b1, lk_old b1, b2, lk_old b2, b3, lk_old b3, b4, lk_old b4, bne_self_eq_false, beq_self_eq_true]
    refine AW.seq_k fun K hK => ?_
    refine AW.seq_k fun K hK => ?_
    refine AW.region (by decide) ?_
    simp only [push_cast, simprocAttr, b1, lk_old b1, b2, lk_old b2, b3, lk_old b3, b4, lk_old b4, bne_self_eq_false, beq_self_eq_true]
    refine Thn_n ?_
    refine hK _ _ ?_
    clear hK K
    refine AW.cond rfl (fun h45 => ?_) (fun h45 => ?_)
    · have hlt : i < Fs.length := by have := of_decide_eq_true h45; omega
      have c1 : (0 : Int) ≤ (i : Int) := by omega
      have c2 : (i : Int) < (Fs.length : Nat) := by omega
      have c3 : i * 3 + 3 ≤ Fs.length * 3 := by omega
      obtain ⟨t, ht⟩ : ∃ t, Fs[i]? = some t := ⟨_, List.getElem?_eq_getElem hlt⟩
      have g0 := tL_get0 ht
      have g1 := tL_get1 ht
      have g2 := tL_get2 ht
      have g3 := tL_at ht
      have gl := tL_len Fs
      have hq : ∀ x : Int, (x == x) = true := fun x => beq_self_eq_true x
      refine AW.skip ?_
      refine Thn_n ?_
      refine hK _ _ ?_
      clear hK K
      refine AW.seq_k fun K hK => ?_
      refine AW.block ?_
      refine AW.seq_k fun K hK => ?_
      refine AW.draw [.val, .rd 0, .val, .val, .rd 0, .val, .rd 0, .val, .val, .rd 0, .val] fol (by decide) (by kernel_rfl) ?_
      simp only [push_cast, simprocAttr, b1, lk_old b1, b2, lk_old b2, b3, lk_old b3, b4, lk_old b4, bne_self_eq_false, beq_self_eq_true, c1, c2, c3, g0, g1, g2, g3, gl, hq]
      refine Thn_n ?_
      refine hK _ _ ?_
      clear hK K
      refine AW.cond_f rfl ?_
      refine AW.skip ?_
      refine InB_n ?_
      refine Thn_n ?_
      refine hK _ _ ?_
      clear hK K
      refine AW.region (by decide) ?_
      simp only [push_cast, simprocAttr, b1, lk_old b1, b2, lk_old b2, b3, lk_old b3, b4, lk_old b4, bne_self_eq_false, beq_self_eq_true, c1, c2, c3, g0, g1, g2, g3, gl, hq]
      refine Thn_n ?_
      have hwi : IntKind.i64.wrap ((i:Int)+1) = (i:Int)+1 := wi (by omega)
      refine ⟨i + 1, by omega, by omega, ?_⟩
      try simp only [keepL, setAll, push_cast, simprocAttr, b1, lk_old b1, b2, lk_old b2, b3, lk_old b3, b4, lk_old b4, bne_self_eq_false, beq_self_eq_true, c1, c2, c3, g0, g1, g2, g3, gl, hq, hwi]
      exact Weak.same (by simp only [Keeps, Tm.get_cons, Nat.reduceEqDiff, ↓reduceIte, if_true, if_false, ite_true, ite_false, true_and, and_true, and_self, reduceCtorEq, hwi]) (by first | rfl | simp only [Keeps, Tm.get_cons, Nat.reduceEqDiff, ↓reduceIte, if_true, if_false, ite_true, ite_false, true_and, and_true, and_self, reduceCtorEq, hwi])
    · have hin : i = Fs.length := by have := of_decide_eq_false h45; omega
      refine AW.exit ?_
      refine Thn_e ?_
      clear hK K
      refine Thn_e ?_
      refine InB_here ?_
      refine Thn_n ?_
      refine hK _ _ ?_
      clear hK K
      refine AW.seq_k fun K hK => ?_
      refine AW.region (by decide) ?_
      simp only [push_cast, simprocAttr, b1, lk_old b1, b2, lk_old b2, b3, lk_old b3, b4, lk_old b4, bne_self_eq_false, beq_self_eq_true]
      refine Thn_n ?_
      refine hK _ _ ?_
      clear hK K
      refine AW.ret ?_
      refine hQ _ _ _ ?_
      first | refine RetP.drop0 (Or.inr rfl) ?_ ?_ hwf | refine RetP.drop (Or.inr rfl) ?_ ?_ hwf
      · simp only [resA, resOne, resTv, AV.tv, push_cast, simprocAttr, b1, lk_old b1, b2, lk_old b2, b3, lk_old b3, b4, lk_old b4, bne_self_eq_false, beq_self_eq_true]
      · rfl
end Go.Proofs.Ytiogpaehelpmhaa

set_option linter.unusedSimpArgs false
set_option linter.unusedVariables false
set_option maxRecDepth 100000
set_option maxHeartbeats 4000000
namespace Go.Proofs.Ytiogpaehelpmhaa
open Go Go.Eng

/-- Edges numbered from a number on. -/
def nmE : Nat → List EK → List (EK × Int)
  | _, [] => []
  | s, k :: l => (k, (s : Int)) :: nmE (s + 1) l
theorem nmE_len : ∀ (s : Nat) (l : List EK), (nmE s l).length = l.length
  | _, [] => rfl
  | s, k :: l => by show (nmE (s + 1) l).length + 1 = _; rw [nmE_len]; rfl
theorem nmE_fst : ∀ (s : Nat) (l : List EK), (nmE s l).map (·.1) = l
  | _, [] => rfl
  | s, k :: l => by show k :: (nmE (s + 1) l).map (·.1) = _; rw [nmE_fst]
theorem nmE_app : ∀ (s : Nat) (l : List EK) (k : EK), nmE s (l ++ [k]) = nmE s l ++ [(k, ((s + l.length : Nat) : Int))]
  | s, [], k => rfl
  | s, x :: l, k => by
    show (x, (s : Int)) :: nmE (s + 1) (l ++ [k]) = _
    rw [nmE_app (s + 1) l k, show s + 1 + l.length = s + (x :: l).length by simp; omega]; rfl
theorem idxE_none {k : EK} : ∀ {E : List (EK × Int)}, k ∉ E.map (·.1) → idxE k E = none
  | [], _ => rfl
  | e :: E, h => by
    unfold idxE
    rw [if_neg fun hk => h (by rw [← hk]; exact List.mem_cons_self), idxE_none fun hm => h (List.mem_cons_of_mem _ hm)]; rfl
theorem idx_mem {E : List (EK × Int)} {k : EK} (h1 : k ∈ E.map (·.1)) : ∃ j c, E[j]? = some (k, c) ∧ idxE k E = some j ∧ cntE E k = c := by
  induction E with
  | nil => cases h1
  | cons e T ih =>
    by_cases hk : e.1 = k
    · exact ⟨0, e.2, by rw [← hk]; rfl, by unfold idxE; rw [if_pos hk], by
        unfold cntE
        rw [List.find?_cons, show (e.1 == k) = true by simpa using hk]; rfl⟩
    · rcases List.mem_cons.1 h1 with h2 | h2
      · exact (hk h2.symm).elim
      · obtain ⟨j, c, p1, p2, p3⟩ := ih h2
        refine ⟨j + 1, c, by simpa using p1, by unfold idxE; rw [if_neg hk, p2]; rfl, ?_⟩
        rw [← p3]
        unfold cntE
        rw [List.find?_cons, show (e.1 == k) = false by simpa using hk]
theorem ks_nd (Fs : List T3) : (ksE (tally Fs Fs.length)).Nodup := (srtE_perm _).symm.nodup (tally_nd Fs _)
theorem nm_step {s i : Nat} {ks : List EK} {k : EK} (hk : ks[i]? = some k) (hn : ks.Nodup) : nmE s (ks.take i) ++ [(k, ((s + i : Nat) : Int))] = nmE s (ks.take (i + 1)) ∧ idxE k (nmE s (ks.take i)) = none := by
  have hi : i < ks.length := (List.getElem?_eq_some_iff.1 hk).1
  have hl : (ks.take i).length = i := by rw [List.length_take]; omega
  have h1 : ks.take (i + 1) = ks.take i ++ [k] := by rw [List.take_add_one, hk]; rfl
  refine ⟨by rw [h1, nmE_app, hl], idxE_none ?_⟩
  rw [nmE_fst]
  intro hm
  have h2 := hn.sublist (List.take_sublist (i + 1) ks)
  rw [h1, List.nodup_append] at h2
  exact h2.2.2 k hm k (by simp) rfl
/-- Every edge of every face is counted. -/
theorem faceE_mono {E : List (EK × Int)} {t : T3} {x : EK} (h : x ∈ E.map (·.1)) : ∀ k, x ∈ (faceE E t k).map (·.1)
  | 0 => h
  | k + 1 => inc_mem.2 (.inr (faceE_mono h k))
theorem faceE_has {E : List (EK × Int)} {t : T3} : ∀ {n k : Nat}, k < n → fKey t k ∈ (faceE E t n).map (·.1)
  | n + 1, k, h => by
    rcases Nat.lt_or_ge k n with h1 | h1
    · exact inc_mem.2 (.inr (faceE_has h1))
    · have : k = n := by omega
      subst this
      exact inc_mem.2 (.inl rfl)
theorem tally_has {Fs : List T3} {t : T3} {k : Nat} (hk : k < 3) : ∀ {n j : Nat}, j < n → Fs[j]? = some t → fKey t k ∈ (tally Fs n).map (·.1)
  | n + 1, j, h, ht => by
    rcases Nat.lt_or_ge j n with h1 | h1
    · have ih := tally_has hk h1 ht
      cases h2 : Fs[n]? with
      | none =>
        have e : tally Fs (n + 1) = tally Fs n := by show (match Fs[n]? with | some t => _ | none => _) = _; rw [h2]
        rw [e]; exact ih
      | some t2 => rw [tally_s h2]; exact faceE_mono ih 3
    · have : j = n := by omega
      subst this
      rw [tally_s ht]; exact faceE_has hk
theorem ks_has {Fs : List T3} {t : T3} {j k : Nat} (ht : Fs[j]? = some t) (hk : k < 3) : fKey t k ∈ ksE (tally Fs Fs.length) :=
  (srtE_perm _).mem_iff.2 (tally_has hk (List.getElem?_eq_some_iff.1 ht).1 ht)
/-- Edges lie in the mesh. -/
theorem chk_ok {n : Nat} {l : List T3} (h : chk n l = 0) : ∀ t, t ∈ l → okF n t := by
  unfold chk at h
  split at h
  · cases h
  · split at h
    · assumption
    · cases h
def EIn (n : Nat) (k : EK) : Prop := 0 ≤ k.1 ∧ k.1 < n ∧ 0 ≤ k.2 ∧ k.2 < n
theorem fv_in {n : Nat} {t : T3} (h : okF n t) : ∀ k, 0 ≤ fv t k ∧ fv t k < n
  | 0 => by have := h; unfold okF at this; show 0 ≤ t.1 ∧ t.1 < n; omega
  | 1 => by have := h; unfold okF at this; show 0 ≤ t.2.1 ∧ t.2.1 < n; omega
  | k + 2 => by have := h; unfold okF at this; show 0 ≤ t.2.2 ∧ t.2.2 < n; omega
theorem eKey_in {n : Nat} {a b : Int} (ha : 0 ≤ a ∧ a < n) (hb : 0 ≤ b ∧ b < n) : EIn n (eKey a b) := by
  show 0 ≤ Eng.minI a b ∧ Eng.minI a b < n ∧ 0 ≤ Eng.maxI a b ∧ Eng.maxI a b < n
  unfold Eng.minI Eng.maxI
  split <;> split <;> omega
theorem tally_in {n : Nat} {Fs : List T3} (h : chk n Fs = 0) (i : Nat) : ∀ x, x ∈ (tally Fs i).map (·.1) → EIn n x :=
  tally_all (fun t ht k => eKey_in (fv_in (chk_ok h t ht) _) (fv_in (chk_ok h t ht) _)) i
theorem tally_bk {n : Nat} {Fs : List T3} (h : chk n Fs = 0) (i : Nat) : BK1 ((tally Fs i).map (·.1)) := fun x hx => by
  have := tally_in h i x hx
  have := chk_len h
  unfold EIn at *
  omega
theorem ks_in {n : Nat} {Fs : List T3} (h : chk n Fs = 0) : ∀ x, x ∈ ksE (tally Fs Fs.length) → EIn n x := fun x hx => tally_in h _ x ((srtE_perm _).mem_iff.1 hx)
/-- A point halfway. -/
def midT (p q : T3) : T3 := (lerpI p.1 q.1 32768, lerpI p.2.1 q.2.1 32768, lerpI p.2.2 q.2.2 32768)
def atP (P : List T3) (i : Int) : T3 := P.getD i.toNat (0, 0, 0)
def midP (P : List T3) (k : EK) : T3 := midT (atP P k.1) (atP P k.2)
theorem atP_at {P : List T3} {a : Nat} {t : T3} (h : P[a]? = some t) : atP P (a : Int) = t := by
  unfold atP; rw [Int.toNat_natCast, List.getD_eq_getElem?_getD, h]; rfl
def edI (n : Nat) (ks : List EK) (k : EK) : Int := cntE (nmE n ks) k
def finF (n : Nat) (ks : List EK) (t : T3) : List T3 :=
  [(t.1, edI n ks (fKey t 0), edI n ks (fKey t 2)), (edI n ks (fKey t 0), t.2.1, edI n ks (fKey t 1)), (edI n ks (fKey t 2), edI n ks (fKey t 1), t.2.2), (edI n ks (fKey t 0), edI n ks (fKey t 1), edI n ks (fKey t 2))]
def fnP (P Fs : List T3) : List T3 := P ++ (ksE (tally Fs Fs.length)).map (midP P)
def fnF (n : Nat) (Fs : List T3) : List T3 := Fs.flatMap (finF n (ksE (tally Fs Fs.length)))
theorem fl_step {n i : Nat} {ks : List EK} {Fs : List T3} {t : T3} (h : Fs[i]? = some t) : tL ((Fs.take i).flatMap (finF n ks)) ++ tL (finF n ks t) = tL ((Fs.take (i + 1)).flatMap (finF n ks)) := by
  rw [List.take_add_one, h, tL_app]; simp
theorem fl_len (n : Nat) (ks : List EK) : ∀ l : List T3, (l.flatMap (finF n ks)).length = 4 * l.length
  | [] => rfl
  | t :: l => by
    rw [List.flatMap_cons, List.length_append, fl_len n ks l, List.length_cons]
    show 4 + _ = _
    omega
theorem md_step {P : List T3} {ks : List EK} {i : Nat} {k : EK} (h : ks[i]? = some k) : tL (P ++ (ks.take i).map (midP P)) ++ tC (midP P k) = tL (P ++ (ks.take (i + 1)).map (midP P)) := by
  rw [List.take_add_one, h]; simp [tL]
theorem fin1_c (x y : Int) (r rm clock : Nat) (E : List (EK × Int)) (m : AMem) (h : m[r]? = some ⟨.fix, 91, 0, 0, [.mp rm 0]⟩) (hm : m[rm]? = some ⟨.map true false clock (mE 0 E), 91, 0, 0, []⟩) (hk : eKey x y ∈ E.map (·.1)) : Ctr Try.prog 39 [.one (.int .i64 x), .one (.int .i64 y), .one (.ptr r 0 0)] m (.one (.int .i64 (cntE E (eKey x y)))) m := by
  refine Ctr.enter Try.func39 rfl (by decide) (rs := [.tmp 5]) (nt := 15) rfl rfl fun hwf Q hQ => ?_
  obtain ⟨j, c, p1, p2, p3⟩ := idx_mem hk
  rw [p3] at hQ
  have g1 : findL [CV.int .i64 (Eng.minI x y), .int .i64 (Eng.maxI x y)] (mE 0 E) = some (some j) := (findL_mE (eKey x y) 0 E).trans (by rw [p2])
  have g4 : (mE 0 E)[j]? = some (j, [CV.int .i64 (Eng.minI x y), .int .i64 (Eng.maxI x y)], [.int .i64 c]) := by have := mE_get (s := 0) p1; rw [Nat.zero_add] at this; exact this
  iterate 2
    refine AW.seq_k fun K hK => ?_
    refine AW.region (by decide) ?_
    simp only [push_cast, simprocAttr, h, lk_old h, hm, lk_old hm, g1, g4]
    refine Thn_n ?_
    refine hK _ _ ?_
    clear hK K
  refine AW.ret ?_
  refine hQ _ _ _ ?_
  first | refine RetP.drop0 (Or.inr rfl) ?_ ?_ hwf | refine RetP.drop (Or.inr rfl) ?_ ?_ hwf
  · simp only [resA, resOne, resTv, AV.tv, push_cast, simprocAttr, h, lk_old h, hm, lk_old hm, g1, g4]
  · rfl
end Go.Proofs.Ytiogpaehelpmhaa

set_option linter.unusedSimpArgs false
set_option linter.unusedVariables false
set_option maxRecDepth 100000
set_option maxHeartbeats 4000000
namespace Go.Proofs.Ytiogpaehelpmhaa
open Go Go.Eng

theorem finer_ok (rp vp rf vf : Nat) (P Fs : List T3) (m : AMem) (hp : rp < m.length) (hpt : TRow m 49 rp vp P) (hf : TRow m 54 rf vf Fs) (hP : P.length ≤ 4096) (hF : Fs.length ≤ 4096) (hc : chk P.length Fs = 0) (hc2 : chk (fnP P Fs).length (fnF P.length Fs) = 0) : Ctr Try.prog 12 [.agg [.sl rp vp 0 P.length, .sl rf vf 0 Fs.length]] m (.tup [(true, [.sl m.length 0 0 (fnP P Fs).length, .sl (m.length + 1) 0 0 (fnF P.length Fs).length]), (false, [.int .i64 0])]) (m ++ [⟨.grow, 49, 0, 3, tL (fnP P Fs)⟩, ⟨.grow, 54, 0, 3, tL (fnF P.length Fs)⟩]) := by
  refine Ctr.enter Try.func12 rfl (by decide) (rs := [.cell 2 37, .tmp 3]) (nt := 122) rfl rfl fun hwf Q hQ => ?_
  obtain ⟨k0, ez0, hb0⟩ := hpt.hb
  obtain ⟨k1, ez1, hb⟩ := hf.hb
  have hr0 := get_lt hb
  have hlt0 : ∀ k, ¬ m.length + k < m.length := fun k => by omega
  obtain ⟨T, hT⟩ : ∃ T, T = tally Fs Fs.length := ⟨_, rfl⟩
  obtain ⟨ke, hke⟩ : ∃ ke, ke = ksE T := ⟨_, rfl⟩
  obtain ⟨N, hN⟩ : ∃ N, N = T.length := ⟨_, rfl⟩
  have hTb : BK1 (T.map (·.1)) := by rw [hT]; exact tally_bk hc _
  have hKN : ke.length = N := by rw [hke, hN]; exact ksE_len T
  have hKn : ke.Nodup := by rw [hke, hT]; exact ks_nd Fs
  have hKi : ∀ x, x ∈ ke → EIn P.length x := by rw [hke, hT]; exact ks_in hc
  have hKh : ∀ {t : T3} {j k : Nat}, Fs[j]? = some t → k < 3 → fKey t k ∈ ke := by rw [hke, hT]; exact ks_has
  have hfp : fnP P Fs = P ++ ke.map (midP P) := by rw [hke, hT]; rfl
  have hff : fnF P.length Fs = Fs.flatMap (finF P.length ke) := by rw [hke, hT]; rfl
  have hfpl : (P ++ ke.map (midP P)).length = P.length + N := by simp [hKN]
  have hffl := fl_len P.length ke Fs
  rw [hfp, hff] at hc2 hQ
  rw [hfpl] at hc2 hQ
  rw [hffl] at hQ
  have hll0 := chk_len hc
  have hTl : N ≤ 3072 := by rw [hN, hT]; have := tally_len Fs Fs.length; omega
  have b0 : (chk P.length Fs != 0) = false := by simp [hc]
  have b1 : (chk (P.length + N) (Fs.flatMap (finF P.length ke)) != 0) = false := by simp [hc2]
  refine AW.seq_k fun K hK => ?_
  refine AW.region (by decide) ?_
  simp only [push_cast, simprocAttr, hb, lk_old hb, hb0, lk_old hb0, b0, b1, ← hN, ← hke]
  refine Thn_n ?_
  refine hK _ _ ?_
  clear hK K
  refine AW.seq_k fun K hK => ?_
  refine AW.seq_k fun K hK => ?_
  refine AW.region (by decide) ?_
  simp only [push_cast, simprocAttr, hb, lk_old hb, hb0, lk_old hb0, b0, b1, ← hN, ← hke]
  refine CThen.by (check_c rp vp rf vf P Fs _ (by simp; omega) (hf.mono _)) ?_
  simp only [push_cast, simprocAttr, hb, lk_old hb, hb0, lk_old hb0, b0, b1, ← hN, ← hke]
  refine Thn_n ?_
  refine hK _ _ ?_
  clear hK K
  refine AW.seq_k fun K hK => ?_
  refine AW.region (by decide) ?_
  simp only [push_cast, simprocAttr, hb, lk_old hb, hb0, lk_old hb0, b0, b1, ← hN, ← hke]
  refine Thn_n ?_
  refine hK _ _ ?_
  clear hK K
  refine AW.cond_f rfl ?_
  refine AW.skip ?_
  refine Thn_n ?_
  refine hK _ _ ?_
  clear hK K
  refine AW.seq_k fun K hK => ?_
  refine AW.region (by decide) ?_
  simp only [push_cast, simprocAttr, hb, lk_old hb, hb0, lk_old hb0, b0, b1, ← hN, ← hke]
  refine CThen.by (clonev_c rp vp P.length P _ (by simp; omega) (hpt.mono _) rfl hP) ?_
  simp only [push_cast, simprocAttr, hb, lk_old hb, hb0, lk_old hb0, b0, b1, ← hN, ← hke]
  refine Thn_n ?_
  refine hK _ _ ?_
  clear hK K
  refine AW.seq_k fun K hK => ?_
  refine AW.region (by decide) ?_
  simp only [push_cast, simprocAttr, hb, lk_old hb, hb0, lk_old hb0, b0, b1, ← hN, ← hke]
  refine CThen.by (edges_x rp vp rf vf P Fs _ (by simp; omega) (hf.mono _) hc T hT hTb) ?_
  simp only [push_cast, simprocAttr, hb, lk_old hb, hb0, lk_old hb0, b0, b1, ← hN, ← hke]
  refine Thn_n ?_
  refine hK _ _ ?_
  clear hK K
  refine AW.seq_k fun K hK => ?_
  refine AW.region (by decide) ?_
  simp only [push_cast, simprocAttr, hb, lk_old hb, hb0, lk_old hb0, b0, b1, ← hN, ← hke]
  refine Thn_n ?_
  refine hK _ _ ?_
  clear hK K
  refine AW.seq_k fun K hK => ?_
  refine AW.seq_k fun K hK => ?_
  refine AW.region (by decide) ?_
  simp only [push_cast, simprocAttr, hb, lk_old hb, hb0, lk_old hb0, b0, b1, ← hN, ← hke]
  refine Thn_n ?_
  refine hK _ _ ?_
  clear hK K
  refine AW.block ?_
  refine AW.loopK [1, 2, 5, 8, 34, 35] (fun i => i ≤ N) (fun i => [(36, .one (.int .i64 (i : Int)))]) (fun i => [(m.length + 2, ⟨.grow, 49, i, 3, tL (P ++ (ke.take i).map (midP P))⟩), (m.length + 3, ⟨.fix, 37, 0, 0, [.sl (m.length + 2) i 0 (P.length + i), .nils]⟩), (m.length + 6, ⟨.map true false i (mE 0 (nmE P.length (ke.take i))), 91, 0, 0, []⟩)]) (fun i => N - i) 0 (by omega) ?_ ?_ fun i hi10 => ?_
  · first | rfl | (simp only [Keeps, Tm.get_cons, Nat.reduceEqDiff, ↓reduceIte, if_true, if_false, ite_true, ite_false, true_and, and_true, and_self, reduceCtorEq, Int.natCast_zero, List.take_zero, List.map_nil, List.append_nil, nmE, mE, Nat.add_zero] <;> rfl)
  · first | rfl | (simp only [setAll, push_cast, simprocAttr, hb, lk_old hb, hb0, lk_old hb0, b0, b1, ← hN, ← hke, Int.natCast_zero, List.take_zero, List.map_nil, List.append_nil, nmE, mE, Nat.add_zero] <;> rfl)
  try simp only [keepL, setAll, push_cast, simprocAttr, hb, lk_old hb, hb0, lk_old hb0, b0, b1, ← hN, ← hke]
  refine AW.seq_k fun K hK => ?_
  refine AW.region (by decide) ?_
  simp only [push_cast, simprocAttr, hb, lk_old hb, hb0, lk_old hb0, b0, b1, ← hN, ← hke]
  refine Thn_n ?_
  refine hK _ _ ?_
  clear hK K
  refine AW.seq_k fun K hK => ?_
  refine AW.cond rfl (fun h37 => ?_) (fun h37 => ?_)
  · have hlt : i < N := by have := of_decide_eq_true h37; omega
    have c1 : (0 : Int) ≤ (i : Int) := by omega
    have c2 : (i : Int) < (N : Nat) := by omega
    have c3 : i * 2 + 2 ≤ N * 2 := by omega
    obtain ⟨k, hk⟩ : ∃ k, ke[i]? = some k := ⟨_, List.getElem?_eq_getElem (by omega)⟩
    have g0 := pL_at hk
    have gl := pL_len ke
    rw [hKN] at gl
    have hin := hKi k (List.mem_of_getElem? hk)
    obtain ⟨e1, e2, e3, e4⟩ := hin
    obtain ⟨ka, kb⟩ := k
    obtain ⟨a, rfl⟩ := Int.eq_ofNat_of_zero_le e1
    obtain ⟨b, rfl⟩ := Int.eq_ofNat_of_zero_le e3
    dsimp only at e1 e2 e3 e4 g0
    have ha : a < P.length := by omega
    have hb' : b < P.length := by omega
    obtain ⟨p, hpa⟩ : ∃ p, P[a]? = some p := ⟨_, List.getElem?_eq_getElem ha⟩
    obtain ⟨q, hqb⟩ : ∃ q, P[b]? = some q := ⟨_, List.getElem?_eq_getElem hb'⟩
    have gp := tL_at hpa
    have gq := tL_at hqb
    have gpl := tL_len P
    have c4 : a * 3 + 3 ≤ P.length * 3 := by omega
    have c5 : b * 3 + 3 ≤ P.length * 3 := by omega
    obtain ⟨hns1, hns2⟩ := nm_step (s := P.length) hk hKn
    have hfd : findL [CV.int .i64 (a : Int), .int .i64 (b : Int)] (mE 0 (nmE P.length (ke.take i))) = some none := (findL_mE _ 0 _).trans (by rw [hns2])
    have hnl : (nmE P.length (ke.take i)).length = i := by rw [nmE_len, List.length_take]; omega
    have hns : mE 0 (nmE P.length (ke.take i)) ++ [(i, [CV.int .i64 (a : Int), .int .i64 (b : Int)], [.int .i64 ((P.length + i : Nat) : Int)])] = mE 0 (nmE P.length (ke.take (i + 1))) := by
      rw [← hns1, ← mE_app, Nat.zero_add, hnl]
    have hst0 := md_step (P := P) hk
    have hmid : midP P ((a : Int), (b : Int)) = midT p q := by unfold midP; rw [atP_at hpa, atP_at hqb]
    rw [hmid] at hst0
    have hst : tL (P ++ (ke.take i).map (midP P)) ++ [.int .i64 (lerpI p.1 q.1 32768), .int .i64 (lerpI p.2.1 q.2.1 32768), .int .i64 (lerpI p.2.2 q.2.2 32768)] = tL (P ++ (ke.take (i + 1)).map (midP P)) := hst0
    have htk : (tL (P ++ (ke.take i).map (midP P))).length = (P.length + i) * 3 := by rw [tL_len, List.length_append, List.length_map, List.length_take]; congr 1; omega
    have m1 : P.length + (i + 1) ≤ 140737488355328 := by omega
    have m2 : (P.length + (i + 1)) * 24 ≤ 140737488355328 := by omega
    rw [Int.natCast_add] at hns
    refine AW.skip ?_
    refine Thn_n ?_
    refine hK _ _ ?_
    clear hK K
    refine AW.seq_k fun K hK => ?_
    refine AW.block ?_
    iterate 2
      refine AW.seq_k fun K hK => ?_
      refine AW.region (by decide) ?_
      simp only [push_cast, simprocAttr, hb, lk_old hb, hb0, lk_old hb0, b0, b1, ← hN, ← hke, c1, c2, c3, g0, gl, e1, e2, e3, e4, gp, gq, gpl, c4, c5, hfd, htk, m1, m2, hnl]
      refine Thn_n ?_
      refine hK _ _ ?_
      clear hK K
    refine AW.draw [.val, .rd 0, .val, .rd 0, .val, .rd 0, .val, .rd 0, .val, .rd 0, .val, .rd 0, .val, .rd 0, .ext, .ext, .wr, .val, .wr] fol (by decide) (by kernel_rfl) ?_
    simp only [push_cast, simprocAttr, hb, lk_old hb, hb0, lk_old hb0, b0, b1, ← hN, ← hke, c1, c2, c3, g0, gl, e1, e2, e3, e4, gp, gq, gpl, c4, c5, hfd, htk, m1, m2, hnl]
    refine DCall.by0 (vmix_c _ _ _ _ _ _ _ _) ?_
    simp only [push_cast, simprocAttr, hb, lk_old hb, hb0, lk_old hb0, b0, b1, ← hN, ← hke, c1, c2, c3, g0, gl, e1, e2, e3, e4, gp, gq, gpl, c4, c5, hfd, htk, m1, m2, hnl]
    refine DExt.by (by first | rfl | (simp only [List.append_assoc, List.cons_append, List.nil_append]; rfl)) ?_
    simp only [push_cast, simprocAttr, hb, lk_old hb, hb0, lk_old hb0, b0, b1, ← hN, ← hke, c1, c2, c3, g0, gl, e1, e2, e3, e4, gp, gq, gpl, c4, c5, hfd, htk, m1, m2, hnl]
    refine InB_n ?_
    refine Thn_n ?_
    refine hK _ _ ?_
    clear hK K
    refine AW.region (by decide) ?_
    simp only [push_cast, simprocAttr, hb, lk_old hb, hb0, lk_old hb0, b0, b1, ← hN, ← hke, c1, c2, c3, g0, gl, e1, e2, e3, e4, gp, gq, gpl, c4, c5, hfd, htk, m1, m2, hnl]
    refine Thn_n ?_
    have hwi : IntKind.i64.wrap ((i:Int)+1) = (i:Int)+1 := wi (by omega)
    refine ⟨i + 1, by omega, by omega, ?_⟩
    try simp only [keepL, setAll, push_cast, simprocAttr, hb, lk_old hb, hb0, lk_old hb0, b0, b1, ← hN, ← hke, c1, c2, c3, g0, gl, e1, e2, e3, e4, gp, gq, gpl, c4, c5, hfd, htk, m1, m2, hnl, hwi, hst, hns]
    exact Weak.to (extra := [_, _]) (by simp only [Keeps, Tm.get_cons, Nat.reduceEqDiff, ↓reduceIte, if_true, if_false, ite_true, ite_false, true_and, and_true, and_self, reduceCtorEq, hwi, hst, hns]) (by first | rfl | (simp only [List.append_assoc, List.cons_append, List.nil_append]; rfl)) (by first | rfl | (simp [AV.below, CV.below]; done) | (simp [AV.below, CV.below]; omega)) (by
      refine MWf.app (hwf.grow (by simp)) (MWf_cons ?_ (MWf_cons rfl (MWf_cons (tL_below _ _) (MWf_cons ?_ (MWf_cons (pL_below _ _) (MWf_cons (ic_below _ _) (MWf_cons rfl (MWf_cons ?_ MWf_nil) (mE_below _ _ _))))))))
      all_goals (first | (simp [CV.below]; done) | (simp [CV.below]; omega)))
  · have hin : i = N := by have := of_decide_eq_false h37; omega
    have hin2 := hin.symm
    subst hin2
    have hKt : ke.take N = ke := List.take_of_length_le (by omega)
    refine AW.exit ?_
    refine Thn_e ?_
    clear hK K
    refine Thn_e ?_
    refine InB_here ?_
    refine Thn_n ?_
    refine hK _ _ ?_
    clear hK K
    refine AW.seq_k fun K hK => ?_
    refine AW.region (by decide) ?_
    simp only [push_cast, simprocAttr, hb, lk_old hb, hb0, lk_old hb0, b0, b1, ← hN, ← hke, hKt]
    refine Thn_n ?_
    refine hK _ _ ?_
    clear hK K
    refine AW.seq_k fun K hK => ?_
    refine AW.seq_k fun K hK => ?_
    refine AW.region (by decide) ?_
    simp only [push_cast, simprocAttr, hb, lk_old hb, hb0, lk_old hb0, b0, b1, ← hN, ← hke, hKt]
    refine Thn_n ?_
    refine hK _ _ ?_
    clear hK K
    refine AW.block ?_
    refine AW.nilCell 54 3 (m.length + 3) 1 (by simp only [push_cast, simprocAttr, hb, lk_old hb, hb0, lk_old hb0, b0, b1, ← hN, ← hke, hKt]; first | done | rfl) (by intro e; cases e) rfl ?_
    try simp only [push_cast, simprocAttr, hb, lk_old hb, hb0, lk_old hb0, b0, b1, ← hN, ← hke, hKt]
    refine AW.loopK [2, 5, 11, 66, 67] (fun i => i ≤ Fs.length) (fun i => [(68, .one (.int .i64 (i : Int)))]) (fun i => [(m.length + 3, ⟨.fix, 37, 0, 0, [.sl (m.length + 2) N 0 (P.length + N), .sl (m.length + 8) i 0 (4 * i)]⟩), (m.length + 8, ⟨.grow, 54, i, 3, tL ((Fs.take i).flatMap (finF P.length ke))⟩)]) (fun i => Fs.length - i) 0 (by omega) ?_ ?_ fun i hi19 => ?_
    · first | rfl | (simp only [Keeps, Tm.get_cons, Nat.reduceEqDiff, ↓reduceIte, if_true, if_false, ite_true, ite_false, true_and, and_true, and_self, reduceCtorEq, Int.natCast_zero, List.take_zero, tL, List.flatMap_nil, Nat.mul_zero] <;> rfl)
    · first | rfl | (simp only [setAll, push_cast, simprocAttr, hb, lk_old hb, hb0, lk_old hb0, b0, b1, ← hN, ← hke, hKt, Int.natCast_zero, List.take_zero, tL, List.flatMap_nil, Nat.mul_zero] <;> rfl)
    try simp only [keepL, setAll, push_cast, simprocAttr, hb, lk_old hb, hb0, lk_old hb0, b0, b1, ← hN, ← hke, hKt]
    refine AW.seq_k fun K hK => ?_
    refine AW.region (by decide) ?_
    simp only [push_cast, simprocAttr, hb, lk_old hb, hb0, lk_old hb0, b0, b1, ← hN, ← hke, hKt]
    refine Thn_n ?_
    refine hK _ _ ?_
    clear hK K
    refine AW.seq_k fun K hK => ?_
    refine AW.cond rfl (fun h69 => ?_) (fun h69 => ?_)
    · have hlt : i < Fs.length := by have := of_decide_eq_true h69; omega
      have c1 : (0 : Int) ≤ (i : Int) := by omega
      have c2 : (i : Int) < (Fs.length : Nat) := by omega
      have c3 : i * 3 + 3 ≤ Fs.length * 3 := by omega
      obtain ⟨t, ht⟩ : ∃ t, Fs[i]? = some t := ⟨_, List.getElem?_eq_getElem hlt⟩
      have g0 := tL_get0 ht
      have g1 := tL_get1 ht
      have g2 := tL_get2 ht
      have g3 := tL_at ht
      have gl := tL_len Fs
      have k0' := hKh ht (show 0 < 3 by omega)
      have k1' := hKh ht (show 1 < 3 by omega)
      have k2' := hKh ht (show 2 < 3 by omega)
      have hst : tL ((Fs.take i).flatMap (finF P.length ke)) ++ [.int .i64 (t.1), .int .i64 (cntE (nmE P.length ke) (eKey t.1 t.2.1)), .int .i64 (cntE (nmE P.length ke) (eKey t.2.2 t.1)), .int .i64 (cntE (nmE P.length ke) (eKey t.1 t.2.1)), .int .i64 (t.2.1), .int .i64 (cntE (nmE P.length ke) (eKey t.2.1 t.2.2)), .int .i64 (cntE (nmE P.length ke) (eKey t.2.2 t.1)), .int .i64 (cntE (nmE P.length ke) (eKey t.2.1 t.2.2)), .int .i64 (t.2.2), .int .i64 (cntE (nmE P.length ke) (eKey t.1 t.2.1)), .int .i64 (cntE (nmE P.length ke) (eKey t.2.1 t.2.2)), .int .i64 (cntE (nmE P.length ke) (eKey t.2.2 t.1))] = tL ((Fs.take (i + 1)).flatMap (finF P.length ke)) := fl_step ht
      have htk : (tL ((Fs.take i).flatMap (finF P.length ke))).length = 4 * i * 3 := by rw [tL_len, fl_len, List.length_take]; congr 2; omega
      have h4 : 4 * (i + 1) = 4 * i + 4 := by omega
      have m1 : 4 * i + 4 ≤ 140737488355328 := by omega
      have m2 : (4 * i + 4) * 24 ≤ 140737488355328 := by omega
      refine AW.skip ?_
      refine Thn_n ?_
      refine hK _ _ ?_
      clear hK K
      refine AW.seq_k fun K hK => ?_
      refine AW.block ?_
      refine AW.seq_k fun K hK => ?_
      refine AW.region (by decide) ?_
      simp only [push_cast, simprocAttr, hb, lk_old hb, hb0, lk_old hb0, b0, b1, ← hN, ← hke, hKt, c1, c2, c3, g0, g1, g2, g3, gl, htk, m1, m2]
      refine Thn_n ?_
      refine hK _ _ ?_
      clear hK K
      refine AW.seq_k fun K hK => ?_
      refine AW.draw [.val, .val, .rd 0, .val, .rd 0, .ext, .val, .val, .rd 0, .val, .rd 0, .ext, .val, .val, .rd 0, .val, .rd 0, .ext, .val, .val, .val] fol (by decide) (by kernel_rfl) ?_
      simp only [push_cast, simprocAttr, hb, lk_old hb, hb0, lk_old hb0, b0, b1, ← hN, ← hke, hKt, c1, c2, c3, g0, g1, g2, g3, gl, htk, m1, m2]
      refine DCall.by0 (fin1_c (t.1) (t.2.1) (m.length + 7) (m.length + 6) N (nmE P.length ke) _ (by simp only [push_cast, simprocAttr]) (by simp only [push_cast, simprocAttr]) (by rw [nmE_fst]; assumption)) ?_
      simp only [push_cast, simprocAttr, hb, lk_old hb, hb0, lk_old hb0, b0, b1, ← hN, ← hke, hKt, c1, c2, c3, g0, g1, g2, g3, gl, htk, m1, m2]
      refine DCall.by0 (fin1_c (t.2.1) (t.2.2) (m.length + 7) (m.length + 6) N (nmE P.length ke) _ (by simp only [push_cast, simprocAttr]) (by simp only [push_cast, simprocAttr]) (by rw [nmE_fst]; assumption)) ?_
      simp only [push_cast, simprocAttr, hb, lk_old hb, hb0, lk_old hb0, b0, b1, ← hN, ← hke, hKt, c1, c2, c3, g0, g1, g2, g3, gl, htk, m1, m2]
      refine DCall.by0 (fin1_c (t.2.2) (t.1) (m.length + 7) (m.length + 6) N (nmE P.length ke) _ (by simp only [push_cast, simprocAttr]) (by simp only [push_cast, simprocAttr]) (by rw [nmE_fst]; assumption)) ?_
      simp only [push_cast, simprocAttr, hb, lk_old hb, hb0, lk_old hb0, b0, b1, ← hN, ← hke, hKt, c1, c2, c3, g0, g1, g2, g3, gl, htk, m1, m2]
      refine Thn_n ?_
      refine hK _ _ ?_
      clear hK K
      refine AW.region (by decide) ?_
      simp only [push_cast, simprocAttr, hb, lk_old hb, hb0, lk_old hb0, b0, b1, ← hN, ← hke, hKt, c1, c2, c3, g0, g1, g2, g3, gl, htk, m1, m2]
      refine InB_n ?_
      refine Thn_n ?_
      refine hK _ _ ?_
      clear hK K
      refine AW.region (by decide) ?_
      simp only [push_cast, simprocAttr, hb, lk_old hb, hb0, lk_old hb0, b0, b1, ← hN, ← hke, hKt, c1, c2, c3, g0, g1, g2, g3, gl, htk, m1, m2]
      refine Thn_n ?_
      have hwi : IntKind.i64.wrap ((i:Int)+1) = (i:Int)+1 := wi (by omega)
      refine ⟨i + 1, by omega, by omega, ?_⟩
      try simp only [keepL, setAll, push_cast, simprocAttr, hb, lk_old hb, hb0, lk_old hb0, b0, b1, ← hN, ← hke, hKt, c1, c2, c3, g0, g1, g2, g3, gl, htk, m1, m2, hwi, hst, h4]
      exact Weak.to (extra := [_, _]) (by simp only [Keeps, Tm.get_cons, Nat.reduceEqDiff, ↓reduceIte, if_true, if_false, ite_true, ite_false, true_and, and_true, and_self, reduceCtorEq, hwi, hst, h4]) (by first | rfl | (simp only [List.append_assoc, List.cons_append, List.nil_append]; rfl)) (by first | rfl | (simp [AV.below, CV.below]; done) | (simp [AV.below, CV.below]; omega)) (by
        refine MWf.app (hwf.grow (by simp)) (MWf_cons ?_ (MWf_cons rfl (MWf_cons (tL_below _ _) (MWf_cons ?_ (MWf_cons (pL_below _ _) (MWf_cons (ic_below _ _) (MWf_cons rfl (MWf_cons ?_ (MWf_cons (tL_below _ _) MWf_nil)) (mE_below _ _ _))))))))
        all_goals (first | (simp [CV.below]; done) | (simp [CV.below]; omega)))
    · have hin : i = Fs.length := by have := of_decide_eq_false h69; omega
      subst hin
      have hFt : Fs.take Fs.length = Fs := List.take_of_length_le (Nat.le_refl _)
      refine AW.exit ?_
      refine Thn_e ?_
      clear hK K
      refine Thn_e ?_
      refine InB_here ?_
      refine Thn_n ?_
      refine hK _ _ ?_
      clear hK K
      refine AW.seq_k fun K hK => ?_
      refine AW.seq_k fun K hK => ?_
      refine AW.region (by decide) ?_
      simp only [push_cast, simprocAttr, hb, lk_old hb, hb0, lk_old hb0, b0, b1, ← hN, ← hke, hKt, hFt]
      refine CThen.by (by
        have h := fun m2 => check_c (m.length + 2) N (m.length + 8) Fs.length (P ++ ke.map (midP P)) (Fs.flatMap (finF P.length ke)) m2
        simp only [hfpl, hffl] at h
        exact h _ (by simp) ⟨.grow, 3, by simp only [push_cast, simprocAttr]⟩) ?_
      simp only [push_cast, simprocAttr, hb, lk_old hb, hb0, lk_old hb0, b0, b1, ← hN, ← hke, hKt, hFt]
      refine Thn_n ?_
      refine hK _ _ ?_
      clear hK K
      refine AW.seq_k fun K hK => ?_
      refine AW.region (by decide) ?_
      simp only [push_cast, simprocAttr, hb, lk_old hb, hb0, lk_old hb0, b0, b1, ← hN, ← hke, hKt, hFt]
      refine Thn_n ?_
      refine hK _ _ ?_
      clear hK K
      refine AW.cond_f rfl ?_
      refine AW.skip ?_
      refine Thn_n ?_
      refine hK _ _ ?_
      clear hK K
      refine AW.seq_k fun K hK => ?_
      refine AW.region (by decide) ?_
      simp only [push_cast, simprocAttr, hb, lk_old hb, hb0, lk_old hb0, b0, b1, ← hN, ← hke, hKt, hFt]
      refine Thn_n ?_
      refine hK _ _ ?_
      clear hK K
      refine AW.ret ?_
      refine hQ _ _ _ ?_
      refine RetP.pick [(m.length + 2, N), (m.length + 8, Fs.length)] (Or.inr rfl) ?_ ?_ ?_ hwf ?_
      · simp only [resA, resOne, resTv, AV.tv, push_cast, simprocAttr]
        simp [renV, renT, renL, renC, renIdx, hlt0]
      · simp only [picks, push_cast, simprocAttr]
      · simp [distinctFrom]
      · exact MWf_cons (tL_below _ _) (MWf_one (tL_below _ _))
end Go.Proofs.Ytiogpaehelpmhaa

set_option linter.unusedSimpArgs false
set_option linter.unusedVariables false
set_option maxRecDepth 100000
set_option maxHeartbeats 4000000
namespace Go.Proofs.Ytiogpaehelpmhaa
open Go Go.Eng

def shF (n : Nat) (t : T3) : T3 := (t.1 + n, t.2.1 + n, t.2.2 + n)
theorem tk_step {l : List T3} {i : Nat} {t : T3} (h : l[i]? = some t) : tL (l.take i) ++ tC t = tL (l.take (i + 1)) := by
  rw [List.take_add_one, h]; simp [tL]
theorem tk2_step {a l : List T3} {f : T3 → T3} {i : Nat} {t : T3} (h : l[i]? = some t) : tL (a ++ (l.map f).take i) ++ tC (f t) = tL (a ++ (l.map f).take (i + 1)) := by
  rw [← tL_app, ← tL_app, ← take_step h, List.append_assoc]
theorem join2_c (rp1 vp1 rf1 vf1 : Nat) (P1 F1 : List T3) (rp2 vp2 rf2 vf2 : Nat) (P2 F2 : List T3) (r v : Nat) (m : AMem) (hrow : m[r]? = some ⟨.grow, 37, v, 2, [.sl rp1 vp1 0 P1.length, .sl rf1 vf1 0 F1.length, .sl rp2 vp2 0 P2.length, .sl rf2 vf2 0 F2.length]⟩) (hp1 : rp1 < m.length) (hpt1 : TRow m 49 rp1 vp1 P1) (hf1 : TRow m 54 rf1 vf1 F1) (hc1 : chk P1.length F1 = 0) (hp2 : rp2 < m.length) (hpt2 : TRow m 49 rp2 vp2 P2) (hf2 : TRow m 54 rf2 vf2 F2) (hc2 : chk P2.length F2 = 0) (hc3 : chk (P1.length + P2.length) (F1 ++ F2.map (shF P1.length)) = 0) : Ctr Try.prog 10 [.one (.sl r v 0 2)] m (.tup [(true, [.sl m.length 0 0 (P1.length + P2.length), .sl (m.length + 1) 0 0 (F1.length + F2.length)]), (false, [.int .i64 0])]) (m ++ [⟨.grow, 49, 0, 3, tL (P1 ++ P2)⟩, ⟨.grow, 54, 0, 3, tL (F1 ++ F2.map (shF P1.length))⟩]) := by
  refine Ctr.enter Try.func10 rfl (by decide) (rs := [.cell 2 37, .tmp 3]) (nt := 67) rfl rfl fun hwf Q hQ => ?_
  have hlt0 : ∀ k, ¬ m.length + k < m.length := fun k => by omega
  have hrl := get_lt hrow
  obtain ⟨kp1, ezp1, hbp1⟩ := hpt1.hb
  obtain ⟨kf1, ezf1, hbf1⟩ := hf1.hb
  have hrf1 := get_lt hbf1
  have hl1 := chk_len hc1
  have ok1 := chk_ok hc1
  have b1 : (chk P1.length F1 != 0) = false := by simp [hc1]
  have tv1 := tL_vals P1
  have tt1 := tL_take P1
  have tl1 := tL_len P1
  obtain ⟨kp2, ezp2, hbp2⟩ := hpt2.hb
  obtain ⟨kf2, ezf2, hbf2⟩ := hf2.hb
  have hrf2 := get_lt hbf2
  have hl2 := chk_len hc2
  have ok2 := chk_ok hc2
  have b2 : (chk P2.length F2 != 0) = false := by simp [hc2]
  have tv2 := tL_vals P2
  have tt2 := tL_take P2
  have tl2 := tL_len P2
  have hl3 := chk_len hc3
  have b3 : (chk (P1.length + P2.length) (F1 ++ F2.map (shF P1.length)) != 0) = false := by simp [hc3]
  have hap : tL P1 ++ tL P2 = tL (P1 ++ P2) := tL_app _ _
  have n1 : P1.length ≤ 140737488355328 := by omega
  have n2 : P1.length * 24 ≤ 140737488355328 := by omega
  have n3 : P1.length + P2.length ≤ 140737488355328 := by omega
  have n4 : (P1.length + P2.length) * 24 ≤ 140737488355328 := by omega
  iterate 2
    refine AW.seq_k fun K hK => ?_
    refine AW.region (by decide) ?_
    simp only [push_cast, simprocAttr, hrow, lk_old hrow, hbp1, lk_old hbp1, hbf1, lk_old hbf1, hbp2, lk_old hbp2, hbf2, lk_old hbf2, b1, b2, b3, tv1, tt1, tl1, tv2, tt2, tl2, hap, n1, n2, n3, n4, List.nil_append, Nat.zero_add]
    refine Thn_n ?_
    refine hK _ _ ?_
    clear hK K
  refine AW.seq_k fun K hK => ?_
  refine AW.seq_k fun K hK => ?_
  refine AW.nilCell 49 3 (m.length + 1) 0 (by simp only [push_cast, simprocAttr]; first | done | rfl) (by intro e; cases e) rfl ?_
  try simp only [push_cast, simprocAttr]
  refine AW.nilCell 54 3 (m.length + 1) 1 (by simp only [push_cast, simprocAttr]; first | done | rfl) (by intro e; cases e) rfl ?_
  try simp only [push_cast, simprocAttr]
  refine AW.region (by decide) ?_
  simp only [push_cast, simprocAttr, hrow, lk_old hrow, hbp1, lk_old hbp1, hbf1, lk_old hbf1, hbp2, lk_old hbp2, hbf2, lk_old hbf2, b1, b2, b3, tv1, tt1, tl1, tv2, tt2, tl2, hap, n1, n2, n3, n4, List.nil_append, Nat.zero_add]
  refine Thn_n ?_
  refine hK _ _ ?_
  clear hK K
  refine AW.block ?_
  refine AW.rounds 3 ?_
  refine ARounds.succ fun K hK => ?_
  refine AW.seq_k fun K hK => ?_
  refine AW.region (by decide) ?_
  simp only [push_cast, simprocAttr, hrow, lk_old hrow, hbp1, lk_old hbp1, hbf1, lk_old hbf1, hbp2, lk_old hbp2, hbf2, lk_old hbf2, b1, b2, b3, tv1, tt1, tl1, tv2, tt2, tl2, hap, n1, n2, n3, n4, List.nil_append, Nat.zero_add]
  refine Thn_n ?_
  refine hK _ _ ?_
  clear hK K
  refine AW.seq_k fun K hK => ?_
  refine AW.cond_t rfl ?_
  refine AW.skip ?_
  refine Thn_n ?_
  refine hK _ _ ?_
  clear hK K
  refine AW.seq_k fun K hK => ?_
  refine AW.block ?_
  refine AW.seq_k fun K hK => ?_
  refine AW.region (by decide) ?_
  simp only [push_cast, simprocAttr, hrow, lk_old hrow, hbp1, lk_old hbp1, hbf1, lk_old hbf1, hbp2, lk_old hbp2, hbf2, lk_old hbf2, b1, b2, b3, tv1, tt1, tl1, tv2, tt2, tl2, hap, n1, n2, n3, n4, List.nil_append, Nat.zero_add]
  refine Thn_n ?_
  refine hK _ _ ?_
  clear hK K
  refine AW.seq_k fun K hK => ?_
  refine AW.seq_k fun K hK => ?_
  refine AW.region (by decide) ?_
  simp only [push_cast, simprocAttr, hrow, lk_old hrow, hbp1, lk_old hbp1, hbf1, lk_old hbf1, hbp2, lk_old hbp2, hbf2, lk_old hbf2, b1, b2, b3, tv1, tt1, tl1, tv2, tt2, tl2, hap, n1, n2, n3, n4, List.nil_append, Nat.zero_add]
  refine CThen.by (check_c rp1 vp1 rf1 vf1 P1 F1 _ (by simp; omega) (hf1.mono _)) ?_
  simp only [push_cast, simprocAttr, hrow, lk_old hrow, hbp1, lk_old hbp1, hbf1, lk_old hbf1, hbp2, lk_old hbp2, hbf2, lk_old hbf2, b1, b2, b3, tv1, tt1, tl1, tv2, tt2, tl2, hap, n1, n2, n3, n4, List.nil_append, Nat.zero_add]
  refine Thn_n ?_
  refine hK _ _ ?_
  clear hK K
  refine AW.seq_k fun K hK => ?_
  refine AW.region (by decide) ?_
  simp only [push_cast, simprocAttr, hrow, lk_old hrow, hbp1, lk_old hbp1, hbf1, lk_old hbf1, hbp2, lk_old hbp2, hbf2, lk_old hbf2, b1, b2, b3, tv1, tt1, tl1, tv2, tt2, tl2, hap, n1, n2, n3, n4, List.nil_append, Nat.zero_add]
  refine Thn_n ?_
  refine hK _ _ ?_
  clear hK K
  refine AW.cond_f rfl ?_
  refine AW.skip ?_
  iterate 2
    refine Thn_n ?_
    refine hK _ _ ?_
    clear hK K
    refine AW.seq_k fun K hK => ?_
    refine AW.region (by decide) ?_
    simp only [push_cast, simprocAttr, hrow, lk_old hrow, hbp1, lk_old hbp1, hbf1, lk_old hbf1, hbp2, lk_old hbp2, hbf2, lk_old hbf2, b1, b2, b3, tv1, tt1, tl1, tv2, tt2, tl2, hap, n1, n2, n3, n4, List.nil_append, Nat.zero_add]
  refine Thn_n ?_
  refine hK _ _ ?_
  clear hK K
  refine AW.seq_k fun K hK => ?_
  refine AW.seq_k fun K hK => ?_
  refine AW.region (by decide) ?_
  simp only [push_cast, simprocAttr, hrow, lk_old hrow, hbp1, lk_old hbp1, hbf1, lk_old hbf1, hbp2, lk_old hbp2, hbf2, lk_old hbf2, b1, b2, b3, tv1, tt1, tl1, tv2, tt2, tl2, hap, n1, n2, n3, n4, List.nil_append, Nat.zero_add]
  refine Thn_n ?_
  refine hK _ _ ?_
  clear hK K
  refine AW.block ?_
  refine AW.loopK [2, 4, 8, 12, 13, 14, 34, 35] (fun i => i ≤ F1.length) (fun i => [(36, .one (.int .i64 (i : Int)))]) (fun i => [(m.length + 1, ⟨.fix, 37, 0, 0, [.sl (m.length + 2) 1 0 P1.length, .sl (m.length + 3) i 0 i]⟩), (m.length + 3, ⟨.grow, 54, i, 3, tL (F1.take i)⟩)]) (fun i => F1.length - i) 0 (by omega) ?_ ?_ fun i hi17 => ?_
  · first | rfl | (simp only [Keeps, Tm.get_cons, Nat.reduceEqDiff, ↓reduceIte, if_true, if_false, ite_true, ite_false, true_and, and_true, and_self, reduceCtorEq, Int.natCast_zero, List.take_zero, tL, List.flatMap_nil, Nat.add_zero, List.append_nil] <;> rfl)
  · first | rfl | (simp only [setAll, push_cast, simprocAttr, hrow, lk_old hrow, hbp1, lk_old hbp1, hbf1, lk_old hbf1, hbp2, lk_old hbp2, hbf2, lk_old hbf2, b1, b2, b3, tv1, tt1, tl1, tv2, tt2, tl2, hap, n1, n2, n3, n4, List.nil_append, Nat.zero_add, Int.natCast_zero, List.take_zero, tL, List.flatMap_nil, Nat.add_zero, List.append_nil] <;> rfl)
  try simp only [keepL, setAll, push_cast, simprocAttr, hrow, lk_old hrow, hbp1, lk_old hbp1, hbf1, lk_old hbf1, hbp2, lk_old hbp2, hbf2, lk_old hbf2, b1, b2, b3, tv1, tt1, tl1, tv2, tt2, tl2, hap, n1, n2, n3, n4, List.nil_append, Nat.zero_add]
  refine AW.seq_k fun K hK => ?_
  refine AW.region (by decide) ?_
  simp only [push_cast, simprocAttr, hrow, lk_old hrow, hbp1, lk_old hbp1, hbf1, lk_old hbf1, hbp2, lk_old hbp2, hbf2, lk_old hbf2, b1, b2, b3, tv1, tt1, tl1, tv2, tt2, tl2, hap, n1, n2, n3, n4, List.nil_append, Nat.zero_add]
  refine Thn_n ?_
  refine hK _ _ ?_
  clear hK K
  refine AW.seq_k fun K hK => ?_
  refine AW.cond rfl (fun h37 => ?_) (fun h37 => ?_)
  · have hlt : i < F1.length := by have := of_decide_eq_true h37; omega
    have c1 : (0 : Int) ≤ (i : Int) := by omega
    have c2 : (i : Int) < (F1.length : Nat) := by omega
    have c3 : i * 3 + 3 ≤ F1.length * 3 := by omega
    obtain ⟨t, ht⟩ : ∃ t, F1[i]? = some t := ⟨_, List.getElem?_eq_getElem hlt⟩
    have g0 := tL_get0 ht
    have g1 := tL_get1 ht
    have g2 := tL_get2 ht
    have g3 := tL_at ht
    have gl := tL_len F1
    have ho := ok1 t (List.mem_of_getElem? ht)
    have i0 := fv_in ho 0
    have i1 := fv_in ho 1
    have i2 := fv_in ho 2
    simp only [fv] at i0 i1 i2
    have w0 : IntKind.i64.wrap t.1 = t.1 := wi (by omega)
    have w1 : IntKind.i64.wrap t.2.1 = t.2.1 := wi (by omega)
    have w2 : IntKind.i64.wrap t.2.2 = t.2.2 := wi (by omega)
    have hst : tL (F1.take i) ++ [.int .i64 t.1, .int .i64 t.2.1, .int .i64 t.2.2] = tL (F1.take (i + 1)) := tk_step ht
    have htk : (tL (F1.take i)).length = i * 3 := by rw [tL_len, List.length_take]; congr 1; omega
    have m1 : i ≤ 140737488355327 := by omega
    have m2 : (i + 1) * 24 ≤ 140737488355328 := by omega
    refine AW.skip ?_
    refine Thn_n ?_
    refine hK _ _ ?_
    clear hK K
    refine AW.seq_k fun K hK => ?_
    refine AW.block ?_
    refine AW.seq_k fun K hK => ?_
    refine AW.region (by decide) ?_
    simp only [push_cast, simprocAttr, hrow, lk_old hrow, hbp1, lk_old hbp1, hbf1, lk_old hbf1, hbp2, lk_old hbp2, hbf2, lk_old hbf2, b1, b2, b3, tv1, tt1, tl1, tv2, tt2, tl2, hap, n1, n2, n3, n4, List.nil_append, Nat.zero_add, c1, c2, c3, g0, g1, g2, g3, gl, w0, w1, w2, Int.add_zero, htk, m1, m2]
    refine Thn_n ?_
    refine hK _ _ ?_
    clear hK K
    refine AW.region (by decide) ?_
    simp only [push_cast, simprocAttr, hrow, lk_old hrow, hbp1, lk_old hbp1, hbf1, lk_old hbf1, hbp2, lk_old hbp2, hbf2, lk_old hbf2, b1, b2, b3, tv1, tt1, tl1, tv2, tt2, tl2, hap, n1, n2, n3, n4, List.nil_append, Nat.zero_add, c1, c2, c3, g0, g1, g2, g3, gl, w0, w1, w2, Int.add_zero, htk, m1, m2]
    refine InB_n ?_
    refine Thn_n ?_
    refine hK _ _ ?_
    clear hK K
    refine AW.region (by decide) ?_
    simp only [push_cast, simprocAttr, hrow, lk_old hrow, hbp1, lk_old hbp1, hbf1, lk_old hbf1, hbp2, lk_old hbp2, hbf2, lk_old hbf2, b1, b2, b3, tv1, tt1, tl1, tv2, tt2, tl2, hap, n1, n2, n3, n4, List.nil_append, Nat.zero_add, c1, c2, c3, g0, g1, g2, g3, gl, w0, w1, w2, Int.add_zero, htk, m1, m2]
    refine Thn_n ?_
    have hwi : IntKind.i64.wrap ((i:Int)+1) = (i:Int)+1 := wi (by omega)
    refine ⟨i + 1, by omega, by omega, ?_⟩
    try simp only [keepL, setAll, push_cast, simprocAttr, hrow, lk_old hrow, hbp1, lk_old hbp1, hbf1, lk_old hbf1, hbp2, lk_old hbp2, hbf2, lk_old hbf2, b1, b2, b3, tv1, tt1, tl1, tv2, tt2, tl2, hap, n1, n2, n3, n4, List.nil_append, Nat.zero_add, c1, c2, c3, g0, g1, g2, g3, gl, w0, w1, w2, Int.add_zero, htk, m1, m2, hwi, hst]
    exact Weak.to (extra := [_, _]) (by simp only [Keeps, Tm.get_cons, Nat.reduceEqDiff, ↓reduceIte, if_true, if_false, ite_true, ite_false, true_and, and_true, and_self, reduceCtorEq, hwi, hst]) (by first | rfl | (simp only [List.append_assoc, List.cons_append, List.nil_append]; rfl)) (by first | rfl | (simp [AV.below, CV.below, tL_below]; done) | (simp [AV.below, CV.below, tL_below]; omega)) (by
      first | exact hwf | refine MWf.app (hwf.grow (by simp)) ?_
      repeat (first | exact MWf_nil | (refine MWf_cons ?_ ?_; · first | rfl | (simp [CV.below, tL_below]; done) | (simp [CV.below, tL_below]; omega))))
  · have hin : i = F1.length := by have := of_decide_eq_false h37; omega
    subst hin
    have hta : F1.take F1.length = F1 := List.take_of_length_le (Nat.le_refl _)
    refine AW.exit ?_
    refine Thn_e ?_
    clear hK K
    refine Thn_e ?_
    refine InB_here ?_
    refine Thn_n ?_
    refine hK _ _ ?_
    clear hK K
    refine AW.seq_k fun K hK => ?_
    refine AW.region (by decide) ?_
    simp only [push_cast, simprocAttr, hrow, lk_old hrow, hbp1, lk_old hbp1, hbf1, lk_old hbf1, hbp2, lk_old hbp2, hbf2, lk_old hbf2, b1, b2, b3, tv1, tt1, tl1, tv2, tt2, tl2, hap, n1, n2, n3, n4, List.nil_append, Nat.zero_add, hta]
    refine CThen.by (check_c (m.length + 2) 1 (m.length + 3) F1.length P1 F1 _ (by simp) ⟨.grow, 3, by simp only [push_cast, simprocAttr]⟩) ?_
    simp only [push_cast, simprocAttr, hrow, lk_old hrow, hbp1, lk_old hbp1, hbf1, lk_old hbf1, hbp2, lk_old hbp2, hbf2, lk_old hbf2, b1, b2, b3, tv1, tt1, tl1, tv2, tt2, tl2, hap, n1, n2, n3, n4, List.nil_append, Nat.zero_add, hta]
    refine Thn_n ?_
    refine hK _ _ ?_
    clear hK K
    refine AW.seq_k fun K hK => ?_
    refine AW.region (by decide) ?_
    simp only [push_cast, simprocAttr, hrow, lk_old hrow, hbp1, lk_old hbp1, hbf1, lk_old hbf1, hbp2, lk_old hbp2, hbf2, lk_old hbf2, b1, b2, b3, tv1, tt1, tl1, tv2, tt2, tl2, hap, n1, n2, n3, n4, List.nil_append, Nat.zero_add, hta]
    refine Thn_n ?_
    refine hK _ _ ?_
    clear hK K
    refine AW.cond_f rfl ?_
    refine AW.skip ?_
    refine InB_n ?_
    refine Thn_n ?_
    refine hK _ _ ?_
    clear hK K
    refine AW.region (by decide) ?_
    simp only [push_cast, simprocAttr, hrow, lk_old hrow, hbp1, lk_old hbp1, hbf1, lk_old hbf1, hbp2, lk_old hbp2, hbf2, lk_old hbf2, b1, b2, b3, tv1, tt1, tl1, tv2, tt2, tl2, hap, n1, n2, n3, n4, List.nil_append, Nat.zero_add, hta]
    refine Thn_n ?_
    refine hK _ _ ?_
    clear hK K
    refine ARounds.succ fun K hK => ?_
    refine AW.seq_k fun K hK => ?_
    refine AW.region (by decide) ?_
    simp only [push_cast, simprocAttr, hrow, lk_old hrow, hbp1, lk_old hbp1, hbf1, lk_old hbf1, hbp2, lk_old hbp2, hbf2, lk_old hbf2, b1, b2, b3, tv1, tt1, tl1, tv2, tt2, tl2, hap, n1, n2, n3, n4, List.nil_append, Nat.zero_add]
    refine Thn_n ?_
    refine hK _ _ ?_
    clear hK K
    refine AW.seq_k fun K hK => ?_
    refine AW.cond_t rfl ?_
    refine AW.skip ?_
    refine Thn_n ?_
    refine hK _ _ ?_
    clear hK K
    refine AW.seq_k fun K hK => ?_
    refine AW.block ?_
    refine AW.seq_k fun K hK => ?_
    refine AW.region (by decide) ?_
    simp only [push_cast, simprocAttr, hrow, lk_old hrow, hbp1, lk_old hbp1, hbf1, lk_old hbf1, hbp2, lk_old hbp2, hbf2, lk_old hbf2, b1, b2, b3, tv1, tt1, tl1, tv2, tt2, tl2, hap, n1, n2, n3, n4, List.nil_append, Nat.zero_add]
    refine Thn_n ?_
    refine hK _ _ ?_
    clear hK K
    refine AW.seq_k fun K hK => ?_
    refine AW.seq_k fun K hK => ?_
    refine AW.region (by decide) ?_
    simp only [push_cast, simprocAttr, hrow, lk_old hrow, hbp1, lk_old hbp1, hbf1, lk_old hbf1, hbp2, lk_old hbp2, hbf2, lk_old hbf2, b1, b2, b3, tv1, tt1, tl1, tv2, tt2, tl2, hap, n1, n2, n3, n4, List.nil_append, Nat.zero_add]
    refine CThen.by (check_c rp2 vp2 rf2 vf2 P2 F2 _ (by simp; omega) (hf2.mono _)) ?_
    simp only [push_cast, simprocAttr, hrow, lk_old hrow, hbp1, lk_old hbp1, hbf1, lk_old hbf1, hbp2, lk_old hbp2, hbf2, lk_old hbf2, b1, b2, b3, tv1, tt1, tl1, tv2, tt2, tl2, hap, n1, n2, n3, n4, List.nil_append, Nat.zero_add]
    refine Thn_n ?_
    refine hK _ _ ?_
    clear hK K
    refine AW.seq_k fun K hK => ?_
    refine AW.region (by decide) ?_
    simp only [push_cast, simprocAttr, hrow, lk_old hrow, hbp1, lk_old hbp1, hbf1, lk_old hbf1, hbp2, lk_old hbp2, hbf2, lk_old hbf2, b1, b2, b3, tv1, tt1, tl1, tv2, tt2, tl2, hap, n1, n2, n3, n4, List.nil_append, Nat.zero_add]
    refine Thn_n ?_
    refine hK _ _ ?_
    clear hK K
    refine AW.cond_f rfl ?_
    refine AW.skip ?_
    iterate 2
      refine Thn_n ?_
      refine hK _ _ ?_
      clear hK K
      refine AW.seq_k fun K hK => ?_
      refine AW.region (by decide) ?_
      simp only [push_cast, simprocAttr, hrow, lk_old hrow, hbp1, lk_old hbp1, hbf1, lk_old hbf1, hbp2, lk_old hbp2, hbf2, lk_old hbf2, b1, b2, b3, tv1, tt1, tl1, tv2, tt2, tl2, hap, n1, n2, n3, n4, List.nil_append, Nat.zero_add]
    refine Thn_n ?_
    refine hK _ _ ?_
    clear hK K
    refine AW.seq_k fun K hK => ?_
    refine AW.seq_k fun K hK => ?_
    refine AW.region (by decide) ?_
    simp only [push_cast, simprocAttr, hrow, lk_old hrow, hbp1, lk_old hbp1, hbf1, lk_old hbf1, hbp2, lk_old hbp2, hbf2, lk_old hbf2, b1, b2, b3, tv1, tt1, tl1, tv2, tt2, tl2, hap, n1, n2, n3, n4, List.nil_append, Nat.zero_add]
    refine Thn_n ?_
    refine hK _ _ ?_
    clear hK K
    refine AW.block ?_
    refine AW.loopK [2, 4, 8, 12, 13, 14, 34, 35] (fun i => i ≤ F2.length) (fun i => [(36, .one (.int .i64 (i : Int)))]) (fun i => [(m.length + 1, ⟨.fix, 37, 0, 0, [.sl (m.length + 2) 2 0 (P1.length + P2.length), .sl (m.length + 3) (F1.length + i) 0 (F1.length + i)]⟩), (m.length + 3, ⟨.grow, 54, (F1.length + i), 3, tL (F1 ++ (F2.map (shF P1.length)).take i)⟩)]) (fun i => F2.length - i) 0 (by omega) ?_ ?_ fun i hi36 => ?_
    · first | rfl | (simp only [Keeps, Tm.get_cons, Nat.reduceEqDiff, ↓reduceIte, if_true, if_false, ite_true, ite_false, true_and, and_true, and_self, reduceCtorEq, Int.natCast_zero, List.take_zero, tL, List.flatMap_nil, Nat.add_zero, List.append_nil] <;> rfl)
    · first | rfl | (simp only [setAll, push_cast, simprocAttr, hrow, lk_old hrow, hbp1, lk_old hbp1, hbf1, lk_old hbf1, hbp2, lk_old hbp2, hbf2, lk_old hbf2, b1, b2, b3, tv1, tt1, tl1, tv2, tt2, tl2, hap, n1, n2, n3, n4, List.nil_append, Nat.zero_add, Int.natCast_zero, List.take_zero, tL, List.flatMap_nil, Nat.add_zero, List.append_nil] <;> rfl)
    try simp only [keepL, setAll, push_cast, simprocAttr, hrow, lk_old hrow, hbp1, lk_old hbp1, hbf1, lk_old hbf1, hbp2, lk_old hbp2, hbf2, lk_old hbf2, b1, b2, b3, tv1, tt1, tl1, tv2, tt2, tl2, hap, n1, n2, n3, n4, List.nil_append, Nat.zero_add]
    refine AW.seq_k fun K hK => ?_
    refine AW.region (by decide) ?_
    simp only [push_cast, simprocAttr, hrow, lk_old hrow, hbp1, lk_old hbp1, hbf1, lk_old hbf1, hbp2, lk_old hbp2, hbf2, lk_old hbf2, b1, b2, b3, tv1, tt1, tl1, tv2, tt2, tl2, hap, n1, n2, n3, n4, List.nil_append, Nat.zero_add]
    refine Thn_n ?_
    refine hK _ _ ?_
    clear hK K
    refine AW.seq_k fun K hK => ?_
    refine AW.cond rfl (fun h37 => ?_) (fun h37 => ?_)
    · have hlt : i < F2.length := by have := of_decide_eq_true h37; omega
      have c1 : (0 : Int) ≤ (i : Int) := by omega
      have c2 : (i : Int) < (F2.length : Nat) := by omega
      have c3 : i * 3 + 3 ≤ F2.length * 3 := by omega
      obtain ⟨t, ht⟩ : ∃ t, F2[i]? = some t := ⟨_, List.getElem?_eq_getElem hlt⟩
      have g0 := tL_get0 ht
      have g1 := tL_get1 ht
      have g2 := tL_get2 ht
      have g3 := tL_at ht
      have gl := tL_len F2
      have ho := ok2 t (List.mem_of_getElem? ht)
      have i0 := fv_in ho 0
      have i1 := fv_in ho 1
      have i2 := fv_in ho 2
      simp only [fv] at i0 i1 i2
      have w0 : IntKind.i64.wrap (t.1 + P1.length) = t.1 + P1.length := wi (by omega)
      have w1 : IntKind.i64.wrap (t.2.1 + P1.length) = t.2.1 + P1.length := wi (by omega)
      have w2 : IntKind.i64.wrap (t.2.2 + P1.length) = t.2.2 + P1.length := wi (by omega)
      have hst : tL (F1 ++ (F2.map (shF P1.length)).take i) ++ [.int .i64 (t.1 + P1.length), .int .i64 (t.2.1 + P1.length), .int .i64 (t.2.2 + P1.length)] = tL (F1 ++ (F2.map (shF P1.length)).take (i + 1)) := tk2_step ht
      have htk : (tL (F1 ++ (F2.map (shF P1.length)).take i)).length = (F1.length + i) * 3 := by rw [tL_len, List.length_append, List.length_take, List.length_map]; congr 2; omega
      have m1 : F1.length + (i + 1) ≤ 140737488355328 := by omega
      have m2 : (F1.length + (i + 1)) * 24 ≤ 140737488355328 := by omega
      refine AW.skip ?_
      refine Thn_n ?_
      refine hK _ _ ?_
      clear hK K
      refine AW.seq_k fun K hK => ?_
      refine AW.block ?_
      refine AW.seq_k fun K hK => ?_
      refine AW.region (by decide) ?_
      simp only [push_cast, simprocAttr, hrow, lk_old hrow, hbp1, lk_old hbp1, hbf1, lk_old hbf1, hbp2, lk_old hbp2, hbf2, lk_old hbf2, b1, b2, b3, tv1, tt1, tl1, tv2, tt2, tl2, hap, n1, n2, n3, n4, List.nil_append, Nat.zero_add, c1, c2, c3, g0, g1, g2, g3, gl, w0, w1, w2, Int.add_zero, htk, m1, m2]
      refine Thn_n ?_
      refine hK _ _ ?_
      clear hK K
      refine AW.region (by decide) ?_
      simp only [push_cast, simprocAttr, hrow, lk_old hrow, hbp1, lk_old hbp1, hbf1, lk_old hbf1, hbp2, lk_old hbp2, hbf2, lk_old hbf2, b1, b2, b3, tv1, tt1, tl1, tv2, tt2, tl2, hap, n1, n2, n3, n4, List.nil_append, Nat.zero_add, c1, c2, c3, g0, g1, g2, g3, gl, w0, w1, w2, Int.add_zero, htk, m1, m2]
      refine InB_n ?_
      refine Thn_n ?_
      refine hK _ _ ?_
      clear hK K
      refine AW.region (by decide) ?_
      simp only [push_cast, simprocAttr, hrow, lk_old hrow, hbp1, lk_old hbp1, hbf1, lk_old hbf1, hbp2, lk_old hbp2, hbf2, lk_old hbf2, b1, b2, b3, tv1, tt1, tl1, tv2, tt2, tl2, hap, n1, n2, n3, n4, List.nil_append, Nat.zero_add, c1, c2, c3, g0, g1, g2, g3, gl, w0, w1, w2, Int.add_zero, htk, m1, m2]
      refine Thn_n ?_
      have hwi : IntKind.i64.wrap ((i:Int)+1) = (i:Int)+1 := wi (by omega)
      refine ⟨i + 1, by omega, by omega, ?_⟩
      try simp only [keepL, setAll, push_cast, simprocAttr, hrow, lk_old hrow, hbp1, lk_old hbp1, hbf1, lk_old hbf1, hbp2, lk_old hbp2, hbf2, lk_old hbf2, b1, b2, b3, tv1, tt1, tl1, tv2, tt2, tl2, hap, n1, n2, n3, n4, List.nil_append, Nat.zero_add, c1, c2, c3, g0, g1, g2, g3, gl, w0, w1, w2, Int.add_zero, htk, m1, m2, hwi, hst]
      exact Weak.to (extra := [_, _]) (by simp only [Keeps, Tm.get_cons, Nat.reduceEqDiff, ↓reduceIte, if_true, if_false, ite_true, ite_false, true_and, and_true, and_self, reduceCtorEq, hwi, hst]) (by first | rfl | (simp only [List.append_assoc, List.cons_append, List.nil_append]; rfl)) (by first | rfl | (simp [AV.below, CV.below, tL_below]; done) | (simp [AV.below, CV.below, tL_below]; omega)) (by
        first | exact hwf | refine MWf.app (hwf.grow (by simp)) ?_
        repeat (first | exact MWf_nil | (refine MWf_cons ?_ ?_; · first | rfl | (simp [CV.below, tL_below]; done) | (simp [CV.below, tL_below]; omega))))
    · have hin : i = F2.length := by have := of_decide_eq_false h37; omega
      subst hin
      have hta := take_all (shF P1.length) F2
      refine AW.exit ?_
      refine Thn_e ?_
      clear hK K
      refine Thn_e ?_
      refine InB_here ?_
      refine Thn_n ?_
      refine hK _ _ ?_
      clear hK K
      refine AW.seq_k fun K hK => ?_
      refine AW.region (by decide) ?_
      simp only [push_cast, simprocAttr, hrow, lk_old hrow, hbp1, lk_old hbp1, hbf1, lk_old hbf1, hbp2, lk_old hbp2, hbf2, lk_old hbf2, b1, b2, b3, tv1, tt1, tl1, tv2, tt2, tl2, hap, n1, n2, n3, n4, List.nil_append, Nat.zero_add, hta]
      refine CThen.by (by
        have h := fun m2 => check_c (m.length + 2) 2 (m.length + 3) (F1.length + F2.length) (P1 ++ P2) (F1 ++ F2.map (shF P1.length)) m2
        simp only [List.length_append, List.length_map] at h
        exact h _ (by simp) ⟨.grow, 3, by simp only [push_cast, simprocAttr]⟩) ?_
      simp only [push_cast, simprocAttr, hrow, lk_old hrow, hbp1, lk_old hbp1, hbf1, lk_old hbf1, hbp2, lk_old hbp2, hbf2, lk_old hbf2, b1, b2, b3, tv1, tt1, tl1, tv2, tt2, tl2, hap, n1, n2, n3, n4, List.nil_append, Nat.zero_add, hta]
      refine Thn_n ?_
      refine hK _ _ ?_
      clear hK K
      refine AW.seq_k fun K hK => ?_
      refine AW.region (by decide) ?_
      simp only [push_cast, simprocAttr, hrow, lk_old hrow, hbp1, lk_old hbp1, hbf1, lk_old hbf1, hbp2, lk_old hbp2, hbf2, lk_old hbf2, b1, b2, b3, tv1, tt1, tl1, tv2, tt2, tl2, hap, n1, n2, n3, n4, List.nil_append, Nat.zero_add, hta]
      refine Thn_n ?_
      refine hK _ _ ?_
      clear hK K
      refine AW.cond_f rfl ?_
      refine AW.skip ?_
      refine InB_n ?_
      refine Thn_n ?_
      refine hK _ _ ?_
      clear hK K
      refine AW.region (by decide) ?_
      simp only [push_cast, simprocAttr, hrow, lk_old hrow, hbp1, lk_old hbp1, hbf1, lk_old hbf1, hbp2, lk_old hbp2, hbf2, lk_old hbf2, b1, b2, b3, tv1, tt1, tl1, tv2, tt2, tl2, hap, n1, n2, n3, n4, List.nil_append, Nat.zero_add, hta]
      refine Thn_n ?_
      refine hK _ _ ?_
      clear hK K
      refine ARounds.succ fun K hK => ?_
      refine AW.seq_k fun K hK => ?_
      refine AW.region (by decide) ?_
      simp only [push_cast, simprocAttr, hrow, lk_old hrow, hbp1, lk_old hbp1, hbf1, lk_old hbf1, hbp2, lk_old hbp2, hbf2, lk_old hbf2, b1, b2, b3, tv1, tt1, tl1, tv2, tt2, tl2, hap, n1, n2, n3, n4, List.nil_append, Nat.zero_add]
      refine Thn_n ?_
      refine hK _ _ ?_
      clear hK K
      refine AW.seq_k fun K hK => ?_
      refine AW.cond_f rfl ?_
      refine AW.exit ?_
      refine Thn_e ?_
      clear hK K
      refine Thn_e ?_
      clear hK K
      refine InB_here ?_
      refine Thn_n ?_
      refine hK _ _ ?_
      clear hK K
      refine AW.seq_k fun K hK => ?_
      refine AW.region (by decide) ?_
      simp only [push_cast, simprocAttr, hrow, lk_old hrow, hbp1, lk_old hbp1, hbf1, lk_old hbf1, hbp2, lk_old hbp2, hbf2, lk_old hbf2, b1, b2, b3, tv1, tt1, tl1, tv2, tt2, tl2, hap, n1, n2, n3, n4, List.nil_append, Nat.zero_add]
      refine Thn_n ?_
      refine hK _ _ ?_
      clear hK K
      refine AW.ret ?_
      refine hQ _ _ _ ?_
      refine RetP.pick [(m.length + 2, 2), (m.length + 3, F1.length + F2.length)] (Or.inr rfl) ?_ ?_ ?_ hwf ?_
      · simp only [resA, resOne, resTv, AV.tv, push_cast, simprocAttr]
        simp [renV, renT, renL, renC, renIdx, hlt0]
      · simp only [picks, push_cast, simprocAttr]
      · simp [distinctFrom]
      · exact MWf_cons (tL_below _ _) (MWf_one (tL_below _ _))
end Go.Proofs.Ytiogpaehelpmhaa

set_option linter.unusedSimpArgs false
set_option linter.unusedVariables false
set_option maxRecDepth 100000
set_option maxHeartbeats 4000000
namespace Go.Proofs.Ytiogpaehelpmhaa
open Go Go.Eng

def insE (k : EK) : List EK → List EK
  | [] => [k]
  | x :: l => if leE k x then k :: x :: l else x :: insE k l
def isE : List EK → List EK
  | [] => []
  | k :: l => insE k (isE l)
theorem insE_perm (k : EK) : ∀ l : List EK, (insE k l).Perm (k :: l)
  | [] => .refl _
  | x :: l => by
    unfold insE; split
    · exact .refl _
    · exact ((insE_perm k l).cons x).trans (.swap k x l)
theorem isE_perm : ∀ l : List EK, (isE l).Perm l
  | [] => .refl _
  | k :: l => (insE_perm k _).trans ((isE_perm l).cons k)
theorem insE_sorted {k : EK} : ∀ {l : List EK}, (l.Pairwise fun a b => leE a b = true) → ((insE k l).Pairwise fun a b => leE a b = true)
  | [], _ => List.pairwise_singleton _ _
  | x :: l, h => by
    rw [List.pairwise_cons] at h
    unfold insE; split
    · rename_i hk
      refine List.pairwise_cons.2 ⟨fun y hy => ?_, List.pairwise_cons.2 h⟩
      rcases List.mem_cons.1 hy with rfl | hy
      · exact hk
      · exact leE_trans _ _ _ hk (h.1 y hy)
    · rename_i hk
      refine List.pairwise_cons.2 ⟨fun y hy => ?_, insE_sorted h.2⟩
      rcases List.mem_cons.1 ((insE_perm k l).mem_iff.1 hy) with rfl | hy
      · have := leE_total y x
        rw [Bool.or_eq_true] at this
        exact this.resolve_left hk
      · exact h.1 y hy
theorem isE_sorted : ∀ l : List EK, (isE l).Pairwise fun a b => leE a b = true
  | [] => .nil
  | k :: l => insE_sorted (isE_sorted l)
theorem isE_eq (l : List EK) : isE l = srtE l := srtE_eq (isE_perm l) (isE_sorted l)
def tlF (Fs : List T3) : List (EK × Int) := tally Fs Fs.length
def ksX (Fs : List T3) : List EK := isE ((tlF Fs).map (·.1))
def fnX (n : Nat) (Fs : List T3) : List T3 := Fs.flatMap (finF n (ksX Fs))
theorem fnX_eq (n : Nat) (Fs : List T3) : fnF n Fs = fnX n Fs := by
  unfold fnF fnX ksX ksE tlF; rw [isE_eq]
def clB (Fs : List T3) : Bool := (tlF Fs).all fun e => e.2 == 2
theorem clB_cs {Fs : List T3} (h : clB Fs = true) : ∀ i, i < (tally Fs Fs.length).length → (csE (tally Fs Fs.length))[i]? = some 2 := fun i hi => by
  have hl := ksE_len (tally Fs Fs.length)
  obtain ⟨k, hk⟩ : ∃ k, (ksE (tally Fs Fs.length))[i]? = some k := ⟨_, List.getElem?_eq_getElem (by omega)⟩
  obtain ⟨j, c, q1, q2, q3⟩ := ksE_mem (List.mem_of_getElem? hk)
  unfold csE
  rw [List.getElem?_map, hk, Option.map_some, q3]
  have := List.all_eq_true.1 h _ (List.mem_of_getElem? q1)
  simp at this
  rw [this]
theorem cr_chk : chk 8 crF = 0 := by decide
theorem cr_tl : (tlF crF).length = 18 := by kernel_rfl
theorem cr_cl : clB crF = true := by kernel_rfl
def okB (n : Nat) (l : List T3) : Bool := l.all fun t => decide (0 ≤ t.1) && decide (t.1 < n) && !decide (t.1 = t.2.1) && decide (0 ≤ t.2.1) && decide (t.2.1 < n) && !decide (t.2.1 = t.2.2) && decide (0 ≤ t.2.2) && decide (t.2.2 < n) && !decide (t.2.2 = t.1)
theorem okB_chk {n : Nat} {l : List T3} (h : okB n l = true) (hn : n ≤ 1024) (hl : l.length ≤ 1024) : chk n l = 0 := by
  refine chk_0 (by omega) fun t ht => ?_
  have := List.all_eq_true.1 h t ht
  simp at this
  unfold okF
  omega
theorem cr_ok2 : okB 26 (fnX 8 crF) = true := by kernel_rfl
theorem fnP_len (P Fs : List T3) : (fnP P Fs).length = P.length + (tlF Fs).length := by unfold fnP tlF; rw [List.length_append, List.length_map, ksE_len]
theorem fnF_len (n : Nat) (Fs : List T3) : (fnF n Fs).length = 4 * Fs.length := fl_len _ _ _
end Go.Proofs.Ytiogpaehelpmhaa

set_option linter.unusedSimpArgs false
set_option linter.unusedVariables false
set_option maxRecDepth 100000
set_option maxHeartbeats 4000000
namespace Go.Proofs.Ytiogpaehelpmhaa
open Go Go.Eng

theorem awakeL_c (m : AMem) : Ctr Try.prog 8 [] m (.one (.bool true)) m := by
  refine Ctr.enter Try.func8 rfl (by decide) (rs := [.tmp 0]) (nt := 53) rfl rfl fun hwf Q hQ => ?_
  have hl1 : (fnP (crP 65536 65536 65536) crF).length = 26 := by rw [fnP_len, cr_tl]; rfl
  have hl2 : (fnF (crP 65536 65536 65536).length crF).length = 48 := by rw [fnF_len]; rfl
  have hl3 : (tally crF crF.length).length = 18 := cr_tl
  have hck : chk (fnP (crP 65536 65536 65536) crF).length (fnF (crP 65536 65536 65536).length crF) = 0 := by
    rw [hl1]
    have : fnF (crP 65536 65536 65536).length crF = fnX 8 crF := fnX_eq 8 crF
    rw [this]
    exact okB_chk cr_ok2 (by omega) (by rw [← fnX_eq, fnF_len]; decide)
  refine AW.seq_k fun K hK => ?_
  refine AW.region (by decide) ?_
  simp only [push_cast, simprocAttr, hl1, hl2, hl3]
  refine Thn_n ?_
  refine hK _ _ ?_
  clear hK K
  refine AW.seq_k fun K hK => ?_
  refine AW.region (by decide) ?_
  simp only [push_cast, simprocAttr, hl1, hl2, hl3]
  refine CThen.by (crate_c 65536 65536 65536 _) ?_
  simp only [push_cast, simprocAttr, hl1, hl2, hl3]
  refine Thn_n ?_
  refine hK _ _ ?_
  clear hK K
  refine AW.seq_k fun K hK => ?_
  refine AW.region (by decide) ?_
  simp only [push_cast, simprocAttr, hl1, hl2, hl3]
  refine CThen.by (edges_x m.length 0 (m.length + 1) 0 (crP 65536 65536 65536) crF _ (by simp) ⟨.grow, 3, by simp only [push_cast, simprocAttr]⟩ cr_chk _ rfl (tally_bk (n := 8) cr_chk _)) ?_
  simp only [push_cast, simprocAttr, hl1, hl2, hl3]
  refine Thn_n ?_
  refine hK _ _ ?_
  clear hK K
  refine AW.seq_k fun K hK => ?_
  refine AW.region (by decide) ?_
  simp only [push_cast, simprocAttr, hl1, hl2, hl3]
  refine CThen.by (finer_ok m.length 0 (m.length + 1) 0 (crP 65536 65536 65536) crF _ (by simp) ⟨.grow, 3, by simp only [push_cast, simprocAttr]⟩ ⟨.grow, 3, by simp only [push_cast, simprocAttr]⟩ (by decide) (by decide) cr_chk hck) ?_
  simp only [push_cast, simprocAttr, hl1, hl2, hl3]
  refine Thn_n ?_
  refine hK _ _ ?_
  clear hK K
  refine AW.seq_k fun K hK => ?_
  refine AW.region (by decide) ?_
  simp only [push_cast, simprocAttr, hl1, hl2, hl3]
  refine CThen.by (closed_c m.length 0 (m.length + 1) 0 (crP 65536 65536 65536) crF _ (by simp) ⟨.grow, 3, by simp only [push_cast, simprocAttr]⟩ cr_chk _ rfl (tally_bk (n := 8) cr_chk _) (clB_cs cr_cl) (by rw [hl3]; omega)) ?_
  simp only [push_cast, simprocAttr, hl1, hl2, hl3]
  refine Thn_n ?_
  refine hK _ _ ?_
  clear hK K
  refine AW.ret ?_
  refine hQ _ _ _ ?_
  first | refine RetP.drop0 (Or.inr rfl) ?_ ?_ hwf | refine RetP.drop (Or.inr rfl) ?_ ?_ hwf
  · simp only [resA, resOne, resTv, AV.tv, push_cast, simprocAttr, hl1, hl2, hl3]
  · rfl
end Go.Proofs.Ytiogpaehelpmhaa

set_option linter.unusedSimpArgs false
set_option linter.unusedVariables false
set_option maxRecDepth 100000
set_option maxHeartbeats 4000000
namespace Go.Proofs.Ytiogpaehelpmhaa
open Go Go.Eng

/-- What a grid, a tube of any sizes is. -/
def grR (w h s : Int) : List T3 × List T3 × Int := if (1 ≤ w ∧ w ≤ 16) ∧ (1 ≤ h ∧ h ≤ 16) then (grP w.toNat h.toNat s, grF w.toNat h.toNat, 0) else ([], [], 1)
def tuR (n r h : Int) : List T3 × List T3 × Int := if 3 ≤ n ∧ n ≤ 64 then (tuP n.toNat r h, tuF n.toNat, 0) else ([], [], 1)
theorem nil2 (L : Nat) (c : CV) : nilV L (.tup [(true, [.nils, .nils]), (false, [c])]) (.tup [(true, [.sl L 0 0 0, .nils]), (false, [c])]) := by
  simp [nilV, All2, nilC]
theorem nil3 (L r : Nat) (c : CV) : nilV L (.tup [(true, [.sl r 0 0 0, .nils]), (false, [c])]) (.tup [(true, [.sl r 0 0 0, .sl L 0 0 0]), (false, [c])]) := by
  simp [nilV, All2, nilC]
theorem chk_nil : chk 0 [] = 0 := by decide
theorem grP_len (W H : Nat) (s : Int) : (grP W H s).length = (W + 1) * (H + 1) := by unfold grP; rw [List.length_map, List.length_range]
theorem grF_len (W H : Nat) : (grF W H).length = 2 * (W * H) := rf_len W _
theorem gr_ok {W H : Nat} (hW : W ≤ 16) (hH : H ≤ 16) : chk ((W + 1) * (H + 1)) (grF W H) = 0 := by
  have h1 : (W + 1) * (H + 1) ≤ 17 * 17 := Nat.mul_le_mul (by omega) (by omega)
  have h2 : W * H ≤ 16 * 16 := Nat.mul_le_mul hW hH
  refine chk_0 (by rw [grF_len]; omega) fun t ht => ?_
  obtain ⟨k, hk, hm⟩ := List.mem_flatMap.1 ht
  have hk := List.mem_range.1 hk
  have hW0 : 0 < W := by
    rcases Nat.eq_zero_or_pos W with h | h
    · subst h; rw [Nat.zero_mul] at hk; omega
    · exact h
  have q1 : k % W < W := Nat.mod_lt _ hW0
  have q2 : k / W < H := Nat.div_lt_of_lt_mul hk
  have q3 := Nat.mul_le_mul_right (W + 1) (show k / W + 1 ≤ H by omega)
  rw [Nat.succ_mul] at q3
  have q4 : (W + 1) * (H + 1) = H * (W + 1) + (W + 1) := by rw [Nat.mul_comm, Nat.succ_mul]
  rw [q4]
  unfold qF at hm
  generalize k / W * (W + 1) = A at *
  generalize H * (W + 1) = B at *
  generalize k % W = x at *
  simp only [List.mem_cons, List.not_mem_nil, or_false] at hm
  rcases hm with rfl | rfl <;> (unfold okF; push_cast; omega)
theorem tu_ok {S : Nat} (h : 3 ≤ S ∧ S ≤ 64) : chk (2 * S) (tuF S) = 0 := by
  refine chk_0 (by rw [tuF_len]; omega) fun t ht => ?_
  obtain ⟨k, hk, hm⟩ := List.mem_flatMap.1 ht
  have hk := List.mem_range.1 hk
  unfold tbF at hm
  have hq : (k + 1) % S = 0 ∧ k + 1 = S ∨ (k + 1) % S = k + 1 ∧ k + 1 < S := by
    rcases Nat.lt_or_ge (k + 1) S with h | h
    · exact .inr ⟨Nat.mod_eq_of_lt h, h⟩
    · have e : k + 1 = S := by omega
      exact .inl ⟨by rw [e, Nat.mod_self], e⟩
  generalize (k + 1) % S = q at *
  simp only [List.mem_cons, List.not_mem_nil, or_false] at hm
  rcases hm with rfl | rfl <;> (unfold okF; push_cast; omega)
theorem grR_chk (w h s : Int) : chk (grR w h s).1.length (grR w h s).2.1 = 0 := by
  unfold grR; split
  · rename_i hc
    rw [grP_len]; exact gr_ok (by omega) (by omega)
  · exact chk_nil
theorem tuR_chk (n r h : Int) : chk (tuR n r h).1.length (tuR n r h).2.1 = 0 := by
  unfold tuR; split
  · rename_i hc
    rw [tuP_len]; exact tu_ok (by omega)
  · exact chk_nil
theorem grid_no1 (w h s : Int) (m : AMem) (h1 : w < 1) : Ctr Try.prog 32 [.one (.int .i64 w), .one (.int .i64 h), .one (.int .i64 s)] m (.tup [(true, [.nils, .nils]), (false, [.int .i64 1])]) m := by
  refine Ctr.enter Try.func32 rfl (by decide) (rs := [.cell 6 37, .tmp 7]) (nt := 85) rfl rfl fun hwf Q hQ => ?_
  refine AW.seq_k fun K hK => ?_
  refine AW.region (by decide) ?_
  simp only [push_cast, simprocAttr, h1]
  refine Thn_n ?_
  refine hK _ _ ?_
  clear hK K
  refine AW.seq_k fun K hK => ?_
  refine AW.seq_k fun K hK => ?_
  refine AW.region (by decide) ?_
  simp only [push_cast, simprocAttr, h1]
  refine Thn_n ?_
  refine hK _ _ ?_
  clear hK K
  refine AW.cond_t rfl ?_
  refine AW.seq_k fun K hK => ?_
  refine AW.region (by decide) ?_
  simp only [push_cast, simprocAttr, h1]
  refine Thn_n ?_
  refine hK _ _ ?_
  clear hK K
  refine AW.ret ?_
  refine Thn_r ?_
  refine hQ _ _ _ ?_
  first | refine RetP.drop0 (Or.inr rfl) ?_ ?_ hwf | refine RetP.drop (Or.inr rfl) ?_ ?_ hwf
  · simp only [resA, resOne, resTv, AV.tv, push_cast, simprocAttr, h1]
  · rfl
theorem grid_no2 (w h s : Int) (m : AMem) (h1 : ¬ w < 1) (h2 : 16 < w) : Ctr Try.prog 32 [.one (.int .i64 w), .one (.int .i64 h), .one (.int .i64 s)] m (.tup [(true, [.nils, .nils]), (false, [.int .i64 1])]) m := by
  refine Ctr.enter Try.func32 rfl (by decide) (rs := [.cell 6 37, .tmp 7]) (nt := 85) rfl rfl fun hwf Q hQ => ?_
  refine AW.seq_k fun K hK => ?_
  refine AW.region (by decide) ?_
  simp only [push_cast, simprocAttr, h1, h2]
  refine Thn_n ?_
  refine hK _ _ ?_
  clear hK K
  refine AW.seq_k fun K hK => ?_
  refine AW.seq_k fun K hK => ?_
  refine AW.region (by decide) ?_
  simp only [push_cast, simprocAttr, h1, h2]
  refine Thn_n ?_
  refine hK _ _ ?_
  clear hK K
  refine AW.cond_t rfl ?_
  refine AW.seq_k fun K hK => ?_
  refine AW.region (by decide) ?_
  simp only [push_cast, simprocAttr, h1, h2]
  refine Thn_n ?_
  refine hK _ _ ?_
  clear hK K
  refine AW.ret ?_
  refine Thn_r ?_
  refine hQ _ _ _ ?_
  first | refine RetP.drop0 (Or.inr rfl) ?_ ?_ hwf | refine RetP.drop (Or.inr rfl) ?_ ?_ hwf
  · simp only [resA, resOne, resTv, AV.tv, push_cast, simprocAttr, h1, h2]
  · rfl
theorem grid_no3 (w h s : Int) (m : AMem) (h1 : ¬ w < 1) (h2 : ¬ 16 < w) (h3 : h < 1) : Ctr Try.prog 32 [.one (.int .i64 w), .one (.int .i64 h), .one (.int .i64 s)] m (.tup [(true, [.nils, .nils]), (false, [.int .i64 1])]) m := by
  refine Ctr.enter Try.func32 rfl (by decide) (rs := [.cell 6 37, .tmp 7]) (nt := 85) rfl rfl fun hwf Q hQ => ?_
  refine AW.seq_k fun K hK => ?_
  refine AW.region (by decide) ?_
  simp only [push_cast, simprocAttr, h1, h2, h3]
  refine Thn_n ?_
  refine hK _ _ ?_
  clear hK K
  refine AW.seq_k fun K hK => ?_
  refine AW.seq_k fun K hK => ?_
  refine AW.region (by decide) ?_
  simp only [push_cast, simprocAttr, h1, h2, h3]
  refine Thn_n ?_
  refine hK _ _ ?_
  clear hK K
  refine AW.cond_t rfl ?_
  refine AW.seq_k fun K hK => ?_
  refine AW.region (by decide) ?_
  simp only [push_cast, simprocAttr, h1, h2, h3]
  refine Thn_n ?_
  refine hK _ _ ?_
  clear hK K
  refine AW.ret ?_
  refine Thn_r ?_
  refine hQ _ _ _ ?_
  first | refine RetP.drop0 (Or.inr rfl) ?_ ?_ hwf | refine RetP.drop (Or.inr rfl) ?_ ?_ hwf
  · simp only [resA, resOne, resTv, AV.tv, push_cast, simprocAttr, h1, h2, h3]
  · rfl
theorem grid_no4 (w h s : Int) (m : AMem) (h1 : ¬ w < 1) (h2 : ¬ 16 < w) (h3 : ¬ h < 1) (h4 : 16 < h) : Ctr Try.prog 32 [.one (.int .i64 w), .one (.int .i64 h), .one (.int .i64 s)] m (.tup [(true, [.nils, .nils]), (false, [.int .i64 1])]) m := by
  refine Ctr.enter Try.func32 rfl (by decide) (rs := [.cell 6 37, .tmp 7]) (nt := 85) rfl rfl fun hwf Q hQ => ?_
  refine AW.seq_k fun K hK => ?_
  refine AW.region (by decide) ?_
  simp only [push_cast, simprocAttr, h1, h2, h3, h4]
  refine Thn_n ?_
  refine hK _ _ ?_
  clear hK K
  refine AW.seq_k fun K hK => ?_
  refine AW.seq_k fun K hK => ?_
  refine AW.region (by decide) ?_
  simp only [push_cast, simprocAttr, h1, h2, h3, h4]
  refine Thn_n ?_
  refine hK _ _ ?_
  clear hK K
  refine AW.cond_t rfl ?_
  refine AW.seq_k fun K hK => ?_
  refine AW.region (by decide) ?_
  simp only [push_cast, simprocAttr, h1, h2, h3, h4]
  refine Thn_n ?_
  refine hK _ _ ?_
  clear hK K
  refine AW.ret ?_
  refine Thn_r ?_
  refine hQ _ _ _ ?_
  first | refine RetP.drop0 (Or.inr rfl) ?_ ?_ hwf | refine RetP.drop (Or.inr rfl) ?_ ?_ hwf
  · simp only [resA, resOne, resTv, AV.tv, push_cast, simprocAttr, h1, h2, h3, h4]
  · rfl
theorem grid_c (w h s : Int) (m : AMem) : Ctr Try.prog 32 [.one (.int .i64 w), .one (.int .i64 h), .one (.int .i64 s)] m (.tup [(true, [.sl m.length 0 0 (grR w h s).1.length, .sl (m.length + 1) 0 0 (grR w h s).2.1.length]), (false, [.int .i64 (grR w h s).2.2])]) (m ++ [⟨.grow, 49, 0, 3, tL (grR w h s).1⟩, ⟨.grow, 54, 0, 3, tL (grR w h s).2.1⟩]) := by
  by_cases hc : (1 ≤ w ∧ w ≤ 16) ∧ (1 ≤ h ∧ h ≤ 16)
  · unfold grR
    rw [if_pos hc]
    obtain ⟨W, rfl⟩ := Int.eq_ofNat_of_zero_le (show 0 ≤ w by omega)
    obtain ⟨H, rfl⟩ := Int.eq_ofNat_of_zero_le (show 0 ≤ h by omega)
    dsimp only [Int.toNat_natCast]
    rw [grP_len, grF_len]
    exact grid_ok W H s m (by omega) (by omega)
  · unfold grR
    rw [if_neg hc]
    have hb : Ctr Try.prog 32 [.one (.int .i64 w), .one (.int .i64 h), .one (.int .i64 s)] m (.tup [(true, [.nils, .nils]), (false, [.int .i64 1])]) m := by
      rcases (by omega : w < 1 ∨ (¬ w < 1 ∧ 16 < w) ∨ (¬ w < 1 ∧ ¬ 16 < w ∧ h < 1) ∨ (¬ w < 1 ∧ ¬ 16 < w ∧ ¬ h < 1 ∧ 16 < h)) with h1 | ⟨h1, h2⟩ | ⟨h1, h2, h3⟩ | ⟨h1, h2, h3, h4⟩
      · exact grid_no1 w h s m h1
      · exact grid_no2 w h s m h1 h2
      · exact grid_no3 w h s m h1 h2 h3
      · exact grid_no4 w h s m h1 h2 h3 h4
    have h2 := (hb.nil 49 3 (nil2 _ _)).nil 54 3 (nil3 _ _ _)
    simp only [List.append_assoc, List.cons_append, List.nil_append, List.length_append, List.length_cons, List.length_nil, Nat.zero_add] at h2
    exact h2
theorem rgrid_no1 (w h s : Int) (m : AMem) (h1 : w < 1) : Ctr Try.prog 33 [.one (.int .i64 w), .one (.int .i64 h), .one (.int .i64 s)] m (.tup [(true, [.nils, .nils]), (false, [.int .i64 1])]) m := by
  refine Ctr.enter Try.func33 rfl (by decide) (rs := [.cell 6 34, .tmp 7]) (nt := 91) rfl rfl fun hwf Q hQ => ?_
  refine AW.seq_k fun K hK => ?_
  refine AW.region (by decide) ?_
  simp only [push_cast, simprocAttr, h1]
  refine Thn_n ?_
  refine hK _ _ ?_
  clear hK K
  refine AW.seq_k fun K hK => ?_
  refine AW.seq_k fun K hK => ?_
  refine AW.region (by decide) ?_
  simp only [push_cast, simprocAttr, h1]
  refine Thn_n ?_
  refine hK _ _ ?_
  clear hK K
  refine AW.cond_t rfl ?_
  refine AW.seq_k fun K hK => ?_
  refine AW.region (by decide) ?_
  simp only [push_cast, simprocAttr, h1]
  refine Thn_n ?_
  refine hK _ _ ?_
  clear hK K
  refine AW.ret ?_
  refine Thn_r ?_
  refine hQ _ _ _ ?_
  first | refine RetP.drop0 (Or.inr rfl) ?_ ?_ hwf | refine RetP.drop (Or.inr rfl) ?_ ?_ hwf
  · simp only [resA, resOne, resTv, AV.tv, push_cast, simprocAttr, h1]
  · rfl
theorem rgrid_no2 (w h s : Int) (m : AMem) (h1 : ¬ w < 1) (h2 : 16 < w) : Ctr Try.prog 33 [.one (.int .i64 w), .one (.int .i64 h), .one (.int .i64 s)] m (.tup [(true, [.nils, .nils]), (false, [.int .i64 1])]) m := by
  refine Ctr.enter Try.func33 rfl (by decide) (rs := [.cell 6 34, .tmp 7]) (nt := 91) rfl rfl fun hwf Q hQ => ?_
  refine AW.seq_k fun K hK => ?_
  refine AW.region (by decide) ?_
  simp only [push_cast, simprocAttr, h1, h2]
  refine Thn_n ?_
  refine hK _ _ ?_
  clear hK K
  refine AW.seq_k fun K hK => ?_
  refine AW.seq_k fun K hK => ?_
  refine AW.region (by decide) ?_
  simp only [push_cast, simprocAttr, h1, h2]
  refine Thn_n ?_
  refine hK _ _ ?_
  clear hK K
  refine AW.cond_t rfl ?_
  refine AW.seq_k fun K hK => ?_
  refine AW.region (by decide) ?_
  simp only [push_cast, simprocAttr, h1, h2]
  refine Thn_n ?_
  refine hK _ _ ?_
  clear hK K
  refine AW.ret ?_
  refine Thn_r ?_
  refine hQ _ _ _ ?_
  first | refine RetP.drop0 (Or.inr rfl) ?_ ?_ hwf | refine RetP.drop (Or.inr rfl) ?_ ?_ hwf
  · simp only [resA, resOne, resTv, AV.tv, push_cast, simprocAttr, h1, h2]
  · rfl
theorem rgrid_no3 (w h s : Int) (m : AMem) (h1 : ¬ w < 1) (h2 : ¬ 16 < w) (h3 : h < 1) : Ctr Try.prog 33 [.one (.int .i64 w), .one (.int .i64 h), .one (.int .i64 s)] m (.tup [(true, [.nils, .nils]), (false, [.int .i64 1])]) m := by
  refine Ctr.enter Try.func33 rfl (by decide) (rs := [.cell 6 34, .tmp 7]) (nt := 91) rfl rfl fun hwf Q hQ => ?_
  refine AW.seq_k fun K hK => ?_
  refine AW.region (by decide) ?_
  simp only [push_cast, simprocAttr, h1, h2, h3]
  refine Thn_n ?_
  refine hK _ _ ?_
  clear hK K
  refine AW.seq_k fun K hK => ?_
  refine AW.seq_k fun K hK => ?_
  refine AW.region (by decide) ?_
  simp only [push_cast, simprocAttr, h1, h2, h3]
  refine Thn_n ?_
  refine hK _ _ ?_
  clear hK K
  refine AW.cond_t rfl ?_
  refine AW.seq_k fun K hK => ?_
  refine AW.region (by decide) ?_
  simp only [push_cast, simprocAttr, h1, h2, h3]
  refine Thn_n ?_
  refine hK _ _ ?_
  clear hK K
  refine AW.ret ?_
  refine Thn_r ?_
  refine hQ _ _ _ ?_
  first | refine RetP.drop0 (Or.inr rfl) ?_ ?_ hwf | refine RetP.drop (Or.inr rfl) ?_ ?_ hwf
  · simp only [resA, resOne, resTv, AV.tv, push_cast, simprocAttr, h1, h2, h3]
  · rfl
theorem rgrid_no4 (w h s : Int) (m : AMem) (h1 : ¬ w < 1) (h2 : ¬ 16 < w) (h3 : ¬ h < 1) (h4 : 16 < h) : Ctr Try.prog 33 [.one (.int .i64 w), .one (.int .i64 h), .one (.int .i64 s)] m (.tup [(true, [.nils, .nils]), (false, [.int .i64 1])]) m := by
  refine Ctr.enter Try.func33 rfl (by decide) (rs := [.cell 6 34, .tmp 7]) (nt := 91) rfl rfl fun hwf Q hQ => ?_
  refine AW.seq_k fun K hK => ?_
  refine AW.region (by decide) ?_
  simp only [push_cast, simprocAttr, h1, h2, h3, h4]
  refine Thn_n ?_
  refine hK _ _ ?_
  clear hK K
  refine AW.seq_k fun K hK => ?_
  refine AW.seq_k fun K hK => ?_
  refine AW.region (by decide) ?_
  simp only [push_cast, simprocAttr, h1, h2, h3, h4]
  refine Thn_n ?_
  refine hK _ _ ?_
  clear hK K
  refine AW.cond_t rfl ?_
  refine AW.seq_k fun K hK => ?_
  refine AW.region (by decide) ?_
  simp only [push_cast, simprocAttr, h1, h2, h3, h4]
  refine Thn_n ?_
  refine hK _ _ ?_
  clear hK K
  refine AW.ret ?_
  refine Thn_r ?_
  refine hQ _ _ _ ?_
  first | refine RetP.drop0 (Or.inr rfl) ?_ ?_ hwf | refine RetP.drop (Or.inr rfl) ?_ ?_ hwf
  · simp only [resA, resOne, resTv, AV.tv, push_cast, simprocAttr, h1, h2, h3, h4]
  · rfl
theorem rgrid_c (w h s : Int) (m : AMem) : Ctr Try.prog 33 [.one (.int .i64 w), .one (.int .i64 h), .one (.int .i64 s)] m (.tup [(true, [.sl m.length 0 0 (grR w h s).1.length, .sl (m.length + 1) 0 0 (grR w h s).2.1.length]), (false, [.int .i64 (grR w h s).2.2])]) (m ++ [⟨.grow, 24, 0, 3, tL (grR w h s).1⟩, ⟨.grow, 54, 0, 3, tL (grR w h s).2.1⟩]) := by
  by_cases hc : (1 ≤ w ∧ w ≤ 16) ∧ (1 ≤ h ∧ h ≤ 16)
  · unfold grR
    rw [if_pos hc]
    obtain ⟨W, rfl⟩ := Int.eq_ofNat_of_zero_le (show 0 ≤ w by omega)
    obtain ⟨H, rfl⟩ := Int.eq_ofNat_of_zero_le (show 0 ≤ h by omega)
    dsimp only [Int.toNat_natCast]
    rw [grP_len, grF_len]
    exact rgrid_ok W H s m (by omega) (by omega)
  · unfold grR
    rw [if_neg hc]
    have hb : Ctr Try.prog 33 [.one (.int .i64 w), .one (.int .i64 h), .one (.int .i64 s)] m (.tup [(true, [.nils, .nils]), (false, [.int .i64 1])]) m := by
      rcases (by omega : w < 1 ∨ (¬ w < 1 ∧ 16 < w) ∨ (¬ w < 1 ∧ ¬ 16 < w ∧ h < 1) ∨ (¬ w < 1 ∧ ¬ 16 < w ∧ ¬ h < 1 ∧ 16 < h)) with h1 | ⟨h1, h2⟩ | ⟨h1, h2, h3⟩ | ⟨h1, h2, h3, h4⟩
      · exact rgrid_no1 w h s m h1
      · exact rgrid_no2 w h s m h1 h2
      · exact rgrid_no3 w h s m h1 h2 h3
      · exact rgrid_no4 w h s m h1 h2 h3 h4
    have h2 := (hb.nil 24 3 (nil2 _ _)).nil 54 3 (nil3 _ _ _)
    simp only [List.append_assoc, List.cons_append, List.nil_append, List.length_append, List.length_cons, List.length_nil, Nat.zero_add] at h2
    exact h2
theorem tube_no1 (n r h : Int) (m : AMem) (h1 : n < 3) : Ctr Try.prog 34 [.one (.int .i64 n), .one (.int .i64 r), .one (.int .i64 h)] m (.tup [(true, [.nils, .nils]), (false, [.int .i64 1])]) m := by
  refine Ctr.enter Try.func34 rfl (by decide) (rs := [.cell 6 37, .tmp 7]) (nt := 73) rfl rfl fun hwf Q hQ => ?_
  refine AW.seq_k fun K hK => ?_
  refine AW.region (by decide) ?_
  simp only [push_cast, simprocAttr, h1]
  refine Thn_n ?_
  refine hK _ _ ?_
  clear hK K
  refine AW.seq_k fun K hK => ?_
  refine AW.seq_k fun K hK => ?_
  refine AW.region (by decide) ?_
  simp only [push_cast, simprocAttr, h1]
  refine Thn_n ?_
  refine hK _ _ ?_
  clear hK K
  refine AW.cond_t rfl ?_
  refine AW.seq_k fun K hK => ?_
  refine AW.region (by decide) ?_
  simp only [push_cast, simprocAttr, h1]
  refine Thn_n ?_
  refine hK _ _ ?_
  clear hK K
  refine AW.ret ?_
  refine Thn_r ?_
  refine hQ _ _ _ ?_
  first | refine RetP.drop0 (Or.inr rfl) ?_ ?_ hwf | refine RetP.drop (Or.inr rfl) ?_ ?_ hwf
  · simp only [resA, resOne, resTv, AV.tv, push_cast, simprocAttr, h1]
  · rfl
theorem tube_no2 (n r h : Int) (m : AMem) (h1 : ¬ n < 3) (h2 : 64 < n) : Ctr Try.prog 34 [.one (.int .i64 n), .one (.int .i64 r), .one (.int .i64 h)] m (.tup [(true, [.nils, .nils]), (false, [.int .i64 1])]) m := by
  refine Ctr.enter Try.func34 rfl (by decide) (rs := [.cell 6 37, .tmp 7]) (nt := 73) rfl rfl fun hwf Q hQ => ?_
  refine AW.seq_k fun K hK => ?_
  refine AW.region (by decide) ?_
  simp only [push_cast, simprocAttr, h1, h2]
  refine Thn_n ?_
  refine hK _ _ ?_
  clear hK K
  refine AW.seq_k fun K hK => ?_
  refine AW.seq_k fun K hK => ?_
  refine AW.region (by decide) ?_
  simp only [push_cast, simprocAttr, h1, h2]
  refine Thn_n ?_
  refine hK _ _ ?_
  clear hK K
  refine AW.cond_t rfl ?_
  refine AW.seq_k fun K hK => ?_
  refine AW.region (by decide) ?_
  simp only [push_cast, simprocAttr, h1, h2]
  refine Thn_n ?_
  refine hK _ _ ?_
  clear hK K
  refine AW.ret ?_
  refine Thn_r ?_
  refine hQ _ _ _ ?_
  first | refine RetP.drop0 (Or.inr rfl) ?_ ?_ hwf | refine RetP.drop (Or.inr rfl) ?_ ?_ hwf
  · simp only [resA, resOne, resTv, AV.tv, push_cast, simprocAttr, h1, h2]
  · rfl
theorem tube_c (n r h : Int) (m : AMem) : Ctr Try.prog 34 [.one (.int .i64 n), .one (.int .i64 r), .one (.int .i64 h)] m (.tup [(true, [.sl m.length 0 0 (tuR n r h).1.length, .sl (m.length + 1) 0 0 (tuR n r h).2.1.length]), (false, [.int .i64 (tuR n r h).2.2])]) (m ++ [⟨.grow, 49, 0, 3, tL (tuR n r h).1⟩, ⟨.grow, 54, 0, 3, tL (tuR n r h).2.1⟩]) := by
  by_cases hc : 3 ≤ n ∧ n ≤ 64
  · unfold tuR
    rw [if_pos hc]
    obtain ⟨S, rfl⟩ := Int.eq_ofNat_of_zero_le (show 0 ≤ n by omega)
    dsimp only [Int.toNat_natCast]
    rw [tuP_len, tuF_len]
    exact tube_ok S r h m (by omega)
  · unfold tuR
    rw [if_neg hc]
    have hb : Ctr Try.prog 34 [.one (.int .i64 n), .one (.int .i64 r), .one (.int .i64 h)] m (.tup [(true, [.nils, .nils]), (false, [.int .i64 1])]) m := by
      rcases (by omega : n < 3 ∨ (¬ n < 3 ∧ 64 < n)) with h1 | ⟨h1, h2⟩
      · exact tube_no1 n r h m h1
      · exact tube_no2 n r h m h1 h2
    have h2 := (hb.nil 49 3 (nil2 _ _)).nil 54 3 (nil3 _ _ _)
    simp only [List.append_assoc, List.cons_append, List.nil_append, List.length_append, List.length_cons, List.length_nil, Nat.zero_add] at h2
    exact h2
theorem rtube_no1 (n r h : Int) (m : AMem) (h1 : n < 3) : Ctr Try.prog 35 [.one (.int .i64 n), .one (.int .i64 r), .one (.int .i64 h)] m (.tup [(true, [.nils, .nils]), (false, [.int .i64 1])]) m := by
  refine Ctr.enter Try.func35 rfl (by decide) (rs := [.cell 6 34, .tmp 7]) (nt := 75) rfl rfl fun hwf Q hQ => ?_
  refine AW.seq_k fun K hK => ?_
  refine AW.region (by decide) ?_
  simp only [push_cast, simprocAttr, h1]
  refine Thn_n ?_
  refine hK _ _ ?_
  clear hK K
  refine AW.seq_k fun K hK => ?_
  refine AW.seq_k fun K hK => ?_
  refine AW.region (by decide) ?_
  simp only [push_cast, simprocAttr, h1]
  refine Thn_n ?_
  refine hK _ _ ?_
  clear hK K
  refine AW.cond_t rfl ?_
  refine AW.seq_k fun K hK => ?_
  refine AW.region (by decide) ?_
  simp only [push_cast, simprocAttr, h1]
  refine Thn_n ?_
  refine hK _ _ ?_
  clear hK K
  refine AW.ret ?_
  refine Thn_r ?_
  refine hQ _ _ _ ?_
  first | refine RetP.drop0 (Or.inr rfl) ?_ ?_ hwf | refine RetP.drop (Or.inr rfl) ?_ ?_ hwf
  · simp only [resA, resOne, resTv, AV.tv, push_cast, simprocAttr, h1]
  · rfl
theorem rtube_no2 (n r h : Int) (m : AMem) (h1 : ¬ n < 3) (h2 : 64 < n) : Ctr Try.prog 35 [.one (.int .i64 n), .one (.int .i64 r), .one (.int .i64 h)] m (.tup [(true, [.nils, .nils]), (false, [.int .i64 1])]) m := by
  refine Ctr.enter Try.func35 rfl (by decide) (rs := [.cell 6 34, .tmp 7]) (nt := 75) rfl rfl fun hwf Q hQ => ?_
  refine AW.seq_k fun K hK => ?_
  refine AW.region (by decide) ?_
  simp only [push_cast, simprocAttr, h1, h2]
  refine Thn_n ?_
  refine hK _ _ ?_
  clear hK K
  refine AW.seq_k fun K hK => ?_
  refine AW.seq_k fun K hK => ?_
  refine AW.region (by decide) ?_
  simp only [push_cast, simprocAttr, h1, h2]
  refine Thn_n ?_
  refine hK _ _ ?_
  clear hK K
  refine AW.cond_t rfl ?_
  refine AW.seq_k fun K hK => ?_
  refine AW.region (by decide) ?_
  simp only [push_cast, simprocAttr, h1, h2]
  refine Thn_n ?_
  refine hK _ _ ?_
  clear hK K
  refine AW.ret ?_
  refine Thn_r ?_
  refine hQ _ _ _ ?_
  first | refine RetP.drop0 (Or.inr rfl) ?_ ?_ hwf | refine RetP.drop (Or.inr rfl) ?_ ?_ hwf
  · simp only [resA, resOne, resTv, AV.tv, push_cast, simprocAttr, h1, h2]
  · rfl
theorem rtube_c (n r h : Int) (m : AMem) : Ctr Try.prog 35 [.one (.int .i64 n), .one (.int .i64 r), .one (.int .i64 h)] m (.tup [(true, [.sl m.length 0 0 (tuR n r h).1.length, .sl (m.length + 1) 0 0 (tuR n r h).2.1.length]), (false, [.int .i64 (tuR n r h).2.2])]) (m ++ [⟨.grow, 24, 0, 3, tL (tuR n r h).1⟩, ⟨.grow, 54, 0, 3, tL (tuR n r h).2.1⟩]) := by
  by_cases hc : 3 ≤ n ∧ n ≤ 64
  · unfold tuR
    rw [if_pos hc]
    obtain ⟨S, rfl⟩ := Int.eq_ofNat_of_zero_le (show 0 ≤ n by omega)
    dsimp only [Int.toNat_natCast]
    rw [tuP_len, tuF_len]
    exact rtube_ok S r h m (by omega)
  · unfold tuR
    rw [if_neg hc]
    have hb : Ctr Try.prog 35 [.one (.int .i64 n), .one (.int .i64 r), .one (.int .i64 h)] m (.tup [(true, [.nils, .nils]), (false, [.int .i64 1])]) m := by
      rcases (by omega : n < 3 ∨ (¬ n < 3 ∧ 64 < n)) with h1 | ⟨h1, h2⟩
      · exact rtube_no1 n r h m h1
      · exact rtube_no2 n r h m h1 h2
    have h2 := (hb.nil 24 3 (nil2 _ _)).nil 54 3 (nil3 _ _ _)
    simp only [List.append_assoc, List.cons_append, List.nil_append, List.length_append, List.length_cons, List.length_nil, Nat.zero_add] at h2
    exact h2
end Go.Proofs.Ytiogpaehelpmhaa

set_option linter.unusedSimpArgs false
set_option linter.unusedVariables false
set_option maxRecDepth 100000
set_option maxHeartbeats 4000000
namespace Go.Proofs.Ytiogpaehelpmhaa
open Go Go.Eng

theorem makesL_c (w h n s hi a0 a1 a2 : Int) (m : AMem) : Ctr Try.prog 6 [.one (.int .i64 w), .one (.int .i64 h), .one (.int .i64 n), .one (.int .i64 s), .one (.int .i64 hi), .agg [.int .i64 a0, .int .i64 a1, .int .i64 a2]] m (.one (.bool true)) m := by
  refine Ctr.enter Try.func6 rfl (by decide) (rs := [.tmp 12]) (nt := 91) rfl rfl fun hwf Q hQ => ?_
  obtain ⟨G, hG⟩ : ∃ G, G = grR w h s := ⟨_, rfl⟩
  obtain ⟨U, hU⟩ : ∃ U, U = tuR n s hi := ⟨_, rfl⟩
  have c1 := grR_chk w h s
  have c2 := tuR_chk n s hi
  rw [← hG] at c1
  rw [← hU] at c2
  obtain ⟨l1, l2⟩ := chk_len c1
  obtain ⟨l3, l4⟩ := chk_len c2
  have g1 := fun m => grid_c w h s m
  have g2 := fun m => rgrid_c w h s m
  have g3 := fun m => tube_c n s hi m
  have g4 := fun m => rtube_c n s hi m
  simp only [← hG] at g1 g2
  simp only [← hU] at g3 g4
  have lP : (crP a0 a1 a2).length = 8 := rfl
  have lF : crF.length = 12 := rfl
  refine AW.seq_k fun K hK => ?_
  refine AW.region (by decide) ?_
  simp only [push_cast, simprocAttr, c1, c2, bne_self_eq_false]
  refine Thn_n ?_
  refine hK _ _ ?_
  clear hK K
  refine AW.seq_k fun K hK => ?_
  refine AW.region (by decide) ?_
  simp only [push_cast, simprocAttr, c1, c2, bne_self_eq_false]
  refine CThen.by (g1 _) ?_
  simp only [push_cast, simprocAttr, c1, c2, bne_self_eq_false]
  refine Thn_n ?_
  refine hK _ _ ?_
  clear hK K
  refine AW.seq_k fun K hK => ?_
  refine AW.region (by decide) ?_
  simp only [push_cast, simprocAttr, c1, c2, bne_self_eq_false]
  refine CThen.by (g2 _) ?_
  simp only [push_cast, simprocAttr, c1, c2, bne_self_eq_false]
  refine Thn_n ?_
  refine hK _ _ ?_
  clear hK K
  refine AW.seq_k fun K hK => ?_
  refine AW.region (by decide) ?_
  simp only [push_cast, simprocAttr, c1, c2, bne_self_eq_false]
  refine CThen.by (g3 _) ?_
  simp only [push_cast, simprocAttr, c1, c2, bne_self_eq_false]
  refine Thn_n ?_
  refine hK _ _ ?_
  clear hK K
  refine AW.seq_k fun K hK => ?_
  refine AW.region (by decide) ?_
  simp only [push_cast, simprocAttr, c1, c2, bne_self_eq_false]
  refine CThen.by (g4 _) ?_
  simp only [push_cast, simprocAttr, c1, c2, bne_self_eq_false]
  refine Thn_n ?_
  refine hK _ _ ?_
  clear hK K
  refine AW.seq_k fun K hK => ?_
  refine AW.seq_k fun K hK => ?_
  refine AW.draw [.val, .val, .val, .val, .rd 0, .ext, .rd 0, .ext, .val, .val, .val, .val, .val, .val, .val, .val, .rd 2, .ext, .rd 2, .ext, .val, .val] fol (by decide) (by kernel_rfl) ?_
  simp only [push_cast, simprocAttr, c1, c2, bne_self_eq_false]
  refine DCall.by (from33_c (m.length + 1) 0 (m.length + 2) 0 G.1 G.2.1 _ (by simp) ⟨.grow, 3, by simp only [push_cast, simprocAttr]⟩ (by omega)) ?_
  simp only [push_cast, simprocAttr, c1, c2, bne_self_eq_false]
  refine DCall.by0 (same33_c (m.length + 13) 0 (m.length + 4) 0 (m.length + 2) 0 (m.length + 5) 0 G.1 G.2.1 _ ⟨.grow, 3, by simp only [push_cast, simprocAttr]⟩ ⟨.grow, 3, by simp only [push_cast, simprocAttr]⟩ ⟨.grow, 3, by simp only [push_cast, simprocAttr]⟩ ⟨.grow, 3, by simp only [push_cast, simprocAttr]⟩ (by omega) (by omega)) ?_
  simp only [push_cast, simprocAttr, c1, c2, bne_self_eq_false]
  refine DCall.by (from33_c (m.length + 7) 0 (m.length + 8) 0 U.1 U.2.1 _ (by simp) ⟨.grow, 3, by simp only [push_cast, simprocAttr]⟩ (by omega)) ?_
  simp only [push_cast, simprocAttr, c1, c2, bne_self_eq_false]
  refine DCall.by0 (same33_c (m.length + 14) 0 (m.length + 10) 0 (m.length + 8) 0 (m.length + 11) 0 U.1 U.2.1 _ ⟨.grow, 3, by simp only [push_cast, simprocAttr]⟩ ⟨.grow, 3, by simp only [push_cast, simprocAttr]⟩ ⟨.grow, 3, by simp only [push_cast, simprocAttr]⟩ ⟨.grow, 3, by simp only [push_cast, simprocAttr]⟩ (by omega) (by omega)) ?_
  simp only [push_cast, simprocAttr, c1, c2, bne_self_eq_false]
  refine Thn_n ?_
  refine hK _ _ ?_
  clear hK K
  refine AW.cond_f rfl ?_
  refine AW.skip ?_
  refine Thn_n ?_
  refine hK _ _ ?_
  clear hK K
  refine AW.seq_k fun K hK => ?_
  refine AW.draw [.ext, .val, .rd 1, .ext, .ext, .ext, .rd 1, .ext, .ext, .val, .val, .rd 6, .ext, .val, .val, .val, .rd 7, .ext, .val, .val, .val] fol (by decide) (by kernel_rfl) ?_
  simp only [push_cast, simprocAttr, c1, c2, bne_self_eq_false]
  refine DCall.by0 (awakeL_c _) ?_
  simp only [push_cast, simprocAttr, c1, c2, bne_self_eq_false]
  refine DCall.by0 (v2to_c _ _ _ _) ?_
  simp only [push_cast, simprocAttr, c1, c2, bne_self_eq_false]
  refine DCall.by (crate_c _ _ _ _) ?_
  simp only [push_cast, simprocAttr, c1, c2, bne_self_eq_false]
  refine DCall.by (from33_c (m.length + 15) 0 (m.length + 16) 0 (crP a0 a1 a2) crF _ (by simp) ⟨.grow, 3, by simp only [push_cast, simprocAttr]⟩ (by rw [lP]; decide)) ?_
  simp only [push_cast, simprocAttr, c1, c2, bne_self_eq_false]
  refine DCall.by (rcrate_c _ _ _ _) ?_
  simp only [push_cast, simprocAttr, c1, c2, bne_self_eq_false]
  refine DCall.by0 (same33_c (m.length + 17) 0 (m.length + 18) 0 (m.length + 16) 0 (m.length + 19) 0 (crP a0 a1 a2) crF _ ⟨.grow, 3, by simp only [push_cast, simprocAttr]⟩ ⟨.grow, 3, by simp only [push_cast, simprocAttr]⟩ ⟨.grow, 3, by simp only [push_cast, simprocAttr]⟩ ⟨.grow, 3, by simp only [push_cast, simprocAttr]⟩ (by rw [lP]; decide) (by rw [lF]; decide)) ?_
  simp only [push_cast, simprocAttr, c1, c2, bne_self_eq_false]
  refine DCall.by0 (check_c (m.length + 1) 0 (m.length + 2) 0 G.1 G.2.1 _ (by simp) ⟨.grow, 3, by simp only [push_cast, simprocAttr]⟩) ?_
  simp only [push_cast, simprocAttr, c1, c2, bne_self_eq_false]
  refine DCall.by0 (check_c (m.length + 7) 0 (m.length + 8) 0 U.1 U.2.1 _ (by simp) ⟨.grow, 3, by simp only [push_cast, simprocAttr]⟩) ?_
  simp only [push_cast, simprocAttr, c1, c2, bne_self_eq_false]
  refine Thn_n ?_
  refine hK _ _ ?_
  clear hK K
  refine AW.ret ?_
  refine hQ _ _ _ ?_
  first | refine RetP.drop0 (Or.inr rfl) ?_ ?_ hwf | refine RetP.drop (Or.inr rfl) ?_ ?_ hwf
  · simp only [resA, resOne, resTv, AV.tv, push_cast, simprocAttr, c1, c2, bne_self_eq_false]
  · rfl
end Go.Proofs.Ytiogpaehelpmhaa
