/- The walks of some functions of this seat's program over abstract states, printed by a program of mine; no conditions but those that each theorem names. -/
import Derived.Test.YthokogkeahcepaatalH
import Derived.Test.YthokogkeahcepaatalI
set_option linter.unusedSimpArgs false
set_option linter.unusedVariables false
namespace Go.Proofs.Ythokogkeahcepaa
open Go Go.Eng

theorem rst_eq {A : Nat → Nat → Int} {n : Nat} (h : 0 < n) : rst A n = cst A n := by
  cases n with
  | zero => omega
  | succ n => rfl
theorem bx_congr {A B : Nat → Nat → Int} {i j : Nat} (h0 : A i 0 = B j 0) (h1 : A i 1 = B j 1) (h2 : A i 2 = B j 2) : bx A i = bx B j := by
  simp only [bx, h0, h1, h2]
/-- One behind the other. -/
structure Cat (A B D : Nat → Nat → Int) (n1 n2 : Nat) : Prop where
  l : ∀ i, i < n1 → D i 0 = A i 0 ∧ D i 1 = A i 1 ∧ D i 2 = A i 2
  r : ∀ j, j < n2 → D (n1 + j) 0 = B j 0 ∧ D (n1 + j) 1 = B j 1 ∧ D (n1 + j) 2 = B j 2
theorem cst_left {A B D : Nat → Nat → Int} {n1 n2 : Nat} (h : Cat A B D n1 n2) (hp : 0 < n1) : ∀ n, n ≤ n1 → cst D n = cst A n
  | 0, _ => by
    obtain ⟨h0, h1, h2⟩ := h.l 0 hp
    simp only [cst, h0, h1, h2]
  | n + 1, hn => by
    obtain ⟨h0, h1, h2⟩ := h.l n (by omega)
    rw [cst_s, cst_s, cst_left h hp n (by omega), bx_congr h0 h1 h2, h0, h1, h2]
theorem minI_assoc (a b c : Int) : minI (minI a b) c = minI a (minI b c) := by
  simp only [minI]; repeat' split
  all_goals omega
theorem maxI_assoc (a b c : Int) : maxI (maxI a b) c = maxI a (maxI b c) := by
  simp only [maxI]; repeat' split
  all_goals omega
theorem minI_self (a : Int) : minI a a = a := by simp [minI]
theorem maxI_self (a : Int) : maxI a a = a := by simp [maxI]
theorem wrap_wrap (a b c : Int) : IntKind.i64.wrap (IntKind.i64.wrap (a + b) + c) = IntKind.i64.wrap (a + IntKind.i64.wrap (b + c)) := by
  simp only [IntKind.wrap_i64]; omega
theorem cnt_cat {A B D : Nat → Nat → Int} {n1 n2 : Nat} (h : Cat A B D n1 n2) (k : Nat) : ∀ n, (n ≤ n1 → cnt D k n = cnt A k n) ∧ (n ≤ n2 → cnt D k (n1 + n) = cnt D k n1 + cnt B k n)
  | 0 => ⟨fun _ => rfl, fun _ => rfl⟩
  | n + 1 => by
    have ih := cnt_cat h k n
    refine ⟨fun hn => ?_, fun hn => ?_⟩
    · obtain ⟨h0, h1, h2⟩ := h.l n (by omega)
      simp only [cnt, ih.1 (by omega), bx_congr h0 h1 h2]
    · obtain ⟨h0, h1, h2⟩ := h.r n (by omega)
      rw [show n1 + (n + 1) = (n1 + n) + 1 by omega]
      simp only [cnt, ih.2 (by omega), bx_congr h0 h1 h2]
      split <;> omega
theorem cst_right {A B D : Nat → Nat → Int} {n1 n2 : Nat} (h : Cat A B D n1 n2) (hp : 0 < n1) : ∀ j, j < n2 → (cst D (n1 + (j + 1))).l0 = minI (cst A n1).l0 (cst B (j + 1)).l0 ∧ (cst D (n1 + (j + 1))).l1 = minI (cst A n1).l1 (cst B (j + 1)).l1 ∧
    (cst D (n1 + (j + 1))).l2 = minI (cst A n1).l2 (cst B (j + 1)).l2 ∧ (cst D (n1 + (j + 1))).m0 = maxI (cst A n1).m0 (cst B (j + 1)).m0 ∧ (cst D (n1 + (j + 1))).m1 = maxI (cst A n1).m1 (cst B (j + 1)).m1 ∧ (cst D (n1 + (j + 1))).m2 = maxI (cst A n1).m2 (cst B (j + 1)).m2 ∧
    (cst D (n1 + (j + 1))).s0 = IntKind.i64.wrap ((cst A n1).s0 + (cst B (j + 1)).s0) ∧ (cst D (n1 + (j + 1))).s1 = IntKind.i64.wrap ((cst A n1).s1 + (cst B (j + 1)).s1) ∧ (cst D (n1 + (j + 1))).s2 = IntKind.i64.wrap ((cst A n1).s2 + (cst B (j + 1)).s2)
  | 0, hj => by
    obtain ⟨h0, h1, h2⟩ := h.r 0 hj
    rw [show n1 + (0 + 1) = n1 + 1 by omega, cst_s, cst_left h hp n1 (Nat.le_refl _)]
    rw [Nat.add_zero] at h0 h1 h2
    simp only [cst, h0, h1, h2, minI_self, maxI_self, true_and, Int.zero_add]
    simp only [IntKind.wrap_i64]
    refine ⟨?_, ?_, ?_⟩ <;> omega
  | j + 1, hj => by
    obtain ⟨h0, h1, h2⟩ := h.r (j + 1) hj
    obtain ⟨q0, q1, q2, q3, q4, q5, q6, q7, q8⟩ := cst_right h hp j (by omega)
    rw [show n1 + (j + 1 + 1) = (n1 + (j + 1)) + 1 by omega, cst_s, cst_s (i := j + 1)]
    simp only [q0, q1, q2, q3, q4, q5, q6, q7, q8, h0, h1, h2, minI_assoc, maxI_assoc, wrap_wrap, and_self]
theorem cst_cat {A B D : Nat → Nat → Int} {n1 n2 : Nat} (h : Cat A B D n1 n2) (hp : 0 < n1) (hp2 : 0 < n2) (hn : n1 + n2 ≤ 1048576) : cst D (n1 + n2) = cadd (cst A n1) (cst B n2) := by
  obtain ⟨j, rfl⟩ : ∃ j, n2 = j + 1 := ⟨n2 - 1, by omega⟩
  obtain ⟨q0, q1, q2, q3, q4, q5, q6, q7, q8⟩ := cst_right h hp j (by omega)
  have qb : (cst D (n1 + (j + 1))).b = fun k => IntKind.i64.wrap ((cst A n1).b k + (cst B (j + 1)).b k) := by
    rw [bins_cnt _ hn, bins_cnt _ (by omega), bins_cnt _ (by omega)]
    funext k
    have h1 := (cnt_cat h k (j + 1)).2 (Nat.le_refl _)
    have h2 := (cnt_cat h k n1).1 (Nat.le_refl _)
    have h3 := cnt_le (A := A) (k := k) n1
    have h4 := cnt_le (A := B) (k := k) (j + 1)
    rw [IntKind.wrap_i64]; simp only; omega
  generalize cst D (n1 + (j + 1)) = e at *
  obtain ⟨a0, a1, a2, a3, a4, a5, a6, a7, a8, a9⟩ := e
  simp only at q0 q1 q2 q3 q4 q5 q6 q7 q8 qb
  simp only [cadd, q0, q1, q2, q3, q4, q5, q6, q7, q8, qb]
end Go.Proofs.Ythokogkeahcepaa
