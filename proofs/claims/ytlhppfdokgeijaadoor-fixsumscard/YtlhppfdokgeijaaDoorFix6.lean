/- Walks and facts of this seat's program over abstract states, printed by a program of mine; no conditions but those that each theorem names. -/
import Derived.Test.YtlhppfdokgeijaaDoorFix4
set_option linter.unusedSimpArgs false
set_option linter.unusedVariables false
set_option maxRecDepth 100000
set_option maxHeartbeats 4000000
namespace Go.Proofs.YtlhppfdokgeijaaDoor
open Go Go.Eng

/-- What rises with what. -/
theorem held_mono {a b : Int} (h : a ≤ b) : heldI a ≤ heldI b := by unfold heldI; (repeat' split) <;> omega
theorem held_held (a : Int) : heldI (heldI a) = heldI a := held_id (held_b a)
theorem lerp_form (a b t : Int) : lerpI a b t = heldI ((heldI a * (65536 - unitI t) + heldI b * unitI t) / 65536) := by
  unfold lerpI
  generalize heldI a = A
  generalize heldI b = B
  generalize unitI t = u
  have e : A * (65536 - u) + B * u = (B - A) * u + A * 65536 := by
    have h1 : A * (65536 - u) = A * 65536 - A * u := Int.mul_sub _ _ _
    have h2 : (B - A) * u = B * u - A * u := Int.sub_mul _ _ _
    omega
  rw [e, Int.add_mul_ediv_right _ _ (by decide), Int.add_comm]
theorem lerp_1 {x y : Int} (b t : Int) (h : x ≤ y) : lerpI x b t ≤ lerpI y b t := by
  rw [lerp_form, lerp_form]
  have hu := unit_b t
  have h1 := Int.mul_le_mul_of_nonneg_right (held_mono h) (show 0 ≤ 65536 - unitI t by omega)
  exact held_mono (Int.ediv_le_ediv (by decide) (by omega))
theorem lerp_2 {x y : Int} (b t : Int) (h : x ≤ y) : lerpI b x t ≤ lerpI b y t := by
  rw [lerp_form, lerp_form]
  have hu := unit_b t
  have h1 := Int.mul_le_mul_of_nonneg_right (held_mono h) hu.1
  exact held_mono (Int.ediv_le_ediv (by decide) (by omega))
theorem lerp_lo {x b t mn : Int} (h1 : mn ≤ x) (h2 : mn ≤ b) : heldI mn ≤ lerpI x b t := by
  rw [lerp_form]
  have hu := unit_b t
  have g1 := Int.mul_le_mul_of_nonneg_right (held_mono h1) (show 0 ≤ 65536 - unitI t by omega)
  have g2 := Int.mul_le_mul_of_nonneg_right (held_mono h2) hu.1
  have e : heldI mn * (65536 - unitI t) = heldI mn * 65536 - heldI mn * unitI t := Int.mul_sub _ _ _
  have := held_mono (Int.le_ediv_of_mul_le (a := heldI mn) (b := heldI x * (65536 - unitI t) + heldI b * unitI t) (c := 65536) (by decide) (by omega))
  rwa [held_held] at this
theorem lerp_hi {x b t mx : Int} (h1 : x ≤ mx) (h2 : b ≤ mx) : lerpI x b t ≤ heldI mx := by
  rw [lerp_form]
  have hu := unit_b t
  have g1 := Int.mul_le_mul_of_nonneg_right (held_mono h1) (show 0 ≤ 65536 - unitI t by omega)
  have g2 := Int.mul_le_mul_of_nonneg_right (held_mono h2) hu.1
  have e : heldI mx * (65536 - unitI t) = heldI mx * 65536 - heldI mx * unitI t := Int.mul_sub _ _ _
  have := held_mono (Int.ediv_le_of_le_mul (a := heldI x * (65536 - unitI t) + heldI b * unitI t) (b := heldI mx) (c := 65536) (by decide) (by omega))
  rwa [held_held] at this
theorem mul_1 {x y k : Int} (h : x ≤ y) (hk : 0 ≤ k) : mulI x k ≤ mulI y k := by
  unfold mulI
  have h0 : 0 ≤ heldI k := by have := held_mono hk; rwa [show heldI 0 = 0 from rfl] at this
  exact held_mono (Int.ediv_le_ediv (by decide) (Int.mul_le_mul_of_nonneg_right (held_mono h) h0))
theorem add_1 {x y : Int} (b : Int) (h : x ≤ y) : addI x b ≤ addI y b := by
  unfold addI; have := held_mono h; exact held_mono (by omega)
theorem min_max (a b : Int) : Eng.minI a b ≤ a ∧ Eng.minI a b ≤ b ∧ a ≤ Eng.maxI a b ∧ b ≤ Eng.maxI a b ∧ Eng.minI a b ≤ Eng.maxI a b := by
  unfold Eng.minI Eng.maxI; (repeat' split) <;> omega
end Go.Proofs.YtlhppfdokgeijaaDoor
