/- The walks of some functions of this seat's program over abstract states, printed by a program of mine; no conditions but those that each theorem names. -/
import Derived.Test.YthokogkeahcepaatalE
set_option linter.unusedSimpArgs false
set_option linter.unusedVariables false
set_option maxRecDepth 100000
namespace Go.Proofs.Ythokogkeahcepaa
open Go Go.Eng

/-- A picture's dots, as they came in. -/
structure Row (m : AMem) (r n : Nat) (xs : List Int) : Prop where
  hb : m[r]? = some ⟨.ro, 26, 0, 3, xs.map (CV.int .u8)⟩
  hl : xs.length = n * 3
  hx : ∀ x, x ∈ xs → 0 ≤ x ∧ x ≤ 255
  hn : n ≤ 1048576
def dotAt (xs : List Int) (i k : Nat) : Int := xs.getD (i * 3 + k) 0
theorem dotAt_in {m : AMem} {r n : Nat} {xs : List Int} (h : Row m r n xs) {i k : Nat} (hi : i * 3 + k < n * 3) : (xs.map (CV.int .u8))[i * 3 + k]? = some (.int .u8 (dotAt xs i k)) ∧ 0 ≤ dotAt xs i k ∧ dotAt xs i k ≤ 255 := by
  have hlt : i * 3 + k < xs.length := by rw [h.hl]; exact hi
  have e : xs[i * 3 + k]? = some (dotAt xs i k) := by
    rw [List.getElem?_eq_getElem hlt]; simp [dotAt, List.getD_eq_getElem?_getD, List.getElem?_eq_getElem hlt]
  exact ⟨by rw [List.getElem?_map, e]; rfl, h.hx _ (List.mem_of_getElem? e)⟩
theorem Row.dots {m : AMem} {r n : Nat} {xs : List Int} (h : Row m r n xs) : Dots (xs.map (CV.int .u8)) n (dotAt xs) := by
  intro i hi
  have h0 := dotAt_in h (i := i) (k := 0) (by omega)
  have h1 := dotAt_in h (i := i) (k := 1) (by omega)
  have h2 := dotAt_in h (i := i) (k := 2) (by omega)
  exact ⟨⟨h0.1, h1.1, h2.1⟩, h0.2, h1.2, h2.2⟩
theorem Row.to {m : AMem} {r n : Nat} {xs : List Int} (h : Row m r n xs) (W H : Int) {m' : AMem} (hm : m'[r]? = some ⟨.ro, 26, 0, 3, xs.map (CV.int .u8)⟩) :
    Ctr Try.prog 8 [.agg [.int .i64 W, .int .i64 H, .sl r 0 0 n]] m' (.agg [.int .i64 W, .int .i64 H, .sl m'.length 0 0 n]) (m' ++ [⟨.grow, 26, 0, 3, xs.map (CV.int .u8)⟩]) :=
  To_c W H r n m' _ _ _ hm (by simp [h.hl]) h.hn (ints_vals xs) (ints_below xs)
theorem picR_eq {W H : Int} {n1 n2 : Nat} (h1 : picR W H n1 = true) (h2 : picR W H n2 = true) : n1 = n2 := by
  simp only [picR, Bool.and_eq_true, beq_iff_eq] at h1 h2
  omega

end Go.Proofs.Ythokogkeahcepaa
