/-
  ENGINE, PART I: the rewriting rules by which an abstract walk is reckoned.
-/
import Derived.Test.YtmjbbnfmhgcfaaaEngH
set_option linter.unusedVariables false
set_option linter.unusedSimpArgs false
namespace Go.Eng
open Go

theorem lk_app {α : Type} (m l : List α) (k : Nat) : (m ++ l)[m.length + k]? = l[k]? := by
  rw [List.getElem?_append_right (by omega)]; congr 1; omega
theorem lk_app0 {α : Type} (m l : List α) : (m ++ l)[m.length]? = l[0]? := by
  rw [List.getElem?_append_right (by omega)]; congr 1; omega
theorem set_app {α : Type} (m l : List α) (k : Nat) (b : α) : (m ++ l).set (m.length + k) b = m ++ l.set k b := by
  rw [List.set_append_right _ _ (by omega)]; congr 2; omega
theorem set_app0 {α : Type} (m l : List α) (b : α) : (m ++ l).set m.length b = m ++ l.set 0 b := by
  rw [List.set_append_right _ _ (by omega)]; congr 2; omega
theorem lk_old {α : Type} {m : List α} {r : Nat} {b : α} (h : m[r]? = some b) (l : List α) : (m ++ l)[r]? = some b := by
  rw [List.getElem?_append_left (List.getElem?_eq_some_iff.1 h).1]; exact h

/-- An 'if' that is decided: the two ways of a guarded operation. -/
theorem Tm.get_cons (j : Nat) (v : AV) (r : List (Nat × AV)) (i : Nat) : Tm.get ((j, v) :: r) i = if i = j then v else Tm.get r i := rfl

end Go.Eng
