/- Walks and facts of this seat's program over abstract states, printed by a program of mine; no conditions but those that each theorem names. -/
import Derived.Test.YtgbehbaecdepjaaFc
import Derived.Test.YtgbehbaecdepjaaEngV
set_option linter.unusedSimpArgs false
set_option linter.unusedVariables false
set_option maxRecDepth 100000
set_option maxHeartbeats 4000000
namespace Go.Proofs.Ytgbehbaecdepjaa
open Go Go.Eng

def pls_awake_c : Nat → Nat → List Plan := fun f r =>
  match f with
  | 11 => match r with
    | 1 => [.val, .rd 0, .ext, .val, .val, .rd 1, .val, .val, .rd 1, .ext, .val, .val, .val]
    | _ => []
  | _ => []

theorem awake_c (m : AMem) : Ctr Try.prog 7 [] m (.one (.bool true)) m :=
  Ctr.run pls_awake_c 200 60 fol (by kernel_rfl) (by simp) rfl m
end Go.Proofs.Ytgbehbaecdepjaa
