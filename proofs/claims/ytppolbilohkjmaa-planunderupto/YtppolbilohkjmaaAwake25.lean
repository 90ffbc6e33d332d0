/- Walks and facts of this seat's program over abstract states, printed by a program of mine; no conditions but those that each theorem names. -/
import Derived.Test.YtppolbilohkjmaaFc
import Derived.Test.YtppolbilohkjmaaEngS
set_option linter.unusedSimpArgs false
set_option linter.unusedVariables false
set_option maxRecDepth 100000
set_option maxHeartbeats 4000000
namespace Go.Proofs.Ytppolbilohkjmaa
open Go Go.Eng

def pls_awake_c : Nat → Nat → List Plan := fun f r =>
  match f with
  | 11 => match r with
    | 6 => [.val, .val, .val, .rd 0, .val, .val, .val, .rd 0, .val]
    | _ => []
  | 15 => match r with
    | 11 => [.val, .val, .val, .val, .val, .rd 0, .val, .val, .val, .rd 0, .val, .val, .wr]
    | _ => []
  | _ => []

theorem awake_c (m : AMem) : Ctr Try.prog 7 [] m (.one (.bool true)) m :=
  Ctr.runS pls_awake_c 100 30 fol (by kernel_rfl) (by simp) rfl m
end Go.Proofs.Ytppolbilohkjmaa
