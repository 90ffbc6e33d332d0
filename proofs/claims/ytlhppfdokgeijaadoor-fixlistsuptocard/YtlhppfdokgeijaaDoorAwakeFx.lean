/- Walks and facts of this seat's program over abstract states, printed by a program of mine; no conditions but those that each theorem names. -/
import Derived.Test.YtlhppfdokgeijaaDoorFc
import Derived.Test.YtlhppfdokgeijaaDoorEngU
set_option linter.unusedSimpArgs false
set_option linter.unusedVariables false
set_option maxRecDepth 100000
set_option maxHeartbeats 4000000
namespace Go.Proofs.YtlhppfdokgeijaaDoor
open Go Go.Eng

def pls_awake_c : Nat → Nat → List Plan := fun f r =>
  match f with
  | 62 => match r with
    | 7 => [.val, .val, .val, .val, .val, .val, .val, .val, .val, .val, .val, .val, .wr, .val, .wr]
    | 8 => [.val, .val, .val, .val, .val, .val, .val, .val, .val, .val, .val, .val, .wr, .val, .wr]
    | 9 => [.val, .val, .val, .val, .val, .val, .val, .val, .val, .val, .val, .val, .wr, .val, .wr]
    | 10 => [.val, .val, .val, .val, .val, .val, .val, .val, .val, .val, .val, .val, .wr, .val, .wr]
    | 17 => [.val, .val, .val, .val, .val, .val, .val, .val, .val, .val, .val, .val, .wr, .val, .wr]
    | 18 => [.val, .val, .val, .val, .val, .val, .val, .val, .val, .val, .val, .val, .wr, .val, .wr]
    | 23 => [.val, .val, .val, .val, .val, .val, .val, .val, .val, .val, .val, .val, .wr, .val, .wr]
    | _ => []
  | _ => []

theorem awake_c (m : AMem) : Ctr Tryd.prog 10 [] m (.one (.bool true)) m :=
  Ctr.run pls_awake_c 200 60 fol (by kernel_rfl) (by simp) rfl m
end Go.Proofs.YtlhppfdokgeijaaDoor
