/- Walks and facts of this seat's program over abstract states, printed by a program of mine; no conditions but those that each theorem names. -/
import Derived.Test.YtgkmjcpcigklpaaFc
import Derived.Test.YtgkmjcpcigklpaaEngP
set_option linter.unusedSimpArgs false
set_option linter.unusedVariables false
set_option maxRecDepth 100000
set_option maxHeartbeats 4000000
namespace Go.Proofs.Ytgkmjcpcigklpaa
open Go Go.Eng

def pls_awake32_c : Nat → Nat → List Plan := fun f r =>
  match f with
  | 27 => match r with
    | 3 => [.val, .rd 0, .val, .val, .rd 0, .val, .rd 0, .val, .rd 0, .val, .rd 0, .val, .ext, .wr]
    | 10 => [.val, .val, .val, .val, .val, .rd 0, .val, .val, .val, .val, .val, .rd 0, .val, .val, .val, .val, .wr, .val, .val, .wr]
    | _ => []
  | 28 => match r with
    | 5 => [.val, .val, .val, .val, .rd 0, .val, .rd 0, .val, .val, .val, .val, .wr]
    | _ => []
  | 37 => match r with
    | 1 => [.val, .rd 0, .ext, .val, .val, .rd 1, .val, .val, .rd 1, .ext, .val, .val, .val]
    | _ => []
  | _ => []

theorem awake32_c (m : AMem) : Ctr Try.prog 26 [] m (.one (.bool true)) m :=
  Ctr.run pls_awake32_c 100 30 fol (by kernel_rfl) (by simp) rfl m
end Go.Proofs.Ytgkmjcpcigklpaa
