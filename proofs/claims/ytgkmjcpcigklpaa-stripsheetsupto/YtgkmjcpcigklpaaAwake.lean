/- Walks and facts of this seat's program over abstract states, printed by a program of mine; no conditions but those that each theorem names. -/
import Derived.Test.YtgkmjcpcigklpaaFc
import Derived.Test.YtgkmjcpcigklpaaEngP
set_option linter.unusedSimpArgs false
set_option linter.unusedVariables false
set_option maxRecDepth 100000
namespace Go.Proofs.Ytgkmjcpcigklpaa
open Go Go.Eng

def pls_awake_c : Nat → Nat → List Plan := fun f r =>
  match f with
  | 11 => match r with
    | 12 => [.val, .rd 0, .val, .val, .val, .rw 0, .val, .val, .ext, .fl, .wr, .wr]
    | _ => []
  | 37 => match r with
    | 1 => [.val, .rd 0, .ext, .val, .val, .rd 1, .val, .val, .rd 1, .ext, .val, .val, .val]
    | _ => []
  | 38 => match r with
    | 7 => [.val, .rd 0, .val, .val, .val, .rd 0, .val, .val, .val, .rd 0, .val, .ext, .ext, .wr, .val, .wr]
    | _ => []
  | 39 => match r with
    | 1 => [.val, .rd 0, .val, .rd 0, .val, .val, .rd 0, .val, .val, .val]
    | 2 => [.val, .rd 0, .val, .val, .val, .rd 0, .val, .rd 0, .val, .val, .rd 0, .val, .ext, .val, .val]
    | 4 => [.rd 0, .val, .val, .rd 0, .val, .rd 0, .val, .val, .rd 0, .val, .ext, .wr]
    | _ => []
  | _ => []

theorem awake_c (m : AMem) : Ctr Try.prog 9 [] m (.one (.bool true)) m :=
  Ctr.run pls_awake_c 100 30 fol (by kernel_rfl) (by simp) rfl m
end Go.Proofs.Ytgkmjcpcigklpaa
