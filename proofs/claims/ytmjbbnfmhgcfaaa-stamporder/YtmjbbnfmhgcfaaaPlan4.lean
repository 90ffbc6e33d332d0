/- Walks and facts of this seat's program over abstract states, printed by a program of mine; no conditions but those that each theorem names. -/
import Derived.Test.YtmjbbnfmhgcfaaaPlan3
set_option linter.unusedSimpArgs false
set_option linter.unusedVariables false
set_option maxRecDepth 100000
set_option maxHeartbeats 4000000
namespace Go.Proofs.Ytmjbbnfmhgcfaaa
open Go Go.Eng

-- left out: rorder_c
end Go.Proofs.Ytmjbbnfmhgcfaaa
