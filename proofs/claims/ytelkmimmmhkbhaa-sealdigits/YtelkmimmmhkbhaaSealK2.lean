/- Walks and facts of this seat's program over abstract states, printed by a program of mine; no conditions but those that each theorem names. -/
import Derived.Test.YtelkmimmmhkbhaaSealU
set_option linter.unusedSimpArgs false
set_option linter.unusedVariables false
set_option maxRecDepth 100000
set_option maxHeartbeats 4000000
namespace Go.Proofs.Ytelkmimmmhkbhaa
open Go Go.Eng

theorem cub_16 : cubeI 59 = 3835390401 := by decide +kernel
theorem cub_17 : cubeI 61 = 4022224774 := by decide +kernel
theorem cub_18 : cubeI 67 = 264347078 := by decide +kernel
theorem cub_19 : cubeI 71 = 604807628 := by decide +kernel
theorem cub_20 : cubeI 73 = 770255983 := by decide +kernel
theorem cub_21 : cubeI 79 = 1249150122 := by decide +kernel
theorem cub_22 : cubeI 83 = 1555081692 := by decide +kernel
theorem cub_23 : cubeI 89 = 1996064986 := by decide +kernel
theorem cub_24 : cubeI 97 = 2554220882 := by decide +kernel
theorem cub_25 : cubeI 101 = 2821834349 := by decide +kernel
theorem cub_26 : cubeI 103 = 2952996808 := by decide +kernel
theorem cub_27 : cubeI 107 = 3210313671 := by decide +kernel
theorem cub_28 : cubeI 109 = 3336571891 := by decide +kernel
theorem cub_29 : cubeI 113 = 3584528711 := by decide +kernel
theorem cub_30 : cubeI 127 = 113926993 := by decide +kernel
theorem cub_31 : cubeI 131 = 338241895 := by decide +kernel
end Go.Proofs.Ytelkmimmmhkbhaa
