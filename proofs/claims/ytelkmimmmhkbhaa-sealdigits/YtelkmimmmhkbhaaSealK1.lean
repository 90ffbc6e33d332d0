/- Walks and facts of this seat's program over abstract states, printed by a program of mine; no conditions but those that each theorem names. -/
import Derived.Test.YtelkmimmmhkbhaaSealU
set_option linter.unusedSimpArgs false
set_option linter.unusedVariables false
set_option maxRecDepth 100000
set_option maxHeartbeats 4000000
namespace Go.Proofs.Ytelkmimmmhkbhaa
open Go Go.Eng

theorem cub_0 : cubeI 2 = 1116352408 := by decide +kernel
theorem cub_1 : cubeI 3 = 1899447441 := by decide +kernel
theorem cub_2 : cubeI 5 = 3049323471 := by decide +kernel
theorem cub_3 : cubeI 7 = 3921009573 := by decide +kernel
theorem cub_4 : cubeI 11 = 961987163 := by decide +kernel
theorem cub_5 : cubeI 13 = 1508970993 := by decide +kernel
theorem cub_6 : cubeI 17 = 2453635748 := by decide +kernel
theorem cub_7 : cubeI 19 = 2870763221 := by decide +kernel
theorem cub_8 : cubeI 23 = 3624381080 := by decide +kernel
theorem cub_9 : cubeI 29 = 310598401 := by decide +kernel
theorem cub_10 : cubeI 31 = 607225278 := by decide +kernel
theorem cub_11 : cubeI 37 = 1426881987 := by decide +kernel
theorem cub_12 : cubeI 41 = 1925078388 := by decide +kernel
theorem cub_13 : cubeI 43 = 2162078206 := by decide +kernel
theorem cub_14 : cubeI 47 = 2614888103 := by decide +kernel
theorem cub_15 : cubeI 53 = 3248222580 := by decide +kernel
end Go.Proofs.Ytelkmimmmhkbhaa
