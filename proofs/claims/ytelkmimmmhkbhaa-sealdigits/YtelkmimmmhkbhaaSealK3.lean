/- Walks and facts of this seat's program over abstract states, printed by a program of mine; no conditions but those that each theorem names. -/
import Derived.Test.YtelkmimmmhkbhaaSealU
set_option linter.unusedSimpArgs false
set_option linter.unusedVariables false
set_option maxRecDepth 100000
set_option maxHeartbeats 4000000
namespace Go.Proofs.Ytelkmimmmhkbhaa
open Go Go.Eng

theorem cub_32 : cubeI 137 = 666307205 := by decide +kernel
theorem cub_33 : cubeI 139 = 773529912 := by decide +kernel
theorem cub_34 : cubeI 149 = 1294757372 := by decide +kernel
theorem cub_35 : cubeI 151 = 1396182291 := by decide +kernel
theorem cub_36 : cubeI 157 = 1695183700 := by decide +kernel
theorem cub_37 : cubeI 163 = 1986661051 := by decide +kernel
theorem cub_38 : cubeI 167 = 2177026350 := by decide +kernel
theorem cub_39 : cubeI 173 = 2456956037 := by decide +kernel
theorem cub_40 : cubeI 179 = 2730485921 := by decide +kernel
theorem cub_41 : cubeI 181 = 2820302411 := by decide +kernel
theorem cub_42 : cubeI 191 = 3259730800 := by decide +kernel
theorem cub_43 : cubeI 193 = 3345764771 := by decide +kernel
theorem cub_44 : cubeI 197 = 3516065817 := by decide +kernel
theorem cub_45 : cubeI 199 = 3600352804 := by decide +kernel
theorem cub_46 : cubeI 211 = 4094571909 := by decide +kernel
theorem cub_47 : cubeI 223 = 275423344 := by decide +kernel
end Go.Proofs.Ytelkmimmmhkbhaa
