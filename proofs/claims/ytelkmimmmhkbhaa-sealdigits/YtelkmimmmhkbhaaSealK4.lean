/- Walks and facts of this seat's program over abstract states, printed by a program of mine; no conditions but those that each theorem names. -/
import Derived.Test.YtelkmimmmhkbhaaSealU
set_option linter.unusedSimpArgs false
set_option linter.unusedVariables false
set_option maxRecDepth 100000
set_option maxHeartbeats 4000000
namespace Go.Proofs.Ytelkmimmmhkbhaa
open Go Go.Eng

theorem cub_48 : cubeI 227 = 430227734 := by decide +kernel
theorem cub_49 : cubeI 229 = 506948616 := by decide +kernel
theorem cub_50 : cubeI 233 = 659060556 := by decide +kernel
theorem cub_51 : cubeI 239 = 883997877 := by decide +kernel
theorem cub_52 : cubeI 241 = 958139571 := by decide +kernel
theorem cub_53 : cubeI 251 = 1322822218 := by decide +kernel
theorem cub_54 : cubeI 257 = 1537002063 := by decide +kernel
theorem cub_55 : cubeI 263 = 1747873779 := by decide +kernel
theorem cub_56 : cubeI 269 = 1955562222 := by decide +kernel
theorem cub_57 : cubeI 271 = 2024104815 := by decide +kernel
theorem cub_58 : cubeI 277 = 2227730452 := by decide +kernel
theorem cub_59 : cubeI 281 = 2361852424 := by decide +kernel
theorem cub_60 : cubeI 283 = 2428436474 := by decide +kernel
theorem cub_61 : cubeI 293 = 2756734187 := by decide +kernel
theorem cub_62 : cubeI 307 = 3204031479 := by decide +kernel
theorem cub_63 : cubeI 311 = 3329325298 := by decide +kernel
end Go.Proofs.Ytelkmimmmhkbhaa
