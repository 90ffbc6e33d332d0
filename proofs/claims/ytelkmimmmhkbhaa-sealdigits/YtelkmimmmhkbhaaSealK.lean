/- Walks and facts of this seat's program over abstract states, printed by a program of mine; no conditions but those that each theorem names. -/
import Derived.Test.YtelkmimmmhkbhaaSealK1
import Derived.Test.YtelkmimmmhkbhaaSealK2
import Derived.Test.YtelkmimmmhkbhaaSealK3
import Derived.Test.YtelkmimmmhkbhaaSealK4
set_option linter.unusedSimpArgs false
set_option linter.unusedVariables false
set_option maxRecDepth 100000
set_option maxHeartbeats 4000000
namespace Go.Proofs.Ytelkmimmmhkbhaa
open Go Go.Eng

def PR : List Int := [2, 3, 5, 7, 11, 13, 17, 19, 23, 29, 31, 37, 41, 43, 47, 53, 59, 61, 67, 71, 73, 79, 83, 89, 97, 101, 103, 107, 109, 113, 127, 131, 137, 139, 149, 151, 157, 163, 167, 173, 179, 181, 191, 193, 197, 199, 211, 223, 227, 229, 233, 239, 241, 251, 257, 263, 269, 271, 277, 281, 283, 293, 307, 311]
theorem prL_eq : prL 310 = PR := by decide +kernel
theorem tabH : (PR.take 8).map rootI = [1779033703, 3144134277, 1013904242, 2773480762, 1359893119, 2600822924, 528734635, 1541459225] := by decide +kernel
theorem tabK : PR.map cubeI = KW := by
  simp only [PR, KW, List.map_cons, List.map_nil, cub_0, cub_1, cub_2, cub_3, cub_4, cub_5, cub_6, cub_7, cub_8, cub_9, cub_10, cub_11, cub_12, cub_13, cub_14, cub_15, cub_16, cub_17, cub_18, cub_19, cub_20, cub_21, cub_22, cub_23, cub_24, cub_25, cub_26, cub_27, cub_28, cub_29, cub_30, cub_31, cub_32, cub_33, cub_34, cub_35, cub_36, cub_37, cub_38, cub_39, cub_40, cub_41, cub_42, cub_43, cub_44, cub_45, cub_46, cub_47, cub_48, cub_49, cub_50, cub_51, cub_52, cub_53, cub_54, cub_55, cub_56, cub_57, cub_58, cub_59, cub_60, cub_61, cub_62, cub_63]
end Go.Proofs.Ytelkmimmmhkbhaa
