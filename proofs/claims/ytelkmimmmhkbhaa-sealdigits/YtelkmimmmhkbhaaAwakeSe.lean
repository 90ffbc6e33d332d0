/- Walks and facts of this seat's program over abstract states, printed by a program of mine; no conditions but those that each theorem names. -/
import Derived.Test.YtelkmimmmhkbhaaSeal9
import Derived.Test.YtelkmimmmhkbhaaSealO
set_option linter.unusedSimpArgs false
set_option linter.unusedVariables false
set_option maxRecDepth 100000
set_option maxHeartbeats 4000000
namespace Go.Proofs.Ytelkmimmmhkbhaa
open Go Go.Eng

theorem abc_ok : U8ok [97, 98, 99] := fun x hx => by
  simp only [List.mem_cons, List.not_mem_nil, or_false] at hx
  rcases hx with rfl | rfl | rfl <;> omega
theorem abc_sum : (hexS (shaL [97, 98, 99])).toList = ({ data := #[98, 97, 55, 56, 49, 54, 98, 102, 56, 102, 48, 49, 99, 102, 101, 97, 52, 49, 52, 49, 52, 48, 100, 101, 53, 100, 97, 101, 50, 50, 50, 51, 98, 48, 48, 51, 54, 49, 97, 51, 57, 54, 49, 55, 55, 97, 57, 99, 98, 52, 49, 48, 102, 102, 54, 49, 102, 50, 48, 48, 49, 53, 97, 100] } : ByteArray).toList := by decide +kernel

theorem awake_c (m : AMem) : Ctr Try.prog 7 [] m (.one (.bool true)) m := by
  refine Ctr.enter Try.func7 rfl (by decide) (rs := [.tmp 0]) (nt := 9) rfl rfl fun hwf Q hQ => ?_
  have hab := abc_sum
  have hsl : (u8l (shaL [97, 98, 99])).length = 32 := rfl
  have hsf : setL [.int .u8 0, .int .u8 0, .int .u8 0, .int .u8 0, .int .u8 0, .int .u8 0, .int .u8 0, .int .u8 0, .int .u8 0, .int .u8 0, .int .u8 0, .int .u8 0, .int .u8 0, .int .u8 0, .int .u8 0, .int .u8 0, .int .u8 0, .int .u8 0, .int .u8 0, .int .u8 0, .int .u8 0, .int .u8 0, .int .u8 0, .int .u8 0, .int .u8 0, .int .u8 0, .int .u8 0, .int .u8 0, .int .u8 0, .int .u8 0, .int .u8 0, .int .u8 0] 0 (u8l (shaL [97, 98, 99])) = u8l (shaL [97, 98, 99]) := setL_full rfl
  have hsv := u8l_vals (shaL [97, 98, 99])
  have hsn : (shaL [97, 98, 99]).length = 32 := rfl
  refine AW.seq_k fun K hK => ?_
  refine AW.region (by decide) ?_
  simp only [push_cast, simprocAttr, hsl, hsf, hsv, hsn, u8l_len, hab]
  refine Thn_n ?_
  refine hK _ _ ?_
  clear hK K
  refine AW.seq_k fun K hK => ?_
  refine AW.region (by decide) ?_
  simp only [push_cast, simprocAttr, hsl, hsf, hsv, hsn, u8l_len, hab]
  refine CThen.by (of1_c (m.length + 1) 0 0 (.sl m.length 0 0 3) [97, 98, 99] _ .grow 1 _ (by simp only [push_cast, simprocAttr]; rfl) rfl (.all (k := .grow) (ty := 5) (ez := 0) (by simp only [push_cast, simprocAttr, u8l]) rfl) (by decide) abc_ok) ?_
  simp only [push_cast, simprocAttr, hsl, hsf, hsv, hsn, u8l_len, hab]
  refine Thn_n ?_
  refine hK _ _ ?_
  clear hK K
  refine AW.seq_k fun K hK => ?_
  refine AW.region (by decide) ?_
  simp only [push_cast, simprocAttr, hsl, hsf, hsv, hsn, u8l_len, hab]
  refine CThen.by (hex_c (m.length + 2) 0 0 (shaL [97, 98, 99]) (shaL [97, 98, 99]) _ ⟨.fix, 25, 0, by simp only [push_cast, simprocAttr]⟩ (by decide) rfl (shaL_ok _) (by rw [shaL_len]; decide) (by rw [shaL_len]; decide)) ?_
  simp only [push_cast, simprocAttr, hsl, hsf, hsv, hsn, u8l_len, hab]
  refine Thn_n ?_
  refine hK _ _ ?_
  clear hK K
  refine AW.ret ?_
  refine hQ _ _ _ ?_
  first | refine RetP.drop0 (Or.inr rfl) ?_ ?_ hwf | refine RetP.drop (Or.inr rfl) ?_ ?_ hwf
  · simp only [resA, resOne, resTv, AV.tv, push_cast, simprocAttr, hsl, hsf, hsv, hsn, u8l_len, hab]
  · rfl
end Go.Proofs.Ytelkmimmmhkbhaa
