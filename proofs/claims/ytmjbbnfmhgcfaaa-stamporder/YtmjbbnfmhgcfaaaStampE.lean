/- Walks and facts of this seat's program over abstract states, printed by a program of mine; no conditions but those that each theorem names. -/
import Derived.Test.YtmjbbnfmhgcfaaaStampD
import Derived.Test.YtmjbbnfmhgcfaaaPlan6
set_option linter.unusedSimpArgs false
set_option linter.unusedVariables false
set_option maxRecDepth 100000
set_option maxHeartbeats 4000000
namespace Go.Proofs.Ytmjbbnfmhgcfaaa
open Go Go.Eng

theorem nl_il (xs : List Nat) : nl xs = il xs.length (oF xs) := by
  refine il_of (nl_len xs) fun i hi => ?_
  simp only [nl, List.getElem?_map, List.getElem?_eq_getElem hi, Option.map_some, oF, List.getD_eq_getElem?_getD, Option.getD_some]
def J1 : List Int := 1 :: List.replicate 31 0
theorem j1_ok : U8ok J1 := fun x hx => by
  rcases List.mem_cons.1 hx with rfl | hx
  · omega
  · obtain ⟨_, rfl⟩ := List.mem_replicate.1 hx; omega
theorem awake_c (m : AMem) : Ctr Try.prog 11 [] m (.one (.bool true)) m := by
  refine Ctr.enter Try.func11 rfl (by decide) (rs := [.tmp 0]) (nt := 19) rfl rfl fun hwf Q hQ => ?_
  have hJ : [.int .u8 1, .int .u8 0, .int .u8 0, .int .u8 0, .int .u8 0, .int .u8 0, .int .u8 0, .int .u8 0, .int .u8 0, .int .u8 0, .int .u8 0, .int .u8 0, .int .u8 0, .int .u8 0, .int .u8 0, .int .u8 0, .int .u8 0, .int .u8 0, .int .u8 0, .int .u8 0, .int .u8 0, .int .u8 0, .int .u8 0, .int .u8 0, .int .u8 0, .int .u8 0, .int .u8 0, .int .u8 0, .int .u8 0, .int .u8 0, .int .u8 0, .int .u8 0] = u8l J1 := rfl
  have hG : rwG 2 = [⟨.grow, 3, 0, 1, nl (ndL 1)⟩, ⟨.grow, 3, 0, 1, nl (ndL 2)⟩, ⟨.grow, 3, 0, 1, nl (ndL 3)⟩, ⟨.grow, 3, 0, 1, nl (ndL 5)⟩, ⟨.grow, 3, 0, 1, nl (ndL 6)⟩, ⟨.grow, 3, 0, 1, nl (ndL 7)⟩] := rfl
  have h5 := wR_cell J1 (m.length + 2) 8 5 34 (by decide) (by decide)
  have h5b : (wC J1 (m.length + 2) 5)[34]? = some (.sl (m.length + 5) 0 0 3) := by
    have hl : (u8l (ky J1 5)).length = 32 := by rw [u8l_len, ky_len]
    simp only [wC, List.getElem?_cons_succ]
    rw [List.getElem?_append_right (by omega), hl]; rfl
  rw [h5b] at h5
  simp only [push_cast, simprocAttr] at h5
  refine AW.seq_k fun K hK => ?_
  refine AW.region (by decide) ?_
  simp only [push_cast, simprocAttr, hJ, hG, h5]
  refine Thn_n ?_
  refine hK _ _ ?_
  clear hK K
  refine AW.seq_k fun K hK => ?_
  refine AW.region (by decide) ?_
  simp only [push_cast, simprocAttr, hJ, hG, h5]
  refine CThen.by (works_c J1 2 2 _ rfl j1_ok (by decide) (by decide)) ?_
  simp only [push_cast, simprocAttr, hJ, hG, h5]
  refine Thn_n ?_
  refine hK _ _ ?_
  clear hK K
  refine AW.seq_k fun K hK => ?_
  refine AW.region (by decide) ?_
  simp only [push_cast, simprocAttr, hJ, hG, h5]
  refine CThen.by (same_c (m.length + 5) 0 (m.length + 8) 0 3 (oF [4, 0, 1]) _ ⟨⟨.grow, 1, by simp only [push_cast, simprocAttr]; rfl⟩⟩ ⟨⟨.grow, 1, by simp only [push_cast, simprocAttr]; rfl⟩⟩ (by decide)) ?_
  simp only [push_cast, simprocAttr, hJ, hG, h5]
  refine CThen.by (at_c 1 1 _ (by decide) (by decide)) ?_
  simp only [push_cast, simprocAttr, hJ, hG, h5]
  refine Thn_n ?_
  refine hK _ _ ?_
  clear hK K
  refine AW.ret ?_
  refine hQ _ _ _ ?_
  first | refine RetP.drop0 (Or.inr rfl) ?_ ?_ hwf | refine RetP.drop (Or.inr rfl) ?_ ?_ hwf
  · simp only [resA, resOne, resTv, AV.tv, push_cast, simprocAttr, hJ, hG, h5]
  · rfl
end Go.Proofs.Ytmjbbnfmhgcfaaa
