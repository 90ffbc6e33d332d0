/- Walks and facts of this seat's program over abstract states, printed by a program of mine; no conditions but those that each theorem names. -/
import Derived.Test.YtmjbbnfmhgcfaaaSeal1
set_option linter.unusedSimpArgs false
set_option linter.unusedVariables false
set_option maxRecDepth 100000
set_option maxHeartbeats 4000000
namespace Go.Proofs.Ytmjbbnfmhgcfaaa
open Go Go.Eng

def KW : List Int := [1116352408, 1899447441, 3049323471, 3921009573, 961987163, 1508970993, 2453635748, 2870763221, 3624381080, 310598401, 607225278, 1426881987, 1925078388, 2162078206, 2614888103, 3248222580, 3835390401, 4022224774, 264347078, 604807628, 770255983, 1249150122, 1555081692, 1996064986, 2554220882, 2821834349, 2952996808, 3210313671, 3336571891, 3584528711, 113926993, 338241895, 666307205, 773529912, 1294757372, 1396182291, 1695183700, 1986661051, 2177026350, 2456956037, 2730485921, 2820302411, 3259730800, 3345764771, 3516065817, 3600352804, 4094571909, 275423344, 430227734, 506948616, 659060556, 883997877, 958139571, 1322822218, 1537002063, 1747873779, 1955562222, 2024104815, 2227730452, 2361852424, 2428436474, 2756734187, 3204031479, 3329325298]
def IV : S8 := ⟨1779033703, 3144134277, 1013904242, 2773480762, 1359893119, 2600822924, 528734635, 1541459225⟩
def pS (m : AMem) (rp : Nat) (S : S8) (b : CV) (n : Int) : AMem := m.set rp ⟨.fix, 74, 0, 0, [.int .u32 (S).a, .int .u32 (S).b, .int .u32 (S).c, .int .u32 (S).d, .int .u32 (S).e, .int .u32 (S).f, .int .u32 (S).g, .int .u32 (S).h, b, .int .u64 n]⟩
theorem pS_len (m : AMem) (rp : Nat) (S : S8) (b : CV) (n : Int) : (pS m rp S b n).length = m.length := List.length_set
theorem pS_wf {L : Nat} {m : AMem} (rp : Nat) (S : S8) {b : CV} (n : Int) (hb : b.below L = true) (h : MWf L m) : MWf L (pS m rp S b n) := fun x hx => by
  rcases List.mem_or_eq_of_mem_set hx with h1 | rfl
  · exact h x h1
  · show List.all [.int .u32 (S).a, .int .u32 (S).b, .int .u32 (S).c, .int .u32 (S).d, .int .u32 (S).e, .int .u32 (S).f, .int .u32 (S).g, .int .u32 (S).h, b, .int .u64 n] (CV.below L) = true
    simp only [List.all_cons, List.all_nil]; rw [hb]; rfl
def fourL (n : Int) : List Int := [IntKind.u8.wrap (n.fdiv 16777216), IntKind.u8.wrap (n.fdiv 65536), IntKind.u8.wrap (n.fdiv 256), IntKind.u8.wrap n]
theorem setL_full {α : Type} : ∀ {vs l : List α}, l.length = vs.length → setL l 0 vs = vs := by
  have h : ∀ (vs l pre : List α), l.length = vs.length → setL (pre ++ l) pre.length vs = pre ++ vs := by
    intro vs
    induction vs with
    | nil => intro l pre h; cases l with
      | nil => rfl
      | cons => simp at h
    | cons v vs ih =>
      intro l pre h
      cases l with
      | nil => simp at h
      | cons x l =>
        have := ih l (pre ++ [v]) (by simpa using h)
        simp only [setL]
        rw [List.set_append_right _ _ (Nat.le_refl _), Nat.sub_self, List.set_cons_zero]
        simpa using this
  intro vs l hl
  exact h vs l [] hl
theorem wordV_or {b0 b1 b2 b3 : Int} (h0 : 0 ≤ b0 ∧ b0 ≤ 255) (h1 : 0 ≤ b1 ∧ b1 ≤ 255) (h2 : 0 ≤ b2 ∧ b2 ≤ 255) (h3 : 0 ≤ b3 ∧ b3 ≤ 255) :
    bits .or .u32 (bits .or .u32 (bits .or .u32 (b0 * 16777216) (b1 * 65536)) (b2 * 256)) b3 = b0 * 16777216 + b1 * 65536 + b2 * 256 + b3 := by
  have e1 : bits .or .u32 (b0 * 16777216) (b1 * 65536) = b0 * 16777216 + b1 * 65536 := or_add 24 b0 ⟨by omega, by omega⟩ (by omega) (by omega) h0.1 (by omega) (by decide)
  have e2 : bits .or .u32 (b0 * 16777216 + b1 * 65536) (b2 * 256) = b0 * 16777216 + b1 * 65536 + b2 * 256 := or_add 16 (b0 * 256 + b1) ⟨by omega, by omega⟩ (by omega) (by omega) (by omega) (by omega) (by decide)
  rw [e1, e2]
  exact or_add 8 (b0 * 65536 + b1 * 256 + b2) ⟨by omega, by omega⟩ (by omega) (by omega) (by omega) (by omega) (by decide)
theorem words_c (m : AMem) : Ctr Try.prog 40 [] m (.agg (ul KW)) m := by
  refine Ctr.enter Try.func40 rfl (by decide) (rs := [.cell 0 29]) (nt := 2) rfl rfl fun hwf Q hQ => ?_
  iterate 2
    refine AW.seq_k fun K hK => ?_
    refine AW.region (by decide) ?_
    simp only [push_cast, simprocAttr]
    refine Thn_n ?_
    refine hK _ _ ?_
    clear hK K
  refine AW.ret ?_
  refine hQ _ _ _ ?_
  first | refine RetP.drop0 (Or.inr rfl) ?_ ?_ hwf | refine RetP.drop (Or.inr rfl) ?_ ?_ hwf
  · simp only [resA, resOne, resTv, AV.tv, push_cast, simprocAttr, ul, KW]
  · rfl
theorem new_c (m : AMem) : Ctr Try.prog 22 [] m (.one (.ptr m.length 0 0)) (m ++ [⟨.fix, 74, 0, 0, [.int .u32 (IV).a, .int .u32 (IV).b, .int .u32 (IV).c, .int .u32 (IV).d, .int .u32 (IV).e, .int .u32 (IV).f, .int .u32 (IV).g, .int .u32 (IV).h, .nils, .int .u64 0]⟩]) := by
  refine Ctr.enter Try.func22 rfl (by decide) (rs := [.tmp 0]) (nt := 4) rfl rfl fun hwf Q hQ => ?_
  iterate 2
    refine AW.seq_k fun K hK => ?_
    refine AW.region (by decide) ?_
    simp only [push_cast, simprocAttr]
    refine Thn_n ?_
    refine hK _ _ ?_
    clear hK K
  refine AW.ret ?_
  refine hQ _ _ _ ?_
  refine RetP.pick [(m.length, 0)] (Or.inr rfl) ?_ ?_ ?_ hwf ?_
  · simp only [resA, resOne, resTv, AV.tv, push_cast, simprocAttr]
    simp [renV, renT, renL, renC, renIdx]
  · simp only [picks, push_cast, simprocAttr]; rfl
  · simp [distinctFrom]
  · exact MWf_one rfl
  
theorem four_c (n : Int) (m : AMem) : Ctr Try.prog 32 [.one (.int .u32 n)] m (.one (.sl m.length 0 0 4)) (m ++ [⟨.grow, 5, 0, 1, u8l (fourL n)⟩]) := by
  refine Ctr.enter Try.func32 rfl (by decide) (rs := [.tmp 2]) (nt := 15) rfl rfl fun hwf Q hQ => ?_
  have q1 := p2_32 (n := 24) (by decide)
  have q2 := p2_32 (n := 16) (by decide)
  have q3 := p2_32 (n := 8) (by decide)
  have q4 : (2:Int)^24 = 16777216 := by decide
  have q5 : (2:Int)^16 = 65536 := by decide
  have q6 : (2:Int)^8 = 256 := by decide
  iterate 2
    refine AW.seq_k fun K hK => ?_
    refine AW.region (by decide) ?_
    simp only [push_cast, simprocAttr, q1, q2, q3, q4, q5, q6]
    refine Thn_n ?_
    refine hK _ _ ?_
    clear hK K
  refine AW.ret ?_
  refine hQ _ _ _ ?_
  refine RetP.pick [(m.length, 0)] (Or.inr rfl) ?_ ?_ ?_ hwf ?_
  · simp only [resA, resOne, resTv, AV.tv, push_cast, simprocAttr]
    simp [renV, renT, renL, renC, renIdx]
  · simp only [picks, push_cast, simprocAttr]; rfl
  · simp [distinctFrom]
  · exact MWf_one (u8l_below _ _)
  
theorem word_c (rb v off len : Nat) (bs : List Int) (m : AMem) (hb : ∃ k ez, m[rb]? = some ⟨k, 5, v, ez, u8l bs⟩) (hl : 4 ≤ len) (hf : off + len ≤ bs.length) (hu : ∀ i, 0 ≤ byB bs i ∧ byB bs i ≤ 255) : Ctr Try.prog 41 [.one (.sl rb v off len)] m (.one (.int .u32 (wordV bs off))) m := by
  refine Ctr.enter Try.func41 rfl (by decide) (rs := [.tmp 2]) (nt := 25) rfl rfl fun hwf Q hQ => ?_
  obtain ⟨k0, ez, hb⟩ := hb
  have lb := get_lt hb
  have g0 := u8l_get (bs := bs) (i := off) (by omega)
  have u0 := hu (off)
  have x0 : IntKind.u32.wrap (byB bs (off)) = byB bs (off) := by rw [w32]; omega
  have c0 : (0 : Int) < (len : Int) := by omega
  have g1 := u8l_get (bs := bs) (i := off + 1) (by omega)
  have u1 := hu (off + 1)
  have x1 : IntKind.u32.wrap (byB bs (off + 1)) = byB bs (off + 1) := by rw [w32]; omega
  have c1 : (1 : Int) < (len : Int) := by omega
  have g2 := u8l_get (bs := bs) (i := off + 2) (by omega)
  have u2 := hu (off + 2)
  have x2 : IntKind.u32.wrap (byB bs (off + 2)) = byB bs (off + 2) := by rw [w32]; omega
  have c2 : (2 : Int) < (len : Int) := by omega
  have g3 := u8l_get (bs := bs) (i := off + 3) (by omega)
  have u3 := hu (off + 3)
  have x3 : IntKind.u32.wrap (byB bs (off + 3)) = byB bs (off + 3) := by rw [w32]; omega
  have c3 : (3 : Int) < (len : Int) := by omega
  have q1 := p2_32 (n := 24) (by decide)
  have q2 := p2_32 (n := 16) (by decide)
  have q3 := p2_32 (n := 8) (by decide)
  have q4 : (2:Int)^24 = 16777216 := by decide
  have q5 : (2:Int)^16 = 65536 := by decide
  have q6 : (2:Int)^8 = 256 := by decide
  have y0 : IntKind.u32.wrap (byB bs off * 16777216) = byB bs off * 16777216 := by rw [w32]; omega
  have y1 : IntKind.u32.wrap (byB bs (off + 1) * 65536) = byB bs (off + 1) * 65536 := by rw [w32]; omega
  have y2 : IntKind.u32.wrap (byB bs (off + 2) * 256) = byB bs (off + 2) * 256 := by rw [w32]; omega
  have hw := wordV_or u0 u1 u2 u3
  refine AW.seq_k fun K hK => ?_
  refine AW.region (by decide) ?_
  simp only [push_cast, simprocAttr, hb, lk_old hb, g0, g1, g2, g3, x0, x1, x2, x3, c0, c1, c2, c3, q1, q2, q3, q4, q5, q6, y0, y1, y2]
  refine Thn_n ?_
  refine hK _ _ ?_
  clear hK K
  refine AW.seq_k fun K hK => ?_
  refine AW.draw [.val, .val, .rd 0, .val, .val, .val, .val, .rd 0, .val, .val, .val, .val, .val, .rd 0, .val, .val, .val, .val, .val, .rd 0, .val, .val, .val] fol (by decide) (by kernel_rfl) ?_
  simp only [push_cast, simprocAttr, hb, lk_old hb, g0, g1, g2, g3, x0, x1, x2, x3, c0, c1, c2, c3, q1, q2, q3, q4, q5, q6, y0, y1, y2]
  refine Thn_n ?_
  refine hK _ _ ?_
  clear hK K
  refine AW.ret ?_
  refine hQ _ _ _ ?_
  first | refine RetP.drop0 (Or.inr rfl) ?_ ?_ hwf | refine RetP.drop (Or.inr rfl) ?_ ?_ hwf
  · simp only [resA, resOne, resTv, AV.tv, push_cast, simprocAttr, hb, lk_old hb, g0, g1, g2, g3, x0, x1, x2, x3, c0, c1, c2, c3, q1, q2, q3, q4, q5, q6, y0, y1, y2, wordV, hw]
  · rfl
end Go.Proofs.Ytmjbbnfmhgcfaaa
