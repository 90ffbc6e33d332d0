/- Walks and facts of this seat's program over abstract states, printed by programs of mine; no conditions but those that each theorem names. -/
import Derived.Test.YtiogpaehelpmhaaM3
import Derived.Sort.Row
import Derived.Sort.Grow
import Derived.Lib.SlKeysI
import Derived.WideShapes
import Derived.Maps.Own
import Derived.Shelf.GgSortFunc.InsertionK
import Derived.Shelf.SlGeneric
import Derived.Shelf.SlSortCmp.WholeK
import Derived.Ground.SlsfProg
set_option linter.unusedSimpArgs false
set_option linter.unusedVariables false
set_option maxRecDepth 100000
set_option maxHeartbeats 4000000
namespace Go.Proofs.Ytiogpaehelpmhaa
open Go Go.Eng

noncomputable def rootI (a : Int) : Int := if h : 0 < heldI a then ((Classical.choose (root_of h) : Nat) : Int) else 0
theorem root_f (a : Int) (m : AMem) : Ctr Try.prog 83 [.one (.int .i64 a)] m (.one (.int .i64 (rootI a))) m := by
  unfold rootI
  by_cases h : 0 < heldI a
  · rw [dif_pos h]; exact root_c a _ m (Classical.choose_spec (root_of h))
  · rw [dif_neg h]; exact root_0 a m h
theorem rroot_f (a : Int) (m : AMem) : Ctr Try.prog 87 [.one (.int .i64 a)] m (.one (.int .i64 (rootI a))) m := by
  unfold rootI
  by_cases h : 0 < heldI a
  · rw [dif_pos h]; exact rroot_c a _ m (Classical.choose_spec (root_of h))
  · rw [dif_neg h]; exact rroot_0 a m h
theorem new_v (a0 a1 a2 : Int) (m : AMem) : Ctr Try.prog 58 [.one (.int .i64 a0), .one (.int .i64 a1), .one (.int .i64 a2)] m (.agg [.int .i64 (a0), .int .i64 (a1), .int .i64 (a2)]) m := by
  refine Ctr.enter Try.func58 rfl (by decide) (rs := [.cell 6 49]) (nt := 11) rfl rfl fun hwf Q hQ => ?_
  iterate 2
    refine AW.seq_k fun K hK => ?_
    refine AW.region (by decide) ?_
    simp only [push_cast, simprocAttr]
    refine Thn_n ?_
    refine hK _ _ ?_
    clear hK K
  refine AW.ret ?_
  refine hQ _ _ _ ?_
  first | refine RetP.drop0 (Or.inr rfl) ?_ ?_ hwf | refine RetP.drop (Or.inr rfl) ?_ ?_ hwf
  · simp only [resA, resOne, resTv, AV.tv, push_cast, simprocAttr]
  · rfl
theorem veach_c (f : Int → Int → Int) (g : Nat) (caps : List (Nat × Nat × Nat)) (a0 a1 a2 b0 b1 b2 : Int) (m : AMem) (hf : ∀ p q L, Ctr Try.prog g ([.one (.int .i64 p), .one (.int .i64 q)] ++ capsAV caps) (m ++ L) (.one (.int .i64 (f p q))) (m ++ L)) : Ctr Try.prog 71 [.agg [.int .i64 (a0), .int .i64 (a1), .int .i64 (a2)], .agg [.int .i64 (b0), .int .i64 (b1), .int .i64 (b2)], .one (.fn g caps)] m (.agg [.int .i64 (f a0 b0), .int .i64 (f a1 b1), .int .i64 (f a2 b2)]) m := by
  refine Ctr.enter Try.func71 rfl (by decide) (rs := [.cell 6 49]) (nt := 26) rfl rfl fun hwf Q hQ => ?_
  refine AW.seq_k fun K hK => ?_
  refine AW.region (by decide) ?_
  simp only [push_cast, simprocAttr, capsAV]
  refine Thn_n ?_
  refine hK _ _ ?_
  clear hK K
  refine AW.seq_k fun K hK => ?_
  refine AW.draw [.val, .val, .rd 0, .val, .rd 0, .ext, .val, .val, .rd 0, .val, .rd 0, .ext, .val, .val, .rd 0, .val, .rd 0, .ext, .val, .wr] fol (by decide) (by kernel_rfl) ?_
  iterate 3
    simp only [push_cast, simprocAttr, capsAV]
    refine DCall.by0 (hf _ _ _) ?_
  simp only [push_cast, simprocAttr, capsAV]
  refine Thn_n ?_
  refine hK _ _ ?_
  clear hK K
  refine AW.ret ?_
  refine hQ _ _ _ ?_
  first | refine RetP.drop0 (Or.inr rfl) ?_ ?_ hwf | refine RetP.drop (Or.inr rfl) ?_ ?_ hwf
  · simp only [resA, resOne, resTv, AV.tv, push_cast, simprocAttr, capsAV]
  · rfl
theorem vadd_c (a0 a1 a2 b0 b1 b2 : Int) (m : AMem) : Ctr Try.prog 75 [.agg [.int .i64 (a0), .int .i64 (a1), .int .i64 (a2)], .agg [.int .i64 (b0), .int .i64 (b1), .int .i64 (b2)]] m (.agg [.int .i64 (addI a0 b0), .int .i64 (addI a1 b1), .int .i64 (addI a2 b2)]) m := by
  refine Ctr.enter Try.func75 rfl (by decide) (rs := [.cell 4 49]) (nt := 8) rfl rfl fun hwf Q hQ => ?_
  refine AW.seq_k fun K hK => ?_
  refine AW.region (by decide) ?_
  simp only [push_cast, simprocAttr]
  refine Thn_n ?_
  refine hK _ _ ?_
  clear hK K
  refine AW.seq_k fun K hK => ?_
  refine AW.region (by decide) ?_
  simp only [push_cast, simprocAttr]
  refine CThen.by (veach_c addI 49 [] _ _ _ _ _ _ _ fun p q L => add_c p q _) ?_
  simp only [push_cast, simprocAttr]
  refine Thn_n ?_
  refine hK _ _ ?_
  clear hK K
  refine AW.ret ?_
  refine hQ _ _ _ ?_
  first | refine RetP.drop0 (Or.inr rfl) ?_ ?_ hwf | refine RetP.drop (Or.inr rfl) ?_ ?_ hwf
  · simp only [resA, resOne, resTv, AV.tv, push_cast, simprocAttr]
  · rfl
theorem vsub_c (a0 a1 a2 b0 b1 b2 : Int) (m : AMem) : Ctr Try.prog 52 [.agg [.int .i64 (a0), .int .i64 (a1), .int .i64 (a2)], .agg [.int .i64 (b0), .int .i64 (b1), .int .i64 (b2)]] m (.agg [.int .i64 (subI a0 b0), .int .i64 (subI a1 b1), .int .i64 (subI a2 b2)]) m := by
  refine Ctr.enter Try.func52 rfl (by decide) (rs := [.cell 4 49]) (nt := 8) rfl rfl fun hwf Q hQ => ?_
  refine AW.seq_k fun K hK => ?_
  refine AW.region (by decide) ?_
  simp only [push_cast, simprocAttr]
  refine Thn_n ?_
  refine hK _ _ ?_
  clear hK K
  refine AW.seq_k fun K hK => ?_
  refine AW.region (by decide) ?_
  simp only [push_cast, simprocAttr]
  refine CThen.by (veach_c subI 85 [] _ _ _ _ _ _ _ fun p q L => sub_c p q _) ?_
  simp only [push_cast, simprocAttr]
  refine Thn_n ?_
  refine hK _ _ ?_
  clear hK K
  refine AW.ret ?_
  refine hQ _ _ _ ?_
  first | refine RetP.drop0 (Or.inr rfl) ?_ ?_ hwf | refine RetP.drop (Or.inr rfl) ?_ ?_ hwf
  · simp only [resA, resOne, resTv, AV.tv, push_cast, simprocAttr]
  · rfl
theorem rvadd_c (a0 a1 a2 b0 b1 b2 : Int) (m : AMem) : Ctr Try.prog 77 [.agg [.int .i64 (a0), .int .i64 (a1), .int .i64 (a2)], .agg [.int .i64 (b0), .int .i64 (b1), .int .i64 (b2)]] m (.agg [.int .i64 (addI a0 b0), .int .i64 (addI a1 b1), .int .i64 (addI a2 b2)]) m := by
  refine Ctr.enter Try.func77 rfl (by decide) (rs := [.cell 4 24]) (nt := 21) rfl rfl fun hwf Q hQ => ?_
  iterate 2
    refine AW.seq_k fun K hK => ?_
    refine AW.region (by decide) ?_
    simp only [push_cast, simprocAttr]
    refine Thn_n ?_
    refine hK _ _ ?_
    clear hK K
  refine AW.seq_k fun K hK => ?_
  refine AW.seq_k fun K hK => ?_
  refine AW.region (by decide) ?_
  simp only [push_cast, simprocAttr]
  refine Thn_n ?_
  refine hK _ _ ?_
  clear hK K
  refine AW.block ?_
  refine AW.rounds 4 ?_
  iterate 3
    refine ARounds.succ fun K hK => ?_
    refine AW.seq_k fun K hK => ?_
    refine AW.seq_k fun K hK => ?_
    refine AW.region (by decide) ?_
    simp only [push_cast, simprocAttr]
    refine Thn_n ?_
    refine hK _ _ ?_
    clear hK K
    refine AW.cond_t rfl ?_
    refine AW.skip ?_
    refine Thn_n ?_
    refine hK _ _ ?_
    clear hK K
    refine AW.seq_k fun K hK => ?_
    refine AW.block ?_
    refine AW.draw [.val, .val, .val, .rd 0, .val, .val, .rd 0, .ext, .val, .wr] fol (by decide) (by kernel_rfl) ?_
    simp only [push_cast, simprocAttr]
    refine DCall.by0 (radd_c _ _ _) ?_
    simp only [push_cast, simprocAttr]
    refine InB_n ?_
    refine Thn_n ?_
    refine hK _ _ ?_
    clear hK K
    refine AW.region (by decide) ?_
    simp only [push_cast, simprocAttr]
    refine Thn_n ?_
    refine hK _ _ ?_
    clear hK K
  refine ARounds.succ fun K hK => ?_
  refine AW.seq_k fun K hK => ?_
  refine AW.seq_k fun K hK => ?_
  refine AW.region (by decide) ?_
  simp only [push_cast, simprocAttr]
  refine Thn_n ?_
  refine hK _ _ ?_
  clear hK K
  refine AW.cond_f rfl ?_
  refine AW.exit ?_
  refine Thn_e ?_
  clear hK K
  refine Thn_e ?_
  clear hK K
  refine InB_here ?_
  refine Thn_n ?_
  refine hK _ _ ?_
  clear hK K
  refine AW.seq_k fun K hK => ?_
  refine AW.region (by decide) ?_
  simp only [push_cast, simprocAttr]
  refine Thn_n ?_
  refine hK _ _ ?_
  clear hK K
  refine AW.ret ?_
  refine hQ _ _ _ ?_
  first | refine RetP.drop0 (Or.inr rfl) ?_ ?_ hwf | refine RetP.drop (Or.inr rfl) ?_ ?_ hwf
  · simp only [resA, resOne, resTv, AV.tv, push_cast, simprocAttr]
  · rfl
theorem rvsub_c (a0 a1 a2 b0 b1 b2 : Int) (m : AMem) : Ctr Try.prog 57 [.agg [.int .i64 (a0), .int .i64 (a1), .int .i64 (a2)], .agg [.int .i64 (b0), .int .i64 (b1), .int .i64 (b2)]] m (.agg [.int .i64 (subI a0 b0), .int .i64 (subI a1 b1), .int .i64 (subI a2 b2)]) m := by
  refine Ctr.enter Try.func57 rfl (by decide) (rs := [.cell 4 24]) (nt := 21) rfl rfl fun hwf Q hQ => ?_
  iterate 2
    refine AW.seq_k fun K hK => ?_
    refine AW.region (by decide) ?_
    simp only [push_cast, simprocAttr]
    refine Thn_n ?_
    refine hK _ _ ?_
    clear hK K
  refine AW.seq_k fun K hK => ?_
  refine AW.seq_k fun K hK => ?_
  refine AW.region (by decide) ?_
  simp only [push_cast, simprocAttr]
  refine Thn_n ?_
  refine hK _ _ ?_
  clear hK K
  refine AW.block ?_
  refine AW.rounds 4 ?_
  iterate 3
    refine ARounds.succ fun K hK => ?_
    refine AW.seq_k fun K hK => ?_
    refine AW.seq_k fun K hK => ?_
    refine AW.region (by decide) ?_
    simp only [push_cast, simprocAttr]
    refine Thn_n ?_
    refine hK _ _ ?_
    clear hK K
    refine AW.cond_t rfl ?_
    refine AW.skip ?_
    refine Thn_n ?_
    refine hK _ _ ?_
    clear hK K
    refine AW.seq_k fun K hK => ?_
    refine AW.block ?_
    refine AW.draw [.val, .val, .val, .rd 0, .val, .val, .rd 0, .ext, .val, .wr] fol (by decide) (by kernel_rfl) ?_
    simp only [push_cast, simprocAttr]
    refine DCall.by0 (rsub_c _ _ _) ?_
    simp only [push_cast, simprocAttr]
    refine InB_n ?_
    refine Thn_n ?_
    refine hK _ _ ?_
    clear hK K
    refine AW.region (by decide) ?_
    simp only [push_cast, simprocAttr]
    refine Thn_n ?_
    refine hK _ _ ?_
    clear hK K
  refine ARounds.succ fun K hK => ?_
  refine AW.seq_k fun K hK => ?_
  refine AW.seq_k fun K hK => ?_
  refine AW.region (by decide) ?_
  simp only [push_cast, simprocAttr]
  refine Thn_n ?_
  refine hK _ _ ?_
  clear hK K
  refine AW.cond_f rfl ?_
  refine AW.exit ?_
  refine Thn_e ?_
  clear hK K
  refine Thn_e ?_
  clear hK K
  refine InB_here ?_
  refine Thn_n ?_
  refine hK _ _ ?_
  clear hK K
  refine AW.seq_k fun K hK => ?_
  refine AW.region (by decide) ?_
  simp only [push_cast, simprocAttr]
  refine Thn_n ?_
  refine hK _ _ ?_
  clear hK K
  refine AW.ret ?_
  refine hQ _ _ _ ?_
  first | refine RetP.drop0 (Or.inr rfl) ?_ ?_ hwf | refine RetP.drop (Or.inr rfl) ?_ ?_ hwf
  · simp only [resA, resOne, resTv, AV.tv, push_cast, simprocAttr]
  · rfl
theorem vneg_c (a0 a1 a2 : Int) (m : AMem) : Ctr Try.prog 45 [.agg [.int .i64 (a0), .int .i64 (a1), .int .i64 (a2)]] m (.agg [.int .i64 (subI 0 a0), .int .i64 (subI 0 a1), .int .i64 (subI 0 a2)]) m := by
  refine Ctr.enter Try.func45 rfl (by decide) (rs := [.cell 2 49]) (nt := 6) rfl rfl fun hwf Q hQ => ?_
  refine AW.seq_k fun K hK => ?_
  refine AW.region (by decide) ?_
  simp only [push_cast, simprocAttr]
  refine Thn_n ?_
  refine hK _ _ ?_
  clear hK K
  refine AW.seq_k fun K hK => ?_
  refine AW.region (by decide) ?_
  simp only [push_cast, simprocAttr]
  refine CThen.by (vsub_c _ _ _ _ _ _ _) ?_
  simp only [push_cast, simprocAttr]
  refine Thn_n ?_
  refine hK _ _ ?_
  clear hK K
  refine AW.ret ?_
  refine hQ _ _ _ ?_
  first | refine RetP.drop0 (Or.inr rfl) ?_ ?_ hwf | refine RetP.drop (Or.inr rfl) ?_ ?_ hwf
  · simp only [resA, resOne, resTv, AV.tv, push_cast, simprocAttr]
  · rfl
theorem vscale_c (a0 a1 a2 s : Int) (m : AMem) : Ctr Try.prog 44 [.agg [.int .i64 (a0), .int .i64 (a1), .int .i64 (a2)], .one (.int .i64 s)] m (.agg [.int .i64 (mulI a0 s), .int .i64 (mulI a1 s), .int .i64 (mulI a2 s)]) m := by
  refine Ctr.enter Try.func44 rfl (by decide) (rs := [.cell 4 49]) (nt := 18) rfl rfl fun hwf Q hQ => ?_
  refine AW.seq_k fun K hK => ?_
  refine AW.region (by decide) ?_
  simp only [push_cast, simprocAttr]
  refine Thn_n ?_
  refine hK _ _ ?_
  clear hK K
  refine AW.seq_k fun K hK => ?_
  refine AW.draw [.val, .rd 0, .val, .ext, .val, .rd 0, .val, .ext, .val, .rd 0, .val, .ext, .val, .wr] fol (by decide) (by kernel_rfl) ?_
  iterate 3
    simp only [push_cast, simprocAttr]
    refine DCall.by0 (mul_c _ _ _) ?_
  simp only [push_cast, simprocAttr]
  refine Thn_n ?_
  refine hK _ _ ?_
  clear hK K
  refine AW.ret ?_
  refine hQ _ _ _ ?_
  first | refine RetP.drop0 (Or.inr rfl) ?_ ?_ hwf | refine RetP.drop (Or.inr rfl) ?_ ?_ hwf
  · simp only [resA, resOne, resTv, AV.tv, push_cast, simprocAttr]
  · rfl
theorem rvscale_c (a0 a1 a2 s : Int) (m : AMem) : Ctr Try.prog 70 [.agg [.int .i64 (a0), .int .i64 (a1), .int .i64 (a2)], .one (.int .i64 s)] m (.agg [.int .i64 (mulI a0 s), .int .i64 (mulI a1 s), .int .i64 (mulI a2 s)]) m := by
  refine Ctr.enter Try.func70 rfl (by decide) (rs := [.cell 4 24]) (nt := 19) rfl rfl fun hwf Q hQ => ?_
  iterate 2
    refine AW.seq_k fun K hK => ?_
    refine AW.region (by decide) ?_
    simp only [push_cast, simprocAttr]
    refine Thn_n ?_
    refine hK _ _ ?_
    clear hK K
  refine AW.seq_k fun K hK => ?_
  refine AW.seq_k fun K hK => ?_
  refine AW.region (by decide) ?_
  simp only [push_cast, simprocAttr]
  refine Thn_n ?_
  refine hK _ _ ?_
  clear hK K
  refine AW.block ?_
  refine AW.rounds 4 ?_
  iterate 3
    refine ARounds.succ fun K hK => ?_
    refine AW.seq_k fun K hK => ?_
    refine AW.seq_k fun K hK => ?_
    refine AW.region (by decide) ?_
    simp only [push_cast, simprocAttr]
    refine Thn_n ?_
    refine hK _ _ ?_
    clear hK K
    refine AW.cond_t rfl ?_
    refine AW.skip ?_
    refine Thn_n ?_
    refine hK _ _ ?_
    clear hK K
    refine AW.seq_k fun K hK => ?_
    refine AW.block ?_
    refine AW.region (by decide) ?_
    simp only [push_cast, simprocAttr]
    refine CThen.by (rmul_c _ _ _) ?_
    simp only [push_cast, simprocAttr]
    refine InB_n ?_
    refine Thn_n ?_
    refine hK _ _ ?_
    clear hK K
    refine AW.region (by decide) ?_
    simp only [push_cast, simprocAttr]
    refine Thn_n ?_
    refine hK _ _ ?_
    clear hK K
  refine ARounds.succ fun K hK => ?_
  refine AW.seq_k fun K hK => ?_
  refine AW.seq_k fun K hK => ?_
  refine AW.region (by decide) ?_
  simp only [push_cast, simprocAttr]
  refine Thn_n ?_
  refine hK _ _ ?_
  clear hK K
  refine AW.cond_f rfl ?_
  refine AW.exit ?_
  refine Thn_e ?_
  clear hK K
  refine Thn_e ?_
  clear hK K
  refine InB_here ?_
  refine Thn_n ?_
  refine hK _ _ ?_
  clear hK K
  refine AW.seq_k fun K hK => ?_
  refine AW.region (by decide) ?_
  simp only [push_cast, simprocAttr]
  refine Thn_n ?_
  refine hK _ _ ?_
  clear hK K
  refine AW.ret ?_
  refine hQ _ _ _ ?_
  first | refine RetP.drop0 (Or.inr rfl) ?_ ?_ hwf | refine RetP.drop (Or.inr rfl) ?_ ?_ hwf
  · simp only [resA, resOne, resTv, AV.tv, push_cast, simprocAttr]
  · rfl
theorem mix1_c (x y t : Int) (r : Nat) (m : AMem) (h : m[r]? = some ⟨.fix, 47, 0, 0, [.int .i64 t]⟩) : Ctr Try.prog 72 [.one (.int .i64 x), .one (.int .i64 y), .one (.ptr r 0 0)] m (.one (.int .i64 (lerpI x y t))) m := by
  refine Ctr.enter Try.func72 rfl (by decide) (rs := [.tmp 5]) (nt := 10) rfl rfl fun hwf Q hQ => ?_
  refine AW.seq_k fun K hK => ?_
  refine AW.region (by decide) ?_
  simp only [push_cast, simprocAttr, h, lk_old h]
  refine Thn_n ?_
  refine hK _ _ ?_
  clear hK K
  refine AW.seq_k fun K hK => ?_
  refine AW.region (by decide) ?_
  simp only [push_cast, simprocAttr, h, lk_old h]
  refine CThen.by (lerp_c _ _ _ _) ?_
  simp only [push_cast, simprocAttr, h, lk_old h]
  refine Thn_n ?_
  refine hK _ _ ?_
  clear hK K
  refine AW.ret ?_
  refine hQ _ _ _ ?_
  first | refine RetP.drop0 (Or.inr rfl) ?_ ?_ hwf | refine RetP.drop (Or.inr rfl) ?_ ?_ hwf
  · simp only [resA, resOne, resTv, AV.tv, push_cast, simprocAttr, h, lk_old h]
  · rfl
theorem vmix_c (a0 a1 a2 b0 b1 b2 t : Int) (m : AMem) : Ctr Try.prog 38 [.agg [.int .i64 (a0), .int .i64 (a1), .int .i64 (a2)], .agg [.int .i64 (b0), .int .i64 (b1), .int .i64 (b2)], .one (.int .i64 t)] m (.agg [.int .i64 (lerpI a0 b0 t), .int .i64 (lerpI a1 b1 t), .int .i64 (lerpI a2 b2 t)]) m := by
  refine Ctr.enter Try.func38 rfl (by decide) (rs := [.cell 6 49]) (nt := 11) rfl rfl fun hwf Q hQ => ?_
  refine AW.seq_k fun K hK => ?_
  refine AW.region (by decide) ?_
  simp only [push_cast, simprocAttr]
  refine Thn_n ?_
  refine hK _ _ ?_
  clear hK K
  refine AW.seq_k fun K hK => ?_
  refine AW.region (by decide) ?_
  simp only [push_cast, simprocAttr]
  refine CThen.by (veach_c (fun x y => lerpI x y t) 72 [(m.length + 2, 0, 0)] _ _ _ _ _ _ _ fun p q L => mix1_c p q t (m.length + 2) _ (by simp only [List.append_assoc, List.cons_append, List.nil_append, push_cast, simprocAttr])) ?_
  simp only [push_cast, simprocAttr]
  refine Thn_n ?_
  refine hK _ _ ?_
  clear hK K
  refine AW.ret ?_
  refine hQ _ _ _ ?_
  first | refine RetP.drop0 (Or.inr rfl) ?_ ?_ hwf | refine RetP.drop (Or.inr rfl) ?_ ?_ hwf
  · simp only [resA, resOne, resTv, AV.tv, push_cast, simprocAttr]
  · rfl
theorem rvmix_c (a0 a1 a2 b0 b1 b2 t : Int) (m : AMem) : Ctr Try.prog 40 [.agg [.int .i64 (a0), .int .i64 (a1), .int .i64 (a2)], .agg [.int .i64 (b0), .int .i64 (b1), .int .i64 (b2)], .one (.int .i64 t)] m (.agg [.int .i64 (lerpI a0 b0 t), .int .i64 (lerpI a1 b1 t), .int .i64 (lerpI a2 b2 t)]) m := by
  refine Ctr.enter Try.func40 rfl (by decide) (rs := [.cell 6 24]) (nt := 24) rfl rfl fun hwf Q hQ => ?_
  iterate 2
    refine AW.seq_k fun K hK => ?_
    refine AW.region (by decide) ?_
    simp only [push_cast, simprocAttr]
    refine Thn_n ?_
    refine hK _ _ ?_
    clear hK K
  refine AW.seq_k fun K hK => ?_
  refine AW.seq_k fun K hK => ?_
  refine AW.region (by decide) ?_
  simp only [push_cast, simprocAttr]
  refine Thn_n ?_
  refine hK _ _ ?_
  clear hK K
  refine AW.block ?_
  refine AW.rounds 4 ?_
  iterate 3
    refine ARounds.succ fun K hK => ?_
    refine AW.seq_k fun K hK => ?_
    refine AW.seq_k fun K hK => ?_
    refine AW.region (by decide) ?_
    simp only [push_cast, simprocAttr]
    refine Thn_n ?_
    refine hK _ _ ?_
    clear hK K
    refine AW.cond_t rfl ?_
    refine AW.skip ?_
    refine Thn_n ?_
    refine hK _ _ ?_
    clear hK K
    refine AW.seq_k fun K hK => ?_
    refine AW.block ?_
    refine AW.draw [.val, .val, .val, .rd 0, .val, .val, .rd 0, .val, .ext, .val, .wr] fol (by decide) (by kernel_rfl) ?_
    simp only [push_cast, simprocAttr]
    refine DCall.by0 (rlerp_c _ _ _ _) ?_
    simp only [push_cast, simprocAttr]
    refine InB_n ?_
    refine Thn_n ?_
    refine hK _ _ ?_
    clear hK K
    refine AW.region (by decide) ?_
    simp only [push_cast, simprocAttr]
    refine Thn_n ?_
    refine hK _ _ ?_
    clear hK K
  refine ARounds.succ fun K hK => ?_
  refine AW.seq_k fun K hK => ?_
  refine AW.seq_k fun K hK => ?_
  refine AW.region (by decide) ?_
  simp only [push_cast, simprocAttr]
  refine Thn_n ?_
  refine hK _ _ ?_
  clear hK K
  refine AW.cond_f rfl ?_
  refine AW.exit ?_
  refine Thn_e ?_
  clear hK K
  refine Thn_e ?_
  clear hK K
  refine InB_here ?_
  refine Thn_n ?_
  refine hK _ _ ?_
  clear hK K
  refine AW.seq_k fun K hK => ?_
  refine AW.region (by decide) ?_
  simp only [push_cast, simprocAttr]
  refine Thn_n ?_
  refine hK _ _ ?_
  clear hK K
  refine AW.ret ?_
  refine hQ _ _ _ ?_
  first | refine RetP.drop0 (Or.inr rfl) ?_ ?_ hwf | refine RetP.drop (Or.inr rfl) ?_ ?_ hwf
  · simp only [resA, resOne, resTv, AV.tv, push_cast, simprocAttr]
  · rfl
def dotI (a0 a1 a2 b0 b1 b2 : Int) : Int := addI (addI (addI 0 (mulI a0 b0)) (mulI a1 b1)) (mulI a2 b2)
theorem sum3_c (r v : Nat) (a b c : Int) (m : AMem) (hb : ∃ k ez, m[r]? = some ⟨k, 47, v, ez, [.int .i64 a, .int .i64 b, .int .i64 c]⟩) : Ctr Try.prog 108 [.one (.sl r v 0 3)] m (.one (.int .i64 (addI (addI (addI 0 a) b) c))) m := by
  refine Ctr.enter Try.func108 rfl (by decide) (rs := [.tmp 2]) (nt := 17) rfl rfl fun hwf Q hQ => ?_
  obtain ⟨k0, ez, hb⟩ := hb
  have hr := get_lt hb
  iterate 2
    refine AW.seq_k fun K hK => ?_
    refine AW.region (by decide) ?_
    simp only [push_cast, simprocAttr, hb, lk_old hb]
    refine Thn_n ?_
    refine hK _ _ ?_
    clear hK K
  refine AW.seq_k fun K hK => ?_
  refine AW.seq_k fun K hK => ?_
  refine AW.region (by decide) ?_
  simp only [push_cast, simprocAttr, hb, lk_old hb]
  refine Thn_n ?_
  refine hK _ _ ?_
  clear hK K
  refine AW.block ?_
  refine AW.rounds 4 ?_
  iterate 3
    refine ARounds.succ fun K hK => ?_
    refine AW.seq_k fun K hK => ?_
    refine AW.region (by decide) ?_
    simp only [push_cast, simprocAttr, hb, lk_old hb]
    refine Thn_n ?_
    refine hK _ _ ?_
    clear hK K
    refine AW.seq_k fun K hK => ?_
    refine AW.cond_t rfl ?_
    refine AW.skip ?_
    refine Thn_n ?_
    refine hK _ _ ?_
    clear hK K
    refine AW.seq_k fun K hK => ?_
    refine AW.block ?_
    refine AW.seq_k fun K hK => ?_
    refine AW.region (by decide) ?_
    simp only [push_cast, simprocAttr, hb, lk_old hb]
    refine Thn_n ?_
    refine hK _ _ ?_
    clear hK K
    refine AW.region (by decide) ?_
    simp only [push_cast, simprocAttr, hb, lk_old hb]
    refine CThen.by (add_c _ _ _) ?_
    simp only [push_cast, simprocAttr, hb, lk_old hb]
    refine InB_n ?_
    refine Thn_n ?_
    refine hK _ _ ?_
    clear hK K
    refine AW.region (by decide) ?_
    simp only [push_cast, simprocAttr, hb, lk_old hb]
    refine Thn_n ?_
    refine hK _ _ ?_
    clear hK K
  refine ARounds.succ fun K hK => ?_
  refine AW.seq_k fun K hK => ?_
  refine AW.region (by decide) ?_
  simp only [push_cast, simprocAttr, hb, lk_old hb]
  refine Thn_n ?_
  refine hK _ _ ?_
  clear hK K
  refine AW.seq_k fun K hK => ?_
  refine AW.cond_f rfl ?_
  refine AW.exit ?_
  refine Thn_e ?_
  clear hK K
  refine Thn_e ?_
  clear hK K
  refine InB_here ?_
  refine Thn_n ?_
  refine hK _ _ ?_
  clear hK K
  refine AW.seq_k fun K hK => ?_
  refine AW.region (by decide) ?_
  simp only [push_cast, simprocAttr, hb, lk_old hb]
  refine Thn_n ?_
  refine hK _ _ ?_
  clear hK K
  refine AW.ret ?_
  refine hQ _ _ _ ?_
  first | refine RetP.drop0 (Or.inr rfl) ?_ ?_ hwf | refine RetP.drop (Or.inr rfl) ?_ ?_ hwf
  · simp only [resA, resOne, resTv, AV.tv, push_cast, simprocAttr, hb, lk_old hb]
  · rfl
theorem vdot_c (a0 a1 a2 b0 b1 b2 : Int) (m : AMem) : Ctr Try.prog 84 [.agg [.int .i64 (a0), .int .i64 (a1), .int .i64 (a2)], .agg [.int .i64 (b0), .int .i64 (b1), .int .i64 (b2)]] m (.one (.int .i64 (dotI a0 a1 a2 b0 b1 b2))) m := by
  refine Ctr.enter Try.func84 rfl (by decide) (rs := [.tmp 4]) (nt := 22) rfl rfl fun hwf Q hQ => ?_
  refine AW.seq_k fun K hK => ?_
  refine AW.region (by decide) ?_
  simp only [push_cast, simprocAttr]
  refine Thn_n ?_
  refine hK _ _ ?_
  clear hK K
  refine AW.seq_k fun K hK => ?_
  refine AW.draw [.val, .rd 0, .val, .rd 0, .ext, .val, .rd 0, .val, .rd 0, .ext, .val, .rd 0, .val, .rd 0, .ext, .ext, .ext, .val] fol (by decide) (by kernel_rfl) ?_
  iterate 3
    simp only [push_cast, simprocAttr]
    refine DCall.by0 (mul_c _ _ _) ?_
  simp only [push_cast, simprocAttr]
  refine DExt.by (by first | rfl | (simp only [List.append_assoc, List.cons_append, List.nil_append]; rfl)) ?_
  simp only [push_cast, simprocAttr]
  refine DCall.by0 (sum3_c _ 0 (mulI a0 b0) (mulI a1 b1) (mulI a2 b2) _ ⟨.grow, 1, by simp only [push_cast, simprocAttr]⟩) ?_
  simp only [push_cast, simprocAttr]
  refine Thn_n ?_
  refine hK _ _ ?_
  clear hK K
  refine AW.ret ?_
  refine hQ _ _ _ ?_
  first | refine RetP.drop0 (Or.inr rfl) ?_ ?_ hwf | refine RetP.drop (Or.inr rfl) ?_ ?_ hwf
  · simp only [resA, resOne, resTv, AV.tv, push_cast, simprocAttr, dotI]
  · rfl
theorem rvdot_c (a0 a1 a2 b0 b1 b2 : Int) (m : AMem) : Ctr Try.prog 88 [.agg [.int .i64 (a0), .int .i64 (a1), .int .i64 (a2)], .agg [.int .i64 (b0), .int .i64 (b1), .int .i64 (b2)]] m (.one (.int .i64 (dotI a0 a1 a2 b0 b1 b2))) m := by
  refine Ctr.enter Try.func88 rfl (by decide) (rs := [.tmp 4]) (nt := 21) rfl rfl fun hwf Q hQ => ?_
  iterate 2
    refine AW.seq_k fun K hK => ?_
    refine AW.region (by decide) ?_
    simp only [push_cast, simprocAttr]
    refine Thn_n ?_
    refine hK _ _ ?_
    clear hK K
  refine AW.seq_k fun K hK => ?_
  refine AW.seq_k fun K hK => ?_
  refine AW.region (by decide) ?_
  simp only [push_cast, simprocAttr]
  refine Thn_n ?_
  refine hK _ _ ?_
  clear hK K
  refine AW.block ?_
  refine AW.rounds 4 ?_
  iterate 3
    refine ARounds.succ fun K hK => ?_
    refine AW.seq_k fun K hK => ?_
    refine AW.seq_k fun K hK => ?_
    refine AW.region (by decide) ?_
    simp only [push_cast, simprocAttr]
    refine Thn_n ?_
    refine hK _ _ ?_
    clear hK K
    refine AW.cond_t rfl ?_
    refine AW.skip ?_
    refine Thn_n ?_
    refine hK _ _ ?_
    clear hK K
    refine AW.seq_k fun K hK => ?_
    refine AW.block ?_
    refine AW.draw [.val, .val, .val, .rd 0, .val, .val, .rd 0, .ext, .ext, .val] fol (by decide) (by kernel_rfl) ?_
    simp only [push_cast, simprocAttr]
    refine DCall.by0 (rmul_c _ _ _) ?_
    simp only [push_cast, simprocAttr]
    refine DCall.by0 (radd_c _ _ _) ?_
    simp only [push_cast, simprocAttr]
    refine InB_n ?_
    refine Thn_n ?_
    refine hK _ _ ?_
    clear hK K
    refine AW.region (by decide) ?_
    simp only [push_cast, simprocAttr]
    refine Thn_n ?_
    refine hK _ _ ?_
    clear hK K
  refine ARounds.succ fun K hK => ?_
  refine AW.seq_k fun K hK => ?_
  refine AW.seq_k fun K hK => ?_
  refine AW.region (by decide) ?_
  simp only [push_cast, simprocAttr]
  refine Thn_n ?_
  refine hK _ _ ?_
  clear hK K
  refine AW.cond_f rfl ?_
  refine AW.exit ?_
  refine Thn_e ?_
  clear hK K
  refine Thn_e ?_
  clear hK K
  refine InB_here ?_
  refine Thn_n ?_
  refine hK _ _ ?_
  clear hK K
  refine AW.seq_k fun K hK => ?_
  refine AW.region (by decide) ?_
  simp only [push_cast, simprocAttr]
  refine Thn_n ?_
  refine hK _ _ ?_
  clear hK K
  refine AW.ret ?_
  refine hQ _ _ _ ?_
  first | refine RetP.drop0 (Or.inr rfl) ?_ ?_ hwf | refine RetP.drop (Or.inr rfl) ?_ ?_ hwf
  · simp only [resA, resOne, resTv, AV.tv, push_cast, simprocAttr, dotI]
  · rfl
theorem vcross_c (a0 a1 a2 b0 b1 b2 : Int) (m : AMem) : Ctr Try.prog 51 [.agg [.int .i64 (a0), .int .i64 (a1), .int .i64 (a2)], .agg [.int .i64 (b0), .int .i64 (b1), .int .i64 (b2)]] m (.agg [.int .i64 (subI (mulI a1 b2) (mulI a2 b1)), .int .i64 (subI (mulI a2 b0) (mulI a0 b2)), .int .i64 (subI (mulI a0 b1) (mulI a1 b0))]) m := by
  refine Ctr.enter Try.func51 rfl (by decide) (rs := [.cell 4 49]) (nt := 39) rfl rfl fun hwf Q hQ => ?_
  refine AW.seq_k fun K hK => ?_
  refine AW.region (by decide) ?_
  simp only [push_cast, simprocAttr]
  refine Thn_n ?_
  refine hK _ _ ?_
  clear hK K
  refine AW.seq_k fun K hK => ?_
  refine AW.draw [.val, .rd 0, .val, .rd 0, .ext, .val, .rd 0, .val, .rd 0, .ext, .ext, .val, .rd 0, .val, .rd 0, .ext, .val, .rd 0, .val, .rd 0, .ext, .ext, .val, .rd 0, .val, .rd 0, .ext, .val, .rd 0, .val, .rd 0, .ext, .ext, .val, .wr] fol (by decide) (by kernel_rfl) ?_
  iterate 3
    simp only [push_cast, simprocAttr]
    refine DCall.by0 (mul_c _ _ _) ?_
    simp only [push_cast, simprocAttr]
    refine DCall.by0 (mul_c _ _ _) ?_
    simp only [push_cast, simprocAttr]
    refine DCall.by0 (sub_c _ _ _) ?_
  simp only [push_cast, simprocAttr]
  refine Thn_n ?_
  refine hK _ _ ?_
  clear hK K
  refine AW.ret ?_
  refine hQ _ _ _ ?_
  first | refine RetP.drop0 (Or.inr rfl) ?_ ?_ hwf | refine RetP.drop (Or.inr rfl) ?_ ?_ hwf
  · simp only [resA, resOne, resTv, AV.tv, push_cast, simprocAttr]
  · rfl
theorem rvcross_c (a0 a1 a2 b0 b1 b2 : Int) (m : AMem) : Ctr Try.prog 56 [.agg [.int .i64 (a0), .int .i64 (a1), .int .i64 (a2)], .agg [.int .i64 (b0), .int .i64 (b1), .int .i64 (b2)]] m (.agg [.int .i64 (subI (mulI a1 b2) (mulI a2 b1)), .int .i64 (subI (mulI a2 b0) (mulI a0 b2)), .int .i64 (subI (mulI a0 b1) (mulI a1 b0))]) m := by
  refine Ctr.enter Try.func56 rfl (by decide) (rs := [.cell 4 24]) (nt := 37) rfl rfl fun hwf Q hQ => ?_
  have tm1 : Int.tmod 1 3 = 1 := rfl
  have tm2 : Int.tmod 2 3 = 2 := rfl
  have tm3 : Int.tmod 3 3 = 0 := rfl
  have tm4 : Int.tmod 4 3 = 1 := rfl
  iterate 2
    refine AW.seq_k fun K hK => ?_
    refine AW.region (by decide) ?_
    simp only [push_cast, simprocAttr, tm1, tm2, tm3, tm4]
    refine Thn_n ?_
    refine hK _ _ ?_
    clear hK K
  refine AW.seq_k fun K hK => ?_
  refine AW.seq_k fun K hK => ?_
  refine AW.region (by decide) ?_
  simp only [push_cast, simprocAttr, tm1, tm2, tm3, tm4]
  refine Thn_n ?_
  refine hK _ _ ?_
  clear hK K
  refine AW.block ?_
  refine AW.rounds 4 ?_
  iterate 3
    refine ARounds.succ fun K hK => ?_
    refine AW.seq_k fun K hK => ?_
    refine AW.seq_k fun K hK => ?_
    refine AW.region (by decide) ?_
    simp only [push_cast, simprocAttr, tm1, tm2, tm3, tm4]
    refine Thn_n ?_
    refine hK _ _ ?_
    clear hK K
    refine AW.cond_t rfl ?_
    refine AW.skip ?_
    refine Thn_n ?_
    refine hK _ _ ?_
    clear hK K
    refine AW.seq_k fun K hK => ?_
    refine AW.block ?_
    refine AW.seq_k fun K hK => ?_
    refine AW.region (by decide) ?_
    simp only [push_cast, simprocAttr, tm1, tm2, tm3, tm4]
    refine Thn_n ?_
    refine hK _ _ ?_
    clear hK K
    refine AW.draw [.val, .val, .val, .rd 0, .val, .val, .rd 0, .ext, .val, .val, .rd 0, .val, .val, .rd 0, .ext, .ext, .val, .wr] fol (by decide) (by kernel_rfl) ?_
    simp only [push_cast, simprocAttr, tm1, tm2, tm3, tm4]
    refine DCall.by0 (rmul_c _ _ _) ?_
    simp only [push_cast, simprocAttr, tm1, tm2, tm3, tm4]
    refine DCall.by0 (rmul_c _ _ _) ?_
    simp only [push_cast, simprocAttr, tm1, tm2, tm3, tm4]
    refine DCall.by0 (rsub_c _ _ _) ?_
    simp only [push_cast, simprocAttr, tm1, tm2, tm3, tm4]
    refine InB_n ?_
    refine Thn_n ?_
    refine hK _ _ ?_
    clear hK K
    refine AW.region (by decide) ?_
    simp only [push_cast, simprocAttr, tm1, tm2, tm3, tm4]
    refine Thn_n ?_
    refine hK _ _ ?_
    clear hK K
  refine ARounds.succ fun K hK => ?_
  refine AW.seq_k fun K hK => ?_
  refine AW.seq_k fun K hK => ?_
  refine AW.region (by decide) ?_
  simp only [push_cast, simprocAttr, tm1, tm2, tm3, tm4]
  refine Thn_n ?_
  refine hK _ _ ?_
  clear hK K
  refine AW.cond_f rfl ?_
  refine AW.exit ?_
  refine Thn_e ?_
  clear hK K
  refine Thn_e ?_
  clear hK K
  refine InB_here ?_
  refine Thn_n ?_
  refine hK _ _ ?_
  clear hK K
  refine AW.seq_k fun K hK => ?_
  refine AW.region (by decide) ?_
  simp only [push_cast, simprocAttr, tm1, tm2, tm3, tm4]
  refine Thn_n ?_
  refine hK _ _ ?_
  clear hK K
  refine AW.ret ?_
  refine hQ _ _ _ ?_
  first | refine RetP.drop0 (Or.inr rfl) ?_ ?_ hwf | refine RetP.drop (Or.inr rfl) ?_ ?_ hwf
  · simp only [resA, resOne, resTv, AV.tv, push_cast, simprocAttr, tm1, tm2, tm3, tm4]
  · rfl
theorem vlen_c (a0 a1 a2 : Int) (m : AMem) : Ctr Try.prog 50 [.agg [.int .i64 (a0), .int .i64 (a1), .int .i64 (a2)]] m (.one (.int .i64 (rootI (dotI a0 a1 a2 a0 a1 a2)))) m := by
  refine Ctr.enter Try.func50 rfl (by decide) (rs := [.tmp 2]) (nt := 7) rfl rfl fun hwf Q hQ => ?_
  refine AW.seq_k fun K hK => ?_
  refine AW.region (by decide) ?_
  simp only [push_cast, simprocAttr]
  refine Thn_n ?_
  refine hK _ _ ?_
  clear hK K
  refine AW.seq_k fun K hK => ?_
  refine AW.region (by decide) ?_
  simp only [push_cast, simprocAttr]
  refine CThen.by (vdot_c _ _ _ _ _ _ _) ?_
  simp only [push_cast, simprocAttr]
  refine CThen.by (root_f _ _) ?_
  simp only [push_cast, simprocAttr]
  refine Thn_n ?_
  refine hK _ _ ?_
  clear hK K
  refine AW.ret ?_
  refine hQ _ _ _ ?_
  first | refine RetP.drop0 (Or.inr rfl) ?_ ?_ hwf | refine RetP.drop (Or.inr rfl) ?_ ?_ hwf
  · simp only [resA, resOne, resTv, AV.tv, push_cast, simprocAttr]
  · rfl
theorem rvlen_c (a0 a1 a2 : Int) (m : AMem) : Ctr Try.prog 55 [.agg [.int .i64 (a0), .int .i64 (a1), .int .i64 (a2)]] m (.one (.int .i64 (rootI (dotI a0 a1 a2 a0 a1 a2)))) m := by
  refine Ctr.enter Try.func55 rfl (by decide) (rs := [.tmp 2]) (nt := 7) rfl rfl fun hwf Q hQ => ?_
  refine AW.seq_k fun K hK => ?_
  refine AW.region (by decide) ?_
  simp only [push_cast, simprocAttr]
  refine Thn_n ?_
  refine hK _ _ ?_
  clear hK K
  refine AW.seq_k fun K hK => ?_
  refine AW.region (by decide) ?_
  simp only [push_cast, simprocAttr]
  refine CThen.by (rvdot_c _ _ _ _ _ _ _) ?_
  simp only [push_cast, simprocAttr]
  refine CThen.by (rroot_f _ _) ?_
  simp only [push_cast, simprocAttr]
  refine Thn_n ?_
  refine hK _ _ ?_
  clear hK K
  refine AW.ret ?_
  refine hQ _ _ _ ?_
  first | refine RetP.drop0 (Or.inr rfl) ?_ ?_ hwf | refine RetP.drop (Or.inr rfl) ?_ ?_ hwf
  · simp only [resA, resOne, resTv, AV.tv, push_cast, simprocAttr]
  · rfl
def dirI (x y z a b c : Int) : Int := addI (addI (addI 0 (mulI x a)) (mulI y b)) (mulI z c)
theorem vsum3_c (r v : Nat) (c00 c01 c02 c10 c11 c12 c20 c21 c22 : Int) (m : AMem) (hb : ∃ k ez, m[r]? = some ⟨k, 49, v, ez, [.int .i64 c00, .int .i64 c01, .int .i64 c02, .int .i64 c10, .int .i64 c11, .int .i64 c12, .int .i64 c20, .int .i64 c21, .int .i64 c22]⟩) : Ctr Try.prog 97 [.one (.sl r v 0 3)] m (.agg [.int .i64 (addI (addI (addI 0 c00) c10) c20), .int .i64 (addI (addI (addI 0 c01) c11) c21), .int .i64 (addI (addI (addI 0 c02) c12) c22)]) m := by
  refine Ctr.enter Try.func97 rfl (by decide) (rs := [.cell 2 49]) (nt := 17) rfl rfl fun hwf Q hQ => ?_
  obtain ⟨k0, ez, hb⟩ := hb
  have hr := get_lt hb
  iterate 2
    refine AW.seq_k fun K hK => ?_
    refine AW.region (by decide) ?_
    simp only [push_cast, simprocAttr, hb, lk_old hb]
    refine Thn_n ?_
    refine hK _ _ ?_
    clear hK K
  refine AW.seq_k fun K hK => ?_
  refine AW.seq_k fun K hK => ?_
  refine AW.region (by decide) ?_
  simp only [push_cast, simprocAttr, hb, lk_old hb]
  refine Thn_n ?_
  refine hK _ _ ?_
  clear hK K
  refine AW.block ?_
  refine AW.rounds 4 ?_
  iterate 3
    refine ARounds.succ fun K hK => ?_
    refine AW.seq_k fun K hK => ?_
    refine AW.region (by decide) ?_
    simp only [push_cast, simprocAttr, hb, lk_old hb]
    refine Thn_n ?_
    refine hK _ _ ?_
    clear hK K
    refine AW.seq_k fun K hK => ?_
    refine AW.cond_t rfl ?_
    refine AW.skip ?_
    refine Thn_n ?_
    refine hK _ _ ?_
    clear hK K
    refine AW.seq_k fun K hK => ?_
    refine AW.block ?_
    refine AW.seq_k fun K hK => ?_
    refine AW.region (by decide) ?_
    simp only [push_cast, simprocAttr, hb, lk_old hb]
    refine Thn_n ?_
    refine hK _ _ ?_
    clear hK K
    refine AW.region (by decide) ?_
    simp only [push_cast, simprocAttr, hb, lk_old hb]
    refine CThen.by (vadd_c _ _ _ _ _ _ _) ?_
    simp only [push_cast, simprocAttr, hb, lk_old hb]
    refine InB_n ?_
    refine Thn_n ?_
    refine hK _ _ ?_
    clear hK K
    refine AW.region (by decide) ?_
    simp only [push_cast, simprocAttr, hb, lk_old hb]
    refine Thn_n ?_
    refine hK _ _ ?_
    clear hK K
  refine ARounds.succ fun K hK => ?_
  refine AW.seq_k fun K hK => ?_
  refine AW.region (by decide) ?_
  simp only [push_cast, simprocAttr, hb, lk_old hb]
  refine Thn_n ?_
  refine hK _ _ ?_
  clear hK K
  refine AW.seq_k fun K hK => ?_
  refine AW.cond_f rfl ?_
  refine AW.exit ?_
  refine Thn_e ?_
  clear hK K
  refine Thn_e ?_
  clear hK K
  refine InB_here ?_
  refine Thn_n ?_
  refine hK _ _ ?_
  clear hK K
  refine AW.seq_k fun K hK => ?_
  refine AW.region (by decide) ?_
  simp only [push_cast, simprocAttr, hb, lk_old hb]
  refine Thn_n ?_
  refine hK _ _ ?_
  clear hK K
  refine AW.ret ?_
  refine hQ _ _ _ ?_
  first | refine RetP.drop0 (Or.inr rfl) ?_ ?_ hwf | refine RetP.drop (Or.inr rfl) ?_ ?_ hwf
  · simp only [resA, resOne, resTv, AV.tv, push_cast, simprocAttr, hb, lk_old hb]
  · rfl
theorem mdir_c (x0 x1 x2 y0 y1 y2 z0 z1 z2 t0 t1 t2 a0 a1 a2 : Int) (m : AMem) : Ctr Try.prog 76 [.agg [.int .i64 (x0), .int .i64 (x1), .int .i64 (x2), .int .i64 (y0), .int .i64 (y1), .int .i64 (y2), .int .i64 (z0), .int .i64 (z1), .int .i64 (z2), .int .i64 (t0), .int .i64 (t1), .int .i64 (t2)], .agg [.int .i64 (a0), .int .i64 (a1), .int .i64 (a2)]] m (.agg [.int .i64 (dirI x0 y0 z0 a0 a1 a2), .int .i64 (dirI x1 y1 z1 a0 a1 a2), .int .i64 (dirI x2 y2 z2 a0 a1 a2)]) m := by
  refine Ctr.enter Try.func76 rfl (by decide) (rs := [.cell 4 49]) (nt := 22) rfl rfl fun hwf Q hQ => ?_
  refine AW.seq_k fun K hK => ?_
  refine AW.region (by decide) ?_
  simp only [push_cast, simprocAttr]
  refine Thn_n ?_
  refine hK _ _ ?_
  clear hK K
  refine AW.seq_k fun K hK => ?_
  refine AW.draw [.val, .rd 0, .val, .rd 0, .ext, .val, .rd 0, .val, .rd 0, .ext, .val, .rd 0, .val, .rd 0, .ext, .ext, .ext, .wr] fol (by decide) (by kernel_rfl) ?_
  iterate 3
    simp only [push_cast, simprocAttr]
    refine DCall.by0 (vscale_c _ _ _ _ _) ?_
  simp only [push_cast, simprocAttr]
  refine DExt.by (by first | rfl | (simp only [List.append_assoc, List.cons_append, List.nil_append]; rfl)) ?_
  simp only [push_cast, simprocAttr]
  refine DCall.by0 (vsum3_c _ 0 (mulI x0 a0) (mulI x1 a0) (mulI x2 a0) (mulI y0 a1) (mulI y1 a1) (mulI y2 a1) (mulI z0 a2) (mulI z1 a2) (mulI z2 a2) _ ⟨.grow, 3, by simp only [push_cast, simprocAttr]⟩) ?_
  simp only [push_cast, simprocAttr]
  refine Thn_n ?_
  refine hK _ _ ?_
  clear hK K
  refine AW.ret ?_
  refine hQ _ _ _ ?_
  first | refine RetP.drop0 (Or.inr rfl) ?_ ?_ hwf | refine RetP.drop (Or.inr rfl) ?_ ?_ hwf
  · simp only [resA, resOne, resTv, AV.tv, push_cast, simprocAttr, dirI]
  · rfl
theorem mpoint_c (x0 x1 x2 y0 y1 y2 z0 z1 z2 t0 t1 t2 a0 a1 a2 : Int) (m : AMem) : Ctr Try.prog 42 [.agg [.int .i64 (x0), .int .i64 (x1), .int .i64 (x2), .int .i64 (y0), .int .i64 (y1), .int .i64 (y2), .int .i64 (z0), .int .i64 (z1), .int .i64 (z2), .int .i64 (t0), .int .i64 (t1), .int .i64 (t2)], .agg [.int .i64 (a0), .int .i64 (a1), .int .i64 (a2)]] m (.agg [.int .i64 (addI (dirI x0 y0 z0 a0 a1 a2) t0), .int .i64 (addI (dirI x1 y1 z1 a0 a1 a2) t1), .int .i64 (addI (dirI x2 y2 z2 a0 a1 a2) t2)]) m := by
  refine Ctr.enter Try.func42 rfl (by decide) (rs := [.cell 4 49]) (nt := 11) rfl rfl fun hwf Q hQ => ?_
  refine AW.seq_k fun K hK => ?_
  refine AW.region (by decide) ?_
  simp only [push_cast, simprocAttr]
  refine Thn_n ?_
  refine hK _ _ ?_
  clear hK K
  refine AW.seq_k fun K hK => ?_
  refine AW.draw [.rd 0, .rd 0, .ext, .val, .rd 0, .ext, .wr] fol (by decide) (by kernel_rfl) ?_
  simp only [push_cast, simprocAttr]
  refine DCall.by0 (mdir_c _ _ _ _ _ _ _ _ _ _ _ _ _ _ _ _ ) ?_
  simp only [push_cast, simprocAttr]
  refine DCall.by0 (vadd_c _ _ _ _ _ _ _) ?_
  simp only [push_cast, simprocAttr]
  refine Thn_n ?_
  refine hK _ _ ?_
  clear hK K
  refine AW.ret ?_
  refine hQ _ _ _ ?_
  first | refine RetP.drop0 (Or.inr rfl) ?_ ?_ hwf | refine RetP.drop (Or.inr rfl) ?_ ?_ hwf
  · simp only [resA, resOne, resTv, AV.tv, push_cast, simprocAttr]
  · rfl
theorem rmdir_c (x0 x1 x2 y0 y1 y2 z0 z1 z2 t0 t1 t2 a0 a1 a2 : Int) (m : AMem) : Ctr Try.prog 78 [.agg [.int .i64 (x0), .int .i64 (x1), .int .i64 (x2), .int .i64 (y0), .int .i64 (y1), .int .i64 (y2), .int .i64 (z0), .int .i64 (z1), .int .i64 (z2), .int .i64 (t0), .int .i64 (t1), .int .i64 (t2)], .agg [.int .i64 (a0), .int .i64 (a1), .int .i64 (a2)]] m (.agg [.int .i64 (dirI x0 y0 z0 a0 a1 a2), .int .i64 (dirI x1 y1 z1 a0 a1 a2), .int .i64 (dirI x2 y2 z2 a0 a1 a2)]) m := by
  refine Ctr.enter Try.func78 rfl (by decide) (rs := [.cell 4 24]) (nt := 22) rfl rfl fun hwf Q hQ => ?_
  iterate 2
    refine AW.seq_k fun K hK => ?_
    refine AW.region (by decide) ?_
    simp only [push_cast, simprocAttr]
    refine Thn_n ?_
    refine hK _ _ ?_
    clear hK K
  refine AW.seq_k fun K hK => ?_
  refine AW.seq_k fun K hK => ?_
  refine AW.region (by decide) ?_
  simp only [push_cast, simprocAttr]
  refine Thn_n ?_
  refine hK _ _ ?_
  clear hK K
  refine AW.block ?_
  refine AW.rounds 4 ?_
  iterate 3
    refine ARounds.succ fun K hK => ?_
    refine AW.seq_k fun K hK => ?_
    refine AW.seq_k fun K hK => ?_
    refine AW.region (by decide) ?_
    simp only [push_cast, simprocAttr]
    refine Thn_n ?_
    refine hK _ _ ?_
    clear hK K
    refine AW.cond_t rfl ?_
    refine AW.skip ?_
    refine Thn_n ?_
    refine hK _ _ ?_
    clear hK K
    refine AW.seq_k fun K hK => ?_
    refine AW.block ?_
    refine AW.draw [.rd 0, .val, .val, .val, .rd 0, .val, .val, .rd 0, .ext, .ext, .wr] fol (by decide) (by kernel_rfl) ?_
    simp only [push_cast, simprocAttr]
    refine DCall.by0 (rvscale_c _ _ _ _ _) ?_
    simp only [push_cast, simprocAttr]
    refine DCall.by0 (rvadd_c _ _ _ _ _ _ _) ?_
    simp only [push_cast, simprocAttr]
    refine InB_n ?_
    refine Thn_n ?_
    refine hK _ _ ?_
    clear hK K
    refine AW.region (by decide) ?_
    simp only [push_cast, simprocAttr]
    refine Thn_n ?_
    refine hK _ _ ?_
    clear hK K
  refine ARounds.succ fun K hK => ?_
  refine AW.seq_k fun K hK => ?_
  refine AW.seq_k fun K hK => ?_
  refine AW.region (by decide) ?_
  simp only [push_cast, simprocAttr]
  refine Thn_n ?_
  refine hK _ _ ?_
  clear hK K
  refine AW.cond_f rfl ?_
  refine AW.exit ?_
  refine Thn_e ?_
  clear hK K
  refine Thn_e ?_
  clear hK K
  refine InB_here ?_
  refine Thn_n ?_
  refine hK _ _ ?_
  clear hK K
  refine AW.seq_k fun K hK => ?_
  refine AW.region (by decide) ?_
  simp only [push_cast, simprocAttr]
  refine Thn_n ?_
  refine hK _ _ ?_
  clear hK K
  refine AW.ret ?_
  refine hQ _ _ _ ?_
  first | refine RetP.drop0 (Or.inr rfl) ?_ ?_ hwf | refine RetP.drop (Or.inr rfl) ?_ ?_ hwf
  · simp only [resA, resOne, resTv, AV.tv, push_cast, simprocAttr, dirI]
  · rfl
theorem rmpoint_c (x0 x1 x2 y0 y1 y2 z0 z1 z2 t0 t1 t2 a0 a1 a2 : Int) (m : AMem) : Ctr Try.prog 43 [.agg [.int .i64 (x0), .int .i64 (x1), .int .i64 (x2), .int .i64 (y0), .int .i64 (y1), .int .i64 (y2), .int .i64 (z0), .int .i64 (z1), .int .i64 (z2), .int .i64 (t0), .int .i64 (t1), .int .i64 (t2)], .agg [.int .i64 (a0), .int .i64 (a1), .int .i64 (a2)]] m (.agg [.int .i64 (addI (dirI x0 y0 z0 a0 a1 a2) t0), .int .i64 (addI (dirI x1 y1 z1 a0 a1 a2) t1), .int .i64 (addI (dirI x2 y2 z2 a0 a1 a2) t2)]) m := by
  refine Ctr.enter Try.func43 rfl (by decide) (rs := [.cell 4 24]) (nt := 11) rfl rfl fun hwf Q hQ => ?_
  refine AW.seq_k fun K hK => ?_
  refine AW.region (by decide) ?_
  simp only [push_cast, simprocAttr]
  refine Thn_n ?_
  refine hK _ _ ?_
  clear hK K
  refine AW.seq_k fun K hK => ?_
  refine AW.draw [.rd 0, .rd 0, .ext, .val, .rd 0, .ext, .wr] fol (by decide) (by kernel_rfl) ?_
  simp only [push_cast, simprocAttr]
  refine DCall.by0 (rmdir_c _ _ _ _ _ _ _ _ _ _ _ _ _ _ _ _ ) ?_
  simp only [push_cast, simprocAttr]
  refine DCall.by0 (rvadd_c _ _ _ _ _ _ _) ?_
  simp only [push_cast, simprocAttr]
  refine Thn_n ?_
  refine hK _ _ ?_
  clear hK K
  refine AW.ret ?_
  refine hQ _ _ _ ?_
  first | refine RetP.drop0 (Or.inr rfl) ?_ ?_ hwf | refine RetP.drop (Or.inr rfl) ?_ ?_ hwf
  · simp only [resA, resOne, resTv, AV.tv, push_cast, simprocAttr]
  · rfl
theorem v2to_c (a0 a1 a2 : Int) (m : AMem) : Ctr Try.prog 24 [.agg [.int .i64 (a0), .int .i64 (a1), .int .i64 (a2)]] m (.agg [.int .i64 (a0), .int .i64 (a1), .int .i64 (a2)]) m := by
  refine Ctr.enter Try.func24 rfl (by decide) (rs := [.cell 2 49]) (nt := 10) rfl rfl fun hwf Q hQ => ?_
  iterate 2
    refine AW.seq_k fun K hK => ?_
    refine AW.region (by decide) ?_
    simp only [push_cast, simprocAttr]
    refine Thn_n ?_
    refine hK _ _ ?_
    clear hK K
  refine AW.ret ?_
  refine hQ _ _ _ ?_
  first | refine RetP.drop0 (Or.inr rfl) ?_ ?_ hwf | refine RetP.drop (Or.inr rfl) ?_ ?_ hwf
  · simp only [resA, resOne, resTv, AV.tv, push_cast, simprocAttr]
  · rfl
theorem v2from_c (a0 a1 a2 : Int) (m : AMem) : Ctr Try.prog 30 [.agg [.int .i64 (a0), .int .i64 (a1), .int .i64 (a2)]] m (.agg [.int .i64 (a0), .int .i64 (a1), .int .i64 (a2)]) m := by
  refine Ctr.enter Try.func30 rfl (by decide) (rs := [.cell 2 24]) (nt := 10) rfl rfl fun hwf Q hQ => ?_
  iterate 2
    refine AW.seq_k fun K hK => ?_
    refine AW.region (by decide) ?_
    simp only [push_cast, simprocAttr]
    refine Thn_n ?_
    refine hK _ _ ?_
    clear hK K
  refine AW.ret ?_
  refine hQ _ _ _ ?_
  first | refine RetP.drop0 (Or.inr rfl) ?_ ?_ hwf | refine RetP.drop (Or.inr rfl) ?_ ?_ hwf
  · simp only [resA, resOne, resTv, AV.tv, push_cast, simprocAttr]
  · rfl
theorem toMat_c (x0 x1 x2 y0 y1 y2 z0 z1 z2 t0 t1 t2 : Int) (m : AMem) : Ctr Try.prog 15 [.agg [.int .i64 (x0), .int .i64 (x1), .int .i64 (x2), .int .i64 (y0), .int .i64 (y1), .int .i64 (y2), .int .i64 (z0), .int .i64 (z1), .int .i64 (z2), .int .i64 (t0), .int .i64 (t1), .int .i64 (t2)]] m (.agg [.int .i64 (x0), .int .i64 (x1), .int .i64 (x2), .int .i64 (y0), .int .i64 (y1), .int .i64 (y2), .int .i64 (z0), .int .i64 (z1), .int .i64 (z2), .int .i64 (t0), .int .i64 (t1), .int .i64 (t2)]) m := by
  refine Ctr.enter Try.func15 rfl (by decide) (rs := [.cell 2 51]) (nt := 19) rfl rfl fun hwf Q hQ => ?_
  refine AW.seq_k fun K hK => ?_
  refine AW.region (by decide) ?_
  simp only [push_cast, simprocAttr]
  refine Thn_n ?_
  refine hK _ _ ?_
  clear hK K
  refine AW.seq_k fun K hK => ?_
  refine AW.draw [.val, .val, .rd 0, .ext, .val, .val, .rd 0, .ext, .val, .val, .rd 0, .ext, .val, .rd 0, .ext, .val, .wr] fol (by decide) (by kernel_rfl) ?_
  iterate 4
    simp only [push_cast, simprocAttr]
    refine DCall.by0 (v2to_c _ _ _ _) ?_
  simp only [push_cast, simprocAttr]
  refine Thn_n ?_
  refine hK _ _ ?_
  clear hK K
  refine AW.ret ?_
  refine hQ _ _ _ ?_
  first | refine RetP.drop0 (Or.inr rfl) ?_ ?_ hwf | refine RetP.drop (Or.inr rfl) ?_ ?_ hwf
  · simp only [resA, resOne, resTv, AV.tv, push_cast, simprocAttr]
  · rfl
end Go.Proofs.Ytiogpaehelpmhaa

set_option linter.unusedSimpArgs false
set_option linter.unusedVariables false
set_option maxRecDepth 100000
set_option maxHeartbeats 4000000
namespace Go.Proofs.Ytiogpaehelpmhaa
open Go Go.Eng

/-- Triples, and rows of them. -/
abbrev T3 := Int × Int × Int
def tC (t : T3) : List CV := [.int .i64 t.1, .int .i64 t.2.1, .int .i64 t.2.2]
def tL (l : List T3) : List CV := l.flatMap tC
theorem tL_len : ∀ l : List T3, (tL l).length = l.length * 3
  | [] => rfl
  | t :: l => by
    show (tC t ++ tL l).length = _
    rw [List.length_append, tL_len l, List.length_cons]
    show 3 + _ = _
    omega
theorem tL_snoc (l : List T3) (a b c : Int) : tL l ++ [.int .i64 a, .int .i64 b, .int .i64 c] = tL (l ++ [(a, b, c)]) := by simp [tL, tC]
theorem tL_app (a b : List T3) : tL a ++ tL b = tL (a ++ b) := by simp [tL]
theorem tL_vals : ∀ l : List T3, (tL l).all CV.isVal = true
  | [] => rfl
  | t :: l => by
    show (tC t ++ tL l).all _ = true
    rw [List.all_append, tL_vals l]; rfl
theorem tL_below (L : Nat) : ∀ l : List T3, (tL l).all (CV.below L) = true
  | [] => rfl
  | t :: l => by
    show (tC t ++ tL l).all _ = true
    rw [List.all_append, tL_below L l]; rfl
theorem tL_drop : ∀ (l : List T3) (i : Nat), (tL l).drop (i * 3) = tL (l.drop i)
  | [], i => by simp [tL]
  | t :: l, 0 => by simp
  | t :: l, i + 1 => by
    show (tC t ++ tL l).drop _ = _
    rw [List.drop_append, List.drop_of_length_le (by show 3 ≤ _; omega), show (tC t).length = 3 from rfl, show (i + 1) * 3 - 3 = i * 3 by omega, List.nil_append, tL_drop l i]
    rfl
theorem tL_at {l : List T3} {i : Nat} {t : T3} (h : l[i]? = some t) : ((tL l).drop (i * 3)).take 3 = [.int .i64 t.1, .int .i64 t.2.1, .int .i64 t.2.2] := by
  obtain ⟨hlt, hg⟩ := List.getElem?_eq_some_iff.1 h
  rw [tL_drop, List.drop_eq_getElem_cons hlt, hg]
  rfl
theorem tL_get0 {l : List T3} {i : Nat} {t : T3} (h : l[i]? = some t) : (tL l)[i * 3]? = some (.int .i64 t.1) := by
  have := congrArg (fun c => c[0]?) (tL_at h)
  simpa [List.getElem?_take, List.getElem?_drop] using this
theorem tL_get1 {l : List T3} {i : Nat} {t : T3} (h : l[i]? = some t) : (tL l)[i * 3 + 1]? = some (.int .i64 t.2.1) := by
  have := congrArg (fun c => c[1]?) (tL_at h)
  simpa [List.getElem?_take, List.getElem?_drop] using this
theorem tL_get2 {l : List T3} {i : Nat} {t : T3} (h : l[i]? = some t) : (tL l)[i * 3 + 2]? = some (.int .i64 t.2.2) := by
  have := congrArg (fun c => c[2]?) (tL_at h)
  simpa [List.getElem?_take, List.getElem?_drop] using this
theorem tL_take (l : List T3) : (tL l).take (l.length * 3) = tL l := List.take_of_length_le (by rw [tL_len]; exact Nat.le_refl _)
theorem tL_of {cells : List CV} : ∀ {n : Nat} {xs : List Int}, cells.length = n * 3 → cells = xs.map (CV.int .i64) → ∃ l : List T3, cells = tL l ∧ l.length = n := by
  intro n
  induction n generalizing cells with
  | zero =>
    intro xs hl he
    have : cells = [] := by simpa using hl
    exact ⟨[], this, rfl⟩
  | succ n ih =>
    intro xs hl he
    match xs, he with
    | a :: b :: c :: xs, he =>
      subst he
      obtain ⟨l, h1, h2⟩ := ih (cells := xs.map (CV.int .i64)) (xs := xs) (by simp at hl ⊢; omega) rfl
      exact ⟨(a, b, c) :: l, by simp only [List.map_cons]; rw [h1]; rfl, by simp [h2]⟩
    | [], he => subst he; simp at hl
    | [a], he => subst he; simp at hl; omega
    | [a, b], he => subst he; simp at hl; omega
/-- A row of triples in memory. -/
structure TRow (m : AMem) (ty r v : Nat) (l : List T3) : Prop where
  hb : ∃ k ez, m[r]? = some ⟨k, ty, v, ez, tL l⟩
theorem TRow.mono {m : AMem} {ty r v : Nat} {l : List T3} (h : TRow m ty r v l) (x : AMem) : TRow (m ++ x) ty r v l := by
  obtain ⟨k, ez, hb⟩ := h.hb; exact ⟨k, ez, lk_old hb x⟩
/-- May a mesh be? -/
def okF (n : Nat) (t : T3) : Prop := ¬ t.1 < 0 ∧ ¬ (n : Int) ≤ t.1 ∧ ¬ t.1 = t.2.1 ∧ ¬ t.2.1 < 0 ∧ ¬ (n : Int) ≤ t.2.1 ∧ ¬ t.2.1 = t.2.2 ∧ ¬ t.2.2 < 0 ∧ ¬ (n : Int) ≤ t.2.2 ∧ ¬ t.2.2 = t.1
instance (n : Nat) (t : T3) : Decidable (okF n t) := by unfold okF; infer_instance
def chk (n : Nat) (l : List T3) : Int := if 1024 < n ∨ 1024 < l.length then 8 else if ∀ t, t ∈ l → okF n t then 0 else 1
theorem chk_8 {n : Nat} {l : List T3} (h : 1024 < n ∨ 1024 < l.length) : chk n l = 8 := if_pos h
theorem chk_1 {n : Nat} {l : List T3} (h : ¬ (1024 < n ∨ 1024 < l.length)) {t : T3} (ht : t ∈ l) (hn : ¬ okF n t) : chk n l = 1 := by
  unfold chk; rw [if_neg h, if_neg fun hh => hn (hh t ht)]
theorem chk_0 {n : Nat} {l : List T3} (h : ¬ (1024 < n ∨ 1024 < l.length)) (hh : ∀ t, t ∈ l → okF n t) : chk n l = 0 := by
  unfold chk; rw [if_neg h, if_pos hh]
theorem chain9 (p1 p2 p3 p4 p5 p6 p7 p8 p9 : Prop) : (p1) ∨ (¬p1 ∧ p2) ∨ (¬p1 ∧ ¬p2 ∧ p3) ∨ (¬p1 ∧ ¬p2 ∧ ¬p3 ∧ p4) ∨ (¬p1 ∧ ¬p2 ∧ ¬p3 ∧ ¬p4 ∧ p5) ∨ (¬p1 ∧ ¬p2 ∧ ¬p3 ∧ ¬p4 ∧ ¬p5 ∧ p6) ∨ (¬p1 ∧ ¬p2 ∧ ¬p3 ∧ ¬p4 ∧ ¬p5 ∧ ¬p6 ∧ p7) ∨ (¬p1 ∧ ¬p2 ∧ ¬p3 ∧ ¬p4 ∧ ¬p5 ∧ ¬p6 ∧ ¬p7 ∧ p8) ∨ (¬p1 ∧ ¬p2 ∧ ¬p3 ∧ ¬p4 ∧ ¬p5 ∧ ¬p6 ∧ ¬p7 ∧ ¬p8 ∧ p9) ∨ (¬p1 ∧ ¬p2 ∧ ¬p3 ∧ ¬p4 ∧ ¬p5 ∧ ¬p6 ∧ ¬p7 ∧ ¬p8 ∧ ¬p9) := by
  by_cases h1 : p1 <;> by_cases h2 : p2 <;> by_cases h3 : p3 <;> by_cases h4 : p4 <;> by_cases h5 : p5 <;> by_cases h6 : p6 <;> by_cases h7 : p7 <;> by_cases h8 : p8 <;> by_cases h9 : p9 <;> simp [*]
theorem check_c_8a (rp vp rf vf : Nat) (P Fs : List T3) (m : AMem) (h : 1024 < P.length) : Ctr Try.prog 19 [.agg [.sl rp vp 0 P.length, .sl rf vf 0 Fs.length]] m (.one (.int .i64 (chk P.length Fs))) m := by
  refine Ctr.enter Try.func19 rfl (by decide) (rs := [.tmp 2]) (nt := 49) rfl rfl fun hwf Q hQ => ?_
  have b1 : (1024 : Int) < (P.length : Int) := by omega
  have hr := chk_8 (n := P.length) (l := Fs) (.inl h)
  refine AW.seq_k fun K hK => ?_
  refine AW.region (by decide) ?_
  simp only [push_cast, simprocAttr, b1]
  refine Thn_n ?_
  refine hK _ _ ?_
  clear hK K
  refine AW.seq_k fun K hK => ?_
  refine AW.seq_k fun K hK => ?_
  refine AW.region (by decide) ?_
  simp only [push_cast, simprocAttr, b1]
  refine Thn_n ?_
  refine hK _ _ ?_
  clear hK K
  refine AW.cond_t rfl ?_
  refine AW.seq_k fun K hK => ?_
  refine AW.region (by decide) ?_
  simp only [push_cast, simprocAttr, b1]
  refine Thn_n ?_
  refine hK _ _ ?_
  clear hK K
  refine AW.ret ?_
  refine Thn_r ?_
  refine hQ _ _ _ ?_
  first | refine RetP.drop0 (Or.inr rfl) ?_ ?_ hwf | refine RetP.drop (Or.inr rfl) ?_ ?_ hwf
  · simp only [resA, resOne, resTv, AV.tv, push_cast, simprocAttr, b1, hr]
  · rfl
theorem check_c_8b (rp vp rf vf : Nat) (P Fs : List T3) (m : AMem) (h0 : ¬ 1024 < P.length) (h : 1024 < Fs.length) : Ctr Try.prog 19 [.agg [.sl rp vp 0 P.length, .sl rf vf 0 Fs.length]] m (.one (.int .i64 (chk P.length Fs))) m := by
  refine Ctr.enter Try.func19 rfl (by decide) (rs := [.tmp 2]) (nt := 49) rfl rfl fun hwf Q hQ => ?_
  have b0 : ¬ (1024 : Int) < (P.length : Int) := by omega
  have b1 : (1024 : Int) < (Fs.length : Int) := by omega
  have hr := chk_8 (n := P.length) (l := Fs) (.inr h)
  refine AW.seq_k fun K hK => ?_
  refine AW.region (by decide) ?_
  simp only [push_cast, simprocAttr, b0, b1]
  refine Thn_n ?_
  refine hK _ _ ?_
  clear hK K
  refine AW.seq_k fun K hK => ?_
  refine AW.seq_k fun K hK => ?_
  refine AW.region (by decide) ?_
  simp only [push_cast, simprocAttr, b0, b1]
  refine Thn_n ?_
  refine hK _ _ ?_
  clear hK K
  refine AW.cond_t rfl ?_
  refine AW.seq_k fun K hK => ?_
  refine AW.region (by decide) ?_
  simp only [push_cast, simprocAttr, b0, b1]
  refine Thn_n ?_
  refine hK _ _ ?_
  clear hK K
  refine AW.ret ?_
  refine Thn_r ?_
  refine hQ _ _ _ ?_
  first | refine RetP.drop0 (Or.inr rfl) ?_ ?_ hwf | refine RetP.drop (Or.inr rfl) ?_ ?_ hwf
  · simp only [resA, resOne, resTv, AV.tv, push_cast, simprocAttr, b0, b1, hr]
  · rfl
theorem check_c_9 (rp vp rf vf : Nat) (P Fs : List T3) (m : AMem) (h0 : ¬ 1024 < P.length) (h1 : ¬ 1024 < Fs.length) (hp : rp < m.length) (hf : TRow m 54 rf vf Fs) : Ctr Try.prog 19 [.agg [.sl rp vp 0 P.length, .sl rf vf 0 Fs.length]] m (.one (.int .i64 (chk P.length Fs))) m := by
  refine Ctr.enter Try.func19 rfl (by decide) (rs := [.tmp 2]) (nt := 49) rfl rfl fun hwf Q hQ => ?_
  obtain ⟨k0, ez, hb⟩ := hf.hb
  have hr0 := get_lt hb
  have b0 : ¬ (1024 : Int) < (P.length : Int) := by omega
  have b1 : ¬ (1024 : Int) < (Fs.length : Int) := by omega
  have hno : ¬ (1024 < P.length ∨ 1024 < Fs.length) := by omega
  refine AW.seq_k fun K hK => ?_
  refine AW.region (by decide) ?_
  simp only [push_cast, simprocAttr, hb, lk_old hb, b0, b1]
  refine Thn_n ?_
  refine hK _ _ ?_
  clear hK K
  refine AW.seq_k fun K hK => ?_
  refine AW.seq_k fun K hK => ?_
  refine AW.region (by decide) ?_
  simp only [push_cast, simprocAttr, hb, lk_old hb, b0, b1]
  refine Thn_n ?_
  refine hK _ _ ?_
  clear hK K
  refine AW.cond_f rfl ?_
  refine AW.skip ?_
  refine Thn_n ?_
  refine hK _ _ ?_
  clear hK K
  refine AW.seq_k fun K hK => ?_
  refine AW.seq_k fun K hK => ?_
  refine AW.region (by decide) ?_
  simp only [push_cast, simprocAttr, hb, lk_old hb, b0, b1]
  refine Thn_n ?_
  refine hK _ _ ?_
  clear hK K
  refine AW.block ?_
  refine AW.loopK [1, 18, 19] (fun i => i ≤ Fs.length ∧ ∀ j t, j < i → Fs[j]? = some t → okF P.length t) (fun i => [(20, .one (.int .i64 (i : Int)))]) (fun i => []) (fun i => Fs.length - i) 0 ⟨Nat.zero_le _, fun j t h => absurd h (Nat.not_lt_zero _)⟩ ?_ ?_ fun i hi6 => ?_
  · first | rfl | (simp only [Keeps, Tm.get_cons, Nat.reduceEqDiff, ↓reduceIte, if_true, if_false, ite_true, ite_false, true_and, and_true, and_self, reduceCtorEq, Int.natCast_zero] <;> rfl)
  · first | rfl | (simp only [setAll, push_cast, simprocAttr, hb, lk_old hb, b0, b1, Int.natCast_zero] <;> rfl)
  obtain ⟨hiN, hall⟩ := hi6
  try simp only [keepL, setAll, push_cast, simprocAttr, hb, lk_old hb, b0, b1]
  refine AW.seq_k fun K hK => ?_
  refine AW.region (by decide) ?_
  simp only [push_cast, simprocAttr, hb, lk_old hb, b0, b1]
  refine Thn_n ?_
  refine hK _ _ ?_
  clear hK K
  refine AW.seq_k fun K hK => ?_
  refine AW.cond rfl (fun h21 => ?_) (fun h21 => ?_)
  · have hlt : i < Fs.length := by have := of_decide_eq_true h21; omega
    have c1 : (0 : Int) ≤ (i : Int) := by omega
    have c2 : (i : Int) < (Fs.length : Nat) := by omega
    have c3 : i * 3 + 3 ≤ Fs.length * 3 := by omega
    obtain ⟨t, ht⟩ : ∃ t, Fs[i]? = some t := ⟨_, List.getElem?_eq_getElem hlt⟩
    have g0 := tL_get0 ht
    have g1 := tL_get1 ht
    have g2 := tL_get2 ht
    have g3 := tL_at ht
    have gl := tL_len Fs
    have hmem := List.mem_of_getElem? ht
    refine AW.skip ?_
    refine Thn_n ?_
    refine hK _ _ ?_
    clear hK K
    refine AW.seq_k fun K hK => ?_
    refine AW.block ?_
    iterate 2
      refine AW.seq_k fun K hK => ?_
      refine AW.region (by decide) ?_
      simp only [push_cast, simprocAttr, hb, lk_old hb, b0, b1, c1, c2, c3, g0, g1, g2, g3, gl]
      refine Thn_n ?_
      refine hK _ _ ?_
      clear hK K
    refine AW.block ?_
    refine AW.rounds 4 ?_
    refine ARounds.succ fun K hK => ?_
    refine AW.seq_k fun K hK => ?_
    refine AW.region (by decide) ?_
    simp only [push_cast, simprocAttr, hb, lk_old hb, b0, b1, c1, c2, c3, g0, g1, g2, g3, gl]
    refine Thn_n ?_
    refine hK _ _ ?_
    clear hK K
    refine AW.seq_k fun K hK => ?_
    refine AW.cond_t rfl ?_
    refine AW.skip ?_
    refine Thn_n ?_
    refine hK _ _ ?_
    clear hK K
    refine AW.seq_k fun K hK => ?_
    refine AW.block ?_
    refine AW.seq_k fun K hK => ?_
    refine AW.region (by decide) ?_
    simp only [push_cast, simprocAttr, hb, lk_old hb, b0, b1, c1, c2, c3, g0, g1, g2, g3, gl]
    refine Thn_n ?_
    refine hK _ _ ?_
    clear hK K
    refine AW.seq_k fun K hK => ?_
    have hm0 : Int.tmod 1 3 = 1 := rfl
    rcases (by omega : t.1 < 0 ∨ (¬ t.1 < 0 ∧ (P.length : Int) ≤ t.1) ∨ (¬ t.1 < 0 ∧ ¬ (P.length : Int) ≤ t.1 ∧ t.1 = t.2.1) ∨ (¬ t.1 < 0 ∧ ¬ (P.length : Int) ≤ t.1 ∧ ¬ t.1 = t.2.1)) with d0 | ⟨d0, e0⟩ | ⟨d0, e0, q0⟩ | ⟨d0, e0, q0⟩
    · have hr := chk_1 hno hmem (by unfold okF; omega)
      refine AW.region (by decide) ?_
      simp only [push_cast, simprocAttr, hb, lk_old hb, b0, b1, c1, c2, c3, g0, g1, g2, g3, gl, d0]
      refine Thn_n ?_
      refine hK _ _ ?_
      clear hK K
      refine AW.cond_t rfl ?_
      refine AW.seq_k fun K hK => ?_
      refine AW.region (by decide) ?_
      simp only [push_cast, simprocAttr, hb, lk_old hb, b0, b1, c1, c2, c3, g0, g1, g2, g3, gl, d0]
      refine Thn_n ?_
      refine hK _ _ ?_
      clear hK K
      refine AW.ret ?_
      refine InB_r ?_
      refine Thn_r ?_
      refine Thn_r ?_
      refine InB_r ?_
      refine InB_r ?_
      refine Thn_r ?_
      refine Thn_r ?_
      refine InB_r ?_
      refine Thn_r ?_
      refine hQ _ _ _ ?_
      first | refine RetP.drop0 (Or.inr rfl) ?_ ?_ hwf | refine RetP.drop (Or.inr rfl) ?_ ?_ hwf
      · simp only [resA, resOne, resTv, AV.tv, push_cast, simprocAttr, hb, lk_old hb, b0, b1, c1, c2, c3, g0, g1, g2, g3, gl, d0, hr]
      · rfl
    · have hr := chk_1 hno hmem (by unfold okF; omega)
      refine AW.region (by decide) ?_
      simp only [push_cast, simprocAttr, hb, lk_old hb, b0, b1, c1, c2, c3, g0, g1, g2, g3, gl, d0, e0]
      refine Thn_n ?_
      refine hK _ _ ?_
      clear hK K
      refine AW.cond_t rfl ?_
      refine AW.seq_k fun K hK => ?_
      refine AW.region (by decide) ?_
      simp only [push_cast, simprocAttr, hb, lk_old hb, b0, b1, c1, c2, c3, g0, g1, g2, g3, gl, d0, e0]
      refine Thn_n ?_
      refine hK _ _ ?_
      clear hK K
      refine AW.ret ?_
      refine InB_r ?_
      refine Thn_r ?_
      refine Thn_r ?_
      refine InB_r ?_
      refine InB_r ?_
      refine Thn_r ?_
      refine Thn_r ?_
      refine InB_r ?_
      refine Thn_r ?_
      refine hQ _ _ _ ?_
      first | refine RetP.drop0 (Or.inr rfl) ?_ ?_ hwf | refine RetP.drop (Or.inr rfl) ?_ ?_ hwf
      · simp only [resA, resOne, resTv, AV.tv, push_cast, simprocAttr, hb, lk_old hb, b0, b1, c1, c2, c3, g0, g1, g2, g3, gl, d0, e0, hr]
      · rfl
    · have y0 : (t.1 == t.2.1) = true := by rw [beq_iff_eq]; exact q0
      have hr := chk_1 hno hmem (by unfold okF; omega)
      refine AW.region (by decide) ?_
      simp only [push_cast, simprocAttr, hb, lk_old hb, b0, b1, c1, c2, c3, g0, g1, g2, g3, gl, hm0, d0, e0, y0]
      refine Thn_n ?_
      refine hK _ _ ?_
      clear hK K
      refine AW.cond_t rfl ?_
      refine AW.seq_k fun K hK => ?_
      refine AW.region (by decide) ?_
      simp only [push_cast, simprocAttr, hb, lk_old hb, b0, b1, c1, c2, c3, g0, g1, g2, g3, gl, hm0, d0, e0, y0]
      refine Thn_n ?_
      refine hK _ _ ?_
      clear hK K
      refine AW.ret ?_
      refine InB_r ?_
      refine Thn_r ?_
      refine Thn_r ?_
      refine InB_r ?_
      refine InB_r ?_
      refine Thn_r ?_
      refine Thn_r ?_
      refine InB_r ?_
      refine Thn_r ?_
      refine hQ _ _ _ ?_
      first | refine RetP.drop0 (Or.inr rfl) ?_ ?_ hwf | refine RetP.drop (Or.inr rfl) ?_ ?_ hwf
      · simp only [resA, resOne, resTv, AV.tv, push_cast, simprocAttr, hb, lk_old hb, b0, b1, c1, c2, c3, g0, g1, g2, g3, gl, hm0, d0, e0, y0, hr]
      · rfl
    · have y0 : (t.1 == t.2.1) = false := by rw [beq_eq_false_iff_ne]; exact q0
      refine AW.region (by decide) ?_
      simp only [push_cast, simprocAttr, hb, lk_old hb, b0, b1, c1, c2, c3, g0, g1, g2, g3, gl, hm0, d0, e0, y0]
      refine Thn_n ?_
      refine hK _ _ ?_
      clear hK K
      refine AW.cond_f rfl ?_
      refine AW.skip ?_
      refine InB_n ?_
      refine Thn_n ?_
      refine hK _ _ ?_
      clear hK K
      refine AW.region (by decide) ?_
      simp only [push_cast, simprocAttr, hb, lk_old hb, b0, b1, c1, c2, c3, g0, g1, g2, g3, gl, hm0, d0, e0, y0]
      refine Thn_n ?_
      refine hK _ _ ?_
      clear hK K
      refine ARounds.succ fun K hK => ?_
      refine AW.seq_k fun K hK => ?_
      refine AW.region (by decide) ?_
      simp only [push_cast, simprocAttr, hb, lk_old hb, b0, b1, c1, c2, c3, g0, g1, g2, g3, gl]
      refine Thn_n ?_
      refine hK _ _ ?_
      clear hK K
      refine AW.seq_k fun K hK => ?_
      refine AW.cond_t rfl ?_
      refine AW.skip ?_
      refine Thn_n ?_
      refine hK _ _ ?_
      clear hK K
      refine AW.seq_k fun K hK => ?_
      refine AW.block ?_
      refine AW.seq_k fun K hK => ?_
      refine AW.region (by decide) ?_
      simp only [push_cast, simprocAttr, hb, lk_old hb, b0, b1, c1, c2, c3, g0, g1, g2, g3, gl]
      refine Thn_n ?_
      refine hK _ _ ?_
      clear hK K
      refine AW.seq_k fun K hK => ?_
      have hm1 : Int.tmod 2 3 = 2 := rfl
      rcases (by omega : t.2.1 < 0 ∨ (¬ t.2.1 < 0 ∧ (P.length : Int) ≤ t.2.1) ∨ (¬ t.2.1 < 0 ∧ ¬ (P.length : Int) ≤ t.2.1 ∧ t.2.1 = t.2.2) ∨ (¬ t.2.1 < 0 ∧ ¬ (P.length : Int) ≤ t.2.1 ∧ ¬ t.2.1 = t.2.2)) with d1 | ⟨d1, e1⟩ | ⟨d1, e1, q1⟩ | ⟨d1, e1, q1⟩
      · have hr := chk_1 hno hmem (by unfold okF; omega)
        refine AW.region (by decide) ?_
        simp only [push_cast, simprocAttr, hb, lk_old hb, b0, b1, c1, c2, c3, g0, g1, g2, g3, gl, d1]
        refine Thn_n ?_
        refine hK _ _ ?_
        clear hK K
        refine AW.cond_t rfl ?_
        refine AW.seq_k fun K hK => ?_
        refine AW.region (by decide) ?_
        simp only [push_cast, simprocAttr, hb, lk_old hb, b0, b1, c1, c2, c3, g0, g1, g2, g3, gl, d1]
        refine Thn_n ?_
        refine hK _ _ ?_
        clear hK K
        refine AW.ret ?_
        refine InB_r ?_
        refine Thn_r ?_
        refine Thn_r ?_
        refine InB_r ?_
        refine InB_r ?_
        refine Thn_r ?_
        refine Thn_r ?_
        refine InB_r ?_
        refine Thn_r ?_
        refine hQ _ _ _ ?_
        first | refine RetP.drop0 (Or.inr rfl) ?_ ?_ hwf | refine RetP.drop (Or.inr rfl) ?_ ?_ hwf
        · simp only [resA, resOne, resTv, AV.tv, push_cast, simprocAttr, hb, lk_old hb, b0, b1, c1, c2, c3, g0, g1, g2, g3, gl, d1, hr]
        · rfl
      · have hr := chk_1 hno hmem (by unfold okF; omega)
        refine AW.region (by decide) ?_
        simp only [push_cast, simprocAttr, hb, lk_old hb, b0, b1, c1, c2, c3, g0, g1, g2, g3, gl, d1, e1]
        refine Thn_n ?_
        refine hK _ _ ?_
        clear hK K
        refine AW.cond_t rfl ?_
        refine AW.seq_k fun K hK => ?_
        refine AW.region (by decide) ?_
        simp only [push_cast, simprocAttr, hb, lk_old hb, b0, b1, c1, c2, c3, g0, g1, g2, g3, gl, d1, e1]
        refine Thn_n ?_
        refine hK _ _ ?_
        clear hK K
        refine AW.ret ?_
        refine InB_r ?_
        refine Thn_r ?_
        refine Thn_r ?_
        refine InB_r ?_
        refine InB_r ?_
        refine Thn_r ?_
        refine Thn_r ?_
        refine InB_r ?_
        refine Thn_r ?_
        refine hQ _ _ _ ?_
        first | refine RetP.drop0 (Or.inr rfl) ?_ ?_ hwf | refine RetP.drop (Or.inr rfl) ?_ ?_ hwf
        · simp only [resA, resOne, resTv, AV.tv, push_cast, simprocAttr, hb, lk_old hb, b0, b1, c1, c2, c3, g0, g1, g2, g3, gl, d1, e1, hr]
        · rfl
      · have y1 : (t.2.1 == t.2.2) = true := by rw [beq_iff_eq]; exact q1
        have hr := chk_1 hno hmem (by unfold okF; omega)
        refine AW.region (by decide) ?_
        simp only [push_cast, simprocAttr, hb, lk_old hb, b0, b1, c1, c2, c3, g0, g1, g2, g3, gl, hm1, d1, e1, y1]
        refine Thn_n ?_
        refine hK _ _ ?_
        clear hK K
        refine AW.cond_t rfl ?_
        refine AW.seq_k fun K hK => ?_
        refine AW.region (by decide) ?_
        simp only [push_cast, simprocAttr, hb, lk_old hb, b0, b1, c1, c2, c3, g0, g1, g2, g3, gl, hm1, d1, e1, y1]
        refine Thn_n ?_
        refine hK _ _ ?_
        clear hK K
        refine AW.ret ?_
        refine InB_r ?_
        refine Thn_r ?_
        refine Thn_r ?_
        refine InB_r ?_
        refine InB_r ?_
        refine Thn_r ?_
        refine Thn_r ?_
        refine InB_r ?_
        refine Thn_r ?_
        refine hQ _ _ _ ?_
        first | refine RetP.drop0 (Or.inr rfl) ?_ ?_ hwf | refine RetP.drop (Or.inr rfl) ?_ ?_ hwf
        · simp only [resA, resOne, resTv, AV.tv, push_cast, simprocAttr, hb, lk_old hb, b0, b1, c1, c2, c3, g0, g1, g2, g3, gl, hm1, d1, e1, y1, hr]
        · rfl
      · have y1 : (t.2.1 == t.2.2) = false := by rw [beq_eq_false_iff_ne]; exact q1
        refine AW.region (by decide) ?_
        simp only [push_cast, simprocAttr, hb, lk_old hb, b0, b1, c1, c2, c3, g0, g1, g2, g3, gl, hm1, d1, e1, y1]
        refine Thn_n ?_
        refine hK _ _ ?_
        clear hK K
        refine AW.cond_f rfl ?_
        refine AW.skip ?_
        refine InB_n ?_
        refine Thn_n ?_
        refine hK _ _ ?_
        clear hK K
        refine AW.region (by decide) ?_
        simp only [push_cast, simprocAttr, hb, lk_old hb, b0, b1, c1, c2, c3, g0, g1, g2, g3, gl, hm1, d1, e1, y1]
        refine Thn_n ?_
        refine hK _ _ ?_
        clear hK K
        refine ARounds.succ fun K hK => ?_
        refine AW.seq_k fun K hK => ?_
        refine AW.region (by decide) ?_
        simp only [push_cast, simprocAttr, hb, lk_old hb, b0, b1, c1, c2, c3, g0, g1, g2, g3, gl]
        refine Thn_n ?_
        refine hK _ _ ?_
        clear hK K
        refine AW.seq_k fun K hK => ?_
        refine AW.cond_t rfl ?_
        refine AW.skip ?_
        refine Thn_n ?_
        refine hK _ _ ?_
        clear hK K
        refine AW.seq_k fun K hK => ?_
        refine AW.block ?_
        refine AW.seq_k fun K hK => ?_
        refine AW.region (by decide) ?_
        simp only [push_cast, simprocAttr, hb, lk_old hb, b0, b1, c1, c2, c3, g0, g1, g2, g3, gl]
        refine Thn_n ?_
        refine hK _ _ ?_
        clear hK K
        refine AW.seq_k fun K hK => ?_
        have hm2 : Int.tmod 3 3 = 0 := rfl
        rcases (by omega : t.2.2 < 0 ∨ (¬ t.2.2 < 0 ∧ (P.length : Int) ≤ t.2.2) ∨ (¬ t.2.2 < 0 ∧ ¬ (P.length : Int) ≤ t.2.2 ∧ t.2.2 = t.1) ∨ (¬ t.2.2 < 0 ∧ ¬ (P.length : Int) ≤ t.2.2 ∧ ¬ t.2.2 = t.1)) with d2 | ⟨d2, e2⟩ | ⟨d2, e2, q2⟩ | ⟨d2, e2, q2⟩
        · have hr := chk_1 hno hmem (by unfold okF; omega)
          refine AW.region (by decide) ?_
          simp only [push_cast, simprocAttr, hb, lk_old hb, b0, b1, c1, c2, c3, g0, g1, g2, g3, gl, d2]
          refine Thn_n ?_
          refine hK _ _ ?_
          clear hK K
          refine AW.cond_t rfl ?_
          refine AW.seq_k fun K hK => ?_
          refine AW.region (by decide) ?_
          simp only [push_cast, simprocAttr, hb, lk_old hb, b0, b1, c1, c2, c3, g0, g1, g2, g3, gl, d2]
          refine Thn_n ?_
          refine hK _ _ ?_
          clear hK K
          refine AW.ret ?_
          refine InB_r ?_
          refine Thn_r ?_
          refine Thn_r ?_
          refine InB_r ?_
          refine InB_r ?_
          refine Thn_r ?_
          refine Thn_r ?_
          refine InB_r ?_
          refine Thn_r ?_
          refine hQ _ _ _ ?_
          first | refine RetP.drop0 (Or.inr rfl) ?_ ?_ hwf | refine RetP.drop (Or.inr rfl) ?_ ?_ hwf
          · simp only [resA, resOne, resTv, AV.tv, push_cast, simprocAttr, hb, lk_old hb, b0, b1, c1, c2, c3, g0, g1, g2, g3, gl, d2, hr]
          · rfl
        · have hr := chk_1 hno hmem (by unfold okF; omega)
          refine AW.region (by decide) ?_
          simp only [push_cast, simprocAttr, hb, lk_old hb, b0, b1, c1, c2, c3, g0, g1, g2, g3, gl, d2, e2]
          refine Thn_n ?_
          refine hK _ _ ?_
          clear hK K
          refine AW.cond_t rfl ?_
          refine AW.seq_k fun K hK => ?_
          refine AW.region (by decide) ?_
          simp only [push_cast, simprocAttr, hb, lk_old hb, b0, b1, c1, c2, c3, g0, g1, g2, g3, gl, d2, e2]
          refine Thn_n ?_
          refine hK _ _ ?_
          clear hK K
          refine AW.ret ?_
          refine InB_r ?_
          refine Thn_r ?_
          refine Thn_r ?_
          refine InB_r ?_
          refine InB_r ?_
          refine Thn_r ?_
          refine Thn_r ?_
          refine InB_r ?_
          refine Thn_r ?_
          refine hQ _ _ _ ?_
          first | refine RetP.drop0 (Or.inr rfl) ?_ ?_ hwf | refine RetP.drop (Or.inr rfl) ?_ ?_ hwf
          · simp only [resA, resOne, resTv, AV.tv, push_cast, simprocAttr, hb, lk_old hb, b0, b1, c1, c2, c3, g0, g1, g2, g3, gl, d2, e2, hr]
          · rfl
        · have y2 : (t.2.2 == t.1) = true := by rw [beq_iff_eq]; exact q2
          have hr := chk_1 hno hmem (by unfold okF; omega)
          refine AW.region (by decide) ?_
          simp only [push_cast, simprocAttr, hb, lk_old hb, b0, b1, c1, c2, c3, g0, g1, g2, g3, gl, hm2, d2, e2, y2]
          refine Thn_n ?_
          refine hK _ _ ?_
          clear hK K
          refine AW.cond_t rfl ?_
          refine AW.seq_k fun K hK => ?_
          refine AW.region (by decide) ?_
          simp only [push_cast, simprocAttr, hb, lk_old hb, b0, b1, c1, c2, c3, g0, g1, g2, g3, gl, hm2, d2, e2, y2]
          refine Thn_n ?_
          refine hK _ _ ?_
          clear hK K
          refine AW.ret ?_
          refine InB_r ?_
          refine Thn_r ?_
          refine Thn_r ?_
          refine InB_r ?_
          refine InB_r ?_
          refine Thn_r ?_
          refine Thn_r ?_
          refine InB_r ?_
          refine Thn_r ?_
          refine hQ _ _ _ ?_
          first | refine RetP.drop0 (Or.inr rfl) ?_ ?_ hwf | refine RetP.drop (Or.inr rfl) ?_ ?_ hwf
          · simp only [resA, resOne, resTv, AV.tv, push_cast, simprocAttr, hb, lk_old hb, b0, b1, c1, c2, c3, g0, g1, g2, g3, gl, hm2, d2, e2, y2, hr]
          · rfl
        · have y2 : (t.2.2 == t.1) = false := by rw [beq_eq_false_iff_ne]; exact q2
          refine AW.region (by decide) ?_
          simp only [push_cast, simprocAttr, hb, lk_old hb, b0, b1, c1, c2, c3, g0, g1, g2, g3, gl, hm2, d2, e2, y2]
          refine Thn_n ?_
          refine hK _ _ ?_
          clear hK K
          refine AW.cond_f rfl ?_
          refine AW.skip ?_
          refine InB_n ?_
          refine Thn_n ?_
          refine hK _ _ ?_
          clear hK K
          refine AW.region (by decide) ?_
          simp only [push_cast, simprocAttr, hb, lk_old hb, b0, b1, c1, c2, c3, g0, g1, g2, g3, gl, hm2, d2, e2, y2]
          refine Thn_n ?_
          refine hK _ _ ?_
          clear hK K
          refine ARounds.succ fun K hK => ?_
          refine AW.seq_k fun K hK => ?_
          refine AW.region (by decide) ?_
          simp only [push_cast, simprocAttr, hb, lk_old hb, b0, b1, c1, c2, c3, g0, g1, g2, g3, gl]
          refine Thn_n ?_
          refine hK _ _ ?_
          clear hK K
          refine AW.seq_k fun K hK => ?_
          refine AW.cond_f rfl ?_
          refine AW.exit ?_
          refine Thn_e ?_
          clear hK K
          refine Thn_e ?_
          clear hK K
          refine InB_here ?_
          refine InB_n ?_
          refine Thn_n ?_
          refine hK _ _ ?_
          clear hK K
          refine AW.region (by decide) ?_
          simp only [push_cast, simprocAttr, hb, lk_old hb, b0, b1, c1, c2, c3, g0, g1, g2, g3, gl]
          refine Thn_n ?_
          have hwi : IntKind.i64.wrap ((i:Int)+1) = (i:Int)+1 := wi (by omega)
          refine ⟨i + 1, ⟨by omega, fun j t2 hj h2 => by
            rcases Nat.lt_or_ge j i with h | h
            · exact hall j t2 h h2
            · rw [show j = i by omega, ht] at h2; injection h2 with h2; rw [← h2]; exact ⟨d0, e0, q0, d1, e1, q1, d2, e2, q2⟩⟩, by omega, ?_⟩
          try simp only [keepL, setAll, push_cast, simprocAttr, hb, lk_old hb, b0, b1, c1, c2, c3, g0, g1, g2, g3, gl, hwi]
          exact Weak.to (extra := [_]) (by simp only [Keeps, Tm.get_cons, Nat.reduceEqDiff, ↓reduceIte, if_true, if_false, ite_true, ite_false, true_and, and_true, and_self, reduceCtorEq, hwi]) (by first | rfl | (simp only [List.append_assoc, List.cons_append, List.nil_append]; rfl)) (by first | rfl | (simp [AV.below, CV.below]; done) | (simp [AV.below, CV.below]; omega)) (by
            first | exact hwf | refine MWf.app (hwf.grow (by simp)) ?_
            repeat (first | exact MWf_nil | (refine MWf_cons ?_ ?_; · first | rfl | (simp [CV.below]; done) | (simp [CV.below]; omega))))
  · have hin : i = Fs.length := by have := of_decide_eq_false h21; omega
    have hr := chk_0 hno fun t hm => by
      obtain ⟨j, hj⟩ := List.getElem?_of_mem hm
      exact hall j t (by have := (List.getElem?_eq_some_iff.1 hj).1; omega) hj
    refine AW.exit ?_
    refine Thn_e ?_
    clear hK K
    refine Thn_e ?_
    refine InB_here ?_
    refine Thn_n ?_
    refine hK _ _ ?_
    clear hK K
    refine AW.seq_k fun K hK => ?_
    refine AW.region (by decide) ?_
    simp only [push_cast, simprocAttr, hb, lk_old hb, b0, b1]
    refine Thn_n ?_
    refine hK _ _ ?_
    clear hK K
    refine AW.ret ?_
    refine hQ _ _ _ ?_
    first | refine RetP.drop0 (Or.inr rfl) ?_ ?_ hwf | refine RetP.drop (Or.inr rfl) ?_ ?_ hwf
    · simp only [resA, resOne, resTv, AV.tv, push_cast, simprocAttr, hb, lk_old hb, b0, b1, hr]
    · rfl
theorem check_c (rp vp rf vf : Nat) (P Fs : List T3) (m : AMem) (hp : rp < m.length) (hf : TRow m 54 rf vf Fs) : Ctr Try.prog 19 [.agg [.sl rp vp 0 P.length, .sl rf vf 0 Fs.length]] m (.one (.int .i64 (chk P.length Fs))) m := by
  by_cases h0 : 1024 < P.length
  · exact check_c_8a rp vp rf vf P Fs m h0
  · by_cases h1 : 1024 < Fs.length
    · exact check_c_8b rp vp rf vf P Fs m h0 h1
    · exact check_c_9 rp vp rf vf P Fs m h0 h1 hp hf
theorem rcheck_c_8a (rp vp rf vf : Nat) (P Fs : List T3) (m : AMem) (h : 1024 < P.length) : Ctr Try.prog 20 [.agg [.sl rp vp 0 P.length, .sl rf vf 0 Fs.length]] m (.one (.int .i64 (chk P.length Fs))) m := by
  refine Ctr.enter Try.func20 rfl (by decide) (rs := [.tmp 2]) (nt := 88) rfl rfl fun hwf Q hQ => ?_
  have b1 : (1024 : Int) < (P.length : Int) := by omega
  have hr := chk_8 (n := P.length) (l := Fs) (.inl h)
  refine AW.seq_k fun K hK => ?_
  refine AW.region (by decide) ?_
  simp only [push_cast, simprocAttr, b1]
  refine Thn_n ?_
  refine hK _ _ ?_
  clear hK K
  refine AW.seq_k fun K hK => ?_
  refine AW.seq_k fun K hK => ?_
  refine AW.region (by decide) ?_
  simp only [push_cast, simprocAttr, b1]
  refine Thn_n ?_
  refine hK _ _ ?_
  clear hK K
  refine AW.cond_t rfl ?_
  refine AW.seq_k fun K hK => ?_
  refine AW.region (by decide) ?_
  simp only [push_cast, simprocAttr, b1]
  refine Thn_n ?_
  refine hK _ _ ?_
  clear hK K
  refine AW.ret ?_
  refine Thn_r ?_
  refine hQ _ _ _ ?_
  first | refine RetP.drop0 (Or.inr rfl) ?_ ?_ hwf | refine RetP.drop (Or.inr rfl) ?_ ?_ hwf
  · simp only [resA, resOne, resTv, AV.tv, push_cast, simprocAttr, b1, hr]
  · rfl
theorem rcheck_c_8b (rp vp rf vf : Nat) (P Fs : List T3) (m : AMem) (h0 : ¬ 1024 < P.length) (h : 1024 < Fs.length) : Ctr Try.prog 20 [.agg [.sl rp vp 0 P.length, .sl rf vf 0 Fs.length]] m (.one (.int .i64 (chk P.length Fs))) m := by
  refine Ctr.enter Try.func20 rfl (by decide) (rs := [.tmp 2]) (nt := 88) rfl rfl fun hwf Q hQ => ?_
  have b0 : ¬ (1024 : Int) < (P.length : Int) := by omega
  have b1 : (1024 : Int) < (Fs.length : Int) := by omega
  have hr := chk_8 (n := P.length) (l := Fs) (.inr h)
  refine AW.seq_k fun K hK => ?_
  refine AW.region (by decide) ?_
  simp only [push_cast, simprocAttr, b0, b1]
  refine Thn_n ?_
  refine hK _ _ ?_
  clear hK K
  refine AW.seq_k fun K hK => ?_
  refine AW.seq_k fun K hK => ?_
  refine AW.region (by decide) ?_
  simp only [push_cast, simprocAttr, b0, b1]
  refine Thn_n ?_
  refine hK _ _ ?_
  clear hK K
  refine AW.cond_t rfl ?_
  refine AW.seq_k fun K hK => ?_
  refine AW.region (by decide) ?_
  simp only [push_cast, simprocAttr, b0, b1]
  refine Thn_n ?_
  refine hK _ _ ?_
  clear hK K
  refine AW.ret ?_
  refine Thn_r ?_
  refine hQ _ _ _ ?_
  first | refine RetP.drop0 (Or.inr rfl) ?_ ?_ hwf | refine RetP.drop (Or.inr rfl) ?_ ?_ hwf
  · simp only [resA, resOne, resTv, AV.tv, push_cast, simprocAttr, b0, b1, hr]
  · rfl
theorem rcheck_c_9 (rp vp rf vf : Nat) (P Fs : List T3) (m : AMem) (h0 : ¬ 1024 < P.length) (h1 : ¬ 1024 < Fs.length) (hp : rp < m.length) (hf : TRow m 54 rf vf Fs) : Ctr Try.prog 20 [.agg [.sl rp vp 0 P.length, .sl rf vf 0 Fs.length]] m (.one (.int .i64 (chk P.length Fs))) m := by
  refine Ctr.enter Try.func20 rfl (by decide) (rs := [.tmp 2]) (nt := 88) rfl rfl fun hwf Q hQ => ?_
  obtain ⟨k0, ez, hb⟩ := hf.hb
  have hr0 := get_lt hb
  have b0 : ¬ (1024 : Int) < (P.length : Int) := by omega
  have b1 : ¬ (1024 : Int) < (Fs.length : Int) := by omega
  have hno : ¬ (1024 < P.length ∨ 1024 < Fs.length) := by omega
  refine AW.seq_k fun K hK => ?_
  refine AW.region (by decide) ?_
  simp only [push_cast, simprocAttr, hb, lk_old hb, b0, b1]
  refine Thn_n ?_
  refine hK _ _ ?_
  clear hK K
  refine AW.seq_k fun K hK => ?_
  refine AW.seq_k fun K hK => ?_
  refine AW.region (by decide) ?_
  simp only [push_cast, simprocAttr, hb, lk_old hb, b0, b1]
  refine Thn_n ?_
  refine hK _ _ ?_
  clear hK K
  refine AW.cond_f rfl ?_
  refine AW.skip ?_
  refine Thn_n ?_
  refine hK _ _ ?_
  clear hK K
  refine AW.seq_k fun K hK => ?_
  refine AW.seq_k fun K hK => ?_
  refine AW.region (by decide) ?_
  simp only [push_cast, simprocAttr, hb, lk_old hb, b0, b1]
  refine Thn_n ?_
  refine hK _ _ ?_
  clear hK K
  refine AW.block ?_
  refine AW.loopK [1] (fun i => i ≤ Fs.length ∧ ∀ j t, j < i → Fs[j]? = some t → okF P.length t) (fun i => [(3, .one (.int .i64 (i : Int)))]) (fun i => []) (fun i => Fs.length - i) 0 ⟨Nat.zero_le _, fun j t h => absurd h (Nat.not_lt_zero _)⟩ ?_ ?_ fun i hi6 => ?_
  · first | rfl | (simp only [Keeps, Tm.get_cons, Nat.reduceEqDiff, ↓reduceIte, if_true, if_false, ite_true, ite_false, true_and, and_true, and_self, reduceCtorEq, Int.natCast_zero] <;> rfl)
  · first | rfl | (simp only [setAll, push_cast, simprocAttr, hb, lk_old hb, b0, b1, Int.natCast_zero] <;> rfl)
  obtain ⟨hiN, hall⟩ := hi6
  try simp only [keepL, setAll, push_cast, simprocAttr, hb, lk_old hb, b0, b1]
  refine AW.seq_k fun K hK => ?_
  refine AW.seq_k fun K hK => ?_
  refine AW.region (by decide) ?_
  simp only [push_cast, simprocAttr, hb, lk_old hb, b0, b1]
  refine Thn_n ?_
  refine hK _ _ ?_
  clear hK K
  refine AW.cond rfl (fun h21 => ?_) (fun h21 => ?_)
  · have hlt : i < Fs.length := by have := of_decide_eq_true h21; omega
    have c1 : (0 : Int) ≤ (i : Int) := by omega
    have c2 : (i : Int) < (Fs.length : Nat) := by omega
    have c3 : i * 3 + 3 ≤ Fs.length * 3 := by omega
    obtain ⟨t, ht⟩ : ∃ t, Fs[i]? = some t := ⟨_, List.getElem?_eq_getElem hlt⟩
    have g0 := tL_get0 ht
    have g1 := tL_get1 ht
    have g2 := tL_get2 ht
    have g3 := tL_at ht
    have gl := tL_len Fs
    have hmem := List.mem_of_getElem? ht
    refine AW.skip ?_
    refine Thn_n ?_
    refine hK _ _ ?_
    clear hK K
    refine AW.seq_k fun K hK => ?_
    refine AW.block ?_
    refine AW.seq_k fun K hK => ?_
    refine AW.draw [.val, .rd 0, .val, .val, .val, .rd 0, .val, .rd 0, .val, .val, .val, .rd 0, .val, .rd 0, .val, .val, .val, .rd 0, .val, .val, .val] fol (by decide) (by kernel_rfl) ?_
    simp only [push_cast, simprocAttr, hb, lk_old hb, b0, b1, c1, c2, c3, g0, g1, g2, g3, gl]
    refine Thn_n ?_
    refine hK _ _ ?_
    clear hK K
    refine AW.seq_k fun K hK => ?_
    rcases chain9 (t.1 < 0) (t.2.1 < 0) (t.2.2 < 0) ((P.length : Int) ≤ t.1) ((P.length : Int) ≤ t.2.1) ((P.length : Int) ≤ t.2.2) (t.1 = t.2.1) (t.2.1 = t.2.2) (t.1 = t.2.2) with s0 | ⟨s0, s1⟩ | ⟨s0, s1, s2⟩ | ⟨s0, s1, s2, s3⟩ | ⟨s0, s1, s2, s3, s4⟩ | ⟨s0, s1, s2, s3, s4, s5⟩ | ⟨s0, s1, s2, s3, s4, s5, s6⟩ | ⟨s0, s1, s2, s3, s4, s5, s6, s7⟩ | ⟨s0, s1, s2, s3, s4, s5, s6, s7, s8⟩ | ⟨s0, s1, s2, s3, s4, s5, s6, s7, s8⟩
    · have hr := chk_1 hno hmem (by unfold okF; omega)
      refine AW.region (by decide) ?_
      simp only [push_cast, simprocAttr, hb, lk_old hb, b0, b1, c1, c2, c3, g0, g1, g2, g3, gl, s0]
      refine Thn_n ?_
      refine hK _ _ ?_
      clear hK K
      refine AW.cond_t rfl ?_
      refine AW.seq_k fun K hK => ?_
      refine AW.region (by decide) ?_
      simp only [push_cast, simprocAttr, hb, lk_old hb, b0, b1, c1, c2, c3, g0, g1, g2, g3, gl, s0]
      refine Thn_n ?_
      refine hK _ _ ?_
      clear hK K
      refine AW.ret ?_
      refine InB_r ?_
      refine Thn_r ?_
      refine Thn_r ?_
      refine InB_r ?_
      refine Thn_r ?_
      refine hQ _ _ _ ?_
      first | refine RetP.drop0 (Or.inr rfl) ?_ ?_ hwf | refine RetP.drop (Or.inr rfl) ?_ ?_ hwf
      · simp only [resA, resOne, resTv, AV.tv, push_cast, simprocAttr, hb, lk_old hb, b0, b1, c1, c2, c3, g0, g1, g2, g3, gl, s0, hr]
      · rfl
    · have hr := chk_1 hno hmem (by unfold okF; omega)
      refine AW.region (by decide) ?_
      simp only [push_cast, simprocAttr, hb, lk_old hb, b0, b1, c1, c2, c3, g0, g1, g2, g3, gl, s0, s1]
      refine Thn_n ?_
      refine hK _ _ ?_
      clear hK K
      refine AW.cond_t rfl ?_
      refine AW.seq_k fun K hK => ?_
      refine AW.region (by decide) ?_
      simp only [push_cast, simprocAttr, hb, lk_old hb, b0, b1, c1, c2, c3, g0, g1, g2, g3, gl, s0, s1]
      refine Thn_n ?_
      refine hK _ _ ?_
      clear hK K
      refine AW.ret ?_
      refine InB_r ?_
      refine Thn_r ?_
      refine Thn_r ?_
      refine InB_r ?_
      refine Thn_r ?_
      refine hQ _ _ _ ?_
      first | refine RetP.drop0 (Or.inr rfl) ?_ ?_ hwf | refine RetP.drop (Or.inr rfl) ?_ ?_ hwf
      · simp only [resA, resOne, resTv, AV.tv, push_cast, simprocAttr, hb, lk_old hb, b0, b1, c1, c2, c3, g0, g1, g2, g3, gl, s0, s1, hr]
      · rfl
    · have hr := chk_1 hno hmem (by unfold okF; omega)
      refine AW.region (by decide) ?_
      simp only [push_cast, simprocAttr, hb, lk_old hb, b0, b1, c1, c2, c3, g0, g1, g2, g3, gl, s0, s1, s2]
      refine Thn_n ?_
      refine hK _ _ ?_
      clear hK K
      refine AW.cond_t rfl ?_
      refine AW.seq_k fun K hK => ?_
      refine AW.region (by decide) ?_
      simp only [push_cast, simprocAttr, hb, lk_old hb, b0, b1, c1, c2, c3, g0, g1, g2, g3, gl, s0, s1, s2]
      refine Thn_n ?_
      refine hK _ _ ?_
      clear hK K
      refine AW.ret ?_
      refine InB_r ?_
      refine Thn_r ?_
      refine Thn_r ?_
      refine InB_r ?_
      refine Thn_r ?_
      refine hQ _ _ _ ?_
      first | refine RetP.drop0 (Or.inr rfl) ?_ ?_ hwf | refine RetP.drop (Or.inr rfl) ?_ ?_ hwf
      · simp only [resA, resOne, resTv, AV.tv, push_cast, simprocAttr, hb, lk_old hb, b0, b1, c1, c2, c3, g0, g1, g2, g3, gl, s0, s1, s2, hr]
      · rfl
    · have hr := chk_1 hno hmem (by unfold okF; omega)
      refine AW.region (by decide) ?_
      simp only [push_cast, simprocAttr, hb, lk_old hb, b0, b1, c1, c2, c3, g0, g1, g2, g3, gl, s0, s1, s2, s3]
      refine Thn_n ?_
      refine hK _ _ ?_
      clear hK K
      refine AW.cond_t rfl ?_
      refine AW.seq_k fun K hK => ?_
      refine AW.region (by decide) ?_
      simp only [push_cast, simprocAttr, hb, lk_old hb, b0, b1, c1, c2, c3, g0, g1, g2, g3, gl, s0, s1, s2, s3]
      refine Thn_n ?_
      refine hK _ _ ?_
      clear hK K
      refine AW.ret ?_
      refine InB_r ?_
      refine Thn_r ?_
      refine Thn_r ?_
      refine InB_r ?_
      refine Thn_r ?_
      refine hQ _ _ _ ?_
      first | refine RetP.drop0 (Or.inr rfl) ?_ ?_ hwf | refine RetP.drop (Or.inr rfl) ?_ ?_ hwf
      · simp only [resA, resOne, resTv, AV.tv, push_cast, simprocAttr, hb, lk_old hb, b0, b1, c1, c2, c3, g0, g1, g2, g3, gl, s0, s1, s2, s3, hr]
      · rfl
    · have hr := chk_1 hno hmem (by unfold okF; omega)
      refine AW.region (by decide) ?_
      simp only [push_cast, simprocAttr, hb, lk_old hb, b0, b1, c1, c2, c3, g0, g1, g2, g3, gl, s0, s1, s2, s3, s4]
      refine Thn_n ?_
      refine hK _ _ ?_
      clear hK K
      refine AW.cond_t rfl ?_
      refine AW.seq_k fun K hK => ?_
      refine AW.region (by decide) ?_
      simp only [push_cast, simprocAttr, hb, lk_old hb, b0, b1, c1, c2, c3, g0, g1, g2, g3, gl, s0, s1, s2, s3, s4]
      refine Thn_n ?_
      refine hK _ _ ?_
      clear hK K
      refine AW.ret ?_
      refine InB_r ?_
      refine Thn_r ?_
      refine Thn_r ?_
      refine InB_r ?_
      refine Thn_r ?_
      refine hQ _ _ _ ?_
      first | refine RetP.drop0 (Or.inr rfl) ?_ ?_ hwf | refine RetP.drop (Or.inr rfl) ?_ ?_ hwf
      · simp only [resA, resOne, resTv, AV.tv, push_cast, simprocAttr, hb, lk_old hb, b0, b1, c1, c2, c3, g0, g1, g2, g3, gl, s0, s1, s2, s3, s4, hr]
      · rfl
    · have hr := chk_1 hno hmem (by unfold okF; omega)
      refine AW.region (by decide) ?_
      simp only [push_cast, simprocAttr, hb, lk_old hb, b0, b1, c1, c2, c3, g0, g1, g2, g3, gl, s0, s1, s2, s3, s4, s5]
      refine Thn_n ?_
      refine hK _ _ ?_
      clear hK K
      refine AW.cond_t rfl ?_
      refine AW.seq_k fun K hK => ?_
      refine AW.region (by decide) ?_
      simp only [push_cast, simprocAttr, hb, lk_old hb, b0, b1, c1, c2, c3, g0, g1, g2, g3, gl, s0, s1, s2, s3, s4, s5]
      refine Thn_n ?_
      refine hK _ _ ?_
      clear hK K
      refine AW.ret ?_
      refine InB_r ?_
      refine Thn_r ?_
      refine Thn_r ?_
      refine InB_r ?_
      refine Thn_r ?_
      refine hQ _ _ _ ?_
      first | refine RetP.drop0 (Or.inr rfl) ?_ ?_ hwf | refine RetP.drop (Or.inr rfl) ?_ ?_ hwf
      · simp only [resA, resOne, resTv, AV.tv, push_cast, simprocAttr, hb, lk_old hb, b0, b1, c1, c2, c3, g0, g1, g2, g3, gl, s0, s1, s2, s3, s4, s5, hr]
      · rfl
    · have y6 : (t.1 == t.2.1) = true := by rw [beq_iff_eq]; exact s6
      have hr := chk_1 hno hmem (by unfold okF; omega)
      refine AW.region (by decide) ?_
      simp only [push_cast, simprocAttr, hb, lk_old hb, b0, b1, c1, c2, c3, g0, g1, g2, g3, gl, s0, s1, s2, s3, s4, s5, y6]
      refine Thn_n ?_
      refine hK _ _ ?_
      clear hK K
      refine AW.cond_t rfl ?_
      refine AW.seq_k fun K hK => ?_
      refine AW.region (by decide) ?_
      simp only [push_cast, simprocAttr, hb, lk_old hb, b0, b1, c1, c2, c3, g0, g1, g2, g3, gl, s0, s1, s2, s3, s4, s5, y6]
      refine Thn_n ?_
      refine hK _ _ ?_
      clear hK K
      refine AW.ret ?_
      refine InB_r ?_
      refine Thn_r ?_
      refine Thn_r ?_
      refine InB_r ?_
      refine Thn_r ?_
      refine hQ _ _ _ ?_
      first | refine RetP.drop0 (Or.inr rfl) ?_ ?_ hwf | refine RetP.drop (Or.inr rfl) ?_ ?_ hwf
      · simp only [resA, resOne, resTv, AV.tv, push_cast, simprocAttr, hb, lk_old hb, b0, b1, c1, c2, c3, g0, g1, g2, g3, gl, s0, s1, s2, s3, s4, s5, y6, hr]
      · rfl
    · have y6 : (t.1 == t.2.1) = false := by rw [beq_eq_false_iff_ne]; exact s6
      have y7 : (t.2.1 == t.2.2) = true := by rw [beq_iff_eq]; exact s7
      have hr := chk_1 hno hmem (by unfold okF; omega)
      refine AW.region (by decide) ?_
      simp only [push_cast, simprocAttr, hb, lk_old hb, b0, b1, c1, c2, c3, g0, g1, g2, g3, gl, s0, s1, s2, s3, s4, s5, y6, y7]
      refine Thn_n ?_
      refine hK _ _ ?_
      clear hK K
      refine AW.cond_t rfl ?_
      refine AW.seq_k fun K hK => ?_
      refine AW.region (by decide) ?_
      simp only [push_cast, simprocAttr, hb, lk_old hb, b0, b1, c1, c2, c3, g0, g1, g2, g3, gl, s0, s1, s2, s3, s4, s5, y6, y7]
      refine Thn_n ?_
      refine hK _ _ ?_
      clear hK K
      refine AW.ret ?_
      refine InB_r ?_
      refine Thn_r ?_
      refine Thn_r ?_
      refine InB_r ?_
      refine Thn_r ?_
      refine hQ _ _ _ ?_
      first | refine RetP.drop0 (Or.inr rfl) ?_ ?_ hwf | refine RetP.drop (Or.inr rfl) ?_ ?_ hwf
      · simp only [resA, resOne, resTv, AV.tv, push_cast, simprocAttr, hb, lk_old hb, b0, b1, c1, c2, c3, g0, g1, g2, g3, gl, s0, s1, s2, s3, s4, s5, y6, y7, hr]
      · rfl
    · have y6 : (t.1 == t.2.1) = false := by rw [beq_eq_false_iff_ne]; exact s6
      have y7 : (t.2.1 == t.2.2) = false := by rw [beq_eq_false_iff_ne]; exact s7
      have y8 : (t.1 == t.2.2) = true := by rw [beq_iff_eq]; exact s8
      have hr := chk_1 hno hmem (by unfold okF; omega)
      refine AW.region (by decide) ?_
      simp only [push_cast, simprocAttr, hb, lk_old hb, b0, b1, c1, c2, c3, g0, g1, g2, g3, gl, s0, s1, s2, s3, s4, s5, y6, y7, y8]
      refine Thn_n ?_
      refine hK _ _ ?_
      clear hK K
      refine AW.cond_t rfl ?_
      refine AW.seq_k fun K hK => ?_
      refine AW.region (by decide) ?_
      simp only [push_cast, simprocAttr, hb, lk_old hb, b0, b1, c1, c2, c3, g0, g1, g2, g3, gl, s0, s1, s2, s3, s4, s5, y6, y7, y8]
      refine Thn_n ?_
      refine hK _ _ ?_
      clear hK K
      refine AW.ret ?_
      refine InB_r ?_
      refine Thn_r ?_
      refine Thn_r ?_
      refine InB_r ?_
      refine Thn_r ?_
      refine hQ _ _ _ ?_
      first | refine RetP.drop0 (Or.inr rfl) ?_ ?_ hwf | refine RetP.drop (Or.inr rfl) ?_ ?_ hwf
      · simp only [resA, resOne, resTv, AV.tv, push_cast, simprocAttr, hb, lk_old hb, b0, b1, c1, c2, c3, g0, g1, g2, g3, gl, s0, s1, s2, s3, s4, s5, y6, y7, y8, hr]
      · rfl
    · have y6 : (t.1 == t.2.1) = false := by rw [beq_eq_false_iff_ne]; exact s6
      have y7 : (t.2.1 == t.2.2) = false := by rw [beq_eq_false_iff_ne]; exact s7
      have y8 : (t.1 == t.2.2) = false := by rw [beq_eq_false_iff_ne]; exact s8
      have hok : okF P.length t := ⟨s0, s3, s6, s1, s4, s7, s2, s5, fun h => s8 h.symm⟩
      refine AW.region (by decide) ?_
      simp only [push_cast, simprocAttr, hb, lk_old hb, b0, b1, c1, c2, c3, g0, g1, g2, g3, gl, s0, s1, s2, s3, s4, s5, y6, y7, y8]
      refine Thn_n ?_
      refine hK _ _ ?_
      clear hK K
      refine AW.cond_f rfl ?_
      refine AW.skip ?_
      refine InB_n ?_
      refine Thn_n ?_
      refine hK _ _ ?_
      clear hK K
      refine AW.region (by decide) ?_
      simp only [push_cast, simprocAttr, hb, lk_old hb, b0, b1, c1, c2, c3, g0, g1, g2, g3, gl, s0, s1, s2, s3, s4, s5, y6, y7, y8]
      refine Thn_n ?_
      have hwi : IntKind.i64.wrap ((i:Int)+1) = (i:Int)+1 := wi (by omega)
      refine ⟨i + 1, ⟨by omega, fun j t2 hj h2 => by
        rcases Nat.lt_or_ge j i with h | h
        · exact hall j t2 h h2
        · rw [show j = i by omega, ht] at h2; injection h2 with h2; rw [← h2]; exact hok⟩, by omega, ?_⟩
      try simp only [keepL, setAll, push_cast, simprocAttr, hb, lk_old hb, b0, b1, c1, c2, c3, g0, g1, g2, g3, gl, s0, s1, s2, s3, s4, s5, y6, y7, y8, hwi]
      exact Weak.same (by simp only [Keeps, Tm.get_cons, Nat.reduceEqDiff, ↓reduceIte, if_true, if_false, ite_true, ite_false, true_and, and_true, and_self, reduceCtorEq, hwi]) (by first | rfl | simp only [Keeps, Tm.get_cons, Nat.reduceEqDiff, ↓reduceIte, if_true, if_false, ite_true, ite_false, true_and, and_true, and_self, reduceCtorEq, hwi])
  · have hin : i = Fs.length := by have := of_decide_eq_false h21; omega
    have hr := chk_0 hno fun t hm => by
      obtain ⟨j, hj⟩ := List.getElem?_of_mem hm
      exact hall j t (by have := (List.getElem?_eq_some_iff.1 hj).1; omega) hj
    refine AW.exit ?_
    refine Thn_e ?_
    clear hK K
    refine Thn_e ?_
    refine InB_here ?_
    refine Thn_n ?_
    refine hK _ _ ?_
    clear hK K
    refine AW.seq_k fun K hK => ?_
    refine AW.region (by decide) ?_
    simp only [push_cast, simprocAttr, hb, lk_old hb, b0, b1]
    refine Thn_n ?_
    refine hK _ _ ?_
    clear hK K
    refine AW.ret ?_
    refine hQ _ _ _ ?_
    first | refine RetP.drop0 (Or.inr rfl) ?_ ?_ hwf | refine RetP.drop (Or.inr rfl) ?_ ?_ hwf
    · simp only [resA, resOne, resTv, AV.tv, push_cast, simprocAttr, hb, lk_old hb, b0, b1, hr]
    · rfl
theorem rcheck_c (rp vp rf vf : Nat) (P Fs : List T3) (m : AMem) (hp : rp < m.length) (hf : TRow m 54 rf vf Fs) : Ctr Try.prog 20 [.agg [.sl rp vp 0 P.length, .sl rf vf 0 Fs.length]] m (.one (.int .i64 (chk P.length Fs))) m := by
  by_cases h0 : 1024 < P.length
  · exact rcheck_c_8a rp vp rf vf P Fs m h0
  · by_cases h1 : 1024 < Fs.length
    · exact rcheck_c_8b rp vp rf vf P Fs m h0 h1
    · exact rcheck_c_9 rp vp rf vf P Fs m h0 h1 hp hf
end Go.Proofs.Ytiogpaehelpmhaa

/-
  ENGINE, PART Y: a step of a loop over a map of our own: whichever entry is left may come next. What a package-level variable holds, where memory grows.
-/
set_option linter.unusedVariables false
set_option linter.unusedSimpArgs false
namespace Go.Eng
open Go
variable {P : Program} {nt : Nat} {tm : Tm} {mem : AMem} {Q : Exit → Tm → AMem → Prop}

theorem AW.wfI {c : Code} (h : MWf mem.length mem → AW P nt c tm mem Q) : AW P nt c tm mem Q := fun ρ a w hr => h hr.mem.wf ρ a w hr

theorem gB_app {m : AMem} {g : Nat} {cs : List CV} (h : gB m g = some cs) (x : AMem) : gB (m ++ x) g = some cs := by
  unfold gB at h ⊢
  rw [List.find?_append]
  cases hf : m.find? fun b => b.kind.tag == 2 && b.ver == g + 1 && !b.cells.isEmpty with
  | none => rw [hf] at h; cases h
  | some b => rw [hf] at h; simpa using h
theorem gB_set {m : AMem} {g : Nat} {cs : List CV} (h : gB m g = some cs) {r : Nat} {b b' : Blk} (hb : m[r]? = some b) (hk : b.kind ≠ .ro) (hk' : b'.kind ≠ .ro) : gB (m.set r b') g = some cs := by
  have key : ∀ (m : AMem) (r : Nat), m[r]? = some b → ((m.set r b').find? fun b => b.kind.tag == 2 && b.ver == g + 1 && !b.cells.isEmpty) = m.find? fun b => b.kind.tag == 2 && b.ver == g + 1 && !b.cells.isEmpty := by
    intro m
    induction m with
    | nil => intro r h; simp at h
    | cons x m ih =>
      intro r h
      have hno : ∀ y : Blk, y.kind ≠ .ro → (y.kind.tag == 2) = false := fun y hy => by
        rw [beq_eq_false_iff_ne]; exact fun e => hy (BK.tag_ro.1 e)
      cases r with
      | zero =>
        simp only [List.getElem?_cons_zero, Option.some.injEq] at h
        subst h
        simp only [List.set_cons_zero, List.find?_cons, hno _ hk, hno _ hk', Bool.false_and]
      | succ r =>
        simp only [List.getElem?_cons_succ] at h
        simp only [List.set_cons_succ, List.find?_cons, ih r h]
  unfold gB at h ⊢
  rw [key m r hb]; exact h

theorem leftOf_mem {ρ : Env} {ka va : Bool} {seen : List Nat} : ∀ {es : List (Nat × List CV × List CV)} {o : List MapEntry}, All2 (entR ρ ka va) es o → ∀ {x : MapEntry}, x ∈ o → x.born ∉ seen → ∃ (j : Nat) (e : Nat × List CV × List CV), es[j]? = some e ∧ e.1 = x.born ∧ e.1 ∉ seen ∧ entR ρ ka va e x
  | [], [], _, x, h, _ => by cases h
  | e :: es, y :: o, ho, x, h, hs => by
    rcases List.mem_cons.1 h with rfl | h
    · exact ⟨0, e, rfl, ho.1.1.symm, by rw [← ho.1.1]; exact hs, ho.1⟩
    · obtain ⟨j, e', h1, h2⟩ := leftOf_mem ho.2 h hs
      exact ⟨j + 1, e', by simpa using h1, h2⟩
  | [], _ :: _, h, _, _, _ => h.elim
  | _ :: _, [], h, _, _, _ => h.elim

/-- A STEP OF A LOOP OVER A MAP. -/
theorem AW.next {id d t : Nat} {ty : TypeId} {pos : String} {af : Array Edge} {l : List Oper} (ri rm since last : Nat) (seen : List Nat) {ity iesz : Nat} {clock : Nat} {ka va : Bool} {es : List (Nat × List CV × List CV)}
    (hd : d < nt) (hl : l.all (dstOk nt) = true) (hit : Tm.get tm t = .one (.ptr ri 0 0)) (hi : mem[ri]? = some ⟨.iter rm since seen last, ity, 0, iesz, []⟩) (hm : mapAt mem rm 0 = some (ka, va, clock, es))
    (hold : ∀ e, e ∈ es → e.1 < since) (hsc : since ≤ last)
    (hMore : ∀ (j : Nat) (e : Nat × List CV × List CV), es[j]? = some e → e.1 ∉ seen → AOps P (⟨some d, .next (.tmp t) false, ty, pos, af, none⟩ :: l).toArray l ((d, .tup [(false, [.bool true]), (ka, e.2.1), (va, e.2.2)]) :: tm) (mem.set ri ⟨.iter rm since (seen ++ [e.1]) clock, ity, 0, iesz, []⟩) (Q .normal))
    (hDone : (∀ e, e ∈ es → e.1 ∈ seen) → AOps P (⟨some d, .next (.tmp t) false, ty, pos, af, none⟩ :: l).toArray l ((d, .tup [(false, [.bool false])]) :: tm) mem (Q .normal)) :
    AW P nt (.region id (⟨some d, .next (.tmp t) false, ty, pos, af, none⟩ :: l).toArray false) tm mem Q := by
  intro ρ a w hr
  refine wp_region_lit ?_
  refine wpList_plain rfl fun K hK => ?_
  unfold Oper.wp
  have hv := hr.tm t
  rw [hit] at hv
  obtain ⟨n, N, k, k', h1, h2, h3, h4, hv'⟩ := iter_sound hr.mem hi hv
  obtain ⟨b, N', kk, o, hb', hver, hkind, hcells, hρ, hvv, hheap, hall⟩ := mapAt_sound hr.mem hm (v := .map (some N)) ⟨N, k', h2, rfl⟩
  injection hvv with hvv; injection hvv with hvv; subst hvv
  have hold' : ∀ x ∈ o.toList, x.born < since := fun x hx => by
    obtain ⟨i, hi'⟩ := List.getElem?_of_mem hx
    have hlen := hall.length
    have hil : i < es.length := by rw [hlen]; exact (List.getElem?_eq_some_iff.1 hi').1
    obtain ⟨x', hx', g⟩ := hall.get (List.getElem?_eq_getElem hil)
    rw [hi'] at hx'; injection hx' with hx'; subst hx'
    rw [g.1]; exact hold _ (List.getElem_mem hil)
  have hex : ∀ r, (Instr.next (.pointer (some ⟨n, 0, none⟩)) false ty).run P w = r → (execOp a.eval ⟨some d, .next (.tmp t) false, ty, pos, af, none⟩).run P w = r.andThen fun v w' => .ok (.value v) w' := by
    intro r hr'
    have e : a.eval (.tmp t) = .pointer (some ⟨n, 0, none⟩) := hv'
    simp only [execOp, e, Sem.run_bind, hr', Sem.run_pure]
  rcases run_next_at (P := P) w ty n N since last seen.toArray o clock h3 hheap hold' hsc with ⟨h0, hrun⟩ | ⟨x, hx, w1, hw1, hrun⟩
  · rw [hex _ hrun, Result.andThen_ok, Oper.upon_value]
    refine hK _ _ ?_
    have hall0 : ∀ e, e ∈ es → e.1 ∈ seen := fun e he => by
      obtain ⟨i, hi'⟩ := List.getElem?_of_mem he
      obtain ⟨x, hx, g⟩ := hall.get hi'
      rcases Classical.em (e.1 ∈ seen) with h | h
      · exact h
      · exfalso
        have : x ∈ (leftOf o seen.toArray).toList := by
          unfold leftOf
          simp only [Array.toList_filter, List.mem_filter, Bool.not_eq_true', List.contains_toArray]
          exact ⟨List.mem_of_getElem? hx, by rw [g.1]; simpa using h⟩
        rw [Array.eq_empty_of_size_eq_zero h0] at this
        cases this
    have hr1 : Rep ρ nt ((d, .tup [(false, [.bool false])]) :: tm) mem (a.put (some d) (.tuple #[.bool false])) w := hr.put hd ⟨_, rfl, rfl, trivial⟩
    exact aops_sound l _ _ _ hl (hDone hall0) ρ _ w _ hr1 fun ρ' tm' mem' a' w' r s dd k => ⟨ρ', tm', mem', r, s, dd, k⟩
  · rw [hex _ hrun, Result.andThen_ok, Oper.upon_value]
    refine hK _ _ ?_
    have hxo : x ∈ o.toList ∧ x.born ∉ seen := by
      unfold leftOf at hx
      simp only [Array.toList_filter, List.mem_filter, Bool.not_eq_true', List.contains_toArray] at hx
      exact ⟨hx.1, by simpa using hx.2⟩
    obtain ⟨j, e, g1, g2, g3, g4⟩ := leftOf_mem hall hxo.1 hxo.2
    have hw : w1.heap = w.heap ∧ w1.os = w.os ∧ w1.tape = w.tape ∧ w1.output = w.output := by rcases hw1 with rfl | rfl <;> exact ⟨rfl, rfl, rfl, rfl⟩
    have hnl : n < w.heap.size := (Array.getElem?_eq_some_iff.1 h3).1
    have hbk : BlkR ρ (ChangeMaps.setBlock w1 n (.mapIter (some N) since (seen.toArray.push x.born) clock)) ri ⟨.iter rm since (seen ++ [e.1]) clock, ity, 0, iesz, []⟩ := by
      refine ⟨n, N, k, k', h1, h2, ?_, rfl⟩
      show (w1.heap.setIfInBounds n _)[n]? = _
      rw [hw.1, Array.getElem?_setIfInBounds_self_of_lt hnl, g2]
      simp
    obtain ⟨q1, q2⟩ := hr.mem.turn (w' := ChangeMaps.setBlock w1 n (.mapIter (some N) since (seen.toArray.push x.born) clock)) hi (by simp) h1 ⟨.iter rm since (seen ++ [e.1]) clock, ity, 0, iesz, []⟩ rfl rfl (by
        intro m hmn
        show (w1.heap.setIfInBounds n _)[m]? = _
        rw [hw.1, Array.getElem?_setIfInBounds_ne (fun e => hmn e.symm)]) (by show (w1.heap.setIfInBounds n _).size = _; rw [hw.1]; simp) hw.2.1 hw.2.2.1 hw.2.2.2 hbk
    have hr1 : Rep ρ nt ((d, .tup [(false, [.bool true]), (ka, e.2.1), (va, e.2.2)]) :: tm) (mem.set ri ⟨.iter rm since (seen ++ [e.1]) clock, ity, 0, iesz, []⟩) (a.put (some d) (.tuple #[.bool true, x.key, x.val])) (ChangeMaps.setBlock w1 n (.mapIter (some N) since (seen.toArray.push x.born) clock)) :=
      (hr.step q2 q1).put hd ⟨_, rfl, rfl, g4.2.1, g4.2.2.1, trivial⟩
    exact aops_sound l _ _ _ hl (hMore j e g1 g3) ρ _ _ _ hr1 fun ρ' tm' mem' a' w' r s dd k => ⟨ρ', tm', mem', r, q2.trans s, dd, k⟩
end Go.Eng

/-
  ENGINE, PART Sh: contracts of the library's shelf, as contracts of the engine: a row of our own that is sorted in place.
-/
set_option linter.unusedVariables false
set_option linter.unusedSimpArgs false
namespace Go.Eng
open Go

/-- A world with more blocks, and draws. -/
theorem RepM.ext {ρ : Env} {mem : AMem} {w w' : World} (h : RepM ρ mem w) (hos : w'.os = w.os) (htape : w'.tape = w.tape) (hout : w'.output = w.output) (hsize : w.heap.size ≤ w'.heap.size)
    (hheap : ∀ k, k < w.heap.size → w'.heap[k]? = w.heap[k]?) : RepM ρ mem w' ∧ Step mem ρ w mem ρ w' :=
  ⟨⟨fun r b hb => (h.blk r b hb).heap hsize fun x k _ _ hx => hheap _ hx, h.dom, h.domv, h.sep⟩,
   ⟨hos, htape, hout, hsize, Nat.le_refl _, fun _ _ _ _ h => h, fun r b b' h1 h2 => by rw [h1] at h2; injection h2 with h2; rw [h2], fun r b h1 _ => h1, fun n hn _ => hheap n hn, fun r b x k h1 h2 h3 => .inr ⟨r, b, x, k, h1, h2, h3, rfl⟩⟩⟩

theorem holds_of {ρ : Env} {w : World} {n : Nat} {c : Array Value} {ty : TypeId} {esz : Nat} (h : RowAt w n c ty esz) {xs sp : List Value} (hc : c.toList = xs ++ sp) : Sort.Holds id w n 0 xs.toArray := by
  obtain ⟨fz, hfz, hh⟩ := h
  intro j hj
  have hjl : j < xs.length := by simpa using hj
  have hx : c[j]? = some xs[j] := by
    rw [← Array.getElem?_toList, hc, List.getElem?_append_left hjl, List.getElem?_eq_getElem hjl]
  have hjc : j < c.size := (Array.getElem?_eq_some_iff.1 hx).1
  refine ⟨?_, ?_⟩
  · simp only [World.cell?, hh, Option.isSome_none, Bool.false_eq_true, if_false, Nat.zero_add, hx]
    simp [hjl]
  · simp only [World.frozen?, hh, Nat.zero_add]
    rcases hfz with rfl | rfl
    · simp
    · unfold fzOf; split
      · simp; omega
      · simp
theorem putRow_at {w : World} {n : Nat} {c : Array Value} {ty : TypeId} {esz : Nat} (h : RowAt w n c ty esz) {xs sp ys : List Value} (hc : c.toList = xs ++ sp) (hl : ys.length = xs.length) (k : Nat) (os : Array Obj) :
    ∃ c' : Array Value, RowAt (Sort.grow (Sort.putRow id (Sort.ahead w k) n 0 ys.toArray) os) n c' ty esz ∧ c'.size = c.size ∧ c'.toList = ys ++ sp := by
  obtain ⟨fz, hfz, hh⟩ := h
  have hlt : n < w.heap.size := (Array.getElem?_eq_some_iff.1 hh).1
  refine ⟨Sort.putCells id 0 ys.toArray c, ⟨fz, by simpa [Sort.putCells] using hfz, ?_⟩, by simp [Sort.putCells], ?_⟩
  · rw [Sort.heap_grow_old _ _ (by simpa using hlt)]
    show ((w.heap.modify n _)[n]?) = _
    rw [Array.getElem?_modify, if_pos rfl, hh]
    rfl
  · have hcs : c.size = xs.length + sp.length := by rw [← Array.length_toList, hc, List.length_append]
    refine List.ext_getElem? fun j => ?_
    rw [Array.getElem?_toList]
    simp only [Sort.putCells, Array.getElem?_mapIdx, Nat.zero_le, true_and, Nat.zero_add, Nat.sub_zero, List.size_toArray]
    rcases Nat.lt_or_ge j ys.length with hj | hj
    · have hjc : j < c.size := by omega
      rw [Array.getElem?_eq_getElem hjc, List.getElem?_append_left hj]
      simp [hj]
    · rw [List.getElem?_append_right hj]
      have : c[j]? = (xs ++ sp)[j]? := by rw [← hc, Array.getElem?_toList]
      rw [this, List.getElem?_append_right (by omega), hl]
      cases sp[j - xs.length]? with
      | none => rfl
      | some v => rw [Option.map_some, if_neg (by omega)]

/-- A row of our own whose cells turn in place, in a world with more blocks, and draws. -/
theorem RepM.rowIn {ρ : Env} {mem : AMem} {w : World} (hm : RepM ρ mem w) {r ty ver esz cap n : Nat} {cs cs' : List CV} (hb : mem[r]? = some ⟨.grow, ty, ver, esz, cs⟩) (hρ : ρ r ver = some (some ⟨n, 0, none⟩, cap)) {c : Array Value} {xs sp ys : List Value}
    (hrow : RowAt w n c ty esz) (hsz : c.size = cap * unitOf esz) (hcm : cap ≤ maxLen) (hc : c.toList = xs ++ sp) (hl : ys.length = xs.length) (hys : All2 (VC ρ) cs' ys) (k : Nat) (os : Array Obj) :
    RepM ρ (mem.set r ⟨.grow, ty, ver, esz, cs'⟩) (Sort.grow (Sort.putRow id (Sort.ahead w k) n 0 ys.toArray) os) ∧ Step mem ρ w (mem.set r ⟨.grow, ty, ver, esz, cs'⟩) ρ (Sort.grow (Sort.putRow id (Sort.ahead w k) n 0 ys.toArray) os) := by
  obtain ⟨c1, g1, g2, g3⟩ := putRow_at hrow hc hl k #[]
  rw [Sort.grow_empty] at g1
  obtain ⟨a1, a2⟩ := hm.turn (w' := Sort.putRow id (Sort.ahead w k) n 0 ys.toArray) hb (by simp) hρ ⟨.grow, ty, ver, esz, cs'⟩ rfl rfl (fun m hmn => by
      show ((w.heap.modify n _)[m]?) = _
      rw [Array.getElem?_modify, if_neg (fun e => hmn e.symm)]) (by simp) rfl rfl rfl
    (.inr ⟨n, c1, cap, ys, sp, hρ, g1, by rw [g2]; exact hsz, hcm, g3, hys⟩)
  obtain ⟨b1, b2⟩ := a1.ext (w' := Sort.grow (Sort.putRow id (Sort.ahead w k) n 0 ys.toArray) os) rfl rfl rfl (by simp [Sort.grow]) (fun k hk => Sort.heap_grow_old _ _ hk)
  exact ⟨b1, a2.trans b2⟩

theorem holds_map {w : World} {b o : Nat} {zs : List Int} (h : Sort.Holds id w b o (zs.map (Value.int .i64)).toArray) : Sort.Holds (Value.int .i64) w b o zs.toArray := fun j hj => by
  have hj' : j < zs.length := by simpa using hj
  have := h j (by simpa using hj')
  simpa [hj'] using this
theorem putCells_map (d : List Int) (c : Array Value) : Sort.putCells (Value.int .i64) 0 d.toArray c = Sort.putCells id 0 (d.map (Value.int .i64)).toArray c := by
  unfold Sort.putCells
  congr 1
  funext k x
  simp only [Nat.zero_le, true_and, Nat.zero_add, Nat.sub_zero, List.size_toArray, List.length_map]
  by_cases h : k < d.length
  · rw [if_pos h, if_pos h]; simp [h]
  · rw [if_neg h, if_neg h]
theorem all2_ints {ρ : Env} : ∀ {zs : List Int} {xs : List Value}, All2 (VC ρ) (zs.map (CV.int .i64)) xs → xs = zs.map (Value.int .i64)
  | [], [], _ => rfl
  | z :: zs, x :: xs, h => by
    have h1 : x = .int .i64 z := h.1
    rw [List.map_cons, h1, all2_ints h.2]
  | [], _ :: _, h => h.elim
  | _ :: _, [], h => h.elim
theorem all2_ints' {ρ : Env} : ∀ {zs : List Int}, All2 (VC ρ) (zs.map (CV.int .i64)) (zs.map (Value.int .i64))
  | [] => trivial
  | z :: zs => ⟨rfl, all2_ints'⟩
abbrev SortsInts (P : Program) (f : FuncId) : Prop := ∀ (blk off cap : Nat) (zs : List Int) (w : World), Sort.Holds (Value.int .i64) w blk off zs.toArray → blk < w.heap.size → zs.length < 4611686018427387904 →
    Calls P f #[.slice (some ⟨blk, off, none⟩) zs.length cap] w fun e w' =>
      e = .returned (.tuple #[]) ∧ ∃ n os, w' = Sort.grow (Sort.putRow (Value.int .i64) (Sort.ahead w n) blk off (zs.mergeSort fun x y => decide (x ≤ y)).toArray) os
abbrev SortsNone (P : Program) (f : FuncId) : Prop := ∀ (p : Option Addr) (cap : Nat) (w : World), Calls P f #[.slice p 0 cap] w fun e w' => e = .returned (.tuple #[]) ∧ w' = w
def srt (zs : List Int) : List Int := zs.mergeSort fun x y => decide (x ≤ y)
/-- slices.Sort of ints, at a row of our own. -/
theorem Ctr.sortInts {P : Program} {f : FuncId} (hb : Bodied P f) (h1 : SortsInts P f) (h0 : SortsNone P f) {mem : AMem} {r ty ver : Nat} {zs : List Int} (hr : mem[r]? = some ⟨.grow, ty, ver, 1, zs.map (CV.int .i64)⟩) (hlen : zs.length ≤ 140737488355328) (n : Nat) (hn : n = zs.length) :
    Ctr P f [.one (.sl r ver 0 n)] mem (.tup []) (mem.set r ⟨.grow, ty, ver, 1, (srt zs).map (CV.int .i64)⟩) := by
  subst hn
  intro ρ w vs hm ha
  obtain ⟨A, c0, B, c, hρ, rfl, hlc, hB, h00⟩ : ∃ A c0 B c, ρ r ver = some (A, c0) ∧ vs = [.slice B zs.length c] ∧ zs.length ≤ c ∧ (0 < zs.length → ∃ a, A = some a ∧ B = some (a.add 0)) ∧ (0 = 0 → B = A ∧ c = c0) := by
    match vs, ha with
    | [v], ha =>
      obtain ⟨A, c0, B, c, q1, rfl, q2, q3, q4⟩ := ha.1
      exact ⟨A, c0, B, c, q1, rfl, q2, q3, q4⟩
  obtain ⟨rfl, rfl⟩ := h00 rfl
  have hbk := hm.blk r _ hr
  simp only [BlkR] at hbk
  refine .inl ⟨hb, ?_⟩
  by_cases hz : zs.length = 0
  · have hzs : zs = [] := List.eq_nil_of_length_eq_zero hz
    subst hzs
    have hsame : mem.set r ⟨.grow, ty, ver, 1, (srt []).map (CV.int .i64)⟩ = mem := set_self (by simpa [srt] using hr)
    rw [hsame]
    refine (h0 B c w).mono ?_
    rintro e w' ⟨rfl, rfl⟩
    exact ⟨_, ρ, rfl, ⟨#[], rfl, trivial⟩, hm, Step.refl _ _ _⟩
  · obtain ⟨a, rfl, _⟩ := hB (by omega)
    rcases hbk with ⟨q1, q2⟩ | ⟨g, cc, cap, xs, sp, q1, q2, q3, q4, q5, q6⟩
    · rw [q2] at hρ; injection hρ with hρ; injection hρ with hρ _; cases hρ
    · rw [q1] at hρ; injection hρ with hρ; injection hρ with e1 e2
      injection e1 with e1
      subst e1; subst e2
      have hxs := all2_ints q6
      subst hxs
      have hH := holds_map (holds_of q2 (ρ := ρ) q5)
      refine (h1 g 0 cap zs w hH q2.lt (by omega)).mono ?_
      rintro e w' ⟨rfl, n, os, rfl⟩
      have hpl : (srt zs).length = zs.length := by unfold srt; rw [List.length_mergeSort]
      have hw : Sort.putRow (Value.int .i64) (Sort.ahead w n) g 0 (zs.mergeSort fun x y => decide (x ≤ y)).toArray = Sort.putRow id (Sort.ahead w n) g 0 ((srt zs).map (Value.int .i64)).toArray := by
        unfold Sort.putRow
        congr 1
        funext c
        exact putCells_map _ c
      rw [hw]
      obtain ⟨g1, g2⟩ := hm.rowIn hr q1 q2 q3 q4 q5 (by simp [hpl]) (all2_ints' (zs := srt zs)) n os
      exact ⟨_, ρ, rfl, ⟨#[], rfl, trivial⟩, g1, g2⟩

/-- slices.Sorted of a map's keys, as the shelf says it. -/
abbrev SortedKeys (P : Program) (f g : FuncId) (kt et : TypeId) : Prop := ∀ (Bm b nn : Nat) (D0 : DataW Nat) (w : World), Bm < w.heap.size → w.cell? ⟨Bm, 0, none⟩ = some (.map (some b)) → w.ownsMap P kt (fun _ => some (.nil, [])) b nn D0 →
    Maps.size D0 ≤ maxLen → Maps.size D0 * 8 ≤ 140737488355328 → Calls P f #[.func (.func g) #[] #[.pointer (some ⟨Bm, 0, none⟩)]] w fun e w' => ∃ (v : Value) (ss : List Int), e = .returned v ∧ ss.Perm (intKeys D0) ∧
      w'.ownsRow w.heap.size et 1 v ss.length ((ss.mergeSort fun x y => decide (x ≤ y)).map encZ) ∧ RowKit.Below w.heap.size w w'
theorem Ctr.sortedKeys {P : Program} {f g : FuncId} {kt et : TypeId} (hb : Bodied P f) (hs : SortedKeys P f g kt et) (hkt : P.underlying kt = some (.int .i64)) {mem : AMem} {rb tb eb rm clock : Nat} {va : Bool} {es : List (Nat × List CV × List CV)}
    (hbx : mem[rb]? = some ⟨.fix, tb, 0, eb, [.mp rm 0]⟩) (hmp : mapAt mem rm 0 = some (false, va, clock, es)) (ks : List Int) (hks : es.map (·.2.1) = ks.map fun k => [CV.int .i64 k]) (hbnd : ∀ k, k ∈ ks → -9223372036854775808 ≤ k ∧ k ≤ 9223372036854775807) (hnk : ks.Nodup)
    (hold : ∀ e, e ∈ es → e.1 < clock) (hnb : (es.map (·.1)).Nodup) (hlen : ks.length ≤ 17592186044416) (n : Nat) (hn : n = ks.length) :
    Ctr P f [.one (.fn g [(rb, 0, 0)])] mem (.one (.sl mem.length 0 0 n)) (mem ++ [⟨.grow, et, 0, 1, (srt ks).map (CV.int .i64)⟩]) := by
  subst hn
  intro ρ w vs hm ha
  obtain ⟨a, kk, hρ, rfl⟩ : ∃ a kk, ρ rb 0 = some (some a, kk) ∧ vs = [.func (.func g) #[] #[.pointer (some (a.add 0))]] := by
    match vs, ha with
    | [v], ha =>
      obtain ⟨us, rfl, hu⟩ := ha.1
      obtain ⟨l⟩ := us
      match l, hu with
      | [x], hu =>
        obtain ⟨a, k, q1, rfl⟩ := hu.1
        exact ⟨a, k, q1, rfl⟩
  have hbk := hm.blk rb _ hbx
  simp only [BlkR] at hbk
  obtain ⟨nb, c, k, q1, q2, q3, q4⟩ := hbk
  rw [q1] at hρ; injection hρ with hρ; injection hρ with e1 e2; injection e1 with e1; subst e1; subst e2
  obtain ⟨l⟩ := c
  match l, q3 with
  | [x], q3 =>
    obtain ⟨N, kN, q5, rfl⟩ := q3.1
    obtain ⟨b, N', kk, o, hb', hver, hkind, hcells, hρ', hvv, hheap, hall⟩ := mapAt_sound hm hmp (v := .map (some N)) ⟨N, kN, q5, rfl⟩
    injection hvv with hvv; injection hvv with hvv; subst hvv
    have hkey : ∀ (j : Nat) (x : MapEntry), o.toList[j]? = some x → ∃ kx, ks[j]? = some kx ∧ x.key = .int .i64 kx ∧ ∃ e, es[j]? = some e ∧ x.born = e.1 := by
      intro j x hx
      have hj : j < es.length := by rw [hall.length]; exact (List.getElem?_eq_some_iff.1 hx).1
      obtain ⟨x', hx', g⟩ := hall.get (List.getElem?_eq_getElem hj)
      rw [hx] at hx'; injection hx' with hx'; subst hx'
      have h1 : (es.map (·.2.1))[j]? = some (es[j].2.1) := by rw [List.getElem?_map, List.getElem?_eq_getElem hj]; rfl
      rw [hks, List.getElem?_map] at h1
      obtain ⟨kx, h2, h3⟩ := Option.map_eq_some_iff.1 h1
      have g2 := g.2.1
      rw [← h3] at g2
      exact ⟨kx, h2, g2, _, List.getElem?_eq_getElem hj, g.1⟩
    have hol : o.toList.length = ks.length := by
      rw [← hall.length]
      have := congrArg List.length hks
      simpa using this
    have hborn : o.toList.map (·.born) = es.map (·.1) := by
      refine List.ext_getElem? fun j => ?_
      simp only [List.getElem?_map]
      cases hx : o.toList[j]? with
      | none =>
        rw [List.getElem?_eq_none_iff] at hx
        rw [List.getElem?_eq_none (by rw [hall.length]; exact hx)]; rfl
      | some x =>
        obtain ⟨kx, _, _, e, h4, h5⟩ := hkey j x hx
        rw [h4]; simp [h5]
    have hkeys : o.toList.map (·.key) = ks.map (Value.int .i64) := by
      refine List.ext_getElem? fun j => ?_
      simp only [List.getElem?_map]
      cases hx : o.toList[j]? with
      | none =>
        rw [List.getElem?_eq_none_iff] at hx
        rw [List.getElem?_eq_none (by omega)]; rfl
      | some x =>
        obtain ⟨kx, h4, h5, _⟩ := hkey j x hx
        rw [h4]; simp [h5]
    have hrd : ∀ x, x ∈ o.toList → ∃ kx, kx ∈ ks ∧ x.key = .int .i64 kx ∧ WideElems.rd P kt (fun _ => some (DataW.nil (H := Nat), [])) x = some (.int .i64 kx, .nil) := by
      intro x hx
      obtain ⟨j, hj⟩ := List.getElem?_of_mem hx
      obtain ⟨kx, h4, h5, _⟩ := hkey j x hj
      have hmem := List.mem_of_getElem? h4
      have := hbnd kx hmem
      refine ⟨kx, hmem, h5, ?_⟩
      have hwf : (Lit.int .i64 kx).wf = true := by simp [Lit.wf, IntKind.min, IntKind.max, IntKind.signed, IntKind.bits]; omega
      simp [WideElems.rd, h5, Maps.keyOf_int_mk hkt hwf]
    have hown : w.ownsMap P kt (fun _ => some (DataW.nil (H := Nat), [])) N o.size (.map ((o.toList.map (WideElems.rg P kt (fun _ => some (DataW.nil, [])))).foldr DataW.insert [])) := by
      refine ⟨o, clock, hheap, ⟨?_, ⟨fun x hx => ?_, ?_, ?_⟩, fun x hx => ?_⟩, Nat.le_refl _, rfl⟩
      · rw [← Array.length_toList, hol]; unfold maxLen; omega
      · have : x.born ∈ es.map (·.1) := by rw [← hborn]; exact List.mem_map_of_mem hx
        obtain ⟨e, he, h1⟩ := List.mem_map.1 this
        rw [← h1]; exact hold e he
      · rw [hborn]; exact hnb
      · rw [hkeys]; exact List.pairwise_map.2 (hnk.imp fun hne e => hne (by injection e))
      · obtain ⟨kx, _, _, h⟩ := hrd x hx; exact ⟨_, h⟩
    have hperm : (intKeys (DataW.map (H := Nat) ((o.toList.map (WideElems.rg P kt (fun _ => some (DataW.nil, [])))).foldr DataW.insert []))).Perm ks := by
      have h1 := (WideShapes.sorted_perm (H := Nat) (o.toList.map (WideElems.rg P kt (fun _ => some (DataW.nil, []))))).map fun p => intOf p.1
      refine h1.trans ?_
      rw [List.map_map]
      have h2 : o.toList.map ((fun p => intOf p.1) ∘ WideElems.rg P kt (fun _ => some (DataW.nil (H := Nat), []))) = ks := by
        refine List.ext_getElem? fun j => ?_
        rw [List.getElem?_map]
        cases hx : o.toList[j]? with
        | none =>
          rw [List.getElem?_eq_none_iff] at hx
          rw [List.getElem?_eq_none (by omega)]; rfl
        | some x =>
          obtain ⟨kx, h4, h5, _⟩ := hkey j x hx
          obtain ⟨ky, _, h6, h7⟩ := hrd x (List.mem_of_getElem? hx)
          rw [h5] at h6; injection h6 with _ h6; subst h6
          rw [h4]
          simp [WideElems.rg, h7, intOf]
      rw [h2]
    have hsz : Maps.size (DataW.map (H := Nat) ((o.toList.map (WideElems.rg P kt (fun _ => some (DataW.nil, [])))).foldr DataW.insert [])) = ks.length := by
      have := (WideShapes.sorted_perm (H := Nat) (o.toList.map (WideElems.rg P kt (fun _ => some (DataW.nil, []))))).length_eq
      rw [List.length_map, hol] at this
      exact this
    refine .inl ⟨hb, (hs nb N o.size _ w (Array.getElem?_eq_some_iff.1 q2).1 (by simp [World.cell?, q2]) hown (by rw [hsz]; unfold maxLen; omega) (by rw [hsz]; omega)).mono ?_⟩
    rintro e w' ⟨v, ss, rfl, hp, hrow, hbel⟩
    have hss : ss.mergeSort (fun x y => decide (x ≤ y)) = srt ks := mergeSort_of_perm_i (hp.trans hperm)
    rw [hss, (hp.trans hperm).length_eq] at hrow
    obtain ⟨A, cap, rfl, hnc, hA, hAb, hbr⟩ := blk_of_owns (r := mem.length) (ver := 0) hrow (by omega) (all2_ints' (ρ := ρ) (zs := srt ks))
    have hle : ρ.le (ρ.set mem.length 0 (A, cap)) := Env.le_set (hm.dom _ _ (Nat.le_refl _))
    have hbase : ∀ x, A = some x → w.heap.size ≤ x.block := by
      rintro x rfl
      rcases hrow.2 with ⟨h, _⟩ | ⟨g', cap', cur, h, hbg, _⟩
      · cases h
      · injection h with h; injection h with h; rw [h]; exact hbg
    obtain ⟨g1, g2⟩ := hm.new' (w' := w') hbel.os hbel.tape hbel.output hbel.size hbel.block ⟨.grow, et, 0, 1, (srt ks).map (CV.int .i64)⟩ A cap hbase (by simp) (hbr _ (fun _ _ => VC.mono hle) (Env.set_same _ _ _ _))
    refine ⟨_, _, rfl, ⟨A, cap, A, cap, Env.set_same _ _ _ _, rfl, hnc, fun hpos => ?_, fun _ => ⟨rfl, rfl⟩⟩, g1, g2⟩
    cases A with
    | none => have := (hA rfl).2; omega
    | some a => exact ⟨a, rfl, by simp [Addr.add]⟩
end Go.Eng

set_option linter.unusedSimpArgs false
set_option linter.unusedVariables false
set_option maxRecDepth 100000
set_option maxHeartbeats 4000000
namespace Go.Proofs.Ytiogpaehelpmhaa
open Go Go.Eng

/-- Edges: two numbers, the lesser first. -/
abbrev EK := Int × Int
def pC (k : EK) : List CV := [.int .i64 k.1, .int .i64 k.2]
def pL (l : List EK) : List CV := l.flatMap pC
theorem pL_len : ∀ l : List EK, (pL l).length = l.length * 2
  | [] => rfl
  | t :: l => by
    show (pC t ++ pL l).length = _
    rw [List.length_append, pL_len l, List.length_cons]
    show 2 + _ = _
    omega
theorem pL_snoc (l : List EK) (a b : Int) : pL l ++ [.int .i64 a, .int .i64 b] = pL (l ++ [(a, b)]) := by simp [pL, pC]
theorem pL_below (L : Nat) : ∀ l : List EK, (pL l).all (CV.below L) = true
  | [] => rfl
  | t :: l => by
    show (pC t ++ pL l).all _ = true
    rw [List.all_append, pL_below L l]; rfl
theorem pL_drop : ∀ (l : List EK) (i : Nat), (pL l).drop (i * 2) = pL (l.drop i)
  | [], i => by simp [pL]
  | t :: l, 0 => by simp
  | t :: l, i + 1 => by
    show (pC t ++ pL l).drop _ = _
    rw [List.drop_append, List.drop_of_length_le (by show 2 ≤ _; omega), show (pC t).length = 2 from rfl, show (i + 1) * 2 - 2 = i * 2 by omega, List.nil_append, pL_drop l i]
    rfl
theorem pL_at {l : List EK} {i : Nat} {t : EK} (h : l[i]? = some t) : ((pL l).drop (i * 2)).take 2 = [.int .i64 t.1, .int .i64 t.2] := by
  obtain ⟨hlt, hg⟩ := List.getElem?_eq_some_iff.1 h
  rw [pL_drop, List.drop_eq_getElem_cons hlt, hg]
  rfl
def eKey (a b : Int) : EK := (Eng.minI a b, Eng.maxI a b)
def inc (k : EK) : List (EK × Int) → List (EK × Int)
  | [] => [(k, 1)]
  | e :: E => if e.1 = k then (k, e.2 + 1) :: E else e :: inc k E
def idxE (k : EK) : List (EK × Int) → Option Nat
  | [] => none
  | e :: E => if e.1 = k then some 0 else (idxE k E).map (· + 1)
/-- A map's entries: none was ever taken away. -/
def mE : Nat → List (EK × Int) → List (Nat × List CV × List CV)
  | _, [] => []
  | s, e :: E => (s, [.int .i64 e.1.1, .int .i64 e.1.2], [.int .i64 e.2]) :: mE (s + 1) E
theorem mE_len : ∀ (s : Nat) (E : List (EK × Int)), (mE s E).length = E.length
  | _, [] => rfl
  | s, e :: E => by show (mE (s + 1) E).length + 1 = _; rw [mE_len]; rfl
theorem mE_app : ∀ (s : Nat) (E : List (EK × Int)) (k : EK) (c : Int), mE s E ++ [(s + E.length, [.int .i64 k.1, .int .i64 k.2], [.int .i64 c])] = mE s (E ++ [(k, c)])
  | s, [], k, c => rfl
  | s, e :: E, k, c => by
    show _ :: (mE (s + 1) E ++ _) = _ :: mE (s + 1) (E ++ [(k, c)])
    rw [← mE_app (s + 1) E k c, List.length_cons, show s + (E.length + 1) = s + 1 + E.length by omega]
theorem mE_get : ∀ {s : Nat} {E : List (EK × Int)} {j : Nat} {k : EK} {c : Int}, E[j]? = some (k, c) → (mE s E)[j]? = some (s + j, [.int .i64 k.1, .int .i64 k.2], [.int .i64 c])
  | s, e :: E, 0, k, c, h => by
    simp at h; subst h; rfl
  | s, e :: E, j + 1, k, c, h => by
    show (mE (s + 1) E)[j]? = _
    rw [mE_get (s := s + 1) (by simpa using h), show s + 1 + j = s + (j + 1) by omega]
  | s, [], j, k, c, h => by simp at h
theorem mE_set : ∀ {s : Nat} {E : List (EK × Int)} {j : Nat} (k : EK) (c : Int), j < E.length → (mE s E).set j (s + j, [.int .i64 k.1, .int .i64 k.2], [.int .i64 c]) = mE s (E.set j (k, c))
  | s, e :: E, 0, k, c, _ => rfl
  | s, e :: E, j + 1, k, c, h => by
    show _ :: (mE (s + 1) E).set j _ = _ :: mE (s + 1) (E.set j (k, c))
    rw [← mE_set (s := s + 1) k c (by simpa using h), show s + (j + 1) = s + 1 + j by omega]
theorem mE_idx : ∀ {s : Nat} {E : List (EK × Int)} {j : Nat}, j < E.length → (mE s E).findIdx? (fun e => (e.1 : Int) == ((s + j : Nat) : Int)) = some j
  | s, e :: E, 0, _ => by
    show List.findIdx? _ (_ :: _) = _
    rw [List.findIdx?_cons]; simp
  | s, e :: E, j + 1, h => by
    show List.findIdx? _ (_ :: mE (s + 1) E) = _
    rw [List.findIdx?_cons]
    have h1 : ((s : Int) == ((s + (j + 1) : Nat) : Int)) = false := by rw [beq_eq_false_iff_ne]; omega
    have h2 := mE_idx (s := s + 1) (E := E) (j := j) (by simpa using h)
    rw [show s + 1 + j = s + (j + 1) by omega] at h2
    simp only [h1, Bool.false_eq_true, if_false, h2, Option.map_some]
theorem findL_mE (k : EK) : ∀ (s : Nat) (E : List (EK × Int)), findL [.int .i64 k.1, .int .i64 k.2] (mE s E) = some (idxE k E)
  | _, [] => rfl
  | s, e :: E => by
    show findL _ (_ :: mE (s + 1) E) = _
    unfold findL
    have h : keyEqL [CV.int .i64 k.1, .int .i64 k.2] [CV.int .i64 e.1.1, .int .i64 e.1.2] = some (k.1 == e.1.1 && k.2 == e.1.2) := by simp [keyEqL, ceq]
    simp only [h]
    unfold idxE
    by_cases hk : e.1 = k
    · rw [if_pos hk, ← hk]; simp
    · rw [if_neg hk]
      have : (k.1 == e.1.1 && k.2 == e.1.2) = false := by
        rw [Bool.eq_false_iff]
        intro h2
        simp only [Bool.and_eq_true, beq_iff_eq] at h2
        exact hk (Prod.ext h2.1.symm h2.2.symm)
      simp only [this, findL_mE k (s + 1) E]
      rfl
theorem inc_none {k : EK} : ∀ {E : List (EK × Int)}, idxE k E = none → inc k E = E ++ [(k, 1)]
  | [], _ => rfl
  | e :: E, h => by
    unfold idxE at h; unfold inc
    by_cases hk : e.1 = k
    · rw [if_pos hk] at h; cases h
    · rw [if_neg hk] at h ⊢
      rw [inc_none (by simpa using h)]; rfl
theorem inc_some {k : EK} : ∀ {E : List (EK × Int)} {j : Nat}, idxE k E = some j → ∃ c, E[j]? = some (k, c) ∧ inc k E = E.set j (k, c + 1)
  | [], _, h => by cases h
  | e :: E, j, h => by
    unfold idxE at h; unfold inc
    by_cases hk : e.1 = k
    · rw [if_pos hk] at h ⊢
      injection h with h; subst h
      exact ⟨e.2, by simp [← hk], rfl⟩
    · rw [if_neg hk] at h ⊢
      obtain ⟨i, hi, rfl⟩ := Option.map_eq_some_iff.1 h
      obtain ⟨c, h1, h2⟩ := inc_some hi
      exact ⟨c, by simpa using h1, by rw [h2]; rfl⟩
theorem idxE_app {k : EK} {c : Int} : ∀ {E : List (EK × Int)}, idxE k E = none → idxE k (E ++ [(k, c)]) = some E.length
  | [], _ => by simp [idxE]
  | e :: E, h => by
    unfold idxE at h
    by_cases hk : e.1 = k
    · rw [if_pos hk] at h; cases h
    · rw [if_neg hk] at h
      show idxE k (e :: (E ++ [(k, c)])) = _
      unfold idxE
      rw [if_neg hk, idxE_app (by simpa using h)]; rfl
theorem inc_len (k : EK) : ∀ E : List (EK × Int), (inc k E).length ≤ E.length + 1
  | [] => by simp [inc]
  | e :: E => by
    unfold inc; split
    · simp
    · have := inc_len k E; simp only [List.length_cons]; omega
theorem inc_mem {k : EK} : ∀ {E : List (EK × Int)} {x : EK}, x ∈ (inc k E).map (·.1) ↔ x = k ∨ x ∈ E.map (·.1)
  | [], x => by simp [inc]
  | e :: E, x => by
    unfold inc
    split
    · rename_i h
      simp [h]
    · simp only [List.map_cons, List.mem_cons, inc_mem (E := E)]
      constructor
      · rintro (h | h | h)
        · exact .inr (.inl h)
        · exact .inl h
        · exact .inr (.inr h)
      · rintro (h | h | h)
        · exact .inr (.inl h)
        · exact .inl h
        · exact .inr (.inr h)
theorem inc_nd {k : EK} : ∀ {E : List (EK × Int)}, (E.map (·.1)).Nodup → ((inc k E).map (·.1)).Nodup
  | [], _ => by simp [inc]
  | e :: E, h => by
    rw [List.map_cons, List.nodup_cons] at h
    unfold inc
    split
    · rename_i hk
      rw [List.map_cons, List.nodup_cons]
      exact ⟨by rw [← hk]; exact h.1, h.2⟩
    · rename_i hk
      rw [List.map_cons, List.nodup_cons]
      refine ⟨fun hm => ?_, inc_nd h.2⟩
      rcases inc_mem.1 hm with h1 | h1
      · exact hk h1
      · exact h.1 h1
/-- The three numbers of a face. -/
def fv (t : T3) : Nat → Int
  | 0 => t.1
  | 1 => t.2.1
  | _ => t.2.2
def fKey (t : T3) (k : Nat) : EK := eKey (fv t k) (fv t ((k + 1) % 3))
def faceE (E : List (EK × Int)) (t : T3) : Nat → List (EK × Int)
  | 0 => E
  | k + 1 => inc (fKey t k) (faceE E t k)
def tally (Fs : List T3) : Nat → List (EK × Int)
  | 0 => []
  | i + 1 => match Fs[i]? with
    | some t => faceE (tally Fs i) t 3
    | none => tally Fs i
theorem fv_at (t : T3) {k : Nat} (hk : k < 3) : [CV.int .i64 t.1, .int .i64 t.2.1, .int .i64 t.2.2][k]? = some (.int .i64 (fv t k)) := by
  match k, hk with
  | 0, _ => rfl
  | 1, _ => rfl
  | 2, _ => rfl
theorem tally_s {Fs : List T3} {i : Nat} {t : T3} (h : Fs[i]? = some t) : tally Fs (i + 1) = faceE (tally Fs i) t 3 := by
  show (match Fs[i]? with | some t => _ | none => _) = _
  rw [h]
theorem faceE_len (E : List (EK × Int)) (t : T3) : ∀ k, (faceE E t k).length ≤ E.length + k
  | 0 => Nat.le_refl _
  | k + 1 => by
    have h1 := faceE_len E t k
    have h2 := inc_len (fKey t k) (faceE E t k)
    show (inc _ _).length ≤ _
    omega
theorem tally_len (Fs : List T3) : ∀ i, (tally Fs i).length ≤ 3 * i
  | 0 => Nat.le_refl _
  | i + 1 => by
    have h1 := tally_len Fs i
    cases h : Fs[i]? with
    | none =>
      have e : tally Fs (i + 1) = tally Fs i := by show (match Fs[i]? with | some t => _ | none => _) = _; rw [h]
      rw [e]; omega
    | some t =>
      rw [tally_s h]
      have := faceE_len (tally Fs i) t 3
      omega
/-- A property of all edges of faces. -/
theorem faceE_all {p : EK → Prop} {E : List (EK × Int)} {t : T3} (hE : ∀ x, x ∈ E.map (·.1) → p x) (ht : ∀ k, p (fKey t k)) : ∀ k, ∀ x, x ∈ (faceE E t k).map (·.1) → p x
  | 0 => hE
  | k + 1 => fun x hx => by
    rcases inc_mem.1 hx with h | h
    · rw [h]; exact ht k
    · exact faceE_all hE ht k x h
theorem tally_all {p : EK → Prop} {Fs : List T3} (h : ∀ t, t ∈ Fs → ∀ k, p (fKey t k)) : ∀ i, ∀ x, x ∈ (tally Fs i).map (·.1) → p x
  | 0 => fun x hx => by cases hx
  | i + 1 => by
    have ih := tally_all h i
    cases ht : Fs[i]? with
    | none =>
      have e : tally Fs (i + 1) = tally Fs i := by show (match Fs[i]? with | some t => _ | none => _) = _; rw [ht]
      rw [e]; exact ih
    | some t => rw [tally_s ht]; exact faceE_all ih (h t (List.mem_of_getElem? ht)) 3
theorem faceE_nd {E : List (EK × Int)} {t : T3} (hE : (E.map (·.1)).Nodup) : ∀ k, ((faceE E t k).map (·.1)).Nodup
  | 0 => hE
  | k + 1 => inc_nd (faceE_nd hE k)
theorem tally_nd (Fs : List T3) : ∀ i, ((tally Fs i).map (·.1)).Nodup
  | 0 => List.nodup_nil
  | i + 1 => by
    have ih := tally_nd Fs i
    cases ht : Fs[i]? with
    | none =>
      have e : tally Fs (i + 1) = tally Fs i := by show (match Fs[i]? with | some t => _ | none => _) = _; rw [ht]
      rw [e]; exact ih
    | some t => rw [tally_s ht]; exact faceE_nd ih 3
/-- Counts are small. -/
theorem inc_cnt {k : EK} {B : Int} : ∀ {E : List (EK × Int)}, (∀ e, e ∈ E → 0 ≤ e.2 ∧ e.2 ≤ B) → 0 ≤ B → ∀ e, e ∈ inc k E → 0 ≤ e.2 ∧ e.2 ≤ B + 1
  | [], _, hB, e, he => by
    simp [inc] at he; subst he; exact ⟨by show (0 : Int) ≤ 1; omega, by show (1 : Int) ≤ B + 1; omega⟩
  | x :: E, h, hB, e, he => by
    have hx := h x List.mem_cons_self
    unfold inc at he
    split at he
    · rcases List.mem_cons.1 he with rfl | he
      · exact ⟨by show 0 ≤ x.2 + 1; omega, by show x.2 + 1 ≤ B + 1; omega⟩
      · have := h e (List.mem_cons_of_mem _ he); omega
    · rcases List.mem_cons.1 he with rfl | he
      · omega
      · exact inc_cnt (fun y hy => h y (List.mem_cons_of_mem _ hy)) hB e he
theorem faceE_cnt {E : List (EK × Int)} {t : T3} {B : Int} (h : ∀ e, e ∈ E → 0 ≤ e.2 ∧ e.2 ≤ B) (hB : 0 ≤ B) : ∀ k : Nat, ∀ e, e ∈ faceE E t k → 0 ≤ e.2 ∧ e.2 ≤ B + k
  | 0 => fun e he => by have := h e he; omega
  | k + 1 => fun e he => by
    have := inc_cnt (B := B + k) (faceE_cnt h hB k) (by omega) e he
    omega
theorem tally_cnt (Fs : List T3) : ∀ i : Nat, ∀ e, e ∈ tally Fs i → 0 ≤ e.2 ∧ e.2 ≤ 3 * (i : Int)
  | 0 => fun e he => by cases he
  | i + 1 => by
    have ih := tally_cnt Fs i
    cases h : Fs[i]? with
    | none =>
      have e : tally Fs (i + 1) = tally Fs i := by show (match Fs[i]? with | some t => _ | none => _) = _; rw [h]
      rw [e]; intro x hx; have := ih x hx; omega
    | some t =>
      rw [tally_s h]
      intro x hx
      have := faceE_cnt (t := t) ih (by omega) 3 x hx
      omega
/-- The order of edges. -/
def leE (a b : EK) : Bool := decide (a.1 < b.1) || (decide (a.1 = b.1) && decide (a.2 ≤ b.2))
theorem leE_iff {a b : EK} : leE a b = true ↔ a.1 < b.1 ∨ (a.1 = b.1 ∧ a.2 ≤ b.2) := by simp [leE]
def srtE (l : List EK) : List EK := l.mergeSort leE
theorem leE_trans (a b c : EK) (h1 : leE a b = true) (h2 : leE b c = true) : leE a c = true := by rw [leE_iff] at *; omega
theorem leE_total (a b : EK) : (leE a b || leE b a) = true := by rw [Bool.or_eq_true, leE_iff, leE_iff]; omega
theorem leE_anti {a b : EK} (h1 : leE a b = true) (h2 : leE b a = true) : a = b := by
  rw [leE_iff] at *
  exact Prod.ext (by omega) (by omega)
theorem srtE_perm (l : List EK) : (srtE l).Perm l := List.mergeSort_perm l leE
theorem srtE_sorted (l : List EK) : (srtE l).Pairwise fun a b => leE a b = true := List.pairwise_mergeSort leE_trans leE_total l
theorem srtE_eq {l d : List EK} (hp : d.Perm l) (hs : d.Pairwise fun a b => leE a b = true) : d = srtE l :=
  List.Perm.eq_of_pairwise (le := fun a b => leE a b = true) (fun a b _ _ h1 h2 => leE_anti h1 h2) hs (srtE_sorted l) (hp.trans (srtE_perm l).symm)
end Go.Proofs.Ytiogpaehelpmhaa

set_option linter.unusedSimpArgs false
set_option linter.unusedVariables false
set_option maxRecDepth 100000
set_option maxHeartbeats 4000000
namespace Go.Proofs.Ytiogpaehelpmhaa
open Go Go.Eng

/-- An edge of a mesh that may be. -/
abbrev EF := Fin 1024 × Fin 1024
def encF (x : EF) : List Value := [.int .i64 (x.1.val : Int), .int .i64 (x.2.val : Int)]
def cmpF (x y : EF) : Int := ((x.1.val : Int) - y.1.val) * 1024 + x.2.val - y.2.val
def ltF (x y : EF) : Bool := decide (cmpF x y < 0)
theorem swoF : Sort.SWO ltF where
  irrefl := fun x => by simp [ltF, cmpF]
  trans := fun x y z h1 h2 => by
    unfold ltF cmpF at *; rw [decide_eq_true_eq] at *; omega
  ntrans := fun x y z h1 h2 => by
    unfold ltF cmpF at *; rw [decide_eq_false_iff_not] at *; omega
def ofF (x : EF) : EK := ((x.1.val : Int), (x.2.val : Int))
def toF (k : EK) : EF := (⟨k.1.toNat % 1024, Nat.mod_lt _ (by decide)⟩, ⟨k.2.toNat % 1024, Nat.mod_lt _ (by decide)⟩)
def BK1 (l : List EK) : Prop := ∀ k, k ∈ l → 0 ≤ k.1 ∧ k.1 < 1024 ∧ 0 ≤ k.2 ∧ k.2 < 1024
theorem of_to {k : EK} (h : 0 ≤ k.1 ∧ k.1 < 1024 ∧ 0 ≤ k.2 ∧ k.2 < 1024) : ofF (toF k) = k := by
  refine Prod.ext ?_ ?_
  · show ((k.1.toNat % 1024 : Nat) : Int) = k.1; omega
  · show ((k.2.toNat % 1024 : Nat) : Int) = k.2; omega
theorem of_to_l : ∀ {l : List EK}, BK1 l → (l.map toF).map ofF = l
  | [], _ => rfl
  | k :: l, h => by
    simp only [List.map_cons, of_to (h k List.mem_cons_self), of_to_l fun x hx => h x (List.mem_cons_of_mem _ hx)]
theorem leE_of_lt {x y : EF} (h : ltF y x = false) : leE (ofF x) (ofF y) = true := by
  rw [leE_iff]
  unfold ltF cmpF at h; rw [decide_eq_false_iff_not] at h
  show (x.1.val : Int) < y.1.val ∨ ((x.1.val : Int) = y.1.val ∧ (x.2.val : Int) ≤ y.2.val)
  have := x.1.isLt; have := x.2.isLt; have := y.1.isLt; have := y.2.isLt
  omega
def vL (l : List EF) : List Value := l.flatMap encF
theorem vL_len : ∀ l : List EF, (vL l).length = l.length * 2
  | [] => rfl
  | t :: l => by
    show (encF t ++ vL l).length = _
    rw [List.length_append, vL_len l, List.length_cons]
    show 2 + _ = _
    omega
theorem vL_get : ∀ (l : List EF) (t : Nat), t < l.length * 2 → (vL l)[t]! = (encF l[t / 2]!)[t % 2]!
  | [], t, h => by simp at h
  | x :: l, t, h => by
    show (encF x ++ vL l)[t]! = _
    have hx : (encF x).length = 2 := rfl
    rcases Nat.lt_or_ge t 2 with h2 | h2
    · have h0 : t / 2 = 0 := by omega
      have h1 : t % 2 = t := by omega
      rw [h0, h1, getElem!_pos (encF x ++ vL l) t (by rw [List.length_append, hx]; omega), List.getElem_append_left (by rw [hx]; exact h2)]
      rw [getElem!_pos (encF (x :: l)[0]!) t (by show t < 2; exact h2)]
      rfl
    · have ih := vL_get l (t - 2) (by simp at h; omega)
      have e1 : t / 2 = (t - 2) / 2 + 1 := by omega
      have e2 : t % 2 = (t - 2) % 2 := by omega
      have hl : t < (encF x ++ vL l).length := by rw [List.length_append, hx, vL_len]; simp at h; omega
      rw [getElem!_pos _ t hl, List.getElem_append_right (by rw [hx]; exact h2)]
      have hl2 : t - 2 < (vL l).length := by rw [vL_len]; simp at h; omega
      rw [getElem!_pos (vL l) (t - 2) hl2] at ih
      simp only [hx]
      rw [ih, e1, e2]
      have h3 : (t - 2) / 2 < l.length := by simp at h; omega
      rw [getElem!_pos (x :: l) _ (by simp; omega), getElem!_pos l _ h3]
      rfl
theorem flat_eq (l : List EF) : Sort.flatK encF 2 l.toArray = (vL l).toArray := by
  have h : ∀ t, t < l.length * 2 → (Sort.flatK encF 2 l.toArray)[t]! = (vL l)[t]! := fun t ht => by
    rw [Sort.get_flatK encF 2 l.toArray t (by simpa using ht), vL_get l t ht]
    simp
  refine Array.ext (by simp [vL_len]) fun i h1 h2 => ?_
  have hi : i < l.length * 2 := by simpa using h1
  have := h i hi
  rw [getElem!_pos _ i h1, getElem!_pos _ i (by simpa using h2)] at this
  simpa using this
theorem vals_of {ρ : Env} : ∀ {l : List EK} {xs : List Value}, BK1 l → All2 (VC ρ) (pL l) xs → xs = vL (l.map toF)
  | [], [], _, _ => rfl
  | k :: l, x :: y :: xs, hb, h => by
    have h1 : x = .int .i64 k.1 := h.1
    have h2 : y = .int .i64 k.2 := h.2.1
    have hk := of_to (hb k List.mem_cons_self)
    have e1 : ((toF k).1.val : Int) = k.1 := congrArg Prod.fst hk
    have e2 : ((toF k).2.val : Int) = k.2 := congrArg Prod.snd hk
    rw [h1, h2, vals_of (fun z hz => hb z (List.mem_cons_of_mem _ hz)) h.2.2]
    show _ = encF (toF k) ++ vL _
    unfold encF
    rw [e1, e2]; rfl
  | [], _ :: _, _, h => h.elim
  | _ :: _, [], _, h => h.elim
  | _ :: _, [_], _, h => h.2.elim
theorem vals_to {ρ : Env} : ∀ l : List EF, All2 (VC ρ) (pL (l.map ofF)) (vL l)
  | [] => trivial
  | x :: l => ⟨rfl, rfl, vals_to l⟩
abbrev SortsPairs (P : Program) (f g : FuncId) : Prop := ∀ (blk off cap : Nat) (d : Array EF) (w : World), Sort.HoldsK encF 2 w blk off d → blk < w.heap.size → d.size < 4611686018427387904 →
    Calls P f #[.slice (some ⟨blk, off, none⟩) d.size cap, .func (.func g) #[] #[]] w fun e w' =>
      e = .returned (.tuple #[]) ∧ ∃ d' n os, Sort.PermIn 0 d.size d d' ∧ Sort.SortedIn ltF 0 d.size d' ∧ w' = Go.Proofs.sortWorldK encF 2 w blk off n d' os
theorem Ctr.sortPairs {P : Program} {f g : FuncId} (hb : Bodied P f) (h1 : SortsPairs P f g) {mem : AMem} {r ty ver : Nat} {l : List EK} (hr : mem[r]? = some ⟨.grow, ty, ver, 2, pL l⟩) (hl : BK1 l) (hlen : l.length ≤ 140737488355328) (n : Nat) (hn : n = l.length) (h0 : ∀ m : AMem, Ctr P f [.one .nils, .one (.fn g [])] m (.tup []) m) :
    Ctr P f [.one (.sl r ver 0 n), .one (.fn g [])] mem (.tup []) (mem.set r ⟨.grow, ty, ver, 2, pL (srtE l)⟩) := by
  subst hn
  intro ρ w vs hm ha
  obtain ⟨A, c0, B, c, hρ, rfl, hlc, hB, h00⟩ : ∃ A c0 B c, ρ r ver = some (A, c0) ∧ vs = [.slice B l.length c, .func (.func g) #[] #[]] ∧ l.length ≤ c ∧ (0 < l.length → ∃ a, A = some a ∧ B = some (a.add 0)) ∧ (0 = 0 → B = A ∧ c = c0) := by
    match vs, ha with
    | [v, u], ha =>
      obtain ⟨A, c0, B, c, q1, rfl, q2, q3, q4⟩ := ha.1
      obtain ⟨us, rfl, hu⟩ := ha.2.1
      obtain ⟨ul⟩ := us
      match ul, hu with
      | [], _ => exact ⟨A, c0, B, c, q1, rfl, q2, q3, q4⟩
  obtain ⟨rfl, rfl⟩ := h00 rfl
  have hbk := hm.blk r _ hr
  simp only [BlkR] at hbk
  rcases hbk with ⟨q1, q2⟩ | ⟨g0, cc, cap, xs, sp, q1, q2, q3, q4, q5, q6⟩
  · rw [q2] at hρ; injection hρ with hρ; injection hρ with e1 e2
    subst e1; subst e2
    have hz : l = [] := by
      cases l with
      | nil => rfl
      | cons x l => simp at hlc
    subst hz
    have hsame : mem.set r ⟨.grow, ty, ver, 2, pL (srtE [])⟩ = mem := set_self (by simpa [srtE] using hr)
    rw [hsame]
    exact h0 mem ρ w _ hm ⟨rfl, ⟨#[], rfl, trivial⟩, trivial⟩
  · rw [q1] at hρ; injection hρ with hρ; injection hρ with e1 e2
    subst e1; subst e2
    have hxs := vals_of hl q6
    subst hxs
    have hH : Sort.HoldsK encF 2 w g0 0 (l.map toF).toArray := by
      unfold Sort.HoldsK; rw [flat_eq]; exact holds_of (ρ := ρ) q2 q5
    have hds : ((l.map toF).toArray).size = l.length := by simp
    refine .inl ⟨hb, ?_⟩
    have hc := h1 g0 0 cap (l.map toF).toArray w hH q2.lt (by rw [hds]; omega)
    rw [hds] at hc
    refine hc.mono ?_
    rintro e w' ⟨rfl, d', k, os, hp, hso, rfl⟩
    have hsz : d'.size = l.length := by rw [hp.1, hds]
    have hperm : d'.toList.Perm (l.map toF) := by
      have h3 := hp.2.2
      rw [Array.extract_eq_self_of_le (by omega), Array.extract_eq_self_of_le (by rw [hds]; exact Nat.le_refl _)] at h3
      simpa using h3
    have hsrt : (d'.toList.map ofF) = srtE l := by
      refine srtE_eq ?_ ?_
      · have := hperm.map ofF
        rwa [of_to_l hl] at this
      · rw [List.pairwise_map, List.pairwise_iff_getElem]
        intro i j hi hj hij
        have h4 := hso i j (Nat.zero_le _) hij (by simp at hj; omega)
        rw [getElem!_pos d' j (by simpa using hj), getElem!_pos d' i (by simpa using hi)] at h4
        exact leE_of_lt h4
    have hw : Go.Proofs.sortWorldK encF 2 w g0 0 k d' os = Sort.grow (Sort.putRow id (Sort.ahead w k) g0 0 (vL d'.toList).toArray) os := by
      unfold Go.Proofs.sortWorldK Sort.putRowK
      rw [← flat_eq]
    rw [hw]
    obtain ⟨g1, g2⟩ := hm.rowIn hr q1 q2 q3 q4 q5 (ys := vL d'.toList) (by rw [vL_len, vL_len]; simp [hsz]) (cs' := pL (srtE l)) (by rw [← hsrt]; exact vals_to _) k os
    exact ⟨_, ρ, rfl, ⟨#[], rfl, trivial⟩, g1, g2⟩
end Go.Proofs.Ytiogpaehelpmhaa

/- Contracts of Go's library off the kit's shelf, laid at this program by the kit's own command. -/
namespace Go.Proofs
open Go.Shelf
def Try.sortE_ren : Go.Shelf.Ren := ⟨fun | 6 => 47 | 15 => 80 | 14 => 79 | 28 => 106 | 29 => 107 | 20 => 98 | 21 => 99 | 22 => 100 | 23 => 101 | 24 => 102 | 25 => 103 | 26 => 104 | 27 => 105 | 46 => 109 | 47 => 110 | 48 => 111 | 49 => 112 | 50 => 113 | 57 => 114 | n => n, fun | 22 => 65 | 24 => 76 | 25 => 103 | 3 => 3 | 39 => 124 | 0 => 0 | 53 => 139 | 55 => 141 | 4 => 4 | 46 => 132 | 45 => 131 | 50 => 136 | 5 => 5 | 9 => 9 | 66 => 143 | 70 => 147 | 76 => 150 | 77 => 151 | n => n, fun | n => n⟩

theorem Try.sortE : Go.Proofs.SlLaysF0.n6 Try.prog Try.sortE_ren := {
  mixed := by kernel_rfl
  f6 := ⟨Try.f47.name, by decide, Try.func47.trans (congrArg some (by kernel_rfl))⟩
  f14 := ⟨Try.f79.name, by decide, Try.func79.trans (congrArg some (by kernel_rfl))⟩
  f15 := Try.func80.trans (congrArg some (by kernel_rfl))
  f20 := ⟨Try.f98.name, by decide, Try.func98.trans (congrArg some (by kernel_rfl))⟩
  f21 := ⟨Try.f99.name, by decide, Try.func99.trans (congrArg some (by kernel_rfl))⟩
  f22 := ⟨Try.f100.name, by decide, Try.func100.trans (congrArg some (by kernel_rfl))⟩
  f23 := ⟨Try.f101.name, by decide, Try.func101.trans (congrArg some (by kernel_rfl))⟩
  f24 := ⟨Try.f102.name, by decide, Try.func102.trans (congrArg some (by kernel_rfl))⟩
  f25 := ⟨Try.f103.name, by decide, Try.func103.trans (congrArg some (by kernel_rfl))⟩
  f26 := ⟨Try.f104.name, by decide, Try.func104.trans (congrArg some (by kernel_rfl))⟩
  f27 := ⟨Try.f105.name, by decide, Try.func105.trans (congrArg some (by kernel_rfl))⟩
  f28 := Try.func106.trans (congrArg some (by kernel_rfl))
  f29 := Try.func107.trans (congrArg some (by kernel_rfl))
  f46 := ⟨Try.f109.name, by decide, Try.func109.trans (congrArg some (by kernel_rfl))⟩
  f47 := Try.func110.trans (congrArg some (by kernel_rfl))
  f48 := Try.func111.trans (congrArg some (by kernel_rfl))
  f49 := ⟨Try.f112.name, by decide, Try.func112.trans (congrArg some (by kernel_rfl))⟩
  f50 := ⟨Try.f113.name, by decide, Try.func113.trans (congrArg some (by kernel_rfl))⟩
  f57 := ⟨Try.f114.name, by decide, Try.func114.trans (congrArg some (by kernel_rfl))⟩
  t0 := Try.underlying0
  a0 := Try.isAgg0
  z0 := Try.sizeOf0
  v0 := Try.zeroValue0
  t3 := Try.underlying3
  a3 := Try.isAgg3
  z3 := Try.sizeOf3
  v3 := Try.zeroValue3
  t4 := Try.underlying4
  a4 := Try.isAgg4
  z4 := Try.sizeOf4
  v4 := Try.zeroValue4
  t5 := Try.underlying5
  a5 := Try.isAgg5
  z5 := Try.sizeOf5
  v5 := Try.zeroValue5
  t9 := Try.underlying9
  a9 := Try.isAgg9
  z9 := Try.sizeOf9
  v9 := Try.zeroValue9
  t22 := Try.underlying65
  a22 := Try.isAgg65
  z22 := Try.sizeOf65
  v22 := Try.zeroValue65
  t25 := Try.underlying103
  a25 := Try.isAgg103
  z25 := Try.sizeOf103
  v25 := Try.zeroValue103
  t39 := Try.underlying124
  a39 := Try.isAgg124
  z39 := Try.sizeOf124
  v39 := Try.zeroValue124
  t45 := Try.underlying131
  a45 := Try.isAgg131
  z45 := Try.sizeOf131
  v45 := Try.zeroValue131
  t46 := Try.underlying132
  a46 := Try.isAgg132
  z46 := Try.sizeOf132
  v46 := Try.zeroValue132
  t50 := Try.underlying136
  a50 := Try.isAgg136
  z50 := Try.sizeOf136
  v50 := Try.zeroValue136
  t53 := Try.underlying139
  a53 := Try.isAgg139
  z53 := Try.sizeOf139
  v53 := Try.zeroValue139
  t55 := Try.underlying141
  a55 := Try.isAgg141
  z55 := Try.sizeOf141
  v55 := Try.zeroValue141
  t66 := Try.underlying143
  a66 := Try.isAgg143
  z66 := Try.sizeOf143
  v66 := Try.zeroValue143
  t70 := Try.underlying147
  a70 := Try.isAgg147
  z70 := Try.sizeOf147
  v70 := Try.zeroValue147
  t76 := Try.underlying150
  a76 := Try.isAgg150
  z76 := Try.sizeOf150
  v76 := Try.zeroValue150
  t77 := Try.underlying151
  a77 := Try.isAgg151
  z77 := Try.sizeOf151
  v77 := Try.zeroValue151 }

end Go.Proofs

set_option linter.unusedSimpArgs false
set_option linter.unusedVariables false
set_option maxRecDepth 100000
set_option maxHeartbeats 4000000
namespace Go.Proofs.Ytiogpaehelpmhaa
open Go Go.Eng

theorem closureE (x y : EF) (W : World) : Calls Try.prog 48 #[.agg #[.int .i64 (x.1.val : Int), .int .i64 (x.2.val : Int)], .agg #[.int .i64 (y.1.val : Int), .int .i64 (y.2.val : Int)]] W fun e w' => e = .returned (.int .i64 (cmpF x y)) ∧ ∃ q os', w' = Sort.grow (W.drewN q) os' := by
  have h1 := x.1.isLt; have h2 := x.2.isLt; have h3 := y.1.isLt; have h4 := y.2.isLt
  have hcm : cmpF x y = ((x.1.val : Int) - y.1.val) * 1024 + x.2.val - y.2.val := rfl
  rw [hcm]
  generalize hax : (x.1.val : Int) = a at *
  generalize hbx : (x.2.val : Int) = b at *
  generalize hcx : (y.1.val : Int) = c at *
  generalize hdx : (y.2.val : Int) = d at *
  go_enter Try.func48, Try.ntmps48
  go_wp2
  go_ret
  exact ⟨rfl, 0, _, by rw [Sort.alloc_eq_grow, Sort.alloc_eq_grow, Sort.grow_grow]; rfl⟩
theorem sortsE : SortsPairs Try.prog 47 48 := fun blk off cap d w hH hb hd =>
  AnyQ.slices_SortFunc Try.sortE 2 Try.isAgg76 Try.sizeOf76 encF (fun _ => rfl) (fun x v hv => by simp [encF] at hv; rcases hv with rfl | rfl <;> rfl) cmpF swoF 48 #[] blk off cap d w (enters_of Try.func48 (by kernel_rfl) rfl) (fun _ _ _ _ x y => closureE x y _) hH hb hd
def pls_sort_nil : Nat → Nat → List Plan := fun f r =>
  match f with
  | 79 => match r with
    | 17 => [.val, .val, .val, .val, .val, .val, .val, .val, .rd 0, .val, .val, .val, .rd 0, .ext, .val, .val, .val]
    | _ => []
  | 98 => match r with
    | 4 => [.val, .val, .val, .val, .val, .val, .val, .val, .rd 0, .val, .val, .val, .val, .rd 0, .ext, .val, .val]
    | 6 => [.val, .val, .val, .val, .val, .val, .val, .val, .val, .rd 0, .val, .val, .val, .rd 0, .val, .wr, .val, .wr]
    | _ => []
  | 99 => match r with
    | 10 => [.val, .val, .val, .val, .val, .val, .val, .val, .val, .val, .val, .rd 0, .val, .val, .val, .rd 0, .val, .wr, .val, .wr]
    | _ => []
  | 100 => match r with
    | 10 => [.val, .val, .val, .val, .val, .val, .val, .val, .val, .val, .val, .rd 0, .val, .val, .val, .rd 0, .val, .wr, .val, .wr]
    | _ => []
  | 102 => match r with
    | 3 => [.val, .val, .val, .val, .val, .val, .val, .rd 0, .val, .val, .val, .rd 0, .val, .wr, .val, .wr]
    | _ => []
  | 103 => match r with
    | 5 => [.val, .val, .val, .val, .val, .val, .val, .val, .rd 0, .val, .val, .val, .val, .rd 0, .ext, .val, .val, .val]
    | 11 => [.val, .val, .val, .val, .val, .val, .val, .val, .val, .rd 0, .val, .val, .val, .rd 0, .val, .wr, .val, .wr]
    | 16 => [.val, .val, .val, .val, .rd 0, .val, .val, .val, .val, .rd 0, .ext, .val, .val]
    | 17 => [.val, .val, .val, .val, .val, .val, .val, .val, .val, .rd 0, .val, .val, .val, .rd 0, .val, .wr, .val, .wr]
    | 22 => [.val, .val, .val, .val, .rd 0, .val, .val, .val, .val, .rd 0, .ext, .val, .val]
    | 23 => [.val, .val, .val, .val, .val, .val, .val, .val, .val, .rd 0, .val, .val, .val, .rd 0, .val, .wr, .val, .wr]
    | _ => []
  | 104 => match r with
    | 1 => [.val, .val, .val, .val, .val, .val, .val, .rd 0, .val, .val, .val, .rd 0, .val, .wr, .val, .wr]
    | 3 => [.val, .val, .val, .val, .val, .val, .val, .val, .rd 0, .val, .val, .val, .rd 0, .ext, .val, .val, .val]
    | 5 => [.val, .val, .val, .val, .val, .val, .val, .val, .rd 0, .val, .val, .val, .rd 0, .ext, .val, .val]
    | 8 => [.val, .val, .val, .val, .val, .val, .val, .rd 0, .val, .val, .val, .rd 0, .val, .wr, .val, .wr]
    | _ => []
  | 105 => match r with
    | 1 => [.val, .val, .val, .val, .val, .val, .val, .rd 0, .val, .val, .val, .rd 0, .val, .wr, .val, .wr]
    | 3 => [.val, .val, .val, .val, .val, .val, .val, .val, .rd 0, .val, .val, .val, .rd 0, .ext, .val, .val]
    | 5 => [.val, .val, .val, .val, .val, .val, .val, .val, .rd 0, .val, .val, .val, .rd 0, .ext, .val, .val, .val]
    | 8 => [.val, .val, .val, .val, .val, .val, .val, .rd 0, .val, .val, .val, .rd 0, .val, .wr, .val, .wr]
    | 10 => [.val, .val, .val, .val, .val, .val, .val, .rd 0, .val, .val, .val, .rd 0, .val, .wr, .val, .wr]
    | 13 => [.val, .val, .val, .val, .val, .val, .val, .val, .rd 0, .val, .val, .val, .rd 0, .ext, .val, .val]
    | 15 => [.val, .val, .val, .val, .val, .val, .val, .val, .rd 0, .val, .val, .val, .rd 0, .ext, .val, .val, .val]
    | 18 => [.val, .val, .val, .val, .val, .val, .val, .rd 0, .val, .val, .val, .rd 0, .val, .wr, .val, .wr]
    | 21 => [.val, .val, .val, .val, .val, .val, .val, .rd 0, .val, .val, .val, .rd 0, .val, .wr, .val, .wr]
    | _ => []
  | 109 => match r with
    | 3 => [.val, .val, .val, .val, .val, .val, .val, .val, .val, .val, .val, .rd 0, .val, .val, .val, .val, .val, .val, .rd 0, .ext, .val, .val]
    | 5 => [.val, .val, .val, .val, .val, .val, .rd 0, .val, .val, .val, .val, .val, .rd 0, .ext, .val, .val]
    | 6 => [.val, .val, .val, .val, .val, .val, .val, .val, .val, .val, .val, .val, .val, .rd 0, .val, .val, .val, .val, .val, .rd 0, .val, .wr, .val, .wr]
    | _ => []
  | 111 => match r with
    | 1 => [.val, .val, .rd 0, .val, .val, .rd 0, .val, .val, .val, .wr]
    | 2 => [.val, .val, .rd 0, .val, .val, .rd 0, .val, .val, .val, .wr]
    | 3 => [.val, .val, .rd 0, .val, .val, .rd 0, .val, .val, .val, .wr]
    | _ => []
  | 114 => match r with
    | 1 => [.val, .val, .val, .val, .rd 0, .val, .val, .val, .rd 0, .ext, .val]
    | _ => []
  | _ => []

theorem sort_nil (m : AMem) : Ctr Try.prog 47 [.one .nils, .one (.fn 48 [])] m (.tup []) m :=
  Ctr.runS pls_sort_nil 100 30 fol (by kernel_rfl) (by first | (simp; done) | (simp; exact ⟨rfl, rfl⟩)) rfl m
end Go.Proofs.Ytiogpaehelpmhaa

set_option linter.unusedSimpArgs false
set_option linter.unusedVariables false
set_option maxRecDepth 100000
set_option maxHeartbeats 4000000
namespace Go.Proofs.Ytiogpaehelpmhaa
open Go Go.Eng

theorem chk_len {n : Nat} {l : List T3} (h : chk n l = 0) : n ≤ 1024 ∧ l.length ≤ 1024 := by
  unfold chk at h; split at h
  · cases h
  · omega
theorem mE_below (L : Nat) : ∀ (s : Nat) (E : List (EK × Int)), (mE s E).all (fun e => e.2.1.all (CV.below L) && e.2.2.all (CV.below L)) = true
  | _, [] => rfl
  | s, e :: E => by
    show (_ && (mE (s + 1) E).all _) = true
    rw [mE_below L (s + 1) E]; rfl
theorem mE_mem : ∀ {s : Nat} {E : List (EK × Int)} {j : Nat} {e : Nat × List CV × List CV}, (mE s E)[j]? = some e → ∃ k c, E[j]? = some (k, c) ∧ e = (s + j, [.int .i64 k.1, .int .i64 k.2], [.int .i64 c])
  | s, e :: E, 0, x, h => by
    have : x = (s, [.int .i64 e.1.1, .int .i64 e.1.2], [.int .i64 e.2]) := by simpa [mE] using h.symm
    exact ⟨e.1, e.2, rfl, this⟩
  | s, e :: E, j + 1, x, h => by
    obtain ⟨k, c, h1, h2⟩ := mE_mem (s := s + 1) (E := E) (j := j) (by simpa [mE] using h)
    exact ⟨k, c, by simpa using h1, by rw [h2, show s + 1 + j = s + (j + 1) by omega]⟩
  | s, [], j, x, h => by simp [mE] at h
theorem mE_find : ∀ {s : Nat} {E : List (EK × Int)} {j : Nat} {k : EK} {c : Int}, E[j]? = some (k, c) → (mE s E).find? (fun e => e.1 == s + j) = some (s + j, [.int .i64 k.1, .int .i64 k.2], [.int .i64 c])
  | s, e :: E, 0, k, c, h => by
    have he : e = (k, c) := by simpa using h
    subst he
    show List.find? _ (_ :: _) = _
    rw [List.find?_cons]; simp
  | s, e :: E, j + 1, k, c, h => by
    show List.find? _ (_ :: mE (s + 1) E) = _
    rw [List.find?_cons]
    have h1 : (s == s + (j + 1)) = false := by rw [beq_eq_false_iff_ne]; omega
    have h2 := mE_find (s := s + 1) (E := E) (j := j) (k := k) (c := c) (by simpa using h)
    rw [show s + 1 + j = s + (j + 1) by omega] at h2
    simp only [h1, h2]
  | s, [], j, k, c, h => by simp at h
def kAt (T : List (EK × Int)) (s : Nat) : EK := ((T[s]?).map (·.1)).getD (0, 0)
theorem kAt_at {T : List (EK × Int)} {j : Nat} {k : EK} {c : Int} (h : T[j]? = some (k, c)) : kAt T j = k := by unfold kAt; rw [h]; rfl
def ksE (T : List (EK × Int)) : List EK := srtE (T.map (·.1))
def cntE (T : List (EK × Int)) (k : EK) : Int := ((T.find? fun e => e.1 == k).map (·.2)).getD 0
def csE (T : List (EK × Int)) : List Int := (ksE T).map (cntE T)
theorem ksE_len (T : List (EK × Int)) : (ksE T).length = T.length := by unfold ksE srtE; simp
theorem csE_len (T : List (EK × Int)) : (csE T).length = T.length := by unfold csE; rw [List.length_map, ksE_len]
structure SeenE (n : Nat) (seen : List Nat) : Prop where
  nd : seen.Nodup
  lt : ∀ x, x ∈ seen → x < n
theorem nd_le : ∀ {l r : List Nat}, l.Nodup → (∀ x, x ∈ l → x ∈ r) → l.length ≤ r.length
  | [], r, _, _ => Nat.zero_le _
  | x :: l, r, hn, hs => by
    rw [List.nodup_cons] at hn
    obtain ⟨a, b, rfl⟩ := List.append_of_mem (hs x List.mem_cons_self)
    have := nd_le (l := l) (r := a ++ b) hn.2 fun y hy => by
      have h1 := hs y (List.mem_cons_of_mem _ hy)
      have hne : y ≠ x := fun e => hn.1 (e ▸ hy)
      simp only [List.mem_append, List.mem_cons] at h1 ⊢
      rcases h1 with h1 | h1 | h1
      · exact .inl h1
      · exact (hne h1).elim
      · exact .inr h1
    simp only [List.length_append, List.length_cons] at this ⊢
    omega
theorem SeenE.len {n : Nat} {seen : List Nat} (h : SeenE n seen) : seen.length ≤ n := by
  have := nd_le (r := List.range n) h.nd fun x hx => List.mem_range.2 (h.lt x hx)
  simpa using this
theorem SeenE.add {n : Nat} {seen : List Nat} (h : SeenE n seen) {b : Nat} (hb : b < n) (hn : b ∉ seen) : SeenE n (seen ++ [b]) :=
  ⟨List.nodup_append.2 ⟨h.nd, by simp, fun x hx y hy e => by simp at hy; subst hy; subst e; exact hn hx⟩, fun x hx => by
    rcases List.mem_append.1 hx with hx | hx
    · exact h.lt x hx
    · rw [List.mem_singleton.1 hx]; exact hb⟩
theorem SeenE.all {n : Nat} {seen : List Nat} (h : SeenE n seen) (ha : ∀ x, x < n → x ∈ seen) : seen.Perm (List.range n) := by
  refine (List.perm_ext_iff_of_nodup h.nd List.nodup_range).2 fun x => ?_
  rw [List.mem_range]
  exact ⟨h.lt x, ha x⟩
theorem kAt_range (T : List (EK × Int)) : (List.range T.length).map (kAt T) = T.map (·.1) := by
  refine List.ext_getElem (by simp) fun i h1 h2 => ?_
  have hi : i < T.length := by simpa using h1
  simp [kAt, List.getElem?_eq_getElem hi]
theorem ks_seen {T : List (EK × Int)} {seen : List Nat} (h : SeenE T.length seen) (ha : ∀ x, x < T.length → x ∈ seen) : srtE (seen.map (kAt T)) = ksE T := by
  have h1 : (seen.map (kAt T)).Perm (T.map (·.1)) := by
    have := (h.all ha).map (kAt T)
    rwa [kAt_range] at this
  exact srtE_eq ((srtE_perm _).trans h1) (srtE_sorted _)
theorem ksE_mem {T : List (EK × Int)} {k : EK} (h : k ∈ ksE T) : ∃ j c, T[j]? = some (k, c) ∧ idxE k T = some j ∧ cntE T k = c := by
  have h1 : k ∈ T.map (·.1) := (srtE_perm _).mem_iff.1 h
  clear h
  induction T with
  | nil => cases h1
  | cons e T ih =>
    by_cases hk : e.1 = k
    · exact ⟨0, e.2, by rw [← hk]; rfl, by unfold idxE; rw [if_pos hk], by
        unfold cntE
        rw [List.find?_cons, show (e.1 == k) = true by simpa using hk]; rfl⟩
    · rcases List.mem_cons.1 h1 with h2 | h2
      · exact (hk h2.symm).elim
      · obtain ⟨j, c, p1, p2, p3⟩ := ih h2
        refine ⟨j + 1, c, by simpa using p1, by unfold idxE; rw [if_neg hk, p2]; rfl, ?_⟩
        rw [← p3]
        unfold cntE
        rw [List.find?_cons, show (e.1 == k) = false by simpa using hk]
theorem cs_step {T : List (EK × Int)} {i : Nat} {k : EK} (h : (ksE T)[i]? = some k) : ((csE T).take i).map (CV.int .i64) ++ [CV.int .i64 (cntE T k)] = ((csE T).take (i + 1)).map (CV.int .i64) := by
  have h1 : (csE T)[i]? = some (cntE T k) := by unfold csE; rw [List.getElem?_map, h]; rfl
  rw [List.take_add_one, h1]; simp
theorem ic_below (L : Nat) : ∀ l : List Int, (l.map (CV.int .i64)).all (CV.below L) = true
  | [] => rfl
  | _ :: l => by rw [List.map_cons, List.all_cons, ic_below L l]; rfl
theorem edges_no (rp vp rf vf : Nat) (P Fs : List T3) (m : AMem) (hp : rp < m.length) (hf : TRow m 54 rf vf Fs) (hc : ¬ chk P.length Fs = 0) : Ctr Try.prog 26 [.agg [.sl rp vp 0 P.length, .sl rf vf 0 Fs.length]] m (.tup [(false, [.nils]), (false, [.nils])]) m := by
  refine Ctr.enter Try.func26 rfl (by decide) (rs := [.tmp 2, .tmp 3]) (nt := 78) rfl rfl fun hwf Q hQ => ?_
  have hb0 : (chk P.length Fs != 0) = true := by simp [hc]
  refine AW.seq_k fun K hK => ?_
  refine AW.region (by decide) ?_
  simp only [push_cast, simprocAttr, hb0]
  refine Thn_n ?_
  refine hK _ _ ?_
  clear hK K
  refine AW.seq_k fun K hK => ?_
  refine AW.seq_k fun K hK => ?_
  refine AW.region (by decide) ?_
  simp only [push_cast, simprocAttr, hb0]
  refine CThen.by (check_c rp vp rf vf P Fs _ (by simp; omega) (hf.mono _)) ?_
  simp only [push_cast, simprocAttr, hb0]
  refine Thn_n ?_
  refine hK _ _ ?_
  clear hK K
  refine AW.cond_t rfl ?_
  refine AW.seq_k fun K hK => ?_
  refine AW.region (by decide) ?_
  simp only [push_cast, simprocAttr, hb0]
  refine Thn_n ?_
  refine hK _ _ ?_
  clear hK K
  refine AW.ret ?_
  refine Thn_r ?_
  refine hQ _ _ _ ?_
  first | refine RetP.drop0 (Or.inr rfl) ?_ ?_ hwf | refine RetP.drop (Or.inr rfl) ?_ ?_ hwf
  · simp only [resA, resOne, resTv, AV.tv, push_cast, simprocAttr, hb0]
  · rfl
theorem edges_x (rp vp rf vf : Nat) (P Fs : List T3) (m : AMem) (hp : rp < m.length) (hf : TRow m 54 rf vf Fs) (hc : chk P.length Fs = 0) (T : List (EK × Int)) (hT : T = tally Fs Fs.length) (hTb : BK1 (T.map (·.1))) : Ctr Try.prog 26 [.agg [.sl rp vp 0 P.length, .sl rf vf 0 Fs.length]] m (.tup [(false, [.sl m.length 0 0 T.length]), (false, [.sl (m.length + 1) 0 0 T.length])]) (m ++ [⟨.grow, 76, 0, 2, pL (ksE T)⟩, ⟨.grow, 3, 0, 1, (csE T).map (CV.int .i64)⟩]) := by
  refine Ctr.enter Try.func26 rfl (by decide) (rs := [.tmp 2, .tmp 3]) (nt := 78) rfl rfl fun hwf Q hQ => ?_
  obtain ⟨k0, ez, hb⟩ := hf.hb
  have hr0 := get_lt hb
  have hll0 := chk_len hc
  have hb0 : (chk P.length Fs != 0) = false := by simp [hc]
  have hTl : T.length ≤ 3072 := by rw [hT]; have := tally_len Fs Fs.length; omega
  have hold : ∀ e, e ∈ mE 0 T → e.1 < T.length := fun e he => by
    obtain ⟨j, hj⟩ := List.mem_iff_getElem?.1 he
    obtain ⟨k, c, h1, rfl⟩ := mE_mem hj
    have := (List.getElem?_eq_some_iff.1 h1).1
    show 0 + j < _
    omega
  have hcl := ksE_len T
  have hlt0 : ∀ k, ¬ m.length + k < m.length := fun k => by omega
  refine AW.seq_k fun K hK => ?_
  refine AW.region (by decide) ?_
  simp only [push_cast, simprocAttr, hb, lk_old hb, hb0]
  refine Thn_n ?_
  refine hK _ _ ?_
  clear hK K
  refine AW.seq_k fun K hK => ?_
  refine AW.seq_k fun K hK => ?_
  refine AW.region (by decide) ?_
  simp only [push_cast, simprocAttr, hb, lk_old hb, hb0]
  refine CThen.by (check_c rp vp rf vf P Fs _ (by simp; omega) (hf.mono _)) ?_
  simp only [push_cast, simprocAttr, hb, lk_old hb, hb0]
  refine Thn_n ?_
  refine hK _ _ ?_
  clear hK K
  refine AW.cond_f rfl ?_
  refine AW.skip ?_
  refine Thn_n ?_
  refine hK _ _ ?_
  clear hK K
  refine AW.seq_k fun K hK => ?_
  refine AW.region (by decide) ?_
  simp only [push_cast, simprocAttr, hb, lk_old hb, hb0]
  refine Thn_n ?_
  refine hK _ _ ?_
  clear hK K
  refine AW.seq_k fun K hK => ?_
  refine AW.seq_k fun K hK => ?_
  refine AW.region (by decide) ?_
  simp only [push_cast, simprocAttr, hb, lk_old hb, hb0]
  refine Thn_n ?_
  refine hK _ _ ?_
  clear hK K
  refine AW.block ?_
  refine AW.loopK [4, 20, 21] (fun i => i ≤ Fs.length) (fun i => [(22, .one (.int .i64 (i : Int)))]) (fun i => [(m.length + 1, ⟨.map true false (tally Fs i).length (mE 0 (tally Fs i)), 91, 0, 0, []⟩)]) (fun i => Fs.length - i) 0 (by omega) ?_ ?_ fun i hi7 => ?_
  · first | rfl | (simp only [Keeps, Tm.get_cons, Nat.reduceEqDiff, ↓reduceIte, if_true, if_false, ite_true, ite_false, true_and, and_true, and_self, reduceCtorEq, Int.natCast_zero, tally, mE, List.length_nil] <;> rfl)
  · first | rfl | (simp only [setAll, push_cast, simprocAttr, hb, lk_old hb, hb0, Int.natCast_zero, tally, mE, List.length_nil] <;> rfl)
  try simp only [keepL, setAll, push_cast, simprocAttr, hb, lk_old hb, hb0]
  refine AW.seq_k fun K hK => ?_
  refine AW.region (by decide) ?_
  simp only [push_cast, simprocAttr, hb, lk_old hb, hb0]
  refine Thn_n ?_
  refine hK _ _ ?_
  clear hK K
  refine AW.seq_k fun K hK => ?_
  refine AW.cond rfl (fun h23 => ?_) (fun h23 => ?_)
  · have hlt : i < Fs.length := by have := of_decide_eq_true h23; omega
    have c1 : (0 : Int) ≤ (i : Int) := by omega
    have c2 : (i : Int) < (Fs.length : Nat) := by omega
    have c3 : i * 3 + 3 ≤ Fs.length * 3 := by omega
    obtain ⟨t, ht⟩ : ∃ t, Fs[i]? = some t := ⟨_, List.getElem?_eq_getElem hlt⟩
    have g0 := tL_get0 ht
    have g1 := tL_get1 ht
    have g2 := tL_get2 ht
    have g3 := tL_at ht
    have gl := tL_len Fs
    have hts := tally_s ht
    have htl := tally_len Fs i
    refine AW.skip ?_
    refine Thn_n ?_
    refine hK _ _ ?_
    clear hK K
    refine AW.seq_k fun K hK => ?_
    refine AW.block ?_
    iterate 2
      refine AW.seq_k fun K hK => ?_
      refine AW.region (by decide) ?_
      simp only [push_cast, simprocAttr, hb, lk_old hb, hb0, c1, c2, c3, g0, g1, g2, g3, gl]
      refine Thn_n ?_
      refine hK _ _ ?_
      clear hK K
    refine AW.block ?_
    refine AW.loopK [4, 6, 20, 21, 22] (fun k => k ≤ (3 : Nat)) (fun k => [(26, .one (.int .i64 (k : Int)))]) (fun k => [(m.length + 1, ⟨.map true false (faceE (tally Fs i) t k).length (mE 0 (faceE (tally Fs i) t k)), 91, 0, 0, []⟩)]) (fun k => 3 - k) 0 (by omega) ?_ ?_ fun k hi13 => ?_
    · first | rfl | (simp only [Keeps, Tm.get_cons, Nat.reduceEqDiff, ↓reduceIte, if_true, if_false, ite_true, ite_false, true_and, and_true, and_self, reduceCtorEq, Int.natCast_zero, faceE] <;> rfl)
    · first | rfl | (simp only [setAll, push_cast, simprocAttr, hb, lk_old hb, hb0, c1, c2, c3, g0, g1, g2, g3, gl, Int.natCast_zero, faceE] <;> rfl)
    have hk3x : k ≤ 3 := hi13
    try simp only [keepL, setAll, push_cast, simprocAttr, hb, lk_old hb, hb0, c1, c2, c3, g0, g1, g2, g3, gl]
    refine AW.seq_k fun K hK => ?_
    refine AW.region (by decide) ?_
    simp only [push_cast, simprocAttr, hb, lk_old hb, hb0, c1, c2, c3, g0, g1, g2, g3, gl]
    refine Thn_n ?_
    refine hK _ _ ?_
    clear hK K
    refine AW.seq_k fun K hK => ?_
    refine AW.cond rfl (fun h27 => ?_) (fun h27 => ?_)
    · have hk3 : k < 3 := by have := of_decide_eq_true h27; omega
      have d1 : (0 : Int) ≤ (k : Int) := by omega
      have d2 : (k : Int) < 3 := by omega
      have d3 : IntKind.i64.wrap ((k : Int) + 1) = (k : Int) + 1 := wi (by omega)
      obtain ⟨k2, hk2⟩ : ∃ k2, k2 = (k + 1) % 3 := ⟨_, rfl⟩
      have hk23 : k2 < 3 := by omega
      have d4 : ((k : Int) + 1).tmod 3 = (k2 : Int) := by rw [Int.tmod_eq_emod_of_nonneg (by omega)]; omega
      have d5 : IntKind.i64.wrap (k2 : Int) = (k2 : Int) := wi (by omega)
      have d6 : (0 : Int) ≤ (k2 : Int) := by omega
      have d7 : (k2 : Int) < 3 := by omega
      have hv1 := fv_at t hk3
      have hv2 := fv_at t hk23
      have hfl := faceE_len (tally Fs i) t k
      have hfs : faceE (tally Fs i) t (k + 1) = inc (fKey t k) (faceE (tally Fs i) t k) := rfl
      obtain ⟨E, hE⟩ : ∃ E, E = faceE (tally Fs i) t k := ⟨_, rfl⟩
      obtain ⟨x, hx⟩ : ∃ x, x = fv t k := ⟨_, rfl⟩
      obtain ⟨y, hy⟩ : ∃ y, y = fv t k2 := ⟨_, rfl⟩
      have hky : fKey t k = eKey x y := by rw [hx, hy, hk2]; rfl
      rw [← hx] at hv1
      rw [← hy] at hv2
      rw [hky] at hfs
      simp only [← hE] at hfs hfl ⊢
      have hfd := findL_mE (eKey x y) 0 E
      have hcn := faceE_cnt (t := t) (tally_cnt Fs i) (by omega) k
      rw [← hE] at hcn
      have hll := chk_len hc
      refine AW.skip ?_
      refine Thn_n ?_
      refine hK _ _ ?_
      clear hK K
      refine AW.seq_k fun K hK => ?_
      refine AW.block ?_
      refine AW.seq_k fun K hK => ?_
      refine AW.region (by decide) ?_
      simp only [push_cast, simprocAttr, hb, lk_old hb, hb0, c1, c2, c3, g0, g1, g2, g3, gl, d1, d2, d3, d4, d5, d6, d7, hv1, hv2]
      refine Thn_n ?_
      refine hK _ _ ?_
      clear hK K
      refine AW.seq_k fun K hK => ?_
      refine AW.draw [.val, .val, .rd 0, .val, .val, .val, .val, .rd 0, .val, .val] fol (by decide) (by kernel_rfl) ?_
      simp only [push_cast, simprocAttr, hb, lk_old hb, hb0, c1, c2, c3, g0, g1, g2, g3, gl, d1, d2, d3, d4, d5, d6, d7, hv1, hv2]
      refine Thn_n ?_
      refine hK _ _ ?_
      clear hK K
      rcases hi : idxE (eKey x y) E with _ | j
      · have g1 : findL [CV.int .i64 (Eng.minI x y), .int .i64 (Eng.maxI x y)] (mE 0 E) = some none := hfd.trans (by rw [hi])
        have h0 := idxE_app (c := 0) hi
        have gap : mE 0 E ++ [(E.length, [CV.int .i64 (Eng.minI x y), .int .i64 (Eng.maxI x y)], [.int .i64 0])] = mE 0 (E ++ [(eKey x y, 0)]) := by have := mE_app 0 E (eKey x y) 0; rw [Nat.zero_add] at this; exact this
        have g2 : findL [CV.int .i64 (Eng.minI x y), .int .i64 (Eng.maxI x y)] (mE 0 (E ++ [(eKey x y, 0)])) = some (some E.length) := (findL_mE (eKey x y) 0 _).trans (by rw [h0])
        have gg : (E ++ [(eKey x y, (0 : Int))])[E.length]? = some (eKey x y, 0) := by simp
        have g4 : (mE 0 (E ++ [(eKey x y, 0)]))[E.length]? = some (E.length, [CV.int .i64 (Eng.minI x y), .int .i64 (Eng.maxI x y)], [.int .i64 0]) := by have := mE_get (s := 0) gg; rw [Nat.zero_add] at this; exact this
        have g5 := mE_idx (s := 0) (E := E ++ [(eKey x y, (0 : Int))]) (j := E.length) (by simp)
        rw [Nat.zero_add] at g5
        have g6 : (mE 0 (E ++ [(eKey x y, 0)])).set E.length (E.length, [CV.int .i64 (Eng.minI x y), .int .i64 (Eng.maxI x y)], [.int .i64 1]) = mE 0 (E ++ [(eKey x y, 1)]) := by have := mE_set (s := 0) (E := E ++ [(eKey x y, (0 : Int))]) (j := E.length) (eKey x y) 1 (by simp); rw [Nat.zero_add] at this; rw [show (E ++ [(eKey x y, (0 : Int))]).set E.length (eKey x y, 1) = E ++ [(eKey x y, 1)] by simp] at this; exact this
        have hfs2 := hfs.trans (inc_none hi)
        have hln : (E ++ [(eKey x y, (1 : Int))]).length = E.length + 1 := by simp
        refine AW.drawX fol (by kernel_rfl) ?_
        refine DX.split 8 10 (by decide) ?_ ?_
        · refine DX.run [0, 1, 2, 3, 4, 5, 6, 7, 8, 9, 10, 11, 12] [.val, .val, .val, .val, .val, .val, .val, .val, .wr, .val, .wr, .val, .wr] (by simp only [permL, reOp, List.idxOf_cons, push_cast, simprocAttr, hb, lk_old hb, hb0, c1, c2, c3, g0, g1, g2, g3, gl, d1, d2, d3, d4, d5, d6, d7, hv1, hv2, g1, gap, g2, g4, g5, g6, hln]; first | done | rfl) (by kernel_rfl) ?_
          simp only [push_cast, simprocAttr, hb, lk_old hb, hb0, c1, c2, c3, g0, g1, g2, g3, gl, d1, d2, d3, d4, d5, d6, d7, hv1, hv2, g1, gap, g2, g4, g5, g6, hln]
          refine InB_n ?_
          refine Thn_n ?_
          refine hK _ _ ?_
          clear hK K
          refine AW.region (by decide) ?_
          simp only [push_cast, simprocAttr, hb, lk_old hb, hb0, c1, c2, c3, g0, g1, g2, g3, gl, d1, d2, d3, d4, d5, d6, d7, hv1, hv2, g1, gap, g2, g4, g5, g6, hln]
          refine Thn_n ?_
          have hwk : IntKind.i64.wrap ((k:Int)+1) = (k:Int)+1 := wi (by omega)
          refine ⟨k + 1, hk3, by omega, ?_⟩
          try simp only [keepL, setAll, push_cast, simprocAttr, hb, lk_old hb, hb0, c1, c2, c3, g0, g1, g2, g3, gl, d1, d2, d3, d4, d5, d6, d7, hv1, hv2, g1, gap, g2, g4, g5, g6, hln, hwk, hfs2, hln]
          exact Weak.same (by simp only [Keeps, Tm.get_cons, Nat.reduceEqDiff, ↓reduceIte, if_true, if_false, ite_true, ite_false, true_and, and_true, and_self, reduceCtorEq, hwk, hfs2, hln]) (by first | rfl | simp only [Keeps, Tm.get_cons, Nat.reduceEqDiff, ↓reduceIte, if_true, if_false, ite_true, ite_false, true_and, and_true, and_self, reduceCtorEq, hwk, hfs2, hln])
        · refine DX.run [0, 1, 2, 3, 4, 5, 6, 7, 10, 8, 9, 11, 12] [.val, .val, .val, .val, .val, .val, .val, .val, .wr, .wr, .val, .val, .wr] (by simp only [permL, reOp, List.idxOf_cons, push_cast, simprocAttr, hb, lk_old hb, hb0, c1, c2, c3, g0, g1, g2, g3, gl, d1, d2, d3, d4, d5, d6, d7, hv1, hv2, g1, gap, g2, g4, g5, g6, hln]; first | done | rfl) (by kernel_rfl) ?_
          simp only [push_cast, simprocAttr, hb, lk_old hb, hb0, c1, c2, c3, g0, g1, g2, g3, gl, d1, d2, d3, d4, d5, d6, d7, hv1, hv2, g1, gap, g2, g4, g5, g6, hln]
          refine InB_n ?_
          refine Thn_n ?_
          refine hK _ _ ?_
          clear hK K
          refine AW.region (by decide) ?_
          simp only [push_cast, simprocAttr, hb, lk_old hb, hb0, c1, c2, c3, g0, g1, g2, g3, gl, d1, d2, d3, d4, d5, d6, d7, hv1, hv2, g1, gap, g2, g4, g5, g6, hln]
          refine Thn_n ?_
          have hwk : IntKind.i64.wrap ((k:Int)+1) = (k:Int)+1 := wi (by omega)
          refine ⟨k + 1, hk3, by omega, ?_⟩
          try simp only [keepL, setAll, push_cast, simprocAttr, hb, lk_old hb, hb0, c1, c2, c3, g0, g1, g2, g3, gl, d1, d2, d3, d4, d5, d6, d7, hv1, hv2, g1, gap, g2, g4, g5, g6, hln, hwk, hfs2, hln]
          exact Weak.same (by simp only [Keeps, Tm.get_cons, Nat.reduceEqDiff, ↓reduceIte, if_true, if_false, ite_true, ite_false, true_and, and_true, and_self, reduceCtorEq, hwk, hfs2, hln]) (by first | rfl | simp only [Keeps, Tm.get_cons, Nat.reduceEqDiff, ↓reduceIte, if_true, if_false, ite_true, ite_false, true_and, and_true, and_self, reduceCtorEq, hwk, hfs2, hln])
      · obtain ⟨c, hjc, hin⟩ := inc_some hi
        have hjl : j < E.length := (List.getElem?_eq_some_iff.1 hjc).1
        have hcc := hcn _ (List.mem_of_getElem? hjc)
        dsimp only at hcc
        have hwc : IntKind.i64.wrap (c + 1) = c + 1 := wi (by omega)
        have g1 : findL [CV.int .i64 (Eng.minI x y), .int .i64 (Eng.maxI x y)] (mE 0 E) = some (some j) := hfd.trans (by rw [hi])
        have g4 : (mE 0 E)[j]? = some (j, [CV.int .i64 (Eng.minI x y), .int .i64 (Eng.maxI x y)], [.int .i64 c]) := by have := mE_get (s := 0) hjc; rw [Nat.zero_add] at this; exact this
        have g3 : (mE 0 E).set j (j, [CV.int .i64 (Eng.minI x y), .int .i64 (Eng.maxI x y)], [.int .i64 c]) = mE 0 E := set_self g4
        have g5 := mE_idx (s := 0) hjl
        rw [Nat.zero_add] at g5
        have g6 : (mE 0 E).set j (j, [CV.int .i64 (Eng.minI x y), .int .i64 (Eng.maxI x y)], [.int .i64 (c + 1)]) = mE 0 (E.set j (eKey x y, c + 1)) := by have := mE_set (s := 0) (eKey x y) (c + 1) hjl; rw [Nat.zero_add] at this; exact this
        have hfs2 := hfs.trans hin
        have hln : (E.set j (eKey x y, c + 1)).length = E.length := by simp
        refine AW.drawX fol (by kernel_rfl) ?_
        refine DX.split 8 10 (by decide) ?_ ?_
        · refine DX.run [0, 1, 2, 3, 4, 5, 6, 7, 8, 9, 10, 11, 12] [.val, .val, .val, .val, .val, .val, .val, .val, .wr, .val, .wr, .val, .wr] (by simp only [permL, reOp, List.idxOf_cons, push_cast, simprocAttr, hb, lk_old hb, hb0, c1, c2, c3, g0, g1, g2, g3, gl, d1, d2, d3, d4, d5, d6, d7, hv1, hv2, g1, g3, g4, g5, g6, hwc, hln]; first | done | rfl) (by kernel_rfl) ?_
          simp only [push_cast, simprocAttr, hb, lk_old hb, hb0, c1, c2, c3, g0, g1, g2, g3, gl, d1, d2, d3, d4, d5, d6, d7, hv1, hv2, g1, g3, g4, g5, g6, hwc, hln]
          refine InB_n ?_
          refine Thn_n ?_
          refine hK _ _ ?_
          clear hK K
          refine AW.region (by decide) ?_
          simp only [push_cast, simprocAttr, hb, lk_old hb, hb0, c1, c2, c3, g0, g1, g2, g3, gl, d1, d2, d3, d4, d5, d6, d7, hv1, hv2, g1, g3, g4, g5, g6, hwc, hln]
          refine Thn_n ?_
          have hwk : IntKind.i64.wrap ((k:Int)+1) = (k:Int)+1 := wi (by omega)
          refine ⟨k + 1, hk3, by omega, ?_⟩
          try simp only [keepL, setAll, push_cast, simprocAttr, hb, lk_old hb, hb0, c1, c2, c3, g0, g1, g2, g3, gl, d1, d2, d3, d4, d5, d6, d7, hv1, hv2, g1, g3, g4, g5, g6, hwc, hln, hwk, hfs2, hln]
          exact Weak.same (by simp only [Keeps, Tm.get_cons, Nat.reduceEqDiff, ↓reduceIte, if_true, if_false, ite_true, ite_false, true_and, and_true, and_self, reduceCtorEq, hwk, hfs2, hln]) (by first | rfl | simp only [Keeps, Tm.get_cons, Nat.reduceEqDiff, ↓reduceIte, if_true, if_false, ite_true, ite_false, true_and, and_true, and_self, reduceCtorEq, hwk, hfs2, hln])
        · refine DX.run [0, 1, 2, 3, 4, 5, 6, 7, 10, 8, 9, 11, 12] [.val, .val, .val, .val, .val, .val, .val, .val, .wr, .wr, .val, .val, .wr] (by simp only [permL, reOp, List.idxOf_cons, push_cast, simprocAttr, hb, lk_old hb, hb0, c1, c2, c3, g0, g1, g2, g3, gl, d1, d2, d3, d4, d5, d6, d7, hv1, hv2, g1, g3, g4, g5, g6, hwc, hln]; first | done | rfl) (by kernel_rfl) ?_
          simp only [push_cast, simprocAttr, hb, lk_old hb, hb0, c1, c2, c3, g0, g1, g2, g3, gl, d1, d2, d3, d4, d5, d6, d7, hv1, hv2, g1, g3, g4, g5, g6, hwc, hln]
          refine InB_n ?_
          refine Thn_n ?_
          refine hK _ _ ?_
          clear hK K
          refine AW.region (by decide) ?_
          simp only [push_cast, simprocAttr, hb, lk_old hb, hb0, c1, c2, c3, g0, g1, g2, g3, gl, d1, d2, d3, d4, d5, d6, d7, hv1, hv2, g1, g3, g4, g5, g6, hwc, hln]
          refine Thn_n ?_
          have hwk : IntKind.i64.wrap ((k:Int)+1) = (k:Int)+1 := wi (by omega)
          refine ⟨k + 1, hk3, by omega, ?_⟩
          try simp only [keepL, setAll, push_cast, simprocAttr, hb, lk_old hb, hb0, c1, c2, c3, g0, g1, g2, g3, gl, d1, d2, d3, d4, d5, d6, d7, hv1, hv2, g1, g3, g4, g5, g6, hwc, hln, hwk, hfs2, hln]
          exact Weak.same (by simp only [Keeps, Tm.get_cons, Nat.reduceEqDiff, ↓reduceIte, if_true, if_false, ite_true, ite_false, true_and, and_true, and_self, reduceCtorEq, hwk, hfs2, hln]) (by first | rfl | simp only [Keeps, Tm.get_cons, Nat.reduceEqDiff, ↓reduceIte, if_true, if_false, ite_true, ite_false, true_and, and_true, and_self, reduceCtorEq, hwk, hfs2, hln])
    · have hk3 : k = 3 := by have := of_decide_eq_false h27; omega
      subst hk3
      refine AW.exit ?_
      refine Thn_e ?_
      clear hK K
      refine Thn_e ?_
      refine InB_here ?_
      refine InB_n ?_
      refine Thn_n ?_
      refine hK _ _ ?_
      clear hK K
      refine AW.region (by decide) ?_
      simp only [push_cast, simprocAttr, hb, lk_old hb, hb0, c1, c2, c3, g0, g1, g2, g3, gl]
      refine Thn_n ?_
      have hwi : IntKind.i64.wrap ((i:Int)+1) = (i:Int)+1 := wi (by omega)
      refine ⟨i + 1, by omega, by omega, ?_⟩
      try simp only [keepL, setAll, push_cast, simprocAttr, hb, lk_old hb, hb0, c1, c2, c3, g0, g1, g2, g3, gl, hwi, hts]
      exact Weak.to (extra := [_]) (by simp only [Keeps, Tm.get_cons, Nat.reduceEqDiff, ↓reduceIte, if_true, if_false, ite_true, ite_false, true_and, and_true, and_self, reduceCtorEq, hwi, hts]) (by first | rfl | (simp only [List.append_assoc, List.cons_append, List.nil_append]; rfl)) (by first | rfl | (simp [AV.below, CV.below]; done) | (simp [AV.below, CV.below]; omega)) (by
        refine MWf.app (hwf.grow (by simp)) (MWf_cons ?_ (MWf_cons rfl MWf_nil (mE_below _ _ _)))
        first | (simp [CV.below]; done) | (simp [CV.below]; omega))
  · have hin : i = Fs.length := by have := of_decide_eq_false h23; omega
    subst hin
    simp only [← hT]
    refine AW.exit ?_
    refine Thn_e ?_
    clear hK K
    refine Thn_e ?_
    refine InB_here ?_
    refine Thn_n ?_
    refine hK _ _ ?_
    clear hK K
    refine AW.seq_k fun K hK => ?_
    refine AW.region (by decide) ?_
    simp only [push_cast, simprocAttr, hb, lk_old hb, hb0]
    refine Thn_n ?_
    refine hK _ _ ?_
    clear hK K
    refine AW.seq_k fun K hK => ?_
    refine AW.seq_k fun K hK => ?_
    refine AW.region (by decide) ?_
    simp only [push_cast, simprocAttr, hb, lk_old hb, hb0]
    refine Thn_n ?_
    refine hK _ _ ?_
    clear hK K
    refine AW.block ?_
    refine AW.nilTm 76 2 10 rfl ?_
    try simp only [push_cast, simprocAttr, hb, lk_old hb, hb0]
    refine AW.loopK [4, 52] (fun seen => SeenE T.length seen) (fun seen => [(10, .one (.sl (m.length + 3) seen.length 0 seen.length))]) (fun seen => [(m.length + 2, ⟨.iter (m.length + 1) T.length seen T.length, 91, 0, 0, []⟩), (m.length + 3, ⟨.grow, 76, seen.length, 2, pL (seen.map (kAt T))⟩)]) (fun seen => T.length - seen.length) ([] : List Nat) ⟨List.nodup_nil, fun x hx => by cases hx⟩ ?_ ?_ fun seen hi22 => ?_
    · first | rfl | (simp only [Keeps, Tm.get_cons, Nat.reduceEqDiff, ↓reduceIte, if_true, if_false, ite_true, ite_false, true_and, and_true, and_self, reduceCtorEq, List.length_nil, List.map_nil, pL, List.flatMap_nil] <;> rfl)
    · first | rfl | (simp only [setAll, push_cast, simprocAttr, hb, lk_old hb, hb0, List.length_nil, List.map_nil, pL, List.flatMap_nil] <;> rfl)
    have hseen := hi22
    try simp only [keepL, setAll, push_cast, simprocAttr, hb, lk_old hb, hb0]
    refine AW.seq_k fun K hK => ?_
    refine AW.next (m.length + 2) (m.length + 1) T.length T.length seen (ka := true) (va := false) (clock := T.length) (es := mE 0 T) (by decide) rfl (by simp only [push_cast, simprocAttr]) (ity := 91) (iesz := 0) (by simp only [push_cast, simprocAttr]) (by simp only [push_cast, simprocAttr]) hold (Nat.le_refl _) (fun j e hj hnew => ?_) (fun hall => ?_)
    · obtain ⟨k, c, hj', rfl⟩ := mE_mem hj
      rw [Nat.zero_add] at hnew ⊢
      have hjl : j < T.length := (List.getElem?_eq_some_iff.1 hj').1
      have hadd := hseen.add hjl hnew
      have hlt2 : T.length - (seen ++ [j]).length < T.length - seen.length := by have := hadd.len; simp only [List.length_append, List.length_singleton] at this ⊢; omega
      have hfd := mE_find (s := 0) hj'
      rw [Nat.zero_add] at hfd
      have hkj := kAt_at hj'
      have hma : pL (seen.map (kAt T)) ++ [.int .i64 k.1, .int .i64 k.2] = pL ((seen ++ [j]).map (kAt T)) := by rw [List.map_append, List.map_singleton, hkj]; exact pL_snoc _ _ _
      have hsl1 : (seen ++ [j]).length = seen.length + 1 := by simp
      have hsl2 := hseen.len
      have hpl := pL_len (seen.map (kAt T))
      rw [List.length_map] at hpl
      have m1 : seen.length ≤ 140737488355327 := by omega
      have m2 : (seen.length + 1) * 16 ≤ 140737488355328 := by omega
      have hgl : (seen ++ [j]).getLast? = some j := by simp
      simp only [push_cast, simprocAttr, hb, lk_old hb, hb0, hfd, hgl, Nat.le_refl, hpl, m1, m2]
      refine Thn_n ?_
      refine hK _ _ ?_
      clear hK K
      refine AW.seq_k fun K hK => ?_
      refine AW.cond_t rfl ?_
      refine AW.skip ?_
      refine Thn_n ?_
      refine hK _ _ ?_
      clear hK K
      refine AW.block ?_
      refine AW.seq_k fun K hK => ?_
      refine AW.region (by decide) ?_
      simp only [push_cast, simprocAttr, hb, lk_old hb, hb0, hfd, hgl, Nat.le_refl, hpl, m1, m2]
      refine Thn_n ?_
      refine hK _ _ ?_
      clear hK K
      refine AW.region (by decide) ?_
      simp only [push_cast, simprocAttr, hb, lk_old hb, hb0, hfd, hgl, Nat.le_refl, hpl, m1, m2]
      refine InB_n ?_
      refine Thn_n ?_
      refine ⟨seen ++ [j], hadd, hlt2, ?_⟩
      try simp only [keepL, setAll, push_cast, simprocAttr, hb, lk_old hb, hb0, hfd, hgl, Nat.le_refl, hpl, m1, m2, hma, hsl1]
      exact Weak.to (extra := [_, _]) (by simp only [Keeps, Tm.get_cons, Nat.reduceEqDiff, ↓reduceIte, if_true, if_false, ite_true, ite_false, true_and, and_true, and_self, reduceCtorEq, hma, hsl1]) (by first | rfl | (simp only [List.append_assoc, List.cons_append, List.nil_append]; rfl)) (by first | rfl | (simp [AV.below, CV.below]; done) | (simp [AV.below, CV.below]; omega)) (by
        refine MWf.app (hwf.grow (by simp)) (MWf_cons ?_ (MWf_cons rfl (MWf_cons rfl (MWf_cons (pL_below _ _) MWf_nil) (by simp [BK.below])) (mE_below _ _ _)))
        first | (simp [CV.below]; done) | (simp [CV.below]; omega))
    · have hall2 : ∀ x, x < T.length → x ∈ seen := fun x hx => by
        have h1 : T[x]? = some (T[x].1, T[x].2) := List.getElem?_eq_getElem hx
        have h2 := hall _ (List.mem_of_getElem? (mE_get (s := 0) h1))
        rwa [Nat.zero_add] at h2
      have hsl : seen.length = T.length := by have := (hseen.all hall2).length_eq; simpa using this
      have hks := ks_seen hseen hall2
      have hsb : BK1 (seen.map (kAt T)) := fun k hk => by
        obtain ⟨x, hx, rfl⟩ := List.mem_map.1 hk
        have hx2 := hseen.lt x hx
        have h1 : T[x]? = some (T[x].1, T[x].2) := List.getElem?_eq_getElem hx2
        rw [kAt_at h1]
        exact hTb _ (List.mem_map_of_mem (f := (·.1)) (List.getElem_mem hx2))
      have hsc : (seen.map (kAt T)).length = T.length := by rw [List.length_map, hsl]
      simp only [push_cast, simprocAttr, hb, lk_old hb, hb0, hsl, hks]
      refine Thn_n ?_
      refine hK _ _ ?_
      clear hK K
      refine AW.seq_k fun K hK => ?_
      refine AW.cond_f rfl ?_
      refine AW.exit ?_
      refine Thn_e ?_
      clear hK K
      refine Thn_e ?_
      refine InB_here ?_
      refine Thn_n ?_
      refine hK _ _ ?_
      clear hK K
      refine AW.seq_k fun K hK => ?_
      refine AW.region (by decide) ?_
      simp only [push_cast, simprocAttr, hb, lk_old hb, hb0, hsl, hks]
      refine CThen.by (Ctr.sortPairs (ty := 76) ⟨_, rfl, rfl, rfl⟩ sortsE (by simp only [push_cast, simprocAttr]) hsb (by omega) T.length hsc.symm sort_nil) ?_
      simp only [push_cast, simprocAttr, hb, lk_old hb, hb0, hsl, hks]
      refine Thn_n ?_
      refine hK _ _ ?_
      clear hK K
      refine AW.seq_k fun K hK => ?_
      refine AW.region (by decide) ?_
      simp only [push_cast, simprocAttr, hb, lk_old hb, hb0, hsl, hks]
      refine Thn_n ?_
      refine hK _ _ ?_
      clear hK K
      refine AW.seq_k fun K hK => ?_
      refine AW.seq_k fun K hK => ?_
      refine AW.region (by decide) ?_
      simp only [push_cast, simprocAttr, hb, lk_old hb, hb0, hsl, hks]
      refine Thn_n ?_
      refine hK _ _ ?_
      clear hK K
      refine AW.block ?_
      refine AW.nilTm 3 1 12 rfl ?_
      try simp only [push_cast, simprocAttr, hb, lk_old hb, hb0, hsl, hks]
      refine AW.loopK [4, 10, 63, 64] (fun i => i ≤ T.length) (fun i => [(12, .one (.sl (m.length + 4) i 0 i)), (65, .one (.int .i64 (i : Int)))]) (fun i => [(m.length + 4, ⟨.grow, 3, i, 1, ((csE T).take i).map (CV.int .i64)⟩)]) (fun i => T.length - i) 0 (by omega) ?_ ?_ fun i hi31 => ?_
      · first | rfl | (simp only [Keeps, Tm.get_cons, Nat.reduceEqDiff, ↓reduceIte, if_true, if_false, ite_true, ite_false, true_and, and_true, and_self, reduceCtorEq, Int.natCast_zero, List.take_zero, List.map_nil] <;> rfl)
      · first | rfl | (simp only [setAll, push_cast, simprocAttr, hb, lk_old hb, hb0, hsl, hks, Int.natCast_zero, List.take_zero, List.map_nil] <;> rfl)
      try simp only [keepL, setAll, push_cast, simprocAttr, hb, lk_old hb, hb0, hsl, hks]
      refine AW.seq_k fun K hK => ?_
      refine AW.region (by decide) ?_
      simp only [push_cast, simprocAttr, hb, lk_old hb, hb0, hsl, hks]
      refine Thn_n ?_
      refine hK _ _ ?_
      clear hK K
      refine AW.seq_k fun K hK => ?_
      refine AW.cond rfl (fun h66 => ?_) (fun h66 => ?_)
      · have hlt : i < T.length := by have := of_decide_eq_true h66; omega
        have c1 : (0 : Int) ≤ (i : Int) := by omega
        have c2 : (i : Int) < (T.length : Nat) := by omega
        have c3 : i * 2 + 2 ≤ T.length * 2 := by omega
        obtain ⟨k, hk⟩ : ∃ k, (ksE T)[i]? = some k := ⟨_, List.getElem?_eq_getElem (by omega)⟩
        have g0 := pL_at hk
        have gl := pL_len (ksE T)
        rw [hcl] at gl
        obtain ⟨j, c, q1, q2, q3⟩ := ksE_mem (List.mem_of_getElem? hk)
        have g1 : findL [CV.int .i64 k.1, .int .i64 k.2] (mE 0 T) = some (some j) := (findL_mE k 0 T).trans (by rw [q2])
        have g4 := mE_get (s := 0) q1
        rw [Nat.zero_add] at g4
        have hcst := cs_step hk
        rw [q3] at hcst
        have m1 : i ≤ 140737488355327 := by omega
        have m2 : (i + 1) * 8 ≤ 140737488355328 := by omega
        have gt : (((csE T).take i).map (CV.int .i64)).length = i := by rw [List.length_map, List.length_take, csE_len]; omega
        refine AW.skip ?_
        refine Thn_n ?_
        refine hK _ _ ?_
        clear hK K
        refine AW.seq_k fun K hK => ?_
        refine AW.block ?_
        refine AW.seq_k fun K hK => ?_
        refine AW.region (by decide) ?_
        simp only [push_cast, simprocAttr, hb, lk_old hb, hb0, hsl, hks, c1, c2, c3, g0, gl, g1, g4, gt, m1, m2]
        refine Thn_n ?_
        refine hK _ _ ?_
        clear hK K
        refine AW.region (by decide) ?_
        simp only [push_cast, simprocAttr, hb, lk_old hb, hb0, hsl, hks, c1, c2, c3, g0, gl, g1, g4, gt, m1, m2]
        refine InB_n ?_
        refine Thn_n ?_
        refine hK _ _ ?_
        clear hK K
        refine AW.region (by decide) ?_
        simp only [push_cast, simprocAttr, hb, lk_old hb, hb0, hsl, hks, c1, c2, c3, g0, gl, g1, g4, gt, m1, m2]
        refine Thn_n ?_
        have hwi : IntKind.i64.wrap ((i:Int)+1) = (i:Int)+1 := wi (by omega)
        refine ⟨i + 1, by omega, by omega, ?_⟩
        try simp only [keepL, setAll, push_cast, simprocAttr, hb, lk_old hb, hb0, hsl, hks, c1, c2, c3, g0, gl, g1, g4, gt, m1, m2, hwi, hcst]
        exact Weak.to (extra := [_, _]) (by simp only [Keeps, Tm.get_cons, Nat.reduceEqDiff, ↓reduceIte, if_true, if_false, ite_true, ite_false, true_and, and_true, and_self, reduceCtorEq, hwi, hcst]) (by first | rfl | (simp only [List.append_assoc, List.cons_append, List.nil_append]; rfl)) (by first | rfl | (simp [AV.below, CV.below]; done) | (simp [AV.below, CV.below]; omega)) (by
          refine MWf.app (hwf.grow (by simp)) (MWf_cons ?_ (MWf_cons rfl (MWf_cons rfl (MWf_cons (pL_below _ _) (MWf_cons (ic_below _ _) MWf_nil)) (by simp [BK.below])) (mE_below _ _ _)))
          first | (simp [CV.below]; done) | (simp [CV.below]; omega))
      · have hin : i = T.length := by have := of_decide_eq_false h66; omega
        subst hin
        have hct : (csE T).take T.length = csE T := List.take_of_length_le (by rw [csE_len]; exact Nat.le_refl _)
        refine AW.exit ?_
        refine Thn_e ?_
        clear hK K
        refine Thn_e ?_
        refine InB_here ?_
        refine Thn_n ?_
        refine hK _ _ ?_
        clear hK K
        refine AW.seq_k fun K hK => ?_
        refine AW.region (by decide) ?_
        simp only [push_cast, simprocAttr, hb, lk_old hb, hb0, hsl, hks, hct]
        refine Thn_n ?_
        refine hK _ _ ?_
        clear hK K
        refine AW.ret ?_
        refine hQ _ _ _ ?_
        refine RetP.pick [(m.length + 3, T.length), (m.length + 4, T.length)] (Or.inr rfl) ?_ ?_ ?_ hwf ?_
        · simp only [resA, resOne, resTv, AV.tv, push_cast, simprocAttr]
          simp [renV, renT, renL, renC, renIdx, hlt0]
        · simp only [picks, push_cast, simprocAttr, hct]
        · simp [distinctFrom]
        · exact MWf_cons (pL_below _ _) (MWf_one (ic_below _ _))
end Go.Proofs.Ytiogpaehelpmhaa

set_option linter.unusedSimpArgs false
set_option linter.unusedVariables false
set_option maxRecDepth 100000
set_option maxHeartbeats 4000000
namespace Go.Proofs.Ytiogpaehelpmhaa
open Go Go.Eng

theorem clonev_pos (r v n : Nat) (l : List T3) (m : AMem) (hr : r < m.length) (hl : TRow m 49 r v l) (hn : l.length = n) (hn2 : n ≤ 4096) (h0 : 0 < n) : Ctr Try.prog 37 [.one (.sl r v 0 n)] m (.one (.sl m.length 0 0 n)) (m ++ [⟨.grow, 49, 0, 3, tL l⟩]) := by
  refine Ctr.enter Try.func37 rfl (by decide) (rs := [.tmp 2]) (nt := 8) rfl rfl fun hwf Q hQ => ?_
  obtain ⟨k0, ez, hb⟩ := hl.hb
  have hlt0 : ∀ k, ¬ m.length + k < m.length := fun k => by omega
  have q1 : n ≤ 140737488355328 := by omega
  have q2 : n * 24 ≤ 140737488355328 := by omega
  have hvals := tL_vals l
  have hti : (tL l).take (n * 3) = tL l := List.take_of_length_le (by rw [tL_len, hn]; exact Nat.le_refl _)
  have hlen0 := tL_len l
  rw [hn] at hlen0
  refine AW.seq_k fun K hK => ?_
  refine AW.region (by decide) ?_
  simp only [push_cast, simprocAttr, hb, lk_old hb, q1, q2, hvals, hti, hlen0, Nat.zero_add, List.nil_append, h0]
  refine Thn_n ?_
  refine hK _ _ ?_
  clear hK K
  refine AW.seq_k fun K hK => ?_
  refine AW.seq_k fun K hK => ?_
  refine AW.region (by decide) ?_
  simp only [push_cast, simprocAttr, hb, lk_old hb, q1, q2, hvals, hti, hlen0, Nat.zero_add, List.nil_append, h0]
  refine Thn_n ?_
  refine hK _ _ ?_
  clear hK K
  refine AW.cond_f rfl ?_
  refine AW.skip ?_
  refine Thn_n ?_
  refine hK _ _ ?_
  clear hK K
  refine AW.seq_k fun K hK => ?_
  refine AW.region (by decide) ?_
  simp only [push_cast, simprocAttr, hb, lk_old hb, q1, q2, hvals, hti, hlen0, Nat.zero_add, List.nil_append, h0]
  refine Thn_n ?_
  refine hK _ _ ?_
  clear hK K
  refine AW.ret ?_
  refine hQ _ _ _ ?_
  refine RetP.pick [(m.length, 1)] (Or.inr rfl) ?_ ?_ ?_ hwf ?_
  · simp only [resA, resOne, resTv, AV.tv, push_cast, simprocAttr]
    simp [renV, renT, renL, renC, renIdx, hlt0]
  · (simp only [picks, push_cast, simprocAttr]) <;> (simp [tL])
  · simp [distinctFrom]
  · exact MWf_one (tL_below _ _)
  
theorem clonev_nil (r v n : Nat) (l : List T3) (m : AMem) (hr : r < m.length) (hl : TRow m 49 r v l) (hn : l.length = n) (hn2 : n ≤ 4096) (h0 : n = 0) : Ctr Try.prog 37 [.one (.sl r v 0 n)] m (.one (.sl m.length 0 0 n)) (m ++ [⟨.grow, 49, 0, 3, tL l⟩]) := by
  refine Ctr.enter Try.func37 rfl (by decide) (rs := [.tmp 2]) (nt := 8) rfl rfl fun hwf Q hQ => ?_
  obtain ⟨k0, ez, hb⟩ := hl.hb
  have hlt0 : ∀ k, ¬ m.length + k < m.length := fun k => by omega
  have q1 : n ≤ 140737488355328 := by omega
  have q2 : n * 24 ≤ 140737488355328 := by omega
  have hvals := tL_vals l
  have hti : (tL l).take (n * 3) = tL l := List.take_of_length_le (by rw [tL_len, hn]; exact Nat.le_refl _)
  have hlen0 := tL_len l
  rw [hn] at hlen0
  subst h0
  have hl0 : l = [] := List.eq_nil_of_length_eq_zero hn
  subst hl0
  refine AW.seq_k fun K hK => ?_
  refine AW.region (by decide) ?_
  simp only [push_cast, simprocAttr, hb, lk_old hb, q1, q2, hvals, hti, hlen0, Nat.zero_add, List.nil_append]
  refine Thn_n ?_
  refine hK _ _ ?_
  clear hK K
  refine AW.seq_k fun K hK => ?_
  refine AW.seq_k fun K hK => ?_
  refine AW.eqNil (by decide) ?_
  simp only [nilEqA, push_cast, simprocAttr, hb, lk_old hb, q1, q2, hvals, hti, hlen0, Nat.zero_add, List.nil_append]
  first | refine ⟨rfl, rfl, fun z => ?_⟩ | refine ⟨rfl, fun z => ?_⟩ | refine fun z => ?_
  refine Thn_n ?_
  refine hK _ _ ?_
  clear hK K
  refine AW.cond rfl (fun h4 => ?_) (fun h4 => ?_)
  · refine AW.seq_k fun K hK => ?_
    refine AW.region (by decide) ?_
    simp only [push_cast, simprocAttr, hb, lk_old hb, q1, q2, hvals, hti, hlen0, Nat.zero_add, List.nil_append]
    refine Thn_n ?_
    refine hK _ _ ?_
    clear hK K
    refine AW.nilTmV 49 3 1 2 rfl ?_
    refine AW.ret ?_
    refine Thn_r ?_
    refine hQ _ _ _ ?_
    refine RetP.pick [(m.length, 1)] (Or.inr rfl) ?_ ?_ ?_ hwf ?_
    · simp only [resA, resOne, resTv, AV.tv, push_cast, simprocAttr]
      simp [renV, renT, renL, renC, renIdx, hlt0]
    · (simp only [picks, push_cast, simprocAttr]) <;> (simp [tL])
    · simp [distinctFrom]
    · exact MWf_one (tL_below _ _)
    
  · refine AW.skip ?_
    refine Thn_n ?_
    refine hK _ _ ?_
    clear hK K
    refine AW.seq_k fun K hK => ?_
    refine AW.region (by decide) ?_
    simp only [push_cast, simprocAttr, hb, lk_old hb, q1, q2, hvals, hti, hlen0, Nat.zero_add, List.nil_append]
    refine Thn_n ?_
    refine hK _ _ ?_
    clear hK K
    refine AW.ret ?_
    refine hQ _ _ _ ?_
    refine RetP.pick [(m.length, 1)] (Or.inr rfl) ?_ ?_ ?_ hwf ?_
    · simp only [resA, resOne, resTv, AV.tv, push_cast, simprocAttr]
      simp [renV, renT, renL, renC, renIdx, hlt0]
    · (simp only [picks, push_cast, simprocAttr]) <;> (simp [tL])
    · simp [distinctFrom]
    · exact MWf_one (tL_below _ _)
    
theorem clonev_c (r v n : Nat) (l : List T3) (m : AMem) (hr : r < m.length) (hl : TRow m 49 r v l) (hn : l.length = n) (hn2 : n ≤ 4096) : Ctr Try.prog 37 [.one (.sl r v 0 n)] m (.one (.sl m.length 0 0 n)) (m ++ [⟨.grow, 49, 0, 3, tL l⟩]) := by
  rcases Nat.eq_zero_or_pos n with h | h
  · exact clonev_nil r v n l m hr hl hn hn2 h
  · exact clonev_pos r v n l m hr hl hn hn2 h
theorem clonef_pos (r v n : Nat) (l : List T3) (m : AMem) (hr : r < m.length) (hl : TRow m 54 r v l) (hn : l.length = n) (hn2 : n ≤ 4096) (h0 : 0 < n) : Ctr Try.prog 41 [.one (.sl r v 0 n)] m (.one (.sl m.length 0 0 n)) (m ++ [⟨.grow, 54, 0, 3, tL l⟩]) := by
  refine Ctr.enter Try.func41 rfl (by decide) (rs := [.tmp 2]) (nt := 8) rfl rfl fun hwf Q hQ => ?_
  obtain ⟨k0, ez, hb⟩ := hl.hb
  have hlt0 : ∀ k, ¬ m.length + k < m.length := fun k => by omega
  have q1 : n ≤ 140737488355328 := by omega
  have q2 : n * 24 ≤ 140737488355328 := by omega
  have hvals := tL_vals l
  have hti : (tL l).take (n * 3) = tL l := List.take_of_length_le (by rw [tL_len, hn]; exact Nat.le_refl _)
  have hlen0 := tL_len l
  rw [hn] at hlen0
  refine AW.seq_k fun K hK => ?_
  refine AW.region (by decide) ?_
  simp only [push_cast, simprocAttr, hb, lk_old hb, q1, q2, hvals, hti, hlen0, Nat.zero_add, List.nil_append, h0]
  refine Thn_n ?_
  refine hK _ _ ?_
  clear hK K
  refine AW.seq_k fun K hK => ?_
  refine AW.seq_k fun K hK => ?_
  refine AW.region (by decide) ?_
  simp only [push_cast, simprocAttr, hb, lk_old hb, q1, q2, hvals, hti, hlen0, Nat.zero_add, List.nil_append, h0]
  refine Thn_n ?_
  refine hK _ _ ?_
  clear hK K
  refine AW.cond_f rfl ?_
  refine AW.skip ?_
  refine Thn_n ?_
  refine hK _ _ ?_
  clear hK K
  refine AW.seq_k fun K hK => ?_
  refine AW.region (by decide) ?_
  simp only [push_cast, simprocAttr, hb, lk_old hb, q1, q2, hvals, hti, hlen0, Nat.zero_add, List.nil_append, h0]
  refine Thn_n ?_
  refine hK _ _ ?_
  clear hK K
  refine AW.ret ?_
  refine hQ _ _ _ ?_
  refine RetP.pick [(m.length, 1)] (Or.inr rfl) ?_ ?_ ?_ hwf ?_
  · simp only [resA, resOne, resTv, AV.tv, push_cast, simprocAttr]
    simp [renV, renT, renL, renC, renIdx, hlt0]
  · (simp only [picks, push_cast, simprocAttr]) <;> (simp [tL])
  · simp [distinctFrom]
  · exact MWf_one (tL_below _ _)
  
theorem clonef_nil (r v n : Nat) (l : List T3) (m : AMem) (hr : r < m.length) (hl : TRow m 54 r v l) (hn : l.length = n) (hn2 : n ≤ 4096) (h0 : n = 0) : Ctr Try.prog 41 [.one (.sl r v 0 n)] m (.one (.sl m.length 0 0 n)) (m ++ [⟨.grow, 54, 0, 3, tL l⟩]) := by
  refine Ctr.enter Try.func41 rfl (by decide) (rs := [.tmp 2]) (nt := 8) rfl rfl fun hwf Q hQ => ?_
  obtain ⟨k0, ez, hb⟩ := hl.hb
  have hlt0 : ∀ k, ¬ m.length + k < m.length := fun k => by omega
  have q1 : n ≤ 140737488355328 := by omega
  have q2 : n * 24 ≤ 140737488355328 := by omega
  have hvals := tL_vals l
  have hti : (tL l).take (n * 3) = tL l := List.take_of_length_le (by rw [tL_len, hn]; exact Nat.le_refl _)
  have hlen0 := tL_len l
  rw [hn] at hlen0
  subst h0
  have hl0 : l = [] := List.eq_nil_of_length_eq_zero hn
  subst hl0
  refine AW.seq_k fun K hK => ?_
  refine AW.region (by decide) ?_
  simp only [push_cast, simprocAttr, hb, lk_old hb, q1, q2, hvals, hti, hlen0, Nat.zero_add, List.nil_append]
  refine Thn_n ?_
  refine hK _ _ ?_
  clear hK K
  refine AW.seq_k fun K hK => ?_
  refine AW.seq_k fun K hK => ?_
  refine AW.eqNil (by decide) ?_
  simp only [nilEqA, push_cast, simprocAttr, hb, lk_old hb, q1, q2, hvals, hti, hlen0, Nat.zero_add, List.nil_append]
  first | refine ⟨rfl, rfl, fun z => ?_⟩ | refine ⟨rfl, fun z => ?_⟩ | refine fun z => ?_
  refine Thn_n ?_
  refine hK _ _ ?_
  clear hK K
  refine AW.cond rfl (fun h4 => ?_) (fun h4 => ?_)
  · refine AW.seq_k fun K hK => ?_
    refine AW.region (by decide) ?_
    simp only [push_cast, simprocAttr, hb, lk_old hb, q1, q2, hvals, hti, hlen0, Nat.zero_add, List.nil_append]
    refine Thn_n ?_
    refine hK _ _ ?_
    clear hK K
    refine AW.nilTmV 54 3 1 2 rfl ?_
    refine AW.ret ?_
    refine Thn_r ?_
    refine hQ _ _ _ ?_
    refine RetP.pick [(m.length, 1)] (Or.inr rfl) ?_ ?_ ?_ hwf ?_
    · simp only [resA, resOne, resTv, AV.tv, push_cast, simprocAttr]
      simp [renV, renT, renL, renC, renIdx, hlt0]
    · (simp only [picks, push_cast, simprocAttr]) <;> (simp [tL])
    · simp [distinctFrom]
    · exact MWf_one (tL_below _ _)
    
  · refine AW.skip ?_
    refine Thn_n ?_
    refine hK _ _ ?_
    clear hK K
    refine AW.seq_k fun K hK => ?_
    refine AW.region (by decide) ?_
    simp only [push_cast, simprocAttr, hb, lk_old hb, q1, q2, hvals, hti, hlen0, Nat.zero_add, List.nil_append]
    refine Thn_n ?_
    refine hK _ _ ?_
    clear hK K
    refine AW.ret ?_
    refine hQ _ _ _ ?_
    refine RetP.pick [(m.length, 1)] (Or.inr rfl) ?_ ?_ ?_ hwf ?_
    · simp only [resA, resOne, resTv, AV.tv, push_cast, simprocAttr]
      simp [renV, renT, renL, renC, renIdx, hlt0]
    · (simp only [picks, push_cast, simprocAttr]) <;> (simp [tL])
    · simp [distinctFrom]
    · exact MWf_one (tL_below _ _)
    
theorem clonef_c (r v n : Nat) (l : List T3) (m : AMem) (hr : r < m.length) (hl : TRow m 54 r v l) (hn : l.length = n) (hn2 : n ≤ 4096) : Ctr Try.prog 41 [.one (.sl r v 0 n)] m (.one (.sl m.length 0 0 n)) (m ++ [⟨.grow, 54, 0, 3, tL l⟩]) := by
  rcases Nat.eq_zero_or_pos n with h | h
  · exact clonef_nil r v n l m hr hl hn hn2 h
  · exact clonef_pos r v n l m hr hl hn hn2 h
theorem closed_c (rp vp rf vf : Nat) (P Fs : List T3) (m : AMem) (hp : rp < m.length) (hf : TRow m 54 rf vf Fs) (hc : chk P.length Fs = 0) (T : List (EK × Int)) (hT : T = tally Fs Fs.length) (hTb : BK1 (T.map (·.1))) (h2 : ∀ i, i < T.length → (csE T)[i]? = some 2) (h0 : 0 < T.length) : Ctr Try.prog 25 [.agg [.sl rp vp 0 P.length, .sl rf vf 0 Fs.length]] m (.one (.bool true)) m := by
  refine Ctr.enter Try.func25 rfl (by decide) (rs := [.tmp 2]) (nt := 24) rfl rfl fun hwf Q hQ => ?_
  have hll0 := chk_len hc
  have hTl : T.length ≤ 3072 := by rw [hT]; have := tally_len Fs Fs.length; omega
  have h02 : (0 : Int) < (T.length : Nat) := by omega
  have hcl := csE_len T
  refine AW.seq_k fun K hK => ?_
  refine AW.region (by decide) ?_
  simp only [push_cast, simprocAttr, h02]
  refine Thn_n ?_
  refine hK _ _ ?_
  clear hK K
  refine AW.seq_k fun K hK => ?_
  refine AW.region (by decide) ?_
  simp only [push_cast, simprocAttr, h02]
  refine CThen.by (edges_x rp vp rf vf P Fs _ (by simp; omega) (hf.mono _) hc T hT hTb) ?_
  simp only [push_cast, simprocAttr, h02]
  refine Thn_n ?_
  refine hK _ _ ?_
  clear hK K
  refine AW.seq_k fun K hK => ?_
  refine AW.seq_k fun K hK => ?_
  refine AW.region (by decide) ?_
  simp only [push_cast, simprocAttr, h02]
  refine Thn_n ?_
  refine hK _ _ ?_
  clear hK K
  refine AW.block ?_
  refine AW.loopK [3, 12, 13] (fun i => i ≤ T.length) (fun i => [(14, .one (.int .i64 (i : Int)))]) (fun i => []) (fun i => T.length - i) 0 (by omega) ?_ ?_ fun i hi5 => ?_
  · first | rfl | (simp only [Keeps, Tm.get_cons, Nat.reduceEqDiff, ↓reduceIte, if_true, if_false, ite_true, ite_false, true_and, and_true, and_self, reduceCtorEq, Int.natCast_zero] <;> rfl)
  · first | rfl | (simp only [setAll, push_cast, simprocAttr, h02, Int.natCast_zero] <;> rfl)
  try simp only [keepL, setAll, push_cast, simprocAttr, h02]
  refine AW.seq_k fun K hK => ?_
  refine AW.region (by decide) ?_
  simp only [push_cast, simprocAttr, h02]
  refine Thn_n ?_
  refine hK _ _ ?_
  clear hK K
  refine AW.seq_k fun K hK => ?_
  refine AW.cond rfl (fun h15 => ?_) (fun h15 => ?_)
  · have hlt : i < T.length := by have := of_decide_eq_true h15; omega
    have c1 : (0 : Int) ≤ (i : Int) := by omega
    have c2 : (i : Int) < (T.length : Nat) := by omega
    have g0 := h2 i hlt
    have g1 : ((csE T).map (CV.int .i64))[i]? = some (.int .i64 2) := by rw [List.getElem?_map, g0]; rfl
    refine AW.skip ?_
    refine Thn_n ?_
    refine hK _ _ ?_
    clear hK K
    refine AW.seq_k fun K hK => ?_
    refine AW.block ?_
    iterate 2
      refine AW.seq_k fun K hK => ?_
      refine AW.region (by decide) ?_
      simp only [push_cast, simprocAttr, h02, c1, c2, g1]
      refine Thn_n ?_
      refine hK _ _ ?_
      clear hK K
    refine AW.cond_f rfl ?_
    refine AW.skip ?_
    refine InB_n ?_
    refine Thn_n ?_
    refine hK _ _ ?_
    clear hK K
    refine AW.region (by decide) ?_
    simp only [push_cast, simprocAttr, h02, c1, c2, g1]
    refine Thn_n ?_
    have hwi : IntKind.i64.wrap ((i:Int)+1) = (i:Int)+1 := wi (by omega)
    refine ⟨i + 1, by omega, by omega, ?_⟩
    try simp only [keepL, setAll, push_cast, simprocAttr, h02, c1, c2, g1, hwi]
    exact Weak.same (by simp only [Keeps, Tm.get_cons, Nat.reduceEqDiff, ↓reduceIte, if_true, if_false, ite_true, ite_false, true_and, and_true, and_self, reduceCtorEq, hwi]) (by first | rfl | simp only [Keeps, Tm.get_cons, Nat.reduceEqDiff, ↓reduceIte, if_true, if_false, ite_true, ite_false, true_and, and_true, and_self, reduceCtorEq, hwi])
  · refine AW.exit ?_
    refine Thn_e ?_
    clear hK K
    refine Thn_e ?_
    refine InB_here ?_
    refine Thn_n ?_
    refine hK _ _ ?_
    clear hK K
    refine AW.seq_k fun K hK => ?_
    refine AW.region (by decide) ?_
    simp only [push_cast, simprocAttr, h02]
    refine Thn_n ?_
    refine hK _ _ ?_
    clear hK K
    refine AW.ret ?_
    refine hQ _ _ _ ?_
    first | refine RetP.drop0 (Or.inr rfl) ?_ ?_ hwf | refine RetP.drop (Or.inr rfl) ?_ ?_ hwf
    · simp only [resA, resOne, resTv, AV.tv, push_cast, simprocAttr, h02]
    · rfl
theorem quad_c (r rf v n : Nat) (c0 : CV) (l : List T3) (a b c d : Int) (m : AMem) (hr : m[r]? = some ⟨.fix, 37, 0, 0, [c0, .sl rf v 0 n]⟩) (hf : m[rf]? = some ⟨.grow, 54, v, 3, tL l⟩) (hne : r ≠ rf) (hl : l.length = n) (hn : n ≤ 4096) : Ctr Try.prog 46 [.one (.ptr r 0 0), .one (.int .i64 a), .one (.int .i64 b), .one (.int .i64 c), .one (.int .i64 d)] m (.tup []) ((m.set r ⟨.fix, 37, 0, 0, [c0, .sl rf (v + 1) 0 (n + 2)]⟩).set rf ⟨.grow, 54, v + 1, 3, tL (l ++ [(a, b, c), (a, c, d)])⟩) := by
  refine Ctr.enter Try.func46 rfl (by decide) (rs := []) (nt := 27) rfl rfl fun hwf Q hQ => ?_
  have lr := get_lt hr
  have lf := get_lt hf
  have hlen0 := tL_len l
  rw [hl] at hlen0
  have m1 : n + 2 ≤ 140737488355328 := by omega
  have m2 : (n + 2) * 24 ≤ 140737488355328 := by omega
  have m3 : n ≤ 140737488355326 := by omega
  have hq : tL l ++ [.int .i64 a, .int .i64 b, .int .i64 c, .int .i64 a, .int .i64 c, .int .i64 d] = tL (l ++ [(a, b, c), (a, c, d)]) := by simp [tL, tC]
  have hs1 : ∀ (y : AMem) (x : Blk), (y.set rf x)[r]? = y[r]? := fun y x => List.getElem?_set_ne hne.symm
  have hs2 : ∀ (y z : AMem) (x : Blk), rf < y.length → (y ++ z).set rf x = y.set rf x ++ z := fun y z x h => List.set_append_left _ _ h
  have hs3 : ∀ (y z : AMem) (x : Blk), r < y.length → (y ++ z).set r x = y.set r x ++ z := fun y z x h => List.set_append_left _ _ h
  refine AW.region (by decide) ?_
  simp only [push_cast, simprocAttr, hr, hf, lk_old hr, lk_old hf, hlen0, m1, m2, m3, hs1, hq]
  refine hQ _ _ _ ?_
  have hwf2 : MWf m.length ((m.set r ⟨.fix, 37, 0, 0, [c0, .sl rf (v + 1) 0 (n + 2)]⟩).set rf ⟨.grow, 54, v + 1, 3, tL (l ++ [(a, b, c), (a, c, d)])⟩) := fun x hx => by
    rcases List.mem_or_eq_of_mem_set hx with hx | rfl
    · rcases List.mem_or_eq_of_mem_set hx with hx | rfl
      · exact hwf x hx
      · have h0 := Blk.below_cells (hwf _ (List.mem_of_getElem? hr))
        simp only [List.all_cons, List.all_nil, Bool.and_true, Bool.and_eq_true] at h0
        refine blk_below rfl ?_
        simp only [List.all_cons, List.all_nil, Bool.and_true, Bool.and_eq_true]
        exact ⟨h0.1, by simpa [CV.below] using lf⟩
    · exact blk_below rfl (tL_below _ _)
  rw [hs2 _ _ _ lf, hs3 _ _ _ (by rw [List.length_set]; exact lr), List.set_comm _ _ hne.symm]
  refine RetP.dropM (by simp only [List.length_set]) (Or.inl rfl) ?_ ?_ hwf2
  · rfl
  · rfl
end Go.Proofs.Ytiogpaehelpmhaa

set_option linter.unusedSimpArgs false
set_option linter.unusedVariables false
set_option maxRecDepth 100000
set_option maxHeartbeats 4000000
namespace Go.Proofs.Ytiogpaehelpmhaa
open Go Go.Eng

def trF (t : T3) : T3 := (t.1, t.2.2, t.2.1)
theorem take_step {f : T3 → T3} {l : List T3} {i : Nat} {t : T3} (h : l[i]? = some t) : tL ((l.map f).take i) ++ tC (f t) = tL ((l.map f).take (i + 1)) := by
  have h1 : (l.map f)[i]? = some (f t) := by rw [List.getElem?_map, h]; rfl
  rw [List.take_add_one, h1]; simp [tL]
theorem take_all (f : T3 → T3) (l : List T3) : (l.map f).take l.length = l.map f := List.take_of_length_le (by simp)
theorem tk_len {f : T3 → T3} {l : List T3} {i : Nat} (h : i ≤ l.length) : (tL ((l.map f).take i)).length = i * 3 := by
  rw [tL_len, List.length_take, List.length_map]
  congr 1; omega
def ptM (x0 x1 x2 y0 y1 y2 z0 z1 z2 t0 t1 t2 : Int) (t : T3) : T3 := (addI (dirI x0 y0 z0 t.1 t.2.1 t.2.2) t0, addI (dirI x1 y1 z1 t.1 t.2.1 t.2.2) t1, addI (dirI x2 y2 z2 t.1 t.2.1 t.2.2) t2)
theorem turned_c (rp vp rf vf : Nat) (P Fs : List T3) (m : AMem) (hp : rp < m.length) (hpt : TRow m 49 rp vp P) (hf : TRow m 54 rf vf Fs) (hP : P.length ≤ 4096) (hF : Fs.length ≤ 4096) : Ctr Try.prog 16 [.agg [.sl rp vp 0 P.length, .sl rf vf 0 Fs.length]] m (.agg [.sl m.length 0 0 P.length, .sl (m.length + 1) 0 0 Fs.length]) (m ++ [⟨.grow, 49, 0, 3, tL (P)⟩, ⟨.grow, 54, 0, 3, tL (Fs.map trF)⟩]) := by
  refine Ctr.enter Try.func16 rfl (by decide) (rs := [.cell 2 37]) (nt := 31) rfl rfl fun hwf Q hQ => ?_
  obtain ⟨k0, ez0, hb0⟩ := hpt.hb
  obtain ⟨k1, ez1, hb⟩ := hf.hb
  have hr0 := get_lt hb
  have hlt0 : ∀ k, ¬ m.length + k < m.length := fun k => by omega
  have hta := take_all trF Fs
  refine AW.seq_k fun K hK => ?_
  refine AW.region (by decide) ?_
  simp only [push_cast, simprocAttr, hb, lk_old hb, hb0, lk_old hb0]
  refine Thn_n ?_
  refine hK _ _ ?_
  clear hK K
  refine AW.seq_k fun K hK => ?_
  refine AW.region (by decide) ?_
  simp only [push_cast, simprocAttr, hb, lk_old hb, hb0, lk_old hb0]
  refine CThen.by (clonev_c rp vp P.length P _ (by simp; omega) (hpt.mono _) rfl hP) ?_
  simp only [push_cast, simprocAttr, hb, lk_old hb, hb0, lk_old hb0]
  refine Thn_n ?_
  refine hK _ _ ?_
  clear hK K
  refine AW.seq_k fun K hK => ?_
  refine AW.seq_k fun K hK => ?_
  refine AW.region (by decide) ?_
  simp only [push_cast, simprocAttr, hb, lk_old hb, hb0, lk_old hb0]
  refine Thn_n ?_
  refine hK _ _ ?_
  clear hK K
  refine AW.block ?_
  refine AW.nilCell 54 3 (m.length + 3) 1 (by simp only [push_cast, simprocAttr, hb, lk_old hb, hb0, lk_old hb0]; first | done | rfl) (by intro e; cases e) rfl ?_
  try simp only [push_cast, simprocAttr, hb, lk_old hb, hb0, lk_old hb0]
  refine AW.loopK [2, 3, 11, 12] (fun i => i ≤ Fs.length) (fun i => [(13, .one (.int .i64 (i : Int)))]) (fun i => [(m.length + 3, ⟨.fix, 37, 0, 0, [.sl (m.length + 2) 0 0 P.length, .sl (m.length + 4) i 0 i]⟩), (m.length + 4, ⟨.grow, 54, i, 3, tL ((Fs.map (trF)).take i)⟩)]) (fun i => Fs.length - i) 0 (by omega) ?_ ?_ fun i hi5 => ?_
  · first | rfl | (simp only [Keeps, Tm.get_cons, Nat.reduceEqDiff, ↓reduceIte, if_true, if_false, ite_true, ite_false, true_and, and_true, and_self, reduceCtorEq, Int.natCast_zero, List.take_zero, tL, List.flatMap_nil] <;> rfl)
  · first | rfl | (simp only [setAll, push_cast, simprocAttr, hb, lk_old hb, hb0, lk_old hb0, Int.natCast_zero, List.take_zero, tL, List.flatMap_nil] <;> rfl)
  try simp only [keepL, setAll, push_cast, simprocAttr, hb, lk_old hb, hb0, lk_old hb0]
  refine AW.seq_k fun K hK => ?_
  refine AW.region (by decide) ?_
  simp only [push_cast, simprocAttr, hb, lk_old hb, hb0, lk_old hb0]
  refine Thn_n ?_
  refine hK _ _ ?_
  clear hK K
  refine AW.seq_k fun K hK => ?_
  refine AW.cond rfl (fun h14 => ?_) (fun h14 => ?_)
  · have hlt : i < Fs.length := by have := of_decide_eq_true h14; omega
    have c1 : (0 : Int) ≤ (i : Int) := by omega
    have c2 : (i : Int) < (Fs.length : Nat) := by omega
    have c3 : i * 3 + 3 ≤ Fs.length * 3 := by omega
    have m1 : i ≤ 140737488355327 := by omega
    have m2 : (i + 1) * 24 ≤ 140737488355328 := by omega
    obtain ⟨t, ht⟩ : ∃ t, Fs[i]? = some t := ⟨_, List.getElem?_eq_getElem hlt⟩
    have g0 := tL_get0 ht
    have g1 := tL_get1 ht
    have g2 := tL_get2 ht
    have g3 := tL_at ht
    have gl := tL_len Fs
    have hst : tL ((Fs.map trF).take i) ++ [.int .i64 t.1, .int .i64 t.2.2, .int .i64 t.2.1] = tL ((Fs.map trF).take (i + 1)) := take_step ht
    have htk : (tL ((Fs.map trF).take i)).length = i * 3 := tk_len (by omega)
    refine AW.skip ?_
    refine Thn_n ?_
    refine hK _ _ ?_
    clear hK K
    refine AW.seq_k fun K hK => ?_
    refine AW.block ?_
    refine AW.seq_k fun K hK => ?_
    refine AW.region (by decide) ?_
    simp only [push_cast, simprocAttr, hb, lk_old hb, hb0, lk_old hb0, c1, c2, c3, g0, g1, g2, g3, gl, htk, m1, m2]
    refine Thn_n ?_
    refine hK _ _ ?_
    clear hK K
    refine AW.region (by decide) ?_
    simp only [push_cast, simprocAttr, hb, lk_old hb, hb0, lk_old hb0, c1, c2, c3, g0, g1, g2, g3, gl, htk, m1, m2]
    refine InB_n ?_
    refine Thn_n ?_
    refine hK _ _ ?_
    clear hK K
    refine AW.region (by decide) ?_
    simp only [push_cast, simprocAttr, hb, lk_old hb, hb0, lk_old hb0, c1, c2, c3, g0, g1, g2, g3, gl, htk, m1, m2]
    refine Thn_n ?_
    have hwi : IntKind.i64.wrap ((i:Int)+1) = (i:Int)+1 := wi (by omega)
    refine ⟨i + 1, by omega, by omega, ?_⟩
    try simp only [keepL, setAll, push_cast, simprocAttr, hb, lk_old hb, hb0, lk_old hb0, c1, c2, c3, g0, g1, g2, g3, gl, htk, m1, m2, hwi, hst]
    exact Weak.to (extra := [_, _]) (by simp only [Keeps, Tm.get_cons, Nat.reduceEqDiff, ↓reduceIte, if_true, if_false, ite_true, ite_false, true_and, and_true, and_self, reduceCtorEq, hwi, hst]) (by first | rfl | (simp only [List.append_assoc, List.cons_append, List.nil_append]; rfl)) (by first | rfl | (simp [AV.below, CV.below, tL_below]; done) | (simp [AV.below, CV.below, tL_below]; omega)) (by
      first | exact hwf | refine MWf.app (hwf.grow (by simp)) ?_
      repeat (first | exact MWf_nil | (refine MWf_cons ?_ ?_; · first | rfl | (simp [CV.below, tL_below]; done) | (simp [CV.below, tL_below]; omega))))
  · have hin : i = Fs.length := by have := of_decide_eq_false h14; omega
    subst hin
    refine AW.exit ?_
    refine Thn_e ?_
    clear hK K
    refine Thn_e ?_
    refine InB_here ?_
    refine Thn_n ?_
    refine hK _ _ ?_
    clear hK K
    refine AW.seq_k fun K hK => ?_
    refine AW.region (by decide) ?_
    simp only [push_cast, simprocAttr, hb, lk_old hb, hb0, lk_old hb0, hta]
    refine Thn_n ?_
    refine hK _ _ ?_
    clear hK K
    refine AW.ret ?_
    refine hQ _ _ _ ?_
    refine RetP.pick [(m.length + 2, 0), (m.length + 4, Fs.length)] (Or.inr rfl) ?_ ?_ ?_ hwf ?_
    · simp only [resA, resOne, resTv, AV.tv, push_cast, simprocAttr]
      simp [renV, renT, renL, renC, renIdx, hlt0]
    · simp only [picks, push_cast, simprocAttr]
    · simp [distinctFrom]
    · exact MWf_cons (tL_below _ _) (MWf_one (tL_below _ _))
theorem moved_c (rp vp rf vf : Nat) (P Fs : List T3) (x0 x1 x2 y0 y1 y2 z0 z1 z2 t0 t1 t2 : Int) (m : AMem) (hp : rp < m.length) (hpt : TRow m 49 rp vp P) (hf : TRow m 54 rf vf Fs) (hP : P.length ≤ 4096) (hF : Fs.length ≤ 4096) : Ctr Try.prog 14 [.agg [.sl rp vp 0 P.length, .sl rf vf 0 Fs.length], .agg [.int .i64 (x0), .int .i64 (x1), .int .i64 (x2), .int .i64 (y0), .int .i64 (y1), .int .i64 (y2), .int .i64 (z0), .int .i64 (z1), .int .i64 (z2), .int .i64 (t0), .int .i64 (t1), .int .i64 (t2)]] m (.agg [.sl m.length 0 0 P.length, .sl (m.length + 1) 0 0 Fs.length]) (m ++ [⟨.grow, 49, 0, 3, tL (P.map (ptM x0 x1 x2 y0 y1 y2 z0 z1 z2 t0 t1 t2))⟩, ⟨.grow, 54, 0, 3, tL (Fs)⟩]) := by
  refine Ctr.enter Try.func14 rfl (by decide) (rs := [.cell 4 37]) (nt := 29) rfl rfl fun hwf Q hQ => ?_
  obtain ⟨k0, ez0, hb0⟩ := hpt.hb
  obtain ⟨k1, ez1, hb⟩ := hf.hb
  have hr0 := get_lt hb
  have hlt0 : ∀ k, ¬ m.length + k < m.length := fun k => by omega
  have hta := take_all (ptM x0 x1 x2 y0 y1 y2 z0 z1 z2 t0 t1 t2) P
  refine AW.seq_k fun K hK => ?_
  refine AW.region (by decide) ?_
  simp only [push_cast, simprocAttr, hb, lk_old hb, hb0, lk_old hb0]
  refine Thn_n ?_
  refine hK _ _ ?_
  clear hK K
  refine AW.seq_k fun K hK => ?_
  refine AW.region (by decide) ?_
  simp only [push_cast, simprocAttr, hb, lk_old hb, hb0, lk_old hb0]
  refine CThen.by (clonef_c rf vf Fs.length Fs _ (by simp; omega) (hf.mono _) rfl hF) ?_
  simp only [push_cast, simprocAttr, hb, lk_old hb, hb0, lk_old hb0]
  refine Thn_n ?_
  refine hK _ _ ?_
  clear hK K
  refine AW.seq_k fun K hK => ?_
  refine AW.seq_k fun K hK => ?_
  refine AW.region (by decide) ?_
  simp only [push_cast, simprocAttr, hb, lk_old hb, hb0, lk_old hb0]
  refine Thn_n ?_
  refine hK _ _ ?_
  clear hK K
  refine AW.block ?_
  refine AW.nilCell 49 3 (m.length + 4) 0 (by simp only [push_cast, simprocAttr, hb, lk_old hb, hb0, lk_old hb0]; first | done | rfl) (by intro e; cases e) rfl ?_
  try simp only [push_cast, simprocAttr, hb, lk_old hb, hb0, lk_old hb0]
  refine AW.loopK [3, 4, 5, 13, 14] (fun i => i ≤ P.length) (fun i => [(15, .one (.int .i64 (i : Int)))]) (fun i => [(m.length + 4, ⟨.fix, 37, 0, 0, [.sl (m.length + 5) i 0 i, .sl (m.length + 3) 0 0 Fs.length]⟩), (m.length + 5, ⟨.grow, 49, i, 3, tL ((P.map (ptM x0 x1 x2 y0 y1 y2 z0 z1 z2 t0 t1 t2)).take i)⟩)]) (fun i => P.length - i) 0 (by omega) ?_ ?_ fun i hi5 => ?_
  · first | rfl | (simp only [Keeps, Tm.get_cons, Nat.reduceEqDiff, ↓reduceIte, if_true, if_false, ite_true, ite_false, true_and, and_true, and_self, reduceCtorEq, Int.natCast_zero, List.take_zero, tL, List.flatMap_nil] <;> rfl)
  · first | rfl | (simp only [setAll, push_cast, simprocAttr, hb, lk_old hb, hb0, lk_old hb0, Int.natCast_zero, List.take_zero, tL, List.flatMap_nil] <;> rfl)
  try simp only [keepL, setAll, push_cast, simprocAttr, hb, lk_old hb, hb0, lk_old hb0]
  refine AW.seq_k fun K hK => ?_
  refine AW.region (by decide) ?_
  simp only [push_cast, simprocAttr, hb, lk_old hb, hb0, lk_old hb0]
  refine Thn_n ?_
  refine hK _ _ ?_
  clear hK K
  refine AW.seq_k fun K hK => ?_
  refine AW.cond rfl (fun h16 => ?_) (fun h16 => ?_)
  · have hlt : i < P.length := by have := of_decide_eq_true h16; omega
    have c1 : (0 : Int) ≤ (i : Int) := by omega
    have c2 : (i : Int) < (P.length : Nat) := by omega
    have c3 : i * 3 + 3 ≤ P.length * 3 := by omega
    have m1 : i ≤ 140737488355327 := by omega
    have m2 : (i + 1) * 24 ≤ 140737488355328 := by omega
    obtain ⟨t, ht⟩ : ∃ t, P[i]? = some t := ⟨_, List.getElem?_eq_getElem hlt⟩
    have g0 := tL_get0 ht
    have g1 := tL_get1 ht
    have g2 := tL_get2 ht
    have g3 := tL_at ht
    have gl := tL_len P
    have hst : tL ((P.map (ptM x0 x1 x2 y0 y1 y2 z0 z1 z2 t0 t1 t2)).take i) ++ [.int .i64 (addI (dirI x0 y0 z0 t.1 t.2.1 t.2.2) t0), .int .i64 (addI (dirI x1 y1 z1 t.1 t.2.1 t.2.2) t1), .int .i64 (addI (dirI x2 y2 z2 t.1 t.2.1 t.2.2) t2)] = tL ((P.map (ptM x0 x1 x2 y0 y1 y2 z0 z1 z2 t0 t1 t2)).take (i + 1)) := take_step ht
    have htk : (tL ((P.map (ptM x0 x1 x2 y0 y1 y2 z0 z1 z2 t0 t1 t2)).take i)).length = i * 3 := tk_len (by omega)
    refine AW.skip ?_
    refine Thn_n ?_
    refine hK _ _ ?_
    clear hK K
    refine AW.seq_k fun K hK => ?_
    refine AW.block ?_
    refine AW.seq_k fun K hK => ?_
    refine AW.region (by decide) ?_
    simp only [push_cast, simprocAttr, hb, lk_old hb, hb0, lk_old hb0, c1, c2, c3, g0, g1, g2, g3, gl, htk, m1, m2]
    refine Thn_n ?_
    refine hK _ _ ?_
    clear hK K
    refine AW.draw [.val, .rd 0, .rd 0, .rd 0, .ext, .ext, .wr, .val, .wr] fol (by decide) (by kernel_rfl) ?_
    simp only [push_cast, simprocAttr, hb, lk_old hb, hb0, lk_old hb0, c1, c2, c3, g0, g1, g2, g3, gl, htk, m1, m2]
    refine DCall.by0 (mpoint_c _ _ _ _ _ _ _ _ _ _ _ _ _ _ _ _ ) ?_
    simp only [push_cast, simprocAttr, hb, lk_old hb, hb0, lk_old hb0, c1, c2, c3, g0, g1, g2, g3, gl, htk, m1, m2]
    refine DExt.by (by first | rfl | (simp only [List.append_assoc, List.cons_append, List.nil_append]; rfl)) ?_
    simp only [push_cast, simprocAttr, hb, lk_old hb, hb0, lk_old hb0, c1, c2, c3, g0, g1, g2, g3, gl, htk, m1, m2]
    refine InB_n ?_
    refine Thn_n ?_
    refine hK _ _ ?_
    clear hK K
    refine AW.region (by decide) ?_
    simp only [push_cast, simprocAttr, hb, lk_old hb, hb0, lk_old hb0, c1, c2, c3, g0, g1, g2, g3, gl, htk, m1, m2]
    refine Thn_n ?_
    have hwi : IntKind.i64.wrap ((i:Int)+1) = (i:Int)+1 := wi (by omega)
    refine ⟨i + 1, by omega, by omega, ?_⟩
    try simp only [keepL, setAll, push_cast, simprocAttr, hb, lk_old hb, hb0, lk_old hb0, c1, c2, c3, g0, g1, g2, g3, gl, htk, m1, m2, hwi, hst]
    exact Weak.to (extra := [_, _]) (by simp only [Keeps, Tm.get_cons, Nat.reduceEqDiff, ↓reduceIte, if_true, if_false, ite_true, ite_false, true_and, and_true, and_self, reduceCtorEq, hwi, hst]) (by first | rfl | (simp only [List.append_assoc, List.cons_append, List.nil_append]; rfl)) (by first | rfl | (simp [AV.below, CV.below, tL_below]; done) | (simp [AV.below, CV.below, tL_below]; omega)) (by
      first | exact hwf | refine MWf.app (hwf.grow (by simp)) ?_
      repeat (first | exact MWf_nil | (refine MWf_cons ?_ ?_; · first | rfl | (simp [CV.below, tL_below]; done) | (simp [CV.below, tL_below]; omega))))
  · have hin : i = P.length := by have := of_decide_eq_false h16; omega
    subst hin
    refine AW.exit ?_
    refine Thn_e ?_
    clear hK K
    refine Thn_e ?_
    refine InB_here ?_
    refine Thn_n ?_
    refine hK _ _ ?_
    clear hK K
    refine AW.seq_k fun K hK => ?_
    refine AW.region (by decide) ?_
    simp only [push_cast, simprocAttr, hb, lk_old hb, hb0, lk_old hb0, hta]
    refine Thn_n ?_
    refine hK _ _ ?_
    clear hK K
    refine AW.ret ?_
    refine hQ _ _ _ ?_
    refine RetP.pick [(m.length + 5, P.length), (m.length + 3, 0)] (Or.inr rfl) ?_ ?_ ?_ hwf ?_
    · simp only [resA, resOne, resTv, AV.tv, push_cast, simprocAttr]
      simp [renV, renT, renL, renC, renIdx, hlt0]
    · simp only [picks, push_cast, simprocAttr]
    · simp [distinctFrom]
    · exact MWf_cons (tL_below _ _) (MWf_one (tL_below _ _))
end Go.Proofs.Ytiogpaehelpmhaa

set_option linter.unusedSimpArgs false
set_option linter.unusedVariables false
set_option maxRecDepth 100000
set_option maxHeartbeats 4000000
namespace Go.Proofs.Ytiogpaehelpmhaa
open Go Go.Eng

def crP (a0 a1 a2 : Int) : List T3 := [(subI 0 (mulI a0 32768), subI 0 (mulI a1 32768), subI 0 (mulI a2 32768)), (mulI a0 32768, subI 0 (mulI a1 32768), subI 0 (mulI a2 32768)), (subI 0 (mulI a0 32768), mulI a1 32768, subI 0 (mulI a2 32768)), (mulI a0 32768, mulI a1 32768, subI 0 (mulI a2 32768)), (subI 0 (mulI a0 32768), subI 0 (mulI a1 32768), mulI a2 32768), (mulI a0 32768, subI 0 (mulI a1 32768), mulI a2 32768), (subI 0 (mulI a0 32768), mulI a1 32768, mulI a2 32768), (mulI a0 32768, mulI a1 32768, mulI a2 32768)]
def crF : List T3 := [(0, 1, 3), (0, 3, 2), (4, 6, 7), (4, 7, 5), (0, 4, 5), (0, 5, 1), (2, 3, 7), (2, 7, 6), (0, 2, 6), (0, 6, 4), (1, 5, 7), (1, 7, 3)]
theorem crate_c (a0 a1 a2 : Int) (m : AMem) : Ctr Try.prog 23 [.agg [.int .i64 a0, .int .i64 a1, .int .i64 a2]] m (.agg [.sl m.length 0 0 8, .sl (m.length + 1) 0 0 12]) (m ++ [⟨.grow, 49, 0, 3, tL (crP a0 a1 a2)⟩, ⟨.grow, 54, 0, 3, tL crF⟩]) := by
  refine Ctr.enter Try.func23 rfl (by decide) (rs := [.cell 2 37]) (nt := 62) rfl rfl fun hwf Q hQ => ?_
  have hlt0 : ∀ k, ¬ m.length + k < m.length := fun k => by omega
  refine AW.seq_k fun K hK => ?_
  refine AW.region (by decide) ?_
  simp only [push_cast, simprocAttr]
  refine Thn_n ?_
  refine hK _ _ ?_
  clear hK K
  refine AW.seq_k fun K hK => ?_
  refine AW.region (by decide) ?_
  simp only [push_cast, simprocAttr]
  refine CThen.by (vscale_c _ _ _ _ _) ?_
  simp only [push_cast, simprocAttr]
  refine Thn_n ?_
  refine hK _ _ ?_
  clear hK K
  refine AW.seq_k fun K hK => ?_
  refine AW.region (by decide) ?_
  simp only [push_cast, simprocAttr]
  refine Thn_n ?_
  refine hK _ _ ?_
  clear hK K
  refine AW.seq_k fun K hK => ?_
  refine AW.seq_k fun K hK => ?_
  refine AW.nilCell 49 3 (m.length + 3) 0 (by simp only [push_cast, simprocAttr]; first | done | rfl) (by intro e; cases e) rfl ?_
  try simp only [push_cast, simprocAttr]
  refine AW.region (by decide) ?_
  simp only [push_cast, simprocAttr]
  refine Thn_n ?_
  refine hK _ _ ?_
  clear hK K
  refine AW.block ?_
  refine AW.rounds 9 ?_
  refine ARounds.succ fun K hK => ?_
  refine AW.seq_k fun K hK => ?_
  refine AW.region (by decide) ?_
  simp only [push_cast, simprocAttr]
  refine Thn_n ?_
  refine hK _ _ ?_
  clear hK K
  refine AW.seq_k fun K hK => ?_
  refine AW.cond_t rfl ?_
  refine AW.skip ?_
  refine Thn_n ?_
  refine hK _ _ ?_
  clear hK K
  refine AW.seq_k fun K hK => ?_
  refine AW.block ?_
  refine AW.seq_k fun K hK => ?_
  refine AW.region (by decide) ?_
  simp only [push_cast, simprocAttr]
  refine Thn_n ?_
  refine hK _ _ ?_
  clear hK K
  refine AW.seq_k fun K hK => ?_
  refine AW.region (by decide) ?_
  simp only [push_cast, simprocAttr]
  refine CThen.by (vneg_c _ _ _ _) ?_
  simp only [push_cast, simprocAttr]
  iterate 3
    refine Thn_n ?_
    refine hK _ _ ?_
    clear hK K
    refine AW.seq_k fun K hK => ?_
    refine AW.seq_k fun K hK => ?_
    refine AW.region (by decide) ?_
    simp only [push_cast, simprocAttr]
    refine Thn_n ?_
    refine hK _ _ ?_
    clear hK K
    refine AW.cond_f rfl ?_
    refine AW.skip ?_
  refine Thn_n ?_
  refine hK _ _ ?_
  clear hK K
  refine AW.region (by decide) ?_
  simp only [push_cast, simprocAttr]
  refine InB_n ?_
  refine Thn_n ?_
  refine hK _ _ ?_
  clear hK K
  refine AW.region (by decide) ?_
  simp only [push_cast, simprocAttr]
  refine Thn_n ?_
  refine hK _ _ ?_
  clear hK K
  refine ARounds.succ fun K hK => ?_
  refine AW.seq_k fun K hK => ?_
  refine AW.region (by decide) ?_
  simp only [push_cast, simprocAttr]
  refine Thn_n ?_
  refine hK _ _ ?_
  clear hK K
  refine AW.seq_k fun K hK => ?_
  refine AW.cond_t rfl ?_
  refine AW.skip ?_
  refine Thn_n ?_
  refine hK _ _ ?_
  clear hK K
  refine AW.seq_k fun K hK => ?_
  refine AW.block ?_
  refine AW.seq_k fun K hK => ?_
  refine AW.region (by decide) ?_
  simp only [push_cast, simprocAttr]
  refine Thn_n ?_
  refine hK _ _ ?_
  clear hK K
  refine AW.seq_k fun K hK => ?_
  refine AW.region (by decide) ?_
  simp only [push_cast, simprocAttr]
  refine CThen.by (vneg_c _ _ _ _) ?_
  simp only [push_cast, simprocAttr]
  refine Thn_n ?_
  refine hK _ _ ?_
  clear hK K
  refine AW.seq_k fun K hK => ?_
  refine AW.seq_k fun K hK => ?_
  refine AW.region (by decide) ?_
  simp only [push_cast, simprocAttr]
  refine Thn_n ?_
  refine hK _ _ ?_
  clear hK K
  refine AW.cond_t rfl ?_
  refine AW.region (by decide) ?_
  simp only [push_cast, simprocAttr]
  iterate 2
    refine Thn_n ?_
    refine hK _ _ ?_
    clear hK K
    refine AW.seq_k fun K hK => ?_
    refine AW.seq_k fun K hK => ?_
    refine AW.region (by decide) ?_
    simp only [push_cast, simprocAttr]
    refine Thn_n ?_
    refine hK _ _ ?_
    clear hK K
    refine AW.cond_f rfl ?_
    refine AW.skip ?_
  refine Thn_n ?_
  refine hK _ _ ?_
  clear hK K
  refine AW.region (by decide) ?_
  simp only [push_cast, simprocAttr]
  refine InB_n ?_
  refine Thn_n ?_
  refine hK _ _ ?_
  clear hK K
  refine AW.region (by decide) ?_
  simp only [push_cast, simprocAttr]
  refine Thn_n ?_
  refine hK _ _ ?_
  clear hK K
  refine ARounds.succ fun K hK => ?_
  refine AW.seq_k fun K hK => ?_
  refine AW.region (by decide) ?_
  simp only [push_cast, simprocAttr]
  refine Thn_n ?_
  refine hK _ _ ?_
  clear hK K
  refine AW.seq_k fun K hK => ?_
  refine AW.cond_t rfl ?_
  refine AW.skip ?_
  refine Thn_n ?_
  refine hK _ _ ?_
  clear hK K
  refine AW.seq_k fun K hK => ?_
  refine AW.block ?_
  refine AW.seq_k fun K hK => ?_
  refine AW.region (by decide) ?_
  simp only [push_cast, simprocAttr]
  refine Thn_n ?_
  refine hK _ _ ?_
  clear hK K
  refine AW.seq_k fun K hK => ?_
  refine AW.region (by decide) ?_
  simp only [push_cast, simprocAttr]
  refine CThen.by (vneg_c _ _ _ _) ?_
  simp only [push_cast, simprocAttr]
  refine Thn_n ?_
  refine hK _ _ ?_
  clear hK K
  refine AW.seq_k fun K hK => ?_
  refine AW.seq_k fun K hK => ?_
  refine AW.region (by decide) ?_
  simp only [push_cast, simprocAttr]
  refine Thn_n ?_
  refine hK _ _ ?_
  clear hK K
  refine AW.cond_f rfl ?_
  refine AW.skip ?_
  refine Thn_n ?_
  refine hK _ _ ?_
  clear hK K
  refine AW.seq_k fun K hK => ?_
  refine AW.seq_k fun K hK => ?_
  refine AW.region (by decide) ?_
  simp only [push_cast, simprocAttr]
  refine Thn_n ?_
  refine hK _ _ ?_
  clear hK K
  refine AW.cond_t rfl ?_
  refine AW.region (by decide) ?_
  simp only [push_cast, simprocAttr]
  refine Thn_n ?_
  refine hK _ _ ?_
  clear hK K
  refine AW.seq_k fun K hK => ?_
  refine AW.seq_k fun K hK => ?_
  refine AW.region (by decide) ?_
  simp only [push_cast, simprocAttr]
  refine Thn_n ?_
  refine hK _ _ ?_
  clear hK K
  refine AW.cond_f rfl ?_
  refine AW.skip ?_
  refine Thn_n ?_
  refine hK _ _ ?_
  clear hK K
  refine AW.region (by decide) ?_
  simp only [push_cast, simprocAttr]
  refine InB_n ?_
  refine Thn_n ?_
  refine hK _ _ ?_
  clear hK K
  refine AW.region (by decide) ?_
  simp only [push_cast, simprocAttr]
  refine Thn_n ?_
  refine hK _ _ ?_
  clear hK K
  refine ARounds.succ fun K hK => ?_
  refine AW.seq_k fun K hK => ?_
  refine AW.region (by decide) ?_
  simp only [push_cast, simprocAttr]
  refine Thn_n ?_
  refine hK _ _ ?_
  clear hK K
  refine AW.seq_k fun K hK => ?_
  refine AW.cond_t rfl ?_
  refine AW.skip ?_
  refine Thn_n ?_
  refine hK _ _ ?_
  clear hK K
  refine AW.seq_k fun K hK => ?_
  refine AW.block ?_
  refine AW.seq_k fun K hK => ?_
  refine AW.region (by decide) ?_
  simp only [push_cast, simprocAttr]
  refine Thn_n ?_
  refine hK _ _ ?_
  clear hK K
  refine AW.seq_k fun K hK => ?_
  refine AW.region (by decide) ?_
  simp only [push_cast, simprocAttr]
  refine CThen.by (vneg_c _ _ _ _) ?_
  iterate 2
    simp only [push_cast, simprocAttr]
    refine Thn_n ?_
    refine hK _ _ ?_
    clear hK K
    refine AW.seq_k fun K hK => ?_
    refine AW.seq_k fun K hK => ?_
    refine AW.region (by decide) ?_
    simp only [push_cast, simprocAttr]
    refine Thn_n ?_
    refine hK _ _ ?_
    clear hK K
    refine AW.cond_t rfl ?_
    refine AW.region (by decide) ?_
  simp only [push_cast, simprocAttr]
  refine Thn_n ?_
  refine hK _ _ ?_
  clear hK K
  refine AW.seq_k fun K hK => ?_
  refine AW.seq_k fun K hK => ?_
  refine AW.region (by decide) ?_
  simp only [push_cast, simprocAttr]
  refine Thn_n ?_
  refine hK _ _ ?_
  clear hK K
  refine AW.cond_f rfl ?_
  refine AW.skip ?_
  refine Thn_n ?_
  refine hK _ _ ?_
  clear hK K
  refine AW.region (by decide) ?_
  simp only [push_cast, simprocAttr]
  refine InB_n ?_
  refine Thn_n ?_
  refine hK _ _ ?_
  clear hK K
  refine AW.region (by decide) ?_
  simp only [push_cast, simprocAttr]
  refine Thn_n ?_
  refine hK _ _ ?_
  clear hK K
  refine ARounds.succ fun K hK => ?_
  refine AW.seq_k fun K hK => ?_
  refine AW.region (by decide) ?_
  simp only [push_cast, simprocAttr]
  refine Thn_n ?_
  refine hK _ _ ?_
  clear hK K
  refine AW.seq_k fun K hK => ?_
  refine AW.cond_t rfl ?_
  refine AW.skip ?_
  refine Thn_n ?_
  refine hK _ _ ?_
  clear hK K
  refine AW.seq_k fun K hK => ?_
  refine AW.block ?_
  refine AW.seq_k fun K hK => ?_
  refine AW.region (by decide) ?_
  simp only [push_cast, simprocAttr]
  refine Thn_n ?_
  refine hK _ _ ?_
  clear hK K
  refine AW.seq_k fun K hK => ?_
  refine AW.region (by decide) ?_
  simp only [push_cast, simprocAttr]
  refine CThen.by (vneg_c _ _ _ _) ?_
  simp only [push_cast, simprocAttr]
  iterate 2
    refine Thn_n ?_
    refine hK _ _ ?_
    clear hK K
    refine AW.seq_k fun K hK => ?_
    refine AW.seq_k fun K hK => ?_
    refine AW.region (by decide) ?_
    simp only [push_cast, simprocAttr]
    refine Thn_n ?_
    refine hK _ _ ?_
    clear hK K
    refine AW.cond_f rfl ?_
    refine AW.skip ?_
  refine Thn_n ?_
  refine hK _ _ ?_
  clear hK K
  refine AW.seq_k fun K hK => ?_
  refine AW.seq_k fun K hK => ?_
  refine AW.region (by decide) ?_
  simp only [push_cast, simprocAttr]
  refine Thn_n ?_
  refine hK _ _ ?_
  clear hK K
  refine AW.cond_t rfl ?_
  refine AW.region (by decide) ?_
  simp only [push_cast, simprocAttr]
  refine Thn_n ?_
  refine hK _ _ ?_
  clear hK K
  refine AW.region (by decide) ?_
  simp only [push_cast, simprocAttr]
  refine InB_n ?_
  refine Thn_n ?_
  refine hK _ _ ?_
  clear hK K
  refine AW.region (by decide) ?_
  simp only [push_cast, simprocAttr]
  refine Thn_n ?_
  refine hK _ _ ?_
  clear hK K
  refine ARounds.succ fun K hK => ?_
  refine AW.seq_k fun K hK => ?_
  refine AW.region (by decide) ?_
  simp only [push_cast, simprocAttr]
  refine Thn_n ?_
  refine hK _ _ ?_
  clear hK K
  refine AW.seq_k fun K hK => ?_
  refine AW.cond_t rfl ?_
  refine AW.skip ?_
  refine Thn_n ?_
  refine hK _ _ ?_
  clear hK K
  refine AW.seq_k fun K hK => ?_
  refine AW.block ?_
  refine AW.seq_k fun K hK => ?_
  refine AW.region (by decide) ?_
  simp only [push_cast, simprocAttr]
  refine Thn_n ?_
  refine hK _ _ ?_
  clear hK K
  refine AW.seq_k fun K hK => ?_
  refine AW.region (by decide) ?_
  simp only [push_cast, simprocAttr]
  refine CThen.by (vneg_c _ _ _ _) ?_
  simp only [push_cast, simprocAttr]
  refine Thn_n ?_
  refine hK _ _ ?_
  clear hK K
  refine AW.seq_k fun K hK => ?_
  refine AW.seq_k fun K hK => ?_
  refine AW.region (by decide) ?_
  simp only [push_cast, simprocAttr]
  refine Thn_n ?_
  refine hK _ _ ?_
  clear hK K
  refine AW.cond_t rfl ?_
  refine AW.region (by decide) ?_
  simp only [push_cast, simprocAttr]
  refine Thn_n ?_
  refine hK _ _ ?_
  clear hK K
  refine AW.seq_k fun K hK => ?_
  refine AW.seq_k fun K hK => ?_
  refine AW.region (by decide) ?_
  simp only [push_cast, simprocAttr]
  refine Thn_n ?_
  refine hK _ _ ?_
  clear hK K
  refine AW.cond_f rfl ?_
  refine AW.skip ?_
  refine Thn_n ?_
  refine hK _ _ ?_
  clear hK K
  refine AW.seq_k fun K hK => ?_
  refine AW.seq_k fun K hK => ?_
  refine AW.region (by decide) ?_
  simp only [push_cast, simprocAttr]
  refine Thn_n ?_
  refine hK _ _ ?_
  clear hK K
  refine AW.cond_t rfl ?_
  refine AW.region (by decide) ?_
  simp only [push_cast, simprocAttr]
  refine Thn_n ?_
  refine hK _ _ ?_
  clear hK K
  refine AW.region (by decide) ?_
  simp only [push_cast, simprocAttr]
  refine InB_n ?_
  refine Thn_n ?_
  refine hK _ _ ?_
  clear hK K
  refine AW.region (by decide) ?_
  simp only [push_cast, simprocAttr]
  refine Thn_n ?_
  refine hK _ _ ?_
  clear hK K
  refine ARounds.succ fun K hK => ?_
  refine AW.seq_k fun K hK => ?_
  refine AW.region (by decide) ?_
  simp only [push_cast, simprocAttr]
  refine Thn_n ?_
  refine hK _ _ ?_
  clear hK K
  refine AW.seq_k fun K hK => ?_
  refine AW.cond_t rfl ?_
  refine AW.skip ?_
  refine Thn_n ?_
  refine hK _ _ ?_
  clear hK K
  refine AW.seq_k fun K hK => ?_
  refine AW.block ?_
  refine AW.seq_k fun K hK => ?_
  refine AW.region (by decide) ?_
  simp only [push_cast, simprocAttr]
  refine Thn_n ?_
  refine hK _ _ ?_
  clear hK K
  refine AW.seq_k fun K hK => ?_
  refine AW.region (by decide) ?_
  simp only [push_cast, simprocAttr]
  refine CThen.by (vneg_c _ _ _ _) ?_
  simp only [push_cast, simprocAttr]
  refine Thn_n ?_
  refine hK _ _ ?_
  clear hK K
  refine AW.seq_k fun K hK => ?_
  refine AW.seq_k fun K hK => ?_
  refine AW.region (by decide) ?_
  simp only [push_cast, simprocAttr]
  refine Thn_n ?_
  refine hK _ _ ?_
  clear hK K
  refine AW.cond_f rfl ?_
  refine AW.skip ?_
  iterate 2
    refine Thn_n ?_
    refine hK _ _ ?_
    clear hK K
    refine AW.seq_k fun K hK => ?_
    refine AW.seq_k fun K hK => ?_
    refine AW.region (by decide) ?_
    simp only [push_cast, simprocAttr]
    refine Thn_n ?_
    refine hK _ _ ?_
    clear hK K
    refine AW.cond_t rfl ?_
    refine AW.region (by decide) ?_
    simp only [push_cast, simprocAttr]
  refine Thn_n ?_
  refine hK _ _ ?_
  clear hK K
  refine AW.region (by decide) ?_
  simp only [push_cast, simprocAttr]
  refine InB_n ?_
  refine Thn_n ?_
  refine hK _ _ ?_
  clear hK K
  refine AW.region (by decide) ?_
  simp only [push_cast, simprocAttr]
  refine Thn_n ?_
  refine hK _ _ ?_
  clear hK K
  refine ARounds.succ fun K hK => ?_
  refine AW.seq_k fun K hK => ?_
  refine AW.region (by decide) ?_
  simp only [push_cast, simprocAttr]
  refine Thn_n ?_
  refine hK _ _ ?_
  clear hK K
  refine AW.seq_k fun K hK => ?_
  refine AW.cond_t rfl ?_
  refine AW.skip ?_
  refine Thn_n ?_
  refine hK _ _ ?_
  clear hK K
  refine AW.seq_k fun K hK => ?_
  refine AW.block ?_
  refine AW.seq_k fun K hK => ?_
  refine AW.region (by decide) ?_
  simp only [push_cast, simprocAttr]
  refine Thn_n ?_
  refine hK _ _ ?_
  clear hK K
  refine AW.seq_k fun K hK => ?_
  refine AW.region (by decide) ?_
  simp only [push_cast, simprocAttr]
  refine CThen.by (vneg_c _ _ _ _) ?_
  iterate 3
    simp only [push_cast, simprocAttr]
    refine Thn_n ?_
    refine hK _ _ ?_
    clear hK K
    refine AW.seq_k fun K hK => ?_
    refine AW.seq_k fun K hK => ?_
    refine AW.region (by decide) ?_
    simp only [push_cast, simprocAttr]
    refine Thn_n ?_
    refine hK _ _ ?_
    clear hK K
    refine AW.cond_t rfl ?_
    refine AW.region (by decide) ?_
  simp only [push_cast, simprocAttr]
  refine Thn_n ?_
  refine hK _ _ ?_
  clear hK K
  refine AW.region (by decide) ?_
  simp only [push_cast, simprocAttr]
  refine InB_n ?_
  refine Thn_n ?_
  refine hK _ _ ?_
  clear hK K
  refine AW.region (by decide) ?_
  simp only [push_cast, simprocAttr]
  refine Thn_n ?_
  refine hK _ _ ?_
  clear hK K
  refine ARounds.succ fun K hK => ?_
  refine AW.seq_k fun K hK => ?_
  refine AW.region (by decide) ?_
  simp only [push_cast, simprocAttr]
  refine Thn_n ?_
  refine hK _ _ ?_
  clear hK K
  refine AW.seq_k fun K hK => ?_
  refine AW.cond_f rfl ?_
  refine AW.exit ?_
  refine Thn_e ?_
  clear hK K
  refine Thn_e ?_
  clear hK K
  refine InB_here ?_
  refine Thn_n ?_
  refine hK _ _ ?_
  clear hK K
  refine AW.seq_k fun K hK => ?_
  refine AW.seq_k fun K hK => ?_
  refine AW.nilCell 54 3 (m.length + 3) 1 (by simp only [push_cast, simprocAttr]; first | done | rfl) (by intro e; cases e) rfl ?_
  try simp only [push_cast, simprocAttr]
  refine AW.region (by decide) ?_
  simp only [push_cast, simprocAttr]
  refine Thn_n ?_
  refine hK _ _ ?_
  clear hK K
  refine AW.block ?_
  refine AW.rounds 7 ?_
  refine ARounds.succ fun K hK => ?_
  refine AW.seq_k fun K hK => ?_
  refine AW.region (by decide) ?_
  simp only [push_cast, simprocAttr]
  refine Thn_n ?_
  refine hK _ _ ?_
  clear hK K
  refine AW.seq_k fun K hK => ?_
  refine AW.cond_t rfl ?_
  refine AW.skip ?_
  refine Thn_n ?_
  refine hK _ _ ?_
  clear hK K
  refine AW.seq_k fun K hK => ?_
  refine AW.block ?_
  refine AW.seq_k fun K hK => ?_
  refine AW.region (by decide) ?_
  simp only [push_cast, simprocAttr]
  refine Thn_n ?_
  refine hK _ _ ?_
  clear hK K
  refine AW.region (by decide) ?_
  simp only [push_cast, simprocAttr]
  refine CThen.by (quad_c (m.length + 3) (m.length + 21) 0 0 (.sl (m.length + 4) 8 0 8) [] 0 1 3 2 _ (by simp only [push_cast, simprocAttr]) (by simp only [push_cast, simprocAttr]; first | done | rfl) (by omega) rfl (by decide)) ?_
  simp only [push_cast, simprocAttr]
  refine InB_n ?_
  refine Thn_n ?_
  refine hK _ _ ?_
  clear hK K
  refine AW.region (by decide) ?_
  simp only [push_cast, simprocAttr]
  refine Thn_n ?_
  refine hK _ _ ?_
  clear hK K
  refine ARounds.succ fun K hK => ?_
  refine AW.seq_k fun K hK => ?_
  refine AW.region (by decide) ?_
  simp only [push_cast, simprocAttr]
  refine Thn_n ?_
  refine hK _ _ ?_
  clear hK K
  refine AW.seq_k fun K hK => ?_
  refine AW.cond_t rfl ?_
  refine AW.skip ?_
  refine Thn_n ?_
  refine hK _ _ ?_
  clear hK K
  refine AW.seq_k fun K hK => ?_
  refine AW.block ?_
  refine AW.seq_k fun K hK => ?_
  refine AW.region (by decide) ?_
  simp only [push_cast, simprocAttr]
  refine Thn_n ?_
  refine hK _ _ ?_
  clear hK K
  refine AW.region (by decide) ?_
  simp only [push_cast, simprocAttr]
  refine CThen.by (quad_c (m.length + 3) (m.length + 21) 1 2 (.sl (m.length + 4) 8 0 8) [(0, 1, 3), (0, 3, 2)] 4 6 7 5 _ (by simp only [push_cast, simprocAttr]) (by simp only [push_cast, simprocAttr]; first | done | rfl) (by omega) rfl (by decide)) ?_
  simp only [push_cast, simprocAttr]
  refine InB_n ?_
  refine Thn_n ?_
  refine hK _ _ ?_
  clear hK K
  refine AW.region (by decide) ?_
  simp only [push_cast, simprocAttr]
  refine Thn_n ?_
  refine hK _ _ ?_
  clear hK K
  refine ARounds.succ fun K hK => ?_
  refine AW.seq_k fun K hK => ?_
  refine AW.region (by decide) ?_
  simp only [push_cast, simprocAttr]
  refine Thn_n ?_
  refine hK _ _ ?_
  clear hK K
  refine AW.seq_k fun K hK => ?_
  refine AW.cond_t rfl ?_
  refine AW.skip ?_
  refine Thn_n ?_
  refine hK _ _ ?_
  clear hK K
  refine AW.seq_k fun K hK => ?_
  refine AW.block ?_
  refine AW.seq_k fun K hK => ?_
  refine AW.region (by decide) ?_
  simp only [push_cast, simprocAttr]
  refine Thn_n ?_
  refine hK _ _ ?_
  clear hK K
  refine AW.region (by decide) ?_
  simp only [push_cast, simprocAttr]
  refine CThen.by (quad_c (m.length + 3) (m.length + 21) 2 4 (.sl (m.length + 4) 8 0 8) [(0, 1, 3), (0, 3, 2), (4, 6, 7), (4, 7, 5)] 0 4 5 1 _ (by simp only [push_cast, simprocAttr]) (by simp only [push_cast, simprocAttr]; first | done | rfl) (by omega) rfl (by decide)) ?_
  simp only [push_cast, simprocAttr]
  refine InB_n ?_
  refine Thn_n ?_
  refine hK _ _ ?_
  clear hK K
  refine AW.region (by decide) ?_
  simp only [push_cast, simprocAttr]
  refine Thn_n ?_
  refine hK _ _ ?_
  clear hK K
  refine ARounds.succ fun K hK => ?_
  refine AW.seq_k fun K hK => ?_
  refine AW.region (by decide) ?_
  simp only [push_cast, simprocAttr]
  refine Thn_n ?_
  refine hK _ _ ?_
  clear hK K
  refine AW.seq_k fun K hK => ?_
  refine AW.cond_t rfl ?_
  refine AW.skip ?_
  refine Thn_n ?_
  refine hK _ _ ?_
  clear hK K
  refine AW.seq_k fun K hK => ?_
  refine AW.block ?_
  refine AW.seq_k fun K hK => ?_
  refine AW.region (by decide) ?_
  simp only [push_cast, simprocAttr]
  refine Thn_n ?_
  refine hK _ _ ?_
  clear hK K
  refine AW.region (by decide) ?_
  simp only [push_cast, simprocAttr]
  refine CThen.by (quad_c (m.length + 3) (m.length + 21) 3 6 (.sl (m.length + 4) 8 0 8) [(0, 1, 3), (0, 3, 2), (4, 6, 7), (4, 7, 5), (0, 4, 5), (0, 5, 1)] 2 3 7 6 _ (by simp only [push_cast, simprocAttr]) (by simp only [push_cast, simprocAttr]; first | done | rfl) (by omega) rfl (by decide)) ?_
  simp only [push_cast, simprocAttr]
  refine InB_n ?_
  refine Thn_n ?_
  refine hK _ _ ?_
  clear hK K
  refine AW.region (by decide) ?_
  simp only [push_cast, simprocAttr]
  refine Thn_n ?_
  refine hK _ _ ?_
  clear hK K
  refine ARounds.succ fun K hK => ?_
  refine AW.seq_k fun K hK => ?_
  refine AW.region (by decide) ?_
  simp only [push_cast, simprocAttr]
  refine Thn_n ?_
  refine hK _ _ ?_
  clear hK K
  refine AW.seq_k fun K hK => ?_
  refine AW.cond_t rfl ?_
  refine AW.skip ?_
  refine Thn_n ?_
  refine hK _ _ ?_
  clear hK K
  refine AW.seq_k fun K hK => ?_
  refine AW.block ?_
  refine AW.seq_k fun K hK => ?_
  refine AW.region (by decide) ?_
  simp only [push_cast, simprocAttr]
  refine Thn_n ?_
  refine hK _ _ ?_
  clear hK K
  refine AW.region (by decide) ?_
  simp only [push_cast, simprocAttr]
  refine CThen.by (quad_c (m.length + 3) (m.length + 21) 4 8 (.sl (m.length + 4) 8 0 8) [(0, 1, 3), (0, 3, 2), (4, 6, 7), (4, 7, 5), (0, 4, 5), (0, 5, 1), (2, 3, 7), (2, 7, 6)] 0 2 6 4 _ (by simp only [push_cast, simprocAttr]) (by simp only [push_cast, simprocAttr]; first | done | rfl) (by omega) rfl (by decide)) ?_
  simp only [push_cast, simprocAttr]
  refine InB_n ?_
  refine Thn_n ?_
  refine hK _ _ ?_
  clear hK K
  refine AW.region (by decide) ?_
  simp only [push_cast, simprocAttr]
  refine Thn_n ?_
  refine hK _ _ ?_
  clear hK K
  refine ARounds.succ fun K hK => ?_
  refine AW.seq_k fun K hK => ?_
  refine AW.region (by decide) ?_
  simp only [push_cast, simprocAttr]
  refine Thn_n ?_
  refine hK _ _ ?_
  clear hK K
  refine AW.seq_k fun K hK => ?_
  refine AW.cond_t rfl ?_
  refine AW.skip ?_
  refine Thn_n ?_
  refine hK _ _ ?_
  clear hK K
  refine AW.seq_k fun K hK => ?_
  refine AW.block ?_
  refine AW.seq_k fun K hK => ?_
  refine AW.region (by decide) ?_
  simp only [push_cast, simprocAttr]
  refine Thn_n ?_
  refine hK _ _ ?_
  clear hK K
  refine AW.region (by decide) ?_
  simp only [push_cast, simprocAttr]
  refine CThen.by (quad_c (m.length + 3) (m.length + 21) 5 10 (.sl (m.length + 4) 8 0 8) [(0, 1, 3), (0, 3, 2), (4, 6, 7), (4, 7, 5), (0, 4, 5), (0, 5, 1), (2, 3, 7), (2, 7, 6), (0, 2, 6), (0, 6, 4)] 1 5 7 3 _ (by simp only [push_cast, simprocAttr]) (by simp only [push_cast, simprocAttr]; first | done | rfl) (by omega) rfl (by decide)) ?_
  simp only [push_cast, simprocAttr]
  refine InB_n ?_
  refine Thn_n ?_
  refine hK _ _ ?_
  clear hK K
  refine AW.region (by decide) ?_
  simp only [push_cast, simprocAttr]
  refine Thn_n ?_
  refine hK _ _ ?_
  clear hK K
  refine ARounds.succ fun K hK => ?_
  refine AW.seq_k fun K hK => ?_
  refine AW.region (by decide) ?_
  simp only [push_cast, simprocAttr]
  refine Thn_n ?_
  refine hK _ _ ?_
  clear hK K
  refine AW.seq_k fun K hK => ?_
  refine AW.cond_f rfl ?_
  refine AW.exit ?_
  refine Thn_e ?_
  clear hK K
  refine Thn_e ?_
  clear hK K
  refine InB_here ?_
  refine Thn_n ?_
  refine hK _ _ ?_
  clear hK K
  refine AW.seq_k fun K hK => ?_
  refine AW.region (by decide) ?_
  simp only [push_cast, simprocAttr]
  refine Thn_n ?_
  refine hK _ _ ?_
  clear hK K
  refine AW.ret ?_
  refine hQ _ _ _ ?_
  refine RetP.pick [(m.length + 4, 8), (m.length + 21, 6)] (Or.inr rfl) ?_ ?_ ?_ hwf ?_
  · simp only [resA, resOne, resTv, AV.tv, push_cast, simprocAttr]
    simp [renV, renT, renL, renC, renIdx, hlt0]
  · simp only [picks, push_cast, simprocAttr] <;> rfl
  · simp [distinctFrom]
  · exact MWf_cons (tL_below _ _) (MWf_one (tL_below _ _))
end Go.Proofs.Ytiogpaehelpmhaa

set_option linter.unusedSimpArgs false
set_option linter.unusedVariables false
set_option maxRecDepth 100000
set_option maxHeartbeats 4000000
namespace Go.Proofs.Ytiogpaehelpmhaa
open Go Go.Eng

/-- Edges numbered from a number on. -/
def nmE : Nat → List EK → List (EK × Int)
  | _, [] => []
  | s, k :: l => (k, (s : Int)) :: nmE (s + 1) l
theorem nmE_len : ∀ (s : Nat) (l : List EK), (nmE s l).length = l.length
  | _, [] => rfl
  | s, k :: l => by show (nmE (s + 1) l).length + 1 = _; rw [nmE_len]; rfl
theorem nmE_fst : ∀ (s : Nat) (l : List EK), (nmE s l).map (·.1) = l
  | _, [] => rfl
  | s, k :: l => by show k :: (nmE (s + 1) l).map (·.1) = _; rw [nmE_fst]
theorem nmE_app : ∀ (s : Nat) (l : List EK) (k : EK), nmE s (l ++ [k]) = nmE s l ++ [(k, ((s + l.length : Nat) : Int))]
  | s, [], k => rfl
  | s, x :: l, k => by
    show (x, (s : Int)) :: nmE (s + 1) (l ++ [k]) = _
    rw [nmE_app (s + 1) l k, show s + 1 + l.length = s + (x :: l).length by simp; omega]; rfl
theorem idxE_none {k : EK} : ∀ {E : List (EK × Int)}, k ∉ E.map (·.1) → idxE k E = none
  | [], _ => rfl
  | e :: E, h => by
    unfold idxE
    rw [if_neg fun hk => h (by rw [← hk]; exact List.mem_cons_self), idxE_none fun hm => h (List.mem_cons_of_mem _ hm)]; rfl
theorem idx_mem {E : List (EK × Int)} {k : EK} (h1 : k ∈ E.map (·.1)) : ∃ j c, E[j]? = some (k, c) ∧ idxE k E = some j ∧ cntE E k = c := by
  induction E with
  | nil => cases h1
  | cons e T ih =>
    by_cases hk : e.1 = k
    · exact ⟨0, e.2, by rw [← hk]; rfl, by unfold idxE; rw [if_pos hk], by
        unfold cntE
        rw [List.find?_cons, show (e.1 == k) = true by simpa using hk]; rfl⟩
    · rcases List.mem_cons.1 h1 with h2 | h2
      · exact (hk h2.symm).elim
      · obtain ⟨j, c, p1, p2, p3⟩ := ih h2
        refine ⟨j + 1, c, by simpa using p1, by unfold idxE; rw [if_neg hk, p2]; rfl, ?_⟩
        rw [← p3]
        unfold cntE
        rw [List.find?_cons, show (e.1 == k) = false by simpa using hk]
theorem ks_nd (Fs : List T3) : (ksE (tally Fs Fs.length)).Nodup := (srtE_perm _).symm.nodup (tally_nd Fs _)
theorem nm_step {s i : Nat} {ks : List EK} {k : EK} (hk : ks[i]? = some k) (hn : ks.Nodup) : nmE s (ks.take i) ++ [(k, ((s + i : Nat) : Int))] = nmE s (ks.take (i + 1)) ∧ idxE k (nmE s (ks.take i)) = none := by
  have hi : i < ks.length := (List.getElem?_eq_some_iff.1 hk).1
  have hl : (ks.take i).length = i := by rw [List.length_take]; omega
  have h1 : ks.take (i + 1) = ks.take i ++ [k] := by rw [List.take_add_one, hk]; rfl
  refine ⟨by rw [h1, nmE_app, hl], idxE_none ?_⟩
  rw [nmE_fst]
  intro hm
  have h2 := hn.sublist (List.take_sublist (i + 1) ks)
  rw [h1, List.nodup_append] at h2
  exact h2.2.2 k hm k (by simp) rfl
/-- Every edge of every face is counted. -/
theorem faceE_mono {E : List (EK × Int)} {t : T3} {x : EK} (h : x ∈ E.map (·.1)) : ∀ k, x ∈ (faceE E t k).map (·.1)
  | 0 => h
  | k + 1 => inc_mem.2 (.inr (faceE_mono h k))
theorem faceE_has {E : List (EK × Int)} {t : T3} : ∀ {n k : Nat}, k < n → fKey t k ∈ (faceE E t n).map (·.1)
  | n + 1, k, h => by
    rcases Nat.lt_or_ge k n with h1 | h1
    · exact inc_mem.2 (.inr (faceE_has h1))
    · have : k = n := by omega
      subst this
      exact inc_mem.2 (.inl rfl)
theorem tally_has {Fs : List T3} {t : T3} {k : Nat} (hk : k < 3) : ∀ {n j : Nat}, j < n → Fs[j]? = some t → fKey t k ∈ (tally Fs n).map (·.1)
  | n + 1, j, h, ht => by
    rcases Nat.lt_or_ge j n with h1 | h1
    · have ih := tally_has hk h1 ht
      cases h2 : Fs[n]? with
      | none =>
        have e : tally Fs (n + 1) = tally Fs n := by show (match Fs[n]? with | some t => _ | none => _) = _; rw [h2]
        rw [e]; exact ih
      | some t2 => rw [tally_s h2]; exact faceE_mono ih 3
    · have : j = n := by omega
      subst this
      rw [tally_s ht]; exact faceE_has hk
theorem ks_has {Fs : List T3} {t : T3} {j k : Nat} (ht : Fs[j]? = some t) (hk : k < 3) : fKey t k ∈ ksE (tally Fs Fs.length) :=
  (srtE_perm _).mem_iff.2 (tally_has hk (List.getElem?_eq_some_iff.1 ht).1 ht)
/-- Edges lie in the mesh. -/
theorem chk_ok {n : Nat} {l : List T3} (h : chk n l = 0) : ∀ t, t ∈ l → okF n t := by
  unfold chk at h
  split at h
  · cases h
  · split at h
    · assumption
    · cases h
def EIn (n : Nat) (k : EK) : Prop := 0 ≤ k.1 ∧ k.1 < n ∧ 0 ≤ k.2 ∧ k.2 < n
theorem fv_in {n : Nat} {t : T3} (h : okF n t) : ∀ k, 0 ≤ fv t k ∧ fv t k < n
  | 0 => by have := h; unfold okF at this; show 0 ≤ t.1 ∧ t.1 < n; omega
  | 1 => by have := h; unfold okF at this; show 0 ≤ t.2.1 ∧ t.2.1 < n; omega
  | k + 2 => by have := h; unfold okF at this; show 0 ≤ t.2.2 ∧ t.2.2 < n; omega
theorem eKey_in {n : Nat} {a b : Int} (ha : 0 ≤ a ∧ a < n) (hb : 0 ≤ b ∧ b < n) : EIn n (eKey a b) := by
  show 0 ≤ Eng.minI a b ∧ Eng.minI a b < n ∧ 0 ≤ Eng.maxI a b ∧ Eng.maxI a b < n
  unfold Eng.minI Eng.maxI
  split <;> split <;> omega
theorem tally_in {n : Nat} {Fs : List T3} (h : chk n Fs = 0) (i : Nat) : ∀ x, x ∈ (tally Fs i).map (·.1) → EIn n x :=
  tally_all (fun t ht k => eKey_in (fv_in (chk_ok h t ht) _) (fv_in (chk_ok h t ht) _)) i
theorem tally_bk {n : Nat} {Fs : List T3} (h : chk n Fs = 0) (i : Nat) : BK1 ((tally Fs i).map (·.1)) := fun x hx => by
  have := tally_in h i x hx
  have := chk_len h
  unfold EIn at *
  omega
theorem ks_in {n : Nat} {Fs : List T3} (h : chk n Fs = 0) : ∀ x, x ∈ ksE (tally Fs Fs.length) → EIn n x := fun x hx => tally_in h _ x ((srtE_perm _).mem_iff.1 hx)
/-- A point halfway. -/
def midT (p q : T3) : T3 := (lerpI p.1 q.1 32768, lerpI p.2.1 q.2.1 32768, lerpI p.2.2 q.2.2 32768)
def atP (P : List T3) (i : Int) : T3 := P.getD i.toNat (0, 0, 0)
def midP (P : List T3) (k : EK) : T3 := midT (atP P k.1) (atP P k.2)
theorem atP_at {P : List T3} {a : Nat} {t : T3} (h : P[a]? = some t) : atP P (a : Int) = t := by
  unfold atP; rw [Int.toNat_natCast, List.getD_eq_getElem?_getD, h]; rfl
def edI (n : Nat) (ks : List EK) (k : EK) : Int := cntE (nmE n ks) k
def finF (n : Nat) (ks : List EK) (t : T3) : List T3 :=
  [(t.1, edI n ks (fKey t 0), edI n ks (fKey t 2)), (edI n ks (fKey t 0), t.2.1, edI n ks (fKey t 1)), (edI n ks (fKey t 2), edI n ks (fKey t 1), t.2.2), (edI n ks (fKey t 0), edI n ks (fKey t 1), edI n ks (fKey t 2))]
def fnP (P Fs : List T3) : List T3 := P ++ (ksE (tally Fs Fs.length)).map (midP P)
def fnF (n : Nat) (Fs : List T3) : List T3 := Fs.flatMap (finF n (ksE (tally Fs Fs.length)))
theorem fl_step {n i : Nat} {ks : List EK} {Fs : List T3} {t : T3} (h : Fs[i]? = some t) : tL ((Fs.take i).flatMap (finF n ks)) ++ tL (finF n ks t) = tL ((Fs.take (i + 1)).flatMap (finF n ks)) := by
  rw [List.take_add_one, h, tL_app]; simp
theorem fl_len (n : Nat) (ks : List EK) : ∀ l : List T3, (l.flatMap (finF n ks)).length = 4 * l.length
  | [] => rfl
  | t :: l => by
    rw [List.flatMap_cons, List.length_append, fl_len n ks l, List.length_cons]
    show 4 + _ = _
    omega
theorem md_step {P : List T3} {ks : List EK} {i : Nat} {k : EK} (h : ks[i]? = some k) : tL (P ++ (ks.take i).map (midP P)) ++ tC (midP P k) = tL (P ++ (ks.take (i + 1)).map (midP P)) := by
  rw [List.take_add_one, h]; simp [tL]
theorem fin1_c (x y : Int) (r rm clock : Nat) (E : List (EK × Int)) (m : AMem) (h : m[r]? = some ⟨.fix, 91, 0, 0, [.mp rm 0]⟩) (hm : m[rm]? = some ⟨.map true false clock (mE 0 E), 91, 0, 0, []⟩) (hk : eKey x y ∈ E.map (·.1)) : Ctr Try.prog 39 [.one (.int .i64 x), .one (.int .i64 y), .one (.ptr r 0 0)] m (.one (.int .i64 (cntE E (eKey x y)))) m := by
  refine Ctr.enter Try.func39 rfl (by decide) (rs := [.tmp 5]) (nt := 15) rfl rfl fun hwf Q hQ => ?_
  obtain ⟨j, c, p1, p2, p3⟩ := idx_mem hk
  rw [p3] at hQ
  have g1 : findL [CV.int .i64 (Eng.minI x y), .int .i64 (Eng.maxI x y)] (mE 0 E) = some (some j) := (findL_mE (eKey x y) 0 E).trans (by rw [p2])
  have g4 : (mE 0 E)[j]? = some (j, [CV.int .i64 (Eng.minI x y), .int .i64 (Eng.maxI x y)], [.int .i64 c]) := by have := mE_get (s := 0) p1; rw [Nat.zero_add] at this; exact this
  iterate 2
    refine AW.seq_k fun K hK => ?_
    refine AW.region (by decide) ?_
    simp only [push_cast, simprocAttr, h, lk_old h, hm, lk_old hm, g1, g4]
    refine Thn_n ?_
    refine hK _ _ ?_
    clear hK K
  refine AW.ret ?_
  refine hQ _ _ _ ?_
  first | refine RetP.drop0 (Or.inr rfl) ?_ ?_ hwf | refine RetP.drop (Or.inr rfl) ?_ ?_ hwf
  · simp only [resA, resOne, resTv, AV.tv, push_cast, simprocAttr, h, lk_old h, hm, lk_old hm, g1, g4]
  · rfl
end Go.Proofs.Ytiogpaehelpmhaa
