/- Walks and facts of this seat's program over abstract states, printed by a program of mine; no conditions but those that each theorem names. -/
import Derived.Test.YtmjbbnfmhgcfaaaStampB
set_option linter.unusedSimpArgs false
set_option linter.unusedVariables false
set_option maxRecDepth 100000
set_option maxHeartbeats 4000000
namespace Go.Proofs.Ytmjbbnfmhgcfaaa
open Go Go.Eng

theorem nd0 (f : Nat) : ndL (4 * f) = [] := by unfold ndL; rw [if_pos (by omega)]
theorem nd1z : ndL 1 = [0] := rfl
theorem nd1s (f : Nat) : ndL (4 * (f + 1) + 1) = [4 * (f + 1), 4 * f, 4 * f + 1] := by
  unfold ndL
  rw [if_neg (by omega), if_pos (by omega), if_neg (by omega)]
  simp only [List.cons.injEq, and_true]
  omega
theorem nd2 (f : Nat) : ndL (4 * f + 2) = [4 * f, 4 * f + 1] := by
  unfold ndL
  rw [if_neg (by omega), if_neg (by omega), if_pos (by omega)]
  simp only [List.cons.injEq, and_true]
  omega
theorem nd3 (f : Nat) : ndL (4 * f + 3) = [4 * f + 2] := by
  unfold ndL
  rw [if_neg (by omega), if_neg (by omega), if_neg (by omega)]
  simp only [List.cons.injEq, and_true]
  omega
theorem needs0_c (f : Nat) (m : AMem) : Ctr Try.prog 13 [.one (.int .i64 0), .one (.int .i64 (f : Int))] m (.one .nils) m := by
  refine Ctr.enter Try.func13 rfl (by decide) (rs := [.tmp 4]) (nt := 41) rfl rfl fun hwf Q hQ => ?_
  refine AW.seq_k fun K hK => ?_
  refine AW.region (by decide) ?_
  simp only [push_cast, simprocAttr]
  refine Thn_n ?_
  refine hK _ _ ?_
  clear hK K
  refine AW.seq_k fun K hK => ?_
  refine AW.block ?_
  iterate 4
    refine AW.seq_k fun K hK => ?_
    refine AW.region (by decide) ?_
    simp only [push_cast, simprocAttr]
    refine Thn_n ?_
    refine hK _ _ ?_
    clear hK K
    refine AW.cond_f rfl ?_
  refine AW.skip ?_
  refine InB_n ?_
  refine Thn_n ?_
  refine hK _ _ ?_
  clear hK K
  refine AW.seq_k fun K hK => ?_
  refine AW.region (by decide) ?_
  simp only [push_cast, simprocAttr]
  refine Thn_n ?_
  refine hK _ _ ?_
  clear hK K
  refine AW.ret ?_
  refine hQ _ _ _ ?_
  first | refine RetP.drop0 (Or.inr rfl) ?_ ?_ hwf | refine RetP.drop (Or.inr rfl) ?_ ?_ hwf
  · simp only [resA, resOne, resTv, AV.tv, push_cast, simprocAttr]
  · rfl
theorem needs1z_c (m : AMem) : Ctr Try.prog 13 [.one (.int .i64 1), .one (.int .i64 0)] m (.one (.sl m.length 0 0 1)) (m ++ [⟨.grow, 3, 0, 1, nl (ndL 1)⟩]) := by
  refine Ctr.enter Try.func13 rfl (by decide) (rs := [.tmp 4]) (nt := 41) rfl rfl fun hwf Q hQ => ?_
  have hrow : nl (ndL 1) = [.int .i64 0] := rfl
  refine AW.seq_k fun K hK => ?_
  refine AW.region (by decide) ?_
  simp only [push_cast, simprocAttr]
  refine Thn_n ?_
  refine hK _ _ ?_
  clear hK K
  refine AW.seq_k fun K hK => ?_
  refine AW.block ?_
  refine AW.seq_k fun K hK => ?_
  refine AW.region (by decide) ?_
  simp only [push_cast, simprocAttr]
  refine Thn_n ?_
  refine hK _ _ ?_
  clear hK K
  refine AW.cond_f rfl ?_
  refine AW.seq_k fun K hK => ?_
  refine AW.region (by decide) ?_
  simp only [push_cast, simprocAttr]
  refine Thn_n ?_
  refine hK _ _ ?_
  clear hK K
  refine AW.cond_t rfl ?_
  refine AW.seq_k fun K hK => ?_
  refine AW.region (by decide) ?_
  simp only [push_cast, simprocAttr]
  refine CThen.by (at_c 0 0 _ (by decide) (by decide)) ?_
  simp only [push_cast, simprocAttr]
  refine Thn_n ?_
  refine hK _ _ ?_
  clear hK K
  refine AW.ret ?_
  refine InB_r ?_
  refine Thn_r ?_
  refine hQ _ _ _ ?_
  refine RetP.pick [(m.length, 0)] (Or.inr rfl) ?_ ?_ ?_ hwf ?_
  · simp only [resA, resOne, resTv, AV.tv, push_cast, simprocAttr]
    simp [renV, renT, renL, renC, renIdx]
  · simp only [picks, push_cast, simprocAttr]; rw [hrow]
  · simp [distinctFrom]
  · exact MWf_one (nl_below _ _)
  
theorem needs1s_c (f : Nat) (m : AMem) (hf : f ≤ 900) : Ctr Try.prog 13 [.one (.int .i64 1), .one (.int .i64 ((f : Int) + 1))] m (.one (.sl m.length 0 0 3)) (m ++ [⟨.grow, 3, 0, 1, nl (ndL (4 * (f + 1) + 1))⟩]) := by
  refine Ctr.enter Try.func13 rfl (by decide) (rs := [.tmp 4]) (nt := 41) rfl rfl fun hwf Q hQ => ?_
  have c0 : (0 : Int) < (f : Int) + 1 := by omega
  have w0 : IntKind.i64.wrap ((f : Int) + 1 - 1) = (f : Int) := by rw [IntKind.wrap_i64]; omega
  have hrow : nl (ndL (4 * (f + 1) + 1)) = [.int .i64 ((4 * (f + 1) + 0 : Nat) : Int), .int .i64 ((4 * f + 0 : Nat) : Int), .int .i64 ((4 * f + 1 : Nat) : Int)] := by rw [nd1s]; rfl
  simp only [push_cast, simprocAttr] at hrow
  refine AW.seq_k fun K hK => ?_
  refine AW.region (by decide) ?_
  simp only [push_cast, simprocAttr, c0, w0]
  refine Thn_n ?_
  refine hK _ _ ?_
  clear hK K
  refine AW.seq_k fun K hK => ?_
  refine AW.block ?_
  refine AW.seq_k fun K hK => ?_
  refine AW.region (by decide) ?_
  simp only [push_cast, simprocAttr, c0, w0]
  refine Thn_n ?_
  refine hK _ _ ?_
  clear hK K
  refine AW.cond_t rfl ?_
  refine AW.seq_k fun K hK => ?_
  refine AW.region (by decide) ?_
  simp only [push_cast, simprocAttr, c0, w0]
  refine CThen.by (at_c 0 (f + 1) _ (by decide) (by omega)) ?_
  simp only [push_cast, simprocAttr, c0, w0]
  refine CThen.by (at_c 0 f _ (by decide) (by omega)) ?_
  simp only [push_cast, simprocAttr, c0, w0]
  refine CThen.by (at_c 1 f _ (by decide) (by omega)) ?_
  simp only [push_cast, simprocAttr, c0, w0]
  refine Thn_n ?_
  refine hK _ _ ?_
  clear hK K
  refine AW.ret ?_
  refine InB_r ?_
  refine Thn_r ?_
  refine hQ _ _ _ ?_
  refine RetP.pick [(m.length, 0)] (Or.inr rfl) ?_ ?_ ?_ hwf ?_
  · simp only [resA, resOne, resTv, AV.tv, push_cast, simprocAttr]
    simp [renV, renT, renL, renC, renIdx]
  · simp only [picks, push_cast, simprocAttr]; rw [hrow]
  · simp [distinctFrom]
  · exact MWf_one (nl_below _ _)
  
theorem needs2_c (f : Nat) (m : AMem) (hf : f ≤ 900) : Ctr Try.prog 13 [.one (.int .i64 2), .one (.int .i64 (f : Int))] m (.one (.sl m.length 0 0 2)) (m ++ [⟨.grow, 3, 0, 1, nl (ndL (4 * f + 2))⟩]) := by
  refine Ctr.enter Try.func13 rfl (by decide) (rs := [.tmp 4]) (nt := 41) rfl rfl fun hwf Q hQ => ?_
  have hrow : nl (ndL (4 * f + 2)) = [.int .i64 ((4 * f + 0 : Nat) : Int), .int .i64 ((4 * f + 1 : Nat) : Int)] := by rw [nd2]; rfl
  simp only [push_cast, simprocAttr] at hrow
  refine AW.seq_k fun K hK => ?_
  refine AW.region (by decide) ?_
  simp only [push_cast, simprocAttr]
  refine Thn_n ?_
  refine hK _ _ ?_
  clear hK K
  refine AW.seq_k fun K hK => ?_
  refine AW.block ?_
  iterate 2
    refine AW.seq_k fun K hK => ?_
    refine AW.region (by decide) ?_
    simp only [push_cast, simprocAttr]
    refine Thn_n ?_
    refine hK _ _ ?_
    clear hK K
    refine AW.cond_f rfl ?_
  refine AW.seq_k fun K hK => ?_
  refine AW.region (by decide) ?_
  simp only [push_cast, simprocAttr]
  refine Thn_n ?_
  refine hK _ _ ?_
  clear hK K
  refine AW.cond_t rfl ?_
  refine AW.seq_k fun K hK => ?_
  refine AW.region (by decide) ?_
  simp only [push_cast, simprocAttr]
  refine CThen.by (at_c 0 f _ (by decide) (by omega)) ?_
  simp only [push_cast, simprocAttr]
  refine CThen.by (at_c 1 f _ (by decide) (by omega)) ?_
  simp only [push_cast, simprocAttr]
  refine Thn_n ?_
  refine hK _ _ ?_
  clear hK K
  refine AW.ret ?_
  refine InB_r ?_
  refine Thn_r ?_
  refine hQ _ _ _ ?_
  refine RetP.pick [(m.length, 0)] (Or.inr rfl) ?_ ?_ ?_ hwf ?_
  · simp only [resA, resOne, resTv, AV.tv, push_cast, simprocAttr]
    simp [renV, renT, renL, renC, renIdx]
  · simp only [picks, push_cast, simprocAttr]; rw [hrow]
  · simp [distinctFrom]
  · exact MWf_one (nl_below _ _)
  
theorem needs3_c (f : Nat) (m : AMem) (hf : f ≤ 900) : Ctr Try.prog 13 [.one (.int .i64 3), .one (.int .i64 (f : Int))] m (.one (.sl m.length 0 0 1)) (m ++ [⟨.grow, 3, 0, 1, nl (ndL (4 * f + 3))⟩]) := by
  refine Ctr.enter Try.func13 rfl (by decide) (rs := [.tmp 4]) (nt := 41) rfl rfl fun hwf Q hQ => ?_
  have hrow : nl (ndL (4 * f + 3)) = [.int .i64 ((4 * f + 2 : Nat) : Int)] := by rw [nd3]; rfl
  simp only [push_cast, simprocAttr] at hrow
  refine AW.seq_k fun K hK => ?_
  refine AW.region (by decide) ?_
  simp only [push_cast, simprocAttr]
  refine Thn_n ?_
  refine hK _ _ ?_
  clear hK K
  refine AW.seq_k fun K hK => ?_
  refine AW.block ?_
  iterate 3
    refine AW.seq_k fun K hK => ?_
    refine AW.region (by decide) ?_
    simp only [push_cast, simprocAttr]
    refine Thn_n ?_
    refine hK _ _ ?_
    clear hK K
    refine AW.cond_f rfl ?_
  refine AW.seq_k fun K hK => ?_
  refine AW.region (by decide) ?_
  simp only [push_cast, simprocAttr]
  refine Thn_n ?_
  refine hK _ _ ?_
  clear hK K
  refine AW.cond_t rfl ?_
  refine AW.seq_k fun K hK => ?_
  refine AW.region (by decide) ?_
  simp only [push_cast, simprocAttr]
  refine CThen.by (at_c 2 f _ (by decide) (by omega)) ?_
  simp only [push_cast, simprocAttr]
  refine Thn_n ?_
  refine hK _ _ ?_
  clear hK K
  refine AW.ret ?_
  refine InB_r ?_
  refine Thn_r ?_
  refine hQ _ _ _ ?_
  refine RetP.pick [(m.length, 0)] (Or.inr rfl) ?_ ?_ ?_ hwf ?_
  · simp only [resA, resOne, resTv, AV.tv, push_cast, simprocAttr]
    simp [renV, renT, renL, renC, renIdx]
  · simp only [picks, push_cast, simprocAttr]; rw [hrow]
  · simp [distinctFrom]
  · exact MWf_one (nl_below _ _)
  
end Go.Proofs.Ytmjbbnfmhgcfaaa
