/- Walks and facts of this seat's program over abstract states, printed by a program of mine; no conditions but those that each theorem names. -/
import Derived.Test.YtmjbbnfmhgcfaaaPlan5
set_option linter.unusedSimpArgs false
set_option linter.unusedVariables false
set_option maxRecDepth 100000
set_option maxHeartbeats 4000000
namespace Go.Proofs.Ytmjbbnfmhgcfaaa
open Go Go.Eng

def lightB (ln : Nat → Nat) (N : Nat) : Bool := decide (∀ i, i < N → ln i ≤ 40) && decide ((N : Int) ≤ 40)
-- left out: light_c
theorem same_c (r v r2 v2 n : Nat) (f : Nat → Int) (m : AMem) (hp : IntsAt m r v n f) (hp2 : IntsAt m r2 v2 n f) (hn : n ≤ 9000000000000) : Ctr Try.prog 9 [.one (.sl r v 0 n), .one (.sl r2 v2 0 n)] m (.one (.bool true)) m := by
  refine Ctr.enter Try.func9 rfl (by decide) (rs := [.tmp 4]) (nt := 26) rfl rfl fun hwf Q hQ => ?_
  obtain ⟨k0, ez, hb⟩ := hp.hb
  obtain ⟨k1, ez1, hb1⟩ := hp2.hb
  have hr := get_lt hb
  have hr1 := get_lt hb1
  refine AW.seq_k fun K hK => ?_
  refine AW.region (by decide) ?_
  simp only [push_cast, simprocAttr, hb, lk_old hb, hb1, lk_old hb1]
  refine Thn_n ?_
  refine hK _ _ ?_
  clear hK K
  refine AW.seq_k fun K hK => ?_
  refine AW.seq_k fun K hK => ?_
  refine AW.region (by decide) ?_
  simp only [push_cast, simprocAttr, hb, lk_old hb, hb1, lk_old hb1]
  refine Thn_n ?_
  refine hK _ _ ?_
  clear hK K
  refine AW.cond_f rfl ?_
  refine AW.skip ?_
  refine Thn_n ?_
  refine hK _ _ ?_
  clear hK K
  refine AW.seq_k fun K hK => ?_
  refine AW.seq_k fun K hK => ?_
  refine AW.region (by decide) ?_
  simp only [push_cast, simprocAttr, hb, lk_old hb, hb1, lk_old hb1]
  refine Thn_n ?_
  refine hK _ _ ?_
  clear hK K
  refine AW.block ?_
  refine AW.loopK [0, 1, 12] (fun i => i ≤ n) (fun i => [(13, .one (.int .i64 (i : Int)))]) (fun i => []) (fun i => n - i) 0 (by omega) ?_ ?_ fun i hi6 => ?_
  · first | rfl | (simp only [Keeps, Tm.get_cons, Nat.reduceEqDiff, ↓reduceIte, if_true, if_false, ite_true, ite_false, true_and, and_true, and_self, reduceCtorEq] <;> rfl)
  · first | rfl | (simp only [setAll, push_cast, simprocAttr, hb, lk_old hb, hb1, lk_old hb1] <;> rfl)
  try simp only [keepL, setAll, push_cast, simprocAttr, hb, lk_old hb, hb1, lk_old hb1]
  refine AW.seq_k fun K hK => ?_
  refine AW.region (by decide) ?_
  simp only [push_cast, simprocAttr, hb, lk_old hb, hb1, lk_old hb1]
  refine Thn_n ?_
  refine hK _ _ ?_
  clear hK K
  refine AW.seq_k fun K hK => ?_
  refine AW.cond rfl (fun h14 => ?_) (fun h14 => ?_)
  · have hlt : i < n := by have := of_decide_eq_true h14; omega
    have c1 : (0 : Int) ≤ (i : Int) := by omega
    have c2 : (i : Int) < (n : Int) := by omega
    have g := il_get (f := f) hlt
    refine AW.skip ?_
    refine Thn_n ?_
    refine hK _ _ ?_
    clear hK K
    refine AW.seq_k fun K hK => ?_
    refine AW.block ?_
    refine AW.seq_k fun K hK => ?_
    refine AW.region (by decide) ?_
    simp only [push_cast, simprocAttr, hb, lk_old hb, hb1, lk_old hb1, c1, c2, g]
    refine Thn_n ?_
    refine hK _ _ ?_
    clear hK K
    refine AW.seq_k fun K hK => ?_
    refine AW.draw [.val, .val, .val, .rd 0, .val, .val, .val, .rd 0, .val] fol (by decide) (by kernel_rfl) ?_
    simp only [push_cast, simprocAttr, hb, lk_old hb, hb1, lk_old hb1, c1, c2, g]
    refine Thn_n ?_
    refine hK _ _ ?_
    clear hK K
    refine AW.cond_f rfl ?_
    refine AW.skip ?_
    refine InB_n ?_
    refine Thn_n ?_
    refine hK _ _ ?_
    clear hK K
    refine AW.region (by decide) ?_
    simp only [push_cast, simprocAttr, hb, lk_old hb, hb1, lk_old hb1, c1, c2, g]
    refine Thn_n ?_
    have hwi : IntKind.i64.wrap ((i:Int)+1) = (i:Int)+1 := by rw [IntKind.wrap_i64]; omega
    refine ⟨i + 1, by omega, by omega, ?_⟩
    try simp only [keepL, setAll, push_cast, simprocAttr, hb, lk_old hb, hb1, lk_old hb1, c1, c2, g, hwi]
    exact Weak.same (by simp only [Keeps, Tm.get_cons, Nat.reduceEqDiff, ↓reduceIte, if_true, if_false, ite_true, ite_false, true_and, and_true, and_self, reduceCtorEq, hwi]) (by first | rfl | simp only [Keeps, Tm.get_cons, Nat.reduceEqDiff, ↓reduceIte, if_true, if_false, ite_true, ite_false, true_and, and_true, and_self, reduceCtorEq, hwi])
  · refine AW.exit ?_
    refine Thn_e ?_
    clear hK K
    refine Thn_e ?_
    refine InB_here ?_
    refine Thn_n ?_
    refine hK _ _ ?_
    clear hK K
    refine AW.seq_k fun K hK => ?_
    refine AW.region (by decide) ?_
    simp only [push_cast, simprocAttr, hb, lk_old hb, hb1, lk_old hb1]
    refine Thn_n ?_
    refine hK _ _ ?_
    clear hK K
    refine AW.ret ?_
    refine hQ _ _ _ ?_
    first | refine RetP.drop0 (Or.inr rfl) ?_ ?_ hwf | refine RetP.drop (Or.inr rfl) ?_ ?_ hwf
    · simp only [resA, resOne, resTv, AV.tv, push_cast, simprocAttr, hb, lk_old hb, hb1, lk_old hb1]
    · rfl
theorem porder_no {vp : Nat} (rp N : Nat) (ln : Nat → Nat) (q : Nat → Nat → Int) (m : AMem) (hp : RowsAt m rp vp N ln q) (hl : ∀ i, i < N → ln i ≤ 1048576) (hN : N ≤ 1048576) (z : Int) (hz : CheckZ N ln q z) (h0 : (z != 0) = true) : Ctr Try.prog 12 [.one (.sl rp vp 0 N)] m (.tup [(false, [.nils]), (false, [.int .i64 z])]) m := by
  refine Ctr.enter Try.func12 rfl (by decide) (rs := [.tmp 2, .tmp 3]) (nt := 12) rfl rfl fun hwf Q hQ => ?_
  refine AW.seq_k fun K hK => ?_
  refine AW.region (by decide) ?_
  simp only [push_cast, simprocAttr, h0]
  refine Thn_n ?_
  refine hK _ _ ?_
  clear hK K
  refine AW.seq_k fun K hK => ?_
  refine AW.seq_k fun K hK => ?_
  refine AW.region (by decide) ?_
  simp only [push_cast, simprocAttr, h0]
  refine CThen.by (pcheck_c rp N ln q _ hp hl hN z hz) ?_
  simp only [push_cast, simprocAttr, h0]
  refine Thn_n ?_
  refine hK _ _ ?_
  clear hK K
  refine AW.seq_k fun K hK => ?_
  refine AW.region (by decide) ?_
  simp only [push_cast, simprocAttr, h0]
  refine Thn_n ?_
  refine hK _ _ ?_
  clear hK K
  refine AW.cond_t rfl ?_
  refine AW.seq_k fun K hK => ?_
  refine AW.region (by decide) ?_
  simp only [push_cast, simprocAttr, h0]
  refine Thn_n ?_
  refine hK _ _ ?_
  clear hK K
  refine AW.ret ?_
  refine Thn_r ?_
  refine hQ _ _ _ ?_
  first | refine RetP.drop0 (Or.inr rfl) ?_ ?_ hwf | refine RetP.drop (Or.inr rfl) ?_ ?_ hwf
  · simp only [resA, resOne, resTv, AV.tv, push_cast, simprocAttr, h0]
  · rfl
theorem porder_ok {vp : Nat} (rp N : Nat) (ln : Nat → Nat) (q : Nat → Nat → Int) (m : AMem) (hp : RowsAt m rp vp N ln q) (hl : ∀ i, i < N → ln i ≤ 1048576) (hN : N ≤ 1048576) (hz : CheckZ N ln q 0) : Ctr Try.prog 12 [.one (.sl rp vp 0 N)] m (.tup [(false, [.sl m.length 0 0 (itO N ln q N).length]), (false, [.int .i64 0])]) (m ++ [⟨.grow, 3, 0, 1, il (itO N ln q N).length (oF (itO N ln q N))⟩]) := by
  refine Ctr.enter Try.func12 rfl (by decide) (rs := [.tmp 2, .tmp 3]) (nt := 12) rfl rfl fun hwf Q hQ => ?_
  have hlt0 : ∀ k, ¬ m.length + k < m.length := fun k => by omega
  refine AW.seq_k fun K hK => ?_
  refine AW.region (by decide) ?_
  simp only [push_cast, simprocAttr]
  refine Thn_n ?_
  refine hK _ _ ?_
  clear hK K
  refine AW.seq_k fun K hK => ?_
  refine AW.seq_k fun K hK => ?_
  refine AW.region (by decide) ?_
  simp only [push_cast, simprocAttr]
  refine CThen.by (pcheck_c rp N ln q _ hp hl hN 0 hz) ?_
  simp only [push_cast, simprocAttr]
  refine Thn_n ?_
  refine hK _ _ ?_
  clear hK K
  refine AW.seq_k fun K hK => ?_
  refine AW.region (by decide) ?_
  simp only [push_cast, simprocAttr]
  refine Thn_n ?_
  refine hK _ _ ?_
  clear hK K
  refine AW.cond_f rfl ?_
  refine AW.skip ?_
  refine Thn_n ?_
  refine hK _ _ ?_
  clear hK K
  refine AW.seq_k fun K hK => ?_
  refine AW.region (by decide) ?_
  simp only [push_cast, simprocAttr]
  refine CThen.by (order_c rp N ln q _ hp hl hN) ?_
  simp only [push_cast, simprocAttr]
  refine Thn_n ?_
  refine hK _ _ ?_
  clear hK K
  refine AW.ret ?_
  refine hQ _ _ _ ?_
  refine RetP.pick [(m.length, 0)] (Or.inr rfl) ?_ ?_ ?_ hwf ?_
  · simp only [resA, resOne, resTv, AV.tv, push_cast, simprocAttr]
    simp [renV, renT, renL, renC, renIdx, hlt0]
  · simp only [picks, push_cast, simprocAttr]
  · simp [distinctFrom]
  · exact MWf_one (il_below _ _ _)
  
end Go.Proofs.Ytmjbbnfmhgcfaaa
