/- Walks and facts of this seat's program over abstract states, printed by a program of mine; no conditions but those that each theorem names. -/
import Derived.Test.YtelkmimmmhkbhaaSealE
set_option linter.unusedSimpArgs false
set_option linter.unusedVariables false
set_option maxRecDepth 100000
set_option maxHeartbeats 4000000
namespace Go.Proofs.Ytelkmimmmhkbhaa
open Go Go.Eng

theorem rhex_c (rb v off : Nat) (bs X : List Int) (m : AMem) (hb : ∃ k ty ez, m[rb]? = some ⟨k, ty, v, ez, u8l X⟩) (hf : off + bs.length ≤ X.length) (hx : (X.drop off).take bs.length = bs) (hu : U8ok bs) (hl : bs.length ≤ 100000) : Ctr Try.prog 17 [.one (.sl rb v off bs.length)] m (.one (.str (hexS bs))) m := by
  refine Ctr.enter Try.func17 rfl (by decide) (rs := [.tmp 2]) (nt := 45) rfl rfl fun hwf Q hQ => ?_
  obtain ⟨k0, ty0, ez, hb⟩ := hb
  have lb := get_lt hb
  iterate 2
    refine AW.seq_k fun K hK => ?_
    refine AW.region (by decide) ?_
    simp only [push_cast, simprocAttr, hb, lk_old hb, u8l_len]
    refine Thn_n ?_
    refine hK _ _ ?_
    clear hK K
  refine AW.seq_k fun K hK => ?_
  refine AW.seq_k fun K hK => ?_
  refine AW.nilTm 5 1 3 (by simp only [push_cast, simprocAttr]) ?_
  try simp only [push_cast, simprocAttr]
  refine AW.region (by decide) ?_
  simp only [push_cast, simprocAttr, hb, lk_old hb, u8l_len]
  refine Thn_n ?_
  refine hK _ _ ?_
  clear hK K
  refine AW.block ?_
  refine AW.loopK [0] (fun i => i ≤ bs.length) (fun i => [(3, .one (.sl m.length (2 * i) 0 (2 * i))), (4, .one (.int .i64 (i : Int)))]) (fun i => [(m.length, ⟨.grow, 5, 2 * i, 1, u8l (hexP bs i)⟩)]) (fun i => bs.length - i) 0 (by omega) ?_ ?_ fun i hi5 => ?_
  · first | rfl | (simp only [Keeps, Tm.get_cons, Nat.reduceEqDiff, ↓reduceIte, if_true, if_false, ite_true, ite_false, true_and, and_true, and_self, reduceCtorEq, Int.natCast_zero, Nat.mul_zero, hexP, u8l, List.map_nil] <;> rfl)
  · first | rfl | (simp only [setAll, push_cast, simprocAttr, hb, lk_old hb, u8l_len, Int.natCast_zero, Nat.mul_zero, hexP, u8l, List.map_nil] <;> rfl)
  have hi : i ≤ bs.length := hi5
  try simp only [keepL, setAll, push_cast, simprocAttr, hb, lk_old hb, u8l_len]
  refine AW.seq_k fun K hK => ?_
  refine AW.seq_k fun K hK => ?_
  refine AW.region (by decide) ?_
  simp only [push_cast, simprocAttr, hb, lk_old hb, u8l_len]
  refine Thn_n ?_
  refine hK _ _ ?_
  clear hK K
  refine AW.cond rfl (fun h10 => ?_) (fun h10 => ?_)
  · have hlt : i < bs.length := by have := of_decide_eq_true h10; omega
    have c1 : (0 : Int) ≤ (i : Int) := by omega
    have c2 : (i : Int) < (bs.length : Int) := by omega
    have hg : (u8l X)[off + i]? = some (.int .u8 (byB bs i)) := by
      rw [u8l_get (by omega)]
      congr 2
      have : byB bs i = byB ((X.drop off).take bs.length) i := by rw [hx]
      rw [this]; unfold byB
      rw [List.getD_eq_getElem?_getD, List.getD_eq_getElem?_getD, List.getElem?_take, if_pos hlt, List.getElem?_drop]
    have hr := hu.by i
    have hfd : (byB bs i).fdiv 16 = byB bs i / 16 := Int.fdiv_eq_ediv_of_nonneg _ (by omega)
    have n1 : IntKind.u8.wrap ((byB bs i).tdiv 16) = (byB bs i).fdiv 16 := by
      rw [hfd, w8]
      have : (byB bs i).tdiv 16 = byB bs i / 16 := by rw [Int.tdiv_eq_ediv_of_nonneg (by omega)]
      rw [this]; omega
    have n2 : (byB bs i).tmod 16 = byB bs i % 16 := by rw [Int.tmod_eq_emod_of_nonneg (by omega)]
    have r1 : 0 ≤ (byB bs i).fdiv 16 := by rw [hfd]; omega
    have r2 : (byB bs i).fdiv 16 ≤ 15 := by rw [hfd]; omega
    have r3 : 0 ≤ byB bs i % 16 := by omega
    have r4 : byB bs i % 16 ≤ 15 := by omega
    have hpl := hexP_len bs i
    have q1 : 2 * i + 1 ≤ 140737488355328 := by omega
    have q2 : 2 * i + 2 ≤ 140737488355328 := by omega
    have hsn : u8l (hexP bs i) ++ [.int .u8 (hexD ((byB bs i).fdiv 16)), .int .u8 (hexD (byB bs i % 16))] = u8l (hexP bs (i + 1)) := by simp [u8l, hexP]
    have e1 : 2 * (i + 1) = 2 * i + 2 := by omega
    have hf1 : ∀ x : Int, IntKind.u8.wrap (IntKind.u8.wrap (97 + x) - 10) = IntKind.u8.wrap (IntKind.u8.wrap (97 + x) - 10) := fun _ => rfl
    refine AW.skip ?_
    refine Thn_n ?_
    refine hK _ _ ?_
    clear hK K
    refine AW.seq_k fun K hK => ?_
    refine AW.block ?_
    refine AW.seq_k fun K hK => ?_
    refine AW.draw [.val, .val, .val, .rd 0, .val, .val, .val, .val, .rd 0, .val, .ext, .val, .val] fol (by decide) (by kernel_rfl) ?_
    simp only [push_cast, simprocAttr, hb, lk_old hb, u8l_len, c1, c2, hg, n1, n2, hpl, q1, q2, hsn]
    refine DExt.by (by first | rfl | (simp only [List.append_assoc, List.cons_append, List.nil_append]; rfl)) ?_
    simp only [push_cast, simprocAttr, hb, lk_old hb, u8l_len, c1, c2, hg, n1, n2, hpl, q1, q2, hsn]
    refine Thn_n ?_
    refine hK _ _ ?_
    clear hK K
    refine AW.block ?_
    refine AW.rounds 3 ?_
    refine ARounds.succ fun K hK => ?_
    refine AW.seq_k fun K hK => ?_
    refine AW.region (by decide) ?_
    simp only [push_cast, simprocAttr, hb, lk_old hb, u8l_len, c1, c2, hg, n1, n2, hpl, q1, q2, hsn]
    refine Thn_n ?_
    refine hK _ _ ?_
    clear hK K
    refine AW.seq_k fun K hK => ?_
    refine AW.cond_t rfl ?_
    refine AW.skip ?_
    refine Thn_n ?_
    refine hK _ _ ?_
    clear hK K
    refine AW.seq_k fun K hK => ?_
    refine AW.block ?_
    refine AW.seq_k fun K hK => ?_
    refine AW.region (by decide) ?_
    simp only [push_cast, simprocAttr, hb, lk_old hb, u8l_len, c1, c2, hg, n1, n2, hpl, q1, q2, hsn]
    refine Thn_n ?_
    refine hK _ _ ?_
    clear hK K
    refine AW.seq_k fun K hK => ?_
    rcases Classical.em (((byB bs i).fdiv 16) < 10) with hd | hd
    · have hh := hexT r1 hd
      refine AW.region (by decide) ?_
      simp only [push_cast, simprocAttr, hb, lk_old hb, u8l_len, c1, c2, hg, n1, n2, hpl, q1, q2, hsn, hd, hh]
      refine Thn_n ?_
      refine hK _ _ ?_
      clear hK K
      refine AW.cond_t rfl ?_
      refine AW.region (by decide) ?_
      simp only [push_cast, simprocAttr, hb, lk_old hb, u8l_len, c1, c2, hg, n1, n2, hpl, q1, q2, hsn, hd, hh]
      refine InB_n ?_
      refine Thn_n ?_
      refine hK _ _ ?_
      clear hK K
      refine AW.region (by decide) ?_
      simp only [push_cast, simprocAttr, hb, lk_old hb, u8l_len, c1, c2, hg, n1, n2, hpl, q1, q2, hsn, hd, hh]
      refine Thn_n ?_
      refine hK _ _ ?_
      clear hK K
      refine ARounds.succ fun K hK => ?_
      refine AW.seq_k fun K hK => ?_
      refine AW.region (by decide) ?_
      simp only [push_cast, simprocAttr, hb, lk_old hb, u8l_len, c1, c2, hg, n1, n2, hpl, q1, q2, hsn]
      refine Thn_n ?_
      refine hK _ _ ?_
      clear hK K
      refine AW.seq_k fun K hK => ?_
      refine AW.cond_t rfl ?_
      refine AW.skip ?_
      refine Thn_n ?_
      refine hK _ _ ?_
      clear hK K
      refine AW.seq_k fun K hK => ?_
      refine AW.block ?_
      refine AW.seq_k fun K hK => ?_
      refine AW.region (by decide) ?_
      simp only [push_cast, simprocAttr, hb, lk_old hb, u8l_len, c1, c2, hg, n1, n2, hpl, q1, q2, hsn]
      refine Thn_n ?_
      refine hK _ _ ?_
      clear hK K
      refine AW.seq_k fun K hK => ?_
      rcases Classical.em ((byB bs i % 16) < 10) with hd | hd
      · have hh := hexT r3 hd
        refine AW.region (by decide) ?_
        simp only [push_cast, simprocAttr, hb, lk_old hb, u8l_len, c1, c2, hg, n1, n2, hpl, q1, q2, hsn, hd, hh]
        refine Thn_n ?_
        refine hK _ _ ?_
        clear hK K
        refine AW.cond_t rfl ?_
        refine AW.region (by decide) ?_
        simp only [push_cast, simprocAttr, hb, lk_old hb, u8l_len, c1, c2, hg, n1, n2, hpl, q1, q2, hsn, hd, hh]
        refine InB_n ?_
        refine Thn_n ?_
        refine hK _ _ ?_
        clear hK K
        refine AW.region (by decide) ?_
        simp only [push_cast, simprocAttr, hb, lk_old hb, u8l_len, c1, c2, hg, n1, n2, hpl, q1, q2, hsn, hd, hh]
        refine Thn_n ?_
        refine hK _ _ ?_
        clear hK K
        refine ARounds.succ fun K hK => ?_
        refine AW.seq_k fun K hK => ?_
        refine AW.region (by decide) ?_
        simp only [push_cast, simprocAttr, hb, lk_old hb, u8l_len, c1, c2, hg, n1, n2, hpl, q1, q2, hsn]
        refine Thn_n ?_
        refine hK _ _ ?_
        clear hK K
        refine AW.seq_k fun K hK => ?_
        refine AW.cond_f rfl ?_
        refine AW.exit ?_
        refine Thn_e ?_
        clear hK K
        refine Thn_e ?_
        clear hK K
        refine InB_here ?_
        refine InB_n ?_
        refine Thn_n ?_
        refine hK _ _ ?_
        clear hK K
        refine AW.region (by decide) ?_
        simp only [push_cast, simprocAttr, hb, lk_old hb, u8l_len, c1, c2, hg, n1, n2, hpl, q1, q2, hsn]
        refine Thn_n ?_
        have hwi : IntKind.i64.wrap ((i:Int)+1) = (i:Int)+1 := wi (by omega)
        refine ⟨i + 1, hlt, by omega, ?_⟩
        try simp only [keepL, setAll, push_cast, simprocAttr, hb, lk_old hb, u8l_len, c1, c2, hg, n1, n2, hpl, q1, q2, hsn, hwi, e1, hsn]
        exact Weak.to (extra := [_, _, _]) (by simp only [Keeps, Tm.get_cons, Nat.reduceEqDiff, ↓reduceIte, if_true, if_false, ite_true, ite_false, true_and, and_true, and_self, reduceCtorEq, hwi, e1, hsn]) (by first | rfl | (simp only [List.append_assoc, List.cons_append, List.nil_append]; rfl)) (by first | rfl | (simp [AV.below, CV.below, u8l_below]; done) | (simp [AV.below, CV.below, u8l_below]; omega)) (by
          first | exact hwf | refine MWf.app (hwf.grow (by simp)) ?_
          repeat (first | exact MWf_nil | (refine MWf_cons ?_ ?_; · first | rfl | (simp [CV.below, u8l_below]; done) | (simp [CV.below, u8l_below]; omega))))
      · have hh := hexF hd r4
        refine AW.region (by decide) ?_
        simp only [push_cast, simprocAttr, hb, lk_old hb, u8l_len, c1, c2, hg, n1, n2, hpl, q1, q2, hsn, hd, hh]
        refine Thn_n ?_
        refine hK _ _ ?_
        clear hK K
        refine AW.cond_f rfl ?_
        refine AW.region (by decide) ?_
        simp only [push_cast, simprocAttr, hb, lk_old hb, u8l_len, c1, c2, hg, n1, n2, hpl, q1, q2, hsn, hd, hh]
        refine InB_n ?_
        refine Thn_n ?_
        refine hK _ _ ?_
        clear hK K
        refine AW.region (by decide) ?_
        simp only [push_cast, simprocAttr, hb, lk_old hb, u8l_len, c1, c2, hg, n1, n2, hpl, q1, q2, hsn, hd, hh]
        refine Thn_n ?_
        refine hK _ _ ?_
        clear hK K
        refine ARounds.succ fun K hK => ?_
        refine AW.seq_k fun K hK => ?_
        refine AW.region (by decide) ?_
        simp only [push_cast, simprocAttr, hb, lk_old hb, u8l_len, c1, c2, hg, n1, n2, hpl, q1, q2, hsn]
        refine Thn_n ?_
        refine hK _ _ ?_
        clear hK K
        refine AW.seq_k fun K hK => ?_
        refine AW.cond_f rfl ?_
        refine AW.exit ?_
        refine Thn_e ?_
        clear hK K
        refine Thn_e ?_
        clear hK K
        refine InB_here ?_
        refine InB_n ?_
        refine Thn_n ?_
        refine hK _ _ ?_
        clear hK K
        refine AW.region (by decide) ?_
        simp only [push_cast, simprocAttr, hb, lk_old hb, u8l_len, c1, c2, hg, n1, n2, hpl, q1, q2, hsn]
        refine Thn_n ?_
        have hwi : IntKind.i64.wrap ((i:Int)+1) = (i:Int)+1 := wi (by omega)
        refine ⟨i + 1, hlt, by omega, ?_⟩
        try simp only [keepL, setAll, push_cast, simprocAttr, hb, lk_old hb, u8l_len, c1, c2, hg, n1, n2, hpl, q1, q2, hsn, hwi, e1, hsn]
        exact Weak.to (extra := [_, _, _]) (by simp only [Keeps, Tm.get_cons, Nat.reduceEqDiff, ↓reduceIte, if_true, if_false, ite_true, ite_false, true_and, and_true, and_self, reduceCtorEq, hwi, e1, hsn]) (by first | rfl | (simp only [List.append_assoc, List.cons_append, List.nil_append]; rfl)) (by first | rfl | (simp [AV.below, CV.below, u8l_below]; done) | (simp [AV.below, CV.below, u8l_below]; omega)) (by
          first | exact hwf | refine MWf.app (hwf.grow (by simp)) ?_
          repeat (first | exact MWf_nil | (refine MWf_cons ?_ ?_; · first | rfl | (simp [CV.below, u8l_below]; done) | (simp [CV.below, u8l_below]; omega))))
    · have hh := hexF hd r2
      refine AW.region (by decide) ?_
      simp only [push_cast, simprocAttr, hb, lk_old hb, u8l_len, c1, c2, hg, n1, n2, hpl, q1, q2, hsn, hd, hh]
      refine Thn_n ?_
      refine hK _ _ ?_
      clear hK K
      refine AW.cond_f rfl ?_
      refine AW.region (by decide) ?_
      simp only [push_cast, simprocAttr, hb, lk_old hb, u8l_len, c1, c2, hg, n1, n2, hpl, q1, q2, hsn, hd, hh]
      refine InB_n ?_
      refine Thn_n ?_
      refine hK _ _ ?_
      clear hK K
      refine AW.region (by decide) ?_
      simp only [push_cast, simprocAttr, hb, lk_old hb, u8l_len, c1, c2, hg, n1, n2, hpl, q1, q2, hsn, hd, hh]
      refine Thn_n ?_
      refine hK _ _ ?_
      clear hK K
      refine ARounds.succ fun K hK => ?_
      refine AW.seq_k fun K hK => ?_
      refine AW.region (by decide) ?_
      simp only [push_cast, simprocAttr, hb, lk_old hb, u8l_len, c1, c2, hg, n1, n2, hpl, q1, q2, hsn]
      refine Thn_n ?_
      refine hK _ _ ?_
      clear hK K
      refine AW.seq_k fun K hK => ?_
      refine AW.cond_t rfl ?_
      refine AW.skip ?_
      refine Thn_n ?_
      refine hK _ _ ?_
      clear hK K
      refine AW.seq_k fun K hK => ?_
      refine AW.block ?_
      refine AW.seq_k fun K hK => ?_
      refine AW.region (by decide) ?_
      simp only [push_cast, simprocAttr, hb, lk_old hb, u8l_len, c1, c2, hg, n1, n2, hpl, q1, q2, hsn]
      refine Thn_n ?_
      refine hK _ _ ?_
      clear hK K
      refine AW.seq_k fun K hK => ?_
      rcases Classical.em ((byB bs i % 16) < 10) with hd | hd
      · have hh := hexT r3 hd
        refine AW.region (by decide) ?_
        simp only [push_cast, simprocAttr, hb, lk_old hb, u8l_len, c1, c2, hg, n1, n2, hpl, q1, q2, hsn, hd, hh]
        refine Thn_n ?_
        refine hK _ _ ?_
        clear hK K
        refine AW.cond_t rfl ?_
        refine AW.region (by decide) ?_
        simp only [push_cast, simprocAttr, hb, lk_old hb, u8l_len, c1, c2, hg, n1, n2, hpl, q1, q2, hsn, hd, hh]
        refine InB_n ?_
        refine Thn_n ?_
        refine hK _ _ ?_
        clear hK K
        refine AW.region (by decide) ?_
        simp only [push_cast, simprocAttr, hb, lk_old hb, u8l_len, c1, c2, hg, n1, n2, hpl, q1, q2, hsn, hd, hh]
        refine Thn_n ?_
        refine hK _ _ ?_
        clear hK K
        refine ARounds.succ fun K hK => ?_
        refine AW.seq_k fun K hK => ?_
        refine AW.region (by decide) ?_
        simp only [push_cast, simprocAttr, hb, lk_old hb, u8l_len, c1, c2, hg, n1, n2, hpl, q1, q2, hsn]
        refine Thn_n ?_
        refine hK _ _ ?_
        clear hK K
        refine AW.seq_k fun K hK => ?_
        refine AW.cond_f rfl ?_
        refine AW.exit ?_
        refine Thn_e ?_
        clear hK K
        refine Thn_e ?_
        clear hK K
        refine InB_here ?_
        refine InB_n ?_
        refine Thn_n ?_
        refine hK _ _ ?_
        clear hK K
        refine AW.region (by decide) ?_
        simp only [push_cast, simprocAttr, hb, lk_old hb, u8l_len, c1, c2, hg, n1, n2, hpl, q1, q2, hsn]
        refine Thn_n ?_
        have hwi : IntKind.i64.wrap ((i:Int)+1) = (i:Int)+1 := wi (by omega)
        refine ⟨i + 1, hlt, by omega, ?_⟩
        try simp only [keepL, setAll, push_cast, simprocAttr, hb, lk_old hb, u8l_len, c1, c2, hg, n1, n2, hpl, q1, q2, hsn, hwi, e1, hsn]
        exact Weak.to (extra := [_, _, _]) (by simp only [Keeps, Tm.get_cons, Nat.reduceEqDiff, ↓reduceIte, if_true, if_false, ite_true, ite_false, true_and, and_true, and_self, reduceCtorEq, hwi, e1, hsn]) (by first | rfl | (simp only [List.append_assoc, List.cons_append, List.nil_append]; rfl)) (by first | rfl | (simp [AV.below, CV.below, u8l_below]; done) | (simp [AV.below, CV.below, u8l_below]; omega)) (by
          first | exact hwf | refine MWf.app (hwf.grow (by simp)) ?_
          repeat (first | exact MWf_nil | (refine MWf_cons ?_ ?_; · first | rfl | (simp [CV.below, u8l_below]; done) | (simp [CV.below, u8l_below]; omega))))
      · have hh := hexF hd r4
        refine AW.region (by decide) ?_
        simp only [push_cast, simprocAttr, hb, lk_old hb, u8l_len, c1, c2, hg, n1, n2, hpl, q1, q2, hsn, hd, hh]
        refine Thn_n ?_
        refine hK _ _ ?_
        clear hK K
        refine AW.cond_f rfl ?_
        refine AW.region (by decide) ?_
        simp only [push_cast, simprocAttr, hb, lk_old hb, u8l_len, c1, c2, hg, n1, n2, hpl, q1, q2, hsn, hd, hh]
        refine InB_n ?_
        refine Thn_n ?_
        refine hK _ _ ?_
        clear hK K
        refine AW.region (by decide) ?_
        simp only [push_cast, simprocAttr, hb, lk_old hb, u8l_len, c1, c2, hg, n1, n2, hpl, q1, q2, hsn, hd, hh]
        refine Thn_n ?_
        refine hK _ _ ?_
        clear hK K
        refine ARounds.succ fun K hK => ?_
        refine AW.seq_k fun K hK => ?_
        refine AW.region (by decide) ?_
        simp only [push_cast, simprocAttr, hb, lk_old hb, u8l_len, c1, c2, hg, n1, n2, hpl, q1, q2, hsn]
        refine Thn_n ?_
        refine hK _ _ ?_
        clear hK K
        refine AW.seq_k fun K hK => ?_
        refine AW.cond_f rfl ?_
        refine AW.exit ?_
        refine Thn_e ?_
        clear hK K
        refine Thn_e ?_
        clear hK K
        refine InB_here ?_
        refine InB_n ?_
        refine Thn_n ?_
        refine hK _ _ ?_
        clear hK K
        refine AW.region (by decide) ?_
        simp only [push_cast, simprocAttr, hb, lk_old hb, u8l_len, c1, c2, hg, n1, n2, hpl, q1, q2, hsn]
        refine Thn_n ?_
        have hwi : IntKind.i64.wrap ((i:Int)+1) = (i:Int)+1 := wi (by omega)
        refine ⟨i + 1, hlt, by omega, ?_⟩
        try simp only [keepL, setAll, push_cast, simprocAttr, hb, lk_old hb, u8l_len, c1, c2, hg, n1, n2, hpl, q1, q2, hsn, hwi, e1, hsn]
        exact Weak.to (extra := [_, _, _]) (by simp only [Keeps, Tm.get_cons, Nat.reduceEqDiff, ↓reduceIte, if_true, if_false, ite_true, ite_false, true_and, and_true, and_self, reduceCtorEq, hwi, e1, hsn]) (by first | rfl | (simp only [List.append_assoc, List.cons_append, List.nil_append]; rfl)) (by first | rfl | (simp [AV.below, CV.below, u8l_below]; done) | (simp [AV.below, CV.below, u8l_below]; omega)) (by
          first | exact hwf | refine MWf.app (hwf.grow (by simp)) ?_
          repeat (first | exact MWf_nil | (refine MWf_cons ?_ ?_; · first | rfl | (simp [CV.below, u8l_below]; done) | (simp [CV.below, u8l_below]; omega))))
  · have hie : i = bs.length := by have := of_decide_eq_false h10; omega
    subst hie
    have hb1 := bytesA_u8 (hexP bs bs.length)
    have hpl := hexP_len bs bs.length
    have hh1 : (u8l (hexP bs bs.length)).take (2 * bs.length) = u8l (hexP bs bs.length) := List.take_of_length_le (by rw [u8l_len, hpl]; exact Nat.le_refl _)
    refine AW.exit ?_
    refine Thn_e ?_
    clear hK K
    refine Thn_e ?_
    refine InB_here ?_
    refine Thn_n ?_
    refine hK _ _ ?_
    clear hK K
    refine AW.seq_k fun K hK => ?_
    refine AW.region (by decide) ?_
    simp only [push_cast, simprocAttr, hb, lk_old hb, u8l_len, hb1, hpl, hh1]
    refine Thn_n ?_
    refine hK _ _ ?_
    clear hK K
    refine AW.ret ?_
    refine hQ _ _ _ ?_
    first | refine RetP.drop0 (Or.inr rfl) ?_ ?_ hwf | refine RetP.drop (Or.inr rfl) ?_ ?_ hwf
    · simp only [resA, resOne, resTv, AV.tv, push_cast, simprocAttr, hb, lk_old hb, u8l_len, hb1, hpl, hh1, hexS]
    · rfl
theorem dv_hex : ∀ k : Fin 16, dvI (hexD ((k.val : Nat) : Int)) = ((k.val : Nat) : Int) := by decide +kernel
theorem dv_hexD {d : Int} (h : 0 ≤ d ∧ d ≤ 15) : dvI (hexD d) = d := by
  have := dv_hex ⟨d.toNat, by omega⟩
  simpa only [Int.toNat_of_nonneg h.1] using this
theorem strB_size (ns : List Int) : (strB ns).size = ns.length := by rw [strB_eq]; simp [ByteArray.size]
theorem strB_cI {ns : List Int} (h : U8ok ns) {i : Nat} (hi : i < ns.length) : cI (strB ns) i = byB ns i := by
  have h1 := h.by i
  unfold cI cB
  rw [strB_eq]
  simp only [List.getD_eq_getElem?_getD, List.getElem?_map, List.getElem?_eq_getElem hi, Option.map_some, Option.getD_some]
  have : byB ns i = ns[i] := by simp [byB, List.getD_eq_getElem?_getD, List.getElem?_eq_getElem hi]
  rw [← this, UInt8.toNat_ofNat']; omega
theorem hexP_get (bs : List Int) : ∀ (n k : Nat), k < n → byB (hexP bs n) (2 * k) = hexD ((byB bs k).fdiv 16) ∧ byB (hexP bs n) (2 * k + 1) = hexD (byB bs k % 16)
  | 0, _, h => by omega
  | n + 1, k, h => by
    have hl := hexP_len bs n
    rcases Nat.lt_or_ge k n with hk | hk
    · obtain ⟨h1, h2⟩ := hexP_get bs n k hk
      simp only [hexP]
      rw [byB_app (by omega), byB_app (by omega)]
      exact ⟨h1, h2⟩
    · obtain rfl : k = n := by omega
      simp only [hexP, byB, List.getD_eq_getElem?_getD]
      rw [List.getElem?_append_right (by omega), List.getElem?_append_right (by omega), hl, Nat.sub_self, show 2 * k + 1 - 2 * k = 1 by omega]
      exact ⟨rfl, rfl⟩
theorem hexS_dv {bs : List Int} (hu : U8ok bs) {k : Nat} (hk : k < bs.length) : dvI (cI (hexS bs) (2 * k)) = byB bs k / 16 ∧ dvI (cI (hexS bs) (2 * k + 1)) = byB bs k % 16 := by
  have hr := hu.by k
  have hl := hexP_len bs bs.length
  obtain ⟨h1, h2⟩ := hexP_get bs bs.length k hk
  have hfd : (byB bs k).fdiv 16 = byB bs k / 16 := Int.fdiv_eq_ediv_of_nonneg _ (by omega)
  unfold hexS
  rw [strB_cI (hexP_ok _ _) (by omega), strB_cI (hexP_ok _ _) (by omega), h1, h2, hfd, dv_hexD ⟨by omega, by omega⟩, dv_hexD ⟨by omega, by omega⟩]
  exact ⟨rfl, rfl⟩
theorem hexS_size (bs : List Int) : (hexS bs).size = 2 * bs.length := by unfold hexS; rw [strB_size, hexP_len]
theorem hexS_gd {bs : List Int} (hu : U8ok bs) : gd (hexS bs) (2 * bs.length) := fun k hk => by
  obtain ⟨h1, h2⟩ := hexS_dv hu (k := k / 2) (by omega)
  have hr := hu.by (k / 2)
  rcases Nat.mod_two_eq_zero_or_one k with h | h
  · rw [show 2 * (k / 2) = k by omega] at h1; omega
  · rw [show 2 * (k / 2) + 1 = k by omega] at h2; omega
theorem unP_hexS {bs : List Int} (hu : U8ok bs) : ∀ n, n ≤ bs.length → unP (hexS bs) n = bs.take n
  | 0, _ => rfl
  | n + 1, h => by
    obtain ⟨h1, h2⟩ := hexS_dv hu (k := n) (by omega)
    simp only [unP, unP_hexS hu n (by omega), h1, h2]
    rw [List.take_succ_eq_append_getElem (by omega)]
    congr 2
    have : byB bs n = bs[n] := by simp [byB, List.getD_eq_getElem?_getD, List.getElem?_eq_getElem (show n < bs.length by omega)]
    rw [this]; have := hu.by n; omega
theorem unP_ok {s : ByteArray} {N : Nat} (hg : gd s (2 * N)) : ∀ j, j ≤ N → U8ok (unP s j)
  | 0, _ => U8ok.nil
  | j + 1, h => (unP_ok hg j (by omega)).app fun x hx => by
    simp only [List.mem_cons, List.not_mem_nil, or_false] at hx
    have h0 := hg (2 * j) (by omega)
    have h1 := hg (2 * j + 1) (by omega)
    have l0 := dvI_le (cI s (2 * j))
    have l1 := dvI_le (cI s (2 * j + 1))
    subst hx; omega
/-- All are digits, or there is a first one that isn't. -/
theorem gd_or (s : ByteArray) : ∀ n, gd s n ∨ ∃ k, k < n ∧ gd s k ∧ dvI (cI s k) < 0
  | 0 => .inl fun k h => by omega
  | n + 1 => by
    rcases gd_or s n with h | ⟨k, h1, h2, h3⟩
    · rcases Int.lt_or_le (dvI (cI s n)) 0 with h2 | h2
      · exact .inr ⟨n, by omega, h, h2⟩
      · refine .inl fun k hk => ?_
        rcases Nat.lt_or_ge k n with h3 | h3
        · exact h k h3
        · obtain rfl : k = n := by omega
          exact h2
    · exact .inr ⟨k, by omega, h2, h3⟩
end Go.Proofs.Ytelkmimmmhkbhaa
