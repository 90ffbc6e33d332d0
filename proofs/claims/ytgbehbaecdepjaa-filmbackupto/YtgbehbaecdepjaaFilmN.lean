/- Walks and facts of this seat's program over abstract states, printed by a program of mine; no conditions but those that each theorem names. -/
import Derived.Test.YtgbehbaecdepjaaFilmM
set_option linter.unusedSimpArgs false
set_option linter.unusedVariables false
set_option maxRecDepth 100000
set_option maxHeartbeats 4000000
namespace Go.Proofs.Ytgbehbaecdepjaa
open Go Go.Eng

theorem rtake1E (r rb v : Nat) (bs : List Int) (s : Nat × Int) (m : AMem) (h : RQ m r rb v bs s) (h2 : (rdS bs.length 2 (rdS bs.length 2 s)).2 = 0) (hz : szS bs s = true) (j : Nat) (hj : j = npS bs s) (hall : ∀ k, k < j → (hsS bs s k).2 = 0) : Ctr Try.prog 44 [.one (.ptr r 0 0)] m (.agg [.int .i64 (rdV bs 2 s), .int .i64 (rdV bs 2 (rdS bs.length 2 s)), .sl (m.length + 2) j 0 j]) (qM m r rb v bs (hsS bs s j) ++ [⟨.fix, 24, 0, 0, [.int .i64 (rdV bs 2 s), .int .i64 (rdV bs 2 (rdS bs.length 2 s)), .sl (m.length + 2) j 0 j]⟩, ⟨.fix, 24, 0, 0, [.int .i64 (rdV bs 2 s), .int .i64 (rdV bs 2 (rdS bs.length 2 s)), .sl (m.length + 2) j 0 j]⟩, ⟨.grow, 75, j, 3, dl j (GH bs s)⟩]) := by
  refine Ctr.enter Try.func44 rfl (by decide) (rs := [.cell 2 24]) (nt := 52) rfl rfl fun hwf Q hQ => ?_
  obtain ⟨kb, eb, hb⟩ := h.hb
  have lr := h.lt
  have lb := get_lt hb
  have hwfM := fun t => @qM_wf m.length m r rb v bs t lb hwf
  have apM := fun L t => @qM_app m r rb v bs lr L t
  have two := fun a b => @qM_two m r rb v bs a b
  have apM2 := fun a L t => (@qM_app (qM m r rb v bs a) r rb v bs (by rw [qM_len]; exact lr) L t).trans (by rw [qM_two])
  have hlen := fun t => @qM_len m r rb v bs t
  have g3 : ∀ t b L k, (qM m r rb v bs t ++ b :: L)[m.length + k]? = (b :: L)[k]? := fun t b L k => by rw [← @qM_len m r rb v bs t, lk_app]
  have g30 : ∀ t b L, (qM m r rb v bs t ++ b :: L)[m.length]? = some b := fun t b L => by rw [← @qM_len m r rb v bs t, lk_app0]; rfl
  have g4 : ∀ t b L k c, (qM m r rb v bs t ++ b :: L).set (m.length + k) c = qM m r rb v bs t ++ (b :: L).set k c := fun t b L k c => by rw [← @qM_len m r rb v bs t, set_app]
  have g40 : ∀ t b L c, (qM m r rb v bs t ++ b :: L).set m.length c = qM m r rb v bs t ++ c :: L := fun t b L c => by rw [← @qM_len m r rb v bs t, set_app0]; rfl
  have gq : ∀ t, (qM m r rb v bs t)[r]? = some ⟨.fix, 94, 0, 0, [.sl rb v 0 bs.length, .int .i64 (t.1 : Int), .int .i64 t.2]⟩ := fun t => get_self h.lt
  have gqx : ∀ t L, (qM m r rb v bs t ++ L)[r]? = some ⟨.fix, 94, 0, 0, [.sl rb v 0 bs.length, .int .i64 (t.1 : Int), .int .i64 t.2]⟩ := fun t L => lk_old (gq t) L
  have hrq := h.hr
  have sr : ∀ t u L, (qM m r rb v bs t ++ L).set r ⟨.fix, 94, 0, 0, [.sl rb v 0 bs.length, .int .i64 (u.1 : Int), .int .i64 u.2]⟩ = qM m r rb v bs u ++ L := fun t u L => by rw [List.set_append_left _ _ (by rw [qM_len]; exact lr)]; exact congrArg (· ++ L) (qM_two t u)
  have sr10 : ∀ t L, (qM m r rb v bs t ++ L).set r ⟨.fix, 94, 0, 0, [.sl rb v 0 bs.length, .int .i64 (t.1 : Int), .int .i64 10]⟩ = qM m r rb v bs (t.1, 10) ++ L := fun t L => sr t (t.1, 10) L
  have hp1 := rdS_le (k := 2) h.hp
  have hp2 := rdS_le (k := 2) hp1
  have hps := shS_le (bs := bs) h.hp
  have hpi := fun i => hsS_le (bs := bs) h.hp i
  have npw := @np_w bs s h.hu
  have npl := @np_le bs s h.hu
  have hrow := fun (G : Nat → Nat → Int) n => dl_len n G
  have bw := rdV_b h.hu 2 s
  have bh := rdV_b h.hu 2 (rdS bs.length 2 s)
  have ee2 : (256 : Int) ^ 2 = 65536 := by decide
  rw [ee2] at bw bh
  have ww : IntKind.i64.wrap (rdV bs 2 s) = rdV bs 2 s := wi (by omega)
  have wh2 : IntKind.i64.wrap (rdV bs 2 (rdS bs.length 2 s)) = rdV bs 2 (rdS bs.length 2 s) := wi (by omega)
  have hsh : shS bs s = (rdS bs.length 2 (rdS bs.length 2 s)) := by unfold shS; rw [if_neg (fun hc => by rw [hz] at hc; cases hc.2)]
  have hb2 : ((rdS bs.length 2 (rdS bs.length 2 s)).2 == 0) = true := by simpa using h2
  have hzz : szR (rdV bs 2 s) (rdV bs 2 (rdS bs.length 2 s)) = true := hz
  
  refine AW.seq_k fun K hK => ?_
  refine AW.region (by decide) ?_
  simp only [push_cast, simprocAttr, apM, apM2, two, hlen, g3, g30, g4, g40, sr, sr10, gq, gqx, hb2, npw, hrow, ww, wh2, hzz]
  refine Thn_n ?_
  refine hK _ _ ?_
  clear hK K
  refine AW.seq_k fun K hK => ?_
  refine AW.region (by decide) ?_
  simp only [push_cast, simprocAttr, apM, apM2, two, hlen, g3, g30, g4, g40, sr, sr10, gq, gqx, hb2, npw, hrow, ww, wh2, hzz]
  refine CThen.by (rnum_c r rb v bs s _ (h.app _) 2 (by decide)) ?_
  simp only [push_cast, simprocAttr, apM, apM2, two, hlen, g3, g30, g4, g40, sr, sr10, gq, gqx, hb2, npw, hrow, ww, wh2, hzz]
  refine Thn_n ?_
  refine hK _ _ ?_
  clear hK K
  refine AW.seq_k fun K hK => ?_
  refine AW.region (by decide) ?_
  simp only [push_cast, simprocAttr, apM, apM2, two, hlen, g3, g30, g4, g40, sr, sr10, gq, gqx, hb2, npw, hrow, ww, wh2, hzz]
  refine CThen.by (rnum_c r rb v bs _ _ ((h.set hp1).app _) 2 (by decide)) ?_
  simp only [push_cast, simprocAttr, apM, apM2, two, hlen, g3, g30, g4, g40, sr, sr10, gq, gqx, hb2, npw, hrow, ww, wh2, hzz]
  refine Thn_n ?_
  refine hK _ _ ?_
  clear hK K
  refine AW.seq_k fun K hK => ?_
  refine AW.seq_k fun K hK => ?_
  refine AW.region (by decide) ?_
  simp only [push_cast, simprocAttr, apM, apM2, two, hlen, g3, g30, g4, g40, sr, sr10, gq, gqx, hb2, npw, hrow, ww, wh2, hzz]
  refine CThen.by (rightSize_c _ _ _) ?_
  simp only [push_cast, simprocAttr, apM, apM2, two, hlen, g3, g30, g4, g40, sr, sr10, gq, gqx, hb2, npw, hrow, ww, wh2, hzz]
  refine Thn_n ?_
  refine hK _ _ ?_
  clear hK K
  refine AW.cond_f rfl ?_
  refine AW.skip ?_
  refine Thn_n ?_
  refine hK _ _ ?_
  clear hK K
  refine AW.seq_k fun K hK => ?_
  refine AW.region (by decide) ?_
  simp only [push_cast, simprocAttr, apM, apM2, two, hlen, g3, g30, g4, g40, sr, sr10, gq, gqx, hb2, npw, hrow, ww, wh2, hzz]
  refine Thn_n ?_
  refine hK _ _ ?_
  clear hK K
  refine AW.seq_k fun K hK => ?_
  refine AW.seq_k fun K hK => ?_
  refine AW.region (by decide) ?_
  simp only [push_cast, simprocAttr, apM, apM2, two, hlen, g3, g30, g4, g40, sr, sr10, gq, gqx, hb2, npw, hrow, ww, wh2, hzz]
  refine Thn_n ?_
  refine hK _ _ ?_
  clear hK K
  refine AW.block ?_
  refine AW.nilCell 75 3 (m.length + 1) 2 (by simp only [push_cast, simprocAttr, apM, apM2, two, hlen, g3, g30, g4, g40, sr, sr10, gq, gqx, hb2, npw, hrow, ww, wh2, hzz]; first | done | rfl) (by intro e; cases e) rfl ?_
  try simp only [push_cast, simprocAttr, apM, apM2, two, hlen, g3, g30, g4, g40, sr, sr10, gq, gqx, hb2, npw, hrow, ww, wh2, hzz]
  refine AW.loopK [0, 2, 3, 4, 5] (fun i => i ≤ j) (fun i => [(6, .one (.int .i64 (i : Int)))]) (fun i => [(r, ⟨.fix, 94, 0, 0, [.sl rb v 0 bs.length, .int .i64 ((hsS bs s i).1 : Int), .int .i64 (hsS bs s i).2]⟩), (m.length + 1, ⟨.fix, 24, 0, 0, [.int .i64 (rdV bs 2 s), .int .i64 (rdV bs 2 (rdS bs.length 2 s)), .sl (m.length + 2) i 0 i]⟩), (m.length + 2, ⟨.grow, 75, i, 3, dl i (GH bs s)⟩)]) (fun i => j - i) 0 (by omega) ?_ ?_ fun i hi9 => ?_
  · first | rfl | (simp only [Keeps, Tm.get_cons, Nat.reduceEqDiff, ↓reduceIte, if_true, if_false, ite_true, ite_false, true_and, and_true, and_self, reduceCtorEq, dl, hsS, hsh, Int.natCast_zero] <;> rfl)
  · first | rfl | (simp only [setAll, push_cast, simprocAttr, apM, apM2, two, hlen, g3, g30, g4, g40, sr, sr10, gq, gqx, hb2, npw, hrow, ww, wh2, hzz, dl, hsS, hsh, Int.natCast_zero] <;> rfl)
  try simp only [keepL, setAll, push_cast, simprocAttr, apM, apM2, two, hlen, g3, g30, g4, g40, sr, sr10, gq, gqx, hb2, npw, hrow, ww, wh2, hzz]
  refine AW.seq_k fun K hK => ?_
  refine AW.seq_k fun K hK => ?_
  rcases Nat.lt_or_ge i j with hc | hc
  · have hlt : i < npS bs s := by omega
    have c0 : (i : Int) < (npS bs s : Int) := by omega
    have hok : ((hsS bs s i).2 == 0) = true := by simpa using hall i hc
    have gi := dl_len i (GH bs s)
    have q1 : i + 1 ≤ 140737488355328 := by omega
    have q2 : (i + 1) * 24 ≤ 140737488355328 := by omega
    have hsx : v3S bs (hsS bs s i) = hsS bs s (i + 1) := rfl
    have dlx : dl i (GH bs s) ++ [.int .i64 (v3V bs (hsS bs s i) 0), .int .i64 (v3V bs (hsS bs s i) 1), .int .i64 (v3V bs (hsS bs s i) 2)] = dl (i + 1) (GH bs s) := rfl
    refine AW.region (by decide) ?_
    simp only [push_cast, simprocAttr, apM, apM2, two, hlen, g3, g30, g4, g40, sr, sr10, gq, gqx, hb2, npw, hrow, ww, wh2, hzz, c0, hok, gi, q1, q2]
    refine Thn_n ?_
    refine hK _ _ ?_
    clear hK K
    refine AW.cond_t rfl ?_
    refine AW.skip ?_
    refine Thn_n ?_
    refine hK _ _ ?_
    clear hK K
    refine AW.seq_k fun K hK => ?_
    refine AW.block ?_
    refine AW.drawX fol (by kernel_rfl) ?_
    refine DX.split 1 3 (by decide) ?_ ?_
    focus
      refine DX.run [0, 1, 2, 3, 4, 5, 6, 7] [.val, .rd 0, .val, .wr, .ext, .wr, .val, .wr] (by simp only [permL, reOp, List.idxOf_cons, push_cast, simprocAttr, apM, apM2, two, hlen, g3, g30, g4, g40, sr, sr10, gq, gqx, hb2, npw, hrow, ww, wh2, hzz, c0, hok, gi, q1, q2]; first | done | rfl) (by kernel_rfl) ?_
      simp only [push_cast, simprocAttr, apM, apM2, two, hlen, g3, g30, g4, g40, sr, sr10, gq, gqx, hb2, npw, hrow, ww, wh2, hzz, c0, hok, gi, q1, q2]
      refine DCallW.by (rvec3_c r rb v bs _ _ ((h.set (hpi i)).app _)) ?_
      simp only [push_cast, simprocAttr, apM, apM2, two, hlen, g3, g30, g4, g40, sr, sr10, gq, gqx, hb2, npw, hrow, ww, wh2, hzz, c0, hok, gi, q1, q2]
      refine DExt.by (by first | rfl | (simp only [List.append_assoc, List.cons_append, List.nil_append]; rfl)) ?_
      simp only [push_cast, simprocAttr, apM, apM2, two, hlen, g3, g30, g4, g40, sr, sr10, gq, gqx, hb2, npw, hrow, ww, wh2, hzz, c0, hok, gi, q1, q2]
      skip
    rotate_left 1
    focus
      refine DX.run [0, 2, 3, 1, 4, 5, 6, 7] [.val, .val, .wr, .rd 1, .ext, .wr, .val, .wr] (by simp only [permL, reOp, List.idxOf_cons, push_cast, simprocAttr, apM, apM2, two, hlen, g3, g30, g4, g40, sr, sr10, gq, gqx, hb2, npw, hrow, ww, wh2, hzz, c0, hok, gi, q1, q2]; first | done | rfl) (by kernel_rfl) ?_
      simp only [push_cast, simprocAttr, apM, apM2, two, hlen, g3, g30, g4, g40, sr, sr10, gq, gqx, hb2, npw, hrow, ww, wh2, hzz, c0, hok, gi, q1, q2]
      refine DCallW.by (rvec3_c r rb v bs _ _ ((h.set (hpi i)).app _)) ?_
      simp only [push_cast, simprocAttr, apM, apM2, two, hlen, g3, g30, g4, g40, sr, sr10, gq, gqx, hb2, npw, hrow, ww, wh2, hzz, c0, hok, gi, q1, q2]
      refine DExt.by (by first | rfl | (simp only [List.append_assoc, List.cons_append, List.nil_append]; rfl)) ?_
      simp only [push_cast, simprocAttr, apM, apM2, two, hlen, g3, g30, g4, g40, sr, sr10, gq, gqx, hb2, npw, hrow, ww, wh2, hzz, c0, hok, gi, q1, q2]
      skip
    rotate_left 1
    all_goals (
    refine InB_n ?_
    refine Thn_n ?_
    refine hK _ _ ?_
    clear hK K
    refine AW.region (by decide) ?_
    simp only [push_cast, simprocAttr, apM, apM2, two, hlen, g3, g30, g4, g40, sr, sr10, gq, gqx, hb2, npw, hrow, ww, wh2, hzz, c0, hok, gi, q1, q2]
    refine Thn_n ?_
    have hwi : IntKind.i64.wrap ((i:Int)+1) = (i:Int)+1 := wi (by omega)
    refine ⟨i + 1, by omega, by omega, ?_⟩
    try simp only [keepL, setAll, push_cast, simprocAttr, apM, apM2, two, hlen, g3, g30, g4, g40, sr, sr10, gq, gqx, hb2, npw, hrow, ww, wh2, hzz, c0, hok, gi, q1, q2, hwi, hsx, dlx]
    exact Weak.to (extra := [_]) (by simp only [Keeps, Tm.get_cons, Nat.reduceEqDiff, ↓reduceIte, if_true, if_false, ite_true, ite_false, true_and, and_true, and_self, reduceCtorEq, hwi, hsx, dlx]) (by first | rfl | (simp only [List.append_assoc, List.cons_append, List.nil_append]; rfl)) (by first | rfl | (simp [AV.below, CV.below, qM_len, dl_below]; done) | (simp [AV.below, CV.below, qM_len, dl_below]; omega)) (by refine MWf.app ((hwfM _).grow (by simp [qM_len])) ?_; repeat (first | exact MWf_nil | (refine MWf_cons ?_ ?_; · first | rfl | exact dl_below _ _ _ | (simp [CV.below, qM_len]; done) | (simp [CV.below, qM_len]; omega))))
    )
  · have hij : j = i := by omega
    subst hij
    have c0 : ¬ (j : Int) < (npS bs s : Int) := by omega
    refine AW.region (by decide) ?_
    simp only [push_cast, simprocAttr, apM, apM2, two, hlen, g3, g30, g4, g40, sr, sr10, gq, gqx, hb2, npw, hrow, ww, wh2, hzz, c0]
    refine Thn_n ?_
    refine hK _ _ ?_
    clear hK K
    refine AW.cond_f rfl ?_
    refine AW.exit ?_
    refine Thn_e ?_
    clear hK K
    refine Thn_e ?_
    refine InB_here ?_
    refine Thn_n ?_
    refine hK _ _ ?_
    clear hK K
    refine AW.seq_k fun K hK => ?_
    refine AW.region (by decide) ?_
    simp only [push_cast, simprocAttr, apM, apM2, two, hlen, g3, g30, g4, g40, sr, sr10, gq, gqx, hb2, npw, hrow, ww, wh2, hzz, c0]
    refine Thn_n ?_
    refine hK _ _ ?_
    clear hK K
    refine AW.ret ?_
    refine hQ _ _ _ ?_
    first | refine RetP.keep (Or.inr rfl) ?_ | refine RetP.keep (Or.inl rfl) ?_
    · simp only [resA, resOne, resTv, AV.tv, push_cast, simprocAttr, g30]
    
theorem rtake1F (r rb v : Nat) (bs : List Int) (s : Nat × Int) (m : AMem) (h : RQ m r rb v bs s) (h2 : (rdS bs.length 2 (rdS bs.length 2 s)).2 = 0) (hz : szS bs s = true) (j : Nat) (hj : j < npS bs s) (hall : ∀ k, k < j → (hsS bs s k).2 = 0) (herr : ¬ (hsS bs s j).2 = 0) : Ctr Try.prog 44 [.one (.ptr r 0 0)] m (.agg [.int .i64 (rdV bs 2 s), .int .i64 (rdV bs 2 (rdS bs.length 2 s)), .sl (m.length + 2) j 0 j]) (qM m r rb v bs (hsS bs s j) ++ [⟨.fix, 24, 0, 0, [.int .i64 (rdV bs 2 s), .int .i64 (rdV bs 2 (rdS bs.length 2 s)), .sl (m.length + 2) j 0 j]⟩, ⟨.fix, 24, 0, 0, [.int .i64 (rdV bs 2 s), .int .i64 (rdV bs 2 (rdS bs.length 2 s)), .sl (m.length + 2) j 0 j]⟩, ⟨.grow, 75, j, 3, dl j (GH bs s)⟩]) := by
  refine Ctr.enter Try.func44 rfl (by decide) (rs := [.cell 2 24]) (nt := 52) rfl rfl fun hwf Q hQ => ?_
  obtain ⟨kb, eb, hb⟩ := h.hb
  have lr := h.lt
  have lb := get_lt hb
  have hwfM := fun t => @qM_wf m.length m r rb v bs t lb hwf
  have apM := fun L t => @qM_app m r rb v bs lr L t
  have two := fun a b => @qM_two m r rb v bs a b
  have apM2 := fun a L t => (@qM_app (qM m r rb v bs a) r rb v bs (by rw [qM_len]; exact lr) L t).trans (by rw [qM_two])
  have hlen := fun t => @qM_len m r rb v bs t
  have g3 : ∀ t b L k, (qM m r rb v bs t ++ b :: L)[m.length + k]? = (b :: L)[k]? := fun t b L k => by rw [← @qM_len m r rb v bs t, lk_app]
  have g30 : ∀ t b L, (qM m r rb v bs t ++ b :: L)[m.length]? = some b := fun t b L => by rw [← @qM_len m r rb v bs t, lk_app0]; rfl
  have g4 : ∀ t b L k c, (qM m r rb v bs t ++ b :: L).set (m.length + k) c = qM m r rb v bs t ++ (b :: L).set k c := fun t b L k c => by rw [← @qM_len m r rb v bs t, set_app]
  have g40 : ∀ t b L c, (qM m r rb v bs t ++ b :: L).set m.length c = qM m r rb v bs t ++ c :: L := fun t b L c => by rw [← @qM_len m r rb v bs t, set_app0]; rfl
  have gq : ∀ t, (qM m r rb v bs t)[r]? = some ⟨.fix, 94, 0, 0, [.sl rb v 0 bs.length, .int .i64 (t.1 : Int), .int .i64 t.2]⟩ := fun t => get_self h.lt
  have gqx : ∀ t L, (qM m r rb v bs t ++ L)[r]? = some ⟨.fix, 94, 0, 0, [.sl rb v 0 bs.length, .int .i64 (t.1 : Int), .int .i64 t.2]⟩ := fun t L => lk_old (gq t) L
  have hrq := h.hr
  have sr : ∀ t u L, (qM m r rb v bs t ++ L).set r ⟨.fix, 94, 0, 0, [.sl rb v 0 bs.length, .int .i64 (u.1 : Int), .int .i64 u.2]⟩ = qM m r rb v bs u ++ L := fun t u L => by rw [List.set_append_left _ _ (by rw [qM_len]; exact lr)]; exact congrArg (· ++ L) (qM_two t u)
  have sr10 : ∀ t L, (qM m r rb v bs t ++ L).set r ⟨.fix, 94, 0, 0, [.sl rb v 0 bs.length, .int .i64 (t.1 : Int), .int .i64 10]⟩ = qM m r rb v bs (t.1, 10) ++ L := fun t L => sr t (t.1, 10) L
  have hp1 := rdS_le (k := 2) h.hp
  have hp2 := rdS_le (k := 2) hp1
  have hps := shS_le (bs := bs) h.hp
  have hpi := fun i => hsS_le (bs := bs) h.hp i
  have npw := @np_w bs s h.hu
  have npl := @np_le bs s h.hu
  have hrow := fun (G : Nat → Nat → Int) n => dl_len n G
  have bw := rdV_b h.hu 2 s
  have bh := rdV_b h.hu 2 (rdS bs.length 2 s)
  have ee2 : (256 : Int) ^ 2 = 65536 := by decide
  rw [ee2] at bw bh
  have ww : IntKind.i64.wrap (rdV bs 2 s) = rdV bs 2 s := wi (by omega)
  have wh2 : IntKind.i64.wrap (rdV bs 2 (rdS bs.length 2 s)) = rdV bs 2 (rdS bs.length 2 s) := wi (by omega)
  have hsh : shS bs s = (rdS bs.length 2 (rdS bs.length 2 s)) := by unfold shS; rw [if_neg (fun hc => by rw [hz] at hc; cases hc.2)]
  have hb2 : ((rdS bs.length 2 (rdS bs.length 2 s)).2 == 0) = true := by simpa using h2
  have hzz : szR (rdV bs 2 s) (rdV bs 2 (rdS bs.length 2 s)) = true := hz
  
  refine AW.seq_k fun K hK => ?_
  refine AW.region (by decide) ?_
  simp only [push_cast, simprocAttr, apM, apM2, two, hlen, g3, g30, g4, g40, sr, sr10, gq, gqx, hb2, npw, hrow, ww, wh2, hzz]
  refine Thn_n ?_
  refine hK _ _ ?_
  clear hK K
  refine AW.seq_k fun K hK => ?_
  refine AW.region (by decide) ?_
  simp only [push_cast, simprocAttr, apM, apM2, two, hlen, g3, g30, g4, g40, sr, sr10, gq, gqx, hb2, npw, hrow, ww, wh2, hzz]
  refine CThen.by (rnum_c r rb v bs s _ (h.app _) 2 (by decide)) ?_
  simp only [push_cast, simprocAttr, apM, apM2, two, hlen, g3, g30, g4, g40, sr, sr10, gq, gqx, hb2, npw, hrow, ww, wh2, hzz]
  refine Thn_n ?_
  refine hK _ _ ?_
  clear hK K
  refine AW.seq_k fun K hK => ?_
  refine AW.region (by decide) ?_
  simp only [push_cast, simprocAttr, apM, apM2, two, hlen, g3, g30, g4, g40, sr, sr10, gq, gqx, hb2, npw, hrow, ww, wh2, hzz]
  refine CThen.by (rnum_c r rb v bs _ _ ((h.set hp1).app _) 2 (by decide)) ?_
  simp only [push_cast, simprocAttr, apM, apM2, two, hlen, g3, g30, g4, g40, sr, sr10, gq, gqx, hb2, npw, hrow, ww, wh2, hzz]
  refine Thn_n ?_
  refine hK _ _ ?_
  clear hK K
  refine AW.seq_k fun K hK => ?_
  refine AW.seq_k fun K hK => ?_
  refine AW.region (by decide) ?_
  simp only [push_cast, simprocAttr, apM, apM2, two, hlen, g3, g30, g4, g40, sr, sr10, gq, gqx, hb2, npw, hrow, ww, wh2, hzz]
  refine CThen.by (rightSize_c _ _ _) ?_
  simp only [push_cast, simprocAttr, apM, apM2, two, hlen, g3, g30, g4, g40, sr, sr10, gq, gqx, hb2, npw, hrow, ww, wh2, hzz]
  refine Thn_n ?_
  refine hK _ _ ?_
  clear hK K
  refine AW.cond_f rfl ?_
  refine AW.skip ?_
  refine Thn_n ?_
  refine hK _ _ ?_
  clear hK K
  refine AW.seq_k fun K hK => ?_
  refine AW.region (by decide) ?_
  simp only [push_cast, simprocAttr, apM, apM2, two, hlen, g3, g30, g4, g40, sr, sr10, gq, gqx, hb2, npw, hrow, ww, wh2, hzz]
  refine Thn_n ?_
  refine hK _ _ ?_
  clear hK K
  refine AW.seq_k fun K hK => ?_
  refine AW.seq_k fun K hK => ?_
  refine AW.region (by decide) ?_
  simp only [push_cast, simprocAttr, apM, apM2, two, hlen, g3, g30, g4, g40, sr, sr10, gq, gqx, hb2, npw, hrow, ww, wh2, hzz]
  refine Thn_n ?_
  refine hK _ _ ?_
  clear hK K
  refine AW.block ?_
  refine AW.nilCell 75 3 (m.length + 1) 2 (by simp only [push_cast, simprocAttr, apM, apM2, two, hlen, g3, g30, g4, g40, sr, sr10, gq, gqx, hb2, npw, hrow, ww, wh2, hzz]; first | done | rfl) (by intro e; cases e) rfl ?_
  try simp only [push_cast, simprocAttr, apM, apM2, two, hlen, g3, g30, g4, g40, sr, sr10, gq, gqx, hb2, npw, hrow, ww, wh2, hzz]
  refine AW.loopK [0, 2, 3, 4, 5] (fun i => i ≤ j) (fun i => [(6, .one (.int .i64 (i : Int)))]) (fun i => [(r, ⟨.fix, 94, 0, 0, [.sl rb v 0 bs.length, .int .i64 ((hsS bs s i).1 : Int), .int .i64 (hsS bs s i).2]⟩), (m.length + 1, ⟨.fix, 24, 0, 0, [.int .i64 (rdV bs 2 s), .int .i64 (rdV bs 2 (rdS bs.length 2 s)), .sl (m.length + 2) i 0 i]⟩), (m.length + 2, ⟨.grow, 75, i, 3, dl i (GH bs s)⟩)]) (fun i => j - i) 0 (by omega) ?_ ?_ fun i hi9 => ?_
  · first | rfl | (simp only [Keeps, Tm.get_cons, Nat.reduceEqDiff, ↓reduceIte, if_true, if_false, ite_true, ite_false, true_and, and_true, and_self, reduceCtorEq, dl, hsS, hsh, Int.natCast_zero] <;> rfl)
  · first | rfl | (simp only [setAll, push_cast, simprocAttr, apM, apM2, two, hlen, g3, g30, g4, g40, sr, sr10, gq, gqx, hb2, npw, hrow, ww, wh2, hzz, dl, hsS, hsh, Int.natCast_zero] <;> rfl)
  try simp only [keepL, setAll, push_cast, simprocAttr, apM, apM2, two, hlen, g3, g30, g4, g40, sr, sr10, gq, gqx, hb2, npw, hrow, ww, wh2, hzz]
  refine AW.seq_k fun K hK => ?_
  refine AW.seq_k fun K hK => ?_
  rcases Nat.lt_or_ge i j with hc | hc
  · have hlt : i < npS bs s := by omega
    have c0 : (i : Int) < (npS bs s : Int) := by omega
    have hok : ((hsS bs s i).2 == 0) = true := by simpa using hall i hc
    have gi := dl_len i (GH bs s)
    have q1 : i + 1 ≤ 140737488355328 := by omega
    have q2 : (i + 1) * 24 ≤ 140737488355328 := by omega
    have hsx : v3S bs (hsS bs s i) = hsS bs s (i + 1) := rfl
    have dlx : dl i (GH bs s) ++ [.int .i64 (v3V bs (hsS bs s i) 0), .int .i64 (v3V bs (hsS bs s i) 1), .int .i64 (v3V bs (hsS bs s i) 2)] = dl (i + 1) (GH bs s) := rfl
    refine AW.region (by decide) ?_
    simp only [push_cast, simprocAttr, apM, apM2, two, hlen, g3, g30, g4, g40, sr, sr10, gq, gqx, hb2, npw, hrow, ww, wh2, hzz, c0, hok, gi, q1, q2]
    refine Thn_n ?_
    refine hK _ _ ?_
    clear hK K
    refine AW.cond_t rfl ?_
    refine AW.skip ?_
    refine Thn_n ?_
    refine hK _ _ ?_
    clear hK K
    refine AW.seq_k fun K hK => ?_
    refine AW.block ?_
    refine AW.drawX fol (by kernel_rfl) ?_
    refine DX.split 1 3 (by decide) ?_ ?_
    focus
      refine DX.run [0, 1, 2, 3, 4, 5, 6, 7] [.val, .rd 0, .val, .wr, .ext, .wr, .val, .wr] (by simp only [permL, reOp, List.idxOf_cons, push_cast, simprocAttr, apM, apM2, two, hlen, g3, g30, g4, g40, sr, sr10, gq, gqx, hb2, npw, hrow, ww, wh2, hzz, c0, hok, gi, q1, q2]; first | done | rfl) (by kernel_rfl) ?_
      simp only [push_cast, simprocAttr, apM, apM2, two, hlen, g3, g30, g4, g40, sr, sr10, gq, gqx, hb2, npw, hrow, ww, wh2, hzz, c0, hok, gi, q1, q2]
      refine DCallW.by (rvec3_c r rb v bs _ _ ((h.set (hpi i)).app _)) ?_
      simp only [push_cast, simprocAttr, apM, apM2, two, hlen, g3, g30, g4, g40, sr, sr10, gq, gqx, hb2, npw, hrow, ww, wh2, hzz, c0, hok, gi, q1, q2]
      refine DExt.by (by first | rfl | (simp only [List.append_assoc, List.cons_append, List.nil_append]; rfl)) ?_
      simp only [push_cast, simprocAttr, apM, apM2, two, hlen, g3, g30, g4, g40, sr, sr10, gq, gqx, hb2, npw, hrow, ww, wh2, hzz, c0, hok, gi, q1, q2]
      skip
    rotate_left 1
    focus
      refine DX.run [0, 2, 3, 1, 4, 5, 6, 7] [.val, .val, .wr, .rd 1, .ext, .wr, .val, .wr] (by simp only [permL, reOp, List.idxOf_cons, push_cast, simprocAttr, apM, apM2, two, hlen, g3, g30, g4, g40, sr, sr10, gq, gqx, hb2, npw, hrow, ww, wh2, hzz, c0, hok, gi, q1, q2]; first | done | rfl) (by kernel_rfl) ?_
      simp only [push_cast, simprocAttr, apM, apM2, two, hlen, g3, g30, g4, g40, sr, sr10, gq, gqx, hb2, npw, hrow, ww, wh2, hzz, c0, hok, gi, q1, q2]
      refine DCallW.by (rvec3_c r rb v bs _ _ ((h.set (hpi i)).app _)) ?_
      simp only [push_cast, simprocAttr, apM, apM2, two, hlen, g3, g30, g4, g40, sr, sr10, gq, gqx, hb2, npw, hrow, ww, wh2, hzz, c0, hok, gi, q1, q2]
      refine DExt.by (by first | rfl | (simp only [List.append_assoc, List.cons_append, List.nil_append]; rfl)) ?_
      simp only [push_cast, simprocAttr, apM, apM2, two, hlen, g3, g30, g4, g40, sr, sr10, gq, gqx, hb2, npw, hrow, ww, wh2, hzz, c0, hok, gi, q1, q2]
      skip
    rotate_left 1
    all_goals (
    refine InB_n ?_
    refine Thn_n ?_
    refine hK _ _ ?_
    clear hK K
    refine AW.region (by decide) ?_
    simp only [push_cast, simprocAttr, apM, apM2, two, hlen, g3, g30, g4, g40, sr, sr10, gq, gqx, hb2, npw, hrow, ww, wh2, hzz, c0, hok, gi, q1, q2]
    refine Thn_n ?_
    have hwi : IntKind.i64.wrap ((i:Int)+1) = (i:Int)+1 := wi (by omega)
    refine ⟨i + 1, by omega, by omega, ?_⟩
    try simp only [keepL, setAll, push_cast, simprocAttr, apM, apM2, two, hlen, g3, g30, g4, g40, sr, sr10, gq, gqx, hb2, npw, hrow, ww, wh2, hzz, c0, hok, gi, q1, q2, hwi, hsx, dlx]
    exact Weak.to (extra := [_]) (by simp only [Keeps, Tm.get_cons, Nat.reduceEqDiff, ↓reduceIte, if_true, if_false, ite_true, ite_false, true_and, and_true, and_self, reduceCtorEq, hwi, hsx, dlx]) (by first | rfl | (simp only [List.append_assoc, List.cons_append, List.nil_append]; rfl)) (by first | rfl | (simp [AV.below, CV.below, qM_len, dl_below]; done) | (simp [AV.below, CV.below, qM_len, dl_below]; omega)) (by refine MWf.app ((hwfM _).grow (by simp [qM_len])) ?_; repeat (first | exact MWf_nil | (refine MWf_cons ?_ ?_; · first | rfl | exact dl_below _ _ _ | (simp [CV.below, qM_len]; done) | (simp [CV.below, qM_len]; omega))))
    )
  · have hij : j = i := by omega
    subst hij
    have c0 : (j : Int) < (npS bs s : Int) := by omega
    have hok : ((hsS bs s j).2 == 0) = false := by simpa using herr
    refine AW.region (by decide) ?_
    simp only [push_cast, simprocAttr, apM, apM2, two, hlen, g3, g30, g4, g40, sr, sr10, gq, gqx, hb2, npw, hrow, ww, wh2, hzz, c0, hok]
    refine Thn_n ?_
    refine hK _ _ ?_
    clear hK K
    refine AW.cond_f rfl ?_
    refine AW.exit ?_
    refine Thn_e ?_
    clear hK K
    refine Thn_e ?_
    refine InB_here ?_
    refine Thn_n ?_
    refine hK _ _ ?_
    clear hK K
    refine AW.seq_k fun K hK => ?_
    refine AW.region (by decide) ?_
    simp only [push_cast, simprocAttr, apM, apM2, two, hlen, g3, g30, g4, g40, sr, sr10, gq, gqx, hb2, npw, hrow, ww, wh2, hzz, c0, hok]
    refine Thn_n ?_
    refine hK _ _ ?_
    clear hK K
    refine AW.ret ?_
    refine hQ _ _ _ ?_
    first | refine RetP.keep (Or.inr rfl) ?_ | refine RetP.keep (Or.inl rfl) ?_
    · simp only [resA, resOne, resTv, AV.tv, push_cast, simprocAttr, g30]
    
theorem rtake2E (r rb v : Nat) (bs : List Int) (s : Nat × Int) (m : AMem) (h : RQ m r rb v bs s) (h2 : (rdS bs.length 2 (rdS bs.length 2 s)).2 = 0) (hz : szS bs s = false) (j : Nat) (hj : j = npS bs s) (hall : ∀ k, k < j → (hsS bs s k).2 = 0) : Ctr Try.prog 44 [.one (.ptr r 0 0)] m (.agg [.int .i64 (rdV bs 2 s), .int .i64 (rdV bs 2 (rdS bs.length 2 s)), .sl (m.length + 2) j 0 j]) (qM m r rb v bs (hsS bs s j) ++ [⟨.fix, 24, 0, 0, [.int .i64 (rdV bs 2 s), .int .i64 (rdV bs 2 (rdS bs.length 2 s)), .sl (m.length + 2) j 0 j]⟩, ⟨.fix, 24, 0, 0, [.int .i64 (rdV bs 2 s), .int .i64 (rdV bs 2 (rdS bs.length 2 s)), .sl (m.length + 2) j 0 j]⟩, ⟨.grow, 75, j, 3, dl j (GH bs s)⟩]) := by
  refine Ctr.enter Try.func44 rfl (by decide) (rs := [.cell 2 24]) (nt := 52) rfl rfl fun hwf Q hQ => ?_
  obtain ⟨kb, eb, hb⟩ := h.hb
  have lr := h.lt
  have lb := get_lt hb
  have hwfM := fun t => @qM_wf m.length m r rb v bs t lb hwf
  have apM := fun L t => @qM_app m r rb v bs lr L t
  have two := fun a b => @qM_two m r rb v bs a b
  have apM2 := fun a L t => (@qM_app (qM m r rb v bs a) r rb v bs (by rw [qM_len]; exact lr) L t).trans (by rw [qM_two])
  have hlen := fun t => @qM_len m r rb v bs t
  have g3 : ∀ t b L k, (qM m r rb v bs t ++ b :: L)[m.length + k]? = (b :: L)[k]? := fun t b L k => by rw [← @qM_len m r rb v bs t, lk_app]
  have g30 : ∀ t b L, (qM m r rb v bs t ++ b :: L)[m.length]? = some b := fun t b L => by rw [← @qM_len m r rb v bs t, lk_app0]; rfl
  have g4 : ∀ t b L k c, (qM m r rb v bs t ++ b :: L).set (m.length + k) c = qM m r rb v bs t ++ (b :: L).set k c := fun t b L k c => by rw [← @qM_len m r rb v bs t, set_app]
  have g40 : ∀ t b L c, (qM m r rb v bs t ++ b :: L).set m.length c = qM m r rb v bs t ++ c :: L := fun t b L c => by rw [← @qM_len m r rb v bs t, set_app0]; rfl
  have gq : ∀ t, (qM m r rb v bs t)[r]? = some ⟨.fix, 94, 0, 0, [.sl rb v 0 bs.length, .int .i64 (t.1 : Int), .int .i64 t.2]⟩ := fun t => get_self h.lt
  have gqx : ∀ t L, (qM m r rb v bs t ++ L)[r]? = some ⟨.fix, 94, 0, 0, [.sl rb v 0 bs.length, .int .i64 (t.1 : Int), .int .i64 t.2]⟩ := fun t L => lk_old (gq t) L
  have hrq := h.hr
  have sr : ∀ t u L, (qM m r rb v bs t ++ L).set r ⟨.fix, 94, 0, 0, [.sl rb v 0 bs.length, .int .i64 (u.1 : Int), .int .i64 u.2]⟩ = qM m r rb v bs u ++ L := fun t u L => by rw [List.set_append_left _ _ (by rw [qM_len]; exact lr)]; exact congrArg (· ++ L) (qM_two t u)
  have sr10 : ∀ t L, (qM m r rb v bs t ++ L).set r ⟨.fix, 94, 0, 0, [.sl rb v 0 bs.length, .int .i64 (t.1 : Int), .int .i64 10]⟩ = qM m r rb v bs (t.1, 10) ++ L := fun t L => sr t (t.1, 10) L
  have hp1 := rdS_le (k := 2) h.hp
  have hp2 := rdS_le (k := 2) hp1
  have hps := shS_le (bs := bs) h.hp
  have hpi := fun i => hsS_le (bs := bs) h.hp i
  have npw := @np_w bs s h.hu
  have npl := @np_le bs s h.hu
  have hrow := fun (G : Nat → Nat → Int) n => dl_len n G
  have bw := rdV_b h.hu 2 s
  have bh := rdV_b h.hu 2 (rdS bs.length 2 s)
  have ee2 : (256 : Int) ^ 2 = 65536 := by decide
  rw [ee2] at bw bh
  have ww : IntKind.i64.wrap (rdV bs 2 s) = rdV bs 2 s := wi (by omega)
  have wh2 : IntKind.i64.wrap (rdV bs 2 (rdS bs.length 2 s)) = rdV bs 2 (rdS bs.length 2 s) := wi (by omega)
  have hsh : shS bs s = ((rdS bs.length 2 (rdS bs.length 2 s)).1, 10) := by unfold shS flS; rw [if_pos ⟨h2, hz⟩, if_pos h2]
  have hb2 : ((rdS bs.length 2 (rdS bs.length 2 s)).2 == 0) = true := by simpa using h2
  have hzz : szR (rdV bs 2 s) (rdV bs 2 (rdS bs.length 2 s)) = false := hz
  
  refine AW.seq_k fun K hK => ?_
  refine AW.region (by decide) ?_
  simp only [push_cast, simprocAttr, apM, apM2, two, hlen, g3, g30, g4, g40, sr, sr10, gq, gqx, hb2, npw, hrow, ww, wh2, hzz]
  refine Thn_n ?_
  refine hK _ _ ?_
  clear hK K
  refine AW.seq_k fun K hK => ?_
  refine AW.region (by decide) ?_
  simp only [push_cast, simprocAttr, apM, apM2, two, hlen, g3, g30, g4, g40, sr, sr10, gq, gqx, hb2, npw, hrow, ww, wh2, hzz]
  refine CThen.by (rnum_c r rb v bs s _ (h.app _) 2 (by decide)) ?_
  simp only [push_cast, simprocAttr, apM, apM2, two, hlen, g3, g30, g4, g40, sr, sr10, gq, gqx, hb2, npw, hrow, ww, wh2, hzz]
  refine Thn_n ?_
  refine hK _ _ ?_
  clear hK K
  refine AW.seq_k fun K hK => ?_
  refine AW.region (by decide) ?_
  simp only [push_cast, simprocAttr, apM, apM2, two, hlen, g3, g30, g4, g40, sr, sr10, gq, gqx, hb2, npw, hrow, ww, wh2, hzz]
  refine CThen.by (rnum_c r rb v bs _ _ ((h.set hp1).app _) 2 (by decide)) ?_
  simp only [push_cast, simprocAttr, apM, apM2, two, hlen, g3, g30, g4, g40, sr, sr10, gq, gqx, hb2, npw, hrow, ww, wh2, hzz]
  refine Thn_n ?_
  refine hK _ _ ?_
  clear hK K
  refine AW.seq_k fun K hK => ?_
  refine AW.seq_k fun K hK => ?_
  refine AW.region (by decide) ?_
  simp only [push_cast, simprocAttr, apM, apM2, two, hlen, g3, g30, g4, g40, sr, sr10, gq, gqx, hb2, npw, hrow, ww, wh2, hzz]
  refine CThen.by (rightSize_c _ _ _) ?_
  simp only [push_cast, simprocAttr, apM, apM2, two, hlen, g3, g30, g4, g40, sr, sr10, gq, gqx, hb2, npw, hrow, ww, wh2, hzz]
  refine Thn_n ?_
  refine hK _ _ ?_
  clear hK K
  refine AW.cond_t rfl ?_
  iterate 2
    refine AW.region (by decide) ?_
    simp only [push_cast, simprocAttr, apM, apM2, two, hlen, g3, g30, g4, g40, sr, sr10, gq, gqx, hb2, npw, hrow, ww, wh2, hzz]
    refine Thn_n ?_
    refine hK _ _ ?_
    clear hK K
    refine AW.seq_k fun K hK => ?_
  refine AW.seq_k fun K hK => ?_
  refine AW.region (by decide) ?_
  simp only [push_cast, simprocAttr, apM, apM2, two, hlen, g3, g30, g4, g40, sr, sr10, gq, gqx, hb2, npw, hrow, ww, wh2, hzz]
  refine Thn_n ?_
  refine hK _ _ ?_
  clear hK K
  refine AW.block ?_
  refine AW.nilCell 75 3 (m.length + 1) 2 (by simp only [push_cast, simprocAttr, apM, apM2, two, hlen, g3, g30, g4, g40, sr, sr10, gq, gqx, hb2, npw, hrow, ww, wh2, hzz]; first | done | rfl) (by intro e; cases e) rfl ?_
  try simp only [push_cast, simprocAttr, apM, apM2, two, hlen, g3, g30, g4, g40, sr, sr10, gq, gqx, hb2, npw, hrow, ww, wh2, hzz]
  refine AW.loopK [0, 2, 3, 4, 5] (fun i => i ≤ j) (fun i => [(6, .one (.int .i64 (i : Int)))]) (fun i => [(r, ⟨.fix, 94, 0, 0, [.sl rb v 0 bs.length, .int .i64 ((hsS bs s i).1 : Int), .int .i64 (hsS bs s i).2]⟩), (m.length + 1, ⟨.fix, 24, 0, 0, [.int .i64 (rdV bs 2 s), .int .i64 (rdV bs 2 (rdS bs.length 2 s)), .sl (m.length + 2) i 0 i]⟩), (m.length + 2, ⟨.grow, 75, i, 3, dl i (GH bs s)⟩)]) (fun i => j - i) 0 (by omega) ?_ ?_ fun i hi9 => ?_
  · first | rfl | (simp only [Keeps, Tm.get_cons, Nat.reduceEqDiff, ↓reduceIte, if_true, if_false, ite_true, ite_false, true_and, and_true, and_self, reduceCtorEq, dl, hsS, hsh, Int.natCast_zero] <;> rfl)
  · first | rfl | (simp only [setAll, push_cast, simprocAttr, apM, apM2, two, hlen, g3, g30, g4, g40, sr, sr10, gq, gqx, hb2, npw, hrow, ww, wh2, hzz, dl, hsS, hsh, Int.natCast_zero] <;> rfl)
  try simp only [keepL, setAll, push_cast, simprocAttr, apM, apM2, two, hlen, g3, g30, g4, g40, sr, sr10, gq, gqx, hb2, npw, hrow, ww, wh2, hzz]
  refine AW.seq_k fun K hK => ?_
  refine AW.seq_k fun K hK => ?_
  rcases Nat.lt_or_ge i j with hc | hc
  · have hlt : i < npS bs s := by omega
    have c0 : (i : Int) < (npS bs s : Int) := by omega
    have hok : ((hsS bs s i).2 == 0) = true := by simpa using hall i hc
    have gi := dl_len i (GH bs s)
    have q1 : i + 1 ≤ 140737488355328 := by omega
    have q2 : (i + 1) * 24 ≤ 140737488355328 := by omega
    have hsx : v3S bs (hsS bs s i) = hsS bs s (i + 1) := rfl
    have dlx : dl i (GH bs s) ++ [.int .i64 (v3V bs (hsS bs s i) 0), .int .i64 (v3V bs (hsS bs s i) 1), .int .i64 (v3V bs (hsS bs s i) 2)] = dl (i + 1) (GH bs s) := rfl
    refine AW.region (by decide) ?_
    simp only [push_cast, simprocAttr, apM, apM2, two, hlen, g3, g30, g4, g40, sr, sr10, gq, gqx, hb2, npw, hrow, ww, wh2, hzz, c0, hok, gi, q1, q2]
    refine Thn_n ?_
    refine hK _ _ ?_
    clear hK K
    refine AW.cond_t rfl ?_
    refine AW.skip ?_
    refine Thn_n ?_
    refine hK _ _ ?_
    clear hK K
    refine AW.seq_k fun K hK => ?_
    refine AW.block ?_
    refine AW.drawX fol (by kernel_rfl) ?_
    refine DX.split 1 3 (by decide) ?_ ?_
    focus
      refine DX.run [0, 1, 2, 3, 4, 5, 6, 7] [.val, .rd 0, .val, .wr, .ext, .wr, .val, .wr] (by simp only [permL, reOp, List.idxOf_cons, push_cast, simprocAttr, apM, apM2, two, hlen, g3, g30, g4, g40, sr, sr10, gq, gqx, hb2, npw, hrow, ww, wh2, hzz, c0, hok, gi, q1, q2]; first | done | rfl) (by kernel_rfl) ?_
      simp only [push_cast, simprocAttr, apM, apM2, two, hlen, g3, g30, g4, g40, sr, sr10, gq, gqx, hb2, npw, hrow, ww, wh2, hzz, c0, hok, gi, q1, q2]
      refine DCallW.by (rvec3_c r rb v bs _ _ ((h.set (hpi i)).app _)) ?_
      simp only [push_cast, simprocAttr, apM, apM2, two, hlen, g3, g30, g4, g40, sr, sr10, gq, gqx, hb2, npw, hrow, ww, wh2, hzz, c0, hok, gi, q1, q2]
      refine DExt.by (by first | rfl | (simp only [List.append_assoc, List.cons_append, List.nil_append]; rfl)) ?_
      simp only [push_cast, simprocAttr, apM, apM2, two, hlen, g3, g30, g4, g40, sr, sr10, gq, gqx, hb2, npw, hrow, ww, wh2, hzz, c0, hok, gi, q1, q2]
      skip
    rotate_left 1
    focus
      refine DX.run [0, 2, 3, 1, 4, 5, 6, 7] [.val, .val, .wr, .rd 1, .ext, .wr, .val, .wr] (by simp only [permL, reOp, List.idxOf_cons, push_cast, simprocAttr, apM, apM2, two, hlen, g3, g30, g4, g40, sr, sr10, gq, gqx, hb2, npw, hrow, ww, wh2, hzz, c0, hok, gi, q1, q2]; first | done | rfl) (by kernel_rfl) ?_
      simp only [push_cast, simprocAttr, apM, apM2, two, hlen, g3, g30, g4, g40, sr, sr10, gq, gqx, hb2, npw, hrow, ww, wh2, hzz, c0, hok, gi, q1, q2]
      refine DCallW.by (rvec3_c r rb v bs _ _ ((h.set (hpi i)).app _)) ?_
      simp only [push_cast, simprocAttr, apM, apM2, two, hlen, g3, g30, g4, g40, sr, sr10, gq, gqx, hb2, npw, hrow, ww, wh2, hzz, c0, hok, gi, q1, q2]
      refine DExt.by (by first | rfl | (simp only [List.append_assoc, List.cons_append, List.nil_append]; rfl)) ?_
      simp only [push_cast, simprocAttr, apM, apM2, two, hlen, g3, g30, g4, g40, sr, sr10, gq, gqx, hb2, npw, hrow, ww, wh2, hzz, c0, hok, gi, q1, q2]
      skip
    rotate_left 1
    all_goals (
    refine InB_n ?_
    refine Thn_n ?_
    refine hK _ _ ?_
    clear hK K
    refine AW.region (by decide) ?_
    simp only [push_cast, simprocAttr, apM, apM2, two, hlen, g3, g30, g4, g40, sr, sr10, gq, gqx, hb2, npw, hrow, ww, wh2, hzz, c0, hok, gi, q1, q2]
    refine Thn_n ?_
    have hwi : IntKind.i64.wrap ((i:Int)+1) = (i:Int)+1 := wi (by omega)
    refine ⟨i + 1, by omega, by omega, ?_⟩
    try simp only [keepL, setAll, push_cast, simprocAttr, apM, apM2, two, hlen, g3, g30, g4, g40, sr, sr10, gq, gqx, hb2, npw, hrow, ww, wh2, hzz, c0, hok, gi, q1, q2, hwi, hsx, dlx]
    exact Weak.to (extra := [_]) (by simp only [Keeps, Tm.get_cons, Nat.reduceEqDiff, ↓reduceIte, if_true, if_false, ite_true, ite_false, true_and, and_true, and_self, reduceCtorEq, hwi, hsx, dlx]) (by first | rfl | (simp only [List.append_assoc, List.cons_append, List.nil_append]; rfl)) (by first | rfl | (simp [AV.below, CV.below, qM_len, dl_below]; done) | (simp [AV.below, CV.below, qM_len, dl_below]; omega)) (by refine MWf.app ((hwfM _).grow (by simp [qM_len])) ?_; repeat (first | exact MWf_nil | (refine MWf_cons ?_ ?_; · first | rfl | exact dl_below _ _ _ | (simp [CV.below, qM_len]; done) | (simp [CV.below, qM_len]; omega))))
    )
  · have hij : j = i := by omega
    subst hij
    have c0 : ¬ (j : Int) < (npS bs s : Int) := by omega
    refine AW.region (by decide) ?_
    simp only [push_cast, simprocAttr, apM, apM2, two, hlen, g3, g30, g4, g40, sr, sr10, gq, gqx, hb2, npw, hrow, ww, wh2, hzz, c0]
    refine Thn_n ?_
    refine hK _ _ ?_
    clear hK K
    refine AW.cond_f rfl ?_
    refine AW.exit ?_
    refine Thn_e ?_
    clear hK K
    refine Thn_e ?_
    refine InB_here ?_
    refine Thn_n ?_
    refine hK _ _ ?_
    clear hK K
    refine AW.seq_k fun K hK => ?_
    refine AW.region (by decide) ?_
    simp only [push_cast, simprocAttr, apM, apM2, two, hlen, g3, g30, g4, g40, sr, sr10, gq, gqx, hb2, npw, hrow, ww, wh2, hzz, c0]
    refine Thn_n ?_
    refine hK _ _ ?_
    clear hK K
    refine AW.ret ?_
    refine hQ _ _ _ ?_
    first | refine RetP.keep (Or.inr rfl) ?_ | refine RetP.keep (Or.inl rfl) ?_
    · simp only [resA, resOne, resTv, AV.tv, push_cast, simprocAttr, g30]
    
theorem rtake2F (r rb v : Nat) (bs : List Int) (s : Nat × Int) (m : AMem) (h : RQ m r rb v bs s) (h2 : (rdS bs.length 2 (rdS bs.length 2 s)).2 = 0) (hz : szS bs s = false) (j : Nat) (hj : j < npS bs s) (hall : ∀ k, k < j → (hsS bs s k).2 = 0) (herr : ¬ (hsS bs s j).2 = 0) : Ctr Try.prog 44 [.one (.ptr r 0 0)] m (.agg [.int .i64 (rdV bs 2 s), .int .i64 (rdV bs 2 (rdS bs.length 2 s)), .sl (m.length + 2) j 0 j]) (qM m r rb v bs (hsS bs s j) ++ [⟨.fix, 24, 0, 0, [.int .i64 (rdV bs 2 s), .int .i64 (rdV bs 2 (rdS bs.length 2 s)), .sl (m.length + 2) j 0 j]⟩, ⟨.fix, 24, 0, 0, [.int .i64 (rdV bs 2 s), .int .i64 (rdV bs 2 (rdS bs.length 2 s)), .sl (m.length + 2) j 0 j]⟩, ⟨.grow, 75, j, 3, dl j (GH bs s)⟩]) := by
  refine Ctr.enter Try.func44 rfl (by decide) (rs := [.cell 2 24]) (nt := 52) rfl rfl fun hwf Q hQ => ?_
  obtain ⟨kb, eb, hb⟩ := h.hb
  have lr := h.lt
  have lb := get_lt hb
  have hwfM := fun t => @qM_wf m.length m r rb v bs t lb hwf
  have apM := fun L t => @qM_app m r rb v bs lr L t
  have two := fun a b => @qM_two m r rb v bs a b
  have apM2 := fun a L t => (@qM_app (qM m r rb v bs a) r rb v bs (by rw [qM_len]; exact lr) L t).trans (by rw [qM_two])
  have hlen := fun t => @qM_len m r rb v bs t
  have g3 : ∀ t b L k, (qM m r rb v bs t ++ b :: L)[m.length + k]? = (b :: L)[k]? := fun t b L k => by rw [← @qM_len m r rb v bs t, lk_app]
  have g30 : ∀ t b L, (qM m r rb v bs t ++ b :: L)[m.length]? = some b := fun t b L => by rw [← @qM_len m r rb v bs t, lk_app0]; rfl
  have g4 : ∀ t b L k c, (qM m r rb v bs t ++ b :: L).set (m.length + k) c = qM m r rb v bs t ++ (b :: L).set k c := fun t b L k c => by rw [← @qM_len m r rb v bs t, set_app]
  have g40 : ∀ t b L c, (qM m r rb v bs t ++ b :: L).set m.length c = qM m r rb v bs t ++ c :: L := fun t b L c => by rw [← @qM_len m r rb v bs t, set_app0]; rfl
  have gq : ∀ t, (qM m r rb v bs t)[r]? = some ⟨.fix, 94, 0, 0, [.sl rb v 0 bs.length, .int .i64 (t.1 : Int), .int .i64 t.2]⟩ := fun t => get_self h.lt
  have gqx : ∀ t L, (qM m r rb v bs t ++ L)[r]? = some ⟨.fix, 94, 0, 0, [.sl rb v 0 bs.length, .int .i64 (t.1 : Int), .int .i64 t.2]⟩ := fun t L => lk_old (gq t) L
  have hrq := h.hr
  have sr : ∀ t u L, (qM m r rb v bs t ++ L).set r ⟨.fix, 94, 0, 0, [.sl rb v 0 bs.length, .int .i64 (u.1 : Int), .int .i64 u.2]⟩ = qM m r rb v bs u ++ L := fun t u L => by rw [List.set_append_left _ _ (by rw [qM_len]; exact lr)]; exact congrArg (· ++ L) (qM_two t u)
  have sr10 : ∀ t L, (qM m r rb v bs t ++ L).set r ⟨.fix, 94, 0, 0, [.sl rb v 0 bs.length, .int .i64 (t.1 : Int), .int .i64 10]⟩ = qM m r rb v bs (t.1, 10) ++ L := fun t L => sr t (t.1, 10) L
  have hp1 := rdS_le (k := 2) h.hp
  have hp2 := rdS_le (k := 2) hp1
  have hps := shS_le (bs := bs) h.hp
  have hpi := fun i => hsS_le (bs := bs) h.hp i
  have npw := @np_w bs s h.hu
  have npl := @np_le bs s h.hu
  have hrow := fun (G : Nat → Nat → Int) n => dl_len n G
  have bw := rdV_b h.hu 2 s
  have bh := rdV_b h.hu 2 (rdS bs.length 2 s)
  have ee2 : (256 : Int) ^ 2 = 65536 := by decide
  rw [ee2] at bw bh
  have ww : IntKind.i64.wrap (rdV bs 2 s) = rdV bs 2 s := wi (by omega)
  have wh2 : IntKind.i64.wrap (rdV bs 2 (rdS bs.length 2 s)) = rdV bs 2 (rdS bs.length 2 s) := wi (by omega)
  have hsh : shS bs s = ((rdS bs.length 2 (rdS bs.length 2 s)).1, 10) := by unfold shS flS; rw [if_pos ⟨h2, hz⟩, if_pos h2]
  have hb2 : ((rdS bs.length 2 (rdS bs.length 2 s)).2 == 0) = true := by simpa using h2
  have hzz : szR (rdV bs 2 s) (rdV bs 2 (rdS bs.length 2 s)) = false := hz
  
  refine AW.seq_k fun K hK => ?_
  refine AW.region (by decide) ?_
  simp only [push_cast, simprocAttr, apM, apM2, two, hlen, g3, g30, g4, g40, sr, sr10, gq, gqx, hb2, npw, hrow, ww, wh2, hzz]
  refine Thn_n ?_
  refine hK _ _ ?_
  clear hK K
  refine AW.seq_k fun K hK => ?_
  refine AW.region (by decide) ?_
  simp only [push_cast, simprocAttr, apM, apM2, two, hlen, g3, g30, g4, g40, sr, sr10, gq, gqx, hb2, npw, hrow, ww, wh2, hzz]
  refine CThen.by (rnum_c r rb v bs s _ (h.app _) 2 (by decide)) ?_
  simp only [push_cast, simprocAttr, apM, apM2, two, hlen, g3, g30, g4, g40, sr, sr10, gq, gqx, hb2, npw, hrow, ww, wh2, hzz]
  refine Thn_n ?_
  refine hK _ _ ?_
  clear hK K
  refine AW.seq_k fun K hK => ?_
  refine AW.region (by decide) ?_
  simp only [push_cast, simprocAttr, apM, apM2, two, hlen, g3, g30, g4, g40, sr, sr10, gq, gqx, hb2, npw, hrow, ww, wh2, hzz]
  refine CThen.by (rnum_c r rb v bs _ _ ((h.set hp1).app _) 2 (by decide)) ?_
  simp only [push_cast, simprocAttr, apM, apM2, two, hlen, g3, g30, g4, g40, sr, sr10, gq, gqx, hb2, npw, hrow, ww, wh2, hzz]
  refine Thn_n ?_
  refine hK _ _ ?_
  clear hK K
  refine AW.seq_k fun K hK => ?_
  refine AW.seq_k fun K hK => ?_
  refine AW.region (by decide) ?_
  simp only [push_cast, simprocAttr, apM, apM2, two, hlen, g3, g30, g4, g40, sr, sr10, gq, gqx, hb2, npw, hrow, ww, wh2, hzz]
  refine CThen.by (rightSize_c _ _ _) ?_
  simp only [push_cast, simprocAttr, apM, apM2, two, hlen, g3, g30, g4, g40, sr, sr10, gq, gqx, hb2, npw, hrow, ww, wh2, hzz]
  refine Thn_n ?_
  refine hK _ _ ?_
  clear hK K
  refine AW.cond_t rfl ?_
  iterate 2
    refine AW.region (by decide) ?_
    simp only [push_cast, simprocAttr, apM, apM2, two, hlen, g3, g30, g4, g40, sr, sr10, gq, gqx, hb2, npw, hrow, ww, wh2, hzz]
    refine Thn_n ?_
    refine hK _ _ ?_
    clear hK K
    refine AW.seq_k fun K hK => ?_
  refine AW.seq_k fun K hK => ?_
  refine AW.region (by decide) ?_
  simp only [push_cast, simprocAttr, apM, apM2, two, hlen, g3, g30, g4, g40, sr, sr10, gq, gqx, hb2, npw, hrow, ww, wh2, hzz]
  refine Thn_n ?_
  refine hK _ _ ?_
  clear hK K
  refine AW.block ?_
  refine AW.nilCell 75 3 (m.length + 1) 2 (by simp only [push_cast, simprocAttr, apM, apM2, two, hlen, g3, g30, g4, g40, sr, sr10, gq, gqx, hb2, npw, hrow, ww, wh2, hzz]; first | done | rfl) (by intro e; cases e) rfl ?_
  try simp only [push_cast, simprocAttr, apM, apM2, two, hlen, g3, g30, g4, g40, sr, sr10, gq, gqx, hb2, npw, hrow, ww, wh2, hzz]
  refine AW.loopK [0, 2, 3, 4, 5] (fun i => i ≤ j) (fun i => [(6, .one (.int .i64 (i : Int)))]) (fun i => [(r, ⟨.fix, 94, 0, 0, [.sl rb v 0 bs.length, .int .i64 ((hsS bs s i).1 : Int), .int .i64 (hsS bs s i).2]⟩), (m.length + 1, ⟨.fix, 24, 0, 0, [.int .i64 (rdV bs 2 s), .int .i64 (rdV bs 2 (rdS bs.length 2 s)), .sl (m.length + 2) i 0 i]⟩), (m.length + 2, ⟨.grow, 75, i, 3, dl i (GH bs s)⟩)]) (fun i => j - i) 0 (by omega) ?_ ?_ fun i hi9 => ?_
  · first | rfl | (simp only [Keeps, Tm.get_cons, Nat.reduceEqDiff, ↓reduceIte, if_true, if_false, ite_true, ite_false, true_and, and_true, and_self, reduceCtorEq, dl, hsS, hsh, Int.natCast_zero] <;> rfl)
  · first | rfl | (simp only [setAll, push_cast, simprocAttr, apM, apM2, two, hlen, g3, g30, g4, g40, sr, sr10, gq, gqx, hb2, npw, hrow, ww, wh2, hzz, dl, hsS, hsh, Int.natCast_zero] <;> rfl)
  try simp only [keepL, setAll, push_cast, simprocAttr, apM, apM2, two, hlen, g3, g30, g4, g40, sr, sr10, gq, gqx, hb2, npw, hrow, ww, wh2, hzz]
  refine AW.seq_k fun K hK => ?_
  refine AW.seq_k fun K hK => ?_
  rcases Nat.lt_or_ge i j with hc | hc
  · have hlt : i < npS bs s := by omega
    have c0 : (i : Int) < (npS bs s : Int) := by omega
    have hok : ((hsS bs s i).2 == 0) = true := by simpa using hall i hc
    have gi := dl_len i (GH bs s)
    have q1 : i + 1 ≤ 140737488355328 := by omega
    have q2 : (i + 1) * 24 ≤ 140737488355328 := by omega
    have hsx : v3S bs (hsS bs s i) = hsS bs s (i + 1) := rfl
    have dlx : dl i (GH bs s) ++ [.int .i64 (v3V bs (hsS bs s i) 0), .int .i64 (v3V bs (hsS bs s i) 1), .int .i64 (v3V bs (hsS bs s i) 2)] = dl (i + 1) (GH bs s) := rfl
    refine AW.region (by decide) ?_
    simp only [push_cast, simprocAttr, apM, apM2, two, hlen, g3, g30, g4, g40, sr, sr10, gq, gqx, hb2, npw, hrow, ww, wh2, hzz, c0, hok, gi, q1, q2]
    refine Thn_n ?_
    refine hK _ _ ?_
    clear hK K
    refine AW.cond_t rfl ?_
    refine AW.skip ?_
    refine Thn_n ?_
    refine hK _ _ ?_
    clear hK K
    refine AW.seq_k fun K hK => ?_
    refine AW.block ?_
    refine AW.drawX fol (by kernel_rfl) ?_
    refine DX.split 1 3 (by decide) ?_ ?_
    focus
      refine DX.run [0, 1, 2, 3, 4, 5, 6, 7] [.val, .rd 0, .val, .wr, .ext, .wr, .val, .wr] (by simp only [permL, reOp, List.idxOf_cons, push_cast, simprocAttr, apM, apM2, two, hlen, g3, g30, g4, g40, sr, sr10, gq, gqx, hb2, npw, hrow, ww, wh2, hzz, c0, hok, gi, q1, q2]; first | done | rfl) (by kernel_rfl) ?_
      simp only [push_cast, simprocAttr, apM, apM2, two, hlen, g3, g30, g4, g40, sr, sr10, gq, gqx, hb2, npw, hrow, ww, wh2, hzz, c0, hok, gi, q1, q2]
      refine DCallW.by (rvec3_c r rb v bs _ _ ((h.set (hpi i)).app _)) ?_
      simp only [push_cast, simprocAttr, apM, apM2, two, hlen, g3, g30, g4, g40, sr, sr10, gq, gqx, hb2, npw, hrow, ww, wh2, hzz, c0, hok, gi, q1, q2]
      refine DExt.by (by first | rfl | (simp only [List.append_assoc, List.cons_append, List.nil_append]; rfl)) ?_
      simp only [push_cast, simprocAttr, apM, apM2, two, hlen, g3, g30, g4, g40, sr, sr10, gq, gqx, hb2, npw, hrow, ww, wh2, hzz, c0, hok, gi, q1, q2]
      skip
    rotate_left 1
    focus
      refine DX.run [0, 2, 3, 1, 4, 5, 6, 7] [.val, .val, .wr, .rd 1, .ext, .wr, .val, .wr] (by simp only [permL, reOp, List.idxOf_cons, push_cast, simprocAttr, apM, apM2, two, hlen, g3, g30, g4, g40, sr, sr10, gq, gqx, hb2, npw, hrow, ww, wh2, hzz, c0, hok, gi, q1, q2]; first | done | rfl) (by kernel_rfl) ?_
      simp only [push_cast, simprocAttr, apM, apM2, two, hlen, g3, g30, g4, g40, sr, sr10, gq, gqx, hb2, npw, hrow, ww, wh2, hzz, c0, hok, gi, q1, q2]
      refine DCallW.by (rvec3_c r rb v bs _ _ ((h.set (hpi i)).app _)) ?_
      simp only [push_cast, simprocAttr, apM, apM2, two, hlen, g3, g30, g4, g40, sr, sr10, gq, gqx, hb2, npw, hrow, ww, wh2, hzz, c0, hok, gi, q1, q2]
      refine DExt.by (by first | rfl | (simp only [List.append_assoc, List.cons_append, List.nil_append]; rfl)) ?_
      simp only [push_cast, simprocAttr, apM, apM2, two, hlen, g3, g30, g4, g40, sr, sr10, gq, gqx, hb2, npw, hrow, ww, wh2, hzz, c0, hok, gi, q1, q2]
      skip
    rotate_left 1
    all_goals (
    refine InB_n ?_
    refine Thn_n ?_
    refine hK _ _ ?_
    clear hK K
    refine AW.region (by decide) ?_
    simp only [push_cast, simprocAttr, apM, apM2, two, hlen, g3, g30, g4, g40, sr, sr10, gq, gqx, hb2, npw, hrow, ww, wh2, hzz, c0, hok, gi, q1, q2]
    refine Thn_n ?_
    have hwi : IntKind.i64.wrap ((i:Int)+1) = (i:Int)+1 := wi (by omega)
    refine ⟨i + 1, by omega, by omega, ?_⟩
    try simp only [keepL, setAll, push_cast, simprocAttr, apM, apM2, two, hlen, g3, g30, g4, g40, sr, sr10, gq, gqx, hb2, npw, hrow, ww, wh2, hzz, c0, hok, gi, q1, q2, hwi, hsx, dlx]
    exact Weak.to (extra := [_]) (by simp only [Keeps, Tm.get_cons, Nat.reduceEqDiff, ↓reduceIte, if_true, if_false, ite_true, ite_false, true_and, and_true, and_self, reduceCtorEq, hwi, hsx, dlx]) (by first | rfl | (simp only [List.append_assoc, List.cons_append, List.nil_append]; rfl)) (by first | rfl | (simp [AV.below, CV.below, qM_len, dl_below]; done) | (simp [AV.below, CV.below, qM_len, dl_below]; omega)) (by refine MWf.app ((hwfM _).grow (by simp [qM_len])) ?_; repeat (first | exact MWf_nil | (refine MWf_cons ?_ ?_; · first | rfl | exact dl_below _ _ _ | (simp [CV.below, qM_len]; done) | (simp [CV.below, qM_len]; omega))))
    )
  · have hij : j = i := by omega
    subst hij
    have c0 : (j : Int) < (npS bs s : Int) := by omega
    have hok : ((hsS bs s j).2 == 0) = false := by simpa using herr
    refine AW.region (by decide) ?_
    simp only [push_cast, simprocAttr, apM, apM2, two, hlen, g3, g30, g4, g40, sr, sr10, gq, gqx, hb2, npw, hrow, ww, wh2, hzz, c0, hok]
    refine Thn_n ?_
    refine hK _ _ ?_
    clear hK K
    refine AW.cond_f rfl ?_
    refine AW.exit ?_
    refine Thn_e ?_
    clear hK K
    refine Thn_e ?_
    refine InB_here ?_
    refine Thn_n ?_
    refine hK _ _ ?_
    clear hK K
    refine AW.seq_k fun K hK => ?_
    refine AW.region (by decide) ?_
    simp only [push_cast, simprocAttr, apM, apM2, two, hlen, g3, g30, g4, g40, sr, sr10, gq, gqx, hb2, npw, hrow, ww, wh2, hzz, c0, hok]
    refine Thn_n ?_
    refine hK _ _ ?_
    clear hK K
    refine AW.ret ?_
    refine hQ _ _ _ ?_
    first | refine RetP.keep (Or.inr rfl) ?_ | refine RetP.keep (Or.inl rfl) ?_
    · simp only [resA, resOne, resTv, AV.tv, push_cast, simprocAttr, g30]
    
theorem rtake3E (r rb v : Nat) (bs : List Int) (s : Nat × Int) (m : AMem) (h : RQ m r rb v bs s) (h2 : ¬ (rdS bs.length 2 (rdS bs.length 2 s)).2 = 0) (j : Nat) (hj : j = npS bs s) (hall : ∀ k, k < j → (hsS bs s k).2 = 0) : Ctr Try.prog 44 [.one (.ptr r 0 0)] m (.agg [.int .i64 (rdV bs 2 s), .int .i64 (rdV bs 2 (rdS bs.length 2 s)), .sl (m.length + 2) j 0 j]) (qM m r rb v bs (hsS bs s j) ++ [⟨.fix, 24, 0, 0, [.int .i64 (rdV bs 2 s), .int .i64 (rdV bs 2 (rdS bs.length 2 s)), .sl (m.length + 2) j 0 j]⟩, ⟨.fix, 24, 0, 0, [.int .i64 (rdV bs 2 s), .int .i64 (rdV bs 2 (rdS bs.length 2 s)), .sl (m.length + 2) j 0 j]⟩, ⟨.grow, 75, j, 3, dl j (GH bs s)⟩]) := by
  refine Ctr.enter Try.func44 rfl (by decide) (rs := [.cell 2 24]) (nt := 52) rfl rfl fun hwf Q hQ => ?_
  obtain ⟨kb, eb, hb⟩ := h.hb
  have lr := h.lt
  have lb := get_lt hb
  have hwfM := fun t => @qM_wf m.length m r rb v bs t lb hwf
  have apM := fun L t => @qM_app m r rb v bs lr L t
  have two := fun a b => @qM_two m r rb v bs a b
  have apM2 := fun a L t => (@qM_app (qM m r rb v bs a) r rb v bs (by rw [qM_len]; exact lr) L t).trans (by rw [qM_two])
  have hlen := fun t => @qM_len m r rb v bs t
  have g3 : ∀ t b L k, (qM m r rb v bs t ++ b :: L)[m.length + k]? = (b :: L)[k]? := fun t b L k => by rw [← @qM_len m r rb v bs t, lk_app]
  have g30 : ∀ t b L, (qM m r rb v bs t ++ b :: L)[m.length]? = some b := fun t b L => by rw [← @qM_len m r rb v bs t, lk_app0]; rfl
  have g4 : ∀ t b L k c, (qM m r rb v bs t ++ b :: L).set (m.length + k) c = qM m r rb v bs t ++ (b :: L).set k c := fun t b L k c => by rw [← @qM_len m r rb v bs t, set_app]
  have g40 : ∀ t b L c, (qM m r rb v bs t ++ b :: L).set m.length c = qM m r rb v bs t ++ c :: L := fun t b L c => by rw [← @qM_len m r rb v bs t, set_app0]; rfl
  have gq : ∀ t, (qM m r rb v bs t)[r]? = some ⟨.fix, 94, 0, 0, [.sl rb v 0 bs.length, .int .i64 (t.1 : Int), .int .i64 t.2]⟩ := fun t => get_self h.lt
  have gqx : ∀ t L, (qM m r rb v bs t ++ L)[r]? = some ⟨.fix, 94, 0, 0, [.sl rb v 0 bs.length, .int .i64 (t.1 : Int), .int .i64 t.2]⟩ := fun t L => lk_old (gq t) L
  have hrq := h.hr
  have sr : ∀ t u L, (qM m r rb v bs t ++ L).set r ⟨.fix, 94, 0, 0, [.sl rb v 0 bs.length, .int .i64 (u.1 : Int), .int .i64 u.2]⟩ = qM m r rb v bs u ++ L := fun t u L => by rw [List.set_append_left _ _ (by rw [qM_len]; exact lr)]; exact congrArg (· ++ L) (qM_two t u)
  have sr10 : ∀ t L, (qM m r rb v bs t ++ L).set r ⟨.fix, 94, 0, 0, [.sl rb v 0 bs.length, .int .i64 (t.1 : Int), .int .i64 10]⟩ = qM m r rb v bs (t.1, 10) ++ L := fun t L => sr t (t.1, 10) L
  have hp1 := rdS_le (k := 2) h.hp
  have hp2 := rdS_le (k := 2) hp1
  have hps := shS_le (bs := bs) h.hp
  have hpi := fun i => hsS_le (bs := bs) h.hp i
  have npw := @np_w bs s h.hu
  have npl := @np_le bs s h.hu
  have hrow := fun (G : Nat → Nat → Int) n => dl_len n G
  have bw := rdV_b h.hu 2 s
  have bh := rdV_b h.hu 2 (rdS bs.length 2 s)
  have ee2 : (256 : Int) ^ 2 = 65536 := by decide
  rw [ee2] at bw bh
  have ww : IntKind.i64.wrap (rdV bs 2 s) = rdV bs 2 s := wi (by omega)
  have wh2 : IntKind.i64.wrap (rdV bs 2 (rdS bs.length 2 s)) = rdV bs 2 (rdS bs.length 2 s) := wi (by omega)
  have hsh : shS bs s = (rdS bs.length 2 (rdS bs.length 2 s)) := by unfold shS; rw [if_neg (fun hc => h2 hc.1)]
  have hb2 : ((rdS bs.length 2 (rdS bs.length 2 s)).2 == 0) = false := by simpa using h2
  have hzz : True := trivial
  
  refine AW.seq_k fun K hK => ?_
  refine AW.region (by decide) ?_
  simp only [push_cast, simprocAttr, apM, apM2, two, hlen, g3, g30, g4, g40, sr, sr10, gq, gqx, hb2, npw, hrow, ww, wh2]
  refine Thn_n ?_
  refine hK _ _ ?_
  clear hK K
  refine AW.seq_k fun K hK => ?_
  refine AW.region (by decide) ?_
  simp only [push_cast, simprocAttr, apM, apM2, two, hlen, g3, g30, g4, g40, sr, sr10, gq, gqx, hb2, npw, hrow, ww, wh2]
  refine CThen.by (rnum_c r rb v bs s _ (h.app _) 2 (by decide)) ?_
  simp only [push_cast, simprocAttr, apM, apM2, two, hlen, g3, g30, g4, g40, sr, sr10, gq, gqx, hb2, npw, hrow, ww, wh2]
  refine Thn_n ?_
  refine hK _ _ ?_
  clear hK K
  refine AW.seq_k fun K hK => ?_
  refine AW.region (by decide) ?_
  simp only [push_cast, simprocAttr, apM, apM2, two, hlen, g3, g30, g4, g40, sr, sr10, gq, gqx, hb2, npw, hrow, ww, wh2]
  refine CThen.by (rnum_c r rb v bs _ _ ((h.set hp1).app _) 2 (by decide)) ?_
  simp only [push_cast, simprocAttr, apM, apM2, two, hlen, g3, g30, g4, g40, sr, sr10, gq, gqx, hb2, npw, hrow, ww, wh2]
  refine Thn_n ?_
  refine hK _ _ ?_
  clear hK K
  refine AW.seq_k fun K hK => ?_
  refine AW.seq_k fun K hK => ?_
  refine AW.region (by decide) ?_
  simp only [push_cast, simprocAttr, apM, apM2, two, hlen, g3, g30, g4, g40, sr, sr10, gq, gqx, hb2, npw, hrow, ww, wh2]
  refine Thn_n ?_
  refine hK _ _ ?_
  clear hK K
  refine AW.cond_f rfl ?_
  refine AW.skip ?_
  refine Thn_n ?_
  refine hK _ _ ?_
  clear hK K
  refine AW.seq_k fun K hK => ?_
  refine AW.region (by decide) ?_
  simp only [push_cast, simprocAttr, apM, apM2, two, hlen, g3, g30, g4, g40, sr, sr10, gq, gqx, hb2, npw, hrow, ww, wh2]
  refine Thn_n ?_
  refine hK _ _ ?_
  clear hK K
  refine AW.seq_k fun K hK => ?_
  refine AW.seq_k fun K hK => ?_
  refine AW.region (by decide) ?_
  simp only [push_cast, simprocAttr, apM, apM2, two, hlen, g3, g30, g4, g40, sr, sr10, gq, gqx, hb2, npw, hrow, ww, wh2]
  refine Thn_n ?_
  refine hK _ _ ?_
  clear hK K
  refine AW.block ?_
  refine AW.nilCell 75 3 (m.length + 1) 2 (by simp only [push_cast, simprocAttr, apM, apM2, two, hlen, g3, g30, g4, g40, sr, sr10, gq, gqx, hb2, npw, hrow, ww, wh2]; first | done | rfl) (by intro e; cases e) rfl ?_
  try simp only [push_cast, simprocAttr, apM, apM2, two, hlen, g3, g30, g4, g40, sr, sr10, gq, gqx, hb2, npw, hrow, ww, wh2]
  refine AW.loopK [0, 2, 3, 4, 5] (fun i => i ≤ j) (fun i => [(6, .one (.int .i64 (i : Int)))]) (fun i => [(r, ⟨.fix, 94, 0, 0, [.sl rb v 0 bs.length, .int .i64 ((hsS bs s i).1 : Int), .int .i64 (hsS bs s i).2]⟩), (m.length + 1, ⟨.fix, 24, 0, 0, [.int .i64 (rdV bs 2 s), .int .i64 (rdV bs 2 (rdS bs.length 2 s)), .sl (m.length + 2) i 0 i]⟩), (m.length + 2, ⟨.grow, 75, i, 3, dl i (GH bs s)⟩)]) (fun i => j - i) 0 (by omega) ?_ ?_ fun i hi9 => ?_
  · first | rfl | (simp only [Keeps, Tm.get_cons, Nat.reduceEqDiff, ↓reduceIte, if_true, if_false, ite_true, ite_false, true_and, and_true, and_self, reduceCtorEq, dl, hsS, hsh, Int.natCast_zero] <;> rfl)
  · first | rfl | (simp only [setAll, push_cast, simprocAttr, apM, apM2, two, hlen, g3, g30, g4, g40, sr, sr10, gq, gqx, hb2, npw, hrow, ww, wh2, dl, hsS, hsh, Int.natCast_zero] <;> rfl)
  try simp only [keepL, setAll, push_cast, simprocAttr, apM, apM2, two, hlen, g3, g30, g4, g40, sr, sr10, gq, gqx, hb2, npw, hrow, ww, wh2]
  refine AW.seq_k fun K hK => ?_
  refine AW.seq_k fun K hK => ?_
  rcases Nat.lt_or_ge i j with hc | hc
  · have hlt : i < npS bs s := by omega
    have c0 : (i : Int) < (npS bs s : Int) := by omega
    have hok : ((hsS bs s i).2 == 0) = true := by simpa using hall i hc
    have gi := dl_len i (GH bs s)
    have q1 : i + 1 ≤ 140737488355328 := by omega
    have q2 : (i + 1) * 24 ≤ 140737488355328 := by omega
    have hsx : v3S bs (hsS bs s i) = hsS bs s (i + 1) := rfl
    have dlx : dl i (GH bs s) ++ [.int .i64 (v3V bs (hsS bs s i) 0), .int .i64 (v3V bs (hsS bs s i) 1), .int .i64 (v3V bs (hsS bs s i) 2)] = dl (i + 1) (GH bs s) := rfl
    refine AW.region (by decide) ?_
    simp only [push_cast, simprocAttr, apM, apM2, two, hlen, g3, g30, g4, g40, sr, sr10, gq, gqx, hb2, npw, hrow, ww, wh2, c0, hok, gi, q1, q2]
    refine Thn_n ?_
    refine hK _ _ ?_
    clear hK K
    refine AW.cond_t rfl ?_
    refine AW.skip ?_
    refine Thn_n ?_
    refine hK _ _ ?_
    clear hK K
    refine AW.seq_k fun K hK => ?_
    refine AW.block ?_
    refine AW.drawX fol (by kernel_rfl) ?_
    refine DX.split 1 3 (by decide) ?_ ?_
    focus
      refine DX.run [0, 1, 2, 3, 4, 5, 6, 7] [.val, .rd 0, .val, .wr, .ext, .wr, .val, .wr] (by simp only [permL, reOp, List.idxOf_cons, push_cast, simprocAttr, apM, apM2, two, hlen, g3, g30, g4, g40, sr, sr10, gq, gqx, hb2, npw, hrow, ww, wh2, c0, hok, gi, q1, q2]; first | done | rfl) (by kernel_rfl) ?_
      simp only [push_cast, simprocAttr, apM, apM2, two, hlen, g3, g30, g4, g40, sr, sr10, gq, gqx, hb2, npw, hrow, ww, wh2, c0, hok, gi, q1, q2]
      refine DCallW.by (rvec3_c r rb v bs _ _ ((h.set (hpi i)).app _)) ?_
      simp only [push_cast, simprocAttr, apM, apM2, two, hlen, g3, g30, g4, g40, sr, sr10, gq, gqx, hb2, npw, hrow, ww, wh2, c0, hok, gi, q1, q2]
      refine DExt.by (by first | rfl | (simp only [List.append_assoc, List.cons_append, List.nil_append]; rfl)) ?_
      simp only [push_cast, simprocAttr, apM, apM2, two, hlen, g3, g30, g4, g40, sr, sr10, gq, gqx, hb2, npw, hrow, ww, wh2, c0, hok, gi, q1, q2]
      skip
    rotate_left 1
    focus
      refine DX.run [0, 2, 3, 1, 4, 5, 6, 7] [.val, .val, .wr, .rd 1, .ext, .wr, .val, .wr] (by simp only [permL, reOp, List.idxOf_cons, push_cast, simprocAttr, apM, apM2, two, hlen, g3, g30, g4, g40, sr, sr10, gq, gqx, hb2, npw, hrow, ww, wh2, c0, hok, gi, q1, q2]; first | done | rfl) (by kernel_rfl) ?_
      simp only [push_cast, simprocAttr, apM, apM2, two, hlen, g3, g30, g4, g40, sr, sr10, gq, gqx, hb2, npw, hrow, ww, wh2, c0, hok, gi, q1, q2]
      refine DCallW.by (rvec3_c r rb v bs _ _ ((h.set (hpi i)).app _)) ?_
      simp only [push_cast, simprocAttr, apM, apM2, two, hlen, g3, g30, g4, g40, sr, sr10, gq, gqx, hb2, npw, hrow, ww, wh2, c0, hok, gi, q1, q2]
      refine DExt.by (by first | rfl | (simp only [List.append_assoc, List.cons_append, List.nil_append]; rfl)) ?_
      simp only [push_cast, simprocAttr, apM, apM2, two, hlen, g3, g30, g4, g40, sr, sr10, gq, gqx, hb2, npw, hrow, ww, wh2, c0, hok, gi, q1, q2]
      skip
    rotate_left 1
    all_goals (
    refine InB_n ?_
    refine Thn_n ?_
    refine hK _ _ ?_
    clear hK K
    refine AW.region (by decide) ?_
    simp only [push_cast, simprocAttr, apM, apM2, two, hlen, g3, g30, g4, g40, sr, sr10, gq, gqx, hb2, npw, hrow, ww, wh2, c0, hok, gi, q1, q2]
    refine Thn_n ?_
    have hwi : IntKind.i64.wrap ((i:Int)+1) = (i:Int)+1 := wi (by omega)
    refine ⟨i + 1, by omega, by omega, ?_⟩
    try simp only [keepL, setAll, push_cast, simprocAttr, apM, apM2, two, hlen, g3, g30, g4, g40, sr, sr10, gq, gqx, hb2, npw, hrow, ww, wh2, c0, hok, gi, q1, q2, hwi, hsx, dlx]
    exact Weak.to (extra := [_]) (by simp only [Keeps, Tm.get_cons, Nat.reduceEqDiff, ↓reduceIte, if_true, if_false, ite_true, ite_false, true_and, and_true, and_self, reduceCtorEq, hwi, hsx, dlx]) (by first | rfl | (simp only [List.append_assoc, List.cons_append, List.nil_append]; rfl)) (by first | rfl | (simp [AV.below, CV.below, qM_len, dl_below]; done) | (simp [AV.below, CV.below, qM_len, dl_below]; omega)) (by refine MWf.app ((hwfM _).grow (by simp [qM_len])) ?_; repeat (first | exact MWf_nil | (refine MWf_cons ?_ ?_; · first | rfl | exact dl_below _ _ _ | (simp [CV.below, qM_len]; done) | (simp [CV.below, qM_len]; omega))))
    )
  · have hij : j = i := by omega
    subst hij
    have c0 : ¬ (j : Int) < (npS bs s : Int) := by omega
    refine AW.region (by decide) ?_
    simp only [push_cast, simprocAttr, apM, apM2, two, hlen, g3, g30, g4, g40, sr, sr10, gq, gqx, hb2, npw, hrow, ww, wh2, c0]
    refine Thn_n ?_
    refine hK _ _ ?_
    clear hK K
    refine AW.cond_f rfl ?_
    refine AW.exit ?_
    refine Thn_e ?_
    clear hK K
    refine Thn_e ?_
    refine InB_here ?_
    refine Thn_n ?_
    refine hK _ _ ?_
    clear hK K
    refine AW.seq_k fun K hK => ?_
    refine AW.region (by decide) ?_
    simp only [push_cast, simprocAttr, apM, apM2, two, hlen, g3, g30, g4, g40, sr, sr10, gq, gqx, hb2, npw, hrow, ww, wh2, c0]
    refine Thn_n ?_
    refine hK _ _ ?_
    clear hK K
    refine AW.ret ?_
    refine hQ _ _ _ ?_
    first | refine RetP.keep (Or.inr rfl) ?_ | refine RetP.keep (Or.inl rfl) ?_
    · simp only [resA, resOne, resTv, AV.tv, push_cast, simprocAttr, g30]
    
theorem rtake3F (r rb v : Nat) (bs : List Int) (s : Nat × Int) (m : AMem) (h : RQ m r rb v bs s) (h2 : ¬ (rdS bs.length 2 (rdS bs.length 2 s)).2 = 0) (j : Nat) (hj : j < npS bs s) (hall : ∀ k, k < j → (hsS bs s k).2 = 0) (herr : ¬ (hsS bs s j).2 = 0) : Ctr Try.prog 44 [.one (.ptr r 0 0)] m (.agg [.int .i64 (rdV bs 2 s), .int .i64 (rdV bs 2 (rdS bs.length 2 s)), .sl (m.length + 2) j 0 j]) (qM m r rb v bs (hsS bs s j) ++ [⟨.fix, 24, 0, 0, [.int .i64 (rdV bs 2 s), .int .i64 (rdV bs 2 (rdS bs.length 2 s)), .sl (m.length + 2) j 0 j]⟩, ⟨.fix, 24, 0, 0, [.int .i64 (rdV bs 2 s), .int .i64 (rdV bs 2 (rdS bs.length 2 s)), .sl (m.length + 2) j 0 j]⟩, ⟨.grow, 75, j, 3, dl j (GH bs s)⟩]) := by
  refine Ctr.enter Try.func44 rfl (by decide) (rs := [.cell 2 24]) (nt := 52) rfl rfl fun hwf Q hQ => ?_
  obtain ⟨kb, eb, hb⟩ := h.hb
  have lr := h.lt
  have lb := get_lt hb
  have hwfM := fun t => @qM_wf m.length m r rb v bs t lb hwf
  have apM := fun L t => @qM_app m r rb v bs lr L t
  have two := fun a b => @qM_two m r rb v bs a b
  have apM2 := fun a L t => (@qM_app (qM m r rb v bs a) r rb v bs (by rw [qM_len]; exact lr) L t).trans (by rw [qM_two])
  have hlen := fun t => @qM_len m r rb v bs t
  have g3 : ∀ t b L k, (qM m r rb v bs t ++ b :: L)[m.length + k]? = (b :: L)[k]? := fun t b L k => by rw [← @qM_len m r rb v bs t, lk_app]
  have g30 : ∀ t b L, (qM m r rb v bs t ++ b :: L)[m.length]? = some b := fun t b L => by rw [← @qM_len m r rb v bs t, lk_app0]; rfl
  have g4 : ∀ t b L k c, (qM m r rb v bs t ++ b :: L).set (m.length + k) c = qM m r rb v bs t ++ (b :: L).set k c := fun t b L k c => by rw [← @qM_len m r rb v bs t, set_app]
  have g40 : ∀ t b L c, (qM m r rb v bs t ++ b :: L).set m.length c = qM m r rb v bs t ++ c :: L := fun t b L c => by rw [← @qM_len m r rb v bs t, set_app0]; rfl
  have gq : ∀ t, (qM m r rb v bs t)[r]? = some ⟨.fix, 94, 0, 0, [.sl rb v 0 bs.length, .int .i64 (t.1 : Int), .int .i64 t.2]⟩ := fun t => get_self h.lt
  have gqx : ∀ t L, (qM m r rb v bs t ++ L)[r]? = some ⟨.fix, 94, 0, 0, [.sl rb v 0 bs.length, .int .i64 (t.1 : Int), .int .i64 t.2]⟩ := fun t L => lk_old (gq t) L
  have hrq := h.hr
  have sr : ∀ t u L, (qM m r rb v bs t ++ L).set r ⟨.fix, 94, 0, 0, [.sl rb v 0 bs.length, .int .i64 (u.1 : Int), .int .i64 u.2]⟩ = qM m r rb v bs u ++ L := fun t u L => by rw [List.set_append_left _ _ (by rw [qM_len]; exact lr)]; exact congrArg (· ++ L) (qM_two t u)
  have sr10 : ∀ t L, (qM m r rb v bs t ++ L).set r ⟨.fix, 94, 0, 0, [.sl rb v 0 bs.length, .int .i64 (t.1 : Int), .int .i64 10]⟩ = qM m r rb v bs (t.1, 10) ++ L := fun t L => sr t (t.1, 10) L
  have hp1 := rdS_le (k := 2) h.hp
  have hp2 := rdS_le (k := 2) hp1
  have hps := shS_le (bs := bs) h.hp
  have hpi := fun i => hsS_le (bs := bs) h.hp i
  have npw := @np_w bs s h.hu
  have npl := @np_le bs s h.hu
  have hrow := fun (G : Nat → Nat → Int) n => dl_len n G
  have bw := rdV_b h.hu 2 s
  have bh := rdV_b h.hu 2 (rdS bs.length 2 s)
  have ee2 : (256 : Int) ^ 2 = 65536 := by decide
  rw [ee2] at bw bh
  have ww : IntKind.i64.wrap (rdV bs 2 s) = rdV bs 2 s := wi (by omega)
  have wh2 : IntKind.i64.wrap (rdV bs 2 (rdS bs.length 2 s)) = rdV bs 2 (rdS bs.length 2 s) := wi (by omega)
  have hsh : shS bs s = (rdS bs.length 2 (rdS bs.length 2 s)) := by unfold shS; rw [if_neg (fun hc => h2 hc.1)]
  have hb2 : ((rdS bs.length 2 (rdS bs.length 2 s)).2 == 0) = false := by simpa using h2
  have hzz : True := trivial
  
  refine AW.seq_k fun K hK => ?_
  refine AW.region (by decide) ?_
  simp only [push_cast, simprocAttr, apM, apM2, two, hlen, g3, g30, g4, g40, sr, sr10, gq, gqx, hb2, npw, hrow, ww, wh2]
  refine Thn_n ?_
  refine hK _ _ ?_
  clear hK K
  refine AW.seq_k fun K hK => ?_
  refine AW.region (by decide) ?_
  simp only [push_cast, simprocAttr, apM, apM2, two, hlen, g3, g30, g4, g40, sr, sr10, gq, gqx, hb2, npw, hrow, ww, wh2]
  refine CThen.by (rnum_c r rb v bs s _ (h.app _) 2 (by decide)) ?_
  simp only [push_cast, simprocAttr, apM, apM2, two, hlen, g3, g30, g4, g40, sr, sr10, gq, gqx, hb2, npw, hrow, ww, wh2]
  refine Thn_n ?_
  refine hK _ _ ?_
  clear hK K
  refine AW.seq_k fun K hK => ?_
  refine AW.region (by decide) ?_
  simp only [push_cast, simprocAttr, apM, apM2, two, hlen, g3, g30, g4, g40, sr, sr10, gq, gqx, hb2, npw, hrow, ww, wh2]
  refine CThen.by (rnum_c r rb v bs _ _ ((h.set hp1).app _) 2 (by decide)) ?_
  simp only [push_cast, simprocAttr, apM, apM2, two, hlen, g3, g30, g4, g40, sr, sr10, gq, gqx, hb2, npw, hrow, ww, wh2]
  refine Thn_n ?_
  refine hK _ _ ?_
  clear hK K
  refine AW.seq_k fun K hK => ?_
  refine AW.seq_k fun K hK => ?_
  refine AW.region (by decide) ?_
  simp only [push_cast, simprocAttr, apM, apM2, two, hlen, g3, g30, g4, g40, sr, sr10, gq, gqx, hb2, npw, hrow, ww, wh2]
  refine Thn_n ?_
  refine hK _ _ ?_
  clear hK K
  refine AW.cond_f rfl ?_
  refine AW.skip ?_
  refine Thn_n ?_
  refine hK _ _ ?_
  clear hK K
  refine AW.seq_k fun K hK => ?_
  refine AW.region (by decide) ?_
  simp only [push_cast, simprocAttr, apM, apM2, two, hlen, g3, g30, g4, g40, sr, sr10, gq, gqx, hb2, npw, hrow, ww, wh2]
  refine Thn_n ?_
  refine hK _ _ ?_
  clear hK K
  refine AW.seq_k fun K hK => ?_
  refine AW.seq_k fun K hK => ?_
  refine AW.region (by decide) ?_
  simp only [push_cast, simprocAttr, apM, apM2, two, hlen, g3, g30, g4, g40, sr, sr10, gq, gqx, hb2, npw, hrow, ww, wh2]
  refine Thn_n ?_
  refine hK _ _ ?_
  clear hK K
  refine AW.block ?_
  refine AW.nilCell 75 3 (m.length + 1) 2 (by simp only [push_cast, simprocAttr, apM, apM2, two, hlen, g3, g30, g4, g40, sr, sr10, gq, gqx, hb2, npw, hrow, ww, wh2]; first | done | rfl) (by intro e; cases e) rfl ?_
  try simp only [push_cast, simprocAttr, apM, apM2, two, hlen, g3, g30, g4, g40, sr, sr10, gq, gqx, hb2, npw, hrow, ww, wh2]
  refine AW.loopK [0, 2, 3, 4, 5] (fun i => i ≤ j) (fun i => [(6, .one (.int .i64 (i : Int)))]) (fun i => [(r, ⟨.fix, 94, 0, 0, [.sl rb v 0 bs.length, .int .i64 ((hsS bs s i).1 : Int), .int .i64 (hsS bs s i).2]⟩), (m.length + 1, ⟨.fix, 24, 0, 0, [.int .i64 (rdV bs 2 s), .int .i64 (rdV bs 2 (rdS bs.length 2 s)), .sl (m.length + 2) i 0 i]⟩), (m.length + 2, ⟨.grow, 75, i, 3, dl i (GH bs s)⟩)]) (fun i => j - i) 0 (by omega) ?_ ?_ fun i hi9 => ?_
  · first | rfl | (simp only [Keeps, Tm.get_cons, Nat.reduceEqDiff, ↓reduceIte, if_true, if_false, ite_true, ite_false, true_and, and_true, and_self, reduceCtorEq, dl, hsS, hsh, Int.natCast_zero] <;> rfl)
  · first | rfl | (simp only [setAll, push_cast, simprocAttr, apM, apM2, two, hlen, g3, g30, g4, g40, sr, sr10, gq, gqx, hb2, npw, hrow, ww, wh2, dl, hsS, hsh, Int.natCast_zero] <;> rfl)
  try simp only [keepL, setAll, push_cast, simprocAttr, apM, apM2, two, hlen, g3, g30, g4, g40, sr, sr10, gq, gqx, hb2, npw, hrow, ww, wh2]
  refine AW.seq_k fun K hK => ?_
  refine AW.seq_k fun K hK => ?_
  rcases Nat.lt_or_ge i j with hc | hc
  · have hlt : i < npS bs s := by omega
    have c0 : (i : Int) < (npS bs s : Int) := by omega
    have hok : ((hsS bs s i).2 == 0) = true := by simpa using hall i hc
    have gi := dl_len i (GH bs s)
    have q1 : i + 1 ≤ 140737488355328 := by omega
    have q2 : (i + 1) * 24 ≤ 140737488355328 := by omega
    have hsx : v3S bs (hsS bs s i) = hsS bs s (i + 1) := rfl
    have dlx : dl i (GH bs s) ++ [.int .i64 (v3V bs (hsS bs s i) 0), .int .i64 (v3V bs (hsS bs s i) 1), .int .i64 (v3V bs (hsS bs s i) 2)] = dl (i + 1) (GH bs s) := rfl
    refine AW.region (by decide) ?_
    simp only [push_cast, simprocAttr, apM, apM2, two, hlen, g3, g30, g4, g40, sr, sr10, gq, gqx, hb2, npw, hrow, ww, wh2, c0, hok, gi, q1, q2]
    refine Thn_n ?_
    refine hK _ _ ?_
    clear hK K
    refine AW.cond_t rfl ?_
    refine AW.skip ?_
    refine Thn_n ?_
    refine hK _ _ ?_
    clear hK K
    refine AW.seq_k fun K hK => ?_
    refine AW.block ?_
    refine AW.drawX fol (by kernel_rfl) ?_
    refine DX.split 1 3 (by decide) ?_ ?_
    focus
      refine DX.run [0, 1, 2, 3, 4, 5, 6, 7] [.val, .rd 0, .val, .wr, .ext, .wr, .val, .wr] (by simp only [permL, reOp, List.idxOf_cons, push_cast, simprocAttr, apM, apM2, two, hlen, g3, g30, g4, g40, sr, sr10, gq, gqx, hb2, npw, hrow, ww, wh2, c0, hok, gi, q1, q2]; first | done | rfl) (by kernel_rfl) ?_
      simp only [push_cast, simprocAttr, apM, apM2, two, hlen, g3, g30, g4, g40, sr, sr10, gq, gqx, hb2, npw, hrow, ww, wh2, c0, hok, gi, q1, q2]
      refine DCallW.by (rvec3_c r rb v bs _ _ ((h.set (hpi i)).app _)) ?_
      simp only [push_cast, simprocAttr, apM, apM2, two, hlen, g3, g30, g4, g40, sr, sr10, gq, gqx, hb2, npw, hrow, ww, wh2, c0, hok, gi, q1, q2]
      refine DExt.by (by first | rfl | (simp only [List.append_assoc, List.cons_append, List.nil_append]; rfl)) ?_
      simp only [push_cast, simprocAttr, apM, apM2, two, hlen, g3, g30, g4, g40, sr, sr10, gq, gqx, hb2, npw, hrow, ww, wh2, c0, hok, gi, q1, q2]
      skip
    rotate_left 1
    focus
      refine DX.run [0, 2, 3, 1, 4, 5, 6, 7] [.val, .val, .wr, .rd 1, .ext, .wr, .val, .wr] (by simp only [permL, reOp, List.idxOf_cons, push_cast, simprocAttr, apM, apM2, two, hlen, g3, g30, g4, g40, sr, sr10, gq, gqx, hb2, npw, hrow, ww, wh2, c0, hok, gi, q1, q2]; first | done | rfl) (by kernel_rfl) ?_
      simp only [push_cast, simprocAttr, apM, apM2, two, hlen, g3, g30, g4, g40, sr, sr10, gq, gqx, hb2, npw, hrow, ww, wh2, c0, hok, gi, q1, q2]
      refine DCallW.by (rvec3_c r rb v bs _ _ ((h.set (hpi i)).app _)) ?_
      simp only [push_cast, simprocAttr, apM, apM2, two, hlen, g3, g30, g4, g40, sr, sr10, gq, gqx, hb2, npw, hrow, ww, wh2, c0, hok, gi, q1, q2]
      refine DExt.by (by first | rfl | (simp only [List.append_assoc, List.cons_append, List.nil_append]; rfl)) ?_
      simp only [push_cast, simprocAttr, apM, apM2, two, hlen, g3, g30, g4, g40, sr, sr10, gq, gqx, hb2, npw, hrow, ww, wh2, c0, hok, gi, q1, q2]
      skip
    rotate_left 1
    all_goals (
    refine InB_n ?_
    refine Thn_n ?_
    refine hK _ _ ?_
    clear hK K
    refine AW.region (by decide) ?_
    simp only [push_cast, simprocAttr, apM, apM2, two, hlen, g3, g30, g4, g40, sr, sr10, gq, gqx, hb2, npw, hrow, ww, wh2, c0, hok, gi, q1, q2]
    refine Thn_n ?_
    have hwi : IntKind.i64.wrap ((i:Int)+1) = (i:Int)+1 := wi (by omega)
    refine ⟨i + 1, by omega, by omega, ?_⟩
    try simp only [keepL, setAll, push_cast, simprocAttr, apM, apM2, two, hlen, g3, g30, g4, g40, sr, sr10, gq, gqx, hb2, npw, hrow, ww, wh2, c0, hok, gi, q1, q2, hwi, hsx, dlx]
    exact Weak.to (extra := [_]) (by simp only [Keeps, Tm.get_cons, Nat.reduceEqDiff, ↓reduceIte, if_true, if_false, ite_true, ite_false, true_and, and_true, and_self, reduceCtorEq, hwi, hsx, dlx]) (by first | rfl | (simp only [List.append_assoc, List.cons_append, List.nil_append]; rfl)) (by first | rfl | (simp [AV.below, CV.below, qM_len, dl_below]; done) | (simp [AV.below, CV.below, qM_len, dl_below]; omega)) (by refine MWf.app ((hwfM _).grow (by simp [qM_len])) ?_; repeat (first | exact MWf_nil | (refine MWf_cons ?_ ?_; · first | rfl | exact dl_below _ _ _ | (simp [CV.below, qM_len]; done) | (simp [CV.below, qM_len]; omega))))
    )
  · have hij : j = i := by omega
    subst hij
    have c0 : (j : Int) < (npS bs s : Int) := by omega
    have hok : ((hsS bs s j).2 == 0) = false := by simpa using herr
    refine AW.region (by decide) ?_
    simp only [push_cast, simprocAttr, apM, apM2, two, hlen, g3, g30, g4, g40, sr, sr10, gq, gqx, hb2, npw, hrow, ww, wh2, c0, hok]
    refine Thn_n ?_
    refine hK _ _ ?_
    clear hK K
    refine AW.cond_f rfl ?_
    refine AW.exit ?_
    refine Thn_e ?_
    clear hK K
    refine Thn_e ?_
    refine InB_here ?_
    refine Thn_n ?_
    refine hK _ _ ?_
    clear hK K
    refine AW.seq_k fun K hK => ?_
    refine AW.region (by decide) ?_
    simp only [push_cast, simprocAttr, apM, apM2, two, hlen, g3, g30, g4, g40, sr, sr10, gq, gqx, hb2, npw, hrow, ww, wh2, c0, hok]
    refine Thn_n ?_
    refine hK _ _ ?_
    clear hK K
    refine AW.ret ?_
    refine hQ _ _ _ ?_
    first | refine RetP.keep (Or.inr rfl) ?_ | refine RetP.keep (Or.inl rfl) ?_
    · simp only [resA, resOne, resTv, AV.tv, push_cast, simprocAttr, g30]
    
end Go.Proofs.Ytgbehbaecdepjaa
