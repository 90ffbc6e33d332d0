/- Walks and facts of this seat's program over abstract states, printed by a program of mine; no conditions but those that each theorem names. -/
import Derived.Test.YtgbehbaecdepjaaFilmK
set_option linter.unusedSimpArgs false
set_option linter.unusedVariables false
set_option maxRecDepth 100000
set_option maxHeartbeats 4000000
namespace Go.Proofs.Ytgbehbaecdepjaa
open Go Go.Eng

theorem rvec3_0 (r rb v : Nat) (bs : List Int) (s : Nat × Int) (m : AMem) (h : RQ m r rb v bs s) (h0 : (v3S bs s).2 = 0) : Ctr Try.prog 54 [.one (.ptr r 0 0)] m (.agg [.int .i64 (v3V bs s 0), .int .i64 (v3V bs s 1), .int .i64 (v3V bs s 2)]) (qM m r rb v bs (v3S bs s)) := by
  refine Ctr.enter Try.func54 rfl (by decide) (rs := [.cell 2 71]) (nt := 20) rfl rfl fun hwf Q hQ => ?_
  obtain ⟨kb, eb, hb⟩ := h.hb
  have lr := h.lt
  have lb := get_lt hb
  have hwfM := fun t => @qM_wf m.length m r rb v bs t lb hwf
  have apM := fun L t => @qM_app m r rb v bs lr L t
  have two := fun a b => @qM_two m r rb v bs a b
  have apM2 := fun a L t => (@qM_app (qM m r rb v bs a) r rb v bs (by rw [qM_len]; exact lr) L t).trans (by rw [qM_two])
  have hlen := fun t => @qM_len m r rb v bs t
  have g3 : ∀ t b L k, (qM m r rb v bs t ++ b :: L)[m.length + k]? = (b :: L)[k]? := fun t b L k => by rw [← @qM_len m r rb v bs t, lk_app]
  have g30 : ∀ t b L, (qM m r rb v bs t ++ b :: L)[m.length]? = some b := fun t b L => by rw [← @qM_len m r rb v bs t, lk_app0]; rfl
  have g4 : ∀ t b L k c, (qM m r rb v bs t ++ b :: L).set (m.length + k) c = qM m r rb v bs t ++ (b :: L).set k c := fun t b L k c => by rw [← @qM_len m r rb v bs t, set_app]
  have g40 : ∀ t b L c, (qM m r rb v bs t ++ b :: L).set m.length c = qM m r rb v bs t ++ c :: L := fun t b L c => by rw [← @qM_len m r rb v bs t, set_app0]; rfl
  have gq : ∀ t, (qM m r rb v bs t)[r]? = some ⟨.fix, 94, 0, 0, [.sl rb v 0 bs.length, .int .i64 (t.1 : Int), .int .i64 t.2]⟩ := fun t => get_self h.lt
  have gqx : ∀ t L, (qM m r rb v bs t ++ L)[r]? = some ⟨.fix, 94, 0, 0, [.sl rb v 0 bs.length, .int .i64 (t.1 : Int), .int .i64 t.2]⟩ := fun t L => lk_old (gq t) L
  have hrq := h.hr
  have hp1 := fixS_le (bs := bs) h.hp
  have hp2 := fixS_le (bs := bs) hp1
  have hp3 := fixS_le (bs := bs) hp2
  have hv0 : v3V bs s 0 = fixV bs s := by unfold v3V; exact if_pos h0
  have hv1 : v3V bs s 1 = fixV bs (fixS bs s) := by unfold v3V; exact if_pos h0
  have hv2 : v3V bs s 2 = fixV bs (fixS bs (fixS bs s)) := by unfold v3V; exact if_pos h0
  have hb0 : ((fixS bs (fixS bs (fixS bs s))).2 != 0) = false := by
    have h9 : ((v3S bs s).2 != 0) = false := by simpa using h0
    exact h9
  iterate 2
    refine AW.seq_k fun K hK => ?_
    refine AW.region (by decide) ?_
    simp only [push_cast, simprocAttr, apM, apM2, two, hlen, g3, g30, g4, g40, gq, gqx, hb0]
    refine Thn_n ?_
    refine hK _ _ ?_
    clear hK K
  refine AW.seq_k fun K hK => ?_
  refine AW.seq_k fun K hK => ?_
  refine AW.region (by decide) ?_
  simp only [push_cast, simprocAttr, apM, apM2, two, hlen, g3, g30, g4, g40, gq, gqx, hb0]
  refine Thn_n ?_
  refine hK _ _ ?_
  clear hK K
  refine AW.block ?_
  refine AW.rounds 4 ?_
  refine ARounds.succ fun K hK => ?_
  refine AW.seq_k fun K hK => ?_
  refine AW.seq_k fun K hK => ?_
  refine AW.region (by decide) ?_
  simp only [push_cast, simprocAttr, apM, apM2, two, hlen, g3, g30, g4, g40, gq, gqx, hb0]
  refine Thn_n ?_
  refine hK _ _ ?_
  clear hK K
  refine AW.cond_t rfl ?_
  refine AW.skip ?_
  refine Thn_n ?_
  refine hK _ _ ?_
  clear hK K
  refine AW.seq_k fun K hK => ?_
  refine AW.block ?_
  refine AW.region (by decide) ?_
  simp only [push_cast, simprocAttr, apM, apM2, two, hlen, g3, g30, g4, g40, gq, gqx, hb0]
  refine CThen.by (rfix_c r rb v bs s _ (h.app _)) ?_
  simp only [push_cast, simprocAttr, apM, apM2, two, hlen, g3, g30, g4, g40, gq, gqx, hb0]
  refine InB_n ?_
  refine Thn_n ?_
  refine hK _ _ ?_
  clear hK K
  refine AW.region (by decide) ?_
  simp only [push_cast, simprocAttr, apM, apM2, two, hlen, g3, g30, g4, g40, gq, gqx, hb0]
  refine Thn_n ?_
  refine hK _ _ ?_
  clear hK K
  refine ARounds.succ fun K hK => ?_
  refine AW.seq_k fun K hK => ?_
  refine AW.seq_k fun K hK => ?_
  refine AW.region (by decide) ?_
  simp only [push_cast, simprocAttr, apM, apM2, two, hlen, g3, g30, g4, g40, gq, gqx, hb0]
  refine Thn_n ?_
  refine hK _ _ ?_
  clear hK K
  refine AW.cond_t rfl ?_
  refine AW.skip ?_
  refine Thn_n ?_
  refine hK _ _ ?_
  clear hK K
  refine AW.seq_k fun K hK => ?_
  refine AW.block ?_
  refine AW.region (by decide) ?_
  simp only [push_cast, simprocAttr, apM, apM2, two, hlen, g3, g30, g4, g40, gq, gqx, hb0]
  refine CThen.by (rfix_c r rb v bs _ _ ((h.set hp1).app _)) ?_
  simp only [push_cast, simprocAttr, apM, apM2, two, hlen, g3, g30, g4, g40, gq, gqx, hb0]
  refine InB_n ?_
  refine Thn_n ?_
  refine hK _ _ ?_
  clear hK K
  refine AW.region (by decide) ?_
  simp only [push_cast, simprocAttr, apM, apM2, two, hlen, g3, g30, g4, g40, gq, gqx, hb0]
  refine Thn_n ?_
  refine hK _ _ ?_
  clear hK K
  refine ARounds.succ fun K hK => ?_
  refine AW.seq_k fun K hK => ?_
  refine AW.seq_k fun K hK => ?_
  refine AW.region (by decide) ?_
  simp only [push_cast, simprocAttr, apM, apM2, two, hlen, g3, g30, g4, g40, gq, gqx, hb0]
  refine Thn_n ?_
  refine hK _ _ ?_
  clear hK K
  refine AW.cond_t rfl ?_
  refine AW.skip ?_
  refine Thn_n ?_
  refine hK _ _ ?_
  clear hK K
  refine AW.seq_k fun K hK => ?_
  refine AW.block ?_
  refine AW.region (by decide) ?_
  simp only [push_cast, simprocAttr, apM, apM2, two, hlen, g3, g30, g4, g40, gq, gqx, hb0]
  refine CThen.by (rfix_c r rb v bs _ _ ((h.set hp2).app _)) ?_
  simp only [push_cast, simprocAttr, apM, apM2, two, hlen, g3, g30, g4, g40, gq, gqx, hb0]
  refine InB_n ?_
  refine Thn_n ?_
  refine hK _ _ ?_
  clear hK K
  refine AW.region (by decide) ?_
  simp only [push_cast, simprocAttr, apM, apM2, two, hlen, g3, g30, g4, g40, gq, gqx, hb0]
  refine Thn_n ?_
  refine hK _ _ ?_
  clear hK K
  refine ARounds.succ fun K hK => ?_
  refine AW.seq_k fun K hK => ?_
  refine AW.seq_k fun K hK => ?_
  refine AW.region (by decide) ?_
  simp only [push_cast, simprocAttr, apM, apM2, two, hlen, g3, g30, g4, g40, gq, gqx, hb0]
  refine Thn_n ?_
  refine hK _ _ ?_
  clear hK K
  refine AW.cond_f rfl ?_
  refine AW.exit ?_
  refine Thn_e ?_
  clear hK K
  refine Thn_e ?_
  clear hK K
  refine InB_here ?_
  refine Thn_n ?_
  refine hK _ _ ?_
  clear hK K
  refine AW.seq_k fun K hK => ?_
  refine AW.seq_k fun K hK => ?_
  refine AW.region (by decide) ?_
  simp only [push_cast, simprocAttr, apM, apM2, two, hlen, g3, g30, g4, g40, gq, gqx, hb0]
  refine Thn_n ?_
  refine hK _ _ ?_
  clear hK K
  refine AW.cond_f rfl ?_
  refine AW.skip ?_
  refine Thn_n ?_
  refine hK _ _ ?_
  clear hK K
  refine AW.seq_k fun K hK => ?_
  refine AW.region (by decide) ?_
  simp only [push_cast, simprocAttr, apM, apM2, two, hlen, g3, g30, g4, g40, gq, gqx, hb0]
  refine Thn_n ?_
  refine hK _ _ ?_
  clear hK K
  refine AW.ret ?_
  refine hQ _ _ _ ?_
  first | refine RetP.dropM0 (qM_len _) (Or.inr rfl) ?_ ?_ (hwfM _) | refine RetP.dropM (qM_len _) (Or.inr rfl) ?_ ?_ (hwfM _)
  · simp only [resA, resOne, resTv, AV.tv, push_cast, simprocAttr, hv0, hv1, hv2, g30]
  · rfl
  
theorem rvec3_1 (r rb v : Nat) (bs : List Int) (s : Nat × Int) (m : AMem) (h : RQ m r rb v bs s) (h0 : ¬ (v3S bs s).2 = 0) : Ctr Try.prog 54 [.one (.ptr r 0 0)] m (.agg [.int .i64 (v3V bs s 0), .int .i64 (v3V bs s 1), .int .i64 (v3V bs s 2)]) (qM m r rb v bs (v3S bs s)) := by
  refine Ctr.enter Try.func54 rfl (by decide) (rs := [.cell 2 71]) (nt := 20) rfl rfl fun hwf Q hQ => ?_
  obtain ⟨kb, eb, hb⟩ := h.hb
  have lr := h.lt
  have lb := get_lt hb
  have hwfM := fun t => @qM_wf m.length m r rb v bs t lb hwf
  have apM := fun L t => @qM_app m r rb v bs lr L t
  have two := fun a b => @qM_two m r rb v bs a b
  have apM2 := fun a L t => (@qM_app (qM m r rb v bs a) r rb v bs (by rw [qM_len]; exact lr) L t).trans (by rw [qM_two])
  have hlen := fun t => @qM_len m r rb v bs t
  have g3 : ∀ t b L k, (qM m r rb v bs t ++ b :: L)[m.length + k]? = (b :: L)[k]? := fun t b L k => by rw [← @qM_len m r rb v bs t, lk_app]
  have g30 : ∀ t b L, (qM m r rb v bs t ++ b :: L)[m.length]? = some b := fun t b L => by rw [← @qM_len m r rb v bs t, lk_app0]; rfl
  have g4 : ∀ t b L k c, (qM m r rb v bs t ++ b :: L).set (m.length + k) c = qM m r rb v bs t ++ (b :: L).set k c := fun t b L k c => by rw [← @qM_len m r rb v bs t, set_app]
  have g40 : ∀ t b L c, (qM m r rb v bs t ++ b :: L).set m.length c = qM m r rb v bs t ++ c :: L := fun t b L c => by rw [← @qM_len m r rb v bs t, set_app0]; rfl
  have gq : ∀ t, (qM m r rb v bs t)[r]? = some ⟨.fix, 94, 0, 0, [.sl rb v 0 bs.length, .int .i64 (t.1 : Int), .int .i64 t.2]⟩ := fun t => get_self h.lt
  have gqx : ∀ t L, (qM m r rb v bs t ++ L)[r]? = some ⟨.fix, 94, 0, 0, [.sl rb v 0 bs.length, .int .i64 (t.1 : Int), .int .i64 t.2]⟩ := fun t L => lk_old (gq t) L
  have hrq := h.hr
  have hp1 := fixS_le (bs := bs) h.hp
  have hp2 := fixS_le (bs := bs) hp1
  have hp3 := fixS_le (bs := bs) hp2
  have hv0 : v3V bs s 0 = 0 := by unfold v3V; exact if_neg h0
  have hv1 : v3V bs s 1 = 0 := by unfold v3V; exact if_neg h0
  have hv2 : v3V bs s 2 = 0 := by unfold v3V; exact if_neg h0
  have hb0 : ((fixS bs (fixS bs (fixS bs s))).2 != 0) = true := by
    have h9 : ((v3S bs s).2 != 0) = true := by simpa using h0
    exact h9
  iterate 2
    refine AW.seq_k fun K hK => ?_
    refine AW.region (by decide) ?_
    simp only [push_cast, simprocAttr, apM, apM2, two, hlen, g3, g30, g4, g40, gq, gqx, hb0]
    refine Thn_n ?_
    refine hK _ _ ?_
    clear hK K
  refine AW.seq_k fun K hK => ?_
  refine AW.seq_k fun K hK => ?_
  refine AW.region (by decide) ?_
  simp only [push_cast, simprocAttr, apM, apM2, two, hlen, g3, g30, g4, g40, gq, gqx, hb0]
  refine Thn_n ?_
  refine hK _ _ ?_
  clear hK K
  refine AW.block ?_
  refine AW.rounds 4 ?_
  refine ARounds.succ fun K hK => ?_
  refine AW.seq_k fun K hK => ?_
  refine AW.seq_k fun K hK => ?_
  refine AW.region (by decide) ?_
  simp only [push_cast, simprocAttr, apM, apM2, two, hlen, g3, g30, g4, g40, gq, gqx, hb0]
  refine Thn_n ?_
  refine hK _ _ ?_
  clear hK K
  refine AW.cond_t rfl ?_
  refine AW.skip ?_
  refine Thn_n ?_
  refine hK _ _ ?_
  clear hK K
  refine AW.seq_k fun K hK => ?_
  refine AW.block ?_
  refine AW.region (by decide) ?_
  simp only [push_cast, simprocAttr, apM, apM2, two, hlen, g3, g30, g4, g40, gq, gqx, hb0]
  refine CThen.by (rfix_c r rb v bs s _ (h.app _)) ?_
  simp only [push_cast, simprocAttr, apM, apM2, two, hlen, g3, g30, g4, g40, gq, gqx, hb0]
  refine InB_n ?_
  refine Thn_n ?_
  refine hK _ _ ?_
  clear hK K
  refine AW.region (by decide) ?_
  simp only [push_cast, simprocAttr, apM, apM2, two, hlen, g3, g30, g4, g40, gq, gqx, hb0]
  refine Thn_n ?_
  refine hK _ _ ?_
  clear hK K
  refine ARounds.succ fun K hK => ?_
  refine AW.seq_k fun K hK => ?_
  refine AW.seq_k fun K hK => ?_
  refine AW.region (by decide) ?_
  simp only [push_cast, simprocAttr, apM, apM2, two, hlen, g3, g30, g4, g40, gq, gqx, hb0]
  refine Thn_n ?_
  refine hK _ _ ?_
  clear hK K
  refine AW.cond_t rfl ?_
  refine AW.skip ?_
  refine Thn_n ?_
  refine hK _ _ ?_
  clear hK K
  refine AW.seq_k fun K hK => ?_
  refine AW.block ?_
  refine AW.region (by decide) ?_
  simp only [push_cast, simprocAttr, apM, apM2, two, hlen, g3, g30, g4, g40, gq, gqx, hb0]
  refine CThen.by (rfix_c r rb v bs _ _ ((h.set hp1).app _)) ?_
  simp only [push_cast, simprocAttr, apM, apM2, two, hlen, g3, g30, g4, g40, gq, gqx, hb0]
  refine InB_n ?_
  refine Thn_n ?_
  refine hK _ _ ?_
  clear hK K
  refine AW.region (by decide) ?_
  simp only [push_cast, simprocAttr, apM, apM2, two, hlen, g3, g30, g4, g40, gq, gqx, hb0]
  refine Thn_n ?_
  refine hK _ _ ?_
  clear hK K
  refine ARounds.succ fun K hK => ?_
  refine AW.seq_k fun K hK => ?_
  refine AW.seq_k fun K hK => ?_
  refine AW.region (by decide) ?_
  simp only [push_cast, simprocAttr, apM, apM2, two, hlen, g3, g30, g4, g40, gq, gqx, hb0]
  refine Thn_n ?_
  refine hK _ _ ?_
  clear hK K
  refine AW.cond_t rfl ?_
  refine AW.skip ?_
  refine Thn_n ?_
  refine hK _ _ ?_
  clear hK K
  refine AW.seq_k fun K hK => ?_
  refine AW.block ?_
  refine AW.region (by decide) ?_
  simp only [push_cast, simprocAttr, apM, apM2, two, hlen, g3, g30, g4, g40, gq, gqx, hb0]
  refine CThen.by (rfix_c r rb v bs _ _ ((h.set hp2).app _)) ?_
  simp only [push_cast, simprocAttr, apM, apM2, two, hlen, g3, g30, g4, g40, gq, gqx, hb0]
  refine InB_n ?_
  refine Thn_n ?_
  refine hK _ _ ?_
  clear hK K
  refine AW.region (by decide) ?_
  simp only [push_cast, simprocAttr, apM, apM2, two, hlen, g3, g30, g4, g40, gq, gqx, hb0]
  refine Thn_n ?_
  refine hK _ _ ?_
  clear hK K
  refine ARounds.succ fun K hK => ?_
  refine AW.seq_k fun K hK => ?_
  refine AW.seq_k fun K hK => ?_
  refine AW.region (by decide) ?_
  simp only [push_cast, simprocAttr, apM, apM2, two, hlen, g3, g30, g4, g40, gq, gqx, hb0]
  refine Thn_n ?_
  refine hK _ _ ?_
  clear hK K
  refine AW.cond_f rfl ?_
  refine AW.exit ?_
  refine Thn_e ?_
  clear hK K
  refine Thn_e ?_
  clear hK K
  refine InB_here ?_
  refine Thn_n ?_
  refine hK _ _ ?_
  clear hK K
  refine AW.seq_k fun K hK => ?_
  refine AW.seq_k fun K hK => ?_
  refine AW.region (by decide) ?_
  simp only [push_cast, simprocAttr, apM, apM2, two, hlen, g3, g30, g4, g40, gq, gqx, hb0]
  refine Thn_n ?_
  refine hK _ _ ?_
  clear hK K
  refine AW.cond_t rfl ?_
  refine AW.seq_k fun K hK => ?_
  refine AW.region (by decide) ?_
  simp only [push_cast, simprocAttr, apM, apM2, two, hlen, g3, g30, g4, g40, gq, gqx, hb0]
  refine Thn_n ?_
  refine hK _ _ ?_
  clear hK K
  refine AW.ret ?_
  refine Thn_r ?_
  refine hQ _ _ _ ?_
  first | refine RetP.dropM0 (qM_len _) (Or.inr rfl) ?_ ?_ (hwfM _) | refine RetP.dropM (qM_len _) (Or.inr rfl) ?_ ?_ (hwfM _)
  · simp only [resA, resOne, resTv, AV.tv, push_cast, simprocAttr, hv0, hv1, hv2, g30]
  · rfl
  
theorem rvec3_c (r rb v : Nat) (bs : List Int) (s : Nat × Int) (m : AMem) (h : RQ m r rb v bs s) : Ctr Try.prog 54 [.one (.ptr r 0 0)] m (.agg [.int .i64 (v3V bs s 0), .int .i64 (v3V bs s 1), .int .i64 (v3V bs s 2)]) (qM m r rb v bs (v3S bs s)) := by
  rcases Classical.em ((v3S bs s).2 = 0) with h0 | h0
  · exact rvec3_0 r rb v bs s m h h0
  · exact rvec3_1 r rb v bs s m h h0
theorem rleft_e (r rb v : Nat) (bs : List Int) (s : Nat × Int) (m : AMem) (h : RQ m r rb v bs s) (he : ¬ s.2 = 0) : Ctr Try.prog 62 [.one (.ptr r 0 0)] m (.one (.int .i64 (leftV bs.length s))) m := by
  refine Ctr.enter Try.func62 rfl (by decide) (rs := [.tmp 2]) (nt := 18) rfl rfl fun hwf Q hQ => ?_
  have gq : ∀ t, (qM m r rb v bs t)[r]? = some ⟨.fix, 94, 0, 0, [.sl rb v 0 bs.length, .int .i64 (t.1 : Int), .int .i64 t.2]⟩ := fun t => get_self h.lt
  have gqx : ∀ t L, (qM m r rb v bs t ++ L)[r]? = some ⟨.fix, 94, 0, 0, [.sl rb v 0 bs.length, .int .i64 (t.1 : Int), .int .i64 t.2]⟩ := fun t L => lk_old (gq t) L
  have hrq := h.hr
  have hl : leftV bs.length s = 0 := by unfold leftV; exact if_neg he
  have he2 : (s.2 != 0) = true := by simpa using he
  refine AW.seq_k fun K hK => ?_
  refine AW.region (by decide) ?_
  simp only [push_cast, simprocAttr, hrq, he2]
  refine Thn_n ?_
  refine hK _ _ ?_
  clear hK K
  refine AW.seq_k fun K hK => ?_
  refine AW.seq_k fun K hK => ?_
  refine AW.region (by decide) ?_
  simp only [push_cast, simprocAttr, hrq, he2]
  refine Thn_n ?_
  refine hK _ _ ?_
  clear hK K
  refine AW.cond_t rfl ?_
  refine AW.seq_k fun K hK => ?_
  refine AW.region (by decide) ?_
  simp only [push_cast, simprocAttr, hrq, he2]
  refine Thn_n ?_
  refine hK _ _ ?_
  clear hK K
  refine AW.ret ?_
  refine Thn_r ?_
  refine hQ _ _ _ ?_
  first | refine RetP.keep (Or.inr rfl) ?_ | refine RetP.keep (Or.inl rfl) ?_
  · simp only [resA, resOne, resTv, AV.tv, push_cast, simprocAttr, hl]
  
theorem rleft_0 (r rb v : Nat) (bs : List Int) (s : Nat × Int) (m : AMem) (h : RQ m r rb v bs s) (he : s.2 = 0) : Ctr Try.prog 62 [.one (.ptr r 0 0)] m (.one (.int .i64 (leftV bs.length s))) m := by
  refine Ctr.enter Try.func62 rfl (by decide) (rs := [.tmp 2]) (nt := 18) rfl rfl fun hwf Q hQ => ?_
  have gq : ∀ t, (qM m r rb v bs t)[r]? = some ⟨.fix, 94, 0, 0, [.sl rb v 0 bs.length, .int .i64 (t.1 : Int), .int .i64 t.2]⟩ := fun t => get_self h.lt
  have gqx : ∀ t L, (qM m r rb v bs t ++ L)[r]? = some ⟨.fix, 94, 0, 0, [.sl rb v 0 bs.length, .int .i64 (t.1 : Int), .int .i64 t.2]⟩ := fun t L => lk_old (gq t) L
  have hrq := h.hr
  have hn := h.hn
  have hp := h.hp
  have hl : leftV bs.length s = ((bs.length - s.1 : Nat) : Int) := by unfold leftV; exact if_pos he
  have hw : IntKind.i64.wrap ((bs.length : Int) - (s.1 : Int)) = ((bs.length - s.1 : Nat) : Int) := by rw [wi (by omega)]; omega
  have he2 : (s.2 != 0) = false := by simpa using he
  have hb := h.hb
  refine AW.seq_k fun K hK => ?_
  refine AW.region (by decide) ?_
  simp only [push_cast, simprocAttr, hrq, he2, hw]
  refine Thn_n ?_
  refine hK _ _ ?_
  clear hK K
  refine AW.seq_k fun K hK => ?_
  refine AW.seq_k fun K hK => ?_
  refine AW.region (by decide) ?_
  simp only [push_cast, simprocAttr, hrq, he2, hw]
  refine Thn_n ?_
  refine hK _ _ ?_
  clear hK K
  refine AW.cond_f rfl ?_
  refine AW.skip ?_
  refine Thn_n ?_
  refine hK _ _ ?_
  clear hK K
  refine AW.seq_k fun K hK => ?_
  refine AW.draw [.val, .val, .val, .rd 0, .val, .val, .val, .val, .rd 0, .val, .val] fol (by decide) (by kernel_rfl) ?_
  simp only [push_cast, simprocAttr, hrq, he2, hw]
  refine Thn_n ?_
  refine hK _ _ ?_
  clear hK K
  refine AW.ret ?_
  refine hQ _ _ _ ?_
  first | refine RetP.keep (Or.inr rfl) ?_ | refine RetP.keep (Or.inl rfl) ?_
  · simp only [resA, resOne, resTv, AV.tv, push_cast, simprocAttr, hl]
  
theorem rleft_c (r rb v : Nat) (bs : List Int) (s : Nat × Int) (m : AMem) (h : RQ m r rb v bs s) : Ctr Try.prog 62 [.one (.ptr r 0 0)] m (.one (.int .i64 (leftV bs.length s))) m := by
  rcases Classical.em (s.2 = 0) with h0 | h0
  · exact rleft_0 r rb v bs s m h h0
  · exact rleft_e r rb v bs s m h h0
theorem rend_1 (r rb v : Nat) (bs : List Int) (s : Nat × Int) (m : AMem) (h : RQ m r rb v bs s) (hl : s.2 = 0 ∧ s.1 < bs.length) : Ctr Try.prog 45 [.one (.ptr r 0 0)] m (.one (.int .i64 (endS bs.length s).2)) (qM m r rb v bs (endS bs.length s)) := by
  refine Ctr.enter Try.func45 rfl (by decide) (rs := [.tmp 2]) (nt := 13) rfl rfl fun hwf Q hQ => ?_
  have gq : ∀ t, (qM m r rb v bs t)[r]? = some ⟨.fix, 94, 0, 0, [.sl rb v 0 bs.length, .int .i64 (t.1 : Int), .int .i64 t.2]⟩ := fun t => get_self h.lt
  have gqx : ∀ t L, (qM m r rb v bs t ++ L)[r]? = some ⟨.fix, 94, 0, 0, [.sl rb v 0 bs.length, .int .i64 (t.1 : Int), .int .i64 t.2]⟩ := fun t L => lk_old (gq t) L
  have hrq := h.hr
  have hl0 : 0 < leftV bs.length s := by unfold leftV; rw [if_pos hl.1]; omega
  have he : endS bs.length s = (s.1, 10) := by unfold endS; rw [if_pos hl]
  rw [he] at hQ
  have hM : m.set r ⟨.fix, 94, 0, 0, [.sl rb v 0 bs.length, .int .i64 (s.1 : Int), .int .i64 10]⟩ = qM m r rb v bs (s.1, 10) := rfl
  refine AW.seq_k fun K hK => ?_
  refine AW.region (by decide) ?_
  simp only [push_cast, simprocAttr, hl0, hrq, hM, gq]
  refine Thn_n ?_
  refine hK _ _ ?_
  clear hK K
  refine AW.seq_k fun K hK => ?_
  refine AW.seq_k fun K hK => ?_
  refine AW.region (by decide) ?_
  simp only [push_cast, simprocAttr, hl0, hrq, hM, gq]
  refine CThen.by (rleft_c r rb v bs s _ h) ?_
  simp only [push_cast, simprocAttr, hl0, hrq, hM, gq]
  refine Thn_n ?_
  refine hK _ _ ?_
  clear hK K
  refine AW.cond_t rfl ?_
  refine AW.region (by decide) ?_
  simp only [push_cast, simprocAttr, hl0, hrq, hM, gq]
  refine Thn_n ?_
  refine hK _ _ ?_
  clear hK K
  refine AW.seq_k fun K hK => ?_
  refine AW.region (by decide) ?_
  simp only [push_cast, simprocAttr, hl0, hrq, hM, gq]
  refine Thn_n ?_
  refine hK _ _ ?_
  clear hK K
  refine AW.ret ?_
  refine hQ _ _ _ ?_
  first | refine RetP.keep (Or.inr rfl) ?_ | refine RetP.keep (Or.inl rfl) ?_
  · rfl
  
theorem rend_0 (r rb v : Nat) (bs : List Int) (s : Nat × Int) (m : AMem) (h : RQ m r rb v bs s) (hl : ¬ (s.2 = 0 ∧ s.1 < bs.length)) : Ctr Try.prog 45 [.one (.ptr r 0 0)] m (.one (.int .i64 (endS bs.length s).2)) (qM m r rb v bs (endS bs.length s)) := by
  refine Ctr.enter Try.func45 rfl (by decide) (rs := [.tmp 2]) (nt := 13) rfl rfl fun hwf Q hQ => ?_
  have gq : ∀ t, (qM m r rb v bs t)[r]? = some ⟨.fix, 94, 0, 0, [.sl rb v 0 bs.length, .int .i64 (t.1 : Int), .int .i64 t.2]⟩ := fun t => get_self h.lt
  have gqx : ∀ t L, (qM m r rb v bs t ++ L)[r]? = some ⟨.fix, 94, 0, 0, [.sl rb v 0 bs.length, .int .i64 (t.1 : Int), .int .i64 t.2]⟩ := fun t L => lk_old (gq t) L
  have hrq := h.hr
  have hl0 : ¬ 0 < leftV bs.length s := by unfold leftV; split <;> omega
  have he : endS bs.length s = s := by unfold endS; rw [if_neg hl]
  rw [he, qM_self h] at hQ
  refine AW.seq_k fun K hK => ?_
  refine AW.region (by decide) ?_
  simp only [push_cast, simprocAttr, hl0, hrq]
  refine Thn_n ?_
  refine hK _ _ ?_
  clear hK K
  refine AW.seq_k fun K hK => ?_
  refine AW.seq_k fun K hK => ?_
  refine AW.region (by decide) ?_
  simp only [push_cast, simprocAttr, hl0, hrq]
  refine CThen.by (rleft_c r rb v bs s _ h) ?_
  simp only [push_cast, simprocAttr, hl0, hrq]
  refine Thn_n ?_
  refine hK _ _ ?_
  clear hK K
  refine AW.cond_f rfl ?_
  refine AW.skip ?_
  refine Thn_n ?_
  refine hK _ _ ?_
  clear hK K
  refine AW.seq_k fun K hK => ?_
  refine AW.region (by decide) ?_
  simp only [push_cast, simprocAttr, hl0, hrq]
  refine Thn_n ?_
  refine hK _ _ ?_
  clear hK K
  refine AW.ret ?_
  refine hQ _ _ _ ?_
  first | refine RetP.keep (Or.inr rfl) ?_ | refine RetP.keep (Or.inl rfl) ?_
  · rfl
  
theorem rend_c (r rb v : Nat) (bs : List Int) (s : Nat × Int) (m : AMem) (h : RQ m r rb v bs s) : Ctr Try.prog 45 [.one (.ptr r 0 0)] m (.one (.int .i64 (endS bs.length s).2)) (qM m r rb v bs (endS bs.length s)) := by
  rcases Classical.em (s.2 = 0 ∧ s.1 < bs.length) with hl | hl
  · exact rend_1 r rb v bs s m h hl
  · exact rend_0 r rb v bs s m h hl
end Go.Proofs.Ytgbehbaecdepjaa
