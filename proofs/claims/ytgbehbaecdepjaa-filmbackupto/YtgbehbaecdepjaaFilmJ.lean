/- Walks and facts of this seat's program over abstract states, printed by a program of mine; no conditions but those that each theorem names. -/
import Derived.Test.YtgbehbaecdepjaaFilmI
set_option linter.unusedSimpArgs false
set_option linter.unusedVariables false
set_option maxRecDepth 100000
set_option maxHeartbeats 4000000
namespace Go.Proofs.Ytgbehbaecdepjaa
open Go Go.Eng

def v3S (bs : List Int) (s : Nat × Int) : Nat × Int := fixS bs (fixS bs (fixS bs s))
def v3V (bs : List Int) (s : Nat × Int) (k : Nat) : Int := if (v3S bs s).2 = 0 then (match k with
  | 0 => fixV bs s
  | 1 => fixV bs (fixS bs s)
  | _ => fixV bs (fixS bs (fixS bs s))) else 0
theorem v3S_le {bs : List Int} {s : Nat × Int} (h : s.1 ≤ bs.length) : (v3S bs s).1 ≤ bs.length := fixS_le (fixS_le (fixS_le h))
def endS (n : Nat) (s : Nat × Int) : Nat × Int := if s.2 = 0 ∧ s.1 < n then (s.1, 10) else s
theorem endS_le {n : Nat} {s : Nat × Int} (h : s.1 ≤ n) : (endS n s).1 ≤ n := by unfold endS; split <;> exact h
theorem qM_wf {L : Nat} {m : AMem} {r rb v : Nat} {bs : List Int} {s : Nat × Int} (hb : rb < L) (h : MWf L m) : MWf L (qM m r rb v bs s) := fun b hm => by
  rcases List.mem_or_eq_of_mem_set hm with h1 | rfl
  · exact h b h1
  · show List.all [.sl rb v 0 bs.length, .int .i64 (s.1 : Int), .int .i64 s.2] (CV.below L) = true
    simp [CV.below, hb]
theorem rdvec_0 (r rb v : Nat) (bs : List Int) (s : Nat × Int) (m : AMem) (h : RP m r rb v bs s) (h0 : (v3S bs s).2 = 0) : Ctr Try.prog 48 [.one (.ptr r 0 0)] m (.agg [.int .i64 (v3V bs s 0), .int .i64 (v3V bs s 1), .int .i64 (v3V bs s 2)]) (pM m r rb v bs (v3S bs s)) := by
  refine Ctr.enter Try.func48 rfl (by decide) (rs := [.cell 2 73]) (nt := 16) rfl rfl fun hwf Q hQ => ?_
  obtain ⟨kb, eb, hb⟩ := h.hb
  have lr := h.lt
  have lb := get_lt hb
  have hp1 := fixS_le (bs := bs) h.hp
  have hp2 := fixS_le (bs := bs) hp1
  have hp3 := fixS_le (bs := bs) hp2
  have hwfM := fun t => @pM_wf m.length m r rb v bs t lb hwf
  have apM := fun L t => @pM_app m r rb v bs lr L t
  have two := fun a b => @pM_two m r rb v bs a b
  have apM2 := fun a L t => (@pM_app (pM m r rb v bs a) r rb v bs (by rw [pM_len]; exact lr) L t).trans (by rw [pM_two])
  have hlen := fun t => @pM_len m r rb v bs t
  have hv0 : v3V bs s 0 = fixV bs s := by unfold v3V; exact if_pos h0
  have hv1 : v3V bs s 1 = fixV bs (fixS bs s) := by unfold v3V; exact if_pos h0
  have hv2 : v3V bs s 2 = fixV bs (fixS bs (fixS bs s)) := by unfold v3V; exact if_pos h0
  have hb0 : ((fixS bs (fixS bs (fixS bs s))).2 != 0) = false := by
    have h9 : ((v3S bs s).2 != 0) = false := by simpa using h0
    exact h9
  have g3 : ∀ t b L k, (pM m r rb v bs t ++ b :: L)[m.length + k]? = (b :: L)[k]? := fun t b L k => by rw [← @pM_len m r rb v bs t, lk_app]
  have g30 : ∀ t b L, (pM m r rb v bs t ++ b :: L)[m.length]? = some b := fun t b L => by rw [← @pM_len m r rb v bs t, lk_app0]; rfl
  have g4 : ∀ t b L k c, (pM m r rb v bs t ++ b :: L).set (m.length + k) c = pM m r rb v bs t ++ (b :: L).set k c := fun t b L k c => by rw [← @pM_len m r rb v bs t, set_app]
  have g40 : ∀ t b L c, (pM m r rb v bs t ++ b :: L).set m.length c = pM m r rb v bs t ++ c :: L := fun t b L c => by rw [← @pM_len m r rb v bs t, set_app0]; rfl
  refine AW.seq_k fun K hK => ?_
  refine AW.region (by decide) ?_
  simp only [push_cast, simprocAttr, apM, apM2, two, hlen, hb0, g3, g30, g4, g40]
  refine Thn_n ?_
  refine hK _ _ ?_
  clear hK K
  refine AW.seq_k fun K hK => ?_
  refine AW.region (by decide) ?_
  simp only [push_cast, simprocAttr, apM, apM2, two, hlen, hb0, g3, g30, g4, g40]
  refine CThen.by (fix_c r rb v bs s _ (h.app _)) ?_
  simp only [push_cast, simprocAttr, apM, apM2, two, hlen, hb0, g3, g30, g4, g40]
  refine CThen.by (fix_c r rb v bs _ _ ((h.set hp1).app _)) ?_
  simp only [push_cast, simprocAttr, apM, apM2, two, hlen, hb0, g3, g30, g4, g40]
  refine CThen.by (fix_c r rb v bs _ _ ((h.set hp2).app _)) ?_
  simp only [push_cast, simprocAttr, apM, apM2, two, hlen, hb0, g3, g30, g4, g40]
  refine Thn_n ?_
  refine hK _ _ ?_
  clear hK K
  refine AW.seq_k fun K hK => ?_
  refine AW.seq_k fun K hK => ?_
  refine AW.region (by decide) ?_
  simp only [push_cast, simprocAttr, apM, apM2, two, hlen, hb0, g3, g30, g4, g40]
  refine CThen.by (err_c r rb v bs _ _ ((h.set hp3).app _)) ?_
  simp only [push_cast, simprocAttr, apM, apM2, two, hlen, hb0, g3, g30, g4, g40]
  refine Thn_n ?_
  refine hK _ _ ?_
  clear hK K
  refine AW.cond_f rfl ?_
  refine AW.skip ?_
  refine Thn_n ?_
  refine hK _ _ ?_
  clear hK K
  refine AW.seq_k fun K hK => ?_
  refine AW.region (by decide) ?_
  simp only [push_cast, simprocAttr, apM, apM2, two, hlen, hb0, g3, g30, g4, g40]
  refine Thn_n ?_
  refine hK _ _ ?_
  clear hK K
  refine AW.ret ?_
  refine hQ _ _ _ ?_
  first | refine RetP.dropM0 (pM_len _) (Or.inr rfl) ?_ ?_ (hwfM _) | refine RetP.dropM (pM_len _) (Or.inr rfl) ?_ ?_ (hwfM _)
  · simp only [resA, resOne, resTv, AV.tv, push_cast, simprocAttr, hv0, hv1, hv2, g30]
  · rfl
  
theorem rdvec_1 (r rb v : Nat) (bs : List Int) (s : Nat × Int) (m : AMem) (h : RP m r rb v bs s) (h0 : ¬ (v3S bs s).2 = 0) : Ctr Try.prog 48 [.one (.ptr r 0 0)] m (.agg [.int .i64 (v3V bs s 0), .int .i64 (v3V bs s 1), .int .i64 (v3V bs s 2)]) (pM m r rb v bs (v3S bs s)) := by
  refine Ctr.enter Try.func48 rfl (by decide) (rs := [.cell 2 73]) (nt := 16) rfl rfl fun hwf Q hQ => ?_
  obtain ⟨kb, eb, hb⟩ := h.hb
  have lr := h.lt
  have lb := get_lt hb
  have hp1 := fixS_le (bs := bs) h.hp
  have hp2 := fixS_le (bs := bs) hp1
  have hp3 := fixS_le (bs := bs) hp2
  have hwfM := fun t => @pM_wf m.length m r rb v bs t lb hwf
  have apM := fun L t => @pM_app m r rb v bs lr L t
  have two := fun a b => @pM_two m r rb v bs a b
  have apM2 := fun a L t => (@pM_app (pM m r rb v bs a) r rb v bs (by rw [pM_len]; exact lr) L t).trans (by rw [pM_two])
  have hlen := fun t => @pM_len m r rb v bs t
  have hv0 : v3V bs s 0 = 0 := by unfold v3V; exact if_neg h0
  have hv1 : v3V bs s 1 = 0 := by unfold v3V; exact if_neg h0
  have hv2 : v3V bs s 2 = 0 := by unfold v3V; exact if_neg h0
  have hb0 : ((fixS bs (fixS bs (fixS bs s))).2 != 0) = true := by
    have h9 : ((v3S bs s).2 != 0) = true := by simpa using h0
    exact h9
  have g3 : ∀ t b L k, (pM m r rb v bs t ++ b :: L)[m.length + k]? = (b :: L)[k]? := fun t b L k => by rw [← @pM_len m r rb v bs t, lk_app]
  have g30 : ∀ t b L, (pM m r rb v bs t ++ b :: L)[m.length]? = some b := fun t b L => by rw [← @pM_len m r rb v bs t, lk_app0]; rfl
  have g4 : ∀ t b L k c, (pM m r rb v bs t ++ b :: L).set (m.length + k) c = pM m r rb v bs t ++ (b :: L).set k c := fun t b L k c => by rw [← @pM_len m r rb v bs t, set_app]
  have g40 : ∀ t b L c, (pM m r rb v bs t ++ b :: L).set m.length c = pM m r rb v bs t ++ c :: L := fun t b L c => by rw [← @pM_len m r rb v bs t, set_app0]; rfl
  refine AW.seq_k fun K hK => ?_
  refine AW.region (by decide) ?_
  simp only [push_cast, simprocAttr, apM, apM2, two, hlen, hb0, g3, g30, g4, g40]
  refine Thn_n ?_
  refine hK _ _ ?_
  clear hK K
  refine AW.seq_k fun K hK => ?_
  refine AW.region (by decide) ?_
  simp only [push_cast, simprocAttr, apM, apM2, two, hlen, hb0, g3, g30, g4, g40]
  refine CThen.by (fix_c r rb v bs s _ (h.app _)) ?_
  simp only [push_cast, simprocAttr, apM, apM2, two, hlen, hb0, g3, g30, g4, g40]
  refine CThen.by (fix_c r rb v bs _ _ ((h.set hp1).app _)) ?_
  simp only [push_cast, simprocAttr, apM, apM2, two, hlen, hb0, g3, g30, g4, g40]
  refine CThen.by (fix_c r rb v bs _ _ ((h.set hp2).app _)) ?_
  simp only [push_cast, simprocAttr, apM, apM2, two, hlen, hb0, g3, g30, g4, g40]
  refine Thn_n ?_
  refine hK _ _ ?_
  clear hK K
  refine AW.seq_k fun K hK => ?_
  refine AW.seq_k fun K hK => ?_
  refine AW.region (by decide) ?_
  simp only [push_cast, simprocAttr, apM, apM2, two, hlen, hb0, g3, g30, g4, g40]
  refine CThen.by (err_c r rb v bs _ _ ((h.set hp3).app _)) ?_
  simp only [push_cast, simprocAttr, apM, apM2, two, hlen, hb0, g3, g30, g4, g40]
  refine Thn_n ?_
  refine hK _ _ ?_
  clear hK K
  refine AW.cond_t rfl ?_
  refine AW.seq_k fun K hK => ?_
  refine AW.region (by decide) ?_
  simp only [push_cast, simprocAttr, apM, apM2, two, hlen, hb0, g3, g30, g4, g40]
  refine Thn_n ?_
  refine hK _ _ ?_
  clear hK K
  refine AW.ret ?_
  refine Thn_r ?_
  refine hQ _ _ _ ?_
  first | refine RetP.dropM0 (pM_len _) (Or.inr rfl) ?_ ?_ (hwfM _) | refine RetP.dropM (pM_len _) (Or.inr rfl) ?_ ?_ (hwfM _)
  · simp only [resA, resOne, resTv, AV.tv, push_cast, simprocAttr, hv0, hv1, hv2, g30]
  · rfl
  
theorem rdvec_c (r rb v : Nat) (bs : List Int) (s : Nat × Int) (m : AMem) (h : RP m r rb v bs s) : Ctr Try.prog 48 [.one (.ptr r 0 0)] m (.agg [.int .i64 (v3V bs s 0), .int .i64 (v3V bs s 1), .int .i64 (v3V bs s 2)]) (pM m r rb v bs (v3S bs s)) := by
  rcases Classical.em ((v3S bs s).2 = 0) with h0 | h0
  · exact rdvec_0 r rb v bs s m h h0
  · exact rdvec_1 r rb v bs s m h h0
theorem rdhue_0 (r rb v : Nat) (bs : List Int) (s : Nat × Int) (m : AMem) (h : RP m r rb v bs s) (h0 : (v3S bs s).2 = 0) : Ctr Try.prog 49 [.one (.ptr r 0 0)] m (.agg [.int .i64 (v3V bs s 0), .int .i64 (v3V bs s 1), .int .i64 (v3V bs s 2)]) (pM m r rb v bs (v3S bs s)) := by
  refine Ctr.enter Try.func49 rfl (by decide) (rs := [.cell 2 68]) (nt := 16) rfl rfl fun hwf Q hQ => ?_
  obtain ⟨kb, eb, hb⟩ := h.hb
  have lr := h.lt
  have lb := get_lt hb
  have hp1 := fixS_le (bs := bs) h.hp
  have hp2 := fixS_le (bs := bs) hp1
  have hp3 := fixS_le (bs := bs) hp2
  have hwfM := fun t => @pM_wf m.length m r rb v bs t lb hwf
  have apM := fun L t => @pM_app m r rb v bs lr L t
  have two := fun a b => @pM_two m r rb v bs a b
  have apM2 := fun a L t => (@pM_app (pM m r rb v bs a) r rb v bs (by rw [pM_len]; exact lr) L t).trans (by rw [pM_two])
  have hlen := fun t => @pM_len m r rb v bs t
  have hv0 : v3V bs s 0 = fixV bs s := by unfold v3V; exact if_pos h0
  have hv1 : v3V bs s 1 = fixV bs (fixS bs s) := by unfold v3V; exact if_pos h0
  have hv2 : v3V bs s 2 = fixV bs (fixS bs (fixS bs s)) := by unfold v3V; exact if_pos h0
  have hb0 : ((fixS bs (fixS bs (fixS bs s))).2 != 0) = false := by
    have h9 : ((v3S bs s).2 != 0) = false := by simpa using h0
    exact h9
  have g3 : ∀ t b L k, (pM m r rb v bs t ++ b :: L)[m.length + k]? = (b :: L)[k]? := fun t b L k => by rw [← @pM_len m r rb v bs t, lk_app]
  have g30 : ∀ t b L, (pM m r rb v bs t ++ b :: L)[m.length]? = some b := fun t b L => by rw [← @pM_len m r rb v bs t, lk_app0]; rfl
  have g4 : ∀ t b L k c, (pM m r rb v bs t ++ b :: L).set (m.length + k) c = pM m r rb v bs t ++ (b :: L).set k c := fun t b L k c => by rw [← @pM_len m r rb v bs t, set_app]
  have g40 : ∀ t b L c, (pM m r rb v bs t ++ b :: L).set m.length c = pM m r rb v bs t ++ c :: L := fun t b L c => by rw [← @pM_len m r rb v bs t, set_app0]; rfl
  refine AW.seq_k fun K hK => ?_
  refine AW.region (by decide) ?_
  simp only [push_cast, simprocAttr, apM, apM2, two, hlen, hb0, g3, g30, g4, g40]
  refine Thn_n ?_
  refine hK _ _ ?_
  clear hK K
  refine AW.seq_k fun K hK => ?_
  refine AW.region (by decide) ?_
  simp only [push_cast, simprocAttr, apM, apM2, two, hlen, hb0, g3, g30, g4, g40]
  refine CThen.by (fix_c r rb v bs s _ (h.app _)) ?_
  simp only [push_cast, simprocAttr, apM, apM2, two, hlen, hb0, g3, g30, g4, g40]
  refine CThen.by (fix_c r rb v bs _ _ ((h.set hp1).app _)) ?_
  simp only [push_cast, simprocAttr, apM, apM2, two, hlen, hb0, g3, g30, g4, g40]
  refine CThen.by (fix_c r rb v bs _ _ ((h.set hp2).app _)) ?_
  simp only [push_cast, simprocAttr, apM, apM2, two, hlen, hb0, g3, g30, g4, g40]
  refine Thn_n ?_
  refine hK _ _ ?_
  clear hK K
  refine AW.seq_k fun K hK => ?_
  refine AW.seq_k fun K hK => ?_
  refine AW.region (by decide) ?_
  simp only [push_cast, simprocAttr, apM, apM2, two, hlen, hb0, g3, g30, g4, g40]
  refine CThen.by (err_c r rb v bs _ _ ((h.set hp3).app _)) ?_
  simp only [push_cast, simprocAttr, apM, apM2, two, hlen, hb0, g3, g30, g4, g40]
  refine Thn_n ?_
  refine hK _ _ ?_
  clear hK K
  refine AW.cond_f rfl ?_
  refine AW.skip ?_
  refine Thn_n ?_
  refine hK _ _ ?_
  clear hK K
  refine AW.seq_k fun K hK => ?_
  refine AW.region (by decide) ?_
  simp only [push_cast, simprocAttr, apM, apM2, two, hlen, hb0, g3, g30, g4, g40]
  refine Thn_n ?_
  refine hK _ _ ?_
  clear hK K
  refine AW.ret ?_
  refine hQ _ _ _ ?_
  first | refine RetP.dropM0 (pM_len _) (Or.inr rfl) ?_ ?_ (hwfM _) | refine RetP.dropM (pM_len _) (Or.inr rfl) ?_ ?_ (hwfM _)
  · simp only [resA, resOne, resTv, AV.tv, push_cast, simprocAttr, hv0, hv1, hv2, g30]
  · rfl
  
theorem rdhue_1 (r rb v : Nat) (bs : List Int) (s : Nat × Int) (m : AMem) (h : RP m r rb v bs s) (h0 : ¬ (v3S bs s).2 = 0) : Ctr Try.prog 49 [.one (.ptr r 0 0)] m (.agg [.int .i64 (v3V bs s 0), .int .i64 (v3V bs s 1), .int .i64 (v3V bs s 2)]) (pM m r rb v bs (v3S bs s)) := by
  refine Ctr.enter Try.func49 rfl (by decide) (rs := [.cell 2 68]) (nt := 16) rfl rfl fun hwf Q hQ => ?_
  obtain ⟨kb, eb, hb⟩ := h.hb
  have lr := h.lt
  have lb := get_lt hb
  have hp1 := fixS_le (bs := bs) h.hp
  have hp2 := fixS_le (bs := bs) hp1
  have hp3 := fixS_le (bs := bs) hp2
  have hwfM := fun t => @pM_wf m.length m r rb v bs t lb hwf
  have apM := fun L t => @pM_app m r rb v bs lr L t
  have two := fun a b => @pM_two m r rb v bs a b
  have apM2 := fun a L t => (@pM_app (pM m r rb v bs a) r rb v bs (by rw [pM_len]; exact lr) L t).trans (by rw [pM_two])
  have hlen := fun t => @pM_len m r rb v bs t
  have hv0 : v3V bs s 0 = 0 := by unfold v3V; exact if_neg h0
  have hv1 : v3V bs s 1 = 0 := by unfold v3V; exact if_neg h0
  have hv2 : v3V bs s 2 = 0 := by unfold v3V; exact if_neg h0
  have hb0 : ((fixS bs (fixS bs (fixS bs s))).2 != 0) = true := by
    have h9 : ((v3S bs s).2 != 0) = true := by simpa using h0
    exact h9
  have g3 : ∀ t b L k, (pM m r rb v bs t ++ b :: L)[m.length + k]? = (b :: L)[k]? := fun t b L k => by rw [← @pM_len m r rb v bs t, lk_app]
  have g30 : ∀ t b L, (pM m r rb v bs t ++ b :: L)[m.length]? = some b := fun t b L => by rw [← @pM_len m r rb v bs t, lk_app0]; rfl
  have g4 : ∀ t b L k c, (pM m r rb v bs t ++ b :: L).set (m.length + k) c = pM m r rb v bs t ++ (b :: L).set k c := fun t b L k c => by rw [← @pM_len m r rb v bs t, set_app]
  have g40 : ∀ t b L c, (pM m r rb v bs t ++ b :: L).set m.length c = pM m r rb v bs t ++ c :: L := fun t b L c => by rw [← @pM_len m r rb v bs t, set_app0]; rfl
  refine AW.seq_k fun K hK => ?_
  refine AW.region (by decide) ?_
  simp only [push_cast, simprocAttr, apM, apM2, two, hlen, hb0, g3, g30, g4, g40]
  refine Thn_n ?_
  refine hK _ _ ?_
  clear hK K
  refine AW.seq_k fun K hK => ?_
  refine AW.region (by decide) ?_
  simp only [push_cast, simprocAttr, apM, apM2, two, hlen, hb0, g3, g30, g4, g40]
  refine CThen.by (fix_c r rb v bs s _ (h.app _)) ?_
  simp only [push_cast, simprocAttr, apM, apM2, two, hlen, hb0, g3, g30, g4, g40]
  refine CThen.by (fix_c r rb v bs _ _ ((h.set hp1).app _)) ?_
  simp only [push_cast, simprocAttr, apM, apM2, two, hlen, hb0, g3, g30, g4, g40]
  refine CThen.by (fix_c r rb v bs _ _ ((h.set hp2).app _)) ?_
  simp only [push_cast, simprocAttr, apM, apM2, two, hlen, hb0, g3, g30, g4, g40]
  refine Thn_n ?_
  refine hK _ _ ?_
  clear hK K
  refine AW.seq_k fun K hK => ?_
  refine AW.seq_k fun K hK => ?_
  refine AW.region (by decide) ?_
  simp only [push_cast, simprocAttr, apM, apM2, two, hlen, hb0, g3, g30, g4, g40]
  refine CThen.by (err_c r rb v bs _ _ ((h.set hp3).app _)) ?_
  simp only [push_cast, simprocAttr, apM, apM2, two, hlen, hb0, g3, g30, g4, g40]
  refine Thn_n ?_
  refine hK _ _ ?_
  clear hK K
  refine AW.cond_t rfl ?_
  refine AW.seq_k fun K hK => ?_
  refine AW.region (by decide) ?_
  simp only [push_cast, simprocAttr, apM, apM2, two, hlen, hb0, g3, g30, g4, g40]
  refine Thn_n ?_
  refine hK _ _ ?_
  clear hK K
  refine AW.ret ?_
  refine Thn_r ?_
  refine hQ _ _ _ ?_
  first | refine RetP.dropM0 (pM_len _) (Or.inr rfl) ?_ ?_ (hwfM _) | refine RetP.dropM (pM_len _) (Or.inr rfl) ?_ ?_ (hwfM _)
  · simp only [resA, resOne, resTv, AV.tv, push_cast, simprocAttr, hv0, hv1, hv2, g30]
  · rfl
  
theorem rdhue_c (r rb v : Nat) (bs : List Int) (s : Nat × Int) (m : AMem) (h : RP m r rb v bs s) : Ctr Try.prog 49 [.one (.ptr r 0 0)] m (.agg [.int .i64 (v3V bs s 0), .int .i64 (v3V bs s 1), .int .i64 (v3V bs s 2)]) (pM m r rb v bs (v3S bs s)) := by
  rcases Classical.em ((v3S bs s).2 = 0) with h0 | h0
  · exact rdhue_0 r rb v bs s m h h0
  · exact rdhue_1 r rb v bs s m h h0
theorem end_1 (r rb v : Nat) (bs : List Int) (s : Nat × Int) (m : AMem) (h : RP m r rb v bs s) (hl : s.2 = 0 ∧ s.1 < bs.length) : Ctr Try.prog 43 [.one (.ptr r 0 0)] m (.one (.int .i64 (endS bs.length s).2)) (pM m r rb v bs (endS bs.length s)) := by
  refine Ctr.enter Try.func43 rfl (by decide) (rs := [.tmp 2]) (nt := 10) rfl rfl fun hwf Q hQ => ?_
  have hl0 : 0 < leftV bs.length s := by unfold leftV; rw [if_pos hl.1]; omega
  have he : endS bs.length s = flS 10 s := by unfold endS flS; rw [if_pos hl, if_pos hl.1]
  rw [he] at hQ
  refine AW.seq_k fun K hK => ?_
  refine AW.region (by decide) ?_
  simp only [push_cast, simprocAttr, hl0]
  refine Thn_n ?_
  refine hK _ _ ?_
  clear hK K
  refine AW.seq_k fun K hK => ?_
  refine AW.seq_k fun K hK => ?_
  refine AW.region (by decide) ?_
  simp only [push_cast, simprocAttr, hl0]
  refine CThen.by (left_c r rb v bs s _ h) ?_
  simp only [push_cast, simprocAttr, hl0]
  refine Thn_n ?_
  refine hK _ _ ?_
  clear hK K
  refine AW.cond_t rfl ?_
  refine AW.region (by decide) ?_
  simp only [push_cast, simprocAttr, hl0]
  refine CThen.by (fail_c r rb v bs s 10 _ h (by decide)) ?_
  simp only [push_cast, simprocAttr, hl0]
  refine Thn_n ?_
  refine hK _ _ ?_
  clear hK K
  refine AW.seq_k fun K hK => ?_
  refine AW.region (by decide) ?_
  simp only [push_cast, simprocAttr, hl0]
  refine CThen.by (err_c r rb v bs _ _ (h.set (flS_le h.hp))) ?_
  simp only [push_cast, simprocAttr, hl0]
  refine Thn_n ?_
  refine hK _ _ ?_
  clear hK K
  refine AW.ret ?_
  refine hQ _ _ _ ?_
  first | refine RetP.keep (Or.inr rfl) ?_ | refine RetP.keep (Or.inl rfl) ?_
  · rfl
  
theorem end_0 (r rb v : Nat) (bs : List Int) (s : Nat × Int) (m : AMem) (h : RP m r rb v bs s) (hl : ¬ (s.2 = 0 ∧ s.1 < bs.length)) : Ctr Try.prog 43 [.one (.ptr r 0 0)] m (.one (.int .i64 (endS bs.length s).2)) (pM m r rb v bs (endS bs.length s)) := by
  refine Ctr.enter Try.func43 rfl (by decide) (rs := [.tmp 2]) (nt := 10) rfl rfl fun hwf Q hQ => ?_
  have hl0 : ¬ 0 < leftV bs.length s := by unfold leftV; split <;> omega
  have he : endS bs.length s = s := by unfold endS; rw [if_neg hl]
  rw [he, pM_self h] at hQ
  refine AW.seq_k fun K hK => ?_
  refine AW.region (by decide) ?_
  simp only [push_cast, simprocAttr, hl0]
  refine Thn_n ?_
  refine hK _ _ ?_
  clear hK K
  refine AW.seq_k fun K hK => ?_
  refine AW.seq_k fun K hK => ?_
  refine AW.region (by decide) ?_
  simp only [push_cast, simprocAttr, hl0]
  refine CThen.by (left_c r rb v bs s _ h) ?_
  simp only [push_cast, simprocAttr, hl0]
  refine Thn_n ?_
  refine hK _ _ ?_
  clear hK K
  refine AW.cond_f rfl ?_
  refine AW.skip ?_
  refine Thn_n ?_
  refine hK _ _ ?_
  clear hK K
  refine AW.seq_k fun K hK => ?_
  refine AW.region (by decide) ?_
  simp only [push_cast, simprocAttr, hl0]
  refine CThen.by (err_c r rb v bs _ _ h) ?_
  simp only [push_cast, simprocAttr, hl0]
  refine Thn_n ?_
  refine hK _ _ ?_
  clear hK K
  refine AW.ret ?_
  refine hQ _ _ _ ?_
  first | refine RetP.keep (Or.inr rfl) ?_ | refine RetP.keep (Or.inl rfl) ?_
  · rfl
  
theorem end_c (r rb v : Nat) (bs : List Int) (s : Nat × Int) (m : AMem) (h : RP m r rb v bs s) : Ctr Try.prog 43 [.one (.ptr r 0 0)] m (.one (.int .i64 (endS bs.length s).2)) (pM m r rb v bs (endS bs.length s)) := by
  rcases Classical.em (s.2 = 0 ∧ s.1 < bs.length) with hl | hl
  · exact end_1 r rb v bs s m h hl
  · exact end_0 r rb v bs s m h hl
theorem read_c (r0 : Nat) (bs : List Int) (m : AMem) (hp : ∃ k ez, m[r0]? = some ⟨k, 5, 0, ez, u8l bs⟩) (hn : bs.length ≤ 1073741824) : Ctr Try.prog 41 [.one (.sl r0 0 0 bs.length)] m (.one (.ptr (m.length + 1) 0 0)) (m ++ [⟨.grow, 5, 1, 1, u8l bs⟩, ⟨.fix, 110, 0, 0, [.sl m.length 1 0 bs.length, .int .i64 0]⟩]) := by
  refine Ctr.enter Try.func41 rfl (by decide) (rs := [.tmp 2]) (nt := 8) rfl rfl fun hwf Q hQ => ?_
  obtain ⟨k0, ez, hb⟩ := hp
  have tk : (u8l bs).take bs.length = u8l bs := List.take_of_length_le (by rw [u8l_len]; exact Nat.le_refl _)
  have q0 : bs.length ≤ 140737488355328 := by omega
  have vv := u8l_vals bs
  iterate 2
    refine AW.seq_k fun K hK => ?_
    refine AW.region (by decide) ?_
    simp only [push_cast, simprocAttr, hb, lk_old hb, u8l_len, tk, q0, vv, Nat.le_refl, Nat.zero_add, List.nil_append]
    refine Thn_n ?_
    refine hK _ _ ?_
    clear hK K
  refine AW.ret ?_
  refine hQ _ _ _ ?_
  first | refine RetP.keep (Or.inr rfl) ?_ | refine RetP.keep (Or.inl rfl) ?_
  · rfl
  
end Go.Proofs.Ytgbehbaecdepjaa
