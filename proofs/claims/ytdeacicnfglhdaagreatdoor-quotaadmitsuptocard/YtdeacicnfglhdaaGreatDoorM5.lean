/- Walks and facts of this seat's program over abstract states, printed by programs of mine; no conditions but those that each theorem names. -/
import Derived.Test.YtdeacicnfglhdaaGreatDoorM4
set_option linter.unusedSimpArgs false
set_option linter.unusedVariables false
set_option maxRecDepth 100000
set_option maxHeartbeats 4000000
namespace Go.Proofs.YtdeacicnfglhdaaGreatDoor
open Go Go.Eng
def heldI (n : Int) : Int := if 2147483648 < n then 2147483648 else if n < -2147483648 then -2147483648 else n
theorem held_b (n : Int) : -2147483648 ≤ heldI n ∧ heldI n ≤ 2147483648 := by unfold heldI; split <;> (try split) <;> omega
theorem held_id {n : Int} (h : -2147483648 ≤ n ∧ n ≤ 2147483648) : heldI n = n := by unfold heldI; split <;> (try split) <;> omega
def keC (T : Nat → Int) (V : Nat → Nat → Int) (j : Nat) : List CV := [.int .i64 (T j), .int .i64 (V j 0), .int .i64 (V j 1), .int .i64 (V j 2)]
def KeR (T : Nat → Int) (V : Nat → Nat → Int) (j : Nat) : Prop := 0 ≤ T j ∧ T j ≤ 2097152 ∧ (0 < j → T (j - 1) < T j) ∧ ∀ a, a < 3 → -2147483648 ≤ V j a ∧ V j a ≤ 2147483648
instance (T : Nat → Int) (V : Nat → Nat → Int) (j : Nat) : Decidable (KeR T V j) := by unfold KeR; exact inferInstance
def TrR (w : Int) (n : Nat) (T : Nat → Int) (V : Nat → Nat → Int) : Prop := 0 ≤ w ∧ w ≤ 2 ∧ 1 ≤ n ∧ n ≤ 16 ∧ ∀ j, j < n → KeR T V j
instance (w : Int) (n : Nat) (T : Nat → Int) (V : Nat → Nat → Int) : Decidable (TrR w n T V) := by unfold TrR; exact inferInstance
theorem held_c (n : Int) (m : AMem) : Ctr Tryz.prog 47 [.one (.int .i64 n)] m (.one (.int .i64 (heldI n))) m := by
 refine Ctr.enter Tryz.func47 rfl (by decide) (rs := [.tmp 2]) (nt := 8) rfl rfl fun hwf Q hQ => ?_
 refine AW.sr 1 fun K hK => ?_
 simp only [push_cast, simprocAttr]
 apply hK;clear hK K
 refine AW.seq_k fun K hK => ?_
 refine AW.sr 1 fun K hK => ?_
 simp only [push_cast, simprocAttr]
 apply hK;clear hK K
 refine AW.cond rfl (fun h4 => ?_) (fun h4 => ?_)
 ·have hr : heldI n = 2147483648 := by have := of_decide_eq_true h4; unfold heldI; rw [if_pos this]
  refine AW.sr 1 fun K hK => ?_
  simp only [push_cast, simprocAttr]
  apply hK;clear hK K
  refine AW.ret ?_
  refine Thn_r ?_
  refine hQ _ _ _ ?_
  first | refine RetP.drop0 (Or.inr rfl) ?_ ?_ hwf | refine RetP.drop (Or.inr rfl) ?_ ?_ hwf
  · simp only [resA, resOne, resTv, AV.tv, push_cast, simprocAttr, hr]
  · rfl
 ·refine AW.skip ?_
  apply hK;clear hK K
  refine AW.seq_k fun K hK => ?_
  refine AW.sr 1 fun K hK => ?_
  simp only [push_cast, simprocAttr]
  apply hK;clear hK K
  refine AW.cond rfl (fun h6 => ?_) (fun h6 => ?_)
  ·have hr : heldI n = -2147483648 := by have h0 := of_decide_eq_false h4; have := of_decide_eq_true h6; unfold heldI; rw [if_neg h0, if_pos this]
   refine AW.sr 1 fun K hK => ?_
   simp only [push_cast, simprocAttr]
   apply hK;clear hK K
   refine AW.ret ?_
   refine Thn_r ?_
   refine hQ _ _ _ ?_
   first | refine RetP.drop0 (Or.inr rfl) ?_ ?_ hwf | refine RetP.drop (Or.inr rfl) ?_ ?_ hwf
   · simp only [resA, resOne, resTv, AV.tv, push_cast, simprocAttr, hr]
   · rfl
  ·have hr : heldI n = n := by have h0 := of_decide_eq_false h4; have := of_decide_eq_false h6; unfold heldI; rw [if_neg h0, if_neg this]
   refine AW.skip ?_
   apply hK;clear hK K
   refine AW.sr 1 fun K hK => ?_
   simp only [push_cast, simprocAttr]
   apply hK;clear hK K
   refine AW.ret ?_
   refine hQ _ _ _ ?_
   first | refine RetP.drop0 (Or.inr rfl) ?_ ?_ hwf | refine RetP.drop (Or.inr rfl) ?_ ?_ hwf
   · simp only [resA, resOne, resTv, AV.tv, push_cast, simprocAttr, hr]
   · rfl
theorem vat0_c (f : Nat → Int) (m : AMem) : Ctr Tryz.prog 82 [.agg (c3C f), .one (.int .i64 0)] m (.one (.int .i64 (f 0))) m := by
 refine Ctr.enter Tryz.func82 rfl (by decide) (rs := [.tmp 4]) (nt := 16) rfl rfl fun hwf Q hQ => ?_
 refine AW.sr 1 fun K hK => ?_
 simp only [push_cast, simprocAttr, c3C]
 apply hK;clear hK K
 refine AW.seq_k fun K hK => ?_
 refine AW.sr 1 fun K hK => ?_
 simp only [push_cast, simprocAttr, c3C]
 apply hK;clear hK K
 refine AW.block ?_
 refine AW.sr 1 fun K hK => ?_
 simp only [push_cast, simprocAttr, c3C]
 apply hK;clear hK K
 refine AW.cond_t rfl ?_
 refine AW.sr 1 fun K hK => ?_
 simp only [push_cast, simprocAttr, c3C]
 apply hK;clear hK K
 refine AW.ret ?_
 refine InB_r ?_
 refine Thn_r ?_
 refine hQ _ _ _ ?_
 first | refine RetP.drop0 (Or.inr rfl) ?_ ?_ hwf | refine RetP.drop (Or.inr rfl) ?_ ?_ hwf
 · simp only [resA, resOne, resTv, AV.tv, push_cast, simprocAttr, c3C]
 · rfl
theorem vat1_c (f : Nat → Int) (m : AMem) : Ctr Tryz.prog 82 [.agg (c3C f), .one (.int .i64 1)] m (.one (.int .i64 (f 1))) m := by
 refine Ctr.enter Tryz.func82 rfl (by decide) (rs := [.tmp 4]) (nt := 16) rfl rfl fun hwf Q hQ => ?_
 refine AW.sr 1 fun K hK => ?_
 simp only [push_cast, simprocAttr, c3C]
 apply hK;clear hK K
 refine AW.seq_k fun K hK => ?_
 refine AW.sr 1 fun K hK => ?_
 simp only [push_cast, simprocAttr, c3C]
 apply hK;clear hK K
 refine AW.block ?_
 refine AW.sr 1 fun K hK => ?_
 simp only [push_cast, simprocAttr, c3C]
 apply hK;clear hK K
 refine AW.cond_f rfl ?_
 refine AW.sr 1 fun K hK => ?_
 simp only [push_cast, simprocAttr, c3C]
 apply hK;clear hK K
 refine AW.cond_t rfl ?_
 refine AW.sr 1 fun K hK => ?_
 simp only [push_cast, simprocAttr, c3C]
 apply hK;clear hK K
 refine AW.ret ?_
 refine InB_r ?_
 refine Thn_r ?_
 refine hQ _ _ _ ?_
 first | refine RetP.drop0 (Or.inr rfl) ?_ ?_ hwf | refine RetP.drop (Or.inr rfl) ?_ ?_ hwf
 · simp only [resA, resOne, resTv, AV.tv, push_cast, simprocAttr, c3C]
 · rfl
theorem vat2_c (f : Nat → Int) (m : AMem) : Ctr Tryz.prog 82 [.agg (c3C f), .one (.int .i64 2)] m (.one (.int .i64 (f 2))) m := by
 refine Ctr.enter Tryz.func82 rfl (by decide) (rs := [.tmp 4]) (nt := 16) rfl rfl fun hwf Q hQ => ?_
 refine AW.sr 1 fun K hK => ?_
 simp only [push_cast, simprocAttr, c3C]
 apply hK;clear hK K
 refine AW.seq_k fun K hK => ?_
 refine AW.sr 1 fun K hK => ?_
 simp only [push_cast, simprocAttr, c3C]
 apply hK;clear hK K
 refine AW.block ?_
 iterate 2
  refine AW.sr 1 fun K hK => ?_
  simp only [push_cast, simprocAttr, c3C]
  apply hK;clear hK K
  refine AW.cond_f rfl ?_
 refine AW.skip ?_
 refine InB_n ?_
 apply hK;clear hK K
 refine AW.sr 1 fun K hK => ?_
 simp only [push_cast, simprocAttr, c3C]
 apply hK;clear hK K
 refine AW.ret ?_
 refine hQ _ _ _ ?_
 first | refine RetP.drop0 (Or.inr rfl) ?_ ?_ hwf | refine RetP.drop (Or.inr rfl) ?_ ?_ hwf
 · simp only [resA, resOne, resTv, AV.tv, push_cast, simprocAttr, c3C]
 · rfl
theorem rtrk_c (w : Int) (r v n : Nat) (T : Nat → Int) (V : Nat → Nat → Int) (m : AMem) (hr : ∃ k e, m[r]? = some ⟨k, 128, v, e, catC n (keC T V)⟩) : Ctr Tryz.prog 28 [.agg [.int .i64 w, .sl r v 0 n]] m (.one (.bool (decide (TrR w n T V)))) m := by
 refine Ctr.enter Tryz.func28 rfl (by decide) (rs := [.tmp 2]) (nt := 76) rfl rfl fun hwf Q hQ => ?_
 obtain ⟨kk, ek, hr⟩ := hr
 have lr := get_lt hr
 have gl : (catC n (keC T V)).length = n * 4 := catC_len (w := 4) (F := keC T V) (fun _ => rfl) n
 have hbad : ∀ {P : Prop}, ¬ TrR w n T V → P = P := fun _ => rfl
 refine AW.sr 1 fun K hK => ?_
 simp only [push_cast, simprocAttr, hr, lk_old hr, gl]
 apply hK;clear hK K
 refine AW.seq_k fun K hK => ?_
 refine AW.seq_k fun K hK => ?_
 have hk : w < 0 ∨ (¬ w < 0 ∧ 2 < w) ∨ (¬ w < 0 ∧ ¬ 2 < w ∧ (n : Int) < 1) ∨ (¬ w < 0 ∧ ¬ 2 < w ∧ ¬ (n : Int) < 1 ∧ 16 < (n : Int)) ∨ (¬ w < 0 ∧ ¬ 2 < w ∧ ¬ (n : Int) < 1 ∧ ¬ 16 < (n : Int)) := by omega
 rcases hk with g1 | ⟨g1, g2⟩ | ⟨g1, g2, g3⟩ | ⟨g1, g2, g3, g4⟩ | ⟨g1, g2, g3, g4⟩
 ·rw [show decide (TrR w n T V) = false from decide_eq_false (fun h => by have q1 := h.1; have q2 := h.2.1; have q3 := h.2.2.1; have q4 := h.2.2.2.1; omega)] at hQ
  refine AW.rg ?_
  have pk_1 : _ ∧ _ ∧ _ ∧ _ := ⟨hr, lk_old hr, gl, g1⟩
  simp only [push_cast, simprocAttr, pk_1]
  apply hK;clear hK K
  refine AW.cond_t rfl ?_
  refine AW.sr 1 fun K hK => ?_
  simp only [push_cast, simprocAttr, pk_1]
  apply hK;clear hK K
  refine AW.ret ?_
  refine Thn_r ?_
  refine hQ _ _ _ ?_
  first | refine RetP.drop0 (Or.inr rfl) ?_ ?_ hwf | refine RetP.drop (Or.inr rfl) ?_ ?_ hwf
  · simp only [resA, resOne, resTv, AV.tv, push_cast, simprocAttr, pk_1]
  · rfl
 ·rw [show decide (TrR w n T V) = false from decide_eq_false (fun h => by have q1 := h.1; have q2 := h.2.1; have q3 := h.2.2.1; have q4 := h.2.2.2.1; omega)] at hQ
  refine AW.rg ?_
  have pk_2 : _ ∧ _ ∧ _ ∧ _ ∧ _ := ⟨hr, lk_old hr, gl, g1, g2⟩
  simp only [push_cast, simprocAttr, pk_2]
  apply hK;clear hK K
  refine AW.cond_t rfl ?_
  refine AW.sr 1 fun K hK => ?_
  simp only [push_cast, simprocAttr, pk_2]
  apply hK;clear hK K
  refine AW.ret ?_
  refine Thn_r ?_
  refine hQ _ _ _ ?_
  first | refine RetP.drop0 (Or.inr rfl) ?_ ?_ hwf | refine RetP.drop (Or.inr rfl) ?_ ?_ hwf
  · simp only [resA, resOne, resTv, AV.tv, push_cast, simprocAttr, pk_2]
  · rfl
 ·rw [show decide (TrR w n T V) = false from decide_eq_false (fun h => by have q1 := h.1; have q2 := h.2.1; have q3 := h.2.2.1; have q4 := h.2.2.2.1; omega)] at hQ
  refine AW.rg ?_
  have pk_3 : _ ∧ _ ∧ _ ∧ _ ∧ _ ∧ _ := ⟨hr, lk_old hr, gl, g1, g2, g3⟩
  simp only [push_cast, simprocAttr, pk_3]
  apply hK;clear hK K
  refine AW.cond_t rfl ?_
  refine AW.sr 1 fun K hK => ?_
  simp only [push_cast, simprocAttr, pk_3]
  apply hK;clear hK K
  refine AW.ret ?_
  refine Thn_r ?_
  refine hQ _ _ _ ?_
  first | refine RetP.drop0 (Or.inr rfl) ?_ ?_ hwf | refine RetP.drop (Or.inr rfl) ?_ ?_ hwf
  · simp only [resA, resOne, resTv, AV.tv, push_cast, simprocAttr, pk_3]
  · rfl
 ·rw [show decide (TrR w n T V) = false from decide_eq_false (fun h => by have q1 := h.1; have q2 := h.2.1; have q3 := h.2.2.1; have q4 := h.2.2.2.1; omega)] at hQ
  refine AW.rg ?_
  have pk_4 : _ ∧ _ ∧ _ ∧ _ ∧ _ ∧ _ ∧ _ := ⟨hr, lk_old hr, gl, g1, g2, g3, g4⟩
  simp only [push_cast, simprocAttr, pk_4]
  apply hK;clear hK K
  refine AW.cond_t rfl ?_
  refine AW.sr 1 fun K hK => ?_
  simp only [push_cast, simprocAttr, pk_4]
  apply hK;clear hK K
  refine AW.ret ?_
  refine Thn_r ?_
  refine hQ _ _ _ ?_
  first | refine RetP.drop0 (Or.inr rfl) ?_ ?_ hwf | refine RetP.drop (Or.inr rfl) ?_ ?_ hwf
  · simp only [resA, resOne, resTv, AV.tv, push_cast, simprocAttr, pk_4]
  · rfl
 ·have hn1 : n ≤ 16 := by omega
  refine AW.rg ?_
  have pk_5 : _ ∧ _ ∧ _ ∧ _ ∧ _ ∧ _ ∧ _ := ⟨hr, lk_old hr, gl, g1, g2, g3, g4⟩
  simp only [push_cast, simprocAttr, pk_5]
  apply hK;clear hK K
  refine AW.cond_f rfl ?_
  refine AW.skip ?_
  apply hK;clear hK K
  refine AW.seq_k fun K hK => ?_
  refine AW.sr 1 fun K hK => ?_
  simp only [push_cast, simprocAttr, pk_5]
  apply hK;clear hK K
  refine AW.block ?_
  refine AW.loopK [1] (fun i => i ≤ n ∧ ∀ k, k < i → KeR T V k) (fun i => [(3, .one (.int .i64 (i : Int)))]) (fun i => []) (fun i => n - i) 0 ⟨by omega, fun k hk => by omega⟩ ?_ ?_ fun i hi4 => ?_
  · first | rfl | (simp only [KS, simprocAttr, Int.natCast_zero] <;> repeat' (first | rfl | apply And.intro))
  · first | rfl | (simp only [setAll, push_cast, simprocAttr, pk_5, Int.natCast_zero] <;> rfl)
  obtain ⟨hin, hok⟩ := hi4
  try simp only [keepL, setAll, push_cast, simprocAttr, pk_5]
  refine AW.seq_k fun K hK => ?_
  refine AW.sr 1 fun K hK => ?_
  simp only [push_cast, simprocAttr, pk_5]
  apply hK;clear hK K
  refine AW.cond rfl (fun h30 => ?_) (fun h30 => ?_)
  ·have hlt : i < n := by have := of_decide_eq_true h30; omega
   have c1 : (0 : Int) ≤ (i : Int) := by omega
   have c2 : (i : Int) < (n : Int) := by omega
   have c3 : i * 4 + 4 ≤ n * 4 := by omega
   have ga := catC_at (w := 4) (F := keC T V) (fun _ => rfl) hlt
   have gk : keC T V i = [.int .i64 (T i), .int .i64 (V i 0), .int .i64 (V i 1), .int .i64 (V i 2)] := rfl
   have gv : c3C (V i) = [.int .i64 (V i 0), .int .i64 (V i 1), .int .i64 (V i 2)] := rfl
   refine AW.skip ?_
   apply hK;clear hK K
   refine AW.seq_k fun K hK => ?_
   refine AW.block ?_
   refine AW.sr 1 fun K hK => ?_
   have pk_6 : _ ∧ _ ∧ _ ∧ _ ∧ _ ∧ _ := ⟨pk_5, c1, c2, c3, ga, gk⟩
   simp only [push_cast, simprocAttr, pk_6]
   apply hK;clear hK K
   refine AW.seq_k fun K hK => ?_
   refine AW.seq_k fun K hK => ?_
   have hk : T i < 0 ∨ (¬ T i < 0 ∧ 2097152 < T i) ∨ (¬ T i < 0 ∧ ¬ 2097152 < T i ∧ i = 0) ∨ (¬ T i < 0 ∧ ¬ 2097152 < T i ∧ 0 < i ∧ T i ≤ T (i - 1)) ∨ (¬ T i < 0 ∧ ¬ 2097152 < T i ∧ 0 < i ∧ ¬ T i ≤ T (i - 1)) := by omega
   rcases hk with e1 | ⟨e1, e2⟩ | ⟨e1, e2, e3⟩ | ⟨e1, e2, e3, e4⟩ | ⟨e1, e2, e3, e4⟩
   ·rw [show decide (TrR w n T V) = false from decide_eq_false (fun h9 => (fun h : KeR T V i => (by have h1 := h.1; omega)) (h9.2.2.2.2 i hlt))] at hQ
    refine AW.draw [.val, .rd 0, .val, .val, .val, .rd 0, .val, .val, .val, .val, .val, .val, .val, .rd 0, .val, .rd 0, .val, .val, .val, .val, .rd 0, .val, .val, .val] fol (by decide) (by kernel_rfl) ?_
    simp only [push_cast, simprocAttr, pk_6, e1]
    apply hK;clear hK K
    refine AW.cond_t rfl ?_
    refine AW.sr 1 fun K hK => ?_
    simp only [push_cast, simprocAttr, pk_6, e1]
    apply hK;clear hK K
    refine AW.ret ?_
    refine Thn_r ?_
    refine InB_r ?_
    refine Thn_r ?_
    refine Thn_r ?_
    refine InB_r ?_
    refine Thn_r ?_
    refine hQ _ _ _ ?_
    first | refine RetP.drop0 (Or.inr rfl) ?_ ?_ hwf | refine RetP.drop (Or.inr rfl) ?_ ?_ hwf
    · simp only [resA, resOne, resTv, AV.tv, push_cast, simprocAttr, pk_6, e1]
    · rfl
   ·rw [show decide (TrR w n T V) = false from decide_eq_false (fun h9 => (fun h : KeR T V i => (by have h1 := h.2.1; omega)) (h9.2.2.2.2 i hlt))] at hQ
    refine AW.draw [.val, .rd 0, .val, .val, .val, .rd 0, .val, .val, .val, .val, .val, .val, .val, .rd 0, .val, .rd 0, .val, .val, .val, .val, .rd 0, .val, .val, .val] fol (by decide) (by kernel_rfl) ?_
    simp only [push_cast, simprocAttr, pk_6, e1, e2]
    apply hK;clear hK K
    refine AW.cond_t rfl ?_
    refine AW.sr 1 fun K hK => ?_
    simp only [push_cast, simprocAttr, pk_6, e1, e2]
    apply hK;clear hK K
    refine AW.ret ?_
    refine Thn_r ?_
    refine InB_r ?_
    refine Thn_r ?_
    refine Thn_r ?_
    refine InB_r ?_
    refine Thn_r ?_
    refine hQ _ _ _ ?_
    first | refine RetP.drop0 (Or.inr rfl) ?_ ?_ hwf | refine RetP.drop (Or.inr rfl) ?_ ?_ hwf
    · simp only [resA, resOne, resTv, AV.tv, push_cast, simprocAttr, pk_6, e1, e2]
    · rfl
   ·have e5 : ¬ (0 : Int) < (i : Int) := by omega
    have e6 : 0 < i → T (i - 1) < T i := fun h => by omega
    refine AW.draw [.val, .rd 0, .val, .val, .val, .rd 0, .val, .val, .val, .val, .val, .val, .val, .rd 0, .val, .rd 0, .val, .val, .val, .val, .rd 0, .val, .val, .val] fol (by decide) (by kernel_rfl) ?_
    simp only [push_cast, simprocAttr, pk_6, e1, e2, e5]
    apply hK;clear hK K
    refine AW.cond_f rfl ?_
    refine AW.skip ?_
    apply hK;clear hK K
    refine AW.sr 1 fun K hK => ?_
    simp only [push_cast, simprocAttr, pk_6, e1, e2, e5]
    apply hK;clear hK K
    refine AW.block ?_
    refine AW.rounds 4 ?_
    refine ARounds.succ fun K hK => ?_
    refine AW.seq_k fun K hK => ?_
    refine AW.sr 1 fun K hK => ?_
    simp only [push_cast, simprocAttr, pk_6, e1, e2, e5]
    apply hK;clear hK K
    refine AW.cond_t rfl ?_
    refine AW.skip ?_
    apply hK;clear hK K
    refine AW.seq_k fun K hK => ?_
    refine AW.block ?_
    refine AW.seq_k fun K hK => ?_
    have hk0 : (-2147483648 ≤ V i 0 ∧ V i 0 ≤ 2147483648) ∨ ¬ (-2147483648 ≤ V i 0 ∧ V i 0 ≤ 2147483648) := Classical.em _
    rcases hk0 with f0 | f0
    ·have b0 : (V i 0 != heldI (V i 0)) = false := by rw [held_id f0]; exact bne_self_eq_false _
     refine AW.draw [.val, .val, .val, .rd 0, .val, .val, .val, .rd 0, .ext, .val] fol (by decide) (by kernel_rfl) ?_
     have pk_7 : _ ∧ _ ∧ _ ∧ _ ∧ _ := ⟨pk_6, e1, e2, e5, b0⟩
     simp only [push_cast, simprocAttr, pk_7]
     refine DCall.by0 (held_c _ _) ?_
     simp only [push_cast, simprocAttr, pk_7]
     apply hK;clear hK K
     refine AW.cond_f rfl ?_
     refine AW.skip ?_
     refine InB_n ?_
     apply hK;clear hK K
     refine AW.rg ?_
     simp only [push_cast, simprocAttr, pk_7]
     apply hK;clear hK K
     refine ARounds.succ fun K hK => ?_
     refine AW.seq_k fun K hK => ?_
     refine AW.sr 1 fun K hK => ?_
     simp only [push_cast, simprocAttr, pk_6, e1, e2, e5]
     apply hK;clear hK K
     refine AW.cond_t rfl ?_
     refine AW.skip ?_
     apply hK;clear hK K
     refine AW.seq_k fun K hK => ?_
     refine AW.block ?_
     refine AW.seq_k fun K hK => ?_
     have hk1 : (-2147483648 ≤ V i 1 ∧ V i 1 ≤ 2147483648) ∨ ¬ (-2147483648 ≤ V i 1 ∧ V i 1 ≤ 2147483648) := Classical.em _
     rcases hk1 with f1 | f1
     ·have b1 : (V i 1 != heldI (V i 1)) = false := by rw [held_id f1]; exact bne_self_eq_false _
      refine AW.draw [.val, .val, .val, .rd 0, .val, .val, .val, .rd 0, .ext, .val] fol (by decide) (by kernel_rfl) ?_
      have pk_8 : _ ∧ _ ∧ _ ∧ _ ∧ _ := ⟨pk_6, e1, e2, e5, b1⟩
      simp only [push_cast, simprocAttr, pk_8]
      refine DCall.by0 (held_c _ _) ?_
      simp only [push_cast, simprocAttr, pk_8]
      apply hK;clear hK K
      refine AW.cond_f rfl ?_
      refine AW.skip ?_
      refine InB_n ?_
      apply hK;clear hK K
      refine AW.rg ?_
      simp only [push_cast, simprocAttr, pk_8]
      apply hK;clear hK K
      refine ARounds.succ fun K hK => ?_
      refine AW.seq_k fun K hK => ?_
      refine AW.sr 1 fun K hK => ?_
      simp only [push_cast, simprocAttr, pk_6, e1, e2, e5]
      apply hK;clear hK K
      refine AW.cond_t rfl ?_
      refine AW.skip ?_
      apply hK;clear hK K
      refine AW.seq_k fun K hK => ?_
      refine AW.block ?_
      refine AW.seq_k fun K hK => ?_
      have hk2 : (-2147483648 ≤ V i 2 ∧ V i 2 ≤ 2147483648) ∨ ¬ (-2147483648 ≤ V i 2 ∧ V i 2 ≤ 2147483648) := Classical.em _
      rcases hk2 with f2 | f2
      ·have b2 : (V i 2 != heldI (V i 2)) = false := by rw [held_id f2]; exact bne_self_eq_false _
       refine AW.draw [.val, .val, .val, .rd 0, .val, .val, .val, .rd 0, .ext, .val] fol (by decide) (by kernel_rfl) ?_
       have pk_9 : _ ∧ _ ∧ _ ∧ _ ∧ _ := ⟨pk_6, e1, e2, e5, b2⟩
       simp only [push_cast, simprocAttr, pk_9]
       refine DCall.by0 (held_c _ _) ?_
       simp only [push_cast, simprocAttr, pk_9]
       apply hK;clear hK K
       refine AW.cond_f rfl ?_
       refine AW.skip ?_
       refine InB_n ?_
       apply hK;clear hK K
       refine AW.rg ?_
       simp only [push_cast, simprocAttr, pk_9]
       apply hK;clear hK K
       refine ARounds.succ fun K hK => ?_
       refine AW.seq_k fun K hK => ?_
       refine AW.sr 1 fun K hK => ?_
       simp only [push_cast, simprocAttr, pk_6, e1, e2, e5]
       apply hK;clear hK K
       refine AW.cond_f rfl ?_
       refine AW.exit ?_
       refine Thn_e ?_
       clear hK K
       refine Thn_e ?_
       clear hK K
       refine InB_here ?_
       refine InB_n ?_
       apply hK;clear hK K
       refine AW.rg ?_
       simp only [push_cast, simprocAttr, pk_6, e1, e2, e5]
       refine Thn_n ?_
       have hwi : IntKind.i64.wrap ((i:Int)+1) = (i:Int)+1 := wi (by omega)
       have hnow : KeR T V i := ⟨by omega, by omega, e6, fun a ha => by
         match a, ha with
         | 0, _ => omega
         | 1, _ => omega
         | 2, _ => omega⟩
       refine ⟨i + 1, ⟨by omega, fun k hk => by
         rcases Nat.lt_or_ge k i with h | h
         · exact hok k h
         · obtain rfl : k = i := by omega
           exact hnow⟩, by omega, ?_⟩
       try simp only [keepL, setAll, push_cast, simprocAttr, pk_6, e1, e2, e5, hwi]
       exact Weak.to (extra := [_]) (by simp only [KS, simprocAttr, hwi]) (by first | rfl | (simp only [List.append_assoc, List.cons_append, List.nil_append]; rfl)) (by first | rfl | (simp [AV.below, CV.below]; done) | (simp [AV.below, CV.below]; omega)) (by
         first | exact hwf | refine MWf.app (hwf.grow (by simp)) ?_
         repeat (first | exact MWf_nil | (refine MWf_cons ?_ ?_; · first | rfl | (simp [CV.below]; done) | (simp [CV.below]; omega))))
      ·have b2 : (V i 2 != heldI (V i 2)) = true := by
         have := held_b (V i 2)
         exact bne_iff_ne.2 fun e => by rw [e] at f2; exact f2 this
       rw [show decide (TrR w n T V) = false from decide_eq_false (fun h9 => (fun h : KeR T V i => f2 (h.2.2.2 2 (by omega))) (h9.2.2.2.2 i hlt))] at hQ
       refine AW.draw [.val, .val, .val, .rd 0, .val, .val, .val, .rd 0, .ext, .val] fol (by decide) (by kernel_rfl) ?_
       have pk_10 : _ ∧ _ ∧ _ ∧ _ ∧ _ := ⟨pk_6, e1, e2, e5, b2⟩
       simp only [push_cast, simprocAttr, pk_10]
       refine DCall.by0 (held_c _ _) ?_
       simp only [push_cast, simprocAttr, pk_10]
       apply hK;clear hK K
       refine AW.cond_t rfl ?_
       refine AW.sr 1 fun K hK => ?_
       simp only [push_cast, simprocAttr, pk_10]
       apply hK;clear hK K
       refine AW.ret ?_
       refine InB_r ?_
       refine Thn_r ?_
       refine Thn_r ?_
       refine InB_r ?_
       refine InB_r ?_
       refine Thn_r ?_
       refine Thn_r ?_
       refine InB_r ?_
       refine Thn_r ?_
       refine hQ _ _ _ ?_
       first | refine RetP.drop0 (Or.inr rfl) ?_ ?_ hwf | refine RetP.drop (Or.inr rfl) ?_ ?_ hwf
       · simp only [resA, resOne, resTv, AV.tv, push_cast, simprocAttr, pk_10]
       · rfl
     ·have b1 : (V i 1 != heldI (V i 1)) = true := by
        have := held_b (V i 1)
        exact bne_iff_ne.2 fun e => by rw [e] at f1; exact f1 this
      rw [show decide (TrR w n T V) = false from decide_eq_false (fun h9 => (fun h : KeR T V i => f1 (h.2.2.2 1 (by omega))) (h9.2.2.2.2 i hlt))] at hQ
      refine AW.draw [.val, .val, .val, .rd 0, .val, .val, .val, .rd 0, .ext, .val] fol (by decide) (by kernel_rfl) ?_
      have pk_11 : _ ∧ _ ∧ _ ∧ _ ∧ _ := ⟨pk_6, e1, e2, e5, b1⟩
      simp only [push_cast, simprocAttr, pk_11]
      refine DCall.by0 (held_c _ _) ?_
      simp only [push_cast, simprocAttr, pk_11]
      apply hK;clear hK K
      refine AW.cond_t rfl ?_
      refine AW.sr 1 fun K hK => ?_
      simp only [push_cast, simprocAttr, pk_11]
      apply hK;clear hK K
      refine AW.ret ?_
      refine InB_r ?_
      refine Thn_r ?_
      refine Thn_r ?_
      refine InB_r ?_
      refine InB_r ?_
      refine Thn_r ?_
      refine Thn_r ?_
      refine InB_r ?_
      refine Thn_r ?_
      refine hQ _ _ _ ?_
      first | refine RetP.drop0 (Or.inr rfl) ?_ ?_ hwf | refine RetP.drop (Or.inr rfl) ?_ ?_ hwf
      · simp only [resA, resOne, resTv, AV.tv, push_cast, simprocAttr, pk_11]
      · rfl
    ·have b0 : (V i 0 != heldI (V i 0)) = true := by
       have := held_b (V i 0)
       exact bne_iff_ne.2 fun e => by rw [e] at f0; exact f0 this
     rw [show decide (TrR w n T V) = false from decide_eq_false (fun h9 => (fun h : KeR T V i => f0 (h.2.2.2 0 (by omega))) (h9.2.2.2.2 i hlt))] at hQ
     refine AW.draw [.val, .val, .val, .rd 0, .val, .val, .val, .rd 0, .ext, .val] fol (by decide) (by kernel_rfl) ?_
     have pk_12 : _ ∧ _ ∧ _ ∧ _ ∧ _ := ⟨pk_6, e1, e2, e5, b0⟩
     simp only [push_cast, simprocAttr, pk_12]
     refine DCall.by0 (held_c _ _) ?_
     simp only [push_cast, simprocAttr, pk_12]
     apply hK;clear hK K
     refine AW.cond_t rfl ?_
     refine AW.sr 1 fun K hK => ?_
     simp only [push_cast, simprocAttr, pk_12]
     apply hK;clear hK K
     refine AW.ret ?_
     refine InB_r ?_
     refine Thn_r ?_
     refine Thn_r ?_
     refine InB_r ?_
     refine InB_r ?_
     refine Thn_r ?_
     refine Thn_r ?_
     refine InB_r ?_
     refine Thn_r ?_
     refine hQ _ _ _ ?_
     first | refine RetP.drop0 (Or.inr rfl) ?_ ?_ hwf | refine RetP.drop (Or.inr rfl) ?_ ?_ hwf
     · simp only [resA, resOne, resTv, AV.tv, push_cast, simprocAttr, pk_12]
     · rfl
   ·rw [show decide (TrR w n T V) = false from decide_eq_false (fun h9 => (fun h : KeR T V i => (by have h1 := h.2.2.1 e3; omega)) (h9.2.2.2.2 i hlt))] at hQ
    have e5 : (0 : Int) < (i : Int) := by omega
    obtain ⟨j, hj⟩ : ∃ j, j = i - 1 := ⟨_, rfl⟩
    have p1 : IntKind.i64.wrap ((i : Int) - 1) = (j : Int) := by rw [wi (by omega)]; omega
    have p2 : (0 : Int) ≤ (j : Int) := by omega
    have p3 : (j : Int) < (n : Int) := by omega
    have p4 : j * 4 + 4 ≤ n * 4 := by omega
    have p5 : j < n := by omega
    have ha := catC_at (w := 4) (F := keC T V) (fun _ => rfl) p5
    rw [← hj] at e4
    have p6 : (catC n (keC T V))[j * 4]? = some (.int .i64 (T j)) := catC_get (w := 4) (F := keC T V) (fun _ => rfl) p5 (a := 0) (by omega)
    refine AW.draw [.val, .rd 0, .val, .val, .val, .rd 0, .val, .val, .val, .val, .val, .val, .val, .rd 0, .val, .rd 0, .val, .val, .val, .val, .rd 0, .val, .val, .val] fol (by decide) (by kernel_rfl) ?_
    have pk_13 : _ ∧ _ ∧ _ ∧ _ ∧ _ ∧ _ ∧ _ ∧ _ ∧ _ ∧ _ ∧ _ ∧ _ := ⟨pk_6, e1, e2, e4, e5, p1, p2, p3, p4, p5, p6, ha⟩
    simp only [push_cast, simprocAttr, pk_13]
    apply hK;clear hK K
    refine AW.cond_t rfl ?_
    refine AW.sr 1 fun K hK => ?_
    simp only [push_cast, simprocAttr, pk_13]
    apply hK;clear hK K
    refine AW.ret ?_
    refine Thn_r ?_
    refine InB_r ?_
    refine Thn_r ?_
    refine Thn_r ?_
    refine InB_r ?_
    refine Thn_r ?_
    refine hQ _ _ _ ?_
    first | refine RetP.drop0 (Or.inr rfl) ?_ ?_ hwf | refine RetP.drop (Or.inr rfl) ?_ ?_ hwf
    · simp only [resA, resOne, resTv, AV.tv, push_cast, simprocAttr, pk_13]
    · rfl
   ·have e5 : (0 : Int) < (i : Int) := by omega
    obtain ⟨j, hj⟩ : ∃ j, j = i - 1 := ⟨_, rfl⟩
    have p1 : IntKind.i64.wrap ((i : Int) - 1) = (j : Int) := by rw [wi (by omega)]; omega
    have p2 : (0 : Int) ≤ (j : Int) := by omega
    have p3 : (j : Int) < (n : Int) := by omega
    have p4 : j * 4 + 4 ≤ n * 4 := by omega
    have p5 : j < n := by omega
    have ha := catC_at (w := 4) (F := keC T V) (fun _ => rfl) p5
    rw [← hj] at e4
    have p6 : (catC n (keC T V))[j * 4]? = some (.int .i64 (T j)) := catC_get (w := 4) (F := keC T V) (fun _ => rfl) p5 (a := 0) (by omega)
    have e6 : 0 < i → T (i - 1) < T i := fun _ => by rw [← hj]; omega
    refine AW.draw [.val, .rd 0, .val, .val, .val, .rd 0, .val, .val, .val, .val, .val, .val, .val, .rd 0, .val, .rd 0, .val, .val, .val, .val, .rd 0, .val, .val, .val] fol (by decide) (by kernel_rfl) ?_
    have pk_14 : _ ∧ _ ∧ _ ∧ _ ∧ _ ∧ _ ∧ _ ∧ _ ∧ _ ∧ _ ∧ _ ∧ _ := ⟨pk_6, e1, e2, e4, e5, p1, p2, p3, p4, p5, p6, ha⟩
    simp only [push_cast, simprocAttr, pk_14]
    apply hK;clear hK K
    refine AW.cond_f rfl ?_
    refine AW.skip ?_
    apply hK;clear hK K
    refine AW.sr 1 fun K hK => ?_
    simp only [push_cast, simprocAttr, pk_14]
    apply hK;clear hK K
    refine AW.block ?_
    refine AW.rounds 4 ?_
    refine ARounds.succ fun K hK => ?_
    refine AW.seq_k fun K hK => ?_
    refine AW.sr 1 fun K hK => ?_
    simp only [push_cast, simprocAttr, pk_14]
    apply hK;clear hK K
    refine AW.cond_t rfl ?_
    refine AW.skip ?_
    apply hK;clear hK K
    refine AW.seq_k fun K hK => ?_
    refine AW.block ?_
    refine AW.seq_k fun K hK => ?_
    have hk0 : (-2147483648 ≤ V i 0 ∧ V i 0 ≤ 2147483648) ∨ ¬ (-2147483648 ≤ V i 0 ∧ V i 0 ≤ 2147483648) := Classical.em _
    rcases hk0 with f0 | f0
    ·have b0 : (V i 0 != heldI (V i 0)) = false := by rw [held_id f0]; exact bne_self_eq_false _
     refine AW.draw [.val, .val, .val, .rd 0, .val, .val, .val, .rd 0, .ext, .val] fol (by decide) (by kernel_rfl) ?_
     simp only [push_cast, simprocAttr, pk_14, b0]
     refine DCall.by0 (held_c _ _) ?_
     simp only [push_cast, simprocAttr, pk_14, b0]
     apply hK;clear hK K
     refine AW.cond_f rfl ?_
     refine AW.skip ?_
     refine InB_n ?_
     apply hK;clear hK K
     refine AW.rg ?_
     simp only [push_cast, simprocAttr, pk_14, b0]
     apply hK;clear hK K
     refine ARounds.succ fun K hK => ?_
     refine AW.seq_k fun K hK => ?_
     refine AW.sr 1 fun K hK => ?_
     simp only [push_cast, simprocAttr, pk_14]
     apply hK;clear hK K
     refine AW.cond_t rfl ?_
     refine AW.skip ?_
     apply hK;clear hK K
     refine AW.seq_k fun K hK => ?_
     refine AW.block ?_
     refine AW.seq_k fun K hK => ?_
     have hk1 : (-2147483648 ≤ V i 1 ∧ V i 1 ≤ 2147483648) ∨ ¬ (-2147483648 ≤ V i 1 ∧ V i 1 ≤ 2147483648) := Classical.em _
     rcases hk1 with f1 | f1
     ·have b1 : (V i 1 != heldI (V i 1)) = false := by rw [held_id f1]; exact bne_self_eq_false _
      refine AW.draw [.val, .val, .val, .rd 0, .val, .val, .val, .rd 0, .ext, .val] fol (by decide) (by kernel_rfl) ?_
      simp only [push_cast, simprocAttr, pk_14, b1]
      refine DCall.by0 (held_c _ _) ?_
      simp only [push_cast, simprocAttr, pk_14, b1]
      apply hK;clear hK K
      refine AW.cond_f rfl ?_
      refine AW.skip ?_
      refine InB_n ?_
      apply hK;clear hK K
      refine AW.rg ?_
      simp only [push_cast, simprocAttr, pk_14, b1]
      apply hK;clear hK K
      refine ARounds.succ fun K hK => ?_
      refine AW.seq_k fun K hK => ?_
      refine AW.sr 1 fun K hK => ?_
      simp only [push_cast, simprocAttr, pk_14]
      apply hK;clear hK K
      refine AW.cond_t rfl ?_
      refine AW.skip ?_
      apply hK;clear hK K
      refine AW.seq_k fun K hK => ?_
      refine AW.block ?_
      refine AW.seq_k fun K hK => ?_
      have hk2 : (-2147483648 ≤ V i 2 ∧ V i 2 ≤ 2147483648) ∨ ¬ (-2147483648 ≤ V i 2 ∧ V i 2 ≤ 2147483648) := Classical.em _
      rcases hk2 with f2 | f2
      ·have b2 : (V i 2 != heldI (V i 2)) = false := by rw [held_id f2]; exact bne_self_eq_false _
       refine AW.draw [.val, .val, .val, .rd 0, .val, .val, .val, .rd 0, .ext, .val] fol (by decide) (by kernel_rfl) ?_
       simp only [push_cast, simprocAttr, pk_14, b2]
       refine DCall.by0 (held_c _ _) ?_
       simp only [push_cast, simprocAttr, pk_14, b2]
       apply hK;clear hK K
       refine AW.cond_f rfl ?_
       refine AW.skip ?_
       refine InB_n ?_
       apply hK;clear hK K
       refine AW.rg ?_
       simp only [push_cast, simprocAttr, pk_14, b2]
       apply hK;clear hK K
       refine ARounds.succ fun K hK => ?_
       refine AW.seq_k fun K hK => ?_
       refine AW.sr 1 fun K hK => ?_
       simp only [push_cast, simprocAttr, pk_14]
       apply hK;clear hK K
       refine AW.cond_f rfl ?_
       refine AW.exit ?_
       refine Thn_e ?_
       clear hK K
       refine Thn_e ?_
       clear hK K
       refine InB_here ?_
       refine InB_n ?_
       apply hK;clear hK K
       refine AW.rg ?_
       simp only [push_cast, simprocAttr, pk_14]
       refine Thn_n ?_
       have hwi : IntKind.i64.wrap ((i:Int)+1) = (i:Int)+1 := wi (by omega)
       have hnow : KeR T V i := ⟨by omega, by omega, e6, fun a ha => by
         match a, ha with
         | 0, _ => omega
         | 1, _ => omega
         | 2, _ => omega⟩
       refine ⟨i + 1, ⟨by omega, fun k hk => by
         rcases Nat.lt_or_ge k i with h | h
         · exact hok k h
         · obtain rfl : k = i := by omega
           exact hnow⟩, by omega, ?_⟩
       try simp only [keepL, setAll, push_cast, simprocAttr, pk_14, hwi]
       exact Weak.to (extra := [_]) (by simp only [KS, simprocAttr, hwi]) (by first | rfl | (simp only [List.append_assoc, List.cons_append, List.nil_append]; rfl)) (by first | rfl | (simp [AV.below, CV.below]; done) | (simp [AV.below, CV.below]; omega)) (by
         first | exact hwf | refine MWf.app (hwf.grow (by simp)) ?_
         repeat (first | exact MWf_nil | (refine MWf_cons ?_ ?_; · first | rfl | (simp [CV.below]; done) | (simp [CV.below]; omega))))
      ·have b2 : (V i 2 != heldI (V i 2)) = true := by
         have := held_b (V i 2)
         exact bne_iff_ne.2 fun e => by rw [e] at f2; exact f2 this
       rw [show decide (TrR w n T V) = false from decide_eq_false (fun h9 => (fun h : KeR T V i => f2 (h.2.2.2 2 (by omega))) (h9.2.2.2.2 i hlt))] at hQ
       refine AW.draw [.val, .val, .val, .rd 0, .val, .val, .val, .rd 0, .ext, .val] fol (by decide) (by kernel_rfl) ?_
       simp only [push_cast, simprocAttr, pk_14, b2]
       refine DCall.by0 (held_c _ _) ?_
       simp only [push_cast, simprocAttr, pk_14, b2]
       apply hK;clear hK K
       refine AW.cond_t rfl ?_
       refine AW.sr 1 fun K hK => ?_
       simp only [push_cast, simprocAttr, pk_14, b2]
       apply hK;clear hK K
       refine AW.ret ?_
       refine InB_r ?_
       refine Thn_r ?_
       refine Thn_r ?_
       refine InB_r ?_
       refine InB_r ?_
       refine Thn_r ?_
       refine Thn_r ?_
       refine InB_r ?_
       refine Thn_r ?_
       refine hQ _ _ _ ?_
       first | refine RetP.drop0 (Or.inr rfl) ?_ ?_ hwf | refine RetP.drop (Or.inr rfl) ?_ ?_ hwf
       · simp only [resA, resOne, resTv, AV.tv, push_cast, simprocAttr, pk_14, b2]
       · rfl
     ·have b1 : (V i 1 != heldI (V i 1)) = true := by
        have := held_b (V i 1)
        exact bne_iff_ne.2 fun e => by rw [e] at f1; exact f1 this
      rw [show decide (TrR w n T V) = false from decide_eq_false (fun h9 => (fun h : KeR T V i => f1 (h.2.2.2 1 (by omega))) (h9.2.2.2.2 i hlt))] at hQ
      refine AW.draw [.val, .val, .val, .rd 0, .val, .val, .val, .rd 0, .ext, .val] fol (by decide) (by kernel_rfl) ?_
      simp only [push_cast, simprocAttr, pk_14, b1]
      refine DCall.by0 (held_c _ _) ?_
      simp only [push_cast, simprocAttr, pk_14, b1]
      apply hK;clear hK K
      refine AW.cond_t rfl ?_
      refine AW.sr 1 fun K hK => ?_
      simp only [push_cast, simprocAttr, pk_14, b1]
      apply hK;clear hK K
      refine AW.ret ?_
      refine InB_r ?_
      refine Thn_r ?_
      refine Thn_r ?_
      refine InB_r ?_
      refine InB_r ?_
      refine Thn_r ?_
      refine Thn_r ?_
      refine InB_r ?_
      refine Thn_r ?_
      refine hQ _ _ _ ?_
      first | refine RetP.drop0 (Or.inr rfl) ?_ ?_ hwf | refine RetP.drop (Or.inr rfl) ?_ ?_ hwf
      · simp only [resA, resOne, resTv, AV.tv, push_cast, simprocAttr, pk_14, b1]
      · rfl
    ·have b0 : (V i 0 != heldI (V i 0)) = true := by
       have := held_b (V i 0)
       exact bne_iff_ne.2 fun e => by rw [e] at f0; exact f0 this
     rw [show decide (TrR w n T V) = false from decide_eq_false (fun h9 => (fun h : KeR T V i => f0 (h.2.2.2 0 (by omega))) (h9.2.2.2.2 i hlt))] at hQ
     refine AW.draw [.val, .val, .val, .rd 0, .val, .val, .val, .rd 0, .ext, .val] fol (by decide) (by kernel_rfl) ?_
     simp only [push_cast, simprocAttr, pk_14, b0]
     refine DCall.by0 (held_c _ _) ?_
     simp only [push_cast, simprocAttr, pk_14, b0]
     apply hK;clear hK K
     refine AW.cond_t rfl ?_
     refine AW.sr 1 fun K hK => ?_
     simp only [push_cast, simprocAttr, pk_14, b0]
     apply hK;clear hK K
     refine AW.ret ?_
     refine InB_r ?_
     refine Thn_r ?_
     refine Thn_r ?_
     refine InB_r ?_
     refine InB_r ?_
     refine Thn_r ?_
     refine Thn_r ?_
     refine InB_r ?_
     refine Thn_r ?_
     refine hQ _ _ _ ?_
     first | refine RetP.drop0 (Or.inr rfl) ?_ ?_ hwf | refine RetP.drop (Or.inr rfl) ?_ ?_ hwf
     · simp only [resA, resOne, resTv, AV.tv, push_cast, simprocAttr, pk_14, b0]
     · rfl
  ·have hie : i = n := by have := of_decide_eq_false h30; omega
   rw [show decide (TrR w n T V) = true from decide_eq_true ⟨by omega, by omega, by omega, by omega, fun k hk => hok k (by omega)⟩] at hQ
   refine AW.exit ?_
   refine Thn_e ?_
   clear hK K
   refine Thn_e ?_
   refine InB_here ?_
   apply hK;clear hK K
   refine AW.sr 1 fun K hK => ?_
   simp only [push_cast, simprocAttr, pk_5]
   apply hK;clear hK K
   refine AW.ret ?_
   refine hQ _ _ _ ?_
   first | refine RetP.drop0 (Or.inr rfl) ?_ ?_ hwf | refine RetP.drop (Or.inr rfl) ?_ ?_ hwf
   · simp only [resA, resOne, resTv, AV.tv, push_cast, simprocAttr, pk_5]
   · rfl
theorem ctrk_c (w : Int) (r v n : Nat) (T : Nat → Int) (V : Nat → Nat → Int) (m : AMem) (hr : ∃ k e, m[r]? = some ⟨k, 119, v, e, catC n (keC T V)⟩) : Ctr Tryz.prog 53 [.agg [.int .i64 w, .sl r v 0 n]] m (.one (.bool (decide (TrR w n T V)))) m := by
 refine Ctr.enter Tryz.func53 rfl (by decide) (rs := [.tmp 2]) (nt := 74) rfl rfl fun hwf Q hQ => ?_
 obtain ⟨kk, ek, hr⟩ := hr
 have lr := get_lt hr
 have gl : (catC n (keC T V)).length = n * 4 := catC_len (w := 4) (F := keC T V) (fun _ => rfl) n
 have hbad : ∀ {P : Prop}, ¬ TrR w n T V → P = P := fun _ => rfl
 refine AW.sr 1 fun K hK => ?_
 simp only [push_cast, simprocAttr, hr, lk_old hr, gl]
 apply hK;clear hK K
 refine AW.seq_k fun K hK => ?_
 refine AW.seq_k fun K hK => ?_
 have hk : w < 0 ∨ (¬ w < 0 ∧ 2 < w) ∨ (¬ w < 0 ∧ ¬ 2 < w ∧ (n : Int) < 1) ∨ (¬ w < 0 ∧ ¬ 2 < w ∧ ¬ (n : Int) < 1 ∧ 16 < (n : Int)) ∨ (¬ w < 0 ∧ ¬ 2 < w ∧ ¬ (n : Int) < 1 ∧ ¬ 16 < (n : Int)) := by omega
 rcases hk with g1 | ⟨g1, g2⟩ | ⟨g1, g2, g3⟩ | ⟨g1, g2, g3, g4⟩ | ⟨g1, g2, g3, g4⟩
 ·rw [show decide (TrR w n T V) = false from decide_eq_false (fun h => by have q1 := h.1; have q2 := h.2.1; have q3 := h.2.2.1; have q4 := h.2.2.2.1; omega)] at hQ
  refine AW.rg ?_
  have pk_15 : _ ∧ _ ∧ _ ∧ _ := ⟨hr, lk_old hr, gl, g1⟩
  simp only [push_cast, simprocAttr, pk_15]
  apply hK;clear hK K
  refine AW.cond_t rfl ?_
  refine AW.sr 1 fun K hK => ?_
  simp only [push_cast, simprocAttr, pk_15]
  apply hK;clear hK K
  refine AW.ret ?_
  refine Thn_r ?_
  refine hQ _ _ _ ?_
  first | refine RetP.drop0 (Or.inr rfl) ?_ ?_ hwf | refine RetP.drop (Or.inr rfl) ?_ ?_ hwf
  · simp only [resA, resOne, resTv, AV.tv, push_cast, simprocAttr, pk_15]
  · rfl
 ·rw [show decide (TrR w n T V) = false from decide_eq_false (fun h => by have q1 := h.1; have q2 := h.2.1; have q3 := h.2.2.1; have q4 := h.2.2.2.1; omega)] at hQ
  refine AW.rg ?_
  have pk_16 : _ ∧ _ ∧ _ ∧ _ ∧ _ := ⟨hr, lk_old hr, gl, g1, g2⟩
  simp only [push_cast, simprocAttr, pk_16]
  apply hK;clear hK K
  refine AW.cond_t rfl ?_
  refine AW.sr 1 fun K hK => ?_
  simp only [push_cast, simprocAttr, pk_16]
  apply hK;clear hK K
  refine AW.ret ?_
  refine Thn_r ?_
  refine hQ _ _ _ ?_
  first | refine RetP.drop0 (Or.inr rfl) ?_ ?_ hwf | refine RetP.drop (Or.inr rfl) ?_ ?_ hwf
  · simp only [resA, resOne, resTv, AV.tv, push_cast, simprocAttr, pk_16]
  · rfl
 ·rw [show decide (TrR w n T V) = false from decide_eq_false (fun h => by have q1 := h.1; have q2 := h.2.1; have q3 := h.2.2.1; have q4 := h.2.2.2.1; omega)] at hQ
  refine AW.rg ?_
  have pk_17 : _ ∧ _ ∧ _ ∧ _ ∧ _ ∧ _ := ⟨hr, lk_old hr, gl, g1, g2, g3⟩
  simp only [push_cast, simprocAttr, pk_17]
  apply hK;clear hK K
  refine AW.cond_t rfl ?_
  refine AW.sr 1 fun K hK => ?_
  simp only [push_cast, simprocAttr, pk_17]
  apply hK;clear hK K
  refine AW.ret ?_
  refine Thn_r ?_
  refine hQ _ _ _ ?_
  first | refine RetP.drop0 (Or.inr rfl) ?_ ?_ hwf | refine RetP.drop (Or.inr rfl) ?_ ?_ hwf
  · simp only [resA, resOne, resTv, AV.tv, push_cast, simprocAttr, pk_17]
  · rfl
 ·rw [show decide (TrR w n T V) = false from decide_eq_false (fun h => by have q1 := h.1; have q2 := h.2.1; have q3 := h.2.2.1; have q4 := h.2.2.2.1; omega)] at hQ
  refine AW.rg ?_
  have pk_18 : _ ∧ _ ∧ _ ∧ _ ∧ _ ∧ _ ∧ _ := ⟨hr, lk_old hr, gl, g1, g2, g3, g4⟩
  simp only [push_cast, simprocAttr, pk_18]
  apply hK;clear hK K
  refine AW.cond_t rfl ?_
  refine AW.sr 1 fun K hK => ?_
  simp only [push_cast, simprocAttr, pk_18]
  apply hK;clear hK K
  refine AW.ret ?_
  refine Thn_r ?_
  refine hQ _ _ _ ?_
  first | refine RetP.drop0 (Or.inr rfl) ?_ ?_ hwf | refine RetP.drop (Or.inr rfl) ?_ ?_ hwf
  · simp only [resA, resOne, resTv, AV.tv, push_cast, simprocAttr, pk_18]
  · rfl
 ·have hn1 : n ≤ 16 := by omega
  refine AW.rg ?_
  have pk_19 : _ ∧ _ ∧ _ ∧ _ ∧ _ ∧ _ ∧ _ := ⟨hr, lk_old hr, gl, g1, g2, g3, g4⟩
  simp only [push_cast, simprocAttr, pk_19]
  apply hK;clear hK K
  refine AW.cond_f rfl ?_
  refine AW.skip ?_
  apply hK;clear hK K
  refine AW.seq_k fun K hK => ?_
  refine AW.sr 1 fun K hK => ?_
  simp only [push_cast, simprocAttr, pk_19]
  apply hK;clear hK K
  refine AW.block ?_
  refine AW.loopK [1, 28, 29] (fun i => i ≤ n ∧ ∀ k, k < i → KeR T V k) (fun i => [(30, .one (.int .i64 (i : Int)))]) (fun i => []) (fun i => n - i) 0 ⟨by omega, fun k hk => by omega⟩ ?_ ?_ fun i hi4 => ?_
  · first | rfl | (simp only [KS, simprocAttr, Int.natCast_zero] <;> repeat' (first | rfl | apply And.intro))
  · first | rfl | (simp only [setAll, push_cast, simprocAttr, pk_19, Int.natCast_zero] <;> rfl)
  obtain ⟨hin, hok⟩ := hi4
  try simp only [keepL, setAll, push_cast, simprocAttr, pk_19]
  refine AW.sr 1 fun K hK => ?_
  simp only [push_cast, simprocAttr, pk_19]
  apply hK;clear hK K
  refine AW.seq_k fun K hK => ?_
  refine AW.cond rfl (fun h31 => ?_) (fun h31 => ?_)
  ·have hlt : i < n := by have := of_decide_eq_true h31; omega
   have c1 : (0 : Int) ≤ (i : Int) := by omega
   have c2 : (i : Int) < (n : Int) := by omega
   have c3 : i * 4 + 4 ≤ n * 4 := by omega
   have ga := catC_at (w := 4) (F := keC T V) (fun _ => rfl) hlt
   have gk : keC T V i = [.int .i64 (T i), .int .i64 (V i 0), .int .i64 (V i 1), .int .i64 (V i 2)] := rfl
   have gv : c3C (V i) = [.int .i64 (V i 0), .int .i64 (V i 1), .int .i64 (V i 2)] := rfl
   refine AW.skip ?_
   apply hK;clear hK K
   refine AW.seq_k fun K hK => ?_
   refine AW.block ?_
   refine AW.sr 1 fun K hK => ?_
   have pk_20 : _ ∧ _ ∧ _ ∧ _ ∧ _ ∧ _ := ⟨pk_19, c1, c2, c3, ga, gk⟩
   simp only [push_cast, simprocAttr, pk_20]
   apply hK;clear hK K
   refine AW.seq_k fun K hK => ?_
   refine AW.seq_k fun K hK => ?_
   have hk : T i < 0 ∨ (¬ T i < 0 ∧ 2097152 < T i) ∨ (¬ T i < 0 ∧ ¬ 2097152 < T i ∧ i = 0) ∨ (¬ T i < 0 ∧ ¬ 2097152 < T i ∧ 0 < i ∧ T i ≤ T (i - 1)) ∨ (¬ T i < 0 ∧ ¬ 2097152 < T i ∧ 0 < i ∧ ¬ T i ≤ T (i - 1)) := by omega
   rcases hk with e1 | ⟨e1, e2⟩ | ⟨e1, e2, e3⟩ | ⟨e1, e2, e3, e4⟩ | ⟨e1, e2, e3, e4⟩
   ·rw [show decide (TrR w n T V) = false from decide_eq_false (fun h9 => (fun h : KeR T V i => (by have h1 := h.1; omega)) (h9.2.2.2.2 i hlt))] at hQ
    refine AW.draw [.val, .rd 0, .val, .val, .val, .rd 0, .val, .val, .val, .val, .val, .val, .val, .rd 0, .val, .val, .val, .val, .rd 0, .val, .rd 0, .val, .val, .val] fol (by decide) (by kernel_rfl) ?_
    simp only [push_cast, simprocAttr, pk_20, e1]
    apply hK;clear hK K
    refine AW.cond_t rfl ?_
    refine AW.sr 1 fun K hK => ?_
    simp only [push_cast, simprocAttr, pk_20, e1]
    apply hK;clear hK K
    refine AW.ret ?_
    refine Thn_r ?_
    refine InB_r ?_
    refine Thn_r ?_
    refine Thn_r ?_
    refine InB_r ?_
    refine Thn_r ?_
    refine hQ _ _ _ ?_
    first | refine RetP.drop0 (Or.inr rfl) ?_ ?_ hwf | refine RetP.drop (Or.inr rfl) ?_ ?_ hwf
    · simp only [resA, resOne, resTv, AV.tv, push_cast, simprocAttr, pk_20, e1]
    · rfl
   ·rw [show decide (TrR w n T V) = false from decide_eq_false (fun h9 => (fun h : KeR T V i => (by have h1 := h.2.1; omega)) (h9.2.2.2.2 i hlt))] at hQ
    refine AW.draw [.val, .rd 0, .val, .val, .val, .rd 0, .val, .val, .val, .val, .val, .val, .val, .rd 0, .val, .val, .val, .val, .rd 0, .val, .rd 0, .val, .val, .val] fol (by decide) (by kernel_rfl) ?_
    simp only [push_cast, simprocAttr, pk_20, e1, e2]
    apply hK;clear hK K
    refine AW.cond_t rfl ?_
    refine AW.sr 1 fun K hK => ?_
    simp only [push_cast, simprocAttr, pk_20, e1, e2]
    apply hK;clear hK K
    refine AW.ret ?_
    refine Thn_r ?_
    refine InB_r ?_
    refine Thn_r ?_
    refine Thn_r ?_
    refine InB_r ?_
    refine Thn_r ?_
    refine hQ _ _ _ ?_
    first | refine RetP.drop0 (Or.inr rfl) ?_ ?_ hwf | refine RetP.drop (Or.inr rfl) ?_ ?_ hwf
    · simp only [resA, resOne, resTv, AV.tv, push_cast, simprocAttr, pk_20, e1, e2]
    · rfl
   ·have e5 : ¬ (0 : Int) < (i : Int) := by omega
    have e6 : 0 < i → T (i - 1) < T i := fun h => by omega
    refine AW.draw [.val, .rd 0, .val, .val, .val, .rd 0, .val, .val, .val, .val, .val, .val, .val, .rd 0, .val, .val, .val, .val, .rd 0, .val, .rd 0, .val, .val, .val] fol (by decide) (by kernel_rfl) ?_
    simp only [push_cast, simprocAttr, pk_20, e1, e2, e5]
    apply hK;clear hK K
    refine AW.cond_f rfl ?_
    refine AW.skip ?_
    apply hK;clear hK K
    refine AW.sr 1 fun K hK => ?_
    simp only [push_cast, simprocAttr, pk_20, e1, e2, e5]
    apply hK;clear hK K
    refine AW.block ?_
    refine AW.rounds 4 ?_
    refine ARounds.succ fun K hK => ?_
    refine AW.sr 1 fun K hK => ?_
    simp only [push_cast, simprocAttr, pk_20, e1, e2, e5]
    apply hK;clear hK K
    refine AW.ifT rfl ?_
    refine AW.seq_k fun K hK => ?_
    refine AW.block ?_
    refine AW.sr 2 fun K hK => ?_
    simp only [push_cast, simprocAttr, pk_20, e1, e2, e5]
    refine CThen.by (vat0_c (V i) _) ?_
    simp only [push_cast, simprocAttr, pk_20, e1, e2, e5]
    apply hK;clear hK K
    refine AW.seq_k fun K hK => ?_
    have hk0 : V i 0 < -2147483648 ∨ (¬ V i 0 < -2147483648 ∧ 2147483648 < V i 0) ∨ (¬ V i 0 < -2147483648 ∧ ¬ 2147483648 < V i 0) := by omega
    rcases hk0 with f0 | ⟨f0, b0⟩ | ⟨f0, b0⟩
    ·rw [show decide (TrR w n T V) = false from decide_eq_false (fun h9 => (fun h : KeR T V i => (by have := h.2.2.2 0 (by omega); omega)) (h9.2.2.2.2 i hlt))] at hQ
     refine AW.rg ?_
     have pk_21 : _ ∧ _ ∧ _ ∧ _ ∧ _ := ⟨pk_20, e1, e2, e5, f0⟩
     simp only [push_cast, simprocAttr, pk_21]
     apply hK;clear hK K
     refine AW.cond_t rfl ?_
     refine AW.sr 1 fun K hK => ?_
     simp only [push_cast, simprocAttr, pk_21]
     apply hK;clear hK K
     refine AW.ret ?_
     refine InB_r ?_
     refine Thn_r ?_
     refine Thn_r ?_
     refine InB_r ?_
     refine InB_r ?_
     refine Thn_r ?_
     refine Thn_r ?_
     refine InB_r ?_
     refine Thn_r ?_
     refine hQ _ _ _ ?_
     first | refine RetP.drop0 (Or.inr rfl) ?_ ?_ hwf | refine RetP.drop (Or.inr rfl) ?_ ?_ hwf
     · simp only [resA, resOne, resTv, AV.tv, push_cast, simprocAttr, pk_21]
     · rfl
    ·rw [show decide (TrR w n T V) = false from decide_eq_false (fun h9 => (fun h : KeR T V i => (by have := h.2.2.2 0 (by omega); omega)) (h9.2.2.2.2 i hlt))] at hQ
     refine AW.rg ?_
     have pk_22 : _ ∧ _ ∧ _ ∧ _ ∧ _ ∧ _ := ⟨pk_20, e1, e2, e5, f0, b0⟩
     simp only [push_cast, simprocAttr, pk_22]
     apply hK;clear hK K
     refine AW.cond_t rfl ?_
     refine AW.sr 1 fun K hK => ?_
     simp only [push_cast, simprocAttr, pk_22]
     apply hK;clear hK K
     refine AW.ret ?_
     refine InB_r ?_
     refine Thn_r ?_
     refine Thn_r ?_
     refine InB_r ?_
     refine InB_r ?_
     refine Thn_r ?_
     refine Thn_r ?_
     refine InB_r ?_
     refine Thn_r ?_
     refine hQ _ _ _ ?_
     first | refine RetP.drop0 (Or.inr rfl) ?_ ?_ hwf | refine RetP.drop (Or.inr rfl) ?_ ?_ hwf
     · simp only [resA, resOne, resTv, AV.tv, push_cast, simprocAttr, pk_22]
     · rfl
    ·have ok0 := True.intro
     refine AW.rg ?_
     have pk_23 : _ ∧ _ ∧ _ ∧ _ ∧ _ ∧ _ := ⟨pk_20, e1, e2, e5, f0, b0⟩
     simp only [push_cast, simprocAttr, pk_23]
     apply hK;clear hK K
     refine AW.cond_f rfl ?_
     refine AW.skip ?_
     refine InB_n ?_
     apply hK;clear hK K
     refine AW.rg ?_
     simp only [push_cast, simprocAttr, pk_23]
     apply hK;clear hK K
     refine ARounds.succ fun K hK => ?_
     refine AW.sr 1 fun K hK => ?_
     simp only [push_cast, simprocAttr, pk_20, e1, e2, e5]
     apply hK;clear hK K
     refine AW.ifT rfl ?_
     refine AW.seq_k fun K hK => ?_
     refine AW.block ?_
     refine AW.sr 2 fun K hK => ?_
     simp only [push_cast, simprocAttr, pk_20, e1, e2, e5]
     refine CThen.by (vat1_c (V i) _) ?_
     simp only [push_cast, simprocAttr, pk_20, e1, e2, e5]
     apply hK;clear hK K
     refine AW.seq_k fun K hK => ?_
     have hk1 : V i 1 < -2147483648 ∨ (¬ V i 1 < -2147483648 ∧ 2147483648 < V i 1) ∨ (¬ V i 1 < -2147483648 ∧ ¬ 2147483648 < V i 1) := by omega
     rcases hk1 with f1 | ⟨f1, b1⟩ | ⟨f1, b1⟩
     ·rw [show decide (TrR w n T V) = false from decide_eq_false (fun h9 => (fun h : KeR T V i => (by have := h.2.2.2 1 (by omega); omega)) (h9.2.2.2.2 i hlt))] at hQ
      refine AW.rg ?_
      have pk_24 : _ ∧ _ ∧ _ ∧ _ ∧ _ := ⟨pk_20, e1, e2, e5, f1⟩
      simp only [push_cast, simprocAttr, pk_24]
      apply hK;clear hK K
      refine AW.cond_t rfl ?_
      refine AW.sr 1 fun K hK => ?_
      simp only [push_cast, simprocAttr, pk_24]
      apply hK;clear hK K
      refine AW.ret ?_
      refine InB_r ?_
      refine Thn_r ?_
      refine Thn_r ?_
      refine InB_r ?_
      refine InB_r ?_
      refine Thn_r ?_
      refine Thn_r ?_
      refine InB_r ?_
      refine Thn_r ?_
      refine hQ _ _ _ ?_
      first | refine RetP.drop0 (Or.inr rfl) ?_ ?_ hwf | refine RetP.drop (Or.inr rfl) ?_ ?_ hwf
      · simp only [resA, resOne, resTv, AV.tv, push_cast, simprocAttr, pk_24]
      · rfl
     ·rw [show decide (TrR w n T V) = false from decide_eq_false (fun h9 => (fun h : KeR T V i => (by have := h.2.2.2 1 (by omega); omega)) (h9.2.2.2.2 i hlt))] at hQ
      refine AW.rg ?_
      have pk_25 : _ ∧ _ ∧ _ ∧ _ ∧ _ ∧ _ := ⟨pk_20, e1, e2, e5, f1, b1⟩
      simp only [push_cast, simprocAttr, pk_25]
      apply hK;clear hK K
      refine AW.cond_t rfl ?_
      refine AW.sr 1 fun K hK => ?_
      simp only [push_cast, simprocAttr, pk_25]
      apply hK;clear hK K
      refine AW.ret ?_
      refine InB_r ?_
      refine Thn_r ?_
      refine Thn_r ?_
      refine InB_r ?_
      refine InB_r ?_
      refine Thn_r ?_
      refine Thn_r ?_
      refine InB_r ?_
      refine Thn_r ?_
      refine hQ _ _ _ ?_
      first | refine RetP.drop0 (Or.inr rfl) ?_ ?_ hwf | refine RetP.drop (Or.inr rfl) ?_ ?_ hwf
      · simp only [resA, resOne, resTv, AV.tv, push_cast, simprocAttr, pk_25]
      · rfl
     ·have ok1 := True.intro
      refine AW.rg ?_
      have pk_26 : _ ∧ _ ∧ _ ∧ _ ∧ _ ∧ _ := ⟨pk_20, e1, e2, e5, f1, b1⟩
      simp only [push_cast, simprocAttr, pk_26]
      apply hK;clear hK K
      refine AW.cond_f rfl ?_
      refine AW.skip ?_
      refine InB_n ?_
      apply hK;clear hK K
      refine AW.rg ?_
      simp only [push_cast, simprocAttr, pk_26]
      apply hK;clear hK K
      refine ARounds.succ fun K hK => ?_
      refine AW.sr 1 fun K hK => ?_
      simp only [push_cast, simprocAttr, pk_20, e1, e2, e5]
      apply hK;clear hK K
      refine AW.ifT rfl ?_
      refine AW.seq_k fun K hK => ?_
      refine AW.block ?_
      refine AW.sr 2 fun K hK => ?_
      simp only [push_cast, simprocAttr, pk_20, e1, e2, e5]
      refine CThen.by (vat2_c (V i) _) ?_
      simp only [push_cast, simprocAttr, pk_20, e1, e2, e5]
      apply hK;clear hK K
      refine AW.seq_k fun K hK => ?_
      have hk2 : V i 2 < -2147483648 ∨ (¬ V i 2 < -2147483648 ∧ 2147483648 < V i 2) ∨ (¬ V i 2 < -2147483648 ∧ ¬ 2147483648 < V i 2) := by omega
      rcases hk2 with f2 | ⟨f2, b2⟩ | ⟨f2, b2⟩
      ·rw [show decide (TrR w n T V) = false from decide_eq_false (fun h9 => (fun h : KeR T V i => (by have := h.2.2.2 2 (by omega); omega)) (h9.2.2.2.2 i hlt))] at hQ
       refine AW.rg ?_
       have pk_27 : _ ∧ _ ∧ _ ∧ _ ∧ _ := ⟨pk_20, e1, e2, e5, f2⟩
       simp only [push_cast, simprocAttr, pk_27]
       apply hK;clear hK K
       refine AW.cond_t rfl ?_
       refine AW.sr 1 fun K hK => ?_
       simp only [push_cast, simprocAttr, pk_27]
       apply hK;clear hK K
       refine AW.ret ?_
       refine InB_r ?_
       refine Thn_r ?_
       refine Thn_r ?_
       refine InB_r ?_
       refine InB_r ?_
       refine Thn_r ?_
       refine Thn_r ?_
       refine InB_r ?_
       refine Thn_r ?_
       refine hQ _ _ _ ?_
       first | refine RetP.drop0 (Or.inr rfl) ?_ ?_ hwf | refine RetP.drop (Or.inr rfl) ?_ ?_ hwf
       · simp only [resA, resOne, resTv, AV.tv, push_cast, simprocAttr, pk_27]
       · rfl
      ·rw [show decide (TrR w n T V) = false from decide_eq_false (fun h9 => (fun h : KeR T V i => (by have := h.2.2.2 2 (by omega); omega)) (h9.2.2.2.2 i hlt))] at hQ
       refine AW.rg ?_
       have pk_28 : _ ∧ _ ∧ _ ∧ _ ∧ _ ∧ _ := ⟨pk_20, e1, e2, e5, f2, b2⟩
       simp only [push_cast, simprocAttr, pk_28]
       apply hK;clear hK K
       refine AW.cond_t rfl ?_
       refine AW.sr 1 fun K hK => ?_
       simp only [push_cast, simprocAttr, pk_28]
       apply hK;clear hK K
       refine AW.ret ?_
       refine InB_r ?_
       refine Thn_r ?_
       refine Thn_r ?_
       refine InB_r ?_
       refine InB_r ?_
       refine Thn_r ?_
       refine Thn_r ?_
       refine InB_r ?_
       refine Thn_r ?_
       refine hQ _ _ _ ?_
       first | refine RetP.drop0 (Or.inr rfl) ?_ ?_ hwf | refine RetP.drop (Or.inr rfl) ?_ ?_ hwf
       · simp only [resA, resOne, resTv, AV.tv, push_cast, simprocAttr, pk_28]
       · rfl
      ·have ok2 := True.intro
       refine AW.rg ?_
       have pk_29 : _ ∧ _ ∧ _ ∧ _ ∧ _ ∧ _ := ⟨pk_20, e1, e2, e5, f2, b2⟩
       simp only [push_cast, simprocAttr, pk_29]
       apply hK;clear hK K
       refine AW.cond_f rfl ?_
       refine AW.skip ?_
       refine InB_n ?_
       apply hK;clear hK K
       refine AW.rg ?_
       simp only [push_cast, simprocAttr, pk_29]
       apply hK;clear hK K
       refine ARounds.succ fun K hK => ?_
       refine AW.sr 1 fun K hK => ?_
       simp only [push_cast, simprocAttr, pk_20, e1, e2, e5]
       apply hK;clear hK K
       refine AW.seq_k fun K hK => ?_
       refine AW.cond_f rfl ?_
       refine AW.exit ?_
       refine Thn_e ?_
       clear hK K
       refine Thn_e ?_
       clear hK K
       refine InB_here ?_
       refine InB_n ?_
       apply hK;clear hK K
       refine AW.rg ?_
       simp only [push_cast, simprocAttr, pk_20, e1, e2, e5]
       refine Thn_n ?_
       have hwi : IntKind.i64.wrap ((i:Int)+1) = (i:Int)+1 := wi (by omega)
       have hnow : KeR T V i := ⟨by omega, by omega, e6, fun a ha => by
         match a, ha with
         | 0, _ => omega
         | 1, _ => omega
         | 2, _ => omega⟩
       refine ⟨i + 1, ⟨by omega, fun k hk => by
         rcases Nat.lt_or_ge k i with h | h
         · exact hok k h
         · obtain rfl : k = i := by omega
           exact hnow⟩, by omega, ?_⟩
       try simp only [keepL, setAll, push_cast, simprocAttr, pk_20, e1, e2, e5, hwi]
       exact Weak.to (extra := [_]) (by simp only [KS, simprocAttr, hwi]) (by first | rfl | (simp only [List.append_assoc, List.cons_append, List.nil_append]; rfl)) (by first | rfl | (simp [AV.below, CV.below]; done) | (simp [AV.below, CV.below]; omega)) (by
         first | exact hwf | refine MWf.app (hwf.grow (by simp)) ?_
         repeat (first | exact MWf_nil | (refine MWf_cons ?_ ?_; · first | rfl | (simp [CV.below]; done) | (simp [CV.below]; omega))))
   ·rw [show decide (TrR w n T V) = false from decide_eq_false (fun h9 => (fun h : KeR T V i => (by have h1 := h.2.2.1 e3; omega)) (h9.2.2.2.2 i hlt))] at hQ
    have e5 : (0 : Int) < (i : Int) := by omega
    obtain ⟨j, hj⟩ : ∃ j, j = i - 1 := ⟨_, rfl⟩
    have p1 : IntKind.i64.wrap ((i : Int) - 1) = (j : Int) := by rw [wi (by omega)]; omega
    have p2 : (0 : Int) ≤ (j : Int) := by omega
    have p3 : (j : Int) < (n : Int) := by omega
    have p4 : j * 4 + 4 ≤ n * 4 := by omega
    have p5 : j < n := by omega
    have ha := catC_at (w := 4) (F := keC T V) (fun _ => rfl) p5
    rw [← hj] at e4
    have p6 : (catC n (keC T V))[j * 4]? = some (.int .i64 (T j)) := catC_get (w := 4) (F := keC T V) (fun _ => rfl) p5 (a := 0) (by omega)
    refine AW.draw [.val, .rd 0, .val, .val, .val, .rd 0, .val, .val, .val, .val, .val, .val, .val, .rd 0, .val, .val, .val, .val, .rd 0, .val, .rd 0, .val, .val, .val] fol (by decide) (by kernel_rfl) ?_
    have pk_30 : _ ∧ _ ∧ _ ∧ _ ∧ _ ∧ _ ∧ _ ∧ _ ∧ _ ∧ _ ∧ _ ∧ _ := ⟨pk_20, e1, e2, e4, e5, p1, p2, p3, p4, p5, p6, ha⟩
    simp only [push_cast, simprocAttr, pk_30]
    apply hK;clear hK K
    refine AW.cond_t rfl ?_
    refine AW.sr 1 fun K hK => ?_
    simp only [push_cast, simprocAttr, pk_30]
    apply hK;clear hK K
    refine AW.ret ?_
    refine Thn_r ?_
    refine InB_r ?_
    refine Thn_r ?_
    refine Thn_r ?_
    refine InB_r ?_
    refine Thn_r ?_
    refine hQ _ _ _ ?_
    first | refine RetP.drop0 (Or.inr rfl) ?_ ?_ hwf | refine RetP.drop (Or.inr rfl) ?_ ?_ hwf
    · simp only [resA, resOne, resTv, AV.tv, push_cast, simprocAttr, pk_30]
    · rfl
   ·have e5 : (0 : Int) < (i : Int) := by omega
    obtain ⟨j, hj⟩ : ∃ j, j = i - 1 := ⟨_, rfl⟩
    have p1 : IntKind.i64.wrap ((i : Int) - 1) = (j : Int) := by rw [wi (by omega)]; omega
    have p2 : (0 : Int) ≤ (j : Int) := by omega
    have p3 : (j : Int) < (n : Int) := by omega
    have p4 : j * 4 + 4 ≤ n * 4 := by omega
    have p5 : j < n := by omega
    have ha := catC_at (w := 4) (F := keC T V) (fun _ => rfl) p5
    rw [← hj] at e4
    have p6 : (catC n (keC T V))[j * 4]? = some (.int .i64 (T j)) := catC_get (w := 4) (F := keC T V) (fun _ => rfl) p5 (a := 0) (by omega)
    have e6 : 0 < i → T (i - 1) < T i := fun _ => by rw [← hj]; omega
    refine AW.draw [.val, .rd 0, .val, .val, .val, .rd 0, .val, .val, .val, .val, .val, .val, .val, .rd 0, .val, .val, .val, .val, .rd 0, .val, .rd 0, .val, .val, .val] fol (by decide) (by kernel_rfl) ?_
    have pk_31 : _ ∧ _ ∧ _ ∧ _ ∧ _ ∧ _ ∧ _ ∧ _ ∧ _ ∧ _ ∧ _ ∧ _ := ⟨pk_20, e1, e2, e4, e5, p1, p2, p3, p4, p5, p6, ha⟩
    simp only [push_cast, simprocAttr, pk_31]
    apply hK;clear hK K
    refine AW.cond_f rfl ?_
    refine AW.skip ?_
    apply hK;clear hK K
    refine AW.sr 1 fun K hK => ?_
    simp only [push_cast, simprocAttr, pk_31]
    apply hK;clear hK K
    refine AW.block ?_
    refine AW.rounds 4 ?_
    refine ARounds.succ fun K hK => ?_
    refine AW.sr 1 fun K hK => ?_
    simp only [push_cast, simprocAttr, pk_31]
    apply hK;clear hK K
    refine AW.ifT rfl ?_
    refine AW.seq_k fun K hK => ?_
    refine AW.block ?_
    refine AW.sr 2 fun K hK => ?_
    simp only [push_cast, simprocAttr, pk_31]
    refine CThen.by (vat0_c (V i) _) ?_
    simp only [push_cast, simprocAttr, pk_31]
    apply hK;clear hK K
    refine AW.seq_k fun K hK => ?_
    have hk0 : V i 0 < -2147483648 ∨ (¬ V i 0 < -2147483648 ∧ 2147483648 < V i 0) ∨ (¬ V i 0 < -2147483648 ∧ ¬ 2147483648 < V i 0) := by omega
    rcases hk0 with f0 | ⟨f0, b0⟩ | ⟨f0, b0⟩
    ·rw [show decide (TrR w n T V) = false from decide_eq_false (fun h9 => (fun h : KeR T V i => (by have := h.2.2.2 0 (by omega); omega)) (h9.2.2.2.2 i hlt))] at hQ
     refine AW.rg ?_
     simp only [push_cast, simprocAttr, pk_31, f0]
     apply hK;clear hK K
     refine AW.cond_t rfl ?_
     refine AW.sr 1 fun K hK => ?_
     simp only [push_cast, simprocAttr, pk_31, f0]
     apply hK;clear hK K
     refine AW.ret ?_
     refine InB_r ?_
     refine Thn_r ?_
     refine Thn_r ?_
     refine InB_r ?_
     refine InB_r ?_
     refine Thn_r ?_
     refine Thn_r ?_
     refine InB_r ?_
     refine Thn_r ?_
     refine hQ _ _ _ ?_
     first | refine RetP.drop0 (Or.inr rfl) ?_ ?_ hwf | refine RetP.drop (Or.inr rfl) ?_ ?_ hwf
     · simp only [resA, resOne, resTv, AV.tv, push_cast, simprocAttr, pk_31, f0]
     · rfl
    ·rw [show decide (TrR w n T V) = false from decide_eq_false (fun h9 => (fun h : KeR T V i => (by have := h.2.2.2 0 (by omega); omega)) (h9.2.2.2.2 i hlt))] at hQ
     refine AW.rg ?_
     simp only [push_cast, simprocAttr, pk_31, f0, b0]
     apply hK;clear hK K
     refine AW.cond_t rfl ?_
     refine AW.sr 1 fun K hK => ?_
     simp only [push_cast, simprocAttr, pk_31, f0, b0]
     apply hK;clear hK K
     refine AW.ret ?_
     refine InB_r ?_
     refine Thn_r ?_
     refine Thn_r ?_
     refine InB_r ?_
     refine InB_r ?_
     refine Thn_r ?_
     refine Thn_r ?_
     refine InB_r ?_
     refine Thn_r ?_
     refine hQ _ _ _ ?_
     first | refine RetP.drop0 (Or.inr rfl) ?_ ?_ hwf | refine RetP.drop (Or.inr rfl) ?_ ?_ hwf
     · simp only [resA, resOne, resTv, AV.tv, push_cast, simprocAttr, pk_31, f0, b0]
     · rfl
    ·have ok0 := True.intro
     refine AW.rg ?_
     simp only [push_cast, simprocAttr, pk_31, f0, b0]
     apply hK;clear hK K
     refine AW.cond_f rfl ?_
     refine AW.skip ?_
     refine InB_n ?_
     apply hK;clear hK K
     refine AW.rg ?_
     simp only [push_cast, simprocAttr, pk_31, f0, b0]
     apply hK;clear hK K
     refine ARounds.succ fun K hK => ?_
     refine AW.sr 1 fun K hK => ?_
     simp only [push_cast, simprocAttr, pk_31]
     apply hK;clear hK K
     refine AW.ifT rfl ?_
     refine AW.seq_k fun K hK => ?_
     refine AW.block ?_
     refine AW.sr 2 fun K hK => ?_
     simp only [push_cast, simprocAttr, pk_31]
     refine CThen.by (vat1_c (V i) _) ?_
     simp only [push_cast, simprocAttr, pk_31]
     apply hK;clear hK K
     refine AW.seq_k fun K hK => ?_
     have hk1 : V i 1 < -2147483648 ∨ (¬ V i 1 < -2147483648 ∧ 2147483648 < V i 1) ∨ (¬ V i 1 < -2147483648 ∧ ¬ 2147483648 < V i 1) := by omega
     rcases hk1 with f1 | ⟨f1, b1⟩ | ⟨f1, b1⟩
     ·rw [show decide (TrR w n T V) = false from decide_eq_false (fun h9 => (fun h : KeR T V i => (by have := h.2.2.2 1 (by omega); omega)) (h9.2.2.2.2 i hlt))] at hQ
      refine AW.rg ?_
      simp only [push_cast, simprocAttr, pk_31, f1]
      apply hK;clear hK K
      refine AW.cond_t rfl ?_
      refine AW.sr 1 fun K hK => ?_
      simp only [push_cast, simprocAttr, pk_31, f1]
      apply hK;clear hK K
      refine AW.ret ?_
      refine InB_r ?_
      refine Thn_r ?_
      refine Thn_r ?_
      refine InB_r ?_
      refine InB_r ?_
      refine Thn_r ?_
      refine Thn_r ?_
      refine InB_r ?_
      refine Thn_r ?_
      refine hQ _ _ _ ?_
      first | refine RetP.drop0 (Or.inr rfl) ?_ ?_ hwf | refine RetP.drop (Or.inr rfl) ?_ ?_ hwf
      · simp only [resA, resOne, resTv, AV.tv, push_cast, simprocAttr, pk_31, f1]
      · rfl
     ·rw [show decide (TrR w n T V) = false from decide_eq_false (fun h9 => (fun h : KeR T V i => (by have := h.2.2.2 1 (by omega); omega)) (h9.2.2.2.2 i hlt))] at hQ
      refine AW.rg ?_
      simp only [push_cast, simprocAttr, pk_31, f1, b1]
      apply hK;clear hK K
      refine AW.cond_t rfl ?_
      refine AW.sr 1 fun K hK => ?_
      simp only [push_cast, simprocAttr, pk_31, f1, b1]
      apply hK;clear hK K
      refine AW.ret ?_
      refine InB_r ?_
      refine Thn_r ?_
      refine Thn_r ?_
      refine InB_r ?_
      refine InB_r ?_
      refine Thn_r ?_
      refine Thn_r ?_
      refine InB_r ?_
      refine Thn_r ?_
      refine hQ _ _ _ ?_
      first | refine RetP.drop0 (Or.inr rfl) ?_ ?_ hwf | refine RetP.drop (Or.inr rfl) ?_ ?_ hwf
      · simp only [resA, resOne, resTv, AV.tv, push_cast, simprocAttr, pk_31, f1, b1]
      · rfl
     ·have ok1 := True.intro
      refine AW.rg ?_
      simp only [push_cast, simprocAttr, pk_31, f1, b1]
      apply hK;clear hK K
      refine AW.cond_f rfl ?_
      refine AW.skip ?_
      refine InB_n ?_
      apply hK;clear hK K
      refine AW.rg ?_
      simp only [push_cast, simprocAttr, pk_31, f1, b1]
      apply hK;clear hK K
      refine ARounds.succ fun K hK => ?_
      refine AW.sr 1 fun K hK => ?_
      simp only [push_cast, simprocAttr, pk_31]
      apply hK;clear hK K
      refine AW.ifT rfl ?_
      refine AW.seq_k fun K hK => ?_
      refine AW.block ?_
      refine AW.sr 2 fun K hK => ?_
      simp only [push_cast, simprocAttr, pk_31]
      refine CThen.by (vat2_c (V i) _) ?_
      simp only [push_cast, simprocAttr, pk_31]
      apply hK;clear hK K
      refine AW.seq_k fun K hK => ?_
      have hk2 : V i 2 < -2147483648 ∨ (¬ V i 2 < -2147483648 ∧ 2147483648 < V i 2) ∨ (¬ V i 2 < -2147483648 ∧ ¬ 2147483648 < V i 2) := by omega
      rcases hk2 with f2 | ⟨f2, b2⟩ | ⟨f2, b2⟩
      ·rw [show decide (TrR w n T V) = false from decide_eq_false (fun h9 => (fun h : KeR T V i => (by have := h.2.2.2 2 (by omega); omega)) (h9.2.2.2.2 i hlt))] at hQ
       refine AW.rg ?_
       simp only [push_cast, simprocAttr, pk_31, f2]
       apply hK;clear hK K
       refine AW.cond_t rfl ?_
       refine AW.sr 1 fun K hK => ?_
       simp only [push_cast, simprocAttr, pk_31, f2]
       apply hK;clear hK K
       refine AW.ret ?_
       refine InB_r ?_
       refine Thn_r ?_
       refine Thn_r ?_
       refine InB_r ?_
       refine InB_r ?_
       refine Thn_r ?_
       refine Thn_r ?_
       refine InB_r ?_
       refine Thn_r ?_
       refine hQ _ _ _ ?_
       first | refine RetP.drop0 (Or.inr rfl) ?_ ?_ hwf | refine RetP.drop (Or.inr rfl) ?_ ?_ hwf
       · simp only [resA, resOne, resTv, AV.tv, push_cast, simprocAttr, pk_31, f2]
       · rfl
      ·rw [show decide (TrR w n T V) = false from decide_eq_false (fun h9 => (fun h : KeR T V i => (by have := h.2.2.2 2 (by omega); omega)) (h9.2.2.2.2 i hlt))] at hQ
       refine AW.rg ?_
       simp only [push_cast, simprocAttr, pk_31, f2, b2]
       apply hK;clear hK K
       refine AW.cond_t rfl ?_
       refine AW.sr 1 fun K hK => ?_
       simp only [push_cast, simprocAttr, pk_31, f2, b2]
       apply hK;clear hK K
       refine AW.ret ?_
       refine InB_r ?_
       refine Thn_r ?_
       refine Thn_r ?_
       refine InB_r ?_
       refine InB_r ?_
       refine Thn_r ?_
       refine Thn_r ?_
       refine InB_r ?_
       refine Thn_r ?_
       refine hQ _ _ _ ?_
       first | refine RetP.drop0 (Or.inr rfl) ?_ ?_ hwf | refine RetP.drop (Or.inr rfl) ?_ ?_ hwf
       · simp only [resA, resOne, resTv, AV.tv, push_cast, simprocAttr, pk_31, f2, b2]
       · rfl
      ·have ok2 := True.intro
       refine AW.rg ?_
       simp only [push_cast, simprocAttr, pk_31, f2, b2]
       apply hK;clear hK K
       refine AW.cond_f rfl ?_
       refine AW.skip ?_
       refine InB_n ?_
       apply hK;clear hK K
       refine AW.rg ?_
       simp only [push_cast, simprocAttr, pk_31, f2, b2]
       apply hK;clear hK K
       refine ARounds.succ fun K hK => ?_
       refine AW.sr 1 fun K hK => ?_
       simp only [push_cast, simprocAttr, pk_31]
       apply hK;clear hK K
       refine AW.seq_k fun K hK => ?_
       refine AW.cond_f rfl ?_
       refine AW.exit ?_
       refine Thn_e ?_
       clear hK K
       refine Thn_e ?_
       clear hK K
       refine InB_here ?_
       refine InB_n ?_
       apply hK;clear hK K
       refine AW.rg ?_
       simp only [push_cast, simprocAttr, pk_31]
       refine Thn_n ?_
       have hwi : IntKind.i64.wrap ((i:Int)+1) = (i:Int)+1 := wi (by omega)
       have hnow : KeR T V i := ⟨by omega, by omega, e6, fun a ha => by
         match a, ha with
         | 0, _ => omega
         | 1, _ => omega
         | 2, _ => omega⟩
       refine ⟨i + 1, ⟨by omega, fun k hk => by
         rcases Nat.lt_or_ge k i with h | h
         · exact hok k h
         · obtain rfl : k = i := by omega
           exact hnow⟩, by omega, ?_⟩
       try simp only [keepL, setAll, push_cast, simprocAttr, pk_31, hwi]
       exact Weak.to (extra := [_]) (by simp only [KS, simprocAttr, hwi]) (by first | rfl | (simp only [List.append_assoc, List.cons_append, List.nil_append]; rfl)) (by first | rfl | (simp [AV.below, CV.below]; done) | (simp [AV.below, CV.below]; omega)) (by
         first | exact hwf | refine MWf.app (hwf.grow (by simp)) ?_
         repeat (first | exact MWf_nil | (refine MWf_cons ?_ ?_; · first | rfl | (simp [CV.below]; done) | (simp [CV.below]; omega))))
  ·have hie : i = n := by have := of_decide_eq_false h31; omega
   rw [show decide (TrR w n T V) = true from decide_eq_true ⟨by omega, by omega, by omega, by omega, fun k hk => hok k (by omega)⟩] at hQ
   refine AW.exit ?_
   refine Thn_e ?_
   clear hK K
   refine Thn_e ?_
   refine InB_here ?_
   apply hK;clear hK K
   refine AW.sr 1 fun K hK => ?_
   simp only [push_cast, simprocAttr, pk_19]
   apply hK;clear hK K
   refine AW.ret ?_
   refine hQ _ _ _ ?_
   first | refine RetP.drop0 (Or.inr rfl) ?_ ?_ hwf | refine RetP.drop (Or.inr rfl) ?_ ?_ hwf
   · simp only [resA, resOne, resTv, AV.tv, push_cast, simprocAttr, pk_19]
   · rfl
def z3 (f : Nat → Int) : Bool := f 0 == 0 && (f 1 == 0 && f 2 == 0)
def S0R (s : SC) (i : Nat) : Prop := inB (s.xj i) (-1) ((s.nj : Int) - 1) = true ∧ inB (s.xp i) 0 ((s.np : Int) - 1) = true ∧ boxB (s.xv i 0) (-16777216) 16777216 = true ∧ z3 (s.xv i 1) = true ∧ z3 (s.xv i 2) = true ∧ 1 ≤ s.xr i ∧ s.xr i ≤ 4194304
instance (s : SC) (i : Nat) : Decidable (S0R s i) := by unfold S0R; exact inferInstance
def S1R (s : SC) (i : Nat) : Prop := inB (s.xj i) (-1) ((s.nj : Int) - 1) = true ∧ inB (s.xp i) 0 ((s.np : Int) - 1) = true ∧ boxB (s.xv i 0) (-16777216) 16777216 = true ∧ (s.xk i == 1) = true ∧ boxB (s.xv i 1) (-16777216) 16777216 = true ∧ boxB (s.xv i 2) (-16777216) 16777216 = true ∧ (s.xr i == 0) = true
instance (s : SC) (i : Nat) : Decidable (S1R s i) := by unfold S1R; exact inferInstance
def ShR (s : SC) (i : Nat) : Prop := if s.xk i = 0 then S0R s i else S1R s i
instance (s : SC) (i : Nat) : Decidable (ShR s i) := by unfold ShR; exact inferInstance
theorem rshb_c (s : SC) (R : RWs) (i : Nat) (m : AMem) (hn : s.nj ≤ 1000000000000) (hp : s.np ≤ 1000000000000) (hb : ¬ (inB (s.xj i) (-1) ((s.nj : Int) - 1) = true ∧ inB (s.xp i) 0 ((s.np : Int) - 1) = true ∧ boxB (s.xv i 0) (-16777216) 16777216 = true)) : Ctr Tryz.prog 30 [.agg (scC s R), .agg (xC s i)] m (.one (.bool false)) m := by
 refine Ctr.enter Tryz.func30 rfl (by decide) (rs := [.tmp 4]) (nt := 75) rfl rfl fun hwf Q hQ => ?_
 have w1 := (show IntKind.i64.wrap ((s.nj : Int) - 1) = (s.nj : Int) - 1 from wi (by omega))
 have w2 := (show IntKind.i64.wrap ((s.np : Int) - 1) = (s.np : Int) - 1 from wi (by omega))
 rcases chain3 (inB (s.xj i) (-1) ((s.nj : Int) - 1) = true) (inB (s.xp i) 0 ((s.np : Int) - 1) = true) (boxB (s.xv i 0) (-16777216) 16777216 = true) with ⟨g1, g2, g3⟩ | ⟨g1, g2, g3⟩ | ⟨g1, g2, g3⟩ | ⟨g1, g2, g3⟩
 · exact absurd ⟨g1, g2, g3⟩ hb
 all_goals (
 try simp only [Bool.not_eq_true, Bool.not_eq_false, Classical.not_not] at g1 g2 g3
 refine AW.sr 1 fun K hK => ?_
 have pk_1 : _ ∧ _ ∧ _ ∧ _ ∧ _ := ⟨g1, g2, g3, w1, w2⟩
 simp only [push_cast, simprocAttr, scC, hdC, tlC, c3C, xC, pk_1]
 apply hK;clear hK K
 refine AW.seq_k fun K hK => ?_
 refine AW.sr 1 fun K hK => ?_
 simp only [push_cast, simprocAttr, scC, hdC, tlC, c3C, xC, pk_1]
 refine CThen.by (in_c _ _ _ _) ?_
 simp only [push_cast, simprocAttr, scC, hdC, tlC, c3C, xC, pk_1]
 try (refine CThen.by (in_c _ _ _ _) ?_; simp only [push_cast, simprocAttr, scC, hdC, tlC, c3C, xC, pk_1])
 try (refine CThen.by (point_c _ _) ?_; simp only [push_cast, simprocAttr, scC, hdC, tlC, c3C, xC, pk_1])
 apply hK;clear hK K
 refine AW.cond_t rfl ?_
 refine AW.sr 1 fun K hK => ?_
 simp only [push_cast, simprocAttr, scC, hdC, tlC, c3C, xC, pk_1]
 apply hK;clear hK K
 refine AW.ret ?_
 refine Thn_r ?_
 refine hQ _ _ _ ?_
 first | refine RetP.drop0 (Or.inr rfl) ?_ ?_ hwf | refine RetP.drop (Or.inr rfl) ?_ ?_ hwf
 · simp only [resA, resOne, resTv, AV.tv, push_cast, simprocAttr, scC, hdC, tlC, c3C, xC, pk_1]
 · rfl
 )
theorem rsh0_c (s : SC) (R : RWs) (i : Nat) (m : AMem) (hn : s.nj ≤ 1000000000000) (hp : s.np ≤ 1000000000000) (g1 : inB (s.xj i) (-1) ((s.nj : Int) - 1) = true) (g2 : inB (s.xp i) 0 ((s.np : Int) - 1) = true) (g3 : boxB (s.xv i 0) (-16777216) 16777216 = true) (hk : s.xk i = 0) : Ctr Tryz.prog 30 [.agg (scC s R), .agg (xC s i)] m (.one (.bool (decide (S0R s i)))) m := by
 refine Ctr.enter Tryz.func30 rfl (by decide) (rs := [.tmp 4]) (nt := 75) rfl rfl fun hwf Q hQ => ?_
 have w1 := (show IntKind.i64.wrap ((s.nj : Int) - 1) = (s.nj : Int) - 1 from wi (by omega))
 have w2 := (show IntKind.i64.wrap ((s.np : Int) - 1) = (s.np : Int) - 1 from wi (by omega))
 rcases chain4 ((s.xv i 1 0 == 0 && (s.xv i 1 1 == 0 && s.xv i 1 2 == 0)) = true) ((s.xv i 2 0 == 0 && (s.xv i 2 1 == 0 && s.xv i 2 2 == 0)) = true) (1 ≤ s.xr i) (s.xr i ≤ 4194304) with ⟨e1, e2, e3, e4⟩ | ⟨e1, e2, e3, e4⟩ | ⟨e1, e2, e3, e4⟩ | ⟨e1, e2, e3, e4⟩ | ⟨e1, e2, e3, e4⟩ <;>
 (
 try simp only [Bool.not_eq_true, Bool.not_eq_false, Classical.not_not] at e1 e2 e3 e4
 first
 | (have hz : (S0R s i) := ⟨g1, g2, g3, e1, e2, e3, e4⟩
    rw [decide_eq_true hz] at hQ)
 | (have hz : ¬ (S0R s i) := fun ⟨qg1, qg2, qg3, qe1, qe2, qe3, qe4⟩ => by
      first | exact e1 qe1 | exact Bool.false_ne_true (e1.symm.trans qe1) | exact e2 qe2 | exact Bool.false_ne_true (e2.symm.trans qe2) | exact e3 qe3 | exact Bool.false_ne_true (e3.symm.trans qe3) | exact e4 qe4 | exact Bool.false_ne_true (e4.symm.trans qe4)
    rw [decide_eq_false hz] at hQ)
 refine AW.sr 1 fun K hK => ?_
 have pk_2 : _ ∧ _ ∧ _ ∧ _ ∧ _ ∧ _ ∧ _ ∧ _ ∧ _ ∧ _ := ⟨e1, e2, e3, e4, w1, w2, hk, g1, g2, g3⟩
 simp only [push_cast, simprocAttr, scC, hdC, tlC, c3C, xC, pk_2]
 apply hK;clear hK K
 refine AW.seq_k fun K hK => ?_
 refine AW.sr 1 fun K hK => ?_
 iterate 2
  simp only [push_cast, simprocAttr, scC, hdC, tlC, c3C, xC, pk_2]
  refine CThen.by (in_c _ _ _ _) ?_
 simp only [push_cast, simprocAttr, scC, hdC, tlC, c3C, xC, pk_2]
 refine CThen.by (point_c _ _) ?_
 simp only [push_cast, simprocAttr, scC, hdC, tlC, c3C, xC, pk_2]
 apply hK;clear hK K
 refine AW.cond_f rfl ?_
 refine AW.skip ?_
 apply hK;clear hK K
 refine AW.seq_k fun K hK => ?_
 refine AW.sr 1 fun K hK => ?_
 simp only [push_cast, simprocAttr, scC, hdC, tlC, c3C, xC, pk_2]
 apply hK;clear hK K
 refine AW.cond_t rfl ?_
 refine AW.sr 1 fun K hK => ?_
 simp only [push_cast, simprocAttr, scC, hdC, tlC, c3C, xC, pk_2]
 apply hK;clear hK K
 refine AW.ret ?_
 refine Thn_r ?_
 refine hQ _ _ _ ?_
 first | refine RetP.drop0 (Or.inr rfl) ?_ ?_ hwf | refine RetP.drop (Or.inr rfl) ?_ ?_ hwf
 · simp only [resA, resOne, resTv, AV.tv, push_cast, simprocAttr, scC, hdC, tlC, c3C, xC, pk_2]
 · rfl
 )
theorem rsh1_c (s : SC) (R : RWs) (i : Nat) (m : AMem) (hn : s.nj ≤ 1000000000000) (hp : s.np ≤ 1000000000000) (g1 : inB (s.xj i) (-1) ((s.nj : Int) - 1) = true) (g2 : inB (s.xp i) 0 ((s.np : Int) - 1) = true) (g3 : boxB (s.xv i 0) (-16777216) 16777216 = true) (hk : ¬ s.xk i = 0) : Ctr Tryz.prog 30 [.agg (scC s R), .agg (xC s i)] m (.one (.bool (decide (S1R s i)))) m := by
 refine Ctr.enter Tryz.func30 rfl (by decide) (rs := [.tmp 4]) (nt := 75) rfl rfl fun hwf Q hQ => ?_
 have w1 := (show IntKind.i64.wrap ((s.nj : Int) - 1) = (s.nj : Int) - 1 from wi (by omega))
 have w2 := (show IntKind.i64.wrap ((s.np : Int) - 1) = (s.np : Int) - 1 from wi (by omega))
 have hk0 : (s.xk i == 0) = false := by simpa using hk
 rcases chain4 ((s.xk i == 1) = true) (boxB (s.xv i 1) (-16777216) 16777216 = true) (boxB (s.xv i 2) (-16777216) 16777216 = true) ((s.xr i == 0) = true) with ⟨e1, e2, e3, e4⟩ | ⟨e1, e2, e3, e4⟩ | ⟨e1, e2, e3, e4⟩ | ⟨e1, e2, e3, e4⟩ | ⟨e1, e2, e3, e4⟩ <;>
 (
 try simp only [Bool.not_eq_true, Bool.not_eq_false, Classical.not_not] at e1 e2 e3 e4
 first
 | (have hz : (S1R s i) := ⟨g1, g2, g3, e1, e2, e3, e4⟩
    rw [decide_eq_true hz] at hQ)
 | (have hz : ¬ (S1R s i) := fun ⟨qg1, qg2, qg3, qe1, qe2, qe3, qe4⟩ => by
      first | exact e1 qe1 | exact Bool.false_ne_true (e1.symm.trans qe1) | exact e2 qe2 | exact Bool.false_ne_true (e2.symm.trans qe2) | exact e3 qe3 | exact Bool.false_ne_true (e3.symm.trans qe3) | exact e4 qe4 | exact Bool.false_ne_true (e4.symm.trans qe4)
    rw [decide_eq_false hz] at hQ)
 refine AW.sr 1 fun K hK => ?_
 have pk_3 : _ ∧ _ ∧ _ ∧ _ ∧ _ ∧ _ ∧ _ ∧ _ ∧ _ ∧ _ ∧ _ := ⟨e1, e2, e3, e4, w1, w2, hk, hk0, g1, g2, g3⟩
 simp only [push_cast, simprocAttr, scC, hdC, tlC, c3C, xC, pk_3]
 apply hK;clear hK K
 refine AW.seq_k fun K hK => ?_
 refine AW.sr 1 fun K hK => ?_
 iterate 2
  simp only [push_cast, simprocAttr, scC, hdC, tlC, c3C, xC, pk_3]
  refine CThen.by (in_c _ _ _ _) ?_
 simp only [push_cast, simprocAttr, scC, hdC, tlC, c3C, xC, pk_3]
 refine CThen.by (point_c _ _) ?_
 simp only [push_cast, simprocAttr, scC, hdC, tlC, c3C, xC, pk_3]
 apply hK;clear hK K
 refine AW.cond_f rfl ?_
 refine AW.skip ?_
 apply hK;clear hK K
 refine AW.seq_k fun K hK => ?_
 refine AW.sr 1 fun K hK => ?_
 simp only [push_cast, simprocAttr, scC, hdC, tlC, c3C, xC, pk_3]
 apply hK;clear hK K
 refine AW.cond_f rfl ?_
 refine AW.skip ?_
 apply hK;clear hK K
 refine AW.sr 1 fun K hK => ?_
 simp only [push_cast, simprocAttr, scC, hdC, tlC, c3C, xC, pk_3]
 try (refine CThen.by (point_c _ _) ?_; simp only [push_cast, simprocAttr, scC, hdC, tlC, c3C, xC, pk_3])
 try (refine CThen.by (point_c _ _) ?_; simp only [push_cast, simprocAttr, scC, hdC, tlC, c3C, xC, pk_3])
 apply hK;clear hK K
 refine AW.ret ?_
 refine hQ _ _ _ ?_
 first | refine RetP.drop0 (Or.inr rfl) ?_ ?_ hwf | refine RetP.drop (Or.inr rfl) ?_ ?_ hwf
 · simp only [resA, resOne, resTv, AV.tv, push_cast, simprocAttr, scC, hdC, tlC, c3C, xC, pk_3]
 · rfl
 )
theorem rsh_c (s : SC) (R : RWs) (i : Nat) (m : AMem) (hn : s.nj ≤ 1000000000000) (hp : s.np ≤ 1000000000000) : Ctr Tryz.prog 30 [.agg (scC s R), .agg (xC s i)] m (.one (.bool (decide (ShR s i)))) m := by
 by_cases hg : (inB (s.xj i) (-1) ((s.nj : Int) - 1) = true ∧ inB (s.xp i) 0 ((s.np : Int) - 1) = true ∧ boxB (s.xv i 0) (-16777216) 16777216 = true)
 ·obtain ⟨g1, g2, g3⟩ := hg
  by_cases hk : s.xk i = 0
  ·have e : decide (ShR s i) = decide (S0R s i) := by congr 1; exact if_pos hk
   rw [e]; exact rsh0_c s R i m hn hp g1 g2 g3 hk
  ·have e : decide (ShR s i) = decide (S1R s i) := by congr 1; exact if_neg hk
   rw [e]; exact rsh1_c s R i m hn hp g1 g2 g3 hk
 ·have e : decide (ShR s i) = false := decide_eq_false fun h => hg (by
   unfold ShR at h
   split at h
   ·exact ⟨h.1, h.2.1, h.2.2.1⟩
   ·exact ⟨h.1, h.2.1, h.2.2.1⟩)
  rw [e]; exact rshb_c s R i m hn hp hg
theorem span_t (x lo hi : Int) (m : AMem) (g : lo ≤ x) : Ctr Tryz.prog 80 [.one (.int .i64 x), .one (.int .i64 lo), .one (.int .i64 hi)] m (.one (.bool (inB x lo hi))) m := by
 refine Ctr.enter Tryz.func80 rfl (by decide) (rs := [.tmp 6]) (nt := 15) rfl rfl fun hwf Q hQ => ?_
 refine AW.sr 2 fun K hK => ?_
 simp only [push_cast, simprocAttr, inB, g, decide_true, decide_false, Bool.true_and, Bool.false_and]
 apply hK;clear hK K
 refine AW.ret ?_
 refine hQ _ _ _ ?_
 first | refine RetP.drop0 (Or.inr rfl) ?_ ?_ hwf | refine RetP.drop (Or.inr rfl) ?_ ?_ hwf
 · simp only [resA, resOne, resTv, AV.tv, push_cast, simprocAttr, inB, g, decide_true, decide_false, Bool.true_and, Bool.false_and]
 · rfl
theorem span_f (x lo hi : Int) (m : AMem) (g : ¬ lo ≤ x) : Ctr Tryz.prog 80 [.one (.int .i64 x), .one (.int .i64 lo), .one (.int .i64 hi)] m (.one (.bool (inB x lo hi))) m := by
 refine Ctr.enter Tryz.func80 rfl (by decide) (rs := [.tmp 6]) (nt := 15) rfl rfl fun hwf Q hQ => ?_
 refine AW.sr 2 fun K hK => ?_
 simp only [push_cast, simprocAttr, inB, g, decide_true, decide_false, Bool.true_and, Bool.false_and]
 apply hK;clear hK K
 refine AW.ret ?_
 refine hQ _ _ _ ?_
 first | refine RetP.drop0 (Or.inr rfl) ?_ ?_ hwf | refine RetP.drop (Or.inr rfl) ?_ ?_ hwf
 · simp only [resA, resOne, resTv, AV.tv, push_cast, simprocAttr, inB, g, decide_true, decide_false, Bool.true_and, Bool.false_and]
 · rfl
theorem span_c (x lo hi : Int) (m : AMem) : Ctr Tryz.prog 80 [.one (.int .i64 x), .one (.int .i64 lo), .one (.int .i64 hi)] m (.one (.bool (inB x lo hi))) m := by
 by_cases g : lo ≤ x
 ·exact span_t x lo hi m g
 ·exact span_f x lo hi m g
theorem clight_c (f : Nat → Int) (m : AMem) : Ctr Tryz.prog 81 [.agg (c3C f)] m (.one (.bool (boxB f (0) (1048576)))) m := by
 refine Ctr.enter Tryz.func81 rfl (by decide) (rs := [.tmp 2]) (nt := 22) rfl rfl fun hwf Q hQ => ?_
 have gv : c3C f = [.int .i64 (f 0), .int .i64 (f 1), .int .i64 (f 2)] := rfl
 refine AW.sr 1 fun K hK => ?_
 simp only [push_cast, simprocAttr, c3C]
 apply hK;clear hK K
 refine AW.seq_k fun K hK => ?_
 refine AW.sr 1 fun K hK => ?_
 simp only [push_cast, simprocAttr, c3C]
 apply hK;clear hK K
 refine AW.block ?_
 refine AW.rounds 4 ?_
 refine ARounds.succ fun K hK => ?_
 refine AW.sr 1 fun K hK => ?_
 simp only [push_cast, simprocAttr, c3C]
 apply hK;clear hK K
 refine AW.ifT rfl ?_
 refine AW.seq_k fun K hK => ?_
 refine AW.block ?_
 refine AW.sr 1 fun K hK => ?_
 simp only [push_cast, simprocAttr, c3C]
 apply hK;clear hK K
 refine AW.seq_k fun K hK => ?_
 have hk0 : f 0 < 0 ∨ (¬ f 0 < 0 ∧ 1048576 < f 0) ∨ (¬ f 0 < 0 ∧ ¬ 1048576 < f 0) := by omega
 rcases hk0 with g0 | ⟨g0, f0⟩ | ⟨g0, f0⟩
 ·rw [show boxB f (0) (1048576) = false from decide_eq_false (by omega)] at hQ
  refine AW.rg ?_
  simp only [push_cast, simprocAttr, c3C, g0]
  apply hK;clear hK K
  refine AW.cond_t rfl ?_
  refine AW.sr 1 fun K hK => ?_
  simp only [push_cast, simprocAttr, c3C, g0]
  apply hK;clear hK K
  refine AW.ret ?_
  refine InB_r ?_
  refine Thn_r ?_
  refine Thn_r ?_
  refine InB_r ?_
  refine Thn_r ?_
  refine hQ _ _ _ ?_
  first
  | (refine RetP.drop0 (Or.inr rfl) ?_ ?_ hwf
     · simp only [resA, resOne, resTv, AV.tv, push_cast, simprocAttr]
     · rfl)
  | (refine RetP.drop (Or.inr rfl) ?_ ?_ hwf
     · simp only [resA, resOne, resTv, AV.tv, push_cast, simprocAttr]
     · rfl)
  | (rw [show boxB f (0) (1048576) = true from decide_eq_true (by omega)] at * ; refine RetP.drop (Or.inr rfl) ?_ ?_ hwf
     · simp only [resA, resOne, resTv, AV.tv, push_cast, simprocAttr]
     · rfl)
 ·rw [show boxB f (0) (1048576) = false from decide_eq_false (by omega)] at hQ
  refine AW.rg ?_
  simp only [push_cast, simprocAttr, c3C, g0, f0]
  apply hK;clear hK K
  refine AW.cond_t rfl ?_
  refine AW.sr 1 fun K hK => ?_
  simp only [push_cast, simprocAttr, c3C, g0, f0]
  apply hK;clear hK K
  refine AW.ret ?_
  refine InB_r ?_
  refine Thn_r ?_
  refine Thn_r ?_
  refine InB_r ?_
  refine Thn_r ?_
  refine hQ _ _ _ ?_
  first
  | (refine RetP.drop0 (Or.inr rfl) ?_ ?_ hwf
     · simp only [resA, resOne, resTv, AV.tv, push_cast, simprocAttr]
     · rfl)
  | (refine RetP.drop (Or.inr rfl) ?_ ?_ hwf
     · simp only [resA, resOne, resTv, AV.tv, push_cast, simprocAttr]
     · rfl)
  | (rw [show boxB f (0) (1048576) = true from decide_eq_true (by omega)] at * ; refine RetP.drop (Or.inr rfl) ?_ ?_ hwf
     · simp only [resA, resOne, resTv, AV.tv, push_cast, simprocAttr]
     · rfl)
 ·have ok0 := True.intro
  refine AW.rg ?_
  simp only [push_cast, simprocAttr, c3C, g0, f0]
  apply hK;clear hK K
  refine AW.cond_f rfl ?_
  refine AW.skip ?_
  refine InB_n ?_
  apply hK;clear hK K
  refine AW.rg ?_
  simp only [push_cast, simprocAttr, c3C, g0, f0]
  apply hK;clear hK K
  refine ARounds.succ fun K hK => ?_
  refine AW.sr 1 fun K hK => ?_
  simp only [push_cast, simprocAttr, c3C]
  apply hK;clear hK K
  refine AW.ifT rfl ?_
  refine AW.seq_k fun K hK => ?_
  refine AW.block ?_
  refine AW.sr 1 fun K hK => ?_
  simp only [push_cast, simprocAttr, c3C]
  apply hK;clear hK K
  refine AW.seq_k fun K hK => ?_
  have hk1 : f 1 < 0 ∨ (¬ f 1 < 0 ∧ 1048576 < f 1) ∨ (¬ f 1 < 0 ∧ ¬ 1048576 < f 1) := by omega
  rcases hk1 with g1 | ⟨g1, f1⟩ | ⟨g1, f1⟩
  ·rw [show boxB f (0) (1048576) = false from decide_eq_false (by omega)] at hQ
   refine AW.rg ?_
   simp only [push_cast, simprocAttr, c3C, g1]
   apply hK;clear hK K
   refine AW.cond_t rfl ?_
   refine AW.sr 1 fun K hK => ?_
   simp only [push_cast, simprocAttr, c3C, g1]
   apply hK;clear hK K
   refine AW.ret ?_
   refine InB_r ?_
   refine Thn_r ?_
   refine Thn_r ?_
   refine InB_r ?_
   refine Thn_r ?_
   refine hQ _ _ _ ?_
   first
   | (refine RetP.drop0 (Or.inr rfl) ?_ ?_ hwf
      · simp only [resA, resOne, resTv, AV.tv, push_cast, simprocAttr]
      · rfl)
   | (refine RetP.drop (Or.inr rfl) ?_ ?_ hwf
      · simp only [resA, resOne, resTv, AV.tv, push_cast, simprocAttr]
      · rfl)
   | (rw [show boxB f (0) (1048576) = true from decide_eq_true (by omega)] at * ; refine RetP.drop (Or.inr rfl) ?_ ?_ hwf
      · simp only [resA, resOne, resTv, AV.tv, push_cast, simprocAttr]
      · rfl)
  ·rw [show boxB f (0) (1048576) = false from decide_eq_false (by omega)] at hQ
   refine AW.rg ?_
   simp only [push_cast, simprocAttr, c3C, g1, f1]
   apply hK;clear hK K
   refine AW.cond_t rfl ?_
   refine AW.sr 1 fun K hK => ?_
   simp only [push_cast, simprocAttr, c3C, g1, f1]
   apply hK;clear hK K
   refine AW.ret ?_
   refine InB_r ?_
   refine Thn_r ?_
   refine Thn_r ?_
   refine InB_r ?_
   refine Thn_r ?_
   refine hQ _ _ _ ?_
   first
   | (refine RetP.drop0 (Or.inr rfl) ?_ ?_ hwf
      · simp only [resA, resOne, resTv, AV.tv, push_cast, simprocAttr]
      · rfl)
   | (refine RetP.drop (Or.inr rfl) ?_ ?_ hwf
      · simp only [resA, resOne, resTv, AV.tv, push_cast, simprocAttr]
      · rfl)
   | (rw [show boxB f (0) (1048576) = true from decide_eq_true (by omega)] at * ; refine RetP.drop (Or.inr rfl) ?_ ?_ hwf
      · simp only [resA, resOne, resTv, AV.tv, push_cast, simprocAttr]
      · rfl)
  ·have ok1 := True.intro
   refine AW.rg ?_
   simp only [push_cast, simprocAttr, c3C, g1, f1]
   apply hK;clear hK K
   refine AW.cond_f rfl ?_
   refine AW.skip ?_
   refine InB_n ?_
   apply hK;clear hK K
   refine AW.rg ?_
   simp only [push_cast, simprocAttr, c3C, g1, f1]
   apply hK;clear hK K
   refine ARounds.succ fun K hK => ?_
   refine AW.sr 1 fun K hK => ?_
   simp only [push_cast, simprocAttr, c3C]
   apply hK;clear hK K
   refine AW.ifT rfl ?_
   refine AW.seq_k fun K hK => ?_
   refine AW.block ?_
   refine AW.sr 1 fun K hK => ?_
   simp only [push_cast, simprocAttr, c3C]
   apply hK;clear hK K
   refine AW.seq_k fun K hK => ?_
   have hk2 : f 2 < 0 ∨ (¬ f 2 < 0 ∧ 1048576 < f 2) ∨ (¬ f 2 < 0 ∧ ¬ 1048576 < f 2) := by omega
   rcases hk2 with g2 | ⟨g2, f2⟩ | ⟨g2, f2⟩
   ·rw [show boxB f (0) (1048576) = false from decide_eq_false (by omega)] at hQ
    refine AW.rg ?_
    simp only [push_cast, simprocAttr, c3C, g2]
    apply hK;clear hK K
    refine AW.cond_t rfl ?_
    refine AW.sr 1 fun K hK => ?_
    simp only [push_cast, simprocAttr, c3C, g2]
    apply hK;clear hK K
    refine AW.ret ?_
    refine InB_r ?_
    refine Thn_r ?_
    refine Thn_r ?_
    refine InB_r ?_
    refine Thn_r ?_
    refine hQ _ _ _ ?_
    first
    | (refine RetP.drop0 (Or.inr rfl) ?_ ?_ hwf
       · simp only [resA, resOne, resTv, AV.tv, push_cast, simprocAttr]
       · rfl)
    | (refine RetP.drop (Or.inr rfl) ?_ ?_ hwf
       · simp only [resA, resOne, resTv, AV.tv, push_cast, simprocAttr]
       · rfl)
    | (rw [show boxB f (0) (1048576) = true from decide_eq_true (by omega)] at * ; refine RetP.drop (Or.inr rfl) ?_ ?_ hwf
       · simp only [resA, resOne, resTv, AV.tv, push_cast, simprocAttr]
       · rfl)
   ·rw [show boxB f (0) (1048576) = false from decide_eq_false (by omega)] at hQ
    refine AW.rg ?_
    simp only [push_cast, simprocAttr, c3C, g2, f2]
    apply hK;clear hK K
    refine AW.cond_t rfl ?_
    refine AW.sr 1 fun K hK => ?_
    simp only [push_cast, simprocAttr, c3C, g2, f2]
    apply hK;clear hK K
    refine AW.ret ?_
    refine InB_r ?_
    refine Thn_r ?_
    refine Thn_r ?_
    refine InB_r ?_
    refine Thn_r ?_
    refine hQ _ _ _ ?_
    first
    | (refine RetP.drop0 (Or.inr rfl) ?_ ?_ hwf
       · simp only [resA, resOne, resTv, AV.tv, push_cast, simprocAttr]
       · rfl)
    | (refine RetP.drop (Or.inr rfl) ?_ ?_ hwf
       · simp only [resA, resOne, resTv, AV.tv, push_cast, simprocAttr]
       · rfl)
    | (rw [show boxB f (0) (1048576) = true from decide_eq_true (by omega)] at * ; refine RetP.drop (Or.inr rfl) ?_ ?_ hwf
       · simp only [resA, resOne, resTv, AV.tv, push_cast, simprocAttr]
       · rfl)
   ·have ok2 := True.intro
    refine AW.rg ?_
    simp only [push_cast, simprocAttr, c3C, g2, f2]
    apply hK;clear hK K
    refine AW.cond_f rfl ?_
    refine AW.skip ?_
    refine InB_n ?_
    apply hK;clear hK K
    refine AW.rg ?_
    simp only [push_cast, simprocAttr, c3C, g2, f2]
    apply hK;clear hK K
    refine ARounds.succ fun K hK => ?_
    refine AW.sr 1 fun K hK => ?_
    simp only [push_cast, simprocAttr, c3C]
    apply hK;clear hK K
    refine AW.seq_k fun K hK => ?_
    refine AW.cond_f rfl ?_
    refine AW.exit ?_
    refine Thn_e ?_
    clear hK K
    refine Thn_e ?_
    clear hK K
    refine InB_here ?_
    apply hK;clear hK K
    refine AW.sr 1 fun K hK => ?_
    simp only [push_cast, simprocAttr, c3C]
    apply hK;clear hK K
    refine AW.ret ?_
    refine hQ _ _ _ ?_
    first
    | (refine RetP.drop0 (Or.inr rfl) ?_ ?_ hwf
       · simp only [resA, resOne, resTv, AV.tv, push_cast, simprocAttr]
       · rfl)
    | (refine RetP.drop (Or.inr rfl) ?_ ?_ hwf
       · simp only [resA, resOne, resTv, AV.tv, push_cast, simprocAttr]
       · rfl)
    | (rw [show boxB f (0) (1048576) = true from decide_eq_true (by omega)] at * ; refine RetP.drop (Or.inr rfl) ?_ ?_ hwf
       · simp only [resA, resOne, resTv, AV.tv, push_cast, simprocAttr]
       · rfl)
theorem cpoint_c (f : Nat → Int) (m : AMem) : Ctr Tryz.prog 84 [.agg (c3C f)] m (.one (.bool (boxB f (-16777216) (16777216)))) m := by
 refine Ctr.enter Tryz.func84 rfl (by decide) (rs := [.tmp 2]) (nt := 18) rfl rfl fun hwf Q hQ => ?_
 have gv : c3C f = [.int .i64 (f 0), .int .i64 (f 1), .int .i64 (f 2)] := rfl
 refine AW.sr 1 fun K hK => ?_
 simp only [push_cast, simprocAttr]
 apply hK;clear hK K
 refine AW.seq_k fun K hK => ?_
 refine AW.sr 1 fun K hK => ?_
 simp only [push_cast, simprocAttr]
 apply hK;clear hK K
 refine AW.block ?_
 refine AW.rounds 4 ?_
 refine ARounds.succ fun K hK => ?_
 refine AW.sr 1 fun K hK => ?_
 simp only [push_cast, simprocAttr]
 apply hK;clear hK K
 refine AW.ifT rfl ?_
 refine AW.seq_k fun K hK => ?_
 refine AW.block ?_
 refine AW.sr 2 fun K hK => ?_
 simp only [push_cast, simprocAttr]
 refine CThen.by (vat0_c f _) ?_
 simp only [push_cast, simprocAttr]
 apply hK;clear hK K
 refine AW.seq_k fun K hK => ?_
 have hk0 : f 0 < -16777216 ∨ (¬ f 0 < -16777216 ∧ 16777216 < f 0) ∨ (¬ f 0 < -16777216 ∧ ¬ 16777216 < f 0) := by omega
 rcases hk0 with g0 | ⟨g0, f0⟩ | ⟨g0, f0⟩
 ·rw [show boxB f (-16777216) (16777216) = false from decide_eq_false (by omega)] at hQ
  refine AW.rg ?_
  simp only [push_cast, simprocAttr, g0]
  apply hK;clear hK K
  refine AW.cond_t rfl ?_
  refine AW.sr 1 fun K hK => ?_
  simp only [push_cast, simprocAttr, g0]
  apply hK;clear hK K
  refine AW.ret ?_
  refine InB_r ?_
  refine Thn_r ?_
  refine Thn_r ?_
  refine InB_r ?_
  refine Thn_r ?_
  refine hQ _ _ _ ?_
  first
  | (refine RetP.drop0 (Or.inr rfl) ?_ ?_ hwf
     · simp only [resA, resOne, resTv, AV.tv, push_cast, simprocAttr]
     · rfl)
  | (refine RetP.drop (Or.inr rfl) ?_ ?_ hwf
     · simp only [resA, resOne, resTv, AV.tv, push_cast, simprocAttr]
     · rfl)
  | (rw [show boxB f (-16777216) (16777216) = true from decide_eq_true (by omega)] at * ; refine RetP.drop (Or.inr rfl) ?_ ?_ hwf
     · simp only [resA, resOne, resTv, AV.tv, push_cast, simprocAttr]
     · rfl)
 ·rw [show boxB f (-16777216) (16777216) = false from decide_eq_false (by omega)] at hQ
  refine AW.rg ?_
  simp only [push_cast, simprocAttr, g0, f0]
  apply hK;clear hK K
  refine AW.cond_t rfl ?_
  refine AW.sr 1 fun K hK => ?_
  simp only [push_cast, simprocAttr, g0, f0]
  apply hK;clear hK K
  refine AW.ret ?_
  refine InB_r ?_
  refine Thn_r ?_
  refine Thn_r ?_
  refine InB_r ?_
  refine Thn_r ?_
  refine hQ _ _ _ ?_
  first
  | (refine RetP.drop0 (Or.inr rfl) ?_ ?_ hwf
     · simp only [resA, resOne, resTv, AV.tv, push_cast, simprocAttr]
     · rfl)
  | (refine RetP.drop (Or.inr rfl) ?_ ?_ hwf
     · simp only [resA, resOne, resTv, AV.tv, push_cast, simprocAttr]
     · rfl)
  | (rw [show boxB f (-16777216) (16777216) = true from decide_eq_true (by omega)] at * ; refine RetP.drop (Or.inr rfl) ?_ ?_ hwf
     · simp only [resA, resOne, resTv, AV.tv, push_cast, simprocAttr]
     · rfl)
 ·have ok0 := True.intro
  refine AW.rg ?_
  simp only [push_cast, simprocAttr, g0, f0]
  apply hK;clear hK K
  refine AW.cond_f rfl ?_
  refine AW.skip ?_
  refine InB_n ?_
  apply hK;clear hK K
  refine AW.rg ?_
  simp only [push_cast, simprocAttr, g0, f0]
  apply hK;clear hK K
  refine ARounds.succ fun K hK => ?_
  refine AW.sr 1 fun K hK => ?_
  simp only [push_cast, simprocAttr]
  apply hK;clear hK K
  refine AW.ifT rfl ?_
  refine AW.seq_k fun K hK => ?_
  refine AW.block ?_
  refine AW.sr 2 fun K hK => ?_
  simp only [push_cast, simprocAttr]
  refine CThen.by (vat1_c f _) ?_
  simp only [push_cast, simprocAttr]
  apply hK;clear hK K
  refine AW.seq_k fun K hK => ?_
  have hk1 : f 1 < -16777216 ∨ (¬ f 1 < -16777216 ∧ 16777216 < f 1) ∨ (¬ f 1 < -16777216 ∧ ¬ 16777216 < f 1) := by omega
  rcases hk1 with g1 | ⟨g1, f1⟩ | ⟨g1, f1⟩
  ·rw [show boxB f (-16777216) (16777216) = false from decide_eq_false (by omega)] at hQ
   refine AW.rg ?_
   simp only [push_cast, simprocAttr, g1]
   apply hK;clear hK K
   refine AW.cond_t rfl ?_
   refine AW.sr 1 fun K hK => ?_
   simp only [push_cast, simprocAttr, g1]
   apply hK;clear hK K
   refine AW.ret ?_
   refine InB_r ?_
   refine Thn_r ?_
   refine Thn_r ?_
   refine InB_r ?_
   refine Thn_r ?_
   refine hQ _ _ _ ?_
   first
   | (refine RetP.drop0 (Or.inr rfl) ?_ ?_ hwf
      · simp only [resA, resOne, resTv, AV.tv, push_cast, simprocAttr]
      · rfl)
   | (refine RetP.drop (Or.inr rfl) ?_ ?_ hwf
      · simp only [resA, resOne, resTv, AV.tv, push_cast, simprocAttr]
      · rfl)
   | (rw [show boxB f (-16777216) (16777216) = true from decide_eq_true (by omega)] at * ; refine RetP.drop (Or.inr rfl) ?_ ?_ hwf
      · simp only [resA, resOne, resTv, AV.tv, push_cast, simprocAttr]
      · rfl)
  ·rw [show boxB f (-16777216) (16777216) = false from decide_eq_false (by omega)] at hQ
   refine AW.rg ?_
   simp only [push_cast, simprocAttr, g1, f1]
   apply hK;clear hK K
   refine AW.cond_t rfl ?_
   refine AW.sr 1 fun K hK => ?_
   simp only [push_cast, simprocAttr, g1, f1]
   apply hK;clear hK K
   refine AW.ret ?_
   refine InB_r ?_
   refine Thn_r ?_
   refine Thn_r ?_
   refine InB_r ?_
   refine Thn_r ?_
   refine hQ _ _ _ ?_
   first
   | (refine RetP.drop0 (Or.inr rfl) ?_ ?_ hwf
      · simp only [resA, resOne, resTv, AV.tv, push_cast, simprocAttr]
      · rfl)
   | (refine RetP.drop (Or.inr rfl) ?_ ?_ hwf
      · simp only [resA, resOne, resTv, AV.tv, push_cast, simprocAttr]
      · rfl)
   | (rw [show boxB f (-16777216) (16777216) = true from decide_eq_true (by omega)] at * ; refine RetP.drop (Or.inr rfl) ?_ ?_ hwf
      · simp only [resA, resOne, resTv, AV.tv, push_cast, simprocAttr]
      · rfl)
  ·have ok1 := True.intro
   refine AW.rg ?_
   simp only [push_cast, simprocAttr, g1, f1]
   apply hK;clear hK K
   refine AW.cond_f rfl ?_
   refine AW.skip ?_
   refine InB_n ?_
   apply hK;clear hK K
   refine AW.rg ?_
   simp only [push_cast, simprocAttr, g1, f1]
   apply hK;clear hK K
   refine ARounds.succ fun K hK => ?_
   refine AW.sr 1 fun K hK => ?_
   simp only [push_cast, simprocAttr]
   apply hK;clear hK K
   refine AW.ifT rfl ?_
   refine AW.seq_k fun K hK => ?_
   refine AW.block ?_
   refine AW.sr 2 fun K hK => ?_
   simp only [push_cast, simprocAttr]
   refine CThen.by (vat2_c f _) ?_
   simp only [push_cast, simprocAttr]
   apply hK;clear hK K
   refine AW.seq_k fun K hK => ?_
   have hk2 : f 2 < -16777216 ∨ (¬ f 2 < -16777216 ∧ 16777216 < f 2) ∨ (¬ f 2 < -16777216 ∧ ¬ 16777216 < f 2) := by omega
   rcases hk2 with g2 | ⟨g2, f2⟩ | ⟨g2, f2⟩
   ·rw [show boxB f (-16777216) (16777216) = false from decide_eq_false (by omega)] at hQ
    refine AW.rg ?_
    simp only [push_cast, simprocAttr, g2]
    apply hK;clear hK K
    refine AW.cond_t rfl ?_
    refine AW.sr 1 fun K hK => ?_
    simp only [push_cast, simprocAttr, g2]
    apply hK;clear hK K
    refine AW.ret ?_
    refine InB_r ?_
    refine Thn_r ?_
    refine Thn_r ?_
    refine InB_r ?_
    refine Thn_r ?_
    refine hQ _ _ _ ?_
    first
    | (refine RetP.drop0 (Or.inr rfl) ?_ ?_ hwf
       · simp only [resA, resOne, resTv, AV.tv, push_cast, simprocAttr]
       · rfl)
    | (refine RetP.drop (Or.inr rfl) ?_ ?_ hwf
       · simp only [resA, resOne, resTv, AV.tv, push_cast, simprocAttr]
       · rfl)
    | (rw [show boxB f (-16777216) (16777216) = true from decide_eq_true (by omega)] at * ; refine RetP.drop (Or.inr rfl) ?_ ?_ hwf
       · simp only [resA, resOne, resTv, AV.tv, push_cast, simprocAttr]
       · rfl)
   ·rw [show boxB f (-16777216) (16777216) = false from decide_eq_false (by omega)] at hQ
    refine AW.rg ?_
    simp only [push_cast, simprocAttr, g2, f2]
    apply hK;clear hK K
    refine AW.cond_t rfl ?_
    refine AW.sr 1 fun K hK => ?_
    simp only [push_cast, simprocAttr, g2, f2]
    apply hK;clear hK K
    refine AW.ret ?_
    refine InB_r ?_
    refine Thn_r ?_
    refine Thn_r ?_
    refine InB_r ?_
    refine Thn_r ?_
    refine hQ _ _ _ ?_
    first
    | (refine RetP.drop0 (Or.inr rfl) ?_ ?_ hwf
       · simp only [resA, resOne, resTv, AV.tv, push_cast, simprocAttr]
       · rfl)
    | (refine RetP.drop (Or.inr rfl) ?_ ?_ hwf
       · simp only [resA, resOne, resTv, AV.tv, push_cast, simprocAttr]
       · rfl)
    | (rw [show boxB f (-16777216) (16777216) = true from decide_eq_true (by omega)] at * ; refine RetP.drop (Or.inr rfl) ?_ ?_ hwf
       · simp only [resA, resOne, resTv, AV.tv, push_cast, simprocAttr]
       · rfl)
   ·have ok2 := True.intro
    refine AW.rg ?_
    simp only [push_cast, simprocAttr, g2, f2]
    apply hK;clear hK K
    refine AW.cond_f rfl ?_
    refine AW.skip ?_
    refine InB_n ?_
    apply hK;clear hK K
    refine AW.rg ?_
    simp only [push_cast, simprocAttr, g2, f2]
    apply hK;clear hK K
    refine ARounds.succ fun K hK => ?_
    refine AW.sr 1 fun K hK => ?_
    simp only [push_cast, simprocAttr]
    apply hK;clear hK K
    refine AW.seq_k fun K hK => ?_
    refine AW.cond_f rfl ?_
    refine AW.exit ?_
    refine Thn_e ?_
    clear hK K
    refine Thn_e ?_
    clear hK K
    refine InB_here ?_
    apply hK;clear hK K
    refine AW.sr 1 fun K hK => ?_
    simp only [push_cast, simprocAttr]
    apply hK;clear hK K
    refine AW.ret ?_
    refine hQ _ _ _ ?_
    first
    | (refine RetP.drop0 (Or.inr rfl) ?_ ?_ hwf
       · simp only [resA, resOne, resTv, AV.tv, push_cast, simprocAttr]
       · rfl)
    | (refine RetP.drop (Or.inr rfl) ?_ ?_ hwf
       · simp only [resA, resOne, resTv, AV.tv, push_cast, simprocAttr]
       · rfl)
    | (rw [show boxB f (-16777216) (16777216) = true from decide_eq_true (by omega)] at * ; refine RetP.drop (Or.inr rfl) ?_ ?_ hwf
       · simp only [resA, resOne, resTv, AV.tv, push_cast, simprocAttr]
       · rfl)
theorem chd_c (s : SC) (m : AMem) : Ctr Tryz.prog 49 [.agg (hdC s)] m (.one (.bool (decide (HdR s)))) m := by
 refine Ctr.enter Tryz.func49 rfl (by decide) (rs := [.tmp 2]) (nt := 41) rfl rfl fun hwf Q hQ => ?_
 rcases chain8 (inB s.w 1 64 = true) (inB s.h 1 64 = true) (inB s.sm 1 16 = true) (inB s.dp 1 6 = true) (inB s.fr 1 32 = true) (0 ≤ s.sh) (s.sh ≤ 65536) (boxB s.sk 0 1048576 = true) with ⟨g1, g2, g3, g4, g5, g6, g7, g8⟩ | ⟨g1, g2, g3, g4, g5, g6, g7, g8⟩ | ⟨g1, g2, g3, g4, g5, g6, g7, g8⟩ | ⟨g1, g2, g3, g4, g5, g6, g7, g8⟩ | ⟨g1, g2, g3, g4, g5, g6, g7, g8⟩ | ⟨g1, g2, g3, g4, g5, g6, g7, g8⟩ | ⟨g1, g2, g3, g4, g5, g6, g7, g8⟩ | ⟨g1, g2, g3, g4, g5, g6, g7, g8⟩ | ⟨g1, g2, g3, g4, g5, g6, g7, g8⟩ <;>
 (
 try simp only [Bool.not_eq_true, Bool.not_eq_false, Classical.not_not] at g1 g2 g3 g4 g5 g6 g7 g8
 first
 | (have hz : (HdR s) := ⟨g1, g2, g3, g4, g5, g6, g7, g8⟩
    rw [decide_eq_true hz] at hQ)
 | (have hz : ¬ (HdR s) := fun ⟨q1, q2, q3, q4, q5, q6, q7, q8⟩ => by
      first | exact g1 q1 | (rw [g1] at q1; exact absurd q1 (by decide)) | exact g2 q2 | (rw [g2] at q2; exact absurd q2 (by decide)) | exact g3 q3 | (rw [g3] at q3; exact absurd q3 (by decide)) | exact g4 q4 | (rw [g4] at q4; exact absurd q4 (by decide)) | exact g5 q5 | (rw [g5] at q5; exact absurd q5 (by decide)) | exact g6 q6 | (rw [g6] at q6; exact absurd q6 (by decide)) | exact g7 q7 | (rw [g7] at q7; exact absurd q7 (by decide)) | exact g8 q8 | (rw [g8] at q8; exact absurd q8 (by decide))
    rw [decide_eq_false hz] at hQ)
 refine AW.sr 2 fun K hK => ?_
 have pk_1 : _ ∧ _ ∧ _ ∧ _ ∧ _ ∧ _ ∧ _ ∧ _ := ⟨g1, g2, g3, g4, g5, g6, g7, g8⟩
 simp only [push_cast, simprocAttr, hdC, c3C, pk_1]
 refine CThen.by (span_c _ _ _ _) ?_
 simp only [push_cast, simprocAttr, hdC, c3C, pk_1]
 iterate 2
  try (refine CThen.by (span_c _ _ _ _) ?_; simp only [push_cast, simprocAttr, hdC, c3C, pk_1])
  try (refine CThen.by (span_c _ _ _ _) ?_; simp only [push_cast, simprocAttr, hdC, c3C, pk_1])
 try (refine CThen.by (clight_c _ _) ?_; simp only [push_cast, simprocAttr, hdC, c3C, pk_1])
 apply hK;clear hK K
 refine AW.ret ?_
 refine hQ _ _ _ ?_
 first | refine RetP.drop0 (Or.inr rfl) ?_ ?_ hwf | refine RetP.drop (Or.inr rfl) ?_ ?_ hwf
 · simp only [resA, resOne, resTv, AV.tv, push_cast, simprocAttr, hdC, c3C, pk_1]
 · rfl
 )
theorem cpa_c (s : SC) (i : Nat) (m : AMem) : Ctr Tryz.prog 51 [.agg (pC s i)] m (.one (.bool (decide (PaR s i)))) m := by
 refine Ctr.enter Tryz.func51 rfl (by decide) (rs := [.tmp 2]) (nt := 21) rfl rfl fun hwf Q hQ => ?_
 rcases chain4 (inB (s.pk i) 0 3 = true) (boxB (s.pc i) 0 1048576 = true) (0 ≤ s.pr i) (s.pr i ≤ 65536) with ⟨g1, g2, g3, g4⟩ | ⟨g1, g2, g3, g4⟩ | ⟨g1, g2, g3, g4⟩ | ⟨g1, g2, g3, g4⟩ | ⟨g1, g2, g3, g4⟩ <;>
 (
 try simp only [Bool.not_eq_true, Bool.not_eq_false, Classical.not_not] at g1 g2 g3 g4
 first
 | (have hz : (PaR s i) := ⟨g1, g2, g3, g4⟩
    rw [decide_eq_true hz] at hQ)
 | (have hz : ¬ (PaR s i) := fun ⟨q1, q2, q3, q4⟩ => by
      first | exact g1 q1 | (rw [g1] at q1; exact absurd q1 (by decide)) | exact g2 q2 | (rw [g2] at q2; exact absurd q2 (by decide)) | exact g3 q3 | (rw [g3] at q3; exact absurd q3 (by decide)) | exact g4 q4 | (rw [g4] at q4; exact absurd q4 (by decide))
    rw [decide_eq_false hz] at hQ)
 refine AW.sr 2 fun K hK => ?_
 have pk_2 : _ ∧ _ ∧ _ ∧ _ := ⟨g1, g2, g3, g4⟩
 simp only [push_cast, simprocAttr, pC, c3C, pk_2]
 refine CThen.by (span_c _ _ _ _) ?_
 simp only [push_cast, simprocAttr, pC, c3C, pk_2]
 try (refine CThen.by (clight_c (s.pc i) _) ?_; simp only [push_cast, simprocAttr, pC, c3C, pk_2])
 apply hK;clear hK K
 refine AW.ret ?_
 refine hQ _ _ _ ?_
 first | refine RetP.drop0 (Or.inr rfl) ?_ ?_ hwf | refine RetP.drop (Or.inr rfl) ?_ ?_ hwf
 · simp only [resA, resOne, resTv, AV.tv, push_cast, simprocAttr, pC, c3C, pk_2]
 · rfl
 )
theorem on_c (s : SC) (R : RWs) (n : Int) (m : AMem) (hn : s.nt ≤ 1000000000000) : Ctr Tryz.prog 83 [.agg (scC s R), .one (.int .i64 n)] m (.one (.bool (inB n (-1) ((s.nt : Int) - 1)))) m := by
 refine Ctr.enter Tryz.func83 rfl (by decide) (rs := [.tmp 4]) (nt := 11) rfl rfl fun hwf Q hQ => ?_
 have w := (show IntKind.i64.wrap ((s.nt : Int) - 1) = (s.nt : Int) - 1 from wi (by omega))
 refine AW.sr 2 fun K hK => ?_
 simp only [push_cast, simprocAttr, scC, hdC, tlC, c3C, w]
 refine CThen.by (span_c _ _ _ _) ?_
 simp only [push_cast, simprocAttr, scC, hdC, tlC, c3C, w]
 apply hK;clear hK K
 refine AW.ret ?_
 refine hQ _ _ _ ?_
 first | refine RetP.drop0 (Or.inr rfl) ?_ ?_ hwf | refine RetP.drop (Or.inr rfl) ?_ ?_ hwf
 · simp only [resA, resOne, resTv, AV.tv, push_cast, simprocAttr, scC, hdC, tlC, c3C, w]
 · rfl
theorem cle_c (s : SC) (R : RWs) (m : AMem) (hn : s.nt ≤ 1000000000000) : Ctr Tryz.prog 58 [.agg (scC s R)] m (.one (.bool (decide (LeR s)))) m := by
 refine Ctr.enter Tryz.func58 rfl (by decide) (rs := [.tmp 2]) (nt := 33) rfl rfl fun hwf Q hQ => ?_
 have w := (show IntKind.i64.wrap ((s.nt : Int) - 1) = (s.nt : Int) - 1 from wi (by omega))
 rcases chain4 (inB s.ey 0 ((s.nt : Int) - 1) = true) (inB s.lk 0 ((s.nt : Int) - 1) = true) (0 < s.wd) (s.wd ≤ 524288) with ⟨g1, g2, g3, g4⟩ | ⟨g1, g2, g3, g4⟩ | ⟨g1, g2, g3, g4⟩ | ⟨g1, g2, g3, g4⟩ | ⟨g1, g2, g3, g4⟩ <;>
 (
 try simp only [Bool.not_eq_true, Bool.not_eq_false, Classical.not_not] at g1 g2 g3 g4
 first
 | (have hz : (LeR s) := ⟨g1, g2, g3, g4⟩
    rw [decide_eq_true hz] at hQ)
 | (have hz : ¬ (LeR s) := fun ⟨q1, q2, q3, q4⟩ => by
      first | exact g1 q1 | (rw [g1] at q1; exact absurd q1 (by decide)) | exact g2 q2 | (rw [g2] at q2; exact absurd q2 (by decide)) | exact g3 q3 | (rw [g3] at q3; exact absurd q3 (by decide)) | exact g4 q4 | (rw [g4] at q4; exact absurd q4 (by decide))
    rw [decide_eq_false hz] at hQ)
 refine AW.sr 2 fun K hK => ?_
 have pk_3 : _ ∧ _ ∧ _ ∧ _ ∧ _ := ⟨g1, g2, g3, g4, w⟩
 simp only [push_cast, simprocAttr, scC, hdC, tlC, c3C, pk_3]
 refine CThen.by (span_c _ _ _ _) ?_
 simp only [push_cast, simprocAttr, scC, hdC, tlC, c3C, pk_3]
 try (refine CThen.by (span_c _ _ _ _) ?_; simp only [push_cast, simprocAttr, scC, hdC, tlC, c3C, pk_3])
 apply hK;clear hK K
 refine AW.ret ?_
 refine hQ _ _ _ ?_
 first | refine RetP.drop0 (Or.inr rfl) ?_ ?_ hwf | refine RetP.drop (Or.inr rfl) ?_ ?_ hwf
 · simp only [resA, resOne, resTv, AV.tv, push_cast, simprocAttr, scC, hdC, tlC, c3C, pk_3]
 · rfl
 )
theorem cjo_c (s : SC) (R : RWs) (i : Nat) (m : AMem) (hn : s.nt ≤ 1000000000000) (hj : ∃ k e, m[R.j]? = some ⟨k, 112, R.vj, e, catC s.nj (jC s)⟩) (hi : i < s.nj) (hnj : s.nj ≤ 1000000000000) : Ctr Tryz.prog 54 [.agg (scC s R), .one (.int .i64 (i : Int))] m (.one (.bool (decide (JoR s i)))) m := by
 refine Ctr.enter Tryz.func54 rfl (by decide) (rs := [.tmp 4]) (nt := 38) rfl rfl fun hwf Q hQ => ?_
 obtain ⟨kj, ej, hj⟩ := hj
 have lj := get_lt hj
 have w := (show IntKind.i64.wrap ((s.nt : Int) - 1) = (s.nt : Int) - 1 from wi (by omega))
 have w2 := (show IntKind.i64.wrap ((i : Int) - 1) = (i : Int) - 1 from wi (by omega))
 have jl : (catC s.nj (jC s)).length = s.nj * 4 := catC_len (w := 4) (F := jC s) (fun _ => rfl) _
 have ja : ((catC s.nj (jC s)).drop (i * 4)).take 4 = jC s i := catC_at (w := 4) (F := jC s) (fun _ => rfl) hi
 have c1 : (0 : Int) ≤ (i : Int) := by omega
 have c2 : (i : Int) < (s.nj : Int) := by omega
 have c3 : i * 4 + 4 ≤ s.nj * 4 := by omega
 have ej0 : jC s i = [.int .i64 (s.jp i), .int .i64 (s.jm i), .int .i64 (s.jt i), .int .i64 (s.js i)] := rfl
 have sc0 : scC s R = scC s R := rfl
 rcases chain5 (inB (s.jp i) (-1) ((i : Int) - 1) = true) (inB (s.jm i) (-1) ((s.nt : Int) - 1) = true) (inB (s.jt i) (-1) ((s.nt : Int) - 1) = true) (0 < s.js i) (s.js i ≤ 4194304) with ⟨g1, g2, g3, g4, g5⟩ | ⟨g1, g2, g3, g4, g5⟩ | ⟨g1, g2, g3, g4, g5⟩ | ⟨g1, g2, g3, g4, g5⟩ | ⟨g1, g2, g3, g4, g5⟩ | ⟨g1, g2, g3, g4, g5⟩ <;>
 (
 try simp only [Bool.not_eq_true, Bool.not_eq_false, Classical.not_not] at g1 g2 g3 g4 g5
 first
 | (have hz : (JoR s i) := ⟨g1, g2, g3, g4, g5⟩
    rw [decide_eq_true hz] at hQ)
 | (have hz : ¬ (JoR s i) := fun ⟨q1, q2, q3, q4, q5⟩ => by
      first | exact g1 q1 | (rw [g1] at q1; exact absurd q1 (by decide)) | exact g2 q2 | (rw [g2] at q2; exact absurd q2 (by decide)) | exact g3 q3 | (rw [g3] at q3; exact absurd q3 (by decide)) | exact g4 q4 | (rw [g4] at q4; exact absurd q4 (by decide)) | exact g5 q5 | (rw [g5] at q5; exact absurd q5 (by decide))
    rw [decide_eq_false hz] at hQ)
 refine AW.sr 3 fun K hK => ?_
 have pk_4 : _ ∧ _ ∧ _ ∧ _ ∧ _ ∧ _ ∧ _ ∧ _ ∧ _ ∧ _ ∧ _ ∧ _ ∧ _ ∧ _ ∧ _ := ⟨g1, g2, g3, g4, g5, w, w2, hj, lk_old hj, jl, ja, c1, c2, c3, ej0⟩
 simp only [push_cast, simprocAttr, scC, hdC, tlC, c3C, pk_4]
 refine CThen.by (span_c _ _ _ _) ?_
 simp only [push_cast, simprocAttr, scC, hdC, tlC, c3C, pk_4]
 try (refine CThen.by (on_c s R _ _ hn) ?_; simp only [push_cast, simprocAttr, scC, hdC, tlC, c3C, pk_4])
 try (refine CThen.by (on_c s R _ _ hn) ?_; simp only [push_cast, simprocAttr, scC, hdC, tlC, c3C, pk_4])
 apply hK;clear hK K
 refine AW.ret ?_
 refine hQ _ _ _ ?_
 first | refine RetP.drop0 (Or.inr rfl) ?_ ?_ hwf | refine RetP.drop (Or.inr rfl) ?_ ?_ hwf
 · simp only [resA, resOne, resTv, AV.tv, push_cast, simprocAttr, scC, hdC, tlC, c3C, pk_4]
 · rfl
 )
theorem cshb_c (s : SC) (R : RWs) (i : Nat) (m : AMem) (hn : s.nj ≤ 1000000000000) (hp : s.np ≤ 1000000000000) (hb : ¬ (inB (s.xj i) (-1) ((s.nj : Int) - 1) = true ∧ inB (s.xp i) 0 ((s.np : Int) - 1) = true ∧ inB (s.xk i) 0 1 = true)) : Ctr Tryz.prog 56 [.agg (scC s R), .agg (xC s i)] m (.one (.bool false)) m := by
 refine Ctr.enter Tryz.func56 rfl (by decide) (rs := [.tmp 4]) (nt := 77) rfl rfl fun hwf Q hQ => ?_
 have w1 := (show IntKind.i64.wrap ((s.nj : Int) - 1) = (s.nj : Int) - 1 from wi (by omega))
 have w2 := (show IntKind.i64.wrap ((s.np : Int) - 1) = (s.np : Int) - 1 from wi (by omega))
 rcases chain3 (inB (s.xj i) (-1) ((s.nj : Int) - 1) = true) (inB (s.xp i) 0 ((s.np : Int) - 1) = true) (inB (s.xk i) 0 1 = true) with ⟨g1, g2, g3⟩ | ⟨g1, g2, g3⟩ | ⟨g1, g2, g3⟩ | ⟨g1, g2, g3⟩
 · exact absurd ⟨g1, g2, g3⟩ hb
 all_goals (
 try simp only [Bool.not_eq_true, Bool.not_eq_false, Classical.not_not] at g1 g2 g3
 refine AW.sr 1 fun K hK => ?_
 have pk_5 : _ ∧ _ ∧ _ ∧ _ ∧ _ := ⟨g1, g2, g3, w1, w2⟩
 simp only [push_cast, simprocAttr, scC, hdC, tlC, c3C, xC, pk_5]
 apply hK;clear hK K
 refine AW.seq_k fun K hK => ?_
 refine AW.sr 1 fun K hK => ?_
 simp only [push_cast, simprocAttr, scC, hdC, tlC, c3C, xC, pk_5]
 refine CThen.by (span_c _ _ _ _) ?_
 simp only [push_cast, simprocAttr, scC, hdC, tlC, c3C, xC, pk_5]
 try (refine CThen.by (span_c _ _ _ _) ?_; simp only [push_cast, simprocAttr, scC, hdC, tlC, c3C, xC, pk_5])
 try (refine CThen.by (span_c _ _ _ _) ?_; simp only [push_cast, simprocAttr, scC, hdC, tlC, c3C, xC, pk_5])
 apply hK;clear hK K
 refine AW.cond_t rfl ?_
 refine AW.sr 1 fun K hK => ?_
 simp only [push_cast, simprocAttr, scC, hdC, tlC, c3C, xC, pk_5]
 apply hK;clear hK K
 refine AW.ret ?_
 refine Thn_r ?_
 refine hQ _ _ _ ?_
 first | refine RetP.drop0 (Or.inr rfl) ?_ ?_ hwf | refine RetP.drop (Or.inr rfl) ?_ ?_ hwf
 · simp only [resA, resOne, resTv, AV.tv, push_cast, simprocAttr, scC, hdC, tlC, c3C, xC, pk_5]
 · rfl
 )
theorem csh0_c (s : SC) (R : RWs) (i : Nat) (m : AMem) (hn : s.nj ≤ 1000000000000) (hp : s.np ≤ 1000000000000) (g1 : inB (s.xj i) (-1) ((s.nj : Int) - 1) = true) (g2 : inB (s.xp i) 0 ((s.np : Int) - 1) = true) (g3 : inB (s.xk i) 0 1 = true) (hk : s.xk i = 0) : Ctr Tryz.prog 56 [.agg (scC s R), .agg (xC s i)] m (.one (.bool (decide (S0R s i)))) m := by
 refine Ctr.enter Tryz.func56 rfl (by decide) (rs := [.tmp 4]) (nt := 77) rfl rfl fun hwf Q hQ => ?_
 have w1 := (show IntKind.i64.wrap ((s.nj : Int) - 1) = (s.nj : Int) - 1 from wi (by omega))
 have w2 := (show IntKind.i64.wrap ((s.np : Int) - 1) = (s.np : Int) - 1 from wi (by omega))
 have hk0 := hk
 rcases chain5 (boxB (s.xv i 0) (-16777216) 16777216 = true) ((s.xv i 1 0 == 0 && (s.xv i 1 1 == 0 && s.xv i 1 2 == 0)) = true) ((s.xv i 2 0 == 0 && (s.xv i 2 1 == 0 && s.xv i 2 2 == 0)) = true) (0 < s.xr i) (s.xr i ≤ 4194304) with ⟨e1, e2, e3, e4, e5⟩ | ⟨e1, e2, e3, e4, e5⟩ | ⟨e1, e2, e3, e4, e5⟩ | ⟨e1, e2, e3, e4, e5⟩ | ⟨e1, e2, e3, e4, e5⟩ | ⟨e1, e2, e3, e4, e5⟩ <;>
 (
 try simp only [Bool.not_eq_true, Bool.not_eq_false, Classical.not_not] at e1 e2 e3 e4 e5
 first
 | (have hz : (S0R s i) := ⟨g1, g2, e1, e2, e3, e4, e5⟩
    rw [decide_eq_true hz] at hQ)
 | (have hz : ¬ (S0R s i) := fun ⟨qg1, qg2, qe1, qe2, qe3, qe4, qe5⟩ => by
      first | exact e1 qe1 | exact Bool.false_ne_true (e1.symm.trans qe1) | exact e2 qe2 | exact Bool.false_ne_true (e2.symm.trans qe2) | exact e3 qe3 | exact Bool.false_ne_true (e3.symm.trans qe3) | exact e4 qe4 | exact Bool.false_ne_true (e4.symm.trans qe4) | exact e5 qe5 | exact Bool.false_ne_true (e5.symm.trans qe5)
    rw [decide_eq_false hz] at hQ)
 refine AW.sr 1 fun K hK => ?_
 have pk_6 : _ ∧ _ ∧ _ ∧ _ ∧ _ ∧ _ ∧ _ ∧ _ ∧ _ ∧ _ ∧ _ ∧ _ := ⟨e1, e2, e3, e4, e5, w1, w2, g1, g2, g3, hk, hk0⟩
 simp only [push_cast, simprocAttr, scC, hdC, tlC, c3C, xC, pk_6]
 apply hK;clear hK K
 refine AW.seq_k fun K hK => ?_
 refine AW.sr 1 fun K hK => ?_
 iterate 3
  simp only [push_cast, simprocAttr, scC, hdC, tlC, c3C, xC, pk_6]
  refine CThen.by (span_c _ _ _ _) ?_
 simp only [push_cast, simprocAttr, scC, hdC, tlC, c3C, xC, pk_6]
 apply hK;clear hK K
 refine AW.cond_f rfl ?_
 refine AW.skip ?_
 apply hK;clear hK K
 refine AW.seq_k fun K hK => ?_
 refine AW.sr 1 fun K hK => ?_
 simp only [push_cast, simprocAttr, scC, hdC, tlC, c3C, xC, pk_6]
 apply hK;clear hK K
 refine AW.cond_t rfl ?_
 refine AW.sr 1 fun K hK => ?_
 simp only [push_cast, simprocAttr, scC, hdC, tlC, c3C, xC, pk_6]
 refine CThen.by (cpoint_c _ _) ?_
 simp only [push_cast, simprocAttr, scC, hdC, tlC, c3C, xC, pk_6]
 apply hK;clear hK K
 refine AW.ret ?_
 refine Thn_r ?_
 refine hQ _ _ _ ?_
 first | refine RetP.drop0 (Or.inr rfl) ?_ ?_ hwf | refine RetP.drop (Or.inr rfl) ?_ ?_ hwf
 · simp only [resA, resOne, resTv, AV.tv, push_cast, simprocAttr, scC, hdC, tlC, c3C, xC, pk_6]
 · rfl
 )
theorem csh1_c (s : SC) (R : RWs) (i : Nat) (m : AMem) (hn : s.nj ≤ 1000000000000) (hp : s.np ≤ 1000000000000) (g1 : inB (s.xj i) (-1) ((s.nj : Int) - 1) = true) (g2 : inB (s.xp i) 0 ((s.np : Int) - 1) = true) (g3 : inB (s.xk i) 0 1 = true) (hk : (s.xk i == 1) = true) : Ctr Tryz.prog 56 [.agg (scC s R), .agg (xC s i)] m (.one (.bool (decide (S1R s i)))) m := by
 refine Ctr.enter Tryz.func56 rfl (by decide) (rs := [.tmp 4]) (nt := 77) rfl rfl fun hwf Q hQ => ?_
 have w1 := (show IntKind.i64.wrap ((s.nj : Int) - 1) = (s.nj : Int) - 1 from wi (by omega))
 have w2 := (show IntKind.i64.wrap ((s.np : Int) - 1) = (s.np : Int) - 1 from wi (by omega))
 have hk0 : (s.xk i == 0) = false := by have := eq_of_beq hk; rw [this]; decide
 rcases chain4 (boxB (s.xv i 0) (-16777216) 16777216 = true) (boxB (s.xv i 1) (-16777216) 16777216 = true) (boxB (s.xv i 2) (-16777216) 16777216 = true) ((s.xr i == 0) = true) with ⟨e1, e2, e3, e4⟩ | ⟨e1, e2, e3, e4⟩ | ⟨e1, e2, e3, e4⟩ | ⟨e1, e2, e3, e4⟩ | ⟨e1, e2, e3, e4⟩ <;>
 (
 try simp only [Bool.not_eq_true, Bool.not_eq_false, Classical.not_not] at e1 e2 e3 e4
 first
 | (have hz : (S1R s i) := ⟨g1, g2, e1, hk, e2, e3, e4⟩
    rw [decide_eq_true hz] at hQ)
 | (have hz : ¬ (S1R s i) := fun ⟨qg1, qg2, qe1, qhk, qe2, qe3, qe4⟩ => by
      first | exact e1 qe1 | exact Bool.false_ne_true (e1.symm.trans qe1) | exact e2 qe2 | exact Bool.false_ne_true (e2.symm.trans qe2) | exact e3 qe3 | exact Bool.false_ne_true (e3.symm.trans qe3) | exact e4 qe4 | exact Bool.false_ne_true (e4.symm.trans qe4)
    rw [decide_eq_false hz] at hQ)
 refine AW.sr 1 fun K hK => ?_
 have pk_7 : _ ∧ _ ∧ _ ∧ _ ∧ _ ∧ _ ∧ _ ∧ _ ∧ _ ∧ _ ∧ _ := ⟨e1, e2, e3, e4, w1, w2, g1, g2, g3, hk, hk0⟩
 simp only [push_cast, simprocAttr, scC, hdC, tlC, c3C, xC, pk_7]
 apply hK;clear hK K
 refine AW.seq_k fun K hK => ?_
 refine AW.sr 1 fun K hK => ?_
 iterate 3
  simp only [push_cast, simprocAttr, scC, hdC, tlC, c3C, xC, pk_7]
  refine CThen.by (span_c _ _ _ _) ?_
 simp only [push_cast, simprocAttr, scC, hdC, tlC, c3C, xC, pk_7]
 apply hK;clear hK K
 refine AW.cond_f rfl ?_
 refine AW.skip ?_
 apply hK;clear hK K
 refine AW.seq_k fun K hK => ?_
 refine AW.sr 1 fun K hK => ?_
 simp only [push_cast, simprocAttr, scC, hdC, tlC, c3C, xC, pk_7]
 apply hK;clear hK K
 refine AW.cond_f rfl ?_
 refine AW.skip ?_
 apply hK;clear hK K
 refine AW.sr 1 fun K hK => ?_
 simp only [push_cast, simprocAttr, scC, hdC, tlC, c3C, xC, pk_7]
 refine CThen.by (cpoint_c _ _) ?_
 simp only [push_cast, simprocAttr, scC, hdC, tlC, c3C, xC, pk_7]
 try (refine CThen.by (cpoint_c _ _) ?_; simp only [push_cast, simprocAttr, scC, hdC, tlC, c3C, xC, pk_7])
 try (refine CThen.by (cpoint_c _ _) ?_; simp only [push_cast, simprocAttr, scC, hdC, tlC, c3C, xC, pk_7])
 apply hK;clear hK K
 refine AW.ret ?_
 refine hQ _ _ _ ?_
 first | refine RetP.drop0 (Or.inr rfl) ?_ ?_ hwf | refine RetP.drop (Or.inr rfl) ?_ ?_ hwf
 · simp only [resA, resOne, resTv, AV.tv, push_cast, simprocAttr, scC, hdC, tlC, c3C, xC, pk_7]
 · rfl
 )
theorem csh_c (s : SC) (R : RWs) (i : Nat) (m : AMem) (hn : s.nj ≤ 1000000000000) (hp : s.np ≤ 1000000000000) : Ctr Tryz.prog 56 [.agg (scC s R), .agg (xC s i)] m (.one (.bool (decide (ShR s i)))) m := by
 by_cases hg : (inB (s.xj i) (-1) ((s.nj : Int) - 1) = true ∧ inB (s.xp i) 0 ((s.np : Int) - 1) = true ∧ inB (s.xk i) 0 1 = true)
 ·obtain ⟨g1, g2, g3⟩ := hg
  by_cases hk : s.xk i = 0
  ·have e : decide (ShR s i) = decide (S0R s i) := by congr 1; exact if_pos hk
   rw [e]; exact csh0_c s R i m hn hp g1 g2 g3 hk
  ·have e : decide (ShR s i) = decide (S1R s i) := by congr 1; exact if_neg hk
   have hk1 : (s.xk i == 1) = true := by have := inB_iff.1 g3; simp; omega
   rw [e]; exact csh1_c s R i m hn hp g1 g2 g3 hk1
 ·have e : decide (ShR s i) = false := decide_eq_false fun h => hg (by
   unfold ShR at h
   split at h
   ·rename_i h0; exact ⟨h.1, h.2.1, inB_iff.2 (by omega)⟩
   ·exact ⟨h.1, h.2.1, inB_iff.2 (by have := eq_of_beq h.2.2.2.1; omega)⟩)
  rw [e]; exact cshb_c s R i m hn hp hg
structure ScR (pt tt kt jt xt : Nat) (m : AMem) (s : SC) (R : RWs) : Prop where
 hp : ∃ k e, m[R.p]? = some ⟨k, pt, R.vp, e, catC s.np (pC s)⟩
 ht : ∃ k e, m[R.t]? = some ⟨k, tt, R.vt, e, catC s.nt (tC s R)⟩
 hk : ∀ i, i < s.nt → ∃ k e, m[R.k i]? = some ⟨k, kt, R.vk i, e, catC (s.kn i) (kC s i)⟩
 hj : ∃ k e, m[R.j]? = some ⟨k, jt, R.vj, e, catC s.nj (jC s)⟩
 hx : ∃ k e, m[R.x]? = some ⟨k, xt, R.vx, e, catC s.nx (xC s)⟩
 np : s.np ≤ 1000000000000
 nt : s.nt ≤ 1000000000000
 nj : s.nj ≤ 1000000000000
 nx : s.nx ≤ 1000000000000
 nk : ∀ i, i < s.nt → s.kn i ≤ 1000000000000
theorem ScR.app {pt tt kt jt xt : Nat} {m : AMem} {s : SC} {R : RWs} (h : ScR pt tt kt jt xt m s R) (L : AMem) : ScR pt tt kt jt xt (m ++ L) s R where
 hp := by obtain ⟨k, e, h1⟩ := h.hp; exact ⟨k, e, lk_old h1 L⟩
 ht := by obtain ⟨k, e, h1⟩ := h.ht; exact ⟨k, e, lk_old h1 L⟩
 hk := fun i hi => by obtain ⟨k, e, h1⟩ := h.hk i hi; exact ⟨k, e, lk_old h1 L⟩
 hj := by obtain ⟨k, e, h1⟩ := h.hj; exact ⟨k, e, lk_old h1 L⟩
 hx := by obtain ⟨k, e, h1⟩ := h.hx; exact ⟨k, e, lk_old h1 L⟩
 np := h.np
 nt := h.nt
 nj := h.nj
 nx := h.nx
 nk := h.nk
theorem ScR.bel {pt tt kt jt xt : Nat} {m : AMem} {s : SC} {R : RWs} (h : ScR pt tt kt jt xt m s R) (L : Nat) (hL : m.length ≤ L) : (scC s R).all (CV.below L) = true := by
 obtain ⟨_, _, h1⟩ := h.hp
 obtain ⟨_, _, h2⟩ := h.ht
 obtain ⟨_, _, h3⟩ := h.hj
 obtain ⟨_, _, h4⟩ := h.hx
 have := get_lt h1
 have := get_lt h2
 have := get_lt h3
 have := get_lt h4
 simp [scC, hdC, tlC, c3C, CV.below]
 omega
def glB (s : SC) (i : Nat) : Bool := decide (0 ≤ s.xp i) && (decide (s.xp i < (s.np : Int)) && (s.pk (s.xp i).toNat == 3))
theorem rla_c (s : SC) (R : RWs) (m : AMem) (hR : ScR 89 93 128 110 99 m s R) : Ctr Tryz.prog 32 [.agg (scC s R)] m (.one (.sl m.length 0 0 (outL (glB s) s.nx).length)) (m ++ [⟨.grow, 3, 0, 1, iL (outL (glB s) s.nx)⟩]) := by
 refine Ctr.enter Tryz.func32 rfl (by decide) (rs := [.tmp 2]) (nt := 42) rfl rfl fun hwf Q hQ => ?_
 obtain ⟨kp, ep, hp⟩ := hR.hp
 have lp := get_lt hp
 obtain ⟨kx, ex, hx⟩ := hR.hx
 have lx := get_lt hx
 have np := hR.np
 have nx := hR.nx
 have pl : (catC s.np (pC s)).length = s.np * 5 := catC_len (w := 5) (F := pC s) (fun _ => rfl) _
 have xl : (catC s.nx (xC s)).length = s.nx * 13 := catC_len (w := 13) (F := xC s) (fun _ => rfl) _
 have hlt0 : ∀ k, ¬ m.length + k < m.length := fun k => by omega
 have ill := fun l => iL_len l
 have w1 := (show IntKind.i64.wrap ((s.np : Int) - 1) = (s.np : Int) - 1 from wi (by omega))
 refine AW.sr 2 fun K hK => ?_
 have pk_1 : _ ∧ _ ∧ _ ∧ _ ∧ _ ∧ _ ∧ _ ∧ _ := ⟨hp, lk_old hp, hx, lk_old hx, pl, xl, w1, ill⟩
 simp only [push_cast, simprocAttr, iL_vals, iL_snoc, scC, hdC, tlC, c3C, pk_1]
 apply hK;clear hK K
 refine AW.seq_k fun K hK => ?_
 refine AW.sr 1 fun K hK => ?_
 simp only [push_cast, simprocAttr, iL_vals, iL_snoc, scC, hdC, tlC, c3C, pk_1]
 apply hK;clear hK K
 refine AW.block ?_
 refine AW.nilTm 3 1 3 rfl ?_
 try simp only [push_cast, simprocAttr, iL_vals, iL_snoc, scC, hdC, tlC, c3C, pk_1]
 refine AW.loopK [1] (fun i => i ≤ s.nx) (fun i => [(3, .one (.sl (m.length + 1) (outL (glB s) i).length 0 (outL (glB s) i).length)), (4, .one (.int .i64 (i : Int)))]) (fun i => [(m.length + 1, ⟨.grow, 3, (outL (glB s) i).length, 1, iL (outL (glB s) i)⟩)]) (fun i => s.nx - i) 0 (by omega) ?_ ?_ fun i hi2 => ?_
 · first | rfl | (simp only [KS, simprocAttr, outL, Int.natCast_zero, List.length_nil] <;> repeat' (first | rfl | apply And.intro))
 · simp only [setAll, push_cast, simprocAttr, outL] <;> rfl
 try simp only [keepL, setAll, push_cast, simprocAttr, iL_vals, iL_snoc, scC, hdC, tlC, c3C, pk_1]
 refine AW.seq_k fun K hK => ?_
 refine AW.sr 1 fun K hK => ?_
 simp only [push_cast, simprocAttr, iL_vals, iL_snoc, scC, hdC, tlC, c3C, pk_1]
 apply hK;clear hK K
 refine AW.cond rfl (fun h10 => ?_) (fun h10 => ?_)
 ·have hlt : i < s.nx := by have := of_decide_eq_true h10; omega
  have c1 : (0 : Int) ≤ (i : Int) := by omega
  have c2 : (i : Int) < (s.nx : Int) := by omega
  have c3 : i * 13 + 13 ≤ s.nx * 13 := by omega
  have ga := catC_at (w := 13) (F := xC s) (fun _ => rfl) hlt
  have gx1 : (catC s.nx (xC s))[i * 13 + 1]? = some (.int .i64 (s.xp i)) := catC_get (w := 13) (F := xC s) (fun _ => rfl) hlt (a := 1) (by omega)
  have gx : xC s i = [.int .i64 (s.xj i), .int .i64 (s.xp i), .int .i64 (s.xk i), .int .i64 (s.xv i 0 0), .int .i64 (s.xv i 0 1), .int .i64 (s.xv i 0 2), .int .i64 (s.xv i 1 0), .int .i64 (s.xv i 1 1), .int .i64 (s.xv i 1 2), .int .i64 (s.xv i 2 0), .int .i64 (s.xv i 2 1), .int .i64 (s.xv i 2 2), .int .i64 (s.xr i)] := rfl
  have hol := outL_len (glB s) i
  have q1 : (outL (glB s) i).length ≤ 140737488355327 := by omega
  have q2 : ((outL (glB s) i).length + 1) * 8 ≤ 140737488355328 := by omega
  refine AW.skip ?_
  apply hK;clear hK K
  refine AW.seq_k fun K hK => ?_
  refine AW.block ?_
  refine AW.sr 1 fun K hK => ?_
  have pk_2 : _ ∧ _ ∧ _ ∧ _ ∧ _ ∧ _ ∧ _ ∧ _ ∧ _ ∧ _ := ⟨pk_1, c1, c2, c3, ga, gx1, gx, q1, q2, hlt⟩
  simp only [push_cast, simprocAttr, iL_vals, iL_snoc, scC, hdC, tlC, c3C, pk_2]
  apply hK;clear hK K
  refine AW.seq_k fun K hK => ?_
  have hk : ¬ 0 ≤ s.xp i ∨ (0 ≤ s.xp i ∧ ¬ s.xp i < (s.np : Int)) ∨ (0 ≤ s.xp i ∧ s.xp i < (s.np : Int) ∧ (s.pk (s.xp i).toNat == 3) = true) ∨ (0 ≤ s.xp i ∧ s.xp i < (s.np : Int) ∧ (s.pk (s.xp i).toNat == 3) = false) := by
    cases (s.pk (s.xp i).toNat == 3) <;> simp <;> omega
  rcases hk with e1 | ⟨e1, e2⟩ | ⟨e1, e2, e3⟩ | ⟨e1, e2, e3⟩
  ·have hg : glB s i = false := by simp only [glB, decide_eq_false e1, Bool.false_and]
   have hu : outL (glB s) (i + 1) = outL (glB s) i := if_neg (by rw [hg]; decide)
   have hu2 := True.intro
   refine AW.rg ?_
   simp only [push_cast, simprocAttr, iL_vals, iL_snoc, scC, hdC, tlC, c3C, pk_2, e1]
   apply hK;clear hK K
   refine AW.cond_f rfl ?_
   refine AW.skip ?_
   refine InB_n ?_
   apply hK;clear hK K
   refine AW.rg ?_
   simp only [push_cast, simprocAttr, iL_vals, iL_snoc, scC, hdC, tlC, c3C, pk_2, e1]
   refine Thn_n ?_
   have hwi : IntKind.i64.wrap ((i:Int)+1) = (i:Int)+1 := wi (by omega)
   refine ⟨i + 1, by omega, by omega, ?_⟩
   try simp only [keepL, setAll, push_cast, simprocAttr, iL_vals, iL_snoc, scC, hdC, tlC, c3C, pk_2, e1, hwi, hu, hu2]
   first
    | exact Weak.same (by simp only [KS, simprocAttr, hwi, hu, hu2]) (by first | rfl | simp only [KS, simprocAttr, hwi, hu, hu2])
    | exact Weak.to (extra := [_]) (by simp only [KS, simprocAttr, hwi, hu, hu2]) (by first | rfl | (simp only [List.append_assoc, List.cons_append, List.nil_append]; rfl)) (by first | rfl | (simp [AV.below, CV.below]; done) | (simp [AV.below, CV.below]; omega)) (by first | exact hwf | exact MWf.app (hwf.grow (by simp)) (MWf_cons (by exact hR.bel _ (by simp)) (MWf_cons (iL_below _ _) MWf_nil)))
  ·have hg : glB s i = false := by simp only [glB, decide_eq_false e2, Bool.false_and, Bool.and_false]
   have hu : outL (glB s) (i + 1) = outL (glB s) i := if_neg (by rw [hg]; decide)
   have hu2 := True.intro
   refine AW.rg ?_
   simp only [push_cast, simprocAttr, iL_vals, iL_snoc, scC, hdC, tlC, c3C, pk_2, e1, e2]
   apply hK;clear hK K
   refine AW.cond_f rfl ?_
   refine AW.skip ?_
   refine InB_n ?_
   apply hK;clear hK K
   refine AW.rg ?_
   simp only [push_cast, simprocAttr, iL_vals, iL_snoc, scC, hdC, tlC, c3C, pk_2, e1, e2]
   refine Thn_n ?_
   have hwi : IntKind.i64.wrap ((i:Int)+1) = (i:Int)+1 := wi (by omega)
   refine ⟨i + 1, by omega, by omega, ?_⟩
   try simp only [keepL, setAll, push_cast, simprocAttr, iL_vals, iL_snoc, scC, hdC, tlC, c3C, pk_2, e1, e2, hwi, hu, hu2]
   first
    | exact Weak.same (by simp only [KS, simprocAttr, hwi, hu, hu2]) (by first | rfl | simp only [KS, simprocAttr, hwi, hu, hu2])
    | exact Weak.to (extra := [_]) (by simp only [KS, simprocAttr, hwi, hu, hu2]) (by first | rfl | (simp only [List.append_assoc, List.cons_append, List.nil_append]; rfl)) (by first | rfl | (simp [AV.below, CV.below]; done) | (simp [AV.below, CV.below]; omega)) (by first | exact hwf | exact MWf.app (hwf.grow (by simp)) (MWf_cons (by exact hR.bel _ (by simp)) (MWf_cons (iL_below _ _) MWf_nil)))
  ·have hg : glB s i = true := by simp only [glB, decide_eq_true e1, decide_eq_true e2, e3, Bool.and_self]
   have hu : outL (glB s) (i + 1) = outL (glB s) i ++ [(i : Int)] := if_pos hg
   have hu2 : (outL (glB s) i ++ [(i : Int)]).length = (outL (glB s) i).length + 1 := by simp
   obtain ⟨j, hj⟩ : ∃ j, j = (s.xp i).toNat := ⟨_, rfl⟩
   have hxj : s.xp i = (j : Int) := by omega
   have hjn : j < s.np := by omega
   have d1 : (0 : Int) ≤ (j : Int) := by omega
   have d2 : (j : Int) < (s.np : Int) := by omega
   have d3 : j * 5 + 5 ≤ s.np * 5 := by omega
   have d4 : (catC s.np (pC s))[j * 5]? = some (.int .i64 (s.pk j)) := catC_get (w := 5) (F := pC s) (fun _ => rfl) hjn (a := 0) (by omega)
   rw [← hj] at e3
   refine AW.rg ?_
   have pk_3 : _ ∧ _ ∧ _ ∧ _ ∧ _ ∧ _ ∧ _ ∧ _ := ⟨pk_2, hxj, d1, d2, d3, d4, e3, hjn⟩
   simp only [push_cast, simprocAttr, iL_vals, iL_snoc, scC, hdC, tlC, c3C, pk_3]
   apply hK;clear hK K
   refine AW.cond_t rfl ?_
   refine AW.rg ?_
   simp only [push_cast, simprocAttr, iL_vals, iL_snoc, scC, hdC, tlC, c3C, pk_3]
   refine InB_n ?_
   apply hK;clear hK K
   refine AW.rg ?_
   simp only [push_cast, simprocAttr, iL_vals, iL_snoc, scC, hdC, tlC, c3C, pk_3]
   refine Thn_n ?_
   have hwi : IntKind.i64.wrap ((i:Int)+1) = (i:Int)+1 := wi (by omega)
   refine ⟨i + 1, by omega, by omega, ?_⟩
   try simp only [keepL, setAll, push_cast, simprocAttr, iL_vals, iL_snoc, scC, hdC, tlC, c3C, pk_3, hwi, hu, hu2]
   first
    | exact Weak.same (by simp only [KS, simprocAttr, hwi, hu, hu2]) (by first | rfl | simp only [KS, simprocAttr, hwi, hu, hu2])
    | exact Weak.to (extra := [_]) (by simp only [KS, simprocAttr, hwi, hu, hu2]) (by first | rfl | (simp only [List.append_assoc, List.cons_append, List.nil_append]; rfl)) (by first | rfl | (simp [AV.below, CV.below]; done) | (simp [AV.below, CV.below]; omega)) (by first | exact hwf | exact MWf.app (hwf.grow (by simp)) (MWf_cons (by exact hR.bel _ (by simp)) (MWf_cons (iL_below _ _) MWf_nil)))
  ·have hg : glB s i = false := by simp only [glB, e3, Bool.and_false]
   have hu : outL (glB s) (i + 1) = outL (glB s) i := if_neg (by rw [hg]; decide)
   have hu2 := True.intro
   obtain ⟨j, hj⟩ : ∃ j, j = (s.xp i).toNat := ⟨_, rfl⟩
   have hxj : s.xp i = (j : Int) := by omega
   have hjn : j < s.np := by omega
   have d1 : (0 : Int) ≤ (j : Int) := by omega
   have d2 : (j : Int) < (s.np : Int) := by omega
   have d3 : j * 5 + 5 ≤ s.np * 5 := by omega
   have d4 : (catC s.np (pC s))[j * 5]? = some (.int .i64 (s.pk j)) := catC_get (w := 5) (F := pC s) (fun _ => rfl) hjn (a := 0) (by omega)
   rw [← hj] at e3
   refine AW.rg ?_
   have pk_4 : _ ∧ _ ∧ _ ∧ _ ∧ _ ∧ _ ∧ _ ∧ _ := ⟨pk_2, hxj, d1, d2, d3, d4, e3, hjn⟩
   simp only [push_cast, simprocAttr, iL_vals, iL_snoc, scC, hdC, tlC, c3C, pk_4]
   apply hK;clear hK K
   refine AW.cond_f rfl ?_
   refine AW.skip ?_
   refine InB_n ?_
   apply hK;clear hK K
   refine AW.rg ?_
   simp only [push_cast, simprocAttr, iL_vals, iL_snoc, scC, hdC, tlC, c3C, pk_4]
   refine Thn_n ?_
   have hwi : IntKind.i64.wrap ((i:Int)+1) = (i:Int)+1 := wi (by omega)
   refine ⟨i + 1, by omega, by omega, ?_⟩
   try simp only [keepL, setAll, push_cast, simprocAttr, iL_vals, iL_snoc, scC, hdC, tlC, c3C, pk_4, hwi, hu, hu2]
   first
    | exact Weak.same (by simp only [KS, simprocAttr, hwi, hu, hu2]) (by first | rfl | simp only [KS, simprocAttr, hwi, hu, hu2])
    | exact Weak.to (extra := [_]) (by simp only [KS, simprocAttr, hwi, hu, hu2]) (by first | rfl | (simp only [List.append_assoc, List.cons_append, List.nil_append]; rfl)) (by first | rfl | (simp [AV.below, CV.below]; done) | (simp [AV.below, CV.below]; omega)) (by first | exact hwf | exact MWf.app (hwf.grow (by simp)) (MWf_cons (by exact hR.bel _ (by simp)) (MWf_cons (iL_below _ _) MWf_nil)))
 ·have hin : i = s.nx := by have := of_decide_eq_false h10; omega
  rw [hin]
  refine AW.exit ?_
  refine Thn_e ?_
  clear hK K
  refine Thn_e ?_
  refine InB_here ?_
  apply hK;clear hK K
  refine AW.sr 1 fun K hK => ?_
  simp only [push_cast, simprocAttr, iL_vals, iL_snoc, scC, hdC, tlC, c3C, pk_1]
  apply hK;clear hK K
  refine AW.ret ?_
  refine hQ _ _ _ ?_
  refine RetP.pick [(m.length + 1, (outL (glB s) s.nx).length)] (by first | exact Or.inr rfl | exact Or.inl rfl) ?_ ?_ ?_ hwf ?_
  · simp only [resA, resOne, resTv, AV.tv, push_cast, simprocAttr]
    simp [renV, renT, renL, renC, renIdx, hlt0]
  · simp only [picks, push_cast, simprocAttr]
  · simp [distinctFrom]
  · exact MWf_cons (iL_below _ _) MWf_nil
theorem cla_c (s : SC) (R : RWs) (m : AMem) (hR : ScR 107 75 119 112 117 m s R) : Ctr Tryz.prog 59 [.agg (scC s R)] m (.one (.sl m.length 0 0 (outL (glB s) s.nx).length)) (m ++ [⟨.grow, 3, 0, 1, iL (outL (glB s) s.nx)⟩]) := by
 refine Ctr.enter Tryz.func59 rfl (by decide) (rs := [.tmp 2]) (nt := 39) rfl rfl fun hwf Q hQ => ?_
 obtain ⟨kp, ep, hp⟩ := hR.hp
 have lp := get_lt hp
 obtain ⟨kx, ex, hx⟩ := hR.hx
 have lx := get_lt hx
 have np := hR.np
 have nx := hR.nx
 have pl : (catC s.np (pC s)).length = s.np * 5 := catC_len (w := 5) (F := pC s) (fun _ => rfl) _
 have xl : (catC s.nx (xC s)).length = s.nx * 13 := catC_len (w := 13) (F := xC s) (fun _ => rfl) _
 have hlt0 : ∀ k, ¬ m.length + k < m.length := fun k => by omega
 have ill := fun l => iL_len l
 have w1 := (show IntKind.i64.wrap ((s.np : Int) - 1) = (s.np : Int) - 1 from wi (by omega))
 refine AW.sr 2 fun K hK => ?_
 have pk_5 : _ ∧ _ ∧ _ ∧ _ ∧ _ ∧ _ ∧ _ ∧ _ := ⟨hp, lk_old hp, hx, lk_old hx, pl, xl, w1, ill⟩
 simp only [push_cast, simprocAttr, iL_vals, iL_snoc, scC, hdC, tlC, c3C, pk_5]
 apply hK;clear hK K
 refine AW.seq_k fun K hK => ?_
 refine AW.sr 1 fun K hK => ?_
 simp only [push_cast, simprocAttr, iL_vals, iL_snoc, scC, hdC, tlC, c3C, pk_5]
 apply hK;clear hK K
 refine AW.block ?_
 refine AW.nilTm 3 1 3 rfl ?_
 try simp only [push_cast, simprocAttr, iL_vals, iL_snoc, scC, hdC, tlC, c3C, pk_5]
 refine AW.loopK [1, 7, 8] (fun i => i ≤ s.nx) (fun i => [(3, .one (.sl (m.length + 1) (outL (glB s) i).length 0 (outL (glB s) i).length)), (9, .one (.int .i64 (i : Int)))]) (fun i => [(m.length + 1, ⟨.grow, 3, (outL (glB s) i).length, 1, iL (outL (glB s) i)⟩)]) (fun i => s.nx - i) 0 (by omega) ?_ ?_ fun i hi2 => ?_
 · first | rfl | (simp only [KS, simprocAttr, outL, Int.natCast_zero, List.length_nil] <;> repeat' (first | rfl | apply And.intro))
 · simp only [setAll, push_cast, simprocAttr, outL] <;> rfl
 try simp only [keepL, setAll, push_cast, simprocAttr, iL_vals, iL_snoc, scC, hdC, tlC, c3C, pk_5]
 refine AW.sr 1 fun K hK => ?_
 simp only [push_cast, simprocAttr, iL_vals, iL_snoc, scC, hdC, tlC, c3C, pk_5]
 apply hK;clear hK K
 refine AW.seq_k fun K hK => ?_
 refine AW.cond rfl (fun h10 => ?_) (fun h10 => ?_)
 ·have hlt : i < s.nx := by have := of_decide_eq_true h10; omega
  have c1 : (0 : Int) ≤ (i : Int) := by omega
  have c2 : (i : Int) < (s.nx : Int) := by omega
  have c3 : i * 13 + 13 ≤ s.nx * 13 := by omega
  have ga := catC_at (w := 13) (F := xC s) (fun _ => rfl) hlt
  have gx1 : (catC s.nx (xC s))[i * 13 + 1]? = some (.int .i64 (s.xp i)) := catC_get (w := 13) (F := xC s) (fun _ => rfl) hlt (a := 1) (by omega)
  have gx : xC s i = [.int .i64 (s.xj i), .int .i64 (s.xp i), .int .i64 (s.xk i), .int .i64 (s.xv i 0 0), .int .i64 (s.xv i 0 1), .int .i64 (s.xv i 0 2), .int .i64 (s.xv i 1 0), .int .i64 (s.xv i 1 1), .int .i64 (s.xv i 1 2), .int .i64 (s.xv i 2 0), .int .i64 (s.xv i 2 1), .int .i64 (s.xv i 2 2), .int .i64 (s.xr i)] := rfl
  have hol := outL_len (glB s) i
  have q1 : (outL (glB s) i).length ≤ 140737488355327 := by omega
  have q2 : ((outL (glB s) i).length + 1) * 8 ≤ 140737488355328 := by omega
  refine AW.skip ?_
  apply hK;clear hK K
  refine AW.seq_k fun K hK => ?_
  refine AW.block ?_
  refine AW.sr 1 fun K hK => ?_
  have pk_6 : _ ∧ _ ∧ _ ∧ _ ∧ _ ∧ _ ∧ _ ∧ _ ∧ _ ∧ _ := ⟨pk_5, c1, c2, c3, ga, gx1, gx, q1, q2, hlt⟩
  simp only [push_cast, simprocAttr, iL_vals, iL_snoc, scC, hdC, tlC, c3C, pk_6]
  apply hK;clear hK K
  refine AW.seq_k fun K hK => ?_
  have hk : inB (s.xp i) 0 ((s.np : Int) - 1) = false ∨ (inB (s.xp i) 0 ((s.np : Int) - 1) = true ∧ (s.pk (s.xp i).toNat == 3) = true) ∨ (inB (s.xp i) 0 ((s.np : Int) - 1) = true ∧ (s.pk (s.xp i).toNat == 3) = false) := by
    cases inB (s.xp i) 0 ((s.np : Int) - 1) <;> cases (s.pk (s.xp i).toNat == 3) <;> simp
  rcases hk with e1 | ⟨e1, e3⟩ | ⟨e1, e3⟩
  ·have hg : glB s i = false := by
     have e2 : ¬ (0 ≤ s.xp i ∧ s.xp i ≤ (s.np : Int) - 1) := fun h => by rw [inB_iff.2 h] at e1; cases e1
     by_cases q : 0 ≤ s.xp i
     · simp only [glB, decide_eq_false (show ¬ s.xp i < (s.np : Int) by omega), Bool.false_and, Bool.and_false]
     · simp only [glB, decide_eq_false q, Bool.false_and]
   have hu : outL (glB s) (i + 1) = outL (glB s) i := if_neg (by rw [hg]; decide)
   have hu2 := True.intro
   refine AW.rg ?_
   simp only [push_cast, simprocAttr, iL_vals, iL_snoc, scC, hdC, tlC, c3C, pk_6, e1]
   refine CThen.by (span_c _ _ _ _) ?_
   simp only [push_cast, simprocAttr, iL_vals, iL_snoc, scC, hdC, tlC, c3C, pk_6, e1]
   apply hK;clear hK K
   refine AW.cond_f rfl ?_
   refine AW.skip ?_
   refine InB_n ?_
   apply hK;clear hK K
   refine AW.rg ?_
   simp only [push_cast, simprocAttr, iL_vals, iL_snoc, scC, hdC, tlC, c3C, pk_6, e1]
   refine Thn_n ?_
   have hwi : IntKind.i64.wrap ((i:Int)+1) = (i:Int)+1 := wi (by omega)
   refine ⟨i + 1, by omega, by omega, ?_⟩
   try simp only [keepL, setAll, push_cast, simprocAttr, iL_vals, iL_snoc, scC, hdC, tlC, c3C, pk_6, e1, hwi, hu, hu2]
   first
    | exact Weak.to (extra := [_]) (by simp only [KS, simprocAttr, hwi, hu, hu2]) (by first | rfl | (simp only [List.append_assoc, List.cons_append, List.nil_append]; rfl)) (by first | rfl | (simp [AV.below, CV.below]; done) | (simp [AV.below, CV.below]; omega)) (by first | exact hwf | exact MWf.app (hwf.grow (by simp)) (MWf_cons (by exact hR.bel _ (by simp)) (MWf_cons (iL_below _ _) MWf_nil)))
    | exact Weak.to (extra := [_, _]) (by simp only [KS, simprocAttr, hwi, hu, hu2]) (by first | rfl | (simp only [List.append_assoc, List.cons_append, List.nil_append]; rfl)) (by first | rfl | (simp [AV.below, CV.below]; done) | (simp [AV.below, CV.below]; omega)) (by first | exact hwf | exact MWf.app (hwf.grow (by simp)) (MWf_cons (by exact hR.bel _ (by simp)) (MWf_cons (iL_below _ _) MWf_nil)))
  ·have e2 := inB_iff.1 e1
   have hg : glB s i = true := by simp only [glB, decide_eq_true e2.1, decide_eq_true (show s.xp i < (s.np : Int) by omega), e3, Bool.and_self]
   have hu : outL (glB s) (i + 1) = outL (glB s) i ++ [(i : Int)] := if_pos hg
   have hu2 : (outL (glB s) i ++ [(i : Int)]).length = (outL (glB s) i).length + 1 := by simp
   obtain ⟨j, hj⟩ : ∃ j, j = (s.xp i).toNat := ⟨_, rfl⟩
   have hxj : s.xp i = (j : Int) := by omega
   have hjn : j < s.np := by omega
   have d1 : (0 : Int) ≤ (j : Int) := by omega
   have d2 : (j : Int) < (s.np : Int) := by omega
   have d3 : j * 5 + 5 ≤ s.np * 5 := by omega
   have d4 : (catC s.np (pC s))[j * 5]? = some (.int .i64 (s.pk j)) := catC_get (w := 5) (F := pC s) (fun _ => rfl) hjn (a := 0) (by omega)
   rw [← hj] at e3
   rw [hxj] at e1
   refine AW.rg ?_
   have pk_7 : _ ∧ _ ∧ _ ∧ _ ∧ _ ∧ _ ∧ _ ∧ _ ∧ _ := ⟨pk_6, hxj, e1, d1, d2, d3, d4, e3, hjn⟩
   simp only [push_cast, simprocAttr, iL_vals, iL_snoc, scC, hdC, tlC, c3C, pk_7]
   refine CThen.by (span_c _ _ _ _) ?_
   simp only [push_cast, simprocAttr, iL_vals, iL_snoc, scC, hdC, tlC, c3C, pk_7]
   apply hK;clear hK K
   refine AW.cond_t rfl ?_
   refine AW.rg ?_
   simp only [push_cast, simprocAttr, iL_vals, iL_snoc, scC, hdC, tlC, c3C, pk_7]
   refine InB_n ?_
   apply hK;clear hK K
   refine AW.rg ?_
   simp only [push_cast, simprocAttr, iL_vals, iL_snoc, scC, hdC, tlC, c3C, pk_7]
   refine Thn_n ?_
   have hwi : IntKind.i64.wrap ((i:Int)+1) = (i:Int)+1 := wi (by omega)
   refine ⟨i + 1, by omega, by omega, ?_⟩
   try simp only [keepL, setAll, push_cast, simprocAttr, iL_vals, iL_snoc, scC, hdC, tlC, c3C, pk_7, hwi, hu, hu2]
   first
    | exact Weak.to (extra := [_]) (by simp only [KS, simprocAttr, hwi, hu, hu2]) (by first | rfl | (simp only [List.append_assoc, List.cons_append, List.nil_append]; rfl)) (by first | rfl | (simp [AV.below, CV.below]; done) | (simp [AV.below, CV.below]; omega)) (by first | exact hwf | exact MWf.app (hwf.grow (by simp)) (MWf_cons (by exact hR.bel _ (by simp)) (MWf_cons (iL_below _ _) MWf_nil)))
    | exact Weak.to (extra := [_, _]) (by simp only [KS, simprocAttr, hwi, hu, hu2]) (by first | rfl | (simp only [List.append_assoc, List.cons_append, List.nil_append]; rfl)) (by first | rfl | (simp [AV.below, CV.below]; done) | (simp [AV.below, CV.below]; omega)) (by first | exact hwf | exact MWf.app (hwf.grow (by simp)) (MWf_cons (by exact hR.bel _ (by simp)) (MWf_cons (iL_below _ _) MWf_nil)))
  ·have e2 := inB_iff.1 e1
   have hg : glB s i = false := by simp only [glB, e3, Bool.and_false]
   have hu : outL (glB s) (i + 1) = outL (glB s) i := if_neg (by rw [hg]; decide)
   have hu2 := True.intro
   obtain ⟨j, hj⟩ : ∃ j, j = (s.xp i).toNat := ⟨_, rfl⟩
   have hxj : s.xp i = (j : Int) := by omega
   have hjn : j < s.np := by omega
   have d1 : (0 : Int) ≤ (j : Int) := by omega
   have d2 : (j : Int) < (s.np : Int) := by omega
   have d3 : j * 5 + 5 ≤ s.np * 5 := by omega
   have d4 : (catC s.np (pC s))[j * 5]? = some (.int .i64 (s.pk j)) := catC_get (w := 5) (F := pC s) (fun _ => rfl) hjn (a := 0) (by omega)
   rw [← hj] at e3
   rw [hxj] at e1
   refine AW.rg ?_
   have pk_8 : _ ∧ _ ∧ _ ∧ _ ∧ _ ∧ _ ∧ _ ∧ _ ∧ _ := ⟨pk_6, hxj, e1, d1, d2, d3, d4, e3, hjn⟩
   simp only [push_cast, simprocAttr, iL_vals, iL_snoc, scC, hdC, tlC, c3C, pk_8]
   refine CThen.by (span_c _ _ _ _) ?_
   simp only [push_cast, simprocAttr, iL_vals, iL_snoc, scC, hdC, tlC, c3C, pk_8]
   apply hK;clear hK K
   refine AW.cond_f rfl ?_
   refine AW.skip ?_
   refine InB_n ?_
   apply hK;clear hK K
   refine AW.rg ?_
   simp only [push_cast, simprocAttr, iL_vals, iL_snoc, scC, hdC, tlC, c3C, pk_8]
   refine Thn_n ?_
   have hwi : IntKind.i64.wrap ((i:Int)+1) = (i:Int)+1 := wi (by omega)
   refine ⟨i + 1, by omega, by omega, ?_⟩
   try simp only [keepL, setAll, push_cast, simprocAttr, iL_vals, iL_snoc, scC, hdC, tlC, c3C, pk_8, hwi, hu, hu2]
   first
    | exact Weak.to (extra := [_]) (by simp only [KS, simprocAttr, hwi, hu, hu2]) (by first | rfl | (simp only [List.append_assoc, List.cons_append, List.nil_append]; rfl)) (by first | rfl | (simp [AV.below, CV.below]; done) | (simp [AV.below, CV.below]; omega)) (by first | exact hwf | exact MWf.app (hwf.grow (by simp)) (MWf_cons (by exact hR.bel _ (by simp)) (MWf_cons (iL_below _ _) MWf_nil)))
    | exact Weak.to (extra := [_, _]) (by simp only [KS, simprocAttr, hwi, hu, hu2]) (by first | rfl | (simp only [List.append_assoc, List.cons_append, List.nil_append]; rfl)) (by first | rfl | (simp [AV.below, CV.below]; done) | (simp [AV.below, CV.below]; omega)) (by first | exact hwf | exact MWf.app (hwf.grow (by simp)) (MWf_cons (by exact hR.bel _ (by simp)) (MWf_cons (iL_below _ _) MWf_nil)))
 ·have hin : i = s.nx := by have := of_decide_eq_false h10; omega
  rw [hin]
  refine AW.exit ?_
  refine Thn_e ?_
  clear hK K
  refine Thn_e ?_
  refine InB_here ?_
  apply hK;clear hK K
  refine AW.sr 1 fun K hK => ?_
  simp only [push_cast, simprocAttr, iL_vals, iL_snoc, scC, hdC, tlC, c3C, pk_5]
  apply hK;clear hK K
  refine AW.ret ?_
  refine hQ _ _ _ ?_
  refine RetP.pick [(m.length + 1, (outL (glB s) s.nx).length)] (by first | exact Or.inr rfl | exact Or.inl rfl) ?_ ?_ ?_ hwf ?_
  · simp only [resA, resOne, resTv, AV.tv, push_cast, simprocAttr]
    simp [renV, renT, renL, renC, renIdx, hlt0]
  · simp only [picks, push_cast, simprocAttr]
  · simp [distinctFrom]
  · exact MWf_cons (iL_below _ _) MWf_nil
def fbN (f : Nat → Bool) : Nat → Nat
 | 0 => 0
 | n + 1 => if fbN f n < n then fbN f n else if f n = true then n + 1 else n
theorem fbN_at {f : Nat → Bool} {i : Nat} (h : ∀ k, k < i → f k = true) (hi : f i = false) : ∀ n, i < n → fbN f n = i
 | 0, h0 => by omega
 | n + 1, h0 => by
  unfold fbN
  rcases Nat.lt_or_ge i n with q | q
  ·have := fbN_at h hi n q
   rw [if_pos (by omega)]; exact this
  ·have e : i = n := by omega
   subst e
   have : fbN f i = i := by
    clear h0 q hi
    induction i with
    | zero => rfl
    | succ k ih =>
     have ih := ih fun j hj => h j (by omega)
     unfold fbN
     rw [if_neg (by omega), if_pos (h k (by omega))]
   rw [if_neg (by omega), hi]; rfl
theorem fbN_all {f : Nat → Bool} : ∀ n, (∀ k, k < n → f k = true) → fbN f n = n
 | 0, _ => rfl
 | n + 1, h => by
  have := fbN_all n fun k hk => h k (by omega)
  unfold fbN
  rw [if_neg (by omega), if_pos (h n (by omega))]
theorem fbN_le (f : Nat → Bool) : ∀ n, fbN f n ≤ n
 | 0 => Nat.le_refl _
 | n + 1 => by
  have := fbN_le f n
  unfold fbN
  split
  ·omega
  ·split <;> omega
theorem fbN_of {f : Nat → Bool} : ∀ n, fbN f n = n → ∀ k, k < n → f k = true
 | 0, _, k, hk => by omega
 | n + 1, h, k, hk => by
  unfold fbN at h
  split at h
  ·omega
  ·rename_i h0
   have := fbN_le f n
   split at h
   ·rename_i h1
    rcases Nat.lt_or_ge k n with q | q
    ·exact fbN_of n (by omega) k q
    ·obtain rfl : k = n := by omega
     exact h1
   ·omega
def TrS (s : SC) (i : Nat) : Prop := TrR (s.tw i) (s.kn i) (s.kt i) (s.kv i)
instance (s : SC) (i : Nat) : Decidable (TrS s i) := by unfold TrS; exact inferInstance
def chkV (s : SC) : Int × Int :=
 if ¬ HdR s then (21, 0) else if 32 < s.np then (22, 32) else if fbN (fun i => decide (PaR s i)) s.np < s.np then (22, (fbN (fun i => decide (PaR s i)) s.np : Nat)) else
 if 32 < s.nt then (23, 32) else if fbN (fun i => decide (TrS s i)) s.nt < s.nt then (23, (fbN (fun i => decide (TrS s i)) s.nt : Nat)) else
 if 32 < s.nj then (24, 32) else if fbN (fun i => decide (JoR s i)) s.nj < s.nj then (24, (fbN (fun i => decide (JoR s i)) s.nj : Nat)) else
 if 128 < s.nx then (25, 128) else if fbN (fun i => decide (ShR s i)) s.nx < s.nx then (25, (fbN (fun i => decide (ShR s i)) s.nx : Nat)) else
 if ¬ LeR s then (26, 0) else if 16 < (outL (glB s) s.nx).length then (27, (outL (glB s) s.nx).getD 16 0) else (0, 0)
theorem iL_get (l : List Int) (i : Nat) (h : i < l.length) : (iL l)[i]? = some (.int .i64 (l.getD i 0)) := iL_at (by rw [List.getD_eq_getElem?_getD, List.getElem?_eq_getElem h]; rfl)
theorem rchk_c (s : SC) (R : RWs) (m : AMem) (hR : ScR 89 93 128 110 99 m s R) : Ctr Tryz.prog 14 [.agg (scC s R)] m (.tup [(false, [.int .i64 (chkV s).1]), (false, [.int .i64 (chkV s).2])]) m := by
 refine Ctr.enter Tryz.func14 rfl (by decide) (rs := [.tmp 2, .tmp 3]) (nt := 98) rfl rfl fun hwf Q hQ => ?_
 obtain ⟨kp, ep, hp⟩ := hR.hp
 have lp := get_lt hp
 obtain ⟨kt, et, ht⟩ := hR.ht
 have lt := get_lt ht
 obtain ⟨kj, ej, hj⟩ := hR.hj
 have lj := get_lt hj
 obtain ⟨kx, ex, hx⟩ := hR.hx
 have lx := get_lt hx
 have np := hR.np
 have nt := hR.nt
 have nj := hR.nj
 have nx := hR.nx
 have pl : (catC s.np (pC s)).length = s.np * 5 := catC_len (w := 5) (F := pC s) (fun _ => rfl) _
 have tl : (catC s.nt (tC s R)).length = s.nt * 2 := catC_len (w := 2) (F := tC s R) (fun _ => rfl) _
 have jl : (catC s.nj (jC s)).length = s.nj * 4 := catC_len (w := 4) (F := jC s) (fun _ => rfl) _
 have xl : (catC s.nx (xC s)).length = s.nx * 13 := catC_len (w := 13) (F := xC s) (fun _ => rfl) _
 have hlt0 : ∀ k, ¬ m.length + k < m.length := fun k => by omega
 have hbox : ∀ i, pC s i = [.int .i64 (s.pk i), .int .i64 (s.pc i 0), .int .i64 (s.pc i 1), .int .i64 (s.pc i 2), .int .i64 (s.pr i)] := fun _ => rfl
 have hbt : ∀ i, tC s R i = [.int .i64 (s.tw i), .sl (R.k i) (R.vk i) 0 (s.kn i)] := fun _ => rfl
 have hbx : ∀ i, xC s i = [.int .i64 (s.xj i), .int .i64 (s.xp i), .int .i64 (s.xk i), .int .i64 (s.xv i 0 0), .int .i64 (s.xv i 0 1), .int .i64 (s.xv i 0 2), .int .i64 (s.xv i 1 0), .int .i64 (s.xv i 1 1), .int .i64 (s.xv i 1 2), .int .i64 (s.xv i 2 0), .int .i64 (s.xv i 2 1), .int .i64 (s.xv i 2 2), .int .i64 (s.xr i)] := fun _ => rfl
 have ill := fun l => iL_len l
 refine AW.sr 1 fun K hK => ?_
 have pk_1 : _ ∧ _ ∧ _ ∧ _ ∧ _ ∧ _ ∧ _ ∧ _ ∧ _ ∧ _ ∧ _ ∧ _ ∧ _ := ⟨hp, lk_old hp, ht, lk_old ht, hj, lk_old hj, hx, lk_old hx, pl, tl, jl, xl, ill⟩
 simp only [push_cast, simprocAttr, scC, hdC, tlC, c3C, pk_1]
 apply hK;clear hK K
 refine AW.seq_k fun K hK => ?_
 refine AW.sr 1 fun K hK => ?_
 simp only [push_cast, simprocAttr, scC, hdC, tlC, c3C, pk_1]
 refine CThen.by (rhd_c s _) ?_
 simp only [push_cast, simprocAttr, scC, hdC, tlC, c3C, pk_1]
 apply hK;clear hK K
 refine AW.cond rfl (fun h12 => ?_) (fun h12 => ?_)
 ·have hA : ¬ HdR s := by simpa using h12
  rw [show chkV s = (21, 0) from by unfold chkV; rw [if_pos hA]] at hQ
  refine AW.sr 1 fun K hK => ?_
  simp only [push_cast, simprocAttr, scC, hdC, tlC, c3C, pk_1]
  apply hK;clear hK K
  refine AW.ret ?_
  refine Thn_r ?_
  refine hQ _ _ _ ?_
  first | refine RetP.drop0 (Or.inr rfl) ?_ ?_ hwf | refine RetP.drop (Or.inr rfl) ?_ ?_ hwf
  · simp only [resA, resOne, resTv, AV.tv, push_cast, simprocAttr, scC, hdC, tlC, c3C, pk_1]
  · rfl
 ·have hA : ¬ ¬ HdR s := by simpa using h12
  refine AW.skip ?_
  apply hK;clear hK K
  refine AW.seq_k fun K hK => ?_
  refine AW.sr 1 fun K hK => ?_
  simp only [push_cast, simprocAttr, scC, hdC, tlC, c3C, pk_1]
  apply hK;clear hK K
  refine AW.cond rfl (fun h16 => ?_) (fun h16 => ?_)
  ·have q1 : 32 < s.np := by have := of_decide_eq_true h16; omega
   rw [show chkV s = (22, 32) from by unfold chkV; rw [if_neg hA, if_pos q1]] at hQ
   refine AW.sr 1 fun K hK => ?_
   simp only [push_cast, simprocAttr, scC, hdC, tlC, c3C, pk_1]
   apply hK;clear hK K
   refine AW.ret ?_
   refine Thn_r ?_
   refine hQ _ _ _ ?_
   first | refine RetP.drop0 (Or.inr rfl) ?_ ?_ hwf | refine RetP.drop (Or.inr rfl) ?_ ?_ hwf
   · simp only [resA, resOne, resTv, AV.tv, push_cast, simprocAttr, scC, hdC, tlC, c3C, pk_1]
   · rfl
  ·have h1 : ¬ 32 < s.np := by have := of_decide_eq_false h16; omega
   refine AW.skip ?_
   apply hK;clear hK K
   refine AW.seq_k fun K hK => ?_
   refine AW.sr 1 fun K hK => ?_
   simp only [push_cast, simprocAttr, scC, hdC, tlC, c3C, pk_1]
   apply hK;clear hK K
   refine AW.block ?_
   refine AW.loopK [1] (fun i => i ≤ s.np ∧ ∀ k, k < i → PaR s k) (fun i => [(4, .one (.int .i64 (i : Int)))]) (fun i => []) (fun i => s.np - i) 0 ⟨by omega, fun k hk => by omega⟩ ?_ ?_ fun i hi4 => ?_
   · first | rfl | (simp only [KS, simprocAttr, Int.natCast_zero] <;> repeat' (first | rfl | apply And.intro))
   · first | rfl | (simp only [setAll, push_cast, simprocAttr, scC, hdC, tlC, c3C, pk_1, Int.natCast_zero] <;> rfl)
   obtain ⟨hin, hok⟩ := hi4
   try simp only [keepL, setAll, push_cast, simprocAttr, scC, hdC, tlC, c3C, pk_1]
   refine AW.seq_k fun K hK => ?_
   refine AW.sr 1 fun K hK => ?_
   simp only [push_cast, simprocAttr, scC, hdC, tlC, c3C, pk_1]
   apply hK;clear hK K
   refine AW.cond rfl (fun h21 => ?_) (fun h21 => ?_)
   ·have hlt : i < s.np := by have := of_decide_eq_true h21; omega
    have c1 : (0 : Int) ≤ (i : Int) := by omega
    have c2 : (i : Int) < (s.np : Int) := by omega
    have c3 : i * 5 + 5 ≤ s.np * 5 := by omega
    have ga := catC_at (w := 5) (F := pC s) (fun _ => rfl) hlt
    refine AW.skip ?_
    apply hK;clear hK K
    refine AW.seq_k fun K hK => ?_
    refine AW.block ?_
    refine AW.sr 1 fun K hK => ?_
    have pk_2 : _ ∧ _ ∧ _ ∧ _ ∧ _ ∧ _ := ⟨pk_1, c1, c2, c3, ga, hbox⟩
    simp only [push_cast, simprocAttr, scC, hdC, tlC, c3C, pk_2]
    refine CThen.by (rpa_c s i _) ?_
    simp only [push_cast, simprocAttr, scC, hdC, tlC, c3C, pk_2]
    apply hK;clear hK K
    refine AW.cond rfl (fun h30 => ?_) (fun h30 => ?_)
    ·have hno : ¬ PaR s i := by simpa [TrS] using h30
     have hfb : fbN (fun i => decide (PaR s i)) s.np = i := fbN_at (fun k hk => decide_eq_true (hok k hk)) (decide_eq_false hno) _ hlt
     rw [show chkV s = (22, ((i : Nat) : Int)) from by unfold chkV; rw [if_neg hA, if_neg h1, if_pos (by rw [hfb]; exact hlt), hfb]] at hQ
     refine AW.sr 1 fun K hK => ?_
     simp only [push_cast, simprocAttr, scC, hdC, tlC, c3C, pk_2]
     apply hK;clear hK K
     refine AW.ret ?_
     refine InB_r ?_
     refine Thn_r ?_
     refine Thn_r ?_
     refine InB_r ?_
     refine Thn_r ?_
     refine hQ _ _ _ ?_
     first | refine RetP.drop0 (Or.inr rfl) ?_ ?_ hwf | refine RetP.drop (Or.inr rfl) ?_ ?_ hwf
     · simp only [resA, resOne, resTv, AV.tv, push_cast, simprocAttr, scC, hdC, tlC, c3C, pk_2]
     · rfl
    ·have hnow : PaR s i := by simpa [TrS] using h30
     refine AW.skip ?_
     refine InB_n ?_
     apply hK;clear hK K
     refine AW.rg ?_
     simp only [push_cast, simprocAttr, scC, hdC, tlC, c3C, pk_2]
     refine Thn_n ?_
     have hwi : IntKind.i64.wrap ((i:Int)+1) = (i:Int)+1 := wi (by omega)
     refine ⟨i + 1, ⟨by omega, fun k hk => by
       rcases Nat.lt_or_ge k i with h | h
       · exact hok k h
       · obtain rfl : k = i := by omega
         exact hnow⟩, by omega, ?_⟩
     try simp only [keepL, setAll, push_cast, simprocAttr, scC, hdC, tlC, c3C, pk_2, hwi]
     first
      | exact Weak.same (by simp only [KS, simprocAttr, hwi]) (by first | rfl | simp only [KS, simprocAttr, hwi])
      | exact Weak.to (extra := [_]) (by simp only [KS, simprocAttr, hwi]) (by first | rfl | (simp only [List.append_assoc, List.cons_append, List.nil_append]; rfl)) (by first | rfl | (simp [AV.below, CV.below]; done) | (simp [AV.below, CV.below]; omega)) (by
         first | exact hwf | refine MWf.app (hwf.grow (by simp)) ?_
         repeat (first | exact MWf_nil | (refine MWf_cons ?_ ?_; · first | rfl | (simp [CV.below]; done) | (simp [CV.below]; omega))))
   ·have hie : i = s.np := by have := of_decide_eq_false h21; omega
    have f1 : ¬ fbN (fun i => decide (PaR s i)) s.np < s.np := by rw [fbN_all s.np fun k hk => decide_eq_true (hok k (by omega))]; omega
    refine AW.exit ?_
    refine Thn_e ?_
    clear hK K
    refine Thn_e ?_
    refine InB_here ?_
    apply hK;clear hK K
    refine AW.seq_k fun K hK => ?_
    refine AW.sr 1 fun K hK => ?_
    simp only [push_cast, simprocAttr, scC, hdC, tlC, c3C, pk_1]
    apply hK;clear hK K
    refine AW.cond rfl (fun h35 => ?_) (fun h35 => ?_)
    ·have q2 : 32 < s.nt := by have := of_decide_eq_true h35; omega
     rw [show chkV s = (23, 32) from by unfold chkV; rw [if_neg hA, if_neg h1, if_neg f1, if_pos q2]] at hQ
     refine AW.sr 1 fun K hK => ?_
     simp only [push_cast, simprocAttr, scC, hdC, tlC, c3C, pk_1]
     apply hK;clear hK K
     refine AW.ret ?_
     refine Thn_r ?_
     refine hQ _ _ _ ?_
     first | refine RetP.drop0 (Or.inr rfl) ?_ ?_ hwf | refine RetP.drop (Or.inr rfl) ?_ ?_ hwf
     · simp only [resA, resOne, resTv, AV.tv, push_cast, simprocAttr, scC, hdC, tlC, c3C, pk_1]
     · rfl
    ·have h2 : ¬ 32 < s.nt := by have := of_decide_eq_false h35; omega
     refine AW.skip ?_
     apply hK;clear hK K
     refine AW.seq_k fun K hK => ?_
     refine AW.sr 1 fun K hK => ?_
     simp only [push_cast, simprocAttr, scC, hdC, tlC, c3C, pk_1]
     apply hK;clear hK K
     refine AW.block ?_
     refine AW.loopK [1] (fun i => i ≤ s.nt ∧ ∀ k, k < i → TrS s k) (fun i => [(5, .one (.int .i64 (i : Int)))]) (fun i => []) (fun i => s.nt - i) 0 ⟨by omega, fun k hk => by omega⟩ ?_ ?_ fun i hi9 => ?_
     · first | rfl | (simp only [KS, simprocAttr, Int.natCast_zero] <;> repeat' (first | rfl | apply And.intro))
     · first | rfl | (simp only [setAll, push_cast, simprocAttr, scC, hdC, tlC, c3C, pk_1, Int.natCast_zero] <;> rfl)
     obtain ⟨hin, hok⟩ := hi9
     try simp only [keepL, setAll, push_cast, simprocAttr, scC, hdC, tlC, c3C, pk_1]
     refine AW.seq_k fun K hK => ?_
     refine AW.sr 1 fun K hK => ?_
     simp only [push_cast, simprocAttr, scC, hdC, tlC, c3C, pk_1]
     apply hK;clear hK K
     refine AW.cond rfl (fun h40 => ?_) (fun h40 => ?_)
     ·have hlt : i < s.nt := by have := of_decide_eq_true h40; omega
      have c1 : (0 : Int) ≤ (i : Int) := by omega
      have c2 : (i : Int) < (s.nt : Int) := by omega
      have c3 : i * 2 + 2 ≤ s.nt * 2 := by omega
      have ga := catC_at (w := 2) (F := tC s R) (fun _ => rfl) hlt
      obtain ⟨kk, ek, hky⟩ := hR.hk i hlt
      have lky := get_lt hky
      refine AW.skip ?_
      apply hK;clear hK K
      refine AW.seq_k fun K hK => ?_
      refine AW.block ?_
      refine AW.sr 1 fun K hK => ?_
      have pk_3 : _ ∧ _ ∧ _ ∧ _ ∧ _ ∧ _ := ⟨pk_1, c1, c2, c3, ga, hbt⟩
      simp only [push_cast, simprocAttr, scC, hdC, tlC, c3C, pk_3]
      refine CThen.by (rtrk_c (s.tw i) (R.k i) (R.vk i) (s.kn i) (s.kt i) (s.kv i) _ ⟨kk, ek, lk_old hky _⟩) ?_
      simp only [push_cast, simprocAttr, scC, hdC, tlC, c3C, pk_3]
      apply hK;clear hK K
      refine AW.cond rfl (fun h49 => ?_) (fun h49 => ?_)
      ·have hno : ¬ TrS s i := by simpa [TrS] using h49
       have hfb : fbN (fun i => decide (TrS s i)) s.nt = i := fbN_at (fun k hk => decide_eq_true (hok k hk)) (decide_eq_false hno) _ hlt
       rw [show chkV s = (23, ((i : Nat) : Int)) from by unfold chkV; rw [if_neg hA, if_neg h1, if_neg f1, if_neg h2, if_pos (by rw [hfb]; exact hlt), hfb]] at hQ
       refine AW.sr 1 fun K hK => ?_
       simp only [push_cast, simprocAttr, scC, hdC, tlC, c3C, pk_3]
       apply hK;clear hK K
       refine AW.ret ?_
       refine InB_r ?_
       refine Thn_r ?_
       refine Thn_r ?_
       refine InB_r ?_
       refine Thn_r ?_
       refine hQ _ _ _ ?_
       first | refine RetP.drop0 (Or.inr rfl) ?_ ?_ hwf | refine RetP.drop (Or.inr rfl) ?_ ?_ hwf
       · simp only [resA, resOne, resTv, AV.tv, push_cast, simprocAttr, scC, hdC, tlC, c3C, pk_3]
       · rfl
      ·have hnow : TrS s i := by simpa [TrS] using h49
       refine AW.skip ?_
       refine InB_n ?_
       apply hK;clear hK K
       refine AW.rg ?_
       simp only [push_cast, simprocAttr, scC, hdC, tlC, c3C, pk_3]
       refine Thn_n ?_
       have hwi : IntKind.i64.wrap ((i:Int)+1) = (i:Int)+1 := wi (by omega)
       refine ⟨i + 1, ⟨by omega, fun k hk => by
         rcases Nat.lt_or_ge k i with h | h
         · exact hok k h
         · obtain rfl : k = i := by omega
           exact hnow⟩, by omega, ?_⟩
       try simp only [keepL, setAll, push_cast, simprocAttr, scC, hdC, tlC, c3C, pk_3, hwi]
       first
        | exact Weak.same (by simp only [KS, simprocAttr, hwi]) (by first | rfl | simp only [KS, simprocAttr, hwi])
        | exact Weak.to (extra := [_]) (by simp only [KS, simprocAttr, hwi]) (by first | rfl | (simp only [List.append_assoc, List.cons_append, List.nil_append]; rfl)) (by first | rfl | (simp [AV.below, CV.below]; done) | (simp [AV.below, CV.below]; omega)) (by
           first | exact hwf | refine MWf.app (hwf.grow (by simp)) ?_
           repeat (first | exact MWf_nil | (refine MWf_cons ?_ ?_; · first | rfl | (simp [CV.below]; done) | (simp [CV.below]; omega))))
     ·have hie : i = s.nt := by have := of_decide_eq_false h40; omega
      have f2 : ¬ fbN (fun i => decide (TrS s i)) s.nt < s.nt := by rw [fbN_all s.nt fun k hk => decide_eq_true (hok k (by omega))]; omega
      refine AW.exit ?_
      refine Thn_e ?_
      clear hK K
      refine Thn_e ?_
      refine InB_here ?_
      apply hK;clear hK K
      refine AW.seq_k fun K hK => ?_
      refine AW.sr 1 fun K hK => ?_
      simp only [push_cast, simprocAttr, scC, hdC, tlC, c3C, pk_1]
      apply hK;clear hK K
      refine AW.cond rfl (fun h54 => ?_) (fun h54 => ?_)
      ·have q3 : 32 < s.nj := by have := of_decide_eq_true h54; omega
       rw [show chkV s = (24, 32) from by unfold chkV; rw [if_neg hA, if_neg h1, if_neg f1, if_neg h2, if_neg f2, if_pos q3]] at hQ
       refine AW.sr 1 fun K hK => ?_
       simp only [push_cast, simprocAttr, scC, hdC, tlC, c3C, pk_1]
       apply hK;clear hK K
       refine AW.ret ?_
       refine Thn_r ?_
       refine hQ _ _ _ ?_
       first | refine RetP.drop0 (Or.inr rfl) ?_ ?_ hwf | refine RetP.drop (Or.inr rfl) ?_ ?_ hwf
       · simp only [resA, resOne, resTv, AV.tv, push_cast, simprocAttr, scC, hdC, tlC, c3C, pk_1]
       · rfl
      ·have h3 : ¬ 32 < s.nj := by have := of_decide_eq_false h54; omega
       refine AW.skip ?_
       apply hK;clear hK K
       refine AW.seq_k fun K hK => ?_
       refine AW.sr 1 fun K hK => ?_
       simp only [push_cast, simprocAttr, scC, hdC, tlC, c3C, pk_1]
       apply hK;clear hK K
       refine AW.block ?_
       refine AW.loopK [1] (fun i => i ≤ s.nj ∧ ∀ k, k < i → JoR s k) (fun i => [(6, .one (.int .i64 (i : Int)))]) (fun i => []) (fun i => s.nj - i) 0 ⟨by omega, fun k hk => by omega⟩ ?_ ?_ fun i hi14 => ?_
       · first | rfl | (simp only [KS, simprocAttr, Int.natCast_zero] <;> repeat' (first | rfl | apply And.intro))
       · first | rfl | (simp only [setAll, push_cast, simprocAttr, scC, hdC, tlC, c3C, pk_1, Int.natCast_zero] <;> rfl)
       obtain ⟨hin, hok⟩ := hi14
       try simp only [keepL, setAll, push_cast, simprocAttr, scC, hdC, tlC, c3C, pk_1]
       refine AW.seq_k fun K hK => ?_
       refine AW.sr 1 fun K hK => ?_
       simp only [push_cast, simprocAttr, scC, hdC, tlC, c3C, pk_1]
       apply hK;clear hK K
       refine AW.cond rfl (fun h59 => ?_) (fun h59 => ?_)
       ·have hlt : i < s.nj := by have := of_decide_eq_true h59; omega
        have c1 : (0 : Int) ≤ (i : Int) := by omega
        have c2 : (i : Int) < (s.nj : Int) := by omega
        have c3 := True.intro
        have ga := True.intro
        refine AW.skip ?_
        apply hK;clear hK K
        refine AW.seq_k fun K hK => ?_
        refine AW.block ?_
        refine AW.sr 1 fun K hK => ?_
        have pk_4 : _ ∧ _ ∧ _ ∧ _ ∧ _ := ⟨pk_1, c1, c2, c3, ga⟩
        simp only [push_cast, simprocAttr, scC, hdC, tlC, c3C, pk_4]
        refine CThen.by (rjo_c s R i _ hR.nt (by obtain ⟨k, e, h⟩ := hR.hj; exact ⟨k, e, lk_old h _⟩) hlt hR.nj) ?_
        simp only [push_cast, simprocAttr, scC, hdC, tlC, c3C, pk_4]
        apply hK;clear hK K
        refine AW.cond rfl (fun h65 => ?_) (fun h65 => ?_)
        ·have hno : ¬ JoR s i := by simpa [TrS] using h65
         have hfb : fbN (fun i => decide (JoR s i)) s.nj = i := fbN_at (fun k hk => decide_eq_true (hok k hk)) (decide_eq_false hno) _ hlt
         rw [show chkV s = (24, ((i : Nat) : Int)) from by unfold chkV; rw [if_neg hA, if_neg h1, if_neg f1, if_neg h2, if_neg f2, if_neg h3, if_pos (by rw [hfb]; exact hlt), hfb]] at hQ
         refine AW.sr 1 fun K hK => ?_
         simp only [push_cast, simprocAttr, scC, hdC, tlC, c3C, pk_4]
         apply hK;clear hK K
         refine AW.ret ?_
         refine InB_r ?_
         refine Thn_r ?_
         refine Thn_r ?_
         refine InB_r ?_
         refine Thn_r ?_
         refine hQ _ _ _ ?_
         first | refine RetP.drop0 (Or.inr rfl) ?_ ?_ hwf | refine RetP.drop (Or.inr rfl) ?_ ?_ hwf
         · simp only [resA, resOne, resTv, AV.tv, push_cast, simprocAttr, scC, hdC, tlC, c3C, pk_4]
         · rfl
        ·have hnow : JoR s i := by simpa [TrS] using h65
         refine AW.skip ?_
         refine InB_n ?_
         apply hK;clear hK K
         refine AW.rg ?_
         simp only [push_cast, simprocAttr, scC, hdC, tlC, c3C, pk_4]
         refine Thn_n ?_
         have hwi : IntKind.i64.wrap ((i:Int)+1) = (i:Int)+1 := wi (by omega)
         refine ⟨i + 1, ⟨by omega, fun k hk => by
           rcases Nat.lt_or_ge k i with h | h
           · exact hok k h
           · obtain rfl : k = i := by omega
             exact hnow⟩, by omega, ?_⟩
         try simp only [keepL, setAll, push_cast, simprocAttr, scC, hdC, tlC, c3C, pk_4, hwi]
         first
          | exact Weak.same (by simp only [KS, simprocAttr, hwi]) (by first | rfl | simp only [KS, simprocAttr, hwi])
          | exact Weak.to (extra := [_]) (by simp only [KS, simprocAttr, hwi]) (by first | rfl | (simp only [List.append_assoc, List.cons_append, List.nil_append]; rfl)) (by first | rfl | (simp [AV.below, CV.below]; done) | (simp [AV.below, CV.below]; omega)) (by
             first | exact hwf | refine MWf.app (hwf.grow (by simp)) ?_
             repeat (first | exact MWf_nil | (refine MWf_cons ?_ ?_; · first | rfl | (simp [CV.below]; done) | (simp [CV.below]; omega))))
       ·have hie : i = s.nj := by have := of_decide_eq_false h59; omega
        have f3 : ¬ fbN (fun i => decide (JoR s i)) s.nj < s.nj := by rw [fbN_all s.nj fun k hk => decide_eq_true (hok k (by omega))]; omega
        refine AW.exit ?_
        refine Thn_e ?_
        clear hK K
        refine Thn_e ?_
        refine InB_here ?_
        apply hK;clear hK K
        refine AW.seq_k fun K hK => ?_
        refine AW.sr 1 fun K hK => ?_
        simp only [push_cast, simprocAttr, scC, hdC, tlC, c3C, pk_1]
        apply hK;clear hK K
        refine AW.cond rfl (fun h70 => ?_) (fun h70 => ?_)
        ·have q4 : 128 < s.nx := by have := of_decide_eq_true h70; omega
         rw [show chkV s = (25, 128) from by unfold chkV; rw [if_neg hA, if_neg h1, if_neg f1, if_neg h2, if_neg f2, if_neg h3, if_neg f3, if_pos q4]] at hQ
         refine AW.sr 1 fun K hK => ?_
         simp only [push_cast, simprocAttr, scC, hdC, tlC, c3C, pk_1]
         apply hK;clear hK K
         refine AW.ret ?_
         refine Thn_r ?_
         refine hQ _ _ _ ?_
         first | refine RetP.drop0 (Or.inr rfl) ?_ ?_ hwf | refine RetP.drop (Or.inr rfl) ?_ ?_ hwf
         · simp only [resA, resOne, resTv, AV.tv, push_cast, simprocAttr, scC, hdC, tlC, c3C, pk_1]
         · rfl
        ·have h4 : ¬ 128 < s.nx := by have := of_decide_eq_false h70; omega
         refine AW.skip ?_
         apply hK;clear hK K
         refine AW.seq_k fun K hK => ?_
         refine AW.sr 1 fun K hK => ?_
         simp only [push_cast, simprocAttr, scC, hdC, tlC, c3C, pk_1]
         apply hK;clear hK K
         refine AW.block ?_
         refine AW.loopK [1] (fun i => i ≤ s.nx ∧ ∀ k, k < i → ShR s k) (fun i => [(7, .one (.int .i64 (i : Int)))]) (fun i => []) (fun i => s.nx - i) 0 ⟨by omega, fun k hk => by omega⟩ ?_ ?_ fun i hi19 => ?_
         · first | rfl | (simp only [KS, simprocAttr, Int.natCast_zero] <;> repeat' (first | rfl | apply And.intro))
         · first | rfl | (simp only [setAll, push_cast, simprocAttr, scC, hdC, tlC, c3C, pk_1, Int.natCast_zero] <;> rfl)
         obtain ⟨hin, hok⟩ := hi19
         try simp only [keepL, setAll, push_cast, simprocAttr, scC, hdC, tlC, c3C, pk_1]
         refine AW.seq_k fun K hK => ?_
         refine AW.sr 1 fun K hK => ?_
         simp only [push_cast, simprocAttr, scC, hdC, tlC, c3C, pk_1]
         apply hK;clear hK K
         refine AW.cond rfl (fun h75 => ?_) (fun h75 => ?_)
         ·have hlt : i < s.nx := by have := of_decide_eq_true h75; omega
          have c1 : (0 : Int) ≤ (i : Int) := by omega
          have c2 : (i : Int) < (s.nx : Int) := by omega
          have c3 : i * 13 + 13 ≤ s.nx * 13 := by omega
          have ga := catC_at (w := 13) (F := xC s) (fun _ => rfl) hlt
          refine AW.skip ?_
          apply hK;clear hK K
          refine AW.seq_k fun K hK => ?_
          refine AW.block ?_
          refine AW.seq_k fun K hK => ?_
          refine AW.draw [.rd 0, .val, .rd 0, .val, .val, .rd 0, .ext, .val] fol (by decide) (by kernel_rfl) ?_
          have pk_5 : _ ∧ _ ∧ _ ∧ _ ∧ _ ∧ _ := ⟨pk_1, c1, c2, c3, ga, hbx⟩
          simp only [push_cast, simprocAttr, scC, hdC, tlC, c3C, pk_5]
          refine DCall.by0 (rsh_c s R i _ hR.nj hR.np) ?_
          simp only [push_cast, simprocAttr, scC, hdC, tlC, c3C, pk_5]
          apply hK;clear hK K
          refine AW.cond rfl (fun h85 => ?_) (fun h85 => ?_)
          ·have hno : ¬ ShR s i := by simpa [TrS] using h85
           have hfb : fbN (fun i => decide (ShR s i)) s.nx = i := fbN_at (fun k hk => decide_eq_true (hok k hk)) (decide_eq_false hno) _ hlt
           rw [show chkV s = (25, ((i : Nat) : Int)) from by unfold chkV; rw [if_neg hA, if_neg h1, if_neg f1, if_neg h2, if_neg f2, if_neg h3, if_neg f3, if_neg h4, if_pos (by rw [hfb]; exact hlt), hfb]] at hQ
           refine AW.sr 1 fun K hK => ?_
           simp only [push_cast, simprocAttr, scC, hdC, tlC, c3C, pk_5]
           apply hK;clear hK K
           refine AW.ret ?_
           refine InB_r ?_
           refine Thn_r ?_
           refine Thn_r ?_
           refine InB_r ?_
           refine Thn_r ?_
           refine hQ _ _ _ ?_
           first | refine RetP.drop0 (Or.inr rfl) ?_ ?_ hwf | refine RetP.drop (Or.inr rfl) ?_ ?_ hwf
           · simp only [resA, resOne, resTv, AV.tv, push_cast, simprocAttr, scC, hdC, tlC, c3C, pk_5]
           · rfl
          ·have hnow : ShR s i := by simpa [TrS] using h85
           refine AW.skip ?_
           refine InB_n ?_
           apply hK;clear hK K
           refine AW.rg ?_
           simp only [push_cast, simprocAttr, scC, hdC, tlC, c3C, pk_5]
           refine Thn_n ?_
           have hwi : IntKind.i64.wrap ((i:Int)+1) = (i:Int)+1 := wi (by omega)
           refine ⟨i + 1, ⟨by omega, fun k hk => by
             rcases Nat.lt_or_ge k i with h | h
             · exact hok k h
             · obtain rfl : k = i := by omega
               exact hnow⟩, by omega, ?_⟩
           try simp only [keepL, setAll, push_cast, simprocAttr, scC, hdC, tlC, c3C, pk_5, hwi]
           first
            | exact Weak.same (by simp only [KS, simprocAttr, hwi]) (by first | rfl | simp only [KS, simprocAttr, hwi])
            | exact Weak.to (extra := [_]) (by simp only [KS, simprocAttr, hwi]) (by first | rfl | (simp only [List.append_assoc, List.cons_append, List.nil_append]; rfl)) (by first | rfl | (simp [AV.below, CV.below]; done) | (simp [AV.below, CV.below]; omega)) (by
               first | exact hwf | refine MWf.app (hwf.grow (by simp)) ?_
               repeat (first | exact MWf_nil | (refine MWf_cons ?_ ?_; · first | rfl | (simp [CV.below]; done) | (simp [CV.below]; omega))))
         ·have hie : i = s.nx := by have := of_decide_eq_false h75; omega
          have f4 : ¬ fbN (fun i => decide (ShR s i)) s.nx < s.nx := by rw [fbN_all s.nx fun k hk => decide_eq_true (hok k (by omega))]; omega
          refine AW.exit ?_
          refine Thn_e ?_
          clear hK K
          refine Thn_e ?_
          refine InB_here ?_
          apply hK;clear hK K
          refine AW.seq_k fun K hK => ?_
          refine AW.sr 1 fun K hK => ?_
          simp only [push_cast, simprocAttr, scC, hdC, tlC, c3C, pk_1]
          refine CThen.by (rle_c s R _ hR.nt) ?_
          simp only [push_cast, simprocAttr, scC, hdC, tlC, c3C, pk_1]
          apply hK;clear hK K
          refine AW.cond rfl (fun h89 => ?_) (fun h89 => ?_)
          ·have hL : ¬ LeR s := by simpa using h89
           rw [show chkV s = (26, 0) from by unfold chkV; rw [if_neg hA, if_neg h1, if_neg f1, if_neg h2, if_neg f2, if_neg h3, if_neg f3, if_neg h4, if_neg f4, if_pos hL]] at hQ
           refine AW.sr 1 fun K hK => ?_
           simp only [push_cast, simprocAttr, scC, hdC, tlC, c3C, pk_1]
           apply hK;clear hK K
           refine AW.ret ?_
           refine Thn_r ?_
           refine hQ _ _ _ ?_
           first | refine RetP.drop0 (Or.inr rfl) ?_ ?_ hwf | refine RetP.drop (Or.inr rfl) ?_ ?_ hwf
           · simp only [resA, resOne, resTv, AV.tv, push_cast, simprocAttr, scC, hdC, tlC, c3C, pk_1]
           · rfl
          ·have hL : ¬ ¬ LeR s := by simpa using h89
           refine AW.skip ?_
           apply hK;clear hK K
           refine AW.sr 1 fun K hK => ?_
           simp only [push_cast, simprocAttr, scC, hdC, tlC, c3C, pk_1]
           refine CThen.by (rla_c s R _ (hR.app _)) ?_
           simp only [push_cast, simprocAttr, scC, hdC, tlC, c3C, pk_1]
           apply hK;clear hK K
           refine AW.seq_k fun K hK => ?_
           refine AW.sr 1 fun K hK => ?_
           simp only [push_cast, simprocAttr, scC, hdC, tlC, c3C, pk_1]
           apply hK;clear hK K
           refine AW.cond rfl (fun h94 => ?_) (fun h94 => ?_)
           ·have hM : 16 < (outL (glB s) s.nx).length := by have := of_decide_eq_true h94; omega
            have g16 := iL_get _ 16 hM
            have c16 : (16 : Int) < ((outL (glB s) s.nx).length : Int) := by omega
            rw [show chkV s = (27, (outL (glB s) s.nx).getD 16 0) from by unfold chkV; rw [if_neg hA, if_neg h1, if_neg f1, if_neg h2, if_neg f2, if_neg h3, if_neg f3, if_neg h4, if_neg f4, if_neg hL, if_pos hM]] at hQ
            refine AW.seq_k fun K hK => ?_
            refine AW.draw [.val, .val, .rd 0, .val, .val] fol (by decide) (by kernel_rfl) ?_
            simp only [push_cast, simprocAttr, scC, hdC, tlC, c3C, pk_1, g16, c16, hM]
            apply hK;clear hK K
            refine AW.ret ?_
            refine Thn_r ?_
            refine hQ _ _ _ ?_
            first | refine RetP.drop0 (Or.inr rfl) ?_ ?_ hwf | refine RetP.drop (Or.inr rfl) ?_ ?_ hwf
            · simp only [resA, resOne, resTv, AV.tv, push_cast, simprocAttr, scC, hdC, tlC, c3C, pk_1, g16, c16, hM]
            · rfl
           ·have hM : ¬ 16 < (outL (glB s) s.nx).length := by have := of_decide_eq_false h94; omega
            rw [show chkV s = (0, 0) from by unfold chkV; rw [if_neg hA, if_neg h1, if_neg f1, if_neg h2, if_neg f2, if_neg h3, if_neg f3, if_neg h4, if_neg f4, if_neg hL, if_neg hM]] at hQ
            refine AW.skip ?_
            apply hK;clear hK K
            refine AW.sr 1 fun K hK => ?_
            simp only [push_cast, simprocAttr, scC, hdC, tlC, c3C, pk_1]
            apply hK;clear hK K
            refine AW.ret ?_
            refine hQ _ _ _ ?_
            first | refine RetP.drop0 (Or.inr rfl) ?_ ?_ hwf | refine RetP.drop (Or.inr rfl) ?_ ?_ hwf
            · simp only [resA, resOne, resTv, AV.tv, push_cast, simprocAttr, scC, hdC, tlC, c3C, pk_1]
            · rfl
def alV (f : Nat → Bool) (n : Nat) : Int := if fbN f n < n then ((fbN f n : Nat) : Int) else -1
theorem alV_at {f : Nat → Bool} {n i : Nat} (h : ∀ k, k < i → f k = true) (hi : f i = false) (hn : i < n) : alV f n = (i : Int) := by
 have := fbN_at h hi n hn
 unfold alV; rw [if_pos (by omega), this]
theorem alV_all {f : Nat → Bool} {n : Nat} (h : ∀ k, k < n → f k = true) : alV f n = -1 := by
 have := fbN_all n h
 unfold alV; rw [if_neg (by omega)]
theorem allf_c (n : Nat) (f : Nat → Bool) (m : AMem) (hn : n ≤ 1000000000000) (g r : Nat) (hc : ∀ k : Nat, k < n → Ctr Tryz.prog g [.one (.int .i64 (k : Int)), .one (.ptr r 0 0)] m (.one (.bool (f k))) m) : Ctr Tryz.prog 57 [.one (.int .i64 (n : Int)), .one (.fn g [(r, 0, 0)])] m (.one (.int .i64 (alV f n))) m := by
 refine Ctr.enter Tryz.func57 rfl (by decide) (rs := [.tmp 4]) (nt := 16) rfl rfl fun hwf Q hQ => ?_
 refine AW.sr 1 fun K hK => ?_
 simp only [push_cast, simprocAttr]
 apply hK;clear hK K
 refine AW.seq_k fun K hK => ?_
 refine AW.sr 1 fun K hK => ?_
 simp only [push_cast, simprocAttr]
 apply hK;clear hK K
 refine AW.block ?_
 refine AW.loopK [1, 6] (fun i => i ≤ n ∧ ∀ k, k < i → f k = true) (fun i => [(7, .one (.int .i64 (i : Int)))]) (fun i => []) (fun i => n - i) 0 ⟨by omega, fun k hk => by omega⟩ ?_ ?_ fun i hi2 => ?_
 · first | rfl | (simp only [KS, simprocAttr, Int.natCast_zero] <;> repeat' (first | rfl | apply And.intro))
 · first | rfl | (simp only [setAll, push_cast, simprocAttr, Int.natCast_zero] <;> rfl)
 obtain ⟨hin, hok⟩ := hi2
 try simp only [keepL, setAll, push_cast, simprocAttr]
 refine AW.sr 1 fun K hK => ?_
 simp only [push_cast, simprocAttr]
 apply hK;clear hK K
 refine AW.seq_k fun K hK => ?_
 refine AW.cond rfl (fun h8 => ?_) (fun h8 => ?_)
 ·have hlt : i < n := by have := of_decide_eq_true h8; omega
  have c1 : (0 : Int) ≤ (i : Int) := by omega
  have c2 : (i : Int) < (n : Int) := by omega
  refine AW.skip ?_
  apply hK;clear hK K
  refine AW.seq_k fun K hK => ?_
  refine AW.block ?_
  refine AW.sr 2 fun K hK => ?_
  simp only [push_cast, simprocAttr, c1, c2]
  refine CThen.by (hc i hlt) ?_
  simp only [push_cast, simprocAttr, c1, c2]
  apply hK;clear hK K
  refine AW.cond rfl (fun h13 => ?_) (fun h13 => ?_)
  ·have hno : f i = false := by simpa using h13
   rw [alV_at hok hno hlt] at hQ
   refine AW.sr 1 fun K hK => ?_
   simp only [push_cast, simprocAttr, c1, c2]
   apply hK;clear hK K
   refine AW.ret ?_
   refine InB_r ?_
   refine Thn_r ?_
   refine Thn_r ?_
   refine InB_r ?_
   refine Thn_r ?_
   refine hQ _ _ _ ?_
   first | refine RetP.drop0 (Or.inr rfl) ?_ ?_ hwf | refine RetP.drop (Or.inr rfl) ?_ ?_ hwf
   · simp only [resA, resOne, resTv, AV.tv, push_cast, simprocAttr, c1, c2]
   · rfl
  ·have hnow : f i = true := by simpa using h13
   refine AW.skip ?_
   refine InB_n ?_
   apply hK;clear hK K
   refine AW.rg ?_
   simp only [push_cast, simprocAttr, c1, c2]
   refine Thn_n ?_
   have hwi : IntKind.i64.wrap ((i:Int)+1) = (i:Int)+1 := wi (by omega)
   refine ⟨i + 1, ⟨by omega, fun k hk => by
     rcases Nat.lt_or_ge k i with h | h
     · exact hok k h
     · obtain rfl : k = i := by omega
       exact hnow⟩, by omega, ?_⟩
   try simp only [keepL, setAll, push_cast, simprocAttr, c1, c2, hwi]
   exact Weak.same (by simp only [KS, simprocAttr, hwi]) (by first | rfl | simp only [KS, simprocAttr, hwi])
 ·have hie : i = n := by have := of_decide_eq_false h8; omega
  rw [alV_all fun k hk => hok k (by omega)] at hQ
  refine AW.exit ?_
  refine Thn_e ?_
  clear hK K
  refine Thn_e ?_
  refine InB_here ?_
  apply hK;clear hK K
  refine AW.sr 1 fun K hK => ?_
  simp only [push_cast, simprocAttr]
  apply hK;clear hK K
  refine AW.ret ?_
  refine hQ _ _ _ ?_
  first | refine RetP.drop0 (Or.inr rfl) ?_ ?_ hwf | refine RetP.drop (Or.inr rfl) ?_ ?_ hwf
  · simp only [resA, resOne, resTv, AV.tv, push_cast, simprocAttr]
  · rfl
theorem allb_c (n : Nat) (f : Nat → Bool) (m : AMem) (hn : n ≤ 1000000000000) (g : Nat) (cs : List SV) (hc : ∀ k : Nat, k < n → Ctr Tryz.prog g [.agg (cs.map SV.cv), .one (.int .i64 (k : Int))] m (.one (.bool (f k))) m) : Ctr Tryz.prog 57 [.one (.int .i64 (n : Int)), .one (.bm g cs)] m (.one (.int .i64 (alV f n))) m := by
 refine Ctr.enter Tryz.func57 rfl (by decide) (rs := [.tmp 4]) (nt := 16) rfl rfl fun hwf Q hQ => ?_
 refine AW.sr 1 fun K hK => ?_
 simp only [push_cast, simprocAttr]
 apply hK;clear hK K
 refine AW.seq_k fun K hK => ?_
 refine AW.sr 1 fun K hK => ?_
 simp only [push_cast, simprocAttr]
 apply hK;clear hK K
 refine AW.block ?_
 refine AW.loopK [1, 6] (fun i => i ≤ n ∧ ∀ k, k < i → f k = true) (fun i => [(7, .one (.int .i64 (i : Int)))]) (fun i => []) (fun i => n - i) 0 ⟨by omega, fun k hk => by omega⟩ ?_ ?_ fun i hi2 => ?_
 · first | rfl | (simp only [KS, simprocAttr, Int.natCast_zero] <;> repeat' (first | rfl | apply And.intro))
 · first | rfl | (simp only [setAll, push_cast, simprocAttr, Int.natCast_zero] <;> rfl)
 obtain ⟨hin, hok⟩ := hi2
 try simp only [keepL, setAll, push_cast, simprocAttr]
 refine AW.sr 1 fun K hK => ?_
 simp only [push_cast, simprocAttr]
 apply hK;clear hK K
 refine AW.seq_k fun K hK => ?_
 refine AW.cond rfl (fun h8 => ?_) (fun h8 => ?_)
 ·have hlt : i < n := by have := of_decide_eq_true h8; omega
  have c1 : (0 : Int) ≤ (i : Int) := by omega
  have c2 : (i : Int) < (n : Int) := by omega
  refine AW.skip ?_
  apply hK;clear hK K
  refine AW.seq_k fun K hK => ?_
  refine AW.block ?_
  refine AW.sr 2 fun K hK => ?_
  simp only [push_cast, simprocAttr, c1, c2]
  refine CThen.by (hc i hlt) ?_
  simp only [push_cast, simprocAttr, c1, c2]
  apply hK;clear hK K
  refine AW.cond rfl (fun h13 => ?_) (fun h13 => ?_)
  ·have hno : f i = false := by simpa using h13
   rw [alV_at hok hno hlt] at hQ
   refine AW.sr 1 fun K hK => ?_
   simp only [push_cast, simprocAttr, c1, c2]
   apply hK;clear hK K
   refine AW.ret ?_
   refine InB_r ?_
   refine Thn_r ?_
   refine Thn_r ?_
   refine InB_r ?_
   refine Thn_r ?_
   refine hQ _ _ _ ?_
   first | refine RetP.drop0 (Or.inr rfl) ?_ ?_ hwf | refine RetP.drop (Or.inr rfl) ?_ ?_ hwf
   · simp only [resA, resOne, resTv, AV.tv, push_cast, simprocAttr, c1, c2]
   · rfl
  ·have hnow : f i = true := by simpa using h13
   refine AW.skip ?_
   refine InB_n ?_
   apply hK;clear hK K
   refine AW.rg ?_
   simp only [push_cast, simprocAttr, c1, c2]
   refine Thn_n ?_
   have hwi : IntKind.i64.wrap ((i:Int)+1) = (i:Int)+1 := wi (by omega)
   refine ⟨i + 1, ⟨by omega, fun k hk => by
     rcases Nat.lt_or_ge k i with h | h
     · exact hok k h
     · obtain rfl : k = i := by omega
       exact hnow⟩, by omega, ?_⟩
   try simp only [keepL, setAll, push_cast, simprocAttr, c1, c2, hwi]
   exact Weak.same (by simp only [KS, simprocAttr, hwi]) (by first | rfl | simp only [KS, simprocAttr, hwi])
 ·have hie : i = n := by have := of_decide_eq_false h8; omega
  rw [alV_all fun k hk => hok k (by omega)] at hQ
  refine AW.exit ?_
  refine Thn_e ?_
  clear hK K
  refine Thn_e ?_
  refine InB_here ?_
  apply hK;clear hK K
  refine AW.sr 1 fun K hK => ?_
  simp only [push_cast, simprocAttr]
  apply hK;clear hK K
  refine AW.ret ?_
  refine hQ _ _ _ ?_
  first | refine RetP.drop0 (Or.inr rfl) ?_ ?_ hwf | refine RetP.drop (Or.inr rfl) ?_ ?_ hwf
  · simp only [resA, resOne, resTv, AV.tv, push_cast, simprocAttr]
  · rfl
theorem clo1_c (s : SC) (R : RWs) (b i : Nat) (m : AMem) (hR : ScR 107 75 119 112 117 m s R) (hb : m[b]? = some ⟨.fix, 70, 0, 0, scC s R⟩) (hi : i < s.np) : Ctr Tryz.prog 50 [.one (.int .i64 (i : Int)), .one (.ptr b 0 0)] m (.one (.bool (decide (PaR s i)))) m := by
 refine Ctr.enter Tryz.func50 rfl (by decide) (rs := [.tmp 3]) (nt := 10) rfl rfl fun hwf Q hQ => ?_
 have lb := get_lt hb
 obtain ⟨kr, er, hr⟩ := hR.hp
 have lr := get_lt hr
 have hn := hR.np
 have hb2 : m[b]? = some ⟨.fix, 70, 0, 0, [.int .i64 s.w, .int .i64 s.h, .int .i64 s.sm, .int .i64 s.dp, .int .i64 s.fr, .int .i64 s.sh, .int .u64 s.sd, .int .i64 (s.sk 0), .int .i64 (s.sk 1), .int .i64 (s.sk 2), .int .i64 s.ey, .int .i64 s.lk, .int .i64 s.wd, .sl R.p R.vp 0 s.np, .sl R.t R.vt 0 s.nt, .sl R.j R.vj 0 s.nj, .sl R.x R.vx 0 s.nx]⟩ := hb
 have rl : (catC s.np (pC s)).length = s.np * 5 := catC_len (w := 5) (F := pC s) (fun _ => rfl) _
 have hlt : i < s.np := hi
 have c1 : (0 : Int) ≤ (i : Int) := by omega
 have c2 : (i : Int) < (s.np : Int) := by omega
 have c3 : i * 5 + 5 ≤ s.np * 5 := by omega
 have ga := catC_at (w := 5) (F := pC s) (fun _ => rfl) hlt
 have gp : pC s i = [.int .i64 (s.pk i), .int .i64 (s.pc i 0), .int .i64 (s.pc i 1), .int .i64 (s.pc i 2), .int .i64 (s.pr i)] := rfl
 refine AW.sr 2 fun K hK => ?_
 have pk_1 : _ ∧ _ ∧ _ ∧ _ ∧ _ ∧ _ ∧ _ ∧ _ ∧ _ ∧ _ := ⟨hb2, lk_old hb2, hr, lk_old hr, c1, c2, c3, ga, hlt, gp⟩
 simp only [push_cast, simprocAttr, rl, pk_1]
 refine CThen.by (cpa_c s i _) ?_
 simp only [push_cast, simprocAttr, rl, pk_1]
 apply hK;clear hK K
 refine AW.ret ?_
 refine hQ _ _ _ ?_
 first | refine RetP.drop0 (Or.inr rfl) ?_ ?_ hwf | refine RetP.drop (Or.inr rfl) ?_ ?_ hwf
 · simp only [resA, resOne, resTv, AV.tv, push_cast, simprocAttr, rl, pk_1]
 · rfl
theorem clo2_c (s : SC) (R : RWs) (b i : Nat) (m : AMem) (hR : ScR 107 75 119 112 117 m s R) (hb : m[b]? = some ⟨.fix, 70, 0, 0, scC s R⟩) (hi : i < s.nt) : Ctr Tryz.prog 52 [.one (.int .i64 (i : Int)), .one (.ptr b 0 0)] m (.one (.bool (decide (TrS s i)))) m := by
 refine Ctr.enter Tryz.func52 rfl (by decide) (rs := [.tmp 3]) (nt := 10) rfl rfl fun hwf Q hQ => ?_
 have lb := get_lt hb
 obtain ⟨kr, er, hr⟩ := hR.ht
 have lr := get_lt hr
 have hn := hR.nt
 have hb2 : m[b]? = some ⟨.fix, 70, 0, 0, [.int .i64 s.w, .int .i64 s.h, .int .i64 s.sm, .int .i64 s.dp, .int .i64 s.fr, .int .i64 s.sh, .int .u64 s.sd, .int .i64 (s.sk 0), .int .i64 (s.sk 1), .int .i64 (s.sk 2), .int .i64 s.ey, .int .i64 s.lk, .int .i64 s.wd, .sl R.p R.vp 0 s.np, .sl R.t R.vt 0 s.nt, .sl R.j R.vj 0 s.nj, .sl R.x R.vx 0 s.nx]⟩ := hb
 have rl : (catC s.nt (tC s R)).length = s.nt * 2 := catC_len (w := 2) (F := tC s R) (fun _ => rfl) _
 have hlt : i < s.nt := hi
 have c1 : (0 : Int) ≤ (i : Int) := by omega
 have c2 : (i : Int) < (s.nt : Int) := by omega
 have c3 : i * 2 + 2 ≤ s.nt * 2 := by omega
 have ga := catC_at (w := 2) (F := tC s R) (fun _ => rfl) hlt
 obtain ⟨kk, ek, hky⟩ := hR.hk i hi
 have lky := get_lt hky
 have gp : tC s R i = [.int .i64 (s.tw i), .sl (R.k i) (R.vk i) 0 (s.kn i)] := rfl
 have gd : decide (TrS s i) = decide (TrR (s.tw i) (s.kn i) (s.kt i) (s.kv i)) := rfl
 rw [gd] at hQ
 refine AW.sr 2 fun K hK => ?_
 have pk_2 : _ ∧ _ ∧ _ ∧ _ ∧ _ ∧ _ ∧ _ ∧ _ ∧ _ ∧ _ := ⟨hb2, lk_old hb2, hr, lk_old hr, c1, c2, c3, ga, hlt, gp⟩
 simp only [push_cast, simprocAttr, rl, pk_2]
 refine CThen.by (ctrk_c (s.tw i) (R.k i) (R.vk i) (s.kn i) (s.kt i) (s.kv i) _ ⟨kk, ek, hky⟩) ?_
 simp only [push_cast, simprocAttr, rl, pk_2]
 apply hK;clear hK K
 refine AW.ret ?_
 refine hQ _ _ _ ?_
 first | refine RetP.drop0 (Or.inr rfl) ?_ ?_ hwf | refine RetP.drop (Or.inr rfl) ?_ ?_ hwf
 · simp only [resA, resOne, resTv, AV.tv, push_cast, simprocAttr, rl, pk_2]
 · rfl
theorem clo3_c (s : SC) (R : RWs) (b i : Nat) (m : AMem) (hR : ScR 107 75 119 112 117 m s R) (hb : m[b]? = some ⟨.fix, 70, 0, 0, scC s R⟩) (hi : i < s.nx) : Ctr Tryz.prog 55 [.one (.int .i64 (i : Int)), .one (.ptr b 0 0)] m (.one (.bool (decide (ShR s i)))) m := by
 refine Ctr.enter Tryz.func55 rfl (by decide) (rs := [.tmp 3]) (nt := 11) rfl rfl fun hwf Q hQ => ?_
 have lb := get_lt hb
 obtain ⟨kr, er, hr⟩ := hR.hx
 have lr := get_lt hr
 have hn := hR.nx
 have hb2 : m[b]? = some ⟨.fix, 70, 0, 0, [.int .i64 s.w, .int .i64 s.h, .int .i64 s.sm, .int .i64 s.dp, .int .i64 s.fr, .int .i64 s.sh, .int .u64 s.sd, .int .i64 (s.sk 0), .int .i64 (s.sk 1), .int .i64 (s.sk 2), .int .i64 s.ey, .int .i64 s.lk, .int .i64 s.wd, .sl R.p R.vp 0 s.np, .sl R.t R.vt 0 s.nt, .sl R.j R.vj 0 s.nj, .sl R.x R.vx 0 s.nx]⟩ := hb
 have rl : (catC s.nx (xC s)).length = s.nx * 13 := catC_len (w := 13) (F := xC s) (fun _ => rfl) _
 have hlt : i < s.nx := hi
 have c1 : (0 : Int) ≤ (i : Int) := by omega
 have c2 : (i : Int) < (s.nx : Int) := by omega
 have c3 : i * 13 + 13 ≤ s.nx * 13 := by omega
 have ga := catC_at (w := 13) (F := xC s) (fun _ => rfl) hlt
 have gp : xC s i = [.int .i64 (s.xj i), .int .i64 (s.xp i), .int .i64 (s.xk i), .int .i64 (s.xv i 0 0), .int .i64 (s.xv i 0 1), .int .i64 (s.xv i 0 2), .int .i64 (s.xv i 1 0), .int .i64 (s.xv i 1 1), .int .i64 (s.xv i 1 2), .int .i64 (s.xv i 2 0), .int .i64 (s.xv i 2 1), .int .i64 (s.xv i 2 2), .int .i64 (s.xr i)] := rfl
 refine AW.sr 1 fun K hK => ?_
 have pk_3 : _ ∧ _ ∧ _ ∧ _ ∧ _ ∧ _ ∧ _ ∧ _ ∧ _ ∧ _ := ⟨hb2, lk_old hb2, hr, lk_old hr, c1, c2, c3, ga, hlt, gp⟩
 simp only [push_cast, simprocAttr, rl, pk_3]
 apply hK;clear hK K
 refine AW.seq_k fun K hK => ?_
 refine AW.draw [.rd 0, .val, .rd 0, .val, .val, .rd 0, .ext, .val] fol (by decide) (by kernel_rfl) ?_
 simp only [push_cast, simprocAttr, rl, pk_3]
 refine DCall.by0 (csh_c s R i _ hR.nj hR.np) ?_
 simp only [push_cast, simprocAttr, rl, pk_3]
 apply hK;clear hK K
 refine AW.ret ?_
 refine hQ _ _ _ ?_
 first | refine RetP.drop0 (Or.inr rfl) ?_ ?_ hwf | refine RetP.drop (Or.inr rfl) ?_ ?_ hwf
 · simp only [resA, resOne, resTv, AV.tv, push_cast, simprocAttr, rl, pk_3]
 · rfl
theorem cchk_c (s : SC) (R : RWs) (m : AMem) (hR : ScR 107 75 119 112 117 m s R) : Ctr Tryz.prog 33 [.agg (scC s R)] m (.tup [(false, [.int .i64 (chkV s).1]), (false, [.int .i64 (chkV s).2])]) m := by
 refine Ctr.enter Tryz.func33 rfl (by decide) (rs := [.tmp 2, .tmp 3]) (nt := 71) rfl rfl fun hwf Q hQ => ?_
 obtain ⟨kp, ep, hp⟩ := hR.hp
 have lp := get_lt hp
 obtain ⟨kt, et, ht⟩ := hR.ht
 have lt := get_lt ht
 obtain ⟨kj, ej, hj⟩ := hR.hj
 have lj := get_lt hj
 obtain ⟨kx, ex, hx⟩ := hR.hx
 have lx := get_lt hx
 have np := hR.np
 have nt := hR.nt
 have nj := hR.nj
 have nx := hR.nx
 have pl : (catC s.np (pC s)).length = s.np * 5 := catC_len (w := 5) (F := pC s) (fun _ => rfl) _
 have tl : (catC s.nt (tC s R)).length = s.nt * 2 := catC_len (w := 2) (F := tC s R) (fun _ => rfl) _
 have jl : (catC s.nj (jC s)).length = s.nj * 4 := catC_len (w := 4) (F := jC s) (fun _ => rfl) _
 have xl : (catC s.nx (xC s)).length = s.nx * 13 := catC_len (w := 13) (F := xC s) (fun _ => rfl) _
 have hlt0 : ∀ k, ¬ m.length + k < m.length := fun k => by omega
 have hbox : ∀ i, pC s i = [.int .i64 (s.pk i), .int .i64 (s.pc i 0), .int .i64 (s.pc i 1), .int .i64 (s.pc i 2), .int .i64 (s.pr i)] := fun _ => rfl
 have hbt : ∀ i, tC s R i = [.int .i64 (s.tw i), .sl (R.k i) (R.vk i) 0 (s.kn i)] := fun _ => rfl
 have hbx : ∀ i, xC s i = [.int .i64 (s.xj i), .int .i64 (s.xp i), .int .i64 (s.xk i), .int .i64 (s.xv i 0 0), .int .i64 (s.xv i 0 1), .int .i64 (s.xv i 0 2), .int .i64 (s.xv i 1 0), .int .i64 (s.xv i 1 1), .int .i64 (s.xv i 1 2), .int .i64 (s.xv i 2 0), .int .i64 (s.xv i 2 1), .int .i64 (s.xv i 2 2), .int .i64 (s.xr i)] := fun _ => rfl
 have ill := fun l => iL_len l
 refine AW.sr 1 fun K hK => ?_
 simp only [push_cast, simprocAttr, ill, scC, hdC, tlC, c3C]
 apply hK;clear hK K
 refine AW.seq_k fun K hK => ?_
 refine AW.sr 1 fun K hK => ?_
 simp only [push_cast, simprocAttr, ill, scC, hdC, tlC, c3C]
 refine CThen.by (chd_c s _) ?_
 simp only [push_cast, simprocAttr, ill, scC, hdC, tlC, c3C]
 apply hK;clear hK K
 refine AW.cond rfl (fun h10 => ?_) (fun h10 => ?_)
 ·have hA : ¬ HdR s := by simpa using h10
  rw [show chkV s = (21, 0) from by unfold chkV; rw [if_pos hA]] at hQ
  refine AW.sr 1 fun K hK => ?_
  simp only [push_cast, simprocAttr, ill, scC, hdC, tlC, c3C]
  apply hK;clear hK K
  refine AW.ret ?_
  refine Thn_r ?_
  refine hQ _ _ _ ?_
  first | refine RetP.drop0 (Or.inr rfl) ?_ ?_ hwf | refine RetP.drop (Or.inr rfl) ?_ ?_ hwf
  · simp only [resA, resOne, resTv, AV.tv, push_cast, simprocAttr, ill, scC, hdC, tlC, c3C]
  · rfl
 ·have hA : ¬ ¬ HdR s := by simpa using h10
  refine AW.skip ?_
  apply hK;clear hK K
  refine AW.seq_k fun K hK => ?_
  refine AW.sr 1 fun K hK => ?_
  simp only [push_cast, simprocAttr, ill, scC, hdC, tlC, c3C]
  apply hK;clear hK K
  refine AW.block ?_
  refine AW.rounds 5 ?_
  refine ARounds.succ fun K hK => ?_
  refine AW.sr 1 fun K hK => ?_
  simp only [push_cast, simprocAttr, ill, scC, hdC, tlC, c3C]
  apply hK;clear hK K
  refine AW.ifT rfl ?_
  refine AW.seq_k fun K hK => ?_
  refine AW.block ?_
  refine AW.sr 1 fun K hK => ?_
  simp only [push_cast, simprocAttr, ill, scC, hdC, tlC, c3C]
  apply hK;clear hK K
  refine AW.seq_k fun K hK => ?_
  refine AW.sr 1 fun K hK => ?_
  simp only [push_cast, simprocAttr, ill, scC, hdC, tlC, c3C]
  apply hK;clear hK K
  refine AW.cond rfl (fun h42 => ?_) (fun h42 => ?_)
  ·have q1 : 32 < s.np := by have := of_decide_eq_true h42; omega
   rw [show chkV s = (22, 32) from by unfold chkV; rw [if_neg hA, if_pos q1]] at hQ
   refine AW.seq_k fun K hK => ?_
   refine AW.draw [.val, .rd 0, .val, .rd 0, .val, .val] fol (by decide) (by kernel_rfl) ?_
   simp only [push_cast, simprocAttr, ill, scC, hdC, tlC, c3C]
   apply hK;clear hK K
   refine AW.ret ?_
   refine Thn_r ?_
   refine InB_r ?_
   refine Thn_r ?_
   refine Thn_r ?_
   refine InB_r ?_
   refine Thn_r ?_
   refine hQ _ _ _ ?_
   first | refine RetP.drop0 (Or.inr rfl) ?_ ?_ hwf | refine RetP.drop (Or.inr rfl) ?_ ?_ hwf
   · simp only [resA, resOne, resTv, AV.tv, push_cast, simprocAttr, ill, scC, hdC, tlC, c3C]
   · rfl
  ·have h1 : ¬ 32 < s.np := by have := of_decide_eq_false h42; omega
   refine AW.skip ?_
   apply hK;clear hK K
   refine AW.sr 2 fun K hK => ?_
   simp only [push_cast, simprocAttr, ill, scC, hdC, tlC, c3C]
   refine CThen.by (allf_c s.np (fun i => decide (PaR s i)) _ hR.np _ _ (fun k hk => clo1_c s R m.length k _ (hR.app _) (by rw [lk_app0]; rfl) hk)) ?_
   simp only [push_cast, simprocAttr, ill, scC, hdC, tlC, c3C]
   apply hK;clear hK K
   refine AW.cond rfl (fun h53 => ?_) (fun h53 => ?_)
   ·have hneg := of_decide_eq_true h53
    have hlt : fbN (fun i => decide (PaR s i)) s.np < s.np := by
      rcases Nat.lt_or_ge (fbN (fun i => decide (PaR s i)) s.np) s.np with h | h
      · exact h
      · exfalso; unfold alV at hneg; rw [if_neg (by omega)] at hneg; omega
    have hal : alV (fun i => decide (PaR s i)) s.np = ((fbN (fun i => decide (PaR s i)) s.np : Nat) : Int) := by unfold alV; rw [if_pos hlt]
    rw [show chkV s = (22, alV (fun i => decide (PaR s i)) s.np) from by unfold chkV; rw [if_neg hA, if_neg h1, if_pos hlt, hal]] at hQ
    refine AW.sr 1 fun K hK => ?_
    simp only [push_cast, simprocAttr, ill, scC, hdC, tlC, c3C]
    apply hK;clear hK K
    refine AW.ret ?_
    refine InB_r ?_
    refine Thn_r ?_
    refine Thn_r ?_
    refine InB_r ?_
    refine Thn_r ?_
    refine hQ _ _ _ ?_
    first | refine RetP.drop0 (Or.inr rfl) ?_ ?_ hwf | refine RetP.drop (Or.inr rfl) ?_ ?_ hwf
    · simp only [resA, resOne, resTv, AV.tv, push_cast, simprocAttr, ill, scC, hdC, tlC, c3C]
    · rfl
   ·have hneg := of_decide_eq_false h53
    have f1 : ¬ fbN (fun i => decide (PaR s i)) s.np < s.np := fun h => by
      unfold alV at hneg; rw [if_pos h] at hneg; omega
    refine AW.skip ?_
    refine InB_n ?_
    apply hK;clear hK K
    refine AW.rg ?_
    simp only [push_cast, simprocAttr, ill, scC, hdC, tlC, c3C]
    apply hK;clear hK K
    refine ARounds.succ fun K hK => ?_
    refine AW.sr 1 fun K hK => ?_
    simp only [push_cast, simprocAttr, ill, scC, hdC, tlC, c3C]
    apply hK;clear hK K
    refine AW.ifT rfl ?_
    refine AW.seq_k fun K hK => ?_
    refine AW.block ?_
    refine AW.sr 1 fun K hK => ?_
    simp only [push_cast, simprocAttr, ill, scC, hdC, tlC, c3C]
    apply hK;clear hK K
    refine AW.seq_k fun K hK => ?_
    refine AW.sr 1 fun K hK => ?_
    simp only [push_cast, simprocAttr, ill, scC, hdC, tlC, c3C]
    apply hK;clear hK K
    refine AW.cond rfl (fun h42 => ?_) (fun h42 => ?_)
    ·have q2 : 32 < s.nt := by have := of_decide_eq_true h42; omega
     rw [show chkV s = (23, 32) from by unfold chkV; rw [if_neg hA, if_neg h1, if_neg f1, if_pos q2]] at hQ
     refine AW.seq_k fun K hK => ?_
     refine AW.draw [.val, .rd 0, .val, .rd 0, .val, .val] fol (by decide) (by kernel_rfl) ?_
     simp only [push_cast, simprocAttr, ill, scC, hdC, tlC, c3C]
     apply hK;clear hK K
     refine AW.ret ?_
     refine Thn_r ?_
     refine InB_r ?_
     refine Thn_r ?_
     refine Thn_r ?_
     refine InB_r ?_
     refine Thn_r ?_
     refine hQ _ _ _ ?_
     first | refine RetP.drop0 (Or.inr rfl) ?_ ?_ hwf | refine RetP.drop (Or.inr rfl) ?_ ?_ hwf
     · simp only [resA, resOne, resTv, AV.tv, push_cast, simprocAttr, ill, scC, hdC, tlC, c3C]
     · rfl
    ·have h2 : ¬ 32 < s.nt := by have := of_decide_eq_false h42; omega
     refine AW.skip ?_
     apply hK;clear hK K
     refine AW.sr 2 fun K hK => ?_
     simp only [push_cast, simprocAttr, ill, scC, hdC, tlC, c3C]
     refine CThen.by (allf_c s.nt (fun i => decide (TrS s i)) _ hR.nt _ _ (fun k hk => clo2_c s R m.length k _ (hR.app _) (by rw [lk_app0]; rfl) hk)) ?_
     simp only [push_cast, simprocAttr, ill, scC, hdC, tlC, c3C]
     apply hK;clear hK K
     refine AW.cond rfl (fun h53 => ?_) (fun h53 => ?_)
     ·have hneg := of_decide_eq_true h53
      have hlt : fbN (fun i => decide (TrS s i)) s.nt < s.nt := by
        rcases Nat.lt_or_ge (fbN (fun i => decide (TrS s i)) s.nt) s.nt with h | h
        · exact h
        · exfalso; unfold alV at hneg; rw [if_neg (by omega)] at hneg; omega
      have hal : alV (fun i => decide (TrS s i)) s.nt = ((fbN (fun i => decide (TrS s i)) s.nt : Nat) : Int) := by unfold alV; rw [if_pos hlt]
      rw [show chkV s = (23, alV (fun i => decide (TrS s i)) s.nt) from by unfold chkV; rw [if_neg hA, if_neg h1, if_neg f1, if_neg h2, if_pos hlt, hal]] at hQ
      refine AW.sr 1 fun K hK => ?_
      simp only [push_cast, simprocAttr, ill, scC, hdC, tlC, c3C]
      apply hK;clear hK K
      refine AW.ret ?_
      refine InB_r ?_
      refine Thn_r ?_
      refine Thn_r ?_
      refine InB_r ?_
      refine Thn_r ?_
      refine hQ _ _ _ ?_
      first | refine RetP.drop0 (Or.inr rfl) ?_ ?_ hwf | refine RetP.drop (Or.inr rfl) ?_ ?_ hwf
      · simp only [resA, resOne, resTv, AV.tv, push_cast, simprocAttr, ill, scC, hdC, tlC, c3C]
      · rfl
     ·have hneg := of_decide_eq_false h53
      have f2 : ¬ fbN (fun i => decide (TrS s i)) s.nt < s.nt := fun h => by
        unfold alV at hneg; rw [if_pos h] at hneg; omega
      refine AW.skip ?_
      refine InB_n ?_
      apply hK;clear hK K
      refine AW.rg ?_
      simp only [push_cast, simprocAttr, ill, scC, hdC, tlC, c3C]
      apply hK;clear hK K
      refine ARounds.succ fun K hK => ?_
      refine AW.sr 1 fun K hK => ?_
      simp only [push_cast, simprocAttr, ill, scC, hdC, tlC, c3C]
      apply hK;clear hK K
      refine AW.ifT rfl ?_
      refine AW.seq_k fun K hK => ?_
      refine AW.block ?_
      refine AW.sr 1 fun K hK => ?_
      simp only [push_cast, simprocAttr, ill, scC, hdC, tlC, c3C]
      apply hK;clear hK K
      refine AW.seq_k fun K hK => ?_
      refine AW.sr 1 fun K hK => ?_
      simp only [push_cast, simprocAttr, ill, scC, hdC, tlC, c3C]
      apply hK;clear hK K
      refine AW.cond rfl (fun h42 => ?_) (fun h42 => ?_)
      ·have q3 : 32 < s.nj := by have := of_decide_eq_true h42; omega
       rw [show chkV s = (24, 32) from by unfold chkV; rw [if_neg hA, if_neg h1, if_neg f1, if_neg h2, if_neg f2, if_pos q3]] at hQ
       refine AW.seq_k fun K hK => ?_
       refine AW.draw [.val, .rd 0, .val, .rd 0, .val, .val] fol (by decide) (by kernel_rfl) ?_
       simp only [push_cast, simprocAttr, ill, scC, hdC, tlC, c3C]
       apply hK;clear hK K
       refine AW.ret ?_
       refine Thn_r ?_
       refine InB_r ?_
       refine Thn_r ?_
       refine Thn_r ?_
       refine InB_r ?_
       refine Thn_r ?_
       refine hQ _ _ _ ?_
       first | refine RetP.drop0 (Or.inr rfl) ?_ ?_ hwf | refine RetP.drop (Or.inr rfl) ?_ ?_ hwf
       · simp only [resA, resOne, resTv, AV.tv, push_cast, simprocAttr, ill, scC, hdC, tlC, c3C]
       · rfl
      ·have h3 : ¬ 32 < s.nj := by have := of_decide_eq_false h42; omega
       refine AW.skip ?_
       apply hK;clear hK K
       refine AW.sr 2 fun K hK => ?_
       simp only [push_cast, simprocAttr, ill, scC, hdC, tlC, c3C]
       refine CThen.by (allb_c s.nj (fun i => decide (JoR s i)) _ hR.nj _ _ (fun k hk => cjo_c s R k _ hR.nt (by obtain ⟨k, e, h⟩ := hR.hj; exact ⟨k, e, lk_old h _⟩) hk hR.nj)) ?_
       simp only [push_cast, simprocAttr, ill, scC, hdC, tlC, c3C]
       apply hK;clear hK K
       refine AW.cond rfl (fun h53 => ?_) (fun h53 => ?_)
       ·have hneg := of_decide_eq_true h53
        have hlt : fbN (fun i => decide (JoR s i)) s.nj < s.nj := by
          rcases Nat.lt_or_ge (fbN (fun i => decide (JoR s i)) s.nj) s.nj with h | h
          · exact h
          · exfalso; unfold alV at hneg; rw [if_neg (by omega)] at hneg; omega
        have hal : alV (fun i => decide (JoR s i)) s.nj = ((fbN (fun i => decide (JoR s i)) s.nj : Nat) : Int) := by unfold alV; rw [if_pos hlt]
        rw [show chkV s = (24, alV (fun i => decide (JoR s i)) s.nj) from by unfold chkV; rw [if_neg hA, if_neg h1, if_neg f1, if_neg h2, if_neg f2, if_neg h3, if_pos hlt, hal]] at hQ
        refine AW.sr 1 fun K hK => ?_
        simp only [push_cast, simprocAttr, ill, scC, hdC, tlC, c3C]
        apply hK;clear hK K
        refine AW.ret ?_
        refine InB_r ?_
        refine Thn_r ?_
        refine Thn_r ?_
        refine InB_r ?_
        refine Thn_r ?_
        refine hQ _ _ _ ?_
        first | refine RetP.drop0 (Or.inr rfl) ?_ ?_ hwf | refine RetP.drop (Or.inr rfl) ?_ ?_ hwf
        · simp only [resA, resOne, resTv, AV.tv, push_cast, simprocAttr, ill, scC, hdC, tlC, c3C]
        · rfl
       ·have hneg := of_decide_eq_false h53
        have f3 : ¬ fbN (fun i => decide (JoR s i)) s.nj < s.nj := fun h => by
          unfold alV at hneg; rw [if_pos h] at hneg; omega
        refine AW.skip ?_
        refine InB_n ?_
        apply hK;clear hK K
        refine AW.rg ?_
        simp only [push_cast, simprocAttr, ill, scC, hdC, tlC, c3C]
        apply hK;clear hK K
        refine ARounds.succ fun K hK => ?_
        refine AW.sr 1 fun K hK => ?_
        simp only [push_cast, simprocAttr, ill, scC, hdC, tlC, c3C]
        apply hK;clear hK K
        refine AW.ifT rfl ?_
        refine AW.seq_k fun K hK => ?_
        refine AW.block ?_
        refine AW.sr 1 fun K hK => ?_
        simp only [push_cast, simprocAttr, ill, scC, hdC, tlC, c3C]
        apply hK;clear hK K
        refine AW.seq_k fun K hK => ?_
        refine AW.sr 1 fun K hK => ?_
        simp only [push_cast, simprocAttr, ill, scC, hdC, tlC, c3C]
        apply hK;clear hK K
        refine AW.cond rfl (fun h42 => ?_) (fun h42 => ?_)
        ·have q4 : 128 < s.nx := by have := of_decide_eq_true h42; omega
         rw [show chkV s = (25, 128) from by unfold chkV; rw [if_neg hA, if_neg h1, if_neg f1, if_neg h2, if_neg f2, if_neg h3, if_neg f3, if_pos q4]] at hQ
         refine AW.seq_k fun K hK => ?_
         refine AW.draw [.val, .rd 0, .val, .rd 0, .val, .val] fol (by decide) (by kernel_rfl) ?_
         simp only [push_cast, simprocAttr, ill, scC, hdC, tlC, c3C]
         apply hK;clear hK K
         refine AW.ret ?_
         refine Thn_r ?_
         refine InB_r ?_
         refine Thn_r ?_
         refine Thn_r ?_
         refine InB_r ?_
         refine Thn_r ?_
         refine hQ _ _ _ ?_
         first | refine RetP.drop0 (Or.inr rfl) ?_ ?_ hwf | refine RetP.drop (Or.inr rfl) ?_ ?_ hwf
         · simp only [resA, resOne, resTv, AV.tv, push_cast, simprocAttr, ill, scC, hdC, tlC, c3C]
         · rfl
        ·have h4 : ¬ 128 < s.nx := by have := of_decide_eq_false h42; omega
         refine AW.skip ?_
         apply hK;clear hK K
         refine AW.sr 2 fun K hK => ?_
         simp only [push_cast, simprocAttr, ill, scC, hdC, tlC, c3C]
         refine CThen.by (allf_c s.nx (fun i => decide (ShR s i)) _ hR.nx _ _ (fun k hk => clo3_c s R m.length k _ (hR.app _) (by rw [lk_app0]; rfl) hk)) ?_
         simp only [push_cast, simprocAttr, ill, scC, hdC, tlC, c3C]
         apply hK;clear hK K
         refine AW.cond rfl (fun h53 => ?_) (fun h53 => ?_)
         ·have hneg := of_decide_eq_true h53
          have hlt : fbN (fun i => decide (ShR s i)) s.nx < s.nx := by
            rcases Nat.lt_or_ge (fbN (fun i => decide (ShR s i)) s.nx) s.nx with h | h
            · exact h
            · exfalso; unfold alV at hneg; rw [if_neg (by omega)] at hneg; omega
          have hal : alV (fun i => decide (ShR s i)) s.nx = ((fbN (fun i => decide (ShR s i)) s.nx : Nat) : Int) := by unfold alV; rw [if_pos hlt]
          rw [show chkV s = (25, alV (fun i => decide (ShR s i)) s.nx) from by unfold chkV; rw [if_neg hA, if_neg h1, if_neg f1, if_neg h2, if_neg f2, if_neg h3, if_neg f3, if_neg h4, if_pos hlt, hal]] at hQ
          refine AW.sr 1 fun K hK => ?_
          simp only [push_cast, simprocAttr, ill, scC, hdC, tlC, c3C]
          apply hK;clear hK K
          refine AW.ret ?_
          refine InB_r ?_
          refine Thn_r ?_
          refine Thn_r ?_
          refine InB_r ?_
          refine Thn_r ?_
          refine hQ _ _ _ ?_
          first | refine RetP.drop0 (Or.inr rfl) ?_ ?_ hwf | refine RetP.drop (Or.inr rfl) ?_ ?_ hwf
          · simp only [resA, resOne, resTv, AV.tv, push_cast, simprocAttr, ill, scC, hdC, tlC, c3C]
          · rfl
         ·have hneg := of_decide_eq_false h53
          have f4 : ¬ fbN (fun i => decide (ShR s i)) s.nx < s.nx := fun h => by
            unfold alV at hneg; rw [if_pos h] at hneg; omega
          refine AW.skip ?_
          refine InB_n ?_
          apply hK;clear hK K
          refine AW.rg ?_
          simp only [push_cast, simprocAttr, ill, scC, hdC, tlC, c3C]
          apply hK;clear hK K
          refine ARounds.succ fun K hK => ?_
          refine AW.sr 1 fun K hK => ?_
          simp only [push_cast, simprocAttr, ill, scC, hdC, tlC, c3C]
          apply hK;clear hK K
          refine AW.seq_k fun K hK => ?_
          refine AW.cond_f rfl ?_
          refine AW.exit ?_
          refine Thn_e ?_
          clear hK K
          refine Thn_e ?_
          clear hK K
          refine InB_here ?_
          apply hK;clear hK K
          refine AW.seq_k fun K hK => ?_
          refine AW.block ?_
          refine AW.sr 1 fun K hK => ?_
          simp only [push_cast, simprocAttr, ill, scC, hdC, tlC, c3C]
          refine CThen.by (cle_c s R _ hR.nt) ?_
          simp only [push_cast, simprocAttr, ill, scC, hdC, tlC, c3C]
          apply hK;clear hK K
          refine AW.cond rfl (fun h58 => ?_) (fun h58 => ?_)
          ·have hL : ¬ LeR s := by simpa using h58
           rw [show chkV s = (26, 0) from by unfold chkV; rw [if_neg hA, if_neg h1, if_neg f1, if_neg h2, if_neg f2, if_neg h3, if_neg f3, if_neg h4, if_neg f4, if_pos hL]] at hQ
           refine AW.sr 1 fun K hK => ?_
           simp only [push_cast, simprocAttr, ill, scC, hdC, tlC, c3C]
           apply hK;clear hK K
           refine AW.ret ?_
           refine InB_r ?_
           refine Thn_r ?_
           refine hQ _ _ _ ?_
           first | refine RetP.drop0 (Or.inr rfl) ?_ ?_ hwf | refine RetP.drop (Or.inr rfl) ?_ ?_ hwf
           · simp only [resA, resOne, resTv, AV.tv, push_cast, simprocAttr, ill, scC, hdC, tlC, c3C]
           · rfl
          ·have hL : ¬ ¬ LeR s := by simpa using h58
           refine AW.sr 1 fun K hK => ?_
           simp only [push_cast, simprocAttr, ill, scC, hdC, tlC, c3C]
           refine CThen.by (cla_c s R _ (hR.app _)) ?_
           simp only [push_cast, simprocAttr, ill, scC, hdC, tlC, c3C]
           apply hK;clear hK K
           refine AW.cond rfl (fun h62 => ?_) (fun h62 => ?_)
           ·have hM : 16 < (outL (glB s) s.nx).length := by have := of_decide_eq_true h62; omega
            have g16 := iL_get _ 16 hM
            have c16 : (16 : Int) < ((outL (glB s) s.nx).length : Int) := by omega
            rw [show chkV s = (27, (outL (glB s) s.nx).getD 16 0) from by unfold chkV; rw [if_neg hA, if_neg h1, if_neg f1, if_neg h2, if_neg f2, if_neg h3, if_neg f3, if_neg h4, if_neg f4, if_neg hL, if_pos hM]] at hQ
            refine AW.seq_k fun K hK => ?_
            refine AW.draw [.rd 0, .ext, .val, .rd 1, .val, .val] fol (by decide) (by kernel_rfl) ?_
            have pk_1 : _ ∧ _ ∧ _ ∧ _ := ⟨ill, g16, c16, hM⟩
            simp only [push_cast, simprocAttr, scC, hdC, tlC, c3C, pk_1]
            refine DCall.by (cla_c s R _ (hR.app _)) ?_
            simp only [push_cast, simprocAttr, scC, hdC, tlC, c3C, pk_1]
            apply hK;clear hK K
            refine AW.ret ?_
            refine InB_r ?_
            refine Thn_r ?_
            refine hQ _ _ _ ?_
            first | refine RetP.drop0 (Or.inr rfl) ?_ ?_ hwf | refine RetP.drop (Or.inr rfl) ?_ ?_ hwf
            · simp only [resA, resOne, resTv, AV.tv, push_cast, simprocAttr, scC, hdC, tlC, c3C, pk_1]
            · rfl
           ·have hM : ¬ 16 < (outL (glB s) s.nx).length := by have := of_decide_eq_false h62; omega
            rw [show chkV s = (0, 0) from by unfold chkV; rw [if_neg hA, if_neg h1, if_neg f1, if_neg h2, if_neg f2, if_neg h3, if_neg f3, if_neg h4, if_neg f4, if_neg hL, if_neg hM]] at hQ
            refine AW.skip ?_
            refine InB_n ?_
            apply hK;clear hK K
            refine AW.sr 1 fun K hK => ?_
            simp only [push_cast, simprocAttr, ill, scC, hdC, tlC, c3C]
            apply hK;clear hK K
            refine AW.ret ?_
            refine hQ _ _ _ ?_
            first | refine RetP.drop0 (Or.inr rfl) ?_ ?_ hwf | refine RetP.drop (Or.inr rfl) ?_ ?_ hwf
            · simp only [resA, resOne, resTv, AV.tv, push_cast, simprocAttr, ill, scC, hdC, tlC, c3C]
            · rfl
theorem to02_c (f : Nat → Int) (m : AMem) : Ctr Tryz.prog 38 [.agg (c3C f)] m (.agg (c3C f)) m := by
 refine Ctr.enter Tryz.func38 rfl (by decide) (rs := [.cell 2 78]) (nt := 10) rfl rfl fun hwf Q hQ => ?_
 refine AW.sr 2 fun K hK => ?_
 simp only [push_cast, simprocAttr, c3C]
 apply hK;clear hK K
 refine AW.ret ?_
 refine hQ _ _ _ ?_
 first | refine RetP.drop0 (Or.inr rfl) ?_ ?_ hwf | refine RetP.drop (Or.inr rfl) ?_ ?_ hwf
 · simp only [resA, resOne, resTv, AV.tv, push_cast, simprocAttr, c3C]
 · rfl
theorem to05_c (f : Nat → Int) (m : AMem) : Ctr Tryz.prog 36 [.agg (c3C f)] m (.agg (c3C f)) m := by
 refine Ctr.enter Tryz.func36 rfl (by decide) (rs := [.cell 2 60]) (nt := 10) rfl rfl fun hwf Q hQ => ?_
 refine AW.sr 2 fun K hK => ?_
 simp only [push_cast, simprocAttr, c3C]
 apply hK;clear hK K
 refine AW.ret ?_
 refine hQ _ _ _ ?_
 first | refine RetP.drop0 (Or.inr rfl) ?_ ?_ hwf | refine RetP.drop (Or.inr rfl) ?_ ?_ hwf
 · simp only [resA, resOne, resTv, AV.tv, push_cast, simprocAttr, c3C]
 · rfl
theorem keC_vals (T : Nat → Int) (V : Nat → Nat → Int) (n : Nat) : (catC n (keC T V)).all CV.isVal = true := catC_all _ (fun _ => rfl) n
theorem keC_below (T : Nat → Int) (V : Nat → Nat → Int) (L n : Nat) : (catC n (keC T V)).all (CV.below L) = true := catC_all _ (fun _ => rfl) n
theorem keys_c (r v n : Nat) (T : Nat → Int) (V : Nat → Nat → Int) (m : AMem) (hr : ∃ k e, m[r]? = some ⟨k, 128, v, e, catC n (keC T V)⟩) (hn : n ≤ 1000000000000) : Ctr Tryz.prog 63 [.one (.sl r v 0 n)] m (.one (.sl m.length 0 0 n)) (m ++ [⟨.grow, 119, 0, 4, catC (n) (keC T V)⟩]) := by
 refine Ctr.enter Tryz.func63 rfl (by decide) (rs := [.tmp 2]) (nt := 23) rfl rfl fun hwf Q hQ => ?_
 obtain ⟨kk, ek, hr⟩ := hr
 have lr := get_lt hr
 have gl : (catC n (keC T V)).length = n * 4 := catC_len (w := 4) (F := keC T V) (fun _ => rfl) n
 have hlt0 : ∀ k, ¬ m.length + k < m.length := fun k => by omega
 refine AW.sr 2 fun K hK => ?_
 simp only [push_cast, simprocAttr, hr, lk_old hr, gl, keC_vals]
 apply hK;clear hK K
 refine AW.seq_k fun K hK => ?_
 refine AW.sr 1 fun K hK => ?_
 simp only [push_cast, simprocAttr, hr, lk_old hr, gl, keC_vals]
 apply hK;clear hK K
 refine AW.block ?_
 refine AW.nilTm 119 4 3 rfl ?_
 try simp only [push_cast, simprocAttr, hr, lk_old hr, gl, keC_vals]
 refine AW.loopK [6, 7] (fun i => i ≤ n) (fun i => [(3, .one (.sl m.length i 0 i)), (8, .one (.int .i64 (i : Int)))]) (fun i => [(m.length, ⟨.grow, 119, i, 4, catC (i) (keC T V)⟩)]) (fun i => n - i) 0 (by omega) ?_ ?_ fun i hi2 => ?_
 · first | rfl | (simp only [KS, simprocAttr, catC, Int.natCast_zero] <;> repeat' (first | rfl | apply And.intro))
 · simp only [setAll, push_cast, simprocAttr, catC] <;> rfl
 try simp only [keepL, setAll, push_cast, simprocAttr, hr, lk_old hr, gl, keC_vals]
 refine AW.sr 1 fun K hK => ?_
 simp only [push_cast, simprocAttr, hr, lk_old hr, gl, keC_vals]
 apply hK;clear hK K
 refine AW.seq_k fun K hK => ?_
 refine AW.cond rfl (fun h9 => ?_) (fun h9 => ?_)
 ·have hlt : i < n := by have := of_decide_eq_true h9; omega
  have c1 : (0 : Int) ≤ (i : Int) := by omega
  have c2 : (i : Int) < (n : Int) := by omega
  have c3 : i * 4 + 4 ≤ n * 4 := by omega
  have ga := catC_at (w := 4) (F := keC T V) (fun _ => rfl) hlt
  have gk : keC T V i = [.int .i64 (T i), .int .i64 (V i 0), .int .i64 (V i 1), .int .i64 (V i 2)] := rfl
  have gv : c3C (V i) = [.int .i64 (V i 0), .int .i64 (V i 1), .int .i64 (V i 2)] := rfl
  have gli : (catC i (keC T V)).length = i * 4 := catC_len (w := 4) (F := keC T V) (fun _ => rfl) i
  have q1 : i ≤ 140737488355327 := by omega
  have q2 : (i + 1) * 32 ≤ 140737488355328 := by omega
  have hap : catC i (keC T V) ++ [.int .i64 (T i), .int .i64 (V i 0), .int .i64 (V i 1), .int .i64 (V i 2)] = catC (i + 1) (keC T V) := rfl
  refine AW.skip ?_
  apply hK;clear hK K
  refine AW.seq_k fun K hK => ?_
  refine AW.block ?_
  refine AW.sr 1 fun K hK => ?_
  have pk_1 : _ ∧ _ ∧ _ ∧ _ ∧ _ ∧ _ ∧ _ ∧ _ ∧ _ ∧ _ ∧ _ ∧ _ := ⟨hr, lk_old hr, gl, c1, c2, c3, ga, gk, gli, q1, q2, hlt⟩
  simp only [push_cast, simprocAttr, keC_vals, pk_1]
  apply hK;clear hK K
  refine AW.draw [.val, .val, .rd 0, .val, .rd 0, .ext, .val, .ext, .wr, .val] fol (by decide) (by kernel_rfl) ?_
  simp only [push_cast, simprocAttr, keC_vals, pk_1]
  refine DCall.by0 ((by have h := fun M => to02_c (V i) M; rw [gv] at h; exact h _)) ?_
  simp only [push_cast, simprocAttr, keC_vals, pk_1]
  refine DExt.by (by first | rfl | exact (List.append_nil _).symm | (simp only [List.append_assoc, List.cons_append, List.nil_append]; rfl)) ?_
  simp only [push_cast, simprocAttr, keC_vals, pk_1]
  refine InB_n ?_
  apply hK;clear hK K
  refine AW.rg ?_
  simp only [push_cast, simprocAttr, keC_vals, pk_1]
  refine Thn_n ?_
  have hwi : IntKind.i64.wrap ((i:Int)+1) = (i:Int)+1 := wi (by omega)
  refine ⟨i + 1, by omega, by omega, ?_⟩
  try simp only [keepL, setAll, push_cast, simprocAttr, keC_vals, pk_1, hwi, hap]
  exact Weak.to (extra := [_, _]) (by simp only [KS, simprocAttr, hwi, hap]) (by first | rfl | (simp only [List.append_assoc, List.cons_append, List.nil_append]; rfl)) (by first | rfl | (simp [AV.below, CV.below]; done) | (simp [AV.below, CV.below]; omega)) (by first | exact hwf | exact MWf.app (hwf.grow (by simp)) (MWf_cons (keC_below _ _ _ _) MWf_nil))
 ·have hin : i = n := by have := of_decide_eq_false h9; omega
  rw [hin]
  refine AW.exit ?_
  refine Thn_e ?_
  clear hK K
  refine Thn_e ?_
  refine InB_here ?_
  apply hK;clear hK K
  refine AW.sr 1 fun K hK => ?_
  simp only [push_cast, simprocAttr, hr, lk_old hr, gl, keC_vals]
  apply hK;clear hK K
  refine AW.ret ?_
  refine hQ _ _ _ ?_
  refine RetP.pick [(m.length, n)] (by first | exact Or.inr rfl | exact Or.inl rfl) ?_ ?_ ?_ hwf ?_
  · simp only [resA, resOne, resTv, AV.tv, push_cast, simprocAttr]
    simp [renV, renT, renL, renC, renIdx, hlt0]
  · simp only [picks, push_cast, simprocAttr]
  · simp [distinctFrom]
  · exact MWf_cons (keC_below _ _ _ _) MWf_nil
theorem to06_c (w : Int) (r v n : Nat) (T : Nat → Int) (V : Nat → Nat → Int) (m : AMem) (hr : ∃ k e, m[r]? = some ⟨k, 128, v, e, catC n (keC T V)⟩) (hn : n ≤ 1000000000000) : Ctr Tryz.prog 37 [.agg [.int .i64 w, .sl r v 0 n]] m (.agg [.int .i64 w, .sl m.length 0 0 n]) (m ++ [⟨.grow, 119, 0, 4, catC (n) (keC T V)⟩]) := by
 refine Ctr.enter Tryz.func37 rfl (by decide) (rs := [.cell 2 75]) (nt := 9) rfl rfl fun hwf Q hQ => ?_
 obtain ⟨kk, ek, hr⟩ := hr
 have lr := get_lt hr
 have gl : (catC n (keC T V)).length = n * 4 := catC_len (w := 4) (F := keC T V) (fun _ => rfl) n
 have hlt0 : ∀ k, ¬ m.length + k < m.length := fun k => by omega
 refine AW.sr 1 fun K hK => ?_
 simp only [push_cast, simprocAttr, hr, lk_old hr, gl]
 apply hK;clear hK K
 refine AW.seq_k fun K hK => ?_
 refine AW.draw [.val, .rd 0, .val, .rd 0, .ext, .val, .wr] fol (by decide) (by kernel_rfl) ?_
 simp only [push_cast, simprocAttr, hr, lk_old hr, gl]
 refine DCall.by (keys_c r v n T V _ ⟨kk, ek, lk_old hr _⟩ hn) ?_
 simp only [push_cast, simprocAttr, hr, lk_old hr, gl]
 apply hK;clear hK K
 refine AW.ret ?_
 refine hQ _ _ _ ?_
 refine RetP.pick [(m.length + 2, 0)] (by first | exact Or.inr rfl | exact Or.inl rfl) ?_ ?_ ?_ hwf ?_
 · simp only [resA, resOne, resTv, AV.tv, push_cast, simprocAttr]
   simp [renV, renT, renL, renC, renIdx, hlt0]
 · simp only [picks, push_cast, simprocAttr]
 · simp [distinctFrom]
 · exact MWf_cons (keC_below _ _ _ _) MWf_nil
def SmR (s : SC) : Prop := (∀ i, i < s.nt → s.kn i ≤ 40) ∧ s.np ≤ 60 ∧ s.nt ≤ 60 ∧ s.nj ≤ 60 ∧ s.nx ≤ 200
instance (s : SC) : Decidable (SmR s) := by unfold SmR; exact inferInstance
theorem rsm_c (s : SC) (R : RWs) (m : AMem) (hR : ScR 89 93 128 110 99 m s R) : Ctr Tryz.prog 15 [.agg (scC s R)] m (.one (.bool (decide (SmR s)))) m := by
 refine Ctr.enter Tryz.func15 rfl (by decide) (rs := [.tmp 2]) (nt := 39) rfl rfl fun hwf Q hQ => ?_
 obtain ⟨kp, ep, hp⟩ := hR.hp
 have lp := get_lt hp
 obtain ⟨kt, et, ht⟩ := hR.ht
 have lt := get_lt ht
 obtain ⟨kj, ej, hj⟩ := hR.hj
 have lj := get_lt hj
 obtain ⟨kx, ex, hx⟩ := hR.hx
 have lx := get_lt hx
 have np := hR.np
 have nt := hR.nt
 have nj := hR.nj
 have nx := hR.nx
 have pl : (catC s.np (pC s)).length = s.np * 5 := catC_len (w := 5) (F := pC s) (fun _ => rfl) _
 have tl : (catC s.nt (tC s R)).length = s.nt * 2 := catC_len (w := 2) (F := tC s R) (fun _ => rfl) _
 have jl : (catC s.nj (jC s)).length = s.nj * 4 := catC_len (w := 4) (F := jC s) (fun _ => rfl) _
 have xl : (catC s.nx (xC s)).length = s.nx * 13 := catC_len (w := 13) (F := xC s) (fun _ => rfl) _
 have hlt0 : ∀ k, ¬ m.length + k < m.length := fun k => by omega
 have hbox : ∀ i, pC s i = [.int .i64 (s.pk i), .int .i64 (s.pc i 0), .int .i64 (s.pc i 1), .int .i64 (s.pc i 2), .int .i64 (s.pr i)] := fun _ => rfl
 have hbt : ∀ i, tC s R i = [.int .i64 (s.tw i), .sl (R.k i) (R.vk i) 0 (s.kn i)] := fun _ => rfl
 have hbx : ∀ i, xC s i = [.int .i64 (s.xj i), .int .i64 (s.xp i), .int .i64 (s.xk i), .int .i64 (s.xv i 0 0), .int .i64 (s.xv i 0 1), .int .i64 (s.xv i 0 2), .int .i64 (s.xv i 1 0), .int .i64 (s.xv i 1 1), .int .i64 (s.xv i 1 2), .int .i64 (s.xv i 2 0), .int .i64 (s.xv i 2 1), .int .i64 (s.xv i 2 2), .int .i64 (s.xr i)] := fun _ => rfl
 have ill := fun l => iL_len l
 refine AW.sr 1 fun K hK => ?_
 have pk_2 : _ ∧ _ ∧ _ ∧ _ ∧ _ ∧ _ ∧ _ ∧ _ ∧ _ ∧ _ ∧ _ ∧ _ ∧ _ := ⟨hp, lk_old hp, ht, lk_old ht, hj, lk_old hj, hx, lk_old hx, pl, tl, jl, xl, ill⟩
 simp only [push_cast, simprocAttr, scC, hdC, tlC, c3C, pk_2]
 apply hK;clear hK K
 refine AW.seq_k fun K hK => ?_
 refine AW.sr 1 fun K hK => ?_
 simp only [push_cast, simprocAttr, scC, hdC, tlC, c3C, pk_2]
 apply hK;clear hK K
 refine AW.block ?_
 refine AW.loopK [1, 6, 7] (fun i => i ≤ s.nt ∧ ∀ k, k < i → s.kn k ≤ 40) (fun i => [(8, .one (.int .i64 (i : Int)))]) (fun i => []) (fun i => s.nt - i) 0 ⟨by omega, fun k hk => by omega⟩ ?_ ?_ fun i hi2 => ?_
 · first | rfl | (simp only [KS, simprocAttr, Int.natCast_zero] <;> repeat' (first | rfl | apply And.intro))
 · first | rfl | (simp only [setAll, push_cast, simprocAttr, scC, hdC, tlC, c3C, pk_2, Int.natCast_zero] <;> rfl)
 obtain ⟨hin, hok0⟩ := hi2
 have hok := hok0
 try simp only [keepL, setAll, push_cast, simprocAttr, scC, hdC, tlC, c3C, pk_2]
 refine AW.sr 1 fun K hK => ?_
 simp only [push_cast, simprocAttr, scC, hdC, tlC, c3C, pk_2]
 apply hK;clear hK K
 refine AW.seq_k fun K hK => ?_
 refine AW.cond rfl (fun h9 => ?_) (fun h9 => ?_)
 ·have hlt : i < s.nt := by have := of_decide_eq_true h9; omega
  have c1 : (0 : Int) ≤ (i : Int) := by omega
  have c2 : (i : Int) < (s.nt : Int) := by omega
  have c3 : i * 2 + 2 ≤ s.nt * 2 := by omega
  have ga := catC_at (w := 2) (F := tC s R) (fun _ => rfl) hlt
  refine AW.skip ?_
  apply hK;clear hK K
  refine AW.seq_k fun K hK => ?_
  refine AW.block ?_
  refine AW.sr 2 fun K hK => ?_
  have pk_3 : _ ∧ _ ∧ _ ∧ _ ∧ _ ∧ _ := ⟨pk_2, c1, c2, c3, ga, hbt⟩
  simp only [push_cast, simprocAttr, scC, hdC, tlC, c3C, pk_3]
  apply hK;clear hK K
  refine AW.cond rfl (fun h15 => ?_) (fun h15 => ?_)
  ·have h40 := of_decide_eq_true h15
   rw [show decide (SmR s) = false from decide_eq_false fun h => by have := h.1 i hlt; omega] at hQ
   refine AW.sr 1 fun K hK => ?_
   simp only [push_cast, simprocAttr, scC, hdC, tlC, c3C, pk_3]
   apply hK;clear hK K
   refine AW.ret ?_
   refine InB_r ?_
   refine Thn_r ?_
   refine Thn_r ?_
   refine InB_r ?_
   refine Thn_r ?_
   refine hQ _ _ _ ?_
   first | refine RetP.drop0 (Or.inr rfl) ?_ ?_ hwf | refine RetP.drop (Or.inr rfl) ?_ ?_ hwf
   · simp only [resA, resOne, resTv, AV.tv, push_cast, simprocAttr, scC, hdC, tlC, c3C, pk_3]
   · rfl
  ·have hnow : s.kn i ≤ 40 := by have := of_decide_eq_false h15; omega
   refine AW.skip ?_
   refine InB_n ?_
   apply hK;clear hK K
   refine AW.rg ?_
   simp only [push_cast, simprocAttr, scC, hdC, tlC, c3C, pk_3]
   refine Thn_n ?_
   have hwi : IntKind.i64.wrap ((i:Int)+1) = (i:Int)+1 := wi (by omega)
   refine ⟨i + 1, ⟨by omega, fun k hk => by
     rcases Nat.lt_or_ge k i with h | h
     · exact hok k h
     · obtain rfl : k = i := by omega
       exact hnow⟩, by omega, ?_⟩
   try simp only [keepL, setAll, push_cast, simprocAttr, scC, hdC, tlC, c3C, pk_3, hwi]
   first
    | exact Weak.same (by simp only [KS, simprocAttr, hwi]) (by first | rfl | simp only [KS, simprocAttr, hwi])
    | exact Weak.to (extra := [_]) (by simp only [KS, simprocAttr, hwi]) (by first | rfl | (simp only [List.append_assoc, List.cons_append, List.nil_append]; rfl)) (by first | rfl | (simp [AV.below, CV.below]; done) | (simp [AV.below, CV.below]; omega)) (by
       first | exact hwf | refine MWf.app (hwf.grow (by simp)) ?_
       repeat (first | exact MWf_nil | (refine MWf_cons ?_ ?_; · first | rfl | (simp [CV.below]; done) | (simp [CV.below]; omega))))
 ·have hie : i = s.nt := by have := of_decide_eq_false h9; omega
  rw [hie] at hok
  refine AW.exit ?_
  refine Thn_e ?_
  clear hK K
  refine Thn_e ?_
  refine InB_here ?_
  apply hK;clear hK K
  refine AW.seq_k fun K hK => ?_
  have hk : (¬ (s.np : Int) ≤ 60) ∨ ((s.np : Int) ≤ 60 ∧ ¬ (s.nt : Int) ≤ 60) ∨ ((s.np : Int) ≤ 60 ∧ (s.nt : Int) ≤ 60 ∧ ¬ (s.nj : Int) ≤ 60) ∨ ((s.np : Int) ≤ 60 ∧ (s.nt : Int) ≤ 60 ∧ (s.nj : Int) ≤ 60 ∧ ¬ (s.nx : Int) ≤ 200) ∨ ((s.np : Int) ≤ 60 ∧ (s.nt : Int) ≤ 60 ∧ (s.nj : Int) ≤ 60 ∧ (s.nx : Int) ≤ 200) := by omega
  rcases hk with g1 | ⟨g1, g2⟩ | ⟨g1, g2, g3⟩ | ⟨g1, g2, g3, g4⟩ | ⟨g1, g2, g3, g4⟩
  ·rw [show decide (SmR s) = false from decide_eq_false fun h => by obtain ⟨_, z1, z2, z3, z4⟩ := h; omega] at hQ
   refine AW.rg ?_
   simp only [push_cast, simprocAttr, scC, hdC, tlC, c3C, pk_2, g1]
   apply hK;clear hK K
   refine AW.ret ?_
   refine hQ _ _ _ ?_
   first | refine RetP.drop0 (Or.inr rfl) ?_ ?_ hwf | refine RetP.drop (Or.inr rfl) ?_ ?_ hwf
   · simp only [resA, resOne, resTv, AV.tv, push_cast, simprocAttr, scC, hdC, tlC, c3C, pk_2, g1]
   · rfl
  ·rw [show decide (SmR s) = false from decide_eq_false fun h => by obtain ⟨_, z1, z2, z3, z4⟩ := h; omega] at hQ
   refine AW.rg ?_
   simp only [push_cast, simprocAttr, scC, hdC, tlC, c3C, pk_2, g1, g2]
   apply hK;clear hK K
   refine AW.ret ?_
   refine hQ _ _ _ ?_
   first | refine RetP.drop0 (Or.inr rfl) ?_ ?_ hwf | refine RetP.drop (Or.inr rfl) ?_ ?_ hwf
   · simp only [resA, resOne, resTv, AV.tv, push_cast, simprocAttr, scC, hdC, tlC, c3C, pk_2, g1, g2]
   · rfl
  ·rw [show decide (SmR s) = false from decide_eq_false fun h => by obtain ⟨_, z1, z2, z3, z4⟩ := h; omega] at hQ
   refine AW.rg ?_
   simp only [push_cast, simprocAttr, scC, hdC, tlC, c3C, pk_2, g1, g2, g3]
   apply hK;clear hK K
   refine AW.ret ?_
   refine hQ _ _ _ ?_
   first | refine RetP.drop0 (Or.inr rfl) ?_ ?_ hwf | refine RetP.drop (Or.inr rfl) ?_ ?_ hwf
   · simp only [resA, resOne, resTv, AV.tv, push_cast, simprocAttr, scC, hdC, tlC, c3C, pk_2, g1, g2, g3]
   · rfl
  ·rw [show decide (SmR s) = false from decide_eq_false fun h => by obtain ⟨_, z1, z2, z3, z4⟩ := h; omega] at hQ
   refine AW.rg ?_
   have pk_4 : _ ∧ _ ∧ _ ∧ _ ∧ _ := ⟨pk_2, g1, g2, g3, g4⟩
   simp only [push_cast, simprocAttr, scC, hdC, tlC, c3C, pk_4]
   apply hK;clear hK K
   refine AW.ret ?_
   refine hQ _ _ _ ?_
   first | refine RetP.drop0 (Or.inr rfl) ?_ ?_ hwf | refine RetP.drop (Or.inr rfl) ?_ ?_ hwf
   · simp only [resA, resOne, resTv, AV.tv, push_cast, simprocAttr, scC, hdC, tlC, c3C, pk_4]
   · rfl
  ·rw [show decide (SmR s) = true from decide_eq_true ⟨hok, by omega, by omega, by omega, by omega⟩] at hQ
   refine AW.rg ?_
   have pk_5 : _ ∧ _ ∧ _ ∧ _ ∧ _ := ⟨pk_2, g1, g2, g3, g4⟩
   simp only [push_cast, simprocAttr, scC, hdC, tlC, c3C, pk_5]
   apply hK;clear hK K
   refine AW.ret ?_
   refine hQ _ _ _ ?_
   first | refine RetP.drop0 (Or.inr rfl) ?_ ?_ hwf | refine RetP.drop (Or.inr rfl) ?_ ?_ hwf
   · simp only [resA, resOne, resTv, AV.tv, push_cast, simprocAttr, scC, hdC, tlC, c3C, pk_5]
   · rfl
def toR (s : SC) (L : Nat) : RWs := ⟨L + 4, s.np, L + 5, s.nt, L + 6, s.nj, L + 7, s.nx, fun i => L + (3 * i + 9), fun _ => 0⟩
def tkB (s : SC) (R : RWs) (L : Nat) : Nat → AMem
 | 0 => []
 | i + 1 => tkB s R L i ++ [⟨.fix, 93, 0, 0, tC s R i⟩, ⟨.grow, 119, 0, 4, catC (s.kn i) (kC s i)⟩, ⟨.grow, 75, 0, 2, tC s (toR s L) i⟩]
theorem tkB_len (s : SC) (R : RWs) (L : Nat) : ∀ i, (tkB s R L i).length = 3 * i
 | 0 => rfl
 | i + 1 => by simp only [tkB, List.length_append, tkB_len s R L i, List.length_cons, List.length_nil]; omega
theorem catC_allN {F : Nat → List CV} (p : CV → Bool) : ∀ n, (∀ k, k < n → (F k).all p = true) → (catC n F).all p = true
 | 0, _ => rfl
 | n + 1, h => by
  show (catC n F ++ F n).all p = true
  rw [List.all_append, catC_allN p n fun k hk => h k (by omega), h n (by omega)]; rfl
theorem tkB_wf {m : AMem} {s : SC} {R : RWs} (hR : ScR 89 93 128 110 99 m s R) (L : Nat) : ∀ n, n ≤ s.nt → m.length + 8 + 3 * n ≤ L → MWf L (tkB s R m.length n)
 | 0, _, _ => MWf_nil
 | n + 1, h1, h2 => MWf.app (tkB_wf hR L n (by omega) (by omega)) (by
  obtain ⟨k, e, hk⟩ := hR.hk n (by omega)
  have := get_lt hk
  refine MWf_cons ?_ (MWf_cons ?_ (MWf_cons ?_ MWf_nil))
  ·simp [tC, CV.below]; omega
  ·exact catC_all _ (fun _ => rfl) _
  ·simp [tC, toR, CV.below]; omega)
theorem tkB_g (s : SC) (R : RWs) (M n k : Nat) (L : AMem) : (tkB s R M n ++ L)[3 * n + k]? = L[k]? := by
 rw [List.getElem?_append_right (by rw [tkB_len]; omega), tkB_len]; congr 1; omega
theorem tkB_s (s : SC) (R : RWs) (M n : Nat) (b c : Blk) (L : AMem) : (tkB s R M n ++ b :: L).set (3 * n) c = tkB s R M n ++ c :: L := by
 rw [List.set_append_right _ _ (by rw [tkB_len]; omega), tkB_len, Nat.sub_self]; rfl
theorem RetP.keep {P : Program} {tm : Tm} {mem : AMem} {L : Nat} {rs : List ResultVar} {ret : AV} {ex : Exit} (hex : ex = .normal ∨ ex = .ret) (hres : resA P rs tm mem = some ret) : RetP P rs L ret mem ex tm mem :=
 ⟨hex, ret, hres, fun ρ v w hv hm => ⟨ρ, hv, hm, fun _ _ _ _ h => h⟩⟩
theorem tkB_get (s : SC) (R : RWs) (L : Nat) : ∀ {n i : Nat}, i < n → (tkB s R L n)[3 * i + 1]? = some ⟨.grow, 119, 0, 4, catC (s.kn i) (kC s i)⟩
 | n + 1, i, h => by
  unfold tkB
  rcases Nat.lt_or_ge i n with q | q
  ·rw [List.getElem?_append_left (by rw [tkB_len]; omega)]; exact tkB_get s R L q
  ·obtain rfl : i = n := by omega
   rw [List.getElem?_append_right (by rw [tkB_len]; omega), tkB_len]
   rw [show 3 * i + 1 - 3 * i = 1 by omega]; rfl
theorem to_wf {m : AMem} {s : SC} {R : RWs} (hR : ScR 89 93 128 110 99 m s R) (hwf : MWf m.length m) (res : List CV) (hres : ∀ L, res.all (CV.below L) = true) (a b c d n L : Nat) (hn : n ≤ s.nt) (hb : b ≤ n) (hL : m.length + 8 + 3 * n ≤ L) : MWf L (m ++ (⟨.fix, 51, 0, 0, scC s R⟩ :: ⟨.fix, 70, 0, 0, res⟩ :: ⟨.fix, 45, 0, 0, hdC s⟩ :: ⟨.fix, 70, 0, 0, [.int .i64 s.w, .int .i64 s.h, .int .i64 s.sm, .int .i64 s.dp, .int .i64 s.fr, .int .i64 s.sh, .int .u64 s.sd, .int .i64 (s.sk 0), .int .i64 (s.sk 1), .int .i64 (s.sk 2), .int .i64 s.ey, .int .i64 s.lk, .int .i64 s.wd, .sl (m.length + 4) (a) 0 (a), .sl (m.length + 5) (b) 0 (b), .sl (m.length + 6) (c) 0 (c), .sl (m.length + 7) (d) 0 (d)]⟩ :: ⟨.grow, 107, a, 5, catC (a) (pC s)⟩ :: ⟨.grow, 75, b, 2, catC (b) (tC s (toR s m.length))⟩ :: ⟨.grow, 112, c, 4, catC (c) (jC s)⟩ :: ⟨.grow, 117, d, 13, catC (d) (xC s)⟩ :: tkB s R m.length n)) := by
 refine MWf.app (hwf.grow (by omega)) (MWf_cons (hR.bel L (by omega)) (MWf_cons (hres L) (MWf_cons rfl (MWf_cons ?_ (MWf_cons ?_ (MWf_cons ?_ (MWf_cons ?_ (MWf_cons ?_ (tkB_wf hR L n hn hL)))))))))
 ·simp [CV.below]; omega
 ·exact catC_all _ (fun _ => rfl) _
 ·refine catC_allN _ _ fun k hk => ?_
  simp [tC, toR, CV.below]; omega
 ·exact catC_all _ (fun _ => rfl) _
 ·exact catC_all _ (fun _ => rfl) _
def toB (s : SC) (R : RWs) (m : AMem) : AMem := ⟨.fix, 51, 0, 0, scC s R⟩ :: ⟨.fix, 70, 0, 0, scC s (toR s m.length)⟩ :: ⟨.fix, 45, 0, 0, hdC s⟩ :: ⟨.fix, 70, 0, 0, [.int .i64 s.w, .int .i64 s.h, .int .i64 s.sm, .int .i64 s.dp, .int .i64 s.fr, .int .i64 s.sh, .int .u64 s.sd, .int .i64 (s.sk 0), .int .i64 (s.sk 1), .int .i64 (s.sk 2), .int .i64 s.ey, .int .i64 s.lk, .int .i64 s.wd, .sl (m.length + 4) (s.np) 0 (s.np), .sl (m.length + 5) (s.nt) 0 (s.nt), .sl (m.length + 6) (s.nj) 0 (s.nj), .sl (m.length + 7) (s.nx) 0 (s.nx)]⟩ :: ⟨.grow, 107, s.np, 5, catC (s.np) (pC s)⟩ :: ⟨.grow, 75, s.nt, 2, catC (s.nt) (tC s (toR s m.length))⟩ :: ⟨.grow, 112, s.nj, 4, catC (s.nj) (jC s)⟩ :: ⟨.grow, 117, s.nx, 13, catC (s.nx) (xC s)⟩ :: tkB s R m.length s.nt
theorem to_c (s : SC) (R : RWs) (m : AMem) (hR : ScR 89 93 128 110 99 m s R) (hS : SmR s) : Ctr Tryz.prog 17 [.agg (scC s R)] m (.agg (scC s (toR s m.length))) (m ++ toB s R m) := by
 refine Ctr.enter Tryz.func17 rfl (by decide) (rs := [.cell 2 70]) (nt := 135) rfl rfl fun hwf Q hQ => ?_
 obtain ⟨kp, ep, hp⟩ := hR.hp
 have lp := get_lt hp
 obtain ⟨kt, et, ht⟩ := hR.ht
 have lt := get_lt ht
 obtain ⟨kj, ej, hj⟩ := hR.hj
 have lj := get_lt hj
 obtain ⟨kx, ex, hx⟩ := hR.hx
 have lx := get_lt hx
 have np := hR.np
 have nt := hR.nt
 have nj := hR.nj
 have nx := hR.nx
 have pl : (catC s.np (pC s)).length = s.np * 5 := catC_len (w := 5) (F := pC s) (fun _ => rfl) _
 have tl : (catC s.nt (tC s R)).length = s.nt * 2 := catC_len (w := 2) (F := tC s R) (fun _ => rfl) _
 have jl : (catC s.nj (jC s)).length = s.nj * 4 := catC_len (w := 4) (F := jC s) (fun _ => rfl) _
 have xl : (catC s.nx (xC s)).length = s.nx * 13 := catC_len (w := 13) (F := xC s) (fun _ => rfl) _
 have hlt0 : ∀ k, ¬ m.length + k < m.length := fun k => by omega
 have hbox : ∀ i, pC s i = [.int .i64 (s.pk i), .int .i64 (s.pc i 0), .int .i64 (s.pc i 1), .int .i64 (s.pc i 2), .int .i64 (s.pr i)] := fun _ => rfl
 have hbt : ∀ i, tC s R i = [.int .i64 (s.tw i), .sl (R.k i) (R.vk i) 0 (s.kn i)] := fun _ => rfl
 have hbx : ∀ i, xC s i = [.int .i64 (s.xj i), .int .i64 (s.xp i), .int .i64 (s.xk i), .int .i64 (s.xv i 0 0), .int .i64 (s.xv i 0 1), .int .i64 (s.xv i 0 2), .int .i64 (s.xv i 1 0), .int .i64 (s.xv i 1 1), .int .i64 (s.xv i 1 2), .int .i64 (s.xv i 2 0), .int .i64 (s.xv i 2 1), .int .i64 (s.xv i 2 2), .int .i64 (s.xr i)] := fun _ => rfl
 have ill := fun l => iL_len l
 obtain ⟨hS1, hS2, hS3, hS4, hS5⟩ := hS
 have tkl := tkB_len s R m.length
 have tg0 := fun n L => tkB_g s R m.length n 0 L
 simp only [Nat.add_zero] at tg0
 have tg1 := tkB_g s R m.length
 have ts0 := tkB_s s R m.length
 have vp := fun n => (catC_all CV.isVal (F := pC s) (fun _ => rfl) n)
 have vj := fun n => (catC_all CV.isVal (F := jC s) (fun _ => rfl) n)
 have vx := fun n => (catC_all CV.isVal (F := xC s) (fun _ => rfl) n)
 have vt := fun n => (catC_all CV.isVal (F := tC s (toR s m.length)) (fun _ => rfl) n)
 refine AW.sr 2 fun K hK => ?_
 have pk_1 : _ ∧ _ ∧ _ ∧ _ ∧ _ ∧ _ ∧ _ ∧ _ ∧ _ ∧ _ ∧ _ ∧ _ ∧ _ ∧ _ ∧ _ ∧ _ ∧ _ ∧ _ ∧ _ ∧ _ ∧ _ := ⟨hp, lk_old hp, ht, lk_old ht, hj, lk_old hj, hx, lk_old hx, pl, tl, jl, xl, ill, tkl, tg0, tg1, ts0, vp, vj, vx, vt⟩
 simp only [push_cast, simprocAttr, scC, hdC, tlC, c3C, pk_1]
 apply hK;clear hK K
 refine AW.seq_k fun K hK => ?_
 refine AW.draw [.val, .rd 0, .val, .rd 0, .val, .rd 0, .val, .rd 0, .val, .rd 0, .val, .rd 0, .val, .rd 0, .val, .rd 0, .ext, .val, .val, .rd 0, .val, .rd 0, .val, .rd 0, .val, .val, .fl, .wr] fol (by decide) (by kernel_rfl) ?_
 simp only [push_cast, simprocAttr, scC, hdC, tlC, c3C, pk_1]
 refine DCall.by0 ((by have h := fun M => to05_c s.sk M; simp only [c3C] at h; exact h _)) ?_
 simp only [push_cast, simprocAttr, scC, hdC, tlC, c3C, pk_1]
 apply hK;clear hK K
 refine AW.seq_k fun K hK => ?_
 refine AW.sr 1 fun K hK => ?_
 simp only [push_cast, simprocAttr, scC, hdC, tlC, c3C, pk_1]
 apply hK;clear hK K
 refine AW.block ?_
 refine AW.nilCell 107 5 (m.length + 3) 13 (by simp only [push_cast, simprocAttr, scC, hdC, tlC, c3C, pk_1]; first | done | rfl) (by intro e; cases e) rfl ?_
 try simp only [push_cast, simprocAttr, scC, hdC, tlC, c3C, pk_1]
 refine AW.nilCell 75 2 (m.length + 3) 14 (by simp only [push_cast, simprocAttr, scC, hdC, tlC, c3C, pk_1]; first | done | rfl) (by intro e; cases e) rfl ?_
 try simp only [push_cast, simprocAttr, scC, hdC, tlC, c3C, pk_1]
 refine AW.nilCell 112 4 (m.length + 3) 15 (by simp only [push_cast, simprocAttr, scC, hdC, tlC, c3C, pk_1]; first | done | rfl) (by intro e; cases e) rfl ?_
 try simp only [push_cast, simprocAttr, scC, hdC, tlC, c3C, pk_1]
 refine AW.nilCell 117 13 (m.length + 3) 16 (by simp only [push_cast, simprocAttr, scC, hdC, tlC, c3C, pk_1]; first | done | rfl) (by intro e; cases e) rfl ?_
 try simp only [push_cast, simprocAttr, scC, hdC, tlC, c3C, pk_1]
 refine AW.loopK [1, 2, 4, 42, 43] (fun i => i ≤ s.np) (fun i => [(44, .one (.int .i64 (i : Int)))]) (fun i => [(m.length + 3, ⟨.fix, 70, 0, 0, [.int .i64 s.w, .int .i64 s.h, .int .i64 s.sm, .int .i64 s.dp, .int .i64 s.fr, .int .i64 s.sh, .int .u64 s.sd, .int .i64 (s.sk 0), .int .i64 (s.sk 1), .int .i64 (s.sk 2), .int .i64 s.ey, .int .i64 s.lk, .int .i64 s.wd, .sl (m.length + 4) (i) 0 (i), .sl (m.length + 5) (0) 0 (0), .sl (m.length + 6) (0) 0 (0), .sl (m.length + 7) (0) 0 (0)]⟩), (m.length + 4, ⟨.grow, 107, i, 5, catC (i) (pC s)⟩)]) (fun i => s.np - i) 0 (by omega) ?_ ?_ fun i hi3 => ?_
 · first | rfl | (simp only [KS, simprocAttr, catC, Int.natCast_zero] <;> repeat' (first | rfl | apply And.intro))
 · simp only [setAll, push_cast, simprocAttr, catC] <;> rfl
 try simp only [keepL, setAll, push_cast, simprocAttr, scC, hdC, tlC, c3C, pk_1]
 refine AW.sr 1 fun K hK => ?_
 simp only [push_cast, simprocAttr, scC, hdC, tlC, c3C, pk_1]
 apply hK;clear hK K
 refine AW.seq_k fun K hK => ?_
 refine AW.cond rfl (fun h45 => ?_) (fun h45 => ?_)
 ·have hlt : i < s.np := by have := of_decide_eq_true h45; omega
  have c1 : (0 : Int) ≤ (i : Int) := by omega
  have c2 : (i : Int) < (s.np : Int) := by omega
  have c3 : i * 5 + 5 ≤ s.np * 5 := by omega
  have ga := catC_at (w := 5) (F := pC s) (fun _ => rfl) hlt
  have gk : pC s i = [.int .i64 (s.pk i), .int .i64 (s.pc i 0), .int .i64 (s.pc i 1), .int .i64 (s.pc i 2), .int .i64 (s.pr i)] := rfl
  have gli : (catC i (pC s)).length = i * 5 := catC_len (w := 5) (F := pC s) (fun _ => rfl) i
  have q1 : i ≤ 140737488355327 := by omega
  have q2 : (i + 1) * 40 ≤ 140737488355328 := by omega
  have hap : catC i (pC s) ++ [.int .i64 (s.pk i), .int .i64 (s.pc i 0), .int .i64 (s.pc i 1), .int .i64 (s.pc i 2), .int .i64 (s.pr i)] = catC (i + 1) (pC s) := rfl
  refine AW.skip ?_
  apply hK;clear hK K
  refine AW.seq_k fun K hK => ?_
  refine AW.block ?_
  refine AW.sr 1 fun K hK => ?_
  have pk_2 : _ ∧ _ ∧ _ ∧ _ ∧ _ ∧ _ ∧ _ ∧ _ ∧ _ ∧ _ := ⟨pk_1, c1, c2, c3, ga, gk, gli, q1, q2, hlt⟩
  simp only [push_cast, simprocAttr, scC, hdC, tlC, c3C, pk_2]
  apply hK;clear hK K
  refine AW.draw [.val, .rd 0, .val, .rd 0, .val, .rd 0, .ext, .val, .rd 0, .val, .ext, .wr, .val, .wr] fol (by decide) (by kernel_rfl) ?_
  simp only [push_cast, simprocAttr, scC, hdC, tlC, c3C, pk_2]
  refine DCall.by0 ((by have h := fun M => to05_c (s.pc i) M; simp only [c3C] at h; exact h _)) ?_
  simp only [push_cast, simprocAttr, scC, hdC, tlC, c3C, pk_2]
  refine DExt.by (by first | rfl | exact (List.append_nil _).symm | (simp only [List.append_assoc, List.cons_append, List.nil_append]; rfl)) ?_
  simp only [push_cast, simprocAttr, scC, hdC, tlC, c3C, pk_2]
  refine InB_n ?_
  apply hK;clear hK K
  refine AW.rg ?_
  simp only [push_cast, simprocAttr, scC, hdC, tlC, c3C, pk_2]
  refine Thn_n ?_
  have hwi : IntKind.i64.wrap ((i:Int)+1) = (i:Int)+1 := wi (by omega)
  refine ⟨i + 1, by omega, by omega, ?_⟩
  try simp only [keepL, setAll, push_cast, simprocAttr, scC, hdC, tlC, c3C, pk_2, hwi, hap]
  exact Weak.to (extra := [_, _]) (by simp only [KS, simprocAttr, hwi, hap]) (by first | rfl | (simp only [List.append_assoc, List.cons_append, List.nil_append]; rfl)) (by first | rfl | (simp [AV.below, CV.below]; done) | (simp [AV.below, CV.below]; omega)) (by exact to_wf hR hwf _ (fun _ => rfl) _ _ _ _ 0 _ (by omega) (by omega) (by simp [tkB_len]; try omega))
 ·have hin : i = s.np := by have := of_decide_eq_false h45; omega
  rw [hin]
  refine AW.exit ?_
  refine Thn_e ?_
  clear hK K
  refine Thn_e ?_
  refine InB_here ?_
  apply hK;clear hK K
  refine AW.seq_k fun K hK => ?_
  refine AW.sr 1 fun K hK => ?_
  simp only [push_cast, simprocAttr, scC, hdC, tlC, c3C, pk_1]
  apply hK;clear hK K
  refine AW.block ?_
  refine AW.loopE0 [1, 2, 4, 63, 64] (fun i => i ≤ s.nt) (fun i => [(65, .one (.int .i64 (i : Int)))]) (fun i => [(m.length + 3, ⟨.fix, 70, 0, 0, [.int .i64 s.w, .int .i64 s.h, .int .i64 s.sm, .int .i64 s.dp, .int .i64 s.fr, .int .i64 s.sh, .int .u64 s.sd, .int .i64 (s.sk 0), .int .i64 (s.sk 1), .int .i64 (s.sk 2), .int .i64 s.ey, .int .i64 s.lk, .int .i64 s.wd, .sl (m.length + 4) (s.np) 0 (s.np), .sl (m.length + 5) (i) 0 (i), .sl (m.length + 6) (0) 0 (0), .sl (m.length + 7) (0) 0 (0)]⟩), (m.length + 5, ⟨.grow, 75, i, 2, catC (i) (tC s (toR s m.length))⟩)]) (fun i => tkB s R m.length i) (fun i => s.nt - i) 0 (by omega) ?_ ?_ ?_ fun i hi7 => ?_
  · first | rfl | (simp only [KS, simprocAttr, catC, tkB, List.append_nil, Int.natCast_zero] <;> repeat' (first | rfl | apply And.intro))
  · simp only [setAll, push_cast, simprocAttr, catC, tkB, List.append_nil] <;> rfl
  · exact fun i j _ _ h => by simp only [tkB_len]; omega
  try simp only [keepL, setAll, push_cast, simprocAttr, scC, hdC, tlC, c3C, pk_1]
  refine AW.sr 1 fun K hK => ?_
  simp only [push_cast, simprocAttr, scC, hdC, tlC, c3C, pk_1]
  apply hK;clear hK K
  refine AW.seq_k fun K hK => ?_
  refine AW.cond rfl (fun h66 => ?_) (fun h66 => ?_)
  ·have hlt : i < s.nt := by have := of_decide_eq_true h66; omega
   have c1 : (0 : Int) ≤ (i : Int) := by omega
   have c2 : (i : Int) < (s.nt : Int) := by omega
   have c3 : i * 2 + 2 ≤ s.nt * 2 := by omega
   have ga := catC_at (w := 2) (F := tC s R) (fun _ => rfl) hlt
   obtain ⟨kk, ek, hky⟩ := hR.hk i hlt
   have lky := get_lt hky
   have hki := hS1 i hlt
   have gk : tC s R i = [.int .i64 (s.tw i), .sl (R.k i) (R.vk i) 0 (s.kn i)] := rfl
   have gli : (catC i (tC s (toR s m.length))).length = i * 2 := catC_len (w := 2) (F := tC s (toR s m.length)) (fun _ => rfl) i
   have q1 : i ≤ 140737488355327 := by omega
   have q2 : (i + 1) * 32 ≤ 140737488355328 := by omega
   have hap : catC i (tC s (toR s m.length)) ++ [.int .i64 (s.tw i), .sl (m.length + (3 * i + 9)) 0 0 (s.kn i)] = catC (i + 1) (tC s (toR s m.length)) := rfl
   have htk : tkB s R m.length i ++ [⟨.fix, 93, 0, 0, [.int .i64 (s.tw i), .sl (R.k i) (R.vk i) 0 (s.kn i)]⟩, ⟨.grow, 119, 0, 4, catC (s.kn i) (keC (s.kt i) (s.kv i))⟩, ⟨.grow, 75, 0, 2, [.int .i64 (s.tw i), .sl (m.length + (3 * i + 9)) 0 0 (s.kn i)]⟩] = tkB s R m.length (i + 1) := rfl
   refine AW.skip ?_
   apply hK;clear hK K
   refine AW.seq_k fun K hK => ?_
   refine AW.block ?_
   refine AW.sr 1 fun K hK => ?_
   have pk_3 : _ ∧ _ ∧ _ ∧ _ ∧ _ ∧ _ ∧ _ ∧ _ ∧ _ ∧ _ := ⟨pk_1, c1, c2, c3, ga, gk, gli, q1, q2, hlt⟩
   simp only [push_cast, simprocAttr, scC, hdC, tlC, c3C, pk_3]
   apply hK;clear hK K
   refine AW.draw [.val, .rd 0, .rd 0, .ext, .ext, .wr, .val, .wr] fol (by decide) (by kernel_rfl) ?_
   simp only [push_cast, simprocAttr, scC, hdC, tlC, c3C, pk_3]
   refine DCall.by (to06_c (s.tw i) (R.k i) (R.vk i) (s.kn i) (s.kt i) (s.kv i) _ ⟨kk, ek, lk_old hky _⟩ (by omega)) ?_
   simp only [push_cast, simprocAttr, scC, hdC, tlC, c3C, pk_3]
   refine DExt.by (by first | rfl | exact (List.append_nil _).symm | (simp only [List.append_assoc, List.cons_append, List.nil_append]; rfl)) ?_
   simp only [push_cast, simprocAttr, scC, hdC, tlC, c3C, pk_3]
   refine InB_n ?_
   apply hK;clear hK K
   refine AW.rg ?_
   simp only [push_cast, simprocAttr, scC, hdC, tlC, c3C, pk_3]
   refine Thn_n ?_
   have hwi : IntKind.i64.wrap ((i:Int)+1) = (i:Int)+1 := wi (by omega)
   refine ⟨i + 1, by omega, by omega, ?_⟩
   try simp only [keepL, setAll, push_cast, simprocAttr, scC, hdC, tlC, c3C, pk_3, hwi, hap, htk]
   exact Weak.same (by simp only [KS, simprocAttr, hwi, hap, htk]) (by first | rfl | simp only [KS, simprocAttr, hwi, hap, htk])
  ·have hin : i = s.nt := by have := of_decide_eq_false h66; omega
   rw [hin]
   refine AW.exit ?_
   refine Thn_e ?_
   clear hK K
   refine Thn_e ?_
   refine InB_here ?_
   apply hK;clear hK K
   refine AW.seq_k fun K hK => ?_
   refine AW.sr 1 fun K hK => ?_
   simp only [push_cast, simprocAttr, scC, hdC, tlC, c3C, pk_1]
   apply hK;clear hK K
   refine AW.block ?_
   refine AW.loopK [1, 2, 4, 78, 79] (fun i => i ≤ s.nj) (fun i => [(80, .one (.int .i64 (i : Int)))]) (fun i => [(m.length + 3, ⟨.fix, 70, 0, 0, [.int .i64 s.w, .int .i64 s.h, .int .i64 s.sm, .int .i64 s.dp, .int .i64 s.fr, .int .i64 s.sh, .int .u64 s.sd, .int .i64 (s.sk 0), .int .i64 (s.sk 1), .int .i64 (s.sk 2), .int .i64 s.ey, .int .i64 s.lk, .int .i64 s.wd, .sl (m.length + 4) (s.np) 0 (s.np), .sl (m.length + 5) (s.nt) 0 (s.nt), .sl (m.length + 6) (i) 0 (i), .sl (m.length + 7) (0) 0 (0)]⟩), (m.length + 6, ⟨.grow, 112, i, 4, catC (i) (jC s)⟩)]) (fun i => s.nj - i) 0 (by omega) ?_ ?_ fun i hi11 => ?_
   · first | rfl | (simp only [KS, simprocAttr, catC, Int.natCast_zero] <;> repeat' (first | rfl | apply And.intro))
   · simp only [setAll, push_cast, simprocAttr, catC] <;> rfl
   try simp only [keepL, setAll, push_cast, simprocAttr, scC, hdC, tlC, c3C, pk_1]
   refine AW.sr 1 fun K hK => ?_
   simp only [push_cast, simprocAttr, scC, hdC, tlC, c3C, pk_1]
   apply hK;clear hK K
   refine AW.seq_k fun K hK => ?_
   refine AW.cond rfl (fun h81 => ?_) (fun h81 => ?_)
   ·have hlt : i < s.nj := by have := of_decide_eq_true h81; omega
    have c1 : (0 : Int) ≤ (i : Int) := by omega
    have c2 : (i : Int) < (s.nj : Int) := by omega
    have c3 : i * 4 + 4 ≤ s.nj * 4 := by omega
    have ga := catC_at (w := 4) (F := jC s) (fun _ => rfl) hlt
    have gk : jC s i = [.int .i64 (s.jp i), .int .i64 (s.jm i), .int .i64 (s.jt i), .int .i64 (s.js i)] := rfl
    have gli : (catC i (jC s)).length = i * 4 := catC_len (w := 4) (F := jC s) (fun _ => rfl) i
    have q1 : i ≤ 140737488355327 := by omega
    have q2 : (i + 1) * 32 ≤ 140737488355328 := by omega
    have hap : catC i (jC s) ++ [.int .i64 (s.jp i), .int .i64 (s.jm i), .int .i64 (s.jt i), .int .i64 (s.js i)] = catC (i + 1) (jC s) := rfl
    refine AW.skip ?_
    apply hK;clear hK K
    refine AW.seq_k fun K hK => ?_
    refine AW.block ?_
    refine AW.sr 1 fun K hK => ?_
    have pk_4 : _ ∧ _ ∧ _ ∧ _ ∧ _ ∧ _ ∧ _ ∧ _ ∧ _ ∧ _ := ⟨pk_1, c1, c2, c3, ga, gk, gli, q1, q2, hlt⟩
    simp only [push_cast, simprocAttr, scC, hdC, tlC, c3C, pk_4]
    apply hK;clear hK K
    refine AW.rg ?_
    simp only [push_cast, simprocAttr, scC, hdC, tlC, c3C, pk_4]
    refine InB_n ?_
    apply hK;clear hK K
    refine AW.rg ?_
    simp only [push_cast, simprocAttr, scC, hdC, tlC, c3C, pk_4]
    refine Thn_n ?_
    have hwi : IntKind.i64.wrap ((i:Int)+1) = (i:Int)+1 := wi (by omega)
    refine ⟨i + 1, by omega, by omega, ?_⟩
    try simp only [keepL, setAll, push_cast, simprocAttr, scC, hdC, tlC, c3C, pk_4, hwi, hap]
    exact Weak.to (extra := [_, _]) (by simp only [KS, simprocAttr, hwi, hap]) (by first | rfl | (simp only [List.append_assoc, List.cons_append, List.nil_append]; rfl)) (by first | rfl | (simp [AV.below, CV.below]; done) | (simp [AV.below, CV.below]; omega)) (by exact to_wf hR hwf _ (fun _ => rfl) _ _ _ _ s.nt _ (by omega) (by omega) (by simp [tkB_len]; try omega))
   ·have hin : i = s.nj := by have := of_decide_eq_false h81; omega
    rw [hin]
    refine AW.exit ?_
    refine Thn_e ?_
    clear hK K
    refine Thn_e ?_
    refine InB_here ?_
    apply hK;clear hK K
    refine AW.seq_k fun K hK => ?_
    refine AW.sr 1 fun K hK => ?_
    simp only [push_cast, simprocAttr, scC, hdC, tlC, c3C, pk_1]
    apply hK;clear hK K
    refine AW.block ?_
    refine AW.loopK [2, 4, 100, 101] (fun i => i ≤ s.nx) (fun i => [(102, .one (.int .i64 (i : Int)))]) (fun i => [(m.length + 3, ⟨.fix, 70, 0, 0, [.int .i64 s.w, .int .i64 s.h, .int .i64 s.sm, .int .i64 s.dp, .int .i64 s.fr, .int .i64 s.sh, .int .u64 s.sd, .int .i64 (s.sk 0), .int .i64 (s.sk 1), .int .i64 (s.sk 2), .int .i64 s.ey, .int .i64 s.lk, .int .i64 s.wd, .sl (m.length + 4) (s.np) 0 (s.np), .sl (m.length + 5) (s.nt) 0 (s.nt), .sl (m.length + 6) (s.nj) 0 (s.nj), .sl (m.length + 7) (i) 0 (i)]⟩), (m.length + 7, ⟨.grow, 117, i, 13, catC (i) (xC s)⟩)]) (fun i => s.nx - i) 0 (by omega) ?_ ?_ fun i hi15 => ?_
    · first | rfl | (simp only [KS, simprocAttr, catC, Int.natCast_zero] <;> repeat' (first | rfl | apply And.intro))
    · simp only [setAll, push_cast, simprocAttr, catC] <;> rfl
    try simp only [keepL, setAll, push_cast, simprocAttr, scC, hdC, tlC, c3C, pk_1]
    refine AW.sr 1 fun K hK => ?_
    simp only [push_cast, simprocAttr, scC, hdC, tlC, c3C, pk_1]
    apply hK;clear hK K
    refine AW.seq_k fun K hK => ?_
    refine AW.cond rfl (fun h103 => ?_) (fun h103 => ?_)
    ·have hlt : i < s.nx := by have := of_decide_eq_true h103; omega
     have c1 : (0 : Int) ≤ (i : Int) := by omega
     have c2 : (i : Int) < (s.nx : Int) := by omega
     have c3 : i * 13 + 13 ≤ s.nx * 13 := by omega
     have ga := catC_at (w := 13) (F := xC s) (fun _ => rfl) hlt
     have gk : xC s i = [.int .i64 (s.xj i), .int .i64 (s.xp i), .int .i64 (s.xk i), .int .i64 (s.xv i 0 0), .int .i64 (s.xv i 0 1), .int .i64 (s.xv i 0 2), .int .i64 (s.xv i 1 0), .int .i64 (s.xv i 1 1), .int .i64 (s.xv i 1 2), .int .i64 (s.xv i 2 0), .int .i64 (s.xv i 2 1), .int .i64 (s.xv i 2 2), .int .i64 (s.xr i)] := rfl
     have gli : (catC i (xC s)).length = i * 13 := catC_len (w := 13) (F := xC s) (fun _ => rfl) i
     have q1 : i ≤ 140737488355327 := by omega
     have q2 : (i + 1) * 104 ≤ 140737488355328 := by omega
     have hap : catC i (xC s) ++ [.int .i64 (s.xj i), .int .i64 (s.xp i), .int .i64 (s.xk i), .int .i64 (s.xv i 0 0), .int .i64 (s.xv i 0 1), .int .i64 (s.xv i 0 2), .int .i64 (s.xv i 1 0), .int .i64 (s.xv i 1 1), .int .i64 (s.xv i 1 2), .int .i64 (s.xv i 2 0), .int .i64 (s.xv i 2 1), .int .i64 (s.xv i 2 2), .int .i64 (s.xr i)] = catC (i + 1) (xC s) := rfl
     refine AW.skip ?_
     apply hK;clear hK K
     refine AW.seq_k fun K hK => ?_
     refine AW.block ?_
     refine AW.sr 1 fun K hK => ?_
     have pk_5 : _ ∧ _ ∧ _ ∧ _ ∧ _ ∧ _ ∧ _ ∧ _ ∧ _ ∧ _ := ⟨pk_1, c1, c2, c3, ga, gk, gli, q1, q2, hlt⟩
     simp only [push_cast, simprocAttr, scC, hdC, tlC, c3C, pk_5]
     apply hK;clear hK K
     refine AW.draw [.val, .rd 0, .val, .rd 0, .val, .rd 0, .val, .val, .rd 0, .val, .val, .rd 0, .ext, .val, .val, .rd 0, .ext, .val, .val, .rd 0, .ext, .val, .rd 0, .val, .ext, .wr, .val, .wr] fol (by decide) (by kernel_rfl) ?_
     simp only [push_cast, simprocAttr, scC, hdC, tlC, c3C, pk_5]
     refine DCall.by0 ((by have h := fun M => to02_c (s.xv i 0) M; simp only [c3C] at h; exact h _)) ?_
     simp only [push_cast, simprocAttr, scC, hdC, tlC, c3C, pk_5]
     refine DCall.by0 ((by have h := fun M => to02_c (s.xv i 1) M; simp only [c3C] at h; exact h _)) ?_
     simp only [push_cast, simprocAttr, scC, hdC, tlC, c3C, pk_5]
     refine DCall.by0 ((by have h := fun M => to02_c (s.xv i 2) M; simp only [c3C] at h; exact h _)) ?_
     simp only [push_cast, simprocAttr, scC, hdC, tlC, c3C, pk_5]
     refine DExt.by (by first | rfl | exact (List.append_nil _).symm | (simp only [List.append_assoc, List.cons_append, List.nil_append]; rfl)) ?_
     simp only [push_cast, simprocAttr, scC, hdC, tlC, c3C, pk_5]
     refine InB_n ?_
     apply hK;clear hK K
     refine AW.rg ?_
     simp only [push_cast, simprocAttr, scC, hdC, tlC, c3C, pk_5]
     refine Thn_n ?_
     have hwi : IntKind.i64.wrap ((i:Int)+1) = (i:Int)+1 := wi (by omega)
     refine ⟨i + 1, by omega, by omega, ?_⟩
     try simp only [keepL, setAll, push_cast, simprocAttr, scC, hdC, tlC, c3C, pk_5, hwi, hap]
     exact Weak.to (extra := [_, _]) (by simp only [KS, simprocAttr, hwi, hap]) (by first | rfl | (simp only [List.append_assoc, List.cons_append, List.nil_append]; rfl)) (by first | rfl | (simp [AV.below, CV.below]; done) | (simp [AV.below, CV.below]; omega)) (by exact to_wf hR hwf _ (fun _ => rfl) _ _ _ _ s.nt _ (by omega) (by omega) (by simp [tkB_len]; try omega))
    ·have hin : i = s.nx := by have := of_decide_eq_false h103; omega
     rw [hin]
     refine AW.exit ?_
     refine Thn_e ?_
     clear hK K
     refine Thn_e ?_
     refine InB_here ?_
     apply hK;clear hK K
     refine AW.sr 1 fun K hK => ?_
     simp only [push_cast, simprocAttr, scC, hdC, tlC, c3C, pk_1]
     apply hK;clear hK K
     refine AW.ret ?_
     refine hQ _ _ _ ?_
     refine RetP.keep (by first | exact Or.inr rfl | exact Or.inl rfl) ?_
     simp only [resA, resOne, resTv, AV.tv, push_cast, simprocAttr, toR]
     rfl
end Go.Proofs.YtdeacicnfglhdaaGreatDoor
