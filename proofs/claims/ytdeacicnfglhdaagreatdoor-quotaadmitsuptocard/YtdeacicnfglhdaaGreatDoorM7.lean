/- Walks and facts of this seat's program over abstract states, printed by programs of mine; no conditions but those that each theorem names. -/
import Derived.Test.YtdeacicnfglhdaaGreatDoorM6
set_option linter.unusedSimpArgs false
set_option linter.unusedVariables false
set_option maxRecDepth 100000
set_option maxHeartbeats 4000000
namespace Go.Proofs.YtdeacicnfglhdaaGreatDoor
open Go Go.Eng
theorem still_c (m : AMem) : Ctr Tryz.prog 19 [.agg [.int .i64 0, .int .i64 0, .int .i64 0]] m (.agg [.int .i64 0, .sl m.length 0 0 1]) (m ++ [⟨.grow, 119, 0, 4, [.int .i64 0, .int .i64 0, .int .i64 0, .int .i64 0]⟩]) := by
 refine Ctr.enter Tryz.func19 rfl (by decide) (rs := [.cell 2 75]) (nt := 7) rfl rfl fun hwf Q hQ => ?_
 have hlt0 : ∀ k, ¬ m.length + k < m.length := fun k => by omega
 refine AW.sr 2 fun K hK => ?_
 simp only [push_cast, simprocAttr]
 apply hK;clear hK K
 refine AW.ret ?_
 refine hQ _ _ _ ?_
 refine RetP.pick [(m.length + 2, 0)] (by first | exact Or.inr rfl | exact Or.inl rfl) ?_ ?_ ?_ hwf ?_
 · simp only [resA, resOne, resTv, AV.tv, push_cast, simprocAttr]
   simp [renV, renT, renL, renC, renIdx, hlt0]
 · simp only [picks, push_cast, simprocAttr]
 · simp [distinctFrom]
 · exact MWf_one rfl
def aS : SC := ⟨2, 1, 1, 3, 1, 0, 0, fun _ => 0, 0, 0, 1, 0, 1, 0, 0, fun _ => 0, fun _ _ => 0, fun _ => 0, fun _ => 0, fun _ => 1, fun _ _ => 0, fun _ _ _ => 0, fun _ => 0, fun _ => 0, fun _ => 0, fun _ => 0, fun _ => 0, fun _ => 0, fun _ => 0, fun _ _ _ => 0, fun _ => 0⟩
def aR (L : Nat) : RWs := ⟨L + 3, 0, L + 1, 0, L + 4, 0, L + 5, 0, fun _ => L, fun _ => 0⟩
theorem aS_chk : (chkV aS).1 = 0 := by decide
theorem aS_cost : c5C (costF aS) = [.int .i64 4, .int .i64 12, .int .i64 12, .int .i64 5, .int .i64 (bdZ aS)] := rfl
theorem aS_scr {m : AMem} (a : Blk) (L : AMem) : ScR 107 75 119 112 117 (m ++ (⟨.grow, 119, 0, 4, [.int .i64 0, .int .i64 0, .int .i64 0, .int .i64 0]⟩ :: ⟨.grow, 75, 0, 2, [.int .i64 0, .sl m.length 0 0 1]⟩ :: a :: ⟨.grow, 107, 0, 5, []⟩ :: ⟨.grow, 112, 0, 4, []⟩ :: ⟨.grow, 117, 0, 13, []⟩ :: L)) aS (aR m.length) := by
 refine ⟨⟨.grow, 5, ?_⟩, ⟨.grow, 2, ?_⟩, fun i hi => ⟨.grow, 4, ?_⟩, ⟨.grow, 4, ?_⟩, ⟨.grow, 13, ?_⟩, by decide, by decide, by decide, by decide, fun _ _ => (by show (1 : Nat) ≤ 1000000000000; decide)⟩
 ·show (m ++ _)[m.length + 3]? = _; rw [lk_app]; rfl
 ·show (m ++ _)[m.length + 1]? = _; rw [lk_app]; rfl
 ·show (m ++ _)[m.length]? = _; rw [lk_app0]; rfl
 ·show (m ++ _)[m.length + 4]? = _; rw [lk_app]; rfl
 ·show (m ++ _)[m.length + 5]? = _; rw [lk_app]; rfl
theorem awakeq_c (m : AMem) : Ctr Tryz.prog 6 [] m (.one (.bool true)) m := by
 refine Ctr.enter Tryz.func6 rfl (by decide) (rs := [.tmp 0]) (nt := 37) rfl rfl fun hwf Q hQ => ?_
 have l5 : ∀ x, (c5C x).length = 5 := fun _ => rfl
 refine AW.sr 2 fun K hK => ?_
 simp only [push_cast, simprocAttr, aS_cost]
 refine CThen.by (still_c _) ?_
 simp only [push_cast, simprocAttr, aS_cost]
 apply hK;clear hK K
 refine AW.nilCell 107 5 (m.length + 2) 13 (by simp only [push_cast, simprocAttr]; first | done | rfl) (by intro e; cases e) rfl ?_
 try simp only [push_cast, simprocAttr]
 refine AW.nilCell 112 4 (m.length + 2) 15 (by simp only [push_cast, simprocAttr]; first | done | rfl) (by intro e; cases e) rfl ?_
 try simp only [push_cast, simprocAttr]
 refine AW.nilCell 117 13 (m.length + 2) 16 (by simp only [push_cast, simprocAttr]; first | done | rfl) (by intro e; cases e) rfl ?_
 try simp only [push_cast, simprocAttr]
 refine AW.sr 2 fun K hK => ?_
 simp only [push_cast, simprocAttr, aS_cost]
 refine CThen.by (cof_c aS (aR m.length) _ (aS_scr _ _) (by decide) aS_chk) ?_
 simp only [push_cast, simprocAttr, aS_cost]
 apply hK;clear hK K
 refine AW.ret ?_
 refine hQ _ _ _ ?_
 first | refine RetP.drop0 (Or.inr rfl) ?_ ?_ hwf | refine RetP.drop (Or.inr rfl) ?_ ?_ hwf
 · simp only [resA, resOne, resTv, AV.tv, push_cast, simprocAttr, aS_cost]
 · rfl
theorem ordL_snoc (n : Nat) : iL (ordL id n) ++ [.int .i64 (n : Int)] = iL (ordL id (n + 1)) := by
 rw [iL_snoc]; simp [ordL, List.range_succ]
theorem ordL_id_len (n : Nat) : (ordL id n).length = n := ordL_len id n
theorem quotaAdmits_c (r v n : Nat) (S : Nat → SC) (RR : Nat → RWs) (b : Int) (m : AMem) (hr : ∃ k e, m[r]? = some ⟨k, 51, v, e, catC n fun i => scC (S i) (RR i)⟩) (hS : ∀ i, i < n → ScR 89 93 128 110 99 m (S i) (RR i)) (hsd : ∀ i, i < n → 0 ≤ (S i).sd ∧ (S i).sd ≤ 18446744073709551615) (hn : n ≤ 1000000000000) (h1 : -9223372036854775808 ≤ b) (h2 : b ≤ 9223372036854775807) : Ctr Tryz.prog 3 [.one (.sl r v 0 n), .one (.int .i64 b)] m (.one (.bool true)) m := by
 refine Ctr.enter Tryz.func3 rfl (by decide) (rs := [.tmp 4]) (nt := 60) rfl rfl fun hwf Q hQ => ?_
 have hc := costs_c r v n S RR m hr hS hsd hn
 obtain ⟨N, hN⟩ : ∃ N, N = (cs S n).1 := ⟨_, rfl⟩
 obtain ⟨X, hX⟩ : ∃ X, X = (cs S n).2 := ⟨_, rfl⟩
 have hNl : N ≤ 12 := by rw [hN]; exact (cs_le S n).2
 have hSm : Sm X := by rw [hX]; exact cs_sm S n
 rw [← hN, ← hX] at hc
 have gl := catC5_len X N
 have l5 : ∀ x, (c5C x).length = 5 := fun _ => rfl
 have t5 : ∀ x, (c5C x).take 5 = c5C x := fun _ => rfl
 have z5 : ∀ x y, setL (c5C x) 0 (c5C y) = c5C y := fun _ _ => rfl
 have z6 : ∀ y, setL [.int .i64 0, .int .i64 0, .int .i64 0, .int .i64 0, .int .i64 0] 0 (c5C y) = c5C y := fun _ => rfl
 have s0 : c5C (sumF X 0) = [.int .i64 0, .int .i64 0, .int .i64 0, .int .i64 0, .int .i64 0] := rfl
 have o0 : iL (ordL id 0) = [] := rfl
 have oll := ordL_id_len
 have ill := fun l => iL_len l
 have ha := adm_id X b N
 have hch := cheap_eq X b (n := N) (by omega)
 have hbo : ∀ i, i < N → (byS (fun e => X e 4) N N).2 i < N := (byS_ord (fun e => X e 4) (by omega)).lt
 have hla : (admS X b N).2.length ≤ 12 := Nat.le_trans (admS_len N) hNl
 have hlc : (chL X b N).length ≤ 12 := by rw [hch]; exact Nat.le_trans (outL_len _ _) hNl
 have bq : ∀ z : Int, (z == z) = true := fun z => beq_self_eq_true z
 have bqc : ∀ x, c5C x = [.int .i64 (x 0), .int .i64 (x 1), .int .i64 (x 2), .int .i64 (x 3), .int .i64 (x 4)] := fun _ => rfl
 refine AW.sr 4 fun K hK => ?_
 have pk_1 : _ ∧ _ ∧ _ ∧ _ ∧ _ ∧ _ ∧ _ ∧ _ := ⟨gl, l5, t5, z5, z6, oll, ill, bq⟩
 simp only [push_cast, simprocAttr, c5_vals, iL_vals, pk_1]
 refine CThen.by (hc) ?_
 simp only [push_cast, simprocAttr, c5_vals, iL_vals, pk_1]
 apply hK;clear hK K
 refine AW.seq_k fun K hK => ?_
 refine AW.sr 1 fun K hK => ?_
 simp only [push_cast, simprocAttr, c5_vals, iL_vals, pk_1]
 apply hK;clear hK K
 refine AW.block ?_
 refine AW.nilTm 3 1 7 rfl ?_
 try simp only [push_cast, simprocAttr, c5_vals, iL_vals, pk_1]
 refine AW.loopK [1, 5, 6, 8, 16, 17] (fun i => i ≤ N) (fun i => [(7, .one (.sl (m.length + 3) i 0 i)), (18, .one (.int .i64 (i : Int)))]) (fun i => [(m.length + 2, ⟨.fix, 29, 0, 0, c5C (sumF X i)⟩), (m.length + 3, ⟨.grow, 3, i, 1, iL (ordL id i)⟩)]) (fun i => N - i) 0 (by omega) ?_ ?_ fun i hi2 => ?_
 · first | rfl | (simp only [KS, simprocAttr, s0, o0, Int.natCast_zero] <;> repeat' (first | rfl | apply And.intro))
 · (simp only [setAll, push_cast, simprocAttr, s0, o0]) <;> rfl
 try simp only [keepL, setAll, push_cast, simprocAttr, c5_vals, iL_vals, pk_1]
 refine AW.sr 1 fun K hK => ?_
 simp only [push_cast, simprocAttr, c5_vals, iL_vals, pk_1]
 apply hK;clear hK K
 refine AW.seq_k fun K hK => ?_
 refine AW.cond rfl (fun h19 => ?_) (fun h19 => ?_)
 ·have hlt : i < N := by have := of_decide_eq_true h19; omega
  have c1 : (0 : Int) ≤ (i : Int) := by omega
  have c2 : (i : Int) < (N : Int) := by omega
  have c3 : i * 5 + 5 ≤ N * 5 := by omega
  have ga := catC5_at (X := X) hlt
  have hst : addF (sumF X i) (X i) = sumF X (i + 1) := rfl
  have hap := ordL_snoc i
  have q1 : i ≤ 140737488355327 := by omega
  have q2 : (i + 1) * 8 ≤ 140737488355328 := by omega
  refine AW.skip ?_
  apply hK;clear hK K
  refine AW.seq_k fun K hK => ?_
  refine AW.block ?_
  refine AW.sr 2 fun K hK => ?_
  have pk_2 : _ ∧ _ ∧ _ ∧ _ ∧ _ ∧ _ ∧ _ ∧ _ := ⟨pk_1, c1, c2, c3, ga, q1, q2, hlt⟩
  simp only [push_cast, simprocAttr, c5_vals, iL_vals, pk_2]
  apply hK;clear hK K
  refine AW.rg ?_
  simp only [push_cast, simprocAttr, c5_vals, iL_vals, pk_2]
  refine CThen.by (radd_c (sumF X i) (X i) _ (fun j => by have := sumF_b hSm j i; omega) (fun j => by have := hSm i j; omega)) ?_
  simp only [push_cast, simprocAttr, c5_vals, iL_vals, pk_2]
  refine InB_n ?_
  apply hK;clear hK K
  refine AW.rg ?_
  simp only [push_cast, simprocAttr, c5_vals, iL_vals, pk_2]
  refine Thn_n ?_
  have hwi : IntKind.i64.wrap ((i:Int)+1) = (i:Int)+1 := wi (by omega)
  refine ⟨i + 1, by omega, by omega, ?_⟩
  try simp only [keepL, setAll, push_cast, simprocAttr, c5_vals, iL_vals, pk_2, hwi, hst, hap]
  exact Weak.to (extra := [_, _]) (by simp only [KS, simprocAttr, hwi, hst, hap]) (by first | rfl | (simp only [List.append_assoc, List.cons_append, List.nil_append]; rfl)) (by first | rfl | (simp [AV.below, CV.below]; done) | (simp [AV.below, CV.below]; omega)) (by first | exact hwf | exact MWf.app (hwf.grow (by simp)) (MWf_cons (c5R_below _ _ _) (MWf_cons (c5R_below _ _ _) (MWf_cons (c5_below _ _) (MWf_cons (iL_below _ _) MWf_nil)))))
 ·have hin : i = N := by have := of_decide_eq_false h19; omega
  rw [hin]
  refine AW.exit ?_
  refine Thn_e ?_
  clear hK K
  refine Thn_e ?_
  refine InB_here ?_
  apply hK;clear hK K
  refine AW.seq_k fun K hK => ?_
  refine AW.draw [.ext, .val, .val, .ext, .ext, .rd 1, .val, .val, .val, .val, .val, .ext, .val, .val, .val, .ext, .ext, .val, .val, .val, .val, .ext, .val, .val, .val, .ext, .ext, .ext, .val, .val] fol (by decide) (by kernel_rfl) ?_
  simp only [push_cast, simprocAttr, c5_vals, iL_vals, pk_1, bqc]
  refine DCall.by0 (awakeq_c _) ?_
  simp only [push_cast, simprocAttr, c5_vals, iL_vals, pk_1, bqc]
  refine DCall.by0 (csum_c m.length 0 N X _ (by rw [lk_app0]; rfl) hSm (by omega)) ?_
  simp only [push_cast, simprocAttr, c5_vals, iL_vals, pk_1, bqc]
  refine DCall.by0 (from_c (sumF X N) _) ?_
  simp only [push_cast, simprocAttr, c5_vals, iL_vals, pk_1, bqc]
  refine DCall.by (cadm_c m.length 0 N X b _ (by rw [lk_app0]; rfl) hSm (by omega) h1 h2) ?_
  simp only [push_cast, simprocAttr, c5_vals, iL_vals, pk_1, bqc]
  refine DCall.by ((by have h := fun M q1 q2 => radm_c (m.length + 1) 0 N (m.length + 3) N X id b M q1 q2 (fun i hi => hi) hSm (by omega) h1 h2; rw [ha] at h; exact h _ (by rw [lk_app]; rfl) ⟨.grow, 1, by rw [lk_app]; rfl⟩)) ?_
  simp only [push_cast, simprocAttr, c5_vals, iL_vals, pk_1, bqc]
  refine DCall.by0 (isame_c (m.length + 4) 0 (m.length + 5) 0 (admS X b N).2 _ ⟨.grow, 1, by rw [lk_app]; rfl⟩ ⟨.grow, 1, by rw [lk_app]; rfl⟩ (by omega)) ?_
  simp only [push_cast, simprocAttr, c5_vals, iL_vals, pk_1, bqc]
  refine DCall.by (cheap_c m.length 0 N X b _ (by rw [lk_app0]; rfl) hSm hNl h1 h2) ?_
  simp only [push_cast, simprocAttr, c5_vals, iL_vals, pk_1, bqc]
  refine DCall.by (byb_c (m.length + 1) 0 N X _ (by rw [lk_app]; rfl) (by omega)) ?_
  simp only [push_cast, simprocAttr, c5_vals, iL_vals, pk_1, bqc]
  refine DCall.by ((by have h := fun M q1 q2 => radm_c (m.length + 1) 0 N (m.length + 7) 0 X (byS (fun e => X e 4) N N).2 b M q1 q2 hbo hSm (by omega) h1 h2; rw [← hch] at h; exact h _ (by rw [lk_app]; rfl) ⟨.grow, 1, by rw [lk_app]; rfl⟩)) ?_
  simp only [push_cast, simprocAttr, c5_vals, iL_vals, pk_1, bqc]
  refine DCall.by0 (isame_c (m.length + 6) 0 (m.length + 8) 0 (chL X b N) _ ⟨.grow, 1, by rw [lk_app]; rfl⟩ ⟨.grow, 1, by rw [lk_app]; rfl⟩ (by omega)) ?_
  simp only [push_cast, simprocAttr, c5_vals, iL_vals, pk_1, bqc]
  apply hK;clear hK K
  refine AW.ret ?_
  refine hQ _ _ _ ?_
  first | refine RetP.drop0 (Or.inr rfl) ?_ ?_ hwf | refine RetP.drop (Or.inr rfl) ?_ ?_ hwf
  · simp only [resA, resOne, resTv, AV.tv, push_cast, simprocAttr, c5_vals, iL_vals, pk_1, bqc]
  · rfl
end Go.Proofs.YtdeacicnfglhdaaGreatDoor
