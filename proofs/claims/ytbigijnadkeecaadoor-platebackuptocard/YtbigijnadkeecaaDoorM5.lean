/- Walks and facts of this seat's program over abstract states, printed by programs of mine; no conditions but those that each theorem names. -/
import Derived.Test.YtbigijnadkeecaaDoorM4
set_option linter.unusedSimpArgs false
set_option linter.unusedVariables false
set_option maxRecDepth 100000
set_option maxHeartbeats 4000000
namespace Go.Proofs.YtbigijnadkeecaaDoor
open Go Go.Eng

/-- The bytes of dots. -/
def dB : Nat → (Nat → Nat → Int) → List Int
  | 0, _ => []
  | n + 1, G => dB n G ++ [G n 0, G n 1, G n 2]
theorem dB_len : ∀ (n : Nat) (G : Nat → Nat → Int), (dB n G).length = 3 * n
  | 0, _ => rfl
  | n + 1, G => by
    show (dB n G ++ _).length = _
    rw [List.length_append, dB_len n G]; show _ + 3 = _; omega
theorem d8_dB : ∀ (n : Nat) (G : Nat → Nat → Int), d8 n G = u8c (dB n G)
  | 0, _ => rfl
  | n + 1, G => by
    rw [← d8_snoc, d8_dB n G]
    show u8c (dB n G) ++ u8c [G n 0, G n 1, G n 2] = u8c (dB n G ++ [G n 0, G n 1, G n 2])
    rw [u8c_app]
def encR (W H : Int) (n : Nat) (G : Nat → Nat → Int) : List Int × Int := if shR W H n = true then (hdI W.toNat H.toNat ++ dB n G, 0) else ([], 1)
theorem sz_nat {W H : Int} (h : szR W H = true) : ∃ w hh : Nat, W = (w : Int) ∧ H = (hh : Int) ∧ 1 ≤ w ∧ w ≤ 64 ∧ 1 ≤ hh ∧ hh ≤ 64 := by
  unfold szR at h
  simp only [Bool.and_eq_true, decide_eq_true_eq] at h
  exact ⟨W.toNat, H.toNat, by omega, by omega, by omega, by omega, by omega, by omega⟩
theorem sh_sz {W H : Int} {n : Nat} (h : shR W H n = true) : szR W H = true ∧ (n : Int) = IntKind.i64.wrap (W * H) := by
  unfold shR at h
  simpa using h
theorem sh_no {W H : Int} {n : Nat} (h : szR W H = false) : shR W H n = false := by unfold shR; rw [h]; rfl
theorem picRight_no (W H : Int) (r v n : Nat) (m : AMem) (hz : szR W H = false) : Ctr Tryd.prog 17 [.agg [.int .i64 W, .int .i64 H, .sl r v 0 n]] m (.one (.bool (shR W H n))) m := by
  refine Ctr.enter Tryd.func17 rfl (by decide) (rs := [.tmp 2]) (nt := 15) rfl rfl fun hwf Q hQ => ?_
  have hr := sh_no (n := n) hz
  refine AW.seq_k fun K hK => ?_
  refine AW.region (by decide) ?_
  simp only [push_cast, simprocAttr, hz]
  refine Thn_n ?_
  refine hK _ _ ?_
  clear hK K
  refine AW.seq_k fun K hK => ?_
  refine AW.draw [.val, .rd 0, .ext, .val, .val, .rd 1, .val, .val, .rd 1, .ext, .val, .val, .val] fol (by decide) (by kernel_rfl) ?_
  simp only [push_cast, simprocAttr, hz]
  refine DCall.by0 (sizeRight_c _ _ _) ?_
  simp only [push_cast, simprocAttr, hz]
  refine Thn_n ?_
  refine hK _ _ ?_
  clear hK K
  refine AW.ret ?_
  refine hQ _ _ _ ?_
  first | refine RetP.drop0 (Or.inr rfl) ?_ ?_ hwf | refine RetP.drop (Or.inr rfl) ?_ ?_ hwf
  · simp only [resA, resOne, resTv, AV.tv, push_cast, simprocAttr, hz, hr]
  · rfl
theorem picRight_a (W H : Int) (r v n : Nat) (m : AMem) : Ctr Tryd.prog 17 [.agg [.int .i64 W, .int .i64 H, .sl r v 0 n]] m (.one (.bool (shR W H n))) m := by
  cases hz : szR W H
  · exact picRight_no W H r v n m hz
  · exact picRight_c W H r v n m hz
theorem rpicRight_true (W H : Int) (r v n : Nat) (m : AMem) (hz : szR W H = true) : Ctr Tryd.prog 27 [.agg [.int .i64 W, .int .i64 H, .sl r v 0 n]] m (.one (.bool (shR W H n))) m := by
  refine Ctr.enter Tryd.func27 rfl (by decide) (rs := [.tmp 2]) (nt := 19) rfl rfl fun hwf Q hQ => ?_
  refine AW.seq_k fun K hK => ?_
  refine AW.region (by decide) ?_
  simp only [push_cast, simprocAttr, hz]
  refine Thn_n ?_
  refine hK _ _ ?_
  clear hK K
  refine AW.seq_k fun K hK => ?_
  refine AW.region (by decide) ?_
  simp only [push_cast, simprocAttr, hz]
  refine CThen.by (rightSize_c _ _ _) ?_
  simp only [push_cast, simprocAttr, hz]
  refine Thn_n ?_
  refine hK _ _ ?_
  clear hK K
  refine AW.ret ?_
  refine hQ _ _ _ ?_
  first | refine RetP.drop0 (Or.inr rfl) ?_ ?_ hwf | refine RetP.drop (Or.inr rfl) ?_ ?_ hwf
  · simp only [resA, resOne, resTv, AV.tv, push_cast, simprocAttr, hz, shR]
  · rfl
theorem rpicRight_false (W H : Int) (r v n : Nat) (m : AMem) (hz : szR W H = false) : Ctr Tryd.prog 27 [.agg [.int .i64 W, .int .i64 H, .sl r v 0 n]] m (.one (.bool (shR W H n))) m := by
  refine Ctr.enter Tryd.func27 rfl (by decide) (rs := [.tmp 2]) (nt := 19) rfl rfl fun hwf Q hQ => ?_
  have hr := sh_no (n := n) hz
  refine AW.seq_k fun K hK => ?_
  refine AW.region (by decide) ?_
  simp only [push_cast, simprocAttr, hz]
  refine Thn_n ?_
  refine hK _ _ ?_
  clear hK K
  refine AW.seq_k fun K hK => ?_
  refine AW.region (by decide) ?_
  simp only [push_cast, simprocAttr, hz]
  refine CThen.by (rightSize_c _ _ _) ?_
  simp only [push_cast, simprocAttr, hz]
  refine Thn_n ?_
  refine hK _ _ ?_
  clear hK K
  refine AW.ret ?_
  refine hQ _ _ _ ?_
  first | refine RetP.drop0 (Or.inr rfl) ?_ ?_ hwf | refine RetP.drop (Or.inr rfl) ?_ ?_ hwf
  · simp only [resA, resOne, resTv, AV.tv, push_cast, simprocAttr, hz, hr]
  · rfl
theorem rpicRight_a (W H : Int) (r v n : Nat) (m : AMem) : Ctr Tryd.prog 27 [.agg [.int .i64 W, .int .i64 H, .sl r v 0 n]] m (.one (.bool (shR W H n))) m := by
  cases hz : szR W H
  · exact rpicRight_false W H r v n m hz
  · exact rpicRight_true W H r v n m hz
theorem enc_ok (r v n : Nat) (w h : Nat) (hw : 1 ≤ w ∧ w ≤ 64) (hh : 1 ≤ h ∧ h ≤ 64) (hs : shR (w : Int) (h : Int) n = true) (G : Nat → Nat → Int) (m : AMem) (hp : ∃ k ez, m[r]? = some ⟨k, 69, v, ez, d8 n G⟩) (hn : n ≤ 5000) : Ctr Tryd.prog 20 [.agg [.int .i64 (w : Int), .int .i64 (h : Int), .sl r v 0 n]] m (.tup [(false, [.sl m.length 0 0 (hdI w h ++ dB n G).length]), (false, [.int .i64 0])]) (m ++ [⟨.grow, 5, 0, 0, u8c (hdI w h ++ dB n G)⟩]) := by
  refine Ctr.enter Tryd.func20 rfl (by decide) (rs := [.tmp 2, .tmp 3]) (nt := 24) rfl rfl fun hwf Q hQ => ?_
  obtain ⟨k0, ez, hb⟩ := hp
  have hr0 := get_lt hb
  have hlt0 : ∀ k, ¬ m.length + k < m.length := fun k => by omega
  have hl := hdB_len (w := w) (h := h) (by omega) (by omega)
  rw [← hdI_len] at hl
  obtain ⟨hd, hhd⟩ : ∃ hd, hd = hdI w h := ⟨_, rfl⟩
  rw [← hhd] at hl
  have hlen : (hd ++ dB n G).length = hd.length + 3 * n := by rw [List.length_append, dB_len]
  rw [← hhd] at hQ
  rw [hlen] at hQ
  have h0 : hd.length + 3 * 0 = hd.length := by omega
  have d0 : dB 0 G = [] := rfl
  refine AW.seq_k fun K hK => ?_
  refine AW.region (by decide) ?_
  simp only [push_cast, simprocAttr, hb, lk_old hb, hs, imp_self, forall_const]
  refine Thn_n ?_
  refine hK _ _ ?_
  clear hK K
  refine AW.seq_k fun K hK => ?_
  refine AW.seq_k fun K hK => ?_
  refine AW.region (by decide) ?_
  simp only [push_cast, simprocAttr, hb, lk_old hb, hs, imp_self, forall_const]
  refine CThen.by (picRight_a _ _ _ _ _ _) ?_
  simp only [push_cast, simprocAttr, hb, lk_old hb, hs, imp_self, forall_const]
  refine Thn_n ?_
  refine hK _ _ ?_
  clear hK K
  refine AW.cond_f rfl ?_
  refine AW.skip ?_
  refine Thn_n ?_
  refine hK _ _ ?_
  clear hK K
  refine AW.seq_k fun K hK => ?_
  refine AW.region (by decide) ?_
  simp only [push_cast, simprocAttr, hb, lk_old hb, hs, imp_self, forall_const]
  refine CThen.by (head_c w h _ (by omega) (by omega) _) ?_
  simp only [push_cast, simprocAttr, hb, lk_old hb, hs, imp_self, forall_const]
  refine Thn_n ?_
  refine hK _ _ ?_
  clear hK K
  refine AW.seq_k fun K hK => ?_
  refine AW.seq_k fun K hK => ?_
  simp only [← hhd]
  refine AW.region (by decide) ?_
  simp only [push_cast, simprocAttr, hb, lk_old hb, hs, imp_self, forall_const]
  refine Thn_n ?_
  refine hK _ _ ?_
  clear hK K
  refine AW.block ?_
  refine AW.loopK [13, 14] (fun i => i ≤ n) (fun i => [(4, .one (.sl (m.length + 1) i 0 (hd.length + 3 * i))), (15, .one (.int .i64 (i : Int)))]) (fun i => [(m.length + 1, ⟨.grow, 5, i, 0, u8c (hd ++ dB i G)⟩)]) (fun i => n - i) 0 (by omega) ?_ ?_ fun i hi7 => ?_
  · first | rfl | (simp only [Keeps, Tm.get_cons, Nat.reduceEqDiff, ↓reduceIte, if_true, if_false, ite_true, ite_false, true_and, and_true, and_self, reduceCtorEq, Int.natCast_zero, h0, d0, List.append_nil] <;> rfl)
  · first | rfl | (simp only [setAll, push_cast, simprocAttr, hb, lk_old hb, hs, imp_self, forall_const, Int.natCast_zero, h0, d0, List.append_nil] <;> rfl)
  try simp only [keepL, setAll, push_cast, simprocAttr, hb, lk_old hb, hs, imp_self, forall_const]
  refine AW.seq_k fun K hK => ?_
  refine AW.region (by decide) ?_
  simp only [push_cast, simprocAttr, hb, lk_old hb, hs, imp_self, forall_const]
  refine Thn_n ?_
  refine hK _ _ ?_
  clear hK K
  refine AW.seq_k fun K hK => ?_
  refine AW.cond rfl (fun h16 => ?_) (fun h16 => ?_)
  · have hlt : i < n := by have := of_decide_eq_true h16; omega
    have c1 : (0 : Int) ≤ (i : Int) := by omega
    have c2 : (i : Int) < (n : Nat) := by omega
    have c3 : i * 3 + 3 ≤ n * 3 := by omega
    have g0 := d8_get0 (G := G) hlt
    have g1 := d8_get1 (G := G) hlt
    have g2 := d8_get2 (G := G) hlt
    have g3 := d8_at (G := G) hlt
    have gl := d8_len n G
    have hst : u8c (hd ++ dB i G) ++ [.int .u8 (G i 0), .int .u8 (G i 1), .int .u8 (G i 2)] = u8c (hd ++ dB (i + 1) G) := by
      show u8c (hd ++ dB i G) ++ u8c [G i 0, G i 1, G i 2] = _
      rw [u8c_app, List.append_assoc]; rfl
    have hcl : (u8c (hd ++ dB i G)).length = hd.length + 3 * i := by rw [u8c_len, List.length_append, dB_len]
    have h3i : 3 * (i + 1) = 3 * i + 3 := by omega
    have m1 : hd.length + (3 * i + 3) ≤ 140737488355328 := by omega
    have m2 : hd.length + 3 * i ≤ 140737488355325 := by omega
    have a3 := Nat.add_assoc hd.length (3 * i) 3
    refine AW.skip ?_
    refine Thn_n ?_
    refine hK _ _ ?_
    clear hK K
    refine AW.seq_k fun K hK => ?_
    refine AW.block ?_
    refine AW.seq_k fun K hK => ?_
    refine AW.region (by decide) ?_
    simp only [push_cast, simprocAttr, hb, lk_old hb, hs, imp_self, forall_const, c1, c2, c3, g0, g1, g2, g3, gl, hcl, m1, m2]
    refine Thn_n ?_
    refine hK _ _ ?_
    clear hK K
    refine AW.region (by decide) ?_
    simp only [push_cast, simprocAttr, hb, lk_old hb, hs, imp_self, forall_const, c1, c2, c3, g0, g1, g2, g3, gl, hcl, m1, m2]
    refine InB_n ?_
    refine Thn_n ?_
    refine hK _ _ ?_
    clear hK K
    refine AW.region (by decide) ?_
    simp only [push_cast, simprocAttr, hb, lk_old hb, hs, imp_self, forall_const, c1, c2, c3, g0, g1, g2, g3, gl, hcl, m1, m2]
    refine Thn_n ?_
    have hwi : IntKind.i64.wrap ((i : Int) + 1) = (i : Int) + 1 := wi (by omega)
    refine ⟨i + 1, by omega, by omega, ?_⟩
    try simp only [keepL, setAll, push_cast, simprocAttr, hb, lk_old hb, hs, imp_self, forall_const, c1, c2, c3, g0, g1, g2, g3, gl, hcl, m1, m2, hwi, hst, h3i]
    exact Weak.to (extra := [_]) (by simp only [Keeps, Tm.get_cons, Nat.reduceEqDiff, ↓reduceIte, if_true, if_false, ite_true, ite_false, true_and, and_true, and_self, reduceCtorEq, hwi, hst, h3i]) (by first | rfl | (simp only [List.append_assoc, List.cons_append, List.nil_append]; rfl)) (by first | rfl | (simp [AV.below, CV.below, u8c_below]; done) | (simp [AV.below, CV.below, u8c_below]; omega)) (by
      first | exact hwf | refine MWf.app (hwf.grow (by simp)) ?_
      repeat (first | exact MWf_nil | (refine MWf_cons ?_ ?_; · first | rfl | (simp [CV.below, u8c_below]; done) | (simp [CV.below, u8c_below]; omega))))
  · have hin : i = n := by have := of_decide_eq_false h16; omega
    have hin2 := hin.symm
    subst hin2
    refine AW.exit ?_
    refine Thn_e ?_
    clear hK K
    refine Thn_e ?_
    refine InB_here ?_
    refine Thn_n ?_
    refine hK _ _ ?_
    clear hK K
    refine AW.seq_k fun K hK => ?_
    refine AW.region (by decide) ?_
    simp only [push_cast, simprocAttr, hb, lk_old hb, hs, imp_self, forall_const]
    refine Thn_n ?_
    refine hK _ _ ?_
    clear hK K
    refine AW.ret ?_
    refine hQ _ _ _ ?_
    refine RetP.pick [(m.length + 1, n)] (Or.inr rfl) ?_ ?_ ?_ hwf ?_
    · simp only [resA, resOne, resTv, AV.tv, push_cast, simprocAttr]
      simp [renV, renT, renL, renC, renIdx, hlt0]
    · simp only [picks, push_cast, simprocAttr, hhd]
    · simp [distinctFrom]
    · exact MWf_one (u8c_below _ _)
theorem enc_no (r v n : Nat) (W H : Int) (hs : shR W H n = false) (G : Nat → Nat → Int) (m : AMem) (hp : ∃ k ez, m[r]? = some ⟨k, 69, v, ez, d8 n G⟩) (hn : n ≤ 5000) : Ctr Tryd.prog 20 [.agg [.int .i64 W, .int .i64 H, .sl r v 0 n]] m (.tup [(false, [.nils]), (false, [.int .i64 1])]) m := by
  refine Ctr.enter Tryd.func20 rfl (by decide) (rs := [.tmp 2, .tmp 3]) (nt := 24) rfl rfl fun hwf Q hQ => ?_
  refine AW.seq_k fun K hK => ?_
  refine AW.region (by decide) ?_
  simp only [push_cast, simprocAttr, hs]
  refine Thn_n ?_
  refine hK _ _ ?_
  clear hK K
  refine AW.seq_k fun K hK => ?_
  refine AW.seq_k fun K hK => ?_
  refine AW.region (by decide) ?_
  simp only [push_cast, simprocAttr, hs]
  refine CThen.by (picRight_a _ _ _ _ _ _) ?_
  simp only [push_cast, simprocAttr, hs]
  refine Thn_n ?_
  refine hK _ _ ?_
  clear hK K
  refine AW.cond_t rfl ?_
  refine AW.seq_k fun K hK => ?_
  refine AW.region (by decide) ?_
  simp only [push_cast, simprocAttr, hs]
  refine Thn_n ?_
  refine hK _ _ ?_
  clear hK K
  refine AW.ret ?_
  refine Thn_r ?_
  refine hQ _ _ _ ?_
  first | refine RetP.drop0 (Or.inr rfl) ?_ ?_ hwf | refine RetP.drop (Or.inr rfl) ?_ ?_ hwf
  · simp only [resA, resOne, resTv, AV.tv, push_cast, simprocAttr, hs]
  · rfl
theorem enc_c (W H : Int) (r v n : Nat) (G : Nat → Nat → Int) (m : AMem) (hp : ∃ k ez, m[r]? = some ⟨k, 69, v, ez, d8 n G⟩) (hn : n ≤ 5000) : Ctr Tryd.prog 20 [.agg [.int .i64 W, .int .i64 H, .sl r v 0 n]] m (.tup [(false, [.sl m.length 0 0 (encR W H n G).1.length]), (false, [.int .i64 (encR W H n G).2])]) (m ++ [⟨.grow, 5, 0, 0, u8c (encR W H n G).1⟩]) := by
  cases hs : shR W H n
  · have h1 := enc_no r v n W H hs G m hp hn
    unfold encR
    rw [hs]
    have h2 := h1.nil (ret' := .tup [(false, [.sl m.length 0 0 0]), (false, [.int .i64 1])]) 5 0 (by simp [nilV, All2, nilC])
    exact h2
  · obtain ⟨w, h, rfl, rfl, a, b, c, d⟩ := sz_nat (sh_sz hs).1
    unfold encR
    rw [if_pos hs]
    exact enc_ok r v n w h ⟨a, b⟩ ⟨c, d⟩ hs G m hp hn
theorem renc_ok (r v n : Nat) (w h : Nat) (hw : 1 ≤ w ∧ w ≤ 64) (hh : 1 ≤ h ∧ h ≤ 64) (hs : shR (w : Int) (h : Int) n = true) (G : Nat → Nat → Int) (m : AMem) (hp : ∃ k ez, m[r]? = some ⟨k, 69, v, ez, d8 n G⟩) (hn : n ≤ 5000) : Ctr Tryd.prog 22 [.agg [.int .i64 (w : Int), .int .i64 (h : Int), .sl r v 0 n]] m (.tup [(false, [.sl m.length 0 0 (hdI w h ++ dB n G).length]), (false, [.int .i64 0])]) (m ++ [⟨.grow, 5, 0, 0, u8c (hdI w h ++ dB n G)⟩]) := by
  refine Ctr.enter Tryd.func22 rfl (by decide) (rs := [.tmp 2, .tmp 3]) (nt := 43) rfl rfl fun hwf Q hQ => ?_
  obtain ⟨k0, ez, hb⟩ := hp
  have hr0 := get_lt hb
  have hlt0 : ∀ k, ¬ m.length + k < m.length := fun k => by omega
  have hl := hdB_len (w := w) (h := h) (by omega) (by omega)
  rw [← hdI_len] at hl
  obtain ⟨hd, hhd⟩ : ∃ hd, hd = hdI w h := ⟨_, rfl⟩
  rw [← hhd] at hl
  have hlen : (hd ++ dB n G).length = hd.length + 3 * n := by rw [List.length_append, dB_len]
  rw [← hhd] at hQ
  rw [hlen] at hQ
  have h0 : hd.length + 3 * 0 = hd.length := by omega
  have d0 : dB 0 G = [] := rfl
  refine AW.seq_k fun K hK => ?_
  refine AW.region (by decide) ?_
  simp only [push_cast, simprocAttr, hb, lk_old hb, hs, imp_self, forall_const]
  refine Thn_n ?_
  refine hK _ _ ?_
  clear hK K
  refine AW.seq_k fun K hK => ?_
  refine AW.seq_k fun K hK => ?_
  refine AW.region (by decide) ?_
  simp only [push_cast, simprocAttr, hb, lk_old hb, hs, imp_self, forall_const]
  refine CThen.by (rpicRight_a _ _ _ _ _ _) ?_
  simp only [push_cast, simprocAttr, hb, lk_old hb, hs, imp_self, forall_const]
  refine Thn_n ?_
  refine hK _ _ ?_
  clear hK K
  refine AW.cond_f rfl ?_
  refine AW.skip ?_
  refine Thn_n ?_
  refine hK _ _ ?_
  clear hK K
  refine AW.seq_k fun K hK => ?_
  refine AW.region (by decide) ?_
  simp only [push_cast, simprocAttr, hb, lk_old hb, hs, imp_self, forall_const]
  refine CThen.by (rhead_c w h (by omega) (by omega) _) ?_
  simp only [push_cast, simprocAttr, hb, lk_old hb, hs, imp_self, forall_const]
  refine Thn_n ?_
  refine hK _ _ ?_
  clear hK K
  refine AW.seq_k fun K hK => ?_
  refine AW.seq_k fun K hK => ?_
  simp only [← hhd]
  refine AW.region (by decide) ?_
  simp only [push_cast, simprocAttr, hb, lk_old hb, hs, imp_self, forall_const]
  refine Thn_n ?_
  refine hK _ _ ?_
  clear hK K
  refine AW.block ?_
  refine AW.loopK [1] (fun i => i ≤ n) (fun i => [(4, .one (.sl (m.length + 1) i 0 (hd.length + 3 * i))), (5, .one (.int .i64 (i : Int)))]) (fun i => [(m.length + 1, ⟨.grow, 5, i, 0, u8c (hd ++ dB i G)⟩)]) (fun i => n - i) 0 (by omega) ?_ ?_ fun i hi7 => ?_
  · first | rfl | (simp only [Keeps, Tm.get_cons, Nat.reduceEqDiff, ↓reduceIte, if_true, if_false, ite_true, ite_false, true_and, and_true, and_self, reduceCtorEq, Int.natCast_zero, h0, d0, List.append_nil] <;> rfl)
  · first | rfl | (simp only [setAll, push_cast, simprocAttr, hb, lk_old hb, hs, imp_self, forall_const, Int.natCast_zero, h0, d0, List.append_nil] <;> rfl)
  try simp only [keepL, setAll, push_cast, simprocAttr, hb, lk_old hb, hs, imp_self, forall_const]
  refine AW.seq_k fun K hK => ?_
  refine AW.seq_k fun K hK => ?_
  refine AW.region (by decide) ?_
  simp only [push_cast, simprocAttr, hb, lk_old hb, hs, imp_self, forall_const]
  refine Thn_n ?_
  refine hK _ _ ?_
  clear hK K
  refine AW.cond rfl (fun h18 => ?_) (fun h18 => ?_)
  · have hlt : i < n := by have := of_decide_eq_true h18; omega
    have c1 : (0 : Int) ≤ (i : Int) := by omega
    have c2 : (i : Int) < (n : Nat) := by omega
    have c3 : i * 3 + 3 ≤ n * 3 := by omega
    have g0 := d8_get0 (G := G) hlt
    have g1 := d8_get1 (G := G) hlt
    have g2 := d8_get2 (G := G) hlt
    have g3 := d8_at (G := G) hlt
    have gl := d8_len n G
    have hst : u8c (hd ++ dB i G) ++ [.int .u8 (G i 0), .int .u8 (G i 1), .int .u8 (G i 2)] = u8c (hd ++ dB (i + 1) G) := by
      show u8c (hd ++ dB i G) ++ u8c [G i 0, G i 1, G i 2] = _
      rw [u8c_app, List.append_assoc]; rfl
    have hcl : (u8c (hd ++ dB i G)).length = hd.length + 3 * i := by rw [u8c_len, List.length_append, dB_len]
    have h3i : 3 * (i + 1) = 3 * i + 3 := by omega
    have m1 : hd.length + (3 * i + 3) ≤ 140737488355328 := by omega
    have m2 : hd.length + 3 * i ≤ 140737488355325 := by omega
    have a3 := Nat.add_assoc hd.length (3 * i) 3
    refine AW.skip ?_
    refine Thn_n ?_
    refine hK _ _ ?_
    clear hK K
    refine AW.seq_k fun K hK => ?_
    refine AW.block ?_
    refine AW.draw [.val, .val, .rd 0, .val, .val, .val, .rd 0, .val, .rd 0, .val, .val, .val, .rd 0, .val, .rd 0, .val, .val, .val, .rd 0, .ext, .wr, .val] fol (by decide) (by kernel_rfl) ?_
    simp only [push_cast, simprocAttr, hb, lk_old hb, hs, imp_self, forall_const, c1, c2, c3, g0, g1, g2, g3, gl, hcl, m1, m2]
    refine DExt.by (by first | rfl | exact (List.append_nil _).symm | (simp only [List.append_assoc, List.cons_append, List.nil_append]; rfl)) ?_
    simp only [push_cast, simprocAttr, hb, lk_old hb, hs, imp_self, forall_const, c1, c2, c3, g0, g1, g2, g3, gl, hcl, m1, m2]
    refine InB_n ?_
    refine Thn_n ?_
    refine hK _ _ ?_
    clear hK K
    refine AW.region (by decide) ?_
    simp only [push_cast, simprocAttr, hb, lk_old hb, hs, imp_self, forall_const, c1, c2, c3, g0, g1, g2, g3, gl, hcl, m1, m2]
    refine Thn_n ?_
    have hwi : IntKind.i64.wrap ((i : Int) + 1) = (i : Int) + 1 := wi (by omega)
    refine ⟨i + 1, by omega, by omega, ?_⟩
    try simp only [keepL, setAll, push_cast, simprocAttr, hb, lk_old hb, hs, imp_self, forall_const, c1, c2, c3, g0, g1, g2, g3, gl, hcl, m1, m2, hwi, hst, h3i]
    exact Weak.to (extra := [_]) (by simp only [Keeps, Tm.get_cons, Nat.reduceEqDiff, ↓reduceIte, if_true, if_false, ite_true, ite_false, true_and, and_true, and_self, reduceCtorEq, hwi, hst, h3i]) (by first | rfl | (simp only [List.append_assoc, List.cons_append, List.nil_append]; rfl)) (by first | rfl | (simp [AV.below, CV.below, u8c_below]; done) | (simp [AV.below, CV.below, u8c_below]; omega)) (by
      first | exact hwf | refine MWf.app (hwf.grow (by simp)) ?_
      repeat (first | exact MWf_nil | (refine MWf_cons ?_ ?_; · first | rfl | (simp [CV.below, u8c_below]; done) | (simp [CV.below, u8c_below]; omega))))
  · have hin : i = n := by have := of_decide_eq_false h18; omega
    have hin2 := hin.symm
    subst hin2
    refine AW.exit ?_
    refine Thn_e ?_
    clear hK K
    refine Thn_e ?_
    refine InB_here ?_
    refine Thn_n ?_
    refine hK _ _ ?_
    clear hK K
    refine AW.seq_k fun K hK => ?_
    refine AW.region (by decide) ?_
    simp only [push_cast, simprocAttr, hb, lk_old hb, hs, imp_self, forall_const]
    refine Thn_n ?_
    refine hK _ _ ?_
    clear hK K
    refine AW.ret ?_
    refine hQ _ _ _ ?_
    refine RetP.pick [(m.length + 1, n)] (Or.inr rfl) ?_ ?_ ?_ hwf ?_
    · simp only [resA, resOne, resTv, AV.tv, push_cast, simprocAttr]
      simp [renV, renT, renL, renC, renIdx, hlt0]
    · simp only [picks, push_cast, simprocAttr, hhd]
    · simp [distinctFrom]
    · exact MWf_one (u8c_below _ _)
theorem renc_no (r v n : Nat) (W H : Int) (hs : shR W H n = false) (G : Nat → Nat → Int) (m : AMem) (hp : ∃ k ez, m[r]? = some ⟨k, 69, v, ez, d8 n G⟩) (hn : n ≤ 5000) : Ctr Tryd.prog 22 [.agg [.int .i64 W, .int .i64 H, .sl r v 0 n]] m (.tup [(false, [.nils]), (false, [.int .i64 1])]) m := by
  refine Ctr.enter Tryd.func22 rfl (by decide) (rs := [.tmp 2, .tmp 3]) (nt := 43) rfl rfl fun hwf Q hQ => ?_
  refine AW.seq_k fun K hK => ?_
  refine AW.region (by decide) ?_
  simp only [push_cast, simprocAttr, hs]
  refine Thn_n ?_
  refine hK _ _ ?_
  clear hK K
  refine AW.seq_k fun K hK => ?_
  refine AW.seq_k fun K hK => ?_
  refine AW.region (by decide) ?_
  simp only [push_cast, simprocAttr, hs]
  refine CThen.by (rpicRight_a _ _ _ _ _ _) ?_
  simp only [push_cast, simprocAttr, hs]
  refine Thn_n ?_
  refine hK _ _ ?_
  clear hK K
  refine AW.cond_t rfl ?_
  refine AW.seq_k fun K hK => ?_
  refine AW.region (by decide) ?_
  simp only [push_cast, simprocAttr, hs]
  refine Thn_n ?_
  refine hK _ _ ?_
  clear hK K
  refine AW.ret ?_
  refine Thn_r ?_
  refine hQ _ _ _ ?_
  first | refine RetP.drop0 (Or.inr rfl) ?_ ?_ hwf | refine RetP.drop (Or.inr rfl) ?_ ?_ hwf
  · simp only [resA, resOne, resTv, AV.tv, push_cast, simprocAttr, hs]
  · rfl
theorem renc_c (W H : Int) (r v n : Nat) (G : Nat → Nat → Int) (m : AMem) (hp : ∃ k ez, m[r]? = some ⟨k, 69, v, ez, d8 n G⟩) (hn : n ≤ 5000) : Ctr Tryd.prog 22 [.agg [.int .i64 W, .int .i64 H, .sl r v 0 n]] m (.tup [(false, [.sl m.length 0 0 (encR W H n G).1.length]), (false, [.int .i64 (encR W H n G).2])]) (m ++ [⟨.grow, 5, 0, 0, u8c (encR W H n G).1⟩]) := by
  cases hs : shR W H n
  · have h1 := renc_no r v n W H hs G m hp hn
    unfold encR
    rw [hs]
    have h2 := h1.nil (ret' := .tup [(false, [.sl m.length 0 0 0]), (false, [.int .i64 1])]) 5 0 (by simp [nilV, All2, nilC])
    exact h2
  · obtain ⟨w, h, rfl, rfl, a, b, c, d⟩ := sz_nat (sh_sz hs).1
    unfold encR
    rw [if_pos hs]
    exact renc_ok r v n w h ⟨a, b⟩ ⟨c, d⟩ hs G m hp hn
end Go.Proofs.YtbigijnadkeecaaDoor

set_option linter.unusedSimpArgs false
set_option linter.unusedVariables false
set_option maxRecDepth 100000
set_option maxHeartbeats 4000000
namespace Go.Proofs.YtbigijnadkeecaaDoor
open Go Go.Eng

theorem bytesA_u8c : ∀ xs : List Int, bytesA (u8c xs) = some xs
  | [] => rfl
  | x :: xs => by
    show bytesA (CV.int .u8 x :: u8c xs) = _
    rw [bytesA, bytesA_u8c xs]; rfl
theorem u8c_cut (xs : List Int) (o n : Nat) : ((u8c xs).drop o).take n = u8c ((xs.drop o).take n) := by
  unfold u8c; rw [← List.map_drop, ← List.map_take]
theorem u8c_get {xs : List Int} {i : Nat} {x : Int} (h : xs[i]? = some x) : (u8c xs)[i]? = some (.int .u8 x) := by
  unfold u8c; rw [List.getElem?_map, h]; rfl
def ByteL (xs : List Int) : Prop := ∀ x, x ∈ xs → 0 ≤ x ∧ x < 256
theorem strB_go : ∀ (xs : List Int) (b : ByteArray), (xs.foldl (fun r n => r.push (UInt8.ofNat n.toNat)) b).data.toList = b.data.toList ++ Lib.bytesOf xs
  | [], b => by simp [Lib.bytesOf]
  | x :: xs, b => by
    rw [List.foldl_cons, strB_go xs]
    simp [Lib.bytesOf, ByteArray.push]
theorem strB_data (xs : List Int) : (strB xs).data.toList = Lib.bytesOf xs := by
  unfold strB; rw [strB_go]; rfl
theorem strB_eq (xs : List Int) : strB xs = ⟨(Lib.bytesOf xs).toArray⟩ := by
  apply ByteArray.ext
  apply Array.toList_inj.1
  rw [strB_data]
theorem strB_tl (xs : List Int) : (strB xs).toList = Lib.bytesOf xs := by rw [Lib.toList_data, strB_data]
theorem mk_tl (l : List UInt8) : (⟨l.toArray⟩ : ByteArray).toList = l := by rw [Lib.toList_data]
theorem strB_size (xs : List Int) : (strB xs).size = xs.length := by
  rw [strB_eq]; show (Lib.bytesOf xs).length = _; unfold Lib.bytesOf; rw [List.length_map]
theorem bI_bytes : ∀ {xs : List Int}, ByteL xs → bI (Lib.bytesOf xs) = xs
  | [], _ => rfl
  | x :: xs, h => by
    have h1 := h x List.mem_cons_self
    have ih := bI_bytes (xs := xs) fun y hy => h y (List.mem_cons_of_mem _ hy)
    show (((UInt8.ofNat x.toNat).toNat : Nat) : Int) :: bI (Lib.bytesOf xs) = _
    rw [ih]
    congr 1
    have : (UInt8.ofNat x.toNat).toNat = x.toNat := by
      rw [UInt8.toNat_ofNat']
      omega
    rw [this]; omega
theorem bytes_bI : ∀ l : List UInt8, Lib.bytesOf (bI l) = l
  | [] => rfl
  | b :: l => by
    show UInt8.ofNat ((b.toNat : Int)).toNat :: Lib.bytesOf (bI l) = _
    rw [bytes_bI l, Int.toNat_natCast, UInt8.ofNat_toNat]
theorem strB_inj {xs ys : List Int} (hx : ByteL xs) (hy : ByteL ys) (h : Lib.bytesOf xs = Lib.bytesOf ys) : xs = ys := by
  rw [← bI_bytes hx, ← bI_bytes hy, h]
def hpV (ys ps : List Int) : Bool := decide (ps.length ≤ ys.length) && (Lib.bytesOf (ys.take ps.length) == Lib.bytesOf ps)
theorem hpV_iff {ys ps : List Int} (hy : ByteL ys) (hp : ByteL ps) : hpV ys ps = true ↔ ys.take ps.length = ps := by
  unfold hpV
  rw [Bool.and_eq_true, decide_eq_true_eq, beq_iff_eq]
  constructor
  · rintro ⟨_, h⟩
    exact strB_inj (fun x hx => hy x (List.mem_of_mem_take hx)) hp h
  · intro h
    have := congrArg List.length h
    rw [List.length_take] at this
    exact ⟨by omega, by rw [h]⟩
theorem equal_c (r1 v1 o1 r2 v2 n : Nat) (xs ps : List Int) (m : AMem) (hb1 : ∃ k ez, m[r1]? = some ⟨k, 5, v1, ez, u8c xs⟩) (hb2 : ∃ k ez, m[r2]? = some ⟨k, 5, v2, ez, u8c ps⟩) (h1 : o1 + n ≤ xs.length) (h2 : n = ps.length) : Ctr Tryd.prog 70 [.one (.sl r1 v1 o1 n), .one (.sl r2 v2 0 n)] m (.one (.bool (Lib.bytesOf ((xs.drop o1).take n) == Lib.bytesOf ps))) m := by
  refine Ctr.enter Tryd.func70 rfl (by decide) (rs := [.tmp 4]) (nt := 10) rfl rfl fun hwf Q hQ => ?_
  obtain ⟨k1, e1, hb1⟩ := hb1
  obtain ⟨k2, e2, hb2⟩ := hb2
  have q1 := u8c_cut xs o1 n
  have q2 : (u8c ps).take n = u8c ps := List.take_of_length_le (by rw [u8c_len]; omega)
  have q3 := bytesA_u8c ((xs.drop o1).take n)
  have q4 := bytesA_u8c ps
  have q5 := u8c_len xs
  have q6 : n ≤ (u8c ps).length := by rw [u8c_len]; omega
  iterate 2
    refine AW.seq_k fun K hK => ?_
    refine AW.region (by decide) ?_
    simp only [push_cast, simprocAttr, hb1, lk_old hb1, hb2, lk_old hb2, q1, q2, q3, q4, q5, q6, h1, strB_tl]
    refine Thn_n ?_
    refine hK _ _ ?_
    clear hK K
  refine AW.ret ?_
  refine hQ _ _ _ ?_
  first | refine RetP.drop0 (Or.inr rfl) ?_ ?_ hwf | refine RetP.drop (Or.inr rfl) ?_ ?_ hwf
  · simp only [resA, resOne, resTv, AV.tv, push_cast, simprocAttr, hb1, lk_old hb1, hb2, lk_old hb2, q1, q2, q3, q4, q5, q6, h1, strB_tl]
  · rfl
theorem hasP_lo (r v off n rp vp k : Nat) (xs ps : List Int) (m : AMem) (hb : ∃ k ez, m[r]? = some ⟨k, 5, v, ez, u8c xs⟩) (hbp : ∃ k ez, m[rp]? = some ⟨k, 5, vp, ez, u8c ps⟩) (h1 : off + n = xs.length) (hk : k = ps.length) (hk2 : k ≤ 100) (h2 : n < k) : Ctr Tryd.prog 64 [.one (.sl r v off n), .one (.sl rp vp 0 k)] m (.one (.bool (hpV (xs.drop off) ps))) m := by
  refine Ctr.enter Tryd.func64 rfl (by decide) (rs := [.tmp 4]) (nt := 18) rfl rfl fun hwf Q hQ => ?_
  have hdl : (xs.drop off).length = n := by rw [List.length_drop]; omega
  have w1 : ¬ (k : Int) ≤ (n : Int) := by omega
  have hr : hpV (xs.drop off) ps = false := by unfold hpV; rw [hdl, ← hk, decide_eq_false (by omega)]; rfl
  iterate 2
    refine AW.seq_k fun K hK => ?_
    refine AW.region (by decide) ?_
    simp only [push_cast, simprocAttr, w1]
    refine Thn_n ?_
    refine hK _ _ ?_
    clear hK K
  refine AW.ret ?_
  refine hQ _ _ _ ?_
  first | refine RetP.drop0 (Or.inr rfl) ?_ ?_ hwf | refine RetP.drop (Or.inr rfl) ?_ ?_ hwf
  · simp only [resA, resOne, resTv, AV.tv, push_cast, simprocAttr, w1, hr]
  · rfl
theorem hasP_hi (r v off n rp vp k : Nat) (xs ps : List Int) (m : AMem) (hb : ∃ k ez, m[r]? = some ⟨k, 5, v, ez, u8c xs⟩) (hbp : ∃ k ez, m[rp]? = some ⟨k, 5, vp, ez, u8c ps⟩) (h1 : off + n = xs.length) (hk : k = ps.length) (hk2 : k ≤ 100) (h2 : k ≤ n) : Ctr Tryd.prog 64 [.one (.sl r v off n), .one (.sl rp vp 0 k)] m (.one (.bool (hpV (xs.drop off) ps))) m := by
  refine Ctr.enter Tryd.func64 rfl (by decide) (rs := [.tmp 4]) (nt := 18) rfl rfl fun hwf Q hQ => ?_
  have hdl : (xs.drop off).length = n := by rw [List.length_drop]; omega
  have w1 : (k : Int) ≤ (n : Int) := by omega
  have w2 : (0 : Int) ≤ (k : Int) := by omega
  have hr : (Lib.bytesOf ((xs.drop off).take k) == Lib.bytesOf ps) = hpV (xs.drop off) ps := by unfold hpV; rw [hdl, ← hk, decide_eq_true (by omega)]; rfl
  refine AW.seq_k fun K hK => ?_
  refine AW.region (by decide) ?_
  simp only [push_cast, simprocAttr, w1, w2, h2]
  refine Thn_n ?_
  refine hK _ _ ?_
  clear hK K
  refine AW.seq_k fun K hK => ?_
  refine AW.region (by decide) ?_
  simp only [push_cast, simprocAttr, w1, w2, h2]
  refine CThen.by (equal_c r v off rp vp k xs ps _ hb hbp (by omega) hk) ?_
  simp only [push_cast, simprocAttr, w1, w2, h2]
  refine Thn_n ?_
  refine hK _ _ ?_
  clear hK K
  refine AW.ret ?_
  refine hQ _ _ _ ?_
  first | refine RetP.drop0 (Or.inr rfl) ?_ ?_ hwf | refine RetP.drop (Or.inr rfl) ?_ ?_ hwf
  · simp only [resA, resOne, resTv, AV.tv, push_cast, simprocAttr, w1, w2, h2, hr]
  · rfl
theorem hasP_c (r v off n rp vp k : Nat) (xs ps : List Int) (m : AMem) (hb : ∃ k ez, m[r]? = some ⟨k, 5, v, ez, u8c xs⟩) (hbp : ∃ k ez, m[rp]? = some ⟨k, 5, vp, ez, u8c ps⟩) (h1 : off + n = xs.length) (hk : k = ps.length) (hk2 : k ≤ 100) : Ctr Tryd.prog 64 [.one (.sl r v off n), .one (.sl rp vp 0 k)] m (.one (.bool (hpV (xs.drop off) ps))) m := by
  rcases Nat.lt_or_ge n k with h | h
  · exact hasP_lo r v off n rp vp k xs ps m hb hbp h1 hk hk2 h
  · exact hasP_hi r v off n rp vp k xs ps m hb hbp h1 hk hk2 h
theorem cut_no (r v off n rp vp k : Nat) (xs ps : List Int) (m : AMem) (hb : ∃ k ez, m[r]? = some ⟨k, 5, v, ez, u8c xs⟩) (hbp : ∃ k ez, m[rp]? = some ⟨k, 5, vp, ez, u8c ps⟩) (h1 : off + n = xs.length) (hk : k = ps.length) (hk2 : k ≤ 100) (hp : hpV (xs.drop off) ps = false) : Ctr Tryd.prog 49 [.one (.sl r v off n), .one (.sl rp vp 0 k)] m (.tup [(false, [.sl r v off n]), (false, [.bool false])]) m := by
  refine Ctr.enter Tryd.func49 rfl (by decide) (rs := [.tmp 4, .tmp 5]) (nt := 15) rfl rfl fun hwf Q hQ => ?_
  obtain ⟨k0, e0, hb0⟩ := hb
  have hr0 := get_lt hb0
  refine AW.seq_k fun K hK => ?_
  refine AW.region (by decide) ?_
  simp only [push_cast, simprocAttr, hp]
  refine Thn_n ?_
  refine hK _ _ ?_
  clear hK K
  refine AW.seq_k fun K hK => ?_
  refine AW.seq_k fun K hK => ?_
  refine AW.region (by decide) ?_
  simp only [push_cast, simprocAttr, hp]
  refine CThen.by (hasP_c r v off n rp vp k xs ps _ ⟨k0, e0, hb0⟩ hbp h1 hk hk2) ?_
  simp only [push_cast, simprocAttr, hp]
  refine Thn_n ?_
  refine hK _ _ ?_
  clear hK K
  refine AW.cond_t rfl ?_
  refine AW.seq_k fun K hK => ?_
  refine AW.region (by decide) ?_
  simp only [push_cast, simprocAttr, hp]
  refine Thn_n ?_
  refine hK _ _ ?_
  clear hK K
  refine AW.ret ?_
  refine Thn_r ?_
  refine hQ _ _ _ ?_
  refine RetP.drop0 (by first | exact Or.inr rfl | exact Or.inl rfl) ?_ ?_ hwf
  · simp only [resA, resOne, resTv, AV.tv, push_cast, simprocAttr]
  · simp [AV.below, CV.below, hr0]
theorem cut_yes (r v off n rp vp k : Nat) (xs ps : List Int) (m : AMem) (hb : ∃ k ez, m[r]? = some ⟨k, 5, v, ez, u8c xs⟩) (hbp : ∃ k ez, m[rp]? = some ⟨k, 5, vp, ez, u8c ps⟩) (h1 : off + n = xs.length) (hk : k = ps.length) (hk2 : k ≤ 100) (hp : hpV (xs.drop off) ps = true) (h2 : k ≤ n) : Ctr Tryd.prog 49 [.one (.sl r v off n), .one (.sl rp vp 0 k)] m (.tup [(false, [.sl r v (off + k) (n - k)]), (false, [.bool true])]) m := by
  refine Ctr.enter Tryd.func49 rfl (by decide) (rs := [.tmp 4, .tmp 5]) (nt := 15) rfl rfl fun hwf Q hQ => ?_
  obtain ⟨k0, e0, hb0⟩ := hb
  have hr0 := get_lt hb0
  have w1 : (0 : Int) ≤ (k : Int) := by omega
  have w2 : (k : Int) ≤ (n : Int) := by omega
  refine AW.seq_k fun K hK => ?_
  refine AW.region (by decide) ?_
  simp only [push_cast, simprocAttr, hp, w1, w2, h2, Int.le_refl]
  refine Thn_n ?_
  refine hK _ _ ?_
  clear hK K
  refine AW.seq_k fun K hK => ?_
  refine AW.seq_k fun K hK => ?_
  refine AW.region (by decide) ?_
  simp only [push_cast, simprocAttr, hp, w1, w2, h2, Int.le_refl]
  refine CThen.by (hasP_c r v off n rp vp k xs ps _ ⟨k0, e0, hb0⟩ hbp h1 hk hk2) ?_
  simp only [push_cast, simprocAttr, hp, w1, w2, h2, Int.le_refl]
  refine Thn_n ?_
  refine hK _ _ ?_
  clear hK K
  refine AW.cond_f rfl ?_
  refine AW.skip ?_
  refine Thn_n ?_
  refine hK _ _ ?_
  clear hK K
  refine AW.seq_k fun K hK => ?_
  refine AW.region (by decide) ?_
  simp only [push_cast, simprocAttr, hp, w1, w2, h2, Int.le_refl]
  refine Thn_n ?_
  refine hK _ _ ?_
  clear hK K
  refine AW.ret ?_
  refine hQ _ _ _ ?_
  refine RetP.drop0 (by first | exact Or.inr rfl | exact Or.inl rfl) ?_ ?_ hwf
  · simp only [resA, resOne, resTv, AV.tv, push_cast, simprocAttr]
  · simp [AV.below, CV.below, hr0]
theorem indexB_in (r v off n : Nat) (xs : List Int) (c : Int) (m : AMem) (hb : ∃ k ez, m[r]? = some ⟨k, 5, v, ez, u8c xs⟩) (h1 : off + n = xs.length) : Ctr Tryd.prog 71 [.one (.sl r v off n), .one (.int .u8 c)] m (.one (.int .i64 (idxI (xs.drop off) c))) m := by
  obtain ⟨k0, e0, hb⟩ := hb
  refine indexByte_x (fn := Tryd.f71) Tryd.func71 (by kernel_rfl) (by kernel_rfl) (by kernel_rfl) (by kernel_rfl) ?_ c
  have q1 := u8c_cut xs off n
  have q2 : (xs.drop off).take n = xs.drop off := List.take_of_length_le (by rw [List.length_drop]; omega)
  rw [q2] at q1
  simp only [srcA, hb, u8c_len, Nat.mul_one, true_and, q1]
  rw [if_pos (by omega)]; rfl
theorem index_c (r v off n : Nat) (xs : List Int) (c : Int) (m : AMem) (hb : ∃ k ez, m[r]? = some ⟨k, 5, v, ez, u8c xs⟩) (h1 : off + n = xs.length) : Ctr Tryd.prog 65 [.one (.sl r v off n), .one (.int .u8 c)] m (.one (.int .i64 (idxI (xs.drop off) c))) m := by
  refine Ctr.enter Tryd.func65 rfl (by decide) (rs := [.tmp 4]) (nt := 8) rfl rfl fun hwf Q hQ => ?_
  refine AW.seq_k fun K hK => ?_
  refine AW.region (by decide) ?_
  simp only [push_cast, simprocAttr]
  refine Thn_n ?_
  refine hK _ _ ?_
  clear hK K
  refine AW.seq_k fun K hK => ?_
  refine AW.region (by decide) ?_
  simp only [push_cast, simprocAttr]
  refine CThen.by (indexB_in r v off n xs c _ hb h1) ?_
  simp only [push_cast, simprocAttr]
  refine Thn_n ?_
  refine hK _ _ ?_
  clear hK K
  refine AW.ret ?_
  refine hQ _ _ _ ?_
  first | refine RetP.drop0 (Or.inr rfl) ?_ ?_ hwf | refine RetP.drop (Or.inr rfl) ?_ ?_ hwf
  · simp only [resA, resOne, resTv, AV.tv, push_cast, simprocAttr]
  · rfl
theorem itoaA_c (n : Int) (m : AMem) (hg3 : gB m 3 = some (Lib.pow10Tab.map (CV.int .u64))) (h0 : -9223372036854775808 ≤ n) (h1 : n ≤ 9223372036854775807) : Ctr Tryd.prog 62 [.one (.int .i64 n)] m (.one (.str ⟨(Lib.itoa n).toArray⟩)) m :=
  Ctr.itoaA ⟨_, rfl, rfl, rfl⟩ (by kernel_rfl) (fun n a b w h => Tryd.strconv_Itoa n a b w h) hg3 h0 h1
theorem atoi_ok (s : ByteArray) (n : Int) (m : AMem) (hl : s.size ≤ 18) (h : Lib.atoi s.data.toList = some n) : Ctr Tryd.prog 66 [.one (.str s)] m (.tup [(false, [.int .i64 n]), (false, [.nili])]) m :=
  Ctr.atoiOk ⟨_, rfl, rfl, rfl⟩ (fun s n a b w => Tryd.strconv_Atoi s n a b w) hl h
theorem atoi_err {tp : Nat} (s : ByteArray) (m : AMem) (hg1 : gB m 1 = some [.ifj tp]) (hl : s.size ≤ 18) (h : Lib.atoi s.data.toList = none) : Ctr Tryd.prog 66 [.one (.str s)] m (.tup [(false, [.int .i64 0]), (false, [.ifj 117])]) m :=
  Ctr.atoiErr ⟨_, rfl, rfl, rfl⟩ (fun s a b ev w c d => Tryd.strconv_Atoi_err s a b ev w c d) hg1 hl h
end Go.Proofs.YtbigijnadkeecaaDoor

set_option linter.unusedSimpArgs false
set_option linter.unusedVariables false
set_option maxRecDepth 100000
set_option maxHeartbeats 4000000
namespace Go.Proofs.YtbigijnadkeecaaDoor
open Go Go.Eng

theorem atoi_b {l : List UInt8} {z : Int} (hl : l.length ≤ 18) (h : Lib.atoi l = some z) : -9223372036854775808 ≤ z ∧ z ≤ 9223372036854775807 := by
  have := Lib.atoi_bound h hl
  omega
theorem number_noa {tp : Nat} (r v off n : Nat) (xs : List Int) (e : Int) (m : AMem) (hb : ∃ k ez, m[r]? = some ⟨k, 5, v, ez, u8c xs⟩) (h1 : off + n = xs.length) (hi : idxI (xs.drop off) e < 1) : Ctr Tryd.prog 50 [.one (.sl r v off n), .one (.int .u8 e)] m (.tup [(false, [.int .i64 0]), (false, [.nils]), (false, [.bool false])]) m := by
  refine Ctr.enter Tryd.func50 rfl (by decide) (rs := [.tmp 4, .tmp 5, .tmp 6]) (nt := 43) rfl rfl fun hwf Q hQ => ?_
  obtain ⟨k0, e0, hb0⟩ := hb
  have hr0 := get_lt hb0
  
  refine AW.seq_k fun K hK => ?_
  refine AW.region (by decide) ?_
  simp only [push_cast, simprocAttr, hi]
  refine Thn_n ?_
  refine hK _ _ ?_
  clear hK K
  refine AW.seq_k fun K hK => ?_
  refine AW.region (by decide) ?_
  simp only [push_cast, simprocAttr, hi]
  refine CThen.by (index_c r v off n xs e _ ⟨k0, e0, hb0⟩ h1) ?_
  simp only [push_cast, simprocAttr, hi]
  refine Thn_n ?_
  refine hK _ _ ?_
  clear hK K
  refine AW.seq_k fun K hK => ?_
  refine AW.seq_k fun K hK => ?_
  refine AW.region (by decide) ?_
  simp only [push_cast, simprocAttr, hi]
  refine Thn_n ?_
  refine hK _ _ ?_
  clear hK K
  refine AW.cond_t rfl ?_
  refine AW.seq_k fun K hK => ?_
  refine AW.region (by decide) ?_
  simp only [push_cast, simprocAttr, hi]
  refine Thn_n ?_
  refine hK _ _ ?_
  clear hK K
  refine AW.ret ?_
  refine Thn_r ?_
  refine hQ _ _ _ ?_
  first | refine RetP.drop0 (Or.inr rfl) ?_ ?_ hwf | refine RetP.drop (Or.inr rfl) ?_ ?_ hwf
  · simp only [resA, resOne, resTv, AV.tv, push_cast, simprocAttr, hi]
  · rfl
theorem number_nob {tp : Nat} (r v off n : Nat) (xs : List Int) (e : Int) (m : AMem) (hb : ∃ k ez, m[r]? = some ⟨k, 5, v, ez, u8c xs⟩) (h1 : off + n = xs.length) (hi0 : ¬ idxI (xs.drop off) e < 1) (hi : 2 < idxI (xs.drop off) e) : Ctr Tryd.prog 50 [.one (.sl r v off n), .one (.int .u8 e)] m (.tup [(false, [.int .i64 0]), (false, [.nils]), (false, [.bool false])]) m := by
  refine Ctr.enter Tryd.func50 rfl (by decide) (rs := [.tmp 4, .tmp 5, .tmp 6]) (nt := 43) rfl rfl fun hwf Q hQ => ?_
  obtain ⟨k0, e0, hb0⟩ := hb
  have hr0 := get_lt hb0
  
  refine AW.seq_k fun K hK => ?_
  refine AW.region (by decide) ?_
  simp only [push_cast, simprocAttr, hi0, hi]
  refine Thn_n ?_
  refine hK _ _ ?_
  clear hK K
  refine AW.seq_k fun K hK => ?_
  refine AW.region (by decide) ?_
  simp only [push_cast, simprocAttr, hi0, hi]
  refine CThen.by (index_c r v off n xs e _ ⟨k0, e0, hb0⟩ h1) ?_
  simp only [push_cast, simprocAttr, hi0, hi]
  refine Thn_n ?_
  refine hK _ _ ?_
  clear hK K
  refine AW.seq_k fun K hK => ?_
  refine AW.seq_k fun K hK => ?_
  refine AW.region (by decide) ?_
  simp only [push_cast, simprocAttr, hi0, hi]
  refine Thn_n ?_
  refine hK _ _ ?_
  clear hK K
  refine AW.cond_t rfl ?_
  refine AW.seq_k fun K hK => ?_
  refine AW.region (by decide) ?_
  simp only [push_cast, simprocAttr, hi0, hi]
  refine Thn_n ?_
  refine hK _ _ ?_
  clear hK K
  refine AW.ret ?_
  refine Thn_r ?_
  refine hQ _ _ _ ?_
  first | refine RetP.drop0 (Or.inr rfl) ?_ ?_ hwf | refine RetP.drop (Or.inr rfl) ?_ ?_ hwf
  · simp only [resA, resOne, resTv, AV.tv, push_cast, simprocAttr, hi0, hi]
  · rfl
theorem number_err {tp : Nat} (r v off n : Nat) (xs : List Int) (e : Int) (m : AMem) (hb : ∃ k ez, m[r]? = some ⟨k, 5, v, ez, u8c xs⟩) (h1 : off + n = xs.length) (k : Nat) (hi : idxI (xs.drop off) e = (k : Int)) (hk : 1 ≤ k ∧ k ≤ 2) (hkn : k < n) (hg1 : gB m 1 = some [.ifj tp]) (hz : Lib.atoi (Lib.bytesOf ((xs.drop off).take k)) = none) : Ctr Tryd.prog 50 [.one (.sl r v off n), .one (.int .u8 e)] m (.tup [(false, [.int .i64 0]), (false, [.sl r v (off + (k + 1)) (n - (k + 1))]), (false, [.bool false])]) m := by
  refine Ctr.enter Tryd.func50 rfl (by decide) (rs := [.tmp 4, .tmp 5, .tmp 6]) (nt := 43) rfl rfl fun hwf Q hQ => ?_
  obtain ⟨k0, e0, hb0⟩ := hb
  have hr0 := get_lt hb0
  have w1 : ¬ (k : Int) < 1 := by omega
  have w2 : ¬ (2 : Int) < (k : Int) := by omega
  have w3 : (0 : Int) ≤ (k : Int) := by omega
  have w4 : (k : Int) ≤ (n : Int) := by omega
  have w5 : IntKind.i64.wrap ((k : Int) + 1) = ((k + 1 : Nat) : Int) := by rw [wi (by omega)]; push_cast; rfl
  obtain ⟨k1, hk1⟩ : ∃ k1, k1 = k + 1 := ⟨_, rfl⟩
  rw [← hk1] at w5 hQ
  have w6 : (0 : Int) ≤ (k1 : Int) := by omega
  have w7 : (k1 : Int) ≤ (n : Int) := by omega
  have w8 : off + k ≤ (u8c xs).length := by rw [u8c_len]; omega
  obtain ⟨tk, htk⟩ : ∃ tk, tk = (xs.drop off).take k := ⟨_, rfl⟩
  rw [← htk] at hz
  have q1 : ((u8c xs).drop off).take k = u8c tk := by rw [htk]; exact u8c_cut xs off k
  have q3 := bytesA_u8c tk
  have htl : tk.length ≤ 18 := by rw [htk, List.length_take]; omega
  have hsz := strB_size tk
  
  refine AW.seq_k fun K hK => ?_
  refine AW.region (by decide) ?_
  simp only [push_cast, simprocAttr, Nat.sub_zero, Int.le_refl, hb0, lk_old hb0, hi, w1, w2, w3, w4, w5, w6, w7, w8, q1, q3]
  refine Thn_n ?_
  refine hK _ _ ?_
  clear hK K
  refine AW.seq_k fun K hK => ?_
  refine AW.region (by decide) ?_
  simp only [push_cast, simprocAttr, Nat.sub_zero, Int.le_refl, hb0, lk_old hb0, hi, w1, w2, w3, w4, w5, w6, w7, w8, q1, q3]
  refine CThen.by (index_c r v off n xs e _ ⟨k0, e0, hb0⟩ h1) ?_
  simp only [push_cast, simprocAttr, Nat.sub_zero, Int.le_refl, hb0, lk_old hb0, hi, w1, w2, w3, w4, w5, w6, w7, w8, q1, q3]
  refine Thn_n ?_
  refine hK _ _ ?_
  clear hK K
  refine AW.seq_k fun K hK => ?_
  refine AW.seq_k fun K hK => ?_
  refine AW.region (by decide) ?_
  simp only [push_cast, simprocAttr, Nat.sub_zero, Int.le_refl, hb0, lk_old hb0, hi, w1, w2, w3, w4, w5, w6, w7, w8, q1, q3]
  refine Thn_n ?_
  refine hK _ _ ?_
  clear hK K
  refine AW.cond_f rfl ?_
  refine AW.skip ?_
  refine Thn_n ?_
  refine hK _ _ ?_
  clear hK K
  refine AW.seq_k fun K hK => ?_
  refine AW.region (by decide) ?_
  simp only [push_cast, simprocAttr, Nat.sub_zero, Int.le_refl, hb0, lk_old hb0, hi, w1, w2, w3, w4, w5, w6, w7, w8, q1, q3]
  refine CThen.by (atoi_err (strB tk) _ hg1 (by rw [hsz]; exact htl) (by rw [strB_data]; exact hz)) ?_
  simp only [push_cast, simprocAttr, Nat.sub_zero, Int.le_refl, hb0, lk_old hb0, hi, w1, w2, w3, w4, w5, w6, w7, w8, q1, q3]
  refine Thn_n ?_
  refine hK _ _ ?_
  clear hK K
  refine AW.seq_k fun K hK => ?_
  refine AW.drawX fol (by kernel_rfl) ?_
  refine DX.split 9 13 (by decide) ?_ ?_
  · refine DX.run [0, 1, 2, 3, 4, 5, 6, 7, 8, 9, 10, 11, 12, 13, 14, 15, 16, 17, 18] [.val, .val, .val, .val, .val, .val, .val, .val, .val, .ext, .val, .val, .val, .ext, .val, .val, .val, .val, .val] (by simp only [permL, reOp, List.idxOf_cons, push_cast, simprocAttr, Nat.sub_zero, Int.le_refl, hb0, lk_old hb0, hi, w1, w2, w3, w4, w5, w6, w7, w8, q1, q3]; first | done | rfl) (by kernel_rfl) ?_
    simp only [push_cast, simprocAttr, Nat.sub_zero, Int.le_refl, hb0, lk_old hb0, hi, w1, w2, w3, w4, w5, w6, w7, w8, q1, q3]
    refine Thn_n ?_
    refine hK _ _ ?_
    clear hK K
    refine AW.ret ?_
    refine hQ _ _ _ ?_
    refine RetP.drop0 (by first | exact Or.inr rfl | exact Or.inl rfl) ?_ ?_ hwf
    · simp only [resA, resOne, resTv, AV.tv, push_cast, simprocAttr]
    · simp [AV.below, CV.below, hr0]
  · refine DX.run [0, 1, 2, 3, 4, 5, 6, 7, 8, 10, 11, 12, 13, 9, 14, 15, 16, 17, 18] [.val, .val, .val, .val, .val, .val, .val, .val, .val, .val, .val, .val, .ext, .ext, .val, .val, .val, .val, .val] (by simp only [permL, reOp, List.idxOf_cons, push_cast, simprocAttr, Nat.sub_zero, Int.le_refl, hb0, lk_old hb0, hi, w1, w2, w3, w4, w5, w6, w7, w8, q1, q3]; first | done | rfl) (by kernel_rfl) ?_
    simp only [push_cast, simprocAttr, Nat.sub_zero, Int.le_refl, hb0, lk_old hb0, hi, w1, w2, w3, w4, w5, w6, w7, w8, q1, q3]
    refine Thn_n ?_
    refine hK _ _ ?_
    clear hK K
    refine AW.ret ?_
    refine hQ _ _ _ ?_
    refine RetP.drop0 (by first | exact Or.inr rfl | exact Or.inl rfl) ?_ ?_ hwf
    · simp only [resA, resOne, resTv, AV.tv, push_cast, simprocAttr]
    · simp [AV.below, CV.below, hr0]
theorem number_ok {tp : Nat} (r v off n : Nat) (xs : List Int) (e : Int) (m : AMem) (hb : ∃ k ez, m[r]? = some ⟨k, 5, v, ez, u8c xs⟩) (h1 : off + n = xs.length) (k : Nat) (hi : idxI (xs.drop off) e = (k : Int)) (hk : 1 ≤ k ∧ k ≤ 2) (hkn : k < n) (hg3 : gB m 3 = some (Lib.pow10Tab.map (CV.int .u64))) (z : Int) (hz : Lib.atoi (Lib.bytesOf ((xs.drop off).take k)) = some z) : Ctr Tryd.prog 50 [.one (.sl r v off n), .one (.int .u8 e)] m (.tup [(false, [.int .i64 z]), (false, [.sl r v (off + (k + 1)) (n - (k + 1))]), (false, [.bool (Lib.itoa z == Lib.bytesOf ((xs.drop off).take k))])]) m := by
  refine Ctr.enter Tryd.func50 rfl (by decide) (rs := [.tmp 4, .tmp 5, .tmp 6]) (nt := 43) rfl rfl fun hwf Q hQ => ?_
  obtain ⟨k0, e0, hb0⟩ := hb
  have hr0 := get_lt hb0
  have w1 : ¬ (k : Int) < 1 := by omega
  have w2 : ¬ (2 : Int) < (k : Int) := by omega
  have w3 : (0 : Int) ≤ (k : Int) := by omega
  have w4 : (k : Int) ≤ (n : Int) := by omega
  have w5 : IntKind.i64.wrap ((k : Int) + 1) = ((k + 1 : Nat) : Int) := by rw [wi (by omega)]; push_cast; rfl
  obtain ⟨k1, hk1⟩ : ∃ k1, k1 = k + 1 := ⟨_, rfl⟩
  rw [← hk1] at w5 hQ
  have w6 : (0 : Int) ≤ (k1 : Int) := by omega
  have w7 : (k1 : Int) ≤ (n : Int) := by omega
  have w8 : off + k ≤ (u8c xs).length := by rw [u8c_len]; omega
  obtain ⟨tk, htk⟩ : ∃ tk, tk = (xs.drop off).take k := ⟨_, rfl⟩
  rw [← htk] at hz
  have q1 : ((u8c xs).drop off).take k = u8c tk := by rw [htk]; exact u8c_cut xs off k
  have q3 := bytesA_u8c tk
  have htl : tk.length ≤ 18 := by rw [htk, List.length_take]; omega
  have hsz := strB_size tk
  have hzb := atoi_b (by unfold Lib.bytesOf; rw [List.length_map]; exact htl) hz
  rw [← htk] at hQ
  have q7 := strB_tl tk
  have q8 := mk_tl (Lib.itoa z)
  refine AW.seq_k fun K hK => ?_
  refine AW.region (by decide) ?_
  simp only [push_cast, simprocAttr, Nat.sub_zero, Int.le_refl, hb0, lk_old hb0, hi, w1, w2, w3, w4, w5, w6, w7, w8, q1, q3, q7, q8]
  refine Thn_n ?_
  refine hK _ _ ?_
  clear hK K
  refine AW.seq_k fun K hK => ?_
  refine AW.region (by decide) ?_
  simp only [push_cast, simprocAttr, Nat.sub_zero, Int.le_refl, hb0, lk_old hb0, hi, w1, w2, w3, w4, w5, w6, w7, w8, q1, q3, q7, q8]
  refine CThen.by (index_c r v off n xs e _ ⟨k0, e0, hb0⟩ h1) ?_
  simp only [push_cast, simprocAttr, Nat.sub_zero, Int.le_refl, hb0, lk_old hb0, hi, w1, w2, w3, w4, w5, w6, w7, w8, q1, q3, q7, q8]
  refine Thn_n ?_
  refine hK _ _ ?_
  clear hK K
  refine AW.seq_k fun K hK => ?_
  refine AW.seq_k fun K hK => ?_
  refine AW.region (by decide) ?_
  simp only [push_cast, simprocAttr, Nat.sub_zero, Int.le_refl, hb0, lk_old hb0, hi, w1, w2, w3, w4, w5, w6, w7, w8, q1, q3, q7, q8]
  refine Thn_n ?_
  refine hK _ _ ?_
  clear hK K
  refine AW.cond_f rfl ?_
  refine AW.skip ?_
  refine Thn_n ?_
  refine hK _ _ ?_
  clear hK K
  refine AW.seq_k fun K hK => ?_
  refine AW.region (by decide) ?_
  simp only [push_cast, simprocAttr, Nat.sub_zero, Int.le_refl, hb0, lk_old hb0, hi, w1, w2, w3, w4, w5, w6, w7, w8, q1, q3, q7, q8]
  refine CThen.by (atoi_ok (strB tk) z _ (by rw [hsz]; exact htl) (by rw [strB_data]; exact hz)) ?_
  simp only [push_cast, simprocAttr, Nat.sub_zero, Int.le_refl, hb0, lk_old hb0, hi, w1, w2, w3, w4, w5, w6, w7, w8, q1, q3, q7, q8]
  refine Thn_n ?_
  refine hK _ _ ?_
  clear hK K
  refine AW.seq_k fun K hK => ?_
  refine AW.drawX fol (by kernel_rfl) ?_
  refine DX.split 9 13 (by decide) ?_ ?_
  · refine DX.run [0, 1, 2, 3, 4, 5, 6, 7, 8, 9, 10, 11, 12, 13, 14, 15, 16, 17, 18] [.val, .val, .val, .val, .val, .val, .val, .val, .val, .ext, .val, .val, .val, .ext, .val, .val, .val, .val, .val] (by simp only [permL, reOp, List.idxOf_cons, push_cast, simprocAttr, Nat.sub_zero, Int.le_refl, hb0, lk_old hb0, hi, w1, w2, w3, w4, w5, w6, w7, w8, q1, q3, q7, q8]; first | done | rfl) (by kernel_rfl) ?_
    simp only [push_cast, simprocAttr, Nat.sub_zero, Int.le_refl, hb0, lk_old hb0, hi, w1, w2, w3, w4, w5, w6, w7, w8, q1, q3, q7, q8]
    refine DCall.by0 (itoaA_c z _ hg3 hzb.1 hzb.2) ?_
    simp only [push_cast, simprocAttr, Nat.sub_zero, Int.le_refl, hb0, lk_old hb0, hi, w1, w2, w3, w4, w5, w6, w7, w8, q1, q3, q7, q8]
    refine DExt.by (by first | rfl | exact (List.append_nil _).symm | (simp only [List.append_assoc, List.cons_append, List.nil_append]; rfl)) ?_
    simp only [push_cast, simprocAttr, Nat.sub_zero, Int.le_refl, hb0, lk_old hb0, hi, w1, w2, w3, w4, w5, w6, w7, w8, q1, q3, q7, q8]
    refine Thn_n ?_
    refine hK _ _ ?_
    clear hK K
    refine AW.ret ?_
    refine hQ _ _ _ ?_
    refine RetP.drop0 (by first | exact Or.inr rfl | exact Or.inl rfl) ?_ ?_ hwf
    · simp only [resA, resOne, resTv, AV.tv, push_cast, simprocAttr]
    · simp [AV.below, CV.below, hr0]
  · refine DX.run [0, 1, 2, 3, 4, 5, 6, 7, 8, 10, 11, 12, 13, 9, 14, 15, 16, 17, 18] [.val, .val, .val, .val, .val, .val, .val, .val, .val, .val, .val, .val, .ext, .ext, .val, .val, .val, .val, .val] (by simp only [permL, reOp, List.idxOf_cons, push_cast, simprocAttr, Nat.sub_zero, Int.le_refl, hb0, lk_old hb0, hi, w1, w2, w3, w4, w5, w6, w7, w8, q1, q3, q7, q8]; first | done | rfl) (by kernel_rfl) ?_
    simp only [push_cast, simprocAttr, Nat.sub_zero, Int.le_refl, hb0, lk_old hb0, hi, w1, w2, w3, w4, w5, w6, w7, w8, q1, q3, q7, q8]
    refine DExt.by (by first | rfl | exact (List.append_nil _).symm | (simp only [List.append_assoc, List.cons_append, List.nil_append]; rfl)) ?_
    simp only [push_cast, simprocAttr, Nat.sub_zero, Int.le_refl, hb0, lk_old hb0, hi, w1, w2, w3, w4, w5, w6, w7, w8, q1, q3, q7, q8]
    refine DCall.by0 (itoaA_c z _ hg3 hzb.1 hzb.2) ?_
    simp only [push_cast, simprocAttr, Nat.sub_zero, Int.le_refl, hb0, lk_old hb0, hi, w1, w2, w3, w4, w5, w6, w7, w8, q1, q3, q7, q8]
    refine Thn_n ?_
    refine hK _ _ ?_
    clear hK K
    refine AW.ret ?_
    refine hQ _ _ _ ?_
    refine RetP.drop0 (by first | exact Or.inr rfl | exact Or.inl rfl) ?_ ?_ hwf
    · simp only [resA, resOne, resTv, AV.tv, push_cast, simprocAttr]
    · simp [AV.below, CV.below, hr0]
end Go.Proofs.YtbigijnadkeecaaDoor

set_option linter.unusedSimpArgs false
set_option linter.unusedVariables false
set_option maxRecDepth 100000
set_option maxHeartbeats 4000000
namespace Go.Proofs.YtbigijnadkeecaaDoor
open Go Go.Eng

def dX (n : Nat) : List UInt8 := if n < 10 then [UInt8.ofNat (48 + n)] else [UInt8.ofNat (48 + n / 10), UInt8.ofNat (48 + n % 10)]
theorem dec_dX {n : Nat} (h : n < 100) : Lib.decDigits n = dX n := by
  unfold dX
  by_cases h1 : n < 10
  · rw [if_pos h1, dec_lo h1]
  · rw [if_neg h1, dec_hi h1 h]; rfl
theorem dX_atoi : ((List.range 100).all fun n => Lib.atoi (dX n) == some (n : Int)) = true := by kernel_rfl
theorem dX_no : ((List.range 100).all fun n => (dX n).all fun b => !(b == 32) && !(b == 10)) = true := by kernel_rfl
theorem atoi_dec {n : Nat} (h : n < 100) : Lib.atoi (Lib.decDigits n) = some (n : Int) := by
  rw [dec_dX h]
  have := List.all_eq_true.1 dX_atoi n (List.mem_range.2 h)
  simpa using this
theorem dec_no {n : Nat} (h : n < 100) : ∀ b, b ∈ Lib.decDigits n → b ≠ 32 ∧ b ≠ 10 := fun b hb => by
  rw [dec_dX h] at hb
  have h1 := List.all_eq_true.1 dX_no n (List.mem_range.2 h)
  have h2 := List.all_eq_true.1 h1 b hb
  simpa using h2
theorem itoa_dec (n : Nat) : Lib.itoa (n : Int) = Lib.decDigits n := by
  unfold Lib.itoa; rw [if_neg (by omega), Int.toNat_natCast]
theorem index_app {c : UInt8} : ∀ {l : List UInt8} (t : List UInt8), (∀ b, b ∈ l → b ≠ c) → Lib.indexByte (l ++ c :: t) c = (l.length : Int)
  | [], t, _ => by show Lib.indexByte (c :: t) c = 0; rw [Lib.indexByte, if_pos (by simp)]
  | b :: l, t, h => by
    have h1 := h b List.mem_cons_self
    have ih := index_app (l := l) t fun x hx => h x (List.mem_cons_of_mem _ hx)
    show Lib.indexByte (b :: (l ++ c :: t)) c = _
    rw [Lib.indexByte, if_neg (by simpa using h1), ih, if_neg (by first | (simp; done) | (simp; omega)), List.length_cons]
    push_cast; rfl
theorem index_at {c : UInt8} : ∀ {l : List UInt8} {k : Nat}, Lib.indexByte l c = (k : Int) → l[k]? = some c
  | [], k, h => by unfold Lib.indexByte at h; omega
  | b :: l, k, h => by
    rw [Lib.indexByte] at h
    split at h
    · rename_i hb
      have : k = 0 := by omega
      subst this
      simpa using hb
    · split at h
      · omega
      · rename_i h1 h2
        match k, h with
        | 0, h =>
          have : Lib.indexByte l c = -1 := by omega
          rw [this] at h2; simp at h2
        | k + 1, h =>
          have := index_at (c := c) (l := l) (k := k) (by omega)
          simpa using this
theorem idx_at {ys : List Int} (hy : ByteL ys) {e : Int} (he : 0 ≤ e ∧ e < 256) {k : Nat} (h : idxI ys e = (k : Int)) : ys[k]? = some e ∧ k < ys.length := by
  have h1 := index_at h
  unfold Lib.bytesOf at h1
  rw [List.getElem?_map] at h1
  obtain ⟨x, hx, hxe⟩ := Option.map_eq_some_iff.1 h1
  have hb := hy x (List.mem_of_getElem? hx)
  have h2 := congrArg UInt8.toNat hxe
  rw [UInt8.toNat_ofNat', Nat.toUInt8, UInt8.toNat_ofNat'] at h2
  have : x = e := by omega
  rw [← this]
  exact ⟨hx, (List.getElem?_eq_some_iff.1 hx).1⟩
theorem cut_at {α : Type} {l : List α} {k : Nat} {x : α} (h : l[k]? = some x) : l = l.take k ++ x :: l.drop (k + 1) := by
  obtain ⟨hlt, hg⟩ := List.getElem?_eq_some_iff.1 h
  rw [← hg, ← List.drop_eq_getElem_cons hlt, List.take_append_drop]
theorem bytes_app (a b : List Int) : Lib.bytesOf (a ++ b) = Lib.bytesOf a ++ Lib.bytesOf b := List.map_append
theorem bytes_len (a : List Int) : (Lib.bytesOf a).length = a.length := List.length_map _
theorem bI_len (l : List UInt8) : (bI l).length = l.length := List.length_map _
theorem byteL_bI (l : List UInt8) : ByteL (bI l) := fun x hx => by
  obtain ⟨b, _, rfl⟩ := List.mem_map.1 hx
  have := b.toNat_lt
  omega
theorem number_any {tp : Nat} (r v off n : Nat) (xs : List Int) (e : Int) (m : AMem) (hb : ∃ k ez, m[r]? = some ⟨k, 5, v, ez, u8c xs⟩) (h1 : off + n = xs.length) (hxs : ByteL xs) (he : 0 ≤ e ∧ e < 256) (hg1 : gB m 1 = some [.ifj tp]) (hg3 : gB m 3 = some (Lib.pow10Tab.map (CV.int .u64))) :
    ∃ z c ok, (∀ X : AMem, Ctr Tryd.prog 50 [.one (.sl r v off n), .one (.int .u8 e)] (m ++ X) (.tup [(false, [.int .i64 z]), (false, [c]), (false, [.bool ok])]) (m ++ X)) ∧ (ok = true → ∃ k o' n', (1 ≤ k ∧ k ≤ 2) ∧ c = .sl r v o' n' ∧ o' = off + (k + 1) ∧ o' + n' = xs.length ∧ Lib.itoa z = Lib.bytesOf ((xs.drop off).take k) ∧ (xs.drop off)[k]? = some e) := by
  have hb' : ∀ X : AMem, ∃ k ez, (m ++ X)[r]? = some ⟨k, 5, v, ez, u8c xs⟩ := fun X => by
    obtain ⟨k0, e0, hb0⟩ := hb
    exact ⟨k0, e0, lk_old hb0 X⟩
  by_cases q1 : idxI (xs.drop off) e < 1
  · exact ⟨0, .nils, false, fun X => number_noa (tp := tp) r v off n xs e _ (hb' X) h1 q1, fun h => by cases h⟩
  · by_cases q2 : 2 < idxI (xs.drop off) e
    · exact ⟨0, .nils, false, fun X => number_nob (tp := tp) r v off n xs e _ (hb' X) h1 q1 q2, fun h => by cases h⟩
    · obtain ⟨k, hk⟩ := Int.eq_ofNat_of_zero_le (show 0 ≤ idxI (xs.drop off) e by omega)
      obtain ⟨hy1, hy2⟩ := idx_at (fun x hx => hxs x (List.mem_of_mem_drop hx)) he hk
      rw [List.length_drop] at hy2
      cases hz : Lib.atoi (Lib.bytesOf ((xs.drop off).take k)) with
      | none => exact ⟨0, _, false, fun X => number_err r v off n xs e _ (hb' X) h1 k hk (by omega) (by omega) (gB_app hg1 X) hz, fun h => by cases h⟩
      | some z => exact ⟨z, _, _, fun X => number_ok (tp := tp) r v off n xs e _ (hb' X) h1 k hk (by omega) (by omega) (gB_app hg3 X) z hz, fun h => ⟨k, _, _, by omega, rfl, rfl, by omega, by simpa using h, hy1⟩⟩
theorem number_dec {tp : Nat} (r v off n : Nat) (xs : List Int) (e : Int) (m : AMem) (hb : ∃ k ez, m[r]? = some ⟨k, 5, v, ez, u8c xs⟩) (h1 : off + n = xs.length) (hxs : ByteL xs) (he : 0 ≤ e ∧ e < 256) (hg1 : gB m 1 = some [.ifj tp]) (hg3 : gB m 3 = some (Lib.pow10Tab.map (CV.int .u64))) (w : Nat) (hw : w < 100) (hw2 : e = 32 ∨ e = 10) (tl : List Int) (hys : xs.drop off = bI (Lib.decDigits w) ++ e :: tl) :
    ∀ X : AMem, Ctr Tryd.prog 50 [.one (.sl r v off n), .one (.int .u8 e)] (m ++ X) (.tup [(false, [.int .i64 (w : Int)]), (false, [.sl r v (off + ((Lib.decDigits w).length + 1)) (n - ((Lib.decDigits w).length + 1))]), (false, [.bool true])]) (m ++ X) := by
  intro X
  have hb' : ∃ k ez, (m ++ X)[r]? = some ⟨k, 5, v, ez, u8c xs⟩ := by
    obtain ⟨k0, e0, hb0⟩ := hb
    exact ⟨k0, e0, lk_old hb0 X⟩
  have hl := dec_len hw
  have hk : idxI (xs.drop off) e = ((Lib.decDigits w).length : Int) := by
    unfold idxI
    rw [hys, bytes_app, bytes_bI]
    refine index_app _ fun b hb => ?_
    have := dec_no hw b hb
    rcases hw2 with rfl | rfl
    · exact this.1
    · exact this.2
  have hlen : n = (Lib.decDigits w).length + (1 + tl.length) := by
    have := congrArg List.length hys
    rw [List.length_drop, List.length_append, bI_len, List.length_cons] at this
    omega
  have htk : (xs.drop off).take (Lib.decDigits w).length = bI (Lib.decDigits w) := by
    rw [hys, List.take_append_of_le_length (by rw [bI_len]; exact Nat.le_refl _), List.take_of_length_le (by rw [bI_len]; exact Nat.le_refl _)]
  have h := number_ok (tp := tp) r v off n xs e (m ++ X) hb' h1 (Lib.decDigits w).length hk hl (by omega) (gB_app hg3 X) (w : Int) (by rw [htk, bytes_bI]; exact atoi_dec hw)
  rw [htk, bytes_bI, itoa_dec, beq_self_eq_true] at h
  exact h
end Go.Proofs.YtbigijnadkeecaaDoor

set_option linter.unusedSimpArgs false
set_option linter.unusedVariables false
set_option maxRecDepth 100000
set_option maxHeartbeats 4000000
namespace Go.Proofs.YtbigijnadkeecaaDoor
open Go Go.Eng

theorem dec_A (r v n : Nat) (xs : List Int) (m : AMem) (hb : ∃ k ez, m[r]? = some ⟨k, 5, v, ez, u8c xs⟩) (h1 : n = xs.length) (hn : n ≤ 1048576) (hp : hpV xs [80, 54, 10] = false) : Ctr Tryd.prog 23 [.one (.sl r v 0 n)] m (.tup [(true, [.int .i64 0, .int .i64 0, .nils]), (false, [.int .i64 20])]) m := by
  refine Ctr.enter Tryd.func23 rfl (by decide) (rs := [.cell 2 44, .tmp 3]) (nt := 86) rfl rfl fun hwf Q hQ => ?_
  obtain ⟨k0, e0, hb0⟩ := hb
  have hr0 := get_lt hb0
  have hlt0 : ∀ k, ¬ m.length + k < m.length := fun k => by omega
  
  refine AW.seq_k fun K hK => ?_
  refine AW.region (by decide) ?_
  simp only [push_cast, simprocAttr, hb0, lk_old hb0]
  refine Thn_n ?_
  refine hK _ _ ?_
  clear hK K
  refine AW.seq_k fun K hK => ?_
  refine AW.region (by decide) ?_
  simp only [push_cast, simprocAttr, hb0, lk_old hb0]
  refine CThen.by (cut_no r v 0 n (m.length + 1) 0 3 xs [80, 54, 10] _ ⟨k0, e0, by first | exact hb0 | exact lk_old hb0 _⟩ ⟨.grow, 0, by simp only [push_cast, simprocAttr]; first | done | rfl⟩ (by omega) rfl (by decide) (by simpa using hp)) ?_
  simp only [push_cast, simprocAttr, hb0, lk_old hb0]
  refine Thn_n ?_
  refine hK _ _ ?_
  clear hK K
  refine AW.seq_k fun K hK => ?_
  refine AW.seq_k fun K hK => ?_
  refine AW.region (by decide) ?_
  simp only [push_cast, simprocAttr, hb0, lk_old hb0]
  refine Thn_n ?_
  refine hK _ _ ?_
  clear hK K
  refine AW.cond_t rfl ?_
  refine AW.seq_k fun K hK => ?_
  refine AW.region (by decide) ?_
  simp only [push_cast, simprocAttr, hb0, lk_old hb0]
  refine Thn_n ?_
  refine hK _ _ ?_
  clear hK K
  refine AW.ret ?_
  refine Thn_r ?_
  refine hQ _ _ _ ?_
  first | refine RetP.drop0 (Or.inr rfl) ?_ ?_ hwf | refine RetP.drop (Or.inr rfl) ?_ ?_ hwf
  · simp only [resA, resOne, resTv, AV.tv, push_cast, simprocAttr, hb0, lk_old hb0]
  · rfl
theorem dec_B1 (r v n : Nat) (xs : List Int) (m : AMem) (hb : ∃ k ez, m[r]? = some ⟨k, 5, v, ez, u8c xs⟩) (h1 : n = xs.length) (hn : n ≤ 1048576)  (hp : hpV xs [80, 54, 10] = true) (h3 : 3 ≤ n) (z1 : Int) (c1 : CV) (hn1 : ∀ X : AMem, Ctr Tryd.prog 50 [.one (.sl r v (3) (n - 3)), .one (.int .u8 32)] (m ++ X) (.tup [(false, [.int .i64 (z1)]), (false, [c1]), (false, [.bool false])]) (m ++ X))  : Ctr Tryd.prog 23 [.one (.sl r v 0 n)] m (.tup [(true, [.int .i64 0, .int .i64 0, .nils]), (false, [.int .i64 10])]) m := by
  refine Ctr.enter Tryd.func23 rfl (by decide) (rs := [.cell 2 44, .tmp 3]) (nt := 86) rfl rfl fun hwf Q hQ => ?_
  obtain ⟨k0, e0, hb0⟩ := hb
  have hr0 := get_lt hb0
  have hlt0 : ∀ k, ¬ m.length + k < m.length := fun k => by omega
  
  refine AW.seq_k fun K hK => ?_
  refine AW.region (by decide) ?_
  simp only [push_cast, simprocAttr, hb0, lk_old hb0]
  refine Thn_n ?_
  refine hK _ _ ?_
  clear hK K
  refine AW.seq_k fun K hK => ?_
  refine AW.region (by decide) ?_
  simp only [push_cast, simprocAttr, hb0, lk_old hb0]
  refine CThen.by (cut_yes r v 0 n (m.length + 1) 0 3 xs [80, 54, 10] _ ⟨k0, e0, by first | exact hb0 | exact lk_old hb0 _⟩ ⟨.grow, 0, by simp only [push_cast, simprocAttr]; first | done | rfl⟩ (by omega) rfl (by decide) (by simpa using hp) h3) ?_
  simp only [push_cast, simprocAttr, hb0, lk_old hb0]
  refine Thn_n ?_
  refine hK _ _ ?_
  clear hK K
  refine AW.seq_k fun K hK => ?_
  refine AW.seq_k fun K hK => ?_
  refine AW.region (by decide) ?_
  simp only [push_cast, simprocAttr, hb0, lk_old hb0]
  refine Thn_n ?_
  refine hK _ _ ?_
  clear hK K
  refine AW.cond_f rfl ?_
  refine AW.skip ?_
  refine Thn_n ?_
  refine hK _ _ ?_
  clear hK K
  refine AW.seq_k fun K hK => ?_
  refine AW.region (by decide) ?_
  simp only [push_cast, simprocAttr, hb0, lk_old hb0]
  refine Thn_n ?_
  refine hK _ _ ?_
  clear hK K
  refine AW.seq_k fun K hK => ?_
  refine AW.seq_k fun K hK => ?_
  refine AW.region (by decide) ?_
  simp only [push_cast, simprocAttr, hb0, lk_old hb0]
  refine CThen.by (hn1 _) ?_
  simp only [push_cast, simprocAttr, hb0, lk_old hb0]
  refine Thn_n ?_
  refine hK _ _ ?_
  clear hK K
  refine AW.seq_k fun K hK => ?_
  refine AW.region (by decide) ?_
  simp only [push_cast, simprocAttr, hb0, lk_old hb0]
  refine Thn_n ?_
  refine hK _ _ ?_
  clear hK K
  refine AW.cond_t rfl ?_
  refine AW.seq_k fun K hK => ?_
  refine AW.region (by decide) ?_
  simp only [push_cast, simprocAttr, hb0, lk_old hb0]
  refine Thn_n ?_
  refine hK _ _ ?_
  clear hK K
  refine AW.ret ?_
  refine Thn_r ?_
  refine hQ _ _ _ ?_
  first | refine RetP.drop0 (Or.inr rfl) ?_ ?_ hwf | refine RetP.drop (Or.inr rfl) ?_ ?_ hwf
  · simp only [resA, resOne, resTv, AV.tv, push_cast, simprocAttr, hb0, lk_old hb0]
  · rfl
theorem dec_B2 (r v n : Nat) (xs : List Int) (m : AMem) (hb : ∃ k ez, m[r]? = some ⟨k, 5, v, ez, u8c xs⟩) (h1 : n = xs.length) (hn : n ≤ 1048576)  (hp : hpV xs [80, 54, 10] = true) (h3 : 3 ≤ n) (z1 : Int) (o1 n1 : Nat) (hn1 : ∀ X : AMem, Ctr Tryd.prog 50 [.one (.sl r v (3) (n - 3)), .one (.int .u8 32)] (m ++ X) (.tup [(false, [.int .i64 (z1)]), (false, [.sl r v o1 n1]), (false, [.bool true])]) (m ++ X)) (z2 : Int) (c2 : CV) (hn2 : ∀ X : AMem, Ctr Tryd.prog 50 [.one (.sl r v (o1) (n1)), .one (.int .u8 10)] (m ++ X) (.tup [(false, [.int .i64 (z2)]), (false, [c2]), (false, [.bool false])]) (m ++ X))  : Ctr Tryd.prog 23 [.one (.sl r v 0 n)] m (.tup [(true, [.int .i64 0, .int .i64 0, .nils]), (false, [.int .i64 10])]) m := by
  refine Ctr.enter Tryd.func23 rfl (by decide) (rs := [.cell 2 44, .tmp 3]) (nt := 86) rfl rfl fun hwf Q hQ => ?_
  obtain ⟨k0, e0, hb0⟩ := hb
  have hr0 := get_lt hb0
  have hlt0 : ∀ k, ¬ m.length + k < m.length := fun k => by omega
  
  refine AW.seq_k fun K hK => ?_
  refine AW.region (by decide) ?_
  simp only [push_cast, simprocAttr, hb0, lk_old hb0]
  refine Thn_n ?_
  refine hK _ _ ?_
  clear hK K
  refine AW.seq_k fun K hK => ?_
  refine AW.region (by decide) ?_
  simp only [push_cast, simprocAttr, hb0, lk_old hb0]
  refine CThen.by (cut_yes r v 0 n (m.length + 1) 0 3 xs [80, 54, 10] _ ⟨k0, e0, by first | exact hb0 | exact lk_old hb0 _⟩ ⟨.grow, 0, by simp only [push_cast, simprocAttr]; first | done | rfl⟩ (by omega) rfl (by decide) (by simpa using hp) h3) ?_
  simp only [push_cast, simprocAttr, hb0, lk_old hb0]
  refine Thn_n ?_
  refine hK _ _ ?_
  clear hK K
  refine AW.seq_k fun K hK => ?_
  refine AW.seq_k fun K hK => ?_
  refine AW.region (by decide) ?_
  simp only [push_cast, simprocAttr, hb0, lk_old hb0]
  refine Thn_n ?_
  refine hK _ _ ?_
  clear hK K
  refine AW.cond_f rfl ?_
  refine AW.skip ?_
  refine Thn_n ?_
  refine hK _ _ ?_
  clear hK K
  refine AW.seq_k fun K hK => ?_
  refine AW.region (by decide) ?_
  simp only [push_cast, simprocAttr, hb0, lk_old hb0]
  refine Thn_n ?_
  refine hK _ _ ?_
  clear hK K
  refine AW.seq_k fun K hK => ?_
  refine AW.seq_k fun K hK => ?_
  refine AW.region (by decide) ?_
  simp only [push_cast, simprocAttr, hb0, lk_old hb0]
  refine CThen.by (hn1 _) ?_
  simp only [push_cast, simprocAttr, hb0, lk_old hb0]
  refine Thn_n ?_
  refine hK _ _ ?_
  clear hK K
  refine AW.seq_k fun K hK => ?_
  refine AW.region (by decide) ?_
  simp only [push_cast, simprocAttr, hb0, lk_old hb0]
  refine Thn_n ?_
  refine hK _ _ ?_
  clear hK K
  refine AW.cond_f rfl ?_
  refine AW.skip ?_
  refine Thn_n ?_
  refine hK _ _ ?_
  clear hK K
  refine AW.seq_k fun K hK => ?_
  refine AW.seq_k fun K hK => ?_
  refine AW.region (by decide) ?_
  simp only [push_cast, simprocAttr, hb0, lk_old hb0]
  refine CThen.by (hn2 _) ?_
  simp only [push_cast, simprocAttr, hb0, lk_old hb0]
  refine Thn_n ?_
  refine hK _ _ ?_
  clear hK K
  refine AW.seq_k fun K hK => ?_
  refine AW.region (by decide) ?_
  simp only [push_cast, simprocAttr, hb0, lk_old hb0]
  refine Thn_n ?_
  refine hK _ _ ?_
  clear hK K
  refine AW.cond_t rfl ?_
  refine AW.seq_k fun K hK => ?_
  refine AW.region (by decide) ?_
  simp only [push_cast, simprocAttr, hb0, lk_old hb0]
  refine Thn_n ?_
  refine hK _ _ ?_
  clear hK K
  refine AW.ret ?_
  refine Thn_r ?_
  refine hQ _ _ _ ?_
  first | refine RetP.drop0 (Or.inr rfl) ?_ ?_ hwf | refine RetP.drop (Or.inr rfl) ?_ ?_ hwf
  · simp only [resA, resOne, resTv, AV.tv, push_cast, simprocAttr, hb0, lk_old hb0]
  · rfl
theorem dec_B3 (r v n : Nat) (xs : List Int) (m : AMem) (hb : ∃ k ez, m[r]? = some ⟨k, 5, v, ez, u8c xs⟩) (h1 : n = xs.length) (hn : n ≤ 1048576)  (hp : hpV xs [80, 54, 10] = true) (h3 : 3 ≤ n) (z1 : Int) (o1 n1 : Nat) (hn1 : ∀ X : AMem, Ctr Tryd.prog 50 [.one (.sl r v (3) (n - 3)), .one (.int .u8 32)] (m ++ X) (.tup [(false, [.int .i64 (z1)]), (false, [.sl r v o1 n1]), (false, [.bool true])]) (m ++ X)) (z2 : Int) (o2 n2 : Nat) (hn2 : ∀ X : AMem, Ctr Tryd.prog 50 [.one (.sl r v (o1) (n1)), .one (.int .u8 10)] (m ++ X) (.tup [(false, [.int .i64 (z2)]), (false, [.sl r v o2 n2]), (false, [.bool true])]) (m ++ X)) (hs : szR z1 z2 = false) : Ctr Tryd.prog 23 [.one (.sl r v 0 n)] m (.tup [(true, [.int .i64 0, .int .i64 0, .nils]), (false, [.int .i64 10])]) m := by
  refine Ctr.enter Tryd.func23 rfl (by decide) (rs := [.cell 2 44, .tmp 3]) (nt := 86) rfl rfl fun hwf Q hQ => ?_
  obtain ⟨k0, e0, hb0⟩ := hb
  have hr0 := get_lt hb0
  have hlt0 : ∀ k, ¬ m.length + k < m.length := fun k => by omega
  
  refine AW.seq_k fun K hK => ?_
  refine AW.region (by decide) ?_
  simp only [push_cast, simprocAttr, hb0, lk_old hb0, hs]
  refine Thn_n ?_
  refine hK _ _ ?_
  clear hK K
  refine AW.seq_k fun K hK => ?_
  refine AW.region (by decide) ?_
  simp only [push_cast, simprocAttr, hb0, lk_old hb0, hs]
  refine CThen.by (cut_yes r v 0 n (m.length + 1) 0 3 xs [80, 54, 10] _ ⟨k0, e0, by first | exact hb0 | exact lk_old hb0 _⟩ ⟨.grow, 0, by simp only [push_cast, simprocAttr]; first | done | rfl⟩ (by omega) rfl (by decide) (by simpa using hp) h3) ?_
  simp only [push_cast, simprocAttr, hb0, lk_old hb0, hs]
  refine Thn_n ?_
  refine hK _ _ ?_
  clear hK K
  refine AW.seq_k fun K hK => ?_
  refine AW.seq_k fun K hK => ?_
  refine AW.region (by decide) ?_
  simp only [push_cast, simprocAttr, hb0, lk_old hb0, hs]
  refine Thn_n ?_
  refine hK _ _ ?_
  clear hK K
  refine AW.cond_f rfl ?_
  refine AW.skip ?_
  refine Thn_n ?_
  refine hK _ _ ?_
  clear hK K
  refine AW.seq_k fun K hK => ?_
  refine AW.region (by decide) ?_
  simp only [push_cast, simprocAttr, hb0, lk_old hb0, hs]
  refine Thn_n ?_
  refine hK _ _ ?_
  clear hK K
  refine AW.seq_k fun K hK => ?_
  refine AW.seq_k fun K hK => ?_
  refine AW.region (by decide) ?_
  simp only [push_cast, simprocAttr, hb0, lk_old hb0, hs]
  refine CThen.by (hn1 _) ?_
  simp only [push_cast, simprocAttr, hb0, lk_old hb0, hs]
  refine Thn_n ?_
  refine hK _ _ ?_
  clear hK K
  refine AW.seq_k fun K hK => ?_
  refine AW.region (by decide) ?_
  simp only [push_cast, simprocAttr, hb0, lk_old hb0, hs]
  refine Thn_n ?_
  refine hK _ _ ?_
  clear hK K
  refine AW.cond_f rfl ?_
  refine AW.skip ?_
  refine Thn_n ?_
  refine hK _ _ ?_
  clear hK K
  refine AW.seq_k fun K hK => ?_
  refine AW.seq_k fun K hK => ?_
  refine AW.region (by decide) ?_
  simp only [push_cast, simprocAttr, hb0, lk_old hb0, hs]
  refine CThen.by (hn2 _) ?_
  simp only [push_cast, simprocAttr, hb0, lk_old hb0, hs]
  refine Thn_n ?_
  refine hK _ _ ?_
  clear hK K
  refine AW.seq_k fun K hK => ?_
  refine AW.region (by decide) ?_
  simp only [push_cast, simprocAttr, hb0, lk_old hb0, hs]
  refine CThen.by (sizeRight_c z1 z2 _) ?_
  simp only [push_cast, simprocAttr, hb0, lk_old hb0, hs]
  refine Thn_n ?_
  refine hK _ _ ?_
  clear hK K
  refine AW.cond_t rfl ?_
  refine AW.seq_k fun K hK => ?_
  refine AW.region (by decide) ?_
  simp only [push_cast, simprocAttr, hb0, lk_old hb0, hs]
  refine Thn_n ?_
  refine hK _ _ ?_
  clear hK K
  refine AW.ret ?_
  refine Thn_r ?_
  refine hQ _ _ _ ?_
  first | refine RetP.drop0 (Or.inr rfl) ?_ ?_ hwf | refine RetP.drop (Or.inr rfl) ?_ ?_ hwf
  · simp only [resA, resOne, resTv, AV.tv, push_cast, simprocAttr, hb0, lk_old hb0, hs]
  · rfl
theorem dec_B4 (r v n : Nat) (xs : List Int) (m : AMem) (hb : ∃ k ez, m[r]? = some ⟨k, 5, v, ez, u8c xs⟩) (h1 : n = xs.length) (hn : n ≤ 1048576)  (hp : hpV xs [80, 54, 10] = true) (h3 : 3 ≤ n) (z1 : Int) (o1 n1 : Nat) (hn1 : ∀ X : AMem, Ctr Tryd.prog 50 [.one (.sl r v (3) (n - 3)), .one (.int .u8 32)] (m ++ X) (.tup [(false, [.int .i64 (z1)]), (false, [.sl r v o1 n1]), (false, [.bool true])]) (m ++ X)) (z2 : Int) (o2 n2 : Nat) (hn2 : ∀ X : AMem, Ctr Tryd.prog 50 [.one (.sl r v (o1) (n1)), .one (.int .u8 10)] (m ++ X) (.tup [(false, [.int .i64 (z2)]), (false, [.sl r v o2 n2]), (false, [.bool true])]) (m ++ X)) (hs : szR z1 z2 = true) (ho2 : o2 + n2 = xs.length) (hq : hpV (xs.drop o2) [50, 53, 53, 10] = false) : Ctr Tryd.prog 23 [.one (.sl r v 0 n)] m (.tup [(true, [.int .i64 0, .int .i64 0, .nils]), (false, [.int .i64 10])]) m := by
  refine Ctr.enter Tryd.func23 rfl (by decide) (rs := [.cell 2 44, .tmp 3]) (nt := 86) rfl rfl fun hwf Q hQ => ?_
  obtain ⟨k0, e0, hb0⟩ := hb
  have hr0 := get_lt hb0
  have hlt0 : ∀ k, ¬ m.length + k < m.length := fun k => by omega
  
  refine AW.seq_k fun K hK => ?_
  refine AW.region (by decide) ?_
  simp only [push_cast, simprocAttr, hb0, lk_old hb0, hs]
  refine Thn_n ?_
  refine hK _ _ ?_
  clear hK K
  refine AW.seq_k fun K hK => ?_
  refine AW.region (by decide) ?_
  simp only [push_cast, simprocAttr, hb0, lk_old hb0, hs]
  refine CThen.by (cut_yes r v 0 n (m.length + 1) 0 3 xs [80, 54, 10] _ ⟨k0, e0, by first | exact hb0 | exact lk_old hb0 _⟩ ⟨.grow, 0, by simp only [push_cast, simprocAttr]; first | done | rfl⟩ (by omega) rfl (by decide) (by simpa using hp) h3) ?_
  simp only [push_cast, simprocAttr, hb0, lk_old hb0, hs]
  refine Thn_n ?_
  refine hK _ _ ?_
  clear hK K
  refine AW.seq_k fun K hK => ?_
  refine AW.seq_k fun K hK => ?_
  refine AW.region (by decide) ?_
  simp only [push_cast, simprocAttr, hb0, lk_old hb0, hs]
  refine Thn_n ?_
  refine hK _ _ ?_
  clear hK K
  refine AW.cond_f rfl ?_
  refine AW.skip ?_
  refine Thn_n ?_
  refine hK _ _ ?_
  clear hK K
  refine AW.seq_k fun K hK => ?_
  refine AW.region (by decide) ?_
  simp only [push_cast, simprocAttr, hb0, lk_old hb0, hs]
  refine Thn_n ?_
  refine hK _ _ ?_
  clear hK K
  refine AW.seq_k fun K hK => ?_
  refine AW.seq_k fun K hK => ?_
  refine AW.region (by decide) ?_
  simp only [push_cast, simprocAttr, hb0, lk_old hb0, hs]
  refine CThen.by (hn1 _) ?_
  simp only [push_cast, simprocAttr, hb0, lk_old hb0, hs]
  refine Thn_n ?_
  refine hK _ _ ?_
  clear hK K
  refine AW.seq_k fun K hK => ?_
  refine AW.region (by decide) ?_
  simp only [push_cast, simprocAttr, hb0, lk_old hb0, hs]
  refine Thn_n ?_
  refine hK _ _ ?_
  clear hK K
  refine AW.cond_f rfl ?_
  refine AW.skip ?_
  refine Thn_n ?_
  refine hK _ _ ?_
  clear hK K
  refine AW.seq_k fun K hK => ?_
  refine AW.seq_k fun K hK => ?_
  refine AW.region (by decide) ?_
  simp only [push_cast, simprocAttr, hb0, lk_old hb0, hs]
  refine CThen.by (hn2 _) ?_
  simp only [push_cast, simprocAttr, hb0, lk_old hb0, hs]
  refine Thn_n ?_
  refine hK _ _ ?_
  clear hK K
  refine AW.seq_k fun K hK => ?_
  refine AW.region (by decide) ?_
  simp only [push_cast, simprocAttr, hb0, lk_old hb0, hs]
  refine CThen.by (sizeRight_c z1 z2 _) ?_
  simp only [push_cast, simprocAttr, hb0, lk_old hb0, hs]
  refine Thn_n ?_
  refine hK _ _ ?_
  clear hK K
  refine AW.cond_f rfl ?_
  refine AW.skip ?_
  refine Thn_n ?_
  refine hK _ _ ?_
  clear hK K
  refine AW.seq_k fun K hK => ?_
  refine AW.seq_k fun K hK => ?_
  refine AW.region (by decide) ?_
  simp only [push_cast, simprocAttr, hb0, lk_old hb0, hs]
  refine CThen.by (cut_no r v o2 n2 (m.length + 3) 0 4 xs [50, 53, 53, 10] _ ⟨k0, e0, by first | exact hb0 | exact lk_old hb0 _⟩ ⟨.grow, 0, by simp only [push_cast, simprocAttr]; first | done | rfl⟩ ho2 rfl (by decide) hq) ?_
  simp only [push_cast, simprocAttr, hb0, lk_old hb0, hs]
  refine Thn_n ?_
  refine hK _ _ ?_
  clear hK K
  refine AW.seq_k fun K hK => ?_
  refine AW.region (by decide) ?_
  simp only [push_cast, simprocAttr, hb0, lk_old hb0, hs]
  refine Thn_n ?_
  refine hK _ _ ?_
  clear hK K
  refine AW.cond_t rfl ?_
  refine AW.seq_k fun K hK => ?_
  refine AW.region (by decide) ?_
  simp only [push_cast, simprocAttr, hb0, lk_old hb0, hs]
  refine Thn_n ?_
  refine hK _ _ ?_
  clear hK K
  refine AW.ret ?_
  refine Thn_r ?_
  refine hQ _ _ _ ?_
  first | refine RetP.drop0 (Or.inr rfl) ?_ ?_ hwf | refine RetP.drop (Or.inr rfl) ?_ ?_ hwf
  · simp only [resA, resOne, resTv, AV.tv, push_cast, simprocAttr, hb0, lk_old hb0, hs]
  · rfl
theorem dec_C (r v n : Nat) (xs : List Int) (m : AMem) (hb : ∃ k ez, m[r]? = some ⟨k, 5, v, ez, u8c xs⟩) (h1 : n = xs.length) (hn : n ≤ 1048576)  (hp : hpV xs [80, 54, 10] = true) (h3 : 3 ≤ n) (w h : Nat) (hw : 1 ≤ w ∧ w ≤ 64) (hh : 1 ≤ h ∧ h ≤ 64) (o1 n1 : Nat) (hn1 : ∀ X : AMem, Ctr Tryd.prog 50 [.one (.sl r v (3) (n - 3)), .one (.int .u8 32)] (m ++ X) (.tup [(false, [.int .i64 ((w : Nat) : Int)]), (false, [.sl r v o1 n1]), (false, [.bool true])]) (m ++ X)) (o2 n2 : Nat) (hn2 : ∀ X : AMem, Ctr Tryd.prog 50 [.one (.sl r v (o1) (n1)), .one (.int .u8 10)] (m ++ X) (.tup [(false, [.int .i64 ((h : Nat) : Int)]), (false, [.sl r v o2 n2]), (false, [.bool true])]) (m ++ X)) (ho2 : o2 + n2 = xs.length) (h4 : 4 ≤ n2) (hq : hpV (xs.drop o2) [50, 53, 53, 10] = true) (hlen : n2 - 4 < 3 * (w * h)) : Ctr Tryd.prog 23 [.one (.sl r v 0 n)] m (.tup [(true, [.int .i64 0, .int .i64 0, .nils]), (false, [.int .i64 9])]) m := by
  refine Ctr.enter Tryd.func23 rfl (by decide) (rs := [.cell 2 44, .tmp 3]) (nt := 86) rfl rfl fun hwf Q hQ => ?_
  obtain ⟨k0, e0, hb0⟩ := hb
  have hr0 := get_lt hb0
  have hlt0 : ∀ k, ¬ m.length + k < m.length := fun k => by omega
  have hs : szR (w : Int) (h : Int) = true := by
    unfold szR
    simp only [Bool.and_eq_true, decide_eq_true_eq]
    omega
  obtain ⟨N, hN⟩ : ∃ N, N = w * h := ⟨_, rfl⟩
  have hN2 : N ≤ 64 * 64 := by rw [hN]; exact Nat.mul_le_mul (by omega) (by omega)
  have hNi : (w : Int) * (h : Int) = (N : Int) := by rw [hN]; push_cast; rfl
  have hNw : IntKind.i64.wrap (N : Int) = (N : Int) := wi (by omega)
  have hN3 : IntKind.i64.wrap (3 * (N : Int)) = 3 * (N : Int) := wi (by omega)
  obtain ⟨o3, ho3⟩ : ∃ o3, o3 = o2 + 4 := ⟨_, rfl⟩
  obtain ⟨n3, hn3⟩ : ∃ n3, n3 = n2 - 4 := ⟨_, rfl⟩
  rw [← hn3, ← hN] at hlen
  have cy : ∀ M : AMem, (∃ k ez, M[r]? = some ⟨k, 5, v, ez, u8c xs⟩) → (∃ k ez, M[m.length + 3]? = some ⟨k, 5, 0, ez, u8c [50, 53, 53, 10]⟩) → Ctr Tryd.prog 49 [.one (.sl r v o2 n2), .one (.sl (m.length + 3) 0 0 4)] M (.tup [(false, [.sl r v o3 n3]), (false, [.bool true])]) M := fun M a b => by
    rw [ho3, hn3]; exact cut_yes r v o2 n2 (m.length + 3) 0 4 xs [50, 53, 53, 10] M a b ho2 rfl (by decide) hq h4
  have x1 : (n3 : Int) < 3 * (N : Int) := by omega
  refine AW.seq_k fun K hK => ?_
  refine AW.region (by decide) ?_
  simp only [push_cast, simprocAttr, hb0, lk_old hb0, hs, hNi, hNw, hN3, x1]
  refine Thn_n ?_
  refine hK _ _ ?_
  clear hK K
  refine AW.seq_k fun K hK => ?_
  refine AW.region (by decide) ?_
  simp only [push_cast, simprocAttr, hb0, lk_old hb0, hs, hNi, hNw, hN3, x1]
  refine CThen.by (cut_yes r v 0 n (m.length + 1) 0 3 xs [80, 54, 10] _ ⟨k0, e0, by first | exact hb0 | exact lk_old hb0 _⟩ ⟨.grow, 0, by simp only [push_cast, simprocAttr]; first | done | rfl⟩ (by omega) rfl (by decide) (by simpa using hp) h3) ?_
  simp only [push_cast, simprocAttr, hb0, lk_old hb0, hs, hNi, hNw, hN3, x1]
  refine Thn_n ?_
  refine hK _ _ ?_
  clear hK K
  refine AW.seq_k fun K hK => ?_
  refine AW.seq_k fun K hK => ?_
  refine AW.region (by decide) ?_
  simp only [push_cast, simprocAttr, hb0, lk_old hb0, hs, hNi, hNw, hN3, x1]
  refine Thn_n ?_
  refine hK _ _ ?_
  clear hK K
  refine AW.cond_f rfl ?_
  refine AW.skip ?_
  refine Thn_n ?_
  refine hK _ _ ?_
  clear hK K
  refine AW.seq_k fun K hK => ?_
  refine AW.region (by decide) ?_
  simp only [push_cast, simprocAttr, hb0, lk_old hb0, hs, hNi, hNw, hN3, x1]
  refine Thn_n ?_
  refine hK _ _ ?_
  clear hK K
  refine AW.seq_k fun K hK => ?_
  refine AW.seq_k fun K hK => ?_
  refine AW.region (by decide) ?_
  simp only [push_cast, simprocAttr, hb0, lk_old hb0, hs, hNi, hNw, hN3, x1]
  refine CThen.by (hn1 _) ?_
  simp only [push_cast, simprocAttr, hb0, lk_old hb0, hs, hNi, hNw, hN3, x1]
  refine Thn_n ?_
  refine hK _ _ ?_
  clear hK K
  refine AW.seq_k fun K hK => ?_
  refine AW.region (by decide) ?_
  simp only [push_cast, simprocAttr, hb0, lk_old hb0, hs, hNi, hNw, hN3, x1]
  refine Thn_n ?_
  refine hK _ _ ?_
  clear hK K
  refine AW.cond_f rfl ?_
  refine AW.skip ?_
  refine Thn_n ?_
  refine hK _ _ ?_
  clear hK K
  refine AW.seq_k fun K hK => ?_
  refine AW.seq_k fun K hK => ?_
  refine AW.region (by decide) ?_
  simp only [push_cast, simprocAttr, hb0, lk_old hb0, hs, hNi, hNw, hN3, x1]
  refine CThen.by (hn2 _) ?_
  simp only [push_cast, simprocAttr, hb0, lk_old hb0, hs, hNi, hNw, hN3, x1]
  refine Thn_n ?_
  refine hK _ _ ?_
  clear hK K
  refine AW.seq_k fun K hK => ?_
  refine AW.region (by decide) ?_
  simp only [push_cast, simprocAttr, hb0, lk_old hb0, hs, hNi, hNw, hN3, x1]
  refine CThen.by (sizeRight_c _ _ _) ?_
  simp only [push_cast, simprocAttr, hb0, lk_old hb0, hs, hNi, hNw, hN3, x1]
  refine Thn_n ?_
  refine hK _ _ ?_
  clear hK K
  refine AW.cond_f rfl ?_
  refine AW.skip ?_
  refine Thn_n ?_
  refine hK _ _ ?_
  clear hK K
  refine AW.seq_k fun K hK => ?_
  refine AW.seq_k fun K hK => ?_
  refine AW.region (by decide) ?_
  simp only [push_cast, simprocAttr, hb0, lk_old hb0, hs, hNi, hNw, hN3, x1]
  refine CThen.by (cy _ ⟨k0, e0, by first | exact hb0 | exact lk_old hb0 _⟩ ⟨.grow, 0, by simp only [push_cast, simprocAttr]; first | done | rfl⟩) ?_
  simp only [push_cast, simprocAttr, hb0, lk_old hb0, hs, hNi, hNw, hN3, x1]
  refine Thn_n ?_
  refine hK _ _ ?_
  clear hK K
  refine AW.seq_k fun K hK => ?_
  refine AW.region (by decide) ?_
  simp only [push_cast, simprocAttr, hb0, lk_old hb0, hs, hNi, hNw, hN3, x1]
  refine Thn_n ?_
  refine hK _ _ ?_
  clear hK K
  refine AW.cond_f rfl ?_
  refine AW.skip ?_
  refine Thn_n ?_
  refine hK _ _ ?_
  clear hK K
  refine AW.seq_k fun K hK => ?_
  refine AW.seq_k fun K hK => ?_
  refine AW.region (by decide) ?_
  simp only [push_cast, simprocAttr, hb0, lk_old hb0, hs, hNi, hNw, hN3, x1]
  refine CThen.by (pixels_c _ _ _) ?_
  simp only [push_cast, simprocAttr, hb0, lk_old hb0, hs, hNi, hNw, hN3, x1]
  refine Thn_n ?_
  refine hK _ _ ?_
  clear hK K
  refine AW.block ?_
  refine AW.seq_k fun K hK => ?_
  refine AW.region (by decide) ?_
  simp only [push_cast, simprocAttr, hb0, lk_old hb0, hs, hNi, hNw, hN3, x1]
  refine Thn_n ?_
  refine hK _ _ ?_
  clear hK K
  refine AW.cond_t rfl ?_
  refine AW.seq_k fun K hK => ?_
  refine AW.region (by decide) ?_
  simp only [push_cast, simprocAttr, hb0, lk_old hb0, hs, hNi, hNw, hN3, x1]
  refine Thn_n ?_
  refine hK _ _ ?_
  clear hK K
  refine AW.ret ?_
  refine InB_r ?_
  refine Thn_r ?_
  refine hQ _ _ _ ?_
  first | refine RetP.drop0 (Or.inr rfl) ?_ ?_ hwf | refine RetP.drop (Or.inr rfl) ?_ ?_ hwf
  · simp only [resA, resOne, resTv, AV.tv, push_cast, simprocAttr, hb0, lk_old hb0, hs, hNi, hNw, hN3, x1]
  · rfl
theorem dec_D (r v n : Nat) (xs : List Int) (m : AMem) (hb : ∃ k ez, m[r]? = some ⟨k, 5, v, ez, u8c xs⟩) (h1 : n = xs.length) (hn : n ≤ 1048576)  (hp : hpV xs [80, 54, 10] = true) (h3 : 3 ≤ n) (w h : Nat) (hw : 1 ≤ w ∧ w ≤ 64) (hh : 1 ≤ h ∧ h ≤ 64) (o1 n1 : Nat) (hn1 : ∀ X : AMem, Ctr Tryd.prog 50 [.one (.sl r v (3) (n - 3)), .one (.int .u8 32)] (m ++ X) (.tup [(false, [.int .i64 ((w : Nat) : Int)]), (false, [.sl r v o1 n1]), (false, [.bool true])]) (m ++ X)) (o2 n2 : Nat) (hn2 : ∀ X : AMem, Ctr Tryd.prog 50 [.one (.sl r v (o1) (n1)), .one (.int .u8 10)] (m ++ X) (.tup [(false, [.int .i64 ((h : Nat) : Int)]), (false, [.sl r v o2 n2]), (false, [.bool true])]) (m ++ X)) (ho2 : o2 + n2 = xs.length) (h4 : 4 ≤ n2) (hq : hpV (xs.drop o2) [50, 53, 53, 10] = true) (hlen : 3 * (w * h) < n2 - 4) : Ctr Tryd.prog 23 [.one (.sl r v 0 n)] m (.tup [(true, [.int .i64 0, .int .i64 0, .nils]), (false, [.int .i64 10])]) m := by
  refine Ctr.enter Tryd.func23 rfl (by decide) (rs := [.cell 2 44, .tmp 3]) (nt := 86) rfl rfl fun hwf Q hQ => ?_
  obtain ⟨k0, e0, hb0⟩ := hb
  have hr0 := get_lt hb0
  have hlt0 : ∀ k, ¬ m.length + k < m.length := fun k => by omega
  have hs : szR (w : Int) (h : Int) = true := by
    unfold szR
    simp only [Bool.and_eq_true, decide_eq_true_eq]
    omega
  obtain ⟨N, hN⟩ : ∃ N, N = w * h := ⟨_, rfl⟩
  have hN2 : N ≤ 64 * 64 := by rw [hN]; exact Nat.mul_le_mul (by omega) (by omega)
  have hNi : (w : Int) * (h : Int) = (N : Int) := by rw [hN]; push_cast; rfl
  have hNw : IntKind.i64.wrap (N : Int) = (N : Int) := wi (by omega)
  have hN3 : IntKind.i64.wrap (3 * (N : Int)) = 3 * (N : Int) := wi (by omega)
  obtain ⟨o3, ho3⟩ : ∃ o3, o3 = o2 + 4 := ⟨_, rfl⟩
  obtain ⟨n3, hn3⟩ : ∃ n3, n3 = n2 - 4 := ⟨_, rfl⟩
  rw [← hn3, ← hN] at hlen
  have cy : ∀ M : AMem, (∃ k ez, M[r]? = some ⟨k, 5, v, ez, u8c xs⟩) → (∃ k ez, M[m.length + 3]? = some ⟨k, 5, 0, ez, u8c [50, 53, 53, 10]⟩) → Ctr Tryd.prog 49 [.one (.sl r v o2 n2), .one (.sl (m.length + 3) 0 0 4)] M (.tup [(false, [.sl r v o3 n3]), (false, [.bool true])]) M := fun M a b => by
    rw [ho3, hn3]; exact cut_yes r v o2 n2 (m.length + 3) 0 4 xs [50, 53, 53, 10] M a b ho2 rfl (by decide) hq h4
  have x1 : ¬ (n3 : Int) < 3 * (N : Int) := by omega
  have x2 : 3 * (N : Int) < (n3 : Int) := by omega
  refine AW.seq_k fun K hK => ?_
  refine AW.region (by decide) ?_
  simp only [push_cast, simprocAttr, hb0, lk_old hb0, hs, hNi, hNw, hN3, x1, x2]
  refine Thn_n ?_
  refine hK _ _ ?_
  clear hK K
  refine AW.seq_k fun K hK => ?_
  refine AW.region (by decide) ?_
  simp only [push_cast, simprocAttr, hb0, lk_old hb0, hs, hNi, hNw, hN3, x1, x2]
  refine CThen.by (cut_yes r v 0 n (m.length + 1) 0 3 xs [80, 54, 10] _ ⟨k0, e0, by first | exact hb0 | exact lk_old hb0 _⟩ ⟨.grow, 0, by simp only [push_cast, simprocAttr]; first | done | rfl⟩ (by omega) rfl (by decide) (by simpa using hp) h3) ?_
  simp only [push_cast, simprocAttr, hb0, lk_old hb0, hs, hNi, hNw, hN3, x1, x2]
  refine Thn_n ?_
  refine hK _ _ ?_
  clear hK K
  refine AW.seq_k fun K hK => ?_
  refine AW.seq_k fun K hK => ?_
  refine AW.region (by decide) ?_
  simp only [push_cast, simprocAttr, hb0, lk_old hb0, hs, hNi, hNw, hN3, x1, x2]
  refine Thn_n ?_
  refine hK _ _ ?_
  clear hK K
  refine AW.cond_f rfl ?_
  refine AW.skip ?_
  refine Thn_n ?_
  refine hK _ _ ?_
  clear hK K
  refine AW.seq_k fun K hK => ?_
  refine AW.region (by decide) ?_
  simp only [push_cast, simprocAttr, hb0, lk_old hb0, hs, hNi, hNw, hN3, x1, x2]
  refine Thn_n ?_
  refine hK _ _ ?_
  clear hK K
  refine AW.seq_k fun K hK => ?_
  refine AW.seq_k fun K hK => ?_
  refine AW.region (by decide) ?_
  simp only [push_cast, simprocAttr, hb0, lk_old hb0, hs, hNi, hNw, hN3, x1, x2]
  refine CThen.by (hn1 _) ?_
  simp only [push_cast, simprocAttr, hb0, lk_old hb0, hs, hNi, hNw, hN3, x1, x2]
  refine Thn_n ?_
  refine hK _ _ ?_
  clear hK K
  refine AW.seq_k fun K hK => ?_
  refine AW.region (by decide) ?_
  simp only [push_cast, simprocAttr, hb0, lk_old hb0, hs, hNi, hNw, hN3, x1, x2]
  refine Thn_n ?_
  refine hK _ _ ?_
  clear hK K
  refine AW.cond_f rfl ?_
  refine AW.skip ?_
  refine Thn_n ?_
  refine hK _ _ ?_
  clear hK K
  refine AW.seq_k fun K hK => ?_
  refine AW.seq_k fun K hK => ?_
  refine AW.region (by decide) ?_
  simp only [push_cast, simprocAttr, hb0, lk_old hb0, hs, hNi, hNw, hN3, x1, x2]
  refine CThen.by (hn2 _) ?_
  simp only [push_cast, simprocAttr, hb0, lk_old hb0, hs, hNi, hNw, hN3, x1, x2]
  refine Thn_n ?_
  refine hK _ _ ?_
  clear hK K
  refine AW.seq_k fun K hK => ?_
  refine AW.region (by decide) ?_
  simp only [push_cast, simprocAttr, hb0, lk_old hb0, hs, hNi, hNw, hN3, x1, x2]
  refine CThen.by (sizeRight_c _ _ _) ?_
  simp only [push_cast, simprocAttr, hb0, lk_old hb0, hs, hNi, hNw, hN3, x1, x2]
  refine Thn_n ?_
  refine hK _ _ ?_
  clear hK K
  refine AW.cond_f rfl ?_
  refine AW.skip ?_
  refine Thn_n ?_
  refine hK _ _ ?_
  clear hK K
  refine AW.seq_k fun K hK => ?_
  refine AW.seq_k fun K hK => ?_
  refine AW.region (by decide) ?_
  simp only [push_cast, simprocAttr, hb0, lk_old hb0, hs, hNi, hNw, hN3, x1, x2]
  refine CThen.by (cy _ ⟨k0, e0, by first | exact hb0 | exact lk_old hb0 _⟩ ⟨.grow, 0, by simp only [push_cast, simprocAttr]; first | done | rfl⟩) ?_
  simp only [push_cast, simprocAttr, hb0, lk_old hb0, hs, hNi, hNw, hN3, x1, x2]
  refine Thn_n ?_
  refine hK _ _ ?_
  clear hK K
  refine AW.seq_k fun K hK => ?_
  refine AW.region (by decide) ?_
  simp only [push_cast, simprocAttr, hb0, lk_old hb0, hs, hNi, hNw, hN3, x1, x2]
  refine Thn_n ?_
  refine hK _ _ ?_
  clear hK K
  refine AW.cond_f rfl ?_
  refine AW.skip ?_
  refine Thn_n ?_
  refine hK _ _ ?_
  clear hK K
  refine AW.seq_k fun K hK => ?_
  refine AW.seq_k fun K hK => ?_
  refine AW.region (by decide) ?_
  simp only [push_cast, simprocAttr, hb0, lk_old hb0, hs, hNi, hNw, hN3, x1, x2]
  refine CThen.by (pixels_c _ _ _) ?_
  simp only [push_cast, simprocAttr, hb0, lk_old hb0, hs, hNi, hNw, hN3, x1, x2]
  refine Thn_n ?_
  refine hK _ _ ?_
  clear hK K
  refine AW.block ?_
  refine AW.seq_k fun K hK => ?_
  refine AW.region (by decide) ?_
  simp only [push_cast, simprocAttr, hb0, lk_old hb0, hs, hNi, hNw, hN3, x1, x2]
  refine Thn_n ?_
  refine hK _ _ ?_
  clear hK K
  refine AW.cond_f rfl ?_
  refine AW.seq_k fun K hK => ?_
  refine AW.region (by decide) ?_
  simp only [push_cast, simprocAttr, hb0, lk_old hb0, hs, hNi, hNw, hN3, x1, x2]
  refine Thn_n ?_
  refine hK _ _ ?_
  clear hK K
  refine AW.cond_t rfl ?_
  refine AW.seq_k fun K hK => ?_
  refine AW.region (by decide) ?_
  simp only [push_cast, simprocAttr, hb0, lk_old hb0, hs, hNi, hNw, hN3, x1, x2]
  refine Thn_n ?_
  refine hK _ _ ?_
  clear hK K
  refine AW.ret ?_
  refine InB_r ?_
  refine Thn_r ?_
  refine hQ _ _ _ ?_
  first | refine RetP.drop0 (Or.inr rfl) ?_ ?_ hwf | refine RetP.drop (Or.inr rfl) ?_ ?_ hwf
  · simp only [resA, resOne, resTv, AV.tv, push_cast, simprocAttr, hb0, lk_old hb0, hs, hNi, hNw, hN3, x1, x2]
  · rfl
theorem dec_E (r v n : Nat) (xs : List Int) (m : AMem) (hb : ∃ k ez, m[r]? = some ⟨k, 5, v, ez, u8c xs⟩) (h1 : n = xs.length) (hn : n ≤ 1048576)  (hp : hpV xs [80, 54, 10] = true) (h3 : 3 ≤ n) (w h : Nat) (hw : 1 ≤ w ∧ w ≤ 64) (hh : 1 ≤ h ∧ h ≤ 64) (o1 n1 : Nat) (hn1 : ∀ X : AMem, Ctr Tryd.prog 50 [.one (.sl r v (3) (n - 3)), .one (.int .u8 32)] (m ++ X) (.tup [(false, [.int .i64 ((w : Nat) : Int)]), (false, [.sl r v o1 n1]), (false, [.bool true])]) (m ++ X)) (o2 n2 : Nat) (hn2 : ∀ X : AMem, Ctr Tryd.prog 50 [.one (.sl r v (o1) (n1)), .one (.int .u8 10)] (m ++ X) (.tup [(false, [.int .i64 ((h : Nat) : Int)]), (false, [.sl r v o2 n2]), (false, [.bool true])]) (m ++ X)) (ho2 : o2 + n2 = xs.length) (h4 : 4 ≤ n2) (hq : hpV (xs.drop o2) [50, 53, 53, 10] = true) (hlen : n2 - 4 = 3 * (w * h)) : Ctr Tryd.prog 23 [.one (.sl r v 0 n)] m (.tup [(true, [.int .i64 (w : Int), .int .i64 (h : Int), .sl m.length 0 0 (w * h)]), (false, [.int .i64 0])]) (m ++ [⟨.grow, 69, 0, 3, d8 (w * h) (fun i k => xs.getD ((o2 + 4) + 3 * i + k) 0)⟩]) := by
  refine Ctr.enter Tryd.func23 rfl (by decide) (rs := [.cell 2 44, .tmp 3]) (nt := 86) rfl rfl fun hwf Q hQ => ?_
  obtain ⟨k0, e0, hb0⟩ := hb
  have hr0 := get_lt hb0
  have hlt0 : ∀ k, ¬ m.length + k < m.length := fun k => by omega
  have hs : szR (w : Int) (h : Int) = true := by
    unfold szR
    simp only [Bool.and_eq_true, decide_eq_true_eq]
    omega
  obtain ⟨N, hN⟩ : ∃ N, N = w * h := ⟨_, rfl⟩
  have hN2 : N ≤ 64 * 64 := by rw [hN]; exact Nat.mul_le_mul (by omega) (by omega)
  have hNi : (w : Int) * (h : Int) = (N : Int) := by rw [hN]; push_cast; rfl
  have hNw : IntKind.i64.wrap (N : Int) = (N : Int) := wi (by omega)
  have hN3 : IntKind.i64.wrap (3 * (N : Int)) = 3 * (N : Int) := wi (by omega)
  obtain ⟨o3, ho3⟩ : ∃ o3, o3 = o2 + 4 := ⟨_, rfl⟩
  obtain ⟨n3, hn3⟩ : ∃ n3, n3 = n2 - 4 := ⟨_, rfl⟩
  rw [← hn3, ← hN] at hlen
  have cy : ∀ M : AMem, (∃ k ez, M[r]? = some ⟨k, 5, v, ez, u8c xs⟩) → (∃ k ez, M[m.length + 3]? = some ⟨k, 5, 0, ez, u8c [50, 53, 53, 10]⟩) → Ctr Tryd.prog 49 [.one (.sl r v o2 n2), .one (.sl (m.length + 3) 0 0 4)] M (.tup [(false, [.sl r v o3 n3]), (false, [.bool true])]) M := fun M a b => by
    rw [ho3, hn3]; exact cut_yes r v o2 n2 (m.length + 3) 0 4 xs [50, 53, 53, 10] M a b ho2 rfl (by decide) hq h4
  have x1 : ¬ (n3 : Int) < 3 * (N : Int) := by omega
  have x2 : ¬ 3 * (N : Int) < (n3 : Int) := by omega
  obtain ⟨G, hG⟩ : ∃ G : Nat → Nat → Int, G = (fun i k => xs.getD (o3 + 3 * i + k) 0) := ⟨_, rfl⟩
  rw [← ho3, ← hG, ← hN] at hQ
  have d0 : d8 0 G = [] := rfl
  have y1 : n3 - 3 * 0 = n3 := by omega
  have y2 : o3 + 3 * 0 = o3 := by omega
  refine AW.seq_k fun K hK => ?_
  refine AW.region (by decide) ?_
  simp only [push_cast, simprocAttr, hb0, lk_old hb0, hs, hNi, hNw, hN3, x1, x2]
  refine Thn_n ?_
  refine hK _ _ ?_
  clear hK K
  refine AW.seq_k fun K hK => ?_
  refine AW.region (by decide) ?_
  simp only [push_cast, simprocAttr, hb0, lk_old hb0, hs, hNi, hNw, hN3, x1, x2]
  refine CThen.by (cut_yes r v 0 n (m.length + 1) 0 3 xs [80, 54, 10] _ ⟨k0, e0, by first | exact hb0 | exact lk_old hb0 _⟩ ⟨.grow, 0, by simp only [push_cast, simprocAttr]; first | done | rfl⟩ (by omega) rfl (by decide) (by simpa using hp) h3) ?_
  simp only [push_cast, simprocAttr, hb0, lk_old hb0, hs, hNi, hNw, hN3, x1, x2]
  refine Thn_n ?_
  refine hK _ _ ?_
  clear hK K
  refine AW.seq_k fun K hK => ?_
  refine AW.seq_k fun K hK => ?_
  refine AW.region (by decide) ?_
  simp only [push_cast, simprocAttr, hb0, lk_old hb0, hs, hNi, hNw, hN3, x1, x2]
  refine Thn_n ?_
  refine hK _ _ ?_
  clear hK K
  refine AW.cond_f rfl ?_
  refine AW.skip ?_
  refine Thn_n ?_
  refine hK _ _ ?_
  clear hK K
  refine AW.seq_k fun K hK => ?_
  refine AW.region (by decide) ?_
  simp only [push_cast, simprocAttr, hb0, lk_old hb0, hs, hNi, hNw, hN3, x1, x2]
  refine Thn_n ?_
  refine hK _ _ ?_
  clear hK K
  refine AW.seq_k fun K hK => ?_
  refine AW.seq_k fun K hK => ?_
  refine AW.region (by decide) ?_
  simp only [push_cast, simprocAttr, hb0, lk_old hb0, hs, hNi, hNw, hN3, x1, x2]
  refine CThen.by (hn1 _) ?_
  simp only [push_cast, simprocAttr, hb0, lk_old hb0, hs, hNi, hNw, hN3, x1, x2]
  refine Thn_n ?_
  refine hK _ _ ?_
  clear hK K
  refine AW.seq_k fun K hK => ?_
  refine AW.region (by decide) ?_
  simp only [push_cast, simprocAttr, hb0, lk_old hb0, hs, hNi, hNw, hN3, x1, x2]
  refine Thn_n ?_
  refine hK _ _ ?_
  clear hK K
  refine AW.cond_f rfl ?_
  refine AW.skip ?_
  refine Thn_n ?_
  refine hK _ _ ?_
  clear hK K
  refine AW.seq_k fun K hK => ?_
  refine AW.seq_k fun K hK => ?_
  refine AW.region (by decide) ?_
  simp only [push_cast, simprocAttr, hb0, lk_old hb0, hs, hNi, hNw, hN3, x1, x2]
  refine CThen.by (hn2 _) ?_
  simp only [push_cast, simprocAttr, hb0, lk_old hb0, hs, hNi, hNw, hN3, x1, x2]
  refine Thn_n ?_
  refine hK _ _ ?_
  clear hK K
  refine AW.seq_k fun K hK => ?_
  refine AW.region (by decide) ?_
  simp only [push_cast, simprocAttr, hb0, lk_old hb0, hs, hNi, hNw, hN3, x1, x2]
  refine CThen.by (sizeRight_c _ _ _) ?_
  simp only [push_cast, simprocAttr, hb0, lk_old hb0, hs, hNi, hNw, hN3, x1, x2]
  refine Thn_n ?_
  refine hK _ _ ?_
  clear hK K
  refine AW.cond_f rfl ?_
  refine AW.skip ?_
  refine Thn_n ?_
  refine hK _ _ ?_
  clear hK K
  refine AW.seq_k fun K hK => ?_
  refine AW.seq_k fun K hK => ?_
  refine AW.region (by decide) ?_
  simp only [push_cast, simprocAttr, hb0, lk_old hb0, hs, hNi, hNw, hN3, x1, x2]
  refine CThen.by (cy _ ⟨k0, e0, by first | exact hb0 | exact lk_old hb0 _⟩ ⟨.grow, 0, by simp only [push_cast, simprocAttr]; first | done | rfl⟩) ?_
  simp only [push_cast, simprocAttr, hb0, lk_old hb0, hs, hNi, hNw, hN3, x1, x2]
  refine Thn_n ?_
  refine hK _ _ ?_
  clear hK K
  refine AW.seq_k fun K hK => ?_
  refine AW.region (by decide) ?_
  simp only [push_cast, simprocAttr, hb0, lk_old hb0, hs, hNi, hNw, hN3, x1, x2]
  refine Thn_n ?_
  refine hK _ _ ?_
  clear hK K
  refine AW.cond_f rfl ?_
  refine AW.skip ?_
  refine Thn_n ?_
  refine hK _ _ ?_
  clear hK K
  refine AW.seq_k fun K hK => ?_
  refine AW.seq_k fun K hK => ?_
  refine AW.region (by decide) ?_
  simp only [push_cast, simprocAttr, hb0, lk_old hb0, hs, hNi, hNw, hN3, x1, x2]
  refine CThen.by (pixels_c _ _ _) ?_
  simp only [push_cast, simprocAttr, hb0, lk_old hb0, hs, hNi, hNw, hN3, x1, x2]
  refine Thn_n ?_
  refine hK _ _ ?_
  clear hK K
  refine AW.block ?_
  iterate 2
    refine AW.seq_k fun K hK => ?_
    refine AW.region (by decide) ?_
    simp only [push_cast, simprocAttr, hb0, lk_old hb0, hs, hNi, hNw, hN3, x1, x2]
    refine Thn_n ?_
    refine hK _ _ ?_
    clear hK K
    refine AW.cond_f rfl ?_
  refine AW.skip ?_
  refine InB_n ?_
  refine Thn_n ?_
  refine hK _ _ ?_
  clear hK K
  refine AW.seq_k fun K hK => ?_
  refine AW.block ?_
  refine AW.nilCell 69 3 (m.length + 2) 2 (by simp only [push_cast, simprocAttr, hb0, lk_old hb0, hs, hNi, hNw, hN3, x1, x2]; first | done | rfl) (by intro e; cases e) rfl ?_
  try simp only [push_cast, simprocAttr, hb0, lk_old hb0, hs, hNi, hNw, hN3, x1, x2]
  refine AW.loopK [2, 6] (fun i => i ≤ N) (fun i => [(4, .one (.sl r v (o3 + 3 * i) (n3 - 3 * i)))]) (fun i => [(m.length + 2, ⟨.fix, 44, 0, 0, [.int .i64 (w : Int), .int .i64 (h : Int), .sl (m.length + 4) i 0 i]⟩), (m.length + 4, ⟨.grow, 69, i, 3, d8 i G⟩)]) (fun i => N - i) 0 (by omega) ?_ ?_ fun i hi20 => ?_
  · first | rfl | (simp only [Keeps, Tm.get_cons, Nat.reduceEqDiff, ↓reduceIte, if_true, if_false, ite_true, ite_false, true_and, and_true, and_self, reduceCtorEq, d0, y1, y2] <;> rfl)
  · first | rfl | (simp only [setAll, push_cast, simprocAttr, hb0, lk_old hb0, hs, hNi, hNw, hN3, x1, x2, d0, y1, y2] <;> rfl)
  try simp only [keepL, setAll, push_cast, simprocAttr, hb0, lk_old hb0, hs, hNi, hNw, hN3, x1, x2]
  refine AW.seq_k fun K hK => ?_
  refine AW.seq_k fun K hK => ?_
  refine AW.region (by decide) ?_
  simp only [push_cast, simprocAttr, hb0, lk_old hb0, hs, hNi, hNw, hN3, x1, x2]
  refine Thn_n ?_
  refine hK _ _ ?_
  clear hK K
  refine AW.cond rfl (fun h74 => ?_) (fun h74 => ?_)
  · have hlt : i < N := by have := of_decide_eq_true h74; omega
    have c3 : o3 + (3 * i + 3) ≤ (u8c xs).length := by rw [u8c_len]; omega
    have c4 : 3 ≤ n3 - 3 * i := by omega
    have c5 : (3 : Int) ≤ ((n3 - 3 * i : Nat) : Int) := by omega
    have gget : ∀ k, k < 3 → (u8c xs)[o3 + 3 * i + k]? = some (.int .u8 (G i k)) := fun k hk => by
      refine u8c_get ?_
      rw [hG]
      show xs[o3 + 3 * i + k]? = some (xs.getD (o3 + 3 * i + k) 0)
      have : o3 + 3 * i + k < xs.length := by omega
      rw [List.getD_eq_getElem?_getD, List.getElem?_eq_getElem this]; rfl
    have g3 : ((u8c xs).drop (o3 + 3 * i)).take 3 = [.int .u8 (G i 0), .int .u8 (G i 1), .int .u8 (G i 2)] := by
      refine List.ext_getElem? fun j => ?_
      rw [List.getElem?_take]
      split
      · rename_i hj
        rw [List.getElem?_drop, gget j hj]
        match j, hj with
        | 0, _ => rfl
        | 1, _ => rfl
        | 2, _ => rfl
      · rename_i hj
        rw [List.getElem?_eq_none (by simp; omega)]
    have hst : d8 i G ++ [.int .u8 (G i 0), .int .u8 (G i 1), .int .u8 (G i 2)] = d8 (i + 1) G := d8_snoc
    have gi := d8_len i G
    have m1 : i + 1 ≤ 140737488355328 := by omega
    have m2 : (i + 1) * 3 ≤ 140737488355328 := by omega
    have u1 : 3 * (i + 1) = 3 * i + 3 := by omega
    have u2 : n3 - (3 * i + 3) = n3 - 3 * i - 3 := by omega
    refine AW.skip ?_
    refine Thn_n ?_
    refine hK _ _ ?_
    clear hK K
    refine AW.seq_k fun K hK => ?_
    refine AW.block ?_
    refine AW.draw [.val, .rd 0, .val, .val, .rd 0, .ext, .wr, .val, .wr] fol (by decide) (by kernel_rfl) ?_
    simp only [push_cast, simprocAttr, hb0, lk_old hb0, hs, hNi, hNw, hN3, x1, x2, c3, c4, c5, g3, gi, m1, m2, Int.le_refl]
    refine DExt.by (by first | rfl | exact (List.append_nil _).symm | (simp only [List.append_assoc, List.cons_append, List.nil_append]; rfl)) ?_
    simp only [push_cast, simprocAttr, hb0, lk_old hb0, hs, hNi, hNw, hN3, x1, x2, c3, c4, c5, g3, gi, m1, m2, Int.le_refl]
    refine InB_n ?_
    refine Thn_n ?_
    refine hK _ _ ?_
    clear hK K
    refine AW.region (by decide) ?_
    simp only [push_cast, simprocAttr, hb0, lk_old hb0, hs, hNi, hNw, hN3, x1, x2, c3, c4, c5, g3, gi, m1, m2, Int.le_refl]
    refine Thn_n ?_
    refine ⟨i + 1, by omega, by omega, ?_⟩
    try simp only [keepL, setAll, push_cast, simprocAttr, hb0, lk_old hb0, hs, hNi, hNw, hN3, x1, x2, c3, c4, c5, g3, gi, m1, m2, Int.le_refl, hst, u1, u2]
    exact Weak.to (extra := [_]) (by simp only [Keeps, Tm.get_cons, Nat.reduceEqDiff, ↓reduceIte, if_true, if_false, ite_true, ite_false, true_and, and_true, and_self, reduceCtorEq, hst, u1, u2]) (by first | rfl | (simp only [List.append_assoc, List.cons_append, List.nil_append]; rfl)) (by first | rfl | (simp [AV.below, CV.below, d8_below]; done) | (simp [AV.below, CV.below, d8_below]; omega)) (by
      first | exact hwf | refine MWf.app (hwf.grow (by simp)) ?_
      repeat (first | exact MWf_nil | (refine MWf_cons ?_ ?_; · first | rfl | (simp [CV.below, d8_below]; done) | (simp [CV.below, d8_below]; omega))))
  · have hin : i = N := by have := of_decide_eq_false h74; omega
    have hin2 := hin.symm
    subst hin2
    refine AW.exit ?_
    refine Thn_e ?_
    clear hK K
    refine Thn_e ?_
    refine InB_here ?_
    refine Thn_n ?_
    refine hK _ _ ?_
    clear hK K
    refine AW.seq_k fun K hK => ?_
    refine AW.region (by decide) ?_
    simp only [push_cast, simprocAttr, hb0, lk_old hb0, hs, hNi, hNw, hN3, x1, x2]
    refine Thn_n ?_
    refine hK _ _ ?_
    clear hK K
    refine AW.ret ?_
    refine hQ _ _ _ ?_
    refine RetP.pick [(m.length + 4, N)] (Or.inr rfl) ?_ ?_ ?_ hwf ?_
    · simp only [resA, resOne, resTv, AV.tv, push_cast, simprocAttr]
      simp [renV, renT, renL, renC, renIdx, hlt0]
    · simp only [picks, push_cast, simprocAttr]
    · simp [distinctFrom]
    · exact MWf_one (d8_below _ _ _)
end Go.Proofs.YtbigijnadkeecaaDoor

set_option linter.unusedSimpArgs false
set_option linter.unusedVariables false
set_option maxRecDepth 100000
set_option maxHeartbeats 4000000
namespace Go.Proofs.YtbigijnadkeecaaDoor
open Go Go.Eng

theorem rdec_A0 (r v n : Nat) (xs : List Int) (m : AMem) (hb : ∃ k ez, m[r]? = some ⟨k, 5, v, ez, u8c xs⟩) (h1 : n = xs.length) (hn : n ≤ 1048576) (hs : n < 3) : Ctr Tryd.prog 24 [.one (.sl r v 0 n)] m (.tup [(true, [.int .i64 0, .int .i64 0, .nils]), (false, [.int .i64 20])]) m := by
  refine Ctr.enter Tryd.func24 rfl (by decide) (rs := [.cell 2 52, .tmp 3]) (nt := 113) rfl rfl fun hwf Q hQ => ?_
  obtain ⟨k0, e0, hb0⟩ := hb
  have hr0 := get_lt hb0
  have hlt0 : ∀ k, ¬ m.length + k < m.length := fun k => by omega
  have hul := u8c_len xs
  have z0 : (n : Int) < 3 := by omega
  refine AW.seq_k fun K hK => ?_
  refine AW.region (by decide) ?_
  simp only [push_cast, simprocAttr, hb0, lk_old hb0, z0]
  refine Thn_n ?_
  refine hK _ _ ?_
  clear hK K
  refine AW.seq_k fun K hK => ?_
  refine AW.seq_k fun K hK => ?_
  refine AW.region (by decide) ?_
  simp only [push_cast, simprocAttr, hb0, lk_old hb0, z0]
  refine Thn_n ?_
  refine hK _ _ ?_
  clear hK K
  refine AW.cond_t rfl ?_
  refine AW.seq_k fun K hK => ?_
  refine AW.region (by decide) ?_
  simp only [push_cast, simprocAttr, hb0, lk_old hb0, z0]
  refine Thn_n ?_
  refine hK _ _ ?_
  clear hK K
  refine AW.ret ?_
  refine Thn_r ?_
  refine hQ _ _ _ ?_
  first | refine RetP.drop0 (Or.inr rfl) ?_ ?_ hwf | refine RetP.drop (Or.inr rfl) ?_ ?_ hwf
  · simp only [resA, resOne, resTv, AV.tv, push_cast, simprocAttr, hb0, lk_old hb0, z0]
  · rfl
theorem rdec_A1 (r v n : Nat) (xs : List Int) (m : AMem) (hb : ∃ k ez, m[r]? = some ⟨k, 5, v, ez, u8c xs⟩) (h1 : n = xs.length) (hn : n ≤ 1048576) (h3 : 3 ≤ n) (x0 x1 x2 : Int) (hx0 : xs[0]? = some x0) (hx1 : xs[1]? = some x1) (hx2 : xs[2]? = some x2) (q0 : ¬ x0 = 80) : Ctr Tryd.prog 24 [.one (.sl r v 0 n)] m (.tup [(true, [.int .i64 0, .int .i64 0, .nils]), (false, [.int .i64 20])]) m := by
  refine Ctr.enter Tryd.func24 rfl (by decide) (rs := [.cell 2 52, .tmp 3]) (nt := 113) rfl rfl fun hwf Q hQ => ?_
  obtain ⟨k0, e0, hb0⟩ := hb
  have hr0 := get_lt hb0
  have hlt0 : ∀ k, ¬ m.length + k < m.length := fun k => by omega
  have hul := u8c_len xs
  have z1 : (0 : Int) < (n : Nat) := by omega
  have z2 : (1 : Int) < (n : Nat) := by omega
  have z3 : (2 : Int) < (n : Nat) := by omega
  have z0 : ¬ (n : Int) < 3 := by omega
  have gx0 := u8c_get hx0
  have gx1 := u8c_get hx1
  have gx2 := u8c_get hx2
  have y0 : (x0 != 80) = true := by simp [q0]
  
  refine AW.seq_k fun K hK => ?_
  refine AW.region (by decide) ?_
  simp only [push_cast, simprocAttr, Nat.sub_zero, Int.le_refl, hb0, lk_old hb0, hul, z0, z1, z2, z3, gx0, gx1, gx2, y0]
  refine Thn_n ?_
  refine hK _ _ ?_
  clear hK K
  refine AW.seq_k fun K hK => ?_
  refine AW.seq_k fun K hK => ?_
  refine AW.region (by decide) ?_
  simp only [push_cast, simprocAttr, Nat.sub_zero, Int.le_refl, hb0, lk_old hb0, hul, z0, z1, z2, z3, gx0, gx1, gx2, y0]
  refine Thn_n ?_
  refine hK _ _ ?_
  clear hK K
  refine AW.cond_t rfl ?_
  refine AW.seq_k fun K hK => ?_
  refine AW.region (by decide) ?_
  simp only [push_cast, simprocAttr, Nat.sub_zero, Int.le_refl, hb0, lk_old hb0, hul, z0, z1, z2, z3, gx0, gx1, gx2, y0]
  refine Thn_n ?_
  refine hK _ _ ?_
  clear hK K
  refine AW.ret ?_
  refine Thn_r ?_
  refine hQ _ _ _ ?_
  first | refine RetP.drop0 (Or.inr rfl) ?_ ?_ hwf | refine RetP.drop (Or.inr rfl) ?_ ?_ hwf
  · simp only [resA, resOne, resTv, AV.tv, push_cast, simprocAttr, Nat.sub_zero, Int.le_refl, hb0, lk_old hb0, hul, z0, z1, z2, z3, gx0, gx1, gx2, y0]
  · rfl
theorem rdec_A2 (r v n : Nat) (xs : List Int) (m : AMem) (hb : ∃ k ez, m[r]? = some ⟨k, 5, v, ez, u8c xs⟩) (h1 : n = xs.length) (hn : n ≤ 1048576) (h3 : 3 ≤ n) (x0 x1 x2 : Int) (hx0 : xs[0]? = some x0) (hx1 : xs[1]? = some x1) (hx2 : xs[2]? = some x2) (q0 : x0 = 80) (q1 : ¬ x1 = 54) : Ctr Tryd.prog 24 [.one (.sl r v 0 n)] m (.tup [(true, [.int .i64 0, .int .i64 0, .nils]), (false, [.int .i64 20])]) m := by
  refine Ctr.enter Tryd.func24 rfl (by decide) (rs := [.cell 2 52, .tmp 3]) (nt := 113) rfl rfl fun hwf Q hQ => ?_
  obtain ⟨k0, e0, hb0⟩ := hb
  have hr0 := get_lt hb0
  have hlt0 : ∀ k, ¬ m.length + k < m.length := fun k => by omega
  have hul := u8c_len xs
  have z1 : (0 : Int) < (n : Nat) := by omega
  have z2 : (1 : Int) < (n : Nat) := by omega
  have z3 : (2 : Int) < (n : Nat) := by omega
  have z0 : ¬ (n : Int) < 3 := by omega
  have gx0 := u8c_get hx0
  have gx1 := u8c_get hx1
  have gx2 := u8c_get hx2
  have y0 : (x0 != 80) = false := by simp [q0]
  have y1 : (x1 != 54) = true := by simp [q1]
  
  refine AW.seq_k fun K hK => ?_
  refine AW.region (by decide) ?_
  simp only [push_cast, simprocAttr, Nat.sub_zero, Int.le_refl, hb0, lk_old hb0, hul, z0, z1, z2, z3, gx0, gx1, gx2, y0, y1]
  refine Thn_n ?_
  refine hK _ _ ?_
  clear hK K
  refine AW.seq_k fun K hK => ?_
  refine AW.seq_k fun K hK => ?_
  refine AW.region (by decide) ?_
  simp only [push_cast, simprocAttr, Nat.sub_zero, Int.le_refl, hb0, lk_old hb0, hul, z0, z1, z2, z3, gx0, gx1, gx2, y0, y1]
  refine Thn_n ?_
  refine hK _ _ ?_
  clear hK K
  refine AW.cond_t rfl ?_
  refine AW.seq_k fun K hK => ?_
  refine AW.region (by decide) ?_
  simp only [push_cast, simprocAttr, Nat.sub_zero, Int.le_refl, hb0, lk_old hb0, hul, z0, z1, z2, z3, gx0, gx1, gx2, y0, y1]
  refine Thn_n ?_
  refine hK _ _ ?_
  clear hK K
  refine AW.ret ?_
  refine Thn_r ?_
  refine hQ _ _ _ ?_
  first | refine RetP.drop0 (Or.inr rfl) ?_ ?_ hwf | refine RetP.drop (Or.inr rfl) ?_ ?_ hwf
  · simp only [resA, resOne, resTv, AV.tv, push_cast, simprocAttr, Nat.sub_zero, Int.le_refl, hb0, lk_old hb0, hul, z0, z1, z2, z3, gx0, gx1, gx2, y0, y1]
  · rfl
theorem rdec_A3 (r v n : Nat) (xs : List Int) (m : AMem) (hb : ∃ k ez, m[r]? = some ⟨k, 5, v, ez, u8c xs⟩) (h1 : n = xs.length) (hn : n ≤ 1048576) (h3 : 3 ≤ n) (x0 x1 x2 : Int) (hx0 : xs[0]? = some x0) (hx1 : xs[1]? = some x1) (hx2 : xs[2]? = some x2) (q0 : x0 = 80) (q1 : x1 = 54) (q2 : ¬ x2 = 10) : Ctr Tryd.prog 24 [.one (.sl r v 0 n)] m (.tup [(true, [.int .i64 0, .int .i64 0, .nils]), (false, [.int .i64 20])]) m := by
  refine Ctr.enter Tryd.func24 rfl (by decide) (rs := [.cell 2 52, .tmp 3]) (nt := 113) rfl rfl fun hwf Q hQ => ?_
  obtain ⟨k0, e0, hb0⟩ := hb
  have hr0 := get_lt hb0
  have hlt0 : ∀ k, ¬ m.length + k < m.length := fun k => by omega
  have hul := u8c_len xs
  have z1 : (0 : Int) < (n : Nat) := by omega
  have z2 : (1 : Int) < (n : Nat) := by omega
  have z3 : (2 : Int) < (n : Nat) := by omega
  have z0 : ¬ (n : Int) < 3 := by omega
  have gx0 := u8c_get hx0
  have gx1 := u8c_get hx1
  have gx2 := u8c_get hx2
  have y0 : (x0 != 80) = false := by simp [q0]
  have y1 : (x1 != 54) = false := by simp [q1]
  have y2 : (x2 != 10) = true := by simp [q2]
  
  refine AW.seq_k fun K hK => ?_
  refine AW.region (by decide) ?_
  simp only [push_cast, simprocAttr, Nat.sub_zero, Int.le_refl, hb0, lk_old hb0, hul, z0, z1, z2, z3, gx0, gx1, gx2, y0, y1, y2]
  refine Thn_n ?_
  refine hK _ _ ?_
  clear hK K
  refine AW.seq_k fun K hK => ?_
  refine AW.seq_k fun K hK => ?_
  refine AW.region (by decide) ?_
  simp only [push_cast, simprocAttr, Nat.sub_zero, Int.le_refl, hb0, lk_old hb0, hul, z0, z1, z2, z3, gx0, gx1, gx2, y0, y1, y2]
  refine Thn_n ?_
  refine hK _ _ ?_
  clear hK K
  refine AW.cond_t rfl ?_
  refine AW.seq_k fun K hK => ?_
  refine AW.region (by decide) ?_
  simp only [push_cast, simprocAttr, Nat.sub_zero, Int.le_refl, hb0, lk_old hb0, hul, z0, z1, z2, z3, gx0, gx1, gx2, y0, y1, y2]
  refine Thn_n ?_
  refine hK _ _ ?_
  clear hK K
  refine AW.ret ?_
  refine Thn_r ?_
  refine hQ _ _ _ ?_
  first | refine RetP.drop0 (Or.inr rfl) ?_ ?_ hwf | refine RetP.drop (Or.inr rfl) ?_ ?_ hwf
  · simp only [resA, resOne, resTv, AV.tv, push_cast, simprocAttr, Nat.sub_zero, Int.le_refl, hb0, lk_old hb0, hul, z0, z1, z2, z3, gx0, gx1, gx2, y0, y1, y2]
  · rfl
theorem take3 {xs : List Int} {x0 x1 x2 : Int} (h0 : xs[0]? = some x0) (h1 : xs[1]? = some x1) (h2 : xs[2]? = some x2) : xs.take 3 = [x0, x1, x2] := by
  match xs, h0, h1, h2 with
  | a :: b :: c :: _, h0, h1, h2 =>
    simp at h0 h1 h2
    simp [h0, h1, h2]
theorem rdec_A (r v n : Nat) (xs : List Int) (m : AMem) (hb : ∃ k ez, m[r]? = some ⟨k, 5, v, ez, u8c xs⟩) (h1 : n = xs.length) (hn : n ≤ 1048576) (hxs : ByteL xs) (hp : hpV xs [80, 54, 10] = false) : Ctr Tryd.prog 24 [.one (.sl r v 0 n)] m (.tup [(true, [.int .i64 0, .int .i64 0, .nils]), (false, [.int .i64 20])]) m := by
  by_cases h3 : n < 3
  · exact rdec_A0 r v n xs m hb h1 hn h3
  · obtain ⟨x0, hx0⟩ : ∃ x, xs[0]? = some x := ⟨_, List.getElem?_eq_getElem (by omega)⟩
    obtain ⟨x1, hx1⟩ : ∃ x, xs[1]? = some x := ⟨_, List.getElem?_eq_getElem (by omega)⟩
    obtain ⟨x2, hx2⟩ : ∃ x, xs[2]? = some x := ⟨_, List.getElem?_eq_getElem (by omega)⟩
    by_cases q0 : x0 = 80
    · by_cases q1 : x1 = 54
      · by_cases q2 : x2 = 10
        · exfalso
          have : hpV xs [80, 54, 10] = true := (hpV_iff hxs (by intro x hx; simp at hx; omega)).2 (by show xs.take 3 = _; rw [take3 hx0 hx1 hx2, q0, q1, q2])
          rw [hp] at this; cases this
        · exact rdec_A3 r v n xs m hb h1 hn (by omega) x0 x1 x2 hx0 hx1 hx2 q0 q1 q2
      · exact rdec_A2 r v n xs m hb h1 hn (by omega) x0 x1 x2 hx0 hx1 hx2 q0 q1
    · exact rdec_A1 r v n xs m hb h1 hn (by omega) x0 x1 x2 hx0 hx1 hx2 q0
theorem hpv_cases {xs ps : List Int} {n L : Nat} (h1 : n = xs.length) (hL : L = ps.length) (h : hpV xs ps = false) : (n < L ∧ True) ∨ (L ≤ n ∧ (Lib.bytesOf (xs.take L) == Lib.bytesOf ps) = false) := by
  unfold hpV at h
  rw [← h1, ← hL] at h
  by_cases hc : L ≤ n
  · rw [decide_eq_true hc, Bool.true_and] at h
    exact .inr ⟨hc, h⟩
  · exact .inl ⟨by omega, trivial⟩
theorem hpv_yes {xs ps : List Int} {n L : Nat} (h1 : n = xs.length) (hL : L = ps.length) (h : hpV xs ps = true) : L ≤ n ∧ (Lib.bytesOf (xs.take L) == Lib.bytesOf ps) = true := by
  unfold hpV at h
  rw [← h1, ← hL, Bool.and_eq_true, decide_eq_true_eq] at h
  exact h
theorem rdec_B (r v n : Nat) (xs : List Int) (m : AMem) (hb : ∃ k ez, m[r]? = some ⟨k, 5, v, ez, u8c xs⟩) (h1 : n = xs.length) (hn : n ≤ 1048576) (h3 : 3 ≤ n) (hx0 : xs[0]? = some 80) (hx1 : xs[1]? = some 54) (hx2 : xs[2]? = some 10) (hno : ∀ w h : Nat, (1 ≤ w ∧ w ≤ 64) → (1 ≤ h ∧ h ≤ 64) → hpV xs (hdI w h) = false) : Ctr Tryd.prog 24 [.one (.sl r v 0 n)] m (.tup [(true, [.int .i64 0, .int .i64 0, .nils]), (false, [.int .i64 10])]) m := by
  refine Ctr.enter Tryd.func24 rfl (by decide) (rs := [.cell 2 52, .tmp 3]) (nt := 113) rfl rfl fun hwf Q hQ => ?_
  obtain ⟨k0, e0, hb0⟩ := hb
  have hr0 := get_lt hb0
  have hlt0 : ∀ k, ¬ m.length + k < m.length := fun k => by omega
  have hul := u8c_len xs
  have z1 : (0 : Int) < (n : Nat) := by omega
  have z2 : (1 : Int) < (n : Nat) := by omega
  have z3 : (2 : Int) < (n : Nat) := by omega
  have z0 : ¬ (n : Int) < 3 := by omega
  have gx0 := u8c_get hx0
  have gx1 := u8c_get hx1
  have gx2 := u8c_get hx2
  
  refine AW.seq_k fun K hK => ?_
  refine AW.region (by decide) ?_
  simp only [push_cast, simprocAttr, Nat.sub_zero, Int.le_refl, hb0, lk_old hb0, hul, z0, z1, z2, z3, gx0, gx1, gx2]
  refine Thn_n ?_
  refine hK _ _ ?_
  clear hK K
  refine AW.seq_k fun K hK => ?_
  refine AW.seq_k fun K hK => ?_
  refine AW.region (by decide) ?_
  simp only [push_cast, simprocAttr, Nat.sub_zero, Int.le_refl, hb0, lk_old hb0, hul, z0, z1, z2, z3, gx0, gx1, gx2]
  refine Thn_n ?_
  refine hK _ _ ?_
  clear hK K
  refine AW.cond_f rfl ?_
  refine AW.skip ?_
  refine Thn_n ?_
  refine hK _ _ ?_
  clear hK K
  refine AW.seq_k fun K hK => ?_
  refine AW.seq_k fun K hK => ?_
  refine AW.region (by decide) ?_
  simp only [push_cast, simprocAttr, Nat.sub_zero, Int.le_refl, hb0, lk_old hb0, hul, z0, z1, z2, z3, gx0, gx1, gx2]
  refine Thn_n ?_
  refine hK _ _ ?_
  clear hK K
  refine AW.block ?_
  refine AW.loopK [0, 2] (fun (w : Nat) => 1 ≤ w ∧ w ≤ 65) (fun (w : Nat) => [(4, .one (.int .i64 (w : Int)))]) (fun (w : Nat) => []) (fun (w : Nat) => 65 - w) 1 ⟨by omega, by omega⟩ ?_ ?_ fun (w : Nat) hi6 => ?_
  · first | rfl | (simp only [Keeps, Tm.get_cons, Nat.reduceEqDiff, ↓reduceIte, if_true, if_false, ite_true, ite_false, true_and, and_true, and_self, reduceCtorEq, Int.natCast_one, Int.cast_ofNat_Int] <;> rfl)
  · first | rfl | (simp only [setAll, push_cast, simprocAttr, Nat.sub_zero, Int.le_refl, hb0, lk_old hb0, hul, z0, z1, z2, z3, gx0, gx1, gx2, Int.natCast_one, Int.cast_ofNat_Int] <;> rfl)
  obtain ⟨hw1, hw2⟩ := hi6
  try simp only [keepL, setAll, push_cast, simprocAttr, Nat.sub_zero, Int.le_refl, hb0, lk_old hb0, hul, z0, z1, z2, z3, gx0, gx1, gx2]
  refine AW.seq_k fun K hK => ?_
  refine AW.seq_k fun K hK => ?_
  refine AW.region (by decide) ?_
  simp only [push_cast, simprocAttr, Nat.sub_zero, Int.le_refl, hb0, lk_old hb0, hul, z0, z1, z2, z3, gx0, gx1, gx2]
  refine Thn_n ?_
  refine hK _ _ ?_
  clear hK K
  refine AW.cond rfl (fun h33 => ?_) (fun h33 => ?_)
  · have hw3 : w ≤ 64 := by have := of_decide_eq_true h33; omega
    refine AW.skip ?_
    refine Thn_n ?_
    refine hK _ _ ?_
    clear hK K
    refine AW.seq_k fun K hK => ?_
    refine AW.block ?_
    refine AW.seq_k fun K hK => ?_
    refine AW.region (by decide) ?_
    simp only [push_cast, simprocAttr, Nat.sub_zero, Int.le_refl, hb0, lk_old hb0, hul, z0, z1, z2, z3, gx0, gx1, gx2]
    refine Thn_n ?_
    refine hK _ _ ?_
    clear hK K
    refine AW.block ?_
    refine AW.loopK [0, 2, 4] (fun (h : Nat) => 1 ≤ h ∧ h ≤ 65) (fun (h : Nat) => [(5, .one (.int .i64 (h : Int)))]) (fun (h : Nat) => []) (fun (h : Nat) => 65 - h) 1 ⟨by omega, by omega⟩ ?_ ?_ fun (h : Nat) hi11 => ?_
    · first | rfl | (simp only [Keeps, Tm.get_cons, Nat.reduceEqDiff, ↓reduceIte, if_true, if_false, ite_true, ite_false, true_and, and_true, and_self, reduceCtorEq, Int.natCast_one, Int.cast_ofNat_Int] <;> rfl)
    · first | rfl | (simp only [setAll, push_cast, simprocAttr, Nat.sub_zero, Int.le_refl, hb0, lk_old hb0, hul, z0, z1, z2, z3, gx0, gx1, gx2, Int.natCast_one, Int.cast_ofNat_Int] <;> rfl)
    obtain ⟨hh1, hh2⟩ := hi11
    try simp only [keepL, setAll, push_cast, simprocAttr, Nat.sub_zero, Int.le_refl, hb0, lk_old hb0, hul, z0, z1, z2, z3, gx0, gx1, gx2]
    refine AW.seq_k fun K hK => ?_
    refine AW.seq_k fun K hK => ?_
    refine AW.region (by decide) ?_
    simp only [push_cast, simprocAttr, Nat.sub_zero, Int.le_refl, hb0, lk_old hb0, hul, z0, z1, z2, z3, gx0, gx1, gx2]
    refine Thn_n ?_
    refine hK _ _ ?_
    clear hK K
    refine AW.cond rfl (fun h37 => ?_) (fun h37 => ?_)
    · have hh3 : h ≤ 64 := by have := of_decide_eq_true h37; omega
      refine AW.skip ?_
      refine Thn_n ?_
      refine hK _ _ ?_
      clear hK K
      refine AW.seq_k fun K hK => ?_
      refine AW.block ?_
      refine AW.seq_k fun K hK => ?_
      refine AW.region (by decide) ?_
      simp only [push_cast, simprocAttr, Nat.sub_zero, Int.le_refl, hb0, lk_old hb0, hul, z0, z1, z2, z3, gx0, gx1, gx2]
      refine CThen.by (rhead_c w h (by omega) (by omega) _) ?_
      simp only [push_cast, simprocAttr, Nat.sub_zero, Int.le_refl, hb0, lk_old hb0, hul, z0, z1, z2, z3, gx0, gx1, gx2]
      refine Thn_n ?_
      refine hK _ _ ?_
      clear hK K
      refine AW.seq_k fun K hK => ?_
      refine AW.seq_k fun K hK => ?_
      obtain ⟨hd, hhd⟩ : ∃ hd, hd = hdI w h := ⟨_, rfl⟩
      have hhl := hdB_len (w := w) (h := h) (by omega) (by omega)
      rw [← hdI_len, ← hhd] at hhl
      obtain ⟨L, hL⟩ : ∃ L, L = hd.length := ⟨_, rfl⟩
      rw [← hL] at hhl
      have b4 := bytesA_u8c hd
      have b5 := u8c_len hd
      rw [← hL] at b5
      have b8 : (u8c hd).take L = u8c hd := List.take_of_length_le (by rw [b5]; exact Nat.le_refl _)
      simp only [← hhd, ← hL]
      rcases hpv_cases (xs := xs) (ps := hd) (n := n) (L := L) h1 hL (by rw [hhd]; exact hno w h (by omega) (by omega)) with ⟨hlt2, hpv⟩ | ⟨hge, hpv⟩
      · have w1 : (n : Int) < (L : Nat) := by omega
        refine AW.drawX fol (by kernel_rfl) ?_
        refine DX.split 10 12 (by decide) ?_ ?_
        · refine DX.run [0, 1, 2, 3, 4, 5, 6, 7, 8, 9, 10, 11, 12, 13, 14] [.val, .val, .val, .val, .val, .val, .val, .val, .val, .val, .ext, .val, .ext, .val, .val] (by simp only [permL, reOp, List.idxOf_cons, push_cast, simprocAttr, Nat.sub_zero, Int.le_refl, hb0, lk_old hb0, hul, z0, z1, z2, z3, gx0, gx1, gx2, b4, b5, b8, w1]; first | done | rfl) (by kernel_rfl) ?_
          simp only [push_cast, simprocAttr, Nat.sub_zero, Int.le_refl, hb0, lk_old hb0, hul, z0, z1, z2, z3, gx0, gx1, gx2, b4, b5, b8, w1]
          refine Thn_n ?_
          refine hK _ _ ?_
          clear hK K
          refine AW.cond_t rfl ?_
          refine AW.exit ?_
          refine Thn_e ?_
          clear hK K
          refine InB_here ?_
          refine Thn_n ?_
          refine hK _ _ ?_
          clear hK K
          refine AW.region (by decide) ?_
          simp only [push_cast, simprocAttr, Nat.sub_zero, Int.le_refl, hb0, lk_old hb0, hul, z0, z1, z2, z3, gx0, gx1, gx2, b4, b5, b8, w1]
          refine Thn_n ?_
          have hwh : IntKind.i64.wrap ((h : Int) + 1) = (h : Int) + 1 := wi (by omega)
          refine ⟨h + 1, ⟨by omega, by omega⟩, by omega, ?_⟩
          try simp only [keepL, setAll, push_cast, simprocAttr, Nat.sub_zero, Int.le_refl, hb0, lk_old hb0, hul, z0, z1, z2, z3, gx0, gx1, gx2, b4, b5, b8, w1, hwh]
          exact Weak.to (extra := [_]) (by simp only [Keeps, Tm.get_cons, Nat.reduceEqDiff, ↓reduceIte, if_true, if_false, ite_true, ite_false, true_and, and_true, and_self, reduceCtorEq, hwh]) (by first | rfl | (simp only [List.append_assoc, List.cons_append, List.nil_append]; rfl)) (by first | rfl | (simp [AV.below, CV.below]; done) | (simp [AV.below, CV.below]; omega)) (by
            first | exact hwf | refine MWf.app (hwf.grow (by simp)) ?_
            repeat (first | exact MWf_nil | (refine MWf_cons ?_ ?_; · first | rfl | (simp [CV.below]; done) | (simp [CV.below]; omega))))
        · refine DX.run [0, 1, 2, 3, 4, 5, 6, 7, 8, 9, 11, 12, 10, 13, 14] [.val, .val, .val, .val, .val, .val, .val, .val, .val, .val, .val, .ext, .ext, .val, .val] (by simp only [permL, reOp, List.idxOf_cons, push_cast, simprocAttr, Nat.sub_zero, Int.le_refl, hb0, lk_old hb0, hul, z0, z1, z2, z3, gx0, gx1, gx2, b4, b5, b8, w1]; first | done | rfl) (by kernel_rfl) ?_
          simp only [push_cast, simprocAttr, Nat.sub_zero, Int.le_refl, hb0, lk_old hb0, hul, z0, z1, z2, z3, gx0, gx1, gx2, b4, b5, b8, w1]
          refine Thn_n ?_
          refine hK _ _ ?_
          clear hK K
          refine AW.cond_t rfl ?_
          refine AW.exit ?_
          refine Thn_e ?_
          clear hK K
          refine InB_here ?_
          refine Thn_n ?_
          refine hK _ _ ?_
          clear hK K
          refine AW.region (by decide) ?_
          simp only [push_cast, simprocAttr, Nat.sub_zero, Int.le_refl, hb0, lk_old hb0, hul, z0, z1, z2, z3, gx0, gx1, gx2, b4, b5, b8, w1]
          refine Thn_n ?_
          have hwh : IntKind.i64.wrap ((h : Int) + 1) = (h : Int) + 1 := wi (by omega)
          refine ⟨h + 1, ⟨by omega, by omega⟩, by omega, ?_⟩
          try simp only [keepL, setAll, push_cast, simprocAttr, Nat.sub_zero, Int.le_refl, hb0, lk_old hb0, hul, z0, z1, z2, z3, gx0, gx1, gx2, b4, b5, b8, w1, hwh]
          exact Weak.to (extra := [_]) (by simp only [Keeps, Tm.get_cons, Nat.reduceEqDiff, ↓reduceIte, if_true, if_false, ite_true, ite_false, true_and, and_true, and_self, reduceCtorEq, hwh]) (by first | rfl | (simp only [List.append_assoc, List.cons_append, List.nil_append]; rfl)) (by first | rfl | (simp [AV.below, CV.below]; done) | (simp [AV.below, CV.below]; omega)) (by
            first | exact hwf | refine MWf.app (hwf.grow (by simp)) ?_
            repeat (first | exact MWf_nil | (refine MWf_cons ?_ ?_; · first | rfl | (simp [CV.below]; done) | (simp [CV.below]; omega))))
      · have w1 : ¬ (n : Int) < (L : Nat) := by omega
        have w2 : (0 : Int) ≤ (L : Nat) := by omega
        have w3 : (L : Int) ≤ (n : Nat) := by omega
        have b6 : (u8c xs).take L = u8c (xs.take L) := by have := u8c_cut xs 0 L; simpa using this
        have b7 := bytesA_u8c (xs.take L)
        have hgx : L ≤ xs.length := by omega
        refine AW.drawX fol (by kernel_rfl) ?_
        refine DX.split 10 12 (by decide) ?_ ?_
        · refine DX.run [0, 1, 2, 3, 4, 5, 6, 7, 8, 9, 10, 11, 12, 13, 14] [.val, .val, .val, .val, .val, .val, .val, .val, .val, .val, .ext, .val, .ext, .val, .val] (by simp only [permL, reOp, List.idxOf_cons, push_cast, simprocAttr, Nat.sub_zero, Int.le_refl, hb0, lk_old hb0, hul, z0, z1, z2, z3, gx0, gx1, gx2, b4, b5, b8, w1, w2, w3, hge, hgx, b6, b7, strB_tl, hpv]; first | done | rfl) (by kernel_rfl) ?_
          iterate 2
            simp only [push_cast, simprocAttr, Nat.sub_zero, Int.le_refl, hb0, lk_old hb0, hul, z0, z1, z2, z3, gx0, gx1, gx2, b4, b5, b8, w1, w2, w3, hge, hgx, b6, b7, strB_tl, hpv]
            refine DExt.by (by first | rfl | exact (List.append_nil _).symm | (simp only [List.append_assoc, List.cons_append, List.nil_append]; rfl)) ?_
          simp only [push_cast, simprocAttr, Nat.sub_zero, Int.le_refl, hb0, lk_old hb0, hul, z0, z1, z2, z3, gx0, gx1, gx2, b4, b5, b8, w1, w2, w3, hge, hgx, b6, b7, strB_tl, hpv]
          refine Thn_n ?_
          refine hK _ _ ?_
          clear hK K
          refine AW.cond_t rfl ?_
          refine AW.exit ?_
          refine Thn_e ?_
          clear hK K
          refine InB_here ?_
          refine Thn_n ?_
          refine hK _ _ ?_
          clear hK K
          refine AW.region (by decide) ?_
          simp only [push_cast, simprocAttr, Nat.sub_zero, Int.le_refl, hb0, lk_old hb0, hul, z0, z1, z2, z3, gx0, gx1, gx2, b4, b5, b8, w1, w2, w3, hge, hgx, b6, b7, strB_tl, hpv]
          refine Thn_n ?_
          have hwh : IntKind.i64.wrap ((h : Int) + 1) = (h : Int) + 1 := wi (by omega)
          refine ⟨h + 1, ⟨by omega, by omega⟩, by omega, ?_⟩
          try simp only [keepL, setAll, push_cast, simprocAttr, Nat.sub_zero, Int.le_refl, hb0, lk_old hb0, hul, z0, z1, z2, z3, gx0, gx1, gx2, b4, b5, b8, w1, w2, w3, hge, hgx, b6, b7, strB_tl, hpv, hwh]
          exact Weak.to (extra := [_]) (by simp only [Keeps, Tm.get_cons, Nat.reduceEqDiff, ↓reduceIte, if_true, if_false, ite_true, ite_false, true_and, and_true, and_self, reduceCtorEq, hwh]) (by first | rfl | (simp only [List.append_assoc, List.cons_append, List.nil_append]; rfl)) (by first | rfl | (simp [AV.below, CV.below]; done) | (simp [AV.below, CV.below]; omega)) (by
            first | exact hwf | refine MWf.app (hwf.grow (by simp)) ?_
            repeat (first | exact MWf_nil | (refine MWf_cons ?_ ?_; · first | rfl | (simp [CV.below]; done) | (simp [CV.below]; omega))))
        · refine DX.run [0, 1, 2, 3, 4, 5, 6, 7, 8, 9, 11, 12, 10, 13, 14] [.val, .val, .val, .val, .val, .val, .val, .val, .val, .val, .val, .ext, .ext, .val, .val] (by simp only [permL, reOp, List.idxOf_cons, push_cast, simprocAttr, Nat.sub_zero, Int.le_refl, hb0, lk_old hb0, hul, z0, z1, z2, z3, gx0, gx1, gx2, b4, b5, b8, w1, w2, w3, hge, hgx, b6, b7, strB_tl, hpv]; first | done | rfl) (by kernel_rfl) ?_
          iterate 2
            simp only [push_cast, simprocAttr, Nat.sub_zero, Int.le_refl, hb0, lk_old hb0, hul, z0, z1, z2, z3, gx0, gx1, gx2, b4, b5, b8, w1, w2, w3, hge, hgx, b6, b7, strB_tl, hpv]
            refine DExt.by (by first | rfl | exact (List.append_nil _).symm | (simp only [List.append_assoc, List.cons_append, List.nil_append]; rfl)) ?_
          simp only [push_cast, simprocAttr, Nat.sub_zero, Int.le_refl, hb0, lk_old hb0, hul, z0, z1, z2, z3, gx0, gx1, gx2, b4, b5, b8, w1, w2, w3, hge, hgx, b6, b7, strB_tl, hpv]
          refine Thn_n ?_
          refine hK _ _ ?_
          clear hK K
          refine AW.cond_t rfl ?_
          refine AW.exit ?_
          refine Thn_e ?_
          clear hK K
          refine InB_here ?_
          refine Thn_n ?_
          refine hK _ _ ?_
          clear hK K
          refine AW.region (by decide) ?_
          simp only [push_cast, simprocAttr, Nat.sub_zero, Int.le_refl, hb0, lk_old hb0, hul, z0, z1, z2, z3, gx0, gx1, gx2, b4, b5, b8, w1, w2, w3, hge, hgx, b6, b7, strB_tl, hpv]
          refine Thn_n ?_
          have hwh : IntKind.i64.wrap ((h : Int) + 1) = (h : Int) + 1 := wi (by omega)
          refine ⟨h + 1, ⟨by omega, by omega⟩, by omega, ?_⟩
          try simp only [keepL, setAll, push_cast, simprocAttr, Nat.sub_zero, Int.le_refl, hb0, lk_old hb0, hul, z0, z1, z2, z3, gx0, gx1, gx2, b4, b5, b8, w1, w2, w3, hge, hgx, b6, b7, strB_tl, hpv, hwh]
          exact Weak.to (extra := [_]) (by simp only [Keeps, Tm.get_cons, Nat.reduceEqDiff, ↓reduceIte, if_true, if_false, ite_true, ite_false, true_and, and_true, and_self, reduceCtorEq, hwh]) (by first | rfl | (simp only [List.append_assoc, List.cons_append, List.nil_append]; rfl)) (by first | rfl | (simp [AV.below, CV.below]; done) | (simp [AV.below, CV.below]; omega)) (by
            first | exact hwf | refine MWf.app (hwf.grow (by simp)) ?_
            repeat (first | exact MWf_nil | (refine MWf_cons ?_ ?_; · first | rfl | (simp [CV.below]; done) | (simp [CV.below]; omega))))
    · refine AW.exit ?_
      refine Thn_e ?_
      clear hK K
      refine Thn_e ?_
      refine InB_here ?_
      refine InB_n ?_
      refine Thn_n ?_
      refine hK _ _ ?_
      clear hK K
      refine AW.region (by decide) ?_
      simp only [push_cast, simprocAttr, Nat.sub_zero, Int.le_refl, hb0, lk_old hb0, hul, z0, z1, z2, z3, gx0, gx1, gx2]
      refine Thn_n ?_
      have hww : IntKind.i64.wrap ((w : Int) + 1) = (w : Int) + 1 := wi (by omega)
      refine ⟨w + 1, ⟨by omega, by omega⟩, by omega, ?_⟩
      try simp only [keepL, setAll, push_cast, simprocAttr, Nat.sub_zero, Int.le_refl, hb0, lk_old hb0, hul, z0, z1, z2, z3, gx0, gx1, gx2, hww]
      exact Weak.same (by simp only [Keeps, Tm.get_cons, Nat.reduceEqDiff, ↓reduceIte, if_true, if_false, ite_true, ite_false, true_and, and_true, and_self, reduceCtorEq, hww]) (by first | rfl | simp only [Keeps, Tm.get_cons, Nat.reduceEqDiff, ↓reduceIte, if_true, if_false, ite_true, ite_false, true_and, and_true, and_self, reduceCtorEq, hww])
  · refine AW.exit ?_
    refine Thn_e ?_
    clear hK K
    refine Thn_e ?_
    refine InB_here ?_
    refine Thn_n ?_
    refine hK _ _ ?_
    clear hK K
    refine AW.seq_k fun K hK => ?_
    refine AW.region (by decide) ?_
    simp only [push_cast, simprocAttr, Nat.sub_zero, Int.le_refl, hb0, lk_old hb0, hul, z0, z1, z2, z3, gx0, gx1, gx2]
    refine Thn_n ?_
    refine hK _ _ ?_
    clear hK K
    refine AW.ret ?_
    refine hQ _ _ _ ?_
    first | refine RetP.drop0 (Or.inr rfl) ?_ ?_ hwf | refine RetP.drop (Or.inr rfl) ?_ ?_ hwf
    · simp only [resA, resOne, resTv, AV.tv, push_cast, simprocAttr, Nat.sub_zero, Int.le_refl, hb0, lk_old hb0, hul, z0, z1, z2, z3, gx0, gx1, gx2]
    · rfl
end Go.Proofs.YtbigijnadkeecaaDoor

set_option linter.unusedSimpArgs false
set_option linter.unusedVariables false
set_option maxRecDepth 100000
set_option maxHeartbeats 4000000
namespace Go.Proofs.YtbigijnadkeecaaDoor
open Go Go.Eng

theorem rdec_C (r v n : Nat) (xs : List Int) (m : AMem) (hb : ∃ k ez, m[r]? = some ⟨k, 5, v, ez, u8c xs⟩) (h1 : n = xs.length) (hn : n ≤ 1048576) (h3 : 3 ≤ n) (hx0 : xs[0]? = some 80) (hx1 : xs[1]? = some 54) (hx2 : xs[2]? = some 10) (w0 h0 : Nat) (hw0 : 1 ≤ w0 ∧ w0 ≤ 64) (hh0 : 1 ≤ h0 ∧ h0 ≤ 64) (hp0 : hpV xs (hdI w0 h0) = true) (huq : ∀ w h : Nat, (1 ≤ w ∧ w ≤ 64) → (1 ≤ h ∧ h ≤ 64) → hpV xs (hdI w h) = true → w = w0 ∧ h = h0) (hlen : n - (hdI w0 h0).length < 3 * (w0 * h0)) : Ctr Tryd.prog 24 [.one (.sl r v 0 n)] m (.tup [(true, [.int .i64 0, .int .i64 0, .nils]), (false, [.int .i64 9])]) m := by
  refine Ctr.enter Tryd.func24 rfl (by decide) (rs := [.cell 2 52, .tmp 3]) (nt := 113) rfl rfl fun hwf Q hQ => ?_
  obtain ⟨k0, e0, hb0⟩ := hb
  have hr0 := get_lt hb0
  have hlt0 : ∀ k, ¬ m.length + k < m.length := fun k => by omega
  have hul := u8c_len xs
  have z1 : (0 : Int) < (n : Nat) := by omega
  have z2 : (1 : Int) < (n : Nat) := by omega
  have z3 : (2 : Int) < (n : Nat) := by omega
  have z0 : ¬ (n : Int) < 3 := by omega
  have gx0 := u8c_get hx0
  have gx1 := u8c_get hx1
  have gx2 := u8c_get hx2
  
  refine AW.seq_k fun K hK => ?_
  refine AW.region (by decide) ?_
  simp only [push_cast, simprocAttr, Nat.sub_zero, Int.le_refl, hb0, lk_old hb0, hul, z0, z1, z2, z3, gx0, gx1, gx2]
  refine Thn_n ?_
  refine hK _ _ ?_
  clear hK K
  refine AW.seq_k fun K hK => ?_
  refine AW.seq_k fun K hK => ?_
  refine AW.region (by decide) ?_
  simp only [push_cast, simprocAttr, Nat.sub_zero, Int.le_refl, hb0, lk_old hb0, hul, z0, z1, z2, z3, gx0, gx1, gx2]
  refine Thn_n ?_
  refine hK _ _ ?_
  clear hK K
  refine AW.cond_f rfl ?_
  refine AW.skip ?_
  refine Thn_n ?_
  refine hK _ _ ?_
  clear hK K
  refine AW.seq_k fun K hK => ?_
  refine AW.seq_k fun K hK => ?_
  refine AW.region (by decide) ?_
  simp only [push_cast, simprocAttr, Nat.sub_zero, Int.le_refl, hb0, lk_old hb0, hul, z0, z1, z2, z3, gx0, gx1, gx2]
  refine Thn_n ?_
  refine hK _ _ ?_
  clear hK K
  refine AW.block ?_
  refine AW.loopK [0, 2] (fun (w : Nat) => 1 ≤ w ∧ w ≤ w0) (fun (w : Nat) => [(4, .one (.int .i64 (w : Int)))]) (fun (w : Nat) => []) (fun (w : Nat) => 65 - w) 1 ⟨by omega, by omega⟩ ?_ ?_ fun (w : Nat) hi6 => ?_
  · first | rfl | (simp only [Keeps, Tm.get_cons, Nat.reduceEqDiff, ↓reduceIte, if_true, if_false, ite_true, ite_false, true_and, and_true, and_self, reduceCtorEq, Int.natCast_one, Int.cast_ofNat_Int] <;> rfl)
  · first | rfl | (simp only [setAll, push_cast, simprocAttr, Nat.sub_zero, Int.le_refl, hb0, lk_old hb0, hul, z0, z1, z2, z3, gx0, gx1, gx2, Int.natCast_one, Int.cast_ofNat_Int] <;> rfl)
  obtain ⟨hw1, hw2⟩ := hi6
  try simp only [keepL, setAll, push_cast, simprocAttr, Nat.sub_zero, Int.le_refl, hb0, lk_old hb0, hul, z0, z1, z2, z3, gx0, gx1, gx2]
  refine AW.seq_k fun K hK => ?_
  refine AW.seq_k fun K hK => ?_
  refine AW.region (by decide) ?_
  simp only [push_cast, simprocAttr, Nat.sub_zero, Int.le_refl, hb0, lk_old hb0, hul, z0, z1, z2, z3, gx0, gx1, gx2]
  refine Thn_n ?_
  refine hK _ _ ?_
  clear hK K
  refine AW.cond rfl (fun h33 => ?_) (fun h33 => ?_)
  · have hw3 : w ≤ 64 := by omega
    refine AW.skip ?_
    refine Thn_n ?_
    refine hK _ _ ?_
    clear hK K
    refine AW.seq_k fun K hK => ?_
    refine AW.block ?_
    refine AW.seq_k fun K hK => ?_
    refine AW.region (by decide) ?_
    simp only [push_cast, simprocAttr, Nat.sub_zero, Int.le_refl, hb0, lk_old hb0, hul, z0, z1, z2, z3, gx0, gx1, gx2]
    refine Thn_n ?_
    refine hK _ _ ?_
    clear hK K
    refine AW.block ?_
    refine AW.loopK [0, 2, 4] (fun (h : Nat) => (1 ≤ h ∧ h ≤ 65) ∧ (w = w0 → h ≤ h0)) (fun (h : Nat) => [(5, .one (.int .i64 (h : Int)))]) (fun (h : Nat) => []) (fun (h : Nat) => 65 - h) 1 ⟨⟨by omega, by omega⟩, fun _ => by omega⟩ ?_ ?_ fun (h : Nat) hi11 => ?_
    · first | rfl | (simp only [Keeps, Tm.get_cons, Nat.reduceEqDiff, ↓reduceIte, if_true, if_false, ite_true, ite_false, true_and, and_true, and_self, reduceCtorEq, Int.natCast_one, Int.cast_ofNat_Int] <;> rfl)
    · first | rfl | (simp only [setAll, push_cast, simprocAttr, Nat.sub_zero, Int.le_refl, hb0, lk_old hb0, hul, z0, z1, z2, z3, gx0, gx1, gx2, Int.natCast_one, Int.cast_ofNat_Int] <;> rfl)
    obtain ⟨⟨hh1, hh2⟩, hhw⟩ := hi11
    try simp only [keepL, setAll, push_cast, simprocAttr, Nat.sub_zero, Int.le_refl, hb0, lk_old hb0, hul, z0, z1, z2, z3, gx0, gx1, gx2]
    refine AW.seq_k fun K hK => ?_
    refine AW.seq_k fun K hK => ?_
    refine AW.region (by decide) ?_
    simp only [push_cast, simprocAttr, Nat.sub_zero, Int.le_refl, hb0, lk_old hb0, hul, z0, z1, z2, z3, gx0, gx1, gx2]
    refine Thn_n ?_
    refine hK _ _ ?_
    clear hK K
    refine AW.cond rfl (fun h37 => ?_) (fun h37 => ?_)
    · have hh3 : h ≤ 64 := by have := of_decide_eq_true h37; omega
      refine AW.skip ?_
      refine Thn_n ?_
      refine hK _ _ ?_
      clear hK K
      refine AW.seq_k fun K hK => ?_
      refine AW.block ?_
      refine AW.seq_k fun K hK => ?_
      refine AW.region (by decide) ?_
      simp only [push_cast, simprocAttr, Nat.sub_zero, Int.le_refl, hb0, lk_old hb0, hul, z0, z1, z2, z3, gx0, gx1, gx2]
      refine CThen.by (rhead_c w h (by omega) (by omega) _) ?_
      simp only [push_cast, simprocAttr, Nat.sub_zero, Int.le_refl, hb0, lk_old hb0, hul, z0, z1, z2, z3, gx0, gx1, gx2]
      refine Thn_n ?_
      refine hK _ _ ?_
      clear hK K
      refine AW.seq_k fun K hK => ?_
      refine AW.seq_k fun K hK => ?_
      obtain ⟨hd, hhd⟩ : ∃ hd, hd = hdI w h := ⟨_, rfl⟩
      have hhl := hdB_len (w := w) (h := h) (by omega) (by omega)
      rw [← hdI_len, ← hhd] at hhl
      obtain ⟨L, hL⟩ : ∃ L, L = hd.length := ⟨_, rfl⟩
      rw [← hL] at hhl
      have b4 := bytesA_u8c hd
      have b5 := u8c_len hd
      rw [← hL] at b5
      have b8 : (u8c hd).take L = u8c hd := List.take_of_length_le (by rw [b5]; exact Nat.le_refl _)
      simp only [← hhd, ← hL]
      have hor : (w = w0 ∧ h = h0) ∨ (¬ (w = w0 ∧ h = h0) ∧ ((n < L ∧ True) ∨ (L ≤ n ∧ (Lib.bytesOf (xs.take L) == Lib.bytesOf hd) = false))) := by
        by_cases hm : w = w0 ∧ h = h0
        · exact .inl hm
        · refine .inr ⟨hm, hpv_cases h1 hL ?_⟩
          cases hc : hpV xs hd with
          | false => rfl
          | true => rw [hhd] at hc; exact (hm (huq w h (by omega) (by omega) hc)).elim
      rcases hor with ⟨em1, em2⟩ | ⟨hne, ⟨hlt2, hpv⟩ | ⟨hge, hpv⟩⟩
      · subst em1
        subst em2
        obtain ⟨hge, hpv⟩ := hpv_yes (ps := hd) h1 hL (by rw [hhd]; exact hp0)
        have w1 : ¬ (n : Int) < (L : Nat) := by omega
        have b6 : (u8c xs).take L = u8c (xs.take L) := by have := u8c_cut xs 0 L; simpa using this
        have b7 := bytesA_u8c (xs.take L)
        have hgx : L ≤ xs.length := by omega
        have w2 : (0 : Int) ≤ (L : Nat) := by omega
        have w3 : (L : Int) ≤ (n : Nat) := by omega
        obtain ⟨N, hN⟩ : ∃ N, N = w * h := ⟨_, rfl⟩
        have hN2 : N ≤ 64 * 64 := by rw [hN]; exact Nat.mul_le_mul (by omega) (by omega)
        have hNi : (w : Int) * (h : Int) = (N : Int) := by rw [hN]; push_cast; rfl
        have hNw : IntKind.i64.wrap (N : Int) = (N : Int) := wi (by omega)
        have v1 : IntKind.i64.wrap (3 * (w : Int)) = 3 * (w : Int) := wi (by omega)
        obtain ⟨K3, hK3⟩ : ∃ K3, K3 = 3 * N := ⟨_, rfl⟩
        have v2 : 3 * (w : Int) * (h : Int) = (K3 : Int) := by rw [Int.mul_assoc, hNi, hK3]; push_cast; rfl
        have v3 : IntKind.i64.wrap (K3 : Int) = (K3 : Int) := wi (by omega)
        obtain ⟨n3, hn3⟩ : ∃ n3, n3 = n - L := ⟨_, rfl⟩
        have hn4 := hn3.symm
        rw [← hhd, ← hL, ← hN, ← hn3] at hlen
        have x1 : (n3 : Int) < (K3 : Int) := by omega
        refine AW.drawX fol (by kernel_rfl) ?_
        refine DX.split 10 12 (by decide) ?_ ?_
        · refine DX.run [0, 1, 2, 3, 4, 5, 6, 7, 8, 9, 10, 11, 12, 13, 14] [.val, .val, .val, .val, .val, .val, .val, .val, .val, .val, .ext, .val, .ext, .val, .val] (by simp only [permL, reOp, List.idxOf_cons, push_cast, simprocAttr, Nat.sub_zero, Int.le_refl, hb0, lk_old hb0, hul, z0, z1, z2, z3, gx0, gx1, gx2, b4, b5, b8, w1, w2, w3, hge, b6, b7, hgx, strB_tl, hpv, hNi, hNw, v1, v2, v3, hn4, x1]; first | done | rfl) (by kernel_rfl) ?_
          iterate 2
            simp only [push_cast, simprocAttr, Nat.sub_zero, Int.le_refl, hb0, lk_old hb0, hul, z0, z1, z2, z3, gx0, gx1, gx2, b4, b5, b8, w1, w2, w3, hge, b6, b7, hgx, strB_tl, hpv, hNi, hNw, v1, v2, v3, hn4, x1]
            refine DExt.by (by first | rfl | exact (List.append_nil _).symm | (simp only [List.append_assoc, List.cons_append, List.nil_append]; rfl)) ?_
          simp only [push_cast, simprocAttr, Nat.sub_zero, Int.le_refl, hb0, lk_old hb0, hul, z0, z1, z2, z3, gx0, gx1, gx2, b4, b5, b8, w1, w2, w3, hge, b6, b7, hgx, strB_tl, hpv, hNi, hNw, v1, v2, v3, hn4, x1]
          refine Thn_n ?_
          refine hK _ _ ?_
          clear hK K
          refine AW.cond_f rfl ?_
          refine AW.skip ?_
          refine Thn_n ?_
          refine hK _ _ ?_
          clear hK K
          refine AW.seq_k fun K hK => ?_
          refine AW.region (by decide) ?_
          simp only [push_cast, simprocAttr, Nat.sub_zero, Int.le_refl, hb0, lk_old hb0, hul, z0, z1, z2, z3, gx0, gx1, gx2, b4, b5, b8, w1, w2, w3, hge, b6, b7, hgx, strB_tl, hpv, hNi, hNw, v1, v2, v3, hn4, x1]
          refine Thn_n ?_
          refine hK _ _ ?_
          clear hK K
          refine AW.seq_k fun K hK => ?_
          refine AW.seq_k fun K hK => ?_
          refine AW.region (by decide) ?_
          simp only [push_cast, simprocAttr, Nat.sub_zero, Int.le_refl, hb0, lk_old hb0, hul, z0, z1, z2, z3, gx0, gx1, gx2, b4, b5, b8, w1, w2, w3, hge, b6, b7, hgx, strB_tl, hpv, hNi, hNw, v1, v2, v3, hn4, x1]
          refine Thn_n ?_
          refine hK _ _ ?_
          clear hK K
          refine AW.cond_t rfl ?_
          refine AW.seq_k fun K hK => ?_
          refine AW.region (by decide) ?_
          simp only [push_cast, simprocAttr, Nat.sub_zero, Int.le_refl, hb0, lk_old hb0, hul, z0, z1, z2, z3, gx0, gx1, gx2, b4, b5, b8, w1, w2, w3, hge, b6, b7, hgx, strB_tl, hpv, hNi, hNw, v1, v2, v3, hn4, x1]
          refine Thn_n ?_
          refine hK _ _ ?_
          clear hK K
          refine AW.ret ?_
          refine Thn_r ?_
          refine InB_r ?_
          refine Thn_r ?_
          refine Thn_r ?_
          refine InB_r ?_
          refine InB_r ?_
          refine Thn_r ?_
          refine Thn_r ?_
          refine InB_r ?_
          refine Thn_r ?_
          refine hQ _ _ _ ?_
          first | refine RetP.drop0 (Or.inr rfl) ?_ ?_ hwf | refine RetP.drop (Or.inr rfl) ?_ ?_ hwf
          · simp only [resA, resOne, resTv, AV.tv, push_cast, simprocAttr, Nat.sub_zero, Int.le_refl, hb0, lk_old hb0, hul, z0, z1, z2, z3, gx0, gx1, gx2, b4, b5, b8, w1, w2, w3, hge, b6, b7, hgx, strB_tl, hpv, hNi, hNw, v1, v2, v3, hn4, x1]
          · rfl
        · refine DX.run [0, 1, 2, 3, 4, 5, 6, 7, 8, 9, 11, 12, 10, 13, 14] [.val, .val, .val, .val, .val, .val, .val, .val, .val, .val, .val, .ext, .ext, .val, .val] (by simp only [permL, reOp, List.idxOf_cons, push_cast, simprocAttr, Nat.sub_zero, Int.le_refl, hb0, lk_old hb0, hul, z0, z1, z2, z3, gx0, gx1, gx2, b4, b5, b8, w1, w2, w3, hge, b6, b7, hgx, strB_tl, hpv, hNi, hNw, v1, v2, v3, hn4, x1]; first | done | rfl) (by kernel_rfl) ?_
          iterate 2
            simp only [push_cast, simprocAttr, Nat.sub_zero, Int.le_refl, hb0, lk_old hb0, hul, z0, z1, z2, z3, gx0, gx1, gx2, b4, b5, b8, w1, w2, w3, hge, b6, b7, hgx, strB_tl, hpv, hNi, hNw, v1, v2, v3, hn4, x1]
            refine DExt.by (by first | rfl | exact (List.append_nil _).symm | (simp only [List.append_assoc, List.cons_append, List.nil_append]; rfl)) ?_
          simp only [push_cast, simprocAttr, Nat.sub_zero, Int.le_refl, hb0, lk_old hb0, hul, z0, z1, z2, z3, gx0, gx1, gx2, b4, b5, b8, w1, w2, w3, hge, b6, b7, hgx, strB_tl, hpv, hNi, hNw, v1, v2, v3, hn4, x1]
          refine Thn_n ?_
          refine hK _ _ ?_
          clear hK K
          refine AW.cond_f rfl ?_
          refine AW.skip ?_
          refine Thn_n ?_
          refine hK _ _ ?_
          clear hK K
          refine AW.seq_k fun K hK => ?_
          refine AW.region (by decide) ?_
          simp only [push_cast, simprocAttr, Nat.sub_zero, Int.le_refl, hb0, lk_old hb0, hul, z0, z1, z2, z3, gx0, gx1, gx2, b4, b5, b8, w1, w2, w3, hge, b6, b7, hgx, strB_tl, hpv, hNi, hNw, v1, v2, v3, hn4, x1]
          refine Thn_n ?_
          refine hK _ _ ?_
          clear hK K
          refine AW.seq_k fun K hK => ?_
          refine AW.seq_k fun K hK => ?_
          refine AW.region (by decide) ?_
          simp only [push_cast, simprocAttr, Nat.sub_zero, Int.le_refl, hb0, lk_old hb0, hul, z0, z1, z2, z3, gx0, gx1, gx2, b4, b5, b8, w1, w2, w3, hge, b6, b7, hgx, strB_tl, hpv, hNi, hNw, v1, v2, v3, hn4, x1]
          refine Thn_n ?_
          refine hK _ _ ?_
          clear hK K
          refine AW.cond_t rfl ?_
          refine AW.seq_k fun K hK => ?_
          refine AW.region (by decide) ?_
          simp only [push_cast, simprocAttr, Nat.sub_zero, Int.le_refl, hb0, lk_old hb0, hul, z0, z1, z2, z3, gx0, gx1, gx2, b4, b5, b8, w1, w2, w3, hge, b6, b7, hgx, strB_tl, hpv, hNi, hNw, v1, v2, v3, hn4, x1]
          refine Thn_n ?_
          refine hK _ _ ?_
          clear hK K
          refine AW.ret ?_
          refine Thn_r ?_
          refine InB_r ?_
          refine Thn_r ?_
          refine Thn_r ?_
          refine InB_r ?_
          refine InB_r ?_
          refine Thn_r ?_
          refine Thn_r ?_
          refine InB_r ?_
          refine Thn_r ?_
          refine hQ _ _ _ ?_
          first | refine RetP.drop0 (Or.inr rfl) ?_ ?_ hwf | refine RetP.drop (Or.inr rfl) ?_ ?_ hwf
          · simp only [resA, resOne, resTv, AV.tv, push_cast, simprocAttr, Nat.sub_zero, Int.le_refl, hb0, lk_old hb0, hul, z0, z1, z2, z3, gx0, gx1, gx2, b4, b5, b8, w1, w2, w3, hge, b6, b7, hgx, strB_tl, hpv, hNi, hNw, v1, v2, v3, hn4, x1]
          · rfl
      · have w1 : (n : Int) < (L : Nat) := by omega
        refine AW.drawX fol (by kernel_rfl) ?_
        refine DX.split 10 12 (by decide) ?_ ?_
        · refine DX.run [0, 1, 2, 3, 4, 5, 6, 7, 8, 9, 10, 11, 12, 13, 14] [.val, .val, .val, .val, .val, .val, .val, .val, .val, .val, .ext, .val, .ext, .val, .val] (by simp only [permL, reOp, List.idxOf_cons, push_cast, simprocAttr, Nat.sub_zero, Int.le_refl, hb0, lk_old hb0, hul, z0, z1, z2, z3, gx0, gx1, gx2, b4, b5, b8, w1]; first | done | rfl) (by kernel_rfl) ?_
          simp only [push_cast, simprocAttr, Nat.sub_zero, Int.le_refl, hb0, lk_old hb0, hul, z0, z1, z2, z3, gx0, gx1, gx2, b4, b5, b8, w1]
          refine Thn_n ?_
          refine hK _ _ ?_
          clear hK K
          refine AW.cond_t rfl ?_
          refine AW.exit ?_
          refine Thn_e ?_
          clear hK K
          refine InB_here ?_
          refine Thn_n ?_
          refine hK _ _ ?_
          clear hK K
          refine AW.region (by decide) ?_
          simp only [push_cast, simprocAttr, Nat.sub_zero, Int.le_refl, hb0, lk_old hb0, hul, z0, z1, z2, z3, gx0, gx1, gx2, b4, b5, b8, w1]
          refine Thn_n ?_
          have hwh : IntKind.i64.wrap ((h : Int) + 1) = (h : Int) + 1 := wi (by omega)
          refine ⟨h + 1, ⟨⟨by omega, by omega⟩, fun e => by
            have := hhw e
            by_cases e2 : h = h0
            · exact (hne ⟨e, e2⟩).elim
            · omega⟩, by omega, ?_⟩
          try simp only [keepL, setAll, push_cast, simprocAttr, Nat.sub_zero, Int.le_refl, hb0, lk_old hb0, hul, z0, z1, z2, z3, gx0, gx1, gx2, b4, b5, b8, w1, hwh]
          exact Weak.to (extra := [_]) (by simp only [Keeps, Tm.get_cons, Nat.reduceEqDiff, ↓reduceIte, if_true, if_false, ite_true, ite_false, true_and, and_true, and_self, reduceCtorEq, hwh]) (by first | rfl | (simp only [List.append_assoc, List.cons_append, List.nil_append]; rfl)) (by first | rfl | (simp [AV.below, CV.below]; done) | (simp [AV.below, CV.below]; omega)) (by
            first | exact hwf | refine MWf.app (hwf.grow (by simp)) ?_
            repeat (first | exact MWf_nil | (refine MWf_cons ?_ ?_; · first | rfl | (simp [CV.below]; done) | (simp [CV.below]; omega))))
        · refine DX.run [0, 1, 2, 3, 4, 5, 6, 7, 8, 9, 11, 12, 10, 13, 14] [.val, .val, .val, .val, .val, .val, .val, .val, .val, .val, .val, .ext, .ext, .val, .val] (by simp only [permL, reOp, List.idxOf_cons, push_cast, simprocAttr, Nat.sub_zero, Int.le_refl, hb0, lk_old hb0, hul, z0, z1, z2, z3, gx0, gx1, gx2, b4, b5, b8, w1]; first | done | rfl) (by kernel_rfl) ?_
          simp only [push_cast, simprocAttr, Nat.sub_zero, Int.le_refl, hb0, lk_old hb0, hul, z0, z1, z2, z3, gx0, gx1, gx2, b4, b5, b8, w1]
          refine Thn_n ?_
          refine hK _ _ ?_
          clear hK K
          refine AW.cond_t rfl ?_
          refine AW.exit ?_
          refine Thn_e ?_
          clear hK K
          refine InB_here ?_
          refine Thn_n ?_
          refine hK _ _ ?_
          clear hK K
          refine AW.region (by decide) ?_
          simp only [push_cast, simprocAttr, Nat.sub_zero, Int.le_refl, hb0, lk_old hb0, hul, z0, z1, z2, z3, gx0, gx1, gx2, b4, b5, b8, w1]
          refine Thn_n ?_
          have hwh : IntKind.i64.wrap ((h : Int) + 1) = (h : Int) + 1 := wi (by omega)
          refine ⟨h + 1, ⟨⟨by omega, by omega⟩, fun e => by
            have := hhw e
            by_cases e2 : h = h0
            · exact (hne ⟨e, e2⟩).elim
            · omega⟩, by omega, ?_⟩
          try simp only [keepL, setAll, push_cast, simprocAttr, Nat.sub_zero, Int.le_refl, hb0, lk_old hb0, hul, z0, z1, z2, z3, gx0, gx1, gx2, b4, b5, b8, w1, hwh]
          exact Weak.to (extra := [_]) (by simp only [Keeps, Tm.get_cons, Nat.reduceEqDiff, ↓reduceIte, if_true, if_false, ite_true, ite_false, true_and, and_true, and_self, reduceCtorEq, hwh]) (by first | rfl | (simp only [List.append_assoc, List.cons_append, List.nil_append]; rfl)) (by first | rfl | (simp [AV.below, CV.below]; done) | (simp [AV.below, CV.below]; omega)) (by
            first | exact hwf | refine MWf.app (hwf.grow (by simp)) ?_
            repeat (first | exact MWf_nil | (refine MWf_cons ?_ ?_; · first | rfl | (simp [CV.below]; done) | (simp [CV.below]; omega))))
      · have w1 : ¬ (n : Int) < (L : Nat) := by omega
        have b6 : (u8c xs).take L = u8c (xs.take L) := by have := u8c_cut xs 0 L; simpa using this
        have b7 := bytesA_u8c (xs.take L)
        have hgx : L ≤ xs.length := by omega
        have w2 : (0 : Int) ≤ (L : Nat) := by omega
        have w3 : (L : Int) ≤ (n : Nat) := by omega
        
        refine AW.drawX fol (by kernel_rfl) ?_
        refine DX.split 10 12 (by decide) ?_ ?_
        · refine DX.run [0, 1, 2, 3, 4, 5, 6, 7, 8, 9, 10, 11, 12, 13, 14] [.val, .val, .val, .val, .val, .val, .val, .val, .val, .val, .ext, .val, .ext, .val, .val] (by simp only [permL, reOp, List.idxOf_cons, push_cast, simprocAttr, Nat.sub_zero, Int.le_refl, hb0, lk_old hb0, hul, z0, z1, z2, z3, gx0, gx1, gx2, b4, b5, b8, w1, w2, w3, hge, hgx, b6, b7, strB_tl, hpv]; first | done | rfl) (by kernel_rfl) ?_
          iterate 2
            simp only [push_cast, simprocAttr, Nat.sub_zero, Int.le_refl, hb0, lk_old hb0, hul, z0, z1, z2, z3, gx0, gx1, gx2, b4, b5, b8, w1, w2, w3, hge, hgx, b6, b7, strB_tl, hpv]
            refine DExt.by (by first | rfl | exact (List.append_nil _).symm | (simp only [List.append_assoc, List.cons_append, List.nil_append]; rfl)) ?_
          simp only [push_cast, simprocAttr, Nat.sub_zero, Int.le_refl, hb0, lk_old hb0, hul, z0, z1, z2, z3, gx0, gx1, gx2, b4, b5, b8, w1, w2, w3, hge, hgx, b6, b7, strB_tl, hpv]
          refine Thn_n ?_
          refine hK _ _ ?_
          clear hK K
          refine AW.cond_t rfl ?_
          refine AW.exit ?_
          refine Thn_e ?_
          clear hK K
          refine InB_here ?_
          refine Thn_n ?_
          refine hK _ _ ?_
          clear hK K
          refine AW.region (by decide) ?_
          simp only [push_cast, simprocAttr, Nat.sub_zero, Int.le_refl, hb0, lk_old hb0, hul, z0, z1, z2, z3, gx0, gx1, gx2, b4, b5, b8, w1, w2, w3, hge, hgx, b6, b7, strB_tl, hpv]
          refine Thn_n ?_
          have hwh : IntKind.i64.wrap ((h : Int) + 1) = (h : Int) + 1 := wi (by omega)
          refine ⟨h + 1, ⟨⟨by omega, by omega⟩, fun e => by
            have := hhw e
            by_cases e2 : h = h0
            · exact (hne ⟨e, e2⟩).elim
            · omega⟩, by omega, ?_⟩
          try simp only [keepL, setAll, push_cast, simprocAttr, Nat.sub_zero, Int.le_refl, hb0, lk_old hb0, hul, z0, z1, z2, z3, gx0, gx1, gx2, b4, b5, b8, w1, w2, w3, hge, hgx, b6, b7, strB_tl, hpv, hwh]
          exact Weak.to (extra := [_]) (by simp only [Keeps, Tm.get_cons, Nat.reduceEqDiff, ↓reduceIte, if_true, if_false, ite_true, ite_false, true_and, and_true, and_self, reduceCtorEq, hwh]) (by first | rfl | (simp only [List.append_assoc, List.cons_append, List.nil_append]; rfl)) (by first | rfl | (simp [AV.below, CV.below]; done) | (simp [AV.below, CV.below]; omega)) (by
            first | exact hwf | refine MWf.app (hwf.grow (by simp)) ?_
            repeat (first | exact MWf_nil | (refine MWf_cons ?_ ?_; · first | rfl | (simp [CV.below]; done) | (simp [CV.below]; omega))))
        · refine DX.run [0, 1, 2, 3, 4, 5, 6, 7, 8, 9, 11, 12, 10, 13, 14] [.val, .val, .val, .val, .val, .val, .val, .val, .val, .val, .val, .ext, .ext, .val, .val] (by simp only [permL, reOp, List.idxOf_cons, push_cast, simprocAttr, Nat.sub_zero, Int.le_refl, hb0, lk_old hb0, hul, z0, z1, z2, z3, gx0, gx1, gx2, b4, b5, b8, w1, w2, w3, hge, hgx, b6, b7, strB_tl, hpv]; first | done | rfl) (by kernel_rfl) ?_
          iterate 2
            simp only [push_cast, simprocAttr, Nat.sub_zero, Int.le_refl, hb0, lk_old hb0, hul, z0, z1, z2, z3, gx0, gx1, gx2, b4, b5, b8, w1, w2, w3, hge, hgx, b6, b7, strB_tl, hpv]
            refine DExt.by (by first | rfl | exact (List.append_nil _).symm | (simp only [List.append_assoc, List.cons_append, List.nil_append]; rfl)) ?_
          simp only [push_cast, simprocAttr, Nat.sub_zero, Int.le_refl, hb0, lk_old hb0, hul, z0, z1, z2, z3, gx0, gx1, gx2, b4, b5, b8, w1, w2, w3, hge, hgx, b6, b7, strB_tl, hpv]
          refine Thn_n ?_
          refine hK _ _ ?_
          clear hK K
          refine AW.cond_t rfl ?_
          refine AW.exit ?_
          refine Thn_e ?_
          clear hK K
          refine InB_here ?_
          refine Thn_n ?_
          refine hK _ _ ?_
          clear hK K
          refine AW.region (by decide) ?_
          simp only [push_cast, simprocAttr, Nat.sub_zero, Int.le_refl, hb0, lk_old hb0, hul, z0, z1, z2, z3, gx0, gx1, gx2, b4, b5, b8, w1, w2, w3, hge, hgx, b6, b7, strB_tl, hpv]
          refine Thn_n ?_
          have hwh : IntKind.i64.wrap ((h : Int) + 1) = (h : Int) + 1 := wi (by omega)
          refine ⟨h + 1, ⟨⟨by omega, by omega⟩, fun e => by
            have := hhw e
            by_cases e2 : h = h0
            · exact (hne ⟨e, e2⟩).elim
            · omega⟩, by omega, ?_⟩
          try simp only [keepL, setAll, push_cast, simprocAttr, Nat.sub_zero, Int.le_refl, hb0, lk_old hb0, hul, z0, z1, z2, z3, gx0, gx1, gx2, b4, b5, b8, w1, w2, w3, hge, hgx, b6, b7, strB_tl, hpv, hwh]
          exact Weak.to (extra := [_]) (by simp only [Keeps, Tm.get_cons, Nat.reduceEqDiff, ↓reduceIte, if_true, if_false, ite_true, ite_false, true_and, and_true, and_self, reduceCtorEq, hwh]) (by first | rfl | (simp only [List.append_assoc, List.cons_append, List.nil_append]; rfl)) (by first | rfl | (simp [AV.below, CV.below]; done) | (simp [AV.below, CV.below]; omega)) (by
            first | exact hwf | refine MWf.app (hwf.grow (by simp)) ?_
            repeat (first | exact MWf_nil | (refine MWf_cons ?_ ?_; · first | rfl | (simp [CV.below]; done) | (simp [CV.below]; omega))))
    · have hh4 : h = 65 := by have := of_decide_eq_false h37; omega
      have hww0 : w ≠ w0 := fun e => by have := hhw e; omega
      refine AW.exit ?_
      refine Thn_e ?_
      clear hK K
      refine Thn_e ?_
      refine InB_here ?_
      refine InB_n ?_
      refine Thn_n ?_
      refine hK _ _ ?_
      clear hK K
      refine AW.region (by decide) ?_
      simp only [push_cast, simprocAttr, Nat.sub_zero, Int.le_refl, hb0, lk_old hb0, hul, z0, z1, z2, z3, gx0, gx1, gx2]
      refine Thn_n ?_
      have hww : IntKind.i64.wrap ((w : Int) + 1) = (w : Int) + 1 := wi (by omega)
      refine ⟨w + 1, ⟨by omega, by omega⟩, by omega, ?_⟩
      try simp only [keepL, setAll, push_cast, simprocAttr, Nat.sub_zero, Int.le_refl, hb0, lk_old hb0, hul, z0, z1, z2, z3, gx0, gx1, gx2, hww]
      exact Weak.same (by simp only [Keeps, Tm.get_cons, Nat.reduceEqDiff, ↓reduceIte, if_true, if_false, ite_true, ite_false, true_and, and_true, and_self, reduceCtorEq, hww]) (by first | rfl | simp only [Keeps, Tm.get_cons, Nat.reduceEqDiff, ↓reduceIte, if_true, if_false, ite_true, ite_false, true_and, and_true, and_self, reduceCtorEq, hww])
  · exfalso
    have := of_decide_eq_false h33
    omega
theorem rdec_D (r v n : Nat) (xs : List Int) (m : AMem) (hb : ∃ k ez, m[r]? = some ⟨k, 5, v, ez, u8c xs⟩) (h1 : n = xs.length) (hn : n ≤ 1048576) (h3 : 3 ≤ n) (hx0 : xs[0]? = some 80) (hx1 : xs[1]? = some 54) (hx2 : xs[2]? = some 10) (w0 h0 : Nat) (hw0 : 1 ≤ w0 ∧ w0 ≤ 64) (hh0 : 1 ≤ h0 ∧ h0 ≤ 64) (hp0 : hpV xs (hdI w0 h0) = true) (huq : ∀ w h : Nat, (1 ≤ w ∧ w ≤ 64) → (1 ≤ h ∧ h ≤ 64) → hpV xs (hdI w h) = true → w = w0 ∧ h = h0) (hlen : 3 * (w0 * h0) < n - (hdI w0 h0).length) : Ctr Tryd.prog 24 [.one (.sl r v 0 n)] m (.tup [(true, [.int .i64 0, .int .i64 0, .nils]), (false, [.int .i64 10])]) m := by
  refine Ctr.enter Tryd.func24 rfl (by decide) (rs := [.cell 2 52, .tmp 3]) (nt := 113) rfl rfl fun hwf Q hQ => ?_
  obtain ⟨k0, e0, hb0⟩ := hb
  have hr0 := get_lt hb0
  have hlt0 : ∀ k, ¬ m.length + k < m.length := fun k => by omega
  have hul := u8c_len xs
  have z1 : (0 : Int) < (n : Nat) := by omega
  have z2 : (1 : Int) < (n : Nat) := by omega
  have z3 : (2 : Int) < (n : Nat) := by omega
  have z0 : ¬ (n : Int) < 3 := by omega
  have gx0 := u8c_get hx0
  have gx1 := u8c_get hx1
  have gx2 := u8c_get hx2
  
  refine AW.seq_k fun K hK => ?_
  refine AW.region (by decide) ?_
  simp only [push_cast, simprocAttr, Nat.sub_zero, Int.le_refl, hb0, lk_old hb0, hul, z0, z1, z2, z3, gx0, gx1, gx2]
  refine Thn_n ?_
  refine hK _ _ ?_
  clear hK K
  refine AW.seq_k fun K hK => ?_
  refine AW.seq_k fun K hK => ?_
  refine AW.region (by decide) ?_
  simp only [push_cast, simprocAttr, Nat.sub_zero, Int.le_refl, hb0, lk_old hb0, hul, z0, z1, z2, z3, gx0, gx1, gx2]
  refine Thn_n ?_
  refine hK _ _ ?_
  clear hK K
  refine AW.cond_f rfl ?_
  refine AW.skip ?_
  refine Thn_n ?_
  refine hK _ _ ?_
  clear hK K
  refine AW.seq_k fun K hK => ?_
  refine AW.seq_k fun K hK => ?_
  refine AW.region (by decide) ?_
  simp only [push_cast, simprocAttr, Nat.sub_zero, Int.le_refl, hb0, lk_old hb0, hul, z0, z1, z2, z3, gx0, gx1, gx2]
  refine Thn_n ?_
  refine hK _ _ ?_
  clear hK K
  refine AW.block ?_
  refine AW.loopK [0, 2] (fun (w : Nat) => 1 ≤ w ∧ w ≤ w0) (fun (w : Nat) => [(4, .one (.int .i64 (w : Int)))]) (fun (w : Nat) => []) (fun (w : Nat) => 65 - w) 1 ⟨by omega, by omega⟩ ?_ ?_ fun (w : Nat) hi6 => ?_
  · first | rfl | (simp only [Keeps, Tm.get_cons, Nat.reduceEqDiff, ↓reduceIte, if_true, if_false, ite_true, ite_false, true_and, and_true, and_self, reduceCtorEq, Int.natCast_one, Int.cast_ofNat_Int] <;> rfl)
  · first | rfl | (simp only [setAll, push_cast, simprocAttr, Nat.sub_zero, Int.le_refl, hb0, lk_old hb0, hul, z0, z1, z2, z3, gx0, gx1, gx2, Int.natCast_one, Int.cast_ofNat_Int] <;> rfl)
  obtain ⟨hw1, hw2⟩ := hi6
  try simp only [keepL, setAll, push_cast, simprocAttr, Nat.sub_zero, Int.le_refl, hb0, lk_old hb0, hul, z0, z1, z2, z3, gx0, gx1, gx2]
  refine AW.seq_k fun K hK => ?_
  refine AW.seq_k fun K hK => ?_
  refine AW.region (by decide) ?_
  simp only [push_cast, simprocAttr, Nat.sub_zero, Int.le_refl, hb0, lk_old hb0, hul, z0, z1, z2, z3, gx0, gx1, gx2]
  refine Thn_n ?_
  refine hK _ _ ?_
  clear hK K
  refine AW.cond rfl (fun h33 => ?_) (fun h33 => ?_)
  · have hw3 : w ≤ 64 := by omega
    refine AW.skip ?_
    refine Thn_n ?_
    refine hK _ _ ?_
    clear hK K
    refine AW.seq_k fun K hK => ?_
    refine AW.block ?_
    refine AW.seq_k fun K hK => ?_
    refine AW.region (by decide) ?_
    simp only [push_cast, simprocAttr, Nat.sub_zero, Int.le_refl, hb0, lk_old hb0, hul, z0, z1, z2, z3, gx0, gx1, gx2]
    refine Thn_n ?_
    refine hK _ _ ?_
    clear hK K
    refine AW.block ?_
    refine AW.loopK [0, 2, 4] (fun (h : Nat) => (1 ≤ h ∧ h ≤ 65) ∧ (w = w0 → h ≤ h0)) (fun (h : Nat) => [(5, .one (.int .i64 (h : Int)))]) (fun (h : Nat) => []) (fun (h : Nat) => 65 - h) 1 ⟨⟨by omega, by omega⟩, fun _ => by omega⟩ ?_ ?_ fun (h : Nat) hi11 => ?_
    · first | rfl | (simp only [Keeps, Tm.get_cons, Nat.reduceEqDiff, ↓reduceIte, if_true, if_false, ite_true, ite_false, true_and, and_true, and_self, reduceCtorEq, Int.natCast_one, Int.cast_ofNat_Int] <;> rfl)
    · first | rfl | (simp only [setAll, push_cast, simprocAttr, Nat.sub_zero, Int.le_refl, hb0, lk_old hb0, hul, z0, z1, z2, z3, gx0, gx1, gx2, Int.natCast_one, Int.cast_ofNat_Int] <;> rfl)
    obtain ⟨⟨hh1, hh2⟩, hhw⟩ := hi11
    try simp only [keepL, setAll, push_cast, simprocAttr, Nat.sub_zero, Int.le_refl, hb0, lk_old hb0, hul, z0, z1, z2, z3, gx0, gx1, gx2]
    refine AW.seq_k fun K hK => ?_
    refine AW.seq_k fun K hK => ?_
    refine AW.region (by decide) ?_
    simp only [push_cast, simprocAttr, Nat.sub_zero, Int.le_refl, hb0, lk_old hb0, hul, z0, z1, z2, z3, gx0, gx1, gx2]
    refine Thn_n ?_
    refine hK _ _ ?_
    clear hK K
    refine AW.cond rfl (fun h37 => ?_) (fun h37 => ?_)
    · have hh3 : h ≤ 64 := by have := of_decide_eq_true h37; omega
      refine AW.skip ?_
      refine Thn_n ?_
      refine hK _ _ ?_
      clear hK K
      refine AW.seq_k fun K hK => ?_
      refine AW.block ?_
      refine AW.seq_k fun K hK => ?_
      refine AW.region (by decide) ?_
      simp only [push_cast, simprocAttr, Nat.sub_zero, Int.le_refl, hb0, lk_old hb0, hul, z0, z1, z2, z3, gx0, gx1, gx2]
      refine CThen.by (rhead_c w h (by omega) (by omega) _) ?_
      simp only [push_cast, simprocAttr, Nat.sub_zero, Int.le_refl, hb0, lk_old hb0, hul, z0, z1, z2, z3, gx0, gx1, gx2]
      refine Thn_n ?_
      refine hK _ _ ?_
      clear hK K
      refine AW.seq_k fun K hK => ?_
      refine AW.seq_k fun K hK => ?_
      obtain ⟨hd, hhd⟩ : ∃ hd, hd = hdI w h := ⟨_, rfl⟩
      have hhl := hdB_len (w := w) (h := h) (by omega) (by omega)
      rw [← hdI_len, ← hhd] at hhl
      obtain ⟨L, hL⟩ : ∃ L, L = hd.length := ⟨_, rfl⟩
      rw [← hL] at hhl
      have b4 := bytesA_u8c hd
      have b5 := u8c_len hd
      rw [← hL] at b5
      have b8 : (u8c hd).take L = u8c hd := List.take_of_length_le (by rw [b5]; exact Nat.le_refl _)
      simp only [← hhd, ← hL]
      have hor : (w = w0 ∧ h = h0) ∨ (¬ (w = w0 ∧ h = h0) ∧ ((n < L ∧ True) ∨ (L ≤ n ∧ (Lib.bytesOf (xs.take L) == Lib.bytesOf hd) = false))) := by
        by_cases hm : w = w0 ∧ h = h0
        · exact .inl hm
        · refine .inr ⟨hm, hpv_cases h1 hL ?_⟩
          cases hc : hpV xs hd with
          | false => rfl
          | true => rw [hhd] at hc; exact (hm (huq w h (by omega) (by omega) hc)).elim
      rcases hor with ⟨em1, em2⟩ | ⟨hne, ⟨hlt2, hpv⟩ | ⟨hge, hpv⟩⟩
      · subst em1
        subst em2
        obtain ⟨hge, hpv⟩ := hpv_yes (ps := hd) h1 hL (by rw [hhd]; exact hp0)
        have w1 : ¬ (n : Int) < (L : Nat) := by omega
        have b6 : (u8c xs).take L = u8c (xs.take L) := by have := u8c_cut xs 0 L; simpa using this
        have b7 := bytesA_u8c (xs.take L)
        have hgx : L ≤ xs.length := by omega
        have w2 : (0 : Int) ≤ (L : Nat) := by omega
        have w3 : (L : Int) ≤ (n : Nat) := by omega
        obtain ⟨N, hN⟩ : ∃ N, N = w * h := ⟨_, rfl⟩
        have hN2 : N ≤ 64 * 64 := by rw [hN]; exact Nat.mul_le_mul (by omega) (by omega)
        have hNi : (w : Int) * (h : Int) = (N : Int) := by rw [hN]; push_cast; rfl
        have hNw : IntKind.i64.wrap (N : Int) = (N : Int) := wi (by omega)
        have v1 : IntKind.i64.wrap (3 * (w : Int)) = 3 * (w : Int) := wi (by omega)
        obtain ⟨K3, hK3⟩ : ∃ K3, K3 = 3 * N := ⟨_, rfl⟩
        have v2 : 3 * (w : Int) * (h : Int) = (K3 : Int) := by rw [Int.mul_assoc, hNi, hK3]; push_cast; rfl
        have v3 : IntKind.i64.wrap (K3 : Int) = (K3 : Int) := wi (by omega)
        obtain ⟨n3, hn3⟩ : ∃ n3, n3 = n - L := ⟨_, rfl⟩
        have hn4 := hn3.symm
        rw [← hhd, ← hL, ← hN, ← hn3] at hlen
        have x1 : ¬ (n3 : Int) < (K3 : Int) := by omega
        have x2 : (K3 : Int) < (n3 : Int) := by omega
        refine AW.drawX fol (by kernel_rfl) ?_
        refine DX.split 10 12 (by decide) ?_ ?_
        · refine DX.run [0, 1, 2, 3, 4, 5, 6, 7, 8, 9, 10, 11, 12, 13, 14] [.val, .val, .val, .val, .val, .val, .val, .val, .val, .val, .ext, .val, .ext, .val, .val] (by simp only [permL, reOp, List.idxOf_cons, push_cast, simprocAttr, Nat.sub_zero, Int.le_refl, hb0, lk_old hb0, hul, z0, z1, z2, z3, gx0, gx1, gx2, b4, b5, b8, w1, w2, w3, hge, b6, b7, hgx, strB_tl, hpv, hNi, hNw, v1, v2, v3, hn4, x1, x2]; first | done | rfl) (by kernel_rfl) ?_
          iterate 2
            simp only [push_cast, simprocAttr, Nat.sub_zero, Int.le_refl, hb0, lk_old hb0, hul, z0, z1, z2, z3, gx0, gx1, gx2, b4, b5, b8, w1, w2, w3, hge, b6, b7, hgx, strB_tl, hpv, hNi, hNw, v1, v2, v3, hn4, x1, x2]
            refine DExt.by (by first | rfl | exact (List.append_nil _).symm | (simp only [List.append_assoc, List.cons_append, List.nil_append]; rfl)) ?_
          simp only [push_cast, simprocAttr, Nat.sub_zero, Int.le_refl, hb0, lk_old hb0, hul, z0, z1, z2, z3, gx0, gx1, gx2, b4, b5, b8, w1, w2, w3, hge, b6, b7, hgx, strB_tl, hpv, hNi, hNw, v1, v2, v3, hn4, x1, x2]
          refine Thn_n ?_
          refine hK _ _ ?_
          clear hK K
          refine AW.cond_f rfl ?_
          refine AW.skip ?_
          refine Thn_n ?_
          refine hK _ _ ?_
          clear hK K
          refine AW.seq_k fun K hK => ?_
          refine AW.region (by decide) ?_
          simp only [push_cast, simprocAttr, Nat.sub_zero, Int.le_refl, hb0, lk_old hb0, hul, z0, z1, z2, z3, gx0, gx1, gx2, b4, b5, b8, w1, w2, w3, hge, b6, b7, hgx, strB_tl, hpv, hNi, hNw, v1, v2, v3, hn4, x1, x2]
          refine Thn_n ?_
          refine hK _ _ ?_
          clear hK K
          refine AW.seq_k fun K hK => ?_
          refine AW.seq_k fun K hK => ?_
          refine AW.region (by decide) ?_
          simp only [push_cast, simprocAttr, Nat.sub_zero, Int.le_refl, hb0, lk_old hb0, hul, z0, z1, z2, z3, gx0, gx1, gx2, b4, b5, b8, w1, w2, w3, hge, b6, b7, hgx, strB_tl, hpv, hNi, hNw, v1, v2, v3, hn4, x1, x2]
          refine Thn_n ?_
          refine hK _ _ ?_
          clear hK K
          refine AW.cond_f rfl ?_
          refine AW.skip ?_
          refine Thn_n ?_
          refine hK _ _ ?_
          clear hK K
          refine AW.seq_k fun K hK => ?_
          refine AW.seq_k fun K hK => ?_
          refine AW.region (by decide) ?_
          simp only [push_cast, simprocAttr, Nat.sub_zero, Int.le_refl, hb0, lk_old hb0, hul, z0, z1, z2, z3, gx0, gx1, gx2, b4, b5, b8, w1, w2, w3, hge, b6, b7, hgx, strB_tl, hpv, hNi, hNw, v1, v2, v3, hn4, x1, x2]
          refine Thn_n ?_
          refine hK _ _ ?_
          clear hK K
          refine AW.cond_t rfl ?_
          refine AW.seq_k fun K hK => ?_
          refine AW.region (by decide) ?_
          simp only [push_cast, simprocAttr, Nat.sub_zero, Int.le_refl, hb0, lk_old hb0, hul, z0, z1, z2, z3, gx0, gx1, gx2, b4, b5, b8, w1, w2, w3, hge, b6, b7, hgx, strB_tl, hpv, hNi, hNw, v1, v2, v3, hn4, x1, x2]
          refine Thn_n ?_
          refine hK _ _ ?_
          clear hK K
          refine AW.ret ?_
          refine Thn_r ?_
          refine InB_r ?_
          refine Thn_r ?_
          refine Thn_r ?_
          refine InB_r ?_
          refine InB_r ?_
          refine Thn_r ?_
          refine Thn_r ?_
          refine InB_r ?_
          refine Thn_r ?_
          refine hQ _ _ _ ?_
          first | refine RetP.drop0 (Or.inr rfl) ?_ ?_ hwf | refine RetP.drop (Or.inr rfl) ?_ ?_ hwf
          · simp only [resA, resOne, resTv, AV.tv, push_cast, simprocAttr, Nat.sub_zero, Int.le_refl, hb0, lk_old hb0, hul, z0, z1, z2, z3, gx0, gx1, gx2, b4, b5, b8, w1, w2, w3, hge, b6, b7, hgx, strB_tl, hpv, hNi, hNw, v1, v2, v3, hn4, x1, x2]
          · rfl
        · refine DX.run [0, 1, 2, 3, 4, 5, 6, 7, 8, 9, 11, 12, 10, 13, 14] [.val, .val, .val, .val, .val, .val, .val, .val, .val, .val, .val, .ext, .ext, .val, .val] (by simp only [permL, reOp, List.idxOf_cons, push_cast, simprocAttr, Nat.sub_zero, Int.le_refl, hb0, lk_old hb0, hul, z0, z1, z2, z3, gx0, gx1, gx2, b4, b5, b8, w1, w2, w3, hge, b6, b7, hgx, strB_tl, hpv, hNi, hNw, v1, v2, v3, hn4, x1, x2]; first | done | rfl) (by kernel_rfl) ?_
          iterate 2
            simp only [push_cast, simprocAttr, Nat.sub_zero, Int.le_refl, hb0, lk_old hb0, hul, z0, z1, z2, z3, gx0, gx1, gx2, b4, b5, b8, w1, w2, w3, hge, b6, b7, hgx, strB_tl, hpv, hNi, hNw, v1, v2, v3, hn4, x1, x2]
            refine DExt.by (by first | rfl | exact (List.append_nil _).symm | (simp only [List.append_assoc, List.cons_append, List.nil_append]; rfl)) ?_
          simp only [push_cast, simprocAttr, Nat.sub_zero, Int.le_refl, hb0, lk_old hb0, hul, z0, z1, z2, z3, gx0, gx1, gx2, b4, b5, b8, w1, w2, w3, hge, b6, b7, hgx, strB_tl, hpv, hNi, hNw, v1, v2, v3, hn4, x1, x2]
          refine Thn_n ?_
          refine hK _ _ ?_
          clear hK K
          refine AW.cond_f rfl ?_
          refine AW.skip ?_
          refine Thn_n ?_
          refine hK _ _ ?_
          clear hK K
          refine AW.seq_k fun K hK => ?_
          refine AW.region (by decide) ?_
          simp only [push_cast, simprocAttr, Nat.sub_zero, Int.le_refl, hb0, lk_old hb0, hul, z0, z1, z2, z3, gx0, gx1, gx2, b4, b5, b8, w1, w2, w3, hge, b6, b7, hgx, strB_tl, hpv, hNi, hNw, v1, v2, v3, hn4, x1, x2]
          refine Thn_n ?_
          refine hK _ _ ?_
          clear hK K
          refine AW.seq_k fun K hK => ?_
          refine AW.seq_k fun K hK => ?_
          refine AW.region (by decide) ?_
          simp only [push_cast, simprocAttr, Nat.sub_zero, Int.le_refl, hb0, lk_old hb0, hul, z0, z1, z2, z3, gx0, gx1, gx2, b4, b5, b8, w1, w2, w3, hge, b6, b7, hgx, strB_tl, hpv, hNi, hNw, v1, v2, v3, hn4, x1, x2]
          refine Thn_n ?_
          refine hK _ _ ?_
          clear hK K
          refine AW.cond_f rfl ?_
          refine AW.skip ?_
          refine Thn_n ?_
          refine hK _ _ ?_
          clear hK K
          refine AW.seq_k fun K hK => ?_
          refine AW.seq_k fun K hK => ?_
          refine AW.region (by decide) ?_
          simp only [push_cast, simprocAttr, Nat.sub_zero, Int.le_refl, hb0, lk_old hb0, hul, z0, z1, z2, z3, gx0, gx1, gx2, b4, b5, b8, w1, w2, w3, hge, b6, b7, hgx, strB_tl, hpv, hNi, hNw, v1, v2, v3, hn4, x1, x2]
          refine Thn_n ?_
          refine hK _ _ ?_
          clear hK K
          refine AW.cond_t rfl ?_
          refine AW.seq_k fun K hK => ?_
          refine AW.region (by decide) ?_
          simp only [push_cast, simprocAttr, Nat.sub_zero, Int.le_refl, hb0, lk_old hb0, hul, z0, z1, z2, z3, gx0, gx1, gx2, b4, b5, b8, w1, w2, w3, hge, b6, b7, hgx, strB_tl, hpv, hNi, hNw, v1, v2, v3, hn4, x1, x2]
          refine Thn_n ?_
          refine hK _ _ ?_
          clear hK K
          refine AW.ret ?_
          refine Thn_r ?_
          refine InB_r ?_
          refine Thn_r ?_
          refine Thn_r ?_
          refine InB_r ?_
          refine InB_r ?_
          refine Thn_r ?_
          refine Thn_r ?_
          refine InB_r ?_
          refine Thn_r ?_
          refine hQ _ _ _ ?_
          first | refine RetP.drop0 (Or.inr rfl) ?_ ?_ hwf | refine RetP.drop (Or.inr rfl) ?_ ?_ hwf
          · simp only [resA, resOne, resTv, AV.tv, push_cast, simprocAttr, Nat.sub_zero, Int.le_refl, hb0, lk_old hb0, hul, z0, z1, z2, z3, gx0, gx1, gx2, b4, b5, b8, w1, w2, w3, hge, b6, b7, hgx, strB_tl, hpv, hNi, hNw, v1, v2, v3, hn4, x1, x2]
          · rfl
      · have w1 : (n : Int) < (L : Nat) := by omega
        refine AW.drawX fol (by kernel_rfl) ?_
        refine DX.split 10 12 (by decide) ?_ ?_
        · refine DX.run [0, 1, 2, 3, 4, 5, 6, 7, 8, 9, 10, 11, 12, 13, 14] [.val, .val, .val, .val, .val, .val, .val, .val, .val, .val, .ext, .val, .ext, .val, .val] (by simp only [permL, reOp, List.idxOf_cons, push_cast, simprocAttr, Nat.sub_zero, Int.le_refl, hb0, lk_old hb0, hul, z0, z1, z2, z3, gx0, gx1, gx2, b4, b5, b8, w1]; first | done | rfl) (by kernel_rfl) ?_
          simp only [push_cast, simprocAttr, Nat.sub_zero, Int.le_refl, hb0, lk_old hb0, hul, z0, z1, z2, z3, gx0, gx1, gx2, b4, b5, b8, w1]
          refine Thn_n ?_
          refine hK _ _ ?_
          clear hK K
          refine AW.cond_t rfl ?_
          refine AW.exit ?_
          refine Thn_e ?_
          clear hK K
          refine InB_here ?_
          refine Thn_n ?_
          refine hK _ _ ?_
          clear hK K
          refine AW.region (by decide) ?_
          simp only [push_cast, simprocAttr, Nat.sub_zero, Int.le_refl, hb0, lk_old hb0, hul, z0, z1, z2, z3, gx0, gx1, gx2, b4, b5, b8, w1]
          refine Thn_n ?_
          have hwh : IntKind.i64.wrap ((h : Int) + 1) = (h : Int) + 1 := wi (by omega)
          refine ⟨h + 1, ⟨⟨by omega, by omega⟩, fun e => by
            have := hhw e
            by_cases e2 : h = h0
            · exact (hne ⟨e, e2⟩).elim
            · omega⟩, by omega, ?_⟩
          try simp only [keepL, setAll, push_cast, simprocAttr, Nat.sub_zero, Int.le_refl, hb0, lk_old hb0, hul, z0, z1, z2, z3, gx0, gx1, gx2, b4, b5, b8, w1, hwh]
          exact Weak.to (extra := [_]) (by simp only [Keeps, Tm.get_cons, Nat.reduceEqDiff, ↓reduceIte, if_true, if_false, ite_true, ite_false, true_and, and_true, and_self, reduceCtorEq, hwh]) (by first | rfl | (simp only [List.append_assoc, List.cons_append, List.nil_append]; rfl)) (by first | rfl | (simp [AV.below, CV.below]; done) | (simp [AV.below, CV.below]; omega)) (by
            first | exact hwf | refine MWf.app (hwf.grow (by simp)) ?_
            repeat (first | exact MWf_nil | (refine MWf_cons ?_ ?_; · first | rfl | (simp [CV.below]; done) | (simp [CV.below]; omega))))
        · refine DX.run [0, 1, 2, 3, 4, 5, 6, 7, 8, 9, 11, 12, 10, 13, 14] [.val, .val, .val, .val, .val, .val, .val, .val, .val, .val, .val, .ext, .ext, .val, .val] (by simp only [permL, reOp, List.idxOf_cons, push_cast, simprocAttr, Nat.sub_zero, Int.le_refl, hb0, lk_old hb0, hul, z0, z1, z2, z3, gx0, gx1, gx2, b4, b5, b8, w1]; first | done | rfl) (by kernel_rfl) ?_
          simp only [push_cast, simprocAttr, Nat.sub_zero, Int.le_refl, hb0, lk_old hb0, hul, z0, z1, z2, z3, gx0, gx1, gx2, b4, b5, b8, w1]
          refine Thn_n ?_
          refine hK _ _ ?_
          clear hK K
          refine AW.cond_t rfl ?_
          refine AW.exit ?_
          refine Thn_e ?_
          clear hK K
          refine InB_here ?_
          refine Thn_n ?_
          refine hK _ _ ?_
          clear hK K
          refine AW.region (by decide) ?_
          simp only [push_cast, simprocAttr, Nat.sub_zero, Int.le_refl, hb0, lk_old hb0, hul, z0, z1, z2, z3, gx0, gx1, gx2, b4, b5, b8, w1]
          refine Thn_n ?_
          have hwh : IntKind.i64.wrap ((h : Int) + 1) = (h : Int) + 1 := wi (by omega)
          refine ⟨h + 1, ⟨⟨by omega, by omega⟩, fun e => by
            have := hhw e
            by_cases e2 : h = h0
            · exact (hne ⟨e, e2⟩).elim
            · omega⟩, by omega, ?_⟩
          try simp only [keepL, setAll, push_cast, simprocAttr, Nat.sub_zero, Int.le_refl, hb0, lk_old hb0, hul, z0, z1, z2, z3, gx0, gx1, gx2, b4, b5, b8, w1, hwh]
          exact Weak.to (extra := [_]) (by simp only [Keeps, Tm.get_cons, Nat.reduceEqDiff, ↓reduceIte, if_true, if_false, ite_true, ite_false, true_and, and_true, and_self, reduceCtorEq, hwh]) (by first | rfl | (simp only [List.append_assoc, List.cons_append, List.nil_append]; rfl)) (by first | rfl | (simp [AV.below, CV.below]; done) | (simp [AV.below, CV.below]; omega)) (by
            first | exact hwf | refine MWf.app (hwf.grow (by simp)) ?_
            repeat (first | exact MWf_nil | (refine MWf_cons ?_ ?_; · first | rfl | (simp [CV.below]; done) | (simp [CV.below]; omega))))
      · have w1 : ¬ (n : Int) < (L : Nat) := by omega
        have b6 : (u8c xs).take L = u8c (xs.take L) := by have := u8c_cut xs 0 L; simpa using this
        have b7 := bytesA_u8c (xs.take L)
        have hgx : L ≤ xs.length := by omega
        have w2 : (0 : Int) ≤ (L : Nat) := by omega
        have w3 : (L : Int) ≤ (n : Nat) := by omega
        
        refine AW.drawX fol (by kernel_rfl) ?_
        refine DX.split 10 12 (by decide) ?_ ?_
        · refine DX.run [0, 1, 2, 3, 4, 5, 6, 7, 8, 9, 10, 11, 12, 13, 14] [.val, .val, .val, .val, .val, .val, .val, .val, .val, .val, .ext, .val, .ext, .val, .val] (by simp only [permL, reOp, List.idxOf_cons, push_cast, simprocAttr, Nat.sub_zero, Int.le_refl, hb0, lk_old hb0, hul, z0, z1, z2, z3, gx0, gx1, gx2, b4, b5, b8, w1, w2, w3, hge, hgx, b6, b7, strB_tl, hpv]; first | done | rfl) (by kernel_rfl) ?_
          iterate 2
            simp only [push_cast, simprocAttr, Nat.sub_zero, Int.le_refl, hb0, lk_old hb0, hul, z0, z1, z2, z3, gx0, gx1, gx2, b4, b5, b8, w1, w2, w3, hge, hgx, b6, b7, strB_tl, hpv]
            refine DExt.by (by first | rfl | exact (List.append_nil _).symm | (simp only [List.append_assoc, List.cons_append, List.nil_append]; rfl)) ?_
          simp only [push_cast, simprocAttr, Nat.sub_zero, Int.le_refl, hb0, lk_old hb0, hul, z0, z1, z2, z3, gx0, gx1, gx2, b4, b5, b8, w1, w2, w3, hge, hgx, b6, b7, strB_tl, hpv]
          refine Thn_n ?_
          refine hK _ _ ?_
          clear hK K
          refine AW.cond_t rfl ?_
          refine AW.exit ?_
          refine Thn_e ?_
          clear hK K
          refine InB_here ?_
          refine Thn_n ?_
          refine hK _ _ ?_
          clear hK K
          refine AW.region (by decide) ?_
          simp only [push_cast, simprocAttr, Nat.sub_zero, Int.le_refl, hb0, lk_old hb0, hul, z0, z1, z2, z3, gx0, gx1, gx2, b4, b5, b8, w1, w2, w3, hge, hgx, b6, b7, strB_tl, hpv]
          refine Thn_n ?_
          have hwh : IntKind.i64.wrap ((h : Int) + 1) = (h : Int) + 1 := wi (by omega)
          refine ⟨h + 1, ⟨⟨by omega, by omega⟩, fun e => by
            have := hhw e
            by_cases e2 : h = h0
            · exact (hne ⟨e, e2⟩).elim
            · omega⟩, by omega, ?_⟩
          try simp only [keepL, setAll, push_cast, simprocAttr, Nat.sub_zero, Int.le_refl, hb0, lk_old hb0, hul, z0, z1, z2, z3, gx0, gx1, gx2, b4, b5, b8, w1, w2, w3, hge, hgx, b6, b7, strB_tl, hpv, hwh]
          exact Weak.to (extra := [_]) (by simp only [Keeps, Tm.get_cons, Nat.reduceEqDiff, ↓reduceIte, if_true, if_false, ite_true, ite_false, true_and, and_true, and_self, reduceCtorEq, hwh]) (by first | rfl | (simp only [List.append_assoc, List.cons_append, List.nil_append]; rfl)) (by first | rfl | (simp [AV.below, CV.below]; done) | (simp [AV.below, CV.below]; omega)) (by
            first | exact hwf | refine MWf.app (hwf.grow (by simp)) ?_
            repeat (first | exact MWf_nil | (refine MWf_cons ?_ ?_; · first | rfl | (simp [CV.below]; done) | (simp [CV.below]; omega))))
        · refine DX.run [0, 1, 2, 3, 4, 5, 6, 7, 8, 9, 11, 12, 10, 13, 14] [.val, .val, .val, .val, .val, .val, .val, .val, .val, .val, .val, .ext, .ext, .val, .val] (by simp only [permL, reOp, List.idxOf_cons, push_cast, simprocAttr, Nat.sub_zero, Int.le_refl, hb0, lk_old hb0, hul, z0, z1, z2, z3, gx0, gx1, gx2, b4, b5, b8, w1, w2, w3, hge, hgx, b6, b7, strB_tl, hpv]; first | done | rfl) (by kernel_rfl) ?_
          iterate 2
            simp only [push_cast, simprocAttr, Nat.sub_zero, Int.le_refl, hb0, lk_old hb0, hul, z0, z1, z2, z3, gx0, gx1, gx2, b4, b5, b8, w1, w2, w3, hge, hgx, b6, b7, strB_tl, hpv]
            refine DExt.by (by first | rfl | exact (List.append_nil _).symm | (simp only [List.append_assoc, List.cons_append, List.nil_append]; rfl)) ?_
          simp only [push_cast, simprocAttr, Nat.sub_zero, Int.le_refl, hb0, lk_old hb0, hul, z0, z1, z2, z3, gx0, gx1, gx2, b4, b5, b8, w1, w2, w3, hge, hgx, b6, b7, strB_tl, hpv]
          refine Thn_n ?_
          refine hK _ _ ?_
          clear hK K
          refine AW.cond_t rfl ?_
          refine AW.exit ?_
          refine Thn_e ?_
          clear hK K
          refine InB_here ?_
          refine Thn_n ?_
          refine hK _ _ ?_
          clear hK K
          refine AW.region (by decide) ?_
          simp only [push_cast, simprocAttr, Nat.sub_zero, Int.le_refl, hb0, lk_old hb0, hul, z0, z1, z2, z3, gx0, gx1, gx2, b4, b5, b8, w1, w2, w3, hge, hgx, b6, b7, strB_tl, hpv]
          refine Thn_n ?_
          have hwh : IntKind.i64.wrap ((h : Int) + 1) = (h : Int) + 1 := wi (by omega)
          refine ⟨h + 1, ⟨⟨by omega, by omega⟩, fun e => by
            have := hhw e
            by_cases e2 : h = h0
            · exact (hne ⟨e, e2⟩).elim
            · omega⟩, by omega, ?_⟩
          try simp only [keepL, setAll, push_cast, simprocAttr, Nat.sub_zero, Int.le_refl, hb0, lk_old hb0, hul, z0, z1, z2, z3, gx0, gx1, gx2, b4, b5, b8, w1, w2, w3, hge, hgx, b6, b7, strB_tl, hpv, hwh]
          exact Weak.to (extra := [_]) (by simp only [Keeps, Tm.get_cons, Nat.reduceEqDiff, ↓reduceIte, if_true, if_false, ite_true, ite_false, true_and, and_true, and_self, reduceCtorEq, hwh]) (by first | rfl | (simp only [List.append_assoc, List.cons_append, List.nil_append]; rfl)) (by first | rfl | (simp [AV.below, CV.below]; done) | (simp [AV.below, CV.below]; omega)) (by
            first | exact hwf | refine MWf.app (hwf.grow (by simp)) ?_
            repeat (first | exact MWf_nil | (refine MWf_cons ?_ ?_; · first | rfl | (simp [CV.below]; done) | (simp [CV.below]; omega))))
    · have hh4 : h = 65 := by have := of_decide_eq_false h37; omega
      have hww0 : w ≠ w0 := fun e => by have := hhw e; omega
      refine AW.exit ?_
      refine Thn_e ?_
      clear hK K
      refine Thn_e ?_
      refine InB_here ?_
      refine InB_n ?_
      refine Thn_n ?_
      refine hK _ _ ?_
      clear hK K
      refine AW.region (by decide) ?_
      simp only [push_cast, simprocAttr, Nat.sub_zero, Int.le_refl, hb0, lk_old hb0, hul, z0, z1, z2, z3, gx0, gx1, gx2]
      refine Thn_n ?_
      have hww : IntKind.i64.wrap ((w : Int) + 1) = (w : Int) + 1 := wi (by omega)
      refine ⟨w + 1, ⟨by omega, by omega⟩, by omega, ?_⟩
      try simp only [keepL, setAll, push_cast, simprocAttr, Nat.sub_zero, Int.le_refl, hb0, lk_old hb0, hul, z0, z1, z2, z3, gx0, gx1, gx2, hww]
      exact Weak.same (by simp only [Keeps, Tm.get_cons, Nat.reduceEqDiff, ↓reduceIte, if_true, if_false, ite_true, ite_false, true_and, and_true, and_self, reduceCtorEq, hww]) (by first | rfl | simp only [Keeps, Tm.get_cons, Nat.reduceEqDiff, ↓reduceIte, if_true, if_false, ite_true, ite_false, true_and, and_true, and_self, reduceCtorEq, hww])
  · exfalso
    have := of_decide_eq_false h33
    omega
theorem rdec_E (r v n : Nat) (xs : List Int) (m : AMem) (hb : ∃ k ez, m[r]? = some ⟨k, 5, v, ez, u8c xs⟩) (h1 : n = xs.length) (hn : n ≤ 1048576) (h3 : 3 ≤ n) (hx0 : xs[0]? = some 80) (hx1 : xs[1]? = some 54) (hx2 : xs[2]? = some 10) (w0 h0 : Nat) (hw0 : 1 ≤ w0 ∧ w0 ≤ 64) (hh0 : 1 ≤ h0 ∧ h0 ≤ 64) (hp0 : hpV xs (hdI w0 h0) = true) (huq : ∀ w h : Nat, (1 ≤ w ∧ w ≤ 64) → (1 ≤ h ∧ h ≤ 64) → hpV xs (hdI w h) = true → w = w0 ∧ h = h0) (hlen : n - (hdI w0 h0).length = 3 * (w0 * h0)) : Ctr Tryd.prog 24 [.one (.sl r v 0 n)] m (.tup [(true, [.int .i64 (w0 : Int), .int .i64 (h0 : Int), .sl m.length 0 0 (w0 * h0)]), (false, [.int .i64 0])]) (m ++ [⟨.grow, 69, 0, 3, d8 (w0 * h0) (fun i k => xs.getD ((hdI w0 h0).length + 3 * i + k) 0)⟩]) := by
  refine Ctr.enter Tryd.func24 rfl (by decide) (rs := [.cell 2 52, .tmp 3]) (nt := 113) rfl rfl fun hwf Q hQ => ?_
  obtain ⟨k0, e0, hb0⟩ := hb
  have hr0 := get_lt hb0
  have hlt0 : ∀ k, ¬ m.length + k < m.length := fun k => by omega
  have hul := u8c_len xs
  have z1 : (0 : Int) < (n : Nat) := by omega
  have z2 : (1 : Int) < (n : Nat) := by omega
  have z3 : (2 : Int) < (n : Nat) := by omega
  have z0 : ¬ (n : Int) < 3 := by omega
  have gx0 := u8c_get hx0
  have gx1 := u8c_get hx1
  have gx2 := u8c_get hx2
  
  refine AW.seq_k fun K hK => ?_
  refine AW.region (by decide) ?_
  simp only [push_cast, simprocAttr, Nat.sub_zero, Int.le_refl, hb0, lk_old hb0, hul, z0, z1, z2, z3, gx0, gx1, gx2]
  refine Thn_n ?_
  refine hK _ _ ?_
  clear hK K
  refine AW.seq_k fun K hK => ?_
  refine AW.seq_k fun K hK => ?_
  refine AW.region (by decide) ?_
  simp only [push_cast, simprocAttr, Nat.sub_zero, Int.le_refl, hb0, lk_old hb0, hul, z0, z1, z2, z3, gx0, gx1, gx2]
  refine Thn_n ?_
  refine hK _ _ ?_
  clear hK K
  refine AW.cond_f rfl ?_
  refine AW.skip ?_
  refine Thn_n ?_
  refine hK _ _ ?_
  clear hK K
  refine AW.seq_k fun K hK => ?_
  refine AW.seq_k fun K hK => ?_
  refine AW.region (by decide) ?_
  simp only [push_cast, simprocAttr, Nat.sub_zero, Int.le_refl, hb0, lk_old hb0, hul, z0, z1, z2, z3, gx0, gx1, gx2]
  refine Thn_n ?_
  refine hK _ _ ?_
  clear hK K
  refine AW.block ?_
  refine AW.loopK [0, 2] (fun (w : Nat) => 1 ≤ w ∧ w ≤ w0) (fun (w : Nat) => [(4, .one (.int .i64 (w : Int)))]) (fun (w : Nat) => []) (fun (w : Nat) => 65 - w) 1 ⟨by omega, by omega⟩ ?_ ?_ fun (w : Nat) hi6 => ?_
  · first | rfl | (simp only [Keeps, Tm.get_cons, Nat.reduceEqDiff, ↓reduceIte, if_true, if_false, ite_true, ite_false, true_and, and_true, and_self, reduceCtorEq, Int.natCast_one, Int.cast_ofNat_Int] <;> rfl)
  · first | rfl | (simp only [setAll, push_cast, simprocAttr, Nat.sub_zero, Int.le_refl, hb0, lk_old hb0, hul, z0, z1, z2, z3, gx0, gx1, gx2, Int.natCast_one, Int.cast_ofNat_Int] <;> rfl)
  obtain ⟨hw1, hw2⟩ := hi6
  try simp only [keepL, setAll, push_cast, simprocAttr, Nat.sub_zero, Int.le_refl, hb0, lk_old hb0, hul, z0, z1, z2, z3, gx0, gx1, gx2]
  refine AW.seq_k fun K hK => ?_
  refine AW.seq_k fun K hK => ?_
  refine AW.region (by decide) ?_
  simp only [push_cast, simprocAttr, Nat.sub_zero, Int.le_refl, hb0, lk_old hb0, hul, z0, z1, z2, z3, gx0, gx1, gx2]
  refine Thn_n ?_
  refine hK _ _ ?_
  clear hK K
  refine AW.cond rfl (fun h33 => ?_) (fun h33 => ?_)
  · have hw3 : w ≤ 64 := by omega
    refine AW.skip ?_
    refine Thn_n ?_
    refine hK _ _ ?_
    clear hK K
    refine AW.seq_k fun K hK => ?_
    refine AW.block ?_
    refine AW.seq_k fun K hK => ?_
    refine AW.region (by decide) ?_
    simp only [push_cast, simprocAttr, Nat.sub_zero, Int.le_refl, hb0, lk_old hb0, hul, z0, z1, z2, z3, gx0, gx1, gx2]
    refine Thn_n ?_
    refine hK _ _ ?_
    clear hK K
    refine AW.block ?_
    refine AW.loopK [0, 2, 4] (fun (h : Nat) => (1 ≤ h ∧ h ≤ 65) ∧ (w = w0 → h ≤ h0)) (fun (h : Nat) => [(5, .one (.int .i64 (h : Int)))]) (fun (h : Nat) => []) (fun (h : Nat) => 65 - h) 1 ⟨⟨by omega, by omega⟩, fun _ => by omega⟩ ?_ ?_ fun (h : Nat) hi11 => ?_
    · first | rfl | (simp only [Keeps, Tm.get_cons, Nat.reduceEqDiff, ↓reduceIte, if_true, if_false, ite_true, ite_false, true_and, and_true, and_self, reduceCtorEq, Int.natCast_one, Int.cast_ofNat_Int] <;> rfl)
    · first | rfl | (simp only [setAll, push_cast, simprocAttr, Nat.sub_zero, Int.le_refl, hb0, lk_old hb0, hul, z0, z1, z2, z3, gx0, gx1, gx2, Int.natCast_one, Int.cast_ofNat_Int] <;> rfl)
    obtain ⟨⟨hh1, hh2⟩, hhw⟩ := hi11
    try simp only [keepL, setAll, push_cast, simprocAttr, Nat.sub_zero, Int.le_refl, hb0, lk_old hb0, hul, z0, z1, z2, z3, gx0, gx1, gx2]
    refine AW.seq_k fun K hK => ?_
    refine AW.seq_k fun K hK => ?_
    refine AW.region (by decide) ?_
    simp only [push_cast, simprocAttr, Nat.sub_zero, Int.le_refl, hb0, lk_old hb0, hul, z0, z1, z2, z3, gx0, gx1, gx2]
    refine Thn_n ?_
    refine hK _ _ ?_
    clear hK K
    refine AW.cond rfl (fun h37 => ?_) (fun h37 => ?_)
    · have hh3 : h ≤ 64 := by have := of_decide_eq_true h37; omega
      refine AW.skip ?_
      refine Thn_n ?_
      refine hK _ _ ?_
      clear hK K
      refine AW.seq_k fun K hK => ?_
      refine AW.block ?_
      refine AW.seq_k fun K hK => ?_
      refine AW.region (by decide) ?_
      simp only [push_cast, simprocAttr, Nat.sub_zero, Int.le_refl, hb0, lk_old hb0, hul, z0, z1, z2, z3, gx0, gx1, gx2]
      refine CThen.by (rhead_c w h (by omega) (by omega) _) ?_
      simp only [push_cast, simprocAttr, Nat.sub_zero, Int.le_refl, hb0, lk_old hb0, hul, z0, z1, z2, z3, gx0, gx1, gx2]
      refine Thn_n ?_
      refine hK _ _ ?_
      clear hK K
      refine AW.seq_k fun K hK => ?_
      refine AW.seq_k fun K hK => ?_
      obtain ⟨hd, hhd⟩ : ∃ hd, hd = hdI w h := ⟨_, rfl⟩
      have hhl := hdB_len (w := w) (h := h) (by omega) (by omega)
      rw [← hdI_len, ← hhd] at hhl
      obtain ⟨L, hL⟩ : ∃ L, L = hd.length := ⟨_, rfl⟩
      rw [← hL] at hhl
      have b4 := bytesA_u8c hd
      have b5 := u8c_len hd
      rw [← hL] at b5
      have b8 : (u8c hd).take L = u8c hd := List.take_of_length_le (by rw [b5]; exact Nat.le_refl _)
      simp only [← hhd, ← hL]
      have hor : (w = w0 ∧ h = h0) ∨ (¬ (w = w0 ∧ h = h0) ∧ ((n < L ∧ True) ∨ (L ≤ n ∧ (Lib.bytesOf (xs.take L) == Lib.bytesOf hd) = false))) := by
        by_cases hm : w = w0 ∧ h = h0
        · exact .inl hm
        · refine .inr ⟨hm, hpv_cases h1 hL ?_⟩
          cases hc : hpV xs hd with
          | false => rfl
          | true => rw [hhd] at hc; exact (hm (huq w h (by omega) (by omega) hc)).elim
      rcases hor with ⟨em1, em2⟩ | ⟨hne, ⟨hlt2, hpv⟩ | ⟨hge, hpv⟩⟩
      · subst em1
        subst em2
        obtain ⟨hge, hpv⟩ := hpv_yes (ps := hd) h1 hL (by rw [hhd]; exact hp0)
        have w1 : ¬ (n : Int) < (L : Nat) := by omega
        have b6 : (u8c xs).take L = u8c (xs.take L) := by have := u8c_cut xs 0 L; simpa using this
        have b7 := bytesA_u8c (xs.take L)
        have hgx : L ≤ xs.length := by omega
        have w2 : (0 : Int) ≤ (L : Nat) := by omega
        have w3 : (L : Int) ≤ (n : Nat) := by omega
        obtain ⟨N, hN⟩ : ∃ N, N = w * h := ⟨_, rfl⟩
        have hN2 : N ≤ 64 * 64 := by rw [hN]; exact Nat.mul_le_mul (by omega) (by omega)
        have hNi : (w : Int) * (h : Int) = (N : Int) := by rw [hN]; push_cast; rfl
        have hNw : IntKind.i64.wrap (N : Int) = (N : Int) := wi (by omega)
        have v1 : IntKind.i64.wrap (3 * (w : Int)) = 3 * (w : Int) := wi (by omega)
        obtain ⟨K3, hK3⟩ : ∃ K3, K3 = 3 * N := ⟨_, rfl⟩
        have v2 : 3 * (w : Int) * (h : Int) = (K3 : Int) := by rw [Int.mul_assoc, hNi, hK3]; push_cast; rfl
        have v3 : IntKind.i64.wrap (K3 : Int) = (K3 : Int) := wi (by omega)
        obtain ⟨n3, hn3⟩ : ∃ n3, n3 = n - L := ⟨_, rfl⟩
        have hn4 := hn3.symm
        rw [← hhd, ← hL, ← hN, ← hn3] at hlen
        have x1 : ¬ (n3 : Int) < (K3 : Int) := by omega
        have x2 : ¬ (K3 : Int) < (n3 : Int) := by omega
        obtain ⟨G, hG⟩ : ∃ G : Nat → Nat → Int, G = (fun i k => xs.getD (L + 3 * i + k) 0) := ⟨_, rfl⟩
        rw [← hhd, ← hL, ← hG, ← hN] at hQ
        have d0 : d8 0 G = [] := rfl
        refine AW.drawX fol (by kernel_rfl) ?_
        refine DX.split 10 12 (by decide) ?_ ?_
        · refine DX.run [0, 1, 2, 3, 4, 5, 6, 7, 8, 9, 10, 11, 12, 13, 14] [.val, .val, .val, .val, .val, .val, .val, .val, .val, .val, .ext, .val, .ext, .val, .val] (by simp only [permL, reOp, List.idxOf_cons, push_cast, simprocAttr, Nat.sub_zero, Int.le_refl, hb0, lk_old hb0, hul, z0, z1, z2, z3, gx0, gx1, gx2, b4, b5, b8, w1, w2, w3, hge, b6, b7, hgx, strB_tl, hpv, hNi, hNw, v1, v2, v3, hn4, x1, x2]; first | done | rfl) (by kernel_rfl) ?_
          iterate 2
            simp only [push_cast, simprocAttr, Nat.sub_zero, Int.le_refl, hb0, lk_old hb0, hul, z0, z1, z2, z3, gx0, gx1, gx2, b4, b5, b8, w1, w2, w3, hge, b6, b7, hgx, strB_tl, hpv, hNi, hNw, v1, v2, v3, hn4, x1, x2]
            refine DExt.by (by first | rfl | exact (List.append_nil _).symm | (simp only [List.append_assoc, List.cons_append, List.nil_append]; rfl)) ?_
          simp only [push_cast, simprocAttr, Nat.sub_zero, Int.le_refl, hb0, lk_old hb0, hul, z0, z1, z2, z3, gx0, gx1, gx2, b4, b5, b8, w1, w2, w3, hge, b6, b7, hgx, strB_tl, hpv, hNi, hNw, v1, v2, v3, hn4, x1, x2]
          refine Thn_n ?_
          refine hK _ _ ?_
          clear hK K
          refine AW.cond_f rfl ?_
          refine AW.skip ?_
          refine Thn_n ?_
          refine hK _ _ ?_
          clear hK K
          refine AW.seq_k fun K hK => ?_
          refine AW.region (by decide) ?_
          simp only [push_cast, simprocAttr, Nat.sub_zero, Int.le_refl, hb0, lk_old hb0, hul, z0, z1, z2, z3, gx0, gx1, gx2, b4, b5, b8, w1, w2, w3, hge, b6, b7, hgx, strB_tl, hpv, hNi, hNw, v1, v2, v3, hn4, x1, x2]
          iterate 2
            refine Thn_n ?_
            refine hK _ _ ?_
            clear hK K
            refine AW.seq_k fun K hK => ?_
            refine AW.seq_k fun K hK => ?_
            refine AW.region (by decide) ?_
            simp only [push_cast, simprocAttr, Nat.sub_zero, Int.le_refl, hb0, lk_old hb0, hul, z0, z1, z2, z3, gx0, gx1, gx2, b4, b5, b8, w1, w2, w3, hge, b6, b7, hgx, strB_tl, hpv, hNi, hNw, v1, v2, v3, hn4, x1, x2]
            refine Thn_n ?_
            refine hK _ _ ?_
            clear hK K
            refine AW.cond_f rfl ?_
            refine AW.skip ?_
          refine Thn_n ?_
          refine hK _ _ ?_
          clear hK K
          refine AW.seq_k fun K hK => ?_
          refine AW.region (by decide) ?_
          simp only [push_cast, simprocAttr, Nat.sub_zero, Int.le_refl, hb0, lk_old hb0, hul, z0, z1, z2, z3, gx0, gx1, gx2, b4, b5, b8, w1, w2, w3, hge, b6, b7, hgx, strB_tl, hpv, hNi, hNw, v1, v2, v3, hn4, x1, x2]
          refine Thn_n ?_
          refine hK _ _ ?_
          clear hK K
          refine AW.seq_k fun K hK => ?_
          refine AW.seq_k fun K hK => ?_
          refine AW.region (by decide) ?_
          simp only [push_cast, simprocAttr, Nat.sub_zero, Int.le_refl, hb0, lk_old hb0, hul, z0, z1, z2, z3, gx0, gx1, gx2, b4, b5, b8, w1, w2, w3, hge, b6, b7, hgx, strB_tl, hpv, hNi, hNw, v1, v2, v3, hn4, x1, x2]
          refine Thn_n ?_
          refine hK _ _ ?_
          clear hK K
          refine AW.block ?_
          refine AW.nilCell 69 3 (m.length + 2) 2 (by simp only [push_cast, simprocAttr, Nat.sub_zero, Int.le_refl, hb0, lk_old hb0, hul, z0, z1, z2, z3, gx0, gx1, gx2, b4, b5, b8, w1, w2, w3, hge, b6, b7, hgx, strB_tl, hpv, hNi, hNw, v1, v2, v3, hn4, x1, x2]; first | done | rfl) (by intro e; cases e) rfl ?_
          try simp only [push_cast, simprocAttr, Nat.sub_zero, Int.le_refl, hb0, lk_old hb0, hul, z0, z1, z2, z3, gx0, gx1, gx2, b4, b5, b8, w1, w2, w3, hge, b6, b7, hgx, strB_tl, hpv, hNi, hNw, v1, v2, v3, hn4, x1, x2]
          refine AW.loopK [2, 4, 5, 7, 8] (fun i => i ≤ N) (fun i => [(9, .one (.int .i64 (i : Int)))]) (fun i => [(m.length + 2, ⟨.fix, 52, 0, 0, [.int .i64 (w : Int), .int .i64 (h : Int), .sl (m.length + 3) i 0 i]⟩), (m.length + 3, ⟨.grow, 69, i, 3, d8 i G⟩)]) (fun i => N - i) 0 (by omega) ?_ ?_ fun i hi26 => ?_
          · first | rfl | (simp only [Keeps, Tm.get_cons, Nat.reduceEqDiff, ↓reduceIte, if_true, if_false, ite_true, ite_false, true_and, and_true, and_self, reduceCtorEq, Int.natCast_zero, d0] <;> rfl)
          · first | rfl | (simp only [setAll, push_cast, simprocAttr, Nat.sub_zero, Int.le_refl, hb0, lk_old hb0, hul, z0, z1, z2, z3, gx0, gx1, gx2, b4, b5, b8, w1, w2, w3, hge, b6, b7, hgx, strB_tl, hpv, hNi, hNw, v1, v2, v3, hn4, x1, x2, Int.natCast_zero, d0] <;> rfl)
          try simp only [keepL, setAll, push_cast, simprocAttr, Nat.sub_zero, Int.le_refl, hb0, lk_old hb0, hul, z0, z1, z2, z3, gx0, gx1, gx2, b4, b5, b8, w1, w2, w3, hge, b6, b7, hgx, strB_tl, hpv, hNi, hNw, v1, v2, v3, hn4, x1, x2]
          refine AW.seq_k fun K hK => ?_
          refine AW.seq_k fun K hK => ?_
          refine AW.region (by decide) ?_
          simp only [push_cast, simprocAttr, Nat.sub_zero, Int.le_refl, hb0, lk_old hb0, hul, z0, z1, z2, z3, gx0, gx1, gx2, b4, b5, b8, w1, w2, w3, hge, b6, b7, hgx, strB_tl, hpv, hNi, hNw, v1, v2, v3, hn4, x1, x2]
          refine Thn_n ?_
          refine hK _ _ ?_
          clear hK K
          refine AW.cond rfl (fun h85 => ?_) (fun h85 => ?_)
          · have hlt : i < N := by have := of_decide_eq_true h85; omega
            obtain ⟨j, hj⟩ : ∃ j, j = 3 * i := ⟨_, rfl⟩
            obtain ⟨j1, hj1⟩ : ∃ j1, j1 = j + 1 := ⟨_, rfl⟩
            obtain ⟨j2, hj2⟩ : ∃ j2, j2 = j + 2 := ⟨_, rfl⟩
            have t1 : IntKind.i64.wrap (3 * (i : Int)) = (j : Int) := by rw [wi (by omega)]; omega
            have t2 : IntKind.i64.wrap ((j : Int) + 1) = (j1 : Int) := by rw [wi (by omega)]; omega
            have t3 : IntKind.i64.wrap ((j : Int) + 2) = (j2 : Int) := by rw [wi (by omega)]; omega
            have p1 : (0 : Int) ≤ (j : Int) := by omega
            have p2 : (0 : Int) ≤ (j1 : Int) := by omega
            have p3 : (0 : Int) ≤ (j2 : Int) := by omega
            have p4 : (j : Int) < (n3 : Nat) := by omega
            have p5 : (j1 : Int) < (n3 : Nat) := by omega
            have p6 : (j2 : Int) < (n3 : Nat) := by omega
            have gget : ∀ k jj, k < 3 → jj = 3 * i + k → (u8c xs)[L + jj]? = some (.int .u8 (G i k)) := fun k jj hk hjj => by
              refine u8c_get ?_
              rw [hG]
              show xs[L + jj]? = some (xs.getD (L + 3 * i + k) 0)
              have e : L + jj = L + 3 * i + k := by omega
              have : L + 3 * i + k < xs.length := by omega
              rw [e, List.getD_eq_getElem?_getD, List.getElem?_eq_getElem this]; rfl
            have g0 := gget 0 j (by omega) (by omega)
            have g1 := gget 1 j1 (by omega) (by omega)
            have g2 := gget 2 j2 (by omega) (by omega)
            have hst : d8 i G ++ [.int .u8 (G i 0), .int .u8 (G i 1), .int .u8 (G i 2)] = d8 (i + 1) G := d8_snoc
            have gi := d8_len i G
            have m1 : i + 1 ≤ 140737488355328 := by omega
            have m2 : (i + 1) * 3 ≤ 140737488355328 := by omega
            refine AW.skip ?_
            refine Thn_n ?_
            refine hK _ _ ?_
            clear hK K
            refine AW.seq_k fun K hK => ?_
            refine AW.block ?_
            refine AW.draw [.val, .rd 0, .val, .val, .val, .val, .rd 0, .val, .val, .val, .val, .val, .rd 0, .val, .val, .val, .val, .val, .rd 0, .val, .ext, .wr, .val, .wr] fol (by decide) (by kernel_rfl) ?_
            simp only [push_cast, simprocAttr, Nat.sub_zero, Int.le_refl, hb0, lk_old hb0, hul, z0, z1, z2, z3, gx0, gx1, gx2, b4, b5, b8, w1, w2, w3, hge, b6, b7, hgx, strB_tl, hpv, hNi, hNw, v1, v2, v3, hn4, x1, x2, t1, t2, t3, p1, p2, p3, p4, p5, p6, g0, g1, g2, gi, m1, m2]
            refine DExt.by (by first | rfl | exact (List.append_nil _).symm | (simp only [List.append_assoc, List.cons_append, List.nil_append]; rfl)) ?_
            simp only [push_cast, simprocAttr, Nat.sub_zero, Int.le_refl, hb0, lk_old hb0, hul, z0, z1, z2, z3, gx0, gx1, gx2, b4, b5, b8, w1, w2, w3, hge, b6, b7, hgx, strB_tl, hpv, hNi, hNw, v1, v2, v3, hn4, x1, x2, t1, t2, t3, p1, p2, p3, p4, p5, p6, g0, g1, g2, gi, m1, m2]
            refine InB_n ?_
            refine Thn_n ?_
            refine hK _ _ ?_
            clear hK K
            refine AW.region (by decide) ?_
            simp only [push_cast, simprocAttr, Nat.sub_zero, Int.le_refl, hb0, lk_old hb0, hul, z0, z1, z2, z3, gx0, gx1, gx2, b4, b5, b8, w1, w2, w3, hge, b6, b7, hgx, strB_tl, hpv, hNi, hNw, v1, v2, v3, hn4, x1, x2, t1, t2, t3, p1, p2, p3, p4, p5, p6, g0, g1, g2, gi, m1, m2]
            refine Thn_n ?_
            have hwi : IntKind.i64.wrap ((i : Int) + 1) = (i : Int) + 1 := wi (by omega)
            refine ⟨i + 1, by omega, by omega, ?_⟩
            try simp only [keepL, setAll, push_cast, simprocAttr, Nat.sub_zero, Int.le_refl, hb0, lk_old hb0, hul, z0, z1, z2, z3, gx0, gx1, gx2, b4, b5, b8, w1, w2, w3, hge, b6, b7, hgx, strB_tl, hpv, hNi, hNw, v1, v2, v3, hn4, x1, x2, t1, t2, t3, p1, p2, p3, p4, p5, p6, g0, g1, g2, gi, m1, m2, hwi, hst]
            exact Weak.to (extra := [_]) (by simp only [Keeps, Tm.get_cons, Nat.reduceEqDiff, ↓reduceIte, if_true, if_false, ite_true, ite_false, true_and, and_true, and_self, reduceCtorEq, hwi, hst]) (by first | rfl | (simp only [List.append_assoc, List.cons_append, List.nil_append]; rfl)) (by first | rfl | (simp [AV.below, CV.below, d8_below, u8c_below]; done) | (simp [AV.below, CV.below, d8_below, u8c_below]; omega)) (by
              first | exact hwf | refine MWf.app (hwf.grow (by simp)) ?_
              repeat (first | exact MWf_nil | (refine MWf_cons ?_ ?_; · first | rfl | (simp [CV.below, d8_below, u8c_below]; done) | (simp [CV.below, d8_below, u8c_below]; omega))))
          · have hin : i = N := by have := of_decide_eq_false h85; omega
            have hin2 := hin.symm
            subst hin2
            refine AW.exit ?_
            refine Thn_e ?_
            clear hK K
            refine Thn_e ?_
            refine InB_here ?_
            refine Thn_n ?_
            refine hK _ _ ?_
            clear hK K
            refine AW.seq_k fun K hK => ?_
            refine AW.region (by decide) ?_
            simp only [push_cast, simprocAttr, Nat.sub_zero, Int.le_refl, hb0, lk_old hb0, hul, z0, z1, z2, z3, gx0, gx1, gx2, b4, b5, b8, w1, w2, w3, hge, b6, b7, hgx, strB_tl, hpv, hNi, hNw, v1, v2, v3, hn4, x1, x2]
            refine Thn_n ?_
            refine hK _ _ ?_
            clear hK K
            refine AW.ret ?_
            refine InB_r ?_
            refine Thn_r ?_
            refine Thn_r ?_
            refine InB_r ?_
            refine InB_r ?_
            refine Thn_r ?_
            refine Thn_r ?_
            refine InB_r ?_
            refine Thn_r ?_
            refine hQ _ _ _ ?_
            refine RetP.pick [(m.length + 3, N)] (Or.inr rfl) ?_ ?_ ?_ hwf ?_
            · simp only [resA, resOne, resTv, AV.tv, push_cast, simprocAttr]
              simp [renV, renT, renL, renC, renIdx, hlt0]
            · simp only [picks, push_cast, simprocAttr]
            · simp [distinctFrom]
            · exact MWf_one (d8_below _ _ _)
        · refine DX.run [0, 1, 2, 3, 4, 5, 6, 7, 8, 9, 11, 12, 10, 13, 14] [.val, .val, .val, .val, .val, .val, .val, .val, .val, .val, .val, .ext, .ext, .val, .val] (by simp only [permL, reOp, List.idxOf_cons, push_cast, simprocAttr, Nat.sub_zero, Int.le_refl, hb0, lk_old hb0, hul, z0, z1, z2, z3, gx0, gx1, gx2, b4, b5, b8, w1, w2, w3, hge, b6, b7, hgx, strB_tl, hpv, hNi, hNw, v1, v2, v3, hn4, x1, x2]; first | done | rfl) (by kernel_rfl) ?_
          iterate 2
            simp only [push_cast, simprocAttr, Nat.sub_zero, Int.le_refl, hb0, lk_old hb0, hul, z0, z1, z2, z3, gx0, gx1, gx2, b4, b5, b8, w1, w2, w3, hge, b6, b7, hgx, strB_tl, hpv, hNi, hNw, v1, v2, v3, hn4, x1, x2]
            refine DExt.by (by first | rfl | exact (List.append_nil _).symm | (simp only [List.append_assoc, List.cons_append, List.nil_append]; rfl)) ?_
          simp only [push_cast, simprocAttr, Nat.sub_zero, Int.le_refl, hb0, lk_old hb0, hul, z0, z1, z2, z3, gx0, gx1, gx2, b4, b5, b8, w1, w2, w3, hge, b6, b7, hgx, strB_tl, hpv, hNi, hNw, v1, v2, v3, hn4, x1, x2]
          refine Thn_n ?_
          refine hK _ _ ?_
          clear hK K
          refine AW.cond_f rfl ?_
          refine AW.skip ?_
          refine Thn_n ?_
          refine hK _ _ ?_
          clear hK K
          refine AW.seq_k fun K hK => ?_
          refine AW.region (by decide) ?_
          simp only [push_cast, simprocAttr, Nat.sub_zero, Int.le_refl, hb0, lk_old hb0, hul, z0, z1, z2, z3, gx0, gx1, gx2, b4, b5, b8, w1, w2, w3, hge, b6, b7, hgx, strB_tl, hpv, hNi, hNw, v1, v2, v3, hn4, x1, x2]
          iterate 2
            refine Thn_n ?_
            refine hK _ _ ?_
            clear hK K
            refine AW.seq_k fun K hK => ?_
            refine AW.seq_k fun K hK => ?_
            refine AW.region (by decide) ?_
            simp only [push_cast, simprocAttr, Nat.sub_zero, Int.le_refl, hb0, lk_old hb0, hul, z0, z1, z2, z3, gx0, gx1, gx2, b4, b5, b8, w1, w2, w3, hge, b6, b7, hgx, strB_tl, hpv, hNi, hNw, v1, v2, v3, hn4, x1, x2]
            refine Thn_n ?_
            refine hK _ _ ?_
            clear hK K
            refine AW.cond_f rfl ?_
            refine AW.skip ?_
          refine Thn_n ?_
          refine hK _ _ ?_
          clear hK K
          refine AW.seq_k fun K hK => ?_
          refine AW.region (by decide) ?_
          simp only [push_cast, simprocAttr, Nat.sub_zero, Int.le_refl, hb0, lk_old hb0, hul, z0, z1, z2, z3, gx0, gx1, gx2, b4, b5, b8, w1, w2, w3, hge, b6, b7, hgx, strB_tl, hpv, hNi, hNw, v1, v2, v3, hn4, x1, x2]
          refine Thn_n ?_
          refine hK _ _ ?_
          clear hK K
          refine AW.seq_k fun K hK => ?_
          refine AW.seq_k fun K hK => ?_
          refine AW.region (by decide) ?_
          simp only [push_cast, simprocAttr, Nat.sub_zero, Int.le_refl, hb0, lk_old hb0, hul, z0, z1, z2, z3, gx0, gx1, gx2, b4, b5, b8, w1, w2, w3, hge, b6, b7, hgx, strB_tl, hpv, hNi, hNw, v1, v2, v3, hn4, x1, x2]
          refine Thn_n ?_
          refine hK _ _ ?_
          clear hK K
          refine AW.block ?_
          refine AW.nilCell 69 3 (m.length + 2) 2 (by simp only [push_cast, simprocAttr, Nat.sub_zero, Int.le_refl, hb0, lk_old hb0, hul, z0, z1, z2, z3, gx0, gx1, gx2, b4, b5, b8, w1, w2, w3, hge, b6, b7, hgx, strB_tl, hpv, hNi, hNw, v1, v2, v3, hn4, x1, x2]; first | done | rfl) (by intro e; cases e) rfl ?_
          try simp only [push_cast, simprocAttr, Nat.sub_zero, Int.le_refl, hb0, lk_old hb0, hul, z0, z1, z2, z3, gx0, gx1, gx2, b4, b5, b8, w1, w2, w3, hge, b6, b7, hgx, strB_tl, hpv, hNi, hNw, v1, v2, v3, hn4, x1, x2]
          refine AW.loopK [2, 4, 5, 7, 8] (fun i => i ≤ N) (fun i => [(9, .one (.int .i64 (i : Int)))]) (fun i => [(m.length + 2, ⟨.fix, 52, 0, 0, [.int .i64 (w : Int), .int .i64 (h : Int), .sl (m.length + 3) i 0 i]⟩), (m.length + 3, ⟨.grow, 69, i, 3, d8 i G⟩)]) (fun i => N - i) 0 (by omega) ?_ ?_ fun i hi39 => ?_
          · first | rfl | (simp only [Keeps, Tm.get_cons, Nat.reduceEqDiff, ↓reduceIte, if_true, if_false, ite_true, ite_false, true_and, and_true, and_self, reduceCtorEq, Int.natCast_zero, d0] <;> rfl)
          · first | rfl | (simp only [setAll, push_cast, simprocAttr, Nat.sub_zero, Int.le_refl, hb0, lk_old hb0, hul, z0, z1, z2, z3, gx0, gx1, gx2, b4, b5, b8, w1, w2, w3, hge, b6, b7, hgx, strB_tl, hpv, hNi, hNw, v1, v2, v3, hn4, x1, x2, Int.natCast_zero, d0] <;> rfl)
          try simp only [keepL, setAll, push_cast, simprocAttr, Nat.sub_zero, Int.le_refl, hb0, lk_old hb0, hul, z0, z1, z2, z3, gx0, gx1, gx2, b4, b5, b8, w1, w2, w3, hge, b6, b7, hgx, strB_tl, hpv, hNi, hNw, v1, v2, v3, hn4, x1, x2]
          refine AW.seq_k fun K hK => ?_
          refine AW.seq_k fun K hK => ?_
          refine AW.region (by decide) ?_
          simp only [push_cast, simprocAttr, Nat.sub_zero, Int.le_refl, hb0, lk_old hb0, hul, z0, z1, z2, z3, gx0, gx1, gx2, b4, b5, b8, w1, w2, w3, hge, b6, b7, hgx, strB_tl, hpv, hNi, hNw, v1, v2, v3, hn4, x1, x2]
          refine Thn_n ?_
          refine hK _ _ ?_
          clear hK K
          refine AW.cond rfl (fun h85 => ?_) (fun h85 => ?_)
          · have hlt : i < N := by have := of_decide_eq_true h85; omega
            obtain ⟨j, hj⟩ : ∃ j, j = 3 * i := ⟨_, rfl⟩
            obtain ⟨j1, hj1⟩ : ∃ j1, j1 = j + 1 := ⟨_, rfl⟩
            obtain ⟨j2, hj2⟩ : ∃ j2, j2 = j + 2 := ⟨_, rfl⟩
            have t1 : IntKind.i64.wrap (3 * (i : Int)) = (j : Int) := by rw [wi (by omega)]; omega
            have t2 : IntKind.i64.wrap ((j : Int) + 1) = (j1 : Int) := by rw [wi (by omega)]; omega
            have t3 : IntKind.i64.wrap ((j : Int) + 2) = (j2 : Int) := by rw [wi (by omega)]; omega
            have p1 : (0 : Int) ≤ (j : Int) := by omega
            have p2 : (0 : Int) ≤ (j1 : Int) := by omega
            have p3 : (0 : Int) ≤ (j2 : Int) := by omega
            have p4 : (j : Int) < (n3 : Nat) := by omega
            have p5 : (j1 : Int) < (n3 : Nat) := by omega
            have p6 : (j2 : Int) < (n3 : Nat) := by omega
            have gget : ∀ k jj, k < 3 → jj = 3 * i + k → (u8c xs)[L + jj]? = some (.int .u8 (G i k)) := fun k jj hk hjj => by
              refine u8c_get ?_
              rw [hG]
              show xs[L + jj]? = some (xs.getD (L + 3 * i + k) 0)
              have e : L + jj = L + 3 * i + k := by omega
              have : L + 3 * i + k < xs.length := by omega
              rw [e, List.getD_eq_getElem?_getD, List.getElem?_eq_getElem this]; rfl
            have g0 := gget 0 j (by omega) (by omega)
            have g1 := gget 1 j1 (by omega) (by omega)
            have g2 := gget 2 j2 (by omega) (by omega)
            have hst : d8 i G ++ [.int .u8 (G i 0), .int .u8 (G i 1), .int .u8 (G i 2)] = d8 (i + 1) G := d8_snoc
            have gi := d8_len i G
            have m1 : i + 1 ≤ 140737488355328 := by omega
            have m2 : (i + 1) * 3 ≤ 140737488355328 := by omega
            refine AW.skip ?_
            refine Thn_n ?_
            refine hK _ _ ?_
            clear hK K
            refine AW.seq_k fun K hK => ?_
            refine AW.block ?_
            refine AW.draw [.val, .rd 0, .val, .val, .val, .val, .rd 0, .val, .val, .val, .val, .val, .rd 0, .val, .val, .val, .val, .val, .rd 0, .val, .ext, .wr, .val, .wr] fol (by decide) (by kernel_rfl) ?_
            simp only [push_cast, simprocAttr, Nat.sub_zero, Int.le_refl, hb0, lk_old hb0, hul, z0, z1, z2, z3, gx0, gx1, gx2, b4, b5, b8, w1, w2, w3, hge, b6, b7, hgx, strB_tl, hpv, hNi, hNw, v1, v2, v3, hn4, x1, x2, t1, t2, t3, p1, p2, p3, p4, p5, p6, g0, g1, g2, gi, m1, m2]
            refine DExt.by (by first | rfl | exact (List.append_nil _).symm | (simp only [List.append_assoc, List.cons_append, List.nil_append]; rfl)) ?_
            simp only [push_cast, simprocAttr, Nat.sub_zero, Int.le_refl, hb0, lk_old hb0, hul, z0, z1, z2, z3, gx0, gx1, gx2, b4, b5, b8, w1, w2, w3, hge, b6, b7, hgx, strB_tl, hpv, hNi, hNw, v1, v2, v3, hn4, x1, x2, t1, t2, t3, p1, p2, p3, p4, p5, p6, g0, g1, g2, gi, m1, m2]
            refine InB_n ?_
            refine Thn_n ?_
            refine hK _ _ ?_
            clear hK K
            refine AW.region (by decide) ?_
            simp only [push_cast, simprocAttr, Nat.sub_zero, Int.le_refl, hb0, lk_old hb0, hul, z0, z1, z2, z3, gx0, gx1, gx2, b4, b5, b8, w1, w2, w3, hge, b6, b7, hgx, strB_tl, hpv, hNi, hNw, v1, v2, v3, hn4, x1, x2, t1, t2, t3, p1, p2, p3, p4, p5, p6, g0, g1, g2, gi, m1, m2]
            refine Thn_n ?_
            have hwi : IntKind.i64.wrap ((i : Int) + 1) = (i : Int) + 1 := wi (by omega)
            refine ⟨i + 1, by omega, by omega, ?_⟩
            try simp only [keepL, setAll, push_cast, simprocAttr, Nat.sub_zero, Int.le_refl, hb0, lk_old hb0, hul, z0, z1, z2, z3, gx0, gx1, gx2, b4, b5, b8, w1, w2, w3, hge, b6, b7, hgx, strB_tl, hpv, hNi, hNw, v1, v2, v3, hn4, x1, x2, t1, t2, t3, p1, p2, p3, p4, p5, p6, g0, g1, g2, gi, m1, m2, hwi, hst]
            exact Weak.to (extra := [_]) (by simp only [Keeps, Tm.get_cons, Nat.reduceEqDiff, ↓reduceIte, if_true, if_false, ite_true, ite_false, true_and, and_true, and_self, reduceCtorEq, hwi, hst]) (by first | rfl | (simp only [List.append_assoc, List.cons_append, List.nil_append]; rfl)) (by first | rfl | (simp [AV.below, CV.below, d8_below, u8c_below]; done) | (simp [AV.below, CV.below, d8_below, u8c_below]; omega)) (by
              first | exact hwf | refine MWf.app (hwf.grow (by simp)) ?_
              repeat (first | exact MWf_nil | (refine MWf_cons ?_ ?_; · first | rfl | (simp [CV.below, d8_below, u8c_below]; done) | (simp [CV.below, d8_below, u8c_below]; omega))))
          · have hin : i = N := by have := of_decide_eq_false h85; omega
            have hin2 := hin.symm
            subst hin2
            refine AW.exit ?_
            refine Thn_e ?_
            clear hK K
            refine Thn_e ?_
            refine InB_here ?_
            refine Thn_n ?_
            refine hK _ _ ?_
            clear hK K
            refine AW.seq_k fun K hK => ?_
            refine AW.region (by decide) ?_
            simp only [push_cast, simprocAttr, Nat.sub_zero, Int.le_refl, hb0, lk_old hb0, hul, z0, z1, z2, z3, gx0, gx1, gx2, b4, b5, b8, w1, w2, w3, hge, b6, b7, hgx, strB_tl, hpv, hNi, hNw, v1, v2, v3, hn4, x1, x2]
            refine Thn_n ?_
            refine hK _ _ ?_
            clear hK K
            refine AW.ret ?_
            refine InB_r ?_
            refine Thn_r ?_
            refine Thn_r ?_
            refine InB_r ?_
            refine InB_r ?_
            refine Thn_r ?_
            refine Thn_r ?_
            refine InB_r ?_
            refine Thn_r ?_
            refine hQ _ _ _ ?_
            refine RetP.pick [(m.length + 3, N)] (Or.inr rfl) ?_ ?_ ?_ hwf ?_
            · simp only [resA, resOne, resTv, AV.tv, push_cast, simprocAttr]
              simp [renV, renT, renL, renC, renIdx, hlt0]
            · simp only [picks, push_cast, simprocAttr]
            · simp [distinctFrom]
            · exact MWf_one (d8_below _ _ _)
      · have w1 : (n : Int) < (L : Nat) := by omega
        refine AW.drawX fol (by kernel_rfl) ?_
        refine DX.split 10 12 (by decide) ?_ ?_
        · refine DX.run [0, 1, 2, 3, 4, 5, 6, 7, 8, 9, 10, 11, 12, 13, 14] [.val, .val, .val, .val, .val, .val, .val, .val, .val, .val, .ext, .val, .ext, .val, .val] (by simp only [permL, reOp, List.idxOf_cons, push_cast, simprocAttr, Nat.sub_zero, Int.le_refl, hb0, lk_old hb0, hul, z0, z1, z2, z3, gx0, gx1, gx2, b4, b5, b8, w1]; first | done | rfl) (by kernel_rfl) ?_
          simp only [push_cast, simprocAttr, Nat.sub_zero, Int.le_refl, hb0, lk_old hb0, hul, z0, z1, z2, z3, gx0, gx1, gx2, b4, b5, b8, w1]
          refine Thn_n ?_
          refine hK _ _ ?_
          clear hK K
          refine AW.cond_t rfl ?_
          refine AW.exit ?_
          refine Thn_e ?_
          clear hK K
          refine InB_here ?_
          refine Thn_n ?_
          refine hK _ _ ?_
          clear hK K
          refine AW.region (by decide) ?_
          simp only [push_cast, simprocAttr, Nat.sub_zero, Int.le_refl, hb0, lk_old hb0, hul, z0, z1, z2, z3, gx0, gx1, gx2, b4, b5, b8, w1]
          refine Thn_n ?_
          have hwh : IntKind.i64.wrap ((h : Int) + 1) = (h : Int) + 1 := wi (by omega)
          refine ⟨h + 1, ⟨⟨by omega, by omega⟩, fun e => by
            have := hhw e
            by_cases e2 : h = h0
            · exact (hne ⟨e, e2⟩).elim
            · omega⟩, by omega, ?_⟩
          try simp only [keepL, setAll, push_cast, simprocAttr, Nat.sub_zero, Int.le_refl, hb0, lk_old hb0, hul, z0, z1, z2, z3, gx0, gx1, gx2, b4, b5, b8, w1, hwh]
          exact Weak.to (extra := [_]) (by simp only [Keeps, Tm.get_cons, Nat.reduceEqDiff, ↓reduceIte, if_true, if_false, ite_true, ite_false, true_and, and_true, and_self, reduceCtorEq, hwh]) (by first | rfl | (simp only [List.append_assoc, List.cons_append, List.nil_append]; rfl)) (by first | rfl | (simp [AV.below, CV.below]; done) | (simp [AV.below, CV.below]; omega)) (by
            first | exact hwf | refine MWf.app (hwf.grow (by simp)) ?_
            repeat (first | exact MWf_nil | (refine MWf_cons ?_ ?_; · first | rfl | (simp [CV.below]; done) | (simp [CV.below]; omega))))
        · refine DX.run [0, 1, 2, 3, 4, 5, 6, 7, 8, 9, 11, 12, 10, 13, 14] [.val, .val, .val, .val, .val, .val, .val, .val, .val, .val, .val, .ext, .ext, .val, .val] (by simp only [permL, reOp, List.idxOf_cons, push_cast, simprocAttr, Nat.sub_zero, Int.le_refl, hb0, lk_old hb0, hul, z0, z1, z2, z3, gx0, gx1, gx2, b4, b5, b8, w1]; first | done | rfl) (by kernel_rfl) ?_
          simp only [push_cast, simprocAttr, Nat.sub_zero, Int.le_refl, hb0, lk_old hb0, hul, z0, z1, z2, z3, gx0, gx1, gx2, b4, b5, b8, w1]
          refine Thn_n ?_
          refine hK _ _ ?_
          clear hK K
          refine AW.cond_t rfl ?_
          refine AW.exit ?_
          refine Thn_e ?_
          clear hK K
          refine InB_here ?_
          refine Thn_n ?_
          refine hK _ _ ?_
          clear hK K
          refine AW.region (by decide) ?_
          simp only [push_cast, simprocAttr, Nat.sub_zero, Int.le_refl, hb0, lk_old hb0, hul, z0, z1, z2, z3, gx0, gx1, gx2, b4, b5, b8, w1]
          refine Thn_n ?_
          have hwh : IntKind.i64.wrap ((h : Int) + 1) = (h : Int) + 1 := wi (by omega)
          refine ⟨h + 1, ⟨⟨by omega, by omega⟩, fun e => by
            have := hhw e
            by_cases e2 : h = h0
            · exact (hne ⟨e, e2⟩).elim
            · omega⟩, by omega, ?_⟩
          try simp only [keepL, setAll, push_cast, simprocAttr, Nat.sub_zero, Int.le_refl, hb0, lk_old hb0, hul, z0, z1, z2, z3, gx0, gx1, gx2, b4, b5, b8, w1, hwh]
          exact Weak.to (extra := [_]) (by simp only [Keeps, Tm.get_cons, Nat.reduceEqDiff, ↓reduceIte, if_true, if_false, ite_true, ite_false, true_and, and_true, and_self, reduceCtorEq, hwh]) (by first | rfl | (simp only [List.append_assoc, List.cons_append, List.nil_append]; rfl)) (by first | rfl | (simp [AV.below, CV.below]; done) | (simp [AV.below, CV.below]; omega)) (by
            first | exact hwf | refine MWf.app (hwf.grow (by simp)) ?_
            repeat (first | exact MWf_nil | (refine MWf_cons ?_ ?_; · first | rfl | (simp [CV.below]; done) | (simp [CV.below]; omega))))
      · have w1 : ¬ (n : Int) < (L : Nat) := by omega
        have b6 : (u8c xs).take L = u8c (xs.take L) := by have := u8c_cut xs 0 L; simpa using this
        have b7 := bytesA_u8c (xs.take L)
        have hgx : L ≤ xs.length := by omega
        have w2 : (0 : Int) ≤ (L : Nat) := by omega
        have w3 : (L : Int) ≤ (n : Nat) := by omega
        
        refine AW.drawX fol (by kernel_rfl) ?_
        refine DX.split 10 12 (by decide) ?_ ?_
        · refine DX.run [0, 1, 2, 3, 4, 5, 6, 7, 8, 9, 10, 11, 12, 13, 14] [.val, .val, .val, .val, .val, .val, .val, .val, .val, .val, .ext, .val, .ext, .val, .val] (by simp only [permL, reOp, List.idxOf_cons, push_cast, simprocAttr, Nat.sub_zero, Int.le_refl, hb0, lk_old hb0, hul, z0, z1, z2, z3, gx0, gx1, gx2, b4, b5, b8, w1, w2, w3, hge, hgx, b6, b7, strB_tl, hpv]; first | done | rfl) (by kernel_rfl) ?_
          iterate 2
            simp only [push_cast, simprocAttr, Nat.sub_zero, Int.le_refl, hb0, lk_old hb0, hul, z0, z1, z2, z3, gx0, gx1, gx2, b4, b5, b8, w1, w2, w3, hge, hgx, b6, b7, strB_tl, hpv]
            refine DExt.by (by first | rfl | exact (List.append_nil _).symm | (simp only [List.append_assoc, List.cons_append, List.nil_append]; rfl)) ?_
          simp only [push_cast, simprocAttr, Nat.sub_zero, Int.le_refl, hb0, lk_old hb0, hul, z0, z1, z2, z3, gx0, gx1, gx2, b4, b5, b8, w1, w2, w3, hge, hgx, b6, b7, strB_tl, hpv]
          refine Thn_n ?_
          refine hK _ _ ?_
          clear hK K
          refine AW.cond_t rfl ?_
          refine AW.exit ?_
          refine Thn_e ?_
          clear hK K
          refine InB_here ?_
          refine Thn_n ?_
          refine hK _ _ ?_
          clear hK K
          refine AW.region (by decide) ?_
          simp only [push_cast, simprocAttr, Nat.sub_zero, Int.le_refl, hb0, lk_old hb0, hul, z0, z1, z2, z3, gx0, gx1, gx2, b4, b5, b8, w1, w2, w3, hge, hgx, b6, b7, strB_tl, hpv]
          refine Thn_n ?_
          have hwh : IntKind.i64.wrap ((h : Int) + 1) = (h : Int) + 1 := wi (by omega)
          refine ⟨h + 1, ⟨⟨by omega, by omega⟩, fun e => by
            have := hhw e
            by_cases e2 : h = h0
            · exact (hne ⟨e, e2⟩).elim
            · omega⟩, by omega, ?_⟩
          try simp only [keepL, setAll, push_cast, simprocAttr, Nat.sub_zero, Int.le_refl, hb0, lk_old hb0, hul, z0, z1, z2, z3, gx0, gx1, gx2, b4, b5, b8, w1, w2, w3, hge, hgx, b6, b7, strB_tl, hpv, hwh]
          exact Weak.to (extra := [_]) (by simp only [Keeps, Tm.get_cons, Nat.reduceEqDiff, ↓reduceIte, if_true, if_false, ite_true, ite_false, true_and, and_true, and_self, reduceCtorEq, hwh]) (by first | rfl | (simp only [List.append_assoc, List.cons_append, List.nil_append]; rfl)) (by first | rfl | (simp [AV.below, CV.below]; done) | (simp [AV.below, CV.below]; omega)) (by
            first | exact hwf | refine MWf.app (hwf.grow (by simp)) ?_
            repeat (first | exact MWf_nil | (refine MWf_cons ?_ ?_; · first | rfl | (simp [CV.below]; done) | (simp [CV.below]; omega))))
        · refine DX.run [0, 1, 2, 3, 4, 5, 6, 7, 8, 9, 11, 12, 10, 13, 14] [.val, .val, .val, .val, .val, .val, .val, .val, .val, .val, .val, .ext, .ext, .val, .val] (by simp only [permL, reOp, List.idxOf_cons, push_cast, simprocAttr, Nat.sub_zero, Int.le_refl, hb0, lk_old hb0, hul, z0, z1, z2, z3, gx0, gx1, gx2, b4, b5, b8, w1, w2, w3, hge, hgx, b6, b7, strB_tl, hpv]; first | done | rfl) (by kernel_rfl) ?_
          iterate 2
            simp only [push_cast, simprocAttr, Nat.sub_zero, Int.le_refl, hb0, lk_old hb0, hul, z0, z1, z2, z3, gx0, gx1, gx2, b4, b5, b8, w1, w2, w3, hge, hgx, b6, b7, strB_tl, hpv]
            refine DExt.by (by first | rfl | exact (List.append_nil _).symm | (simp only [List.append_assoc, List.cons_append, List.nil_append]; rfl)) ?_
          simp only [push_cast, simprocAttr, Nat.sub_zero, Int.le_refl, hb0, lk_old hb0, hul, z0, z1, z2, z3, gx0, gx1, gx2, b4, b5, b8, w1, w2, w3, hge, hgx, b6, b7, strB_tl, hpv]
          refine Thn_n ?_
          refine hK _ _ ?_
          clear hK K
          refine AW.cond_t rfl ?_
          refine AW.exit ?_
          refine Thn_e ?_
          clear hK K
          refine InB_here ?_
          refine Thn_n ?_
          refine hK _ _ ?_
          clear hK K
          refine AW.region (by decide) ?_
          simp only [push_cast, simprocAttr, Nat.sub_zero, Int.le_refl, hb0, lk_old hb0, hul, z0, z1, z2, z3, gx0, gx1, gx2, b4, b5, b8, w1, w2, w3, hge, hgx, b6, b7, strB_tl, hpv]
          refine Thn_n ?_
          have hwh : IntKind.i64.wrap ((h : Int) + 1) = (h : Int) + 1 := wi (by omega)
          refine ⟨h + 1, ⟨⟨by omega, by omega⟩, fun e => by
            have := hhw e
            by_cases e2 : h = h0
            · exact (hne ⟨e, e2⟩).elim
            · omega⟩, by omega, ?_⟩
          try simp only [keepL, setAll, push_cast, simprocAttr, Nat.sub_zero, Int.le_refl, hb0, lk_old hb0, hul, z0, z1, z2, z3, gx0, gx1, gx2, b4, b5, b8, w1, w2, w3, hge, hgx, b6, b7, strB_tl, hpv, hwh]
          exact Weak.to (extra := [_]) (by simp only [Keeps, Tm.get_cons, Nat.reduceEqDiff, ↓reduceIte, if_true, if_false, ite_true, ite_false, true_and, and_true, and_self, reduceCtorEq, hwh]) (by first | rfl | (simp only [List.append_assoc, List.cons_append, List.nil_append]; rfl)) (by first | rfl | (simp [AV.below, CV.below]; done) | (simp [AV.below, CV.below]; omega)) (by
            first | exact hwf | refine MWf.app (hwf.grow (by simp)) ?_
            repeat (first | exact MWf_nil | (refine MWf_cons ?_ ?_; · first | rfl | (simp [CV.below]; done) | (simp [CV.below]; omega))))
    · have hh4 : h = 65 := by have := of_decide_eq_false h37; omega
      have hww0 : w ≠ w0 := fun e => by have := hhw e; omega
      refine AW.exit ?_
      refine Thn_e ?_
      clear hK K
      refine Thn_e ?_
      refine InB_here ?_
      refine InB_n ?_
      refine Thn_n ?_
      refine hK _ _ ?_
      clear hK K
      refine AW.region (by decide) ?_
      simp only [push_cast, simprocAttr, Nat.sub_zero, Int.le_refl, hb0, lk_old hb0, hul, z0, z1, z2, z3, gx0, gx1, gx2]
      refine Thn_n ?_
      have hww : IntKind.i64.wrap ((w : Int) + 1) = (w : Int) + 1 := wi (by omega)
      refine ⟨w + 1, ⟨by omega, by omega⟩, by omega, ?_⟩
      try simp only [keepL, setAll, push_cast, simprocAttr, Nat.sub_zero, Int.le_refl, hb0, lk_old hb0, hul, z0, z1, z2, z3, gx0, gx1, gx2, hww]
      exact Weak.same (by simp only [Keeps, Tm.get_cons, Nat.reduceEqDiff, ↓reduceIte, if_true, if_false, ite_true, ite_false, true_and, and_true, and_self, reduceCtorEq, hww]) (by first | rfl | simp only [Keeps, Tm.get_cons, Nat.reduceEqDiff, ↓reduceIte, if_true, if_false, ite_true, ite_false, true_and, and_true, and_self, reduceCtorEq, hww])
  · exfalso
    have := of_decide_eq_false h33
    omega
end Go.Proofs.YtbigijnadkeecaaDoor

set_option linter.unusedSimpArgs false
set_option linter.unusedVariables false
set_option maxRecDepth 100000
set_option maxHeartbeats 4000000
namespace Go.Proofs.YtbigijnadkeecaaDoor
open Go Go.Eng

theorem hdI_eq (w h : Nat) : hdI w h = [80, 54, 10] ++ (bI (Lib.decDigits w) ++ 32 :: (bI (Lib.decDigits h) ++ 10 :: [50, 53, 53, 10])) := by
  unfold hdI hdB
  rw [bI_app, bI_app, bI_app, bI_app]
  rfl
theorem hdI_byte (w h : Nat) : ByteL (hdI w h) := byteL_bI _
theorem hd_split {xs : List Int} (hxs : ByteL xs) {w h : Nat} (hp : hpV xs (hdI w h) = true) : xs = hdI w h ++ xs.drop (hdI w h).length := by
  have h1 := (hpV_iff hxs (hdI_byte w h)).1 hp
  have h2 := List.take_append_drop (hdI w h).length xs
  rw [h1] at h2
  exact h2.symm
theorem hd_form {xs : List Int} (hxs : ByteL xs) {w h : Nat} (hp : hpV xs (hdI w h) = true) : ∃ tl, xs = [80, 54, 10] ++ (bI (Lib.decDigits w) ++ 32 :: (bI (Lib.decDigits h) ++ 10 :: ([50, 53, 53, 10] ++ tl))) ∧ tl = xs.drop (hdI w h).length := by
  refine ⟨_, ?_, rfl⟩
  have h1 := hd_split hxs hp
  conv => lhs; rw [h1]
  generalize xs.drop (hdI w h).length = tl
  rw [hdI_eq]
  simp
theorem idx_dec {w : Nat} (hw : w < 100) {e : Int} (he : e = 32 ∨ e = 10) (tl : List Int) : idxI (bI (Lib.decDigits w) ++ e :: tl) e = ((Lib.decDigits w).length : Int) := by
  unfold idxI
  rw [bytes_app, bytes_bI]
  refine index_app _ fun b hb => ?_
  have := dec_no hw b hb
  rcases he with rfl | rfl
  · exact this.1
  · exact this.2
theorem dec_split {w w' : Nat} (hw : w < 100) (hw' : w' < 100) {e : Int} (he : e = 32 ∨ e = 10) {a b : List Int} (h : bI (Lib.decDigits w) ++ e :: a = bI (Lib.decDigits w') ++ e :: b) : w = w' ∧ a = b := by
  have h1 := idx_dec hw he a
  have h2 := idx_dec hw' he b
  rw [h] at h1
  have hl : (Lib.decDigits w).length = (Lib.decDigits w').length := by omega
  have h3 := List.append_inj h (by rw [bI_len, bI_len, hl])
  have h4 := congrArg Lib.bytesOf h3.1
  rw [bytes_bI, bytes_bI] at h4
  have h5 := atoi_dec hw
  rw [h4, atoi_dec hw'] at h5
  injection h5 with h5
  have h6 := h3.2
  injection h6 with _ h6
  exact ⟨by omega, h6⟩
theorem hd_uniq {xs : List Int} (hxs : ByteL xs) {w h w' h' : Nat} (hw : 1 ≤ w ∧ w ≤ 64) (hh : 1 ≤ h ∧ h ≤ 64) (hw' : 1 ≤ w' ∧ w' ≤ 64) (hh' : 1 ≤ h' ∧ h' ≤ 64) (hp : hpV xs (hdI w h) = true) (hp' : hpV xs (hdI w' h') = true) : w = w' ∧ h = h' := by
  obtain ⟨t1, e1, _⟩ := hd_form hxs hp
  obtain ⟨t2, e2, _⟩ := hd_form hxs hp'
  have e := e1.symm.trans e2
  have e3 := List.append_cancel_left e
  obtain ⟨a, e4⟩ := dec_split (by omega) (by omega) (.inl rfl) e3
  obtain ⟨b, _⟩ := dec_split (by omega) (by omega) (.inr rfl) e4
  exact ⟨a, b⟩
theorem hd_len (w h : Nat) : (hdI w h).length = 3 + ((Lib.decDigits w).length + 1) + ((Lib.decDigits h).length + 1) + 4 := by
  rw [hdI_eq]
  simp only [List.length_append, List.length_cons, List.length_nil, bI_len]
  omega
theorem p6_byte : ByteL [80, 54, 10] := by intro x hx; simp at hx; omega
theorem p25_byte : ByteL [50, 53, 53, 10] := by intro x hx; simp at hx; omega
theorem hd_p6 {xs : List Int} (hxs : ByteL xs) {w h : Nat} (hp : hpV xs (hdI w h) = true) : hpV xs [80, 54, 10] = true := by
  obtain ⟨t1, e1, _⟩ := hd_form hxs hp
  rw [hpV_iff hxs p6_byte, e1]; rfl
theorem p6_get {xs : List Int} (hxs : ByteL xs) (hp : hpV xs [80, 54, 10] = true) : 3 ≤ xs.length ∧ xs[0]? = some 80 ∧ xs[1]? = some 54 ∧ xs[2]? = some 10 := by
  have h1 := (hpV_iff hxs p6_byte).1 hp
  have h2 := List.take_append_drop 3 xs
  have h3 : xs.take 3 = [80, 54, 10] := h1
  rw [h3] at h2
  rw [← h2]
  refine ⟨by simp, rfl, rfl, rfl⟩
theorem dB_drop (xs : List Int) (L : Nat) : ∀ n, L + 3 * n ≤ xs.length → dB n (fun i k => xs.getD (L + 3 * i + k) 0) = (xs.drop L).take (3 * n)
  | 0, _ => rfl
  | n + 1, h => by
    show dB n _ ++ [_, _, _] = _
    rw [dB_drop xs L n (by omega)]
    have e : 3 * (n + 1) = 3 * n + 3 := by omega
    rw [e, List.take_add, List.drop_drop]
    congr 1
    refine List.ext_getElem? fun j => ?_
    rw [List.getElem?_take]
    split
    · rename_i hj
      rw [List.getElem?_drop]
      have hb : L + 3 * n + j < xs.length := by omega
      match j, hj with
      | 0, _ => rw [List.getElem?_eq_getElem hb]; simp [List.getD_eq_getElem?_getD, List.getElem?_eq_getElem (show L + 3 * n < xs.length by omega)]
      | 1, _ => rw [List.getElem?_eq_getElem hb]; simp [List.getD_eq_getElem?_getD, List.getElem?_eq_getElem hb]
      | 2, _ => rw [List.getElem?_eq_getElem hb]; simp [List.getD_eq_getElem?_getD, List.getElem?_eq_getElem hb]
    · rename_i hj
      rw [List.getElem?_eq_none (by simp; omega)]
theorem nilP (L : Nat) (e : Int) : nilV L (.tup [(true, [.int .i64 0, .int .i64 0, .nils]), (false, [.int .i64 e])]) (.tup [(true, [.int .i64 0, .int .i64 0, .sl L 0 0 0]), (false, [.int .i64 e])]) := by
  simp [nilV, All2, nilC]
theorem sz_of {w h : Nat} (hw : 1 ≤ w ∧ w ≤ 64) (hh : 1 ≤ h ∧ h ≤ 64) : szR (w : Int) (h : Int) = true := by
  unfold szR
  simp only [Bool.and_eq_true, decide_eq_true_eq]
  omega
theorem sh_of {w h : Nat} (hw : 1 ≤ w ∧ w ≤ 64) (hh : 1 ≤ h ∧ h ≤ 64) : shR (w : Int) (h : Int) (w * h) = true := by
  unfold shR
  rw [sz_of hw hh, Bool.true_and, beq_iff_eq]
  have : w * h ≤ 64 * 64 := Nat.mul_le_mul hw.2 hh.2
  rw [← Int.natCast_mul]
  exact (wi (by omega)).symm
/-- A file with a head: what both make of it. -/
theorem dec_hd (r v n : Nat) (xs : List Int) (m : AMem) (hb : ∃ k ez, m[r]? = some ⟨k, 5, v, ez, u8c xs⟩) (h1 : n = xs.length) (hn : n ≤ 1048576) (hxs : ByteL xs) {tp : Nat} (hg1 : gB m 1 = some [.ifj tp]) (hg3 : gB m 3 = some (Lib.pow10Tab.map (CV.int .u64))) (w h : Nat) (hw : 1 ≤ w ∧ w ≤ 64) (hh : 1 ≤ h ∧ h ≤ 64) (hp : hpV xs (hdI w h) = true) :
    (n - (hdI w h).length = 3 * (w * h) → Ctr Tryd.prog 23 [.one (.sl r v 0 n)] m (.tup [(true, [.int .i64 ((w : Nat) : Int), .int .i64 ((h : Nat) : Int), .sl m.length 0 0 (w * h)]), (false, [.int .i64 (0)])]) (m ++ [⟨.grow, 69, 0, 3, d8 (w * h) (fun i k => xs.getD ((hdI w h).length + 3 * i + k) 0)⟩]) ∧ Ctr Tryd.prog 24 [.one (.sl r v 0 n)] m (.tup [(true, [.int .i64 ((w : Nat) : Int), .int .i64 ((h : Nat) : Int), .sl m.length 0 0 (w * h)]), (false, [.int .i64 (0)])]) (m ++ [⟨.grow, 69, 0, 3, d8 (w * h) (fun i k => xs.getD ((hdI w h).length + 3 * i + k) 0)⟩])) ∧
    (n - (hdI w h).length < 3 * (w * h) → Ctr Tryd.prog 23 [.one (.sl r v 0 n)] m (.tup [(true, [.int .i64 0, .int .i64 0, .nils]), (false, [.int .i64 9])]) m ∧ Ctr Tryd.prog 24 [.one (.sl r v 0 n)] m (.tup [(true, [.int .i64 0, .int .i64 0, .nils]), (false, [.int .i64 9])]) m) ∧ (3 * (w * h) < n - (hdI w h).length → Ctr Tryd.prog 23 [.one (.sl r v 0 n)] m (.tup [(true, [.int .i64 0, .int .i64 0, .nils]), (false, [.int .i64 10])]) m ∧ Ctr Tryd.prog 24 [.one (.sl r v 0 n)] m (.tup [(true, [.int .i64 0, .int .i64 0, .nils]), (false, [.int .i64 10])]) m) := by
  obtain ⟨tl, hf, htl⟩ := hd_form hxs hp
  have hlen := hd_len w h
  have hspl := hd_split hxs hp
  have hxl : xs.length = (hdI w h).length + tl.length := by rw [htl]; conv => lhs; rw [hspl, List.length_append]
  obtain ⟨q3, g0, g1, g2⟩ := p6_get hxs (hd_p6 hxs hp)
  have l1 := dec_len (n := w) (by omega)
  have l2 := dec_len (n := h) (by omega)
  have hd3 : xs.drop 3 = bI (Lib.decDigits w) ++ 32 :: (bI (Lib.decDigits h) ++ 10 :: ([50, 53, 53, 10] ++ tl)) := by
    conv => lhs; rw [hf]
    rfl
  have n1 := number_dec r v 3 (n - 3) xs 32 m hb (by omega) hxs (by omega) hg1 hg3 w (by omega) (.inl rfl) _ hd3
  obtain ⟨o1, ho1⟩ : ∃ o1, o1 = 3 + ((Lib.decDigits w).length + 1) := ⟨_, rfl⟩
  obtain ⟨m1, hm1⟩ : ∃ m1, m1 = n - 3 - ((Lib.decDigits w).length + 1) := ⟨_, rfl⟩
  rw [← ho1, ← hm1] at n1
  have hdo : xs.drop o1 = bI (Lib.decDigits h) ++ 10 :: ([50, 53, 53, 10] ++ tl) := by
    rw [ho1, ← List.drop_drop, hd3, List.drop_append, List.drop_of_length_le (by rw [bI_len]; omega), bI_len, List.nil_append, Nat.add_sub_cancel_left]
    rfl
  have n2 := number_dec r v o1 m1 xs 10 m hb (by omega) hxs (by omega) hg1 hg3 h (by omega) (.inr rfl) _ hdo
  obtain ⟨o2, ho2⟩ : ∃ o2, o2 = o1 + ((Lib.decDigits h).length + 1) := ⟨_, rfl⟩
  obtain ⟨m2, hm2⟩ : ∃ m2, m2 = m1 - ((Lib.decDigits h).length + 1) := ⟨_, rfl⟩
  rw [← ho2, ← hm2] at n2
  have hd2 : xs.drop o2 = [50, 53, 53, 10] ++ tl := by
    rw [ho2, ← List.drop_drop, hdo, List.drop_append, List.drop_of_length_le (by rw [bI_len]; omega), bI_len, List.nil_append, Nat.add_sub_cancel_left]
    rfl
  have hq : hpV (xs.drop o2) [50, 53, 53, 10] = true := (hpV_iff (fun x hx => hxs x (List.mem_of_mem_drop hx)) p25_byte).2 (by rw [hd2]; rfl)
  have ho4 : o2 + 4 = (hdI w h).length := by omega
  have hm4 : m2 - 4 = n - (hdI w h).length := by omega
  have huq : ∀ w2 h2 : Nat, (1 ≤ w2 ∧ w2 ≤ 64) → (1 ≤ h2 ∧ h2 ≤ 64) → hpV xs (hdI w2 h2) = true → w2 = w ∧ h2 = h := fun w2 h2 a b c => hd_uniq hxs a b hw hh c hp
  have p3 := hd_p6 hxs hp
  refine ⟨fun he => ⟨?_, ?_⟩, fun hc => ?_, fun hc => ?_⟩
  · have := dec_E r v n xs m hb h1 hn p3 (by omega) w h hw hh o1 m1 n1 o2 m2 n2 (by omega) (by omega) hq (by omega)
    rw [ho4] at this
    exact this
  · exact rdec_E r v n xs m hb h1 hn (by omega) g0 g1 g2 w h hw hh hp huq he
  · exact ⟨dec_C r v n xs m hb h1 hn p3 (by omega) w h hw hh o1 m1 n1 o2 m2 n2 (by omega) (by omega) hq (by omega), rdec_C r v n xs m hb h1 hn (by omega) g0 g1 g2 w h hw hh hp huq hc⟩
  · exact ⟨dec_D r v n xs m hb h1 hn p3 (by omega) w h hw hh o1 m1 n1 o2 m2 n2 (by omega) (by omega) hq (by omega), rdec_D r v n xs m hb h1 hn (by omega) g0 g1 g2 w h hw hh hp huq (by omega)⟩
/-- A file without one. -/
theorem dec_none (r v n : Nat) (xs : List Int) (m : AMem) (hb : ∃ k ez, m[r]? = some ⟨k, 5, v, ez, u8c xs⟩) (h1 : n = xs.length) (hn : n ≤ 1048576) (hxs : ByteL xs) {tp : Nat} (hg1 : gB m 1 = some [.ifj tp]) (hg3 : gB m 3 = some (Lib.pow10Tab.map (CV.int .u64))) (hp : hpV xs [80, 54, 10] = true) (hno : ∀ w h : Nat, (1 ≤ w ∧ w ≤ 64) → (1 ≤ h ∧ h ≤ 64) → hpV xs (hdI w h) = false) : Ctr Tryd.prog 23 [.one (.sl r v 0 n)] m (.tup [(true, [.int .i64 0, .int .i64 0, .nils]), (false, [.int .i64 10])]) m := by
  obtain ⟨q3, _⟩ := p6_get hxs hp
  obtain ⟨z1, c1, k1, n1, f1⟩ := number_any r v 3 (n - 3) xs 32 m hb (by omega) hxs (by omega) hg1 hg3
  cases k1 with
  | false => exact dec_B1 r v n xs m hb h1 hn hp (by omega) z1 c1 n1
  | true =>
    obtain ⟨k, o1, m1, hk, rfl, ho1, hom, hi1, hk1⟩ := f1 rfl
    obtain ⟨z2, c2, k2, n2, f2⟩ := number_any r v o1 m1 xs 10 m hb hom hxs (by omega) hg1 hg3
    cases k2 with
    | false => exact dec_B2 r v n xs m hb h1 hn hp (by omega) z1 o1 m1 n1 z2 c2 n2
    | true =>
      obtain ⟨j, o2, m2, hj, rfl, ho2, hom2, hi2, hk2⟩ := f2 rfl
      cases hs : szR z1 z2 with
      | false => exact dec_B3 r v n xs m hb h1 hn hp (by omega) z1 o1 m1 n1 z2 o2 m2 n2 hs
      | true =>
        cases hq : hpV (xs.drop o2) [50, 53, 53, 10] with
        | false => exact dec_B4 r v n xs m hb h1 hn hp (by omega) z1 o1 m1 n1 z2 o2 m2 n2 hs hom2 hq
        | true =>
          exfalso
          obtain ⟨w, h, rfl, rfl, a, b, c, d⟩ := sz_nat hs
          rw [itoa_dec] at hi1 hi2
          have hbd : ∀ o, ByteL (xs.drop o) := fun o x hx => hxs x (List.mem_of_mem_drop hx)
          have hbt : ∀ o t, ByteL ((xs.drop o).take t) := fun o t x hx => hbd o x (List.mem_of_mem_take hx)
          have e1 : (xs.drop 3).take k = bI (Lib.decDigits w) := by rw [hi1, bI_bytes (hbt 3 k)]
          have e2 : (xs.drop o1).take j = bI (Lib.decDigits h) := by rw [hi2, bI_bytes (hbt o1 j)]
          have d1 := cut_at hk1
          rw [e1, List.drop_drop, ← ho1] at d1
          have d2 := cut_at hk2
          rw [e2, List.drop_drop, ← ho2] at d2
          have e3 : (xs.drop o2).take 4 = [50, 53, 53, 10] := (hpV_iff (hbd o2) p25_byte).1 hq
          have d3 := List.take_append_drop 4 (xs.drop o2)
          rw [e3] at d3
          have d0 := List.take_append_drop 3 xs
          rw [show xs.take 3 = [80, 54, 10] from (hpV_iff hxs p6_byte).1 hp] at d0
          have hh := hno w h ⟨a, b⟩ ⟨c, d⟩
          have : hpV xs (hdI w h) = true := by
            rw [hpV_iff hxs (hdI_byte w h)]
            have hx : xs = hdI w h ++ (xs.drop o2).drop 4 := by
              conv => lhs; rw [← d0, d1, d2, ← d3]
              rw [hdI_eq]
              simp
            conv => lhs; rw [hx]
            rw [List.take_append_of_le_length (Nat.le_refl _), List.take_of_length_le (Nat.le_refl _)]
          rw [this] at hh; cases hh
/-- Decoding, in both. -/
theorem dec_both (r v n : Nat) (xs : List Int) (h1 : n = xs.length) (hn : n ≤ 1048576) (hxs : ByteL xs) (tp : Nat) : ∃ (W H : Int) (N : Nat) (G : Nat → Nat → Int) (e : Int),
    (∀ m : AMem, (∃ k ez, m[r]? = some ⟨k, 5, v, ez, u8c xs⟩) → gB m 1 = some [.ifj tp] → gB m 3 = some (Lib.pow10Tab.map (CV.int .u64)) → Ctr Tryd.prog 23 [.one (.sl r v 0 n)] m (.tup [(true, [.int .i64 (W), .int .i64 (H), .sl m.length 0 0 (N)]), (false, [.int .i64 (e)])]) (m ++ [⟨.grow, 69, 0, 3, d8 (N) G⟩]) ∧ Ctr Tryd.prog 24 [.one (.sl r v 0 n)] m (.tup [(true, [.int .i64 (W), .int .i64 (H), .sl m.length 0 0 (N)]), (false, [.int .i64 (e)])]) (m ++ [⟨.grow, 69, 0, 3, d8 (N) G⟩])) ∧ N ≤ 4096 ∧ (e = 0 → shR W H N = true ∧ (encR W H N G).1 = xs) := by
  cases hp : hpV xs [80, 54, 10] with
  | false =>
    refine ⟨0, 0, 0, fun _ _ => 0, 20, fun m hb hg1 hg3 => ⟨?_, ?_⟩, by omega, fun h => by cases h⟩
    · exact (dec_A r v n xs m hb h1 hn hp).nil 69 3 (nilP _ _)
    · exact (rdec_A r v n xs m hb h1 hn hxs hp).nil 69 3 (nilP _ _)
  | true =>
    by_cases hex : ∃ w h : Nat, (1 ≤ w ∧ w ≤ 64) ∧ (1 ≤ h ∧ h ≤ 64) ∧ hpV xs (hdI w h) = true
    · obtain ⟨w, h, hw, hh, hwh⟩ := hex
      have hwh2 : w * h ≤ 64 * 64 := Nat.mul_le_mul hw.2 hh.2
      by_cases he : n - (hdI w h).length = 3 * (w * h)
      · refine ⟨w, h, w * h, _, 0, fun m hb hg1 hg3 => (dec_hd r v n xs m hb h1 hn hxs hg1 hg3 w h hw hh hwh).1 he, by omega, fun _ => ⟨sh_of hw hh, ?_⟩⟩
        unfold encR
        rw [if_pos (sh_of hw hh)]
        show hdI (w : Int).toNat (h : Int).toNat ++ dB (w * h) _ = xs
        have hl := hd_len w h
        have hs := hd_split hxs hwh
        have hxl := congrArg List.length hs
        rw [List.length_append] at hxl
        have l1 := dec_len (n := w) (by omega)
        rw [Int.toNat_natCast, Int.toNat_natCast, dB_drop xs _ _ (by omega), List.take_of_length_le (by rw [List.length_drop]; omega)]
        exact hs.symm
      · rcases Nat.lt_or_ge (n - (hdI w h).length) (3 * (w * h)) with hc | hc
        · exact ⟨0, 0, 0, fun _ _ => 0, 9, fun m hb hg1 hg3 => ⟨((dec_hd r v n xs m hb h1 hn hxs hg1 hg3 w h hw hh hwh).2.1 hc).1.nil 69 3 (nilP _ _), ((dec_hd r v n xs m hb h1 hn hxs hg1 hg3 w h hw hh hwh).2.1 hc).2.nil 69 3 (nilP _ _)⟩, by omega, fun h => by cases h⟩
        · exact ⟨0, 0, 0, fun _ _ => 0, 10, fun m hb hg1 hg3 => ⟨((dec_hd r v n xs m hb h1 hn hxs hg1 hg3 w h hw hh hwh).2.2 (by omega)).1.nil 69 3 (nilP _ _), ((dec_hd r v n xs m hb h1 hn hxs hg1 hg3 w h hw hh hwh).2.2 (by omega)).2.nil 69 3 (nilP _ _)⟩, by omega, fun h => by cases h⟩
    · have hno : ∀ w h : Nat, (1 ≤ w ∧ w ≤ 64) → (1 ≤ h ∧ h ≤ 64) → hpV xs (hdI w h) = false := fun w h a b => by
        cases hc : hpV xs (hdI w h) with
        | false => rfl
        | true => exact (hex ⟨w, h, a, b, hc⟩).elim
      obtain ⟨q3, g0, g1, g2⟩ := p6_get hxs hp
      exact ⟨0, 0, 0, fun _ _ => 0, 10, fun m hb hg1 hg3 => ⟨(dec_none r v n xs m hb h1 hn hxs hg1 hg3 hp hno).nil 69 3 (nilP _ _), (rdec_B r v n xs m hb h1 hn (by omega) g0 g1 g2 hno).nil 69 3 (nilP _ _)⟩, by omega, fun h => by cases h⟩
end Go.Proofs.YtbigijnadkeecaaDoor

set_option linter.unusedSimpArgs false
set_option linter.unusedVariables false
set_option maxRecDepth 100000
set_option maxHeartbeats 4000000
namespace Go.Proofs.YtbigijnadkeecaaDoor
open Go Go.Eng

def pls_awake_c : Nat → Nat → List Plan := fun f r =>
  match f with
  | 17 => match r with
    | 1 => [.val, .rd 0, .ext, .val, .val, .rd 1, .val, .val, .rd 1, .ext, .val, .val, .val]
    | _ => []
  | 25 => match r with
    | 3 => [.rd 0, .val, .ext, .val, .rd 0, .ext, .val, .val, .val]
    | _ => []
  | 47 => match r with
    | 1 => [.val, .val, .rd 0, .ext, .val, .val, .val, .val, .rd 0, .ext, .val, .val, .ext, .val]
    | _ => []
  | 82 => match r with
    | 7 => [.val, .val, .val, .val, .val, .val, .val, .val, .val, .val, .val, .val, .wr, .val, .wr]
    | 8 => [.val, .val, .val, .val, .val, .val, .val, .val, .val, .val, .val, .val, .wr, .val, .wr]
    | 9 => [.val, .val, .val, .val, .val, .val, .val, .val, .val, .val, .val, .val, .wr, .val, .wr]
    | 10 => [.val, .val, .val, .val, .val, .val, .val, .val, .val, .val, .val, .val, .wr, .val, .wr]
    | 17 => [.val, .val, .val, .val, .val, .val, .val, .val, .val, .val, .val, .val, .wr, .val, .wr]
    | 18 => [.val, .val, .val, .val, .val, .val, .val, .val, .val, .val, .val, .val, .wr, .val, .wr]
    | 23 => [.val, .val, .val, .val, .val, .val, .val, .val, .val, .val, .val, .val, .wr, .val, .wr]
    | _ => []
  | _ => []

theorem awake_c (m : AMem) : Ctr Tryd.prog 7 [] m (.one (.bool true)) m :=
  Ctr.run pls_awake_c 400 60 fol (by kernel_rfl) (by first | (simp; done) | (simp; exact ⟨rfl, rfl⟩)) rfl m
end Go.Proofs.YtbigijnadkeecaaDoor
