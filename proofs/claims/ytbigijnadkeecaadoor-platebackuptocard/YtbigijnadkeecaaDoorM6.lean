/- Walks and facts of this seat's program over abstract states, printed by programs of mine; no conditions but those that each theorem names. -/
import Derived.Test.YtbigijnadkeecaaDoorM5
set_option linter.unusedSimpArgs false
set_option linter.unusedVariables false
set_option maxRecDepth 100000
set_option maxHeartbeats 4000000
namespace Go.Proofs.YtbigijnadkeecaaDoor
open Go Go.Eng

theorem to21_c (W H : Int) (r v n : Nat) (G : Nat → Nat → Int) (m : AMem) (hp : ∃ k ez, m[r]? = some ⟨k, 69, v, ez, d8 n G⟩) (hn : n ≤ 1048576) : Ctr Tryd.prog 21 [.agg [.int .i64 W, .int .i64 H, .sl r v 0 n]] m (.agg [.int .i64 W, .int .i64 H, .sl m.length 0 0 n]) (m ++ [⟨.grow, 69, 0, 3, d8 n G⟩]) := by
  refine Ctr.enter Tryd.func21 rfl (by decide) (rs := [.cell 2 44]) (nt := 13) rfl rfl fun hwf Q hQ => ?_
  obtain ⟨k0, ez, hb⟩ := hp
  have hr0 := get_lt hb
  have hlt0 : ∀ k, ¬ m.length + k < m.length := fun k => by omega
  have tv := d8_vals n G
  have tl := d8_len n G
  have tt : (d8 n G).take (n * 3) = d8 n G := List.take_of_length_le (by rw [tl]; exact Nat.le_refl _)
  have n1 : n ≤ 140737488355328 := by omega
  have n2 : n * 3 ≤ 140737488355328 := by omega
  refine AW.seq_k fun K hK => ?_
  refine AW.region (by decide) ?_
  simp only [push_cast, simprocAttr, hb, lk_old hb, tv, tl, tt, n1, n2, Nat.zero_add, List.nil_append]
  refine Thn_n ?_
  refine hK _ _ ?_
  clear hK K
  refine AW.seq_k fun K hK => ?_
  refine AW.draw [.val, .rd 0, .val, .rd 0, .val, .ext, .val, .rd 0, .up 0, .val, .wr] fol (by decide) (by kernel_rfl) ?_
  simp only [push_cast, simprocAttr, hb, lk_old hb, tv, tl, tt, n1, n2, Nat.zero_add, List.nil_append]
  refine DExt.by (by first | rfl | exact (List.append_nil _).symm | (simp only [List.append_assoc, List.cons_append, List.nil_append]; rfl)) ?_
  simp only [push_cast, simprocAttr, hb, lk_old hb, tv, tl, tt, n1, n2, Nat.zero_add, List.nil_append]
  refine DUp.by (by first | rfl | (simp only [List.append_assoc, List.cons_append, List.nil_append]; rfl)) (by first | rfl | (simp only [List.append_assoc, List.cons_append, List.nil_append]; rfl)) ?_
  simp only [push_cast, simprocAttr, hb, lk_old hb, tv, tl, tt, n1, n2, Nat.zero_add, List.nil_append]
  refine Thn_n ?_
  refine hK _ _ ?_
  clear hK K
  refine AW.ret ?_
  refine hQ _ _ _ ?_
  refine RetP.pick [(m.length + 2, 1)] (Or.inr rfl) ?_ ?_ ?_ hwf ?_
  · simp only [resA, resOne, resTv, AV.tv, push_cast, simprocAttr]
    simp [renV, renT, renL, renC, renIdx, hlt0]
  · simp only [picks, push_cast, simprocAttr]
  · simp [distinctFrom]
  · exact MWf_one (d8_below _ _ _)
theorem bytes_no (W H : Int) (m : AMem) (hs : szR W H = false) : Ctr Tryd.prog 25 [.agg [.int .i64 W, .int .i64 H]] m (.one (.int .i64 0)) m := by
  refine Ctr.enter Tryd.func25 rfl (by decide) (rs := [.tmp 2]) (nt := 14) rfl rfl fun hwf Q hQ => ?_
  refine AW.seq_k fun K hK => ?_
  refine AW.region (by decide) ?_
  simp only [push_cast, simprocAttr, hs]
  refine Thn_n ?_
  refine hK _ _ ?_
  clear hK K
  refine AW.seq_k fun K hK => ?_
  refine AW.seq_k fun K hK => ?_
  refine AW.region (by decide) ?_
  simp only [push_cast, simprocAttr, hs]
  refine CThen.by (sizeRight_c _ _ _) ?_
  simp only [push_cast, simprocAttr, hs]
  refine Thn_n ?_
  refine hK _ _ ?_
  clear hK K
  refine AW.cond_t rfl ?_
  refine AW.seq_k fun K hK => ?_
  refine AW.region (by decide) ?_
  simp only [push_cast, simprocAttr, hs]
  refine Thn_n ?_
  refine hK _ _ ?_
  clear hK K
  refine AW.ret ?_
  refine Thn_r ?_
  refine hQ _ _ _ ?_
  first | refine RetP.drop0 (Or.inr rfl) ?_ ?_ hwf | refine RetP.drop (Or.inr rfl) ?_ ?_ hwf
  · simp only [resA, resOne, resTv, AV.tv, push_cast, simprocAttr, hs]
  · rfl
theorem bytes_ok (w h : Nat) (m : AMem) (hw : 1 ≤ w ∧ w ≤ 64) (hh : 1 ≤ h ∧ h ≤ 64) (K : Nat) (hK : K = (hdI w h).length + 3 * (w * h)) : Ctr Tryd.prog 25 [.agg [.int .i64 (w : Int), .int .i64 (h : Int)]] m (.one (.int .i64 (K : Int))) m := by
  refine Ctr.enter Tryd.func25 rfl (by decide) (rs := [.tmp 2]) (nt := 14) rfl rfl fun hwf Q hQ => ?_
  have hs := sz_of hw hh
  have hl := hdB_len (w := w) (h := h) (by omega) (by omega)
  rw [← hdI_len] at hl
  obtain ⟨L, hL⟩ : ∃ L, L = (hdI w h).length := ⟨_, rfl⟩
  rw [← hL] at hl hK
  have hL2 := hL.symm
  obtain ⟨N, hN⟩ : ∃ N, N = w * h := ⟨_, rfl⟩
  have hN2 : N ≤ 64 * 64 := by rw [hN]; exact Nat.mul_le_mul hw.2 hh.2
  have hNi : (w : Int) * (h : Int) = (N : Int) := by rw [hN]; push_cast; rfl
  rw [← hN] at hK
  have v1 : IntKind.i64.wrap (N : Int) = (N : Int) := wi (by omega)
  have v2 : IntKind.i64.wrap (3 * (N : Int)) = 3 * (N : Int) := wi (by omega)
  have v3 : IntKind.i64.wrap ((L : Int) + 3 * (N : Int)) = (K : Int) := by rw [wi (by omega)]; omega
  refine AW.seq_k fun K hK => ?_
  refine AW.region (by decide) ?_
  simp only [push_cast, simprocAttr, hs, hNi, v1, v2, v3, hL2]
  refine Thn_n ?_
  refine hK _ _ ?_
  clear hK K
  refine AW.seq_k fun K hK => ?_
  refine AW.seq_k fun K hK => ?_
  refine AW.region (by decide) ?_
  simp only [push_cast, simprocAttr, hs, hNi, v1, v2, v3, hL2]
  refine CThen.by (sizeRight_c _ _ _) ?_
  simp only [push_cast, simprocAttr, hs, hNi, v1, v2, v3, hL2]
  refine Thn_n ?_
  refine hK _ _ ?_
  clear hK K
  refine AW.cond_f rfl ?_
  refine AW.skip ?_
  refine Thn_n ?_
  refine hK _ _ ?_
  clear hK K
  refine AW.seq_k fun K hK => ?_
  refine AW.draw [.rd 0, .val, .ext, .val, .rd 0, .ext, .val, .val, .val] fol (by decide) (by kernel_rfl) ?_
  simp only [push_cast, simprocAttr, hs, hNi, v1, v2, v3, hL2]
  refine DCall.by (head_c w h _ (by omega) (by omega) _) ?_
  simp only [push_cast, simprocAttr, hs, hNi, v1, v2, v3, hL2]
  refine DCall.by0 (pixels_c _ _ _) ?_
  simp only [push_cast, simprocAttr, hs, hNi, v1, v2, v3, hL2]
  refine Thn_n ?_
  refine hK _ _ ?_
  clear hK K
  refine AW.ret ?_
  refine hQ _ _ _ ?_
  first | refine RetP.drop0 (Or.inr rfl) ?_ ?_ hwf | refine RetP.drop (Or.inr rfl) ?_ ?_ hwf
  · simp only [resA, resOne, resTv, AV.tv, push_cast, simprocAttr, hs, hNi, v1, v2, v3, hL2]
  · rfl
theorem enc_len {w h n : Nat} {G : Nat → Nat → Int} (hs : shR (w : Int) (h : Int) n = true) : encR w h n G = (hdI w h ++ dB n G, 0) := by
  unfold encR; rw [if_pos hs, Int.toNat_natCast, Int.toNat_natCast]
theorem enc_bad {W H : Int} {n : Nat} {G : Nat → Nat → Int} (hs : shR W H n = false) : encR W H n G = ([], 1) := by
  unfold encR; rw [hs]; rfl
theorem sh_nat {w h n : Nat} (hw : 1 ≤ w ∧ w ≤ 64) (hh : 1 ≤ h ∧ h ≤ 64) (hs : shR (w : Int) (h : Int) n = true) : n = w * h := by
  have h1 := (sh_sz hs).2
  have h2 : w * h ≤ 64 * 64 := Nat.mul_le_mul hw.2 hh.2
  rw [← Int.natCast_mul, wi (by omega)] at h1
  omega
theorem PlateFiles_big (W H : Int) (rp n : Nat) (G : Nat → Nat → Int) (rb nb : Nat) (xs : List Int) (m : AMem) (hp : ∃ k ez, m[rp]? = some ⟨k, 69, 0, ez, d8 n G⟩) (hq : ∃ k ez, m[rb]? = some ⟨k, 5, 0, ez, u8c xs⟩) (h1 : nb = xs.length) (hnb : nb ≤ 1048576) (hxs : ByteL xs) {tp : Nat} (hg1 : gB m 1 = some [.ifj tp]) (hg3 : gB m 3 = some (Lib.pow10Tab.map (CV.int .u64))) (hn : 5000 < n) : Ctr Tryd.prog 4 [.agg [.int .i64 W, .int .i64 H, .sl rp 0 0 n], .one (.sl rb 0 0 nb)] m (.one (.bool true)) m := by
  refine Ctr.enter Tryd.func4 rfl (by decide) (rs := [.tmp 4]) (nt := 96) rfl rfl fun hwf Q hQ => ?_
  have w1 : (5000 : Int) < (n : Int) := by omega
  refine AW.seq_k fun K hK => ?_
  refine AW.region (by decide) ?_
  simp only [push_cast, simprocAttr, w1]
  refine Thn_n ?_
  refine hK _ _ ?_
  clear hK K
  refine AW.seq_k fun K hK => ?_
  refine AW.seq_k fun K hK => ?_
  refine AW.region (by decide) ?_
  simp only [push_cast, simprocAttr, w1]
  refine Thn_n ?_
  refine hK _ _ ?_
  clear hK K
  refine AW.cond_t rfl ?_
  refine AW.seq_k fun K hK => ?_
  refine AW.region (by decide) ?_
  simp only [push_cast, simprocAttr, w1]
  refine CThen.by (awake_c _) ?_
  simp only [push_cast, simprocAttr, w1]
  refine Thn_n ?_
  refine hK _ _ ?_
  clear hK K
  refine AW.ret ?_
  refine Thn_r ?_
  refine hQ _ _ _ ?_
  first | refine RetP.drop0 (Or.inr rfl) ?_ ?_ hwf | refine RetP.drop (Or.inr rfl) ?_ ?_ hwf
  · simp only [resA, resOne, resTv, AV.tv, push_cast, simprocAttr, w1]
  · rfl
theorem PlateBack_big (W H : Int) (rp n : Nat) (G : Nat → Nat → Int) (rb nb : Nat) (xs : List Int) (m : AMem) (hp : ∃ k ez, m[rp]? = some ⟨k, 69, 0, ez, d8 n G⟩) (hq : ∃ k ez, m[rb]? = some ⟨k, 5, 0, ez, u8c xs⟩) (h1 : nb = xs.length) (hnb : nb ≤ 1048576) (hxs : ByteL xs) {tp : Nat} (hg1 : gB m 1 = some [.ifj tp]) (hg3 : gB m 3 = some (Lib.pow10Tab.map (CV.int .u64))) (hn : 5000 < n) : Ctr Tryd.prog 5 [.agg [.int .i64 W, .int .i64 H, .sl rp 0 0 n], .one (.sl rb 0 0 nb)] m (.one (.bool true)) m := by
  refine Ctr.enter Tryd.func5 rfl (by decide) (rs := [.tmp 4]) (nt := 97) rfl rfl fun hwf Q hQ => ?_
  have w1 : (5000 : Int) < (n : Int) := by omega
  refine AW.seq_k fun K hK => ?_
  refine AW.region (by decide) ?_
  simp only [push_cast, simprocAttr, w1]
  refine Thn_n ?_
  refine hK _ _ ?_
  clear hK K
  refine AW.seq_k fun K hK => ?_
  refine AW.seq_k fun K hK => ?_
  refine AW.region (by decide) ?_
  simp only [push_cast, simprocAttr, w1]
  refine Thn_n ?_
  refine hK _ _ ?_
  clear hK K
  refine AW.cond_t rfl ?_
  refine AW.seq_k fun K hK => ?_
  refine AW.region (by decide) ?_
  simp only [push_cast, simprocAttr, w1]
  refine CThen.by (awake_c _) ?_
  simp only [push_cast, simprocAttr, w1]
  refine Thn_n ?_
  refine hK _ _ ?_
  clear hK K
  refine AW.ret ?_
  refine Thn_r ?_
  refine hQ _ _ _ ?_
  first | refine RetP.drop0 (Or.inr rfl) ?_ ?_ hwf | refine RetP.drop (Or.inr rfl) ?_ ?_ hwf
  · simp only [resA, resOne, resTv, AV.tv, push_cast, simprocAttr, w1]
  · rfl
theorem files_a (W H : Int) (rp n : Nat) (G : Nat → Nat → Int) (rb nb : Nat) (xs : List Int) (m : AMem) (hp : ∃ k ez, m[rp]? = some ⟨k, 69, 0, ez, d8 n G⟩) (hq : ∃ k ez, m[rb]? = some ⟨k, 5, 0, ez, u8c xs⟩) (h1 : nb = xs.length) (hnb : nb ≤ 1048576) (hxs : ByteL xs) {tp : Nat} (hg1 : gB m 1 = some [.ifj tp]) (hg3 : gB m 3 = some (Lib.pow10Tab.map (CV.int .u64))) (hn : n ≤ 5000) (hs : szR W H = false) : Ctr Tryd.prog 4 [.agg [.int .i64 W, .int .i64 H, .sl rp 0 0 n], .one (.sl rb 0 0 nb)] m (.one (.bool true)) m := by
  refine Ctr.enter Tryd.func4 rfl (by decide) (rs := [.tmp 4]) (nt := 96) rfl rfl fun hwf Q hQ => ?_
  obtain ⟨k0, ez, hb⟩ := hp
  have hr0 := get_lt hb
  obtain ⟨k1, ez1, hbb⟩ := hq
  have hr1 := get_lt hbb
  have w0 : ¬ (5000 : Int) < (n : Int) := by omega
  obtain ⟨W2, H2, N, G2, e, hdec, hN, hback⟩ := dec_both rb 0 nb xs h1 hnb hxs tp
  have hee := enc_bad (G := G) (sh_no (n := n) hs)
  obtain ⟨E, hE⟩ : ∃ E, E = ([] : List Int) := ⟨_, rfl⟩
  have ce : ∀ M : AMem, (∃ k ez, M[m.length + 1]? = some ⟨k, 69, 0, ez, d8 n G⟩) → Ctr Tryd.prog 20 [.agg [.int .i64 W, .int .i64 H, .sl (m.length + 1) 0 0 n]] M (.tup [(false, [.sl M.length 0 0 E.length]), (false, [.int .i64 1])]) (M ++ [⟨.grow, 5, 0, 0, u8c E⟩]) := fun M hM => by
    have := enc_c W H (m.length + 1) 0 n G M hM (by omega)
    rw [hee, ← hE] at this
    exact this
  have cr : ∀ M : AMem, (∃ k ez, M[rp]? = some ⟨k, 69, 0, ez, d8 n G⟩) → Ctr Tryd.prog 22 [.agg [.int .i64 W, .int .i64 H, .sl rp 0 0 n]] M (.tup [(false, [.sl M.length 0 0 E.length]), (false, [.int .i64 1])]) (M ++ [⟨.grow, 5, 0, 0, u8c E⟩]) := fun M hM => by
    have := renc_c W H rp 0 n G M hM (by omega)
    rw [hee, ← hE] at this
    exact this
  have b1 : (u8c E).take E.length = u8c E := List.take_of_length_le (by rw [u8c_len]; exact Nat.le_refl _)
  have b2 := u8c_len E
  have b3 := bytesA_u8c E
  
  refine AW.seq_k fun K hK => ?_
  refine AW.region (by decide) ?_
  simp only [push_cast, simprocAttr, hb, lk_old hb, hbb, lk_old hbb, w0, b1, b2, b3, strB_tl, beq_self_eq_true, bne_self_eq_false, Nat.sub_zero, Int.le_refl, hs]
  refine Thn_n ?_
  refine hK _ _ ?_
  clear hK K
  refine AW.seq_k fun K hK => ?_
  refine AW.seq_k fun K hK => ?_
  refine AW.region (by decide) ?_
  simp only [push_cast, simprocAttr, hb, lk_old hb, hbb, lk_old hbb, w0, b1, b2, b3, strB_tl, beq_self_eq_true, bne_self_eq_false, Nat.sub_zero, Int.le_refl, hs]
  refine Thn_n ?_
  refine hK _ _ ?_
  clear hK K
  refine AW.cond_f rfl ?_
  refine AW.skip ?_
  refine Thn_n ?_
  refine hK _ _ ?_
  clear hK K
  refine AW.seq_k fun K hK => ?_
  refine AW.region (by decide) ?_
  simp only [push_cast, simprocAttr, hb, lk_old hb, hbb, lk_old hbb, w0, b1, b2, b3, strB_tl, beq_self_eq_true, bne_self_eq_false, Nat.sub_zero, Int.le_refl, hs]
  refine CThen.by (to21_c _ _ rp 0 n G _ ⟨k0, ez, by first | exact hb | exact lk_old hb _⟩ (by omega)) ?_
  simp only [push_cast, simprocAttr, hb, lk_old hb, hbb, lk_old hbb, w0, b1, b2, b3, strB_tl, beq_self_eq_true, bne_self_eq_false, Nat.sub_zero, Int.le_refl, hs]
  refine CThen.by (ce _ ⟨.grow, 3, by simp only [push_cast, simprocAttr]⟩) ?_
  simp only [push_cast, simprocAttr, hb, lk_old hb, hbb, lk_old hbb, w0, b1, b2, b3, strB_tl, beq_self_eq_true, bne_self_eq_false, Nat.sub_zero, Int.le_refl, hs]
  refine Thn_n ?_
  refine hK _ _ ?_
  clear hK K
  refine AW.seq_k fun K hK => ?_
  refine AW.region (by decide) ?_
  simp only [push_cast, simprocAttr, hb, lk_old hb, hbb, lk_old hbb, w0, b1, b2, b3, strB_tl, beq_self_eq_true, bne_self_eq_false, Nat.sub_zero, Int.le_refl, hs]
  refine CThen.by (cr _ ⟨k0, ez, by first | exact hb | exact lk_old hb _⟩) ?_
  simp only [push_cast, simprocAttr, hb, lk_old hb, hbb, lk_old hbb, w0, b1, b2, b3, strB_tl, beq_self_eq_true, bne_self_eq_false, Nat.sub_zero, Int.le_refl, hs]
  refine Thn_n ?_
  refine hK _ _ ?_
  clear hK K
  refine AW.seq_k fun K hK => ?_
  refine AW.region (by decide) ?_
  simp only [push_cast, simprocAttr, hb, lk_old hb, hbb, lk_old hbb, w0, b1, b2, b3, strB_tl, beq_self_eq_true, bne_self_eq_false, Nat.sub_zero, Int.le_refl, hs]
  refine CThen.by ((hdec _ ⟨k1, ez1, by first | exact hbb | exact lk_old hbb _⟩ (by first | exact hg1 | exact gB_app hg1 _) (by first | exact hg3 | exact gB_app hg3 _)).1) ?_
  simp only [push_cast, simprocAttr, hb, lk_old hb, hbb, lk_old hbb, w0, b1, b2, b3, strB_tl, beq_self_eq_true, bne_self_eq_false, Nat.sub_zero, Int.le_refl, hs]
  refine Thn_n ?_
  refine hK _ _ ?_
  clear hK K
  refine AW.seq_k fun K hK => ?_
  refine AW.region (by decide) ?_
  simp only [push_cast, simprocAttr, hb, lk_old hb, hbb, lk_old hbb, w0, b1, b2, b3, strB_tl, beq_self_eq_true, bne_self_eq_false, Nat.sub_zero, Int.le_refl, hs]
  refine CThen.by ((hdec _ ⟨k1, ez1, by first | exact hbb | exact lk_old hbb _⟩ (by first | exact hg1 | exact gB_app hg1 _) (by first | exact hg3 | exact gB_app hg3 _)).2) ?_
  simp only [push_cast, simprocAttr, hb, lk_old hb, hbb, lk_old hbb, w0, b1, b2, b3, strB_tl, beq_self_eq_true, bne_self_eq_false, Nat.sub_zero, Int.le_refl, hs]
  refine Thn_n ?_
  refine hK _ _ ?_
  clear hK K
  refine AW.seq_k fun K hK => ?_
  refine AW.region (by decide) ?_
  simp only [push_cast, simprocAttr, hb, lk_old hb, hbb, lk_old hbb, w0, b1, b2, b3, strB_tl, beq_self_eq_true, bne_self_eq_false, Nat.sub_zero, Int.le_refl, hs]
  refine CThen.by (bytes_no _ _ _ hs) ?_
  simp only [push_cast, simprocAttr, hb, lk_old hb, hbb, lk_old hbb, w0, b1, b2, b3, strB_tl, beq_self_eq_true, bne_self_eq_false, Nat.sub_zero, Int.le_refl, hs]
  refine Thn_n ?_
  refine hK _ _ ?_
  clear hK K
  refine AW.seq_k fun K hK => ?_
  refine AW.seq_k fun K hK => ?_
  refine AW.region (by decide) ?_
  simp only [push_cast, simprocAttr, hb, lk_old hb, hbb, lk_old hbb, w0, b1, b2, b3, strB_tl, beq_self_eq_true, bne_self_eq_false, Nat.sub_zero, Int.le_refl, hs]
  refine CThen.by (rightSize_c _ _ _) ?_
  simp only [push_cast, simprocAttr, hb, lk_old hb, hbb, lk_old hbb, w0, b1, b2, b3, strB_tl, beq_self_eq_true, bne_self_eq_false, Nat.sub_zero, Int.le_refl, hs]
  refine Thn_n ?_
  refine hK _ _ ?_
  clear hK K
  refine AW.cond_f rfl ?_
  refine AW.skip ?_
  refine Thn_n ?_
  refine hK _ _ ?_
  clear hK K
  refine AW.seq_k fun K hK => ?_
  refine AW.drawX fol (by kernel_rfl) ?_
  refine DX.split 8 10 (by decide) ?_ ?_
  · refine DX.run [0, 1, 2, 3, 4, 5, 6, 7, 8, 9, 10, 11, 12, 13, 14, 15, 16, 17, 18, 19, 20, 21, 22, 23, 24, 25, 26, 27, 28, 29, 30, 31, 32] [.ext, .val, .val, .val, .val, .val, .val, .val, .ext, .val, .ext, .val, .val, .val, .val, .val, .val, .val, .val, .rd 3, .ext, .rd 3, .ext, .val, .val, .rd 5, .ext, .ext, .rd 5, .ext, .val, .val, .val] (by simp only [permL, reOp, List.idxOf_cons, push_cast, simprocAttr, hb, lk_old hb, hbb, lk_old hbb, w0, b1, b2, b3, strB_tl, beq_self_eq_true, bne_self_eq_false, Nat.sub_zero, Int.le_refl, hs]; first | done | rfl) (by kernel_rfl) ?_
    simp only [push_cast, simprocAttr, hb, lk_old hb, hbb, lk_old hbb, w0, b1, b2, b3, strB_tl, beq_self_eq_true, bne_self_eq_false, Nat.sub_zero, Int.le_refl, hs]
    refine DCall.by0 (awake_c _) ?_
    iterate 2
      simp only [push_cast, simprocAttr, hb, lk_old hb, hbb, lk_old hbb, w0, b1, b2, b3, strB_tl, beq_self_eq_true, bne_self_eq_false, Nat.sub_zero, Int.le_refl, hs]
      refine DExt.by (by first | rfl | exact (List.append_nil _).symm | (simp only [List.append_assoc, List.cons_append, List.nil_append]; rfl)) ?_
    simp only [push_cast, simprocAttr, hb, lk_old hb, hbb, lk_old hbb, w0, b1, b2, b3, strB_tl, beq_self_eq_true, bne_self_eq_false, Nat.sub_zero, Int.le_refl, hs]
    refine DCall.by0 (from_c _ _ _ _ _ _ (by simp)) ?_
    simp only [push_cast, simprocAttr, hb, lk_old hb, hbb, lk_old hbb, w0, b1, b2, b3, strB_tl, beq_self_eq_true, bne_self_eq_false, Nat.sub_zero, Int.le_refl, hs]
    refine DCall.by0 (same_c _ _ (m.length + 4) 0 (m.length + 6) 0 N G2 _ ⟨.grow, 3, by simp only [push_cast, simprocAttr]⟩ ⟨.grow, 3, by simp only [push_cast, simprocAttr]⟩ (by omega)) ?_
    simp only [push_cast, simprocAttr, hb, lk_old hb, hbb, lk_old hbb, w0, b1, b2, b3, strB_tl, beq_self_eq_true, bne_self_eq_false, Nat.sub_zero, Int.le_refl, hs]
    refine DCall.by (to21_c _ _ rp 0 n G _ ⟨k0, ez, by first | exact hb | exact lk_old hb _⟩ (by omega)) ?_
    simp only [push_cast, simprocAttr, hb, lk_old hb, hbb, lk_old hbb, w0, b1, b2, b3, strB_tl, beq_self_eq_true, bne_self_eq_false, Nat.sub_zero, Int.le_refl, hs]
    refine DCall.by0 (picRight_a _ _ _ _ _ _) ?_
    simp only [push_cast, simprocAttr, hb, lk_old hb, hbb, lk_old hbb, w0, b1, b2, b3, strB_tl, beq_self_eq_true, bne_self_eq_false, Nat.sub_zero, Int.le_refl, hs]
    refine DCall.by0 (rpicRight_a _ _ _ _ _ _) ?_
    simp only [push_cast, simprocAttr, hb, lk_old hb, hbb, lk_old hbb, w0, b1, b2, b3, strB_tl, beq_self_eq_true, bne_self_eq_false, Nat.sub_zero, Int.le_refl, hs]
    refine Thn_n ?_
    refine hK _ _ ?_
    clear hK K
    refine AW.ret ?_
    refine hQ _ _ _ ?_
    first | refine RetP.drop0 (Or.inr rfl) ?_ ?_ hwf | refine RetP.drop (Or.inr rfl) ?_ ?_ hwf
    · simp only [resA, resOne, resTv, AV.tv, push_cast, simprocAttr, hb, lk_old hb, hbb, lk_old hbb, w0, b1, b2, b3, strB_tl, beq_self_eq_true, bne_self_eq_false, Nat.sub_zero, Int.le_refl, hs]
    · rfl
  · refine DX.run [0, 1, 2, 3, 4, 5, 6, 7, 9, 10, 8, 11, 12, 13, 14, 15, 16, 17, 18, 19, 20, 21, 22, 23, 24, 25, 26, 27, 28, 29, 30, 31, 32] [.ext, .val, .val, .val, .val, .val, .val, .val, .val, .ext, .ext, .val, .val, .val, .val, .val, .val, .val, .val, .rd 3, .ext, .rd 3, .ext, .val, .val, .rd 5, .ext, .ext, .rd 5, .ext, .val, .val, .val] (by simp only [permL, reOp, List.idxOf_cons, push_cast, simprocAttr, hb, lk_old hb, hbb, lk_old hbb, w0, b1, b2, b3, strB_tl, beq_self_eq_true, bne_self_eq_false, Nat.sub_zero, Int.le_refl, hs]; first | done | rfl) (by kernel_rfl) ?_
    simp only [push_cast, simprocAttr, hb, lk_old hb, hbb, lk_old hbb, w0, b1, b2, b3, strB_tl, beq_self_eq_true, bne_self_eq_false, Nat.sub_zero, Int.le_refl, hs]
    refine DCall.by0 (awake_c _) ?_
    iterate 2
      simp only [push_cast, simprocAttr, hb, lk_old hb, hbb, lk_old hbb, w0, b1, b2, b3, strB_tl, beq_self_eq_true, bne_self_eq_false, Nat.sub_zero, Int.le_refl, hs]
      refine DExt.by (by first | rfl | exact (List.append_nil _).symm | (simp only [List.append_assoc, List.cons_append, List.nil_append]; rfl)) ?_
    simp only [push_cast, simprocAttr, hb, lk_old hb, hbb, lk_old hbb, w0, b1, b2, b3, strB_tl, beq_self_eq_true, bne_self_eq_false, Nat.sub_zero, Int.le_refl, hs]
    refine DCall.by0 (from_c _ _ _ _ _ _ (by simp)) ?_
    simp only [push_cast, simprocAttr, hb, lk_old hb, hbb, lk_old hbb, w0, b1, b2, b3, strB_tl, beq_self_eq_true, bne_self_eq_false, Nat.sub_zero, Int.le_refl, hs]
    refine DCall.by0 (same_c _ _ (m.length + 4) 0 (m.length + 6) 0 N G2 _ ⟨.grow, 3, by simp only [push_cast, simprocAttr]⟩ ⟨.grow, 3, by simp only [push_cast, simprocAttr]⟩ (by omega)) ?_
    simp only [push_cast, simprocAttr, hb, lk_old hb, hbb, lk_old hbb, w0, b1, b2, b3, strB_tl, beq_self_eq_true, bne_self_eq_false, Nat.sub_zero, Int.le_refl, hs]
    refine DCall.by (to21_c _ _ rp 0 n G _ ⟨k0, ez, by first | exact hb | exact lk_old hb _⟩ (by omega)) ?_
    simp only [push_cast, simprocAttr, hb, lk_old hb, hbb, lk_old hbb, w0, b1, b2, b3, strB_tl, beq_self_eq_true, bne_self_eq_false, Nat.sub_zero, Int.le_refl, hs]
    refine DCall.by0 (picRight_a _ _ _ _ _ _) ?_
    simp only [push_cast, simprocAttr, hb, lk_old hb, hbb, lk_old hbb, w0, b1, b2, b3, strB_tl, beq_self_eq_true, bne_self_eq_false, Nat.sub_zero, Int.le_refl, hs]
    refine DCall.by0 (rpicRight_a _ _ _ _ _ _) ?_
    simp only [push_cast, simprocAttr, hb, lk_old hb, hbb, lk_old hbb, w0, b1, b2, b3, strB_tl, beq_self_eq_true, bne_self_eq_false, Nat.sub_zero, Int.le_refl, hs]
    refine Thn_n ?_
    refine hK _ _ ?_
    clear hK K
    refine AW.ret ?_
    refine hQ _ _ _ ?_
    first | refine RetP.drop0 (Or.inr rfl) ?_ ?_ hwf | refine RetP.drop (Or.inr rfl) ?_ ?_ hwf
    · simp only [resA, resOne, resTv, AV.tv, push_cast, simprocAttr, hb, lk_old hb, hbb, lk_old hbb, w0, b1, b2, b3, strB_tl, beq_self_eq_true, bne_self_eq_false, Nat.sub_zero, Int.le_refl, hs]
    · rfl
theorem files_b (w h : Nat) (hw : 1 ≤ w ∧ w ≤ 64) (hh : 1 ≤ h ∧ h ≤ 64) (rp n : Nat) (G : Nat → Nat → Int) (rb nb : Nat) (xs : List Int) (m : AMem) (hp : ∃ k ez, m[rp]? = some ⟨k, 69, 0, ez, d8 n G⟩) (hq : ∃ k ez, m[rb]? = some ⟨k, 5, 0, ez, u8c xs⟩) (h1 : nb = xs.length) (hnb : nb ≤ 1048576) (hxs : ByteL xs) {tp : Nat} (hg1 : gB m 1 = some [.ifj tp]) (hg3 : gB m 3 = some (Lib.pow10Tab.map (CV.int .u64))) (hn : n ≤ 5000) (hsh : shR (w : Int) (h : Int) n = false) : Ctr Tryd.prog 4 [.agg [.int .i64 (w : Int), .int .i64 (h : Int), .sl rp 0 0 n], .one (.sl rb 0 0 nb)] m (.one (.bool true)) m := by
  refine Ctr.enter Tryd.func4 rfl (by decide) (rs := [.tmp 4]) (nt := 96) rfl rfl fun hwf Q hQ => ?_
  obtain ⟨k0, ez, hb⟩ := hp
  have hr0 := get_lt hb
  obtain ⟨k1, ez1, hbb⟩ := hq
  have hr1 := get_lt hbb
  have w0 : ¬ (5000 : Int) < (n : Int) := by omega
  obtain ⟨W2, H2, N, G2, e, hdec, hN, hback⟩ := dec_both rb 0 nb xs h1 hnb hxs tp
  have hs := sz_of hw hh
  obtain ⟨KB, hKB⟩ : ∃ KB, KB = (hdI w h).length + 3 * (w * h) := ⟨_, rfl⟩
  have hKl := hdB_len (w := w) (h := h) (by omega) (by omega)
  rw [← hdI_len] at hKl
  have hK0 : (0 : Int) < (KB : Int) := by omega
  have hee := enc_bad (G := G) hsh
  obtain ⟨E, hE⟩ : ∃ E, E = ([] : List Int) := ⟨_, rfl⟩
  have ce : ∀ M : AMem, (∃ k ez, M[m.length + 1]? = some ⟨k, 69, 0, ez, d8 n G⟩) → Ctr Tryd.prog 20 [.agg [.int .i64 (w : Int), .int .i64 (h : Int), .sl (m.length + 1) 0 0 n]] M (.tup [(false, [.sl M.length 0 0 E.length]), (false, [.int .i64 1])]) (M ++ [⟨.grow, 5, 0, 0, u8c E⟩]) := fun M hM => by
    have := enc_c (w : Int) (h : Int) (m.length + 1) 0 n G M hM (by omega)
    rw [hee, ← hE] at this
    exact this
  have cr : ∀ M : AMem, (∃ k ez, M[rp]? = some ⟨k, 69, 0, ez, d8 n G⟩) → Ctr Tryd.prog 22 [.agg [.int .i64 (w : Int), .int .i64 (h : Int), .sl rp 0 0 n]] M (.tup [(false, [.sl M.length 0 0 E.length]), (false, [.int .i64 1])]) (M ++ [⟨.grow, 5, 0, 0, u8c E⟩]) := fun M hM => by
    have := renc_c (w : Int) (h : Int) rp 0 n G M hM (by omega)
    rw [hee, ← hE] at this
    exact this
  have b1 : (u8c E).take E.length = u8c E := List.take_of_length_le (by rw [u8c_len]; exact Nat.le_refl _)
  have b2 := u8c_len E
  have b3 := bytesA_u8c E
  
  refine AW.seq_k fun K hK => ?_
  refine AW.region (by decide) ?_
  simp only [push_cast, simprocAttr, hb, lk_old hb, hbb, lk_old hbb, w0, b1, b2, b3, strB_tl, beq_self_eq_true, bne_self_eq_false, Nat.sub_zero, Int.le_refl, hs, hK0]
  refine Thn_n ?_
  refine hK _ _ ?_
  clear hK K
  refine AW.seq_k fun K hK => ?_
  refine AW.seq_k fun K hK => ?_
  refine AW.region (by decide) ?_
  simp only [push_cast, simprocAttr, hb, lk_old hb, hbb, lk_old hbb, w0, b1, b2, b3, strB_tl, beq_self_eq_true, bne_self_eq_false, Nat.sub_zero, Int.le_refl, hs, hK0]
  refine Thn_n ?_
  refine hK _ _ ?_
  clear hK K
  refine AW.cond_f rfl ?_
  refine AW.skip ?_
  refine Thn_n ?_
  refine hK _ _ ?_
  clear hK K
  refine AW.seq_k fun K hK => ?_
  refine AW.region (by decide) ?_
  simp only [push_cast, simprocAttr, hb, lk_old hb, hbb, lk_old hbb, w0, b1, b2, b3, strB_tl, beq_self_eq_true, bne_self_eq_false, Nat.sub_zero, Int.le_refl, hs, hK0]
  refine CThen.by (to21_c _ _ rp 0 n G _ ⟨k0, ez, by first | exact hb | exact lk_old hb _⟩ (by omega)) ?_
  simp only [push_cast, simprocAttr, hb, lk_old hb, hbb, lk_old hbb, w0, b1, b2, b3, strB_tl, beq_self_eq_true, bne_self_eq_false, Nat.sub_zero, Int.le_refl, hs, hK0]
  refine CThen.by (ce _ ⟨.grow, 3, by simp only [push_cast, simprocAttr]⟩) ?_
  simp only [push_cast, simprocAttr, hb, lk_old hb, hbb, lk_old hbb, w0, b1, b2, b3, strB_tl, beq_self_eq_true, bne_self_eq_false, Nat.sub_zero, Int.le_refl, hs, hK0]
  refine Thn_n ?_
  refine hK _ _ ?_
  clear hK K
  refine AW.seq_k fun K hK => ?_
  refine AW.region (by decide) ?_
  simp only [push_cast, simprocAttr, hb, lk_old hb, hbb, lk_old hbb, w0, b1, b2, b3, strB_tl, beq_self_eq_true, bne_self_eq_false, Nat.sub_zero, Int.le_refl, hs, hK0]
  refine CThen.by (cr _ ⟨k0, ez, by first | exact hb | exact lk_old hb _⟩) ?_
  simp only [push_cast, simprocAttr, hb, lk_old hb, hbb, lk_old hbb, w0, b1, b2, b3, strB_tl, beq_self_eq_true, bne_self_eq_false, Nat.sub_zero, Int.le_refl, hs, hK0]
  refine Thn_n ?_
  refine hK _ _ ?_
  clear hK K
  refine AW.seq_k fun K hK => ?_
  refine AW.region (by decide) ?_
  simp only [push_cast, simprocAttr, hb, lk_old hb, hbb, lk_old hbb, w0, b1, b2, b3, strB_tl, beq_self_eq_true, bne_self_eq_false, Nat.sub_zero, Int.le_refl, hs, hK0]
  refine CThen.by ((hdec _ ⟨k1, ez1, by first | exact hbb | exact lk_old hbb _⟩ (by first | exact hg1 | exact gB_app hg1 _) (by first | exact hg3 | exact gB_app hg3 _)).1) ?_
  simp only [push_cast, simprocAttr, hb, lk_old hb, hbb, lk_old hbb, w0, b1, b2, b3, strB_tl, beq_self_eq_true, bne_self_eq_false, Nat.sub_zero, Int.le_refl, hs, hK0]
  refine Thn_n ?_
  refine hK _ _ ?_
  clear hK K
  refine AW.seq_k fun K hK => ?_
  refine AW.region (by decide) ?_
  simp only [push_cast, simprocAttr, hb, lk_old hb, hbb, lk_old hbb, w0, b1, b2, b3, strB_tl, beq_self_eq_true, bne_self_eq_false, Nat.sub_zero, Int.le_refl, hs, hK0]
  refine CThen.by ((hdec _ ⟨k1, ez1, by first | exact hbb | exact lk_old hbb _⟩ (by first | exact hg1 | exact gB_app hg1 _) (by first | exact hg3 | exact gB_app hg3 _)).2) ?_
  simp only [push_cast, simprocAttr, hb, lk_old hb, hbb, lk_old hbb, w0, b1, b2, b3, strB_tl, beq_self_eq_true, bne_self_eq_false, Nat.sub_zero, Int.le_refl, hs, hK0]
  refine Thn_n ?_
  refine hK _ _ ?_
  clear hK K
  refine AW.seq_k fun K hK => ?_
  refine AW.region (by decide) ?_
  simp only [push_cast, simprocAttr, hb, lk_old hb, hbb, lk_old hbb, w0, b1, b2, b3, strB_tl, beq_self_eq_true, bne_self_eq_false, Nat.sub_zero, Int.le_refl, hs, hK0]
  refine CThen.by (bytes_ok w h _ hw hh KB hKB) ?_
  simp only [push_cast, simprocAttr, hb, lk_old hb, hbb, lk_old hbb, w0, b1, b2, b3, strB_tl, beq_self_eq_true, bne_self_eq_false, Nat.sub_zero, Int.le_refl, hs, hK0]
  refine Thn_n ?_
  refine hK _ _ ?_
  clear hK K
  refine AW.seq_k fun K hK => ?_
  refine AW.seq_k fun K hK => ?_
  refine AW.region (by decide) ?_
  simp only [push_cast, simprocAttr, hb, lk_old hb, hbb, lk_old hbb, w0, b1, b2, b3, strB_tl, beq_self_eq_true, bne_self_eq_false, Nat.sub_zero, Int.le_refl, hs, hK0]
  refine CThen.by (rightSize_c _ _ _) ?_
  simp only [push_cast, simprocAttr, hb, lk_old hb, hbb, lk_old hbb, w0, b1, b2, b3, strB_tl, beq_self_eq_true, bne_self_eq_false, Nat.sub_zero, Int.le_refl, hs, hK0]
  refine Thn_n ?_
  refine hK _ _ ?_
  clear hK K
  refine AW.cond_f rfl ?_
  refine AW.skip ?_
  refine Thn_n ?_
  refine hK _ _ ?_
  clear hK K
  refine AW.seq_k fun K hK => ?_
  refine AW.drawX fol (by kernel_rfl) ?_
  refine DX.split 8 10 (by decide) ?_ ?_
  · refine DX.run [0, 1, 2, 3, 4, 5, 6, 7, 8, 9, 10, 11, 12, 13, 14, 15, 16, 17, 18, 19, 20, 21, 22, 23, 24, 25, 26, 27, 28, 29, 30, 31, 32] [.ext, .val, .val, .val, .val, .val, .val, .val, .ext, .val, .ext, .val, .val, .val, .val, .val, .val, .val, .val, .rd 3, .ext, .rd 3, .ext, .val, .val, .rd 5, .ext, .ext, .rd 5, .ext, .val, .val, .val] (by simp only [permL, reOp, List.idxOf_cons, push_cast, simprocAttr, hb, lk_old hb, hbb, lk_old hbb, w0, b1, b2, b3, strB_tl, beq_self_eq_true, bne_self_eq_false, Nat.sub_zero, Int.le_refl, hs, hK0]; first | done | rfl) (by kernel_rfl) ?_
    simp only [push_cast, simprocAttr, hb, lk_old hb, hbb, lk_old hbb, w0, b1, b2, b3, strB_tl, beq_self_eq_true, bne_self_eq_false, Nat.sub_zero, Int.le_refl, hs, hK0]
    refine DCall.by0 (awake_c _) ?_
    iterate 2
      simp only [push_cast, simprocAttr, hb, lk_old hb, hbb, lk_old hbb, w0, b1, b2, b3, strB_tl, beq_self_eq_true, bne_self_eq_false, Nat.sub_zero, Int.le_refl, hs, hK0]
      refine DExt.by (by first | rfl | exact (List.append_nil _).symm | (simp only [List.append_assoc, List.cons_append, List.nil_append]; rfl)) ?_
    simp only [push_cast, simprocAttr, hb, lk_old hb, hbb, lk_old hbb, w0, b1, b2, b3, strB_tl, beq_self_eq_true, bne_self_eq_false, Nat.sub_zero, Int.le_refl, hs, hK0]
    refine DCall.by0 (from_c _ _ _ _ _ _ (by simp)) ?_
    simp only [push_cast, simprocAttr, hb, lk_old hb, hbb, lk_old hbb, w0, b1, b2, b3, strB_tl, beq_self_eq_true, bne_self_eq_false, Nat.sub_zero, Int.le_refl, hs, hK0]
    refine DCall.by0 (same_c _ _ (m.length + 4) 0 (m.length + 6) 0 N G2 _ ⟨.grow, 3, by simp only [push_cast, simprocAttr]⟩ ⟨.grow, 3, by simp only [push_cast, simprocAttr]⟩ (by omega)) ?_
    simp only [push_cast, simprocAttr, hb, lk_old hb, hbb, lk_old hbb, w0, b1, b2, b3, strB_tl, beq_self_eq_true, bne_self_eq_false, Nat.sub_zero, Int.le_refl, hs, hK0]
    refine DCall.by (to21_c _ _ rp 0 n G _ ⟨k0, ez, by first | exact hb | exact lk_old hb _⟩ (by omega)) ?_
    simp only [push_cast, simprocAttr, hb, lk_old hb, hbb, lk_old hbb, w0, b1, b2, b3, strB_tl, beq_self_eq_true, bne_self_eq_false, Nat.sub_zero, Int.le_refl, hs, hK0]
    refine DCall.by0 (picRight_a _ _ _ _ _ _) ?_
    simp only [push_cast, simprocAttr, hb, lk_old hb, hbb, lk_old hbb, w0, b1, b2, b3, strB_tl, beq_self_eq_true, bne_self_eq_false, Nat.sub_zero, Int.le_refl, hs, hK0]
    refine DCall.by0 (rpicRight_a _ _ _ _ _ _) ?_
    simp only [push_cast, simprocAttr, hb, lk_old hb, hbb, lk_old hbb, w0, b1, b2, b3, strB_tl, beq_self_eq_true, bne_self_eq_false, Nat.sub_zero, Int.le_refl, hs, hK0]
    refine Thn_n ?_
    refine hK _ _ ?_
    clear hK K
    refine AW.ret ?_
    refine hQ _ _ _ ?_
    first | refine RetP.drop0 (Or.inr rfl) ?_ ?_ hwf | refine RetP.drop (Or.inr rfl) ?_ ?_ hwf
    · simp only [resA, resOne, resTv, AV.tv, push_cast, simprocAttr, hb, lk_old hb, hbb, lk_old hbb, w0, b1, b2, b3, strB_tl, beq_self_eq_true, bne_self_eq_false, Nat.sub_zero, Int.le_refl, hs, hK0]
    · rfl
  · refine DX.run [0, 1, 2, 3, 4, 5, 6, 7, 9, 10, 8, 11, 12, 13, 14, 15, 16, 17, 18, 19, 20, 21, 22, 23, 24, 25, 26, 27, 28, 29, 30, 31, 32] [.ext, .val, .val, .val, .val, .val, .val, .val, .val, .ext, .ext, .val, .val, .val, .val, .val, .val, .val, .val, .rd 3, .ext, .rd 3, .ext, .val, .val, .rd 5, .ext, .ext, .rd 5, .ext, .val, .val, .val] (by simp only [permL, reOp, List.idxOf_cons, push_cast, simprocAttr, hb, lk_old hb, hbb, lk_old hbb, w0, b1, b2, b3, strB_tl, beq_self_eq_true, bne_self_eq_false, Nat.sub_zero, Int.le_refl, hs, hK0]; first | done | rfl) (by kernel_rfl) ?_
    simp only [push_cast, simprocAttr, hb, lk_old hb, hbb, lk_old hbb, w0, b1, b2, b3, strB_tl, beq_self_eq_true, bne_self_eq_false, Nat.sub_zero, Int.le_refl, hs, hK0]
    refine DCall.by0 (awake_c _) ?_
    iterate 2
      simp only [push_cast, simprocAttr, hb, lk_old hb, hbb, lk_old hbb, w0, b1, b2, b3, strB_tl, beq_self_eq_true, bne_self_eq_false, Nat.sub_zero, Int.le_refl, hs, hK0]
      refine DExt.by (by first | rfl | exact (List.append_nil _).symm | (simp only [List.append_assoc, List.cons_append, List.nil_append]; rfl)) ?_
    simp only [push_cast, simprocAttr, hb, lk_old hb, hbb, lk_old hbb, w0, b1, b2, b3, strB_tl, beq_self_eq_true, bne_self_eq_false, Nat.sub_zero, Int.le_refl, hs, hK0]
    refine DCall.by0 (from_c _ _ _ _ _ _ (by simp)) ?_
    simp only [push_cast, simprocAttr, hb, lk_old hb, hbb, lk_old hbb, w0, b1, b2, b3, strB_tl, beq_self_eq_true, bne_self_eq_false, Nat.sub_zero, Int.le_refl, hs, hK0]
    refine DCall.by0 (same_c _ _ (m.length + 4) 0 (m.length + 6) 0 N G2 _ ⟨.grow, 3, by simp only [push_cast, simprocAttr]⟩ ⟨.grow, 3, by simp only [push_cast, simprocAttr]⟩ (by omega)) ?_
    simp only [push_cast, simprocAttr, hb, lk_old hb, hbb, lk_old hbb, w0, b1, b2, b3, strB_tl, beq_self_eq_true, bne_self_eq_false, Nat.sub_zero, Int.le_refl, hs, hK0]
    refine DCall.by (to21_c _ _ rp 0 n G _ ⟨k0, ez, by first | exact hb | exact lk_old hb _⟩ (by omega)) ?_
    simp only [push_cast, simprocAttr, hb, lk_old hb, hbb, lk_old hbb, w0, b1, b2, b3, strB_tl, beq_self_eq_true, bne_self_eq_false, Nat.sub_zero, Int.le_refl, hs, hK0]
    refine DCall.by0 (picRight_a _ _ _ _ _ _) ?_
    simp only [push_cast, simprocAttr, hb, lk_old hb, hbb, lk_old hbb, w0, b1, b2, b3, strB_tl, beq_self_eq_true, bne_self_eq_false, Nat.sub_zero, Int.le_refl, hs, hK0]
    refine DCall.by0 (rpicRight_a _ _ _ _ _ _) ?_
    simp only [push_cast, simprocAttr, hb, lk_old hb, hbb, lk_old hbb, w0, b1, b2, b3, strB_tl, beq_self_eq_true, bne_self_eq_false, Nat.sub_zero, Int.le_refl, hs, hK0]
    refine Thn_n ?_
    refine hK _ _ ?_
    clear hK K
    refine AW.ret ?_
    refine hQ _ _ _ ?_
    first | refine RetP.drop0 (Or.inr rfl) ?_ ?_ hwf | refine RetP.drop (Or.inr rfl) ?_ ?_ hwf
    · simp only [resA, resOne, resTv, AV.tv, push_cast, simprocAttr, hb, lk_old hb, hbb, lk_old hbb, w0, b1, b2, b3, strB_tl, beq_self_eq_true, bne_self_eq_false, Nat.sub_zero, Int.le_refl, hs, hK0]
    · rfl
theorem files_c (w h : Nat) (hw : 1 ≤ w ∧ w ≤ 64) (hh : 1 ≤ h ∧ h ≤ 64) (rp n : Nat) (G : Nat → Nat → Int) (rb nb : Nat) (xs : List Int) (m : AMem) (hp : ∃ k ez, m[rp]? = some ⟨k, 69, 0, ez, d8 n G⟩) (hq : ∃ k ez, m[rb]? = some ⟨k, 5, 0, ez, u8c xs⟩) (h1 : nb = xs.length) (hnb : nb ≤ 1048576) (hxs : ByteL xs) {tp : Nat} (hg1 : gB m 1 = some [.ifj tp]) (hg3 : gB m 3 = some (Lib.pow10Tab.map (CV.int .u64))) (hn : n ≤ 5000) (hsh : shR (w : Int) (h : Int) n = true) : Ctr Tryd.prog 4 [.agg [.int .i64 (w : Int), .int .i64 (h : Int), .sl rp 0 0 n], .one (.sl rb 0 0 nb)] m (.one (.bool true)) m := by
  refine Ctr.enter Tryd.func4 rfl (by decide) (rs := [.tmp 4]) (nt := 96) rfl rfl fun hwf Q hQ => ?_
  obtain ⟨k0, ez, hb⟩ := hp
  have hr0 := get_lt hb
  obtain ⟨k1, ez1, hbb⟩ := hq
  have hr1 := get_lt hbb
  have w0 : ¬ (5000 : Int) < (n : Int) := by omega
  obtain ⟨W2, H2, N, G2, e, hdec, hN, hback⟩ := dec_both rb 0 nb xs h1 hnb hxs tp
  have hs := sz_of hw hh
  obtain ⟨KB, hKB⟩ : ∃ KB, KB = (hdI w h).length + 3 * (w * h) := ⟨_, rfl⟩
  have hKl := hdB_len (w := w) (h := h) (by omega) (by omega)
  rw [← hdI_len] at hKl
  have hK0 : (0 : Int) < (KB : Int) := by omega
  have hee := enc_len (G := G) hsh
  obtain ⟨E, hE⟩ : ∃ E, E = hdI w h ++ dB n G := ⟨_, rfl⟩
  have ce : ∀ M : AMem, (∃ k ez, M[m.length + 1]? = some ⟨k, 69, 0, ez, d8 n G⟩) → Ctr Tryd.prog 20 [.agg [.int .i64 (w : Int), .int .i64 (h : Int), .sl (m.length + 1) 0 0 n]] M (.tup [(false, [.sl M.length 0 0 E.length]), (false, [.int .i64 0])]) (M ++ [⟨.grow, 5, 0, 0, u8c E⟩]) := fun M hM => by
    have := enc_c (w : Int) (h : Int) (m.length + 1) 0 n G M hM (by omega)
    rw [hee, ← hE] at this
    exact this
  have cr : ∀ M : AMem, (∃ k ez, M[rp]? = some ⟨k, 69, 0, ez, d8 n G⟩) → Ctr Tryd.prog 22 [.agg [.int .i64 (w : Int), .int .i64 (h : Int), .sl rp 0 0 n]] M (.tup [(false, [.sl M.length 0 0 E.length]), (false, [.int .i64 0])]) (M ++ [⟨.grow, 5, 0, 0, u8c E⟩]) := fun M hM => by
    have := renc_c (w : Int) (h : Int) rp 0 n G M hM (by omega)
    rw [hee, ← hE] at this
    exact this
  have b1 : (u8c E).take E.length = u8c E := List.take_of_length_le (by rw [u8c_len]; exact Nat.le_refl _)
  have b2 := u8c_len E
  have b3 := bytesA_u8c E
  have hEK : E.length = KB := by rw [hE, List.length_append, dB_len, hKB, sh_nat hw hh hsh]
  rw [hEK] at b1 b2
  
  refine AW.seq_k fun K hK => ?_
  refine AW.region (by decide) ?_
  simp only [push_cast, simprocAttr, hb, lk_old hb, hbb, lk_old hbb, w0, b1, b2, b3, strB_tl, beq_self_eq_true, bne_self_eq_false, Nat.sub_zero, Int.le_refl, hs, hK0, hEK]
  refine Thn_n ?_
  refine hK _ _ ?_
  clear hK K
  refine AW.seq_k fun K hK => ?_
  refine AW.seq_k fun K hK => ?_
  refine AW.region (by decide) ?_
  simp only [push_cast, simprocAttr, hb, lk_old hb, hbb, lk_old hbb, w0, b1, b2, b3, strB_tl, beq_self_eq_true, bne_self_eq_false, Nat.sub_zero, Int.le_refl, hs, hK0, hEK]
  refine Thn_n ?_
  refine hK _ _ ?_
  clear hK K
  refine AW.cond_f rfl ?_
  refine AW.skip ?_
  refine Thn_n ?_
  refine hK _ _ ?_
  clear hK K
  refine AW.seq_k fun K hK => ?_
  refine AW.region (by decide) ?_
  simp only [push_cast, simprocAttr, hb, lk_old hb, hbb, lk_old hbb, w0, b1, b2, b3, strB_tl, beq_self_eq_true, bne_self_eq_false, Nat.sub_zero, Int.le_refl, hs, hK0, hEK]
  refine CThen.by (to21_c _ _ rp 0 n G _ ⟨k0, ez, by first | exact hb | exact lk_old hb _⟩ (by omega)) ?_
  simp only [push_cast, simprocAttr, hb, lk_old hb, hbb, lk_old hbb, w0, b1, b2, b3, strB_tl, beq_self_eq_true, bne_self_eq_false, Nat.sub_zero, Int.le_refl, hs, hK0, hEK]
  refine CThen.by (ce _ ⟨.grow, 3, by simp only [push_cast, simprocAttr]⟩) ?_
  simp only [push_cast, simprocAttr, hb, lk_old hb, hbb, lk_old hbb, w0, b1, b2, b3, strB_tl, beq_self_eq_true, bne_self_eq_false, Nat.sub_zero, Int.le_refl, hs, hK0, hEK]
  refine Thn_n ?_
  refine hK _ _ ?_
  clear hK K
  refine AW.seq_k fun K hK => ?_
  refine AW.region (by decide) ?_
  simp only [push_cast, simprocAttr, hb, lk_old hb, hbb, lk_old hbb, w0, b1, b2, b3, strB_tl, beq_self_eq_true, bne_self_eq_false, Nat.sub_zero, Int.le_refl, hs, hK0, hEK]
  refine CThen.by (cr _ ⟨k0, ez, by first | exact hb | exact lk_old hb _⟩) ?_
  simp only [push_cast, simprocAttr, hb, lk_old hb, hbb, lk_old hbb, w0, b1, b2, b3, strB_tl, beq_self_eq_true, bne_self_eq_false, Nat.sub_zero, Int.le_refl, hs, hK0, hEK]
  refine Thn_n ?_
  refine hK _ _ ?_
  clear hK K
  refine AW.seq_k fun K hK => ?_
  refine AW.region (by decide) ?_
  simp only [push_cast, simprocAttr, hb, lk_old hb, hbb, lk_old hbb, w0, b1, b2, b3, strB_tl, beq_self_eq_true, bne_self_eq_false, Nat.sub_zero, Int.le_refl, hs, hK0, hEK]
  refine CThen.by ((hdec _ ⟨k1, ez1, by first | exact hbb | exact lk_old hbb _⟩ (by first | exact hg1 | exact gB_app hg1 _) (by first | exact hg3 | exact gB_app hg3 _)).1) ?_
  simp only [push_cast, simprocAttr, hb, lk_old hb, hbb, lk_old hbb, w0, b1, b2, b3, strB_tl, beq_self_eq_true, bne_self_eq_false, Nat.sub_zero, Int.le_refl, hs, hK0, hEK]
  refine Thn_n ?_
  refine hK _ _ ?_
  clear hK K
  refine AW.seq_k fun K hK => ?_
  refine AW.region (by decide) ?_
  simp only [push_cast, simprocAttr, hb, lk_old hb, hbb, lk_old hbb, w0, b1, b2, b3, strB_tl, beq_self_eq_true, bne_self_eq_false, Nat.sub_zero, Int.le_refl, hs, hK0, hEK]
  refine CThen.by ((hdec _ ⟨k1, ez1, by first | exact hbb | exact lk_old hbb _⟩ (by first | exact hg1 | exact gB_app hg1 _) (by first | exact hg3 | exact gB_app hg3 _)).2) ?_
  simp only [push_cast, simprocAttr, hb, lk_old hb, hbb, lk_old hbb, w0, b1, b2, b3, strB_tl, beq_self_eq_true, bne_self_eq_false, Nat.sub_zero, Int.le_refl, hs, hK0, hEK]
  refine Thn_n ?_
  refine hK _ _ ?_
  clear hK K
  refine AW.seq_k fun K hK => ?_
  refine AW.region (by decide) ?_
  simp only [push_cast, simprocAttr, hb, lk_old hb, hbb, lk_old hbb, w0, b1, b2, b3, strB_tl, beq_self_eq_true, bne_self_eq_false, Nat.sub_zero, Int.le_refl, hs, hK0, hEK]
  refine CThen.by (bytes_ok w h _ hw hh KB hKB) ?_
  simp only [push_cast, simprocAttr, hb, lk_old hb, hbb, lk_old hbb, w0, b1, b2, b3, strB_tl, beq_self_eq_true, bne_self_eq_false, Nat.sub_zero, Int.le_refl, hs, hK0, hEK]
  refine Thn_n ?_
  refine hK _ _ ?_
  clear hK K
  refine AW.seq_k fun K hK => ?_
  refine AW.seq_k fun K hK => ?_
  refine AW.region (by decide) ?_
  simp only [push_cast, simprocAttr, hb, lk_old hb, hbb, lk_old hbb, w0, b1, b2, b3, strB_tl, beq_self_eq_true, bne_self_eq_false, Nat.sub_zero, Int.le_refl, hs, hK0, hEK]
  refine CThen.by (rightSize_c _ _ _) ?_
  simp only [push_cast, simprocAttr, hb, lk_old hb, hbb, lk_old hbb, w0, b1, b2, b3, strB_tl, beq_self_eq_true, bne_self_eq_false, Nat.sub_zero, Int.le_refl, hs, hK0, hEK]
  refine Thn_n ?_
  refine hK _ _ ?_
  clear hK K
  refine AW.cond_f rfl ?_
  refine AW.skip ?_
  refine Thn_n ?_
  refine hK _ _ ?_
  clear hK K
  refine AW.seq_k fun K hK => ?_
  refine AW.drawX fol (by kernel_rfl) ?_
  refine DX.split 8 10 (by decide) ?_ ?_
  · refine DX.run [0, 1, 2, 3, 4, 5, 6, 7, 8, 9, 10, 11, 12, 13, 14, 15, 16, 17, 18, 19, 20, 21, 22, 23, 24, 25, 26, 27, 28, 29, 30, 31, 32] [.ext, .val, .val, .val, .val, .val, .val, .val, .ext, .val, .ext, .val, .val, .val, .val, .val, .val, .val, .val, .rd 3, .ext, .rd 3, .ext, .val, .val, .rd 5, .ext, .ext, .rd 5, .ext, .val, .val, .val] (by simp only [permL, reOp, List.idxOf_cons, push_cast, simprocAttr, hb, lk_old hb, hbb, lk_old hbb, w0, b1, b2, b3, strB_tl, beq_self_eq_true, bne_self_eq_false, Nat.sub_zero, Int.le_refl, hs, hK0, hEK]; first | done | rfl) (by kernel_rfl) ?_
    simp only [push_cast, simprocAttr, hb, lk_old hb, hbb, lk_old hbb, w0, b1, b2, b3, strB_tl, beq_self_eq_true, bne_self_eq_false, Nat.sub_zero, Int.le_refl, hs, hK0, hEK]
    refine DCall.by0 (awake_c _) ?_
    iterate 2
      simp only [push_cast, simprocAttr, hb, lk_old hb, hbb, lk_old hbb, w0, b1, b2, b3, strB_tl, beq_self_eq_true, bne_self_eq_false, Nat.sub_zero, Int.le_refl, hs, hK0, hEK]
      refine DExt.by (by first | rfl | exact (List.append_nil _).symm | (simp only [List.append_assoc, List.cons_append, List.nil_append]; rfl)) ?_
    simp only [push_cast, simprocAttr, hb, lk_old hb, hbb, lk_old hbb, w0, b1, b2, b3, strB_tl, beq_self_eq_true, bne_self_eq_false, Nat.sub_zero, Int.le_refl, hs, hK0, hEK]
    refine DCall.by0 (from_c _ _ _ _ _ _ (by simp)) ?_
    simp only [push_cast, simprocAttr, hb, lk_old hb, hbb, lk_old hbb, w0, b1, b2, b3, strB_tl, beq_self_eq_true, bne_self_eq_false, Nat.sub_zero, Int.le_refl, hs, hK0, hEK]
    refine DCall.by0 (same_c _ _ (m.length + 4) 0 (m.length + 6) 0 N G2 _ ⟨.grow, 3, by simp only [push_cast, simprocAttr]⟩ ⟨.grow, 3, by simp only [push_cast, simprocAttr]⟩ (by omega)) ?_
    simp only [push_cast, simprocAttr, hb, lk_old hb, hbb, lk_old hbb, w0, b1, b2, b3, strB_tl, beq_self_eq_true, bne_self_eq_false, Nat.sub_zero, Int.le_refl, hs, hK0, hEK]
    refine DCall.by (to21_c _ _ rp 0 n G _ ⟨k0, ez, by first | exact hb | exact lk_old hb _⟩ (by omega)) ?_
    simp only [push_cast, simprocAttr, hb, lk_old hb, hbb, lk_old hbb, w0, b1, b2, b3, strB_tl, beq_self_eq_true, bne_self_eq_false, Nat.sub_zero, Int.le_refl, hs, hK0, hEK]
    refine DCall.by0 (picRight_a _ _ _ _ _ _) ?_
    simp only [push_cast, simprocAttr, hb, lk_old hb, hbb, lk_old hbb, w0, b1, b2, b3, strB_tl, beq_self_eq_true, bne_self_eq_false, Nat.sub_zero, Int.le_refl, hs, hK0, hEK]
    refine DCall.by0 (rpicRight_a _ _ _ _ _ _) ?_
    simp only [push_cast, simprocAttr, hb, lk_old hb, hbb, lk_old hbb, w0, b1, b2, b3, strB_tl, beq_self_eq_true, bne_self_eq_false, Nat.sub_zero, Int.le_refl, hs, hK0, hEK]
    refine Thn_n ?_
    refine hK _ _ ?_
    clear hK K
    refine AW.ret ?_
    refine hQ _ _ _ ?_
    first | refine RetP.drop0 (Or.inr rfl) ?_ ?_ hwf | refine RetP.drop (Or.inr rfl) ?_ ?_ hwf
    · simp only [resA, resOne, resTv, AV.tv, push_cast, simprocAttr, hb, lk_old hb, hbb, lk_old hbb, w0, b1, b2, b3, strB_tl, beq_self_eq_true, bne_self_eq_false, Nat.sub_zero, Int.le_refl, hs, hK0, hEK]
    · rfl
  · refine DX.run [0, 1, 2, 3, 4, 5, 6, 7, 9, 10, 8, 11, 12, 13, 14, 15, 16, 17, 18, 19, 20, 21, 22, 23, 24, 25, 26, 27, 28, 29, 30, 31, 32] [.ext, .val, .val, .val, .val, .val, .val, .val, .val, .ext, .ext, .val, .val, .val, .val, .val, .val, .val, .val, .rd 3, .ext, .rd 3, .ext, .val, .val, .rd 5, .ext, .ext, .rd 5, .ext, .val, .val, .val] (by simp only [permL, reOp, List.idxOf_cons, push_cast, simprocAttr, hb, lk_old hb, hbb, lk_old hbb, w0, b1, b2, b3, strB_tl, beq_self_eq_true, bne_self_eq_false, Nat.sub_zero, Int.le_refl, hs, hK0, hEK]; first | done | rfl) (by kernel_rfl) ?_
    simp only [push_cast, simprocAttr, hb, lk_old hb, hbb, lk_old hbb, w0, b1, b2, b3, strB_tl, beq_self_eq_true, bne_self_eq_false, Nat.sub_zero, Int.le_refl, hs, hK0, hEK]
    refine DCall.by0 (awake_c _) ?_
    iterate 2
      simp only [push_cast, simprocAttr, hb, lk_old hb, hbb, lk_old hbb, w0, b1, b2, b3, strB_tl, beq_self_eq_true, bne_self_eq_false, Nat.sub_zero, Int.le_refl, hs, hK0, hEK]
      refine DExt.by (by first | rfl | exact (List.append_nil _).symm | (simp only [List.append_assoc, List.cons_append, List.nil_append]; rfl)) ?_
    simp only [push_cast, simprocAttr, hb, lk_old hb, hbb, lk_old hbb, w0, b1, b2, b3, strB_tl, beq_self_eq_true, bne_self_eq_false, Nat.sub_zero, Int.le_refl, hs, hK0, hEK]
    refine DCall.by0 (from_c _ _ _ _ _ _ (by simp)) ?_
    simp only [push_cast, simprocAttr, hb, lk_old hb, hbb, lk_old hbb, w0, b1, b2, b3, strB_tl, beq_self_eq_true, bne_self_eq_false, Nat.sub_zero, Int.le_refl, hs, hK0, hEK]
    refine DCall.by0 (same_c _ _ (m.length + 4) 0 (m.length + 6) 0 N G2 _ ⟨.grow, 3, by simp only [push_cast, simprocAttr]⟩ ⟨.grow, 3, by simp only [push_cast, simprocAttr]⟩ (by omega)) ?_
    simp only [push_cast, simprocAttr, hb, lk_old hb, hbb, lk_old hbb, w0, b1, b2, b3, strB_tl, beq_self_eq_true, bne_self_eq_false, Nat.sub_zero, Int.le_refl, hs, hK0, hEK]
    refine DCall.by (to21_c _ _ rp 0 n G _ ⟨k0, ez, by first | exact hb | exact lk_old hb _⟩ (by omega)) ?_
    simp only [push_cast, simprocAttr, hb, lk_old hb, hbb, lk_old hbb, w0, b1, b2, b3, strB_tl, beq_self_eq_true, bne_self_eq_false, Nat.sub_zero, Int.le_refl, hs, hK0, hEK]
    refine DCall.by0 (picRight_a _ _ _ _ _ _) ?_
    simp only [push_cast, simprocAttr, hb, lk_old hb, hbb, lk_old hbb, w0, b1, b2, b3, strB_tl, beq_self_eq_true, bne_self_eq_false, Nat.sub_zero, Int.le_refl, hs, hK0, hEK]
    refine DCall.by0 (rpicRight_a _ _ _ _ _ _) ?_
    simp only [push_cast, simprocAttr, hb, lk_old hb, hbb, lk_old hbb, w0, b1, b2, b3, strB_tl, beq_self_eq_true, bne_self_eq_false, Nat.sub_zero, Int.le_refl, hs, hK0, hEK]
    refine Thn_n ?_
    refine hK _ _ ?_
    clear hK K
    refine AW.ret ?_
    refine hQ _ _ _ ?_
    first | refine RetP.drop0 (Or.inr rfl) ?_ ?_ hwf | refine RetP.drop (Or.inr rfl) ?_ ?_ hwf
    · simp only [resA, resOne, resTv, AV.tv, push_cast, simprocAttr, hb, lk_old hb, hbb, lk_old hbb, w0, b1, b2, b3, strB_tl, beq_self_eq_true, bne_self_eq_false, Nat.sub_zero, Int.le_refl, hs, hK0, hEK]
    · rfl
end Go.Proofs.YtbigijnadkeecaaDoor

set_option linter.unusedSimpArgs false
set_option linter.unusedVariables false
set_option maxRecDepth 100000
set_option maxHeartbeats 4000000
namespace Go.Proofs.YtbigijnadkeecaaDoor
open Go Go.Eng

theorem dB_byte {G : Nat → Nat → Int} (hG : ∀ i k, 0 ≤ G i k ∧ G i k < 256) : ∀ n, ByteL (dB n G)
  | 0 => fun x hx => by cases hx
  | n + 1 => fun x hx => by
    rcases List.mem_append.1 (show x ∈ dB n G ++ [G n 0, G n 1, G n 2] from hx) with h | h
    · exact dB_byte hG n x h
    · simp only [List.mem_cons, List.not_mem_nil, or_false] at h
      rcases h with rfl | rfl | rfl <;> exact hG _ _
theorem dB_get : ∀ {n : Nat} {G : Nat → Nat → Int} {i k : Nat}, i < n → k < 3 → (dB n G)[3 * i + k]? = some (G i k)
  | n + 1, G, i, k, hi, hk => by
    show (dB n G ++ [G n 0, G n 1, G n 2])[3 * i + k]? = _
    by_cases h : i < n
    · rw [List.getElem?_append_left (by rw [dB_len]; omega)]; exact dB_get h hk
    · have e : i = n := by omega
      subst e
      rw [List.getElem?_append_right (by rw [dB_len]; omega), dB_len, Nat.add_sub_cancel_left]
      match k, hk with
      | 0, _ => rfl
      | 1, _ => rfl
      | 2, _ => rfl
/-- What was encoded is decoded as it was. -/
theorem back_dec {w h n : Nat} (hw : 1 ≤ w ∧ w ≤ 64) (hh : 1 ≤ h ∧ h ≤ 64) {G : Nat → Nat → Int} (hG : ∀ i k, 0 ≤ G i k ∧ G i k < 256) (hs : shR (w : Int) (h : Int) n = true) {tp : Nat} (r v : Nat) (m : AMem) (E : List Int) (hE : E = hdI w h ++ dB n G)
    (hb : ∃ k ez, m[r]? = some ⟨k, 5, v, ez, u8c E⟩) (hg1 : gB m 1 = some [.ifj tp]) (hg3 : gB m 3 = some (Lib.pow10Tab.map (CV.int .u64))) :
    Ctr Tryd.prog 23 [.one (.sl r v 0 E.length)] m (.tup [(true, [.int .i64 (w : Int), .int .i64 (h : Int), .sl m.length 0 0 n]), (false, [.int .i64 0])]) (m ++ [⟨.grow, 69, 0, 3, d8 n G⟩]) := by
  have hn := sh_nat hw hh hs
  have hn2 : w * h ≤ 64 * 64 := Nat.mul_le_mul hw.2 hh.2
  have hl := hdB_len (w := w) (h := h) (by omega) (by omega)
  rw [← hdI_len] at hl
  have hEl : E.length = (hdI w h).length + 3 * n := by rw [hE, List.length_append, dB_len]
  have hEb : ByteL E := fun x hx => by
    rw [hE] at hx
    rcases List.mem_append.1 hx with h | h
    · exact hdI_byte _ _ x h
    · exact dB_byte hG n x h
  have hp : hpV E (hdI w h) = true := (hpV_iff hEb (hdI_byte w h)).2 (by rw [hE, List.take_append_of_le_length (Nat.le_refl _), List.take_of_length_le (Nat.le_refl _)])
  have h1 := ((dec_hd r v E.length E m hb rfl (by omega) hEb hg1 hg3 w h hw hh hp).1 (by omega)).1
  have hd : d8 (w * h) (fun i k => E.getD ((hdI w h).length + 3 * i + k) 0) = d8 n G := by
    rw [← hn]
    refine d8_congr fun i k hi hk => ?_
    show E.getD ((hdI w h).length + 3 * i + k) 0 = G i k
    rw [List.getD_eq_getElem?_getD, hE, List.getElem?_append_right (by omega), show (hdI w h).length + 3 * i + k - (hdI w h).length = 3 * i + k by omega, dB_get hi hk]
    rfl
  rw [hd, ← hn] at h1
  exact h1
theorem p6_take {w h n : Nat} {G : Nat → Nat → Int} : (hdI w h ++ dB n G).take 3 = [80, 54, 10] := by
  rw [hdI_eq]; rfl
theorem back_n1 (W H : Int) (rp n : Nat) (G : Nat → Nat → Int) (rb nb : Nat) (xs : List Int) (m : AMem) (hp : ∃ k ez, m[rp]? = some ⟨k, 69, 0, ez, d8 n G⟩) (hq : ∃ k ez, m[rb]? = some ⟨k, 5, 0, ez, u8c xs⟩) (h1 : nb = xs.length) (hnb : nb ≤ 1048576) (hxs : ByteL xs) {tp : Nat} (hg1 : gB m 1 = some [.ifj tp]) (hg3 : gB m 3 = some (Lib.pow10Tab.map (CV.int .u64))) (hn : n ≤ 5000) (hG : ∀ i k, 0 ≤ G i k ∧ G i k < 256) (W2 H2 : Int) (N : Nat) (G2 : Nat → Nat → Int) (e : Int) (hdec : ∀ m : AMem, (∃ k ez, m[rb]? = some ⟨k, 5, 0, ez, u8c xs⟩) → gB m 1 = some [.ifj tp] → gB m 3 = some (Lib.pow10Tab.map (CV.int .u64)) → Ctr Tryd.prog 23 [.one (.sl rb 0 0 nb)] m (.tup [(true, [.int .i64 W2, .int .i64 H2, .sl m.length 0 0 N]), (false, [.int .i64 e])]) (m ++ [⟨.grow, 69, 0, 3, d8 N G2⟩])) (hN : N ≤ 4096) (he : e = 0) (hee2 : encR W2 H2 N G2 = (xs, 0)) (hs : shR W H n = false) : Ctr Tryd.prog 5 [.agg [.int .i64 W, .int .i64 H, .sl rp 0 0 n], .one (.sl rb 0 0 nb)] m (.one (.bool true)) m := by
  refine Ctr.enter Tryd.func5 rfl (by decide) (rs := [.tmp 4]) (nt := 97) rfl rfl fun hwf Q hQ => ?_
  obtain ⟨k0, ez, hb⟩ := hp
  have hr0 := get_lt hb
  obtain ⟨k1, ez1, hbb⟩ := hq
  have hr1 := get_lt hbb
  have w0 : ¬ (5000 : Int) < (n : Int) := by omega
  have b4 : (u8c xs).take nb = u8c xs := List.take_of_length_le (by rw [u8c_len]; omega)
  have b5 := u8c_len xs
  rw [← h1] at b5
  have b6 := bytesA_u8c xs
  subst he
  have ce2 : ∀ M : AMem, (∃ k ez, M[m.length + 3]? = some ⟨k, 69, 0, ez, d8 N G2⟩) → Ctr Tryd.prog 20 [.agg [.int .i64 W2, .int .i64 H2, .sl (m.length + 3) 0 0 N]] M (.tup [(false, [.sl M.length 0 0 nb]), (false, [.int .i64 0])]) (M ++ [⟨.grow, 5, 0, 0, u8c xs⟩]) := fun M hM => by
    have := enc_c W2 H2 (m.length + 3) 0 N G2 M hM (by omega)
    rw [hee2] at this
    dsimp only at this
    rw [← h1] at this
    exact this
  have hee := enc_bad (G := G) hs
  obtain ⟨E, hE⟩ : ∃ E, E = ([] : List Int) := ⟨_, rfl⟩
  have ce : ∀ M : AMem, (∃ k ez, M[m.length + 1]? = some ⟨k, 69, 0, ez, d8 n G⟩) → Ctr Tryd.prog 20 [.agg [.int .i64 W, .int .i64 H, .sl (m.length + 1) 0 0 n]] M (.tup [(false, [.sl M.length 0 0 E.length]), (false, [.int .i64 1])]) (M ++ [⟨.grow, 5, 0, 0, u8c E⟩]) := fun M hM => by
    have := enc_c W H (m.length + 1) 0 n G M hM (by omega)
    rw [hee, ← hE] at this
    exact this
  have b1 : (u8c E).take E.length = u8c E := List.take_of_length_le (by rw [u8c_len]; exact Nat.le_refl _)
  have b2 := u8c_len E
  have b3 := bytesA_u8c E
  
  refine AW.seq_k fun K hK => ?_
  refine AW.region (by decide) ?_
  simp only [push_cast, simprocAttr, hb, lk_old hb, hbb, lk_old hbb, w0, b4, b5, b6, strB_tl, beq_self_eq_true, bne_self_eq_false, Nat.sub_zero, Int.le_refl]
  refine Thn_n ?_
  refine hK _ _ ?_
  clear hK K
  refine AW.seq_k fun K hK => ?_
  refine AW.seq_k fun K hK => ?_
  refine AW.region (by decide) ?_
  simp only [push_cast, simprocAttr, hb, lk_old hb, hbb, lk_old hbb, w0, b4, b5, b6, strB_tl, beq_self_eq_true, bne_self_eq_false, Nat.sub_zero, Int.le_refl]
  refine Thn_n ?_
  refine hK _ _ ?_
  clear hK K
  refine AW.cond_f rfl ?_
  refine AW.skip ?_
  refine Thn_n ?_
  refine hK _ _ ?_
  clear hK K
  refine AW.seq_k fun K hK => ?_
  refine AW.seq_k fun K hK => ?_
  refine AW.region (by decide) ?_
  simp only [push_cast, simprocAttr, hb, lk_old hb, hbb, lk_old hbb, w0, b4, b5, b6, strB_tl, beq_self_eq_true, bne_self_eq_false, Nat.sub_zero, Int.le_refl]
  refine CThen.by (to21_c _ _ rp 0 n G _ ⟨k0, ez, by first | exact hb | exact lk_old hb _⟩ (by omega)) ?_
  simp only [push_cast, simprocAttr, hb, lk_old hb, hbb, lk_old hbb, w0, b4, b5, b6, strB_tl, beq_self_eq_true, bne_self_eq_false, Nat.sub_zero, Int.le_refl]
  refine CThen.by (ce _ ⟨.grow, 3, by simp only [push_cast, simprocAttr]⟩) ?_
  simp only [push_cast, simprocAttr, hb, lk_old hb, hbb, lk_old hbb, w0, b4, b5, b6, strB_tl, beq_self_eq_true, bne_self_eq_false, Nat.sub_zero, Int.le_refl]
  refine Thn_n ?_
  refine hK _ _ ?_
  clear hK K
  refine AW.seq_k fun K hK => ?_
  refine AW.region (by decide) ?_
  simp only [push_cast, simprocAttr, hb, lk_old hb, hbb, lk_old hbb, w0, b4, b5, b6, strB_tl, beq_self_eq_true, bne_self_eq_false, Nat.sub_zero, Int.le_refl]
  refine Thn_n ?_
  refine hK _ _ ?_
  clear hK K
  refine AW.cond_f rfl ?_
  refine AW.skip ?_
  refine Thn_n ?_
  refine hK _ _ ?_
  clear hK K
  refine AW.seq_k fun K hK => ?_
  refine AW.seq_k fun K hK => ?_
  refine AW.region (by decide) ?_
  simp only [push_cast, simprocAttr, hb, lk_old hb, hbb, lk_old hbb, w0, b4, b5, b6, strB_tl, beq_self_eq_true, bne_self_eq_false, Nat.sub_zero, Int.le_refl]
  refine CThen.by (hdec _ ⟨k1, ez1, by first | exact hbb | exact lk_old hbb _⟩ (by first | exact hg1 | exact gB_app hg1 _) (by first | exact hg3 | exact gB_app hg3 _)) ?_
  simp only [push_cast, simprocAttr, hb, lk_old hb, hbb, lk_old hbb, w0, b4, b5, b6, strB_tl, beq_self_eq_true, bne_self_eq_false, Nat.sub_zero, Int.le_refl]
  refine Thn_n ?_
  refine hK _ _ ?_
  clear hK K
  refine AW.seq_k fun K hK => ?_
  refine AW.region (by decide) ?_
  simp only [push_cast, simprocAttr, hb, lk_old hb, hbb, lk_old hbb, w0, b4, b5, b6, strB_tl, beq_self_eq_true, bne_self_eq_false, Nat.sub_zero, Int.le_refl]
  refine Thn_n ?_
  refine hK _ _ ?_
  clear hK K
  refine AW.cond_t rfl ?_
  refine AW.seq_k fun K hK => ?_
  refine AW.region (by decide) ?_
  simp only [push_cast, simprocAttr, hb, lk_old hb, hbb, lk_old hbb, w0, b4, b5, b6, strB_tl, beq_self_eq_true, bne_self_eq_false, Nat.sub_zero, Int.le_refl]
  refine CThen.by (ce2 _ ⟨.grow, 3, by simp only [push_cast, simprocAttr]⟩) ?_
  simp only [push_cast, simprocAttr, hb, lk_old hb, hbb, lk_old hbb, w0, b4, b5, b6, strB_tl, beq_self_eq_true, bne_self_eq_false, Nat.sub_zero, Int.le_refl]
  refine Thn_n ?_
  refine hK _ _ ?_
  clear hK K
  refine AW.seq_k fun K hK => ?_
  refine AW.region (by decide) ?_
  simp only [push_cast, simprocAttr, hb, lk_old hb, hbb, lk_old hbb, w0, b4, b5, b6, strB_tl, beq_self_eq_true, bne_self_eq_false, Nat.sub_zero, Int.le_refl]
  refine Thn_n ?_
  refine hK _ _ ?_
  clear hK K
  refine AW.cond_f rfl ?_
  refine AW.skip ?_
  refine Thn_n ?_
  refine hK _ _ ?_
  clear hK K
  refine AW.seq_k fun K hK => ?_
  refine AW.region (by decide) ?_
  simp only [push_cast, simprocAttr, hb, lk_old hb, hbb, lk_old hbb, w0, b4, b5, b6, strB_tl, beq_self_eq_true, bne_self_eq_false, Nat.sub_zero, Int.le_refl]
  refine CThen.by (awake_c _) ?_
  simp only [push_cast, simprocAttr, hb, lk_old hb, hbb, lk_old hbb, w0, b4, b5, b6, strB_tl, beq_self_eq_true, bne_self_eq_false, Nat.sub_zero, Int.le_refl]
  refine Thn_n ?_
  refine hK _ _ ?_
  clear hK K
  refine AW.ret ?_
  refine hQ _ _ _ ?_
  first | refine RetP.drop0 (Or.inr rfl) ?_ ?_ hwf | refine RetP.drop (Or.inr rfl) ?_ ?_ hwf
  · simp only [resA, resOne, resTv, AV.tv, push_cast, simprocAttr, hb, lk_old hb, hbb, lk_old hbb, w0, b4, b5, b6, strB_tl, beq_self_eq_true, bne_self_eq_false, Nat.sub_zero, Int.le_refl]
  · rfl
theorem back_y1 (w h : Nat) (hw : 1 ≤ w ∧ w ≤ 64) (hh : 1 ≤ h ∧ h ≤ 64) (rp n : Nat) (G : Nat → Nat → Int) (rb nb : Nat) (xs : List Int) (m : AMem) (hp : ∃ k ez, m[rp]? = some ⟨k, 69, 0, ez, d8 n G⟩) (hq : ∃ k ez, m[rb]? = some ⟨k, 5, 0, ez, u8c xs⟩) (h1 : nb = xs.length) (hnb : nb ≤ 1048576) (hxs : ByteL xs) {tp : Nat} (hg1 : gB m 1 = some [.ifj tp]) (hg3 : gB m 3 = some (Lib.pow10Tab.map (CV.int .u64))) (hn : n ≤ 5000) (hG : ∀ i k, 0 ≤ G i k ∧ G i k < 256) (W2 H2 : Int) (N : Nat) (G2 : Nat → Nat → Int) (e : Int) (hdec : ∀ m : AMem, (∃ k ez, m[rb]? = some ⟨k, 5, 0, ez, u8c xs⟩) → gB m 1 = some [.ifj tp] → gB m 3 = some (Lib.pow10Tab.map (CV.int .u64)) → Ctr Tryd.prog 23 [.one (.sl rb 0 0 nb)] m (.tup [(true, [.int .i64 W2, .int .i64 H2, .sl m.length 0 0 N]), (false, [.int .i64 e])]) (m ++ [⟨.grow, 69, 0, 3, d8 N G2⟩])) (hN : N ≤ 4096) (he : e = 0) (hee2 : encR W2 H2 N G2 = (xs, 0)) (hs : shR (w : Int) (h : Int) n = true) : Ctr Tryd.prog 5 [.agg [.int .i64 (w : Int), .int .i64 (h : Int), .sl rp 0 0 n], .one (.sl rb 0 0 nb)] m (.one (.bool true)) m := by
  refine Ctr.enter Tryd.func5 rfl (by decide) (rs := [.tmp 4]) (nt := 97) rfl rfl fun hwf Q hQ => ?_
  obtain ⟨k0, ez, hb⟩ := hp
  have hr0 := get_lt hb
  obtain ⟨k1, ez1, hbb⟩ := hq
  have hr1 := get_lt hbb
  have w0 : ¬ (5000 : Int) < (n : Int) := by omega
  have b4 : (u8c xs).take nb = u8c xs := List.take_of_length_le (by rw [u8c_len]; omega)
  have b5 := u8c_len xs
  rw [← h1] at b5
  have b6 := bytesA_u8c xs
  subst he
  have ce2 : ∀ M : AMem, (∃ k ez, M[m.length + 5]? = some ⟨k, 69, 0, ez, d8 N G2⟩) → Ctr Tryd.prog 20 [.agg [.int .i64 W2, .int .i64 H2, .sl (m.length + 5) 0 0 N]] M (.tup [(false, [.sl M.length 0 0 nb]), (false, [.int .i64 0])]) (M ++ [⟨.grow, 5, 0, 0, u8c xs⟩]) := fun M hM => by
    have := enc_c W2 H2 (m.length + 5) 0 N G2 M hM (by omega)
    rw [hee2] at this
    dsimp only at this
    rw [← h1] at this
    exact this
  have hee := enc_len (G := G) hs
  obtain ⟨E, hE⟩ : ∃ E, E = hdI w h ++ dB n G := ⟨_, rfl⟩
  have ce : ∀ M : AMem, (∃ k ez, M[m.length + 1]? = some ⟨k, 69, 0, ez, d8 n G⟩) → Ctr Tryd.prog 20 [.agg [.int .i64 (w : Int), .int .i64 (h : Int), .sl (m.length + 1) 0 0 n]] M (.tup [(false, [.sl M.length 0 0 E.length]), (false, [.int .i64 0])]) (M ++ [⟨.grow, 5, 0, 0, u8c E⟩]) := fun M hM => by
    have := enc_c (w : Int) (h : Int) (m.length + 1) 0 n G M hM (by omega)
    rw [hee, ← hE] at this
    exact this
  have b1 : (u8c E).take E.length = u8c E := List.take_of_length_le (by rw [u8c_len]; exact Nat.le_refl _)
  have b2 := u8c_len E
  have b3 := bytesA_u8c E
  have hl := hdB_len (w := w) (h := h) (by omega) (by omega)
  rw [← hdI_len] at hl
  have hn2 := sh_nat hw hh hs
  have hn3 : w * h ≤ 64 * 64 := Nat.mul_le_mul hw.2 hh.2
  have hEl : E.length = (hdI w h).length + 3 * n := by rw [hE, List.length_append, dB_len]
  have hnw : (w : Int) * (h : Int) = (n : Int) := by rw [hn2]; push_cast; rfl
  have x1 : ¬ (E.length : Int) < 3 := by omega
  have v1 : IntKind.i64.wrap (3 * (w : Int)) = 3 * (w : Int) := wi (by omega)
  have v2 : 3 * (w : Int) * (h : Int) = 3 * (n : Int) := by rw [Int.mul_assoc, hnw]
  have v3 : IntKind.i64.wrap (3 * (n : Int)) = 3 * (n : Int) := wi (by omega)
  have v4 : IntKind.i64.wrap (3 * (n : Int) + 11) = 3 * (n : Int) + 11 := wi (by omega)
  have v5 : IntKind.i64.wrap (3 * (n : Int) + 13) = 3 * (n : Int) + 13 := wi (by omega)
  have x2 : ¬ (E.length : Int) < 3 * (n : Int) + 11 := by omega
  have x3 : ¬ 3 * (n : Int) + 13 < (E.length : Int) := by omega
  have x4 : (3 : Int) ≤ (E.length : Int) := by omega
  have x5 : 3 ≤ E.length := by omega
  have t3 : (u8c E).take 3 = u8c [80, 54, 10] := by
    have := u8c_cut E 0 3
    rw [List.drop_zero, List.drop_zero] at this
    rw [this, hE, p6_take]
  have t4 := bytesA_u8c [80, 54, 10]
  have t5 : (⟨#[80, 54, 10]⟩ : ByteArray).toList = Lib.bytesOf [80, 54, 10] := mk_tl [80, 54, 10]
  
  refine AW.seq_k fun K hK => ?_
  refine AW.region (by decide) ?_
  simp only [push_cast, simprocAttr, hb, lk_old hb, hbb, lk_old hbb, w0, b4, b5, b6, strB_tl, beq_self_eq_true, bne_self_eq_false, Nat.sub_zero, Int.le_refl, b1, b2, b3, x1, x2, x3, x4, x5, v1, v2, v3, v4, v5, t3, t4, t5]
  refine Thn_n ?_
  refine hK _ _ ?_
  clear hK K
  refine AW.seq_k fun K hK => ?_
  refine AW.seq_k fun K hK => ?_
  refine AW.region (by decide) ?_
  simp only [push_cast, simprocAttr, hb, lk_old hb, hbb, lk_old hbb, w0, b4, b5, b6, strB_tl, beq_self_eq_true, bne_self_eq_false, Nat.sub_zero, Int.le_refl, b1, b2, b3, x1, x2, x3, x4, x5, v1, v2, v3, v4, v5, t3, t4, t5]
  refine Thn_n ?_
  refine hK _ _ ?_
  clear hK K
  refine AW.cond_f rfl ?_
  refine AW.skip ?_
  refine Thn_n ?_
  refine hK _ _ ?_
  clear hK K
  refine AW.seq_k fun K hK => ?_
  refine AW.seq_k fun K hK => ?_
  refine AW.region (by decide) ?_
  simp only [push_cast, simprocAttr, hb, lk_old hb, hbb, lk_old hbb, w0, b4, b5, b6, strB_tl, beq_self_eq_true, bne_self_eq_false, Nat.sub_zero, Int.le_refl, b1, b2, b3, x1, x2, x3, x4, x5, v1, v2, v3, v4, v5, t3, t4, t5]
  refine CThen.by (to21_c _ _ rp 0 n G _ ⟨k0, ez, by first | exact hb | exact lk_old hb _⟩ (by omega)) ?_
  simp only [push_cast, simprocAttr, hb, lk_old hb, hbb, lk_old hbb, w0, b4, b5, b6, strB_tl, beq_self_eq_true, bne_self_eq_false, Nat.sub_zero, Int.le_refl, b1, b2, b3, x1, x2, x3, x4, x5, v1, v2, v3, v4, v5, t3, t4, t5]
  refine CThen.by (ce _ ⟨.grow, 3, by simp only [push_cast, simprocAttr]⟩) ?_
  simp only [push_cast, simprocAttr, hb, lk_old hb, hbb, lk_old hbb, w0, b4, b5, b6, strB_tl, beq_self_eq_true, bne_self_eq_false, Nat.sub_zero, Int.le_refl, b1, b2, b3, x1, x2, x3, x4, x5, v1, v2, v3, v4, v5, t3, t4, t5]
  refine Thn_n ?_
  refine hK _ _ ?_
  clear hK K
  refine AW.seq_k fun K hK => ?_
  refine AW.region (by decide) ?_
  simp only [push_cast, simprocAttr, hb, lk_old hb, hbb, lk_old hbb, w0, b4, b5, b6, strB_tl, beq_self_eq_true, bne_self_eq_false, Nat.sub_zero, Int.le_refl, b1, b2, b3, x1, x2, x3, x4, x5, v1, v2, v3, v4, v5, t3, t4, t5]
  refine Thn_n ?_
  refine hK _ _ ?_
  clear hK K
  refine AW.cond_t rfl ?_
  refine AW.seq_k fun K hK => ?_
  refine AW.region (by decide) ?_
  simp only [push_cast, simprocAttr, hb, lk_old hb, hbb, lk_old hbb, w0, b4, b5, b6, strB_tl, beq_self_eq_true, bne_self_eq_false, Nat.sub_zero, Int.le_refl, b1, b2, b3, x1, x2, x3, x4, x5, v1, v2, v3, v4, v5, t3, t4, t5]
  refine CThen.by (back_dec hw hh hG hs (m.length + 2) 0 _ E hE ⟨.grow, 0, by simp only [push_cast, simprocAttr]⟩ (by first | exact hg1 | exact gB_app hg1 _) (by first | exact hg3 | exact gB_app hg3 _)) ?_
  simp only [push_cast, simprocAttr, hb, lk_old hb, hbb, lk_old hbb, w0, b4, b5, b6, strB_tl, beq_self_eq_true, bne_self_eq_false, Nat.sub_zero, Int.le_refl, b1, b2, b3, x1, x2, x3, x4, x5, v1, v2, v3, v4, v5, t3, t4, t5]
  refine Thn_n ?_
  refine hK _ _ ?_
  clear hK K
  refine AW.seq_k fun K hK => ?_
  refine AW.draw [.val, .val, .val, .val, .val, .val, .val, .val, .rd 0, .ext, .rd 0, .ext, .val, .val, .val, .val, .val, .ext, .val, .val, .val, .val, .val, .val, .rd 3, .val, .val, .rd 3, .val, .val, .val, .val, .val, .val, .val, .val, .rd 3, .val, .val, .rd 3, .val, .val, .val, .val] fol (by decide) (by kernel_rfl) ?_
  simp only [push_cast, simprocAttr, hb, lk_old hb, hbb, lk_old hbb, w0, b4, b5, b6, strB_tl, beq_self_eq_true, bne_self_eq_false, Nat.sub_zero, Int.le_refl, b1, b2, b3, x1, x2, x3, x4, x5, v1, v2, v3, v4, v5, t3, t4, t5]
  refine DCall.by0 (from_c _ _ _ _ _ _ (by simp)) ?_
  simp only [push_cast, simprocAttr, hb, lk_old hb, hbb, lk_old hbb, w0, b4, b5, b6, strB_tl, beq_self_eq_true, bne_self_eq_false, Nat.sub_zero, Int.le_refl, b1, b2, b3, x1, x2, x3, x4, x5, v1, v2, v3, v4, v5, t3, t4, t5]
  refine DCall.by0 (same_c _ _ (m.length + 3) 0 rp 0 n G _ ⟨.grow, 3, by simp only [push_cast, simprocAttr]⟩ ⟨k0, ez, by first | exact hb | exact lk_old hb _⟩ (by omega)) ?_
  simp only [push_cast, simprocAttr, hb, lk_old hb, hbb, lk_old hbb, w0, b4, b5, b6, strB_tl, beq_self_eq_true, bne_self_eq_false, Nat.sub_zero, Int.le_refl, b1, b2, b3, x1, x2, x3, x4, x5, v1, v2, v3, v4, v5, t3, t4, t5]
  refine DExt.by (by first | rfl | exact (List.append_nil _).symm | (simp only [List.append_assoc, List.cons_append, List.nil_append]; rfl)) ?_
  simp only [push_cast, simprocAttr, hb, lk_old hb, hbb, lk_old hbb, w0, b4, b5, b6, strB_tl, beq_self_eq_true, bne_self_eq_false, Nat.sub_zero, Int.le_refl, b1, b2, b3, x1, x2, x3, x4, x5, v1, v2, v3, v4, v5, t3, t4, t5]
  refine Thn_n ?_
  refine hK _ _ ?_
  clear hK K
  refine AW.cond_f rfl ?_
  refine AW.skip ?_
  refine Thn_n ?_
  refine hK _ _ ?_
  clear hK K
  refine AW.seq_k fun K hK => ?_
  refine AW.seq_k fun K hK => ?_
  refine AW.region (by decide) ?_
  simp only [push_cast, simprocAttr, hb, lk_old hb, hbb, lk_old hbb, w0, b4, b5, b6, strB_tl, beq_self_eq_true, bne_self_eq_false, Nat.sub_zero, Int.le_refl, b1, b2, b3, x1, x2, x3, x4, x5, v1, v2, v3, v4, v5, t3, t4, t5]
  refine CThen.by (hdec _ ⟨k1, ez1, by first | exact hbb | exact lk_old hbb _⟩ (by first | exact hg1 | exact gB_app hg1 _) (by first | exact hg3 | exact gB_app hg3 _)) ?_
  simp only [push_cast, simprocAttr, hb, lk_old hb, hbb, lk_old hbb, w0, b4, b5, b6, strB_tl, beq_self_eq_true, bne_self_eq_false, Nat.sub_zero, Int.le_refl, b1, b2, b3, x1, x2, x3, x4, x5, v1, v2, v3, v4, v5, t3, t4, t5]
  refine Thn_n ?_
  refine hK _ _ ?_
  clear hK K
  refine AW.seq_k fun K hK => ?_
  refine AW.region (by decide) ?_
  simp only [push_cast, simprocAttr, hb, lk_old hb, hbb, lk_old hbb, w0, b4, b5, b6, strB_tl, beq_self_eq_true, bne_self_eq_false, Nat.sub_zero, Int.le_refl, b1, b2, b3, x1, x2, x3, x4, x5, v1, v2, v3, v4, v5, t3, t4, t5]
  refine Thn_n ?_
  refine hK _ _ ?_
  clear hK K
  refine AW.cond_t rfl ?_
  refine AW.seq_k fun K hK => ?_
  refine AW.region (by decide) ?_
  simp only [push_cast, simprocAttr, hb, lk_old hb, hbb, lk_old hbb, w0, b4, b5, b6, strB_tl, beq_self_eq_true, bne_self_eq_false, Nat.sub_zero, Int.le_refl, b1, b2, b3, x1, x2, x3, x4, x5, v1, v2, v3, v4, v5, t3, t4, t5]
  refine CThen.by (ce2 _ ⟨.grow, 3, by simp only [push_cast, simprocAttr]⟩) ?_
  simp only [push_cast, simprocAttr, hb, lk_old hb, hbb, lk_old hbb, w0, b4, b5, b6, strB_tl, beq_self_eq_true, bne_self_eq_false, Nat.sub_zero, Int.le_refl, b1, b2, b3, x1, x2, x3, x4, x5, v1, v2, v3, v4, v5, t3, t4, t5]
  refine Thn_n ?_
  refine hK _ _ ?_
  clear hK K
  refine AW.seq_k fun K hK => ?_
  refine AW.region (by decide) ?_
  simp only [push_cast, simprocAttr, hb, lk_old hb, hbb, lk_old hbb, w0, b4, b5, b6, strB_tl, beq_self_eq_true, bne_self_eq_false, Nat.sub_zero, Int.le_refl, b1, b2, b3, x1, x2, x3, x4, x5, v1, v2, v3, v4, v5, t3, t4, t5]
  refine Thn_n ?_
  refine hK _ _ ?_
  clear hK K
  refine AW.cond_f rfl ?_
  refine AW.skip ?_
  refine Thn_n ?_
  refine hK _ _ ?_
  clear hK K
  refine AW.seq_k fun K hK => ?_
  refine AW.region (by decide) ?_
  simp only [push_cast, simprocAttr, hb, lk_old hb, hbb, lk_old hbb, w0, b4, b5, b6, strB_tl, beq_self_eq_true, bne_self_eq_false, Nat.sub_zero, Int.le_refl, b1, b2, b3, x1, x2, x3, x4, x5, v1, v2, v3, v4, v5, t3, t4, t5]
  refine CThen.by (awake_c _) ?_
  simp only [push_cast, simprocAttr, hb, lk_old hb, hbb, lk_old hbb, w0, b4, b5, b6, strB_tl, beq_self_eq_true, bne_self_eq_false, Nat.sub_zero, Int.le_refl, b1, b2, b3, x1, x2, x3, x4, x5, v1, v2, v3, v4, v5, t3, t4, t5]
  refine Thn_n ?_
  refine hK _ _ ?_
  clear hK K
  refine AW.ret ?_
  refine hQ _ _ _ ?_
  first | refine RetP.drop0 (Or.inr rfl) ?_ ?_ hwf | refine RetP.drop (Or.inr rfl) ?_ ?_ hwf
  · simp only [resA, resOne, resTv, AV.tv, push_cast, simprocAttr, hb, lk_old hb, hbb, lk_old hbb, w0, b4, b5, b6, strB_tl, beq_self_eq_true, bne_self_eq_false, Nat.sub_zero, Int.le_refl, b1, b2, b3, x1, x2, x3, x4, x5, v1, v2, v3, v4, v5, t3, t4, t5]
  · rfl
theorem back_n0 (W H : Int) (rp n : Nat) (G : Nat → Nat → Int) (rb nb : Nat) (xs : List Int) (m : AMem) (hp : ∃ k ez, m[rp]? = some ⟨k, 69, 0, ez, d8 n G⟩) (hq : ∃ k ez, m[rb]? = some ⟨k, 5, 0, ez, u8c xs⟩) (h1 : nb = xs.length) (hnb : nb ≤ 1048576) (hxs : ByteL xs) {tp : Nat} (hg1 : gB m 1 = some [.ifj tp]) (hg3 : gB m 3 = some (Lib.pow10Tab.map (CV.int .u64))) (hn : n ≤ 5000) (hG : ∀ i k, 0 ≤ G i k ∧ G i k < 256) (W2 H2 : Int) (N : Nat) (G2 : Nat → Nat → Int) (e : Int) (hdec : ∀ m : AMem, (∃ k ez, m[rb]? = some ⟨k, 5, 0, ez, u8c xs⟩) → gB m 1 = some [.ifj tp] → gB m 3 = some (Lib.pow10Tab.map (CV.int .u64)) → Ctr Tryd.prog 23 [.one (.sl rb 0 0 nb)] m (.tup [(true, [.int .i64 W2, .int .i64 H2, .sl m.length 0 0 N]), (false, [.int .i64 e])]) (m ++ [⟨.grow, 69, 0, 3, d8 N G2⟩])) (hN : N ≤ 4096) (he : ¬ e = 0) (hs : shR W H n = false) : Ctr Tryd.prog 5 [.agg [.int .i64 W, .int .i64 H, .sl rp 0 0 n], .one (.sl rb 0 0 nb)] m (.one (.bool true)) m := by
  refine Ctr.enter Tryd.func5 rfl (by decide) (rs := [.tmp 4]) (nt := 97) rfl rfl fun hwf Q hQ => ?_
  obtain ⟨k0, ez, hb⟩ := hp
  have hr0 := get_lt hb
  obtain ⟨k1, ez1, hbb⟩ := hq
  have hr1 := get_lt hbb
  have w0 : ¬ (5000 : Int) < (n : Int) := by omega
  have b4 : (u8c xs).take nb = u8c xs := List.take_of_length_le (by rw [u8c_len]; omega)
  have b5 := u8c_len xs
  rw [← h1] at b5
  have b6 := bytesA_u8c xs
  have he0 : (e == 0) = false := by rw [beq_eq_false_iff_ne]; exact he
  have hee := enc_bad (G := G) hs
  obtain ⟨E, hE⟩ : ∃ E, E = ([] : List Int) := ⟨_, rfl⟩
  have ce : ∀ M : AMem, (∃ k ez, M[m.length + 1]? = some ⟨k, 69, 0, ez, d8 n G⟩) → Ctr Tryd.prog 20 [.agg [.int .i64 W, .int .i64 H, .sl (m.length + 1) 0 0 n]] M (.tup [(false, [.sl M.length 0 0 E.length]), (false, [.int .i64 1])]) (M ++ [⟨.grow, 5, 0, 0, u8c E⟩]) := fun M hM => by
    have := enc_c W H (m.length + 1) 0 n G M hM (by omega)
    rw [hee, ← hE] at this
    exact this
  have b1 : (u8c E).take E.length = u8c E := List.take_of_length_le (by rw [u8c_len]; exact Nat.le_refl _)
  have b2 := u8c_len E
  have b3 := bytesA_u8c E
  
  refine AW.seq_k fun K hK => ?_
  refine AW.region (by decide) ?_
  simp only [push_cast, simprocAttr, hb, lk_old hb, hbb, lk_old hbb, w0, b4, b5, b6, strB_tl, beq_self_eq_true, bne_self_eq_false, Nat.sub_zero, Int.le_refl, he0]
  refine Thn_n ?_
  refine hK _ _ ?_
  clear hK K
  refine AW.seq_k fun K hK => ?_
  refine AW.seq_k fun K hK => ?_
  refine AW.region (by decide) ?_
  simp only [push_cast, simprocAttr, hb, lk_old hb, hbb, lk_old hbb, w0, b4, b5, b6, strB_tl, beq_self_eq_true, bne_self_eq_false, Nat.sub_zero, Int.le_refl, he0]
  refine Thn_n ?_
  refine hK _ _ ?_
  clear hK K
  refine AW.cond_f rfl ?_
  refine AW.skip ?_
  refine Thn_n ?_
  refine hK _ _ ?_
  clear hK K
  refine AW.seq_k fun K hK => ?_
  refine AW.seq_k fun K hK => ?_
  refine AW.region (by decide) ?_
  simp only [push_cast, simprocAttr, hb, lk_old hb, hbb, lk_old hbb, w0, b4, b5, b6, strB_tl, beq_self_eq_true, bne_self_eq_false, Nat.sub_zero, Int.le_refl, he0]
  refine CThen.by (to21_c _ _ rp 0 n G _ ⟨k0, ez, by first | exact hb | exact lk_old hb _⟩ (by omega)) ?_
  simp only [push_cast, simprocAttr, hb, lk_old hb, hbb, lk_old hbb, w0, b4, b5, b6, strB_tl, beq_self_eq_true, bne_self_eq_false, Nat.sub_zero, Int.le_refl, he0]
  refine CThen.by (ce _ ⟨.grow, 3, by simp only [push_cast, simprocAttr]⟩) ?_
  simp only [push_cast, simprocAttr, hb, lk_old hb, hbb, lk_old hbb, w0, b4, b5, b6, strB_tl, beq_self_eq_true, bne_self_eq_false, Nat.sub_zero, Int.le_refl, he0]
  refine Thn_n ?_
  refine hK _ _ ?_
  clear hK K
  refine AW.seq_k fun K hK => ?_
  refine AW.region (by decide) ?_
  simp only [push_cast, simprocAttr, hb, lk_old hb, hbb, lk_old hbb, w0, b4, b5, b6, strB_tl, beq_self_eq_true, bne_self_eq_false, Nat.sub_zero, Int.le_refl, he0]
  refine Thn_n ?_
  refine hK _ _ ?_
  clear hK K
  refine AW.cond_f rfl ?_
  refine AW.skip ?_
  refine Thn_n ?_
  refine hK _ _ ?_
  clear hK K
  refine AW.seq_k fun K hK => ?_
  refine AW.seq_k fun K hK => ?_
  refine AW.region (by decide) ?_
  simp only [push_cast, simprocAttr, hb, lk_old hb, hbb, lk_old hbb, w0, b4, b5, b6, strB_tl, beq_self_eq_true, bne_self_eq_false, Nat.sub_zero, Int.le_refl, he0]
  refine CThen.by (hdec _ ⟨k1, ez1, by first | exact hbb | exact lk_old hbb _⟩ (by first | exact hg1 | exact gB_app hg1 _) (by first | exact hg3 | exact gB_app hg3 _)) ?_
  simp only [push_cast, simprocAttr, hb, lk_old hb, hbb, lk_old hbb, w0, b4, b5, b6, strB_tl, beq_self_eq_true, bne_self_eq_false, Nat.sub_zero, Int.le_refl, he0]
  refine Thn_n ?_
  refine hK _ _ ?_
  clear hK K
  refine AW.seq_k fun K hK => ?_
  refine AW.region (by decide) ?_
  simp only [push_cast, simprocAttr, hb, lk_old hb, hbb, lk_old hbb, w0, b4, b5, b6, strB_tl, beq_self_eq_true, bne_self_eq_false, Nat.sub_zero, Int.le_refl, he0]
  refine Thn_n ?_
  refine hK _ _ ?_
  clear hK K
  refine AW.cond_f rfl ?_
  refine AW.skip ?_
  refine Thn_n ?_
  refine hK _ _ ?_
  clear hK K
  refine AW.seq_k fun K hK => ?_
  refine AW.region (by decide) ?_
  simp only [push_cast, simprocAttr, hb, lk_old hb, hbb, lk_old hbb, w0, b4, b5, b6, strB_tl, beq_self_eq_true, bne_self_eq_false, Nat.sub_zero, Int.le_refl, he0]
  refine CThen.by (awake_c _) ?_
  simp only [push_cast, simprocAttr, hb, lk_old hb, hbb, lk_old hbb, w0, b4, b5, b6, strB_tl, beq_self_eq_true, bne_self_eq_false, Nat.sub_zero, Int.le_refl, he0]
  refine Thn_n ?_
  refine hK _ _ ?_
  clear hK K
  refine AW.ret ?_
  refine hQ _ _ _ ?_
  first | refine RetP.drop0 (Or.inr rfl) ?_ ?_ hwf | refine RetP.drop (Or.inr rfl) ?_ ?_ hwf
  · simp only [resA, resOne, resTv, AV.tv, push_cast, simprocAttr, hb, lk_old hb, hbb, lk_old hbb, w0, b4, b5, b6, strB_tl, beq_self_eq_true, bne_self_eq_false, Nat.sub_zero, Int.le_refl, he0]
  · rfl
theorem back_y0 (w h : Nat) (hw : 1 ≤ w ∧ w ≤ 64) (hh : 1 ≤ h ∧ h ≤ 64) (rp n : Nat) (G : Nat → Nat → Int) (rb nb : Nat) (xs : List Int) (m : AMem) (hp : ∃ k ez, m[rp]? = some ⟨k, 69, 0, ez, d8 n G⟩) (hq : ∃ k ez, m[rb]? = some ⟨k, 5, 0, ez, u8c xs⟩) (h1 : nb = xs.length) (hnb : nb ≤ 1048576) (hxs : ByteL xs) {tp : Nat} (hg1 : gB m 1 = some [.ifj tp]) (hg3 : gB m 3 = some (Lib.pow10Tab.map (CV.int .u64))) (hn : n ≤ 5000) (hG : ∀ i k, 0 ≤ G i k ∧ G i k < 256) (W2 H2 : Int) (N : Nat) (G2 : Nat → Nat → Int) (e : Int) (hdec : ∀ m : AMem, (∃ k ez, m[rb]? = some ⟨k, 5, 0, ez, u8c xs⟩) → gB m 1 = some [.ifj tp] → gB m 3 = some (Lib.pow10Tab.map (CV.int .u64)) → Ctr Tryd.prog 23 [.one (.sl rb 0 0 nb)] m (.tup [(true, [.int .i64 W2, .int .i64 H2, .sl m.length 0 0 N]), (false, [.int .i64 e])]) (m ++ [⟨.grow, 69, 0, 3, d8 N G2⟩])) (hN : N ≤ 4096) (he : ¬ e = 0) (hs : shR (w : Int) (h : Int) n = true) : Ctr Tryd.prog 5 [.agg [.int .i64 (w : Int), .int .i64 (h : Int), .sl rp 0 0 n], .one (.sl rb 0 0 nb)] m (.one (.bool true)) m := by
  refine Ctr.enter Tryd.func5 rfl (by decide) (rs := [.tmp 4]) (nt := 97) rfl rfl fun hwf Q hQ => ?_
  obtain ⟨k0, ez, hb⟩ := hp
  have hr0 := get_lt hb
  obtain ⟨k1, ez1, hbb⟩ := hq
  have hr1 := get_lt hbb
  have w0 : ¬ (5000 : Int) < (n : Int) := by omega
  have b4 : (u8c xs).take nb = u8c xs := List.take_of_length_le (by rw [u8c_len]; omega)
  have b5 := u8c_len xs
  rw [← h1] at b5
  have b6 := bytesA_u8c xs
  have he0 : (e == 0) = false := by rw [beq_eq_false_iff_ne]; exact he
  have hee := enc_len (G := G) hs
  obtain ⟨E, hE⟩ : ∃ E, E = hdI w h ++ dB n G := ⟨_, rfl⟩
  have ce : ∀ M : AMem, (∃ k ez, M[m.length + 1]? = some ⟨k, 69, 0, ez, d8 n G⟩) → Ctr Tryd.prog 20 [.agg [.int .i64 (w : Int), .int .i64 (h : Int), .sl (m.length + 1) 0 0 n]] M (.tup [(false, [.sl M.length 0 0 E.length]), (false, [.int .i64 0])]) (M ++ [⟨.grow, 5, 0, 0, u8c E⟩]) := fun M hM => by
    have := enc_c (w : Int) (h : Int) (m.length + 1) 0 n G M hM (by omega)
    rw [hee, ← hE] at this
    exact this
  have b1 : (u8c E).take E.length = u8c E := List.take_of_length_le (by rw [u8c_len]; exact Nat.le_refl _)
  have b2 := u8c_len E
  have b3 := bytesA_u8c E
  have hl := hdB_len (w := w) (h := h) (by omega) (by omega)
  rw [← hdI_len] at hl
  have hn2 := sh_nat hw hh hs
  have hn3 : w * h ≤ 64 * 64 := Nat.mul_le_mul hw.2 hh.2
  have hEl : E.length = (hdI w h).length + 3 * n := by rw [hE, List.length_append, dB_len]
  have hnw : (w : Int) * (h : Int) = (n : Int) := by rw [hn2]; push_cast; rfl
  have x1 : ¬ (E.length : Int) < 3 := by omega
  have v1 : IntKind.i64.wrap (3 * (w : Int)) = 3 * (w : Int) := wi (by omega)
  have v2 : 3 * (w : Int) * (h : Int) = 3 * (n : Int) := by rw [Int.mul_assoc, hnw]
  have v3 : IntKind.i64.wrap (3 * (n : Int)) = 3 * (n : Int) := wi (by omega)
  have v4 : IntKind.i64.wrap (3 * (n : Int) + 11) = 3 * (n : Int) + 11 := wi (by omega)
  have v5 : IntKind.i64.wrap (3 * (n : Int) + 13) = 3 * (n : Int) + 13 := wi (by omega)
  have x2 : ¬ (E.length : Int) < 3 * (n : Int) + 11 := by omega
  have x3 : ¬ 3 * (n : Int) + 13 < (E.length : Int) := by omega
  have x4 : (3 : Int) ≤ (E.length : Int) := by omega
  have x5 : 3 ≤ E.length := by omega
  have t3 : (u8c E).take 3 = u8c [80, 54, 10] := by
    have := u8c_cut E 0 3
    rw [List.drop_zero, List.drop_zero] at this
    rw [this, hE, p6_take]
  have t4 := bytesA_u8c [80, 54, 10]
  have t5 : (⟨#[80, 54, 10]⟩ : ByteArray).toList = Lib.bytesOf [80, 54, 10] := mk_tl [80, 54, 10]
  
  refine AW.seq_k fun K hK => ?_
  refine AW.region (by decide) ?_
  simp only [push_cast, simprocAttr, hb, lk_old hb, hbb, lk_old hbb, w0, b4, b5, b6, strB_tl, beq_self_eq_true, bne_self_eq_false, Nat.sub_zero, Int.le_refl, he0, b1, b2, b3, x1, x2, x3, x4, x5, v1, v2, v3, v4, v5, t3, t4, t5]
  refine Thn_n ?_
  refine hK _ _ ?_
  clear hK K
  refine AW.seq_k fun K hK => ?_
  refine AW.seq_k fun K hK => ?_
  refine AW.region (by decide) ?_
  simp only [push_cast, simprocAttr, hb, lk_old hb, hbb, lk_old hbb, w0, b4, b5, b6, strB_tl, beq_self_eq_true, bne_self_eq_false, Nat.sub_zero, Int.le_refl, he0, b1, b2, b3, x1, x2, x3, x4, x5, v1, v2, v3, v4, v5, t3, t4, t5]
  refine Thn_n ?_
  refine hK _ _ ?_
  clear hK K
  refine AW.cond_f rfl ?_
  refine AW.skip ?_
  refine Thn_n ?_
  refine hK _ _ ?_
  clear hK K
  refine AW.seq_k fun K hK => ?_
  refine AW.seq_k fun K hK => ?_
  refine AW.region (by decide) ?_
  simp only [push_cast, simprocAttr, hb, lk_old hb, hbb, lk_old hbb, w0, b4, b5, b6, strB_tl, beq_self_eq_true, bne_self_eq_false, Nat.sub_zero, Int.le_refl, he0, b1, b2, b3, x1, x2, x3, x4, x5, v1, v2, v3, v4, v5, t3, t4, t5]
  refine CThen.by (to21_c _ _ rp 0 n G _ ⟨k0, ez, by first | exact hb | exact lk_old hb _⟩ (by omega)) ?_
  simp only [push_cast, simprocAttr, hb, lk_old hb, hbb, lk_old hbb, w0, b4, b5, b6, strB_tl, beq_self_eq_true, bne_self_eq_false, Nat.sub_zero, Int.le_refl, he0, b1, b2, b3, x1, x2, x3, x4, x5, v1, v2, v3, v4, v5, t3, t4, t5]
  refine CThen.by (ce _ ⟨.grow, 3, by simp only [push_cast, simprocAttr]⟩) ?_
  simp only [push_cast, simprocAttr, hb, lk_old hb, hbb, lk_old hbb, w0, b4, b5, b6, strB_tl, beq_self_eq_true, bne_self_eq_false, Nat.sub_zero, Int.le_refl, he0, b1, b2, b3, x1, x2, x3, x4, x5, v1, v2, v3, v4, v5, t3, t4, t5]
  refine Thn_n ?_
  refine hK _ _ ?_
  clear hK K
  refine AW.seq_k fun K hK => ?_
  refine AW.region (by decide) ?_
  simp only [push_cast, simprocAttr, hb, lk_old hb, hbb, lk_old hbb, w0, b4, b5, b6, strB_tl, beq_self_eq_true, bne_self_eq_false, Nat.sub_zero, Int.le_refl, he0, b1, b2, b3, x1, x2, x3, x4, x5, v1, v2, v3, v4, v5, t3, t4, t5]
  refine Thn_n ?_
  refine hK _ _ ?_
  clear hK K
  refine AW.cond_t rfl ?_
  refine AW.seq_k fun K hK => ?_
  refine AW.region (by decide) ?_
  simp only [push_cast, simprocAttr, hb, lk_old hb, hbb, lk_old hbb, w0, b4, b5, b6, strB_tl, beq_self_eq_true, bne_self_eq_false, Nat.sub_zero, Int.le_refl, he0, b1, b2, b3, x1, x2, x3, x4, x5, v1, v2, v3, v4, v5, t3, t4, t5]
  refine CThen.by (back_dec hw hh hG hs (m.length + 2) 0 _ E hE ⟨.grow, 0, by simp only [push_cast, simprocAttr]⟩ (by first | exact hg1 | exact gB_app hg1 _) (by first | exact hg3 | exact gB_app hg3 _)) ?_
  simp only [push_cast, simprocAttr, hb, lk_old hb, hbb, lk_old hbb, w0, b4, b5, b6, strB_tl, beq_self_eq_true, bne_self_eq_false, Nat.sub_zero, Int.le_refl, he0, b1, b2, b3, x1, x2, x3, x4, x5, v1, v2, v3, v4, v5, t3, t4, t5]
  refine Thn_n ?_
  refine hK _ _ ?_
  clear hK K
  refine AW.seq_k fun K hK => ?_
  refine AW.draw [.val, .val, .val, .val, .val, .val, .val, .val, .rd 0, .ext, .rd 0, .ext, .val, .val, .val, .val, .val, .ext, .val, .val, .val, .val, .val, .val, .rd 3, .val, .val, .rd 3, .val, .val, .val, .val, .val, .val, .val, .val, .rd 3, .val, .val, .rd 3, .val, .val, .val, .val] fol (by decide) (by kernel_rfl) ?_
  simp only [push_cast, simprocAttr, hb, lk_old hb, hbb, lk_old hbb, w0, b4, b5, b6, strB_tl, beq_self_eq_true, bne_self_eq_false, Nat.sub_zero, Int.le_refl, he0, b1, b2, b3, x1, x2, x3, x4, x5, v1, v2, v3, v4, v5, t3, t4, t5]
  refine DCall.by0 (from_c _ _ _ _ _ _ (by simp)) ?_
  simp only [push_cast, simprocAttr, hb, lk_old hb, hbb, lk_old hbb, w0, b4, b5, b6, strB_tl, beq_self_eq_true, bne_self_eq_false, Nat.sub_zero, Int.le_refl, he0, b1, b2, b3, x1, x2, x3, x4, x5, v1, v2, v3, v4, v5, t3, t4, t5]
  refine DCall.by0 (same_c _ _ (m.length + 3) 0 rp 0 n G _ ⟨.grow, 3, by simp only [push_cast, simprocAttr]⟩ ⟨k0, ez, by first | exact hb | exact lk_old hb _⟩ (by omega)) ?_
  simp only [push_cast, simprocAttr, hb, lk_old hb, hbb, lk_old hbb, w0, b4, b5, b6, strB_tl, beq_self_eq_true, bne_self_eq_false, Nat.sub_zero, Int.le_refl, he0, b1, b2, b3, x1, x2, x3, x4, x5, v1, v2, v3, v4, v5, t3, t4, t5]
  refine DExt.by (by first | rfl | exact (List.append_nil _).symm | (simp only [List.append_assoc, List.cons_append, List.nil_append]; rfl)) ?_
  simp only [push_cast, simprocAttr, hb, lk_old hb, hbb, lk_old hbb, w0, b4, b5, b6, strB_tl, beq_self_eq_true, bne_self_eq_false, Nat.sub_zero, Int.le_refl, he0, b1, b2, b3, x1, x2, x3, x4, x5, v1, v2, v3, v4, v5, t3, t4, t5]
  refine Thn_n ?_
  refine hK _ _ ?_
  clear hK K
  refine AW.cond_f rfl ?_
  refine AW.skip ?_
  refine Thn_n ?_
  refine hK _ _ ?_
  clear hK K
  refine AW.seq_k fun K hK => ?_
  refine AW.seq_k fun K hK => ?_
  refine AW.region (by decide) ?_
  simp only [push_cast, simprocAttr, hb, lk_old hb, hbb, lk_old hbb, w0, b4, b5, b6, strB_tl, beq_self_eq_true, bne_self_eq_false, Nat.sub_zero, Int.le_refl, he0, b1, b2, b3, x1, x2, x3, x4, x5, v1, v2, v3, v4, v5, t3, t4, t5]
  refine CThen.by (hdec _ ⟨k1, ez1, by first | exact hbb | exact lk_old hbb _⟩ (by first | exact hg1 | exact gB_app hg1 _) (by first | exact hg3 | exact gB_app hg3 _)) ?_
  simp only [push_cast, simprocAttr, hb, lk_old hb, hbb, lk_old hbb, w0, b4, b5, b6, strB_tl, beq_self_eq_true, bne_self_eq_false, Nat.sub_zero, Int.le_refl, he0, b1, b2, b3, x1, x2, x3, x4, x5, v1, v2, v3, v4, v5, t3, t4, t5]
  refine Thn_n ?_
  refine hK _ _ ?_
  clear hK K
  refine AW.seq_k fun K hK => ?_
  refine AW.region (by decide) ?_
  simp only [push_cast, simprocAttr, hb, lk_old hb, hbb, lk_old hbb, w0, b4, b5, b6, strB_tl, beq_self_eq_true, bne_self_eq_false, Nat.sub_zero, Int.le_refl, he0, b1, b2, b3, x1, x2, x3, x4, x5, v1, v2, v3, v4, v5, t3, t4, t5]
  refine Thn_n ?_
  refine hK _ _ ?_
  clear hK K
  refine AW.cond_f rfl ?_
  refine AW.skip ?_
  refine Thn_n ?_
  refine hK _ _ ?_
  clear hK K
  refine AW.seq_k fun K hK => ?_
  refine AW.region (by decide) ?_
  simp only [push_cast, simprocAttr, hb, lk_old hb, hbb, lk_old hbb, w0, b4, b5, b6, strB_tl, beq_self_eq_true, bne_self_eq_false, Nat.sub_zero, Int.le_refl, he0, b1, b2, b3, x1, x2, x3, x4, x5, v1, v2, v3, v4, v5, t3, t4, t5]
  refine CThen.by (awake_c _) ?_
  simp only [push_cast, simprocAttr, hb, lk_old hb, hbb, lk_old hbb, w0, b4, b5, b6, strB_tl, beq_self_eq_true, bne_self_eq_false, Nat.sub_zero, Int.le_refl, he0, b1, b2, b3, x1, x2, x3, x4, x5, v1, v2, v3, v4, v5, t3, t4, t5]
  refine Thn_n ?_
  refine hK _ _ ?_
  clear hK K
  refine AW.ret ?_
  refine hQ _ _ _ ?_
  first | refine RetP.drop0 (Or.inr rfl) ?_ ?_ hwf | refine RetP.drop (Or.inr rfl) ?_ ?_ hwf
  · simp only [resA, resOne, resTv, AV.tv, push_cast, simprocAttr, hb, lk_old hb, hbb, lk_old hbb, w0, b4, b5, b6, strB_tl, beq_self_eq_true, bne_self_eq_false, Nat.sub_zero, Int.le_refl, he0, b1, b2, b3, x1, x2, x3, x4, x5, v1, v2, v3, v4, v5, t3, t4, t5]
  · rfl
end Go.Proofs.YtbigijnadkeecaaDoor
