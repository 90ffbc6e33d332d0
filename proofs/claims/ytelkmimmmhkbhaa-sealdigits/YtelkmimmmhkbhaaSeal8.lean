/- Walks and facts of this seat's program over abstract states, printed by a program of mine; no conditions but those that each theorem names. -/
import Derived.Test.YtelkmimmmhkbhaaSeal7
import Derived.Test.YtelkmimmmhkbhaaEngX
set_option linter.unusedSimpArgs false
set_option linter.unusedVariables false
set_option maxRecDepth 100000
set_option maxHeartbeats 4000000
namespace Go.Proofs.Ytelkmimmmhkbhaa
open Go Go.Eng

theorem noEscape_c (x : AV) (m : AMem) : Ctr Try.prog 37 [x] m x m := noEscape_x Try.func37 (by kernel_rfl) (by kernel_rfl) (by kernel_rfl) (by kernel_rfl) x m
theorem ibs_c (s : ByteArray) (c : Int) (m : AMem) : Ctr Try.prog 36 [.one (.str s), .one (.int .u8 c)] m (.one (.int .i64 (firstIdx s c.toNat.toUInt8))) m := indexByteString_x Try.func36 (by kernel_rfl) (by kernel_rfl) (by kernel_rfl) (by kernel_rfl) s c m

theorem sib_c (s : ByteArray) (c : Int) (m : AMem) : Ctr Try.prog 32 [.one (.str s), .one (.int .u8 c)] m (.one (.int .i64 (firstIdx s c.toNat.toUInt8))) m := by
  refine Ctr.enter Try.func32 rfl (by decide) (rs := [.tmp 4]) (nt := 8) rfl rfl fun hwf Q hQ => ?_
  refine AW.seq_k fun K hK => ?_
  refine AW.region (by decide) ?_
  simp only [push_cast, simprocAttr]
  refine Thn_n ?_
  refine hK _ _ ?_
  clear hK K
  refine AW.seq_k fun K hK => ?_
  refine AW.region (by decide) ?_
  simp only [push_cast, simprocAttr]
  refine CThen.by (ibs_c _ _ _) ?_
  simp only [push_cast, simprocAttr]
  refine Thn_n ?_
  refine hK _ _ ?_
  clear hK K
  refine AW.ret ?_
  refine hQ _ _ _ ?_
  first | refine RetP.drop0 (Or.inr rfl) ?_ ?_ hwf | refine RetP.drop (Or.inr rfl) ?_ ?_ hwf
  · simp only [resA, resOne, resTv, AV.tv, push_cast, simprocAttr]
  · rfl
theorem ib_c (s : ByteArray) (c : Int) (m : AMem) : Ctr Try.prog 24 [.one (.str s), .one (.int .u8 c)] m (.one (.int .i64 (firstIdx s c.toNat.toUInt8))) m := by
  refine Ctr.enter Try.func24 rfl (by decide) (rs := [.tmp 4]) (nt := 8) rfl rfl fun hwf Q hQ => ?_
  refine AW.seq_k fun K hK => ?_
  refine AW.region (by decide) ?_
  simp only [push_cast, simprocAttr]
  refine Thn_n ?_
  refine hK _ _ ?_
  clear hK K
  refine AW.seq_k fun K hK => ?_
  refine AW.region (by decide) ?_
  simp only [push_cast, simprocAttr]
  refine CThen.by (sib_c _ _ _) ?_
  simp only [push_cast, simprocAttr]
  refine Thn_n ?_
  refine hK _ _ ?_
  clear hK K
  refine AW.ret ?_
  refine hQ _ _ _ ?_
  first | refine RetP.drop0 (Or.inr rfl) ?_ ?_ hwf | refine RetP.drop (Or.inr rfl) ?_ ?_ hwf
  · simp only [resA, resOne, resTv, AV.tv, push_cast, simprocAttr]
  · rfl
theorem cc0_c (rb : Nat) (b : CV) (m : AMem) (hb : m[rb]? = some ⟨.fix, 62, 0, 0, [.nilp, b]⟩) (hbe : b.below m.length = true) : Ctr Try.prog 33 [.one (.ptr rb 0 0)] m (.tup []) (m.set rb ⟨.fix, 62, 0, 0, [.ptr rb 0 0, b]⟩) := by
  refine Ctr.enter Try.func33 rfl (by decide) (rs := []) (nt := 20) rfl rfl fun hwf Q hQ => ?_
  have lb := get_lt hb
  refine AW.seq_k fun K hK => ?_
  refine AW.region (by decide) ?_
  simp only [push_cast, simprocAttr, hb]
  refine Thn_n ?_
  refine hK _ _ ?_
  clear hK K
  refine AW.cond_t rfl ?_
  refine AW.region (by decide) ?_
  simp only [push_cast, simprocAttr, hb]
  refine CThen.by (noEscape_c _ _) ?_
  simp only [push_cast, simprocAttr, hb]
  refine hQ _ _ _ ?_
  first | refine RetP.dropM0 (by simp) (Or.inl rfl) ?_ ?_ (MWf_set hwf (by simp only [List.all_cons, List.all_nil, hbe, Bool.true_and, Bool.and_true]; first | exact decide_eq_true lb | rfl)) | refine RetP.dropM (m1 := m.set rb ⟨.fix, 62, 0, 0, [.ptr rb 0 0, b]⟩) (by simp) (Or.inl rfl) ?_ ?_ (MWf_set hwf (by simp only [List.all_cons, List.all_nil, hbe, Bool.true_and, Bool.and_true]; first | exact decide_eq_true lb | rfl))
  · rfl
  · rfl
  
theorem cc1_c (rb : Nat) (b : CV) (m : AMem) (hb : m[rb]? = some ⟨.fix, 62, 0, 0, [.ptr rb 0 0, b]⟩) : Ctr Try.prog 33 [.one (.ptr rb 0 0)] m (.tup []) m := by
  refine Ctr.enter Try.func33 rfl (by decide) (rs := []) (nt := 20) rfl rfl fun hwf Q hQ => ?_
  iterate 2
    refine AW.seq_k fun K hK => ?_
    refine AW.region (by decide) ?_
    simp only [push_cast, simprocAttr, hb]
    refine Thn_n ?_
    refine hK _ _ ?_
    clear hK K
    refine AW.cond_f rfl ?_
  refine AW.skip ?_
  refine hQ _ _ _ ?_
  first | refine RetP.drop0 (Or.inl rfl) ?_ ?_ hwf | refine RetP.drop (Or.inl rfl) ?_ ?_ hwf
  · simp only [resA, resOne, resTv, AV.tv, push_cast, simprocAttr, hb]
  · rfl
theorem cc_c (rb : Nat) (a b : CV) (m : AMem) (hb : m[rb]? = some ⟨.fix, 62, 0, 0, [a, b]⟩) (ha : a = .nilp ∨ a = .ptr rb 0 0) (hbe : b.below m.length = true) : Ctr Try.prog 33 [.one (.ptr rb 0 0)] m (.tup []) (m.set rb ⟨.fix, 62, 0, 0, [.ptr rb 0 0, b]⟩) := by
  rcases ha with rfl | rfl
  · exact cc0_c rb b m hb hbe
  · have := cc1_c rb b m hb
    rwa [set_self hb]
theorem wb_c (rb r v : Nat) (a : CV) (bs : List Int) (x : Int) (m : AMem) (hb : m[rb]? = some ⟨.fix, 62, 0, 0, [a, .sl r v 0 bs.length]⟩) (hr : m[r]? = some ⟨.grow, 5, v, 1, u8l bs⟩) (ha : a = .nilp ∨ a = .ptr rb 0 0) (hl : bs.length ≤ 1000000) : Ctr Try.prog 25 [.one (.ptr rb 0 0), .one (.int .u8 x)] m (.one .nili) ((m.set r ⟨.grow, 5, (v + 1), 1, u8l (bs ++ [x])⟩).set rb ⟨.fix, 62, 0, 0, [.ptr rb 0 0, .sl r (v + 1) 0 (bs.length + 1)]⟩) := by
  refine Ctr.enter Try.func25 rfl (by decide) (rs := [.tmp 4]) (nt := 17) rfl rfl fun hwf Q hQ => ?_
  have lb := get_lt hb
  have lr := get_lt hr
  have nrb : rb ≠ r := fun e => by subst e; rw [hb] at hr; simp at hr
  have hbe : (CV.sl r v 0 bs.length).below m.length = true := by simp [CV.below, lr]
  have g1 := fun B : Blk => List.getElem?_set_self (l := m) (i := rb) (a := B) lb
  have g2 := fun B : Blk => (List.getElem?_set_ne (l := m) (i := rb) (j := r) (a := B) nrb).trans hr
  have g3 := fun (L : AMem) (h : ∀ B : Blk, (m.set rb B ++ L)[rb]? = some B) => h
  have kA := fun (l L : AMem) (h : l.length = m.length) => mk_lk0 h L
  have kL := fun (l L : AMem) (h : l.length = m.length) => mk_old h lb L
  have kL2 := fun (l L : AMem) (h : l.length = m.length) => mk_old h lr L
  have kP := fun (l : AMem) (B : Blk) (h : l.length = m.length) => mk_self h lb B
  have kS := fun (l L : AMem) (b : Blk) (h : l.length = m.length) => mk_olds h lb L b
  have kS2 := fun (l L : AMem) (b : Blk) (h : l.length = m.length) => mk_olds h lr L b
  have kc := mk_comm nrb
  have q1 : bs.length + 1 ≤ 140737488355328 := by omega
  have hsn : u8l bs ++ [.int .u8 x] = u8l (bs ++ [x]) := by simp [u8l]
  refine AW.seq_k fun K hK => ?_
  refine AW.region (by decide) ?_
  simp only [push_cast, simprocAttr, g1, g2, kP, kA, kL, kL2, kS, kS2, kc, List.set_set, List.length_set, u8l_len, q1, hsn]
  refine Thn_n ?_
  refine hK _ _ ?_
  clear hK K
  refine AW.seq_k fun K hK => ?_
  refine AW.region (by decide) ?_
  simp only [push_cast, simprocAttr, g1, g2, kP, kA, kL, kL2, kS, kS2, kc, List.set_set, List.length_set, u8l_len, q1, hsn]
  refine CThen.by (cc_c rb a _ m hb ha hbe) ?_
  iterate 2
    simp only [push_cast, simprocAttr, g1, g2, kP, kA, kL, kL2, kS, kS2, kc, List.set_set, List.length_set, u8l_len, q1, hsn]
    refine Thn_n ?_
    refine hK _ _ ?_
    clear hK K
    refine AW.seq_k fun K hK => ?_
    refine AW.region (by decide) ?_
  simp only [push_cast, simprocAttr, g1, g2, kP, kA, kL, kL2, kS, kS2, kc, List.set_set, List.length_set, u8l_len, q1, hsn]
  refine Thn_n ?_
  refine hK _ _ ?_
  clear hK K
  refine AW.ret ?_
  refine hQ _ _ _ ?_
  refine RetP.dropM (m1 := (m.set r ⟨.grow, 5, (v + 1), 1, u8l (bs ++ [x])⟩).set rb ⟨.fix, 62, 0, 0, [.ptr rb 0 0, .sl r (v + 1) 0 (bs.length + 1)]⟩) (by simp) (Or.inr rfl) ?_ ?_ (MWf_set (MWf_set hwf (u8l_below _ _)) (by simp [CV.below, lb, lr]))
  · rfl
  · rfl
  
theorem bytesA_u8 : ∀ bs : List Int, bytesA (u8l bs) = some bs
  | [] => rfl
  | b :: bs => by
    have := bytesA_u8 bs
    simp only [u8l, List.map_cons, bytesA] at this ⊢
    rw [this]; rfl
theorem byteOk_of {bs : List Int} (h : U8ok bs) : byteOk bs = true := by
  simp only [byteOk, List.all_eq_true]; intro x hx; simpa using h x hx
theorem bs_c (rb r v : Nat) (a : CV) (bs : List Int) (m : AMem) (hb : m[rb]? = some ⟨.fix, 62, 0, 0, [a, .sl r v 0 bs.length]⟩) (hr : m[r]? = some ⟨.grow, 5, v, 1, u8l bs⟩) (h0 : 0 < bs.length) (ho : U8ok bs) : Ctr Try.prog 26 [.one (.ptr rb 0 0)] m (.one (.str (strB bs))) (m.set r ⟨.grow, 5, (v + 1), 1, u8l []⟩) := by
  refine Ctr.enter Try.func26 rfl (by decide) (rs := [.tmp 2]) (nt := 14) rfl rfl fun hwf Q hQ => ?_
  have lb := get_lt hb
  have lr := get_lt hr
  have hb1 := bytesA_u8 bs
  have hb2 := byteOk_of ho
  have h1 : (0 : Int) < (bs.length : Int) := by omega
  refine AW.seq_k fun K hK => ?_
  refine AW.region (by decide) ?_
  simp only [push_cast, simprocAttr, hb, hr, h0, hb1, hb2, h1]
  refine Thn_n ?_
  refine hK _ _ ?_
  clear hK K
  refine AW.seq_k fun K hK => ?_
  refine AW.draw [.val, .val, .val, .rd 0, .val, .val, .val, .val, .rd 0, .val, .wr, .val] fol (by decide) (by kernel_rfl) ?_
  simp only [push_cast, simprocAttr, hb, hr, h0, hb1, hb2, h1]
  refine Thn_n ?_
  refine hK _ _ ?_
  clear hK K
  refine AW.ret ?_
  refine hQ _ _ _ ?_
  refine RetP.dropM0 (m1 := m.set r ⟨.grow, 5, (v + 1), 1, u8l []⟩) (by simp) (Or.inr rfl) ?_ ?_ (MWf_set hwf rfl)
  · rfl
  · rfl
  
theorem bs0_c (rb : Nat) (a : CV) (m : AMem) (hb : m[rb]? = some ⟨.fix, 62, 0, 0, [a, .nils]⟩) : Ctr Try.prog 26 [.one (.ptr rb 0 0)] m (.one (.str ByteArray.empty)) m := by
  refine Ctr.enter Try.func26 rfl (by decide) (rs := [.tmp 2]) (nt := 14) rfl rfl fun hwf Q hQ => ?_
  refine AW.seq_k fun K hK => ?_
  refine AW.region (by decide) ?_
  simp only [push_cast, simprocAttr, hb]
  refine Thn_n ?_
  refine hK _ _ ?_
  clear hK K
  refine AW.seq_k fun K hK => ?_
  refine AW.draw [.val, .val, .val, .rd 0, .val, .val, .val, .val, .rd 0, .val, .wr, .val] fol (by decide) (by kernel_rfl) ?_
  simp only [push_cast, simprocAttr, hb]
  refine Thn_n ?_
  refine hK _ _ ?_
  clear hK K
  refine AW.ret ?_
  refine hQ _ _ _ ?_
  first | refine RetP.drop0 (Or.inr rfl) ?_ ?_ hwf | refine RetP.drop (Or.inr rfl) ?_ ?_ hwf
  · simp only [resA, resOne, resTv, AV.tv, push_cast, simprocAttr, hb]
  · rfl
end Go.Proofs.Ytelkmimmmhkbhaa
