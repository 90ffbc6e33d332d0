/- Walks and facts of this seat's program over abstract states, printed by a program of mine; no conditions but those that each theorem names. -/
import Derived.Test.YtgbehbaecdepjaaFilmD
set_option linter.unusedSimpArgs false
set_option linter.unusedVariables false
set_option maxRecDepth 100000
set_option maxHeartbeats 4000000
namespace Go.Proofs.Ytgbehbaecdepjaa
open Go Go.Eng

def catL (s : Nat) (f : Nat → Int) : Nat → List Int
  | 0 => []
  | n + 1 => catL s f n ++ numL (IntKind.u64.wrap (f n)) s
theorem catL_len (s : Nat) (f : Nat → Int) : ∀ n, (catL s f n).length = n * s
  | 0 => by simp [catL]
  | n + 1 => by simp only [catL, List.length_append, catL_len s f n, numL_len, Nat.succ_mul]
def catV (G : Nat → Nat → Int) : Nat → List Int
  | 0 => []
  | n + 1 => catV G n ++ catL 5 (G n) 3
theorem catV_len (G : Nat → Nat → Int) : ∀ n, (catV G n).length = n * 15
  | 0 => rfl
  | n + 1 => by simp only [catV, List.length_append, catV_len G n, catL_len]; omega
def wh (W H : Int) : Nat → Int
  | 0 => W
  | _ + 1 => H
theorem wM_snew {m : AMem} {w rb : Nat} (X : List Int) (b c : Blk) (L : AMem) : (wM m w rb X ++ b :: L).set m.length c = wM m w rb X ++ c :: L := by
  rw [List.set_append_right _ _ (by rw [wM_len]; omega), wM_len, Nat.sub_self]; rfl
theorem u64b (x : Int) : 0 ≤ IntKind.u64.wrap x ∧ IntKind.u64.wrap x ≤ 18446744073709551615 := by rw [IntKind.wrap_u64]; omega
theorem fixs_c (w rb : Nat) (bs : List Int) (r v n : Nat) (f : Nat → Int) (m : AMem) (hW : WAt m w rb bs) (hp : ∃ k ez, m[r]? = some ⟨k, 66, v, ez, il n f⟩) (hn : n ≤ 1048576) (hs : bs.length ≤ 50000000000) : Ctr Try.prog 35 [.one (.ptr w 0 0), .one (.sl r v 0 n)] m (.tup []) (wM m w rb (bs ++ catL 5 f n)) := by
  refine Ctr.enter Try.func35 rfl (by decide) (rs := []) (nt := 17) rfl rfl fun hwf Q hQ => ?_
  have lw := get_lt hW.hw
  have lb := get_lt hW.hb
  have ne := hW.ne
  have hlen := fun X => @wM_len m w rb X
  have hst := wM_self hW
  have g1 := fun X L => @wM_w m w rb lw ne X L
  have g10 := fun X => @wM_w0 m w rb lw ne X
  have g2 := fun X L => @wM_b m w rb lb X L
  have g20 := fun X => @wM_b0 m w rb lb X
  have g3 := fun X b L => @wM_new0 m w rb X b L
  have s1 := fun X L b => @wM_s1 m w rb lb X L b
  have s2 := fun X L b c => @wM_s2 m w rb lw X L b c
  have g4 := fun X L b => @wM_w2 m w rb lw ne X L b
  have s3 := fun X x => @wM_step m w rb ne X x
  have hwfM := fun X => @wM_wf m w rb m.length lb hwf X
  have two := fun X Y => @wM_two m w rb ne X Y
  have a0 := fun L X => @wM_app m w rb lw lb L X
  have a1 := fun X L Y => (@wM_app (wM m w rb X) w rb (by rw [wM_len]; exact lw) (by rw [wM_len]; exact lb) L Y).trans (by rw [wM_two ne])
  have n1 := fun X b L k => @wM_new m w rb X b L k
  have s5 := fun X b c L => @wM_snew m w rb X b c L
  obtain ⟨k0, ez, hb⟩ := hp
  have hr := get_lt hb
  have n1w := hW.ne1 hb (by simp)
  have n2w := hW.ne2 hb (by simp)
  have o0 := fun X => wM_o0 hb n1w n2w X
  have o1 := fun X L => wM_o hb n1w n2w X L
  have hst0 : wM m w rb (bs ++ catL 5 f 0) = m := by rw [catL, List.append_nil]; exact hst
  refine AW.seq_k fun K hK => ?_
  refine AW.region (by decide) ?_
  simp only [push_cast, Nat.reduceAdd, Nat.reduceMul, Nat.reduceSub, Nat.reduceLeDiff, Nat.reduceLT, Nat.reduceEqDiff, Nat.reduceBEq, Nat.reduceBNe, Nat.reduceMod, Nat.reduceDiv, Int.reduceLE, Int.reduceLT, Int.reduceToNat, Int.reduceAdd, Int.reduceSub, Int.reduceMul, Int.reduceNeg, Int.reduceEq, Int.reduceBEq, Int.reduceBNe, ↓reduceIte, reduceCtorEq, String.reduceBNe, String.reduceEq, reduceDIte, Nat.reducePow, wM_fold, hlen, g1, g10, g2, g20, g3, s1, s2, g4, s3, u8l_len, two, hb, o0]
  refine Thn_n ?_
  refine hK _ _ ?_
  clear hK K
  refine AW.block ?_
  refine AW.loopK [0, 6, 7] (fun i => i ≤ n) (fun i => [(8, .one (.int .i64 (i : Int)))]) (fun i => [(w, wA rb (bs ++ catL 5 f i)), (rb, wB (bs ++ catL 5 f i))]) (fun i => n - i) 0 (by omega) ?_ ?_ fun i hi2 => ?_
  · first | rfl | (simp only [Keeps, Tm.get_cons, Nat.reduceEqDiff, ↓reduceIte, if_true, if_false, ite_true, ite_false, true_and, and_true, and_self, reduceCtorEq] <;> rfl)
  · exact hst0
  try simp only [keepL, setAll, push_cast, Nat.reduceAdd, Nat.reduceMul, Nat.reduceSub, Nat.reduceLeDiff, Nat.reduceLT, Nat.reduceEqDiff, Nat.reduceBEq, Nat.reduceBNe, Nat.reduceMod, Nat.reduceDiv, Int.reduceLE, Int.reduceLT, Int.reduceToNat, Int.reduceAdd, Int.reduceSub, Int.reduceMul, Int.reduceNeg, Int.reduceEq, Int.reduceBEq, Int.reduceBNe, ↓reduceIte, reduceCtorEq, String.reduceBNe, String.reduceEq, reduceDIte, Nat.reducePow, wM_fold, hlen, g1, g10, g2, g20, g3, s1, s2, g4, s3, u8l_len, two, hb, o0]
  refine AW.seq_k fun K hK => ?_
  refine AW.region (by decide) ?_
  simp only [push_cast, Nat.reduceAdd, Nat.reduceMul, Nat.reduceSub, Nat.reduceLeDiff, Nat.reduceLT, Nat.reduceEqDiff, Nat.reduceBEq, Nat.reduceBNe, Nat.reduceMod, Nat.reduceDiv, Int.reduceLE, Int.reduceLT, Int.reduceToNat, Int.reduceAdd, Int.reduceSub, Int.reduceMul, Int.reduceNeg, Int.reduceEq, Int.reduceBEq, Int.reduceBNe, ↓reduceIte, reduceCtorEq, String.reduceBNe, String.reduceEq, reduceDIte, Nat.reducePow, wM_fold, hlen, g1, g10, g2, g20, g3, s1, s2, g4, s3, u8l_len, two, hb, o0]
  refine Thn_n ?_
  refine hK _ _ ?_
  clear hK K
  refine AW.seq_k fun K hK => ?_
  refine AW.cond rfl (fun h9 => ?_) (fun h9 => ?_)
  · have hlt : i < n := by have := of_decide_eq_true h9; omega
    have c1 : (0 : Int) ≤ (i : Int) := by omega
    have c2 : (i : Int) < (n : Int) := by omega
    have g := il_get (f := f) hlt
    refine AW.skip ?_
    refine Thn_n ?_
    refine hK _ _ ?_
    clear hK K
    refine AW.seq_k fun K hK => ?_
    refine AW.block ?_
    refine AW.seq_k fun K hK => ?_
    refine AW.region (by decide) ?_
    simp only [push_cast, Nat.reduceAdd, Nat.reduceMul, Nat.reduceSub, Nat.reduceLeDiff, Nat.reduceLT, Nat.reduceEqDiff, Nat.reduceBEq, Nat.reduceBNe, Nat.reduceMod, Nat.reduceDiv, Int.reduceLE, Int.reduceLT, Int.reduceToNat, Int.reduceAdd, Int.reduceSub, Int.reduceMul, Int.reduceNeg, Int.reduceEq, Int.reduceBEq, Int.reduceBNe, ↓reduceIte, reduceCtorEq, String.reduceBNe, String.reduceEq, reduceDIte, Nat.reducePow, wM_fold, hlen, g1, g10, g2, g20, g3, s1, s2, g4, s3, u8l_len, two, hb, o0, c1, c2, g]
    refine Thn_n ?_
    refine hK _ _ ?_
    clear hK K
    refine AW.region (by decide) ?_
    simp only [push_cast, Nat.reduceAdd, Nat.reduceMul, Nat.reduceSub, Nat.reduceLeDiff, Nat.reduceLT, Nat.reduceEqDiff, Nat.reduceBEq, Nat.reduceBNe, Nat.reduceMod, Nat.reduceDiv, Int.reduceLE, Int.reduceLT, Int.reduceToNat, Int.reduceAdd, Int.reduceSub, Int.reduceMul, Int.reduceNeg, Int.reduceEq, Int.reduceBEq, Int.reduceBNe, ↓reduceIte, reduceCtorEq, String.reduceBNe, String.reduceEq, reduceDIte, Nat.reducePow, wM_fold, hlen, g1, g10, g2, g20, g3, s1, s2, g4, s3, u8l_len, two, hb, o0, c1, c2, g]
    refine CThen.by (raw_c w rb (bs ++ catL 5 f i) (IntKind.u64.wrap (f i)) 5 _ (wM_at lw lb ne _) (u64b _).1 (u64b _).2 (by rw [List.length_append, catL_len]; omega)) ?_
    simp only [push_cast, Nat.reduceAdd, Nat.reduceMul, Nat.reduceSub, Nat.reduceLeDiff, Nat.reduceLT, Nat.reduceEqDiff, Nat.reduceBEq, Nat.reduceBNe, Nat.reduceMod, Nat.reduceDiv, Int.reduceLE, Int.reduceLT, Int.reduceToNat, Int.reduceAdd, Int.reduceSub, Int.reduceMul, Int.reduceNeg, Int.reduceEq, Int.reduceBEq, Int.reduceBNe, ↓reduceIte, reduceCtorEq, String.reduceBNe, String.reduceEq, reduceDIte, Nat.reducePow, wM_fold, hlen, g1, g10, g2, g20, g3, s1, s2, g4, s3, u8l_len, two, hb, o0, c1, c2, g]
    refine InB_n ?_
    refine Thn_n ?_
    refine hK _ _ ?_
    clear hK K
    refine AW.region (by decide) ?_
    simp only [push_cast, Nat.reduceAdd, Nat.reduceMul, Nat.reduceSub, Nat.reduceLeDiff, Nat.reduceLT, Nat.reduceEqDiff, Nat.reduceBEq, Nat.reduceBNe, Nat.reduceMod, Nat.reduceDiv, Int.reduceLE, Int.reduceLT, Int.reduceToNat, Int.reduceAdd, Int.reduceSub, Int.reduceMul, Int.reduceNeg, Int.reduceEq, Int.reduceBEq, Int.reduceBNe, ↓reduceIte, reduceCtorEq, String.reduceBNe, String.reduceEq, reduceDIte, Nat.reducePow, wM_fold, hlen, g1, g10, g2, g20, g3, s1, s2, g4, s3, u8l_len, two, hb, o0, c1, c2, g]
    refine Thn_n ?_
    have hwi : IntKind.i64.wrap ((i:Int)+1) = (i:Int)+1 := wi (by omega)
    have hnx : bs ++ catL 5 f (i + 1) = (bs ++ catL 5 f i) ++ numL (IntKind.u64.wrap (f i)) 5 := by rw [catL, List.append_assoc]
    refine ⟨i + 1, by omega, by omega, ?_⟩
    try simp only [keepL, setAll, push_cast, Nat.reduceAdd, Nat.reduceMul, Nat.reduceSub, Nat.reduceLeDiff, Nat.reduceLT, Nat.reduceEqDiff, Nat.reduceBEq, Nat.reduceBNe, Nat.reduceMod, Nat.reduceDiv, Int.reduceLE, Int.reduceLT, Int.reduceToNat, Int.reduceAdd, Int.reduceSub, Int.reduceMul, Int.reduceNeg, Int.reduceEq, Int.reduceBEq, Int.reduceBNe, ↓reduceIte, reduceCtorEq, String.reduceBNe, String.reduceEq, reduceDIte, Nat.reducePow, wM_fold, hlen, g1, g10, g2, g20, g3, s1, s2, g4, s3, u8l_len, two, hb, o0, c1, c2, g, hwi, hnx]
    exact Weak.same (by simp only [Keeps, Tm.get_cons, Nat.reduceEqDiff, ↓reduceIte, if_true, if_false, ite_true, ite_false, true_and, and_true, and_self, reduceCtorEq, hwi, hnx]) (by first | rfl | simp only [Keeps, Tm.get_cons, Nat.reduceEqDiff, ↓reduceIte, if_true, if_false, ite_true, ite_false, true_and, and_true, and_self, reduceCtorEq, hwi, hnx])
  · have hin : n = i := by have := of_decide_eq_false h9; omega
    subst hin
    refine AW.exit ?_
    refine Thn_e ?_
    clear hK K
    refine Thn_e ?_
    refine InB_here ?_
    refine hQ _ _ _ ?_
    first | refine RetP.dropM0 (wM_len _) (Or.inl rfl) ?_ ?_ (hwfM _) | refine RetP.dropM (wM_len _) (Or.inl rfl) ?_ ?_ (hwfM _)
    · rfl
    · rfl
    
theorem halfs_c (w rb : Nat) (bs : List Int) (r v n : Nat) (f : Nat → Int) (m : AMem) (hW : WAt m w rb bs) (hp : ∃ k ez, m[r]? = some ⟨k, 3, v, ez, il n f⟩) (hn : n ≤ 1048576) (hs : bs.length ≤ 50000000000) : Ctr Try.prog 38 [.one (.ptr w 0 0), .one (.sl r v 0 n)] m (.tup []) (wM m w rb (bs ++ catL 2 f n)) := by
  refine Ctr.enter Try.func38 rfl (by decide) (rs := []) (nt := 17) rfl rfl fun hwf Q hQ => ?_
  have lw := get_lt hW.hw
  have lb := get_lt hW.hb
  have ne := hW.ne
  have hlen := fun X => @wM_len m w rb X
  have hst := wM_self hW
  have g1 := fun X L => @wM_w m w rb lw ne X L
  have g10 := fun X => @wM_w0 m w rb lw ne X
  have g2 := fun X L => @wM_b m w rb lb X L
  have g20 := fun X => @wM_b0 m w rb lb X
  have g3 := fun X b L => @wM_new0 m w rb X b L
  have s1 := fun X L b => @wM_s1 m w rb lb X L b
  have s2 := fun X L b c => @wM_s2 m w rb lw X L b c
  have g4 := fun X L b => @wM_w2 m w rb lw ne X L b
  have s3 := fun X x => @wM_step m w rb ne X x
  have hwfM := fun X => @wM_wf m w rb m.length lb hwf X
  have two := fun X Y => @wM_two m w rb ne X Y
  have a0 := fun L X => @wM_app m w rb lw lb L X
  have a1 := fun X L Y => (@wM_app (wM m w rb X) w rb (by rw [wM_len]; exact lw) (by rw [wM_len]; exact lb) L Y).trans (by rw [wM_two ne])
  have n1 := fun X b L k => @wM_new m w rb X b L k
  have s5 := fun X b c L => @wM_snew m w rb X b c L
  obtain ⟨k0, ez, hb⟩ := hp
  have hr := get_lt hb
  have n1w := hW.ne1 hb (by simp)
  have n2w := hW.ne2 hb (by simp)
  have o0 := fun X => wM_o0 hb n1w n2w X
  have o1 := fun X L => wM_o hb n1w n2w X L
  have hst0 : wM m w rb (bs ++ catL 2 f 0) = m := by rw [catL, List.append_nil]; exact hst
  refine AW.seq_k fun K hK => ?_
  refine AW.region (by decide) ?_
  simp only [push_cast, Nat.reduceAdd, Nat.reduceMul, Nat.reduceSub, Nat.reduceLeDiff, Nat.reduceLT, Nat.reduceEqDiff, Nat.reduceBEq, Nat.reduceBNe, Nat.reduceMod, Nat.reduceDiv, Int.reduceLE, Int.reduceLT, Int.reduceToNat, Int.reduceAdd, Int.reduceSub, Int.reduceMul, Int.reduceNeg, Int.reduceEq, Int.reduceBEq, Int.reduceBNe, ↓reduceIte, reduceCtorEq, String.reduceBNe, String.reduceEq, reduceDIte, Nat.reducePow, wM_fold, hlen, g1, g10, g2, g20, g3, s1, s2, g4, s3, u8l_len, two, hb, o0]
  refine Thn_n ?_
  refine hK _ _ ?_
  clear hK K
  refine AW.block ?_
  refine AW.loopK [0, 6, 7] (fun i => i ≤ n) (fun i => [(8, .one (.int .i64 (i : Int)))]) (fun i => [(w, wA rb (bs ++ catL 2 f i)), (rb, wB (bs ++ catL 2 f i))]) (fun i => n - i) 0 (by omega) ?_ ?_ fun i hi2 => ?_
  · first | rfl | (simp only [Keeps, Tm.get_cons, Nat.reduceEqDiff, ↓reduceIte, if_true, if_false, ite_true, ite_false, true_and, and_true, and_self, reduceCtorEq] <;> rfl)
  · exact hst0
  try simp only [keepL, setAll, push_cast, Nat.reduceAdd, Nat.reduceMul, Nat.reduceSub, Nat.reduceLeDiff, Nat.reduceLT, Nat.reduceEqDiff, Nat.reduceBEq, Nat.reduceBNe, Nat.reduceMod, Nat.reduceDiv, Int.reduceLE, Int.reduceLT, Int.reduceToNat, Int.reduceAdd, Int.reduceSub, Int.reduceMul, Int.reduceNeg, Int.reduceEq, Int.reduceBEq, Int.reduceBNe, ↓reduceIte, reduceCtorEq, String.reduceBNe, String.reduceEq, reduceDIte, Nat.reducePow, wM_fold, hlen, g1, g10, g2, g20, g3, s1, s2, g4, s3, u8l_len, two, hb, o0]
  refine AW.seq_k fun K hK => ?_
  refine AW.region (by decide) ?_
  simp only [push_cast, Nat.reduceAdd, Nat.reduceMul, Nat.reduceSub, Nat.reduceLeDiff, Nat.reduceLT, Nat.reduceEqDiff, Nat.reduceBEq, Nat.reduceBNe, Nat.reduceMod, Nat.reduceDiv, Int.reduceLE, Int.reduceLT, Int.reduceToNat, Int.reduceAdd, Int.reduceSub, Int.reduceMul, Int.reduceNeg, Int.reduceEq, Int.reduceBEq, Int.reduceBNe, ↓reduceIte, reduceCtorEq, String.reduceBNe, String.reduceEq, reduceDIte, Nat.reducePow, wM_fold, hlen, g1, g10, g2, g20, g3, s1, s2, g4, s3, u8l_len, two, hb, o0]
  refine Thn_n ?_
  refine hK _ _ ?_
  clear hK K
  refine AW.seq_k fun K hK => ?_
  refine AW.cond rfl (fun h9 => ?_) (fun h9 => ?_)
  · have hlt : i < n := by have := of_decide_eq_true h9; omega
    have c1 : (0 : Int) ≤ (i : Int) := by omega
    have c2 : (i : Int) < (n : Int) := by omega
    have g := il_get (f := f) hlt
    refine AW.skip ?_
    refine Thn_n ?_
    refine hK _ _ ?_
    clear hK K
    refine AW.seq_k fun K hK => ?_
    refine AW.block ?_
    refine AW.seq_k fun K hK => ?_
    refine AW.region (by decide) ?_
    simp only [push_cast, Nat.reduceAdd, Nat.reduceMul, Nat.reduceSub, Nat.reduceLeDiff, Nat.reduceLT, Nat.reduceEqDiff, Nat.reduceBEq, Nat.reduceBNe, Nat.reduceMod, Nat.reduceDiv, Int.reduceLE, Int.reduceLT, Int.reduceToNat, Int.reduceAdd, Int.reduceSub, Int.reduceMul, Int.reduceNeg, Int.reduceEq, Int.reduceBEq, Int.reduceBNe, ↓reduceIte, reduceCtorEq, String.reduceBNe, String.reduceEq, reduceDIte, Nat.reducePow, wM_fold, hlen, g1, g10, g2, g20, g3, s1, s2, g4, s3, u8l_len, two, hb, o0, c1, c2, g]
    refine Thn_n ?_
    refine hK _ _ ?_
    clear hK K
    refine AW.region (by decide) ?_
    simp only [push_cast, Nat.reduceAdd, Nat.reduceMul, Nat.reduceSub, Nat.reduceLeDiff, Nat.reduceLT, Nat.reduceEqDiff, Nat.reduceBEq, Nat.reduceBNe, Nat.reduceMod, Nat.reduceDiv, Int.reduceLE, Int.reduceLT, Int.reduceToNat, Int.reduceAdd, Int.reduceSub, Int.reduceMul, Int.reduceNeg, Int.reduceEq, Int.reduceBEq, Int.reduceBNe, ↓reduceIte, reduceCtorEq, String.reduceBNe, String.reduceEq, reduceDIte, Nat.reducePow, wM_fold, hlen, g1, g10, g2, g20, g3, s1, s2, g4, s3, u8l_len, two, hb, o0, c1, c2, g]
    refine CThen.by (raw_c w rb (bs ++ catL 2 f i) (IntKind.u64.wrap (f i)) 2 _ (wM_at lw lb ne _) (u64b _).1 (u64b _).2 (by rw [List.length_append, catL_len]; omega)) ?_
    simp only [push_cast, Nat.reduceAdd, Nat.reduceMul, Nat.reduceSub, Nat.reduceLeDiff, Nat.reduceLT, Nat.reduceEqDiff, Nat.reduceBEq, Nat.reduceBNe, Nat.reduceMod, Nat.reduceDiv, Int.reduceLE, Int.reduceLT, Int.reduceToNat, Int.reduceAdd, Int.reduceSub, Int.reduceMul, Int.reduceNeg, Int.reduceEq, Int.reduceBEq, Int.reduceBNe, ↓reduceIte, reduceCtorEq, String.reduceBNe, String.reduceEq, reduceDIte, Nat.reducePow, wM_fold, hlen, g1, g10, g2, g20, g3, s1, s2, g4, s3, u8l_len, two, hb, o0, c1, c2, g]
    refine InB_n ?_
    refine Thn_n ?_
    refine hK _ _ ?_
    clear hK K
    refine AW.region (by decide) ?_
    simp only [push_cast, Nat.reduceAdd, Nat.reduceMul, Nat.reduceSub, Nat.reduceLeDiff, Nat.reduceLT, Nat.reduceEqDiff, Nat.reduceBEq, Nat.reduceBNe, Nat.reduceMod, Nat.reduceDiv, Int.reduceLE, Int.reduceLT, Int.reduceToNat, Int.reduceAdd, Int.reduceSub, Int.reduceMul, Int.reduceNeg, Int.reduceEq, Int.reduceBEq, Int.reduceBNe, ↓reduceIte, reduceCtorEq, String.reduceBNe, String.reduceEq, reduceDIte, Nat.reducePow, wM_fold, hlen, g1, g10, g2, g20, g3, s1, s2, g4, s3, u8l_len, two, hb, o0, c1, c2, g]
    refine Thn_n ?_
    have hwi : IntKind.i64.wrap ((i:Int)+1) = (i:Int)+1 := wi (by omega)
    have hnx : bs ++ catL 2 f (i + 1) = (bs ++ catL 2 f i) ++ numL (IntKind.u64.wrap (f i)) 2 := by rw [catL, List.append_assoc]
    refine ⟨i + 1, by omega, by omega, ?_⟩
    try simp only [keepL, setAll, push_cast, Nat.reduceAdd, Nat.reduceMul, Nat.reduceSub, Nat.reduceLeDiff, Nat.reduceLT, Nat.reduceEqDiff, Nat.reduceBEq, Nat.reduceBNe, Nat.reduceMod, Nat.reduceDiv, Int.reduceLE, Int.reduceLT, Int.reduceToNat, Int.reduceAdd, Int.reduceSub, Int.reduceMul, Int.reduceNeg, Int.reduceEq, Int.reduceBEq, Int.reduceBNe, ↓reduceIte, reduceCtorEq, String.reduceBNe, String.reduceEq, reduceDIte, Nat.reducePow, wM_fold, hlen, g1, g10, g2, g20, g3, s1, s2, g4, s3, u8l_len, two, hb, o0, c1, c2, g, hwi, hnx]
    exact Weak.same (by simp only [Keeps, Tm.get_cons, Nat.reduceEqDiff, ↓reduceIte, if_true, if_false, ite_true, ite_false, true_and, and_true, and_self, reduceCtorEq, hwi, hnx]) (by first | rfl | simp only [Keeps, Tm.get_cons, Nat.reduceEqDiff, ↓reduceIte, if_true, if_false, ite_true, ite_false, true_and, and_true, and_self, reduceCtorEq, hwi, hnx])
  · have hin : n = i := by have := of_decide_eq_false h9; omega
    subst hin
    refine AW.exit ?_
    refine Thn_e ?_
    clear hK K
    refine Thn_e ?_
    refine InB_here ?_
    refine hQ _ _ _ ?_
    first | refine RetP.dropM0 (wM_len _) (Or.inl rfl) ?_ ?_ (hwfM _) | refine RetP.dropM (wM_len _) (Or.inl rfl) ?_ ?_ (hwfM _)
    · rfl
    · rfl
    
theorem vecs_c (w rb : Nat) (bs : List Int) (r v n : Nat) (G : Nat → Nat → Int) (m : AMem) (hW : WAt m w rb bs) (hp : ∃ k ez, m[r]? = some ⟨k, 73, v, ez, dl n G⟩) (hn : n ≤ 1048576) (hs : bs.length ≤ 20000000000) : Ctr Try.prog 36 [.one (.ptr w 0 0), .one (.sl r v 0 n)] m (.tup []) (wM m w rb (bs ++ catV G n)) := by
  refine Ctr.enter Try.func36 rfl (by decide) (rs := []) (nt := 22) rfl rfl fun hwf Q hQ => ?_
  have lw := get_lt hW.hw
  have lb := get_lt hW.hb
  have ne := hW.ne
  have hlen := fun X => @wM_len m w rb X
  have hst := wM_self hW
  have g1 := fun X L => @wM_w m w rb lw ne X L
  have g10 := fun X => @wM_w0 m w rb lw ne X
  have g2 := fun X L => @wM_b m w rb lb X L
  have g20 := fun X => @wM_b0 m w rb lb X
  have g3 := fun X b L => @wM_new0 m w rb X b L
  have s1 := fun X L b => @wM_s1 m w rb lb X L b
  have s2 := fun X L b c => @wM_s2 m w rb lw X L b c
  have g4 := fun X L b => @wM_w2 m w rb lw ne X L b
  have s3 := fun X x => @wM_step m w rb ne X x
  have hwfM := fun X => @wM_wf m w rb m.length lb hwf X
  have two := fun X Y => @wM_two m w rb ne X Y
  have a0 := fun L X => @wM_app m w rb lw lb L X
  have a1 := fun X L Y => (@wM_app (wM m w rb X) w rb (by rw [wM_len]; exact lw) (by rw [wM_len]; exact lb) L Y).trans (by rw [wM_two ne])
  have n1 := fun X b L k => @wM_new m w rb X b L k
  have s5 := fun X b c L => @wM_snew m w rb X b c L
  obtain ⟨k0, ez, hb⟩ := hp
  have hr := get_lt hb
  have n1w := hW.ne1 hb (by simp)
  have n2w := hW.ne2 hb (by simp)
  have o0 := fun X => wM_o0 hb n1w n2w X
  have o1 := fun X L => wM_o hb n1w n2w X L
  have hst0 : wM m w rb (bs ++ catV G 0) = m := by rw [catV, List.append_nil]; exact hst
  refine AW.seq_k fun K hK => ?_
  refine AW.region (by decide) ?_
  simp only [push_cast, Nat.reduceAdd, Nat.reduceMul, Nat.reduceSub, Nat.reduceLeDiff, Nat.reduceLT, Nat.reduceEqDiff, Nat.reduceBEq, Nat.reduceBNe, Nat.reduceMod, Nat.reduceDiv, Int.reduceLE, Int.reduceLT, Int.reduceToNat, Int.reduceAdd, Int.reduceSub, Int.reduceMul, Int.reduceNeg, Int.reduceEq, Int.reduceBEq, Int.reduceBNe, ↓reduceIte, reduceCtorEq, String.reduceBNe, String.reduceEq, reduceDIte, Nat.reducePow, wM_fold, hlen, g1, g10, g2, g20, g3, s1, s2, g4, s3, u8l_len, two, a1, n1, s5, hb, o0, o1, dl_len]
  refine Thn_n ?_
  refine hK _ _ ?_
  clear hK K
  refine AW.block ?_
  refine AW.loopK [0, 6, 7] (fun i => i ≤ n) (fun i => [(8, .one (.int .i64 (i : Int)))]) (fun i => [(w, wA rb (bs ++ catV G i)), (rb, wB (bs ++ catV G i))]) (fun i => n - i) 0 (by omega) ?_ ?_ fun i hi2 => ?_
  · first | rfl | (simp only [Keeps, Tm.get_cons, Nat.reduceEqDiff, ↓reduceIte, if_true, if_false, ite_true, ite_false, true_and, and_true, and_self, reduceCtorEq] <;> rfl)
  · exact hst0
  try simp only [keepL, setAll, push_cast, Nat.reduceAdd, Nat.reduceMul, Nat.reduceSub, Nat.reduceLeDiff, Nat.reduceLT, Nat.reduceEqDiff, Nat.reduceBEq, Nat.reduceBNe, Nat.reduceMod, Nat.reduceDiv, Int.reduceLE, Int.reduceLT, Int.reduceToNat, Int.reduceAdd, Int.reduceSub, Int.reduceMul, Int.reduceNeg, Int.reduceEq, Int.reduceBEq, Int.reduceBNe, ↓reduceIte, reduceCtorEq, String.reduceBNe, String.reduceEq, reduceDIte, Nat.reducePow, wM_fold, hlen, g1, g10, g2, g20, g3, s1, s2, g4, s3, u8l_len, two, a1, n1, s5, hb, o0, o1, dl_len]
  refine AW.seq_k fun K hK => ?_
  refine AW.region (by decide) ?_
  simp only [push_cast, Nat.reduceAdd, Nat.reduceMul, Nat.reduceSub, Nat.reduceLeDiff, Nat.reduceLT, Nat.reduceEqDiff, Nat.reduceBEq, Nat.reduceBNe, Nat.reduceMod, Nat.reduceDiv, Int.reduceLE, Int.reduceLT, Int.reduceToNat, Int.reduceAdd, Int.reduceSub, Int.reduceMul, Int.reduceNeg, Int.reduceEq, Int.reduceBEq, Int.reduceBNe, ↓reduceIte, reduceCtorEq, String.reduceBNe, String.reduceEq, reduceDIte, Nat.reducePow, wM_fold, hlen, g1, g10, g2, g20, g3, s1, s2, g4, s3, u8l_len, two, a1, n1, s5, hb, o0, o1, dl_len]
  refine Thn_n ?_
  refine hK _ _ ?_
  clear hK K
  refine AW.seq_k fun K hK => ?_
  refine AW.cond rfl (fun h9 => ?_) (fun h9 => ?_)
  · have hlt : i < n := by have := of_decide_eq_true h9; omega
    have c1 : (0 : Int) ≤ (i : Int) := by omega
    have c2 : (i : Int) < (n : Int) := by omega
    have c3 : i * 3 + 3 ≤ n * 3 := by omega
    have g0 := dl_get0 (G := G) hlt
    have gg1 := dl_get1 (G := G) hlt
    have gg2 := dl_get2 (G := G) hlt
    refine AW.skip ?_
    refine Thn_n ?_
    refine hK _ _ ?_
    clear hK K
    refine AW.seq_k fun K hK => ?_
    refine AW.block ?_
    refine AW.seq_k fun K hK => ?_
    refine AW.region (by decide) ?_
    simp only [push_cast, Nat.reduceAdd, Nat.reduceMul, Nat.reduceSub, Nat.reduceLeDiff, Nat.reduceLT, Nat.reduceEqDiff, Nat.reduceBEq, Nat.reduceBNe, Nat.reduceMod, Nat.reduceDiv, Int.reduceLE, Int.reduceLT, Int.reduceToNat, Int.reduceAdd, Int.reduceSub, Int.reduceMul, Int.reduceNeg, Int.reduceEq, Int.reduceBEq, Int.reduceBNe, ↓reduceIte, reduceCtorEq, String.reduceBNe, String.reduceEq, reduceDIte, Nat.reducePow, wM_fold, hlen, g1, g10, g2, g20, g3, s1, s2, g4, s3, u8l_len, two, a1, n1, s5, hb, o0, o1, dl_len, c1, c2, c3, g0, gg1, gg2]
    refine Thn_n ?_
    refine hK _ _ ?_
    clear hK K
    refine AW.region (by decide) ?_
    simp only [push_cast, Nat.reduceAdd, Nat.reduceMul, Nat.reduceSub, Nat.reduceLeDiff, Nat.reduceLT, Nat.reduceEqDiff, Nat.reduceBEq, Nat.reduceBNe, Nat.reduceMod, Nat.reduceDiv, Int.reduceLE, Int.reduceLT, Int.reduceToNat, Int.reduceAdd, Int.reduceSub, Int.reduceMul, Int.reduceNeg, Int.reduceEq, Int.reduceBEq, Int.reduceBNe, ↓reduceIte, reduceCtorEq, String.reduceBNe, String.reduceEq, reduceDIte, Nat.reducePow, wM_fold, hlen, g1, g10, g2, g20, g3, s1, s2, g4, s3, u8l_len, two, a1, n1, s5, hb, o0, o1, dl_len, c1, c2, c3, g0, gg1, gg2]
    refine CThen.by (fixs_c w rb (bs ++ catV G i) (m.length + 1) 0 3 (G i) (wM m w rb (bs ++ catV G i) ++ [⟨.fix, 73, 0, 0, [.int .i64 (G i 0), .int .i64 (G i 1), .int .i64 (G i 2)]⟩, ⟨.grow, 66, 0, 1, [.int .i64 (G i 0), .int .i64 (G i 1), .int .i64 (G i 2)]⟩]) ((wM_at lw lb ne _).app _) ⟨.grow, 1, (wM_new _ (wB []) [⟨.fix, 73, 0, 0, [.int .i64 (G i 0), .int .i64 (G i 1), .int .i64 (G i 2)]⟩, ⟨.grow, 66, 0, 1, [.int .i64 (G i 0), .int .i64 (G i 1), .int .i64 (G i 2)]⟩] 1).trans rfl⟩ (by decide) (by rw [List.length_append, catV_len]; omega)) ?_
    simp only [push_cast, Nat.reduceAdd, Nat.reduceMul, Nat.reduceSub, Nat.reduceLeDiff, Nat.reduceLT, Nat.reduceEqDiff, Nat.reduceBEq, Nat.reduceBNe, Nat.reduceMod, Nat.reduceDiv, Int.reduceLE, Int.reduceLT, Int.reduceToNat, Int.reduceAdd, Int.reduceSub, Int.reduceMul, Int.reduceNeg, Int.reduceEq, Int.reduceBEq, Int.reduceBNe, ↓reduceIte, reduceCtorEq, String.reduceBNe, String.reduceEq, reduceDIte, Nat.reducePow, wM_fold, hlen, g1, g10, g2, g20, g3, s1, s2, g4, s3, u8l_len, two, a1, n1, s5, hb, o0, o1, dl_len, c1, c2, c3, g0, gg1, gg2]
    refine InB_n ?_
    refine Thn_n ?_
    refine hK _ _ ?_
    clear hK K
    refine AW.region (by decide) ?_
    simp only [push_cast, Nat.reduceAdd, Nat.reduceMul, Nat.reduceSub, Nat.reduceLeDiff, Nat.reduceLT, Nat.reduceEqDiff, Nat.reduceBEq, Nat.reduceBNe, Nat.reduceMod, Nat.reduceDiv, Int.reduceLE, Int.reduceLT, Int.reduceToNat, Int.reduceAdd, Int.reduceSub, Int.reduceMul, Int.reduceNeg, Int.reduceEq, Int.reduceBEq, Int.reduceBNe, ↓reduceIte, reduceCtorEq, String.reduceBNe, String.reduceEq, reduceDIte, Nat.reducePow, wM_fold, hlen, g1, g10, g2, g20, g3, s1, s2, g4, s3, u8l_len, two, a1, n1, s5, hb, o0, o1, dl_len, c1, c2, c3, g0, gg1, gg2]
    refine Thn_n ?_
    have hwi : IntKind.i64.wrap ((i:Int)+1) = (i:Int)+1 := wi (by omega)
    have hnx : bs ++ catV G (i + 1) = (bs ++ catV G i) ++ catL 5 (G i) 3 := by rw [catV, List.append_assoc]
    refine ⟨i + 1, by omega, by omega, ?_⟩
    try simp only [keepL, setAll, push_cast, Nat.reduceAdd, Nat.reduceMul, Nat.reduceSub, Nat.reduceLeDiff, Nat.reduceLT, Nat.reduceEqDiff, Nat.reduceBEq, Nat.reduceBNe, Nat.reduceMod, Nat.reduceDiv, Int.reduceLE, Int.reduceLT, Int.reduceToNat, Int.reduceAdd, Int.reduceSub, Int.reduceMul, Int.reduceNeg, Int.reduceEq, Int.reduceBEq, Int.reduceBNe, ↓reduceIte, reduceCtorEq, String.reduceBNe, String.reduceEq, reduceDIte, Nat.reducePow, wM_fold, hlen, g1, g10, g2, g20, g3, s1, s2, g4, s3, u8l_len, two, a1, n1, s5, hb, o0, o1, dl_len, c1, c2, c3, g0, gg1, gg2, hwi, hnx]
    exact Weak.to (extra := [_, _]) (by simp only [Keeps, Tm.get_cons, Nat.reduceEqDiff, ↓reduceIte, if_true, if_false, ite_true, ite_false, true_and, and_true, and_self, reduceCtorEq, hwi, hnx]) (by first | rfl | (simp only [List.append_assoc, List.cons_append, List.nil_append]; rfl)) (by first | rfl | (simp [AV.below, CV.below, wM_len]; done) | (simp [AV.below, CV.below, wM_len]; omega)) (by first | exact hwfM _ | (simp only [hlen]; exact hwfM _))
  · have hin : n = i := by have := of_decide_eq_false h9; omega
    subst hin
    refine AW.exit ?_
    refine Thn_e ?_
    clear hK K
    refine Thn_e ?_
    refine InB_here ?_
    refine hQ _ _ _ ?_
    first | refine RetP.dropM0 (wM_len _) (Or.inl rfl) ?_ ?_ (hwfM _) | refine RetP.dropM (wM_len _) (Or.inl rfl) ?_ ?_ (hwfM _)
    · rfl
    · rfl
    
theorem hues_c (w rb : Nat) (bs : List Int) (r v n : Nat) (G : Nat → Nat → Int) (m : AMem) (hW : WAt m w rb bs) (hp : ∃ k ez, m[r]? = some ⟨k, 68, v, ez, dl n G⟩) (hn : n ≤ 1048576) (hs : bs.length ≤ 20000000000) : Ctr Try.prog 37 [.one (.ptr w 0 0), .one (.sl r v 0 n)] m (.tup []) (wM m w rb (bs ++ catV G n)) := by
  refine Ctr.enter Try.func37 rfl (by decide) (rs := []) (nt := 22) rfl rfl fun hwf Q hQ => ?_
  have lw := get_lt hW.hw
  have lb := get_lt hW.hb
  have ne := hW.ne
  have hlen := fun X => @wM_len m w rb X
  have hst := wM_self hW
  have g1 := fun X L => @wM_w m w rb lw ne X L
  have g10 := fun X => @wM_w0 m w rb lw ne X
  have g2 := fun X L => @wM_b m w rb lb X L
  have g20 := fun X => @wM_b0 m w rb lb X
  have g3 := fun X b L => @wM_new0 m w rb X b L
  have s1 := fun X L b => @wM_s1 m w rb lb X L b
  have s2 := fun X L b c => @wM_s2 m w rb lw X L b c
  have g4 := fun X L b => @wM_w2 m w rb lw ne X L b
  have s3 := fun X x => @wM_step m w rb ne X x
  have hwfM := fun X => @wM_wf m w rb m.length lb hwf X
  have two := fun X Y => @wM_two m w rb ne X Y
  have a0 := fun L X => @wM_app m w rb lw lb L X
  have a1 := fun X L Y => (@wM_app (wM m w rb X) w rb (by rw [wM_len]; exact lw) (by rw [wM_len]; exact lb) L Y).trans (by rw [wM_two ne])
  have n1 := fun X b L k => @wM_new m w rb X b L k
  have s5 := fun X b c L => @wM_snew m w rb X b c L
  obtain ⟨k0, ez, hb⟩ := hp
  have hr := get_lt hb
  have n1w := hW.ne1 hb (by simp)
  have n2w := hW.ne2 hb (by simp)
  have o0 := fun X => wM_o0 hb n1w n2w X
  have o1 := fun X L => wM_o hb n1w n2w X L
  have hst0 : wM m w rb (bs ++ catV G 0) = m := by rw [catV, List.append_nil]; exact hst
  refine AW.seq_k fun K hK => ?_
  refine AW.region (by decide) ?_
  simp only [push_cast, Nat.reduceAdd, Nat.reduceMul, Nat.reduceSub, Nat.reduceLeDiff, Nat.reduceLT, Nat.reduceEqDiff, Nat.reduceBEq, Nat.reduceBNe, Nat.reduceMod, Nat.reduceDiv, Int.reduceLE, Int.reduceLT, Int.reduceToNat, Int.reduceAdd, Int.reduceSub, Int.reduceMul, Int.reduceNeg, Int.reduceEq, Int.reduceBEq, Int.reduceBNe, ↓reduceIte, reduceCtorEq, String.reduceBNe, String.reduceEq, reduceDIte, Nat.reducePow, wM_fold, hlen, g1, g10, g2, g20, g3, s1, s2, g4, s3, u8l_len, two, a1, n1, s5, hb, o0, o1, dl_len]
  refine Thn_n ?_
  refine hK _ _ ?_
  clear hK K
  refine AW.block ?_
  refine AW.loopK [0, 6, 7] (fun i => i ≤ n) (fun i => [(8, .one (.int .i64 (i : Int)))]) (fun i => [(w, wA rb (bs ++ catV G i)), (rb, wB (bs ++ catV G i))]) (fun i => n - i) 0 (by omega) ?_ ?_ fun i hi2 => ?_
  · first | rfl | (simp only [Keeps, Tm.get_cons, Nat.reduceEqDiff, ↓reduceIte, if_true, if_false, ite_true, ite_false, true_and, and_true, and_self, reduceCtorEq] <;> rfl)
  · exact hst0
  try simp only [keepL, setAll, push_cast, Nat.reduceAdd, Nat.reduceMul, Nat.reduceSub, Nat.reduceLeDiff, Nat.reduceLT, Nat.reduceEqDiff, Nat.reduceBEq, Nat.reduceBNe, Nat.reduceMod, Nat.reduceDiv, Int.reduceLE, Int.reduceLT, Int.reduceToNat, Int.reduceAdd, Int.reduceSub, Int.reduceMul, Int.reduceNeg, Int.reduceEq, Int.reduceBEq, Int.reduceBNe, ↓reduceIte, reduceCtorEq, String.reduceBNe, String.reduceEq, reduceDIte, Nat.reducePow, wM_fold, hlen, g1, g10, g2, g20, g3, s1, s2, g4, s3, u8l_len, two, a1, n1, s5, hb, o0, o1, dl_len]
  refine AW.seq_k fun K hK => ?_
  refine AW.region (by decide) ?_
  simp only [push_cast, Nat.reduceAdd, Nat.reduceMul, Nat.reduceSub, Nat.reduceLeDiff, Nat.reduceLT, Nat.reduceEqDiff, Nat.reduceBEq, Nat.reduceBNe, Nat.reduceMod, Nat.reduceDiv, Int.reduceLE, Int.reduceLT, Int.reduceToNat, Int.reduceAdd, Int.reduceSub, Int.reduceMul, Int.reduceNeg, Int.reduceEq, Int.reduceBEq, Int.reduceBNe, ↓reduceIte, reduceCtorEq, String.reduceBNe, String.reduceEq, reduceDIte, Nat.reducePow, wM_fold, hlen, g1, g10, g2, g20, g3, s1, s2, g4, s3, u8l_len, two, a1, n1, s5, hb, o0, o1, dl_len]
  refine Thn_n ?_
  refine hK _ _ ?_
  clear hK K
  refine AW.seq_k fun K hK => ?_
  refine AW.cond rfl (fun h9 => ?_) (fun h9 => ?_)
  · have hlt : i < n := by have := of_decide_eq_true h9; omega
    have c1 : (0 : Int) ≤ (i : Int) := by omega
    have c2 : (i : Int) < (n : Int) := by omega
    have c3 : i * 3 + 3 ≤ n * 3 := by omega
    have g0 := dl_get0 (G := G) hlt
    have gg1 := dl_get1 (G := G) hlt
    have gg2 := dl_get2 (G := G) hlt
    refine AW.skip ?_
    refine Thn_n ?_
    refine hK _ _ ?_
    clear hK K
    refine AW.seq_k fun K hK => ?_
    refine AW.block ?_
    refine AW.seq_k fun K hK => ?_
    refine AW.region (by decide) ?_
    simp only [push_cast, Nat.reduceAdd, Nat.reduceMul, Nat.reduceSub, Nat.reduceLeDiff, Nat.reduceLT, Nat.reduceEqDiff, Nat.reduceBEq, Nat.reduceBNe, Nat.reduceMod, Nat.reduceDiv, Int.reduceLE, Int.reduceLT, Int.reduceToNat, Int.reduceAdd, Int.reduceSub, Int.reduceMul, Int.reduceNeg, Int.reduceEq, Int.reduceBEq, Int.reduceBNe, ↓reduceIte, reduceCtorEq, String.reduceBNe, String.reduceEq, reduceDIte, Nat.reducePow, wM_fold, hlen, g1, g10, g2, g20, g3, s1, s2, g4, s3, u8l_len, two, a1, n1, s5, hb, o0, o1, dl_len, c1, c2, c3, g0, gg1, gg2]
    refine Thn_n ?_
    refine hK _ _ ?_
    clear hK K
    refine AW.region (by decide) ?_
    simp only [push_cast, Nat.reduceAdd, Nat.reduceMul, Nat.reduceSub, Nat.reduceLeDiff, Nat.reduceLT, Nat.reduceEqDiff, Nat.reduceBEq, Nat.reduceBNe, Nat.reduceMod, Nat.reduceDiv, Int.reduceLE, Int.reduceLT, Int.reduceToNat, Int.reduceAdd, Int.reduceSub, Int.reduceMul, Int.reduceNeg, Int.reduceEq, Int.reduceBEq, Int.reduceBNe, ↓reduceIte, reduceCtorEq, String.reduceBNe, String.reduceEq, reduceDIte, Nat.reducePow, wM_fold, hlen, g1, g10, g2, g20, g3, s1, s2, g4, s3, u8l_len, two, a1, n1, s5, hb, o0, o1, dl_len, c1, c2, c3, g0, gg1, gg2]
    refine CThen.by (fixs_c w rb (bs ++ catV G i) (m.length + 1) 0 3 (G i) (wM m w rb (bs ++ catV G i) ++ [⟨.fix, 68, 0, 0, [.int .i64 (G i 0), .int .i64 (G i 1), .int .i64 (G i 2)]⟩, ⟨.grow, 66, 0, 1, [.int .i64 (G i 0), .int .i64 (G i 1), .int .i64 (G i 2)]⟩]) ((wM_at lw lb ne _).app _) ⟨.grow, 1, (wM_new _ (wB []) [⟨.fix, 68, 0, 0, [.int .i64 (G i 0), .int .i64 (G i 1), .int .i64 (G i 2)]⟩, ⟨.grow, 66, 0, 1, [.int .i64 (G i 0), .int .i64 (G i 1), .int .i64 (G i 2)]⟩] 1).trans rfl⟩ (by decide) (by rw [List.length_append, catV_len]; omega)) ?_
    simp only [push_cast, Nat.reduceAdd, Nat.reduceMul, Nat.reduceSub, Nat.reduceLeDiff, Nat.reduceLT, Nat.reduceEqDiff, Nat.reduceBEq, Nat.reduceBNe, Nat.reduceMod, Nat.reduceDiv, Int.reduceLE, Int.reduceLT, Int.reduceToNat, Int.reduceAdd, Int.reduceSub, Int.reduceMul, Int.reduceNeg, Int.reduceEq, Int.reduceBEq, Int.reduceBNe, ↓reduceIte, reduceCtorEq, String.reduceBNe, String.reduceEq, reduceDIte, Nat.reducePow, wM_fold, hlen, g1, g10, g2, g20, g3, s1, s2, g4, s3, u8l_len, two, a1, n1, s5, hb, o0, o1, dl_len, c1, c2, c3, g0, gg1, gg2]
    refine InB_n ?_
    refine Thn_n ?_
    refine hK _ _ ?_
    clear hK K
    refine AW.region (by decide) ?_
    simp only [push_cast, Nat.reduceAdd, Nat.reduceMul, Nat.reduceSub, Nat.reduceLeDiff, Nat.reduceLT, Nat.reduceEqDiff, Nat.reduceBEq, Nat.reduceBNe, Nat.reduceMod, Nat.reduceDiv, Int.reduceLE, Int.reduceLT, Int.reduceToNat, Int.reduceAdd, Int.reduceSub, Int.reduceMul, Int.reduceNeg, Int.reduceEq, Int.reduceBEq, Int.reduceBNe, ↓reduceIte, reduceCtorEq, String.reduceBNe, String.reduceEq, reduceDIte, Nat.reducePow, wM_fold, hlen, g1, g10, g2, g20, g3, s1, s2, g4, s3, u8l_len, two, a1, n1, s5, hb, o0, o1, dl_len, c1, c2, c3, g0, gg1, gg2]
    refine Thn_n ?_
    have hwi : IntKind.i64.wrap ((i:Int)+1) = (i:Int)+1 := wi (by omega)
    have hnx : bs ++ catV G (i + 1) = (bs ++ catV G i) ++ catL 5 (G i) 3 := by rw [catV, List.append_assoc]
    refine ⟨i + 1, by omega, by omega, ?_⟩
    try simp only [keepL, setAll, push_cast, Nat.reduceAdd, Nat.reduceMul, Nat.reduceSub, Nat.reduceLeDiff, Nat.reduceLT, Nat.reduceEqDiff, Nat.reduceBEq, Nat.reduceBNe, Nat.reduceMod, Nat.reduceDiv, Int.reduceLE, Int.reduceLT, Int.reduceToNat, Int.reduceAdd, Int.reduceSub, Int.reduceMul, Int.reduceNeg, Int.reduceEq, Int.reduceBEq, Int.reduceBNe, ↓reduceIte, reduceCtorEq, String.reduceBNe, String.reduceEq, reduceDIte, Nat.reducePow, wM_fold, hlen, g1, g10, g2, g20, g3, s1, s2, g4, s3, u8l_len, two, a1, n1, s5, hb, o0, o1, dl_len, c1, c2, c3, g0, gg1, gg2, hwi, hnx]
    exact Weak.to (extra := [_, _]) (by simp only [Keeps, Tm.get_cons, Nat.reduceEqDiff, ↓reduceIte, if_true, if_false, ite_true, ite_false, true_and, and_true, and_self, reduceCtorEq, hwi, hnx]) (by first | rfl | (simp only [List.append_assoc, List.cons_append, List.nil_append]; rfl)) (by first | rfl | (simp [AV.below, CV.below, wM_len]; done) | (simp [AV.below, CV.below, wM_len]; omega)) (by first | exact hwfM _ | (simp only [hlen]; exact hwfM _))
  · have hin : n = i := by have := of_decide_eq_false h9; omega
    subst hin
    refine AW.exit ?_
    refine Thn_e ?_
    clear hK K
    refine Thn_e ?_
    refine InB_here ?_
    refine hQ _ _ _ ?_
    first | refine RetP.dropM0 (wM_len _) (Or.inl rfl) ?_ ?_ (hwfM _) | refine RetP.dropM (wM_len _) (Or.inl rfl) ?_ ?_ (hwfM _)
    · rfl
    · rfl
    
theorem lay_c (w rb : Nat) (bs : List Int) (W H : Int) (r v n : Nat) (G : Nat → Nat → Int) (m : AMem) (hW : WAt m w rb bs) (hp : ∃ k ez, m[r]? = some ⟨k, 68, v, ez, dl n G⟩) (hn : n ≤ 1048576) (hs : bs.length ≤ 10000000000) : Ctr Try.prog 33 [.agg [.int .i64 W, .int .i64 H, .sl r v 0 n], .one (.ptr w 0 0)] m (.tup []) (wM m w rb (bs ++ (catL 2 (wh W H) 2 ++ catV G n))) := by
  refine Ctr.enter Try.func33 rfl (by decide) (rs := []) (nt := 17) rfl rfl fun hwf Q hQ => ?_
  have lw := get_lt hW.hw
  have lb := get_lt hW.hb
  have ne := hW.ne
  have hlen := fun X => @wM_len m w rb X
  have hst := wM_self hW
  have g1 := fun X L => @wM_w m w rb lw ne X L
  have g10 := fun X => @wM_w0 m w rb lw ne X
  have g2 := fun X L => @wM_b m w rb lb X L
  have g20 := fun X => @wM_b0 m w rb lb X
  have g3 := fun X b L => @wM_new0 m w rb X b L
  have s1 := fun X L b => @wM_s1 m w rb lb X L b
  have s2 := fun X L b c => @wM_s2 m w rb lw X L b c
  have g4 := fun X L b => @wM_w2 m w rb lw ne X L b
  have s3 := fun X x => @wM_step m w rb ne X x
  have hwfM := fun X => @wM_wf m w rb m.length lb hwf X
  have two := fun X Y => @wM_two m w rb ne X Y
  have a0 := fun L X => @wM_app m w rb lw lb L X
  have a1 := fun X L Y => (@wM_app (wM m w rb X) w rb (by rw [wM_len]; exact lw) (by rw [wM_len]; exact lb) L Y).trans (by rw [wM_two ne])
  have n1 := fun X b L k => @wM_new m w rb X b L k
  have s5 := fun X b c L => @wM_snew m w rb X b c L
  obtain ⟨k0, ez, hb⟩ := hp
  have hr := get_lt hb
  have n1w := hW.ne1 hb (by simp)
  have n2w := hW.ne2 hb (by simp)
  have o0 := fun X => wM_o0 hb n1w n2w X
  have o1 := fun X L => wM_o hb n1w n2w X L
  
  refine AW.seq_k fun K hK => ?_
  refine AW.region (by decide) ?_
  simp only [push_cast, Nat.reduceAdd, Nat.reduceMul, Nat.reduceSub, Nat.reduceLeDiff, Nat.reduceLT, Nat.reduceEqDiff, Nat.reduceBEq, Nat.reduceBNe, Nat.reduceMod, Nat.reduceDiv, Int.reduceLE, Int.reduceLT, Int.reduceToNat, Int.reduceAdd, Int.reduceSub, Int.reduceMul, Int.reduceNeg, Int.reduceEq, Int.reduceBEq, Int.reduceBNe, ↓reduceIte, reduceCtorEq, String.reduceBNe, String.reduceEq, reduceDIte, Nat.reducePow, wM_fold, hlen, g1, g10, g2, g20, g3, s1, s2, g4, s3, u8l_len, a0, a1, n1, s5, o1]
  refine Thn_n ?_
  refine hK _ _ ?_
  clear hK K
  refine AW.seq_k fun K hK => ?_
  refine AW.region (by decide) ?_
  simp only [push_cast, Nat.reduceAdd, Nat.reduceMul, Nat.reduceSub, Nat.reduceLeDiff, Nat.reduceLT, Nat.reduceEqDiff, Nat.reduceBEq, Nat.reduceBNe, Nat.reduceMod, Nat.reduceDiv, Int.reduceLE, Int.reduceLT, Int.reduceToNat, Int.reduceAdd, Int.reduceSub, Int.reduceMul, Int.reduceNeg, Int.reduceEq, Int.reduceBEq, Int.reduceBNe, ↓reduceIte, reduceCtorEq, String.reduceBNe, String.reduceEq, reduceDIte, Nat.reducePow, wM_fold, hlen, g1, g10, g2, g20, g3, s1, s2, g4, s3, u8l_len, a0, a1, n1, s5, o1]
  refine CThen.by (halfs_c w rb bs (m.length + 1) 0 2 (wh W H) _ (hW.app _) ⟨.grow, 1, by rw [lk_app]; rfl⟩ (by decide) (by omega)) ?_
  simp only [push_cast, Nat.reduceAdd, Nat.reduceMul, Nat.reduceSub, Nat.reduceLeDiff, Nat.reduceLT, Nat.reduceEqDiff, Nat.reduceBEq, Nat.reduceBNe, Nat.reduceMod, Nat.reduceDiv, Int.reduceLE, Int.reduceLT, Int.reduceToNat, Int.reduceAdd, Int.reduceSub, Int.reduceMul, Int.reduceNeg, Int.reduceEq, Int.reduceBEq, Int.reduceBNe, ↓reduceIte, reduceCtorEq, String.reduceBNe, String.reduceEq, reduceDIte, Nat.reducePow, wM_fold, hlen, g1, g10, g2, g20, g3, s1, s2, g4, s3, u8l_len, a0, a1, n1, s5, o1]
  refine Thn_n ?_
  refine hK _ _ ?_
  clear hK K
  refine AW.region (by decide) ?_
  simp only [push_cast, Nat.reduceAdd, Nat.reduceMul, Nat.reduceSub, Nat.reduceLeDiff, Nat.reduceLT, Nat.reduceEqDiff, Nat.reduceBEq, Nat.reduceBNe, Nat.reduceMod, Nat.reduceDiv, Int.reduceLE, Int.reduceLT, Int.reduceToNat, Int.reduceAdd, Int.reduceSub, Int.reduceMul, Int.reduceNeg, Int.reduceEq, Int.reduceBEq, Int.reduceBNe, ↓reduceIte, reduceCtorEq, String.reduceBNe, String.reduceEq, reduceDIte, Nat.reducePow, wM_fold, hlen, g1, g10, g2, g20, g3, s1, s2, g4, s3, u8l_len, a0, a1, n1, s5, o1]
  refine CThen.by (hues_c w rb (bs ++ catL 2 (wh W H) 2) r v n G _ ((wM_at lw lb ne _).app _) ⟨_, _, o1 _ _⟩ hn (by rw [List.length_append, catL_len]; omega)) ?_
  simp only [push_cast, Nat.reduceAdd, Nat.reduceMul, Nat.reduceSub, Nat.reduceLeDiff, Nat.reduceLT, Nat.reduceEqDiff, Nat.reduceBEq, Nat.reduceBNe, Nat.reduceMod, Nat.reduceDiv, Int.reduceLE, Int.reduceLT, Int.reduceToNat, Int.reduceAdd, Int.reduceSub, Int.reduceMul, Int.reduceNeg, Int.reduceEq, Int.reduceBEq, Int.reduceBNe, ↓reduceIte, reduceCtorEq, String.reduceBNe, String.reduceEq, reduceDIte, Nat.reducePow, wM_fold, hlen, g1, g10, g2, g20, g3, s1, s2, g4, s3, u8l_len, a0, a1, n1, s5, o1]
  refine hQ _ _ _ ?_
  first | refine RetP.dropM0 (wM_len _) (Or.inl rfl) ?_ ?_ (hwfM _) | refine RetP.dropM (wM_len _) (Or.inl rfl) ?_ ?_ (hwfM _)
  · rfl
  · rfl
  
theorem new_c (m : AMem) : Ctr Try.prog 32 [] m (.one (.ptr m.length 0 0)) (m ++ [⟨.fix, 107, 0, 0, [.nils]⟩]) := by
  refine Ctr.enter Try.func32 rfl (by decide) (rs := [.tmp 0]) (nt := 3) rfl rfl fun hwf Q hQ => ?_
  have hlt0 : ∀ k, ¬ m.length + k < m.length := fun k => by omega
  iterate 2
    refine AW.seq_k fun K hK => ?_
    refine AW.region (by decide) ?_
    simp only [push_cast, Nat.reduceAdd, Nat.reduceMul, Nat.reduceSub, Nat.reduceLeDiff, Nat.reduceLT, Nat.reduceEqDiff, Nat.reduceBEq, Nat.reduceBNe, Nat.reduceMod, Nat.reduceDiv, Int.reduceLE, Int.reduceLT, Int.reduceToNat, Int.reduceAdd, Int.reduceSub, Int.reduceMul, Int.reduceNeg, Int.reduceEq, Int.reduceBEq, Int.reduceBNe, ↓reduceIte, reduceCtorEq, String.reduceBNe, String.reduceEq, reduceDIte, Nat.reducePow]
    refine Thn_n ?_
    refine hK _ _ ?_
    clear hK K
  refine AW.ret ?_
  refine hQ _ _ _ ?_
  refine RetP.pick [(m.length, 0)] (Or.inr rfl) ?_ ?_ ?_ hwf ?_
  · simp only [resA, resOne, resTv, AV.tv, push_cast, Nat.reduceAdd, Nat.reduceMul, Nat.reduceSub, Nat.reduceLeDiff, Nat.reduceLT, Nat.reduceEqDiff, Nat.reduceBEq, Nat.reduceBNe, Nat.reduceMod, Nat.reduceDiv, Int.reduceLE, Int.reduceLT, Int.reduceToNat, Int.reduceAdd, Int.reduceSub, Int.reduceMul, Int.reduceNeg, Int.reduceEq, Int.reduceBEq, Int.reduceBNe, ↓reduceIte, reduceCtorEq, String.reduceBNe, String.reduceEq, reduceDIte, Nat.reducePow]
    simp [renV, renT, renL, renC, renIdx, hlt0]
  · simp only [picks, push_cast, Nat.reduceAdd, Nat.reduceMul, Nat.reduceSub, Nat.reduceLeDiff, Nat.reduceLT, Nat.reduceEqDiff, Nat.reduceBEq, Nat.reduceBNe, Nat.reduceMod, Nat.reduceDiv, Int.reduceLE, Int.reduceLT, Int.reduceToNat, Int.reduceAdd, Int.reduceSub, Int.reduceMul, Int.reduceNeg, Int.reduceEq, Int.reduceBEq, Int.reduceBNe, ↓reduceIte, reduceCtorEq, String.reduceBNe, String.reduceEq, reduceDIte, Nat.reducePow]
  · simp [distinctFrom]
  · exact MWf_one rfl
  
theorem bytes_c (w rb : Nat) (bs : List Int) (m : AMem) (hW : WAt m w rb bs) (hs : bs.length ≤ 100000000000) : Ctr Try.prog 34 [.one (.ptr w 0 0)] m (.one (.sl m.length 0 0 bs.length)) (m ++ [⟨.grow, 5, 0, 1, u8l bs⟩]) := by
  refine Ctr.enter Try.func34 rfl (by decide) (rs := [.tmp 2]) (nt := 11) rfl rfl fun hwf Q hQ => ?_
  have hlt0 : ∀ k, ¬ m.length + k < m.length := fun k => by omega
  have hw : m[w]? = some ⟨.fix, 107, 0, 0, [.sl rb bs.length 0 bs.length]⟩ := hW.hw
  have hb : m[rb]? = some ⟨.grow, 5, bs.length, 1, u8l bs⟩ := hW.hb
  have tk : (u8l bs).take bs.length = u8l bs := List.take_of_length_le (by rw [u8l_len]; exact Nat.le_refl _)
  have q1 : bs.length ≤ 140737488355328 := by omega
  have vv := u8l_vals bs
  refine AW.seq_k fun K hK => ?_
  refine AW.region (by decide) ?_
  simp only [push_cast, Nat.reduceAdd, Nat.reduceMul, Nat.reduceSub, Nat.reduceLeDiff, Nat.reduceLT, Nat.reduceEqDiff, Nat.reduceBEq, Nat.reduceBNe, Nat.reduceMod, Nat.reduceDiv, Int.reduceLE, Int.reduceLT, Int.reduceToNat, Int.reduceAdd, Int.reduceSub, Int.reduceMul, Int.reduceNeg, Int.reduceEq, Int.reduceBEq, Int.reduceBNe, ↓reduceIte, reduceCtorEq, String.reduceBNe, String.reduceEq, reduceDIte, Nat.reducePow, hw, lk_old hw, hb, lk_old hb, u8l_len, tk, q1, vv, Nat.zero_add, List.nil_append, Nat.le_refl]
  refine Thn_n ?_
  refine hK _ _ ?_
  clear hK K
  refine AW.seq_k fun K hK => ?_
  refine AW.seq_k fun K hK => ?_
  refine AW.region (by decide) ?_
  simp only [push_cast, Nat.reduceAdd, Nat.reduceMul, Nat.reduceSub, Nat.reduceLeDiff, Nat.reduceLT, Nat.reduceEqDiff, Nat.reduceBEq, Nat.reduceBNe, Nat.reduceMod, Nat.reduceDiv, Int.reduceLE, Int.reduceLT, Int.reduceToNat, Int.reduceAdd, Int.reduceSub, Int.reduceMul, Int.reduceNeg, Int.reduceEq, Int.reduceBEq, Int.reduceBNe, ↓reduceIte, reduceCtorEq, String.reduceBNe, String.reduceEq, reduceDIte, Nat.reducePow, hw, lk_old hw, hb, lk_old hb, u8l_len, tk, q1, vv, Nat.zero_add, List.nil_append, Nat.le_refl]
  refine Thn_n ?_
  refine hK _ _ ?_
  clear hK K
  refine AW.cond_f rfl ?_
  refine AW.skip ?_
  refine Thn_n ?_
  refine hK _ _ ?_
  clear hK K
  refine AW.seq_k fun K hK => ?_
  refine AW.region (by decide) ?_
  simp only [push_cast, Nat.reduceAdd, Nat.reduceMul, Nat.reduceSub, Nat.reduceLeDiff, Nat.reduceLT, Nat.reduceEqDiff, Nat.reduceBEq, Nat.reduceBNe, Nat.reduceMod, Nat.reduceDiv, Int.reduceLE, Int.reduceLT, Int.reduceToNat, Int.reduceAdd, Int.reduceSub, Int.reduceMul, Int.reduceNeg, Int.reduceEq, Int.reduceBEq, Int.reduceBNe, ↓reduceIte, reduceCtorEq, String.reduceBNe, String.reduceEq, reduceDIte, Nat.reducePow, hw, lk_old hw, hb, lk_old hb, u8l_len, tk, q1, vv, Nat.zero_add, List.nil_append, Nat.le_refl]
  refine Thn_n ?_
  refine hK _ _ ?_
  clear hK K
  refine AW.ret ?_
  refine hQ _ _ _ ?_
  refine RetP.pick [(m.length, 1)] (Or.inr rfl) ?_ ?_ ?_ hwf ?_
  · simp only [resA, resOne, resTv, AV.tv, push_cast, Nat.reduceAdd, Nat.reduceMul, Nat.reduceSub, Nat.reduceLeDiff, Nat.reduceLT, Nat.reduceEqDiff, Nat.reduceBEq, Nat.reduceBNe, Nat.reduceMod, Nat.reduceDiv, Int.reduceLE, Int.reduceLT, Int.reduceToNat, Int.reduceAdd, Int.reduceSub, Int.reduceMul, Int.reduceNeg, Int.reduceEq, Int.reduceBEq, Int.reduceBNe, ↓reduceIte, reduceCtorEq, String.reduceBNe, String.reduceEq, reduceDIte, Nat.reducePow]
    simp [renV, renT, renL, renC, renIdx, hlt0]
  · simp only [picks, push_cast, Nat.reduceAdd, Nat.reduceMul, Nat.reduceSub, Nat.reduceLeDiff, Nat.reduceLT, Nat.reduceEqDiff, Nat.reduceBEq, Nat.reduceBNe, Nat.reduceMod, Nat.reduceDiv, Int.reduceLE, Int.reduceLT, Int.reduceToNat, Int.reduceAdd, Int.reduceSub, Int.reduceMul, Int.reduceNeg, Int.reduceEq, Int.reduceBEq, Int.reduceBNe, ↓reduceIte, reduceCtorEq, String.reduceBNe, String.reduceEq, reduceDIte, Nat.reducePow]
  · simp [distinctFrom]
  · exact MWf_one (u8l_below _ _)
  
theorem encS_no (W H : Int) (rL vL nL : Nat) (GL : Nat → Nat → Int) (m : AMem) (hz : shR W H nL = false) : Ctr Try.prog 16 [.agg [.int .i64 W, .int .i64 H, .sl rL vL 0 nL]] m (.tup [(false, [.nils]), (false, [.int .i64 1])]) m := by
  refine Ctr.enter Try.func16 rfl (by decide) (rs := [.tmp 2, .tmp 3]) (nt := 14) rfl rfl fun hwf Q hQ => ?_
  refine AW.seq_k fun K hK => ?_
  refine AW.region (by decide) ?_
  simp only [push_cast, Nat.reduceAdd, Nat.reduceMul, Nat.reduceSub, Nat.reduceLeDiff, Nat.reduceLT, Nat.reduceEqDiff, Nat.reduceBEq, Nat.reduceBNe, Nat.reduceMod, Nat.reduceDiv, Int.reduceLE, Int.reduceLT, Int.reduceToNat, Int.reduceAdd, Int.reduceSub, Int.reduceMul, Int.reduceNeg, Int.reduceEq, Int.reduceBEq, Int.reduceBNe, ↓reduceIte, reduceCtorEq, String.reduceBNe, String.reduceEq, reduceDIte, Nat.reducePow, hz]
  refine Thn_n ?_
  refine hK _ _ ?_
  clear hK K
  refine AW.seq_k fun K hK => ?_
  refine AW.seq_k fun K hK => ?_
  refine AW.region (by decide) ?_
  simp only [push_cast, Nat.reduceAdd, Nat.reduceMul, Nat.reduceSub, Nat.reduceLeDiff, Nat.reduceLT, Nat.reduceEqDiff, Nat.reduceBEq, Nat.reduceBNe, Nat.reduceMod, Nat.reduceDiv, Int.reduceLE, Int.reduceLT, Int.reduceToNat, Int.reduceAdd, Int.reduceSub, Int.reduceMul, Int.reduceNeg, Int.reduceEq, Int.reduceBEq, Int.reduceBNe, ↓reduceIte, reduceCtorEq, String.reduceBNe, String.reduceEq, reduceDIte, Nat.reducePow, hz]
  refine CThen.by (sheetRight_c _ _ _ _ _ _) ?_
  simp only [push_cast, Nat.reduceAdd, Nat.reduceMul, Nat.reduceSub, Nat.reduceLeDiff, Nat.reduceLT, Nat.reduceEqDiff, Nat.reduceBEq, Nat.reduceBNe, Nat.reduceMod, Nat.reduceDiv, Int.reduceLE, Int.reduceLT, Int.reduceToNat, Int.reduceAdd, Int.reduceSub, Int.reduceMul, Int.reduceNeg, Int.reduceEq, Int.reduceBEq, Int.reduceBNe, ↓reduceIte, reduceCtorEq, String.reduceBNe, String.reduceEq, reduceDIte, Nat.reducePow, hz]
  refine Thn_n ?_
  refine hK _ _ ?_
  clear hK K
  refine AW.cond_t rfl ?_
  refine AW.seq_k fun K hK => ?_
  refine AW.region (by decide) ?_
  simp only [push_cast, Nat.reduceAdd, Nat.reduceMul, Nat.reduceSub, Nat.reduceLeDiff, Nat.reduceLT, Nat.reduceEqDiff, Nat.reduceBEq, Nat.reduceBNe, Nat.reduceMod, Nat.reduceDiv, Int.reduceLE, Int.reduceLT, Int.reduceToNat, Int.reduceAdd, Int.reduceSub, Int.reduceMul, Int.reduceNeg, Int.reduceEq, Int.reduceBEq, Int.reduceBNe, ↓reduceIte, reduceCtorEq, String.reduceBNe, String.reduceEq, reduceDIte, Nat.reducePow, hz]
  refine Thn_n ?_
  refine hK _ _ ?_
  clear hK K
  refine AW.ret ?_
  refine Thn_r ?_
  refine hQ _ _ _ ?_
  first | refine RetP.drop0 (Or.inr rfl) ?_ ?_ hwf | refine RetP.drop (Or.inr rfl) ?_ ?_ hwf
  · simp only [resA, resOne, resTv, AV.tv, push_cast, Nat.reduceAdd, Nat.reduceMul, Nat.reduceSub, Nat.reduceLeDiff, Nat.reduceLT, Nat.reduceEqDiff, Nat.reduceBEq, Nat.reduceBNe, Nat.reduceMod, Nat.reduceDiv, Int.reduceLE, Int.reduceLT, Int.reduceToNat, Int.reduceAdd, Int.reduceSub, Int.reduceMul, Int.reduceNeg, Int.reduceEq, Int.reduceBEq, Int.reduceBNe, ↓reduceIte, reduceCtorEq, String.reduceBNe, String.reduceEq, reduceDIte, Nat.reducePow, hz]
  · rfl
theorem encS_ok (W H : Int) (rL vL nL : Nat) (GL : Nat → Nat → Int) (m : AMem) (hp : ∃ k ez, m[rL]? = some ⟨k, 68, vL, ez, dl nL GL⟩) (hn : nL ≤ 1048576) (hz : shR W H nL = true) : Ctr Try.prog 16 [.agg [.int .i64 W, .int .i64 H, .sl rL vL 0 nL]] m (.tup [(false, [.sl m.length 0 0 (catL 2 (wh W H) 2 ++ catV GL nL).length]), (false, [.int .i64 0])]) (m ++ [⟨.grow, 5, 0, 1, u8l (catL 2 (wh W H) 2 ++ catV GL nL)⟩]) := by
  refine Ctr.enter Try.func16 rfl (by decide) (rs := [.tmp 2, .tmp 3]) (nt := 14) rfl rfl fun hwf Q hQ => ?_
  have hlt0 : ∀ k, ¬ m.length + k < m.length := fun k => by omega
  have hM : ∀ (a b c : Blk) (Z : List Int), wM (m ++ [a, b, c]) (m.length + 1) (m.length + 2) Z = m ++ [a, wA (m.length + 2) Z, wB Z] := fun a b c Z => by unfold wM; rw [set_app, set_app]; rfl
  have hAt : ∀ (a : Blk) (Z : List Int), WAt (m ++ [a, wA (m.length + 2) Z, wB Z]) (m.length + 1) (m.length + 2) Z := fun a Z => ⟨by rw [lk_app]; rfl, by rw [lk_app]; rfl, by omega⟩
  obtain ⟨k0, ez, hb⟩ := id hp
  refine AW.seq_k fun K hK => ?_
  refine AW.region (by decide) ?_
  simp only [push_cast, Nat.reduceAdd, Nat.reduceMul, Nat.reduceSub, Nat.reduceLeDiff, Nat.reduceLT, Nat.reduceEqDiff, Nat.reduceBEq, Nat.reduceBNe, Nat.reduceMod, Nat.reduceDiv, Int.reduceLE, Int.reduceLT, Int.reduceToNat, Int.reduceAdd, Int.reduceSub, Int.reduceMul, Int.reduceNeg, Int.reduceEq, Int.reduceBEq, Int.reduceBNe, ↓reduceIte, reduceCtorEq, String.reduceBNe, String.reduceEq, reduceDIte, Nat.reducePow, hz, hM, List.nil_append]
  refine Thn_n ?_
  refine hK _ _ ?_
  clear hK K
  refine AW.seq_k fun K hK => ?_
  refine AW.seq_k fun K hK => ?_
  refine AW.region (by decide) ?_
  simp only [push_cast, Nat.reduceAdd, Nat.reduceMul, Nat.reduceSub, Nat.reduceLeDiff, Nat.reduceLT, Nat.reduceEqDiff, Nat.reduceBEq, Nat.reduceBNe, Nat.reduceMod, Nat.reduceDiv, Int.reduceLE, Int.reduceLT, Int.reduceToNat, Int.reduceAdd, Int.reduceSub, Int.reduceMul, Int.reduceNeg, Int.reduceEq, Int.reduceBEq, Int.reduceBNe, ↓reduceIte, reduceCtorEq, String.reduceBNe, String.reduceEq, reduceDIte, Nat.reducePow, hz, hM, List.nil_append]
  refine CThen.by (sheetRight_c _ _ _ _ _ _) ?_
  simp only [push_cast, Nat.reduceAdd, Nat.reduceMul, Nat.reduceSub, Nat.reduceLeDiff, Nat.reduceLT, Nat.reduceEqDiff, Nat.reduceBEq, Nat.reduceBNe, Nat.reduceMod, Nat.reduceDiv, Int.reduceLE, Int.reduceLT, Int.reduceToNat, Int.reduceAdd, Int.reduceSub, Int.reduceMul, Int.reduceNeg, Int.reduceEq, Int.reduceBEq, Int.reduceBNe, ↓reduceIte, reduceCtorEq, String.reduceBNe, String.reduceEq, reduceDIte, Nat.reducePow, hz, hM, List.nil_append]
  refine Thn_n ?_
  refine hK _ _ ?_
  clear hK K
  refine AW.cond_f rfl ?_
  refine AW.skip ?_
  refine Thn_n ?_
  refine hK _ _ ?_
  clear hK K
  refine AW.seq_k fun K hK => ?_
  refine AW.region (by decide) ?_
  simp only [push_cast, Nat.reduceAdd, Nat.reduceMul, Nat.reduceSub, Nat.reduceLeDiff, Nat.reduceLT, Nat.reduceEqDiff, Nat.reduceBEq, Nat.reduceBNe, Nat.reduceMod, Nat.reduceDiv, Int.reduceLE, Int.reduceLT, Int.reduceToNat, Int.reduceAdd, Int.reduceSub, Int.reduceMul, Int.reduceNeg, Int.reduceEq, Int.reduceBEq, Int.reduceBNe, ↓reduceIte, reduceCtorEq, String.reduceBNe, String.reduceEq, reduceDIte, Nat.reducePow, hz, hM, List.nil_append]
  refine CThen.by (new_c _) ?_
  simp only [push_cast, Nat.reduceAdd, Nat.reduceMul, Nat.reduceSub, Nat.reduceLeDiff, Nat.reduceLT, Nat.reduceEqDiff, Nat.reduceBEq, Nat.reduceBNe, Nat.reduceMod, Nat.reduceDiv, Int.reduceLE, Int.reduceLT, Int.reduceToNat, Int.reduceAdd, Int.reduceSub, Int.reduceMul, Int.reduceNeg, Int.reduceEq, Int.reduceBEq, Int.reduceBNe, ↓reduceIte, reduceCtorEq, String.reduceBNe, String.reduceEq, reduceDIte, Nat.reducePow, hz, hM, List.nil_append]
  refine Thn_n ?_
  refine hK _ _ ?_
  clear hK K
  refine AW.seq_k fun K hK => ?_
  refine AW.nilCell 5 1 (m.length + 1) 0 (by simp only [push_cast, Nat.reduceAdd, Nat.reduceMul, Nat.reduceSub, Nat.reduceLeDiff, Nat.reduceLT, Nat.reduceEqDiff, Nat.reduceBEq, Nat.reduceBNe, Nat.reduceMod, Nat.reduceDiv, Int.reduceLE, Int.reduceLT, Int.reduceToNat, Int.reduceAdd, Int.reduceSub, Int.reduceMul, Int.reduceNeg, Int.reduceEq, Int.reduceBEq, Int.reduceBNe, ↓reduceIte, reduceCtorEq, String.reduceBNe, String.reduceEq, reduceDIte, Nat.reducePow]; first | done | rfl) (by intro e; cases e) rfl ?_
  try simp only [push_cast, Nat.reduceAdd, Nat.reduceMul, Nat.reduceSub, Nat.reduceLeDiff, Nat.reduceLT, Nat.reduceEqDiff, Nat.reduceBEq, Nat.reduceBNe, Nat.reduceMod, Nat.reduceDiv, Int.reduceLE, Int.reduceLT, Int.reduceToNat, Int.reduceAdd, Int.reduceSub, Int.reduceMul, Int.reduceNeg, Int.reduceEq, Int.reduceBEq, Int.reduceBNe, ↓reduceIte, reduceCtorEq, String.reduceBNe, String.reduceEq, reduceDIte, Nat.reducePow]
  refine AW.region (by decide) ?_
  simp only [push_cast, Nat.reduceAdd, Nat.reduceMul, Nat.reduceSub, Nat.reduceLeDiff, Nat.reduceLT, Nat.reduceEqDiff, Nat.reduceBEq, Nat.reduceBNe, Nat.reduceMod, Nat.reduceDiv, Int.reduceLE, Int.reduceLT, Int.reduceToNat, Int.reduceAdd, Int.reduceSub, Int.reduceMul, Int.reduceNeg, Int.reduceEq, Int.reduceBEq, Int.reduceBNe, ↓reduceIte, reduceCtorEq, String.reduceBNe, String.reduceEq, reduceDIte, Nat.reducePow, hz, hM, List.nil_append]
  refine CThen.by (lay_c (m.length + 1) (m.length + 2) [] W H rL vL nL GL _ (hAt _ []) ⟨_, _, lk_old hb _⟩ hn (by simp)) ?_
  simp only [push_cast, Nat.reduceAdd, Nat.reduceMul, Nat.reduceSub, Nat.reduceLeDiff, Nat.reduceLT, Nat.reduceEqDiff, Nat.reduceBEq, Nat.reduceBNe, Nat.reduceMod, Nat.reduceDiv, Int.reduceLE, Int.reduceLT, Int.reduceToNat, Int.reduceAdd, Int.reduceSub, Int.reduceMul, Int.reduceNeg, Int.reduceEq, Int.reduceBEq, Int.reduceBNe, ↓reduceIte, reduceCtorEq, String.reduceBNe, String.reduceEq, reduceDIte, Nat.reducePow, hz, hM, List.nil_append]
  refine Thn_n ?_
  refine hK _ _ ?_
  clear hK K
  refine AW.seq_k fun K hK => ?_
  refine AW.region (by decide) ?_
  simp only [push_cast, Nat.reduceAdd, Nat.reduceMul, Nat.reduceSub, Nat.reduceLeDiff, Nat.reduceLT, Nat.reduceEqDiff, Nat.reduceBEq, Nat.reduceBNe, Nat.reduceMod, Nat.reduceDiv, Int.reduceLE, Int.reduceLT, Int.reduceToNat, Int.reduceAdd, Int.reduceSub, Int.reduceMul, Int.reduceNeg, Int.reduceEq, Int.reduceBEq, Int.reduceBNe, ↓reduceIte, reduceCtorEq, String.reduceBNe, String.reduceEq, reduceDIte, Nat.reducePow, hz, hM, List.nil_append]
  refine CThen.by (bytes_c (m.length + 1) (m.length + 2) (catL 2 (wh W H) 2 ++ catV GL nL) _ (hAt _ _) (by simp only [List.length_append, catL_len, catV_len, List.length_nil]; omega)) ?_
  simp only [push_cast, Nat.reduceAdd, Nat.reduceMul, Nat.reduceSub, Nat.reduceLeDiff, Nat.reduceLT, Nat.reduceEqDiff, Nat.reduceBEq, Nat.reduceBNe, Nat.reduceMod, Nat.reduceDiv, Int.reduceLE, Int.reduceLT, Int.reduceToNat, Int.reduceAdd, Int.reduceSub, Int.reduceMul, Int.reduceNeg, Int.reduceEq, Int.reduceBEq, Int.reduceBNe, ↓reduceIte, reduceCtorEq, String.reduceBNe, String.reduceEq, reduceDIte, Nat.reducePow, hz, hM, List.nil_append]
  refine Thn_n ?_
  refine hK _ _ ?_
  clear hK K
  refine AW.ret ?_
  refine hQ _ _ _ ?_
  refine RetP.pick [(m.length + 3, 0)] (Or.inr rfl) ?_ ?_ ?_ hwf ?_
  · simp only [resA, resOne, resTv, AV.tv, push_cast, Nat.reduceAdd, Nat.reduceMul, Nat.reduceSub, Nat.reduceLeDiff, Nat.reduceLT, Nat.reduceEqDiff, Nat.reduceBEq, Nat.reduceBNe, Nat.reduceMod, Nat.reduceDiv, Int.reduceLE, Int.reduceLT, Int.reduceToNat, Int.reduceAdd, Int.reduceSub, Int.reduceMul, Int.reduceNeg, Int.reduceEq, Int.reduceBEq, Int.reduceBNe, ↓reduceIte, reduceCtorEq, String.reduceBNe, String.reduceEq, reduceDIte, Nat.reducePow]
    simp [renV, renT, renL, renC, renIdx, hlt0]
  · simp only [picks, push_cast, Nat.reduceAdd, Nat.reduceMul, Nat.reduceSub, Nat.reduceLeDiff, Nat.reduceLT, Nat.reduceEqDiff, Nat.reduceBEq, Nat.reduceBNe, Nat.reduceMod, Nat.reduceDiv, Int.reduceLE, Int.reduceLT, Int.reduceToNat, Int.reduceAdd, Int.reduceSub, Int.reduceMul, Int.reduceNeg, Int.reduceEq, Int.reduceBEq, Int.reduceBNe, ↓reduceIte, reduceCtorEq, String.reduceBNe, String.reduceEq, reduceDIte, Nat.reducePow]
  · simp [distinctFrom]
  · exact MWf_one (u8l_below _ _)
  
end Go.Proofs.Ytgbehbaecdepjaa
