/- Walks and facts of this seat's program over abstract states, printed by a program of mine; no conditions but those that each theorem names. -/
import Derived.Test.YtmjbbnfmhgcfaaaSeal2
set_option linter.unusedSimpArgs false
set_option linter.unusedVariables false
set_option maxRecDepth 100000
set_option maxHeartbeats 4000000
namespace Go.Proofs.Ytmjbbnfmhgcfaaa
open Go Go.Eng

theorem stir_c (rp : Nat) (S : S8) (bc : CV) (n : Int) (rb v off len : Nat) (bs : List Int) (m : AMem) (hp : m[rp]? = some ⟨.fix, 74, 0, 0, [.int .u32 (S).a, .int .u32 (S).b, .int .u32 (S).c, .int .u32 (S).d, .int .u32 (S).e, .int .u32 (S).f, .int .u32 (S).g, .int .u32 (S).h, bc, .int .u64 n]⟩) (hbc : bc.below m.length = true) (hb : ∃ k ez, m[rb]? = some ⟨k, 5, v, ez, u8l bs⟩) (hl : 64 ≤ len) (hl2 : len ≤ 1000000000) (hf : off + len ≤ bs.length) (hu : ∀ i, 0 ≤ byB bs i ∧ byB bs i ≤ 255) : Ctr Try.prog 31 [.one (.ptr rp 0 0), .one (.sl rb v off len)] m (.tup []) (pS m rp (comp KW S bs off) bc n) := by
  refine Ctr.enter Try.func31 rfl (by decide) (rs := []) (nt := 204) rfl rfl fun hwf Q hQ => ?_
  obtain ⟨k0, ez, hb⟩ := id hb
  have lp := get_lt hp
  have lb := get_lt hb
  have npb : rb ≠ rp := fun e => by subst e; rw [hp] at hb; simp at hb
  have npb2 : rp ≠ rb := fun e => npb e.symm
  have hKw : setL [CV.int .u32 0, CV.int .u32 0, CV.int .u32 0, CV.int .u32 0, CV.int .u32 0, CV.int .u32 0, CV.int .u32 0, CV.int .u32 0, CV.int .u32 0, CV.int .u32 0, CV.int .u32 0, CV.int .u32 0, CV.int .u32 0, CV.int .u32 0, CV.int .u32 0, CV.int .u32 0, CV.int .u32 0, CV.int .u32 0, CV.int .u32 0, CV.int .u32 0, CV.int .u32 0, CV.int .u32 0, CV.int .u32 0, CV.int .u32 0, CV.int .u32 0, CV.int .u32 0, CV.int .u32 0, CV.int .u32 0, CV.int .u32 0, CV.int .u32 0, CV.int .u32 0, CV.int .u32 0, CV.int .u32 0, CV.int .u32 0, CV.int .u32 0, CV.int .u32 0, CV.int .u32 0, CV.int .u32 0, CV.int .u32 0, CV.int .u32 0, CV.int .u32 0, CV.int .u32 0, CV.int .u32 0, CV.int .u32 0, CV.int .u32 0, CV.int .u32 0, CV.int .u32 0, CV.int .u32 0, CV.int .u32 0, CV.int .u32 0, CV.int .u32 0, CV.int .u32 0, CV.int .u32 0, CV.int .u32 0, CV.int .u32 0, CV.int .u32 0, CV.int .u32 0, CV.int .u32 0, CV.int .u32 0, CV.int .u32 0, CV.int .u32 0, CV.int .u32 0, CV.int .u32 0, CV.int .u32 0] 0 (ul KW) = ul KW := setL_full rfl
  have sa : ∀ (L : AMem) (b : Blk), (m ++ L).set rp b = m.set rp b ++ L := fun L b => List.set_append_left _ _ lp
  have sb : ∀ (L : AMem) (b c : Blk), (m.set rp b ++ L).set rp c = m.set rp c ++ L := fun L b c => by rw [List.set_append_left _ _ (by rw [List.length_set]; exact lp), List.set_set]
  have ga : ∀ (L : AMem) (b : Blk), (m.set rp b ++ L)[rp]? = some b := fun L b => by rw [List.getElem?_append_left (by rw [List.length_set]; exact lp), List.getElem?_set_self lp]
  have lK : (ul KW).length = 64 := rfl
  have lS := fun i => sch_len bs off i
  have q1 := p2_32 (n := 3) (by decide)
  have q2 := p2_32 (n := 10) (by decide)
  have q3 : (2:Int)^3 = 8 := by decide
  have q4 : (2:Int)^10 = 1024 := by decide
  have hmx : (if IntKind.u32.signed = true then (-1 : Int) else IntKind.u32.max) = 4294967295 := by decide
  have g00 := fun b : Blk => List.getElem?_set_self (l := m) (i := rp) (a := b) lp
  have gne := fun b : Blk => List.getElem?_set_ne (l := m) (i := rp) (j := rb) (a := b) npb2
  
  refine AW.seq_k fun K hK => ?_
  refine AW.region (by decide) ?_
  simp only [push_cast, simprocAttr, hb, lk_old hb, hp, lk_old hp, ul_vals, ul_len, lS, lK, hKw, Int.le_refl, sa, sb, ga, q1, q2, q3, q4, hmx, g00, gne, lp, List.set_set]
  refine CThen.by (words_c _) ?_
  simp only [push_cast, simprocAttr, hb, lk_old hb, hp, lk_old hp, ul_vals, ul_len, lS, lK, hKw, Int.le_refl, sa, sb, ga, q1, q2, q3, q4, hmx, g00, gne, lp, List.set_set]
  refine Thn_n ?_
  refine hK _ _ ?_
  clear hK K
  refine AW.seq_k fun K hK => ?_
  refine AW.region (by decide) ?_
  simp only [push_cast, simprocAttr, hb, lk_old hb, hp, lk_old hp, ul_vals, ul_len, lS, lK, hKw, Int.le_refl, sa, sb, ga, q1, q2, q3, q4, hmx, g00, gne, lp, List.set_set]
  refine Thn_n ?_
  refine hK _ _ ?_
  clear hK K
  refine AW.seq_k fun K hK => ?_
  refine AW.seq_k fun K hK => ?_
  refine AW.region (by decide) ?_
  simp only [push_cast, simprocAttr, hb, lk_old hb, hp, lk_old hp, ul_vals, ul_len, lS, lK, hKw, Int.le_refl, sa, sb, ga, q1, q2, q3, q4, hmx, g00, gne, lp, List.set_set]
  refine Thn_n ?_
  refine hK _ _ ?_
  clear hK K
  refine AW.block ?_
  refine AW.loopK [0, 1, 4, 5] (fun i => i ≤ (16 : Nat)) (fun i => [(24, .one (.int .i64 (i : Int)))]) (fun i => [(m.length + 1, ⟨.fix, 29, 0, 0, ul (sch bs off i)⟩)]) (fun i => 16 - i) 0 (by omega) ?_ ?_ fun i hi5 => ?_
  · first | rfl | (simp only [Keeps, Tm.get_cons, Nat.reduceEqDiff, ↓reduceIte, if_true, if_false, ite_true, ite_false, true_and, and_true, and_self, reduceCtorEq] <;> rfl)
  · first | rfl | (simp only [setAll, push_cast, simprocAttr, hb, lk_old hb, hp, lk_old hp, ul_vals, ul_len, lS, lK, hKw, Int.le_refl, sa, sb, ga, q1, q2, q3, q4, hmx, g00, gne, lp, List.set_set] <;> rfl)
  try simp only [keepL, setAll, push_cast, simprocAttr, hb, lk_old hb, hp, lk_old hp, ul_vals, ul_len, lS, lK, hKw, Int.le_refl, sa, sb, ga, q1, q2, q3, q4, hmx, g00, gne, lp, List.set_set]
  refine AW.seq_k fun K hK => ?_
  refine AW.region (by decide) ?_
  simp only [push_cast, simprocAttr, hb, lk_old hb, hp, lk_old hp, ul_vals, ul_len, lS, lK, hKw, Int.le_refl, sa, sb, ga, q1, q2, q3, q4, hmx, g00, gne, lp, List.set_set]
  refine Thn_n ?_
  refine hK _ _ ?_
  clear hK K
  refine AW.seq_k fun K hK => ?_
  refine AW.cond rfl (fun h25 => ?_) (fun h25 => ?_)
  · have hlt : i < 16 := by have := of_decide_eq_true h25; omega
    have c1 : (0 : Int) ≤ 4 * (i : Int) := by omega
    have c2 : 4 * (i : Int) ≤ (len : Int) := by omega
    have w1 : IntKind.i64.wrap (4 * (i : Int)) = 4 * (i : Int) := wi (by omega)
    have w2 : (4 * (i : Int)).toNat = 4 * i := by omega
    have c3 : (0 : Int) ≤ (i : Int) := by omega
    have c4 : (i : Int) < 64 := by omega
    have c5 : i + 1 ≤ 64 := by omega
    have snx : ((ul (sch bs off i)).set i (.int .u32 (wordV bs (off + 4 * i)))) = ul (sch bs off (i + 1)) := by rw [ul_set]; simp only [sch, if_pos hlt]
    refine AW.skip ?_
    refine Thn_n ?_
    refine hK _ _ ?_
    clear hK K
    refine AW.seq_k fun K hK => ?_
    refine AW.block ?_
    refine AW.seq_k fun K hK => ?_
    refine AW.region (by decide) ?_
    simp only [push_cast, simprocAttr, hb, lk_old hb, hp, lk_old hp, ul_vals, ul_len, lS, lK, hKw, Int.le_refl, sa, sb, ga, q1, q2, q3, q4, hmx, g00, gne, lp, List.set_set, c1, c2, w1, w2, c3, c4, c5]
    refine Thn_n ?_
    refine hK _ _ ?_
    clear hK K
    refine AW.region (by decide) ?_
    simp only [push_cast, simprocAttr, hb, lk_old hb, hp, lk_old hp, ul_vals, ul_len, lS, lK, hKw, Int.le_refl, sa, sb, ga, q1, q2, q3, q4, hmx, g00, gne, lp, List.set_set, c1, c2, w1, w2, c3, c4, c5]
    refine CThen.by (word_c rb v (off + 4 * i) (len - 4 * i) bs _ ⟨_, _, lk_old hb _⟩ (by omega) (by omega) hu) ?_
    simp only [push_cast, simprocAttr, hb, lk_old hb, hp, lk_old hp, ul_vals, ul_len, lS, lK, hKw, Int.le_refl, sa, sb, ga, q1, q2, q3, q4, hmx, g00, gne, lp, List.set_set, c1, c2, w1, w2, c3, c4, c5]
    refine InB_n ?_
    refine Thn_n ?_
    refine hK _ _ ?_
    clear hK K
    refine AW.region (by decide) ?_
    simp only [push_cast, simprocAttr, hb, lk_old hb, hp, lk_old hp, ul_vals, ul_len, lS, lK, hKw, Int.le_refl, sa, sb, ga, q1, q2, q3, q4, hmx, g00, gne, lp, List.set_set, c1, c2, w1, w2, c3, c4, c5]
    refine Thn_n ?_
    have hwi : IntKind.i64.wrap ((i:Int)+1) = (i:Int)+1 := wi (by omega)
    refine ⟨i + 1, by omega, by omega, ?_⟩
    try simp only [keepL, setAll, push_cast, simprocAttr, hb, lk_old hb, hp, lk_old hp, ul_vals, ul_len, lS, lK, hKw, Int.le_refl, sa, sb, ga, q1, q2, q3, q4, hmx, g00, gne, lp, List.set_set, c1, c2, w1, w2, c3, c4, c5, hwi, snx]
    exact Weak.same (by simp only [Keeps, Tm.get_cons, Nat.reduceEqDiff, ↓reduceIte, if_true, if_false, ite_true, ite_false, true_and, and_true, and_self, reduceCtorEq, hwi, snx]) (by first | rfl | simp only [Keeps, Tm.get_cons, Nat.reduceEqDiff, ↓reduceIte, if_true, if_false, ite_true, ite_false, true_and, and_true, and_self, reduceCtorEq, hwi, snx])
  · have hin : i = 16 := by have := of_decide_eq_false h25; omega
    subst hin
    refine AW.exit ?_
    refine Thn_e ?_
    clear hK K
    refine Thn_e ?_
    refine InB_here ?_
    refine Thn_n ?_
    refine hK _ _ ?_
    clear hK K
    refine AW.seq_k fun K hK => ?_
    refine AW.seq_k fun K hK => ?_
    refine AW.region (by decide) ?_
    simp only [push_cast, simprocAttr, hb, lk_old hb, hp, lk_old hp, ul_vals, ul_len, lS, lK, hKw, Int.le_refl, sa, sb, ga, q1, q2, q3, q4, hmx, g00, gne, lp, List.set_set]
    refine Thn_n ?_
    refine hK _ _ ?_
    clear hK K
    refine AW.block ?_
    refine AW.loopK [0, 4, 5] (fun i => (16 : Nat) ≤ i ∧ i ≤ (64 : Nat)) (fun i => [(7, .one (.int .i64 (i : Int)))]) (fun i => [(m.length + 1, ⟨.fix, 29, 0, 0, ul (sch bs off i)⟩)]) (fun i => 64 - i) 16 ⟨by omega, by omega⟩ ?_ ?_ fun i hi12 => ?_
    · first | rfl | (simp only [Keeps, Tm.get_cons, Nat.reduceEqDiff, ↓reduceIte, if_true, if_false, ite_true, ite_false, true_and, and_true, and_self, reduceCtorEq] <;> rfl)
    · first | rfl | (simp only [setAll, push_cast, simprocAttr, hb, lk_old hb, hp, lk_old hp, ul_vals, ul_len, lS, lK, hKw, Int.le_refl, sa, sb, ga, q1, q2, q3, q4, hmx, g00, gne, lp, List.set_set] <;> rfl)
    obtain ⟨hi16, hi64⟩ := hi12
    try simp only [keepL, setAll, push_cast, simprocAttr, hb, lk_old hb, hp, lk_old hp, ul_vals, ul_len, lS, lK, hKw, Int.le_refl, sa, sb, ga, q1, q2, q3, q4, hmx, g00, gne, lp, List.set_set]
    refine AW.seq_k fun K hK => ?_
    refine AW.seq_k fun K hK => ?_
    refine AW.region (by decide) ?_
    simp only [push_cast, simprocAttr, hb, lk_old hb, hp, lk_old hp, ul_vals, ul_len, lS, lK, hKw, Int.le_refl, sa, sb, ga, q1, q2, q3, q4, hmx, g00, gne, lp, List.set_set]
    refine Thn_n ?_
    refine hK _ _ ?_
    clear hK K
    refine AW.cond rfl (fun h36 => ?_) (fun h36 => ?_)
    · have hlt : i < 64 := by have := of_decide_eq_true h36; omega
      have c3 : (0 : Int) ≤ (i : Int) := by omega
      have c4 : (i : Int) < 64 := by omega
      have c5 : i + 1 ≤ 64 := by omega
      have g15 := ul_get (xs := sch bs off i) (i := i - 15) (by rw [sch_len]; omega)
      have v15 : IntKind.i64.wrap ((i : Int) - 15) = (i : Int) - 15 := wi (by omega)
      have d15 : (0 : Int) ≤ (i : Int) - 15 := by omega
      have f15 : (i : Int) - 15 < 64 := by omega
      have z15 : ((i : Int) - 15).toNat = i - 15 := by omega
      have g2 := ul_get (xs := sch bs off i) (i := i - 2) (by rw [sch_len]; omega)
      have v2 : IntKind.i64.wrap ((i : Int) - 2) = (i : Int) - 2 := wi (by omega)
      have d2 : (0 : Int) ≤ (i : Int) - 2 := by omega
      have f2 : (i : Int) - 2 < 64 := by omega
      have z2 : ((i : Int) - 2).toNat = i - 2 := by omega
      have g16 := ul_get (xs := sch bs off i) (i := i - 16) (by rw [sch_len]; omega)
      have v16 : IntKind.i64.wrap ((i : Int) - 16) = (i : Int) - 16 := wi (by omega)
      have d16 : (0 : Int) ≤ (i : Int) - 16 := by omega
      have f16 : (i : Int) - 16 < 64 := by omega
      have z16 : ((i : Int) - 16).toNat = i - 16 := by omega
      have g7 := ul_get (xs := sch bs off i) (i := i - 7) (by rw [sch_len]; omega)
      have v7 : IntKind.i64.wrap ((i : Int) - 7) = (i : Int) - 7 := wi (by omega)
      have d7 : (0 : Int) ≤ (i : Int) - 7 := by omega
      have f7 : (i : Int) - 7 < 64 := by omega
      have z7 : ((i : Int) - 7).toNat = i - 7 := by omega
      have snx : ((ul (sch bs off i)).set i (.int .u32 (mixF (sch bs off i) i))) = ul (sch bs off (i + 1)) := by rw [ul_set]; simp only [sch]; rw [if_neg (by omega)]
      simp only [mixF, a32, s0, s1] at snx
      refine AW.skip ?_
      refine Thn_n ?_
      refine hK _ _ ?_
      clear hK K
      refine AW.seq_k fun K hK => ?_
      refine AW.block ?_
      refine AW.seq_k fun K hK => ?_
      refine AW.draw [.val, .val, .val, .rd 0, .val, .val, .val, .rd 0, .val, .val] fol (by decide) (by kernel_rfl) ?_
      simp only [push_cast, simprocAttr, hb, lk_old hb, hp, lk_old hp, ul_vals, ul_len, lS, lK, hKw, Int.le_refl, sa, sb, ga, q1, q2, q3, q4, hmx, g00, gne, lp, List.set_set, c3, c4, c5, g15, v15, d15, f15, z15, g2, v2, d2, f2, z2, g16, v16, d16, f16, z16, g7, v7, d7, f7, z7]
      refine Thn_n ?_
      refine hK _ _ ?_
      clear hK K
      refine AW.draw [.val, .val, .val, .val, .rd 0, .val, .ext, .val, .ext, .val, .val, .val, .val, .val, .val, .val, .val, .rd 0, .val, .val, .ext, .val, .ext, .val, .val, .val, .val, .val, .val, .wr] fol (by decide) (by kernel_rfl) ?_
      simp only [push_cast, simprocAttr, hb, lk_old hb, hp, lk_old hp, ul_vals, ul_len, lS, lK, hKw, Int.le_refl, sa, sb, ga, q1, q2, q3, q4, hmx, g00, gne, lp, List.set_set, c3, c4, c5, g15, v15, d15, f15, z15, g2, v2, d2, f2, z2, g16, v16, d16, f16, z16, g7, v7, d7, f7, z7]
      refine DCall.by0 (rot_c _ 7 _ (by decide)) ?_
      simp only [push_cast, simprocAttr, hb, lk_old hb, hp, lk_old hp, ul_vals, ul_len, lS, lK, hKw, Int.le_refl, sa, sb, ga, q1, q2, q3, q4, hmx, g00, gne, lp, List.set_set, c3, c4, c5, g15, v15, d15, f15, z15, g2, v2, d2, f2, z2, g16, v16, d16, f16, z16, g7, v7, d7, f7, z7]
      refine DCall.by0 (rot_c _ 18 _ (by decide)) ?_
      simp only [push_cast, simprocAttr, hb, lk_old hb, hp, lk_old hp, ul_vals, ul_len, lS, lK, hKw, Int.le_refl, sa, sb, ga, q1, q2, q3, q4, hmx, g00, gne, lp, List.set_set, c3, c4, c5, g15, v15, d15, f15, z15, g2, v2, d2, f2, z2, g16, v16, d16, f16, z16, g7, v7, d7, f7, z7]
      refine DCall.by0 (rot_c _ 17 _ (by decide)) ?_
      simp only [push_cast, simprocAttr, hb, lk_old hb, hp, lk_old hp, ul_vals, ul_len, lS, lK, hKw, Int.le_refl, sa, sb, ga, q1, q2, q3, q4, hmx, g00, gne, lp, List.set_set, c3, c4, c5, g15, v15, d15, f15, z15, g2, v2, d2, f2, z2, g16, v16, d16, f16, z16, g7, v7, d7, f7, z7]
      refine DCall.by0 (rot_c _ 19 _ (by decide)) ?_
      simp only [push_cast, simprocAttr, hb, lk_old hb, hp, lk_old hp, ul_vals, ul_len, lS, lK, hKw, Int.le_refl, sa, sb, ga, q1, q2, q3, q4, hmx, g00, gne, lp, List.set_set, c3, c4, c5, g15, v15, d15, f15, z15, g2, v2, d2, f2, z2, g16, v16, d16, f16, z16, g7, v7, d7, f7, z7]
      refine InB_n ?_
      refine Thn_n ?_
      refine hK _ _ ?_
      clear hK K
      refine AW.region (by decide) ?_
      simp only [push_cast, simprocAttr, hb, lk_old hb, hp, lk_old hp, ul_vals, ul_len, lS, lK, hKw, Int.le_refl, sa, sb, ga, q1, q2, q3, q4, hmx, g00, gne, lp, List.set_set, c3, c4, c5, g15, v15, d15, f15, z15, g2, v2, d2, f2, z2, g16, v16, d16, f16, z16, g7, v7, d7, f7, z7]
      refine Thn_n ?_
      have hwi : IntKind.i64.wrap ((i:Int)+1) = (i:Int)+1 := wi (by omega)
      refine ⟨i + 1, ⟨by omega, by omega⟩, by omega, ?_⟩
      try simp only [keepL, setAll, push_cast, simprocAttr, hb, lk_old hb, hp, lk_old hp, ul_vals, ul_len, lS, lK, hKw, Int.le_refl, sa, sb, ga, q1, q2, q3, q4, hmx, g00, gne, lp, List.set_set, c3, c4, c5, g15, v15, d15, f15, z15, g2, v2, d2, f2, z2, g16, v16, d16, f16, z16, g7, v7, d7, f7, z7, hwi, snx]
      exact Weak.same (by simp only [Keeps, Tm.get_cons, Nat.reduceEqDiff, ↓reduceIte, if_true, if_false, ite_true, ite_false, true_and, and_true, and_self, reduceCtorEq, hwi, snx]) (by first | rfl | simp only [Keeps, Tm.get_cons, Nat.reduceEqDiff, ↓reduceIte, if_true, if_false, ite_true, ite_false, true_and, and_true, and_self, reduceCtorEq, hwi, snx])
    · have hin : i = 64 := by have := of_decide_eq_false h36; omega
      subst hin
      refine AW.exit ?_
      refine Thn_e ?_
      clear hK K
      refine Thn_e ?_
      refine InB_here ?_
      refine Thn_n ?_
      refine hK _ _ ?_
      clear hK K
      refine AW.seq_k fun K hK => ?_
      refine AW.draw [.val, .val, .val, .val, .rd 0, .val, .val, .val, .val, .rd 0, .val, .val, .val, .val, .rd 0, .val, .val, .val, .val, .rd 0, .val, .val, .val, .val, .rd 0, .val, .val, .val, .val, .rd 0, .val, .val, .val, .val, .rd 0, .val, .val, .val, .val, .rd 0, .val, .val, .val, .val, .val, .val, .val, .val] fol (by decide) (by kernel_rfl) ?_
      simp only [push_cast, simprocAttr, hb, lk_old hb, hp, lk_old hp, ul_vals, ul_len, lS, lK, hKw, Int.le_refl, sa, sb, ga, q1, q2, q3, q4, hmx, g00, gne, lp, List.set_set]
      refine Thn_n ?_
      refine hK _ _ ?_
      clear hK K
      refine AW.seq_k fun K hK => ?_
      refine AW.seq_k fun K hK => ?_
      refine AW.region (by decide) ?_
      simp only [push_cast, simprocAttr, hb, lk_old hb, hp, lk_old hp, ul_vals, ul_len, lS, lK, hKw, Int.le_refl, sa, sb, ga, q1, q2, q3, q4, hmx, g00, gne, lp, List.set_set]
      refine Thn_n ?_
      refine hK _ _ ?_
      clear hK K
      refine AW.block ?_
      refine AW.loopK [0, 4, 5] (fun i => i ≤ (64 : Nat)) (fun i => [(10, .one (.int .u32 (rd KW (sch bs off 64) S i).a)), (11, .one (.int .u32 (rd KW (sch bs off 64) S i).b)), (12, .one (.int .u32 (rd KW (sch bs off 64) S i).c)), (13, .one (.int .u32 (rd KW (sch bs off 64) S i).d)), (14, .one (.int .u32 (rd KW (sch bs off 64) S i).e)), (15, .one (.int .u32 (rd KW (sch bs off 64) S i).f)), (16, .one (.int .u32 (rd KW (sch bs off 64) S i).g)), (17, .one (.int .u32 (rd KW (sch bs off 64) S i).h)), (116, .one (.int .i64 (i : Int)))]) (fun i => []) (fun i => 64 - i) 0 (by omega) ?_ ?_ fun i hi20 => ?_
      · first | rfl | (simp only [Keeps, Tm.get_cons, Nat.reduceEqDiff, ↓reduceIte, if_true, if_false, ite_true, ite_false, true_and, and_true, and_self, reduceCtorEq, rd, Int.natCast_zero] <;> rfl)
      · first | rfl | (simp only [setAll, push_cast, simprocAttr, hb, lk_old hb, hp, lk_old hp, ul_vals, ul_len, lS, lK, hKw, Int.le_refl, sa, sb, ga, q1, q2, q3, q4, hmx, g00, gne, lp, List.set_set, rd, Int.natCast_zero] <;> rfl)
      try simp only [keepL, setAll, push_cast, simprocAttr, hb, lk_old hb, hp, lk_old hp, ul_vals, ul_len, lS, lK, hKw, Int.le_refl, sa, sb, ga, q1, q2, q3, q4, hmx, g00, gne, lp, List.set_set]
      refine AW.seq_k fun K hK => ?_
      refine AW.region (by decide) ?_
      simp only [push_cast, simprocAttr, hb, lk_old hb, hp, lk_old hp, ul_vals, ul_len, lS, lK, hKw, Int.le_refl, sa, sb, ga, q1, q2, q3, q4, hmx, g00, gne, lp, List.set_set]
      refine Thn_n ?_
      refine hK _ _ ?_
      clear hK K
      refine AW.seq_k fun K hK => ?_
      refine AW.cond rfl (fun h117 => ?_) (fun h117 => ?_)
      · have hlt : i < 64 := by have := of_decide_eq_true h117; omega
        have c3 : (0 : Int) ≤ (i : Int) := by omega
        have c4 : (i : Int) < 64 := by omega
        have gk := ul_get (xs := KW) (i := i) (by show i < 64; omega)
        have gw := ul_get (xs := sch bs off 64) (i := i) (by rw [sch_len]; omega)
        refine AW.skip ?_
        refine Thn_n ?_
        refine hK _ _ ?_
        clear hK K
        refine AW.seq_k fun K hK => ?_
        refine AW.block ?_
        refine AW.seq_k fun K hK => ?_
        refine AW.region (by decide) ?_
        simp only [push_cast, simprocAttr, hb, lk_old hb, hp, lk_old hp, ul_vals, ul_len, lS, lK, hKw, Int.le_refl, sa, sb, ga, q1, q2, q3, q4, hmx, g00, gne, lp, List.set_set, c3, c4, gk, gw]
        refine Thn_n ?_
        refine hK _ _ ?_
        clear hK K
        refine AW.seq_k fun K hK => ?_
        refine AW.draw [.val, .val, .ext, .val, .ext, .val, .val, .ext, .val, .val, .val, .val, .val, .val, .val, .val, .val, .val, .val, .val, .val, .rd 0, .val, .val, .val, .rd 0, .val, .val] fol (by decide) (by kernel_rfl) ?_
        simp only [push_cast, simprocAttr, hb, lk_old hb, hp, lk_old hp, ul_vals, ul_len, lS, lK, hKw, Int.le_refl, sa, sb, ga, q1, q2, q3, q4, hmx, g00, gne, lp, List.set_set, c3, c4, gk, gw]
        refine DCall.by0 (rot_c _ 6 _ (by decide)) ?_
        simp only [push_cast, simprocAttr, hb, lk_old hb, hp, lk_old hp, ul_vals, ul_len, lS, lK, hKw, Int.le_refl, sa, sb, ga, q1, q2, q3, q4, hmx, g00, gne, lp, List.set_set, c3, c4, gk, gw]
        refine DCall.by0 (rot_c _ 11 _ (by decide)) ?_
        simp only [push_cast, simprocAttr, hb, lk_old hb, hp, lk_old hp, ul_vals, ul_len, lS, lK, hKw, Int.le_refl, sa, sb, ga, q1, q2, q3, q4, hmx, g00, gne, lp, List.set_set, c3, c4, gk, gw]
        refine DCall.by0 (rot_c _ 25 _ (by decide)) ?_
        simp only [push_cast, simprocAttr, hb, lk_old hb, hp, lk_old hp, ul_vals, ul_len, lS, lK, hKw, Int.le_refl, sa, sb, ga, q1, q2, q3, q4, hmx, g00, gne, lp, List.set_set, c3, c4, gk, gw]
        refine Thn_n ?_
        refine hK _ _ ?_
        clear hK K
        refine AW.seq_k fun K hK => ?_
        refine AW.region (by decide) ?_
        simp only [push_cast, simprocAttr, hb, lk_old hb, hp, lk_old hp, ul_vals, ul_len, lS, lK, hKw, Int.le_refl, sa, sb, ga, q1, q2, q3, q4, hmx, g00, gne, lp, List.set_set, c3, c4, gk, gw]
        refine CThen.by (rot_c _ 2 _ (by decide)) ?_
        simp only [push_cast, simprocAttr, hb, lk_old hb, hp, lk_old hp, ul_vals, ul_len, lS, lK, hKw, Int.le_refl, sa, sb, ga, q1, q2, q3, q4, hmx, g00, gne, lp, List.set_set, c3, c4, gk, gw]
        refine CThen.by (rot_c _ 13 _ (by decide)) ?_
        simp only [push_cast, simprocAttr, hb, lk_old hb, hp, lk_old hp, ul_vals, ul_len, lS, lK, hKw, Int.le_refl, sa, sb, ga, q1, q2, q3, q4, hmx, g00, gne, lp, List.set_set, c3, c4, gk, gw]
        refine CThen.by (rot_c _ 22 _ (by decide)) ?_
        simp only [push_cast, simprocAttr, hb, lk_old hb, hp, lk_old hp, ul_vals, ul_len, lS, lK, hKw, Int.le_refl, sa, sb, ga, q1, q2, q3, q4, hmx, g00, gne, lp, List.set_set, c3, c4, gk, gw]
        refine Thn_n ?_
        refine hK _ _ ?_
        clear hK K
        refine AW.region (by decide) ?_
        simp only [push_cast, simprocAttr, hb, lk_old hb, hp, lk_old hp, ul_vals, ul_len, lS, lK, hKw, Int.le_refl, sa, sb, ga, q1, q2, q3, q4, hmx, g00, gne, lp, List.set_set, c3, c4, gk, gw]
        refine InB_n ?_
        refine Thn_n ?_
        refine hK _ _ ?_
        clear hK K
        refine AW.region (by decide) ?_
        simp only [push_cast, simprocAttr, hb, lk_old hb, hp, lk_old hp, ul_vals, ul_len, lS, lK, hKw, Int.le_refl, sa, sb, ga, q1, q2, q3, q4, hmx, g00, gne, lp, List.set_set, c3, c4, gk, gw]
        refine Thn_n ?_
        have hwi : IntKind.i64.wrap ((i:Int)+1) = (i:Int)+1 := wi (by omega)
        refine ⟨i + 1, by omega, by omega, ?_⟩
        try simp only [keepL, setAll, push_cast, simprocAttr, hb, lk_old hb, hp, lk_old hp, ul_vals, ul_len, lS, lK, hKw, Int.le_refl, sa, sb, ga, q1, q2, q3, q4, hmx, g00, gne, lp, List.set_set, c3, c4, gk, gw, hwi, rd, rdF, t1F, a32, S0, S1, chF, maF]
        exact Weak.same (by simp only [Keeps, Tm.get_cons, Nat.reduceEqDiff, ↓reduceIte, if_true, if_false, ite_true, ite_false, true_and, and_true, and_self, reduceCtorEq, hwi, rd, rdF, t1F, a32, S0, S1, chF, maF]) (by first | rfl | simp only [Keeps, Tm.get_cons, Nat.reduceEqDiff, ↓reduceIte, if_true, if_false, ite_true, ite_false, true_and, and_true, and_self, reduceCtorEq, hwi, rd, rdF, t1F, a32, S0, S1, chF, maF])
      · have hin : i = 64 := by have := of_decide_eq_false h117; omega
        subst hin
        refine AW.exit ?_
        refine Thn_e ?_
        clear hK K
        refine Thn_e ?_
        refine InB_here ?_
        refine Thn_n ?_
        refine hK _ _ ?_
        clear hK K
        refine AW.seq_k fun K hK => ?_
        refine AW.region (by decide) ?_
        simp only [push_cast, simprocAttr, hb, lk_old hb, hp, lk_old hp, ul_vals, ul_len, lS, lK, hKw, Int.le_refl, sa, sb, ga, q1, q2, q3, q4, hmx, g00, gne, lp, List.set_set]
        refine Thn_n ?_
        refine hK _ _ ?_
        clear hK K
        refine AW.block ?_
        refine AW.rounds 9 ?_
        iterate 8
          refine ARounds.succ fun K hK => ?_
          refine AW.seq_k fun K hK => ?_
          refine AW.region (by decide) ?_
          simp only [push_cast, simprocAttr, hb, lk_old hb, hp, lk_old hp, ul_vals, ul_len, lS, lK, hKw, Int.le_refl, sa, sb, ga, q1, q2, q3, q4, hmx, g00, gne, lp, List.set_set]
          refine Thn_n ?_
          refine hK _ _ ?_
          clear hK K
          refine AW.seq_k fun K hK => ?_
          refine AW.cond_t rfl ?_
          refine AW.skip ?_
          refine Thn_n ?_
          refine hK _ _ ?_
          clear hK K
          refine AW.seq_k fun K hK => ?_
          refine AW.block ?_
          refine AW.seq_k fun K hK => ?_
          refine AW.region (by decide) ?_
          simp only [push_cast, simprocAttr, hb, lk_old hb, hp, lk_old hp, ul_vals, ul_len, lS, lK, hKw, Int.le_refl, sa, sb, ga, q1, q2, q3, q4, hmx, g00, gne, lp, List.set_set]
          refine Thn_n ?_
          refine hK _ _ ?_
          clear hK K
          refine AW.draw [.val, .val, .val, .val, .val, .rd 0, .val, .val, .val, .val, .val, .wr] fol (by decide) (by kernel_rfl) ?_
          simp only [push_cast, simprocAttr, hb, lk_old hb, hp, lk_old hp, ul_vals, ul_len, lS, lK, hKw, Int.le_refl, sa, sb, ga, q1, q2, q3, q4, hmx, g00, gne, lp, List.set_set]
          refine InB_n ?_
          refine Thn_n ?_
          refine hK _ _ ?_
          clear hK K
          refine AW.region (by decide) ?_
          simp only [push_cast, simprocAttr, hb, lk_old hb, hp, lk_old hp, ul_vals, ul_len, lS, lK, hKw, Int.le_refl, sa, sb, ga, q1, q2, q3, q4, hmx, g00, gne, lp, List.set_set]
          refine Thn_n ?_
          refine hK _ _ ?_
          clear hK K
        refine ARounds.succ fun K hK => ?_
        refine AW.seq_k fun K hK => ?_
        refine AW.region (by decide) ?_
        simp only [push_cast, simprocAttr, hb, lk_old hb, hp, lk_old hp, ul_vals, ul_len, lS, lK, hKw, Int.le_refl, sa, sb, ga, q1, q2, q3, q4, hmx, g00, gne, lp, List.set_set]
        refine Thn_n ?_
        refine hK _ _ ?_
        clear hK K
        refine AW.seq_k fun K hK => ?_
        refine AW.cond_f rfl ?_
        refine AW.exit ?_
        refine Thn_e ?_
        clear hK K
        refine Thn_e ?_
        clear hK K
        refine InB_here ?_
        refine hQ _ _ _ ?_
        first | refine RetP.dropM0 (pS_len m rp (comp KW S bs off) bc n) (Or.inl rfl) ?_ ?_ (pS_wf rp _ n hbc hwf) | refine RetP.dropM (m1 := pS m rp (comp KW S bs off) bc n) (pS_len m rp (comp KW S bs off) bc n) (Or.inl rfl) ?_ ?_ (pS_wf rp _ n hbc hwf)
        · rfl
        · rfl
        
end Go.Proofs.Ytmjbbnfmhgcfaaa
