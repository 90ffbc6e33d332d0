/- Walks and facts of this seat's program over abstract states, printed by programs of mine; no conditions but those that each theorem names. -/
import Derived.Test.YtmjbbnfmhgcfaaaDoorM3
set_option linter.unusedSimpArgs false
set_option linter.unusedVariables false
set_option maxRecDepth 100000
set_option maxHeartbeats 4000000
namespace Go.Proofs.YtmjbbnfmhgcfaaaDoor
open Go Go.Eng

theorem cub_0 : cubeI 2 = 1116352408 := by decide +kernel
theorem cub_1 : cubeI 3 = 1899447441 := by decide +kernel
theorem cub_2 : cubeI 5 = 3049323471 := by decide +kernel
theorem cub_3 : cubeI 7 = 3921009573 := by decide +kernel
theorem cub_4 : cubeI 11 = 961987163 := by decide +kernel
theorem cub_5 : cubeI 13 = 1508970993 := by decide +kernel
theorem cub_6 : cubeI 17 = 2453635748 := by decide +kernel
theorem cub_7 : cubeI 19 = 2870763221 := by decide +kernel
theorem cub_8 : cubeI 23 = 3624381080 := by decide +kernel
theorem cub_9 : cubeI 29 = 310598401 := by decide +kernel
theorem cub_10 : cubeI 31 = 607225278 := by decide +kernel
theorem cub_11 : cubeI 37 = 1426881987 := by decide +kernel
theorem cub_12 : cubeI 41 = 1925078388 := by decide +kernel
theorem cub_13 : cubeI 43 = 2162078206 := by decide +kernel
theorem cub_14 : cubeI 47 = 2614888103 := by decide +kernel
theorem cub_15 : cubeI 53 = 3248222580 := by decide +kernel
end Go.Proofs.YtmjbbnfmhgcfaaaDoor

set_option linter.unusedSimpArgs false
set_option linter.unusedVariables false
set_option maxRecDepth 100000
set_option maxHeartbeats 4000000
namespace Go.Proofs.YtmjbbnfmhgcfaaaDoor
open Go Go.Eng

theorem cub_16 : cubeI 59 = 3835390401 := by decide +kernel
theorem cub_17 : cubeI 61 = 4022224774 := by decide +kernel
theorem cub_18 : cubeI 67 = 264347078 := by decide +kernel
theorem cub_19 : cubeI 71 = 604807628 := by decide +kernel
theorem cub_20 : cubeI 73 = 770255983 := by decide +kernel
theorem cub_21 : cubeI 79 = 1249150122 := by decide +kernel
theorem cub_22 : cubeI 83 = 1555081692 := by decide +kernel
theorem cub_23 : cubeI 89 = 1996064986 := by decide +kernel
theorem cub_24 : cubeI 97 = 2554220882 := by decide +kernel
theorem cub_25 : cubeI 101 = 2821834349 := by decide +kernel
theorem cub_26 : cubeI 103 = 2952996808 := by decide +kernel
theorem cub_27 : cubeI 107 = 3210313671 := by decide +kernel
theorem cub_28 : cubeI 109 = 3336571891 := by decide +kernel
theorem cub_29 : cubeI 113 = 3584528711 := by decide +kernel
theorem cub_30 : cubeI 127 = 113926993 := by decide +kernel
theorem cub_31 : cubeI 131 = 338241895 := by decide +kernel
end Go.Proofs.YtmjbbnfmhgcfaaaDoor

set_option linter.unusedSimpArgs false
set_option linter.unusedVariables false
set_option maxRecDepth 100000
set_option maxHeartbeats 4000000
namespace Go.Proofs.YtmjbbnfmhgcfaaaDoor
open Go Go.Eng

theorem cub_32 : cubeI 137 = 666307205 := by decide +kernel
theorem cub_33 : cubeI 139 = 773529912 := by decide +kernel
theorem cub_34 : cubeI 149 = 1294757372 := by decide +kernel
theorem cub_35 : cubeI 151 = 1396182291 := by decide +kernel
theorem cub_36 : cubeI 157 = 1695183700 := by decide +kernel
theorem cub_37 : cubeI 163 = 1986661051 := by decide +kernel
theorem cub_38 : cubeI 167 = 2177026350 := by decide +kernel
theorem cub_39 : cubeI 173 = 2456956037 := by decide +kernel
theorem cub_40 : cubeI 179 = 2730485921 := by decide +kernel
theorem cub_41 : cubeI 181 = 2820302411 := by decide +kernel
theorem cub_42 : cubeI 191 = 3259730800 := by decide +kernel
theorem cub_43 : cubeI 193 = 3345764771 := by decide +kernel
theorem cub_44 : cubeI 197 = 3516065817 := by decide +kernel
theorem cub_45 : cubeI 199 = 3600352804 := by decide +kernel
theorem cub_46 : cubeI 211 = 4094571909 := by decide +kernel
theorem cub_47 : cubeI 223 = 275423344 := by decide +kernel
end Go.Proofs.YtmjbbnfmhgcfaaaDoor

set_option linter.unusedSimpArgs false
set_option linter.unusedVariables false
set_option maxRecDepth 100000
set_option maxHeartbeats 4000000
namespace Go.Proofs.YtmjbbnfmhgcfaaaDoor
open Go Go.Eng

theorem cub_48 : cubeI 227 = 430227734 := by decide +kernel
theorem cub_49 : cubeI 229 = 506948616 := by decide +kernel
theorem cub_50 : cubeI 233 = 659060556 := by decide +kernel
theorem cub_51 : cubeI 239 = 883997877 := by decide +kernel
theorem cub_52 : cubeI 241 = 958139571 := by decide +kernel
theorem cub_53 : cubeI 251 = 1322822218 := by decide +kernel
theorem cub_54 : cubeI 257 = 1537002063 := by decide +kernel
theorem cub_55 : cubeI 263 = 1747873779 := by decide +kernel
theorem cub_56 : cubeI 269 = 1955562222 := by decide +kernel
theorem cub_57 : cubeI 271 = 2024104815 := by decide +kernel
theorem cub_58 : cubeI 277 = 2227730452 := by decide +kernel
theorem cub_59 : cubeI 281 = 2361852424 := by decide +kernel
theorem cub_60 : cubeI 283 = 2428436474 := by decide +kernel
theorem cub_61 : cubeI 293 = 2756734187 := by decide +kernel
theorem cub_62 : cubeI 307 = 3204031479 := by decide +kernel
theorem cub_63 : cubeI 311 = 3329325298 := by decide +kernel
end Go.Proofs.YtmjbbnfmhgcfaaaDoor

set_option linter.unusedSimpArgs false
set_option linter.unusedVariables false
set_option maxRecDepth 100000
set_option maxHeartbeats 4000000
namespace Go.Proofs.YtmjbbnfmhgcfaaaDoor
open Go Go.Eng

def PR : List Int := [2, 3, 5, 7, 11, 13, 17, 19, 23, 29, 31, 37, 41, 43, 47, 53, 59, 61, 67, 71, 73, 79, 83, 89, 97, 101, 103, 107, 109, 113, 127, 131, 137, 139, 149, 151, 157, 163, 167, 173, 179, 181, 191, 193, 197, 199, 211, 223, 227, 229, 233, 239, 241, 251, 257, 263, 269, 271, 277, 281, 283, 293, 307, 311]
theorem prL_eq : prL 310 = PR := by decide +kernel
theorem tabH : (PR.take 8).map rootI = [1779033703, 3144134277, 1013904242, 2773480762, 1359893119, 2600822924, 528734635, 1541459225] := by decide +kernel
theorem tabK : PR.map cubeI = KW := by
  simp only [PR, KW, List.map_cons, List.map_nil, cub_0, cub_1, cub_2, cub_3, cub_4, cub_5, cub_6, cub_7, cub_8, cub_9, cub_10, cub_11, cub_12, cub_13, cub_14, cub_15, cub_16, cub_17, cub_18, cub_19, cub_20, cub_21, cub_22, cub_23, cub_24, cub_25, cub_26, cub_27, cub_28, cub_29, cub_30, cub_31, cub_32, cub_33, cub_34, cub_35, cub_36, cub_37, cub_38, cub_39, cub_40, cub_41, cub_42, cub_43, cub_44, cub_45, cub_46, cub_47, cub_48, cub_49, cub_50, cub_51, cub_52, cub_53, cub_54, cub_55, cub_56, cub_57, cub_58, cub_59, cub_60, cub_61, cub_62, cub_63]
end Go.Proofs.YtmjbbnfmhgcfaaaDoor

set_option linter.unusedSimpArgs false
set_option linter.unusedVariables false
set_option maxRecDepth 100000
set_option maxHeartbeats 4000000
namespace Go.Proofs.YtmjbbnfmhgcfaaaDoor
open Go Go.Eng

theorem stir_c (rp : Nat) (S : S8) (bc : CV) (n : Int) (rb v off len : Nat) (bs : List Int) (m : AMem) (hp : m[rp]? = some ⟨.fix, 66, 0, 0, [.int .u32 (S).a, .int .u32 (S).b, .int .u32 (S).c, .int .u32 (S).d, .int .u32 (S).e, .int .u32 (S).f, .int .u32 (S).g, .int .u32 (S).h, bc, .int .u64 n]⟩) (hbc : bc.below m.length = true) (hb : ∃ k ez, m[rb]? = some ⟨k, 5, v, ez, u8l bs⟩) (hl : 64 ≤ len) (hl2 : len ≤ 1000000000) (hf : off + len ≤ bs.length) (hu : ∀ i, 0 ≤ byB bs i ∧ byB bs i ≤ 255) : Ctr Tryd.prog 28 [.one (.ptr rp 0 0), .one (.sl rb v off len)] m (.tup []) (pS m rp (comp KW S bs off) bc n) := by
  refine Ctr.enter Tryd.func28 rfl (by decide) (rs := []) (nt := 204) rfl rfl fun hwf Q hQ => ?_
  obtain ⟨k0, ez, hb⟩ := id hb
  have lp := get_lt hp
  have lb := get_lt hb
  have npb : rb ≠ rp := fun e => by subst e; rw [hp] at hb; simp at hb
  have npb2 : rp ≠ rb := fun e => npb e.symm
  have hKw : setL [CV.int .u32 0, CV.int .u32 0, CV.int .u32 0, CV.int .u32 0, CV.int .u32 0, CV.int .u32 0, CV.int .u32 0, CV.int .u32 0, CV.int .u32 0, CV.int .u32 0, CV.int .u32 0, CV.int .u32 0, CV.int .u32 0, CV.int .u32 0, CV.int .u32 0, CV.int .u32 0, CV.int .u32 0, CV.int .u32 0, CV.int .u32 0, CV.int .u32 0, CV.int .u32 0, CV.int .u32 0, CV.int .u32 0, CV.int .u32 0, CV.int .u32 0, CV.int .u32 0, CV.int .u32 0, CV.int .u32 0, CV.int .u32 0, CV.int .u32 0, CV.int .u32 0, CV.int .u32 0, CV.int .u32 0, CV.int .u32 0, CV.int .u32 0, CV.int .u32 0, CV.int .u32 0, CV.int .u32 0, CV.int .u32 0, CV.int .u32 0, CV.int .u32 0, CV.int .u32 0, CV.int .u32 0, CV.int .u32 0, CV.int .u32 0, CV.int .u32 0, CV.int .u32 0, CV.int .u32 0, CV.int .u32 0, CV.int .u32 0, CV.int .u32 0, CV.int .u32 0, CV.int .u32 0, CV.int .u32 0, CV.int .u32 0, CV.int .u32 0, CV.int .u32 0, CV.int .u32 0, CV.int .u32 0, CV.int .u32 0, CV.int .u32 0, CV.int .u32 0, CV.int .u32 0, CV.int .u32 0] 0 (ul KW) = ul KW := setL_full rfl
  have sa : ∀ (L : AMem) (b : Blk), (m ++ L).set rp b = m.set rp b ++ L := fun L b => List.set_append_left _ _ lp
  have sb : ∀ (L : AMem) (b c : Blk), (m.set rp b ++ L).set rp c = m.set rp c ++ L := fun L b c => by rw [List.set_append_left _ _ (by rw [List.length_set]; exact lp), List.set_set]
  have ga : ∀ (L : AMem) (b : Blk), (m.set rp b ++ L)[rp]? = some b := fun L b => by rw [List.getElem?_append_left (by rw [List.length_set]; exact lp), List.getElem?_set_self lp]
  have lK : (ul KW).length = 64 := rfl
  have lS := fun i => sch_len bs off i
  have q1 := p2_32 (n := 3) (by decide)
  have q2 := p2_32 (n := 10) (by decide)
  have q3 : (2:Int)^3 = 8 := by decide
  have q4 : (2:Int)^10 = 1024 := by decide
  have hmx : (if IntKind.u32.signed = true then (-1 : Int) else IntKind.u32.max) = 4294967295 := by decide
  have g00 := fun b : Blk => List.getElem?_set_self (l := m) (i := rp) (a := b) lp
  have gne := fun b : Blk => List.getElem?_set_ne (l := m) (i := rp) (j := rb) (a := b) npb2
  
  refine AW.seq_k fun K hK => ?_
  refine AW.region (by decide) ?_
  simp only [push_cast, Nat.reduceAdd, Nat.reduceMul, Nat.reduceSub, Nat.reduceLeDiff, Nat.reduceLT, Nat.reduceEqDiff, Nat.reduceBEq, Nat.reduceBNe, Nat.reduceMod, Nat.reduceDiv, Int.reduceLE, Int.reduceLT, Int.reduceToNat, Int.reduceAdd, Int.reduceSub, Int.reduceMul, Int.reduceNeg, Int.reduceEq, Int.reduceBEq, Int.reduceBNe, ↓reduceIte, reduceCtorEq, String.reduceBNe, String.reduceEq, reduceDIte, Nat.reducePow, hb, lk_old hb, hp, lk_old hp, ul_vals, ul_len, lS, lK, hKw, Int.le_refl, sa, sb, ga, q1, q2, q3, q4, hmx, g00, gne, lp, List.set_set]
  refine CThen.by (words_c _) ?_
  simp only [push_cast, Nat.reduceAdd, Nat.reduceMul, Nat.reduceSub, Nat.reduceLeDiff, Nat.reduceLT, Nat.reduceEqDiff, Nat.reduceBEq, Nat.reduceBNe, Nat.reduceMod, Nat.reduceDiv, Int.reduceLE, Int.reduceLT, Int.reduceToNat, Int.reduceAdd, Int.reduceSub, Int.reduceMul, Int.reduceNeg, Int.reduceEq, Int.reduceBEq, Int.reduceBNe, ↓reduceIte, reduceCtorEq, String.reduceBNe, String.reduceEq, reduceDIte, Nat.reducePow, hb, lk_old hb, hp, lk_old hp, ul_vals, ul_len, lS, lK, hKw, Int.le_refl, sa, sb, ga, q1, q2, q3, q4, hmx, g00, gne, lp, List.set_set]
  refine Thn_n ?_
  refine hK _ _ ?_
  clear hK K
  refine AW.seq_k fun K hK => ?_
  refine AW.region (by decide) ?_
  simp only [push_cast, Nat.reduceAdd, Nat.reduceMul, Nat.reduceSub, Nat.reduceLeDiff, Nat.reduceLT, Nat.reduceEqDiff, Nat.reduceBEq, Nat.reduceBNe, Nat.reduceMod, Nat.reduceDiv, Int.reduceLE, Int.reduceLT, Int.reduceToNat, Int.reduceAdd, Int.reduceSub, Int.reduceMul, Int.reduceNeg, Int.reduceEq, Int.reduceBEq, Int.reduceBNe, ↓reduceIte, reduceCtorEq, String.reduceBNe, String.reduceEq, reduceDIte, Nat.reducePow, hb, lk_old hb, hp, lk_old hp, ul_vals, ul_len, lS, lK, hKw, Int.le_refl, sa, sb, ga, q1, q2, q3, q4, hmx, g00, gne, lp, List.set_set]
  refine Thn_n ?_
  refine hK _ _ ?_
  clear hK K
  refine AW.seq_k fun K hK => ?_
  refine AW.seq_k fun K hK => ?_
  refine AW.region (by decide) ?_
  simp only [push_cast, Nat.reduceAdd, Nat.reduceMul, Nat.reduceSub, Nat.reduceLeDiff, Nat.reduceLT, Nat.reduceEqDiff, Nat.reduceBEq, Nat.reduceBNe, Nat.reduceMod, Nat.reduceDiv, Int.reduceLE, Int.reduceLT, Int.reduceToNat, Int.reduceAdd, Int.reduceSub, Int.reduceMul, Int.reduceNeg, Int.reduceEq, Int.reduceBEq, Int.reduceBNe, ↓reduceIte, reduceCtorEq, String.reduceBNe, String.reduceEq, reduceDIte, Nat.reducePow, hb, lk_old hb, hp, lk_old hp, ul_vals, ul_len, lS, lK, hKw, Int.le_refl, sa, sb, ga, q1, q2, q3, q4, hmx, g00, gne, lp, List.set_set]
  refine Thn_n ?_
  refine hK _ _ ?_
  clear hK K
  refine AW.block ?_
  refine AW.loopK [0, 1, 4, 5] (fun i => i ≤ (16 : Nat)) (fun i => [(24, .one (.int .i64 (i : Int)))]) (fun i => [(m.length + 1, ⟨.fix, 29, 0, 0, ul (sch bs off i)⟩)]) (fun i => 16 - i) 0 (by omega) ?_ ?_ fun i hi5 => ?_
  · first | rfl | (simp only [Keeps, Tm.get_cons, Nat.reduceEqDiff, ↓reduceIte, if_true, if_false, ite_true, ite_false, true_and, and_true, and_self, reduceCtorEq] <;> rfl)
  · first | rfl | (simp only [setAll, push_cast, Nat.reduceAdd, Nat.reduceMul, Nat.reduceSub, Nat.reduceLeDiff, Nat.reduceLT, Nat.reduceEqDiff, Nat.reduceBEq, Nat.reduceBNe, Nat.reduceMod, Nat.reduceDiv, Int.reduceLE, Int.reduceLT, Int.reduceToNat, Int.reduceAdd, Int.reduceSub, Int.reduceMul, Int.reduceNeg, Int.reduceEq, Int.reduceBEq, Int.reduceBNe, ↓reduceIte, reduceCtorEq, String.reduceBNe, String.reduceEq, reduceDIte, Nat.reducePow, hb, lk_old hb, hp, lk_old hp, ul_vals, ul_len, lS, lK, hKw, Int.le_refl, sa, sb, ga, q1, q2, q3, q4, hmx, g00, gne, lp, List.set_set] <;> rfl)
  try simp only [keepL, setAll, push_cast, Nat.reduceAdd, Nat.reduceMul, Nat.reduceSub, Nat.reduceLeDiff, Nat.reduceLT, Nat.reduceEqDiff, Nat.reduceBEq, Nat.reduceBNe, Nat.reduceMod, Nat.reduceDiv, Int.reduceLE, Int.reduceLT, Int.reduceToNat, Int.reduceAdd, Int.reduceSub, Int.reduceMul, Int.reduceNeg, Int.reduceEq, Int.reduceBEq, Int.reduceBNe, ↓reduceIte, reduceCtorEq, String.reduceBNe, String.reduceEq, reduceDIte, Nat.reducePow, hb, lk_old hb, hp, lk_old hp, ul_vals, ul_len, lS, lK, hKw, Int.le_refl, sa, sb, ga, q1, q2, q3, q4, hmx, g00, gne, lp, List.set_set]
  refine AW.seq_k fun K hK => ?_
  refine AW.region (by decide) ?_
  simp only [push_cast, Nat.reduceAdd, Nat.reduceMul, Nat.reduceSub, Nat.reduceLeDiff, Nat.reduceLT, Nat.reduceEqDiff, Nat.reduceBEq, Nat.reduceBNe, Nat.reduceMod, Nat.reduceDiv, Int.reduceLE, Int.reduceLT, Int.reduceToNat, Int.reduceAdd, Int.reduceSub, Int.reduceMul, Int.reduceNeg, Int.reduceEq, Int.reduceBEq, Int.reduceBNe, ↓reduceIte, reduceCtorEq, String.reduceBNe, String.reduceEq, reduceDIte, Nat.reducePow, hb, lk_old hb, hp, lk_old hp, ul_vals, ul_len, lS, lK, hKw, Int.le_refl, sa, sb, ga, q1, q2, q3, q4, hmx, g00, gne, lp, List.set_set]
  refine Thn_n ?_
  refine hK _ _ ?_
  clear hK K
  refine AW.seq_k fun K hK => ?_
  refine AW.cond rfl (fun h25 => ?_) (fun h25 => ?_)
  · have hlt : i < 16 := by have := of_decide_eq_true h25; omega
    have c1 : (0 : Int) ≤ 4 * (i : Int) := by omega
    have c2 : 4 * (i : Int) ≤ (len : Int) := by omega
    have w1 : IntKind.i64.wrap (4 * (i : Int)) = 4 * (i : Int) := wi (by omega)
    have w2 : (4 * (i : Int)).toNat = 4 * i := by omega
    have c3 : (0 : Int) ≤ (i : Int) := by omega
    have c4 : (i : Int) < 64 := by omega
    have c5 : i + 1 ≤ 64 := by omega
    have snx : ((ul (sch bs off i)).set i (.int .u32 (wordV bs (off + 4 * i)))) = ul (sch bs off (i + 1)) := by rw [ul_set]; simp only [sch, if_pos hlt]
    refine AW.skip ?_
    refine Thn_n ?_
    refine hK _ _ ?_
    clear hK K
    refine AW.seq_k fun K hK => ?_
    refine AW.block ?_
    refine AW.seq_k fun K hK => ?_
    refine AW.region (by decide) ?_
    simp only [push_cast, Nat.reduceAdd, Nat.reduceMul, Nat.reduceSub, Nat.reduceLeDiff, Nat.reduceLT, Nat.reduceEqDiff, Nat.reduceBEq, Nat.reduceBNe, Nat.reduceMod, Nat.reduceDiv, Int.reduceLE, Int.reduceLT, Int.reduceToNat, Int.reduceAdd, Int.reduceSub, Int.reduceMul, Int.reduceNeg, Int.reduceEq, Int.reduceBEq, Int.reduceBNe, ↓reduceIte, reduceCtorEq, String.reduceBNe, String.reduceEq, reduceDIte, Nat.reducePow, hb, lk_old hb, hp, lk_old hp, ul_vals, ul_len, lS, lK, hKw, Int.le_refl, sa, sb, ga, q1, q2, q3, q4, hmx, g00, gne, lp, List.set_set, c1, c2, w1, w2, c3, c4, c5]
    refine Thn_n ?_
    refine hK _ _ ?_
    clear hK K
    refine AW.region (by decide) ?_
    simp only [push_cast, Nat.reduceAdd, Nat.reduceMul, Nat.reduceSub, Nat.reduceLeDiff, Nat.reduceLT, Nat.reduceEqDiff, Nat.reduceBEq, Nat.reduceBNe, Nat.reduceMod, Nat.reduceDiv, Int.reduceLE, Int.reduceLT, Int.reduceToNat, Int.reduceAdd, Int.reduceSub, Int.reduceMul, Int.reduceNeg, Int.reduceEq, Int.reduceBEq, Int.reduceBNe, ↓reduceIte, reduceCtorEq, String.reduceBNe, String.reduceEq, reduceDIte, Nat.reducePow, hb, lk_old hb, hp, lk_old hp, ul_vals, ul_len, lS, lK, hKw, Int.le_refl, sa, sb, ga, q1, q2, q3, q4, hmx, g00, gne, lp, List.set_set, c1, c2, w1, w2, c3, c4, c5]
    refine CThen.by (word_c rb v (off + 4 * i) (len - 4 * i) bs _ ⟨_, _, lk_old hb _⟩ (by omega) (by omega) hu) ?_
    simp only [push_cast, Nat.reduceAdd, Nat.reduceMul, Nat.reduceSub, Nat.reduceLeDiff, Nat.reduceLT, Nat.reduceEqDiff, Nat.reduceBEq, Nat.reduceBNe, Nat.reduceMod, Nat.reduceDiv, Int.reduceLE, Int.reduceLT, Int.reduceToNat, Int.reduceAdd, Int.reduceSub, Int.reduceMul, Int.reduceNeg, Int.reduceEq, Int.reduceBEq, Int.reduceBNe, ↓reduceIte, reduceCtorEq, String.reduceBNe, String.reduceEq, reduceDIte, Nat.reducePow, hb, lk_old hb, hp, lk_old hp, ul_vals, ul_len, lS, lK, hKw, Int.le_refl, sa, sb, ga, q1, q2, q3, q4, hmx, g00, gne, lp, List.set_set, c1, c2, w1, w2, c3, c4, c5]
    refine InB_n ?_
    refine Thn_n ?_
    refine hK _ _ ?_
    clear hK K
    refine AW.region (by decide) ?_
    simp only [push_cast, Nat.reduceAdd, Nat.reduceMul, Nat.reduceSub, Nat.reduceLeDiff, Nat.reduceLT, Nat.reduceEqDiff, Nat.reduceBEq, Nat.reduceBNe, Nat.reduceMod, Nat.reduceDiv, Int.reduceLE, Int.reduceLT, Int.reduceToNat, Int.reduceAdd, Int.reduceSub, Int.reduceMul, Int.reduceNeg, Int.reduceEq, Int.reduceBEq, Int.reduceBNe, ↓reduceIte, reduceCtorEq, String.reduceBNe, String.reduceEq, reduceDIte, Nat.reducePow, hb, lk_old hb, hp, lk_old hp, ul_vals, ul_len, lS, lK, hKw, Int.le_refl, sa, sb, ga, q1, q2, q3, q4, hmx, g00, gne, lp, List.set_set, c1, c2, w1, w2, c3, c4, c5]
    refine Thn_n ?_
    have hwi : IntKind.i64.wrap ((i:Int)+1) = (i:Int)+1 := wi (by omega)
    refine ⟨i + 1, by omega, by omega, ?_⟩
    try simp only [keepL, setAll, push_cast, Nat.reduceAdd, Nat.reduceMul, Nat.reduceSub, Nat.reduceLeDiff, Nat.reduceLT, Nat.reduceEqDiff, Nat.reduceBEq, Nat.reduceBNe, Nat.reduceMod, Nat.reduceDiv, Int.reduceLE, Int.reduceLT, Int.reduceToNat, Int.reduceAdd, Int.reduceSub, Int.reduceMul, Int.reduceNeg, Int.reduceEq, Int.reduceBEq, Int.reduceBNe, ↓reduceIte, reduceCtorEq, String.reduceBNe, String.reduceEq, reduceDIte, Nat.reducePow, hb, lk_old hb, hp, lk_old hp, ul_vals, ul_len, lS, lK, hKw, Int.le_refl, sa, sb, ga, q1, q2, q3, q4, hmx, g00, gne, lp, List.set_set, c1, c2, w1, w2, c3, c4, c5, hwi, snx]
    exact Weak.same (by simp only [Keeps, Tm.get_cons, Nat.reduceEqDiff, ↓reduceIte, if_true, if_false, ite_true, ite_false, true_and, and_true, and_self, reduceCtorEq, hwi, snx]) (by first | rfl | simp only [Keeps, Tm.get_cons, Nat.reduceEqDiff, ↓reduceIte, if_true, if_false, ite_true, ite_false, true_and, and_true, and_self, reduceCtorEq, hwi, snx])
  · have hin : i = 16 := by have := of_decide_eq_false h25; omega
    subst hin
    refine AW.exit ?_
    refine Thn_e ?_
    clear hK K
    refine Thn_e ?_
    refine InB_here ?_
    refine Thn_n ?_
    refine hK _ _ ?_
    clear hK K
    refine AW.seq_k fun K hK => ?_
    refine AW.seq_k fun K hK => ?_
    refine AW.region (by decide) ?_
    simp only [push_cast, Nat.reduceAdd, Nat.reduceMul, Nat.reduceSub, Nat.reduceLeDiff, Nat.reduceLT, Nat.reduceEqDiff, Nat.reduceBEq, Nat.reduceBNe, Nat.reduceMod, Nat.reduceDiv, Int.reduceLE, Int.reduceLT, Int.reduceToNat, Int.reduceAdd, Int.reduceSub, Int.reduceMul, Int.reduceNeg, Int.reduceEq, Int.reduceBEq, Int.reduceBNe, ↓reduceIte, reduceCtorEq, String.reduceBNe, String.reduceEq, reduceDIte, Nat.reducePow, hb, lk_old hb, hp, lk_old hp, ul_vals, ul_len, lS, lK, hKw, Int.le_refl, sa, sb, ga, q1, q2, q3, q4, hmx, g00, gne, lp, List.set_set]
    refine Thn_n ?_
    refine hK _ _ ?_
    clear hK K
    refine AW.block ?_
    refine AW.loopK [0, 4, 5] (fun i => (16 : Nat) ≤ i ∧ i ≤ (64 : Nat)) (fun i => [(7, .one (.int .i64 (i : Int)))]) (fun i => [(m.length + 1, ⟨.fix, 29, 0, 0, ul (sch bs off i)⟩)]) (fun i => 64 - i) 16 ⟨by omega, by omega⟩ ?_ ?_ fun i hi12 => ?_
    · first | rfl | (simp only [Keeps, Tm.get_cons, Nat.reduceEqDiff, ↓reduceIte, if_true, if_false, ite_true, ite_false, true_and, and_true, and_self, reduceCtorEq] <;> rfl)
    · first | rfl | (simp only [setAll, push_cast, Nat.reduceAdd, Nat.reduceMul, Nat.reduceSub, Nat.reduceLeDiff, Nat.reduceLT, Nat.reduceEqDiff, Nat.reduceBEq, Nat.reduceBNe, Nat.reduceMod, Nat.reduceDiv, Int.reduceLE, Int.reduceLT, Int.reduceToNat, Int.reduceAdd, Int.reduceSub, Int.reduceMul, Int.reduceNeg, Int.reduceEq, Int.reduceBEq, Int.reduceBNe, ↓reduceIte, reduceCtorEq, String.reduceBNe, String.reduceEq, reduceDIte, Nat.reducePow, hb, lk_old hb, hp, lk_old hp, ul_vals, ul_len, lS, lK, hKw, Int.le_refl, sa, sb, ga, q1, q2, q3, q4, hmx, g00, gne, lp, List.set_set] <;> rfl)
    obtain ⟨hi16, hi64⟩ := hi12
    try simp only [keepL, setAll, push_cast, Nat.reduceAdd, Nat.reduceMul, Nat.reduceSub, Nat.reduceLeDiff, Nat.reduceLT, Nat.reduceEqDiff, Nat.reduceBEq, Nat.reduceBNe, Nat.reduceMod, Nat.reduceDiv, Int.reduceLE, Int.reduceLT, Int.reduceToNat, Int.reduceAdd, Int.reduceSub, Int.reduceMul, Int.reduceNeg, Int.reduceEq, Int.reduceBEq, Int.reduceBNe, ↓reduceIte, reduceCtorEq, String.reduceBNe, String.reduceEq, reduceDIte, Nat.reducePow, hb, lk_old hb, hp, lk_old hp, ul_vals, ul_len, lS, lK, hKw, Int.le_refl, sa, sb, ga, q1, q2, q3, q4, hmx, g00, gne, lp, List.set_set]
    refine AW.seq_k fun K hK => ?_
    refine AW.seq_k fun K hK => ?_
    refine AW.region (by decide) ?_
    simp only [push_cast, Nat.reduceAdd, Nat.reduceMul, Nat.reduceSub, Nat.reduceLeDiff, Nat.reduceLT, Nat.reduceEqDiff, Nat.reduceBEq, Nat.reduceBNe, Nat.reduceMod, Nat.reduceDiv, Int.reduceLE, Int.reduceLT, Int.reduceToNat, Int.reduceAdd, Int.reduceSub, Int.reduceMul, Int.reduceNeg, Int.reduceEq, Int.reduceBEq, Int.reduceBNe, ↓reduceIte, reduceCtorEq, String.reduceBNe, String.reduceEq, reduceDIte, Nat.reducePow, hb, lk_old hb, hp, lk_old hp, ul_vals, ul_len, lS, lK, hKw, Int.le_refl, sa, sb, ga, q1, q2, q3, q4, hmx, g00, gne, lp, List.set_set]
    refine Thn_n ?_
    refine hK _ _ ?_
    clear hK K
    refine AW.cond rfl (fun h36 => ?_) (fun h36 => ?_)
    · have hlt : i < 64 := by have := of_decide_eq_true h36; omega
      have c3 : (0 : Int) ≤ (i : Int) := by omega
      have c4 : (i : Int) < 64 := by omega
      have c5 : i + 1 ≤ 64 := by omega
      have g15 := ul_get (xs := sch bs off i) (i := i - 15) (by rw [sch_len]; omega)
      have v15 : IntKind.i64.wrap ((i : Int) - 15) = (i : Int) - 15 := wi (by omega)
      have d15 : (0 : Int) ≤ (i : Int) - 15 := by omega
      have f15 : (i : Int) - 15 < 64 := by omega
      have z15 : ((i : Int) - 15).toNat = i - 15 := by omega
      have g2 := ul_get (xs := sch bs off i) (i := i - 2) (by rw [sch_len]; omega)
      have v2 : IntKind.i64.wrap ((i : Int) - 2) = (i : Int) - 2 := wi (by omega)
      have d2 : (0 : Int) ≤ (i : Int) - 2 := by omega
      have f2 : (i : Int) - 2 < 64 := by omega
      have z2 : ((i : Int) - 2).toNat = i - 2 := by omega
      have g16 := ul_get (xs := sch bs off i) (i := i - 16) (by rw [sch_len]; omega)
      have v16 : IntKind.i64.wrap ((i : Int) - 16) = (i : Int) - 16 := wi (by omega)
      have d16 : (0 : Int) ≤ (i : Int) - 16 := by omega
      have f16 : (i : Int) - 16 < 64 := by omega
      have z16 : ((i : Int) - 16).toNat = i - 16 := by omega
      have g7 := ul_get (xs := sch bs off i) (i := i - 7) (by rw [sch_len]; omega)
      have v7 : IntKind.i64.wrap ((i : Int) - 7) = (i : Int) - 7 := wi (by omega)
      have d7 : (0 : Int) ≤ (i : Int) - 7 := by omega
      have f7 : (i : Int) - 7 < 64 := by omega
      have z7 : ((i : Int) - 7).toNat = i - 7 := by omega
      have snx : ((ul (sch bs off i)).set i (.int .u32 (mixF (sch bs off i) i))) = ul (sch bs off (i + 1)) := by rw [ul_set]; simp only [sch]; rw [if_neg (by omega)]
      simp only [mixF, a32, s0, s1] at snx
      refine AW.skip ?_
      refine Thn_n ?_
      refine hK _ _ ?_
      clear hK K
      refine AW.seq_k fun K hK => ?_
      refine AW.block ?_
      refine AW.seq_k fun K hK => ?_
      refine AW.draw [.val, .val, .val, .rd 0, .val, .val, .val, .rd 0, .val, .val] fol (by decide) (by kernel_rfl) ?_
      simp only [push_cast, Nat.reduceAdd, Nat.reduceMul, Nat.reduceSub, Nat.reduceLeDiff, Nat.reduceLT, Nat.reduceEqDiff, Nat.reduceBEq, Nat.reduceBNe, Nat.reduceMod, Nat.reduceDiv, Int.reduceLE, Int.reduceLT, Int.reduceToNat, Int.reduceAdd, Int.reduceSub, Int.reduceMul, Int.reduceNeg, Int.reduceEq, Int.reduceBEq, Int.reduceBNe, ↓reduceIte, reduceCtorEq, String.reduceBNe, String.reduceEq, reduceDIte, Nat.reducePow, hb, lk_old hb, hp, lk_old hp, ul_vals, ul_len, lS, lK, hKw, Int.le_refl, sa, sb, ga, q1, q2, q3, q4, hmx, g00, gne, lp, List.set_set, c3, c4, c5, g15, v15, d15, f15, z15, g2, v2, d2, f2, z2, g16, v16, d16, f16, z16, g7, v7, d7, f7, z7]
      refine Thn_n ?_
      refine hK _ _ ?_
      clear hK K
      refine AW.draw [.val, .val, .val, .val, .rd 0, .val, .ext, .val, .ext, .val, .val, .val, .val, .val, .val, .val, .val, .rd 0, .val, .val, .ext, .val, .ext, .val, .val, .val, .val, .val, .val, .wr] fol (by decide) (by kernel_rfl) ?_
      simp only [push_cast, Nat.reduceAdd, Nat.reduceMul, Nat.reduceSub, Nat.reduceLeDiff, Nat.reduceLT, Nat.reduceEqDiff, Nat.reduceBEq, Nat.reduceBNe, Nat.reduceMod, Nat.reduceDiv, Int.reduceLE, Int.reduceLT, Int.reduceToNat, Int.reduceAdd, Int.reduceSub, Int.reduceMul, Int.reduceNeg, Int.reduceEq, Int.reduceBEq, Int.reduceBNe, ↓reduceIte, reduceCtorEq, String.reduceBNe, String.reduceEq, reduceDIte, Nat.reducePow, hb, lk_old hb, hp, lk_old hp, ul_vals, ul_len, lS, lK, hKw, Int.le_refl, sa, sb, ga, q1, q2, q3, q4, hmx, g00, gne, lp, List.set_set, c3, c4, c5, g15, v15, d15, f15, z15, g2, v2, d2, f2, z2, g16, v16, d16, f16, z16, g7, v7, d7, f7, z7]
      refine DCall.by0 (rot_c _ 7 _ (by decide)) ?_
      simp only [push_cast, Nat.reduceAdd, Nat.reduceMul, Nat.reduceSub, Nat.reduceLeDiff, Nat.reduceLT, Nat.reduceEqDiff, Nat.reduceBEq, Nat.reduceBNe, Nat.reduceMod, Nat.reduceDiv, Int.reduceLE, Int.reduceLT, Int.reduceToNat, Int.reduceAdd, Int.reduceSub, Int.reduceMul, Int.reduceNeg, Int.reduceEq, Int.reduceBEq, Int.reduceBNe, ↓reduceIte, reduceCtorEq, String.reduceBNe, String.reduceEq, reduceDIte, Nat.reducePow, hb, lk_old hb, hp, lk_old hp, ul_vals, ul_len, lS, lK, hKw, Int.le_refl, sa, sb, ga, q1, q2, q3, q4, hmx, g00, gne, lp, List.set_set, c3, c4, c5, g15, v15, d15, f15, z15, g2, v2, d2, f2, z2, g16, v16, d16, f16, z16, g7, v7, d7, f7, z7]
      refine DCall.by0 (rot_c _ 18 _ (by decide)) ?_
      simp only [push_cast, Nat.reduceAdd, Nat.reduceMul, Nat.reduceSub, Nat.reduceLeDiff, Nat.reduceLT, Nat.reduceEqDiff, Nat.reduceBEq, Nat.reduceBNe, Nat.reduceMod, Nat.reduceDiv, Int.reduceLE, Int.reduceLT, Int.reduceToNat, Int.reduceAdd, Int.reduceSub, Int.reduceMul, Int.reduceNeg, Int.reduceEq, Int.reduceBEq, Int.reduceBNe, ↓reduceIte, reduceCtorEq, String.reduceBNe, String.reduceEq, reduceDIte, Nat.reducePow, hb, lk_old hb, hp, lk_old hp, ul_vals, ul_len, lS, lK, hKw, Int.le_refl, sa, sb, ga, q1, q2, q3, q4, hmx, g00, gne, lp, List.set_set, c3, c4, c5, g15, v15, d15, f15, z15, g2, v2, d2, f2, z2, g16, v16, d16, f16, z16, g7, v7, d7, f7, z7]
      refine DCall.by0 (rot_c _ 17 _ (by decide)) ?_
      simp only [push_cast, Nat.reduceAdd, Nat.reduceMul, Nat.reduceSub, Nat.reduceLeDiff, Nat.reduceLT, Nat.reduceEqDiff, Nat.reduceBEq, Nat.reduceBNe, Nat.reduceMod, Nat.reduceDiv, Int.reduceLE, Int.reduceLT, Int.reduceToNat, Int.reduceAdd, Int.reduceSub, Int.reduceMul, Int.reduceNeg, Int.reduceEq, Int.reduceBEq, Int.reduceBNe, ↓reduceIte, reduceCtorEq, String.reduceBNe, String.reduceEq, reduceDIte, Nat.reducePow, hb, lk_old hb, hp, lk_old hp, ul_vals, ul_len, lS, lK, hKw, Int.le_refl, sa, sb, ga, q1, q2, q3, q4, hmx, g00, gne, lp, List.set_set, c3, c4, c5, g15, v15, d15, f15, z15, g2, v2, d2, f2, z2, g16, v16, d16, f16, z16, g7, v7, d7, f7, z7]
      refine DCall.by0 (rot_c _ 19 _ (by decide)) ?_
      simp only [push_cast, Nat.reduceAdd, Nat.reduceMul, Nat.reduceSub, Nat.reduceLeDiff, Nat.reduceLT, Nat.reduceEqDiff, Nat.reduceBEq, Nat.reduceBNe, Nat.reduceMod, Nat.reduceDiv, Int.reduceLE, Int.reduceLT, Int.reduceToNat, Int.reduceAdd, Int.reduceSub, Int.reduceMul, Int.reduceNeg, Int.reduceEq, Int.reduceBEq, Int.reduceBNe, ↓reduceIte, reduceCtorEq, String.reduceBNe, String.reduceEq, reduceDIte, Nat.reducePow, hb, lk_old hb, hp, lk_old hp, ul_vals, ul_len, lS, lK, hKw, Int.le_refl, sa, sb, ga, q1, q2, q3, q4, hmx, g00, gne, lp, List.set_set, c3, c4, c5, g15, v15, d15, f15, z15, g2, v2, d2, f2, z2, g16, v16, d16, f16, z16, g7, v7, d7, f7, z7]
      refine InB_n ?_
      refine Thn_n ?_
      refine hK _ _ ?_
      clear hK K
      refine AW.region (by decide) ?_
      simp only [push_cast, Nat.reduceAdd, Nat.reduceMul, Nat.reduceSub, Nat.reduceLeDiff, Nat.reduceLT, Nat.reduceEqDiff, Nat.reduceBEq, Nat.reduceBNe, Nat.reduceMod, Nat.reduceDiv, Int.reduceLE, Int.reduceLT, Int.reduceToNat, Int.reduceAdd, Int.reduceSub, Int.reduceMul, Int.reduceNeg, Int.reduceEq, Int.reduceBEq, Int.reduceBNe, ↓reduceIte, reduceCtorEq, String.reduceBNe, String.reduceEq, reduceDIte, Nat.reducePow, hb, lk_old hb, hp, lk_old hp, ul_vals, ul_len, lS, lK, hKw, Int.le_refl, sa, sb, ga, q1, q2, q3, q4, hmx, g00, gne, lp, List.set_set, c3, c4, c5, g15, v15, d15, f15, z15, g2, v2, d2, f2, z2, g16, v16, d16, f16, z16, g7, v7, d7, f7, z7]
      refine Thn_n ?_
      have hwi : IntKind.i64.wrap ((i:Int)+1) = (i:Int)+1 := wi (by omega)
      refine ⟨i + 1, ⟨by omega, by omega⟩, by omega, ?_⟩
      try simp only [keepL, setAll, push_cast, Nat.reduceAdd, Nat.reduceMul, Nat.reduceSub, Nat.reduceLeDiff, Nat.reduceLT, Nat.reduceEqDiff, Nat.reduceBEq, Nat.reduceBNe, Nat.reduceMod, Nat.reduceDiv, Int.reduceLE, Int.reduceLT, Int.reduceToNat, Int.reduceAdd, Int.reduceSub, Int.reduceMul, Int.reduceNeg, Int.reduceEq, Int.reduceBEq, Int.reduceBNe, ↓reduceIte, reduceCtorEq, String.reduceBNe, String.reduceEq, reduceDIte, Nat.reducePow, hb, lk_old hb, hp, lk_old hp, ul_vals, ul_len, lS, lK, hKw, Int.le_refl, sa, sb, ga, q1, q2, q3, q4, hmx, g00, gne, lp, List.set_set, c3, c4, c5, g15, v15, d15, f15, z15, g2, v2, d2, f2, z2, g16, v16, d16, f16, z16, g7, v7, d7, f7, z7, hwi, snx]
      exact Weak.same (by simp only [Keeps, Tm.get_cons, Nat.reduceEqDiff, ↓reduceIte, if_true, if_false, ite_true, ite_false, true_and, and_true, and_self, reduceCtorEq, hwi, snx]) (by first | rfl | simp only [Keeps, Tm.get_cons, Nat.reduceEqDiff, ↓reduceIte, if_true, if_false, ite_true, ite_false, true_and, and_true, and_self, reduceCtorEq, hwi, snx])
    · have hin : i = 64 := by have := of_decide_eq_false h36; omega
      subst hin
      refine AW.exit ?_
      refine Thn_e ?_
      clear hK K
      refine Thn_e ?_
      refine InB_here ?_
      refine Thn_n ?_
      refine hK _ _ ?_
      clear hK K
      refine AW.seq_k fun K hK => ?_
      refine AW.draw [.val, .val, .val, .val, .rd 0, .val, .val, .val, .val, .rd 0, .val, .val, .val, .val, .rd 0, .val, .val, .val, .val, .rd 0, .val, .val, .val, .val, .rd 0, .val, .val, .val, .val, .rd 0, .val, .val, .val, .val, .rd 0, .val, .val, .val, .val, .rd 0, .val, .val, .val, .val, .val, .val, .val, .val] fol (by decide) (by kernel_rfl) ?_
      simp only [push_cast, Nat.reduceAdd, Nat.reduceMul, Nat.reduceSub, Nat.reduceLeDiff, Nat.reduceLT, Nat.reduceEqDiff, Nat.reduceBEq, Nat.reduceBNe, Nat.reduceMod, Nat.reduceDiv, Int.reduceLE, Int.reduceLT, Int.reduceToNat, Int.reduceAdd, Int.reduceSub, Int.reduceMul, Int.reduceNeg, Int.reduceEq, Int.reduceBEq, Int.reduceBNe, ↓reduceIte, reduceCtorEq, String.reduceBNe, String.reduceEq, reduceDIte, Nat.reducePow, hb, lk_old hb, hp, lk_old hp, ul_vals, ul_len, lS, lK, hKw, Int.le_refl, sa, sb, ga, q1, q2, q3, q4, hmx, g00, gne, lp, List.set_set]
      refine Thn_n ?_
      refine hK _ _ ?_
      clear hK K
      refine AW.seq_k fun K hK => ?_
      refine AW.seq_k fun K hK => ?_
      refine AW.region (by decide) ?_
      simp only [push_cast, Nat.reduceAdd, Nat.reduceMul, Nat.reduceSub, Nat.reduceLeDiff, Nat.reduceLT, Nat.reduceEqDiff, Nat.reduceBEq, Nat.reduceBNe, Nat.reduceMod, Nat.reduceDiv, Int.reduceLE, Int.reduceLT, Int.reduceToNat, Int.reduceAdd, Int.reduceSub, Int.reduceMul, Int.reduceNeg, Int.reduceEq, Int.reduceBEq, Int.reduceBNe, ↓reduceIte, reduceCtorEq, String.reduceBNe, String.reduceEq, reduceDIte, Nat.reducePow, hb, lk_old hb, hp, lk_old hp, ul_vals, ul_len, lS, lK, hKw, Int.le_refl, sa, sb, ga, q1, q2, q3, q4, hmx, g00, gne, lp, List.set_set]
      refine Thn_n ?_
      refine hK _ _ ?_
      clear hK K
      refine AW.block ?_
      refine AW.loopK [0, 4, 5] (fun i => i ≤ (64 : Nat)) (fun i => [(10, .one (.int .u32 (rd KW (sch bs off 64) S i).a)), (11, .one (.int .u32 (rd KW (sch bs off 64) S i).b)), (12, .one (.int .u32 (rd KW (sch bs off 64) S i).c)), (13, .one (.int .u32 (rd KW (sch bs off 64) S i).d)), (14, .one (.int .u32 (rd KW (sch bs off 64) S i).e)), (15, .one (.int .u32 (rd KW (sch bs off 64) S i).f)), (16, .one (.int .u32 (rd KW (sch bs off 64) S i).g)), (17, .one (.int .u32 (rd KW (sch bs off 64) S i).h)), (116, .one (.int .i64 (i : Int)))]) (fun i => []) (fun i => 64 - i) 0 (by omega) ?_ ?_ fun i hi20 => ?_
      · first | rfl | (simp only [Keeps, Tm.get_cons, Nat.reduceEqDiff, ↓reduceIte, if_true, if_false, ite_true, ite_false, true_and, and_true, and_self, reduceCtorEq, rd, Int.natCast_zero] <;> rfl)
      · first | rfl | (simp only [setAll, push_cast, Nat.reduceAdd, Nat.reduceMul, Nat.reduceSub, Nat.reduceLeDiff, Nat.reduceLT, Nat.reduceEqDiff, Nat.reduceBEq, Nat.reduceBNe, Nat.reduceMod, Nat.reduceDiv, Int.reduceLE, Int.reduceLT, Int.reduceToNat, Int.reduceAdd, Int.reduceSub, Int.reduceMul, Int.reduceNeg, Int.reduceEq, Int.reduceBEq, Int.reduceBNe, ↓reduceIte, reduceCtorEq, String.reduceBNe, String.reduceEq, reduceDIte, Nat.reducePow, hb, lk_old hb, hp, lk_old hp, ul_vals, ul_len, lS, lK, hKw, Int.le_refl, sa, sb, ga, q1, q2, q3, q4, hmx, g00, gne, lp, List.set_set, rd, Int.natCast_zero] <;> rfl)
      try simp only [keepL, setAll, push_cast, Nat.reduceAdd, Nat.reduceMul, Nat.reduceSub, Nat.reduceLeDiff, Nat.reduceLT, Nat.reduceEqDiff, Nat.reduceBEq, Nat.reduceBNe, Nat.reduceMod, Nat.reduceDiv, Int.reduceLE, Int.reduceLT, Int.reduceToNat, Int.reduceAdd, Int.reduceSub, Int.reduceMul, Int.reduceNeg, Int.reduceEq, Int.reduceBEq, Int.reduceBNe, ↓reduceIte, reduceCtorEq, String.reduceBNe, String.reduceEq, reduceDIte, Nat.reducePow, hb, lk_old hb, hp, lk_old hp, ul_vals, ul_len, lS, lK, hKw, Int.le_refl, sa, sb, ga, q1, q2, q3, q4, hmx, g00, gne, lp, List.set_set]
      refine AW.seq_k fun K hK => ?_
      refine AW.region (by decide) ?_
      simp only [push_cast, Nat.reduceAdd, Nat.reduceMul, Nat.reduceSub, Nat.reduceLeDiff, Nat.reduceLT, Nat.reduceEqDiff, Nat.reduceBEq, Nat.reduceBNe, Nat.reduceMod, Nat.reduceDiv, Int.reduceLE, Int.reduceLT, Int.reduceToNat, Int.reduceAdd, Int.reduceSub, Int.reduceMul, Int.reduceNeg, Int.reduceEq, Int.reduceBEq, Int.reduceBNe, ↓reduceIte, reduceCtorEq, String.reduceBNe, String.reduceEq, reduceDIte, Nat.reducePow, hb, lk_old hb, hp, lk_old hp, ul_vals, ul_len, lS, lK, hKw, Int.le_refl, sa, sb, ga, q1, q2, q3, q4, hmx, g00, gne, lp, List.set_set]
      refine Thn_n ?_
      refine hK _ _ ?_
      clear hK K
      refine AW.seq_k fun K hK => ?_
      refine AW.cond rfl (fun h117 => ?_) (fun h117 => ?_)
      · have hlt : i < 64 := by have := of_decide_eq_true h117; omega
        have c3 : (0 : Int) ≤ (i : Int) := by omega
        have c4 : (i : Int) < 64 := by omega
        have gk := ul_get (xs := KW) (i := i) (by show i < 64; omega)
        have gw := ul_get (xs := sch bs off 64) (i := i) (by rw [sch_len]; omega)
        refine AW.skip ?_
        refine Thn_n ?_
        refine hK _ _ ?_
        clear hK K
        refine AW.seq_k fun K hK => ?_
        refine AW.block ?_
        refine AW.seq_k fun K hK => ?_
        refine AW.region (by decide) ?_
        simp only [push_cast, Nat.reduceAdd, Nat.reduceMul, Nat.reduceSub, Nat.reduceLeDiff, Nat.reduceLT, Nat.reduceEqDiff, Nat.reduceBEq, Nat.reduceBNe, Nat.reduceMod, Nat.reduceDiv, Int.reduceLE, Int.reduceLT, Int.reduceToNat, Int.reduceAdd, Int.reduceSub, Int.reduceMul, Int.reduceNeg, Int.reduceEq, Int.reduceBEq, Int.reduceBNe, ↓reduceIte, reduceCtorEq, String.reduceBNe, String.reduceEq, reduceDIte, Nat.reducePow, hb, lk_old hb, hp, lk_old hp, ul_vals, ul_len, lS, lK, hKw, Int.le_refl, sa, sb, ga, q1, q2, q3, q4, hmx, g00, gne, lp, List.set_set, c3, c4, gk, gw]
        refine Thn_n ?_
        refine hK _ _ ?_
        clear hK K
        refine AW.seq_k fun K hK => ?_
        refine AW.draw [.val, .val, .ext, .val, .ext, .val, .val, .ext, .val, .val, .val, .val, .val, .val, .val, .val, .val, .val, .val, .val, .val, .rd 0, .val, .val, .val, .rd 0, .val, .val] fol (by decide) (by kernel_rfl) ?_
        simp only [push_cast, Nat.reduceAdd, Nat.reduceMul, Nat.reduceSub, Nat.reduceLeDiff, Nat.reduceLT, Nat.reduceEqDiff, Nat.reduceBEq, Nat.reduceBNe, Nat.reduceMod, Nat.reduceDiv, Int.reduceLE, Int.reduceLT, Int.reduceToNat, Int.reduceAdd, Int.reduceSub, Int.reduceMul, Int.reduceNeg, Int.reduceEq, Int.reduceBEq, Int.reduceBNe, ↓reduceIte, reduceCtorEq, String.reduceBNe, String.reduceEq, reduceDIte, Nat.reducePow, hb, lk_old hb, hp, lk_old hp, ul_vals, ul_len, lS, lK, hKw, Int.le_refl, sa, sb, ga, q1, q2, q3, q4, hmx, g00, gne, lp, List.set_set, c3, c4, gk, gw]
        refine DCall.by0 (rot_c _ 6 _ (by decide)) ?_
        simp only [push_cast, Nat.reduceAdd, Nat.reduceMul, Nat.reduceSub, Nat.reduceLeDiff, Nat.reduceLT, Nat.reduceEqDiff, Nat.reduceBEq, Nat.reduceBNe, Nat.reduceMod, Nat.reduceDiv, Int.reduceLE, Int.reduceLT, Int.reduceToNat, Int.reduceAdd, Int.reduceSub, Int.reduceMul, Int.reduceNeg, Int.reduceEq, Int.reduceBEq, Int.reduceBNe, ↓reduceIte, reduceCtorEq, String.reduceBNe, String.reduceEq, reduceDIte, Nat.reducePow, hb, lk_old hb, hp, lk_old hp, ul_vals, ul_len, lS, lK, hKw, Int.le_refl, sa, sb, ga, q1, q2, q3, q4, hmx, g00, gne, lp, List.set_set, c3, c4, gk, gw]
        refine DCall.by0 (rot_c _ 11 _ (by decide)) ?_
        simp only [push_cast, Nat.reduceAdd, Nat.reduceMul, Nat.reduceSub, Nat.reduceLeDiff, Nat.reduceLT, Nat.reduceEqDiff, Nat.reduceBEq, Nat.reduceBNe, Nat.reduceMod, Nat.reduceDiv, Int.reduceLE, Int.reduceLT, Int.reduceToNat, Int.reduceAdd, Int.reduceSub, Int.reduceMul, Int.reduceNeg, Int.reduceEq, Int.reduceBEq, Int.reduceBNe, ↓reduceIte, reduceCtorEq, String.reduceBNe, String.reduceEq, reduceDIte, Nat.reducePow, hb, lk_old hb, hp, lk_old hp, ul_vals, ul_len, lS, lK, hKw, Int.le_refl, sa, sb, ga, q1, q2, q3, q4, hmx, g00, gne, lp, List.set_set, c3, c4, gk, gw]
        refine DCall.by0 (rot_c _ 25 _ (by decide)) ?_
        simp only [push_cast, Nat.reduceAdd, Nat.reduceMul, Nat.reduceSub, Nat.reduceLeDiff, Nat.reduceLT, Nat.reduceEqDiff, Nat.reduceBEq, Nat.reduceBNe, Nat.reduceMod, Nat.reduceDiv, Int.reduceLE, Int.reduceLT, Int.reduceToNat, Int.reduceAdd, Int.reduceSub, Int.reduceMul, Int.reduceNeg, Int.reduceEq, Int.reduceBEq, Int.reduceBNe, ↓reduceIte, reduceCtorEq, String.reduceBNe, String.reduceEq, reduceDIte, Nat.reducePow, hb, lk_old hb, hp, lk_old hp, ul_vals, ul_len, lS, lK, hKw, Int.le_refl, sa, sb, ga, q1, q2, q3, q4, hmx, g00, gne, lp, List.set_set, c3, c4, gk, gw]
        refine Thn_n ?_
        refine hK _ _ ?_
        clear hK K
        refine AW.seq_k fun K hK => ?_
        refine AW.region (by decide) ?_
        simp only [push_cast, Nat.reduceAdd, Nat.reduceMul, Nat.reduceSub, Nat.reduceLeDiff, Nat.reduceLT, Nat.reduceEqDiff, Nat.reduceBEq, Nat.reduceBNe, Nat.reduceMod, Nat.reduceDiv, Int.reduceLE, Int.reduceLT, Int.reduceToNat, Int.reduceAdd, Int.reduceSub, Int.reduceMul, Int.reduceNeg, Int.reduceEq, Int.reduceBEq, Int.reduceBNe, ↓reduceIte, reduceCtorEq, String.reduceBNe, String.reduceEq, reduceDIte, Nat.reducePow, hb, lk_old hb, hp, lk_old hp, ul_vals, ul_len, lS, lK, hKw, Int.le_refl, sa, sb, ga, q1, q2, q3, q4, hmx, g00, gne, lp, List.set_set, c3, c4, gk, gw]
        refine CThen.by (rot_c _ 2 _ (by decide)) ?_
        simp only [push_cast, Nat.reduceAdd, Nat.reduceMul, Nat.reduceSub, Nat.reduceLeDiff, Nat.reduceLT, Nat.reduceEqDiff, Nat.reduceBEq, Nat.reduceBNe, Nat.reduceMod, Nat.reduceDiv, Int.reduceLE, Int.reduceLT, Int.reduceToNat, Int.reduceAdd, Int.reduceSub, Int.reduceMul, Int.reduceNeg, Int.reduceEq, Int.reduceBEq, Int.reduceBNe, ↓reduceIte, reduceCtorEq, String.reduceBNe, String.reduceEq, reduceDIte, Nat.reducePow, hb, lk_old hb, hp, lk_old hp, ul_vals, ul_len, lS, lK, hKw, Int.le_refl, sa, sb, ga, q1, q2, q3, q4, hmx, g00, gne, lp, List.set_set, c3, c4, gk, gw]
        refine CThen.by (rot_c _ 13 _ (by decide)) ?_
        simp only [push_cast, Nat.reduceAdd, Nat.reduceMul, Nat.reduceSub, Nat.reduceLeDiff, Nat.reduceLT, Nat.reduceEqDiff, Nat.reduceBEq, Nat.reduceBNe, Nat.reduceMod, Nat.reduceDiv, Int.reduceLE, Int.reduceLT, Int.reduceToNat, Int.reduceAdd, Int.reduceSub, Int.reduceMul, Int.reduceNeg, Int.reduceEq, Int.reduceBEq, Int.reduceBNe, ↓reduceIte, reduceCtorEq, String.reduceBNe, String.reduceEq, reduceDIte, Nat.reducePow, hb, lk_old hb, hp, lk_old hp, ul_vals, ul_len, lS, lK, hKw, Int.le_refl, sa, sb, ga, q1, q2, q3, q4, hmx, g00, gne, lp, List.set_set, c3, c4, gk, gw]
        refine CThen.by (rot_c _ 22 _ (by decide)) ?_
        simp only [push_cast, Nat.reduceAdd, Nat.reduceMul, Nat.reduceSub, Nat.reduceLeDiff, Nat.reduceLT, Nat.reduceEqDiff, Nat.reduceBEq, Nat.reduceBNe, Nat.reduceMod, Nat.reduceDiv, Int.reduceLE, Int.reduceLT, Int.reduceToNat, Int.reduceAdd, Int.reduceSub, Int.reduceMul, Int.reduceNeg, Int.reduceEq, Int.reduceBEq, Int.reduceBNe, ↓reduceIte, reduceCtorEq, String.reduceBNe, String.reduceEq, reduceDIte, Nat.reducePow, hb, lk_old hb, hp, lk_old hp, ul_vals, ul_len, lS, lK, hKw, Int.le_refl, sa, sb, ga, q1, q2, q3, q4, hmx, g00, gne, lp, List.set_set, c3, c4, gk, gw]
        refine Thn_n ?_
        refine hK _ _ ?_
        clear hK K
        refine AW.region (by decide) ?_
        simp only [push_cast, Nat.reduceAdd, Nat.reduceMul, Nat.reduceSub, Nat.reduceLeDiff, Nat.reduceLT, Nat.reduceEqDiff, Nat.reduceBEq, Nat.reduceBNe, Nat.reduceMod, Nat.reduceDiv, Int.reduceLE, Int.reduceLT, Int.reduceToNat, Int.reduceAdd, Int.reduceSub, Int.reduceMul, Int.reduceNeg, Int.reduceEq, Int.reduceBEq, Int.reduceBNe, ↓reduceIte, reduceCtorEq, String.reduceBNe, String.reduceEq, reduceDIte, Nat.reducePow, hb, lk_old hb, hp, lk_old hp, ul_vals, ul_len, lS, lK, hKw, Int.le_refl, sa, sb, ga, q1, q2, q3, q4, hmx, g00, gne, lp, List.set_set, c3, c4, gk, gw]
        refine InB_n ?_
        refine Thn_n ?_
        refine hK _ _ ?_
        clear hK K
        refine AW.region (by decide) ?_
        simp only [push_cast, Nat.reduceAdd, Nat.reduceMul, Nat.reduceSub, Nat.reduceLeDiff, Nat.reduceLT, Nat.reduceEqDiff, Nat.reduceBEq, Nat.reduceBNe, Nat.reduceMod, Nat.reduceDiv, Int.reduceLE, Int.reduceLT, Int.reduceToNat, Int.reduceAdd, Int.reduceSub, Int.reduceMul, Int.reduceNeg, Int.reduceEq, Int.reduceBEq, Int.reduceBNe, ↓reduceIte, reduceCtorEq, String.reduceBNe, String.reduceEq, reduceDIte, Nat.reducePow, hb, lk_old hb, hp, lk_old hp, ul_vals, ul_len, lS, lK, hKw, Int.le_refl, sa, sb, ga, q1, q2, q3, q4, hmx, g00, gne, lp, List.set_set, c3, c4, gk, gw]
        refine Thn_n ?_
        have hwi : IntKind.i64.wrap ((i:Int)+1) = (i:Int)+1 := wi (by omega)
        refine ⟨i + 1, by omega, by omega, ?_⟩
        try simp only [keepL, setAll, push_cast, Nat.reduceAdd, Nat.reduceMul, Nat.reduceSub, Nat.reduceLeDiff, Nat.reduceLT, Nat.reduceEqDiff, Nat.reduceBEq, Nat.reduceBNe, Nat.reduceMod, Nat.reduceDiv, Int.reduceLE, Int.reduceLT, Int.reduceToNat, Int.reduceAdd, Int.reduceSub, Int.reduceMul, Int.reduceNeg, Int.reduceEq, Int.reduceBEq, Int.reduceBNe, ↓reduceIte, reduceCtorEq, String.reduceBNe, String.reduceEq, reduceDIte, Nat.reducePow, hb, lk_old hb, hp, lk_old hp, ul_vals, ul_len, lS, lK, hKw, Int.le_refl, sa, sb, ga, q1, q2, q3, q4, hmx, g00, gne, lp, List.set_set, c3, c4, gk, gw, hwi, rd, rdF, t1F, a32, S0, S1, chF, maF]
        exact Weak.same (by simp only [Keeps, Tm.get_cons, Nat.reduceEqDiff, ↓reduceIte, if_true, if_false, ite_true, ite_false, true_and, and_true, and_self, reduceCtorEq, hwi, rd, rdF, t1F, a32, S0, S1, chF, maF]) (by first | rfl | simp only [Keeps, Tm.get_cons, Nat.reduceEqDiff, ↓reduceIte, if_true, if_false, ite_true, ite_false, true_and, and_true, and_self, reduceCtorEq, hwi, rd, rdF, t1F, a32, S0, S1, chF, maF])
      · have hin : i = 64 := by have := of_decide_eq_false h117; omega
        subst hin
        refine AW.exit ?_
        refine Thn_e ?_
        clear hK K
        refine Thn_e ?_
        refine InB_here ?_
        refine Thn_n ?_
        refine hK _ _ ?_
        clear hK K
        refine AW.seq_k fun K hK => ?_
        refine AW.region (by decide) ?_
        simp only [push_cast, Nat.reduceAdd, Nat.reduceMul, Nat.reduceSub, Nat.reduceLeDiff, Nat.reduceLT, Nat.reduceEqDiff, Nat.reduceBEq, Nat.reduceBNe, Nat.reduceMod, Nat.reduceDiv, Int.reduceLE, Int.reduceLT, Int.reduceToNat, Int.reduceAdd, Int.reduceSub, Int.reduceMul, Int.reduceNeg, Int.reduceEq, Int.reduceBEq, Int.reduceBNe, ↓reduceIte, reduceCtorEq, String.reduceBNe, String.reduceEq, reduceDIte, Nat.reducePow, hb, lk_old hb, hp, lk_old hp, ul_vals, ul_len, lS, lK, hKw, Int.le_refl, sa, sb, ga, q1, q2, q3, q4, hmx, g00, gne, lp, List.set_set]
        refine Thn_n ?_
        refine hK _ _ ?_
        clear hK K
        refine AW.block ?_
        refine AW.rounds 9 ?_
        iterate 8
          refine ARounds.succ fun K hK => ?_
          refine AW.seq_k fun K hK => ?_
          refine AW.region (by decide) ?_
          simp only [push_cast, Nat.reduceAdd, Nat.reduceMul, Nat.reduceSub, Nat.reduceLeDiff, Nat.reduceLT, Nat.reduceEqDiff, Nat.reduceBEq, Nat.reduceBNe, Nat.reduceMod, Nat.reduceDiv, Int.reduceLE, Int.reduceLT, Int.reduceToNat, Int.reduceAdd, Int.reduceSub, Int.reduceMul, Int.reduceNeg, Int.reduceEq, Int.reduceBEq, Int.reduceBNe, ↓reduceIte, reduceCtorEq, String.reduceBNe, String.reduceEq, reduceDIte, Nat.reducePow, hb, lk_old hb, hp, lk_old hp, ul_vals, ul_len, lS, lK, hKw, Int.le_refl, sa, sb, ga, q1, q2, q3, q4, hmx, g00, gne, lp, List.set_set]
          refine Thn_n ?_
          refine hK _ _ ?_
          clear hK K
          refine AW.seq_k fun K hK => ?_
          refine AW.cond_t rfl ?_
          refine AW.skip ?_
          refine Thn_n ?_
          refine hK _ _ ?_
          clear hK K
          refine AW.seq_k fun K hK => ?_
          refine AW.block ?_
          refine AW.seq_k fun K hK => ?_
          refine AW.region (by decide) ?_
          simp only [push_cast, Nat.reduceAdd, Nat.reduceMul, Nat.reduceSub, Nat.reduceLeDiff, Nat.reduceLT, Nat.reduceEqDiff, Nat.reduceBEq, Nat.reduceBNe, Nat.reduceMod, Nat.reduceDiv, Int.reduceLE, Int.reduceLT, Int.reduceToNat, Int.reduceAdd, Int.reduceSub, Int.reduceMul, Int.reduceNeg, Int.reduceEq, Int.reduceBEq, Int.reduceBNe, ↓reduceIte, reduceCtorEq, String.reduceBNe, String.reduceEq, reduceDIte, Nat.reducePow, hb, lk_old hb, hp, lk_old hp, ul_vals, ul_len, lS, lK, hKw, Int.le_refl, sa, sb, ga, q1, q2, q3, q4, hmx, g00, gne, lp, List.set_set]
          refine Thn_n ?_
          refine hK _ _ ?_
          clear hK K
          refine AW.draw [.val, .val, .val, .val, .val, .rd 0, .val, .val, .val, .val, .val, .wr] fol (by decide) (by kernel_rfl) ?_
          simp only [push_cast, Nat.reduceAdd, Nat.reduceMul, Nat.reduceSub, Nat.reduceLeDiff, Nat.reduceLT, Nat.reduceEqDiff, Nat.reduceBEq, Nat.reduceBNe, Nat.reduceMod, Nat.reduceDiv, Int.reduceLE, Int.reduceLT, Int.reduceToNat, Int.reduceAdd, Int.reduceSub, Int.reduceMul, Int.reduceNeg, Int.reduceEq, Int.reduceBEq, Int.reduceBNe, ↓reduceIte, reduceCtorEq, String.reduceBNe, String.reduceEq, reduceDIte, Nat.reducePow, hb, lk_old hb, hp, lk_old hp, ul_vals, ul_len, lS, lK, hKw, Int.le_refl, sa, sb, ga, q1, q2, q3, q4, hmx, g00, gne, lp, List.set_set]
          refine InB_n ?_
          refine Thn_n ?_
          refine hK _ _ ?_
          clear hK K
          refine AW.region (by decide) ?_
          simp only [push_cast, Nat.reduceAdd, Nat.reduceMul, Nat.reduceSub, Nat.reduceLeDiff, Nat.reduceLT, Nat.reduceEqDiff, Nat.reduceBEq, Nat.reduceBNe, Nat.reduceMod, Nat.reduceDiv, Int.reduceLE, Int.reduceLT, Int.reduceToNat, Int.reduceAdd, Int.reduceSub, Int.reduceMul, Int.reduceNeg, Int.reduceEq, Int.reduceBEq, Int.reduceBNe, ↓reduceIte, reduceCtorEq, String.reduceBNe, String.reduceEq, reduceDIte, Nat.reducePow, hb, lk_old hb, hp, lk_old hp, ul_vals, ul_len, lS, lK, hKw, Int.le_refl, sa, sb, ga, q1, q2, q3, q4, hmx, g00, gne, lp, List.set_set]
          refine Thn_n ?_
          refine hK _ _ ?_
          clear hK K
        refine ARounds.succ fun K hK => ?_
        refine AW.seq_k fun K hK => ?_
        refine AW.region (by decide) ?_
        simp only [push_cast, Nat.reduceAdd, Nat.reduceMul, Nat.reduceSub, Nat.reduceLeDiff, Nat.reduceLT, Nat.reduceEqDiff, Nat.reduceBEq, Nat.reduceBNe, Nat.reduceMod, Nat.reduceDiv, Int.reduceLE, Int.reduceLT, Int.reduceToNat, Int.reduceAdd, Int.reduceSub, Int.reduceMul, Int.reduceNeg, Int.reduceEq, Int.reduceBEq, Int.reduceBNe, ↓reduceIte, reduceCtorEq, String.reduceBNe, String.reduceEq, reduceDIte, Nat.reducePow, hb, lk_old hb, hp, lk_old hp, ul_vals, ul_len, lS, lK, hKw, Int.le_refl, sa, sb, ga, q1, q2, q3, q4, hmx, g00, gne, lp, List.set_set]
        refine Thn_n ?_
        refine hK _ _ ?_
        clear hK K
        refine AW.seq_k fun K hK => ?_
        refine AW.cond_f rfl ?_
        refine AW.exit ?_
        refine Thn_e ?_
        clear hK K
        refine Thn_e ?_
        clear hK K
        refine InB_here ?_
        refine hQ _ _ _ ?_
        first | refine RetP.dropM0 (pS_len m rp (comp KW S bs off) bc n) (Or.inl rfl) ?_ ?_ (pS_wf rp _ n hbc hwf) | refine RetP.dropM (m1 := pS m rp (comp KW S bs off) bc n) (pS_len m rp (comp KW S bs off) bc n) (Or.inl rfl) ?_ ?_ (pS_wf rp _ n hbc hwf)
        · rfl
        · rfl
        
end Go.Proofs.YtmjbbnfmhgcfaaaDoor

set_option linter.unusedSimpArgs false
set_option linter.unusedVariables false
set_option maxRecDepth 100000
set_option maxHeartbeats 4000000
namespace Go.Proofs.YtmjbbnfmhgcfaaaDoor
open Go Go.Eng

def U8ok (l : List Int) : Prop := ∀ x, x ∈ l → 0 ≤ x ∧ x ≤ 255
theorem U8ok.by {l : List Int} (h : U8ok l) (i : Nat) : 0 ≤ byB l i ∧ byB l i ≤ 255 := by
  unfold byB
  rw [List.getD_eq_getElem?_getD]
  cases e : l[i]? with
  | none => simp
  | some x => simpa using h x (List.mem_of_getElem? e)
theorem U8ok.app {a b : List Int} (ha : U8ok a) (hb : U8ok b) : U8ok (a ++ b) := fun x hx => by
  rcases List.mem_append.1 hx with h | h
  · exact ha x h
  · exact hb x h
theorem U8ok.take {a : List Int} (ha : U8ok a) (n : Nat) : U8ok (a.take n) := fun x hx => ha x (List.mem_of_mem_take hx)
theorem U8ok.drop {a : List Int} (ha : U8ok a) (n : Nat) : U8ok (a.drop n) := fun x hx => ha x (List.mem_of_mem_drop hx)
theorem U8ok.nil : U8ok [] := fun x hx => by cases hx
/-- Some blocks stirred in, one behind the other. -/
def compN (S : S8) (bs : List Int) : Nat → S8
  | 0 => S
  | i + 1 => comp KW (compN S bs i) bs (64 * i)
structure PS where
  (S : S8) (r : List Int) (n : Int)
def absS (s : PS) (bs : List Int) : PS :=
  ⟨compN s.S (s.r ++ bs) ((s.r ++ bs).length / 64), (s.r ++ bs).drop (64 * ((s.r ++ bs).length / 64)), IntKind.u64.wrap (s.n + (bs.length : Int))⟩
def accP (s : PS) (bf : Nat → List Int) : Nat → PS
  | 0 => s
  | i + 1 => absS (accP s bf i) (bf i)
theorem absS_r (s : PS) (bs : List Int) : (absS s bs).r.length < 64 := by
  simp only [absS, List.length_drop]; omega
theorem accP_r {s : PS} (h : s.r.length < 64) (bf : Nat → List Int) : ∀ i, (accP s bf i).r.length < 64
  | 0 => h
  | i + 1 => absS_r _ _
theorem accP_ok {s : PS} (h : U8ok s.r) {bf : Nat → List Int} {np : Nat} (hb : ∀ i, i < np → U8ok (bf i)) : ∀ i, i ≤ np → U8ok (accP s bf i).r
  | 0, _ => h
  | i + 1, hi => ((accP_ok h hb i (by omega)).app (hb i (by omega))).drop _
/-- A part: a slice of bytes. -/
def PartAt (m : AMem) (bb : Nat) (c : CV) (bs : List Int) : Prop :=
  (c = .nils ∧ bs = []) ∨ ∃ rb k ty v ez off X, c = .sl rb v off bs.length ∧ rb ≠ bb ∧ m[rb]? = some ⟨k, ty, v, ez, u8l X⟩ ∧ off + bs.length ≤ X.length ∧ (X.drop off).take bs.length = bs
def prB (S : S8) (b : CV) (n : Int) : Blk := ⟨.fix, 66, 0, 0, [.int .u32 (S).a, .int .u32 (S).b, .int .u32 (S).c, .int .u32 (S).d, .int .u32 (S).e, .int .u32 (S).f, .int .u32 (S).g, .int .u32 (S).h, b, .int .u64 n]⟩
def rowB (v : Nat) (bs : List Int) : Blk := ⟨.grow, 5, v, 1, u8l bs⟩
/-- The press and its row, anew. -/
def pwr (m : AMem) (rp bb v : Nat) (s : PS) : AMem := (m.set bb (rowB v s.r)).set rp (prB s.S (.sl bb v 0 s.r.length) s.n)
theorem pwr_len (m : AMem) (rp bb v : Nat) (s : PS) : (pwr m rp bb v s).length = m.length := by simp [pwr]
theorem MWf_set {L : Nat} {m : AMem} {r : Nat} {b : Blk} (h : MWf L m) (hb : b.cells.all (CV.below L) = true) (hk : b.kind.below L = true := by rfl) : MWf L (m.set r b) := fun x hx => by
  rcases List.mem_or_eq_of_mem_set hx with h1 | rfl
  · exact h x h1
  · exact blk_below hk hb
theorem pwr_wf {L : Nat} {m : AMem} (rp bb v : Nat) (s : PS) (h : MWf L m) (hb : bb < L) : MWf L (pwr m rp bb v s) := by
  refine MWf_set (MWf_set h (u8l_below _ _)) ?_
  simp only [prB, List.all_cons, List.all_nil, CV.below, decide_eq_true hb, Bool.and_true, Bool.true_and]
theorem mk_lk {m l : AMem} (h : l.length = m.length) (L : AMem) (k : Nat) : (l ++ L)[m.length + k]? = L[k]? := by rw [← h]; exact lk_app l L k
theorem mk_lk0 {m l : AMem} (h : l.length = m.length) (L : AMem) : (l ++ L)[m.length]? = L[0]? := by rw [← h]; exact lk_app0 l L
theorem mk_set {m l : AMem} (h : l.length = m.length) (L : AMem) (k : Nat) (b : Blk) : (l ++ L).set (m.length + k) b = l ++ L.set k b := by rw [← h]; exact set_app l L k b
theorem mk_set0 {m l : AMem} (h : l.length = m.length) (L : AMem) (b : Blk) : (l ++ L).set m.length b = l ++ L.set 0 b := by rw [← h]; exact set_app0 l L b
theorem mk_old {m l : AMem} {r : Nat} (h : l.length = m.length) (hr : r < m.length) (L : AMem) : (l ++ L)[r]? = l[r]? := List.getElem?_append_left (by rw [h]; exact hr)
theorem mk_olds {m l : AMem} {r : Nat} (h : l.length = m.length) (hr : r < m.length) (L : AMem) (b : Blk) : (l ++ L).set r b = l.set r b ++ L := List.set_append_left _ _ (by rw [h]; exact hr)
theorem mk_self {m l : AMem} {r : Nat} (h : l.length = m.length) (hr : r < m.length) (b : Blk) : (l.set r b)[r]? = some b := List.getElem?_set_self (by rw [h]; exact hr)
theorem mk_comm {r s : Nat} (h : r ≠ s) (l : AMem) (a b : Blk) : (l.set r a).set s b = (l.set s b).set r a := List.set_comm _ _ h
end Go.Proofs.YtmjbbnfmhgcfaaaDoor

set_option linter.unusedSimpArgs false
set_option linter.unusedVariables false
set_option maxRecDepth 100000
set_option maxHeartbeats 4000000
namespace Go.Proofs.YtmjbbnfmhgcfaaaDoor
open Go Go.Eng

theorem write_c (rp bb vb lb vl lo np : Nat) (s0 : PS) (cf : Nat → CV) (bf : Nat → List Int) (X : List CV) (kl : BK) (el : Nat) (m : AMem) (hp : m[rp]? = some (prB s0.S (.sl bb vb 0 s0.r.length) s0.n)) (hbb : m[bb]? = some (rowB vb s0.r)) (hl : m[lb]? = some ⟨kl, 22, vl, el, X⟩) (nlb : lb ≠ bb) (hX : ∀ i, i < np → X[lo + i]? = some (cf i)) (hP : ∀ i, i < np → PartAt m bb (cf i) (bf i)) (hbl : ∀ i, i < np → (bf i).length ≤ 1000000) (hbo : ∀ i, i < np → U8ok (bf i)) (hr0 : s0.r.length < 64) (ho0 : U8ok s0.r) (hnp : np ≤ 1048576) : Ctr Tryd.prog 21 [.one (.ptr rp 0 0), .one (.sl lb vl lo np)] m (.tup []) (pwr m rp bb (vb + 2 * np) (accP s0 bf np)) := by
  refine Ctr.enter Tryd.func21 rfl (by decide) (rs := []) (nt := 64) rfl rfl fun hwf Q hQ => ?_
  have lp := get_lt hp
  have lbb := get_lt hbb
  have llb := get_lt hl
  have npb : rp ≠ bb := fun e => by subst e; rw [hp] at hbb; simp [prB, rowB] at hbb
  have nbp : bb ≠ rp := fun e => npb e.symm
  have nlp : lb ≠ rp := fun e => by subst e; rw [hp] at hl; simp [prB] at hl
  have kP := fun (l : AMem) (B : Blk) (h : l.length = m.length) => mk_self h lp B
  have kB : ∀ (l : AMem) (A B : Blk) (h : l.length = m.length), ((l.set bb A).set rp B)[bb]? = some A := fun l A B h => by rw [List.getElem?_set_ne npb]; exact mk_self h lbb A
  have kO : ∀ (r : Nat) (l : AMem) (A B : Blk), r ≠ bb → r ≠ rp → ((l.set bb A).set rp B)[r]? = l[r]? := fun r l A B h1 h2 => by rw [List.getElem?_set_ne (fun e => h2 e.symm), List.getElem?_set_ne (fun e => h1 e.symm)]
  have kL := fun (l L : AMem) (h : l.length = m.length) => mk_old h lp L
  have kL2 := fun (l L : AMem) (h : l.length = m.length) => mk_old h lbb L
  have kS := fun (l L : AMem) (b : Blk) (h : l.length = m.length) => mk_olds h lp L b
  have kS2 := fun (l L : AMem) (b : Blk) (h : l.length = m.length) => mk_olds h lbb L b
  have kA := fun (l L : AMem) (h : l.length = m.length) => mk_lk0 h L
  have kAs := fun (l L : AMem) (b : Blk) (h : l.length = m.length) => mk_set0 h L b
  have kc := mk_comm npb
  have hl1 := fun (A B : Blk) => (kO lb m A B nlb nlp).trans hl
  
  refine AW.seq_k fun K hK => ?_
  refine AW.seq_k fun K hK => ?_
  refine AW.region (by decide) ?_
  simp only [push_cast, Nat.reduceAdd, Nat.reduceMul, Nat.reduceSub, Nat.reduceLeDiff, Nat.reduceLT, Nat.reduceEqDiff, Nat.reduceBEq, Nat.reduceBNe, Nat.reduceMod, Nat.reduceDiv, Int.reduceLE, Int.reduceLT, Int.reduceToNat, Int.reduceAdd, Int.reduceSub, Int.reduceMul, Int.reduceNeg, Int.reduceEq, Int.reduceBEq, Int.reduceBNe, ↓reduceIte, reduceCtorEq, String.reduceBNe, String.reduceEq, reduceDIte, Nat.reducePow, kP, kB, kL, kL2, kS, kS2, kA, kAs, kc, hl1, List.set_set, List.length_set, prB, rowB, pS, u8l_len, Nat.sub_zero, Int.le_refl]
  refine Thn_n ?_
  refine hK _ _ ?_
  clear hK K
  refine AW.cond_f rfl ?_
  refine AW.skip ?_
  refine Thn_n ?_
  refine hK _ _ ?_
  clear hK K
  refine AW.seq_k fun K hK => ?_
  refine AW.region (by decide) ?_
  simp only [push_cast, Nat.reduceAdd, Nat.reduceMul, Nat.reduceSub, Nat.reduceLeDiff, Nat.reduceLT, Nat.reduceEqDiff, Nat.reduceBEq, Nat.reduceBNe, Nat.reduceMod, Nat.reduceDiv, Int.reduceLE, Int.reduceLT, Int.reduceToNat, Int.reduceAdd, Int.reduceSub, Int.reduceMul, Int.reduceNeg, Int.reduceEq, Int.reduceBEq, Int.reduceBNe, ↓reduceIte, reduceCtorEq, String.reduceBNe, String.reduceEq, reduceDIte, Nat.reducePow, kP, kB, kL, kL2, kS, kS2, kA, kAs, kc, hl1, List.set_set, List.length_set, prB, rowB, pS, u8l_len, Nat.sub_zero, Int.le_refl]
  refine Thn_n ?_
  refine hK _ _ ?_
  clear hK K
  refine AW.block ?_
  refine AW.loopK [0, 8, 9] (fun i => i ≤ np) (fun i => [(10, .one (.int .i64 (i : Int)))]) (fun i => [(bb, rowB (vb + 2 * i) (accP s0 bf i).r), (rp, prB (accP s0 bf i).S (.sl bb (vb + 2 * i) 0 (accP s0 bf i).r.length) (accP s0 bf i).n)]) (fun i => np - i) 0 (by omega) ?_ ?_ fun i hi4 => ?_
  · first | rfl | (simp only [Keeps, Tm.get_cons, Nat.reduceEqDiff, ↓reduceIte, if_true, if_false, ite_true, ite_false, true_and, and_true, and_self, reduceCtorEq, accP, Nat.mul_zero, Nat.add_zero] <;> rfl)
  · simp only [setAll, accP, Nat.mul_zero, Nat.add_zero]; rw [set_self hbb, set_self hp]
  have hnx : accP s0 bf (i + 1) = absS (accP s0 bf i) (bf i) := rfl
  have hrl := accP_r hr0 bf i
  have hok := accP_ok ho0 hbo i hi4
  generalize hst : accP s0 bf i = st at hnx hrl hok ⊢
  obtain ⟨S, r, n⟩ := st
  have hvn : vb + 2 * (i + 1) = vb + 2 * i + 2 := by omega
  generalize hv1 : vb + 2 * i = v1 at hvn ⊢
  dsimp only at hrl hok ⊢
  obtain ⟨al, hal⟩ : ∃ al, r ++ bf i = al := ⟨_, rfl⟩
  try simp only [keepL, setAll, push_cast, Nat.reduceAdd, Nat.reduceMul, Nat.reduceSub, Nat.reduceLeDiff, Nat.reduceLT, Nat.reduceEqDiff, Nat.reduceBEq, Nat.reduceBNe, Nat.reduceMod, Nat.reduceDiv, Int.reduceLE, Int.reduceLT, Int.reduceToNat, Int.reduceAdd, Int.reduceSub, Int.reduceMul, Int.reduceNeg, Int.reduceEq, Int.reduceBEq, Int.reduceBNe, ↓reduceIte, reduceCtorEq, String.reduceBNe, String.reduceEq, reduceDIte, Nat.reducePow, kP, kB, kL, kL2, kS, kS2, kA, kAs, kc, hl1, List.set_set, List.length_set, prB, rowB, pS, u8l_len, Nat.sub_zero, Int.le_refl]
  refine AW.seq_k fun K hK => ?_
  refine AW.region (by decide) ?_
  simp only [push_cast, Nat.reduceAdd, Nat.reduceMul, Nat.reduceSub, Nat.reduceLeDiff, Nat.reduceLT, Nat.reduceEqDiff, Nat.reduceBEq, Nat.reduceBNe, Nat.reduceMod, Nat.reduceDiv, Int.reduceLE, Int.reduceLT, Int.reduceToNat, Int.reduceAdd, Int.reduceSub, Int.reduceMul, Int.reduceNeg, Int.reduceEq, Int.reduceBEq, Int.reduceBNe, ↓reduceIte, reduceCtorEq, String.reduceBNe, String.reduceEq, reduceDIte, Nat.reducePow, kP, kB, kL, kL2, kS, kS2, kA, kAs, kc, hl1, List.set_set, List.length_set, prB, rowB, pS, u8l_len, Nat.sub_zero, Int.le_refl]
  refine Thn_n ?_
  refine hK _ _ ?_
  clear hK K
  refine AW.seq_k fun K hK => ?_
  refine AW.cond rfl (fun h11 => ?_) (fun h11 => ?_)
  · have hlt : i < np := by have := of_decide_eq_true h11; omega
    have c1 : (0 : Int) ≤ (i : Int) := by omega
    have c2 : (i : Int) < (np : Int) := by omega
    have hXi := hX i hlt
    refine AW.skip ?_
    refine Thn_n ?_
    refine hK _ _ ?_
    clear hK K
    refine AW.seq_k fun K hK => ?_
    refine AW.block ?_
    refine AW.seq_k fun K hK => ?_
    refine AW.region (by decide) ?_
    simp only [push_cast, Nat.reduceAdd, Nat.reduceMul, Nat.reduceSub, Nat.reduceLeDiff, Nat.reduceLT, Nat.reduceEqDiff, Nat.reduceBEq, Nat.reduceBNe, Nat.reduceMod, Nat.reduceDiv, Int.reduceLE, Int.reduceLT, Int.reduceToNat, Int.reduceAdd, Int.reduceSub, Int.reduceMul, Int.reduceNeg, Int.reduceEq, Int.reduceBEq, Int.reduceBNe, ↓reduceIte, reduceCtorEq, String.reduceBNe, String.reduceEq, reduceDIte, Nat.reducePow, kP, kB, kL, kL2, kS, kS2, kA, kAs, kc, hl1, List.set_set, List.length_set, prB, rowB, pS, u8l_len, Nat.sub_zero, Int.le_refl, c1, c2, hXi]
    refine Thn_n ?_
    refine hK _ _ ?_
    clear hK K
    refine AW.seq_k fun K hK => ?_
    rcases hP i hlt with ⟨ec, eb⟩ | ⟨rb, k2, ty2, v2, ez2, off2, X2, ec, hrb, hb2, hf2, hx2⟩
    · have happ := hal
      have hal2 := congrArg List.length hal
      rw [List.length_append] at hal2
      obtain ⟨nn, hnn⟩ : ∃ nn, nn = IntKind.u64.wrap (n + ((bf i).length : Int)) := ⟨_, rfl⟩
      have hnn0 := hnn
      have hle := hbl i hlt
      have w1 : IntKind.u64.wrap (((bf i).length : Nat) : Int) = ((bf i).length : Int) := by rw [IntKind.wrap_u64]; omega
      have q1 : r.length + (bf i).length ≤ 140737488355328 := by omega
      have q2 : al.length ≤ 140737488355328 := by omega
      have hokA : U8ok al := by rw [← hal]; exact hok.app (hbo i hlt)
      have nb := hokA.by
      have hnnS := hnn.symm
      simp only [ec]
      rw [eb] at hal hal2 hnn
      rw [List.append_nil] at hal
      have hals := hal.symm
      subst hals
      have hz : IntKind.u64.wrap 0 = 0 := by decide
      have hnnS : IntKind.u64.wrap n = nn := by rw [hnn]; simp
      have q1 : al.length ≤ 140737488355328 := by omega
      have ha1 : u8l al ++ [] = u8l al := List.append_nil _
      
      iterate 2
        refine AW.region (by decide) ?_
        simp only [push_cast, Nat.reduceAdd, Nat.reduceMul, Nat.reduceSub, Nat.reduceLeDiff, Nat.reduceLT, Nat.reduceEqDiff, Nat.reduceBEq, Nat.reduceBNe, Nat.reduceMod, Nat.reduceDiv, Int.reduceLE, Int.reduceLT, Int.reduceToNat, Int.reduceAdd, Int.reduceSub, Int.reduceMul, Int.reduceNeg, Int.reduceEq, Int.reduceBEq, Int.reduceBNe, ↓reduceIte, reduceCtorEq, String.reduceBNe, String.reduceEq, reduceDIte, Nat.reducePow, kP, kB, kL, kL2, kS, kS2, kA, kAs, kc, hl1, List.set_set, List.length_set, prB, rowB, pS, u8l_len, Nat.sub_zero, Int.le_refl, c1, c2, hXi, ha1, hz, hnnS, q1, Int.add_zero]
        refine Thn_n ?_
        refine hK _ _ ?_
        clear hK K
        refine AW.seq_k fun K hK => ?_
      refine AW.block ?_
      refine AW.loopK [0, 8, 9, 10] (fun j => 64 * j ≤ al.length) (fun j => []) (fun j => [(rp, ⟨.fix, 66, 0, 0, [.int .u32 ((compN S al j)).a, .int .u32 ((compN S al j)).b, .int .u32 ((compN S al j)).c, .int .u32 ((compN S al j)).d, .int .u32 ((compN S al j)).e, .int .u32 ((compN S al j)).f, .int .u32 ((compN S al j)).g, .int .u32 ((compN S al j)).h, (.sl bb (v1 + 1) (64 * j) (al.length - 64 * j)), .int .u64 nn]⟩)]) (fun j => al.length - 64 * j) 0 (by omega) ?_ ?_ fun j hi12 => ?_
      · first | rfl | (simp only [Keeps, Tm.get_cons, Nat.reduceEqDiff, ↓reduceIte, if_true, if_false, ite_true, ite_false, true_and, and_true, and_self, reduceCtorEq, compN, Nat.mul_zero, Nat.sub_zero] <;> rfl)
      · first | rfl | (simp only [setAll, push_cast, Nat.reduceAdd, Nat.reduceMul, Nat.reduceSub, Nat.reduceLeDiff, Nat.reduceLT, Nat.reduceEqDiff, Nat.reduceBEq, Nat.reduceBNe, Nat.reduceMod, Nat.reduceDiv, Int.reduceLE, Int.reduceLT, Int.reduceToNat, Int.reduceAdd, Int.reduceSub, Int.reduceMul, Int.reduceNeg, Int.reduceEq, Int.reduceBEq, Int.reduceBNe, ↓reduceIte, reduceCtorEq, String.reduceBNe, String.reduceEq, reduceDIte, Nat.reducePow, kP, kB, kL, kL2, kS, kS2, kA, kAs, kc, hl1, List.set_set, List.length_set, prB, rowB, pS, u8l_len, Nat.sub_zero, Int.le_refl, c1, c2, hXi, ha1, hz, hnnS, q1, Int.add_zero, compN, Nat.mul_zero, Nat.sub_zero] <;> rfl)
      try simp only [keepL, setAll, push_cast, Nat.reduceAdd, Nat.reduceMul, Nat.reduceSub, Nat.reduceLeDiff, Nat.reduceLT, Nat.reduceEqDiff, Nat.reduceBEq, Nat.reduceBNe, Nat.reduceMod, Nat.reduceDiv, Int.reduceLE, Int.reduceLT, Int.reduceToNat, Int.reduceAdd, Int.reduceSub, Int.reduceMul, Int.reduceNeg, Int.reduceEq, Int.reduceBEq, Int.reduceBNe, ↓reduceIte, reduceCtorEq, String.reduceBNe, String.reduceEq, reduceDIte, Nat.reducePow, kP, kB, kL, kL2, kS, kS2, kA, kAs, kc, hl1, List.set_set, List.length_set, prB, rowB, pS, u8l_len, Nat.sub_zero, Int.le_refl, c1, c2, hXi, ha1, hz, hnnS, q1, Int.add_zero]
      refine AW.seq_k fun K hK => ?_
      refine AW.seq_k fun K hK => ?_
      refine AW.region (by decide) ?_
      simp only [push_cast, Nat.reduceAdd, Nat.reduceMul, Nat.reduceSub, Nat.reduceLeDiff, Nat.reduceLT, Nat.reduceEqDiff, Nat.reduceBEq, Nat.reduceBNe, Nat.reduceMod, Nat.reduceDiv, Int.reduceLE, Int.reduceLT, Int.reduceToNat, Int.reduceAdd, Int.reduceSub, Int.reduceMul, Int.reduceNeg, Int.reduceEq, Int.reduceBEq, Int.reduceBNe, ↓reduceIte, reduceCtorEq, String.reduceBNe, String.reduceEq, reduceDIte, Nat.reducePow, kP, kB, kL, kL2, kS, kS2, kA, kAs, kc, hl1, List.set_set, List.length_set, prB, rowB, pS, u8l_len, Nat.sub_zero, Int.le_refl, c1, c2, hXi, ha1, hz, hnnS, q1, Int.add_zero]
      refine Thn_n ?_
      refine hK _ _ ?_
      clear hK K
      refine AW.cond rfl (fun h38 => ?_) (fun h38 => ?_)
      · have hj : 64 ≤ al.length - 64 * j := by have := of_decide_eq_true h38; omega
        have c3 : (0 : Int) ≤ 64 := by omega
        have c4 : (64 : Int) ≤ ((al.length - 64 * j : Nat) : Int) := by omega
        have c5 : (((al.length - 64 * j : Nat) : Int)).toNat - 64 = al.length - 64 * j - 64 := by omega
        refine AW.skip ?_
        refine Thn_n ?_
        refine hK _ _ ?_
        clear hK K
        refine AW.seq_k fun K hK => ?_
        refine AW.block ?_
        refine AW.region (by decide) ?_
        simp only [push_cast, Nat.reduceAdd, Nat.reduceMul, Nat.reduceSub, Nat.reduceLeDiff, Nat.reduceLT, Nat.reduceEqDiff, Nat.reduceBEq, Nat.reduceBNe, Nat.reduceMod, Nat.reduceDiv, Int.reduceLE, Int.reduceLT, Int.reduceToNat, Int.reduceAdd, Int.reduceSub, Int.reduceMul, Int.reduceNeg, Int.reduceEq, Int.reduceBEq, Int.reduceBNe, ↓reduceIte, reduceCtorEq, String.reduceBNe, String.reduceEq, reduceDIte, Nat.reducePow, kP, kB, kL, kL2, kS, kS2, kA, kAs, kc, hl1, List.set_set, List.length_set, prB, rowB, pS, u8l_len, Nat.sub_zero, Int.le_refl, c1, c2, hXi, ha1, hz, hnnS, q1, Int.add_zero, c3, c4, c5]
        refine CThen.by (stir_c rp (compN S al j) (.sl bb (v1 + 1) (64 * j) (al.length - 64 * j)) nn bb (v1 + 1) (64 * j) 64 al _ (kP _ _ (by rw [List.length_set])) (by simp only [CV.below, List.length_set]; exact decide_eq_true lbb) ⟨_, _, kB _ _ _ rfl⟩ (by omega) (by omega) (by omega) nb) ?_
        simp only [push_cast, Nat.reduceAdd, Nat.reduceMul, Nat.reduceSub, Nat.reduceLeDiff, Nat.reduceLT, Nat.reduceEqDiff, Nat.reduceBEq, Nat.reduceBNe, Nat.reduceMod, Nat.reduceDiv, Int.reduceLE, Int.reduceLT, Int.reduceToNat, Int.reduceAdd, Int.reduceSub, Int.reduceMul, Int.reduceNeg, Int.reduceEq, Int.reduceBEq, Int.reduceBNe, ↓reduceIte, reduceCtorEq, String.reduceBNe, String.reduceEq, reduceDIte, Nat.reducePow, kP, kB, kL, kL2, kS, kS2, kA, kAs, kc, hl1, List.set_set, List.length_set, prB, rowB, pS, u8l_len, Nat.sub_zero, Int.le_refl, c1, c2, hXi, ha1, hz, hnnS, q1, Int.add_zero, c3, c4, c5]
        refine InB_n ?_
        refine Thn_n ?_
        refine hK _ _ ?_
        clear hK K
        refine AW.region (by decide) ?_
        simp only [push_cast, Nat.reduceAdd, Nat.reduceMul, Nat.reduceSub, Nat.reduceLeDiff, Nat.reduceLT, Nat.reduceEqDiff, Nat.reduceBEq, Nat.reduceBNe, Nat.reduceMod, Nat.reduceDiv, Int.reduceLE, Int.reduceLT, Int.reduceToNat, Int.reduceAdd, Int.reduceSub, Int.reduceMul, Int.reduceNeg, Int.reduceEq, Int.reduceBEq, Int.reduceBNe, ↓reduceIte, reduceCtorEq, String.reduceBNe, String.reduceEq, reduceDIte, Nat.reducePow, kP, kB, kL, kL2, kS, kS2, kA, kAs, kc, hl1, List.set_set, List.length_set, prB, rowB, pS, u8l_len, Nat.sub_zero, Int.le_refl, c1, c2, hXi, ha1, hz, hnnS, q1, Int.add_zero, c3, c4, c5]
        refine Thn_n ?_
        have e1 : 64 * (j + 1) = 64 * j + 64 := by omega
        have e2 : al.length - (64 * j + 64) = al.length - 64 * j - 64 := by omega
        have e3 : compN S al (j + 1) = comp KW (compN S al j) al (64 * j) := rfl
        refine ⟨j + 1, by omega, by omega, ?_⟩
        try simp only [keepL, setAll, push_cast, Nat.reduceAdd, Nat.reduceMul, Nat.reduceSub, Nat.reduceLeDiff, Nat.reduceLT, Nat.reduceEqDiff, Nat.reduceBEq, Nat.reduceBNe, Nat.reduceMod, Nat.reduceDiv, Int.reduceLE, Int.reduceLT, Int.reduceToNat, Int.reduceAdd, Int.reduceSub, Int.reduceMul, Int.reduceNeg, Int.reduceEq, Int.reduceBEq, Int.reduceBNe, ↓reduceIte, reduceCtorEq, String.reduceBNe, String.reduceEq, reduceDIte, Nat.reducePow, kP, kB, kL, kL2, kS, kS2, kA, kAs, kc, hl1, List.set_set, List.length_set, prB, rowB, pS, u8l_len, Nat.sub_zero, Int.le_refl, c1, c2, hXi, ha1, hz, hnnS, q1, Int.add_zero, c3, c4, c5, e1, e2, e3]
        exact Weak.same (by simp only [Keeps, Tm.get_cons, Nat.reduceEqDiff, ↓reduceIte, if_true, if_false, ite_true, ite_false, true_and, and_true, and_self, reduceCtorEq, e1, e2, e3]) (by first | rfl | simp only [Keeps, Tm.get_cons, Nat.reduceEqDiff, ↓reduceIte, if_true, if_false, ite_true, ite_false, true_and, and_true, and_self, reduceCtorEq, e1, e2, e3])
      · have hj : al.length - 64 * j < 64 := by have := of_decide_eq_false h38; omega
        have hje : j = al.length / 64 := by omega
        have g1 : (u8l al).drop (64 * j) = u8l (al.drop (64 * j)) := u8l_drop _ _
        have g2 : (u8l (al.drop (64 * j))).take (al.length - 64 * j) = u8l (al.drop (64 * j)) := List.take_of_length_le (by rw [u8l_len, List.length_drop]; exact Nat.le_refl _)
        have g3 : 64 * j + (al.length - 64 * j) ≤ al.length := by omega
        have g4 : al.length - 64 * j ≤ 140737488355328 := by omega
        have g5 := u8l_vals (al.drop (64 * j))
        have g6 := u8l_len (al.drop (64 * j))
        refine AW.exit ?_
        refine Thn_e ?_
        clear hK K
        refine Thn_e ?_
        refine InB_here ?_
        refine Thn_n ?_
        refine hK _ _ ?_
        clear hK K
        refine AW.region (by decide) ?_
        simp only [push_cast, Nat.reduceAdd, Nat.reduceMul, Nat.reduceSub, Nat.reduceLeDiff, Nat.reduceLT, Nat.reduceEqDiff, Nat.reduceBEq, Nat.reduceBNe, Nat.reduceMod, Nat.reduceDiv, Int.reduceLE, Int.reduceLT, Int.reduceToNat, Int.reduceAdd, Int.reduceSub, Int.reduceMul, Int.reduceNeg, Int.reduceEq, Int.reduceBEq, Int.reduceBNe, ↓reduceIte, reduceCtorEq, String.reduceBNe, String.reduceEq, reduceDIte, Nat.reducePow, kP, kB, kL, kL2, kS, kS2, kA, kAs, kc, hl1, List.set_set, List.length_set, prB, rowB, pS, u8l_len, Nat.sub_zero, Int.le_refl, c1, c2, hXi, ha1, hz, hnnS, q1, Int.add_zero, g1, g2, g3, g4, g5, g6]
        refine InB_n ?_
        refine Thn_n ?_
        refine hK _ _ ?_
        clear hK K
        refine AW.moveC bb m.length 60 (al.length - 64 * j) rp 8 (b := rowB (v1 + 1) al) (e := ⟨.grow, 5, 1, 1, u8l (al.drop (64 * j))⟩) (by simp only [push_cast, Nat.reduceAdd, Nat.reduceMul, Nat.reduceSub, Nat.reduceLeDiff, Nat.reduceLT, Nat.reduceEqDiff, Nat.reduceBEq, Nat.reduceBNe, Nat.reduceMod, Nat.reduceDiv, Int.reduceLE, Int.reduceLT, Int.reduceToNat, Int.reduceAdd, Int.reduceSub, Int.reduceMul, Int.reduceNeg, Int.reduceEq, Int.reduceBEq, Int.reduceBNe, ↓reduceIte, reduceCtorEq, String.reduceBNe, String.reduceEq, reduceDIte, Nat.reducePow, kP, kB, kL, kL2, kS, kS2, kA, kAs, kc, hl1, List.set_set, List.length_set, rowB]) rfl (by simp only [push_cast, Nat.reduceAdd, Nat.reduceMul, Nat.reduceSub, Nat.reduceLeDiff, Nat.reduceLT, Nat.reduceEqDiff, Nat.reduceBEq, Nat.reduceBNe, Nat.reduceMod, Nat.reduceDiv, Int.reduceLE, Int.reduceLT, Int.reduceToNat, Int.reduceAdd, Int.reduceSub, Int.reduceMul, Int.reduceNeg, Int.reduceEq, Int.reduceBEq, Int.reduceBNe, ↓reduceIte, reduceCtorEq, String.reduceBNe, String.reduceEq, reduceDIte, Nat.reducePow, kP, kB, kL, kL2, kS, kS2, kA, kAs, kc, hl1, List.set_set, List.length_set]) rfl (by omega) (by simp only [push_cast, Nat.reduceAdd, Nat.reduceMul, Nat.reduceSub, Nat.reduceLeDiff, Nat.reduceLT, Nat.reduceEqDiff, Nat.reduceBEq, Nat.reduceBNe, Nat.reduceMod, Nat.reduceDiv, Int.reduceLE, Int.reduceLT, Int.reduceToNat, Int.reduceAdd, Int.reduceSub, Int.reduceMul, Int.reduceNeg, Int.reduceEq, Int.reduceBEq, Int.reduceBNe, ↓reduceIte, reduceCtorEq, String.reduceBNe, String.reduceEq, reduceDIte, Nat.reducePow]) (p := ⟨.fix, 66, 0, 0, [.int .u32 ((compN S al j)).a, .int .u32 ((compN S al j)).b, .int .u32 ((compN S al j)).c, .int .u32 ((compN S al j)).d, .int .u32 ((compN S al j)).e, .int .u32 ((compN S al j)).f, .int .u32 ((compN S al j)).g, .int .u32 ((compN S al j)).h, (.sl m.length 1 0 (al.length - 64 * j)), .int .u64 nn]⟩) (by simp only [push_cast, Nat.reduceAdd, Nat.reduceMul, Nat.reduceSub, Nat.reduceLeDiff, Nat.reduceLT, Nat.reduceEqDiff, Nat.reduceBEq, Nat.reduceBNe, Nat.reduceMod, Nat.reduceDiv, Int.reduceLE, Int.reduceLT, Int.reduceToNat, Int.reduceAdd, Int.reduceSub, Int.reduceMul, Int.reduceNeg, Int.reduceEq, Int.reduceBEq, Int.reduceBNe, ↓reduceIte, reduceCtorEq, String.reduceBNe, String.reduceEq, reduceDIte, Nat.reducePow, kP, kB, kL, kL2, kS, kS2, kA, kAs, kc, hl1, List.set_set, List.length_set]) (by simp) npb (by omega) rfl ?_
        simp only [push_cast, Nat.reduceAdd, Nat.reduceMul, Nat.reduceSub, Nat.reduceLeDiff, Nat.reduceLT, Nat.reduceEqDiff, Nat.reduceBEq, Nat.reduceBNe, Nat.reduceMod, Nat.reduceDiv, Int.reduceLE, Int.reduceLT, Int.reduceToNat, Int.reduceAdd, Int.reduceSub, Int.reduceMul, Int.reduceNeg, Int.reduceEq, Int.reduceBEq, Int.reduceBNe, ↓reduceIte, reduceCtorEq, String.reduceBNe, String.reduceEq, reduceDIte, Nat.reducePow, kP, kB, kL, kL2, kS, kS2, kA, kAs, kc, hl1, List.set_set, List.length_set, rowB]
        refine AW.region (by decide) ?_
        simp only [push_cast, Nat.reduceAdd, Nat.reduceMul, Nat.reduceSub, Nat.reduceLeDiff, Nat.reduceLT, Nat.reduceEqDiff, Nat.reduceBEq, Nat.reduceBNe, Nat.reduceMod, Nat.reduceDiv, Int.reduceLE, Int.reduceLT, Int.reduceToNat, Int.reduceAdd, Int.reduceSub, Int.reduceMul, Int.reduceNeg, Int.reduceEq, Int.reduceBEq, Int.reduceBNe, ↓reduceIte, reduceCtorEq, String.reduceBNe, String.reduceEq, reduceDIte, Nat.reducePow, kP, kB, kL, kL2, kS, kS2, kA, kAs, kc, hl1, List.set_set, List.length_set, prB, rowB, pS, u8l_len, Nat.sub_zero, Int.le_refl, c1, c2, hXi, ha1, hz, hnnS, q1, Int.add_zero, g1, g2, g3, g4, g5, g6]
        refine Thn_n ?_
        have hwi : IntKind.i64.wrap ((i:Int)+1) = (i:Int)+1 := wi (by omega)
        have hres : accP s0 bf (i + 1) = ⟨compN S al j, al.drop (64 * j), nn⟩ := by rw [hnx]; simp only [absS, happ, ← hje, ← hnn0]
        have hdl : (al.drop (64 * j)).length = al.length - 64 * j := List.length_drop
        refine ⟨i + 1, by omega, by omega, ?_⟩
        try simp only [keepL, setAll, push_cast, Nat.reduceAdd, Nat.reduceMul, Nat.reduceSub, Nat.reduceLeDiff, Nat.reduceLT, Nat.reduceEqDiff, Nat.reduceBEq, Nat.reduceBNe, Nat.reduceMod, Nat.reduceDiv, Int.reduceLE, Int.reduceLT, Int.reduceToNat, Int.reduceAdd, Int.reduceSub, Int.reduceMul, Int.reduceNeg, Int.reduceEq, Int.reduceBEq, Int.reduceBNe, ↓reduceIte, reduceCtorEq, String.reduceBNe, String.reduceEq, reduceDIte, Nat.reducePow, kP, kB, kL, kL2, kS, kS2, kA, kAs, kc, hl1, List.set_set, List.length_set, prB, rowB, pS, u8l_len, Nat.sub_zero, Int.le_refl, c1, c2, hXi, ha1, hz, hnnS, q1, Int.add_zero, g1, g2, g3, g4, g5, g6, hwi, hvn, hres, hdl]
        exact Weak.to (extra := [_]) (by simp only [Keeps, Tm.get_cons, Nat.reduceEqDiff, ↓reduceIte, if_true, if_false, ite_true, ite_false, true_and, and_true, and_self, reduceCtorEq, hwi, hvn, hres, hdl]) (by first | rfl | (simp only [List.append_assoc, List.cons_append, List.nil_append]; rfl)) (by first | rfl | (simp [AV.below, CV.below]; done) | (simp [AV.below, CV.below]; omega)) (by simp only [List.length_set]; refine MWf_set (MWf_set hwf (u8l_below _ _)) ?_; simp [CV.below, lbb])
    · have happ := hal
      have hal2 := congrArg List.length hal
      rw [List.length_append] at hal2
      obtain ⟨nn, hnn⟩ : ∃ nn, nn = IntKind.u64.wrap (n + ((bf i).length : Int)) := ⟨_, rfl⟩
      have hnn0 := hnn
      have hle := hbl i hlt
      have w1 : IntKind.u64.wrap (((bf i).length : Nat) : Int) = ((bf i).length : Int) := by rw [IntKind.wrap_u64]; omega
      have q1 : r.length + (bf i).length ≤ 140737488355328 := by omega
      have q2 : al.length ≤ 140737488355328 := by omega
      have hokA : U8ok al := by rw [← hal]; exact hok.app (hbo i hlt)
      have nb := hokA.by
      have hnnS := hnn.symm
      have nrp : rb ≠ rp := fun e => by
        subst e; rw [hp] at hb2; simp only [prB, Option.some.injEq, Blk.mk.injEq] at hb2
        have := hb2.2.2.2.2
        cases X2 with
        | nil => simp [u8l] at this
        | cons x xs => simp [u8l] at this
      simp only [ec]
      have hb3 := fun (A B : Blk) => (kO rb m A B hrb nrp).trans hb2
      have ha1 : u8l r ++ ((u8l X2).drop off2).take (bf i).length = u8l al := by rw [u8l_drop, u8l_take, hx2, u8l_app, hal]
      have ha2 : off2 + (bf i).length ≤ X2.length := hf2
      have ha3 : (((u8l X2).drop off2).take (bf i).length).all CV.isVal = true := by rw [u8l_drop, u8l_take]; exact u8l_vals _
      
      iterate 2
        refine AW.region (by decide) ?_
        simp only [push_cast, Nat.reduceAdd, Nat.reduceMul, Nat.reduceSub, Nat.reduceLeDiff, Nat.reduceLT, Nat.reduceEqDiff, Nat.reduceBEq, Nat.reduceBNe, Nat.reduceMod, Nat.reduceDiv, Int.reduceLE, Int.reduceLT, Int.reduceToNat, Int.reduceAdd, Int.reduceSub, Int.reduceMul, Int.reduceNeg, Int.reduceEq, Int.reduceBEq, Int.reduceBNe, ↓reduceIte, reduceCtorEq, String.reduceBNe, String.reduceEq, reduceDIte, Nat.reducePow, kP, kB, kL, kL2, kS, kS2, kA, kAs, kc, hl1, List.set_set, List.length_set, prB, rowB, pS, u8l_len, Nat.sub_zero, Int.le_refl, c1, c2, hXi, hb3, ha1, ha2, ha3, w1, q1, q2, hnnS, hal2]
        refine Thn_n ?_
        refine hK _ _ ?_
        clear hK K
        refine AW.seq_k fun K hK => ?_
      refine AW.block ?_
      refine AW.loopK [0, 8, 9, 10] (fun j => 64 * j ≤ al.length) (fun j => []) (fun j => [(rp, ⟨.fix, 66, 0, 0, [.int .u32 ((compN S al j)).a, .int .u32 ((compN S al j)).b, .int .u32 ((compN S al j)).c, .int .u32 ((compN S al j)).d, .int .u32 ((compN S al j)).e, .int .u32 ((compN S al j)).f, .int .u32 ((compN S al j)).g, .int .u32 ((compN S al j)).h, (.sl bb (v1 + 1) (64 * j) (al.length - 64 * j)), .int .u64 nn]⟩)]) (fun j => al.length - 64 * j) 0 (by omega) ?_ ?_ fun j hi18 => ?_
      · first | rfl | (simp only [Keeps, Tm.get_cons, Nat.reduceEqDiff, ↓reduceIte, if_true, if_false, ite_true, ite_false, true_and, and_true, and_self, reduceCtorEq, compN, Nat.mul_zero, Nat.sub_zero] <;> rfl)
      · first | rfl | (simp only [setAll, push_cast, Nat.reduceAdd, Nat.reduceMul, Nat.reduceSub, Nat.reduceLeDiff, Nat.reduceLT, Nat.reduceEqDiff, Nat.reduceBEq, Nat.reduceBNe, Nat.reduceMod, Nat.reduceDiv, Int.reduceLE, Int.reduceLT, Int.reduceToNat, Int.reduceAdd, Int.reduceSub, Int.reduceMul, Int.reduceNeg, Int.reduceEq, Int.reduceBEq, Int.reduceBNe, ↓reduceIte, reduceCtorEq, String.reduceBNe, String.reduceEq, reduceDIte, Nat.reducePow, kP, kB, kL, kL2, kS, kS2, kA, kAs, kc, hl1, List.set_set, List.length_set, prB, rowB, pS, u8l_len, Nat.sub_zero, Int.le_refl, c1, c2, hXi, hb3, ha1, ha2, ha3, w1, q1, q2, hnnS, hal2, compN, Nat.mul_zero, Nat.sub_zero] <;> rfl)
      try simp only [keepL, setAll, push_cast, Nat.reduceAdd, Nat.reduceMul, Nat.reduceSub, Nat.reduceLeDiff, Nat.reduceLT, Nat.reduceEqDiff, Nat.reduceBEq, Nat.reduceBNe, Nat.reduceMod, Nat.reduceDiv, Int.reduceLE, Int.reduceLT, Int.reduceToNat, Int.reduceAdd, Int.reduceSub, Int.reduceMul, Int.reduceNeg, Int.reduceEq, Int.reduceBEq, Int.reduceBNe, ↓reduceIte, reduceCtorEq, String.reduceBNe, String.reduceEq, reduceDIte, Nat.reducePow, kP, kB, kL, kL2, kS, kS2, kA, kAs, kc, hl1, List.set_set, List.length_set, prB, rowB, pS, u8l_len, Nat.sub_zero, Int.le_refl, c1, c2, hXi, hb3, ha1, ha2, ha3, w1, q1, q2, hnnS, hal2]
      refine AW.seq_k fun K hK => ?_
      refine AW.seq_k fun K hK => ?_
      refine AW.region (by decide) ?_
      simp only [push_cast, Nat.reduceAdd, Nat.reduceMul, Nat.reduceSub, Nat.reduceLeDiff, Nat.reduceLT, Nat.reduceEqDiff, Nat.reduceBEq, Nat.reduceBNe, Nat.reduceMod, Nat.reduceDiv, Int.reduceLE, Int.reduceLT, Int.reduceToNat, Int.reduceAdd, Int.reduceSub, Int.reduceMul, Int.reduceNeg, Int.reduceEq, Int.reduceBEq, Int.reduceBNe, ↓reduceIte, reduceCtorEq, String.reduceBNe, String.reduceEq, reduceDIte, Nat.reducePow, kP, kB, kL, kL2, kS, kS2, kA, kAs, kc, hl1, List.set_set, List.length_set, prB, rowB, pS, u8l_len, Nat.sub_zero, Int.le_refl, c1, c2, hXi, hb3, ha1, ha2, ha3, w1, q1, q2, hnnS, hal2]
      refine Thn_n ?_
      refine hK _ _ ?_
      clear hK K
      refine AW.cond rfl (fun h38 => ?_) (fun h38 => ?_)
      · have hj : 64 ≤ al.length - 64 * j := by have := of_decide_eq_true h38; omega
        have c3 : (0 : Int) ≤ 64 := by omega
        have c4 : (64 : Int) ≤ ((al.length - 64 * j : Nat) : Int) := by omega
        have c5 : (((al.length - 64 * j : Nat) : Int)).toNat - 64 = al.length - 64 * j - 64 := by omega
        refine AW.skip ?_
        refine Thn_n ?_
        refine hK _ _ ?_
        clear hK K
        refine AW.seq_k fun K hK => ?_
        refine AW.block ?_
        refine AW.region (by decide) ?_
        simp only [push_cast, Nat.reduceAdd, Nat.reduceMul, Nat.reduceSub, Nat.reduceLeDiff, Nat.reduceLT, Nat.reduceEqDiff, Nat.reduceBEq, Nat.reduceBNe, Nat.reduceMod, Nat.reduceDiv, Int.reduceLE, Int.reduceLT, Int.reduceToNat, Int.reduceAdd, Int.reduceSub, Int.reduceMul, Int.reduceNeg, Int.reduceEq, Int.reduceBEq, Int.reduceBNe, ↓reduceIte, reduceCtorEq, String.reduceBNe, String.reduceEq, reduceDIte, Nat.reducePow, kP, kB, kL, kL2, kS, kS2, kA, kAs, kc, hl1, List.set_set, List.length_set, prB, rowB, pS, u8l_len, Nat.sub_zero, Int.le_refl, c1, c2, hXi, hb3, ha1, ha2, ha3, w1, q1, q2, hnnS, hal2, c3, c4, c5]
        refine CThen.by (stir_c rp (compN S al j) (.sl bb (v1 + 1) (64 * j) (al.length - 64 * j)) nn bb (v1 + 1) (64 * j) 64 al _ (kP _ _ (by rw [List.length_set])) (by simp only [CV.below, List.length_set]; exact decide_eq_true lbb) ⟨_, _, kB _ _ _ rfl⟩ (by omega) (by omega) (by omega) nb) ?_
        simp only [push_cast, Nat.reduceAdd, Nat.reduceMul, Nat.reduceSub, Nat.reduceLeDiff, Nat.reduceLT, Nat.reduceEqDiff, Nat.reduceBEq, Nat.reduceBNe, Nat.reduceMod, Nat.reduceDiv, Int.reduceLE, Int.reduceLT, Int.reduceToNat, Int.reduceAdd, Int.reduceSub, Int.reduceMul, Int.reduceNeg, Int.reduceEq, Int.reduceBEq, Int.reduceBNe, ↓reduceIte, reduceCtorEq, String.reduceBNe, String.reduceEq, reduceDIte, Nat.reducePow, kP, kB, kL, kL2, kS, kS2, kA, kAs, kc, hl1, List.set_set, List.length_set, prB, rowB, pS, u8l_len, Nat.sub_zero, Int.le_refl, c1, c2, hXi, hb3, ha1, ha2, ha3, w1, q1, q2, hnnS, hal2, c3, c4, c5]
        refine InB_n ?_
        refine Thn_n ?_
        refine hK _ _ ?_
        clear hK K
        refine AW.region (by decide) ?_
        simp only [push_cast, Nat.reduceAdd, Nat.reduceMul, Nat.reduceSub, Nat.reduceLeDiff, Nat.reduceLT, Nat.reduceEqDiff, Nat.reduceBEq, Nat.reduceBNe, Nat.reduceMod, Nat.reduceDiv, Int.reduceLE, Int.reduceLT, Int.reduceToNat, Int.reduceAdd, Int.reduceSub, Int.reduceMul, Int.reduceNeg, Int.reduceEq, Int.reduceBEq, Int.reduceBNe, ↓reduceIte, reduceCtorEq, String.reduceBNe, String.reduceEq, reduceDIte, Nat.reducePow, kP, kB, kL, kL2, kS, kS2, kA, kAs, kc, hl1, List.set_set, List.length_set, prB, rowB, pS, u8l_len, Nat.sub_zero, Int.le_refl, c1, c2, hXi, hb3, ha1, ha2, ha3, w1, q1, q2, hnnS, hal2, c3, c4, c5]
        refine Thn_n ?_
        have e1 : 64 * (j + 1) = 64 * j + 64 := by omega
        have e2 : al.length - (64 * j + 64) = al.length - 64 * j - 64 := by omega
        have e3 : compN S al (j + 1) = comp KW (compN S al j) al (64 * j) := rfl
        refine ⟨j + 1, by omega, by omega, ?_⟩
        try simp only [keepL, setAll, push_cast, Nat.reduceAdd, Nat.reduceMul, Nat.reduceSub, Nat.reduceLeDiff, Nat.reduceLT, Nat.reduceEqDiff, Nat.reduceBEq, Nat.reduceBNe, Nat.reduceMod, Nat.reduceDiv, Int.reduceLE, Int.reduceLT, Int.reduceToNat, Int.reduceAdd, Int.reduceSub, Int.reduceMul, Int.reduceNeg, Int.reduceEq, Int.reduceBEq, Int.reduceBNe, ↓reduceIte, reduceCtorEq, String.reduceBNe, String.reduceEq, reduceDIte, Nat.reducePow, kP, kB, kL, kL2, kS, kS2, kA, kAs, kc, hl1, List.set_set, List.length_set, prB, rowB, pS, u8l_len, Nat.sub_zero, Int.le_refl, c1, c2, hXi, hb3, ha1, ha2, ha3, w1, q1, q2, hnnS, hal2, c3, c4, c5, e1, e2, e3]
        exact Weak.same (by simp only [Keeps, Tm.get_cons, Nat.reduceEqDiff, ↓reduceIte, if_true, if_false, ite_true, ite_false, true_and, and_true, and_self, reduceCtorEq, e1, e2, e3]) (by first | rfl | simp only [Keeps, Tm.get_cons, Nat.reduceEqDiff, ↓reduceIte, if_true, if_false, ite_true, ite_false, true_and, and_true, and_self, reduceCtorEq, e1, e2, e3])
      · have hj : al.length - 64 * j < 64 := by have := of_decide_eq_false h38; omega
        have hje : j = al.length / 64 := by omega
        have g1 : (u8l al).drop (64 * j) = u8l (al.drop (64 * j)) := u8l_drop _ _
        have g2 : (u8l (al.drop (64 * j))).take (al.length - 64 * j) = u8l (al.drop (64 * j)) := List.take_of_length_le (by rw [u8l_len, List.length_drop]; exact Nat.le_refl _)
        have g3 : 64 * j + (al.length - 64 * j) ≤ al.length := by omega
        have g4 : al.length - 64 * j ≤ 140737488355328 := by omega
        have g5 := u8l_vals (al.drop (64 * j))
        have g6 := u8l_len (al.drop (64 * j))
        refine AW.exit ?_
        refine Thn_e ?_
        clear hK K
        refine Thn_e ?_
        refine InB_here ?_
        refine Thn_n ?_
        refine hK _ _ ?_
        clear hK K
        refine AW.region (by decide) ?_
        simp only [push_cast, Nat.reduceAdd, Nat.reduceMul, Nat.reduceSub, Nat.reduceLeDiff, Nat.reduceLT, Nat.reduceEqDiff, Nat.reduceBEq, Nat.reduceBNe, Nat.reduceMod, Nat.reduceDiv, Int.reduceLE, Int.reduceLT, Int.reduceToNat, Int.reduceAdd, Int.reduceSub, Int.reduceMul, Int.reduceNeg, Int.reduceEq, Int.reduceBEq, Int.reduceBNe, ↓reduceIte, reduceCtorEq, String.reduceBNe, String.reduceEq, reduceDIte, Nat.reducePow, kP, kB, kL, kL2, kS, kS2, kA, kAs, kc, hl1, List.set_set, List.length_set, prB, rowB, pS, u8l_len, Nat.sub_zero, Int.le_refl, c1, c2, hXi, hb3, ha1, ha2, ha3, w1, q1, q2, hnnS, hal2, g1, g2, g3, g4, g5, g6]
        refine InB_n ?_
        refine Thn_n ?_
        refine hK _ _ ?_
        clear hK K
        refine AW.moveC bb m.length 60 (al.length - 64 * j) rp 8 (b := rowB (v1 + 1) al) (e := ⟨.grow, 5, 1, 1, u8l (al.drop (64 * j))⟩) (by simp only [push_cast, Nat.reduceAdd, Nat.reduceMul, Nat.reduceSub, Nat.reduceLeDiff, Nat.reduceLT, Nat.reduceEqDiff, Nat.reduceBEq, Nat.reduceBNe, Nat.reduceMod, Nat.reduceDiv, Int.reduceLE, Int.reduceLT, Int.reduceToNat, Int.reduceAdd, Int.reduceSub, Int.reduceMul, Int.reduceNeg, Int.reduceEq, Int.reduceBEq, Int.reduceBNe, ↓reduceIte, reduceCtorEq, String.reduceBNe, String.reduceEq, reduceDIte, Nat.reducePow, kP, kB, kL, kL2, kS, kS2, kA, kAs, kc, hl1, List.set_set, List.length_set, rowB]) rfl (by simp only [push_cast, Nat.reduceAdd, Nat.reduceMul, Nat.reduceSub, Nat.reduceLeDiff, Nat.reduceLT, Nat.reduceEqDiff, Nat.reduceBEq, Nat.reduceBNe, Nat.reduceMod, Nat.reduceDiv, Int.reduceLE, Int.reduceLT, Int.reduceToNat, Int.reduceAdd, Int.reduceSub, Int.reduceMul, Int.reduceNeg, Int.reduceEq, Int.reduceBEq, Int.reduceBNe, ↓reduceIte, reduceCtorEq, String.reduceBNe, String.reduceEq, reduceDIte, Nat.reducePow, kP, kB, kL, kL2, kS, kS2, kA, kAs, kc, hl1, List.set_set, List.length_set]) rfl (by omega) (by simp only [push_cast, Nat.reduceAdd, Nat.reduceMul, Nat.reduceSub, Nat.reduceLeDiff, Nat.reduceLT, Nat.reduceEqDiff, Nat.reduceBEq, Nat.reduceBNe, Nat.reduceMod, Nat.reduceDiv, Int.reduceLE, Int.reduceLT, Int.reduceToNat, Int.reduceAdd, Int.reduceSub, Int.reduceMul, Int.reduceNeg, Int.reduceEq, Int.reduceBEq, Int.reduceBNe, ↓reduceIte, reduceCtorEq, String.reduceBNe, String.reduceEq, reduceDIte, Nat.reducePow]) (p := ⟨.fix, 66, 0, 0, [.int .u32 ((compN S al j)).a, .int .u32 ((compN S al j)).b, .int .u32 ((compN S al j)).c, .int .u32 ((compN S al j)).d, .int .u32 ((compN S al j)).e, .int .u32 ((compN S al j)).f, .int .u32 ((compN S al j)).g, .int .u32 ((compN S al j)).h, (.sl m.length 1 0 (al.length - 64 * j)), .int .u64 nn]⟩) (by simp only [push_cast, Nat.reduceAdd, Nat.reduceMul, Nat.reduceSub, Nat.reduceLeDiff, Nat.reduceLT, Nat.reduceEqDiff, Nat.reduceBEq, Nat.reduceBNe, Nat.reduceMod, Nat.reduceDiv, Int.reduceLE, Int.reduceLT, Int.reduceToNat, Int.reduceAdd, Int.reduceSub, Int.reduceMul, Int.reduceNeg, Int.reduceEq, Int.reduceBEq, Int.reduceBNe, ↓reduceIte, reduceCtorEq, String.reduceBNe, String.reduceEq, reduceDIte, Nat.reducePow, kP, kB, kL, kL2, kS, kS2, kA, kAs, kc, hl1, List.set_set, List.length_set]) (by simp) npb (by omega) rfl ?_
        simp only [push_cast, Nat.reduceAdd, Nat.reduceMul, Nat.reduceSub, Nat.reduceLeDiff, Nat.reduceLT, Nat.reduceEqDiff, Nat.reduceBEq, Nat.reduceBNe, Nat.reduceMod, Nat.reduceDiv, Int.reduceLE, Int.reduceLT, Int.reduceToNat, Int.reduceAdd, Int.reduceSub, Int.reduceMul, Int.reduceNeg, Int.reduceEq, Int.reduceBEq, Int.reduceBNe, ↓reduceIte, reduceCtorEq, String.reduceBNe, String.reduceEq, reduceDIte, Nat.reducePow, kP, kB, kL, kL2, kS, kS2, kA, kAs, kc, hl1, List.set_set, List.length_set, rowB]
        refine AW.region (by decide) ?_
        simp only [push_cast, Nat.reduceAdd, Nat.reduceMul, Nat.reduceSub, Nat.reduceLeDiff, Nat.reduceLT, Nat.reduceEqDiff, Nat.reduceBEq, Nat.reduceBNe, Nat.reduceMod, Nat.reduceDiv, Int.reduceLE, Int.reduceLT, Int.reduceToNat, Int.reduceAdd, Int.reduceSub, Int.reduceMul, Int.reduceNeg, Int.reduceEq, Int.reduceBEq, Int.reduceBNe, ↓reduceIte, reduceCtorEq, String.reduceBNe, String.reduceEq, reduceDIte, Nat.reducePow, kP, kB, kL, kL2, kS, kS2, kA, kAs, kc, hl1, List.set_set, List.length_set, prB, rowB, pS, u8l_len, Nat.sub_zero, Int.le_refl, c1, c2, hXi, hb3, ha1, ha2, ha3, w1, q1, q2, hnnS, hal2, g1, g2, g3, g4, g5, g6]
        refine Thn_n ?_
        have hwi : IntKind.i64.wrap ((i:Int)+1) = (i:Int)+1 := wi (by omega)
        have hres : accP s0 bf (i + 1) = ⟨compN S al j, al.drop (64 * j), nn⟩ := by rw [hnx]; simp only [absS, happ, ← hje, ← hnn0]
        have hdl : (al.drop (64 * j)).length = al.length - 64 * j := List.length_drop
        refine ⟨i + 1, by omega, by omega, ?_⟩
        try simp only [keepL, setAll, push_cast, Nat.reduceAdd, Nat.reduceMul, Nat.reduceSub, Nat.reduceLeDiff, Nat.reduceLT, Nat.reduceEqDiff, Nat.reduceBEq, Nat.reduceBNe, Nat.reduceMod, Nat.reduceDiv, Int.reduceLE, Int.reduceLT, Int.reduceToNat, Int.reduceAdd, Int.reduceSub, Int.reduceMul, Int.reduceNeg, Int.reduceEq, Int.reduceBEq, Int.reduceBNe, ↓reduceIte, reduceCtorEq, String.reduceBNe, String.reduceEq, reduceDIte, Nat.reducePow, kP, kB, kL, kL2, kS, kS2, kA, kAs, kc, hl1, List.set_set, List.length_set, prB, rowB, pS, u8l_len, Nat.sub_zero, Int.le_refl, c1, c2, hXi, hb3, ha1, ha2, ha3, w1, q1, q2, hnnS, hal2, g1, g2, g3, g4, g5, g6, hwi, hvn, hres, hdl]
        exact Weak.to (extra := [_]) (by simp only [Keeps, Tm.get_cons, Nat.reduceEqDiff, ↓reduceIte, if_true, if_false, ite_true, ite_false, true_and, and_true, and_self, reduceCtorEq, hwi, hvn, hres, hdl]) (by first | rfl | (simp only [List.append_assoc, List.cons_append, List.nil_append]; rfl)) (by first | rfl | (simp [AV.below, CV.below]; done) | (simp [AV.below, CV.below]; omega)) (by simp only [List.length_set]; refine MWf_set (MWf_set hwf (u8l_below _ _)) ?_; simp [CV.below, lbb])
  · have hin : i = np := by have := of_decide_eq_false h11; omega
    subst hin
    refine AW.exit ?_
    refine Thn_e ?_
    clear hK K
    refine Thn_e ?_
    refine InB_here ?_
    refine hQ _ _ _ ?_
    rw [hv1, hst]
    first | refine RetP.dropM0 (pwr_len m rp bb _ _) (Or.inl rfl) ?_ ?_ (pwr_wf rp bb _ _ hwf lbb) | refine RetP.dropM (m1 := pwr m rp bb _ _) (pwr_len m rp bb _ _) (Or.inl rfl) ?_ ?_ (pwr_wf rp bb _ _ hwf lbb)
    · rfl
    · rfl
    
end Go.Proofs.YtmjbbnfmhgcfaaaDoor

set_option linter.unusedSimpArgs false
set_option linter.unusedVariables false
set_option maxRecDepth 100000
set_option maxHeartbeats 4000000
namespace Go.Proofs.YtmjbbnfmhgcfaaaDoor
open Go Go.Eng

def padz (n : Nat) : Nat := (119 - n % 64) % 64
theorem padz_ok (n : Nat) : (n + 1 + padz n) % 64 = 56 := by unfold padz; omega
theorem padz_lt {n j : Nat} (h : j < padz n) : (n + 1 + j) % 64 ≠ 56 := by unfold padz at h; omega
theorem padz_eq {n j : Nat} (h : j ≤ padz n) (h2 : (n + 1 + j) % 64 = 56) : j = padz n := by unfold padz at *; omega
theorem padz_le (n : Nat) : padz n < 64 := by unfold padz; omega
def hiW (n : Int) : Int := IntKind.u32.wrap ((IntKind.u64.wrap (8 * n)).fdiv 4294967296)
def loW (n : Int) : Int := IntKind.u32.wrap (IntKind.u64.wrap (8 * n))
def padL (r : List Int) (j : Nat) : List Int := r ++ 128 :: List.replicate j 0
def lastL (s : PS) : List Int := padL s.r (padz s.r.length) ++ fourL (hiW s.n) ++ fourL (loW s.n)
theorem padL_len (r : List Int) (j : Nat) : (padL r j).length = r.length + 1 + j := by simp [padL]; omega
theorem lastL_len (s : PS) : (lastL s).length = s.r.length + 1 + padz s.r.length + 8 := by simp only [lastL, List.length_append, padL_len]; rfl
theorem fourL_ok (n : Int) : U8ok (fourL n) := fun x hx => by
  simp only [fourL, List.mem_cons, List.not_mem_nil, or_false] at hx
  rcases hx with rfl | rfl | rfl | rfl <;> (rw [w8]; omega)
theorem padL_ok {r : List Int} (h : U8ok r) (j : Nat) : U8ok (padL r j) := h.app fun x hx => by
  rcases List.mem_cons.1 hx with rfl | hx
  · omega
  · obtain ⟨_, rfl⟩ := List.mem_replicate.1 hx; omega
theorem lastL_ok {s : PS} (h : U8ok s.r) : U8ok (lastL s) := ((padL_ok h _).app (fourL_ok _)).app (fourL_ok _)
def finS (s : PS) : S8 := compN s.S (lastL s) ((lastL s).length / 64)
def digL (S : S8) : List Int := fourL S.a ++ fourL S.b ++ fourL S.c ++ fourL S.d ++ fourL S.e ++ fourL S.f ++ fourL S.g ++ fourL S.h
def dP (S : S8) (i : Nat) : List Int := (digL S).take (4 * i) ++ List.replicate (32 - 4 * i) 0
def hS (S : S8) : List CV := [.int .u32 S.a, .int .u32 S.b, .int .u32 S.c, .int .u32 S.d, .int .u32 S.e, .int .u32 S.f, .int .u32 S.g, .int .u32 S.h]
def hF (S : S8) : Nat → Int
  | 0 => S.a | 1 => S.b | 2 => S.c | 3 => S.d | 4 => S.e | 5 => S.f | 6 => S.g | _ => S.h
theorem hS_get (S : S8) : ∀ {i : Nat}, i < 8 → (hS S)[i]? = some (.int .u32 (hF S i))
  | 0, _ => rfl | 1, _ => rfl | 2, _ => rfl | 3, _ => rfl | 4, _ => rfl | 5, _ => rfl | 6, _ => rfl | 7, _ => rfl
  | n + 8, h => by omega
theorem dP_succ (S : S8) : ∀ {i : Nat}, i < 8 → setL (u8l (dP S i)) (4 * i) (u8l (fourL (hF S i))) = u8l (dP S (i + 1))
  | 0, _ => rfl | 1, _ => rfl | 2, _ => rfl | 3, _ => rfl | 4, _ => rfl | 5, _ => rfl | 6, _ => rfl | 7, _ => rfl
  | n + 8, h => by omega
theorem dP_len (S : S8) {i : Nat} (h : i ≤ 8) : (dP S i).length = 32 := by
  have : (digL S).length = 32 := rfl
  simp only [dP, List.length_append, List.length_take, List.length_replicate, this]; omega
theorem dP_full (S : S8) : dP S 8 = digL S := rfl
theorem padL_succ (r : List Int) (j : Nat) : u8l (padL r j) ++ [.int .u8 0] = u8l (padL r (j + 1)) := by
  simp [u8l, padL, List.replicate_succ']
theorem padL_zero (r : List Int) : u8l r ++ [.int .u8 128] = u8l (padL r 0) := by simp [u8l, padL]

theorem sum_c (rp bb vb : Nat) (s : PS) (m : AMem) (hp : m[rp]? = some (prB s.S (.sl bb vb 0 s.r.length) s.n)) (hbb : m[bb]? = some (rowB vb s.r)) (hr0 : s.r.length < 64) (ho0 : U8ok s.r) : Ctr Tryd.prog 22 [.one (.ptr rp 0 0)] m (.agg (u8l (digL (finS s)))) m := by
  refine Ctr.enter Tryd.func22 rfl (by decide) (rs := [.cell 2 33]) (nt := 73) rfl rfl fun hwf Q hQ => ?_
  obtain ⟨S, r, n⟩ := s
  dsimp only at hp hbb hr0 ho0 ⊢
  have lp := get_lt hp
  have lbb := get_lt hbb
  have ha1 := u8l_len r
  have ha2 := u8l_vals r
  have ha3 : (u8l r).take r.length = u8l r := List.take_of_length_le (by rw [u8l_len]; exact Nat.le_refl _)
  have ha4 : r.length ≤ 140737488355328 := by omega
  have ha5 : r.length + 1 ≤ 140737488355328 := by omega
  have hz0 := padL_zero r
  have q1 : (2:Int) ^ min 32 IntKind.u64.bits = 4294967296 := by decide
  have hll := lastL_len ⟨S, r, n⟩
  have hpz := padz_le r.length
  have hpl0 : (padL r 0).length = r.length + 1 := padL_len r 0
  have hpo := padz_ok r.length
  dsimp only at hll
  obtain ⟨la, hla⟩ : ∃ la, lastL ⟨S, r, n⟩ = la := ⟨_, rfl⟩
  have hok : U8ok la := by rw [← hla]; exact lastL_ok ho0
  have nb := hok.by
  rw [hla] at hll
  have hfin : finS ⟨S, r, n⟩ = compN S la (la.length / 64) := by unfold finS; rw [hla]
  have hlc : u8l (padL r (padz r.length)) ++ u8l (fourL (hiW n)) ++ u8l (fourL (loW n)) = u8l la := by rw [← hla, u8l_app, u8l_app]; rfl
  have hlc2 : u8l (padL r (padz r.length)) ++ (u8l (fourL (hiW n)) ++ u8l (fourL (loW n))) = u8l la := by rw [← List.append_assoc]; exact hlc
  have hhi : IntKind.u32.wrap ((IntKind.u64.wrap (8 * n)).fdiv 4294967296) = hiW n := rfl
  have hlo : IntKind.u32.wrap (IntKind.u64.wrap (8 * n)) = loW n := rfl
  have hfx : ∀ x, u8l (fourL x) = [.int .u8 (IntKind.u8.wrap (x.fdiv 16777216)), .int .u8 (IntKind.u8.wrap (x.fdiv 65536)), .int .u8 (IntKind.u8.wrap (x.fdiv 256)), .int .u8 (IntKind.u8.wrap x)] := fun x => rfl
  have mn4 : min 4 4 = 4 := rfl
  have mn8 : min 4 8 = 4 := rfl
  have mn12 : min 4 12 = 4 := rfl
  have mn16 : min 4 16 = 4 := rfl
  have mn20 : min 4 20 = 4 := rfl
  have mn24 : min 4 24 = 4 := rfl
  have mn28 : min 4 28 = 4 := rfl
  have mn32 : min 4 32 = 4 := rfl
  have f1 : ∀ x, (u8l (fourL x)).take 4 = u8l (fourL x) := fun x => rfl
  have f2 : ∀ x, (u8l (fourL x)).length = 4 := fun x => rfl
  have f3 : ∀ x, (u8l (fourL x)).all CV.isVal = true := fun x => u8l_vals _
  
  refine AW.seq_k fun K hK => ?_
  refine AW.region (by decide) ?_
  simp only [push_cast, Nat.reduceAdd, Nat.reduceMul, Nat.reduceSub, Nat.reduceLeDiff, Nat.reduceLT, Nat.reduceEqDiff, Nat.reduceBEq, Nat.reduceBNe, Nat.reduceMod, Nat.reduceDiv, Int.reduceLE, Int.reduceLT, Int.reduceToNat, Int.reduceAdd, Int.reduceSub, Int.reduceMul, Int.reduceNeg, Int.reduceEq, Int.reduceBEq, Int.reduceBNe, ↓reduceIte, reduceCtorEq, String.reduceBNe, String.reduceEq, reduceDIte, Nat.reducePow, hp, lk_old hp, hbb, lk_old hbb, prB, rowB, pS, u8l_len, Nat.sub_zero, Int.le_refl, ha1, ha2, ha3, ha4, ha5, hz0, q1, hhi, hlo, f1, f2, f3]
  refine Thn_n ?_
  refine hK _ _ ?_
  clear hK K
  refine AW.seq_k fun K hK => ?_
  refine AW.seq_k fun K hK => ?_
  refine AW.region (by decide) ?_
  simp only [push_cast, Nat.reduceAdd, Nat.reduceMul, Nat.reduceSub, Nat.reduceLeDiff, Nat.reduceLT, Nat.reduceEqDiff, Nat.reduceBEq, Nat.reduceBNe, Nat.reduceMod, Nat.reduceDiv, Int.reduceLE, Int.reduceLT, Int.reduceToNat, Int.reduceAdd, Int.reduceSub, Int.reduceMul, Int.reduceNeg, Int.reduceEq, Int.reduceBEq, Int.reduceBNe, ↓reduceIte, reduceCtorEq, String.reduceBNe, String.reduceEq, reduceDIte, Nat.reducePow, hp, lk_old hp, hbb, lk_old hbb, prB, rowB, pS, u8l_len, Nat.sub_zero, Int.le_refl, ha1, ha2, ha3, ha4, ha5, hz0, q1, hhi, hlo, f1, f2, f3]
  refine Thn_n ?_
  refine hK _ _ ?_
  clear hK K
  refine AW.cond_f rfl ?_
  refine AW.skip ?_
  refine Thn_n ?_
  refine hK _ _ ?_
  clear hK K
  refine AW.seq_k fun K hK => ?_
  refine AW.draw [.val, .val, .val, .rd 0, .ext, .val, .val, .val, .rd 0, .up 0, .val, .fl, .wr] fol (by decide) (by kernel_rfl) ?_
  simp only [push_cast, Nat.reduceAdd, Nat.reduceMul, Nat.reduceSub, Nat.reduceLeDiff, Nat.reduceLT, Nat.reduceEqDiff, Nat.reduceBEq, Nat.reduceBNe, Nat.reduceMod, Nat.reduceDiv, Int.reduceLE, Int.reduceLT, Int.reduceToNat, Int.reduceAdd, Int.reduceSub, Int.reduceMul, Int.reduceNeg, Int.reduceEq, Int.reduceBEq, Int.reduceBNe, ↓reduceIte, reduceCtorEq, String.reduceBNe, String.reduceEq, reduceDIte, Nat.reducePow, hp, lk_old hp, hbb, lk_old hbb, prB, rowB, pS, u8l_len, Nat.sub_zero, Int.le_refl, ha1, ha2, ha3, ha4, ha5, hz0, q1, hhi, hlo, f1, f2, f3]
  refine DExt.by (by first | rfl | (simp only [List.append_assoc, List.cons_append, List.nil_append]; rfl)) ?_
  simp only [push_cast, Nat.reduceAdd, Nat.reduceMul, Nat.reduceSub, Nat.reduceLeDiff, Nat.reduceLT, Nat.reduceEqDiff, Nat.reduceBEq, Nat.reduceBNe, Nat.reduceMod, Nat.reduceDiv, Int.reduceLE, Int.reduceLT, Int.reduceToNat, Int.reduceAdd, Int.reduceSub, Int.reduceMul, Int.reduceNeg, Int.reduceEq, Int.reduceBEq, Int.reduceBNe, ↓reduceIte, reduceCtorEq, String.reduceBNe, String.reduceEq, reduceDIte, Nat.reducePow, hp, lk_old hp, hbb, lk_old hbb, prB, rowB, pS, u8l_len, Nat.sub_zero, Int.le_refl, ha1, ha2, ha3, ha4, ha5, hz0, q1, hhi, hlo, f1, f2, f3]
  refine DUp.by (by first | rfl | (simp only [List.append_assoc, List.cons_append, List.nil_append]; rfl)) (by first | rfl | (simp only [List.append_assoc, List.cons_append, List.nil_append]; rfl)) ?_
  simp only [push_cast, Nat.reduceAdd, Nat.reduceMul, Nat.reduceSub, Nat.reduceLeDiff, Nat.reduceLT, Nat.reduceEqDiff, Nat.reduceBEq, Nat.reduceBNe, Nat.reduceMod, Nat.reduceDiv, Int.reduceLE, Int.reduceLT, Int.reduceToNat, Int.reduceAdd, Int.reduceSub, Int.reduceMul, Int.reduceNeg, Int.reduceEq, Int.reduceBEq, Int.reduceBNe, ↓reduceIte, reduceCtorEq, String.reduceBNe, String.reduceEq, reduceDIte, Nat.reducePow, hp, lk_old hp, hbb, lk_old hbb, prB, rowB, pS, u8l_len, Nat.sub_zero, Int.le_refl, ha1, ha2, ha3, ha4, ha5, hz0, q1, hhi, hlo, f1, f2, f3]
  refine Thn_n ?_
  refine hK _ _ ?_
  clear hK K
  refine AW.seq_k fun K hK => ?_
  refine AW.region (by decide) ?_
  simp only [push_cast, Nat.reduceAdd, Nat.reduceMul, Nat.reduceSub, Nat.reduceLeDiff, Nat.reduceLT, Nat.reduceEqDiff, Nat.reduceBEq, Nat.reduceBNe, Nat.reduceMod, Nat.reduceDiv, Int.reduceLE, Int.reduceLT, Int.reduceToNat, Int.reduceAdd, Int.reduceSub, Int.reduceMul, Int.reduceNeg, Int.reduceEq, Int.reduceBEq, Int.reduceBNe, ↓reduceIte, reduceCtorEq, String.reduceBNe, String.reduceEq, reduceDIte, Nat.reducePow, hp, lk_old hp, hbb, lk_old hbb, prB, rowB, pS, u8l_len, Nat.sub_zero, Int.le_refl, ha1, ha2, ha3, ha4, ha5, hz0, q1, hhi, hlo, f1, f2, f3]
  refine Thn_n ?_
  refine hK _ _ ?_
  clear hK K
  refine AW.seq_k fun K hK => ?_
  refine AW.block ?_
  refine AW.loopK [0, 2, 3] (fun j => j ≤ padz r.length) (fun j => [(4, .one (.sl (m.length + 1) (2 + j) 0 (padL r j).length))]) (fun j => [(m.length + 1, ⟨.grow, 5, 2 + j, 1, u8l (padL r j)⟩)]) (fun j => padz r.length - j) 0 (by omega) ?_ ?_ fun j hi7 => ?_
  · first | rfl | (simp only [Keeps, Tm.get_cons, Nat.reduceEqDiff, ↓reduceIte, if_true, if_false, ite_true, ite_false, true_and, and_true, and_self, reduceCtorEq, hpl0] <;> rfl)
  · first | rfl | (simp only [setAll, push_cast, Nat.reduceAdd, Nat.reduceMul, Nat.reduceSub, Nat.reduceLeDiff, Nat.reduceLT, Nat.reduceEqDiff, Nat.reduceBEq, Nat.reduceBNe, Nat.reduceMod, Nat.reduceDiv, Int.reduceLE, Int.reduceLT, Int.reduceToNat, Int.reduceAdd, Int.reduceSub, Int.reduceMul, Int.reduceNeg, Int.reduceEq, Int.reduceBEq, Int.reduceBNe, ↓reduceIte, reduceCtorEq, String.reduceBNe, String.reduceEq, reduceDIte, Nat.reducePow, hp, lk_old hp, hbb, lk_old hbb, prB, rowB, pS, u8l_len, Nat.sub_zero, Int.le_refl, ha1, ha2, ha3, ha4, ha5, hz0, q1, hhi, hlo, f1, f2, f3, hpl0] <;> rfl)
  have hi : j ≤ padz r.length := hi7
  have hpl := padL_len r j
  have hpl2 : (padL r (j + 1)).length = (padL r j).length + 1 := by rw [padL_len, padL_len]; omega
  have hsn := padL_succ r j
  have hpm : (((padL r j).length : Nat) : Int).tmod 64 = (((padL r j).length % 64 : Nat) : Int) := rfl
  have q3 : (padL r j).length ≤ 140737488355328 := by omega
  have q4 : (padL r j).length + 1 ≤ 140737488355328 := by omega
  try simp only [keepL, setAll, push_cast, Nat.reduceAdd, Nat.reduceMul, Nat.reduceSub, Nat.reduceLeDiff, Nat.reduceLT, Nat.reduceEqDiff, Nat.reduceBEq, Nat.reduceBNe, Nat.reduceMod, Nat.reduceDiv, Int.reduceLE, Int.reduceLT, Int.reduceToNat, Int.reduceAdd, Int.reduceSub, Int.reduceMul, Int.reduceNeg, Int.reduceEq, Int.reduceBEq, Int.reduceBNe, ↓reduceIte, reduceCtorEq, String.reduceBNe, String.reduceEq, reduceDIte, Nat.reducePow, hp, lk_old hp, hbb, lk_old hbb, prB, rowB, pS, u8l_len, Nat.sub_zero, Int.le_refl, ha1, ha2, ha3, ha4, ha5, hz0, q1, hhi, hlo, f1, f2, f3]
  refine AW.seq_k fun K hK => ?_
  refine AW.seq_k fun K hK => ?_
  refine AW.region (by decide) ?_
  simp only [push_cast, Nat.reduceAdd, Nat.reduceMul, Nat.reduceSub, Nat.reduceLeDiff, Nat.reduceLT, Nat.reduceEqDiff, Nat.reduceBEq, Nat.reduceBNe, Nat.reduceMod, Nat.reduceDiv, Int.reduceLE, Int.reduceLT, Int.reduceToNat, Int.reduceAdd, Int.reduceSub, Int.reduceMul, Int.reduceNeg, Int.reduceEq, Int.reduceBEq, Int.reduceBNe, ↓reduceIte, reduceCtorEq, String.reduceBNe, String.reduceEq, reduceDIte, Nat.reducePow, hp, lk_old hp, hbb, lk_old hbb, prB, rowB, pS, u8l_len, Nat.sub_zero, Int.le_refl, ha1, ha2, ha3, ha4, ha5, hz0, q1, hhi, hlo, f1, f2, f3]
  refine Thn_n ?_
  refine hK _ _ ?_
  clear hK K
  refine AW.cond rfl (fun h29 => ?_) (fun h29 => ?_)
  · have hlt : j < padz r.length := by
      have h1 : (padL r j).length % 64 ≠ 56 := fun e => by
        rw [hpm, e] at h29; exact absurd h29 (by decide)
      have : j ≠ padz r.length := fun e => by subst e; exact h1 (by rw [hpl]; exact hpo)
      omega
    refine AW.skip ?_
    refine Thn_n ?_
    refine hK _ _ ?_
    clear hK K
    refine AW.block ?_
    refine AW.region (by decide) ?_
    simp only [push_cast, Nat.reduceAdd, Nat.reduceMul, Nat.reduceSub, Nat.reduceLeDiff, Nat.reduceLT, Nat.reduceEqDiff, Nat.reduceBEq, Nat.reduceBNe, Nat.reduceMod, Nat.reduceDiv, Int.reduceLE, Int.reduceLT, Int.reduceToNat, Int.reduceAdd, Int.reduceSub, Int.reduceMul, Int.reduceNeg, Int.reduceEq, Int.reduceBEq, Int.reduceBNe, ↓reduceIte, reduceCtorEq, String.reduceBNe, String.reduceEq, reduceDIte, Nat.reducePow, hp, lk_old hp, hbb, lk_old hbb, prB, rowB, pS, u8l_len, Nat.sub_zero, Int.le_refl, ha1, ha2, ha3, ha4, ha5, hz0, q1, hhi, hlo, f1, f2, f3, hsn, q3, q4]
    refine InB_n ?_
    refine Thn_n ?_
    refine ⟨j + 1, hlt, by omega, ?_⟩
    try simp only [keepL, setAll, push_cast, Nat.reduceAdd, Nat.reduceMul, Nat.reduceSub, Nat.reduceLeDiff, Nat.reduceLT, Nat.reduceEqDiff, Nat.reduceBEq, Nat.reduceBNe, Nat.reduceMod, Nat.reduceDiv, Int.reduceLE, Int.reduceLT, Int.reduceToNat, Int.reduceAdd, Int.reduceSub, Int.reduceMul, Int.reduceNeg, Int.reduceEq, Int.reduceBEq, Int.reduceBNe, ↓reduceIte, reduceCtorEq, String.reduceBNe, String.reduceEq, reduceDIte, Nat.reducePow, hp, lk_old hp, hbb, lk_old hbb, prB, rowB, pS, u8l_len, Nat.sub_zero, Int.le_refl, ha1, ha2, ha3, ha4, ha5, hz0, q1, hhi, hlo, f1, f2, f3, hsn, q3, q4, hpl2]
    exact Weak.to (extra := [_]) (by simp only [Keeps, Tm.get_cons, Nat.reduceEqDiff, ↓reduceIte, if_true, if_false, ite_true, ite_false, true_and, and_true, and_self, reduceCtorEq, hpl2]) (by first | rfl | (simp only [List.append_assoc, List.cons_append, List.nil_append]; rfl)) (by first | rfl | (simp [AV.below, CV.below, u8l_below]; done) | (simp [AV.below, CV.below, u8l_below]; omega)) (by
      first | exact hwf | refine MWf.app (hwf.grow (by simp)) ?_
      repeat (first | exact MWf_nil | (refine MWf_cons ?_ ?_; · first | rfl | (simp [CV.below, u8l_below]; done) | (simp [CV.below, u8l_below]; omega))))
  · have hje : j = padz r.length := by
      refine padz_eq hi (Decidable.byContradiction fun h1 => ?_)
      rw [← hpl] at h1; rw [hpm] at h29
      simp at h29; omega
    subst hje
    have n1 : (padL r (padz r.length)).length + 4 ≤ 140737488355328 := by omega
    have n2 : (padL r (padz r.length)).length + 8 ≤ 140737488355328 := by omega
    have n3 : (padL r (padz r.length)).length + 8 = la.length := by omega
    have n4 : la.length ≤ 140737488355328 := by omega
    refine AW.exit ?_
    refine Thn_e ?_
    clear hK K
    refine Thn_e ?_
    refine InB_here ?_
    refine Thn_n ?_
    refine hK _ _ ?_
    clear hK K
    refine AW.seq_k fun K hK => ?_
    refine AW.draw [.val, .val, .val, .val, .rd 0, .val, .val, .val, .ext, .wr, .val, .val, .val, .rw 0, .val, .val, .ext, .wr, .val] fol (by decide) (by kernel_rfl) ?_
    iterate 2
      simp only [push_cast, Nat.reduceAdd, Nat.reduceMul, Nat.reduceSub, Nat.reduceLeDiff, Nat.reduceLT, Nat.reduceEqDiff, Nat.reduceBEq, Nat.reduceBNe, Nat.reduceMod, Nat.reduceDiv, Int.reduceLE, Int.reduceLT, Int.reduceToNat, Int.reduceAdd, Int.reduceSub, Int.reduceMul, Int.reduceNeg, Int.reduceEq, Int.reduceBEq, Int.reduceBNe, ↓reduceIte, reduceCtorEq, String.reduceBNe, String.reduceEq, reduceDIte, Nat.reducePow, hp, lk_old hp, hbb, lk_old hbb, prB, rowB, pS, u8l_len, Nat.sub_zero, Int.le_refl, ha1, ha2, ha3, ha4, ha5, hz0, q1, hhi, hlo, f1, f2, f3, q3, q4, n1, n2, n3, n4, hlc, hlc2]
      refine DCall.by (four_c _ _) ?_
    simp only [push_cast, Nat.reduceAdd, Nat.reduceMul, Nat.reduceSub, Nat.reduceLeDiff, Nat.reduceLT, Nat.reduceEqDiff, Nat.reduceBEq, Nat.reduceBNe, Nat.reduceMod, Nat.reduceDiv, Int.reduceLE, Int.reduceLT, Int.reduceToNat, Int.reduceAdd, Int.reduceSub, Int.reduceMul, Int.reduceNeg, Int.reduceEq, Int.reduceBEq, Int.reduceBNe, ↓reduceIte, reduceCtorEq, String.reduceBNe, String.reduceEq, reduceDIte, Nat.reducePow, hp, lk_old hp, hbb, lk_old hbb, prB, rowB, pS, u8l_len, Nat.sub_zero, Int.le_refl, ha1, ha2, ha3, ha4, ha5, hz0, q1, hhi, hlo, f1, f2, f3, q3, q4, n1, n2, n3, n4, hlc, hlc2]
    refine AOpsD_end (by simp only [watchS, allAt, push_cast, Nat.reduceAdd, Nat.reduceMul, Nat.reduceSub, Nat.reduceLeDiff, Nat.reduceLT, Nat.reduceEqDiff, Nat.reduceBEq, Nat.reduceBNe, Nat.reduceMod, Nat.reduceDiv, Int.reduceLE, Int.reduceLT, Int.reduceToNat, Int.reduceAdd, Int.reduceSub, Int.reduceMul, Int.reduceNeg, Int.reduceEq, Int.reduceBEq, Int.reduceBNe, ↓reduceIte, reduceCtorEq, String.reduceBNe, String.reduceEq, reduceDIte, Nat.reducePow, hp, lk_old hp, hbb, lk_old hbb, prB, rowB, pS, u8l_len, Nat.sub_zero, Int.le_refl, ha1, ha2, ha3, ha4, ha5, hz0, q1, hhi, hlo, f1, f2, f3, q3, q4, n1, n2, n3, n4, hlc, hlc2]) ?_
    refine Thn_n ?_
    refine hK _ _ ?_
    clear hK K
    refine AW.seq_k fun K hK => ?_
    refine AW.block ?_
    refine AW.loopK [2, 3] (fun j => 64 * j ≤ la.length) (fun j => [(4, .one (.sl (m.length + 1) (2 + (padz r.length + 2)) (64 * j) (la.length - 64 * j)))]) (fun j => [(m.length + 2, ⟨.fix, 66, 0, 0, [.int .u32 ((compN S la j)).a, .int .u32 ((compN S la j)).b, .int .u32 ((compN S la j)).c, .int .u32 ((compN S la j)).d, .int .u32 ((compN S la j)).e, .int .u32 ((compN S la j)).f, .int .u32 ((compN S la j)).g, .int .u32 ((compN S la j)).h, (.sl (m.length + 1) 1 0 r.length), .int .u64 0]⟩)]) (fun j => la.length - 64 * j) 0 (by omega) ?_ ?_ fun j hi12 => ?_
    · first | rfl | (simp only [Keeps, Tm.get_cons, Nat.reduceEqDiff, ↓reduceIte, if_true, if_false, ite_true, ite_false, true_and, and_true, and_self, reduceCtorEq, compN, Nat.mul_zero, Nat.sub_zero] <;> rfl)
    · first | rfl | (simp only [setAll, push_cast, Nat.reduceAdd, Nat.reduceMul, Nat.reduceSub, Nat.reduceLeDiff, Nat.reduceLT, Nat.reduceEqDiff, Nat.reduceBEq, Nat.reduceBNe, Nat.reduceMod, Nat.reduceDiv, Int.reduceLE, Int.reduceLT, Int.reduceToNat, Int.reduceAdd, Int.reduceSub, Int.reduceMul, Int.reduceNeg, Int.reduceEq, Int.reduceBEq, Int.reduceBNe, ↓reduceIte, reduceCtorEq, String.reduceBNe, String.reduceEq, reduceDIte, Nat.reducePow, hp, lk_old hp, hbb, lk_old hbb, prB, rowB, pS, u8l_len, Nat.sub_zero, Int.le_refl, ha1, ha2, ha3, ha4, ha5, hz0, q1, hhi, hlo, f1, f2, f3, q3, q4, n1, n2, n3, n4, hlc, hlc2, compN, Nat.mul_zero, Nat.sub_zero] <;> rfl)
    try simp only [keepL, setAll, push_cast, Nat.reduceAdd, Nat.reduceMul, Nat.reduceSub, Nat.reduceLeDiff, Nat.reduceLT, Nat.reduceEqDiff, Nat.reduceBEq, Nat.reduceBNe, Nat.reduceMod, Nat.reduceDiv, Int.reduceLE, Int.reduceLT, Int.reduceToNat, Int.reduceAdd, Int.reduceSub, Int.reduceMul, Int.reduceNeg, Int.reduceEq, Int.reduceBEq, Int.reduceBNe, ↓reduceIte, reduceCtorEq, String.reduceBNe, String.reduceEq, reduceDIte, Nat.reducePow, hp, lk_old hp, hbb, lk_old hbb, prB, rowB, pS, u8l_len, Nat.sub_zero, Int.le_refl, ha1, ha2, ha3, ha4, ha5, hz0, q1, hhi, hlo, f1, f2, f3, q3, q4, n1, n2, n3, n4, hlc, hlc2]
    refine AW.seq_k fun K hK => ?_
    refine AW.seq_k fun K hK => ?_
    refine AW.region (by decide) ?_
    simp only [push_cast, Nat.reduceAdd, Nat.reduceMul, Nat.reduceSub, Nat.reduceLeDiff, Nat.reduceLT, Nat.reduceEqDiff, Nat.reduceBEq, Nat.reduceBNe, Nat.reduceMod, Nat.reduceDiv, Int.reduceLE, Int.reduceLT, Int.reduceToNat, Int.reduceAdd, Int.reduceSub, Int.reduceMul, Int.reduceNeg, Int.reduceEq, Int.reduceBEq, Int.reduceBNe, ↓reduceIte, reduceCtorEq, String.reduceBNe, String.reduceEq, reduceDIte, Nat.reducePow, hp, lk_old hp, hbb, lk_old hbb, prB, rowB, pS, u8l_len, Nat.sub_zero, Int.le_refl, ha1, ha2, ha3, ha4, ha5, hz0, q1, hhi, hlo, f1, f2, f3, q3, q4, n1, n2, n3, n4, hlc, hlc2]
    refine Thn_n ?_
    refine hK _ _ ?_
    clear hK K
    refine AW.cond rfl (fun h53 => ?_) (fun h53 => ?_)
    · have hj : 64 ≤ la.length - 64 * j := by have := of_decide_eq_true h53; omega
      have c3 : (0 : Int) ≤ 64 := by omega
      have c4 : (64 : Int) ≤ ((la.length - 64 * j : Nat) : Int) := by omega
      have c5 : (((la.length - 64 * j : Nat) : Int)).toNat - 64 = la.length - 64 * j - 64 := by omega
      refine AW.skip ?_
      refine Thn_n ?_
      refine hK _ _ ?_
      clear hK K
      refine AW.seq_k fun K hK => ?_
      refine AW.block ?_
      refine AW.region (by decide) ?_
      simp only [push_cast, Nat.reduceAdd, Nat.reduceMul, Nat.reduceSub, Nat.reduceLeDiff, Nat.reduceLT, Nat.reduceEqDiff, Nat.reduceBEq, Nat.reduceBNe, Nat.reduceMod, Nat.reduceDiv, Int.reduceLE, Int.reduceLT, Int.reduceToNat, Int.reduceAdd, Int.reduceSub, Int.reduceMul, Int.reduceNeg, Int.reduceEq, Int.reduceBEq, Int.reduceBNe, ↓reduceIte, reduceCtorEq, String.reduceBNe, String.reduceEq, reduceDIte, Nat.reducePow, hp, lk_old hp, hbb, lk_old hbb, prB, rowB, pS, u8l_len, Nat.sub_zero, Int.le_refl, ha1, ha2, ha3, ha4, ha5, hz0, q1, hhi, hlo, f1, f2, f3, q3, q4, n1, n2, n3, n4, hlc, hlc2, c3, c4, c5]
      refine CThen.by (stir_c (m.length + 2) (compN S la j) (.sl (m.length + 1) 1 0 r.length) 0 (m.length + 1) (2 + (padz r.length + 2)) (64 * j) 64 la _ (by simp only [push_cast, Nat.reduceAdd, Nat.reduceMul, Nat.reduceSub, Nat.reduceLeDiff, Nat.reduceLT, Nat.reduceEqDiff, Nat.reduceBEq, Nat.reduceBNe, Nat.reduceMod, Nat.reduceDiv, Int.reduceLE, Int.reduceLT, Int.reduceToNat, Int.reduceAdd, Int.reduceSub, Int.reduceMul, Int.reduceNeg, Int.reduceEq, Int.reduceBEq, Int.reduceBNe, ↓reduceIte, reduceCtorEq, String.reduceBNe, String.reduceEq, reduceDIte, Nat.reducePow]) (by simp [CV.below]) ⟨.grow, 1, by simp only [push_cast, Nat.reduceAdd, Nat.reduceMul, Nat.reduceSub, Nat.reduceLeDiff, Nat.reduceLT, Nat.reduceEqDiff, Nat.reduceBEq, Nat.reduceBNe, Nat.reduceMod, Nat.reduceDiv, Int.reduceLE, Int.reduceLT, Int.reduceToNat, Int.reduceAdd, Int.reduceSub, Int.reduceMul, Int.reduceNeg, Int.reduceEq, Int.reduceBEq, Int.reduceBNe, ↓reduceIte, reduceCtorEq, String.reduceBNe, String.reduceEq, reduceDIte, Nat.reducePow]⟩ (by omega) (by omega) (by omega) nb) ?_
      simp only [push_cast, Nat.reduceAdd, Nat.reduceMul, Nat.reduceSub, Nat.reduceLeDiff, Nat.reduceLT, Nat.reduceEqDiff, Nat.reduceBEq, Nat.reduceBNe, Nat.reduceMod, Nat.reduceDiv, Int.reduceLE, Int.reduceLT, Int.reduceToNat, Int.reduceAdd, Int.reduceSub, Int.reduceMul, Int.reduceNeg, Int.reduceEq, Int.reduceBEq, Int.reduceBNe, ↓reduceIte, reduceCtorEq, String.reduceBNe, String.reduceEq, reduceDIte, Nat.reducePow, hp, lk_old hp, hbb, lk_old hbb, prB, rowB, pS, u8l_len, Nat.sub_zero, Int.le_refl, ha1, ha2, ha3, ha4, ha5, hz0, q1, hhi, hlo, f1, f2, f3, q3, q4, n1, n2, n3, n4, hlc, hlc2, c3, c4, c5]
      refine InB_n ?_
      refine Thn_n ?_
      refine hK _ _ ?_
      clear hK K
      refine AW.region (by decide) ?_
      simp only [push_cast, Nat.reduceAdd, Nat.reduceMul, Nat.reduceSub, Nat.reduceLeDiff, Nat.reduceLT, Nat.reduceEqDiff, Nat.reduceBEq, Nat.reduceBNe, Nat.reduceMod, Nat.reduceDiv, Int.reduceLE, Int.reduceLT, Int.reduceToNat, Int.reduceAdd, Int.reduceSub, Int.reduceMul, Int.reduceNeg, Int.reduceEq, Int.reduceBEq, Int.reduceBNe, ↓reduceIte, reduceCtorEq, String.reduceBNe, String.reduceEq, reduceDIte, Nat.reducePow, hp, lk_old hp, hbb, lk_old hbb, prB, rowB, pS, u8l_len, Nat.sub_zero, Int.le_refl, ha1, ha2, ha3, ha4, ha5, hz0, q1, hhi, hlo, f1, f2, f3, q3, q4, n1, n2, n3, n4, hlc, hlc2, c3, c4, c5]
      refine Thn_n ?_
      have e1 : 64 * (j + 1) = 64 * j + 64 := by omega
      have e2 : la.length - (64 * j + 64) = la.length - 64 * j - 64 := by omega
      have e3 : compN S la (j + 1) = comp KW (compN S la j) la (64 * j) := rfl
      refine ⟨j + 1, by omega, by omega, ?_⟩
      try simp only [keepL, setAll, push_cast, Nat.reduceAdd, Nat.reduceMul, Nat.reduceSub, Nat.reduceLeDiff, Nat.reduceLT, Nat.reduceEqDiff, Nat.reduceBEq, Nat.reduceBNe, Nat.reduceMod, Nat.reduceDiv, Int.reduceLE, Int.reduceLT, Int.reduceToNat, Int.reduceAdd, Int.reduceSub, Int.reduceMul, Int.reduceNeg, Int.reduceEq, Int.reduceBEq, Int.reduceBNe, ↓reduceIte, reduceCtorEq, String.reduceBNe, String.reduceEq, reduceDIte, Nat.reducePow, hp, lk_old hp, hbb, lk_old hbb, prB, rowB, pS, u8l_len, Nat.sub_zero, Int.le_refl, ha1, ha2, ha3, ha4, ha5, hz0, q1, hhi, hlo, f1, f2, f3, q3, q4, n1, n2, n3, n4, hlc, hlc2, c3, c4, c5, e1, e2, e3]
      exact Weak.same (by simp only [Keeps, Tm.get_cons, Nat.reduceEqDiff, ↓reduceIte, if_true, if_false, ite_true, ite_false, true_and, and_true, and_self, reduceCtorEq, e1, e2, e3]) (by first | rfl | simp only [Keeps, Tm.get_cons, Nat.reduceEqDiff, ↓reduceIte, if_true, if_false, ite_true, ite_false, true_and, and_true, and_self, reduceCtorEq, e1, e2, e3])
    · have hd0 : u8l (dP (compN S la (la.length / 64)) 0) = [.int .u8 0, .int .u8 0, .int .u8 0, .int .u8 0, .int .u8 0, .int .u8 0, .int .u8 0, .int .u8 0, .int .u8 0, .int .u8 0, .int .u8 0, .int .u8 0, .int .u8 0, .int .u8 0, .int .u8 0, .int .u8 0, .int .u8 0, .int .u8 0, .int .u8 0, .int .u8 0, .int .u8 0, .int .u8 0, .int .u8 0, .int .u8 0, .int .u8 0, .int .u8 0, .int .u8 0, .int .u8 0, .int .u8 0, .int .u8 0, .int .u8 0, .int .u8 0] := rfl
      have hje : j = la.length / 64 := by have := of_decide_eq_false h53; omega
      subst hje
      refine AW.exit ?_
      refine Thn_e ?_
      clear hK K
      refine Thn_e ?_
      refine InB_here ?_
      refine Thn_n ?_
      refine hK _ _ ?_
      clear hK K
      refine AW.seq_k fun K hK => ?_
      refine AW.region (by decide) ?_
      simp only [push_cast, Nat.reduceAdd, Nat.reduceMul, Nat.reduceSub, Nat.reduceLeDiff, Nat.reduceLT, Nat.reduceEqDiff, Nat.reduceBEq, Nat.reduceBNe, Nat.reduceMod, Nat.reduceDiv, Int.reduceLE, Int.reduceLT, Int.reduceToNat, Int.reduceAdd, Int.reduceSub, Int.reduceMul, Int.reduceNeg, Int.reduceEq, Int.reduceBEq, Int.reduceBNe, ↓reduceIte, reduceCtorEq, String.reduceBNe, String.reduceEq, reduceDIte, Nat.reducePow, hp, lk_old hp, hbb, lk_old hbb, prB, rowB, pS, u8l_len, Nat.sub_zero, Int.le_refl, ha1, ha2, ha3, ha4, ha5, hz0, q1, hhi, hlo, f1, f2, f3, q3, q4, n1, n2, n3, n4, hlc, hlc2]
      refine Thn_n ?_
      refine hK _ _ ?_
      clear hK K
      refine AW.seq_k fun K hK => ?_
      refine AW.seq_k fun K hK => ?_
      refine AW.region (by decide) ?_
      simp only [push_cast, Nat.reduceAdd, Nat.reduceMul, Nat.reduceSub, Nat.reduceLeDiff, Nat.reduceLT, Nat.reduceEqDiff, Nat.reduceBEq, Nat.reduceBNe, Nat.reduceMod, Nat.reduceDiv, Int.reduceLE, Int.reduceLT, Int.reduceToNat, Int.reduceAdd, Int.reduceSub, Int.reduceMul, Int.reduceNeg, Int.reduceEq, Int.reduceBEq, Int.reduceBNe, ↓reduceIte, reduceCtorEq, String.reduceBNe, String.reduceEq, reduceDIte, Nat.reducePow, hp, lk_old hp, hbb, lk_old hbb, prB, rowB, pS, u8l_len, Nat.sub_zero, Int.le_refl, ha1, ha2, ha3, ha4, ha5, hz0, q1, hhi, hlo, f1, f2, f3, q3, q4, n1, n2, n3, n4, hlc, hlc2]
      refine Thn_n ?_
      refine hK _ _ ?_
      clear hK K
      refine AW.block ?_
      refine AW.loopK [2, 5, 60] (fun i => i ≤ (8 : Nat)) (fun i => [(61, .one (.int .i64 (i : Int)))]) (fun i => [(m.length + 6, ⟨.fix, 33, 0, 0, u8l (dP (compN S la (la.length / 64)) i)⟩)]) (fun i => 8 - i) 0 (by omega) ?_ ?_ fun i hi19 => ?_
      · first | rfl | (simp only [Keeps, Tm.get_cons, Nat.reduceEqDiff, ↓reduceIte, if_true, if_false, ite_true, ite_false, true_and, and_true, and_self, reduceCtorEq, hd0, Int.natCast_zero] <;> rfl)
      · first | rfl | (simp only [setAll, push_cast, Nat.reduceAdd, Nat.reduceMul, Nat.reduceSub, Nat.reduceLeDiff, Nat.reduceLT, Nat.reduceEqDiff, Nat.reduceBEq, Nat.reduceBNe, Nat.reduceMod, Nat.reduceDiv, Int.reduceLE, Int.reduceLT, Int.reduceToNat, Int.reduceAdd, Int.reduceSub, Int.reduceMul, Int.reduceNeg, Int.reduceEq, Int.reduceBEq, Int.reduceBNe, ↓reduceIte, reduceCtorEq, String.reduceBNe, String.reduceEq, reduceDIte, Nat.reducePow, hp, lk_old hp, hbb, lk_old hbb, prB, rowB, pS, u8l_len, Nat.sub_zero, Int.le_refl, ha1, ha2, ha3, ha4, ha5, hz0, q1, hhi, hlo, f1, f2, f3, q3, q4, n1, n2, n3, n4, hlc, hlc2, hd0, Int.natCast_zero] <;> rfl)
      have hi8 : i ≤ 8 := hi19
      try simp only [keepL, setAll, push_cast, Nat.reduceAdd, Nat.reduceMul, Nat.reduceSub, Nat.reduceLeDiff, Nat.reduceLT, Nat.reduceEqDiff, Nat.reduceBEq, Nat.reduceBNe, Nat.reduceMod, Nat.reduceDiv, Int.reduceLE, Int.reduceLT, Int.reduceToNat, Int.reduceAdd, Int.reduceSub, Int.reduceMul, Int.reduceNeg, Int.reduceEq, Int.reduceBEq, Int.reduceBNe, ↓reduceIte, reduceCtorEq, String.reduceBNe, String.reduceEq, reduceDIte, Nat.reducePow, hp, lk_old hp, hbb, lk_old hbb, prB, rowB, pS, u8l_len, Nat.sub_zero, Int.le_refl, ha1, ha2, ha3, ha4, ha5, hz0, q1, hhi, hlo, f1, f2, f3, q3, q4, n1, n2, n3, n4, hlc, hlc2]
      refine AW.seq_k fun K hK => ?_
      refine AW.region (by decide) ?_
      simp only [push_cast, Nat.reduceAdd, Nat.reduceMul, Nat.reduceSub, Nat.reduceLeDiff, Nat.reduceLT, Nat.reduceEqDiff, Nat.reduceBEq, Nat.reduceBNe, Nat.reduceMod, Nat.reduceDiv, Int.reduceLE, Int.reduceLT, Int.reduceToNat, Int.reduceAdd, Int.reduceSub, Int.reduceMul, Int.reduceNeg, Int.reduceEq, Int.reduceBEq, Int.reduceBNe, ↓reduceIte, reduceCtorEq, String.reduceBNe, String.reduceEq, reduceDIte, Nat.reducePow, hp, lk_old hp, hbb, lk_old hbb, prB, rowB, pS, u8l_len, Nat.sub_zero, Int.le_refl, ha1, ha2, ha3, ha4, ha5, hz0, q1, hhi, hlo, f1, f2, f3, q3, q4, n1, n2, n3, n4, hlc, hlc2]
      refine Thn_n ?_
      refine hK _ _ ?_
      clear hK K
      refine AW.seq_k fun K hK => ?_
      refine AW.cond rfl (fun h62 => ?_) (fun h62 => ?_)
      · have hlt8 : i < 8 := by have := of_decide_eq_true h62; omega
        have c3 : (0 : Int) ≤ (i : Int) := by omega
        have c4 : (i : Int) < 8 := by omega
        have gi := hS_get (compN S la (la.length / 64)) hlt8
        have hsn8 := dP_succ (compN S la (la.length / 64)) hlt8
        have wi4 : IntKind.i64.wrap (4 * (i : Int)) = 4 * (i : Int) := wi (by omega)
        have c5 : (0 : Int) ≤ 4 * (i : Int) := by omega
        have c6 : 4 * (i : Int) ≤ 32 := by omega
        have c7 : (4 * (i : Int)).toNat = 4 * i := by omega
        have c8 : min 4 (32 - 4 * i) = 4 := by omega
        have c9 := dP_len (compN S la (la.length / 64)) hi8
        have c10 : 4 * i + 4 ≤ 32 := by omega
        simp only [hS] at gi
        refine AW.skip ?_
        refine Thn_n ?_
        refine hK _ _ ?_
        clear hK K
        refine AW.seq_k fun K hK => ?_
        refine AW.block ?_
        refine AW.seq_k fun K hK => ?_
        refine AW.region (by decide) ?_
        simp only [push_cast, Nat.reduceAdd, Nat.reduceMul, Nat.reduceSub, Nat.reduceLeDiff, Nat.reduceLT, Nat.reduceEqDiff, Nat.reduceBEq, Nat.reduceBNe, Nat.reduceMod, Nat.reduceDiv, Int.reduceLE, Int.reduceLT, Int.reduceToNat, Int.reduceAdd, Int.reduceSub, Int.reduceMul, Int.reduceNeg, Int.reduceEq, Int.reduceBEq, Int.reduceBNe, ↓reduceIte, reduceCtorEq, String.reduceBNe, String.reduceEq, reduceDIte, Nat.reducePow, hp, lk_old hp, hbb, lk_old hbb, prB, rowB, pS, u8l_len, Nat.sub_zero, Int.le_refl, ha1, ha2, ha3, ha4, ha5, hz0, q1, hhi, hlo, f1, f2, f3, q3, q4, n1, n2, n3, n4, hlc, hlc2, gi, hsn8, wi4, c3, c4, c5, c6, c7, c8, c9, c10]
        refine Thn_n ?_
        refine hK _ _ ?_
        clear hK K
        refine AW.drawX fol (by kernel_rfl) ?_
        refine DX.split 2 4 (by decide) ?_ ?_
        · refine DX.run [0, 1, 2, 3, 4, 5] [.val, .val, .ext, .val, .ext, .wr] (by simp only [permL, reOp, List.idxOf_cons, push_cast, Nat.reduceAdd, Nat.reduceMul, Nat.reduceSub, Nat.reduceLeDiff, Nat.reduceLT, Nat.reduceEqDiff, Nat.reduceBEq, Nat.reduceBNe, Nat.reduceMod, Nat.reduceDiv, Int.reduceLE, Int.reduceLT, Int.reduceToNat, Int.reduceAdd, Int.reduceSub, Int.reduceMul, Int.reduceNeg, Int.reduceEq, Int.reduceBEq, Int.reduceBNe, ↓reduceIte, reduceCtorEq, String.reduceBNe, String.reduceEq, reduceDIte, Nat.reducePow, hp, lk_old hp, hbb, lk_old hbb, prB, rowB, pS, u8l_len, Nat.sub_zero, Int.le_refl, ha1, ha2, ha3, ha4, ha5, hz0, q1, hhi, hlo, f1, f2, f3, q3, q4, n1, n2, n3, n4, hlc, hlc2, gi, hsn8, wi4, c3, c4, c5, c6, c7, c8, c9, c10]; first | done | rfl) (by kernel_rfl) ?_
          simp only [push_cast, Nat.reduceAdd, Nat.reduceMul, Nat.reduceSub, Nat.reduceLeDiff, Nat.reduceLT, Nat.reduceEqDiff, Nat.reduceBEq, Nat.reduceBNe, Nat.reduceMod, Nat.reduceDiv, Int.reduceLE, Int.reduceLT, Int.reduceToNat, Int.reduceAdd, Int.reduceSub, Int.reduceMul, Int.reduceNeg, Int.reduceEq, Int.reduceBEq, Int.reduceBNe, ↓reduceIte, reduceCtorEq, String.reduceBNe, String.reduceEq, reduceDIte, Nat.reducePow, hp, lk_old hp, hbb, lk_old hbb, prB, rowB, pS, u8l_len, Nat.sub_zero, Int.le_refl, ha1, ha2, ha3, ha4, ha5, hz0, q1, hhi, hlo, f1, f2, f3, q3, q4, n1, n2, n3, n4, hlc, hlc2, gi, hsn8, wi4, c3, c4, c5, c6, c7, c8, c9, c10]
          refine DExt.by (by first | rfl | (simp only [List.append_assoc, List.cons_append, List.nil_append]; rfl)) ?_
          simp only [push_cast, Nat.reduceAdd, Nat.reduceMul, Nat.reduceSub, Nat.reduceLeDiff, Nat.reduceLT, Nat.reduceEqDiff, Nat.reduceBEq, Nat.reduceBNe, Nat.reduceMod, Nat.reduceDiv, Int.reduceLE, Int.reduceLT, Int.reduceToNat, Int.reduceAdd, Int.reduceSub, Int.reduceMul, Int.reduceNeg, Int.reduceEq, Int.reduceBEq, Int.reduceBNe, ↓reduceIte, reduceCtorEq, String.reduceBNe, String.reduceEq, reduceDIte, Nat.reducePow, hp, lk_old hp, hbb, lk_old hbb, prB, rowB, pS, u8l_len, Nat.sub_zero, Int.le_refl, ha1, ha2, ha3, ha4, ha5, hz0, q1, hhi, hlo, f1, f2, f3, q3, q4, n1, n2, n3, n4, hlc, hlc2, gi, hsn8, wi4, c3, c4, c5, c6, c7, c8, c9, c10]
          refine DCall.by (four_c _ _) ?_
          simp only [push_cast, Nat.reduceAdd, Nat.reduceMul, Nat.reduceSub, Nat.reduceLeDiff, Nat.reduceLT, Nat.reduceEqDiff, Nat.reduceBEq, Nat.reduceBNe, Nat.reduceMod, Nat.reduceDiv, Int.reduceLE, Int.reduceLT, Int.reduceToNat, Int.reduceAdd, Int.reduceSub, Int.reduceMul, Int.reduceNeg, Int.reduceEq, Int.reduceBEq, Int.reduceBNe, ↓reduceIte, reduceCtorEq, String.reduceBNe, String.reduceEq, reduceDIte, Nat.reducePow, hp, lk_old hp, hbb, lk_old hbb, prB, rowB, pS, u8l_len, Nat.sub_zero, Int.le_refl, ha1, ha2, ha3, ha4, ha5, hz0, q1, hhi, hlo, f1, f2, f3, q3, q4, n1, n2, n3, n4, hlc, hlc2, gi, hsn8, wi4, c3, c4, c5, c6, c7, c8, c9, c10]
          refine InB_n ?_
          refine Thn_n ?_
          refine hK _ _ ?_
          clear hK K
          refine AW.region (by decide) ?_
          simp only [push_cast, Nat.reduceAdd, Nat.reduceMul, Nat.reduceSub, Nat.reduceLeDiff, Nat.reduceLT, Nat.reduceEqDiff, Nat.reduceBEq, Nat.reduceBNe, Nat.reduceMod, Nat.reduceDiv, Int.reduceLE, Int.reduceLT, Int.reduceToNat, Int.reduceAdd, Int.reduceSub, Int.reduceMul, Int.reduceNeg, Int.reduceEq, Int.reduceBEq, Int.reduceBNe, ↓reduceIte, reduceCtorEq, String.reduceBNe, String.reduceEq, reduceDIte, Nat.reducePow, hp, lk_old hp, hbb, lk_old hbb, prB, rowB, pS, u8l_len, Nat.sub_zero, Int.le_refl, ha1, ha2, ha3, ha4, ha5, hz0, q1, hhi, hlo, f1, f2, f3, q3, q4, n1, n2, n3, n4, hlc, hlc2, gi, hsn8, wi4, c3, c4, c5, c6, c7, c8, c9, c10]
          refine Thn_n ?_
          have hwi : IntKind.i64.wrap ((i:Int)+1) = (i:Int)+1 := wi (by omega)
          refine ⟨i + 1, hlt8, by omega, ?_⟩
          try simp only [keepL, setAll, push_cast, Nat.reduceAdd, Nat.reduceMul, Nat.reduceSub, Nat.reduceLeDiff, Nat.reduceLT, Nat.reduceEqDiff, Nat.reduceBEq, Nat.reduceBNe, Nat.reduceMod, Nat.reduceDiv, Int.reduceLE, Int.reduceLT, Int.reduceToNat, Int.reduceAdd, Int.reduceSub, Int.reduceMul, Int.reduceNeg, Int.reduceEq, Int.reduceBEq, Int.reduceBNe, ↓reduceIte, reduceCtorEq, String.reduceBNe, String.reduceEq, reduceDIte, Nat.reducePow, hp, lk_old hp, hbb, lk_old hbb, prB, rowB, pS, u8l_len, Nat.sub_zero, Int.le_refl, ha1, ha2, ha3, ha4, ha5, hz0, q1, hhi, hlo, f1, f2, f3, q3, q4, n1, n2, n3, n4, hlc, hlc2, gi, hsn8, wi4, c3, c4, c5, c6, c7, c8, c9, c10, hwi, hsn8]
          exact Weak.to (extra := [_]) (by simp only [Keeps, Tm.get_cons, Nat.reduceEqDiff, ↓reduceIte, if_true, if_false, ite_true, ite_false, true_and, and_true, and_self, reduceCtorEq, hwi, hsn8]) (by first | rfl | (simp only [List.append_assoc, List.cons_append, List.nil_append]; rfl)) (by first | rfl | (simp [AV.below, CV.below, u8l_below]; done) | (simp [AV.below, CV.below, u8l_below]; omega)) (by
            first | exact hwf | refine MWf.app (hwf.grow (by simp)) ?_
            repeat (first | exact MWf_nil | (refine MWf_cons ?_ ?_; · first | rfl | (simp [CV.below, u8l_below]; done) | (simp [CV.below, u8l_below]; omega))))
        · refine DX.run [0, 1, 3, 4, 2, 5] [.val, .val, .val, .ext, .ext, .wr] (by simp only [permL, reOp, List.idxOf_cons, push_cast, Nat.reduceAdd, Nat.reduceMul, Nat.reduceSub, Nat.reduceLeDiff, Nat.reduceLT, Nat.reduceEqDiff, Nat.reduceBEq, Nat.reduceBNe, Nat.reduceMod, Nat.reduceDiv, Int.reduceLE, Int.reduceLT, Int.reduceToNat, Int.reduceAdd, Int.reduceSub, Int.reduceMul, Int.reduceNeg, Int.reduceEq, Int.reduceBEq, Int.reduceBNe, ↓reduceIte, reduceCtorEq, String.reduceBNe, String.reduceEq, reduceDIte, Nat.reducePow, hp, lk_old hp, hbb, lk_old hbb, prB, rowB, pS, u8l_len, Nat.sub_zero, Int.le_refl, ha1, ha2, ha3, ha4, ha5, hz0, q1, hhi, hlo, f1, f2, f3, q3, q4, n1, n2, n3, n4, hlc, hlc2, gi, hsn8, wi4, c3, c4, c5, c6, c7, c8, c9, c10]; first | done | rfl) (by kernel_rfl) ?_
          simp only [push_cast, Nat.reduceAdd, Nat.reduceMul, Nat.reduceSub, Nat.reduceLeDiff, Nat.reduceLT, Nat.reduceEqDiff, Nat.reduceBEq, Nat.reduceBNe, Nat.reduceMod, Nat.reduceDiv, Int.reduceLE, Int.reduceLT, Int.reduceToNat, Int.reduceAdd, Int.reduceSub, Int.reduceMul, Int.reduceNeg, Int.reduceEq, Int.reduceBEq, Int.reduceBNe, ↓reduceIte, reduceCtorEq, String.reduceBNe, String.reduceEq, reduceDIte, Nat.reducePow, hp, lk_old hp, hbb, lk_old hbb, prB, rowB, pS, u8l_len, Nat.sub_zero, Int.le_refl, ha1, ha2, ha3, ha4, ha5, hz0, q1, hhi, hlo, f1, f2, f3, q3, q4, n1, n2, n3, n4, hlc, hlc2, gi, hsn8, wi4, c3, c4, c5, c6, c7, c8, c9, c10]
          refine DCall.by (four_c _ _) ?_
          simp only [push_cast, Nat.reduceAdd, Nat.reduceMul, Nat.reduceSub, Nat.reduceLeDiff, Nat.reduceLT, Nat.reduceEqDiff, Nat.reduceBEq, Nat.reduceBNe, Nat.reduceMod, Nat.reduceDiv, Int.reduceLE, Int.reduceLT, Int.reduceToNat, Int.reduceAdd, Int.reduceSub, Int.reduceMul, Int.reduceNeg, Int.reduceEq, Int.reduceBEq, Int.reduceBNe, ↓reduceIte, reduceCtorEq, String.reduceBNe, String.reduceEq, reduceDIte, Nat.reducePow, hp, lk_old hp, hbb, lk_old hbb, prB, rowB, pS, u8l_len, Nat.sub_zero, Int.le_refl, ha1, ha2, ha3, ha4, ha5, hz0, q1, hhi, hlo, f1, f2, f3, q3, q4, n1, n2, n3, n4, hlc, hlc2, gi, hsn8, wi4, c3, c4, c5, c6, c7, c8, c9, c10]
          refine DExt.by (by first | rfl | (simp only [List.append_assoc, List.cons_append, List.nil_append]; rfl)) ?_
          simp only [push_cast, Nat.reduceAdd, Nat.reduceMul, Nat.reduceSub, Nat.reduceLeDiff, Nat.reduceLT, Nat.reduceEqDiff, Nat.reduceBEq, Nat.reduceBNe, Nat.reduceMod, Nat.reduceDiv, Int.reduceLE, Int.reduceLT, Int.reduceToNat, Int.reduceAdd, Int.reduceSub, Int.reduceMul, Int.reduceNeg, Int.reduceEq, Int.reduceBEq, Int.reduceBNe, ↓reduceIte, reduceCtorEq, String.reduceBNe, String.reduceEq, reduceDIte, Nat.reducePow, hp, lk_old hp, hbb, lk_old hbb, prB, rowB, pS, u8l_len, Nat.sub_zero, Int.le_refl, ha1, ha2, ha3, ha4, ha5, hz0, q1, hhi, hlo, f1, f2, f3, q3, q4, n1, n2, n3, n4, hlc, hlc2, gi, hsn8, wi4, c3, c4, c5, c6, c7, c8, c9, c10]
          refine InB_n ?_
          refine Thn_n ?_
          refine hK _ _ ?_
          clear hK K
          refine AW.region (by decide) ?_
          simp only [push_cast, Nat.reduceAdd, Nat.reduceMul, Nat.reduceSub, Nat.reduceLeDiff, Nat.reduceLT, Nat.reduceEqDiff, Nat.reduceBEq, Nat.reduceBNe, Nat.reduceMod, Nat.reduceDiv, Int.reduceLE, Int.reduceLT, Int.reduceToNat, Int.reduceAdd, Int.reduceSub, Int.reduceMul, Int.reduceNeg, Int.reduceEq, Int.reduceBEq, Int.reduceBNe, ↓reduceIte, reduceCtorEq, String.reduceBNe, String.reduceEq, reduceDIte, Nat.reducePow, hp, lk_old hp, hbb, lk_old hbb, prB, rowB, pS, u8l_len, Nat.sub_zero, Int.le_refl, ha1, ha2, ha3, ha4, ha5, hz0, q1, hhi, hlo, f1, f2, f3, q3, q4, n1, n2, n3, n4, hlc, hlc2, gi, hsn8, wi4, c3, c4, c5, c6, c7, c8, c9, c10]
          refine Thn_n ?_
          have hwi : IntKind.i64.wrap ((i:Int)+1) = (i:Int)+1 := wi (by omega)
          refine ⟨i + 1, hlt8, by omega, ?_⟩
          try simp only [keepL, setAll, push_cast, Nat.reduceAdd, Nat.reduceMul, Nat.reduceSub, Nat.reduceLeDiff, Nat.reduceLT, Nat.reduceEqDiff, Nat.reduceBEq, Nat.reduceBNe, Nat.reduceMod, Nat.reduceDiv, Int.reduceLE, Int.reduceLT, Int.reduceToNat, Int.reduceAdd, Int.reduceSub, Int.reduceMul, Int.reduceNeg, Int.reduceEq, Int.reduceBEq, Int.reduceBNe, ↓reduceIte, reduceCtorEq, String.reduceBNe, String.reduceEq, reduceDIte, Nat.reducePow, hp, lk_old hp, hbb, lk_old hbb, prB, rowB, pS, u8l_len, Nat.sub_zero, Int.le_refl, ha1, ha2, ha3, ha4, ha5, hz0, q1, hhi, hlo, f1, f2, f3, q3, q4, n1, n2, n3, n4, hlc, hlc2, gi, hsn8, wi4, c3, c4, c5, c6, c7, c8, c9, c10, hwi, hsn8]
          exact Weak.to (extra := [_]) (by simp only [Keeps, Tm.get_cons, Nat.reduceEqDiff, ↓reduceIte, if_true, if_false, ite_true, ite_false, true_and, and_true, and_self, reduceCtorEq, hwi, hsn8]) (by first | rfl | (simp only [List.append_assoc, List.cons_append, List.nil_append]; rfl)) (by first | rfl | (simp [AV.below, CV.below, u8l_below]; done) | (simp [AV.below, CV.below, u8l_below]; omega)) (by
            first | exact hwf | refine MWf.app (hwf.grow (by simp)) ?_
            repeat (first | exact MWf_nil | (refine MWf_cons ?_ ?_; · first | rfl | (simp [CV.below, u8l_below]; done) | (simp [CV.below, u8l_below]; omega))))
      · have hi8e : i = 8 := by have := of_decide_eq_false h62; omega
        subst hi8e
        have hdf : u8l (dP (compN S la (la.length / 64)) 8) = [.int .u8 (IntKind.u8.wrap ((compN S la (la.length / 64)).a.fdiv 16777216)), .int .u8 (IntKind.u8.wrap ((compN S la (la.length / 64)).a.fdiv 65536)), .int .u8 (IntKind.u8.wrap ((compN S la (la.length / 64)).a.fdiv 256)), .int .u8 (IntKind.u8.wrap (compN S la (la.length / 64)).a), .int .u8 (IntKind.u8.wrap ((compN S la (la.length / 64)).b.fdiv 16777216)), .int .u8 (IntKind.u8.wrap ((compN S la (la.length / 64)).b.fdiv 65536)), .int .u8 (IntKind.u8.wrap ((compN S la (la.length / 64)).b.fdiv 256)), .int .u8 (IntKind.u8.wrap (compN S la (la.length / 64)).b), .int .u8 (IntKind.u8.wrap ((compN S la (la.length / 64)).c.fdiv 16777216)), .int .u8 (IntKind.u8.wrap ((compN S la (la.length / 64)).c.fdiv 65536)), .int .u8 (IntKind.u8.wrap ((compN S la (la.length / 64)).c.fdiv 256)), .int .u8 (IntKind.u8.wrap (compN S la (la.length / 64)).c), .int .u8 (IntKind.u8.wrap ((compN S la (la.length / 64)).d.fdiv 16777216)), .int .u8 (IntKind.u8.wrap ((compN S la (la.length / 64)).d.fdiv 65536)), .int .u8 (IntKind.u8.wrap ((compN S la (la.length / 64)).d.fdiv 256)), .int .u8 (IntKind.u8.wrap (compN S la (la.length / 64)).d), .int .u8 (IntKind.u8.wrap ((compN S la (la.length / 64)).e.fdiv 16777216)), .int .u8 (IntKind.u8.wrap ((compN S la (la.length / 64)).e.fdiv 65536)), .int .u8 (IntKind.u8.wrap ((compN S la (la.length / 64)).e.fdiv 256)), .int .u8 (IntKind.u8.wrap (compN S la (la.length / 64)).e), .int .u8 (IntKind.u8.wrap ((compN S la (la.length / 64)).f.fdiv 16777216)), .int .u8 (IntKind.u8.wrap ((compN S la (la.length / 64)).f.fdiv 65536)), .int .u8 (IntKind.u8.wrap ((compN S la (la.length / 64)).f.fdiv 256)), .int .u8 (IntKind.u8.wrap (compN S la (la.length / 64)).f), .int .u8 (IntKind.u8.wrap ((compN S la (la.length / 64)).g.fdiv 16777216)), .int .u8 (IntKind.u8.wrap ((compN S la (la.length / 64)).g.fdiv 65536)), .int .u8 (IntKind.u8.wrap ((compN S la (la.length / 64)).g.fdiv 256)), .int .u8 (IntKind.u8.wrap (compN S la (la.length / 64)).g), .int .u8 (IntKind.u8.wrap ((compN S la (la.length / 64)).h.fdiv 16777216)), .int .u8 (IntKind.u8.wrap ((compN S la (la.length / 64)).h.fdiv 65536)), .int .u8 (IntKind.u8.wrap ((compN S la (la.length / 64)).h.fdiv 256)), .int .u8 (IntKind.u8.wrap (compN S la (la.length / 64)).h)] := rfl
        refine AW.exit ?_
        refine Thn_e ?_
        clear hK K
        refine Thn_e ?_
        refine InB_here ?_
        refine Thn_n ?_
        refine hK _ _ ?_
        clear hK K
        refine AW.seq_k fun K hK => ?_
        refine AW.region (by decide) ?_
        simp only [push_cast, Nat.reduceAdd, Nat.reduceMul, Nat.reduceSub, Nat.reduceLeDiff, Nat.reduceLT, Nat.reduceEqDiff, Nat.reduceBEq, Nat.reduceBNe, Nat.reduceMod, Nat.reduceDiv, Int.reduceLE, Int.reduceLT, Int.reduceToNat, Int.reduceAdd, Int.reduceSub, Int.reduceMul, Int.reduceNeg, Int.reduceEq, Int.reduceBEq, Int.reduceBNe, ↓reduceIte, reduceCtorEq, String.reduceBNe, String.reduceEq, reduceDIte, Nat.reducePow, hp, lk_old hp, hbb, lk_old hbb, prB, rowB, pS, u8l_len, Nat.sub_zero, Int.le_refl, ha1, ha2, ha3, ha4, ha5, hz0, q1, hhi, hlo, f1, f2, f3, q3, q4, n1, n2, n3, n4, hlc, hlc2, hdf]
        refine Thn_n ?_
        refine hK _ _ ?_
        clear hK K
        refine AW.ret ?_
        refine hQ _ _ _ ?_
        refine RetP.drop (Or.inr rfl) ?_ ?_ hwf
        · simp only [resA, resOne, resTv, AV.tv, push_cast, Nat.reduceAdd, Nat.reduceMul, Nat.reduceSub, Nat.reduceLeDiff, Nat.reduceLT, Nat.reduceEqDiff, Nat.reduceBEq, Nat.reduceBNe, Nat.reduceMod, Nat.reduceDiv, Int.reduceLE, Int.reduceLT, Int.reduceToNat, Int.reduceAdd, Int.reduceSub, Int.reduceMul, Int.reduceNeg, Int.reduceEq, Int.reduceBEq, Int.reduceBNe, ↓reduceIte, reduceCtorEq, String.reduceBNe, String.reduceEq, reduceDIte, Nat.reducePow]
          rw [hfin]; rfl
        · rfl
        
end Go.Proofs.YtmjbbnfmhgcfaaaDoor

set_option linter.unusedSimpArgs false
set_option linter.unusedVariables false
set_option maxRecDepth 100000
set_option maxHeartbeats 4000000
namespace Go.Proofs.YtmjbbnfmhgcfaaaDoor
open Go Go.Eng

/-- What is stirred in depends on the block's bytes alone. -/
theorem word_congr {a b : List Int} {o p : Nat} (h : ∀ i, i < 64 → byB a (o + i) = byB b (p + i)) {i : Nat} (hi : i < 16) : wordV a (o + 4 * i) = wordV b (p + 4 * i) := by
  have h0 := h (4 * i) (by omega)
  have h1 := h (4 * i + 1) (by omega)
  have h2 := h (4 * i + 2) (by omega)
  have h3 := h (4 * i + 3) (by omega)
  simp only [wordV, Nat.add_assoc] at *
  rw [h0, h1, h2, h3]
theorem sch_congr {a b : List Int} {o p : Nat} (h : ∀ i, i < 64 → byB a (o + i) = byB b (p + i)) : ∀ i, sch a o i = sch b p i
  | 0 => rfl
  | i + 1 => by
    simp only [sch, sch_congr h i]
    by_cases hi : i < 16
    · rw [if_pos hi, if_pos hi, word_congr h hi]
    · rw [if_neg hi, if_neg hi]
theorem comp_congr (S : S8) {a b : List Int} {o p : Nat} (h : ∀ i, i < 64 → byB a (o + i) = byB b (p + i)) : comp KW S a o = comp KW S b p := by
  simp only [comp, sch_congr h]
theorem byB_app {a b : List Int} {i : Nat} (h : i < a.length) : byB (a ++ b) i = byB a i := by
  simp only [byB, List.getD_eq_getElem?_getD, List.getElem?_append_left h]
theorem byB_drop (a : List Int) (n i : Nat) : byB (a.drop n) i = byB a (n + i) := by
  simp only [byB, List.getD_eq_getElem?_getD, List.getElem?_drop]
theorem compN_app (S : S8) (a b : List Int) : ∀ k, 64 * k ≤ a.length → compN S (a ++ b) k = compN S a k
  | 0, _ => rfl
  | k + 1, h => by
    simp only [compN, compN_app S a b k (by omega)]
    exact comp_congr _ fun i hi => byB_app (by omega)
theorem compN_drop (S : S8) (a : List Int) (k : Nat) : ∀ j, compN (compN S a k) (a.drop (64 * k)) j = compN S a (k + j)
  | 0 => rfl
  | j + 1 => by
    rw [show k + (j + 1) = (k + j) + 1 from rfl]
    simp only [compN, compN_drop S a k j]
    exact comp_congr _ fun i hi => by rw [byB_drop]; congr 1; omega
theorem absS_app (s : PS) (a b : List Int) : absS (absS s a) b = absS s (a ++ b) := by
  obtain ⟨S, r, n⟩ := s
  generalize hx : r ++ a = x
  have e1 : r ++ (a ++ b) = x ++ b := by rw [← hx, List.append_assoc]
  have ed : x.drop (64 * (x.length / 64)) ++ b = (x ++ b).drop (64 * (x.length / 64)) := (List.drop_append_of_le_length (by omega)).symm
  have el : ((x ++ b).drop (64 * (x.length / 64))).length / 64 = (x ++ b).length / 64 - x.length / 64 := by rw [List.length_drop]; omega
  have eg : x.length / 64 ≤ (x ++ b).length / 64 := by rw [List.length_append]; omega
  simp only [absS, hx, e1, ed, el, PS.mk.injEq]
  refine ⟨?_, ?_, ?_⟩
  · rw [← compN_app S x b (x.length / 64) (by omega), compN_drop]; congr 1; omega
  · rw [List.drop_drop]; congr 1; omega
  · rw [IntKind.wrap_u64, IntKind.wrap_u64, IntKind.wrap_u64, List.length_append]; omega
def catP (bf : Nat → List Int) : Nat → List Int
  | 0 => []
  | i + 1 => catP bf i ++ bf i
def PSok (s : PS) : Prop := s.r.length < 64 ∧ 0 ≤ s.n ∧ s.n < 18446744073709551616
theorem absS_nil {s : PS} (h : PSok s) : absS s [] = s := by
  obtain ⟨S, r, n⟩ := s
  obtain ⟨h1, h2, h3⟩ := h
  dsimp only at h1 h2 h3
  have e : r.length / 64 = 0 := by omega
  simp only [absS, List.append_nil, e, Nat.mul_zero, List.drop_zero, compN, List.length_nil, PS.mk.injEq, true_and]
  rw [IntKind.wrap_u64]; omega
theorem accP_cat {s : PS} (h : PSok s) (bf : Nat → List Int) : ∀ n, accP s bf n = absS s (catP bf n)
  | 0 => (absS_nil h).symm
  | n + 1 => by simp only [accP, catP, accP_cat h bf n, absS_app]
theorem absS_ok (s : PS) (a : List Int) : PSok (absS s a) := ⟨absS_r s a, by simp only [absS]; rw [IntKind.wrap_u64]; omega, by simp only [absS]; rw [IntKind.wrap_u64]; omega⟩
def P0 : PS := ⟨IV, [], 0⟩
theorem p0_ok : PSok P0 := ⟨by decide, by decide, by decide⟩
/-- The sum of some bytes. -/
def shaL (bs : List Int) : List Int := digL (finS (absS P0 bs))
theorem shaL_len (bs : List Int) : (shaL bs).length = 32 := rfl
theorem shaL_ok (bs : List Int) : U8ok (shaL bs) := ((((((((fourL_ok _).app (fourL_ok _)).app (fourL_ok _)).app (fourL_ok _)).app (fourL_ok _)).app (fourL_ok _)).app (fourL_ok _)).app (fourL_ok _))
/-- A part, as it comes in. -/
def PartIn (m : AMem) (c : CV) (bs : List Int) : Prop :=
  (c = .nils ∧ bs = []) ∨ ∃ rb k ty v ez off X, c = .sl rb v off bs.length ∧ m[rb]? = some ⟨k, ty, v, ez, u8l X⟩ ∧ off + bs.length ≤ X.length ∧ (X.drop off).take bs.length = bs
theorem PartIn.at {m : AMem} {c : CV} {bs : List Int} (h : PartIn m c bs) (L : AMem) {bb : Nat} (hb : m.length ≤ bb) : PartAt (m ++ L) bb c bs := by
  rcases h with h | ⟨rb, k, ty, v, ez, off, X, h1, h2, h3, h4⟩
  · exact .inl h
  · have := get_lt h2
    exact .inr ⟨rb, k, ty, v, ez, off, X, h1, by omega, lk_old h2 L, h3, h4⟩
theorem catP_ok {bf : Nat → List Int} {np : Nat} (h : ∀ i, i < np → U8ok (bf i)) : ∀ n, n ≤ np → U8ok (catP bf n)
  | 0, _ => U8ok.nil
  | n + 1, hn => (catP_ok h n (by omega)).app (h n (by omega))
theorem writen_c (rp : Nat) (m : AMem) : Ctr Tryd.prog 21 [.one (.ptr rp 0 0), .one .nils] m (.tup []) m := by
  refine Ctr.enter Tryd.func21 rfl (by decide) (rs := []) (nt := 64) rfl rfl fun hwf Q hQ => ?_
  refine AW.seq_k fun K hK => ?_
  refine AW.seq_k fun K hK => ?_
  refine AW.region (by decide) ?_
  simp only [push_cast, Nat.reduceAdd, Nat.reduceMul, Nat.reduceSub, Nat.reduceLeDiff, Nat.reduceLT, Nat.reduceEqDiff, Nat.reduceBEq, Nat.reduceBNe, Nat.reduceMod, Nat.reduceDiv, Int.reduceLE, Int.reduceLT, Int.reduceToNat, Int.reduceAdd, Int.reduceSub, Int.reduceMul, Int.reduceNeg, Int.reduceEq, Int.reduceBEq, Int.reduceBNe, ↓reduceIte, reduceCtorEq, String.reduceBNe, String.reduceEq, reduceDIte, Nat.reducePow]
  refine Thn_n ?_
  refine hK _ _ ?_
  clear hK K
  refine AW.cond_f rfl ?_
  refine AW.skip ?_
  refine Thn_n ?_
  refine hK _ _ ?_
  clear hK K
  refine AW.seq_k fun K hK => ?_
  refine AW.region (by decide) ?_
  simp only [push_cast, Nat.reduceAdd, Nat.reduceMul, Nat.reduceSub, Nat.reduceLeDiff, Nat.reduceLT, Nat.reduceEqDiff, Nat.reduceBEq, Nat.reduceBNe, Nat.reduceMod, Nat.reduceDiv, Int.reduceLE, Int.reduceLT, Int.reduceToNat, Int.reduceAdd, Int.reduceSub, Int.reduceMul, Int.reduceNeg, Int.reduceEq, Int.reduceBEq, Int.reduceBNe, ↓reduceIte, reduceCtorEq, String.reduceBNe, String.reduceEq, reduceDIte, Nat.reducePow]
  refine Thn_n ?_
  refine hK _ _ ?_
  clear hK K
  refine AW.block ?_
  refine AW.rounds 1 ?_
  refine ARounds.succ fun K hK => ?_
  refine AW.seq_k fun K hK => ?_
  refine AW.region (by decide) ?_
  simp only [push_cast, Nat.reduceAdd, Nat.reduceMul, Nat.reduceSub, Nat.reduceLeDiff, Nat.reduceLT, Nat.reduceEqDiff, Nat.reduceBEq, Nat.reduceBNe, Nat.reduceMod, Nat.reduceDiv, Int.reduceLE, Int.reduceLT, Int.reduceToNat, Int.reduceAdd, Int.reduceSub, Int.reduceMul, Int.reduceNeg, Int.reduceEq, Int.reduceBEq, Int.reduceBNe, ↓reduceIte, reduceCtorEq, String.reduceBNe, String.reduceEq, reduceDIte, Nat.reducePow]
  refine Thn_n ?_
  refine hK _ _ ?_
  clear hK K
  refine AW.seq_k fun K hK => ?_
  refine AW.cond_f rfl ?_
  refine AW.exit ?_
  refine Thn_e ?_
  clear hK K
  refine Thn_e ?_
  clear hK K
  refine InB_here ?_
  refine hQ _ _ _ ?_
  first | refine RetP.drop0 (Or.inl rfl) ?_ ?_ hwf | refine RetP.drop (Or.inl rfl) ?_ ?_ hwf
  · simp only [resA, resOne, resTv, AV.tv, push_cast, Nat.reduceAdd, Nat.reduceMul, Nat.reduceSub, Nat.reduceLeDiff, Nat.reduceLT, Nat.reduceEqDiff, Nat.reduceBEq, Nat.reduceBNe, Nat.reduceMod, Nat.reduceDiv, Int.reduceLE, Int.reduceLT, Int.reduceToNat, Int.reduceAdd, Int.reduceSub, Int.reduceMul, Int.reduceNeg, Int.reduceEq, Int.reduceBEq, Int.reduceBNe, ↓reduceIte, reduceCtorEq, String.reduceBNe, String.reduceEq, reduceDIte, Nat.reducePow]
  · rfl
theorem of_c (lb vl lo np : Nat) (cf : Nat → CV) (bf : Nat → List Int) (X : List CV) (kl : BK) (el : Nat) (m : AMem) (hl : m[lb]? = some ⟨kl, 22, vl, el, X⟩) (hX : ∀ i, i < np → X[lo + i]? = some (cf i)) (hP : ∀ i, i < np → PartIn m (cf i) (bf i)) (hbl : ∀ i, i < np → (bf i).length ≤ 1000000) (hbo : ∀ i, i < np → U8ok (bf i)) (hnp : np ≤ 1048576) : Ctr Tryd.prog 18 [.one (.sl lb vl lo np)] m (.agg (u8l (shaL (catP bf np)))) m := by
  refine Ctr.enter Tryd.func18 rfl (by decide) (rs := [.cell 2 33]) (nt := 10) rfl rfl fun hwf Q hQ => ?_
  have hacc := accP_cat p0_ok bf np
  have hsl : (u8l (shaL (catP bf np))).length = 32 := rfl
  have hrr : (absS P0 (catP bf np)).r.length < 64 := absS_r _ _
  have hoo : U8ok (absS P0 (catP bf np)).r := by rw [← hacc]; exact accP_ok U8ok.nil hbo np (Nat.le_refl _)
  have hd1 : (digL (finS (absS P0 (catP bf np)))).length = 32 := rfl
  have hd2 : setL [.int .u8 0, .int .u8 0, .int .u8 0, .int .u8 0, .int .u8 0, .int .u8 0, .int .u8 0, .int .u8 0, .int .u8 0, .int .u8 0, .int .u8 0, .int .u8 0, .int .u8 0, .int .u8 0, .int .u8 0, .int .u8 0, .int .u8 0, .int .u8 0, .int .u8 0, .int .u8 0, .int .u8 0, .int .u8 0, .int .u8 0, .int .u8 0, .int .u8 0, .int .u8 0, .int .u8 0, .int .u8 0, .int .u8 0, .int .u8 0, .int .u8 0, .int .u8 0] 0 (u8l (digL (finS (absS P0 (catP bf np))))) = u8l (digL (finS (absS P0 (catP bf np)))) := setL_full rfl
  have hd3 := u8l_vals (digL (finS (absS P0 (catP bf np))))
  refine AW.seq_k fun K hK => ?_
  refine AW.region (by decide) ?_
  simp only [push_cast, Nat.reduceAdd, Nat.reduceMul, Nat.reduceSub, Nat.reduceLeDiff, Nat.reduceLT, Nat.reduceEqDiff, Nat.reduceBEq, Nat.reduceBNe, Nat.reduceMod, Nat.reduceDiv, Int.reduceLE, Int.reduceLT, Int.reduceToNat, Int.reduceAdd, Int.reduceSub, Int.reduceMul, Int.reduceNeg, Int.reduceEq, Int.reduceBEq, Int.reduceBNe, ↓reduceIte, reduceCtorEq, String.reduceBNe, String.reduceEq, reduceDIte, Nat.reducePow, hacc, pwr, rowB, prB, u8l_len, Nat.le_refl, hd1, hd2, hd3]
  refine Thn_n ?_
  refine hK _ _ ?_
  clear hK K
  refine AW.seq_k fun K hK => ?_
  refine AW.region (by decide) ?_
  simp only [push_cast, Nat.reduceAdd, Nat.reduceMul, Nat.reduceSub, Nat.reduceLeDiff, Nat.reduceLT, Nat.reduceEqDiff, Nat.reduceBEq, Nat.reduceBNe, Nat.reduceMod, Nat.reduceDiv, Int.reduceLE, Int.reduceLT, Int.reduceToNat, Int.reduceAdd, Int.reduceSub, Int.reduceMul, Int.reduceNeg, Int.reduceEq, Int.reduceBEq, Int.reduceBNe, ↓reduceIte, reduceCtorEq, String.reduceBNe, String.reduceEq, reduceDIte, Nat.reducePow, hacc, pwr, rowB, prB, u8l_len, Nat.le_refl, hd1, hd2, hd3]
  refine CThen.by (new_c _) ?_
  simp only [push_cast, Nat.reduceAdd, Nat.reduceMul, Nat.reduceSub, Nat.reduceLeDiff, Nat.reduceLT, Nat.reduceEqDiff, Nat.reduceBEq, Nat.reduceBNe, Nat.reduceMod, Nat.reduceDiv, Int.reduceLE, Int.reduceLT, Int.reduceToNat, Int.reduceAdd, Int.reduceSub, Int.reduceMul, Int.reduceNeg, Int.reduceEq, Int.reduceBEq, Int.reduceBNe, ↓reduceIte, reduceCtorEq, String.reduceBNe, String.reduceEq, reduceDIte, Nat.reducePow, hacc, pwr, rowB, prB, u8l_len, Nat.le_refl, hd1, hd2, hd3]
  refine Thn_n ?_
  refine hK _ _ ?_
  clear hK K
  refine AW.seq_k fun K hK => ?_
  refine AW.nilCell 5 1 (m.length + 1) 8 (b := ⟨.fix, 66, 0, 0, [.int .u32 (IV).a, .int .u32 (IV).b, .int .u32 (IV).c, .int .u32 (IV).d, .int .u32 (IV).e, .int .u32 (IV).f, .int .u32 (IV).g, .int .u32 (IV).h, .nils, .int .u64 0]⟩) (by simp only [push_cast, Nat.reduceAdd, Nat.reduceMul, Nat.reduceSub, Nat.reduceLeDiff, Nat.reduceLT, Nat.reduceEqDiff, Nat.reduceBEq, Nat.reduceBNe, Nat.reduceMod, Nat.reduceDiv, Int.reduceLE, Int.reduceLT, Int.reduceToNat, Int.reduceAdd, Int.reduceSub, Int.reduceMul, Int.reduceNeg, Int.reduceEq, Int.reduceBEq, Int.reduceBNe, ↓reduceIte, reduceCtorEq, String.reduceBNe, String.reduceEq, reduceDIte, Nat.reducePow]) (by simp) rfl ?_
  simp only [push_cast, Nat.reduceAdd, Nat.reduceMul, Nat.reduceSub, Nat.reduceLeDiff, Nat.reduceLT, Nat.reduceEqDiff, Nat.reduceBEq, Nat.reduceBNe, Nat.reduceMod, Nat.reduceDiv, Int.reduceLE, Int.reduceLT, Int.reduceToNat, Int.reduceAdd, Int.reduceSub, Int.reduceMul, Int.reduceNeg, Int.reduceEq, Int.reduceBEq, Int.reduceBNe, ↓reduceIte, reduceCtorEq, String.reduceBNe, String.reduceEq, reduceDIte, Nat.reducePow]
  refine AW.region (by decide) ?_
  simp only [push_cast, Nat.reduceAdd, Nat.reduceMul, Nat.reduceSub, Nat.reduceLeDiff, Nat.reduceLT, Nat.reduceEqDiff, Nat.reduceBEq, Nat.reduceBNe, Nat.reduceMod, Nat.reduceDiv, Int.reduceLE, Int.reduceLT, Int.reduceToNat, Int.reduceAdd, Int.reduceSub, Int.reduceMul, Int.reduceNeg, Int.reduceEq, Int.reduceBEq, Int.reduceBNe, ↓reduceIte, reduceCtorEq, String.reduceBNe, String.reduceEq, reduceDIte, Nat.reducePow, hacc, pwr, rowB, prB, u8l_len, Nat.le_refl, hd1, hd2, hd3]
  refine CThen.by (write_c (m.length + 1) (m.length + 2) 0 lb vl lo np P0 cf bf X kl el _ (by simp only [push_cast, Nat.reduceAdd, Nat.reduceMul, Nat.reduceSub, Nat.reduceLeDiff, Nat.reduceLT, Nat.reduceEqDiff, Nat.reduceBEq, Nat.reduceBNe, Nat.reduceMod, Nat.reduceDiv, Int.reduceLE, Int.reduceLT, Int.reduceToNat, Int.reduceAdd, Int.reduceSub, Int.reduceMul, Int.reduceNeg, Int.reduceEq, Int.reduceBEq, Int.reduceBNe, ↓reduceIte, reduceCtorEq, String.reduceBNe, String.reduceEq, reduceDIte, Nat.reducePow]; rfl) (by simp only [push_cast, Nat.reduceAdd, Nat.reduceMul, Nat.reduceSub, Nat.reduceLeDiff, Nat.reduceLT, Nat.reduceEqDiff, Nat.reduceBEq, Nat.reduceBNe, Nat.reduceMod, Nat.reduceDiv, Int.reduceLE, Int.reduceLT, Int.reduceToNat, Int.reduceAdd, Int.reduceSub, Int.reduceMul, Int.reduceNeg, Int.reduceEq, Int.reduceBEq, Int.reduceBNe, ↓reduceIte, reduceCtorEq, String.reduceBNe, String.reduceEq, reduceDIte, Nat.reducePow]; rfl) (by simp only [push_cast, Nat.reduceAdd, Nat.reduceMul, Nat.reduceSub, Nat.reduceLeDiff, Nat.reduceLT, Nat.reduceEqDiff, Nat.reduceBEq, Nat.reduceBNe, Nat.reduceMod, Nat.reduceDiv, Int.reduceLE, Int.reduceLT, Int.reduceToNat, Int.reduceAdd, Int.reduceSub, Int.reduceMul, Int.reduceNeg, Int.reduceEq, Int.reduceBEq, Int.reduceBNe, ↓reduceIte, reduceCtorEq, String.reduceBNe, String.reduceEq, reduceDIte, Nat.reducePow, lk_old hl]) (by have := get_lt hl; omega) hX (fun i hi => (hP i hi).at _ (by omega)) hbl hbo (by decide) U8ok.nil hnp) ?_
  simp only [push_cast, Nat.reduceAdd, Nat.reduceMul, Nat.reduceSub, Nat.reduceLeDiff, Nat.reduceLT, Nat.reduceEqDiff, Nat.reduceBEq, Nat.reduceBNe, Nat.reduceMod, Nat.reduceDiv, Int.reduceLE, Int.reduceLT, Int.reduceToNat, Int.reduceAdd, Int.reduceSub, Int.reduceMul, Int.reduceNeg, Int.reduceEq, Int.reduceBEq, Int.reduceBNe, ↓reduceIte, reduceCtorEq, String.reduceBNe, String.reduceEq, reduceDIte, Nat.reducePow, hacc, pwr, rowB, prB, u8l_len, Nat.le_refl, hd1, hd2, hd3]
  refine Thn_n ?_
  refine hK _ _ ?_
  clear hK K
  refine AW.seq_k fun K hK => ?_
  refine AW.region (by decide) ?_
  simp only [push_cast, Nat.reduceAdd, Nat.reduceMul, Nat.reduceSub, Nat.reduceLeDiff, Nat.reduceLT, Nat.reduceEqDiff, Nat.reduceBEq, Nat.reduceBNe, Nat.reduceMod, Nat.reduceDiv, Int.reduceLE, Int.reduceLT, Int.reduceToNat, Int.reduceAdd, Int.reduceSub, Int.reduceMul, Int.reduceNeg, Int.reduceEq, Int.reduceBEq, Int.reduceBNe, ↓reduceIte, reduceCtorEq, String.reduceBNe, String.reduceEq, reduceDIte, Nat.reducePow, hacc, pwr, rowB, prB, u8l_len, Nat.le_refl, hd1, hd2, hd3]
  refine CThen.by (sum_c (m.length + 1) (m.length + 2) (2 * np) (absS P0 (catP bf np)) _ (by simp only [push_cast, Nat.reduceAdd, Nat.reduceMul, Nat.reduceSub, Nat.reduceLeDiff, Nat.reduceLT, Nat.reduceEqDiff, Nat.reduceBEq, Nat.reduceBNe, Nat.reduceMod, Nat.reduceDiv, Int.reduceLE, Int.reduceLT, Int.reduceToNat, Int.reduceAdd, Int.reduceSub, Int.reduceMul, Int.reduceNeg, Int.reduceEq, Int.reduceBEq, Int.reduceBNe, ↓reduceIte, reduceCtorEq, String.reduceBNe, String.reduceEq, reduceDIte, Nat.reducePow, pwr, rowB, prB]) (by simp only [push_cast, Nat.reduceAdd, Nat.reduceMul, Nat.reduceSub, Nat.reduceLeDiff, Nat.reduceLT, Nat.reduceEqDiff, Nat.reduceBEq, Nat.reduceBNe, Nat.reduceMod, Nat.reduceDiv, Int.reduceLE, Int.reduceLT, Int.reduceToNat, Int.reduceAdd, Int.reduceSub, Int.reduceMul, Int.reduceNeg, Int.reduceEq, Int.reduceBEq, Int.reduceBNe, ↓reduceIte, reduceCtorEq, String.reduceBNe, String.reduceEq, reduceDIte, Nat.reducePow, pwr, rowB, prB]) hrr hoo) ?_
  simp only [push_cast, Nat.reduceAdd, Nat.reduceMul, Nat.reduceSub, Nat.reduceLeDiff, Nat.reduceLT, Nat.reduceEqDiff, Nat.reduceBEq, Nat.reduceBNe, Nat.reduceMod, Nat.reduceDiv, Int.reduceLE, Int.reduceLT, Int.reduceToNat, Int.reduceAdd, Int.reduceSub, Int.reduceMul, Int.reduceNeg, Int.reduceEq, Int.reduceBEq, Int.reduceBNe, ↓reduceIte, reduceCtorEq, String.reduceBNe, String.reduceEq, reduceDIte, Nat.reducePow, hacc, pwr, rowB, prB, u8l_len, Nat.le_refl, hd1, hd2, hd3]
  refine Thn_n ?_
  refine hK _ _ ?_
  clear hK K
  refine AW.ret ?_
  refine hQ _ _ _ ?_
  refine RetP.drop (Or.inr rfl) ?_ ?_ hwf
  · simp only [resA, resOne, resTv, AV.tv, push_cast, Nat.reduceAdd, Nat.reduceMul, Nat.reduceSub, Nat.reduceLeDiff, Nat.reduceLT, Nat.reduceEqDiff, Nat.reduceBEq, Nat.reduceBNe, Nat.reduceMod, Nat.reduceDiv, Int.reduceLE, Int.reduceLT, Int.reduceToNat, Int.reduceAdd, Int.reduceSub, Int.reduceMul, Int.reduceNeg, Int.reduceEq, Int.reduceBEq, Int.reduceBNe, ↓reduceIte, reduceCtorEq, String.reduceBNe, String.reduceEq, reduceDIte, Nat.reducePow]
    rfl
  · rfl
  
theorem of0_c (m : AMem) : Ctr Tryd.prog 18 [.one .nils] m (.agg (u8l (shaL []))) m := by
  refine Ctr.enter Tryd.func18 rfl (by decide) (rs := [.cell 2 33]) (nt := 10) rfl rfl fun hwf Q hQ => ?_
  have hsl : (u8l (shaL [])).length = 32 := rfl
  have hrr : (absS P0 []).r.length < 64 := absS_r _ _
  have hoo : U8ok (absS P0 []).r := fun x hx => by cases hx
  have hd1 : (digL (finS (absS P0 []))).length = 32 := rfl
  have hd2 : setL [.int .u8 0, .int .u8 0, .int .u8 0, .int .u8 0, .int .u8 0, .int .u8 0, .int .u8 0, .int .u8 0, .int .u8 0, .int .u8 0, .int .u8 0, .int .u8 0, .int .u8 0, .int .u8 0, .int .u8 0, .int .u8 0, .int .u8 0, .int .u8 0, .int .u8 0, .int .u8 0, .int .u8 0, .int .u8 0, .int .u8 0, .int .u8 0, .int .u8 0, .int .u8 0, .int .u8 0, .int .u8 0, .int .u8 0, .int .u8 0, .int .u8 0, .int .u8 0] 0 (u8l (digL (finS (absS P0 [])))) = u8l (digL (finS (absS P0 []))) := setL_full rfl
  have hd3 := u8l_vals (digL (finS (absS P0 [])))
  refine AW.seq_k fun K hK => ?_
  refine AW.region (by decide) ?_
  simp only [push_cast, Nat.reduceAdd, Nat.reduceMul, Nat.reduceSub, Nat.reduceLeDiff, Nat.reduceLT, Nat.reduceEqDiff, Nat.reduceBEq, Nat.reduceBNe, Nat.reduceMod, Nat.reduceDiv, Int.reduceLE, Int.reduceLT, Int.reduceToNat, Int.reduceAdd, Int.reduceSub, Int.reduceMul, Int.reduceNeg, Int.reduceEq, Int.reduceBEq, Int.reduceBNe, ↓reduceIte, reduceCtorEq, String.reduceBNe, String.reduceEq, reduceDIte, Nat.reducePow, pwr, rowB, prB, u8l_len, Nat.le_refl, hd1, hd2, hd3]
  refine Thn_n ?_
  refine hK _ _ ?_
  clear hK K
  refine AW.seq_k fun K hK => ?_
  refine AW.region (by decide) ?_
  simp only [push_cast, Nat.reduceAdd, Nat.reduceMul, Nat.reduceSub, Nat.reduceLeDiff, Nat.reduceLT, Nat.reduceEqDiff, Nat.reduceBEq, Nat.reduceBNe, Nat.reduceMod, Nat.reduceDiv, Int.reduceLE, Int.reduceLT, Int.reduceToNat, Int.reduceAdd, Int.reduceSub, Int.reduceMul, Int.reduceNeg, Int.reduceEq, Int.reduceBEq, Int.reduceBNe, ↓reduceIte, reduceCtorEq, String.reduceBNe, String.reduceEq, reduceDIte, Nat.reducePow, pwr, rowB, prB, u8l_len, Nat.le_refl, hd1, hd2, hd3]
  refine CThen.by (new_c _) ?_
  simp only [push_cast, Nat.reduceAdd, Nat.reduceMul, Nat.reduceSub, Nat.reduceLeDiff, Nat.reduceLT, Nat.reduceEqDiff, Nat.reduceBEq, Nat.reduceBNe, Nat.reduceMod, Nat.reduceDiv, Int.reduceLE, Int.reduceLT, Int.reduceToNat, Int.reduceAdd, Int.reduceSub, Int.reduceMul, Int.reduceNeg, Int.reduceEq, Int.reduceBEq, Int.reduceBNe, ↓reduceIte, reduceCtorEq, String.reduceBNe, String.reduceEq, reduceDIte, Nat.reducePow, pwr, rowB, prB, u8l_len, Nat.le_refl, hd1, hd2, hd3]
  refine Thn_n ?_
  refine hK _ _ ?_
  clear hK K
  refine AW.seq_k fun K hK => ?_
  refine AW.nilCell 5 1 (m.length + 1) 8 (b := ⟨.fix, 66, 0, 0, [.int .u32 (IV).a, .int .u32 (IV).b, .int .u32 (IV).c, .int .u32 (IV).d, .int .u32 (IV).e, .int .u32 (IV).f, .int .u32 (IV).g, .int .u32 (IV).h, .nils, .int .u64 0]⟩) (by simp only [push_cast, Nat.reduceAdd, Nat.reduceMul, Nat.reduceSub, Nat.reduceLeDiff, Nat.reduceLT, Nat.reduceEqDiff, Nat.reduceBEq, Nat.reduceBNe, Nat.reduceMod, Nat.reduceDiv, Int.reduceLE, Int.reduceLT, Int.reduceToNat, Int.reduceAdd, Int.reduceSub, Int.reduceMul, Int.reduceNeg, Int.reduceEq, Int.reduceBEq, Int.reduceBNe, ↓reduceIte, reduceCtorEq, String.reduceBNe, String.reduceEq, reduceDIte, Nat.reducePow]) (by simp) rfl ?_
  simp only [push_cast, Nat.reduceAdd, Nat.reduceMul, Nat.reduceSub, Nat.reduceLeDiff, Nat.reduceLT, Nat.reduceEqDiff, Nat.reduceBEq, Nat.reduceBNe, Nat.reduceMod, Nat.reduceDiv, Int.reduceLE, Int.reduceLT, Int.reduceToNat, Int.reduceAdd, Int.reduceSub, Int.reduceMul, Int.reduceNeg, Int.reduceEq, Int.reduceBEq, Int.reduceBNe, ↓reduceIte, reduceCtorEq, String.reduceBNe, String.reduceEq, reduceDIte, Nat.reducePow]
  refine AW.region (by decide) ?_
  simp only [push_cast, Nat.reduceAdd, Nat.reduceMul, Nat.reduceSub, Nat.reduceLeDiff, Nat.reduceLT, Nat.reduceEqDiff, Nat.reduceBEq, Nat.reduceBNe, Nat.reduceMod, Nat.reduceDiv, Int.reduceLE, Int.reduceLT, Int.reduceToNat, Int.reduceAdd, Int.reduceSub, Int.reduceMul, Int.reduceNeg, Int.reduceEq, Int.reduceBEq, Int.reduceBNe, ↓reduceIte, reduceCtorEq, String.reduceBNe, String.reduceEq, reduceDIte, Nat.reducePow, pwr, rowB, prB, u8l_len, Nat.le_refl, hd1, hd2, hd3]
  refine CThen.by (writen_c _ _) ?_
  simp only [push_cast, Nat.reduceAdd, Nat.reduceMul, Nat.reduceSub, Nat.reduceLeDiff, Nat.reduceLT, Nat.reduceEqDiff, Nat.reduceBEq, Nat.reduceBNe, Nat.reduceMod, Nat.reduceDiv, Int.reduceLE, Int.reduceLT, Int.reduceToNat, Int.reduceAdd, Int.reduceSub, Int.reduceMul, Int.reduceNeg, Int.reduceEq, Int.reduceBEq, Int.reduceBNe, ↓reduceIte, reduceCtorEq, String.reduceBNe, String.reduceEq, reduceDIte, Nat.reducePow, pwr, rowB, prB, u8l_len, Nat.le_refl, hd1, hd2, hd3]
  refine Thn_n ?_
  refine hK _ _ ?_
  clear hK K
  refine AW.seq_k fun K hK => ?_
  refine AW.region (by decide) ?_
  simp only [push_cast, Nat.reduceAdd, Nat.reduceMul, Nat.reduceSub, Nat.reduceLeDiff, Nat.reduceLT, Nat.reduceEqDiff, Nat.reduceBEq, Nat.reduceBNe, Nat.reduceMod, Nat.reduceDiv, Int.reduceLE, Int.reduceLT, Int.reduceToNat, Int.reduceAdd, Int.reduceSub, Int.reduceMul, Int.reduceNeg, Int.reduceEq, Int.reduceBEq, Int.reduceBNe, ↓reduceIte, reduceCtorEq, String.reduceBNe, String.reduceEq, reduceDIte, Nat.reducePow, pwr, rowB, prB, u8l_len, Nat.le_refl, hd1, hd2, hd3]
  refine CThen.by (sum_c (m.length + 1) (m.length + 2) 0 (absS P0 []) _ (by simp only [push_cast, Nat.reduceAdd, Nat.reduceMul, Nat.reduceSub, Nat.reduceLeDiff, Nat.reduceLT, Nat.reduceEqDiff, Nat.reduceBEq, Nat.reduceBNe, Nat.reduceMod, Nat.reduceDiv, Int.reduceLE, Int.reduceLT, Int.reduceToNat, Int.reduceAdd, Int.reduceSub, Int.reduceMul, Int.reduceNeg, Int.reduceEq, Int.reduceBEq, Int.reduceBNe, ↓reduceIte, reduceCtorEq, String.reduceBNe, String.reduceEq, reduceDIte, Nat.reducePow, pwr, rowB, prB]; rfl) (by simp only [push_cast, Nat.reduceAdd, Nat.reduceMul, Nat.reduceSub, Nat.reduceLeDiff, Nat.reduceLT, Nat.reduceEqDiff, Nat.reduceBEq, Nat.reduceBNe, Nat.reduceMod, Nat.reduceDiv, Int.reduceLE, Int.reduceLT, Int.reduceToNat, Int.reduceAdd, Int.reduceSub, Int.reduceMul, Int.reduceNeg, Int.reduceEq, Int.reduceBEq, Int.reduceBNe, ↓reduceIte, reduceCtorEq, String.reduceBNe, String.reduceEq, reduceDIte, Nat.reducePow, pwr, rowB, prB]; rfl) hrr hoo) ?_
  simp only [push_cast, Nat.reduceAdd, Nat.reduceMul, Nat.reduceSub, Nat.reduceLeDiff, Nat.reduceLT, Nat.reduceEqDiff, Nat.reduceBEq, Nat.reduceBNe, Nat.reduceMod, Nat.reduceDiv, Int.reduceLE, Int.reduceLT, Int.reduceToNat, Int.reduceAdd, Int.reduceSub, Int.reduceMul, Int.reduceNeg, Int.reduceEq, Int.reduceBEq, Int.reduceBNe, ↓reduceIte, reduceCtorEq, String.reduceBNe, String.reduceEq, reduceDIte, Nat.reducePow, pwr, rowB, prB, u8l_len, Nat.le_refl, hd1, hd2, hd3]
  refine Thn_n ?_
  refine hK _ _ ?_
  clear hK K
  refine AW.ret ?_
  refine hQ _ _ _ ?_
  refine RetP.drop (Or.inr rfl) ?_ ?_ hwf
  · simp only [resA, resOne, resTv, AV.tv, push_cast, Nat.reduceAdd, Nat.reduceMul, Nat.reduceSub, Nat.reduceLeDiff, Nat.reduceLT, Nat.reduceEqDiff, Nat.reduceBEq, Nat.reduceBNe, Nat.reduceMod, Nat.reduceDiv, Int.reduceLE, Int.reduceLT, Int.reduceToNat, Int.reduceAdd, Int.reduceSub, Int.reduceMul, Int.reduceNeg, Int.reduceEq, Int.reduceBEq, Int.reduceBNe, ↓reduceIte, reduceCtorEq, String.reduceBNe, String.reduceEq, reduceDIte, Nat.reducePow]
    rfl
  · rfl
  
end Go.Proofs.YtmjbbnfmhgcfaaaDoor

set_option linter.unusedSimpArgs false
set_option linter.unusedVariables false
set_option maxRecDepth 100000
set_option maxHeartbeats 4000000
namespace Go.Proofs.YtmjbbnfmhgcfaaaDoor
open Go Go.Eng

def HLL : List Int := [1779033703, 3144134277, 1013904242, 2773480762, 1359893119, 2600822924, 528734635, 1541459225]
theorem setfill {A f : List Int} {n i : Nat} (h : i < f.length) (hn : i < n) : (A ++ (f.take i ++ List.replicate (n - i) 0)).set (A.length + i) (f.getD i 0) = A ++ (f.take (i + 1) ++ List.replicate (n - (i + 1)) 0) := by
  rw [List.set_append_right _ _ (by omega), Nat.add_sub_cancel_left]
  have e1 : (f.take i).length = i := by rw [List.length_take]; omega
  rw [List.set_append_right _ _ (by omega), e1, Nat.sub_self]
  have e2 : n - i = (n - (i + 1)) + 1 := by omega
  rw [e2, List.replicate_succ, List.set_cons_zero, List.take_succ_eq_append_getElem h, List.append_assoc]
  rw [List.getD_eq_getElem?_getD, List.getElem?_eq_getElem h]; rfl
def tbA (A f : List Int) (n i : Nat) : List Int := A ++ (f.take i ++ List.replicate (n - i) 0)
theorem tbA_set {A f : List Int} {n i : Nat} (h : i < f.length) (hn : i < n) : (tbA A f n i).set (A.length + i) (f.getD i 0) = tbA A f n (i + 1) := setfill h hn
theorem tbA_len {A f : List Int} {n i : Nat} (h : i ≤ f.length) (hn : i ≤ n) : (tbA A f n i).length = A.length + n := by
  simp only [tbA, List.length_append, List.length_take, List.length_replicate]; omega
theorem root_at : ∀ k : Fin 8, rootI (PR.getD k.val 0) = HLL.getD k.val 0 := by
  have h : (PR.take 8).map rootI = HLL := tabH
  intro k
  have h2 : ((PR.take 8).map rootI)[k.val]? = HLL[k.val]? := by rw [h]
  have hk := k.isLt
  rw [List.getElem?_map, List.getElem?_take, if_pos hk] at h2
  have hp : k.val < PR.length := by have : PR.length = 64 := rfl; omega
  rw [List.getElem?_eq_getElem hp] at h2
  rw [List.getD_eq_getElem?_getD, List.getD_eq_getElem?_getD, ← h2, List.getElem?_eq_getElem hp]; rfl
theorem cube_at {k : Nat} (hk : k < 64) : cubeI (PR.getD k 0) = KW.getD k 0 := by
  have h2 : (PR.map cubeI)[k]? = KW[k]? := by rw [tabK]
  have hp : k < PR.length := hk
  rw [List.getElem?_map, List.getElem?_eq_getElem hp] at h2
  rw [List.getD_eq_getElem?_getD, List.getD_eq_getElem?_getD, ← h2, List.getElem?_eq_getElem hp]; rfl
theorem make_c (m : AMem) : Ctr Tryd.prog 5 [] m (.agg (ul (HLL ++ KW))) m := by
  refine Ctr.enter Tryd.func5 rfl (by decide) (rs := [.cell 0 31]) (nt := 31) rfl rfl fun hwf Q hQ => ?_
  have hz1 : ul (tbA [] HLL 72 0) = [.int .u32 0, .int .u32 0, .int .u32 0, .int .u32 0, .int .u32 0, .int .u32 0, .int .u32 0, .int .u32 0, .int .u32 0, .int .u32 0, .int .u32 0, .int .u32 0, .int .u32 0, .int .u32 0, .int .u32 0, .int .u32 0, .int .u32 0, .int .u32 0, .int .u32 0, .int .u32 0, .int .u32 0, .int .u32 0, .int .u32 0, .int .u32 0, .int .u32 0, .int .u32 0, .int .u32 0, .int .u32 0, .int .u32 0, .int .u32 0, .int .u32 0, .int .u32 0, .int .u32 0, .int .u32 0, .int .u32 0, .int .u32 0, .int .u32 0, .int .u32 0, .int .u32 0, .int .u32 0, .int .u32 0, .int .u32 0, .int .u32 0, .int .u32 0, .int .u32 0, .int .u32 0, .int .u32 0, .int .u32 0, .int .u32 0, .int .u32 0, .int .u32 0, .int .u32 0, .int .u32 0, .int .u32 0, .int .u32 0, .int .u32 0, .int .u32 0, .int .u32 0, .int .u32 0, .int .u32 0, .int .u32 0, .int .u32 0, .int .u32 0, .int .u32 0, .int .u32 0, .int .u32 0, .int .u32 0, .int .u32 0, .int .u32 0, .int .u32 0, .int .u32 0, .int .u32 0] := rfl
  have hpr : u64l (prL 310) = u64l PR := by rw [prL_eq]
  have hpl : PR.length = 64 := rfl
  iterate 2
    refine AW.seq_k fun K hK => ?_
    refine AW.region (by decide) ?_
    simp only [push_cast, Nat.reduceAdd, Nat.reduceMul, Nat.reduceSub, Nat.reduceLeDiff, Nat.reduceLT, Nat.reduceEqDiff, Nat.reduceBEq, Nat.reduceBNe, Nat.reduceMod, Nat.reduceDiv, Int.reduceLE, Int.reduceLT, Int.reduceToNat, Int.reduceAdd, Int.reduceSub, Int.reduceMul, Int.reduceNeg, Int.reduceEq, Int.reduceBEq, Int.reduceBNe, ↓reduceIte, reduceCtorEq, String.reduceBNe, String.reduceEq, reduceDIte, Nat.reducePow, hpr, u64l_len, ul_len, ul_set]
    refine Thn_n ?_
    refine hK _ _ ?_
    clear hK K
  refine AW.seq_k fun K hK => ?_
  refine AW.region (by decide) ?_
  simp only [push_cast, Nat.reduceAdd, Nat.reduceMul, Nat.reduceSub, Nat.reduceLeDiff, Nat.reduceLT, Nat.reduceEqDiff, Nat.reduceBEq, Nat.reduceBNe, Nat.reduceMod, Nat.reduceDiv, Int.reduceLE, Int.reduceLT, Int.reduceToNat, Int.reduceAdd, Int.reduceSub, Int.reduceMul, Int.reduceNeg, Int.reduceEq, Int.reduceBEq, Int.reduceBNe, ↓reduceIte, reduceCtorEq, String.reduceBNe, String.reduceEq, reduceDIte, Nat.reducePow, hpr, u64l_len, ul_len, ul_set]
  refine CThen.by (primes_c _) ?_
  simp only [push_cast, Nat.reduceAdd, Nat.reduceMul, Nat.reduceSub, Nat.reduceLeDiff, Nat.reduceLT, Nat.reduceEqDiff, Nat.reduceBEq, Nat.reduceBNe, Nat.reduceMod, Nat.reduceDiv, Int.reduceLE, Int.reduceLT, Int.reduceToNat, Int.reduceAdd, Int.reduceSub, Int.reduceMul, Int.reduceNeg, Int.reduceEq, Int.reduceBEq, Int.reduceBNe, ↓reduceIte, reduceCtorEq, String.reduceBNe, String.reduceEq, reduceDIte, Nat.reducePow, hpr, u64l_len, ul_len, ul_set]
  refine Thn_n ?_
  refine hK _ _ ?_
  clear hK K
  refine AW.seq_k fun K hK => ?_
  refine AW.seq_k fun K hK => ?_
  refine AW.region (by decide) ?_
  simp only [push_cast, Nat.reduceAdd, Nat.reduceMul, Nat.reduceSub, Nat.reduceLeDiff, Nat.reduceLT, Nat.reduceEqDiff, Nat.reduceBEq, Nat.reduceBNe, Nat.reduceMod, Nat.reduceDiv, Int.reduceLE, Int.reduceLT, Int.reduceToNat, Int.reduceAdd, Int.reduceSub, Int.reduceMul, Int.reduceNeg, Int.reduceEq, Int.reduceBEq, Int.reduceBNe, ↓reduceIte, reduceCtorEq, String.reduceBNe, String.reduceEq, reduceDIte, Nat.reducePow, hpr, u64l_len, ul_len, ul_set]
  refine Thn_n ?_
  refine hK _ _ ?_
  clear hK K
  refine AW.block ?_
  refine AW.loopK [0, 1, 2] (fun i => i ≤ (8 : Nat)) (fun i => [(3, .one (.int .i64 (i : Int)))]) (fun i => [(m.length + 1, ⟨.fix, 31, 0, 0, (ul (tbA [] HLL 72 i))⟩)]) (fun i => 8 - i) 0 (by omega) ?_ ?_ fun i hi6 => ?_
  · first | rfl | (simp only [Keeps, Tm.get_cons, Nat.reduceEqDiff, ↓reduceIte, if_true, if_false, ite_true, ite_false, true_and, and_true, and_self, reduceCtorEq, hz1, Int.natCast_zero] <;> rfl)
  · first | rfl | (simp only [setAll, push_cast, Nat.reduceAdd, Nat.reduceMul, Nat.reduceSub, Nat.reduceLeDiff, Nat.reduceLT, Nat.reduceEqDiff, Nat.reduceBEq, Nat.reduceBNe, Nat.reduceMod, Nat.reduceDiv, Int.reduceLE, Int.reduceLT, Int.reduceToNat, Int.reduceAdd, Int.reduceSub, Int.reduceMul, Int.reduceNeg, Int.reduceEq, Int.reduceBEq, Int.reduceBNe, ↓reduceIte, reduceCtorEq, String.reduceBNe, String.reduceEq, reduceDIte, Nat.reducePow, hpr, u64l_len, ul_len, ul_set, hz1, Int.natCast_zero] <;> rfl)
  have hi8 : i ≤ 8 := hi6
  try simp only [keepL, setAll, push_cast, Nat.reduceAdd, Nat.reduceMul, Nat.reduceSub, Nat.reduceLeDiff, Nat.reduceLT, Nat.reduceEqDiff, Nat.reduceBEq, Nat.reduceBNe, Nat.reduceMod, Nat.reduceDiv, Int.reduceLE, Int.reduceLT, Int.reduceToNat, Int.reduceAdd, Int.reduceSub, Int.reduceMul, Int.reduceNeg, Int.reduceEq, Int.reduceBEq, Int.reduceBNe, ↓reduceIte, reduceCtorEq, String.reduceBNe, String.reduceEq, reduceDIte, Nat.reducePow, hpr, u64l_len, ul_len, ul_set]
  refine AW.seq_k fun K hK => ?_
  refine AW.seq_k fun K hK => ?_
  refine AW.region (by decide) ?_
  simp only [push_cast, Nat.reduceAdd, Nat.reduceMul, Nat.reduceSub, Nat.reduceLeDiff, Nat.reduceLT, Nat.reduceEqDiff, Nat.reduceBEq, Nat.reduceBNe, Nat.reduceMod, Nat.reduceDiv, Int.reduceLE, Int.reduceLT, Int.reduceToNat, Int.reduceAdd, Int.reduceSub, Int.reduceMul, Int.reduceNeg, Int.reduceEq, Int.reduceBEq, Int.reduceBNe, ↓reduceIte, reduceCtorEq, String.reduceBNe, String.reduceEq, reduceDIte, Nat.reducePow, hpr, u64l_len, ul_len, ul_set]
  refine Thn_n ?_
  refine hK _ _ ?_
  clear hK K
  refine AW.cond rfl (fun h7 => ?_) (fun h7 => ?_)
  · have hlt : i < 8 := by have := of_decide_eq_true h7; omega
    have c1 : (0 : Int) ≤ (i : Int) := by omega
    have c2 : (i : Int) < 64 := by omega
    have c3 : (i : Int) < 8 := by omega
    have g := u64l_get (xs := PR) (i := i) (by rw [hpl]; omega)
    have hr := root_at ⟨i, hlt⟩
    have hsf := tbA_set (A := []) (f := HLL) (n := 72) (i := i) hlt (by omega)
    simp only [List.length_nil, Nat.zero_add] at hsf
    simp only at hr
    have c4 := tbA_len (A := []) (f := HLL) (n := 72) (i := i) hi8 (by omega)
    simp only [List.length_nil, Nat.zero_add] at c4
    have c5 : i + 1 ≤ 72 := by omega
    refine AW.skip ?_
    refine Thn_n ?_
    refine hK _ _ ?_
    clear hK K
    refine AW.seq_k fun K hK => ?_
    refine AW.block ?_
    refine AW.region (by decide) ?_
    simp only [push_cast, Nat.reduceAdd, Nat.reduceMul, Nat.reduceSub, Nat.reduceLeDiff, Nat.reduceLT, Nat.reduceEqDiff, Nat.reduceBEq, Nat.reduceBNe, Nat.reduceMod, Nat.reduceDiv, Int.reduceLE, Int.reduceLT, Int.reduceToNat, Int.reduceAdd, Int.reduceSub, Int.reduceMul, Int.reduceNeg, Int.reduceEq, Int.reduceBEq, Int.reduceBNe, ↓reduceIte, reduceCtorEq, String.reduceBNe, String.reduceEq, reduceDIte, Nat.reducePow, hpr, u64l_len, ul_len, ul_set, c1, c2, c3, c4, c5, g, hr, hsf]
    refine CThen.by (root_c _ _) ?_
    simp only [push_cast, Nat.reduceAdd, Nat.reduceMul, Nat.reduceSub, Nat.reduceLeDiff, Nat.reduceLT, Nat.reduceEqDiff, Nat.reduceBEq, Nat.reduceBNe, Nat.reduceMod, Nat.reduceDiv, Int.reduceLE, Int.reduceLT, Int.reduceToNat, Int.reduceAdd, Int.reduceSub, Int.reduceMul, Int.reduceNeg, Int.reduceEq, Int.reduceBEq, Int.reduceBNe, ↓reduceIte, reduceCtorEq, String.reduceBNe, String.reduceEq, reduceDIte, Nat.reducePow, hpr, u64l_len, ul_len, ul_set, c1, c2, c3, c4, c5, g, hr, hsf]
    refine InB_n ?_
    refine Thn_n ?_
    refine hK _ _ ?_
    clear hK K
    refine AW.region (by decide) ?_
    simp only [push_cast, Nat.reduceAdd, Nat.reduceMul, Nat.reduceSub, Nat.reduceLeDiff, Nat.reduceLT, Nat.reduceEqDiff, Nat.reduceBEq, Nat.reduceBNe, Nat.reduceMod, Nat.reduceDiv, Int.reduceLE, Int.reduceLT, Int.reduceToNat, Int.reduceAdd, Int.reduceSub, Int.reduceMul, Int.reduceNeg, Int.reduceEq, Int.reduceBEq, Int.reduceBNe, ↓reduceIte, reduceCtorEq, String.reduceBNe, String.reduceEq, reduceDIte, Nat.reducePow, hpr, u64l_len, ul_len, ul_set, c1, c2, c3, c4, c5, g, hr, hsf]
    refine Thn_n ?_
    have hwi : IntKind.i64.wrap ((i:Int)+1) = (i:Int)+1 := wi (by omega)
    refine ⟨i + 1, hlt, by omega, ?_⟩
    try simp only [keepL, setAll, push_cast, Nat.reduceAdd, Nat.reduceMul, Nat.reduceSub, Nat.reduceLeDiff, Nat.reduceLT, Nat.reduceEqDiff, Nat.reduceBEq, Nat.reduceBNe, Nat.reduceMod, Nat.reduceDiv, Int.reduceLE, Int.reduceLT, Int.reduceToNat, Int.reduceAdd, Int.reduceSub, Int.reduceMul, Int.reduceNeg, Int.reduceEq, Int.reduceBEq, Int.reduceBNe, ↓reduceIte, reduceCtorEq, String.reduceBNe, String.reduceEq, reduceDIte, Nat.reducePow, hpr, u64l_len, ul_len, ul_set, c1, c2, c3, c4, c5, g, hr, hsf, hwi, hsf]
    exact Weak.same (by simp only [Keeps, Tm.get_cons, Nat.reduceEqDiff, ↓reduceIte, if_true, if_false, ite_true, ite_false, true_and, and_true, and_self, reduceCtorEq, hwi, hsf]) (by first | rfl | simp only [Keeps, Tm.get_cons, Nat.reduceEqDiff, ↓reduceIte, if_true, if_false, ite_true, ite_false, true_and, and_true, and_self, reduceCtorEq, hwi, hsf])
  · have hie : i = 8 := by have := of_decide_eq_false h7; omega
    subst hie
    have hc2 : ul (tbA HLL KW 64 0) = ul (tbA [] HLL 72 8) := rfl
    refine AW.exit ?_
    refine Thn_e ?_
    clear hK K
    refine Thn_e ?_
    refine InB_here ?_
    refine Thn_n ?_
    refine hK _ _ ?_
    clear hK K
    refine AW.seq_k fun K hK => ?_
    refine AW.seq_k fun K hK => ?_
    refine AW.region (by decide) ?_
    simp only [push_cast, Nat.reduceAdd, Nat.reduceMul, Nat.reduceSub, Nat.reduceLeDiff, Nat.reduceLT, Nat.reduceEqDiff, Nat.reduceBEq, Nat.reduceBNe, Nat.reduceMod, Nat.reduceDiv, Int.reduceLE, Int.reduceLT, Int.reduceToNat, Int.reduceAdd, Int.reduceSub, Int.reduceMul, Int.reduceNeg, Int.reduceEq, Int.reduceBEq, Int.reduceBNe, ↓reduceIte, reduceCtorEq, String.reduceBNe, String.reduceEq, reduceDIte, Nat.reducePow, hpr, u64l_len, ul_len, ul_set]
    refine Thn_n ?_
    refine hK _ _ ?_
    clear hK K
    refine AW.block ?_
    refine AW.loopK [0, 1, 2] (fun i => i ≤ (64 : Nat)) (fun i => [(4, .one (.int .i64 (i : Int)))]) (fun i => [(m.length + 1, ⟨.fix, 31, 0, 0, (ul (tbA HLL KW 64 i))⟩)]) (fun i => 64 - i) 0 (by omega) ?_ ?_ fun i hi12 => ?_
    · first | rfl | (simp only [Keeps, Tm.get_cons, Nat.reduceEqDiff, ↓reduceIte, if_true, if_false, ite_true, ite_false, true_and, and_true, and_self, reduceCtorEq, hc2, Int.natCast_zero] <;> rfl)
    · first | rfl | (simp only [setAll, push_cast, Nat.reduceAdd, Nat.reduceMul, Nat.reduceSub, Nat.reduceLeDiff, Nat.reduceLT, Nat.reduceEqDiff, Nat.reduceBEq, Nat.reduceBNe, Nat.reduceMod, Nat.reduceDiv, Int.reduceLE, Int.reduceLT, Int.reduceToNat, Int.reduceAdd, Int.reduceSub, Int.reduceMul, Int.reduceNeg, Int.reduceEq, Int.reduceBEq, Int.reduceBNe, ↓reduceIte, reduceCtorEq, String.reduceBNe, String.reduceEq, reduceDIte, Nat.reducePow, hpr, u64l_len, ul_len, ul_set, hc2, Int.natCast_zero] <;> rfl)
    have hi64 : i ≤ 64 := hi12
    try simp only [keepL, setAll, push_cast, Nat.reduceAdd, Nat.reduceMul, Nat.reduceSub, Nat.reduceLeDiff, Nat.reduceLT, Nat.reduceEqDiff, Nat.reduceBEq, Nat.reduceBNe, Nat.reduceMod, Nat.reduceDiv, Int.reduceLE, Int.reduceLT, Int.reduceToNat, Int.reduceAdd, Int.reduceSub, Int.reduceMul, Int.reduceNeg, Int.reduceEq, Int.reduceBEq, Int.reduceBNe, ↓reduceIte, reduceCtorEq, String.reduceBNe, String.reduceEq, reduceDIte, Nat.reducePow, hpr, u64l_len, ul_len, ul_set]
    refine AW.seq_k fun K hK => ?_
    refine AW.seq_k fun K hK => ?_
    refine AW.region (by decide) ?_
    simp only [push_cast, Nat.reduceAdd, Nat.reduceMul, Nat.reduceSub, Nat.reduceLeDiff, Nat.reduceLT, Nat.reduceEqDiff, Nat.reduceBEq, Nat.reduceBNe, Nat.reduceMod, Nat.reduceDiv, Int.reduceLE, Int.reduceLT, Int.reduceToNat, Int.reduceAdd, Int.reduceSub, Int.reduceMul, Int.reduceNeg, Int.reduceEq, Int.reduceBEq, Int.reduceBNe, ↓reduceIte, reduceCtorEq, String.reduceBNe, String.reduceEq, reduceDIte, Nat.reducePow, hpr, u64l_len, ul_len, ul_set]
    refine Thn_n ?_
    refine hK _ _ ?_
    clear hK K
    refine AW.cond rfl (fun h19 => ?_) (fun h19 => ?_)
    · have hlt : i < 64 := by have := of_decide_eq_true h19; omega
      have c1 : (0 : Int) ≤ (i : Int) := by omega
      have c2 : (i : Int) < 64 := by omega
      have g := u64l_get (xs := PR) (i := i) (by rw [hpl]; omega)
      have hr := cube_at hlt
      have hsf := tbA_set (A := HLL) (f := KW) (n := 64) (i := i) hlt hlt
      have h8 : HLL.length = 8 := rfl
      rw [h8] at hsf
      have c4 := tbA_len (A := HLL) (f := KW) (n := 64) (i := i) hi64 hi64
      rw [h8] at c4
      have c5 : 8 + (i + 1) ≤ 72 := by omega
      have c6 : 8 + i + 1 ≤ 72 := by omega
      refine AW.skip ?_
      refine Thn_n ?_
      refine hK _ _ ?_
      clear hK K
      refine AW.seq_k fun K hK => ?_
      refine AW.block ?_
      refine AW.region (by decide) ?_
      simp only [push_cast, Nat.reduceAdd, Nat.reduceMul, Nat.reduceSub, Nat.reduceLeDiff, Nat.reduceLT, Nat.reduceEqDiff, Nat.reduceBEq, Nat.reduceBNe, Nat.reduceMod, Nat.reduceDiv, Int.reduceLE, Int.reduceLT, Int.reduceToNat, Int.reduceAdd, Int.reduceSub, Int.reduceMul, Int.reduceNeg, Int.reduceEq, Int.reduceBEq, Int.reduceBNe, ↓reduceIte, reduceCtorEq, String.reduceBNe, String.reduceEq, reduceDIte, Nat.reducePow, hpr, u64l_len, ul_len, ul_set, c1, c2, c4, c5, c6, g, hr, hsf]
      refine CThen.by (cube_c _ _) ?_
      simp only [push_cast, Nat.reduceAdd, Nat.reduceMul, Nat.reduceSub, Nat.reduceLeDiff, Nat.reduceLT, Nat.reduceEqDiff, Nat.reduceBEq, Nat.reduceBNe, Nat.reduceMod, Nat.reduceDiv, Int.reduceLE, Int.reduceLT, Int.reduceToNat, Int.reduceAdd, Int.reduceSub, Int.reduceMul, Int.reduceNeg, Int.reduceEq, Int.reduceBEq, Int.reduceBNe, ↓reduceIte, reduceCtorEq, String.reduceBNe, String.reduceEq, reduceDIte, Nat.reducePow, hpr, u64l_len, ul_len, ul_set, c1, c2, c4, c5, c6, g, hr, hsf]
      refine InB_n ?_
      refine Thn_n ?_
      refine hK _ _ ?_
      clear hK K
      refine AW.region (by decide) ?_
      simp only [push_cast, Nat.reduceAdd, Nat.reduceMul, Nat.reduceSub, Nat.reduceLeDiff, Nat.reduceLT, Nat.reduceEqDiff, Nat.reduceBEq, Nat.reduceBNe, Nat.reduceMod, Nat.reduceDiv, Int.reduceLE, Int.reduceLT, Int.reduceToNat, Int.reduceAdd, Int.reduceSub, Int.reduceMul, Int.reduceNeg, Int.reduceEq, Int.reduceBEq, Int.reduceBNe, ↓reduceIte, reduceCtorEq, String.reduceBNe, String.reduceEq, reduceDIte, Nat.reducePow, hpr, u64l_len, ul_len, ul_set, c1, c2, c4, c5, c6, g, hr, hsf]
      refine Thn_n ?_
      have hwi : IntKind.i64.wrap ((i:Int)+1) = (i:Int)+1 := wi (by omega)
      refine ⟨i + 1, hlt, by omega, ?_⟩
      try simp only [keepL, setAll, push_cast, Nat.reduceAdd, Nat.reduceMul, Nat.reduceSub, Nat.reduceLeDiff, Nat.reduceLT, Nat.reduceEqDiff, Nat.reduceBEq, Nat.reduceBNe, Nat.reduceMod, Nat.reduceDiv, Int.reduceLE, Int.reduceLT, Int.reduceToNat, Int.reduceAdd, Int.reduceSub, Int.reduceMul, Int.reduceNeg, Int.reduceEq, Int.reduceBEq, Int.reduceBNe, ↓reduceIte, reduceCtorEq, String.reduceBNe, String.reduceEq, reduceDIte, Nat.reducePow, hpr, u64l_len, ul_len, ul_set, c1, c2, c4, c5, c6, g, hr, hsf, hwi, hsf]
      exact Weak.same (by simp only [Keeps, Tm.get_cons, Nat.reduceEqDiff, ↓reduceIte, if_true, if_false, ite_true, ite_false, true_and, and_true, and_self, reduceCtorEq, hwi, hsf]) (by first | rfl | simp only [Keeps, Tm.get_cons, Nat.reduceEqDiff, ↓reduceIte, if_true, if_false, ite_true, ite_false, true_and, and_true, and_self, reduceCtorEq, hwi, hsf])
    · have hie : i = 64 := by have := of_decide_eq_false h19; omega
      subst hie
      have hfin : ul (tbA HLL KW 64 64) = [.int .u32 1779033703, .int .u32 3144134277, .int .u32 1013904242, .int .u32 2773480762, .int .u32 1359893119, .int .u32 2600822924, .int .u32 528734635, .int .u32 1541459225, .int .u32 1116352408, .int .u32 1899447441, .int .u32 3049323471, .int .u32 3921009573, .int .u32 961987163, .int .u32 1508970993, .int .u32 2453635748, .int .u32 2870763221, .int .u32 3624381080, .int .u32 310598401, .int .u32 607225278, .int .u32 1426881987, .int .u32 1925078388, .int .u32 2162078206, .int .u32 2614888103, .int .u32 3248222580, .int .u32 3835390401, .int .u32 4022224774, .int .u32 264347078, .int .u32 604807628, .int .u32 770255983, .int .u32 1249150122, .int .u32 1555081692, .int .u32 1996064986, .int .u32 2554220882, .int .u32 2821834349, .int .u32 2952996808, .int .u32 3210313671, .int .u32 3336571891, .int .u32 3584528711, .int .u32 113926993, .int .u32 338241895, .int .u32 666307205, .int .u32 773529912, .int .u32 1294757372, .int .u32 1396182291, .int .u32 1695183700, .int .u32 1986661051, .int .u32 2177026350, .int .u32 2456956037, .int .u32 2730485921, .int .u32 2820302411, .int .u32 3259730800, .int .u32 3345764771, .int .u32 3516065817, .int .u32 3600352804, .int .u32 4094571909, .int .u32 275423344, .int .u32 430227734, .int .u32 506948616, .int .u32 659060556, .int .u32 883997877, .int .u32 958139571, .int .u32 1322822218, .int .u32 1537002063, .int .u32 1747873779, .int .u32 1955562222, .int .u32 2024104815, .int .u32 2227730452, .int .u32 2361852424, .int .u32 2428436474, .int .u32 2756734187, .int .u32 3204031479, .int .u32 3329325298] := rfl
      refine AW.exit ?_
      refine Thn_e ?_
      clear hK K
      refine Thn_e ?_
      refine InB_here ?_
      refine Thn_n ?_
      refine hK _ _ ?_
      clear hK K
      refine AW.seq_k fun K hK => ?_
      refine AW.region (by decide) ?_
      simp only [push_cast, Nat.reduceAdd, Nat.reduceMul, Nat.reduceSub, Nat.reduceLeDiff, Nat.reduceLT, Nat.reduceEqDiff, Nat.reduceBEq, Nat.reduceBNe, Nat.reduceMod, Nat.reduceDiv, Int.reduceLE, Int.reduceLT, Int.reduceToNat, Int.reduceAdd, Int.reduceSub, Int.reduceMul, Int.reduceNeg, Int.reduceEq, Int.reduceBEq, Int.reduceBNe, ↓reduceIte, reduceCtorEq, String.reduceBNe, String.reduceEq, reduceDIte, Nat.reducePow, hpr, u64l_len, ul_len, ul_set, hfin]
      refine Thn_n ?_
      refine hK _ _ ?_
      clear hK K
      refine AW.ret ?_
      refine hQ _ _ _ ?_
      refine RetP.drop (Or.inr rfl) ?_ ?_ hwf
      · simp only [resA, resOne, resTv, AV.tv, push_cast, Nat.reduceAdd, Nat.reduceMul, Nat.reduceSub, Nat.reduceLeDiff, Nat.reduceLT, Nat.reduceEqDiff, Nat.reduceBEq, Nat.reduceBNe, Nat.reduceMod, Nat.reduceDiv, Int.reduceLE, Int.reduceLT, Int.reduceToNat, Int.reduceAdd, Int.reduceSub, Int.reduceMul, Int.reduceNeg, Int.reduceEq, Int.reduceBEq, Int.reduceBNe, ↓reduceIte, reduceCtorEq, String.reduceBNe, String.reduceEq, reduceDIte, Nat.reducePow]
        rfl
      · rfl
      
end Go.Proofs.YtmjbbnfmhgcfaaaDoor

set_option linter.unusedSimpArgs false
set_option linter.unusedVariables false
set_option maxRecDepth 100000
set_option maxHeartbeats 4000000
namespace Go.Proofs.YtmjbbnfmhgcfaaaDoor
open Go Go.Eng

def R8 (S : S8) : Prop := R32 S.a ∧ R32 S.b ∧ R32 S.c ∧ R32 S.d ∧ R32 S.e ∧ R32 S.f ∧ R32 S.g ∧ R32 S.h
theorem a32r (x y : Int) : R32 (a32 x y) := r32w _
theorem rdF_r {K W : List Int} {i : Nat} {s : S8} (h : R8 s) : R8 (rdF K W i s) := ⟨a32r _ _, h.1, h.2.1, h.2.2.1, a32r _ _, h.2.2.2.2.1, h.2.2.2.2.2.1, h.2.2.2.2.2.2.1⟩
theorem rd_r {K W : List Int} {s : S8} (h : R8 s) : ∀ i, R8 (rd K W s i)
  | 0 => h
  | i + 1 => rdF_r (rd_r h i)
theorem add8_r (s t : S8) : R8 (add8 s t) := ⟨a32r _ _, a32r _ _, a32r _ _, a32r _ _, a32r _ _, a32r _ _, a32r _ _, a32r _ _⟩
theorem compN_r {S : S8} (h : R8 S) (bs : List Int) : ∀ k, R8 (compN S bs k)
  | 0 => h
  | k + 1 => add8_r _ _
theorem iv_r : R8 IV := by
  refine ⟨?_, ?_, ?_, ?_, ?_, ?_, ?_, ?_⟩ <;> (constructor <;> decide)
theorem a32_assoc (x y z : Int) : IntKind.u32.wrap (IntKind.u32.wrap (x + y) + z) = IntKind.u32.wrap (x + IntKind.u32.wrap (y + z)) := by
  simp only [w32]; omega
def byK (x : Int) (k : Nat) : Int := IntKind.u8.wrap (x.fdiv (2 ^ (8 * (7 - k))))
def beL (x : Int) : Nat → List Int
  | 0 => []
  | k + 1 => beL x k ++ [byK x k]
theorem beL_8 {x : Int} (h : 0 ≤ x ∧ x < 18446744073709551616) : beL x 8 = fourL (IntKind.u32.wrap (x.fdiv 4294967296)) ++ fourL (IntKind.u32.wrap x) := by
  have f : ∀ (y : Int) (k : Nat), y.fdiv ((2 : Int) ^ k) = y / (2 : Int) ^ k := fun y k => Int.fdiv_eq_ediv_of_nonneg _ (by have : (0:Int) ≤ 2 ^ k := Int.pow_nonneg (by omega); exact this)
  simp only [beL, byK, fourL, List.nil_append, List.append_assoc, List.cons_append, f]
  have g : ∀ (y c : Int), 0 ≤ c → y.fdiv c = y / c := fun y c h => Int.fdiv_eq_ediv_of_nonneg _ h
  simp only [g _ 4294967296 (by omega), g _ 16777216 (by omega), g _ 65536 (by omega), g _ 256 (by omega), w8, w32, List.cons.injEq, and_true]
  have p7 : (2 : Int) ^ (8 * (7 - 0)) = 72057594037927936 := by decide
  have p6 : (2 : Int) ^ (8 * (7 - 1)) = 281474976710656 := by decide
  have p5 : (2 : Int) ^ (8 * (7 - 2)) = 1099511627776 := by decide
  have p4 : (2 : Int) ^ (8 * (7 - 3)) = 4294967296 := by decide
  have p3 : (2 : Int) ^ (8 * (7 - 4)) = 16777216 := by decide
  have p2 : (2 : Int) ^ (8 * (7 - 5)) = 65536 := by decide
  have p1 : (2 : Int) ^ (8 * (7 - 6)) = 256 := by decide
  have p0 : (2 : Int) ^ (8 * (7 - 7)) = 1 := by decide
  rw [p7, p6, p5, p4, p3, p2, p1, p0]
  refine ⟨?_, ?_, ?_, ?_, ?_, ?_, ?_, ?_⟩ <;> omega
/-- The text with its end, and how long it is. -/
def refL (bs : List Int) (k : Nat) : List Int := padL bs (padz bs.length) ++ beL (IntKind.u64.wrap ((bs.length : Int) * 8)) k
theorem beL_len (x : Int) : ∀ k, (beL x k).length = k
  | 0 => rfl
  | k + 1 => by simp [beL, beL_len x k]
theorem refL_len (bs : List Int) (k : Nat) : (refL bs k).length = bs.length + 1 + padz bs.length + k := by simp only [refL, List.length_append, padL_len, beL_len]
theorem refL_succ (bs : List Int) (k : Nat) : u8l (refL bs k) ++ [.int .u8 (byK (IntKind.u64.wrap ((bs.length : Int) * 8)) k)] = u8l (refL bs (k + 1)) := by
  simp only [refL, beL, u8l, List.map_append, List.append_assoc, List.map_cons, List.map_nil]
theorem byK_ok (x : Int) (k : Nat) : 0 ≤ byK x k ∧ byK x k ≤ 255 := by unfold byK; rw [w8]; omega
theorem beL_ok (x : Int) : ∀ k, U8ok (beL x k)
  | 0 => U8ok.nil
  | k + 1 => (beL_ok x k).app fun y hy => by simp only [List.mem_cons, List.not_mem_nil, or_false] at hy; subst hy; exact byK_ok x k
theorem refL_ok {bs : List Int} (h : U8ok bs) (k : Nat) : U8ok (refL bs k) := (padL_ok h _).app (beL_ok _ _)
/-- The document's bytes are the press's. -/
theorem ref_sha (bs : List Int) (hl : bs.length ≤ 1000000) : digL (compN IV (refL bs 8) ((refL bs 8).length / 64)) = shaL bs := by
  have hk : bs.length / 64 * 64 ≤ bs.length := by omega
  have e1 : lastL (absS P0 bs) = (refL bs 8).drop (64 * (bs.length / 64)) := by
    have hp : padz (bs.drop (64 * (bs.length / 64))).length = padz bs.length := by unfold padz; rw [List.length_drop]; omega
    have hb := beL_8 (x := IntKind.u64.wrap ((bs.length : Int) * 8)) (by rw [IntKind.wrap_u64]; omega)
    have hn : (absS P0 bs).n = (bs.length : Int) := by
      show IntKind.u64.wrap (0 + (bs.length : Int)) = _
      rw [IntKind.wrap_u64]; omega
    have hr : (absS P0 bs).r = bs.drop (64 * (bs.length / 64)) := rfl
    have hm : 8 * (bs.length : Int) = (bs.length : Int) * 8 := by omega
    simp only [lastL, hr, hp, hn, refL, hb, hiW, loW, hm, padL, List.append_assoc]
    rw [List.drop_append_of_le_length (by omega)]
  have e2 : (absS P0 bs).S = compN IV (refL bs 8) (bs.length / 64) := by
    show compN IV bs (bs.length / 64) = _
    have : refL bs 8 = bs ++ (128 :: List.replicate (padz bs.length) 0 ++ beL (IntKind.u64.wrap ((bs.length : Int) * 8)) 8) := by simp only [refL, padL, List.append_assoc, List.cons_append]
    rw [this, compN_app IV bs _ _ (by omega)]
  unfold shaL finS
  rw [e1, e2, compN_drop]
  congr 2
  rw [List.length_drop]
  have := refL_len bs 8
  have := padz_ok bs.length
  omega
theorem u8lset (xs : List Int) (i : Nat) (x : Int) : (u8l xs).set i (.int .u8 x) = u8l (xs.set i x) := by simp [u8l, List.map_set]
def dQ (S : S8) (i : Nat) : List Int := (digL S).take i ++ List.replicate (32 - i) 0
theorem dQ_set (S : S8) : ∀ {i : Nat}, i < 32 → (dQ S i).set i (IntKind.u8.wrap ((hF S (i / 4)).fdiv (2 ^ (8 * (3 - i % 4))))) = dQ S (i + 1) := by
  intro i hi
  have h := tbA_set (A := []) (f := digL S) (n := 32) (i := i) hi hi
  simp only [List.length_nil, Nat.zero_add, tbA, List.nil_append] at h
  have hv : ∀ i : Nat, i < 32 → (digL S).getD i 0 = IntKind.u8.wrap ((hF S (i / 4)).fdiv (2 ^ (8 * (3 - i % 4)))) := by
    have f1 : ∀ y : Int, y.fdiv 1 = y := fun y => by rw [Int.fdiv_eq_ediv_of_nonneg _ (by omega)]; omega
    intro i hi
    match i, hi with
    | 0, _ => rfl | 1, _ => rfl | 2, _ => rfl | 3, _ => show IntKind.u8.wrap S.a = IntKind.u8.wrap (S.a.fdiv 1); rw [f1]
    | 4, _ => rfl | 5, _ => rfl | 6, _ => rfl | 7, _ => show IntKind.u8.wrap S.b = IntKind.u8.wrap (S.b.fdiv 1); rw [f1]
    | 8, _ => rfl | 9, _ => rfl | 10, _ => rfl | 11, _ => show IntKind.u8.wrap S.c = IntKind.u8.wrap (S.c.fdiv 1); rw [f1]
    | 12, _ => rfl | 13, _ => rfl | 14, _ => rfl | 15, _ => show IntKind.u8.wrap S.d = IntKind.u8.wrap (S.d.fdiv 1); rw [f1]
    | 16, _ => rfl | 17, _ => rfl | 18, _ => rfl | 19, _ => show IntKind.u8.wrap S.e = IntKind.u8.wrap (S.e.fdiv 1); rw [f1]
    | 20, _ => rfl | 21, _ => rfl | 22, _ => rfl | 23, _ => show IntKind.u8.wrap S.f = IntKind.u8.wrap (S.f.fdiv 1); rw [f1]
    | 24, _ => rfl | 25, _ => rfl | 26, _ => rfl | 27, _ => show IntKind.u8.wrap S.g = IntKind.u8.wrap (S.g.fdiv 1); rw [f1]
    | 28, _ => rfl | 29, _ => rfl | 30, _ => rfl | 31, _ => show IntKind.u8.wrap S.h = IntKind.u8.wrap (S.h.fdiv 1); rw [f1]
    | n + 32, h => omega
  rw [← hv i hi]; exact h
theorem dQ_len (S : S8) {i : Nat} (h : i ≤ 32) : (dQ S i).length = 32 := by
  have : (digL S).length = 32 := rfl
  simp only [dQ, List.length_append, List.length_take, List.length_replicate, this]; omega
end Go.Proofs.YtmjbbnfmhgcfaaaDoor
