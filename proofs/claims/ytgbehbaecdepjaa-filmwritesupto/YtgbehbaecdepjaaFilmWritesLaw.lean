/- FilmWrites answers true whatever film it is given, of up to 1048576 values; no other conditions. -/
import Derived.Test.YtgbehbaecdepjaaFilmG
import Derived.Test.YtgbehbaecdepjaaFilmB
import Derived.Test.YtgbehbaecdepjaaAwakeFm
import Derived.Test.YtgbehbaecdepjaaRows
import Derived.WalkKit
import Derived.ProofKit
import Derived.OpenShut
import Derived.JoinedCond
set_option linter.unusedSimpArgs false
set_option linter.unusedVariables false
set_option maxRecDepth 100000
set_option maxHeartbeats 4000000
namespace Go.Proofs.Ytgbehbaecdepjaa
open Go Go.Eng

theorem bulk_one {H : Type} (d : DataW H) : 1 ≤ Rows.uptoBulk d := by
  cases d with
  | lit l => cases l <;> simp [Rows.uptoBulk]
  | nil => simp [Rows.uptoBulk]
  | ptr d => simp [Rows.uptoBulk]
  | slice elems spare => simp [Rows.uptoBulk]
  | agg parts => simp [Rows.uptoBulk]
  | iface t d => simp [Rows.uptoBulk]
  | map entries => simp [Rows.uptoBulk]
  | held h => simp [Rows.uptoBulk]
theorem bulk_mem {H : Type} {d : DataW H} : ∀ {l : List (DataW H)}, d ∈ l → Rows.uptoBulk d ≤ Rows.uptoBulkAll l
  | x :: r, h => by
    simp only [Rows.uptoBulkAll]
    rcases List.mem_cons.1 h with rfl | h
    · omega
    · have := bulk_mem h; omega
theorem bulk_len {H : Type} : ∀ (l : List (DataW H)), l.length ≤ Rows.uptoBulkAll l
  | [] => by simp
  | x :: r => by have := bulk_one x; have := bulk_len r; simp only [Rows.uptoBulkAll, List.length_cons]; omega
theorem isBulk {H : Type} : IsBulk (H := H) Rows.uptoBulk where
  str := fun l => by simp [Rows.uptoBulk]
  agg := fun l d h => by have := bulk_mem h; simp only [Rows.uptoBulk]; omega
  row := fun l s d h => by have := bulk_mem h; simp only [Rows.uptoBulk]; omega
  len := fun l s => by have := bulk_len l; simp only [Rows.uptoBulk]; omega
theorem small {H : Type} {l : List (DataW H)} (hk : Rows.uptoSmall H l = true) : ∀ d, d ∈ l → Rows.uptoBulk d ≤ 1048576 := fun d hd => by
  have h1 : Rows.uptoBulkAll l ≤ 1048576 := by simpa [Rows.uptoSmall] using hk
  have := bulk_mem hd; omega
theorem own : ownKnob Try.prog.godebug = none := by kernel_rfl
theorem laidOut : laidOutB Try.prog = true := by kernel_rfl
theorem laid : laidB Try.prog = true := by kernel_rfl

theorem n2 : Try.prog.cellsOf 2 = 1 := by kernel_rfl
theorem n3 : Try.prog.cellsOf 3 = 1 := by kernel_rfl
theorem n22 : Try.prog.cellsOf 22 = 1 := by kernel_rfl
theorem n24 : Try.prog.cellsOf 24 = 3 := by kernel_rfl
theorem n25 : Try.prog.cellsOf 25 = 1 := by kernel_rfl
theorem n26 : Try.prog.cellsOf 26 = 1 := by kernel_rfl
theorem n27 : Try.prog.cellsOf 27 = 1 := by kernel_rfl
theorem n29 : Try.prog.cellsOf 29 = 8 := by kernel_rfl
theorem n71 : Try.prog.cellsOf 71 = 3 := by kernel_rfl
theorem n75 : Try.prog.cellsOf 75 = 3 := by kernel_rfl
theorem dots_of {cells : List CV} {n : Nat} {xs : List Int} (hl : cells.length = n * 3) (he : cells = xs.map (CV.int .i64)) : cells = dl n (fun i k => xs.getD (i * 3 + k) 0) := by
  refine dl_of hl fun i k hi hk => ?_
  have hlt : i * 3 + k < xs.length := by rw [he, List.length_map] at hl; omega
  rw [he, List.getElem?_map, List.getElem?_eq_getElem hlt]
  simp [List.getD_eq_getElem?_getD, List.getElem?_eq_getElem hlt]
theorem irow64 {B : Nat} {m : AMem} {cs : List CV} (hg : Eng.Good Try.prog B m 25 cs) : ∃ r n f, cs = [.sl r 0 0 n] ∧ IRow m 2 r n f ∧ n ≤ B := by
  obtain ⟨r, n, cells, h2, h3, h4, h5, h6⟩ := hg.row Try.underlying25
  rw [n2] at h3 h4
  obtain ⟨xs, hxs, hx⟩ := ints_of (k := .i64) n cells (by omega) fun j hj => by
    obtain ⟨x, q3, q4⟩ := (h6 j hj).int Try.underlying2
    rw [n2, Nat.mul_one] at q3
    exact ⟨x, q3, q4⟩
  refine ⟨r, n, fun i => xs.getD i 0, h2, ⟨.ro, 1, ?_⟩, h5⟩
  rw [← il_of (cells := cells) (by omega) fun i hi => ?_]; exact h3
  have hlt : i < xs.length := by rw [hxs, List.length_map] at h4; omega
  rw [hxs, List.getElem?_map, List.getElem?_eq_getElem hlt]
  simp [List.getD_eq_getElem?_getD, List.getElem?_eq_getElem hlt]
theorem irowI {B : Nat} {m : AMem} {cs : List CV} (hg : Eng.Good Try.prog B m 27 cs) : ∃ r n f, cs = [.sl r 0 0 n] ∧ IRow m 3 r n f ∧ n ≤ B := by
  obtain ⟨r, n, cells, h2, h3, h4, h5, h6⟩ := hg.row Try.underlying27
  rw [n3] at h3 h4
  obtain ⟨xs, hxs, hx⟩ := ints_of (k := .i64) n cells (by omega) fun j hj => by
    obtain ⟨x, q3, q4⟩ := (h6 j hj).int Try.underlying3
    rw [n3, Nat.mul_one] at q3
    exact ⟨x, q3, q4⟩
  refine ⟨r, n, fun i => xs.getD i 0, h2, ⟨.ro, 1, ?_⟩, h5⟩
  rw [← il_of (cells := cells) (by omega) fun i hi => ?_]; exact h3
  have hlt : i < xs.length := by rw [hxs, List.length_map] at h4; omega
  rw [hxs, List.getElem?_map, List.getElem?_eq_getElem hlt]
  simp [List.getD_eq_getElem?_getD, List.getElem?_eq_getElem hlt]
theorem hrowH {B : Nat} {m : AMem} {cs : List CV} (hg : Eng.Good Try.prog B m 22 cs) : ∃ r n G, cs = [.sl r 0 0 n] ∧ HRow m 75 r n G ∧ n ≤ B := by
  obtain ⟨r, n, cells, h2, h3, h4, h5, h6⟩ := hg.row Try.underlying22
  rw [n75] at h3 h4
  simp only [n75] at h6
  obtain ⟨xs, hxs, hx⟩ := rows_of (k := .i64) (sz := 3) n cells h4 fun i hi => by
    obtain ⟨q1, q2⟩ := (h6 i hi).arr Try.underlying75
    refine ints_of 3 _ (by rw [q1, n75]) fun j hj => ?_
    obtain ⟨x, q3, q4⟩ := (q2 j hj).int Try.underlying2
    rw [n2, Nat.mul_one] at q3
    exact ⟨x, q3, q4⟩
  exact ⟨r, n, _, h2, ⟨.ro, 3, by rw [← dots_of h4 hxs]; exact h3⟩, h5⟩
theorem hrowV {B : Nat} {m : AMem} {cs : List CV} (hg : Eng.Good Try.prog B m 26 cs) : ∃ r n G, cs = [.sl r 0 0 n] ∧ HRow m 71 r n G ∧ n ≤ B := by
  obtain ⟨r, n, cells, h2, h3, h4, h5, h6⟩ := hg.row Try.underlying26
  rw [n71] at h3 h4
  simp only [n71] at h6
  obtain ⟨xs, hxs, hx⟩ := rows_of (k := .i64) (sz := 3) n cells h4 fun i hi => by
    obtain ⟨q1, q2⟩ := (h6 i hi).arr Try.underlying71
    refine ints_of 3 _ (by rw [q1, n71]) fun j hj => ?_
    obtain ⟨x, q3, q4⟩ := (q2 j hj).int Try.underlying2
    rw [n2, Nat.mul_one] at q3
    exact ⟨x, q3, q4⟩
  exact ⟨r, n, _, h2, ⟨.ro, 3, by rw [← dots_of h4 hxs]; exact h3⟩, h5⟩
theorem film_in {B : Nat} {m : AMem} {a : AV} (h : goodA Try.prog B m 29 a) : ∃ W H rL nL rD nD rN nN rB nB rS nS rF nF GL GN GB fD fS fF, a = .agg [.int .i64 W, .int .i64 H, .sl rL 0 0 nL, .sl rD 0 0 nD, .sl rN 0 0 nN, .sl rB 0 0 nB, .sl rS 0 0 nS, .sl rF 0 0 nF] ∧ (HRow m 75 rL nL GL ∧ IRow m 2 rD nD fD ∧ HRow m 71 rN nN GN ∧ HRow m 75 rB nB GB ∧ IRow m 3 rS nS fS ∧ IRow m 3 rF nF fF) ∧ (nL ≤ B ∧ nD ≤ B ∧ nN ≤ B ∧ nB ≤ B ∧ nS ≤ B ∧ nF ≤ B) := by
  obtain ⟨cs, rfl, hg⟩ := h.agg (.inl ⟨_, Try.underlying29⟩)
  obtain ⟨hl, hf⟩ := hg.struct Try.underlying29
  rw [n29] at hl
  match cs, hl with
  | [a, b, c, d, e, f, g, h], _ =>
    obtain ⟨hl2, hf2⟩ := (hf _ (.head _)).struct Try.underlying24
    obtain ⟨W, h0, _⟩ := (hf2 _ (.head _)).int Try.underlying3
    obtain ⟨H, h1, _⟩ := (hf2 _ (.tail _ (.head _))).int Try.underlying3
    obtain ⟨rL, nL, GL, h2, p2, b2⟩ := hrowH (hf2 _ (.tail _ (.tail _ (.head _))))
    obtain ⟨rD, nD, fD, h3, p3, b3⟩ := irow64 (hf _ (.tail _ (.head _)))
    obtain ⟨rN, nN, GN, h4, p4, b4⟩ := hrowV (hf _ (.tail _ (.tail _ (.head _))))
    obtain ⟨rB, nB, GB, h5, p5, b5⟩ := hrowH (hf _ (.tail _ (.tail _ (.tail _ (.head _)))))
    obtain ⟨rS, nS, fS, h6, p6, b6⟩ := irowI (hf _ (.tail _ (.tail _ (.tail _ (.tail _ (.head _))))))
    obtain ⟨rF, nF, fF, h7, p7, b7⟩ := irowI (hf _ (.tail _ (.tail _ (.tail _ (.tail _ (.tail _ (.head _)))))))
    simp only [n2, n3, n22, n24, n25, n26, n27, n29, n71, n75, List.drop_zero, List.drop_succ_cons, List.take_succ_cons, List.take_zero, List.cons.injEq, and_true] at h0 h1 h2 h3 h4 h5 h6 h7
    subst h0; subst h1; subst h2; subst h3; subst h4; subst h5; subst h6; subst h7
    exact ⟨W, H, rL, nL, rD, nD, rN, nN, rB, nB, rS, nS, rF, nF, GL, GN, GB, fD, fS, fF, rfl, ⟨p2, p3, p4, p5, p6, p7⟩, ⟨b2, b3, b4, b5, b6, b7⟩⟩
theorem bytesA_u8l : ∀ bs : List Int, bytesA (u8l bs) = some bs
  | [] => rfl
  | x :: bs => by
    have h := bytesA_u8l bs
    unfold u8l at h ⊢
    simp only [List.map_cons, bytesA, h, Option.map_some]
theorem shR_no {W H : Int} {nL nD nN nB nS nF : Nat} {fS fF : Nat → Int} (h : shR W H nL = false) : filmR W H nL nD nN nB nS nF fS fF = false := by unfold filmR; rw [h]; rfl
theorem writes_big1 (W H : Int) (rL nL rD nD rN nN rB nB rS nS rF nF : Nat) (GL GN GB : Nat → Nat → Int) (fD fS fF : Nat → Int) (m : AMem) (pL : HRow m 75 rL nL GL) (pD : IRow m 2 rD nD fD) (pN : HRow m 71 rN nN GN) (pB : HRow m 75 rB nB GB) (pS : IRow m 3 rS nS fS) (pF : IRow m 3 rF nF fF) (bL : nL ≤ 1048576) (bD : nD ≤ 1048576) (bN : nN ≤ 1048576) (bB : nB ≤ 1048576) (bS : nS ≤ 1048576) (bF : nF ≤ 1048576) (hd : 5000 < (nL : Int)) : Ctr Try.prog 4 [.agg [.int .i64 W, .int .i64 H, .sl rL 0 0 nL, .sl rD 0 0 nD, .sl rN 0 0 nN, .sl rB 0 0 nB, .sl rS 0 0 nS, .sl rF 0 0 nF]] m (.one (.bool true)) m := by
  refine Ctr.enter Try.func4 rfl (by decide) (rs := [.tmp 2]) (nt := 106) rfl rfl fun hwf Q hQ => ?_
  refine AW.seq_k fun K hK => ?_
  refine AW.region (by decide) ?_
  simp only [push_cast, Nat.reduceAdd, Nat.reduceMul, Nat.reduceSub, Nat.reduceLeDiff, Nat.reduceLT, Nat.reduceEqDiff, Nat.reduceBEq, Nat.reduceBNe, Nat.reduceMod, Nat.reduceDiv, Int.reduceLE, Int.reduceLT, Int.reduceToNat, Int.reduceAdd, Int.reduceSub, Int.reduceMul, Int.reduceNeg, Int.reduceEq, Int.reduceBEq, Int.reduceBNe, ↓reduceIte, reduceCtorEq, String.reduceBNe, String.reduceEq, reduceDIte, Nat.reducePow, hd]
  refine Thn_n ?_
  refine hK _ _ ?_
  clear hK K
  refine AW.seq_k fun K hK => ?_
  refine AW.seq_k fun K hK => ?_
  refine AW.region (by decide) ?_
  simp only [push_cast, Nat.reduceAdd, Nat.reduceMul, Nat.reduceSub, Nat.reduceLeDiff, Nat.reduceLT, Nat.reduceEqDiff, Nat.reduceBEq, Nat.reduceBNe, Nat.reduceMod, Nat.reduceDiv, Int.reduceLE, Int.reduceLT, Int.reduceToNat, Int.reduceAdd, Int.reduceSub, Int.reduceMul, Int.reduceNeg, Int.reduceEq, Int.reduceBEq, Int.reduceBNe, ↓reduceIte, reduceCtorEq, String.reduceBNe, String.reduceEq, reduceDIte, Nat.reducePow, hd]
  refine Thn_n ?_
  refine hK _ _ ?_
  clear hK K
  refine AW.cond_t rfl ?_
  refine AW.seq_k fun K hK => ?_
  refine AW.region (by decide) ?_
  simp only [push_cast, Nat.reduceAdd, Nat.reduceMul, Nat.reduceSub, Nat.reduceLeDiff, Nat.reduceLT, Nat.reduceEqDiff, Nat.reduceBEq, Nat.reduceBNe, Nat.reduceMod, Nat.reduceDiv, Int.reduceLE, Int.reduceLT, Int.reduceToNat, Int.reduceAdd, Int.reduceSub, Int.reduceMul, Int.reduceNeg, Int.reduceEq, Int.reduceBEq, Int.reduceBNe, ↓reduceIte, reduceCtorEq, String.reduceBNe, String.reduceEq, reduceDIte, Nat.reducePow, hd]
  refine CThen.by (awake_c _) ?_
  simp only [push_cast, Nat.reduceAdd, Nat.reduceMul, Nat.reduceSub, Nat.reduceLeDiff, Nat.reduceLT, Nat.reduceEqDiff, Nat.reduceBEq, Nat.reduceBNe, Nat.reduceMod, Nat.reduceDiv, Int.reduceLE, Int.reduceLT, Int.reduceToNat, Int.reduceAdd, Int.reduceSub, Int.reduceMul, Int.reduceNeg, Int.reduceEq, Int.reduceBEq, Int.reduceBNe, ↓reduceIte, reduceCtorEq, String.reduceBNe, String.reduceEq, reduceDIte, Nat.reducePow, hd]
  refine Thn_n ?_
  refine hK _ _ ?_
  clear hK K
  refine AW.ret ?_
  refine Thn_r ?_
  refine hQ _ _ _ ?_
  first | refine RetP.drop0 (Or.inr rfl) ?_ ?_ hwf | refine RetP.drop (Or.inr rfl) ?_ ?_ hwf
  · simp only [resA, resOne, resTv, AV.tv, push_cast, Nat.reduceAdd, Nat.reduceMul, Nat.reduceSub, Nat.reduceLeDiff, Nat.reduceLT, Nat.reduceEqDiff, Nat.reduceBEq, Nat.reduceBNe, Nat.reduceMod, Nat.reduceDiv, Int.reduceLE, Int.reduceLT, Int.reduceToNat, Int.reduceAdd, Int.reduceSub, Int.reduceMul, Int.reduceNeg, Int.reduceEq, Int.reduceBEq, Int.reduceBNe, ↓reduceIte, reduceCtorEq, String.reduceBNe, String.reduceEq, reduceDIte, Nat.reducePow, hd]
  · rfl
theorem writes_big2 (W H : Int) (rL nL rD nD rN nN rB nB rS nS rF nF : Nat) (GL GN GB : Nat → Nat → Int) (fD fS fF : Nat → Int) (m : AMem) (pL : HRow m 75 rL nL GL) (pD : IRow m 2 rD nD fD) (pN : HRow m 71 rN nN GN) (pB : HRow m 75 rB nB GB) (pS : IRow m 3 rS nS fS) (pF : IRow m 3 rF nF fF) (bL : nL ≤ 1048576) (bD : nD ≤ 1048576) (bN : nN ≤ 1048576) (bB : nB ≤ 1048576) (bS : nS ≤ 1048576) (bF : nF ≤ 1048576) (hd0 : ¬ 5000 < (nL : Int)) (hd : 5000 < (nS : Int)) : Ctr Try.prog 4 [.agg [.int .i64 W, .int .i64 H, .sl rL 0 0 nL, .sl rD 0 0 nD, .sl rN 0 0 nN, .sl rB 0 0 nB, .sl rS 0 0 nS, .sl rF 0 0 nF]] m (.one (.bool true)) m := by
  refine Ctr.enter Try.func4 rfl (by decide) (rs := [.tmp 2]) (nt := 106) rfl rfl fun hwf Q hQ => ?_
  refine AW.seq_k fun K hK => ?_
  refine AW.region (by decide) ?_
  simp only [push_cast, Nat.reduceAdd, Nat.reduceMul, Nat.reduceSub, Nat.reduceLeDiff, Nat.reduceLT, Nat.reduceEqDiff, Nat.reduceBEq, Nat.reduceBNe, Nat.reduceMod, Nat.reduceDiv, Int.reduceLE, Int.reduceLT, Int.reduceToNat, Int.reduceAdd, Int.reduceSub, Int.reduceMul, Int.reduceNeg, Int.reduceEq, Int.reduceBEq, Int.reduceBNe, ↓reduceIte, reduceCtorEq, String.reduceBNe, String.reduceEq, reduceDIte, Nat.reducePow, hd0, hd]
  refine Thn_n ?_
  refine hK _ _ ?_
  clear hK K
  refine AW.seq_k fun K hK => ?_
  refine AW.seq_k fun K hK => ?_
  refine AW.region (by decide) ?_
  simp only [push_cast, Nat.reduceAdd, Nat.reduceMul, Nat.reduceSub, Nat.reduceLeDiff, Nat.reduceLT, Nat.reduceEqDiff, Nat.reduceBEq, Nat.reduceBNe, Nat.reduceMod, Nat.reduceDiv, Int.reduceLE, Int.reduceLT, Int.reduceToNat, Int.reduceAdd, Int.reduceSub, Int.reduceMul, Int.reduceNeg, Int.reduceEq, Int.reduceBEq, Int.reduceBNe, ↓reduceIte, reduceCtorEq, String.reduceBNe, String.reduceEq, reduceDIte, Nat.reducePow, hd0, hd]
  refine Thn_n ?_
  refine hK _ _ ?_
  clear hK K
  refine AW.cond_t rfl ?_
  refine AW.seq_k fun K hK => ?_
  refine AW.region (by decide) ?_
  simp only [push_cast, Nat.reduceAdd, Nat.reduceMul, Nat.reduceSub, Nat.reduceLeDiff, Nat.reduceLT, Nat.reduceEqDiff, Nat.reduceBEq, Nat.reduceBNe, Nat.reduceMod, Nat.reduceDiv, Int.reduceLE, Int.reduceLT, Int.reduceToNat, Int.reduceAdd, Int.reduceSub, Int.reduceMul, Int.reduceNeg, Int.reduceEq, Int.reduceBEq, Int.reduceBNe, ↓reduceIte, reduceCtorEq, String.reduceBNe, String.reduceEq, reduceDIte, Nat.reducePow, hd0, hd]
  refine CThen.by (awake_c _) ?_
  simp only [push_cast, Nat.reduceAdd, Nat.reduceMul, Nat.reduceSub, Nat.reduceLeDiff, Nat.reduceLT, Nat.reduceEqDiff, Nat.reduceBEq, Nat.reduceBNe, Nat.reduceMod, Nat.reduceDiv, Int.reduceLE, Int.reduceLT, Int.reduceToNat, Int.reduceAdd, Int.reduceSub, Int.reduceMul, Int.reduceNeg, Int.reduceEq, Int.reduceBEq, Int.reduceBNe, ↓reduceIte, reduceCtorEq, String.reduceBNe, String.reduceEq, reduceDIte, Nat.reducePow, hd0, hd]
  refine Thn_n ?_
  refine hK _ _ ?_
  clear hK K
  refine AW.ret ?_
  refine Thn_r ?_
  refine hQ _ _ _ ?_
  first | refine RetP.drop0 (Or.inr rfl) ?_ ?_ hwf | refine RetP.drop (Or.inr rfl) ?_ ?_ hwf
  · simp only [resA, resOne, resTv, AV.tv, push_cast, Nat.reduceAdd, Nat.reduceMul, Nat.reduceSub, Nat.reduceLeDiff, Nat.reduceLT, Nat.reduceEqDiff, Nat.reduceBEq, Nat.reduceBNe, Nat.reduceMod, Nat.reduceDiv, Int.reduceLE, Int.reduceLT, Int.reduceToNat, Int.reduceAdd, Int.reduceSub, Int.reduceMul, Int.reduceNeg, Int.reduceEq, Int.reduceBEq, Int.reduceBNe, ↓reduceIte, reduceCtorEq, String.reduceBNe, String.reduceEq, reduceDIte, Nat.reducePow, hd0, hd]
  · rfl
theorem writes_a (W H : Int) (rL nL rD nD rN nN rB nB rS nS rF nF : Nat) (GL GN GB : Nat → Nat → Int) (fD fS fF : Nat → Int) (m : AMem) (pL : HRow m 75 rL nL GL) (pD : IRow m 2 rD nD fD) (pN : HRow m 71 rN nN GN) (pB : HRow m 75 rB nB GB) (pS : IRow m 3 rS nS fS) (pF : IRow m 3 rF nF fF) (bL : nL ≤ 1048576) (bD : nD ≤ 1048576) (bN : nN ≤ 1048576) (bB : nB ≤ 1048576) (bS : nS ≤ 1048576) (bF : nF ≤ 1048576) (hd0 : ¬ 5000 < (nL : Int)) (hd : ¬ 5000 < (nS : Int)) (hz : shR W H nL = false) (hz2 : filmR W H nL nD nN nB nS nF fS fF = false) : Ctr Try.prog 4 [.agg [.int .i64 W, .int .i64 H, .sl rL 0 0 nL, .sl rD 0 0 nD, .sl rN 0 0 nN, .sl rB 0 0 nB, .sl rS 0 0 nS, .sl rF 0 0 nF]] m (.one (.bool true)) m := by
  refine Ctr.enter Try.func4 rfl (by decide) (rs := [.tmp 2]) (nt := 106) rfl rfl fun hwf Q hQ => ?_
  have xS : (catL 2 (wh W H) 2 ++ catV GL nL).length = 4 + nL * 15 := by (simp only [List.length_append, catL_len, catV_len]) <;> omega
  have tS : List.take (4 + nL * 15) (u8l (catL 2 (wh W H) 2 ++ catV GL nL)) = u8l (catL 2 (wh W H) 2 ++ catV GL nL) := List.take_of_length_le (by rw [u8l_len, xS]; exact Nat.le_refl _)
  have xF : (catL 2 (wh W H) 2 ++ (catV GL nL ++ (catL 5 fD nD ++ (catV GN nN ++ (catV GB nB ++ (catL 2 fS nS ++ catL 2 fF nF)))))).length = 4 + (nL * 15 + (nD * 5 + (nN * 15 + (nB * 15 + (nS * 2 + nF * 2))))) := by (simp only [List.length_append, catL_len, catV_len]) <;> omega
  have tF : List.take (4 + (nL * 15 + (nD * 5 + (nN * 15 + (nB * 15 + (nS * 2 + nF * 2)))))) (u8l (catL 2 (wh W H) 2 ++ (catV GL nL ++ (catL 5 fD nD ++ (catV GN nN ++ (catV GB nB ++ (catL 2 fS nS ++ catL 2 fF nF))))))) = u8l (catL 2 (wh W H) 2 ++ (catV GL nL ++ (catL 5 fD nD ++ (catV GN nN ++ (catV GB nB ++ (catL 2 fS nS ++ catL 2 fF nF)))))) := List.take_of_length_le (by rw [u8l_len, xF]; exact Nat.le_refl _)
  have bz := bytesA_u8l
  refine AW.seq_k fun K hK => ?_
  refine AW.region (by decide) ?_
  simp only [push_cast, Nat.reduceAdd, Nat.reduceMul, Nat.reduceSub, Nat.reduceLeDiff, Nat.reduceLT, Nat.reduceEqDiff, Nat.reduceBEq, Nat.reduceBNe, Nat.reduceMod, Nat.reduceDiv, Int.reduceLE, Int.reduceLT, Int.reduceToNat, Int.reduceAdd, Int.reduceSub, Int.reduceMul, Int.reduceNeg, Int.reduceEq, Int.reduceBEq, Int.reduceBNe, ↓reduceIte, reduceCtorEq, String.reduceBNe, String.reduceEq, reduceDIte, Nat.reducePow, hd0, hd, hz, hz2, u8l_len, catL_len, catV_len, tS, tF, bz, Nat.le_refl]
  refine Thn_n ?_
  refine hK _ _ ?_
  clear hK K
  refine AW.seq_k fun K hK => ?_
  refine AW.seq_k fun K hK => ?_
  refine AW.region (by decide) ?_
  simp only [push_cast, Nat.reduceAdd, Nat.reduceMul, Nat.reduceSub, Nat.reduceLeDiff, Nat.reduceLT, Nat.reduceEqDiff, Nat.reduceBEq, Nat.reduceBNe, Nat.reduceMod, Nat.reduceDiv, Int.reduceLE, Int.reduceLT, Int.reduceToNat, Int.reduceAdd, Int.reduceSub, Int.reduceMul, Int.reduceNeg, Int.reduceEq, Int.reduceBEq, Int.reduceBNe, ↓reduceIte, reduceCtorEq, String.reduceBNe, String.reduceEq, reduceDIte, Nat.reducePow, hd0, hd, hz, hz2, u8l_len, catL_len, catV_len, tS, tF, bz, Nat.le_refl]
  refine Thn_n ?_
  refine hK _ _ ?_
  clear hK K
  refine AW.cond_f rfl ?_
  refine AW.skip ?_
  refine Thn_n ?_
  refine hK _ _ ?_
  clear hK K
  refine AW.seq_k fun K hK => ?_
  refine AW.region (by decide) ?_
  simp only [push_cast, Nat.reduceAdd, Nat.reduceMul, Nat.reduceSub, Nat.reduceLeDiff, Nat.reduceLT, Nat.reduceEqDiff, Nat.reduceBEq, Nat.reduceBNe, Nat.reduceMod, Nat.reduceDiv, Int.reduceLE, Int.reduceLT, Int.reduceToNat, Int.reduceAdd, Int.reduceSub, Int.reduceMul, Int.reduceNeg, Int.reduceEq, Int.reduceBEq, Int.reduceBNe, ↓reduceIte, reduceCtorEq, String.reduceBNe, String.reduceEq, reduceDIte, Nat.reducePow, hd0, hd, hz, hz2, u8l_len, catL_len, catV_len, tS, tF, bz, Nat.le_refl]
  refine CThen.by (to_c W H rL nL rD nD rN nN rB nB rS nS rF nF GL GN GB fD fS fF _ (pL.mono _) (pD.mono _) (pN.mono _) (pB.mono _) (pS.mono _) (pF.mono _) bL bD bN bB bS bF) ?_
  simp only [push_cast, Nat.reduceAdd, Nat.reduceMul, Nat.reduceSub, Nat.reduceLeDiff, Nat.reduceLT, Nat.reduceEqDiff, Nat.reduceBEq, Nat.reduceBNe, Nat.reduceMod, Nat.reduceDiv, Int.reduceLE, Int.reduceLT, Int.reduceToNat, Int.reduceAdd, Int.reduceSub, Int.reduceMul, Int.reduceNeg, Int.reduceEq, Int.reduceBEq, Int.reduceBNe, ↓reduceIte, reduceCtorEq, String.reduceBNe, String.reduceEq, reduceDIte, Nat.reducePow, hd0, hd, hz, hz2, u8l_len, catL_len, catV_len, tS, tF, bz, Nat.le_refl]
  refine Thn_n ?_
  refine hK _ _ ?_
  clear hK K
  refine AW.seq_k fun K hK => ?_
  refine AW.region (by decide) ?_
  simp only [push_cast, Nat.reduceAdd, Nat.reduceMul, Nat.reduceSub, Nat.reduceLeDiff, Nat.reduceLT, Nat.reduceEqDiff, Nat.reduceBEq, Nat.reduceBNe, Nat.reduceMod, Nat.reduceDiv, Int.reduceLE, Int.reduceLT, Int.reduceToNat, Int.reduceAdd, Int.reduceSub, Int.reduceMul, Int.reduceNeg, Int.reduceEq, Int.reduceBEq, Int.reduceBNe, ↓reduceIte, reduceCtorEq, String.reduceBNe, String.reduceEq, reduceDIte, Nat.reducePow, hd0, hd, hz, hz2, u8l_len, catL_len, catV_len, tS, tF, bz, Nat.le_refl]
  refine CThen.by (encS_no W H _ _ nL GL _ hz) ?_
  simp only [push_cast, Nat.reduceAdd, Nat.reduceMul, Nat.reduceSub, Nat.reduceLeDiff, Nat.reduceLT, Nat.reduceEqDiff, Nat.reduceBEq, Nat.reduceBNe, Nat.reduceMod, Nat.reduceDiv, Int.reduceLE, Int.reduceLT, Int.reduceToNat, Int.reduceAdd, Int.reduceSub, Int.reduceMul, Int.reduceNeg, Int.reduceEq, Int.reduceBEq, Int.reduceBNe, ↓reduceIte, reduceCtorEq, String.reduceBNe, String.reduceEq, reduceDIte, Nat.reducePow, hd0, hd, hz, hz2, u8l_len, catL_len, catV_len, tS, tF, bz, Nat.le_refl]
  refine Thn_n ?_
  refine hK _ _ ?_
  clear hK K
  refine AW.seq_k fun K hK => ?_
  refine AW.region (by decide) ?_
  simp only [push_cast, Nat.reduceAdd, Nat.reduceMul, Nat.reduceSub, Nat.reduceLeDiff, Nat.reduceLT, Nat.reduceEqDiff, Nat.reduceBEq, Nat.reduceBNe, Nat.reduceMod, Nat.reduceDiv, Int.reduceLE, Int.reduceLT, Int.reduceToNat, Int.reduceAdd, Int.reduceSub, Int.reduceMul, Int.reduceNeg, Int.reduceEq, Int.reduceBEq, Int.reduceBNe, ↓reduceIte, reduceCtorEq, String.reduceBNe, String.reduceEq, reduceDIte, Nat.reducePow, hd0, hd, hz, hz2, u8l_len, catL_len, catV_len, tS, tF, bz, Nat.le_refl]
  refine CThen.by (encF_no W H (m.length + 1) nL (m.length + 2) nD (m.length + 3) nN (m.length + 4) nB (m.length + 5) nS (m.length + 6) nF GL GN GB fD fS fF _ ⟨.grow, 3, by simp only [push_cast, Nat.reduceAdd, Nat.reduceMul, Nat.reduceSub, Nat.reduceLeDiff, Nat.reduceLT, Nat.reduceEqDiff, Nat.reduceBEq, Nat.reduceBNe, Nat.reduceMod, Nat.reduceDiv, Int.reduceLE, Int.reduceLT, Int.reduceToNat, Int.reduceAdd, Int.reduceSub, Int.reduceMul, Int.reduceNeg, Int.reduceEq, Int.reduceBEq, Int.reduceBNe, ↓reduceIte, reduceCtorEq, String.reduceBNe, String.reduceEq, reduceDIte, Nat.reducePow]⟩ ⟨.grow, 1, by simp only [push_cast, Nat.reduceAdd, Nat.reduceMul, Nat.reduceSub, Nat.reduceLeDiff, Nat.reduceLT, Nat.reduceEqDiff, Nat.reduceBEq, Nat.reduceBNe, Nat.reduceMod, Nat.reduceDiv, Int.reduceLE, Int.reduceLT, Int.reduceToNat, Int.reduceAdd, Int.reduceSub, Int.reduceMul, Int.reduceNeg, Int.reduceEq, Int.reduceBEq, Int.reduceBNe, ↓reduceIte, reduceCtorEq, String.reduceBNe, String.reduceEq, reduceDIte, Nat.reducePow]⟩ ⟨.grow, 3, by simp only [push_cast, Nat.reduceAdd, Nat.reduceMul, Nat.reduceSub, Nat.reduceLeDiff, Nat.reduceLT, Nat.reduceEqDiff, Nat.reduceBEq, Nat.reduceBNe, Nat.reduceMod, Nat.reduceDiv, Int.reduceLE, Int.reduceLT, Int.reduceToNat, Int.reduceAdd, Int.reduceSub, Int.reduceMul, Int.reduceNeg, Int.reduceEq, Int.reduceBEq, Int.reduceBNe, ↓reduceIte, reduceCtorEq, String.reduceBNe, String.reduceEq, reduceDIte, Nat.reducePow]⟩ ⟨.grow, 3, by simp only [push_cast, Nat.reduceAdd, Nat.reduceMul, Nat.reduceSub, Nat.reduceLeDiff, Nat.reduceLT, Nat.reduceEqDiff, Nat.reduceBEq, Nat.reduceBNe, Nat.reduceMod, Nat.reduceDiv, Int.reduceLE, Int.reduceLT, Int.reduceToNat, Int.reduceAdd, Int.reduceSub, Int.reduceMul, Int.reduceNeg, Int.reduceEq, Int.reduceBEq, Int.reduceBNe, ↓reduceIte, reduceCtorEq, String.reduceBNe, String.reduceEq, reduceDIte, Nat.reducePow]⟩ ⟨.grow, 1, by simp only [push_cast, Nat.reduceAdd, Nat.reduceMul, Nat.reduceSub, Nat.reduceLeDiff, Nat.reduceLT, Nat.reduceEqDiff, Nat.reduceBEq, Nat.reduceBNe, Nat.reduceMod, Nat.reduceDiv, Int.reduceLE, Int.reduceLT, Int.reduceToNat, Int.reduceAdd, Int.reduceSub, Int.reduceMul, Int.reduceNeg, Int.reduceEq, Int.reduceBEq, Int.reduceBNe, ↓reduceIte, reduceCtorEq, String.reduceBNe, String.reduceEq, reduceDIte, Nat.reducePow]⟩ ⟨.grow, 1, by simp only [push_cast, Nat.reduceAdd, Nat.reduceMul, Nat.reduceSub, Nat.reduceLeDiff, Nat.reduceLT, Nat.reduceEqDiff, Nat.reduceBEq, Nat.reduceBNe, Nat.reduceMod, Nat.reduceDiv, Int.reduceLE, Int.reduceLT, Int.reduceToNat, Int.reduceAdd, Int.reduceSub, Int.reduceMul, Int.reduceNeg, Int.reduceEq, Int.reduceBEq, Int.reduceBNe, ↓reduceIte, reduceCtorEq, String.reduceBNe, String.reduceEq, reduceDIte, Nat.reducePow]⟩ bL bD bN bB bS bF hz2) ?_
  simp only [push_cast, Nat.reduceAdd, Nat.reduceMul, Nat.reduceSub, Nat.reduceLeDiff, Nat.reduceLT, Nat.reduceEqDiff, Nat.reduceBEq, Nat.reduceBNe, Nat.reduceMod, Nat.reduceDiv, Int.reduceLE, Int.reduceLT, Int.reduceToNat, Int.reduceAdd, Int.reduceSub, Int.reduceMul, Int.reduceNeg, Int.reduceEq, Int.reduceBEq, Int.reduceBNe, ↓reduceIte, reduceCtorEq, String.reduceBNe, String.reduceEq, reduceDIte, Nat.reducePow, hd0, hd, hz, hz2, u8l_len, catL_len, catV_len, tS, tF, bz, Nat.le_refl]
  refine Thn_n ?_
  refine hK _ _ ?_
  clear hK K
  refine AW.seq_k fun K hK => ?_
  refine AW.seq_k fun K hK => ?_
  refine AW.region (by decide) ?_
  simp only [push_cast, Nat.reduceAdd, Nat.reduceMul, Nat.reduceSub, Nat.reduceLeDiff, Nat.reduceLT, Nat.reduceEqDiff, Nat.reduceBEq, Nat.reduceBNe, Nat.reduceMod, Nat.reduceDiv, Int.reduceLE, Int.reduceLT, Int.reduceToNat, Int.reduceAdd, Int.reduceSub, Int.reduceMul, Int.reduceNeg, Int.reduceEq, Int.reduceBEq, Int.reduceBNe, ↓reduceIte, reduceCtorEq, String.reduceBNe, String.reduceEq, reduceDIte, Nat.reducePow, hd0, hd, hz, hz2, u8l_len, catL_len, catV_len, tS, tF, bz, Nat.le_refl]
  refine CThen.by (refSheet_c W H _ _ _ _) ?_
  simp only [push_cast, Nat.reduceAdd, Nat.reduceMul, Nat.reduceSub, Nat.reduceLeDiff, Nat.reduceLT, Nat.reduceEqDiff, Nat.reduceBEq, Nat.reduceBNe, Nat.reduceMod, Nat.reduceDiv, Int.reduceLE, Int.reduceLT, Int.reduceToNat, Int.reduceAdd, Int.reduceSub, Int.reduceMul, Int.reduceNeg, Int.reduceEq, Int.reduceBEq, Int.reduceBNe, ↓reduceIte, reduceCtorEq, String.reduceBNe, String.reduceEq, reduceDIte, Nat.reducePow, hd0, hd, hz, hz2, u8l_len, catL_len, catV_len, tS, tF, bz, Nat.le_refl]
  refine CThen.by (refRight_all W H _ nL _ nD _ nN _ nB _ nS _ nF fS fF _ (pS.mono _) (pF.mono _) bL) ?_
  simp only [push_cast, Nat.reduceAdd, Nat.reduceMul, Nat.reduceSub, Nat.reduceLeDiff, Nat.reduceLT, Nat.reduceEqDiff, Nat.reduceBEq, Nat.reduceBNe, Nat.reduceMod, Nat.reduceDiv, Int.reduceLE, Int.reduceLT, Int.reduceToNat, Int.reduceAdd, Int.reduceSub, Int.reduceMul, Int.reduceNeg, Int.reduceEq, Int.reduceBEq, Int.reduceBNe, ↓reduceIte, reduceCtorEq, String.reduceBNe, String.reduceEq, reduceDIte, Nat.reducePow, hd0, hd, hz, hz2, u8l_len, catL_len, catV_len, tS, tF, bz, Nat.le_refl]
  refine Thn_n ?_
  refine hK _ _ ?_
  clear hK K
  refine AW.cond_f rfl ?_
  refine AW.skip ?_
  refine Thn_n ?_
  refine hK _ _ ?_
  clear hK K
  refine AW.seq_k fun K hK => ?_
  refine AW.drawX fol (by kernel_rfl) ?_
  refine DX.split 6 9 (by decide) ?_ ?_
  · refine DX.split 19 21 (by decide) ?_ ?_
    · refine DX.run [0, 1, 2, 3, 4, 5, 6, 7, 8, 9, 10, 11, 12, 13, 14, 15, 16, 17, 18, 19, 20, 21, 22, 23, 24, 25, 26, 27, 28, 29, 30, 31, 32, 33, 34, 35, 36, 37, 38, 39, 40, 41, 42, 43, 44] [.ext, .val, .val, .val, .val, .val, .ext, .val, .rd 1, .ext, .ext, .val, .val, .val, .val, .val, .val, .val, .val, .ext, .rd 4, .ext, .ext, .val, .val, .val, .val, .val, .val, .val, .val, .val, .val, .val, .val, .val, .val, .val, .val, .val, .val, .val, .val, .val, .val] (by simp only [permL, reOp, List.idxOf_cons, push_cast, Nat.reduceAdd, Nat.reduceMul, Nat.reduceSub, Nat.reduceLeDiff, Nat.reduceLT, Nat.reduceEqDiff, Nat.reduceBEq, Nat.reduceBNe, Nat.reduceMod, Nat.reduceDiv, Int.reduceLE, Int.reduceLT, Int.reduceToNat, Int.reduceAdd, Int.reduceSub, Int.reduceMul, Int.reduceNeg, Int.reduceEq, Int.reduceBEq, Int.reduceBNe, ↓reduceIte, reduceCtorEq, String.reduceBNe, String.reduceEq, reduceDIte, Nat.reducePow, hd0, hd, hz, hz2, u8l_len, catL_len, catV_len, tS, tF, bz, Nat.le_refl]; first | done | rfl) (by kernel_rfl) ?_
      simp only [push_cast, Nat.reduceAdd, Nat.reduceMul, Nat.reduceSub, Nat.reduceLeDiff, Nat.reduceLT, Nat.reduceEqDiff, Nat.reduceBEq, Nat.reduceBNe, Nat.reduceMod, Nat.reduceDiv, Int.reduceLE, Int.reduceLT, Int.reduceToNat, Int.reduceAdd, Int.reduceSub, Int.reduceMul, Int.reduceNeg, Int.reduceEq, Int.reduceBEq, Int.reduceBNe, ↓reduceIte, reduceCtorEq, String.reduceBNe, String.reduceEq, reduceDIte, Nat.reducePow, hd0, hd, hz, hz2, u8l_len, catL_len, catV_len, tS, tF, bz, Nat.le_refl]
      refine DCall.by0 (awake_c _) ?_
      simp only [push_cast, Nat.reduceAdd, Nat.reduceMul, Nat.reduceSub, Nat.reduceLeDiff, Nat.reduceLT, Nat.reduceEqDiff, Nat.reduceBEq, Nat.reduceBNe, Nat.reduceMod, Nat.reduceDiv, Int.reduceLE, Int.reduceLT, Int.reduceToNat, Int.reduceAdd, Int.reduceSub, Int.reduceMul, Int.reduceNeg, Int.reduceEq, Int.reduceBEq, Int.reduceBNe, ↓reduceIte, reduceCtorEq, String.reduceBNe, String.reduceEq, reduceDIte, Nat.reducePow, hd0, hd, hz, hz2, u8l_len, catL_len, catV_len, tS, tF, bz, Nat.le_refl]
      refine Thn_n ?_
      refine hK _ _ ?_
      clear hK K
      refine AW.ret ?_
      refine hQ _ _ _ ?_
      first | refine RetP.drop0 (Or.inr rfl) ?_ ?_ hwf | refine RetP.drop (Or.inr rfl) ?_ ?_ hwf
      · simp only [resA, resOne, resTv, AV.tv, push_cast, Nat.reduceAdd, Nat.reduceMul, Nat.reduceSub, Nat.reduceLeDiff, Nat.reduceLT, Nat.reduceEqDiff, Nat.reduceBEq, Nat.reduceBNe, Nat.reduceMod, Nat.reduceDiv, Int.reduceLE, Int.reduceLT, Int.reduceToNat, Int.reduceAdd, Int.reduceSub, Int.reduceMul, Int.reduceNeg, Int.reduceEq, Int.reduceBEq, Int.reduceBNe, ↓reduceIte, reduceCtorEq, String.reduceBNe, String.reduceEq, reduceDIte, Nat.reducePow, hd0, hd, hz, hz2, u8l_len, catL_len, catV_len, tS, tF, bz, Nat.le_refl]
      · rfl
    · refine DX.split 19 22 (by decide) ?_ ?_
      · refine DX.run [0, 1, 2, 3, 4, 5, 6, 7, 8, 9, 10, 11, 12, 13, 14, 15, 16, 17, 18, 20, 21, 19, 22, 23, 24, 25, 26, 27, 28, 29, 30, 31, 32, 33, 34, 35, 36, 37, 38, 39, 40, 41, 42, 43, 44] [.ext, .val, .val, .val, .val, .val, .ext, .val, .rd 1, .ext, .ext, .val, .val, .val, .val, .val, .val, .val, .val, .rd 4, .ext, .ext, .ext, .val, .val, .val, .val, .val, .val, .val, .val, .val, .val, .val, .val, .val, .val, .val, .val, .val, .val, .val, .val, .val, .val] (by simp only [permL, reOp, List.idxOf_cons, push_cast, Nat.reduceAdd, Nat.reduceMul, Nat.reduceSub, Nat.reduceLeDiff, Nat.reduceLT, Nat.reduceEqDiff, Nat.reduceBEq, Nat.reduceBNe, Nat.reduceMod, Nat.reduceDiv, Int.reduceLE, Int.reduceLT, Int.reduceToNat, Int.reduceAdd, Int.reduceSub, Int.reduceMul, Int.reduceNeg, Int.reduceEq, Int.reduceBEq, Int.reduceBNe, ↓reduceIte, reduceCtorEq, String.reduceBNe, String.reduceEq, reduceDIte, Nat.reducePow, hd0, hd, hz, hz2, u8l_len, catL_len, catV_len, tS, tF, bz, Nat.le_refl]; first | done | rfl) (by kernel_rfl) ?_
        simp only [push_cast, Nat.reduceAdd, Nat.reduceMul, Nat.reduceSub, Nat.reduceLeDiff, Nat.reduceLT, Nat.reduceEqDiff, Nat.reduceBEq, Nat.reduceBNe, Nat.reduceMod, Nat.reduceDiv, Int.reduceLE, Int.reduceLT, Int.reduceToNat, Int.reduceAdd, Int.reduceSub, Int.reduceMul, Int.reduceNeg, Int.reduceEq, Int.reduceBEq, Int.reduceBNe, ↓reduceIte, reduceCtorEq, String.reduceBNe, String.reduceEq, reduceDIte, Nat.reducePow, hd0, hd, hz, hz2, u8l_len, catL_len, catV_len, tS, tF, bz, Nat.le_refl]
        refine DCall.by0 (awake_c _) ?_
        simp only [push_cast, Nat.reduceAdd, Nat.reduceMul, Nat.reduceSub, Nat.reduceLeDiff, Nat.reduceLT, Nat.reduceEqDiff, Nat.reduceBEq, Nat.reduceBNe, Nat.reduceMod, Nat.reduceDiv, Int.reduceLE, Int.reduceLT, Int.reduceToNat, Int.reduceAdd, Int.reduceSub, Int.reduceMul, Int.reduceNeg, Int.reduceEq, Int.reduceBEq, Int.reduceBNe, ↓reduceIte, reduceCtorEq, String.reduceBNe, String.reduceEq, reduceDIte, Nat.reducePow, hd0, hd, hz, hz2, u8l_len, catL_len, catV_len, tS, tF, bz, Nat.le_refl]
        refine Thn_n ?_
        refine hK _ _ ?_
        clear hK K
        refine AW.ret ?_
        refine hQ _ _ _ ?_
        first | refine RetP.drop0 (Or.inr rfl) ?_ ?_ hwf | refine RetP.drop (Or.inr rfl) ?_ ?_ hwf
        · simp only [resA, resOne, resTv, AV.tv, push_cast, Nat.reduceAdd, Nat.reduceMul, Nat.reduceSub, Nat.reduceLeDiff, Nat.reduceLT, Nat.reduceEqDiff, Nat.reduceBEq, Nat.reduceBNe, Nat.reduceMod, Nat.reduceDiv, Int.reduceLE, Int.reduceLT, Int.reduceToNat, Int.reduceAdd, Int.reduceSub, Int.reduceMul, Int.reduceNeg, Int.reduceEq, Int.reduceBEq, Int.reduceBNe, ↓reduceIte, reduceCtorEq, String.reduceBNe, String.reduceEq, reduceDIte, Nat.reducePow, hd0, hd, hz, hz2, u8l_len, catL_len, catV_len, tS, tF, bz, Nat.le_refl]
        · rfl
      · refine DX.run [0, 1, 2, 3, 4, 5, 6, 7, 8, 9, 10, 11, 12, 13, 14, 15, 16, 17, 18, 20, 21, 22, 19, 23, 24, 25, 26, 27, 28, 29, 30, 31, 32, 33, 34, 35, 36, 37, 38, 39, 40, 41, 42, 43, 44] [.ext, .val, .val, .val, .val, .val, .ext, .val, .rd 1, .ext, .ext, .val, .val, .val, .val, .val, .val, .val, .val, .rd 4, .ext, .ext, .ext, .val, .val, .val, .val, .val, .val, .val, .val, .val, .val, .val, .val, .val, .val, .val, .val, .val, .val, .val, .val, .val, .val] (by simp only [permL, reOp, List.idxOf_cons, push_cast, Nat.reduceAdd, Nat.reduceMul, Nat.reduceSub, Nat.reduceLeDiff, Nat.reduceLT, Nat.reduceEqDiff, Nat.reduceBEq, Nat.reduceBNe, Nat.reduceMod, Nat.reduceDiv, Int.reduceLE, Int.reduceLT, Int.reduceToNat, Int.reduceAdd, Int.reduceSub, Int.reduceMul, Int.reduceNeg, Int.reduceEq, Int.reduceBEq, Int.reduceBNe, ↓reduceIte, reduceCtorEq, String.reduceBNe, String.reduceEq, reduceDIte, Nat.reducePow, hd0, hd, hz, hz2, u8l_len, catL_len, catV_len, tS, tF, bz, Nat.le_refl]; first | done | rfl) (by kernel_rfl) ?_
        simp only [push_cast, Nat.reduceAdd, Nat.reduceMul, Nat.reduceSub, Nat.reduceLeDiff, Nat.reduceLT, Nat.reduceEqDiff, Nat.reduceBEq, Nat.reduceBNe, Nat.reduceMod, Nat.reduceDiv, Int.reduceLE, Int.reduceLT, Int.reduceToNat, Int.reduceAdd, Int.reduceSub, Int.reduceMul, Int.reduceNeg, Int.reduceEq, Int.reduceBEq, Int.reduceBNe, ↓reduceIte, reduceCtorEq, String.reduceBNe, String.reduceEq, reduceDIte, Nat.reducePow, hd0, hd, hz, hz2, u8l_len, catL_len, catV_len, tS, tF, bz, Nat.le_refl]
        refine DCall.by0 (awake_c _) ?_
        simp only [push_cast, Nat.reduceAdd, Nat.reduceMul, Nat.reduceSub, Nat.reduceLeDiff, Nat.reduceLT, Nat.reduceEqDiff, Nat.reduceBEq, Nat.reduceBNe, Nat.reduceMod, Nat.reduceDiv, Int.reduceLE, Int.reduceLT, Int.reduceToNat, Int.reduceAdd, Int.reduceSub, Int.reduceMul, Int.reduceNeg, Int.reduceEq, Int.reduceBEq, Int.reduceBNe, ↓reduceIte, reduceCtorEq, String.reduceBNe, String.reduceEq, reduceDIte, Nat.reducePow, hd0, hd, hz, hz2, u8l_len, catL_len, catV_len, tS, tF, bz, Nat.le_refl]
        refine Thn_n ?_
        refine hK _ _ ?_
        clear hK K
        refine AW.ret ?_
        refine hQ _ _ _ ?_
        first | refine RetP.drop0 (Or.inr rfl) ?_ ?_ hwf | refine RetP.drop (Or.inr rfl) ?_ ?_ hwf
        · simp only [resA, resOne, resTv, AV.tv, push_cast, Nat.reduceAdd, Nat.reduceMul, Nat.reduceSub, Nat.reduceLeDiff, Nat.reduceLT, Nat.reduceEqDiff, Nat.reduceBEq, Nat.reduceBNe, Nat.reduceMod, Nat.reduceDiv, Int.reduceLE, Int.reduceLT, Int.reduceToNat, Int.reduceAdd, Int.reduceSub, Int.reduceMul, Int.reduceNeg, Int.reduceEq, Int.reduceBEq, Int.reduceBNe, ↓reduceIte, reduceCtorEq, String.reduceBNe, String.reduceEq, reduceDIte, Nat.reducePow, hd0, hd, hz, hz2, u8l_len, catL_len, catV_len, tS, tF, bz, Nat.le_refl]
        · rfl
  · refine DX.split 6 10 (by decide) ?_ ?_
    · refine DX.split 19 21 (by decide) ?_ ?_
      · refine DX.run [0, 1, 2, 3, 4, 5, 7, 8, 9, 6, 10, 11, 12, 13, 14, 15, 16, 17, 18, 19, 20, 21, 22, 23, 24, 25, 26, 27, 28, 29, 30, 31, 32, 33, 34, 35, 36, 37, 38, 39, 40, 41, 42, 43, 44] [.ext, .val, .val, .val, .val, .val, .val, .rd 1, .ext, .ext, .ext, .val, .val, .val, .val, .val, .val, .val, .val, .ext, .rd 4, .ext, .ext, .val, .val, .val, .val, .val, .val, .val, .val, .val, .val, .val, .val, .val, .val, .val, .val, .val, .val, .val, .val, .val, .val] (by simp only [permL, reOp, List.idxOf_cons, push_cast, Nat.reduceAdd, Nat.reduceMul, Nat.reduceSub, Nat.reduceLeDiff, Nat.reduceLT, Nat.reduceEqDiff, Nat.reduceBEq, Nat.reduceBNe, Nat.reduceMod, Nat.reduceDiv, Int.reduceLE, Int.reduceLT, Int.reduceToNat, Int.reduceAdd, Int.reduceSub, Int.reduceMul, Int.reduceNeg, Int.reduceEq, Int.reduceBEq, Int.reduceBNe, ↓reduceIte, reduceCtorEq, String.reduceBNe, String.reduceEq, reduceDIte, Nat.reducePow, hd0, hd, hz, hz2, u8l_len, catL_len, catV_len, tS, tF, bz, Nat.le_refl]; first | done | rfl) (by kernel_rfl) ?_
        simp only [push_cast, Nat.reduceAdd, Nat.reduceMul, Nat.reduceSub, Nat.reduceLeDiff, Nat.reduceLT, Nat.reduceEqDiff, Nat.reduceBEq, Nat.reduceBNe, Nat.reduceMod, Nat.reduceDiv, Int.reduceLE, Int.reduceLT, Int.reduceToNat, Int.reduceAdd, Int.reduceSub, Int.reduceMul, Int.reduceNeg, Int.reduceEq, Int.reduceBEq, Int.reduceBNe, ↓reduceIte, reduceCtorEq, String.reduceBNe, String.reduceEq, reduceDIte, Nat.reducePow, hd0, hd, hz, hz2, u8l_len, catL_len, catV_len, tS, tF, bz, Nat.le_refl]
        refine DCall.by0 (awake_c _) ?_
        simp only [push_cast, Nat.reduceAdd, Nat.reduceMul, Nat.reduceSub, Nat.reduceLeDiff, Nat.reduceLT, Nat.reduceEqDiff, Nat.reduceBEq, Nat.reduceBNe, Nat.reduceMod, Nat.reduceDiv, Int.reduceLE, Int.reduceLT, Int.reduceToNat, Int.reduceAdd, Int.reduceSub, Int.reduceMul, Int.reduceNeg, Int.reduceEq, Int.reduceBEq, Int.reduceBNe, ↓reduceIte, reduceCtorEq, String.reduceBNe, String.reduceEq, reduceDIte, Nat.reducePow, hd0, hd, hz, hz2, u8l_len, catL_len, catV_len, tS, tF, bz, Nat.le_refl]
        refine Thn_n ?_
        refine hK _ _ ?_
        clear hK K
        refine AW.ret ?_
        refine hQ _ _ _ ?_
        first | refine RetP.drop0 (Or.inr rfl) ?_ ?_ hwf | refine RetP.drop (Or.inr rfl) ?_ ?_ hwf
        · simp only [resA, resOne, resTv, AV.tv, push_cast, Nat.reduceAdd, Nat.reduceMul, Nat.reduceSub, Nat.reduceLeDiff, Nat.reduceLT, Nat.reduceEqDiff, Nat.reduceBEq, Nat.reduceBNe, Nat.reduceMod, Nat.reduceDiv, Int.reduceLE, Int.reduceLT, Int.reduceToNat, Int.reduceAdd, Int.reduceSub, Int.reduceMul, Int.reduceNeg, Int.reduceEq, Int.reduceBEq, Int.reduceBNe, ↓reduceIte, reduceCtorEq, String.reduceBNe, String.reduceEq, reduceDIte, Nat.reducePow, hd0, hd, hz, hz2, u8l_len, catL_len, catV_len, tS, tF, bz, Nat.le_refl]
        · rfl
      · refine DX.split 19 22 (by decide) ?_ ?_
        · refine DX.run [0, 1, 2, 3, 4, 5, 7, 8, 9, 6, 10, 11, 12, 13, 14, 15, 16, 17, 18, 20, 21, 19, 22, 23, 24, 25, 26, 27, 28, 29, 30, 31, 32, 33, 34, 35, 36, 37, 38, 39, 40, 41, 42, 43, 44] [.ext, .val, .val, .val, .val, .val, .val, .rd 1, .ext, .ext, .ext, .val, .val, .val, .val, .val, .val, .val, .val, .rd 4, .ext, .ext, .ext, .val, .val, .val, .val, .val, .val, .val, .val, .val, .val, .val, .val, .val, .val, .val, .val, .val, .val, .val, .val, .val, .val] (by simp only [permL, reOp, List.idxOf_cons, push_cast, Nat.reduceAdd, Nat.reduceMul, Nat.reduceSub, Nat.reduceLeDiff, Nat.reduceLT, Nat.reduceEqDiff, Nat.reduceBEq, Nat.reduceBNe, Nat.reduceMod, Nat.reduceDiv, Int.reduceLE, Int.reduceLT, Int.reduceToNat, Int.reduceAdd, Int.reduceSub, Int.reduceMul, Int.reduceNeg, Int.reduceEq, Int.reduceBEq, Int.reduceBNe, ↓reduceIte, reduceCtorEq, String.reduceBNe, String.reduceEq, reduceDIte, Nat.reducePow, hd0, hd, hz, hz2, u8l_len, catL_len, catV_len, tS, tF, bz, Nat.le_refl]; first | done | rfl) (by kernel_rfl) ?_
          simp only [push_cast, Nat.reduceAdd, Nat.reduceMul, Nat.reduceSub, Nat.reduceLeDiff, Nat.reduceLT, Nat.reduceEqDiff, Nat.reduceBEq, Nat.reduceBNe, Nat.reduceMod, Nat.reduceDiv, Int.reduceLE, Int.reduceLT, Int.reduceToNat, Int.reduceAdd, Int.reduceSub, Int.reduceMul, Int.reduceNeg, Int.reduceEq, Int.reduceBEq, Int.reduceBNe, ↓reduceIte, reduceCtorEq, String.reduceBNe, String.reduceEq, reduceDIte, Nat.reducePow, hd0, hd, hz, hz2, u8l_len, catL_len, catV_len, tS, tF, bz, Nat.le_refl]
          refine DCall.by0 (awake_c _) ?_
          simp only [push_cast, Nat.reduceAdd, Nat.reduceMul, Nat.reduceSub, Nat.reduceLeDiff, Nat.reduceLT, Nat.reduceEqDiff, Nat.reduceBEq, Nat.reduceBNe, Nat.reduceMod, Nat.reduceDiv, Int.reduceLE, Int.reduceLT, Int.reduceToNat, Int.reduceAdd, Int.reduceSub, Int.reduceMul, Int.reduceNeg, Int.reduceEq, Int.reduceBEq, Int.reduceBNe, ↓reduceIte, reduceCtorEq, String.reduceBNe, String.reduceEq, reduceDIte, Nat.reducePow, hd0, hd, hz, hz2, u8l_len, catL_len, catV_len, tS, tF, bz, Nat.le_refl]
          refine Thn_n ?_
          refine hK _ _ ?_
          clear hK K
          refine AW.ret ?_
          refine hQ _ _ _ ?_
          first | refine RetP.drop0 (Or.inr rfl) ?_ ?_ hwf | refine RetP.drop (Or.inr rfl) ?_ ?_ hwf
          · simp only [resA, resOne, resTv, AV.tv, push_cast, Nat.reduceAdd, Nat.reduceMul, Nat.reduceSub, Nat.reduceLeDiff, Nat.reduceLT, Nat.reduceEqDiff, Nat.reduceBEq, Nat.reduceBNe, Nat.reduceMod, Nat.reduceDiv, Int.reduceLE, Int.reduceLT, Int.reduceToNat, Int.reduceAdd, Int.reduceSub, Int.reduceMul, Int.reduceNeg, Int.reduceEq, Int.reduceBEq, Int.reduceBNe, ↓reduceIte, reduceCtorEq, String.reduceBNe, String.reduceEq, reduceDIte, Nat.reducePow, hd0, hd, hz, hz2, u8l_len, catL_len, catV_len, tS, tF, bz, Nat.le_refl]
          · rfl
        · refine DX.run [0, 1, 2, 3, 4, 5, 7, 8, 9, 6, 10, 11, 12, 13, 14, 15, 16, 17, 18, 20, 21, 22, 19, 23, 24, 25, 26, 27, 28, 29, 30, 31, 32, 33, 34, 35, 36, 37, 38, 39, 40, 41, 42, 43, 44] [.ext, .val, .val, .val, .val, .val, .val, .rd 1, .ext, .ext, .ext, .val, .val, .val, .val, .val, .val, .val, .val, .rd 4, .ext, .ext, .ext, .val, .val, .val, .val, .val, .val, .val, .val, .val, .val, .val, .val, .val, .val, .val, .val, .val, .val, .val, .val, .val, .val] (by simp only [permL, reOp, List.idxOf_cons, push_cast, Nat.reduceAdd, Nat.reduceMul, Nat.reduceSub, Nat.reduceLeDiff, Nat.reduceLT, Nat.reduceEqDiff, Nat.reduceBEq, Nat.reduceBNe, Nat.reduceMod, Nat.reduceDiv, Int.reduceLE, Int.reduceLT, Int.reduceToNat, Int.reduceAdd, Int.reduceSub, Int.reduceMul, Int.reduceNeg, Int.reduceEq, Int.reduceBEq, Int.reduceBNe, ↓reduceIte, reduceCtorEq, String.reduceBNe, String.reduceEq, reduceDIte, Nat.reducePow, hd0, hd, hz, hz2, u8l_len, catL_len, catV_len, tS, tF, bz, Nat.le_refl]; first | done | rfl) (by kernel_rfl) ?_
          simp only [push_cast, Nat.reduceAdd, Nat.reduceMul, Nat.reduceSub, Nat.reduceLeDiff, Nat.reduceLT, Nat.reduceEqDiff, Nat.reduceBEq, Nat.reduceBNe, Nat.reduceMod, Nat.reduceDiv, Int.reduceLE, Int.reduceLT, Int.reduceToNat, Int.reduceAdd, Int.reduceSub, Int.reduceMul, Int.reduceNeg, Int.reduceEq, Int.reduceBEq, Int.reduceBNe, ↓reduceIte, reduceCtorEq, String.reduceBNe, String.reduceEq, reduceDIte, Nat.reducePow, hd0, hd, hz, hz2, u8l_len, catL_len, catV_len, tS, tF, bz, Nat.le_refl]
          refine DCall.by0 (awake_c _) ?_
          simp only [push_cast, Nat.reduceAdd, Nat.reduceMul, Nat.reduceSub, Nat.reduceLeDiff, Nat.reduceLT, Nat.reduceEqDiff, Nat.reduceBEq, Nat.reduceBNe, Nat.reduceMod, Nat.reduceDiv, Int.reduceLE, Int.reduceLT, Int.reduceToNat, Int.reduceAdd, Int.reduceSub, Int.reduceMul, Int.reduceNeg, Int.reduceEq, Int.reduceBEq, Int.reduceBNe, ↓reduceIte, reduceCtorEq, String.reduceBNe, String.reduceEq, reduceDIte, Nat.reducePow, hd0, hd, hz, hz2, u8l_len, catL_len, catV_len, tS, tF, bz, Nat.le_refl]
          refine Thn_n ?_
          refine hK _ _ ?_
          clear hK K
          refine AW.ret ?_
          refine hQ _ _ _ ?_
          first | refine RetP.drop0 (Or.inr rfl) ?_ ?_ hwf | refine RetP.drop (Or.inr rfl) ?_ ?_ hwf
          · simp only [resA, resOne, resTv, AV.tv, push_cast, Nat.reduceAdd, Nat.reduceMul, Nat.reduceSub, Nat.reduceLeDiff, Nat.reduceLT, Nat.reduceEqDiff, Nat.reduceBEq, Nat.reduceBNe, Nat.reduceMod, Nat.reduceDiv, Int.reduceLE, Int.reduceLT, Int.reduceToNat, Int.reduceAdd, Int.reduceSub, Int.reduceMul, Int.reduceNeg, Int.reduceEq, Int.reduceBEq, Int.reduceBNe, ↓reduceIte, reduceCtorEq, String.reduceBNe, String.reduceEq, reduceDIte, Nat.reducePow, hd0, hd, hz, hz2, u8l_len, catL_len, catV_len, tS, tF, bz, Nat.le_refl]
          · rfl
    · refine DX.split 19 21 (by decide) ?_ ?_
      · refine DX.run [0, 1, 2, 3, 4, 5, 7, 8, 9, 10, 6, 11, 12, 13, 14, 15, 16, 17, 18, 19, 20, 21, 22, 23, 24, 25, 26, 27, 28, 29, 30, 31, 32, 33, 34, 35, 36, 37, 38, 39, 40, 41, 42, 43, 44] [.ext, .val, .val, .val, .val, .val, .val, .rd 1, .ext, .ext, .ext, .val, .val, .val, .val, .val, .val, .val, .val, .ext, .rd 4, .ext, .ext, .val, .val, .val, .val, .val, .val, .val, .val, .val, .val, .val, .val, .val, .val, .val, .val, .val, .val, .val, .val, .val, .val] (by simp only [permL, reOp, List.idxOf_cons, push_cast, Nat.reduceAdd, Nat.reduceMul, Nat.reduceSub, Nat.reduceLeDiff, Nat.reduceLT, Nat.reduceEqDiff, Nat.reduceBEq, Nat.reduceBNe, Nat.reduceMod, Nat.reduceDiv, Int.reduceLE, Int.reduceLT, Int.reduceToNat, Int.reduceAdd, Int.reduceSub, Int.reduceMul, Int.reduceNeg, Int.reduceEq, Int.reduceBEq, Int.reduceBNe, ↓reduceIte, reduceCtorEq, String.reduceBNe, String.reduceEq, reduceDIte, Nat.reducePow, hd0, hd, hz, hz2, u8l_len, catL_len, catV_len, tS, tF, bz, Nat.le_refl]; first | done | rfl) (by kernel_rfl) ?_
        simp only [push_cast, Nat.reduceAdd, Nat.reduceMul, Nat.reduceSub, Nat.reduceLeDiff, Nat.reduceLT, Nat.reduceEqDiff, Nat.reduceBEq, Nat.reduceBNe, Nat.reduceMod, Nat.reduceDiv, Int.reduceLE, Int.reduceLT, Int.reduceToNat, Int.reduceAdd, Int.reduceSub, Int.reduceMul, Int.reduceNeg, Int.reduceEq, Int.reduceBEq, Int.reduceBNe, ↓reduceIte, reduceCtorEq, String.reduceBNe, String.reduceEq, reduceDIte, Nat.reducePow, hd0, hd, hz, hz2, u8l_len, catL_len, catV_len, tS, tF, bz, Nat.le_refl]
        refine DCall.by0 (awake_c _) ?_
        simp only [push_cast, Nat.reduceAdd, Nat.reduceMul, Nat.reduceSub, Nat.reduceLeDiff, Nat.reduceLT, Nat.reduceEqDiff, Nat.reduceBEq, Nat.reduceBNe, Nat.reduceMod, Nat.reduceDiv, Int.reduceLE, Int.reduceLT, Int.reduceToNat, Int.reduceAdd, Int.reduceSub, Int.reduceMul, Int.reduceNeg, Int.reduceEq, Int.reduceBEq, Int.reduceBNe, ↓reduceIte, reduceCtorEq, String.reduceBNe, String.reduceEq, reduceDIte, Nat.reducePow, hd0, hd, hz, hz2, u8l_len, catL_len, catV_len, tS, tF, bz, Nat.le_refl]
        refine Thn_n ?_
        refine hK _ _ ?_
        clear hK K
        refine AW.ret ?_
        refine hQ _ _ _ ?_
        first | refine RetP.drop0 (Or.inr rfl) ?_ ?_ hwf | refine RetP.drop (Or.inr rfl) ?_ ?_ hwf
        · simp only [resA, resOne, resTv, AV.tv, push_cast, Nat.reduceAdd, Nat.reduceMul, Nat.reduceSub, Nat.reduceLeDiff, Nat.reduceLT, Nat.reduceEqDiff, Nat.reduceBEq, Nat.reduceBNe, Nat.reduceMod, Nat.reduceDiv, Int.reduceLE, Int.reduceLT, Int.reduceToNat, Int.reduceAdd, Int.reduceSub, Int.reduceMul, Int.reduceNeg, Int.reduceEq, Int.reduceBEq, Int.reduceBNe, ↓reduceIte, reduceCtorEq, String.reduceBNe, String.reduceEq, reduceDIte, Nat.reducePow, hd0, hd, hz, hz2, u8l_len, catL_len, catV_len, tS, tF, bz, Nat.le_refl]
        · rfl
      · refine DX.split 19 22 (by decide) ?_ ?_
        · refine DX.run [0, 1, 2, 3, 4, 5, 7, 8, 9, 10, 6, 11, 12, 13, 14, 15, 16, 17, 18, 20, 21, 19, 22, 23, 24, 25, 26, 27, 28, 29, 30, 31, 32, 33, 34, 35, 36, 37, 38, 39, 40, 41, 42, 43, 44] [.ext, .val, .val, .val, .val, .val, .val, .rd 1, .ext, .ext, .ext, .val, .val, .val, .val, .val, .val, .val, .val, .rd 4, .ext, .ext, .ext, .val, .val, .val, .val, .val, .val, .val, .val, .val, .val, .val, .val, .val, .val, .val, .val, .val, .val, .val, .val, .val, .val] (by simp only [permL, reOp, List.idxOf_cons, push_cast, Nat.reduceAdd, Nat.reduceMul, Nat.reduceSub, Nat.reduceLeDiff, Nat.reduceLT, Nat.reduceEqDiff, Nat.reduceBEq, Nat.reduceBNe, Nat.reduceMod, Nat.reduceDiv, Int.reduceLE, Int.reduceLT, Int.reduceToNat, Int.reduceAdd, Int.reduceSub, Int.reduceMul, Int.reduceNeg, Int.reduceEq, Int.reduceBEq, Int.reduceBNe, ↓reduceIte, reduceCtorEq, String.reduceBNe, String.reduceEq, reduceDIte, Nat.reducePow, hd0, hd, hz, hz2, u8l_len, catL_len, catV_len, tS, tF, bz, Nat.le_refl]; first | done | rfl) (by kernel_rfl) ?_
          simp only [push_cast, Nat.reduceAdd, Nat.reduceMul, Nat.reduceSub, Nat.reduceLeDiff, Nat.reduceLT, Nat.reduceEqDiff, Nat.reduceBEq, Nat.reduceBNe, Nat.reduceMod, Nat.reduceDiv, Int.reduceLE, Int.reduceLT, Int.reduceToNat, Int.reduceAdd, Int.reduceSub, Int.reduceMul, Int.reduceNeg, Int.reduceEq, Int.reduceBEq, Int.reduceBNe, ↓reduceIte, reduceCtorEq, String.reduceBNe, String.reduceEq, reduceDIte, Nat.reducePow, hd0, hd, hz, hz2, u8l_len, catL_len, catV_len, tS, tF, bz, Nat.le_refl]
          refine DCall.by0 (awake_c _) ?_
          simp only [push_cast, Nat.reduceAdd, Nat.reduceMul, Nat.reduceSub, Nat.reduceLeDiff, Nat.reduceLT, Nat.reduceEqDiff, Nat.reduceBEq, Nat.reduceBNe, Nat.reduceMod, Nat.reduceDiv, Int.reduceLE, Int.reduceLT, Int.reduceToNat, Int.reduceAdd, Int.reduceSub, Int.reduceMul, Int.reduceNeg, Int.reduceEq, Int.reduceBEq, Int.reduceBNe, ↓reduceIte, reduceCtorEq, String.reduceBNe, String.reduceEq, reduceDIte, Nat.reducePow, hd0, hd, hz, hz2, u8l_len, catL_len, catV_len, tS, tF, bz, Nat.le_refl]
          refine Thn_n ?_
          refine hK _ _ ?_
          clear hK K
          refine AW.ret ?_
          refine hQ _ _ _ ?_
          first | refine RetP.drop0 (Or.inr rfl) ?_ ?_ hwf | refine RetP.drop (Or.inr rfl) ?_ ?_ hwf
          · simp only [resA, resOne, resTv, AV.tv, push_cast, Nat.reduceAdd, Nat.reduceMul, Nat.reduceSub, Nat.reduceLeDiff, Nat.reduceLT, Nat.reduceEqDiff, Nat.reduceBEq, Nat.reduceBNe, Nat.reduceMod, Nat.reduceDiv, Int.reduceLE, Int.reduceLT, Int.reduceToNat, Int.reduceAdd, Int.reduceSub, Int.reduceMul, Int.reduceNeg, Int.reduceEq, Int.reduceBEq, Int.reduceBNe, ↓reduceIte, reduceCtorEq, String.reduceBNe, String.reduceEq, reduceDIte, Nat.reducePow, hd0, hd, hz, hz2, u8l_len, catL_len, catV_len, tS, tF, bz, Nat.le_refl]
          · rfl
        · refine DX.run [0, 1, 2, 3, 4, 5, 7, 8, 9, 10, 6, 11, 12, 13, 14, 15, 16, 17, 18, 20, 21, 22, 19, 23, 24, 25, 26, 27, 28, 29, 30, 31, 32, 33, 34, 35, 36, 37, 38, 39, 40, 41, 42, 43, 44] [.ext, .val, .val, .val, .val, .val, .val, .rd 1, .ext, .ext, .ext, .val, .val, .val, .val, .val, .val, .val, .val, .rd 4, .ext, .ext, .ext, .val, .val, .val, .val, .val, .val, .val, .val, .val, .val, .val, .val, .val, .val, .val, .val, .val, .val, .val, .val, .val, .val] (by simp only [permL, reOp, List.idxOf_cons, push_cast, Nat.reduceAdd, Nat.reduceMul, Nat.reduceSub, Nat.reduceLeDiff, Nat.reduceLT, Nat.reduceEqDiff, Nat.reduceBEq, Nat.reduceBNe, Nat.reduceMod, Nat.reduceDiv, Int.reduceLE, Int.reduceLT, Int.reduceToNat, Int.reduceAdd, Int.reduceSub, Int.reduceMul, Int.reduceNeg, Int.reduceEq, Int.reduceBEq, Int.reduceBNe, ↓reduceIte, reduceCtorEq, String.reduceBNe, String.reduceEq, reduceDIte, Nat.reducePow, hd0, hd, hz, hz2, u8l_len, catL_len, catV_len, tS, tF, bz, Nat.le_refl]; first | done | rfl) (by kernel_rfl) ?_
          simp only [push_cast, Nat.reduceAdd, Nat.reduceMul, Nat.reduceSub, Nat.reduceLeDiff, Nat.reduceLT, Nat.reduceEqDiff, Nat.reduceBEq, Nat.reduceBNe, Nat.reduceMod, Nat.reduceDiv, Int.reduceLE, Int.reduceLT, Int.reduceToNat, Int.reduceAdd, Int.reduceSub, Int.reduceMul, Int.reduceNeg, Int.reduceEq, Int.reduceBEq, Int.reduceBNe, ↓reduceIte, reduceCtorEq, String.reduceBNe, String.reduceEq, reduceDIte, Nat.reducePow, hd0, hd, hz, hz2, u8l_len, catL_len, catV_len, tS, tF, bz, Nat.le_refl]
          refine DCall.by0 (awake_c _) ?_
          simp only [push_cast, Nat.reduceAdd, Nat.reduceMul, Nat.reduceSub, Nat.reduceLeDiff, Nat.reduceLT, Nat.reduceEqDiff, Nat.reduceBEq, Nat.reduceBNe, Nat.reduceMod, Nat.reduceDiv, Int.reduceLE, Int.reduceLT, Int.reduceToNat, Int.reduceAdd, Int.reduceSub, Int.reduceMul, Int.reduceNeg, Int.reduceEq, Int.reduceBEq, Int.reduceBNe, ↓reduceIte, reduceCtorEq, String.reduceBNe, String.reduceEq, reduceDIte, Nat.reducePow, hd0, hd, hz, hz2, u8l_len, catL_len, catV_len, tS, tF, bz, Nat.le_refl]
          refine Thn_n ?_
          refine hK _ _ ?_
          clear hK K
          refine AW.ret ?_
          refine hQ _ _ _ ?_
          first | refine RetP.drop0 (Or.inr rfl) ?_ ?_ hwf | refine RetP.drop (Or.inr rfl) ?_ ?_ hwf
          · simp only [resA, resOne, resTv, AV.tv, push_cast, Nat.reduceAdd, Nat.reduceMul, Nat.reduceSub, Nat.reduceLeDiff, Nat.reduceLT, Nat.reduceEqDiff, Nat.reduceBEq, Nat.reduceBNe, Nat.reduceMod, Nat.reduceDiv, Int.reduceLE, Int.reduceLT, Int.reduceToNat, Int.reduceAdd, Int.reduceSub, Int.reduceMul, Int.reduceNeg, Int.reduceEq, Int.reduceBEq, Int.reduceBNe, ↓reduceIte, reduceCtorEq, String.reduceBNe, String.reduceEq, reduceDIte, Nat.reducePow, hd0, hd, hz, hz2, u8l_len, catL_len, catV_len, tS, tF, bz, Nat.le_refl]
          · rfl
theorem writes_b (W H : Int) (rL nL rD nD rN nN rB nB rS nS rF nF : Nat) (GL GN GB : Nat → Nat → Int) (fD fS fF : Nat → Int) (m : AMem) (pL : HRow m 75 rL nL GL) (pD : IRow m 2 rD nD fD) (pN : HRow m 71 rN nN GN) (pB : HRow m 75 rB nB GB) (pS : IRow m 3 rS nS fS) (pF : IRow m 3 rF nF fF) (bL : nL ≤ 1048576) (bD : nD ≤ 1048576) (bN : nN ≤ 1048576) (bB : nB ≤ 1048576) (bS : nS ≤ 1048576) (bF : nF ≤ 1048576) (hd0 : ¬ 5000 < (nL : Int)) (hd : ¬ 5000 < (nS : Int)) (hz : shR W H nL = true) (hz2 : filmR W H nL nD nN nB nS nF fS fF = false) : Ctr Try.prog 4 [.agg [.int .i64 W, .int .i64 H, .sl rL 0 0 nL, .sl rD 0 0 nD, .sl rN 0 0 nN, .sl rB 0 0 nB, .sl rS 0 0 nS, .sl rF 0 0 nF]] m (.one (.bool true)) m := by
  refine Ctr.enter Try.func4 rfl (by decide) (rs := [.tmp 2]) (nt := 106) rfl rfl fun hwf Q hQ => ?_
  have xS : (catL 2 (wh W H) 2 ++ catV GL nL).length = 4 + nL * 15 := by (simp only [List.length_append, catL_len, catV_len]) <;> omega
  have tS : List.take (4 + nL * 15) (u8l (catL 2 (wh W H) 2 ++ catV GL nL)) = u8l (catL 2 (wh W H) 2 ++ catV GL nL) := List.take_of_length_le (by rw [u8l_len, xS]; exact Nat.le_refl _)
  have xF : (catL 2 (wh W H) 2 ++ (catV GL nL ++ (catL 5 fD nD ++ (catV GN nN ++ (catV GB nB ++ (catL 2 fS nS ++ catL 2 fF nF)))))).length = 4 + (nL * 15 + (nD * 5 + (nN * 15 + (nB * 15 + (nS * 2 + nF * 2))))) := by (simp only [List.length_append, catL_len, catV_len]) <;> omega
  have tF : List.take (4 + (nL * 15 + (nD * 5 + (nN * 15 + (nB * 15 + (nS * 2 + nF * 2)))))) (u8l (catL 2 (wh W H) 2 ++ (catV GL nL ++ (catL 5 fD nD ++ (catV GN nN ++ (catV GB nB ++ (catL 2 fS nS ++ catL 2 fF nF))))))) = u8l (catL 2 (wh W H) 2 ++ (catV GL nL ++ (catL 5 fD nD ++ (catV GN nN ++ (catV GB nB ++ (catL 2 fS nS ++ catL 2 fF nF)))))) := List.take_of_length_le (by rw [u8l_len, xF]; exact Nat.le_refl _)
  have bz := bytesA_u8l
  refine AW.seq_k fun K hK => ?_
  refine AW.region (by decide) ?_
  simp only [push_cast, Nat.reduceAdd, Nat.reduceMul, Nat.reduceSub, Nat.reduceLeDiff, Nat.reduceLT, Nat.reduceEqDiff, Nat.reduceBEq, Nat.reduceBNe, Nat.reduceMod, Nat.reduceDiv, Int.reduceLE, Int.reduceLT, Int.reduceToNat, Int.reduceAdd, Int.reduceSub, Int.reduceMul, Int.reduceNeg, Int.reduceEq, Int.reduceBEq, Int.reduceBNe, ↓reduceIte, reduceCtorEq, String.reduceBNe, String.reduceEq, reduceDIte, Nat.reducePow, hd0, hd, hz, hz2, u8l_len, catL_len, catV_len, tS, tF, bz, Nat.le_refl]
  refine Thn_n ?_
  refine hK _ _ ?_
  clear hK K
  refine AW.seq_k fun K hK => ?_
  refine AW.seq_k fun K hK => ?_
  refine AW.region (by decide) ?_
  simp only [push_cast, Nat.reduceAdd, Nat.reduceMul, Nat.reduceSub, Nat.reduceLeDiff, Nat.reduceLT, Nat.reduceEqDiff, Nat.reduceBEq, Nat.reduceBNe, Nat.reduceMod, Nat.reduceDiv, Int.reduceLE, Int.reduceLT, Int.reduceToNat, Int.reduceAdd, Int.reduceSub, Int.reduceMul, Int.reduceNeg, Int.reduceEq, Int.reduceBEq, Int.reduceBNe, ↓reduceIte, reduceCtorEq, String.reduceBNe, String.reduceEq, reduceDIte, Nat.reducePow, hd0, hd, hz, hz2, u8l_len, catL_len, catV_len, tS, tF, bz, Nat.le_refl]
  refine Thn_n ?_
  refine hK _ _ ?_
  clear hK K
  refine AW.cond_f rfl ?_
  refine AW.skip ?_
  refine Thn_n ?_
  refine hK _ _ ?_
  clear hK K
  refine AW.seq_k fun K hK => ?_
  refine AW.region (by decide) ?_
  simp only [push_cast, Nat.reduceAdd, Nat.reduceMul, Nat.reduceSub, Nat.reduceLeDiff, Nat.reduceLT, Nat.reduceEqDiff, Nat.reduceBEq, Nat.reduceBNe, Nat.reduceMod, Nat.reduceDiv, Int.reduceLE, Int.reduceLT, Int.reduceToNat, Int.reduceAdd, Int.reduceSub, Int.reduceMul, Int.reduceNeg, Int.reduceEq, Int.reduceBEq, Int.reduceBNe, ↓reduceIte, reduceCtorEq, String.reduceBNe, String.reduceEq, reduceDIte, Nat.reducePow, hd0, hd, hz, hz2, u8l_len, catL_len, catV_len, tS, tF, bz, Nat.le_refl]
  refine CThen.by (to_c W H rL nL rD nD rN nN rB nB rS nS rF nF GL GN GB fD fS fF _ (pL.mono _) (pD.mono _) (pN.mono _) (pB.mono _) (pS.mono _) (pF.mono _) bL bD bN bB bS bF) ?_
  simp only [push_cast, Nat.reduceAdd, Nat.reduceMul, Nat.reduceSub, Nat.reduceLeDiff, Nat.reduceLT, Nat.reduceEqDiff, Nat.reduceBEq, Nat.reduceBNe, Nat.reduceMod, Nat.reduceDiv, Int.reduceLE, Int.reduceLT, Int.reduceToNat, Int.reduceAdd, Int.reduceSub, Int.reduceMul, Int.reduceNeg, Int.reduceEq, Int.reduceBEq, Int.reduceBNe, ↓reduceIte, reduceCtorEq, String.reduceBNe, String.reduceEq, reduceDIte, Nat.reducePow, hd0, hd, hz, hz2, u8l_len, catL_len, catV_len, tS, tF, bz, Nat.le_refl]
  refine Thn_n ?_
  refine hK _ _ ?_
  clear hK K
  refine AW.seq_k fun K hK => ?_
  refine AW.region (by decide) ?_
  simp only [push_cast, Nat.reduceAdd, Nat.reduceMul, Nat.reduceSub, Nat.reduceLeDiff, Nat.reduceLT, Nat.reduceEqDiff, Nat.reduceBEq, Nat.reduceBNe, Nat.reduceMod, Nat.reduceDiv, Int.reduceLE, Int.reduceLT, Int.reduceToNat, Int.reduceAdd, Int.reduceSub, Int.reduceMul, Int.reduceNeg, Int.reduceEq, Int.reduceBEq, Int.reduceBNe, ↓reduceIte, reduceCtorEq, String.reduceBNe, String.reduceEq, reduceDIte, Nat.reducePow, hd0, hd, hz, hz2, u8l_len, catL_len, catV_len, tS, tF, bz, Nat.le_refl]
  refine CThen.by (encS_ok W H (m.length + 1) 0 nL GL _ ⟨.grow, 3, by simp only [push_cast, Nat.reduceAdd, Nat.reduceMul, Nat.reduceSub, Nat.reduceLeDiff, Nat.reduceLT, Nat.reduceEqDiff, Nat.reduceBEq, Nat.reduceBNe, Nat.reduceMod, Nat.reduceDiv, Int.reduceLE, Int.reduceLT, Int.reduceToNat, Int.reduceAdd, Int.reduceSub, Int.reduceMul, Int.reduceNeg, Int.reduceEq, Int.reduceBEq, Int.reduceBNe, ↓reduceIte, reduceCtorEq, String.reduceBNe, String.reduceEq, reduceDIte, Nat.reducePow]⟩ bL hz) ?_
  simp only [push_cast, Nat.reduceAdd, Nat.reduceMul, Nat.reduceSub, Nat.reduceLeDiff, Nat.reduceLT, Nat.reduceEqDiff, Nat.reduceBEq, Nat.reduceBNe, Nat.reduceMod, Nat.reduceDiv, Int.reduceLE, Int.reduceLT, Int.reduceToNat, Int.reduceAdd, Int.reduceSub, Int.reduceMul, Int.reduceNeg, Int.reduceEq, Int.reduceBEq, Int.reduceBNe, ↓reduceIte, reduceCtorEq, String.reduceBNe, String.reduceEq, reduceDIte, Nat.reducePow, hd0, hd, hz, hz2, u8l_len, catL_len, catV_len, tS, tF, bz, Nat.le_refl]
  refine Thn_n ?_
  refine hK _ _ ?_
  clear hK K
  refine AW.seq_k fun K hK => ?_
  refine AW.region (by decide) ?_
  simp only [push_cast, Nat.reduceAdd, Nat.reduceMul, Nat.reduceSub, Nat.reduceLeDiff, Nat.reduceLT, Nat.reduceEqDiff, Nat.reduceBEq, Nat.reduceBNe, Nat.reduceMod, Nat.reduceDiv, Int.reduceLE, Int.reduceLT, Int.reduceToNat, Int.reduceAdd, Int.reduceSub, Int.reduceMul, Int.reduceNeg, Int.reduceEq, Int.reduceBEq, Int.reduceBNe, ↓reduceIte, reduceCtorEq, String.reduceBNe, String.reduceEq, reduceDIte, Nat.reducePow, hd0, hd, hz, hz2, u8l_len, catL_len, catV_len, tS, tF, bz, Nat.le_refl]
  refine CThen.by (encF_no W H (m.length + 1) nL (m.length + 2) nD (m.length + 3) nN (m.length + 4) nB (m.length + 5) nS (m.length + 6) nF GL GN GB fD fS fF _ ⟨.grow, 3, by simp only [push_cast, Nat.reduceAdd, Nat.reduceMul, Nat.reduceSub, Nat.reduceLeDiff, Nat.reduceLT, Nat.reduceEqDiff, Nat.reduceBEq, Nat.reduceBNe, Nat.reduceMod, Nat.reduceDiv, Int.reduceLE, Int.reduceLT, Int.reduceToNat, Int.reduceAdd, Int.reduceSub, Int.reduceMul, Int.reduceNeg, Int.reduceEq, Int.reduceBEq, Int.reduceBNe, ↓reduceIte, reduceCtorEq, String.reduceBNe, String.reduceEq, reduceDIte, Nat.reducePow]⟩ ⟨.grow, 1, by simp only [push_cast, Nat.reduceAdd, Nat.reduceMul, Nat.reduceSub, Nat.reduceLeDiff, Nat.reduceLT, Nat.reduceEqDiff, Nat.reduceBEq, Nat.reduceBNe, Nat.reduceMod, Nat.reduceDiv, Int.reduceLE, Int.reduceLT, Int.reduceToNat, Int.reduceAdd, Int.reduceSub, Int.reduceMul, Int.reduceNeg, Int.reduceEq, Int.reduceBEq, Int.reduceBNe, ↓reduceIte, reduceCtorEq, String.reduceBNe, String.reduceEq, reduceDIte, Nat.reducePow]⟩ ⟨.grow, 3, by simp only [push_cast, Nat.reduceAdd, Nat.reduceMul, Nat.reduceSub, Nat.reduceLeDiff, Nat.reduceLT, Nat.reduceEqDiff, Nat.reduceBEq, Nat.reduceBNe, Nat.reduceMod, Nat.reduceDiv, Int.reduceLE, Int.reduceLT, Int.reduceToNat, Int.reduceAdd, Int.reduceSub, Int.reduceMul, Int.reduceNeg, Int.reduceEq, Int.reduceBEq, Int.reduceBNe, ↓reduceIte, reduceCtorEq, String.reduceBNe, String.reduceEq, reduceDIte, Nat.reducePow]⟩ ⟨.grow, 3, by simp only [push_cast, Nat.reduceAdd, Nat.reduceMul, Nat.reduceSub, Nat.reduceLeDiff, Nat.reduceLT, Nat.reduceEqDiff, Nat.reduceBEq, Nat.reduceBNe, Nat.reduceMod, Nat.reduceDiv, Int.reduceLE, Int.reduceLT, Int.reduceToNat, Int.reduceAdd, Int.reduceSub, Int.reduceMul, Int.reduceNeg, Int.reduceEq, Int.reduceBEq, Int.reduceBNe, ↓reduceIte, reduceCtorEq, String.reduceBNe, String.reduceEq, reduceDIte, Nat.reducePow]⟩ ⟨.grow, 1, by simp only [push_cast, Nat.reduceAdd, Nat.reduceMul, Nat.reduceSub, Nat.reduceLeDiff, Nat.reduceLT, Nat.reduceEqDiff, Nat.reduceBEq, Nat.reduceBNe, Nat.reduceMod, Nat.reduceDiv, Int.reduceLE, Int.reduceLT, Int.reduceToNat, Int.reduceAdd, Int.reduceSub, Int.reduceMul, Int.reduceNeg, Int.reduceEq, Int.reduceBEq, Int.reduceBNe, ↓reduceIte, reduceCtorEq, String.reduceBNe, String.reduceEq, reduceDIte, Nat.reducePow]⟩ ⟨.grow, 1, by simp only [push_cast, Nat.reduceAdd, Nat.reduceMul, Nat.reduceSub, Nat.reduceLeDiff, Nat.reduceLT, Nat.reduceEqDiff, Nat.reduceBEq, Nat.reduceBNe, Nat.reduceMod, Nat.reduceDiv, Int.reduceLE, Int.reduceLT, Int.reduceToNat, Int.reduceAdd, Int.reduceSub, Int.reduceMul, Int.reduceNeg, Int.reduceEq, Int.reduceBEq, Int.reduceBNe, ↓reduceIte, reduceCtorEq, String.reduceBNe, String.reduceEq, reduceDIte, Nat.reducePow]⟩ bL bD bN bB bS bF hz2) ?_
  simp only [push_cast, Nat.reduceAdd, Nat.reduceMul, Nat.reduceSub, Nat.reduceLeDiff, Nat.reduceLT, Nat.reduceEqDiff, Nat.reduceBEq, Nat.reduceBNe, Nat.reduceMod, Nat.reduceDiv, Int.reduceLE, Int.reduceLT, Int.reduceToNat, Int.reduceAdd, Int.reduceSub, Int.reduceMul, Int.reduceNeg, Int.reduceEq, Int.reduceBEq, Int.reduceBNe, ↓reduceIte, reduceCtorEq, String.reduceBNe, String.reduceEq, reduceDIte, Nat.reducePow, hd0, hd, hz, hz2, u8l_len, catL_len, catV_len, tS, tF, bz, Nat.le_refl]
  refine Thn_n ?_
  refine hK _ _ ?_
  clear hK K
  refine AW.seq_k fun K hK => ?_
  refine AW.seq_k fun K hK => ?_
  refine AW.region (by decide) ?_
  simp only [push_cast, Nat.reduceAdd, Nat.reduceMul, Nat.reduceSub, Nat.reduceLeDiff, Nat.reduceLT, Nat.reduceEqDiff, Nat.reduceBEq, Nat.reduceBNe, Nat.reduceMod, Nat.reduceDiv, Int.reduceLE, Int.reduceLT, Int.reduceToNat, Int.reduceAdd, Int.reduceSub, Int.reduceMul, Int.reduceNeg, Int.reduceEq, Int.reduceBEq, Int.reduceBNe, ↓reduceIte, reduceCtorEq, String.reduceBNe, String.reduceEq, reduceDIte, Nat.reducePow, hd0, hd, hz, hz2, u8l_len, catL_len, catV_len, tS, tF, bz, Nat.le_refl]
  refine CThen.by (refSheet_c W H _ _ _ _) ?_
  simp only [push_cast, Nat.reduceAdd, Nat.reduceMul, Nat.reduceSub, Nat.reduceLeDiff, Nat.reduceLT, Nat.reduceEqDiff, Nat.reduceBEq, Nat.reduceBNe, Nat.reduceMod, Nat.reduceDiv, Int.reduceLE, Int.reduceLT, Int.reduceToNat, Int.reduceAdd, Int.reduceSub, Int.reduceMul, Int.reduceNeg, Int.reduceEq, Int.reduceBEq, Int.reduceBNe, ↓reduceIte, reduceCtorEq, String.reduceBNe, String.reduceEq, reduceDIte, Nat.reducePow, hd0, hd, hz, hz2, u8l_len, catL_len, catV_len, tS, tF, bz, Nat.le_refl]
  refine CThen.by (refRight_all W H _ nL _ nD _ nN _ nB _ nS _ nF fS fF _ (pS.mono _) (pF.mono _) bL) ?_
  simp only [push_cast, Nat.reduceAdd, Nat.reduceMul, Nat.reduceSub, Nat.reduceLeDiff, Nat.reduceLT, Nat.reduceEqDiff, Nat.reduceBEq, Nat.reduceBNe, Nat.reduceMod, Nat.reduceDiv, Int.reduceLE, Int.reduceLT, Int.reduceToNat, Int.reduceAdd, Int.reduceSub, Int.reduceMul, Int.reduceNeg, Int.reduceEq, Int.reduceBEq, Int.reduceBNe, ↓reduceIte, reduceCtorEq, String.reduceBNe, String.reduceEq, reduceDIte, Nat.reducePow, hd0, hd, hz, hz2, u8l_len, catL_len, catV_len, tS, tF, bz, Nat.le_refl]
  refine Thn_n ?_
  refine hK _ _ ?_
  clear hK K
  refine AW.cond_f rfl ?_
  refine AW.skip ?_
  refine Thn_n ?_
  refine hK _ _ ?_
  clear hK K
  refine AW.seq_k fun K hK => ?_
  refine AW.drawX fol (by kernel_rfl) ?_
  refine DX.split 6 9 (by decide) ?_ ?_
  · refine DX.split 19 21 (by decide) ?_ ?_
    · refine DX.run [0, 1, 2, 3, 4, 5, 6, 7, 8, 9, 10, 11, 12, 13, 14, 15, 16, 17, 18, 19, 20, 21, 22, 23, 24, 25, 26, 27, 28, 29, 30, 31, 32, 33, 34, 35, 36, 37, 38, 39, 40, 41, 42, 43, 44] [.ext, .val, .val, .val, .val, .val, .ext, .val, .rd 1, .ext, .ext, .val, .val, .val, .val, .val, .val, .val, .val, .ext, .rd 4, .ext, .ext, .val, .val, .val, .val, .val, .val, .val, .val, .val, .val, .val, .val, .val, .val, .val, .val, .val, .val, .val, .val, .val, .val] (by simp only [permL, reOp, List.idxOf_cons, push_cast, Nat.reduceAdd, Nat.reduceMul, Nat.reduceSub, Nat.reduceLeDiff, Nat.reduceLT, Nat.reduceEqDiff, Nat.reduceBEq, Nat.reduceBNe, Nat.reduceMod, Nat.reduceDiv, Int.reduceLE, Int.reduceLT, Int.reduceToNat, Int.reduceAdd, Int.reduceSub, Int.reduceMul, Int.reduceNeg, Int.reduceEq, Int.reduceBEq, Int.reduceBNe, ↓reduceIte, reduceCtorEq, String.reduceBNe, String.reduceEq, reduceDIte, Nat.reducePow, hd0, hd, hz, hz2, u8l_len, catL_len, catV_len, tS, tF, bz, Nat.le_refl]; first | done | rfl) (by kernel_rfl) ?_
      simp only [push_cast, Nat.reduceAdd, Nat.reduceMul, Nat.reduceSub, Nat.reduceLeDiff, Nat.reduceLT, Nat.reduceEqDiff, Nat.reduceBEq, Nat.reduceBNe, Nat.reduceMod, Nat.reduceDiv, Int.reduceLE, Int.reduceLT, Int.reduceToNat, Int.reduceAdd, Int.reduceSub, Int.reduceMul, Int.reduceNeg, Int.reduceEq, Int.reduceBEq, Int.reduceBNe, ↓reduceIte, reduceCtorEq, String.reduceBNe, String.reduceEq, reduceDIte, Nat.reducePow, hd0, hd, hz, hz2, u8l_len, catL_len, catV_len, tS, tF, bz, Nat.le_refl]
      refine DCall.by0 (awake_c _) ?_
      simp only [push_cast, Nat.reduceAdd, Nat.reduceMul, Nat.reduceSub, Nat.reduceLeDiff, Nat.reduceLT, Nat.reduceEqDiff, Nat.reduceBEq, Nat.reduceBNe, Nat.reduceMod, Nat.reduceDiv, Int.reduceLE, Int.reduceLT, Int.reduceToNat, Int.reduceAdd, Int.reduceSub, Int.reduceMul, Int.reduceNeg, Int.reduceEq, Int.reduceBEq, Int.reduceBNe, ↓reduceIte, reduceCtorEq, String.reduceBNe, String.reduceEq, reduceDIte, Nat.reducePow, hd0, hd, hz, hz2, u8l_len, catL_len, catV_len, tS, tF, bz, Nat.le_refl]
      refine DExt.by (by first | rfl | (simp only [List.append_assoc, List.cons_append, List.nil_append]; rfl)) ?_
      simp only [push_cast, Nat.reduceAdd, Nat.reduceMul, Nat.reduceSub, Nat.reduceLeDiff, Nat.reduceLT, Nat.reduceEqDiff, Nat.reduceBEq, Nat.reduceBNe, Nat.reduceMod, Nat.reduceDiv, Int.reduceLE, Int.reduceLT, Int.reduceToNat, Int.reduceAdd, Int.reduceSub, Int.reduceMul, Int.reduceNeg, Int.reduceEq, Int.reduceBEq, Int.reduceBNe, ↓reduceIte, reduceCtorEq, String.reduceBNe, String.reduceEq, reduceDIte, Nat.reducePow, hd0, hd, hz, hz2, u8l_len, catL_len, catV_len, tS, tF, bz, Nat.le_refl]
      refine DCall.by (sheetB_c W H rL nL GL _ (pL.mono _) bL) ?_
      simp only [push_cast, Nat.reduceAdd, Nat.reduceMul, Nat.reduceSub, Nat.reduceLeDiff, Nat.reduceLT, Nat.reduceEqDiff, Nat.reduceBEq, Nat.reduceBNe, Nat.reduceMod, Nat.reduceDiv, Int.reduceLE, Int.reduceLT, Int.reduceToNat, Int.reduceAdd, Int.reduceSub, Int.reduceMul, Int.reduceNeg, Int.reduceEq, Int.reduceBEq, Int.reduceBNe, ↓reduceIte, reduceCtorEq, String.reduceBNe, String.reduceEq, reduceDIte, Nat.reducePow, hd0, hd, hz, hz2, u8l_len, catL_len, catV_len, tS, tF, bz, Nat.le_refl]
      refine DExt.by (by first | rfl | (simp only [List.append_assoc, List.cons_append, List.nil_append]; rfl)) ?_
      simp only [push_cast, Nat.reduceAdd, Nat.reduceMul, Nat.reduceSub, Nat.reduceLeDiff, Nat.reduceLT, Nat.reduceEqDiff, Nat.reduceBEq, Nat.reduceBNe, Nat.reduceMod, Nat.reduceDiv, Int.reduceLE, Int.reduceLT, Int.reduceToNat, Int.reduceAdd, Int.reduceSub, Int.reduceMul, Int.reduceNeg, Int.reduceEq, Int.reduceBEq, Int.reduceBNe, ↓reduceIte, reduceCtorEq, String.reduceBNe, String.reduceEq, reduceDIte, Nat.reducePow, hd0, hd, hz, hz2, u8l_len, catL_len, catV_len, tS, tF, bz, Nat.le_refl]
      refine Thn_n ?_
      refine hK _ _ ?_
      clear hK K
      refine AW.ret ?_
      refine hQ _ _ _ ?_
      first | refine RetP.drop0 (Or.inr rfl) ?_ ?_ hwf | refine RetP.drop (Or.inr rfl) ?_ ?_ hwf
      · simp only [resA, resOne, resTv, AV.tv, push_cast, Nat.reduceAdd, Nat.reduceMul, Nat.reduceSub, Nat.reduceLeDiff, Nat.reduceLT, Nat.reduceEqDiff, Nat.reduceBEq, Nat.reduceBNe, Nat.reduceMod, Nat.reduceDiv, Int.reduceLE, Int.reduceLT, Int.reduceToNat, Int.reduceAdd, Int.reduceSub, Int.reduceMul, Int.reduceNeg, Int.reduceEq, Int.reduceBEq, Int.reduceBNe, ↓reduceIte, reduceCtorEq, String.reduceBNe, String.reduceEq, reduceDIte, Nat.reducePow, hd0, hd, hz, hz2, u8l_len, catL_len, catV_len, tS, tF, bz, Nat.le_refl]
      · rfl
    · refine DX.split 19 22 (by decide) ?_ ?_
      · refine DX.run [0, 1, 2, 3, 4, 5, 6, 7, 8, 9, 10, 11, 12, 13, 14, 15, 16, 17, 18, 20, 21, 19, 22, 23, 24, 25, 26, 27, 28, 29, 30, 31, 32, 33, 34, 35, 36, 37, 38, 39, 40, 41, 42, 43, 44] [.ext, .val, .val, .val, .val, .val, .ext, .val, .rd 1, .ext, .ext, .val, .val, .val, .val, .val, .val, .val, .val, .rd 4, .ext, .ext, .ext, .val, .val, .val, .val, .val, .val, .val, .val, .val, .val, .val, .val, .val, .val, .val, .val, .val, .val, .val, .val, .val, .val] (by simp only [permL, reOp, List.idxOf_cons, push_cast, Nat.reduceAdd, Nat.reduceMul, Nat.reduceSub, Nat.reduceLeDiff, Nat.reduceLT, Nat.reduceEqDiff, Nat.reduceBEq, Nat.reduceBNe, Nat.reduceMod, Nat.reduceDiv, Int.reduceLE, Int.reduceLT, Int.reduceToNat, Int.reduceAdd, Int.reduceSub, Int.reduceMul, Int.reduceNeg, Int.reduceEq, Int.reduceBEq, Int.reduceBNe, ↓reduceIte, reduceCtorEq, String.reduceBNe, String.reduceEq, reduceDIte, Nat.reducePow, hd0, hd, hz, hz2, u8l_len, catL_len, catV_len, tS, tF, bz, Nat.le_refl]; first | done | rfl) (by kernel_rfl) ?_
        simp only [push_cast, Nat.reduceAdd, Nat.reduceMul, Nat.reduceSub, Nat.reduceLeDiff, Nat.reduceLT, Nat.reduceEqDiff, Nat.reduceBEq, Nat.reduceBNe, Nat.reduceMod, Nat.reduceDiv, Int.reduceLE, Int.reduceLT, Int.reduceToNat, Int.reduceAdd, Int.reduceSub, Int.reduceMul, Int.reduceNeg, Int.reduceEq, Int.reduceBEq, Int.reduceBNe, ↓reduceIte, reduceCtorEq, String.reduceBNe, String.reduceEq, reduceDIte, Nat.reducePow, hd0, hd, hz, hz2, u8l_len, catL_len, catV_len, tS, tF, bz, Nat.le_refl]
        refine DCall.by0 (awake_c _) ?_
        simp only [push_cast, Nat.reduceAdd, Nat.reduceMul, Nat.reduceSub, Nat.reduceLeDiff, Nat.reduceLT, Nat.reduceEqDiff, Nat.reduceBEq, Nat.reduceBNe, Nat.reduceMod, Nat.reduceDiv, Int.reduceLE, Int.reduceLT, Int.reduceToNat, Int.reduceAdd, Int.reduceSub, Int.reduceMul, Int.reduceNeg, Int.reduceEq, Int.reduceBEq, Int.reduceBNe, ↓reduceIte, reduceCtorEq, String.reduceBNe, String.reduceEq, reduceDIte, Nat.reducePow, hd0, hd, hz, hz2, u8l_len, catL_len, catV_len, tS, tF, bz, Nat.le_refl]
        refine DExt.by (by first | rfl | (simp only [List.append_assoc, List.cons_append, List.nil_append]; rfl)) ?_
        simp only [push_cast, Nat.reduceAdd, Nat.reduceMul, Nat.reduceSub, Nat.reduceLeDiff, Nat.reduceLT, Nat.reduceEqDiff, Nat.reduceBEq, Nat.reduceBNe, Nat.reduceMod, Nat.reduceDiv, Int.reduceLE, Int.reduceLT, Int.reduceToNat, Int.reduceAdd, Int.reduceSub, Int.reduceMul, Int.reduceNeg, Int.reduceEq, Int.reduceBEq, Int.reduceBNe, ↓reduceIte, reduceCtorEq, String.reduceBNe, String.reduceEq, reduceDIte, Nat.reducePow, hd0, hd, hz, hz2, u8l_len, catL_len, catV_len, tS, tF, bz, Nat.le_refl]
        refine DCall.by (sheetB_c W H rL nL GL _ (pL.mono _) bL) ?_
        simp only [push_cast, Nat.reduceAdd, Nat.reduceMul, Nat.reduceSub, Nat.reduceLeDiff, Nat.reduceLT, Nat.reduceEqDiff, Nat.reduceBEq, Nat.reduceBNe, Nat.reduceMod, Nat.reduceDiv, Int.reduceLE, Int.reduceLT, Int.reduceToNat, Int.reduceAdd, Int.reduceSub, Int.reduceMul, Int.reduceNeg, Int.reduceEq, Int.reduceBEq, Int.reduceBNe, ↓reduceIte, reduceCtorEq, String.reduceBNe, String.reduceEq, reduceDIte, Nat.reducePow, hd0, hd, hz, hz2, u8l_len, catL_len, catV_len, tS, tF, bz, Nat.le_refl]
        refine DExt.by (by first | rfl | (simp only [List.append_assoc, List.cons_append, List.nil_append]; rfl)) ?_
        simp only [push_cast, Nat.reduceAdd, Nat.reduceMul, Nat.reduceSub, Nat.reduceLeDiff, Nat.reduceLT, Nat.reduceEqDiff, Nat.reduceBEq, Nat.reduceBNe, Nat.reduceMod, Nat.reduceDiv, Int.reduceLE, Int.reduceLT, Int.reduceToNat, Int.reduceAdd, Int.reduceSub, Int.reduceMul, Int.reduceNeg, Int.reduceEq, Int.reduceBEq, Int.reduceBNe, ↓reduceIte, reduceCtorEq, String.reduceBNe, String.reduceEq, reduceDIte, Nat.reducePow, hd0, hd, hz, hz2, u8l_len, catL_len, catV_len, tS, tF, bz, Nat.le_refl]
        refine Thn_n ?_
        refine hK _ _ ?_
        clear hK K
        refine AW.ret ?_
        refine hQ _ _ _ ?_
        first | refine RetP.drop0 (Or.inr rfl) ?_ ?_ hwf | refine RetP.drop (Or.inr rfl) ?_ ?_ hwf
        · simp only [resA, resOne, resTv, AV.tv, push_cast, Nat.reduceAdd, Nat.reduceMul, Nat.reduceSub, Nat.reduceLeDiff, Nat.reduceLT, Nat.reduceEqDiff, Nat.reduceBEq, Nat.reduceBNe, Nat.reduceMod, Nat.reduceDiv, Int.reduceLE, Int.reduceLT, Int.reduceToNat, Int.reduceAdd, Int.reduceSub, Int.reduceMul, Int.reduceNeg, Int.reduceEq, Int.reduceBEq, Int.reduceBNe, ↓reduceIte, reduceCtorEq, String.reduceBNe, String.reduceEq, reduceDIte, Nat.reducePow, hd0, hd, hz, hz2, u8l_len, catL_len, catV_len, tS, tF, bz, Nat.le_refl]
        · rfl
      · refine DX.run [0, 1, 2, 3, 4, 5, 6, 7, 8, 9, 10, 11, 12, 13, 14, 15, 16, 17, 18, 20, 21, 22, 19, 23, 24, 25, 26, 27, 28, 29, 30, 31, 32, 33, 34, 35, 36, 37, 38, 39, 40, 41, 42, 43, 44] [.ext, .val, .val, .val, .val, .val, .ext, .val, .rd 1, .ext, .ext, .val, .val, .val, .val, .val, .val, .val, .val, .rd 4, .ext, .ext, .ext, .val, .val, .val, .val, .val, .val, .val, .val, .val, .val, .val, .val, .val, .val, .val, .val, .val, .val, .val, .val, .val, .val] (by simp only [permL, reOp, List.idxOf_cons, push_cast, Nat.reduceAdd, Nat.reduceMul, Nat.reduceSub, Nat.reduceLeDiff, Nat.reduceLT, Nat.reduceEqDiff, Nat.reduceBEq, Nat.reduceBNe, Nat.reduceMod, Nat.reduceDiv, Int.reduceLE, Int.reduceLT, Int.reduceToNat, Int.reduceAdd, Int.reduceSub, Int.reduceMul, Int.reduceNeg, Int.reduceEq, Int.reduceBEq, Int.reduceBNe, ↓reduceIte, reduceCtorEq, String.reduceBNe, String.reduceEq, reduceDIte, Nat.reducePow, hd0, hd, hz, hz2, u8l_len, catL_len, catV_len, tS, tF, bz, Nat.le_refl]; first | done | rfl) (by kernel_rfl) ?_
        simp only [push_cast, Nat.reduceAdd, Nat.reduceMul, Nat.reduceSub, Nat.reduceLeDiff, Nat.reduceLT, Nat.reduceEqDiff, Nat.reduceBEq, Nat.reduceBNe, Nat.reduceMod, Nat.reduceDiv, Int.reduceLE, Int.reduceLT, Int.reduceToNat, Int.reduceAdd, Int.reduceSub, Int.reduceMul, Int.reduceNeg, Int.reduceEq, Int.reduceBEq, Int.reduceBNe, ↓reduceIte, reduceCtorEq, String.reduceBNe, String.reduceEq, reduceDIte, Nat.reducePow, hd0, hd, hz, hz2, u8l_len, catL_len, catV_len, tS, tF, bz, Nat.le_refl]
        refine DCall.by0 (awake_c _) ?_
        simp only [push_cast, Nat.reduceAdd, Nat.reduceMul, Nat.reduceSub, Nat.reduceLeDiff, Nat.reduceLT, Nat.reduceEqDiff, Nat.reduceBEq, Nat.reduceBNe, Nat.reduceMod, Nat.reduceDiv, Int.reduceLE, Int.reduceLT, Int.reduceToNat, Int.reduceAdd, Int.reduceSub, Int.reduceMul, Int.reduceNeg, Int.reduceEq, Int.reduceBEq, Int.reduceBNe, ↓reduceIte, reduceCtorEq, String.reduceBNe, String.reduceEq, reduceDIte, Nat.reducePow, hd0, hd, hz, hz2, u8l_len, catL_len, catV_len, tS, tF, bz, Nat.le_refl]
        refine DExt.by (by first | rfl | (simp only [List.append_assoc, List.cons_append, List.nil_append]; rfl)) ?_
        simp only [push_cast, Nat.reduceAdd, Nat.reduceMul, Nat.reduceSub, Nat.reduceLeDiff, Nat.reduceLT, Nat.reduceEqDiff, Nat.reduceBEq, Nat.reduceBNe, Nat.reduceMod, Nat.reduceDiv, Int.reduceLE, Int.reduceLT, Int.reduceToNat, Int.reduceAdd, Int.reduceSub, Int.reduceMul, Int.reduceNeg, Int.reduceEq, Int.reduceBEq, Int.reduceBNe, ↓reduceIte, reduceCtorEq, String.reduceBNe, String.reduceEq, reduceDIte, Nat.reducePow, hd0, hd, hz, hz2, u8l_len, catL_len, catV_len, tS, tF, bz, Nat.le_refl]
        refine DCall.by (sheetB_c W H rL nL GL _ (pL.mono _) bL) ?_
        simp only [push_cast, Nat.reduceAdd, Nat.reduceMul, Nat.reduceSub, Nat.reduceLeDiff, Nat.reduceLT, Nat.reduceEqDiff, Nat.reduceBEq, Nat.reduceBNe, Nat.reduceMod, Nat.reduceDiv, Int.reduceLE, Int.reduceLT, Int.reduceToNat, Int.reduceAdd, Int.reduceSub, Int.reduceMul, Int.reduceNeg, Int.reduceEq, Int.reduceBEq, Int.reduceBNe, ↓reduceIte, reduceCtorEq, String.reduceBNe, String.reduceEq, reduceDIte, Nat.reducePow, hd0, hd, hz, hz2, u8l_len, catL_len, catV_len, tS, tF, bz, Nat.le_refl]
        refine DExt.by (by first | rfl | (simp only [List.append_assoc, List.cons_append, List.nil_append]; rfl)) ?_
        simp only [push_cast, Nat.reduceAdd, Nat.reduceMul, Nat.reduceSub, Nat.reduceLeDiff, Nat.reduceLT, Nat.reduceEqDiff, Nat.reduceBEq, Nat.reduceBNe, Nat.reduceMod, Nat.reduceDiv, Int.reduceLE, Int.reduceLT, Int.reduceToNat, Int.reduceAdd, Int.reduceSub, Int.reduceMul, Int.reduceNeg, Int.reduceEq, Int.reduceBEq, Int.reduceBNe, ↓reduceIte, reduceCtorEq, String.reduceBNe, String.reduceEq, reduceDIte, Nat.reducePow, hd0, hd, hz, hz2, u8l_len, catL_len, catV_len, tS, tF, bz, Nat.le_refl]
        refine Thn_n ?_
        refine hK _ _ ?_
        clear hK K
        refine AW.ret ?_
        refine hQ _ _ _ ?_
        first | refine RetP.drop0 (Or.inr rfl) ?_ ?_ hwf | refine RetP.drop (Or.inr rfl) ?_ ?_ hwf
        · simp only [resA, resOne, resTv, AV.tv, push_cast, Nat.reduceAdd, Nat.reduceMul, Nat.reduceSub, Nat.reduceLeDiff, Nat.reduceLT, Nat.reduceEqDiff, Nat.reduceBEq, Nat.reduceBNe, Nat.reduceMod, Nat.reduceDiv, Int.reduceLE, Int.reduceLT, Int.reduceToNat, Int.reduceAdd, Int.reduceSub, Int.reduceMul, Int.reduceNeg, Int.reduceEq, Int.reduceBEq, Int.reduceBNe, ↓reduceIte, reduceCtorEq, String.reduceBNe, String.reduceEq, reduceDIte, Nat.reducePow, hd0, hd, hz, hz2, u8l_len, catL_len, catV_len, tS, tF, bz, Nat.le_refl]
        · rfl
  · refine DX.split 6 10 (by decide) ?_ ?_
    · refine DX.split 19 21 (by decide) ?_ ?_
      · refine DX.run [0, 1, 2, 3, 4, 5, 7, 8, 9, 6, 10, 11, 12, 13, 14, 15, 16, 17, 18, 19, 20, 21, 22, 23, 24, 25, 26, 27, 28, 29, 30, 31, 32, 33, 34, 35, 36, 37, 38, 39, 40, 41, 42, 43, 44] [.ext, .val, .val, .val, .val, .val, .val, .rd 1, .ext, .ext, .ext, .val, .val, .val, .val, .val, .val, .val, .val, .ext, .rd 4, .ext, .ext, .val, .val, .val, .val, .val, .val, .val, .val, .val, .val, .val, .val, .val, .val, .val, .val, .val, .val, .val, .val, .val, .val] (by simp only [permL, reOp, List.idxOf_cons, push_cast, Nat.reduceAdd, Nat.reduceMul, Nat.reduceSub, Nat.reduceLeDiff, Nat.reduceLT, Nat.reduceEqDiff, Nat.reduceBEq, Nat.reduceBNe, Nat.reduceMod, Nat.reduceDiv, Int.reduceLE, Int.reduceLT, Int.reduceToNat, Int.reduceAdd, Int.reduceSub, Int.reduceMul, Int.reduceNeg, Int.reduceEq, Int.reduceBEq, Int.reduceBNe, ↓reduceIte, reduceCtorEq, String.reduceBNe, String.reduceEq, reduceDIte, Nat.reducePow, hd0, hd, hz, hz2, u8l_len, catL_len, catV_len, tS, tF, bz, Nat.le_refl]; first | done | rfl) (by kernel_rfl) ?_
        simp only [push_cast, Nat.reduceAdd, Nat.reduceMul, Nat.reduceSub, Nat.reduceLeDiff, Nat.reduceLT, Nat.reduceEqDiff, Nat.reduceBEq, Nat.reduceBNe, Nat.reduceMod, Nat.reduceDiv, Int.reduceLE, Int.reduceLT, Int.reduceToNat, Int.reduceAdd, Int.reduceSub, Int.reduceMul, Int.reduceNeg, Int.reduceEq, Int.reduceBEq, Int.reduceBNe, ↓reduceIte, reduceCtorEq, String.reduceBNe, String.reduceEq, reduceDIte, Nat.reducePow, hd0, hd, hz, hz2, u8l_len, catL_len, catV_len, tS, tF, bz, Nat.le_refl]
        refine DCall.by0 (awake_c _) ?_
        simp only [push_cast, Nat.reduceAdd, Nat.reduceMul, Nat.reduceSub, Nat.reduceLeDiff, Nat.reduceLT, Nat.reduceEqDiff, Nat.reduceBEq, Nat.reduceBNe, Nat.reduceMod, Nat.reduceDiv, Int.reduceLE, Int.reduceLT, Int.reduceToNat, Int.reduceAdd, Int.reduceSub, Int.reduceMul, Int.reduceNeg, Int.reduceEq, Int.reduceBEq, Int.reduceBNe, ↓reduceIte, reduceCtorEq, String.reduceBNe, String.reduceEq, reduceDIte, Nat.reducePow, hd0, hd, hz, hz2, u8l_len, catL_len, catV_len, tS, tF, bz, Nat.le_refl]
        refine DCall.by (sheetB_c W H rL nL GL _ (pL.mono _) bL) ?_
        iterate 2
          simp only [push_cast, Nat.reduceAdd, Nat.reduceMul, Nat.reduceSub, Nat.reduceLeDiff, Nat.reduceLT, Nat.reduceEqDiff, Nat.reduceBEq, Nat.reduceBNe, Nat.reduceMod, Nat.reduceDiv, Int.reduceLE, Int.reduceLT, Int.reduceToNat, Int.reduceAdd, Int.reduceSub, Int.reduceMul, Int.reduceNeg, Int.reduceEq, Int.reduceBEq, Int.reduceBNe, ↓reduceIte, reduceCtorEq, String.reduceBNe, String.reduceEq, reduceDIte, Nat.reducePow, hd0, hd, hz, hz2, u8l_len, catL_len, catV_len, tS, tF, bz, Nat.le_refl]
          refine DExt.by (by first | rfl | (simp only [List.append_assoc, List.cons_append, List.nil_append]; rfl)) ?_
        simp only [push_cast, Nat.reduceAdd, Nat.reduceMul, Nat.reduceSub, Nat.reduceLeDiff, Nat.reduceLT, Nat.reduceEqDiff, Nat.reduceBEq, Nat.reduceBNe, Nat.reduceMod, Nat.reduceDiv, Int.reduceLE, Int.reduceLT, Int.reduceToNat, Int.reduceAdd, Int.reduceSub, Int.reduceMul, Int.reduceNeg, Int.reduceEq, Int.reduceBEq, Int.reduceBNe, ↓reduceIte, reduceCtorEq, String.reduceBNe, String.reduceEq, reduceDIte, Nat.reducePow, hd0, hd, hz, hz2, u8l_len, catL_len, catV_len, tS, tF, bz, Nat.le_refl]
        refine Thn_n ?_
        refine hK _ _ ?_
        clear hK K
        refine AW.ret ?_
        refine hQ _ _ _ ?_
        first | refine RetP.drop0 (Or.inr rfl) ?_ ?_ hwf | refine RetP.drop (Or.inr rfl) ?_ ?_ hwf
        · simp only [resA, resOne, resTv, AV.tv, push_cast, Nat.reduceAdd, Nat.reduceMul, Nat.reduceSub, Nat.reduceLeDiff, Nat.reduceLT, Nat.reduceEqDiff, Nat.reduceBEq, Nat.reduceBNe, Nat.reduceMod, Nat.reduceDiv, Int.reduceLE, Int.reduceLT, Int.reduceToNat, Int.reduceAdd, Int.reduceSub, Int.reduceMul, Int.reduceNeg, Int.reduceEq, Int.reduceBEq, Int.reduceBNe, ↓reduceIte, reduceCtorEq, String.reduceBNe, String.reduceEq, reduceDIte, Nat.reducePow, hd0, hd, hz, hz2, u8l_len, catL_len, catV_len, tS, tF, bz, Nat.le_refl]
        · rfl
      · refine DX.split 19 22 (by decide) ?_ ?_
        · refine DX.run [0, 1, 2, 3, 4, 5, 7, 8, 9, 6, 10, 11, 12, 13, 14, 15, 16, 17, 18, 20, 21, 19, 22, 23, 24, 25, 26, 27, 28, 29, 30, 31, 32, 33, 34, 35, 36, 37, 38, 39, 40, 41, 42, 43, 44] [.ext, .val, .val, .val, .val, .val, .val, .rd 1, .ext, .ext, .ext, .val, .val, .val, .val, .val, .val, .val, .val, .rd 4, .ext, .ext, .ext, .val, .val, .val, .val, .val, .val, .val, .val, .val, .val, .val, .val, .val, .val, .val, .val, .val, .val, .val, .val, .val, .val] (by simp only [permL, reOp, List.idxOf_cons, push_cast, Nat.reduceAdd, Nat.reduceMul, Nat.reduceSub, Nat.reduceLeDiff, Nat.reduceLT, Nat.reduceEqDiff, Nat.reduceBEq, Nat.reduceBNe, Nat.reduceMod, Nat.reduceDiv, Int.reduceLE, Int.reduceLT, Int.reduceToNat, Int.reduceAdd, Int.reduceSub, Int.reduceMul, Int.reduceNeg, Int.reduceEq, Int.reduceBEq, Int.reduceBNe, ↓reduceIte, reduceCtorEq, String.reduceBNe, String.reduceEq, reduceDIte, Nat.reducePow, hd0, hd, hz, hz2, u8l_len, catL_len, catV_len, tS, tF, bz, Nat.le_refl]; first | done | rfl) (by kernel_rfl) ?_
          simp only [push_cast, Nat.reduceAdd, Nat.reduceMul, Nat.reduceSub, Nat.reduceLeDiff, Nat.reduceLT, Nat.reduceEqDiff, Nat.reduceBEq, Nat.reduceBNe, Nat.reduceMod, Nat.reduceDiv, Int.reduceLE, Int.reduceLT, Int.reduceToNat, Int.reduceAdd, Int.reduceSub, Int.reduceMul, Int.reduceNeg, Int.reduceEq, Int.reduceBEq, Int.reduceBNe, ↓reduceIte, reduceCtorEq, String.reduceBNe, String.reduceEq, reduceDIte, Nat.reducePow, hd0, hd, hz, hz2, u8l_len, catL_len, catV_len, tS, tF, bz, Nat.le_refl]
          refine DCall.by0 (awake_c _) ?_
          simp only [push_cast, Nat.reduceAdd, Nat.reduceMul, Nat.reduceSub, Nat.reduceLeDiff, Nat.reduceLT, Nat.reduceEqDiff, Nat.reduceBEq, Nat.reduceBNe, Nat.reduceMod, Nat.reduceDiv, Int.reduceLE, Int.reduceLT, Int.reduceToNat, Int.reduceAdd, Int.reduceSub, Int.reduceMul, Int.reduceNeg, Int.reduceEq, Int.reduceBEq, Int.reduceBNe, ↓reduceIte, reduceCtorEq, String.reduceBNe, String.reduceEq, reduceDIte, Nat.reducePow, hd0, hd, hz, hz2, u8l_len, catL_len, catV_len, tS, tF, bz, Nat.le_refl]
          refine DCall.by (sheetB_c W H rL nL GL _ (pL.mono _) bL) ?_
          iterate 2
            simp only [push_cast, Nat.reduceAdd, Nat.reduceMul, Nat.reduceSub, Nat.reduceLeDiff, Nat.reduceLT, Nat.reduceEqDiff, Nat.reduceBEq, Nat.reduceBNe, Nat.reduceMod, Nat.reduceDiv, Int.reduceLE, Int.reduceLT, Int.reduceToNat, Int.reduceAdd, Int.reduceSub, Int.reduceMul, Int.reduceNeg, Int.reduceEq, Int.reduceBEq, Int.reduceBNe, ↓reduceIte, reduceCtorEq, String.reduceBNe, String.reduceEq, reduceDIte, Nat.reducePow, hd0, hd, hz, hz2, u8l_len, catL_len, catV_len, tS, tF, bz, Nat.le_refl]
            refine DExt.by (by first | rfl | (simp only [List.append_assoc, List.cons_append, List.nil_append]; rfl)) ?_
          simp only [push_cast, Nat.reduceAdd, Nat.reduceMul, Nat.reduceSub, Nat.reduceLeDiff, Nat.reduceLT, Nat.reduceEqDiff, Nat.reduceBEq, Nat.reduceBNe, Nat.reduceMod, Nat.reduceDiv, Int.reduceLE, Int.reduceLT, Int.reduceToNat, Int.reduceAdd, Int.reduceSub, Int.reduceMul, Int.reduceNeg, Int.reduceEq, Int.reduceBEq, Int.reduceBNe, ↓reduceIte, reduceCtorEq, String.reduceBNe, String.reduceEq, reduceDIte, Nat.reducePow, hd0, hd, hz, hz2, u8l_len, catL_len, catV_len, tS, tF, bz, Nat.le_refl]
          refine Thn_n ?_
          refine hK _ _ ?_
          clear hK K
          refine AW.ret ?_
          refine hQ _ _ _ ?_
          first | refine RetP.drop0 (Or.inr rfl) ?_ ?_ hwf | refine RetP.drop (Or.inr rfl) ?_ ?_ hwf
          · simp only [resA, resOne, resTv, AV.tv, push_cast, Nat.reduceAdd, Nat.reduceMul, Nat.reduceSub, Nat.reduceLeDiff, Nat.reduceLT, Nat.reduceEqDiff, Nat.reduceBEq, Nat.reduceBNe, Nat.reduceMod, Nat.reduceDiv, Int.reduceLE, Int.reduceLT, Int.reduceToNat, Int.reduceAdd, Int.reduceSub, Int.reduceMul, Int.reduceNeg, Int.reduceEq, Int.reduceBEq, Int.reduceBNe, ↓reduceIte, reduceCtorEq, String.reduceBNe, String.reduceEq, reduceDIte, Nat.reducePow, hd0, hd, hz, hz2, u8l_len, catL_len, catV_len, tS, tF, bz, Nat.le_refl]
          · rfl
        · refine DX.run [0, 1, 2, 3, 4, 5, 7, 8, 9, 6, 10, 11, 12, 13, 14, 15, 16, 17, 18, 20, 21, 22, 19, 23, 24, 25, 26, 27, 28, 29, 30, 31, 32, 33, 34, 35, 36, 37, 38, 39, 40, 41, 42, 43, 44] [.ext, .val, .val, .val, .val, .val, .val, .rd 1, .ext, .ext, .ext, .val, .val, .val, .val, .val, .val, .val, .val, .rd 4, .ext, .ext, .ext, .val, .val, .val, .val, .val, .val, .val, .val, .val, .val, .val, .val, .val, .val, .val, .val, .val, .val, .val, .val, .val, .val] (by simp only [permL, reOp, List.idxOf_cons, push_cast, Nat.reduceAdd, Nat.reduceMul, Nat.reduceSub, Nat.reduceLeDiff, Nat.reduceLT, Nat.reduceEqDiff, Nat.reduceBEq, Nat.reduceBNe, Nat.reduceMod, Nat.reduceDiv, Int.reduceLE, Int.reduceLT, Int.reduceToNat, Int.reduceAdd, Int.reduceSub, Int.reduceMul, Int.reduceNeg, Int.reduceEq, Int.reduceBEq, Int.reduceBNe, ↓reduceIte, reduceCtorEq, String.reduceBNe, String.reduceEq, reduceDIte, Nat.reducePow, hd0, hd, hz, hz2, u8l_len, catL_len, catV_len, tS, tF, bz, Nat.le_refl]; first | done | rfl) (by kernel_rfl) ?_
          simp only [push_cast, Nat.reduceAdd, Nat.reduceMul, Nat.reduceSub, Nat.reduceLeDiff, Nat.reduceLT, Nat.reduceEqDiff, Nat.reduceBEq, Nat.reduceBNe, Nat.reduceMod, Nat.reduceDiv, Int.reduceLE, Int.reduceLT, Int.reduceToNat, Int.reduceAdd, Int.reduceSub, Int.reduceMul, Int.reduceNeg, Int.reduceEq, Int.reduceBEq, Int.reduceBNe, ↓reduceIte, reduceCtorEq, String.reduceBNe, String.reduceEq, reduceDIte, Nat.reducePow, hd0, hd, hz, hz2, u8l_len, catL_len, catV_len, tS, tF, bz, Nat.le_refl]
          refine DCall.by0 (awake_c _) ?_
          simp only [push_cast, Nat.reduceAdd, Nat.reduceMul, Nat.reduceSub, Nat.reduceLeDiff, Nat.reduceLT, Nat.reduceEqDiff, Nat.reduceBEq, Nat.reduceBNe, Nat.reduceMod, Nat.reduceDiv, Int.reduceLE, Int.reduceLT, Int.reduceToNat, Int.reduceAdd, Int.reduceSub, Int.reduceMul, Int.reduceNeg, Int.reduceEq, Int.reduceBEq, Int.reduceBNe, ↓reduceIte, reduceCtorEq, String.reduceBNe, String.reduceEq, reduceDIte, Nat.reducePow, hd0, hd, hz, hz2, u8l_len, catL_len, catV_len, tS, tF, bz, Nat.le_refl]
          refine DCall.by (sheetB_c W H rL nL GL _ (pL.mono _) bL) ?_
          iterate 2
            simp only [push_cast, Nat.reduceAdd, Nat.reduceMul, Nat.reduceSub, Nat.reduceLeDiff, Nat.reduceLT, Nat.reduceEqDiff, Nat.reduceBEq, Nat.reduceBNe, Nat.reduceMod, Nat.reduceDiv, Int.reduceLE, Int.reduceLT, Int.reduceToNat, Int.reduceAdd, Int.reduceSub, Int.reduceMul, Int.reduceNeg, Int.reduceEq, Int.reduceBEq, Int.reduceBNe, ↓reduceIte, reduceCtorEq, String.reduceBNe, String.reduceEq, reduceDIte, Nat.reducePow, hd0, hd, hz, hz2, u8l_len, catL_len, catV_len, tS, tF, bz, Nat.le_refl]
            refine DExt.by (by first | rfl | (simp only [List.append_assoc, List.cons_append, List.nil_append]; rfl)) ?_
          simp only [push_cast, Nat.reduceAdd, Nat.reduceMul, Nat.reduceSub, Nat.reduceLeDiff, Nat.reduceLT, Nat.reduceEqDiff, Nat.reduceBEq, Nat.reduceBNe, Nat.reduceMod, Nat.reduceDiv, Int.reduceLE, Int.reduceLT, Int.reduceToNat, Int.reduceAdd, Int.reduceSub, Int.reduceMul, Int.reduceNeg, Int.reduceEq, Int.reduceBEq, Int.reduceBNe, ↓reduceIte, reduceCtorEq, String.reduceBNe, String.reduceEq, reduceDIte, Nat.reducePow, hd0, hd, hz, hz2, u8l_len, catL_len, catV_len, tS, tF, bz, Nat.le_refl]
          refine Thn_n ?_
          refine hK _ _ ?_
          clear hK K
          refine AW.ret ?_
          refine hQ _ _ _ ?_
          first | refine RetP.drop0 (Or.inr rfl) ?_ ?_ hwf | refine RetP.drop (Or.inr rfl) ?_ ?_ hwf
          · simp only [resA, resOne, resTv, AV.tv, push_cast, Nat.reduceAdd, Nat.reduceMul, Nat.reduceSub, Nat.reduceLeDiff, Nat.reduceLT, Nat.reduceEqDiff, Nat.reduceBEq, Nat.reduceBNe, Nat.reduceMod, Nat.reduceDiv, Int.reduceLE, Int.reduceLT, Int.reduceToNat, Int.reduceAdd, Int.reduceSub, Int.reduceMul, Int.reduceNeg, Int.reduceEq, Int.reduceBEq, Int.reduceBNe, ↓reduceIte, reduceCtorEq, String.reduceBNe, String.reduceEq, reduceDIte, Nat.reducePow, hd0, hd, hz, hz2, u8l_len, catL_len, catV_len, tS, tF, bz, Nat.le_refl]
          · rfl
    · refine DX.split 19 21 (by decide) ?_ ?_
      · refine DX.run [0, 1, 2, 3, 4, 5, 7, 8, 9, 10, 6, 11, 12, 13, 14, 15, 16, 17, 18, 19, 20, 21, 22, 23, 24, 25, 26, 27, 28, 29, 30, 31, 32, 33, 34, 35, 36, 37, 38, 39, 40, 41, 42, 43, 44] [.ext, .val, .val, .val, .val, .val, .val, .rd 1, .ext, .ext, .ext, .val, .val, .val, .val, .val, .val, .val, .val, .ext, .rd 4, .ext, .ext, .val, .val, .val, .val, .val, .val, .val, .val, .val, .val, .val, .val, .val, .val, .val, .val, .val, .val, .val, .val, .val, .val] (by simp only [permL, reOp, List.idxOf_cons, push_cast, Nat.reduceAdd, Nat.reduceMul, Nat.reduceSub, Nat.reduceLeDiff, Nat.reduceLT, Nat.reduceEqDiff, Nat.reduceBEq, Nat.reduceBNe, Nat.reduceMod, Nat.reduceDiv, Int.reduceLE, Int.reduceLT, Int.reduceToNat, Int.reduceAdd, Int.reduceSub, Int.reduceMul, Int.reduceNeg, Int.reduceEq, Int.reduceBEq, Int.reduceBNe, ↓reduceIte, reduceCtorEq, String.reduceBNe, String.reduceEq, reduceDIte, Nat.reducePow, hd0, hd, hz, hz2, u8l_len, catL_len, catV_len, tS, tF, bz, Nat.le_refl]; first | done | rfl) (by kernel_rfl) ?_
        simp only [push_cast, Nat.reduceAdd, Nat.reduceMul, Nat.reduceSub, Nat.reduceLeDiff, Nat.reduceLT, Nat.reduceEqDiff, Nat.reduceBEq, Nat.reduceBNe, Nat.reduceMod, Nat.reduceDiv, Int.reduceLE, Int.reduceLT, Int.reduceToNat, Int.reduceAdd, Int.reduceSub, Int.reduceMul, Int.reduceNeg, Int.reduceEq, Int.reduceBEq, Int.reduceBNe, ↓reduceIte, reduceCtorEq, String.reduceBNe, String.reduceEq, reduceDIte, Nat.reducePow, hd0, hd, hz, hz2, u8l_len, catL_len, catV_len, tS, tF, bz, Nat.le_refl]
        refine DCall.by0 (awake_c _) ?_
        simp only [push_cast, Nat.reduceAdd, Nat.reduceMul, Nat.reduceSub, Nat.reduceLeDiff, Nat.reduceLT, Nat.reduceEqDiff, Nat.reduceBEq, Nat.reduceBNe, Nat.reduceMod, Nat.reduceDiv, Int.reduceLE, Int.reduceLT, Int.reduceToNat, Int.reduceAdd, Int.reduceSub, Int.reduceMul, Int.reduceNeg, Int.reduceEq, Int.reduceBEq, Int.reduceBNe, ↓reduceIte, reduceCtorEq, String.reduceBNe, String.reduceEq, reduceDIte, Nat.reducePow, hd0, hd, hz, hz2, u8l_len, catL_len, catV_len, tS, tF, bz, Nat.le_refl]
        refine DCall.by (sheetB_c W H rL nL GL _ (pL.mono _) bL) ?_
        iterate 2
          simp only [push_cast, Nat.reduceAdd, Nat.reduceMul, Nat.reduceSub, Nat.reduceLeDiff, Nat.reduceLT, Nat.reduceEqDiff, Nat.reduceBEq, Nat.reduceBNe, Nat.reduceMod, Nat.reduceDiv, Int.reduceLE, Int.reduceLT, Int.reduceToNat, Int.reduceAdd, Int.reduceSub, Int.reduceMul, Int.reduceNeg, Int.reduceEq, Int.reduceBEq, Int.reduceBNe, ↓reduceIte, reduceCtorEq, String.reduceBNe, String.reduceEq, reduceDIte, Nat.reducePow, hd0, hd, hz, hz2, u8l_len, catL_len, catV_len, tS, tF, bz, Nat.le_refl]
          refine DExt.by (by first | rfl | (simp only [List.append_assoc, List.cons_append, List.nil_append]; rfl)) ?_
        simp only [push_cast, Nat.reduceAdd, Nat.reduceMul, Nat.reduceSub, Nat.reduceLeDiff, Nat.reduceLT, Nat.reduceEqDiff, Nat.reduceBEq, Nat.reduceBNe, Nat.reduceMod, Nat.reduceDiv, Int.reduceLE, Int.reduceLT, Int.reduceToNat, Int.reduceAdd, Int.reduceSub, Int.reduceMul, Int.reduceNeg, Int.reduceEq, Int.reduceBEq, Int.reduceBNe, ↓reduceIte, reduceCtorEq, String.reduceBNe, String.reduceEq, reduceDIte, Nat.reducePow, hd0, hd, hz, hz2, u8l_len, catL_len, catV_len, tS, tF, bz, Nat.le_refl]
        refine Thn_n ?_
        refine hK _ _ ?_
        clear hK K
        refine AW.ret ?_
        refine hQ _ _ _ ?_
        first | refine RetP.drop0 (Or.inr rfl) ?_ ?_ hwf | refine RetP.drop (Or.inr rfl) ?_ ?_ hwf
        · simp only [resA, resOne, resTv, AV.tv, push_cast, Nat.reduceAdd, Nat.reduceMul, Nat.reduceSub, Nat.reduceLeDiff, Nat.reduceLT, Nat.reduceEqDiff, Nat.reduceBEq, Nat.reduceBNe, Nat.reduceMod, Nat.reduceDiv, Int.reduceLE, Int.reduceLT, Int.reduceToNat, Int.reduceAdd, Int.reduceSub, Int.reduceMul, Int.reduceNeg, Int.reduceEq, Int.reduceBEq, Int.reduceBNe, ↓reduceIte, reduceCtorEq, String.reduceBNe, String.reduceEq, reduceDIte, Nat.reducePow, hd0, hd, hz, hz2, u8l_len, catL_len, catV_len, tS, tF, bz, Nat.le_refl]
        · rfl
      · refine DX.split 19 22 (by decide) ?_ ?_
        · refine DX.run [0, 1, 2, 3, 4, 5, 7, 8, 9, 10, 6, 11, 12, 13, 14, 15, 16, 17, 18, 20, 21, 19, 22, 23, 24, 25, 26, 27, 28, 29, 30, 31, 32, 33, 34, 35, 36, 37, 38, 39, 40, 41, 42, 43, 44] [.ext, .val, .val, .val, .val, .val, .val, .rd 1, .ext, .ext, .ext, .val, .val, .val, .val, .val, .val, .val, .val, .rd 4, .ext, .ext, .ext, .val, .val, .val, .val, .val, .val, .val, .val, .val, .val, .val, .val, .val, .val, .val, .val, .val, .val, .val, .val, .val, .val] (by simp only [permL, reOp, List.idxOf_cons, push_cast, Nat.reduceAdd, Nat.reduceMul, Nat.reduceSub, Nat.reduceLeDiff, Nat.reduceLT, Nat.reduceEqDiff, Nat.reduceBEq, Nat.reduceBNe, Nat.reduceMod, Nat.reduceDiv, Int.reduceLE, Int.reduceLT, Int.reduceToNat, Int.reduceAdd, Int.reduceSub, Int.reduceMul, Int.reduceNeg, Int.reduceEq, Int.reduceBEq, Int.reduceBNe, ↓reduceIte, reduceCtorEq, String.reduceBNe, String.reduceEq, reduceDIte, Nat.reducePow, hd0, hd, hz, hz2, u8l_len, catL_len, catV_len, tS, tF, bz, Nat.le_refl]; first | done | rfl) (by kernel_rfl) ?_
          simp only [push_cast, Nat.reduceAdd, Nat.reduceMul, Nat.reduceSub, Nat.reduceLeDiff, Nat.reduceLT, Nat.reduceEqDiff, Nat.reduceBEq, Nat.reduceBNe, Nat.reduceMod, Nat.reduceDiv, Int.reduceLE, Int.reduceLT, Int.reduceToNat, Int.reduceAdd, Int.reduceSub, Int.reduceMul, Int.reduceNeg, Int.reduceEq, Int.reduceBEq, Int.reduceBNe, ↓reduceIte, reduceCtorEq, String.reduceBNe, String.reduceEq, reduceDIte, Nat.reducePow, hd0, hd, hz, hz2, u8l_len, catL_len, catV_len, tS, tF, bz, Nat.le_refl]
          refine DCall.by0 (awake_c _) ?_
          simp only [push_cast, Nat.reduceAdd, Nat.reduceMul, Nat.reduceSub, Nat.reduceLeDiff, Nat.reduceLT, Nat.reduceEqDiff, Nat.reduceBEq, Nat.reduceBNe, Nat.reduceMod, Nat.reduceDiv, Int.reduceLE, Int.reduceLT, Int.reduceToNat, Int.reduceAdd, Int.reduceSub, Int.reduceMul, Int.reduceNeg, Int.reduceEq, Int.reduceBEq, Int.reduceBNe, ↓reduceIte, reduceCtorEq, String.reduceBNe, String.reduceEq, reduceDIte, Nat.reducePow, hd0, hd, hz, hz2, u8l_len, catL_len, catV_len, tS, tF, bz, Nat.le_refl]
          refine DCall.by (sheetB_c W H rL nL GL _ (pL.mono _) bL) ?_
          iterate 2
            simp only [push_cast, Nat.reduceAdd, Nat.reduceMul, Nat.reduceSub, Nat.reduceLeDiff, Nat.reduceLT, Nat.reduceEqDiff, Nat.reduceBEq, Nat.reduceBNe, Nat.reduceMod, Nat.reduceDiv, Int.reduceLE, Int.reduceLT, Int.reduceToNat, Int.reduceAdd, Int.reduceSub, Int.reduceMul, Int.reduceNeg, Int.reduceEq, Int.reduceBEq, Int.reduceBNe, ↓reduceIte, reduceCtorEq, String.reduceBNe, String.reduceEq, reduceDIte, Nat.reducePow, hd0, hd, hz, hz2, u8l_len, catL_len, catV_len, tS, tF, bz, Nat.le_refl]
            refine DExt.by (by first | rfl | (simp only [List.append_assoc, List.cons_append, List.nil_append]; rfl)) ?_
          simp only [push_cast, Nat.reduceAdd, Nat.reduceMul, Nat.reduceSub, Nat.reduceLeDiff, Nat.reduceLT, Nat.reduceEqDiff, Nat.reduceBEq, Nat.reduceBNe, Nat.reduceMod, Nat.reduceDiv, Int.reduceLE, Int.reduceLT, Int.reduceToNat, Int.reduceAdd, Int.reduceSub, Int.reduceMul, Int.reduceNeg, Int.reduceEq, Int.reduceBEq, Int.reduceBNe, ↓reduceIte, reduceCtorEq, String.reduceBNe, String.reduceEq, reduceDIte, Nat.reducePow, hd0, hd, hz, hz2, u8l_len, catL_len, catV_len, tS, tF, bz, Nat.le_refl]
          refine Thn_n ?_
          refine hK _ _ ?_
          clear hK K
          refine AW.ret ?_
          refine hQ _ _ _ ?_
          first | refine RetP.drop0 (Or.inr rfl) ?_ ?_ hwf | refine RetP.drop (Or.inr rfl) ?_ ?_ hwf
          · simp only [resA, resOne, resTv, AV.tv, push_cast, Nat.reduceAdd, Nat.reduceMul, Nat.reduceSub, Nat.reduceLeDiff, Nat.reduceLT, Nat.reduceEqDiff, Nat.reduceBEq, Nat.reduceBNe, Nat.reduceMod, Nat.reduceDiv, Int.reduceLE, Int.reduceLT, Int.reduceToNat, Int.reduceAdd, Int.reduceSub, Int.reduceMul, Int.reduceNeg, Int.reduceEq, Int.reduceBEq, Int.reduceBNe, ↓reduceIte, reduceCtorEq, String.reduceBNe, String.reduceEq, reduceDIte, Nat.reducePow, hd0, hd, hz, hz2, u8l_len, catL_len, catV_len, tS, tF, bz, Nat.le_refl]
          · rfl
        · refine DX.run [0, 1, 2, 3, 4, 5, 7, 8, 9, 10, 6, 11, 12, 13, 14, 15, 16, 17, 18, 20, 21, 22, 19, 23, 24, 25, 26, 27, 28, 29, 30, 31, 32, 33, 34, 35, 36, 37, 38, 39, 40, 41, 42, 43, 44] [.ext, .val, .val, .val, .val, .val, .val, .rd 1, .ext, .ext, .ext, .val, .val, .val, .val, .val, .val, .val, .val, .rd 4, .ext, .ext, .ext, .val, .val, .val, .val, .val, .val, .val, .val, .val, .val, .val, .val, .val, .val, .val, .val, .val, .val, .val, .val, .val, .val] (by simp only [permL, reOp, List.idxOf_cons, push_cast, Nat.reduceAdd, Nat.reduceMul, Nat.reduceSub, Nat.reduceLeDiff, Nat.reduceLT, Nat.reduceEqDiff, Nat.reduceBEq, Nat.reduceBNe, Nat.reduceMod, Nat.reduceDiv, Int.reduceLE, Int.reduceLT, Int.reduceToNat, Int.reduceAdd, Int.reduceSub, Int.reduceMul, Int.reduceNeg, Int.reduceEq, Int.reduceBEq, Int.reduceBNe, ↓reduceIte, reduceCtorEq, String.reduceBNe, String.reduceEq, reduceDIte, Nat.reducePow, hd0, hd, hz, hz2, u8l_len, catL_len, catV_len, tS, tF, bz, Nat.le_refl]; first | done | rfl) (by kernel_rfl) ?_
          simp only [push_cast, Nat.reduceAdd, Nat.reduceMul, Nat.reduceSub, Nat.reduceLeDiff, Nat.reduceLT, Nat.reduceEqDiff, Nat.reduceBEq, Nat.reduceBNe, Nat.reduceMod, Nat.reduceDiv, Int.reduceLE, Int.reduceLT, Int.reduceToNat, Int.reduceAdd, Int.reduceSub, Int.reduceMul, Int.reduceNeg, Int.reduceEq, Int.reduceBEq, Int.reduceBNe, ↓reduceIte, reduceCtorEq, String.reduceBNe, String.reduceEq, reduceDIte, Nat.reducePow, hd0, hd, hz, hz2, u8l_len, catL_len, catV_len, tS, tF, bz, Nat.le_refl]
          refine DCall.by0 (awake_c _) ?_
          simp only [push_cast, Nat.reduceAdd, Nat.reduceMul, Nat.reduceSub, Nat.reduceLeDiff, Nat.reduceLT, Nat.reduceEqDiff, Nat.reduceBEq, Nat.reduceBNe, Nat.reduceMod, Nat.reduceDiv, Int.reduceLE, Int.reduceLT, Int.reduceToNat, Int.reduceAdd, Int.reduceSub, Int.reduceMul, Int.reduceNeg, Int.reduceEq, Int.reduceBEq, Int.reduceBNe, ↓reduceIte, reduceCtorEq, String.reduceBNe, String.reduceEq, reduceDIte, Nat.reducePow, hd0, hd, hz, hz2, u8l_len, catL_len, catV_len, tS, tF, bz, Nat.le_refl]
          refine DCall.by (sheetB_c W H rL nL GL _ (pL.mono _) bL) ?_
          iterate 2
            simp only [push_cast, Nat.reduceAdd, Nat.reduceMul, Nat.reduceSub, Nat.reduceLeDiff, Nat.reduceLT, Nat.reduceEqDiff, Nat.reduceBEq, Nat.reduceBNe, Nat.reduceMod, Nat.reduceDiv, Int.reduceLE, Int.reduceLT, Int.reduceToNat, Int.reduceAdd, Int.reduceSub, Int.reduceMul, Int.reduceNeg, Int.reduceEq, Int.reduceBEq, Int.reduceBNe, ↓reduceIte, reduceCtorEq, String.reduceBNe, String.reduceEq, reduceDIte, Nat.reducePow, hd0, hd, hz, hz2, u8l_len, catL_len, catV_len, tS, tF, bz, Nat.le_refl]
            refine DExt.by (by first | rfl | (simp only [List.append_assoc, List.cons_append, List.nil_append]; rfl)) ?_
          simp only [push_cast, Nat.reduceAdd, Nat.reduceMul, Nat.reduceSub, Nat.reduceLeDiff, Nat.reduceLT, Nat.reduceEqDiff, Nat.reduceBEq, Nat.reduceBNe, Nat.reduceMod, Nat.reduceDiv, Int.reduceLE, Int.reduceLT, Int.reduceToNat, Int.reduceAdd, Int.reduceSub, Int.reduceMul, Int.reduceNeg, Int.reduceEq, Int.reduceBEq, Int.reduceBNe, ↓reduceIte, reduceCtorEq, String.reduceBNe, String.reduceEq, reduceDIte, Nat.reducePow, hd0, hd, hz, hz2, u8l_len, catL_len, catV_len, tS, tF, bz, Nat.le_refl]
          refine Thn_n ?_
          refine hK _ _ ?_
          clear hK K
          refine AW.ret ?_
          refine hQ _ _ _ ?_
          first | refine RetP.drop0 (Or.inr rfl) ?_ ?_ hwf | refine RetP.drop (Or.inr rfl) ?_ ?_ hwf
          · simp only [resA, resOne, resTv, AV.tv, push_cast, Nat.reduceAdd, Nat.reduceMul, Nat.reduceSub, Nat.reduceLeDiff, Nat.reduceLT, Nat.reduceEqDiff, Nat.reduceBEq, Nat.reduceBNe, Nat.reduceMod, Nat.reduceDiv, Int.reduceLE, Int.reduceLT, Int.reduceToNat, Int.reduceAdd, Int.reduceSub, Int.reduceMul, Int.reduceNeg, Int.reduceEq, Int.reduceBEq, Int.reduceBNe, ↓reduceIte, reduceCtorEq, String.reduceBNe, String.reduceEq, reduceDIte, Nat.reducePow, hd0, hd, hz, hz2, u8l_len, catL_len, catV_len, tS, tF, bz, Nat.le_refl]
          · rfl
theorem writes_c (W H : Int) (rL nL rD nD rN nN rB nB rS nS rF nF : Nat) (GL GN GB : Nat → Nat → Int) (fD fS fF : Nat → Int) (m : AMem) (pL : HRow m 75 rL nL GL) (pD : IRow m 2 rD nD fD) (pN : HRow m 71 rN nN GN) (pB : HRow m 75 rB nB GB) (pS : IRow m 3 rS nS fS) (pF : IRow m 3 rF nF fF) (bL : nL ≤ 1048576) (bD : nD ≤ 1048576) (bN : nN ≤ 1048576) (bB : nB ≤ 1048576) (bS : nS ≤ 1048576) (bF : nF ≤ 1048576) (hd0 : ¬ 5000 < (nL : Int)) (hd : ¬ 5000 < (nS : Int)) (hz : shR W H nL = true) (hz2 : filmR W H nL nD nN nB nS nF fS fF = true) : Ctr Try.prog 4 [.agg [.int .i64 W, .int .i64 H, .sl rL 0 0 nL, .sl rD 0 0 nD, .sl rN 0 0 nN, .sl rB 0 0 nB, .sl rS 0 0 nS, .sl rF 0 0 nF]] m (.one (.bool true)) m := by
  refine Ctr.enter Try.func4 rfl (by decide) (rs := [.tmp 2]) (nt := 106) rfl rfl fun hwf Q hQ => ?_
  have xS : (catL 2 (wh W H) 2 ++ catV GL nL).length = 4 + nL * 15 := by (simp only [List.length_append, catL_len, catV_len]) <;> omega
  have tS : List.take (4 + nL * 15) (u8l (catL 2 (wh W H) 2 ++ catV GL nL)) = u8l (catL 2 (wh W H) 2 ++ catV GL nL) := List.take_of_length_le (by rw [u8l_len, xS]; exact Nat.le_refl _)
  have xF : (catL 2 (wh W H) 2 ++ (catV GL nL ++ (catL 5 fD nD ++ (catV GN nN ++ (catV GB nB ++ (catL 2 fS nS ++ catL 2 fF nF)))))).length = 4 + (nL * 15 + (nD * 5 + (nN * 15 + (nB * 15 + (nS * 2 + nF * 2))))) := by (simp only [List.length_append, catL_len, catV_len]) <;> omega
  have tF : List.take (4 + (nL * 15 + (nD * 5 + (nN * 15 + (nB * 15 + (nS * 2 + nF * 2)))))) (u8l (catL 2 (wh W H) 2 ++ (catV GL nL ++ (catL 5 fD nD ++ (catV GN nN ++ (catV GB nB ++ (catL 2 fS nS ++ catL 2 fF nF))))))) = u8l (catL 2 (wh W H) 2 ++ (catV GL nL ++ (catL 5 fD nD ++ (catV GN nN ++ (catV GB nB ++ (catL 2 fS nS ++ catL 2 fF nF)))))) := List.take_of_length_le (by rw [u8l_len, xF]; exact Nat.le_refl _)
  have bz := bytesA_u8l
  refine AW.seq_k fun K hK => ?_
  refine AW.region (by decide) ?_
  simp only [push_cast, Nat.reduceAdd, Nat.reduceMul, Nat.reduceSub, Nat.reduceLeDiff, Nat.reduceLT, Nat.reduceEqDiff, Nat.reduceBEq, Nat.reduceBNe, Nat.reduceMod, Nat.reduceDiv, Int.reduceLE, Int.reduceLT, Int.reduceToNat, Int.reduceAdd, Int.reduceSub, Int.reduceMul, Int.reduceNeg, Int.reduceEq, Int.reduceBEq, Int.reduceBNe, ↓reduceIte, reduceCtorEq, String.reduceBNe, String.reduceEq, reduceDIte, Nat.reducePow, hd0, hd, hz, hz2, u8l_len, catL_len, catV_len, tS, tF, bz, Nat.le_refl]
  refine Thn_n ?_
  refine hK _ _ ?_
  clear hK K
  refine AW.seq_k fun K hK => ?_
  refine AW.seq_k fun K hK => ?_
  refine AW.region (by decide) ?_
  simp only [push_cast, Nat.reduceAdd, Nat.reduceMul, Nat.reduceSub, Nat.reduceLeDiff, Nat.reduceLT, Nat.reduceEqDiff, Nat.reduceBEq, Nat.reduceBNe, Nat.reduceMod, Nat.reduceDiv, Int.reduceLE, Int.reduceLT, Int.reduceToNat, Int.reduceAdd, Int.reduceSub, Int.reduceMul, Int.reduceNeg, Int.reduceEq, Int.reduceBEq, Int.reduceBNe, ↓reduceIte, reduceCtorEq, String.reduceBNe, String.reduceEq, reduceDIte, Nat.reducePow, hd0, hd, hz, hz2, u8l_len, catL_len, catV_len, tS, tF, bz, Nat.le_refl]
  refine Thn_n ?_
  refine hK _ _ ?_
  clear hK K
  refine AW.cond_f rfl ?_
  refine AW.skip ?_
  refine Thn_n ?_
  refine hK _ _ ?_
  clear hK K
  refine AW.seq_k fun K hK => ?_
  refine AW.region (by decide) ?_
  simp only [push_cast, Nat.reduceAdd, Nat.reduceMul, Nat.reduceSub, Nat.reduceLeDiff, Nat.reduceLT, Nat.reduceEqDiff, Nat.reduceBEq, Nat.reduceBNe, Nat.reduceMod, Nat.reduceDiv, Int.reduceLE, Int.reduceLT, Int.reduceToNat, Int.reduceAdd, Int.reduceSub, Int.reduceMul, Int.reduceNeg, Int.reduceEq, Int.reduceBEq, Int.reduceBNe, ↓reduceIte, reduceCtorEq, String.reduceBNe, String.reduceEq, reduceDIte, Nat.reducePow, hd0, hd, hz, hz2, u8l_len, catL_len, catV_len, tS, tF, bz, Nat.le_refl]
  refine CThen.by (to_c W H rL nL rD nD rN nN rB nB rS nS rF nF GL GN GB fD fS fF _ (pL.mono _) (pD.mono _) (pN.mono _) (pB.mono _) (pS.mono _) (pF.mono _) bL bD bN bB bS bF) ?_
  simp only [push_cast, Nat.reduceAdd, Nat.reduceMul, Nat.reduceSub, Nat.reduceLeDiff, Nat.reduceLT, Nat.reduceEqDiff, Nat.reduceBEq, Nat.reduceBNe, Nat.reduceMod, Nat.reduceDiv, Int.reduceLE, Int.reduceLT, Int.reduceToNat, Int.reduceAdd, Int.reduceSub, Int.reduceMul, Int.reduceNeg, Int.reduceEq, Int.reduceBEq, Int.reduceBNe, ↓reduceIte, reduceCtorEq, String.reduceBNe, String.reduceEq, reduceDIte, Nat.reducePow, hd0, hd, hz, hz2, u8l_len, catL_len, catV_len, tS, tF, bz, Nat.le_refl]
  refine Thn_n ?_
  refine hK _ _ ?_
  clear hK K
  refine AW.seq_k fun K hK => ?_
  refine AW.region (by decide) ?_
  simp only [push_cast, Nat.reduceAdd, Nat.reduceMul, Nat.reduceSub, Nat.reduceLeDiff, Nat.reduceLT, Nat.reduceEqDiff, Nat.reduceBEq, Nat.reduceBNe, Nat.reduceMod, Nat.reduceDiv, Int.reduceLE, Int.reduceLT, Int.reduceToNat, Int.reduceAdd, Int.reduceSub, Int.reduceMul, Int.reduceNeg, Int.reduceEq, Int.reduceBEq, Int.reduceBNe, ↓reduceIte, reduceCtorEq, String.reduceBNe, String.reduceEq, reduceDIte, Nat.reducePow, hd0, hd, hz, hz2, u8l_len, catL_len, catV_len, tS, tF, bz, Nat.le_refl]
  refine CThen.by (encS_ok W H (m.length + 1) 0 nL GL _ ⟨.grow, 3, by simp only [push_cast, Nat.reduceAdd, Nat.reduceMul, Nat.reduceSub, Nat.reduceLeDiff, Nat.reduceLT, Nat.reduceEqDiff, Nat.reduceBEq, Nat.reduceBNe, Nat.reduceMod, Nat.reduceDiv, Int.reduceLE, Int.reduceLT, Int.reduceToNat, Int.reduceAdd, Int.reduceSub, Int.reduceMul, Int.reduceNeg, Int.reduceEq, Int.reduceBEq, Int.reduceBNe, ↓reduceIte, reduceCtorEq, String.reduceBNe, String.reduceEq, reduceDIte, Nat.reducePow]⟩ bL hz) ?_
  simp only [push_cast, Nat.reduceAdd, Nat.reduceMul, Nat.reduceSub, Nat.reduceLeDiff, Nat.reduceLT, Nat.reduceEqDiff, Nat.reduceBEq, Nat.reduceBNe, Nat.reduceMod, Nat.reduceDiv, Int.reduceLE, Int.reduceLT, Int.reduceToNat, Int.reduceAdd, Int.reduceSub, Int.reduceMul, Int.reduceNeg, Int.reduceEq, Int.reduceBEq, Int.reduceBNe, ↓reduceIte, reduceCtorEq, String.reduceBNe, String.reduceEq, reduceDIte, Nat.reducePow, hd0, hd, hz, hz2, u8l_len, catL_len, catV_len, tS, tF, bz, Nat.le_refl]
  refine Thn_n ?_
  refine hK _ _ ?_
  clear hK K
  refine AW.seq_k fun K hK => ?_
  refine AW.region (by decide) ?_
  simp only [push_cast, Nat.reduceAdd, Nat.reduceMul, Nat.reduceSub, Nat.reduceLeDiff, Nat.reduceLT, Nat.reduceEqDiff, Nat.reduceBEq, Nat.reduceBNe, Nat.reduceMod, Nat.reduceDiv, Int.reduceLE, Int.reduceLT, Int.reduceToNat, Int.reduceAdd, Int.reduceSub, Int.reduceMul, Int.reduceNeg, Int.reduceEq, Int.reduceBEq, Int.reduceBNe, ↓reduceIte, reduceCtorEq, String.reduceBNe, String.reduceEq, reduceDIte, Nat.reducePow, hd0, hd, hz, hz2, u8l_len, catL_len, catV_len, tS, tF, bz, Nat.le_refl]
  refine CThen.by (encF_ok W H (m.length + 1) nL (m.length + 2) nD (m.length + 3) nN (m.length + 4) nB (m.length + 5) nS (m.length + 6) nF GL GN GB fD fS fF _ ⟨.grow, 3, by simp only [push_cast, Nat.reduceAdd, Nat.reduceMul, Nat.reduceSub, Nat.reduceLeDiff, Nat.reduceLT, Nat.reduceEqDiff, Nat.reduceBEq, Nat.reduceBNe, Nat.reduceMod, Nat.reduceDiv, Int.reduceLE, Int.reduceLT, Int.reduceToNat, Int.reduceAdd, Int.reduceSub, Int.reduceMul, Int.reduceNeg, Int.reduceEq, Int.reduceBEq, Int.reduceBNe, ↓reduceIte, reduceCtorEq, String.reduceBNe, String.reduceEq, reduceDIte, Nat.reducePow]⟩ ⟨.grow, 1, by simp only [push_cast, Nat.reduceAdd, Nat.reduceMul, Nat.reduceSub, Nat.reduceLeDiff, Nat.reduceLT, Nat.reduceEqDiff, Nat.reduceBEq, Nat.reduceBNe, Nat.reduceMod, Nat.reduceDiv, Int.reduceLE, Int.reduceLT, Int.reduceToNat, Int.reduceAdd, Int.reduceSub, Int.reduceMul, Int.reduceNeg, Int.reduceEq, Int.reduceBEq, Int.reduceBNe, ↓reduceIte, reduceCtorEq, String.reduceBNe, String.reduceEq, reduceDIte, Nat.reducePow]⟩ ⟨.grow, 3, by simp only [push_cast, Nat.reduceAdd, Nat.reduceMul, Nat.reduceSub, Nat.reduceLeDiff, Nat.reduceLT, Nat.reduceEqDiff, Nat.reduceBEq, Nat.reduceBNe, Nat.reduceMod, Nat.reduceDiv, Int.reduceLE, Int.reduceLT, Int.reduceToNat, Int.reduceAdd, Int.reduceSub, Int.reduceMul, Int.reduceNeg, Int.reduceEq, Int.reduceBEq, Int.reduceBNe, ↓reduceIte, reduceCtorEq, String.reduceBNe, String.reduceEq, reduceDIte, Nat.reducePow]⟩ ⟨.grow, 3, by simp only [push_cast, Nat.reduceAdd, Nat.reduceMul, Nat.reduceSub, Nat.reduceLeDiff, Nat.reduceLT, Nat.reduceEqDiff, Nat.reduceBEq, Nat.reduceBNe, Nat.reduceMod, Nat.reduceDiv, Int.reduceLE, Int.reduceLT, Int.reduceToNat, Int.reduceAdd, Int.reduceSub, Int.reduceMul, Int.reduceNeg, Int.reduceEq, Int.reduceBEq, Int.reduceBNe, ↓reduceIte, reduceCtorEq, String.reduceBNe, String.reduceEq, reduceDIte, Nat.reducePow]⟩ ⟨.grow, 1, by simp only [push_cast, Nat.reduceAdd, Nat.reduceMul, Nat.reduceSub, Nat.reduceLeDiff, Nat.reduceLT, Nat.reduceEqDiff, Nat.reduceBEq, Nat.reduceBNe, Nat.reduceMod, Nat.reduceDiv, Int.reduceLE, Int.reduceLT, Int.reduceToNat, Int.reduceAdd, Int.reduceSub, Int.reduceMul, Int.reduceNeg, Int.reduceEq, Int.reduceBEq, Int.reduceBNe, ↓reduceIte, reduceCtorEq, String.reduceBNe, String.reduceEq, reduceDIte, Nat.reducePow]⟩ ⟨.grow, 1, by simp only [push_cast, Nat.reduceAdd, Nat.reduceMul, Nat.reduceSub, Nat.reduceLeDiff, Nat.reduceLT, Nat.reduceEqDiff, Nat.reduceBEq, Nat.reduceBNe, Nat.reduceMod, Nat.reduceDiv, Int.reduceLE, Int.reduceLT, Int.reduceToNat, Int.reduceAdd, Int.reduceSub, Int.reduceMul, Int.reduceNeg, Int.reduceEq, Int.reduceBEq, Int.reduceBNe, ↓reduceIte, reduceCtorEq, String.reduceBNe, String.reduceEq, reduceDIte, Nat.reducePow]⟩ bL bD bN bB bS bF hz2) ?_
  simp only [push_cast, Nat.reduceAdd, Nat.reduceMul, Nat.reduceSub, Nat.reduceLeDiff, Nat.reduceLT, Nat.reduceEqDiff, Nat.reduceBEq, Nat.reduceBNe, Nat.reduceMod, Nat.reduceDiv, Int.reduceLE, Int.reduceLT, Int.reduceToNat, Int.reduceAdd, Int.reduceSub, Int.reduceMul, Int.reduceNeg, Int.reduceEq, Int.reduceBEq, Int.reduceBNe, ↓reduceIte, reduceCtorEq, String.reduceBNe, String.reduceEq, reduceDIte, Nat.reducePow, hd0, hd, hz, hz2, u8l_len, catL_len, catV_len, tS, tF, bz, Nat.le_refl]
  refine Thn_n ?_
  refine hK _ _ ?_
  clear hK K
  refine AW.seq_k fun K hK => ?_
  refine AW.seq_k fun K hK => ?_
  refine AW.region (by decide) ?_
  simp only [push_cast, Nat.reduceAdd, Nat.reduceMul, Nat.reduceSub, Nat.reduceLeDiff, Nat.reduceLT, Nat.reduceEqDiff, Nat.reduceBEq, Nat.reduceBNe, Nat.reduceMod, Nat.reduceDiv, Int.reduceLE, Int.reduceLT, Int.reduceToNat, Int.reduceAdd, Int.reduceSub, Int.reduceMul, Int.reduceNeg, Int.reduceEq, Int.reduceBEq, Int.reduceBNe, ↓reduceIte, reduceCtorEq, String.reduceBNe, String.reduceEq, reduceDIte, Nat.reducePow, hd0, hd, hz, hz2, u8l_len, catL_len, catV_len, tS, tF, bz, Nat.le_refl]
  refine CThen.by (refSheet_c W H _ _ _ _) ?_
  simp only [push_cast, Nat.reduceAdd, Nat.reduceMul, Nat.reduceSub, Nat.reduceLeDiff, Nat.reduceLT, Nat.reduceEqDiff, Nat.reduceBEq, Nat.reduceBNe, Nat.reduceMod, Nat.reduceDiv, Int.reduceLE, Int.reduceLT, Int.reduceToNat, Int.reduceAdd, Int.reduceSub, Int.reduceMul, Int.reduceNeg, Int.reduceEq, Int.reduceBEq, Int.reduceBNe, ↓reduceIte, reduceCtorEq, String.reduceBNe, String.reduceEq, reduceDIte, Nat.reducePow, hd0, hd, hz, hz2, u8l_len, catL_len, catV_len, tS, tF, bz, Nat.le_refl]
  refine CThen.by (refRight_all W H _ nL _ nD _ nN _ nB _ nS _ nF fS fF _ (pS.mono _) (pF.mono _) bL) ?_
  simp only [push_cast, Nat.reduceAdd, Nat.reduceMul, Nat.reduceSub, Nat.reduceLeDiff, Nat.reduceLT, Nat.reduceEqDiff, Nat.reduceBEq, Nat.reduceBNe, Nat.reduceMod, Nat.reduceDiv, Int.reduceLE, Int.reduceLT, Int.reduceToNat, Int.reduceAdd, Int.reduceSub, Int.reduceMul, Int.reduceNeg, Int.reduceEq, Int.reduceBEq, Int.reduceBNe, ↓reduceIte, reduceCtorEq, String.reduceBNe, String.reduceEq, reduceDIte, Nat.reducePow, hd0, hd, hz, hz2, u8l_len, catL_len, catV_len, tS, tF, bz, Nat.le_refl]
  refine Thn_n ?_
  refine hK _ _ ?_
  clear hK K
  refine AW.cond_f rfl ?_
  refine AW.skip ?_
  refine Thn_n ?_
  refine hK _ _ ?_
  clear hK K
  refine AW.seq_k fun K hK => ?_
  refine AW.drawX fol (by kernel_rfl) ?_
  refine DX.split 6 9 (by decide) ?_ ?_
  · refine DX.split 19 21 (by decide) ?_ ?_
    · refine DX.run [0, 1, 2, 3, 4, 5, 6, 7, 8, 9, 10, 11, 12, 13, 14, 15, 16, 17, 18, 19, 20, 21, 22, 23, 24, 25, 26, 27, 28, 29, 30, 31, 32, 33, 34, 35, 36, 37, 38, 39, 40, 41, 42, 43, 44] [.ext, .val, .val, .val, .val, .val, .ext, .val, .rd 1, .ext, .ext, .val, .val, .val, .val, .val, .val, .val, .val, .ext, .rd 4, .ext, .ext, .val, .val, .val, .val, .val, .val, .val, .val, .val, .val, .val, .val, .val, .val, .val, .val, .val, .val, .val, .val, .val, .val] (by simp only [permL, reOp, List.idxOf_cons, push_cast, Nat.reduceAdd, Nat.reduceMul, Nat.reduceSub, Nat.reduceLeDiff, Nat.reduceLT, Nat.reduceEqDiff, Nat.reduceBEq, Nat.reduceBNe, Nat.reduceMod, Nat.reduceDiv, Int.reduceLE, Int.reduceLT, Int.reduceToNat, Int.reduceAdd, Int.reduceSub, Int.reduceMul, Int.reduceNeg, Int.reduceEq, Int.reduceBEq, Int.reduceBNe, ↓reduceIte, reduceCtorEq, String.reduceBNe, String.reduceEq, reduceDIte, Nat.reducePow, hd0, hd, hz, hz2, u8l_len, catL_len, catV_len, tS, tF, bz, Nat.le_refl]; first | done | rfl) (by kernel_rfl) ?_
      simp only [push_cast, Nat.reduceAdd, Nat.reduceMul, Nat.reduceSub, Nat.reduceLeDiff, Nat.reduceLT, Nat.reduceEqDiff, Nat.reduceBEq, Nat.reduceBNe, Nat.reduceMod, Nat.reduceDiv, Int.reduceLE, Int.reduceLT, Int.reduceToNat, Int.reduceAdd, Int.reduceSub, Int.reduceMul, Int.reduceNeg, Int.reduceEq, Int.reduceBEq, Int.reduceBNe, ↓reduceIte, reduceCtorEq, String.reduceBNe, String.reduceEq, reduceDIte, Nat.reducePow, hd0, hd, hz, hz2, u8l_len, catL_len, catV_len, tS, tF, bz, Nat.le_refl]
      refine DCall.by0 (awake_c _) ?_
      simp only [push_cast, Nat.reduceAdd, Nat.reduceMul, Nat.reduceSub, Nat.reduceLeDiff, Nat.reduceLT, Nat.reduceEqDiff, Nat.reduceBEq, Nat.reduceBNe, Nat.reduceMod, Nat.reduceDiv, Int.reduceLE, Int.reduceLT, Int.reduceToNat, Int.reduceAdd, Int.reduceSub, Int.reduceMul, Int.reduceNeg, Int.reduceEq, Int.reduceBEq, Int.reduceBNe, ↓reduceIte, reduceCtorEq, String.reduceBNe, String.reduceEq, reduceDIte, Nat.reducePow, hd0, hd, hz, hz2, u8l_len, catL_len, catV_len, tS, tF, bz, Nat.le_refl]
      refine DExt.by (by first | rfl | (simp only [List.append_assoc, List.cons_append, List.nil_append]; rfl)) ?_
      simp only [push_cast, Nat.reduceAdd, Nat.reduceMul, Nat.reduceSub, Nat.reduceLeDiff, Nat.reduceLT, Nat.reduceEqDiff, Nat.reduceBEq, Nat.reduceBNe, Nat.reduceMod, Nat.reduceDiv, Int.reduceLE, Int.reduceLT, Int.reduceToNat, Int.reduceAdd, Int.reduceSub, Int.reduceMul, Int.reduceNeg, Int.reduceEq, Int.reduceBEq, Int.reduceBNe, ↓reduceIte, reduceCtorEq, String.reduceBNe, String.reduceEq, reduceDIte, Nat.reducePow, hd0, hd, hz, hz2, u8l_len, catL_len, catV_len, tS, tF, bz, Nat.le_refl]
      refine DCall.by (sheetB_c W H rL nL GL _ (pL.mono _) bL) ?_
      iterate 2
        simp only [push_cast, Nat.reduceAdd, Nat.reduceMul, Nat.reduceSub, Nat.reduceLeDiff, Nat.reduceLT, Nat.reduceEqDiff, Nat.reduceBEq, Nat.reduceBNe, Nat.reduceMod, Nat.reduceDiv, Int.reduceLE, Int.reduceLT, Int.reduceToNat, Int.reduceAdd, Int.reduceSub, Int.reduceMul, Int.reduceNeg, Int.reduceEq, Int.reduceBEq, Int.reduceBNe, ↓reduceIte, reduceCtorEq, String.reduceBNe, String.reduceEq, reduceDIte, Nat.reducePow, hd0, hd, hz, hz2, u8l_len, catL_len, catV_len, tS, tF, bz, Nat.le_refl]
        refine DExt.by (by first | rfl | (simp only [List.append_assoc, List.cons_append, List.nil_append]; rfl)) ?_
      simp only [push_cast, Nat.reduceAdd, Nat.reduceMul, Nat.reduceSub, Nat.reduceLeDiff, Nat.reduceLT, Nat.reduceEqDiff, Nat.reduceBEq, Nat.reduceBNe, Nat.reduceMod, Nat.reduceDiv, Int.reduceLE, Int.reduceLT, Int.reduceToNat, Int.reduceAdd, Int.reduceSub, Int.reduceMul, Int.reduceNeg, Int.reduceEq, Int.reduceBEq, Int.reduceBNe, ↓reduceIte, reduceCtorEq, String.reduceBNe, String.reduceEq, reduceDIte, Nat.reducePow, hd0, hd, hz, hz2, u8l_len, catL_len, catV_len, tS, tF, bz, Nat.le_refl]
      refine DCall.by (bytesB_c W H rL nL rD nD rN nN rB nB rS nS rF nF GL GN GB fD fS fF _ (pL.mono _) (pD.mono _) (pN.mono _) (pB.mono _) (pS.mono _) (pF.mono _) bL bD bN bB bS bF) ?_
      simp only [push_cast, Nat.reduceAdd, Nat.reduceMul, Nat.reduceSub, Nat.reduceLeDiff, Nat.reduceLT, Nat.reduceEqDiff, Nat.reduceBEq, Nat.reduceBNe, Nat.reduceMod, Nat.reduceDiv, Int.reduceLE, Int.reduceLT, Int.reduceToNat, Int.reduceAdd, Int.reduceSub, Int.reduceMul, Int.reduceNeg, Int.reduceEq, Int.reduceBEq, Int.reduceBNe, ↓reduceIte, reduceCtorEq, String.reduceBNe, String.reduceEq, reduceDIte, Nat.reducePow, hd0, hd, hz, hz2, u8l_len, catL_len, catV_len, tS, tF, bz, Nat.le_refl]
      refine DExt.by (by first | rfl | (simp only [List.append_assoc, List.cons_append, List.nil_append]; rfl)) ?_
      simp only [push_cast, Nat.reduceAdd, Nat.reduceMul, Nat.reduceSub, Nat.reduceLeDiff, Nat.reduceLT, Nat.reduceEqDiff, Nat.reduceBEq, Nat.reduceBNe, Nat.reduceMod, Nat.reduceDiv, Int.reduceLE, Int.reduceLT, Int.reduceToNat, Int.reduceAdd, Int.reduceSub, Int.reduceMul, Int.reduceNeg, Int.reduceEq, Int.reduceBEq, Int.reduceBNe, ↓reduceIte, reduceCtorEq, String.reduceBNe, String.reduceEq, reduceDIte, Nat.reducePow, hd0, hd, hz, hz2, u8l_len, catL_len, catV_len, tS, tF, bz, Nat.le_refl]
      refine Thn_n ?_
      refine hK _ _ ?_
      clear hK K
      refine AW.ret ?_
      refine hQ _ _ _ ?_
      first | refine RetP.drop0 (Or.inr rfl) ?_ ?_ hwf | refine RetP.drop (Or.inr rfl) ?_ ?_ hwf
      · simp only [resA, resOne, resTv, AV.tv, push_cast, Nat.reduceAdd, Nat.reduceMul, Nat.reduceSub, Nat.reduceLeDiff, Nat.reduceLT, Nat.reduceEqDiff, Nat.reduceBEq, Nat.reduceBNe, Nat.reduceMod, Nat.reduceDiv, Int.reduceLE, Int.reduceLT, Int.reduceToNat, Int.reduceAdd, Int.reduceSub, Int.reduceMul, Int.reduceNeg, Int.reduceEq, Int.reduceBEq, Int.reduceBNe, ↓reduceIte, reduceCtorEq, String.reduceBNe, String.reduceEq, reduceDIte, Nat.reducePow, hd0, hd, hz, hz2, u8l_len, catL_len, catV_len, tS, tF, bz, Nat.le_refl]
      · rfl
    · refine DX.split 19 22 (by decide) ?_ ?_
      · refine DX.run [0, 1, 2, 3, 4, 5, 6, 7, 8, 9, 10, 11, 12, 13, 14, 15, 16, 17, 18, 20, 21, 19, 22, 23, 24, 25, 26, 27, 28, 29, 30, 31, 32, 33, 34, 35, 36, 37, 38, 39, 40, 41, 42, 43, 44] [.ext, .val, .val, .val, .val, .val, .ext, .val, .rd 1, .ext, .ext, .val, .val, .val, .val, .val, .val, .val, .val, .rd 4, .ext, .ext, .ext, .val, .val, .val, .val, .val, .val, .val, .val, .val, .val, .val, .val, .val, .val, .val, .val, .val, .val, .val, .val, .val, .val] (by simp only [permL, reOp, List.idxOf_cons, push_cast, Nat.reduceAdd, Nat.reduceMul, Nat.reduceSub, Nat.reduceLeDiff, Nat.reduceLT, Nat.reduceEqDiff, Nat.reduceBEq, Nat.reduceBNe, Nat.reduceMod, Nat.reduceDiv, Int.reduceLE, Int.reduceLT, Int.reduceToNat, Int.reduceAdd, Int.reduceSub, Int.reduceMul, Int.reduceNeg, Int.reduceEq, Int.reduceBEq, Int.reduceBNe, ↓reduceIte, reduceCtorEq, String.reduceBNe, String.reduceEq, reduceDIte, Nat.reducePow, hd0, hd, hz, hz2, u8l_len, catL_len, catV_len, tS, tF, bz, Nat.le_refl]; first | done | rfl) (by kernel_rfl) ?_
        simp only [push_cast, Nat.reduceAdd, Nat.reduceMul, Nat.reduceSub, Nat.reduceLeDiff, Nat.reduceLT, Nat.reduceEqDiff, Nat.reduceBEq, Nat.reduceBNe, Nat.reduceMod, Nat.reduceDiv, Int.reduceLE, Int.reduceLT, Int.reduceToNat, Int.reduceAdd, Int.reduceSub, Int.reduceMul, Int.reduceNeg, Int.reduceEq, Int.reduceBEq, Int.reduceBNe, ↓reduceIte, reduceCtorEq, String.reduceBNe, String.reduceEq, reduceDIte, Nat.reducePow, hd0, hd, hz, hz2, u8l_len, catL_len, catV_len, tS, tF, bz, Nat.le_refl]
        refine DCall.by0 (awake_c _) ?_
        simp only [push_cast, Nat.reduceAdd, Nat.reduceMul, Nat.reduceSub, Nat.reduceLeDiff, Nat.reduceLT, Nat.reduceEqDiff, Nat.reduceBEq, Nat.reduceBNe, Nat.reduceMod, Nat.reduceDiv, Int.reduceLE, Int.reduceLT, Int.reduceToNat, Int.reduceAdd, Int.reduceSub, Int.reduceMul, Int.reduceNeg, Int.reduceEq, Int.reduceBEq, Int.reduceBNe, ↓reduceIte, reduceCtorEq, String.reduceBNe, String.reduceEq, reduceDIte, Nat.reducePow, hd0, hd, hz, hz2, u8l_len, catL_len, catV_len, tS, tF, bz, Nat.le_refl]
        refine DExt.by (by first | rfl | (simp only [List.append_assoc, List.cons_append, List.nil_append]; rfl)) ?_
        simp only [push_cast, Nat.reduceAdd, Nat.reduceMul, Nat.reduceSub, Nat.reduceLeDiff, Nat.reduceLT, Nat.reduceEqDiff, Nat.reduceBEq, Nat.reduceBNe, Nat.reduceMod, Nat.reduceDiv, Int.reduceLE, Int.reduceLT, Int.reduceToNat, Int.reduceAdd, Int.reduceSub, Int.reduceMul, Int.reduceNeg, Int.reduceEq, Int.reduceBEq, Int.reduceBNe, ↓reduceIte, reduceCtorEq, String.reduceBNe, String.reduceEq, reduceDIte, Nat.reducePow, hd0, hd, hz, hz2, u8l_len, catL_len, catV_len, tS, tF, bz, Nat.le_refl]
        refine DCall.by (sheetB_c W H rL nL GL _ (pL.mono _) bL) ?_
        simp only [push_cast, Nat.reduceAdd, Nat.reduceMul, Nat.reduceSub, Nat.reduceLeDiff, Nat.reduceLT, Nat.reduceEqDiff, Nat.reduceBEq, Nat.reduceBNe, Nat.reduceMod, Nat.reduceDiv, Int.reduceLE, Int.reduceLT, Int.reduceToNat, Int.reduceAdd, Int.reduceSub, Int.reduceMul, Int.reduceNeg, Int.reduceEq, Int.reduceBEq, Int.reduceBNe, ↓reduceIte, reduceCtorEq, String.reduceBNe, String.reduceEq, reduceDIte, Nat.reducePow, hd0, hd, hz, hz2, u8l_len, catL_len, catV_len, tS, tF, bz, Nat.le_refl]
        refine DExt.by (by first | rfl | (simp only [List.append_assoc, List.cons_append, List.nil_append]; rfl)) ?_
        simp only [push_cast, Nat.reduceAdd, Nat.reduceMul, Nat.reduceSub, Nat.reduceLeDiff, Nat.reduceLT, Nat.reduceEqDiff, Nat.reduceBEq, Nat.reduceBNe, Nat.reduceMod, Nat.reduceDiv, Int.reduceLE, Int.reduceLT, Int.reduceToNat, Int.reduceAdd, Int.reduceSub, Int.reduceMul, Int.reduceNeg, Int.reduceEq, Int.reduceBEq, Int.reduceBNe, ↓reduceIte, reduceCtorEq, String.reduceBNe, String.reduceEq, reduceDIte, Nat.reducePow, hd0, hd, hz, hz2, u8l_len, catL_len, catV_len, tS, tF, bz, Nat.le_refl]
        refine DCall.by (bytesB_c W H rL nL rD nD rN nN rB nB rS nS rF nF GL GN GB fD fS fF _ (pL.mono _) (pD.mono _) (pN.mono _) (pB.mono _) (pS.mono _) (pF.mono _) bL bD bN bB bS bF) ?_
        iterate 2
          simp only [push_cast, Nat.reduceAdd, Nat.reduceMul, Nat.reduceSub, Nat.reduceLeDiff, Nat.reduceLT, Nat.reduceEqDiff, Nat.reduceBEq, Nat.reduceBNe, Nat.reduceMod, Nat.reduceDiv, Int.reduceLE, Int.reduceLT, Int.reduceToNat, Int.reduceAdd, Int.reduceSub, Int.reduceMul, Int.reduceNeg, Int.reduceEq, Int.reduceBEq, Int.reduceBNe, ↓reduceIte, reduceCtorEq, String.reduceBNe, String.reduceEq, reduceDIte, Nat.reducePow, hd0, hd, hz, hz2, u8l_len, catL_len, catV_len, tS, tF, bz, Nat.le_refl]
          refine DExt.by (by first | rfl | (simp only [List.append_assoc, List.cons_append, List.nil_append]; rfl)) ?_
        simp only [push_cast, Nat.reduceAdd, Nat.reduceMul, Nat.reduceSub, Nat.reduceLeDiff, Nat.reduceLT, Nat.reduceEqDiff, Nat.reduceBEq, Nat.reduceBNe, Nat.reduceMod, Nat.reduceDiv, Int.reduceLE, Int.reduceLT, Int.reduceToNat, Int.reduceAdd, Int.reduceSub, Int.reduceMul, Int.reduceNeg, Int.reduceEq, Int.reduceBEq, Int.reduceBNe, ↓reduceIte, reduceCtorEq, String.reduceBNe, String.reduceEq, reduceDIte, Nat.reducePow, hd0, hd, hz, hz2, u8l_len, catL_len, catV_len, tS, tF, bz, Nat.le_refl]
        refine Thn_n ?_
        refine hK _ _ ?_
        clear hK K
        refine AW.ret ?_
        refine hQ _ _ _ ?_
        first | refine RetP.drop0 (Or.inr rfl) ?_ ?_ hwf | refine RetP.drop (Or.inr rfl) ?_ ?_ hwf
        · simp only [resA, resOne, resTv, AV.tv, push_cast, Nat.reduceAdd, Nat.reduceMul, Nat.reduceSub, Nat.reduceLeDiff, Nat.reduceLT, Nat.reduceEqDiff, Nat.reduceBEq, Nat.reduceBNe, Nat.reduceMod, Nat.reduceDiv, Int.reduceLE, Int.reduceLT, Int.reduceToNat, Int.reduceAdd, Int.reduceSub, Int.reduceMul, Int.reduceNeg, Int.reduceEq, Int.reduceBEq, Int.reduceBNe, ↓reduceIte, reduceCtorEq, String.reduceBNe, String.reduceEq, reduceDIte, Nat.reducePow, hd0, hd, hz, hz2, u8l_len, catL_len, catV_len, tS, tF, bz, Nat.le_refl]
        · rfl
      · refine DX.run [0, 1, 2, 3, 4, 5, 6, 7, 8, 9, 10, 11, 12, 13, 14, 15, 16, 17, 18, 20, 21, 22, 19, 23, 24, 25, 26, 27, 28, 29, 30, 31, 32, 33, 34, 35, 36, 37, 38, 39, 40, 41, 42, 43, 44] [.ext, .val, .val, .val, .val, .val, .ext, .val, .rd 1, .ext, .ext, .val, .val, .val, .val, .val, .val, .val, .val, .rd 4, .ext, .ext, .ext, .val, .val, .val, .val, .val, .val, .val, .val, .val, .val, .val, .val, .val, .val, .val, .val, .val, .val, .val, .val, .val, .val] (by simp only [permL, reOp, List.idxOf_cons, push_cast, Nat.reduceAdd, Nat.reduceMul, Nat.reduceSub, Nat.reduceLeDiff, Nat.reduceLT, Nat.reduceEqDiff, Nat.reduceBEq, Nat.reduceBNe, Nat.reduceMod, Nat.reduceDiv, Int.reduceLE, Int.reduceLT, Int.reduceToNat, Int.reduceAdd, Int.reduceSub, Int.reduceMul, Int.reduceNeg, Int.reduceEq, Int.reduceBEq, Int.reduceBNe, ↓reduceIte, reduceCtorEq, String.reduceBNe, String.reduceEq, reduceDIte, Nat.reducePow, hd0, hd, hz, hz2, u8l_len, catL_len, catV_len, tS, tF, bz, Nat.le_refl]; first | done | rfl) (by kernel_rfl) ?_
        simp only [push_cast, Nat.reduceAdd, Nat.reduceMul, Nat.reduceSub, Nat.reduceLeDiff, Nat.reduceLT, Nat.reduceEqDiff, Nat.reduceBEq, Nat.reduceBNe, Nat.reduceMod, Nat.reduceDiv, Int.reduceLE, Int.reduceLT, Int.reduceToNat, Int.reduceAdd, Int.reduceSub, Int.reduceMul, Int.reduceNeg, Int.reduceEq, Int.reduceBEq, Int.reduceBNe, ↓reduceIte, reduceCtorEq, String.reduceBNe, String.reduceEq, reduceDIte, Nat.reducePow, hd0, hd, hz, hz2, u8l_len, catL_len, catV_len, tS, tF, bz, Nat.le_refl]
        refine DCall.by0 (awake_c _) ?_
        simp only [push_cast, Nat.reduceAdd, Nat.reduceMul, Nat.reduceSub, Nat.reduceLeDiff, Nat.reduceLT, Nat.reduceEqDiff, Nat.reduceBEq, Nat.reduceBNe, Nat.reduceMod, Nat.reduceDiv, Int.reduceLE, Int.reduceLT, Int.reduceToNat, Int.reduceAdd, Int.reduceSub, Int.reduceMul, Int.reduceNeg, Int.reduceEq, Int.reduceBEq, Int.reduceBNe, ↓reduceIte, reduceCtorEq, String.reduceBNe, String.reduceEq, reduceDIte, Nat.reducePow, hd0, hd, hz, hz2, u8l_len, catL_len, catV_len, tS, tF, bz, Nat.le_refl]
        refine DExt.by (by first | rfl | (simp only [List.append_assoc, List.cons_append, List.nil_append]; rfl)) ?_
        simp only [push_cast, Nat.reduceAdd, Nat.reduceMul, Nat.reduceSub, Nat.reduceLeDiff, Nat.reduceLT, Nat.reduceEqDiff, Nat.reduceBEq, Nat.reduceBNe, Nat.reduceMod, Nat.reduceDiv, Int.reduceLE, Int.reduceLT, Int.reduceToNat, Int.reduceAdd, Int.reduceSub, Int.reduceMul, Int.reduceNeg, Int.reduceEq, Int.reduceBEq, Int.reduceBNe, ↓reduceIte, reduceCtorEq, String.reduceBNe, String.reduceEq, reduceDIte, Nat.reducePow, hd0, hd, hz, hz2, u8l_len, catL_len, catV_len, tS, tF, bz, Nat.le_refl]
        refine DCall.by (sheetB_c W H rL nL GL _ (pL.mono _) bL) ?_
        simp only [push_cast, Nat.reduceAdd, Nat.reduceMul, Nat.reduceSub, Nat.reduceLeDiff, Nat.reduceLT, Nat.reduceEqDiff, Nat.reduceBEq, Nat.reduceBNe, Nat.reduceMod, Nat.reduceDiv, Int.reduceLE, Int.reduceLT, Int.reduceToNat, Int.reduceAdd, Int.reduceSub, Int.reduceMul, Int.reduceNeg, Int.reduceEq, Int.reduceBEq, Int.reduceBNe, ↓reduceIte, reduceCtorEq, String.reduceBNe, String.reduceEq, reduceDIte, Nat.reducePow, hd0, hd, hz, hz2, u8l_len, catL_len, catV_len, tS, tF, bz, Nat.le_refl]
        refine DExt.by (by first | rfl | (simp only [List.append_assoc, List.cons_append, List.nil_append]; rfl)) ?_
        simp only [push_cast, Nat.reduceAdd, Nat.reduceMul, Nat.reduceSub, Nat.reduceLeDiff, Nat.reduceLT, Nat.reduceEqDiff, Nat.reduceBEq, Nat.reduceBNe, Nat.reduceMod, Nat.reduceDiv, Int.reduceLE, Int.reduceLT, Int.reduceToNat, Int.reduceAdd, Int.reduceSub, Int.reduceMul, Int.reduceNeg, Int.reduceEq, Int.reduceBEq, Int.reduceBNe, ↓reduceIte, reduceCtorEq, String.reduceBNe, String.reduceEq, reduceDIte, Nat.reducePow, hd0, hd, hz, hz2, u8l_len, catL_len, catV_len, tS, tF, bz, Nat.le_refl]
        refine DCall.by (bytesB_c W H rL nL rD nD rN nN rB nB rS nS rF nF GL GN GB fD fS fF _ (pL.mono _) (pD.mono _) (pN.mono _) (pB.mono _) (pS.mono _) (pF.mono _) bL bD bN bB bS bF) ?_
        iterate 2
          simp only [push_cast, Nat.reduceAdd, Nat.reduceMul, Nat.reduceSub, Nat.reduceLeDiff, Nat.reduceLT, Nat.reduceEqDiff, Nat.reduceBEq, Nat.reduceBNe, Nat.reduceMod, Nat.reduceDiv, Int.reduceLE, Int.reduceLT, Int.reduceToNat, Int.reduceAdd, Int.reduceSub, Int.reduceMul, Int.reduceNeg, Int.reduceEq, Int.reduceBEq, Int.reduceBNe, ↓reduceIte, reduceCtorEq, String.reduceBNe, String.reduceEq, reduceDIte, Nat.reducePow, hd0, hd, hz, hz2, u8l_len, catL_len, catV_len, tS, tF, bz, Nat.le_refl]
          refine DExt.by (by first | rfl | (simp only [List.append_assoc, List.cons_append, List.nil_append]; rfl)) ?_
        simp only [push_cast, Nat.reduceAdd, Nat.reduceMul, Nat.reduceSub, Nat.reduceLeDiff, Nat.reduceLT, Nat.reduceEqDiff, Nat.reduceBEq, Nat.reduceBNe, Nat.reduceMod, Nat.reduceDiv, Int.reduceLE, Int.reduceLT, Int.reduceToNat, Int.reduceAdd, Int.reduceSub, Int.reduceMul, Int.reduceNeg, Int.reduceEq, Int.reduceBEq, Int.reduceBNe, ↓reduceIte, reduceCtorEq, String.reduceBNe, String.reduceEq, reduceDIte, Nat.reducePow, hd0, hd, hz, hz2, u8l_len, catL_len, catV_len, tS, tF, bz, Nat.le_refl]
        refine Thn_n ?_
        refine hK _ _ ?_
        clear hK K
        refine AW.ret ?_
        refine hQ _ _ _ ?_
        first | refine RetP.drop0 (Or.inr rfl) ?_ ?_ hwf | refine RetP.drop (Or.inr rfl) ?_ ?_ hwf
        · simp only [resA, resOne, resTv, AV.tv, push_cast, Nat.reduceAdd, Nat.reduceMul, Nat.reduceSub, Nat.reduceLeDiff, Nat.reduceLT, Nat.reduceEqDiff, Nat.reduceBEq, Nat.reduceBNe, Nat.reduceMod, Nat.reduceDiv, Int.reduceLE, Int.reduceLT, Int.reduceToNat, Int.reduceAdd, Int.reduceSub, Int.reduceMul, Int.reduceNeg, Int.reduceEq, Int.reduceBEq, Int.reduceBNe, ↓reduceIte, reduceCtorEq, String.reduceBNe, String.reduceEq, reduceDIte, Nat.reducePow, hd0, hd, hz, hz2, u8l_len, catL_len, catV_len, tS, tF, bz, Nat.le_refl]
        · rfl
  · refine DX.split 6 10 (by decide) ?_ ?_
    · refine DX.split 19 21 (by decide) ?_ ?_
      · refine DX.run [0, 1, 2, 3, 4, 5, 7, 8, 9, 6, 10, 11, 12, 13, 14, 15, 16, 17, 18, 19, 20, 21, 22, 23, 24, 25, 26, 27, 28, 29, 30, 31, 32, 33, 34, 35, 36, 37, 38, 39, 40, 41, 42, 43, 44] [.ext, .val, .val, .val, .val, .val, .val, .rd 1, .ext, .ext, .ext, .val, .val, .val, .val, .val, .val, .val, .val, .ext, .rd 4, .ext, .ext, .val, .val, .val, .val, .val, .val, .val, .val, .val, .val, .val, .val, .val, .val, .val, .val, .val, .val, .val, .val, .val, .val] (by simp only [permL, reOp, List.idxOf_cons, push_cast, Nat.reduceAdd, Nat.reduceMul, Nat.reduceSub, Nat.reduceLeDiff, Nat.reduceLT, Nat.reduceEqDiff, Nat.reduceBEq, Nat.reduceBNe, Nat.reduceMod, Nat.reduceDiv, Int.reduceLE, Int.reduceLT, Int.reduceToNat, Int.reduceAdd, Int.reduceSub, Int.reduceMul, Int.reduceNeg, Int.reduceEq, Int.reduceBEq, Int.reduceBNe, ↓reduceIte, reduceCtorEq, String.reduceBNe, String.reduceEq, reduceDIte, Nat.reducePow, hd0, hd, hz, hz2, u8l_len, catL_len, catV_len, tS, tF, bz, Nat.le_refl]; first | done | rfl) (by kernel_rfl) ?_
        simp only [push_cast, Nat.reduceAdd, Nat.reduceMul, Nat.reduceSub, Nat.reduceLeDiff, Nat.reduceLT, Nat.reduceEqDiff, Nat.reduceBEq, Nat.reduceBNe, Nat.reduceMod, Nat.reduceDiv, Int.reduceLE, Int.reduceLT, Int.reduceToNat, Int.reduceAdd, Int.reduceSub, Int.reduceMul, Int.reduceNeg, Int.reduceEq, Int.reduceBEq, Int.reduceBNe, ↓reduceIte, reduceCtorEq, String.reduceBNe, String.reduceEq, reduceDIte, Nat.reducePow, hd0, hd, hz, hz2, u8l_len, catL_len, catV_len, tS, tF, bz, Nat.le_refl]
        refine DCall.by0 (awake_c _) ?_
        simp only [push_cast, Nat.reduceAdd, Nat.reduceMul, Nat.reduceSub, Nat.reduceLeDiff, Nat.reduceLT, Nat.reduceEqDiff, Nat.reduceBEq, Nat.reduceBNe, Nat.reduceMod, Nat.reduceDiv, Int.reduceLE, Int.reduceLT, Int.reduceToNat, Int.reduceAdd, Int.reduceSub, Int.reduceMul, Int.reduceNeg, Int.reduceEq, Int.reduceBEq, Int.reduceBNe, ↓reduceIte, reduceCtorEq, String.reduceBNe, String.reduceEq, reduceDIte, Nat.reducePow, hd0, hd, hz, hz2, u8l_len, catL_len, catV_len, tS, tF, bz, Nat.le_refl]
        refine DCall.by (sheetB_c W H rL nL GL _ (pL.mono _) bL) ?_
        iterate 3
          simp only [push_cast, Nat.reduceAdd, Nat.reduceMul, Nat.reduceSub, Nat.reduceLeDiff, Nat.reduceLT, Nat.reduceEqDiff, Nat.reduceBEq, Nat.reduceBNe, Nat.reduceMod, Nat.reduceDiv, Int.reduceLE, Int.reduceLT, Int.reduceToNat, Int.reduceAdd, Int.reduceSub, Int.reduceMul, Int.reduceNeg, Int.reduceEq, Int.reduceBEq, Int.reduceBNe, ↓reduceIte, reduceCtorEq, String.reduceBNe, String.reduceEq, reduceDIte, Nat.reducePow, hd0, hd, hz, hz2, u8l_len, catL_len, catV_len, tS, tF, bz, Nat.le_refl]
          refine DExt.by (by first | rfl | (simp only [List.append_assoc, List.cons_append, List.nil_append]; rfl)) ?_
        simp only [push_cast, Nat.reduceAdd, Nat.reduceMul, Nat.reduceSub, Nat.reduceLeDiff, Nat.reduceLT, Nat.reduceEqDiff, Nat.reduceBEq, Nat.reduceBNe, Nat.reduceMod, Nat.reduceDiv, Int.reduceLE, Int.reduceLT, Int.reduceToNat, Int.reduceAdd, Int.reduceSub, Int.reduceMul, Int.reduceNeg, Int.reduceEq, Int.reduceBEq, Int.reduceBNe, ↓reduceIte, reduceCtorEq, String.reduceBNe, String.reduceEq, reduceDIte, Nat.reducePow, hd0, hd, hz, hz2, u8l_len, catL_len, catV_len, tS, tF, bz, Nat.le_refl]
        refine DCall.by (bytesB_c W H rL nL rD nD rN nN rB nB rS nS rF nF GL GN GB fD fS fF _ (pL.mono _) (pD.mono _) (pN.mono _) (pB.mono _) (pS.mono _) (pF.mono _) bL bD bN bB bS bF) ?_
        simp only [push_cast, Nat.reduceAdd, Nat.reduceMul, Nat.reduceSub, Nat.reduceLeDiff, Nat.reduceLT, Nat.reduceEqDiff, Nat.reduceBEq, Nat.reduceBNe, Nat.reduceMod, Nat.reduceDiv, Int.reduceLE, Int.reduceLT, Int.reduceToNat, Int.reduceAdd, Int.reduceSub, Int.reduceMul, Int.reduceNeg, Int.reduceEq, Int.reduceBEq, Int.reduceBNe, ↓reduceIte, reduceCtorEq, String.reduceBNe, String.reduceEq, reduceDIte, Nat.reducePow, hd0, hd, hz, hz2, u8l_len, catL_len, catV_len, tS, tF, bz, Nat.le_refl]
        refine DExt.by (by first | rfl | (simp only [List.append_assoc, List.cons_append, List.nil_append]; rfl)) ?_
        simp only [push_cast, Nat.reduceAdd, Nat.reduceMul, Nat.reduceSub, Nat.reduceLeDiff, Nat.reduceLT, Nat.reduceEqDiff, Nat.reduceBEq, Nat.reduceBNe, Nat.reduceMod, Nat.reduceDiv, Int.reduceLE, Int.reduceLT, Int.reduceToNat, Int.reduceAdd, Int.reduceSub, Int.reduceMul, Int.reduceNeg, Int.reduceEq, Int.reduceBEq, Int.reduceBNe, ↓reduceIte, reduceCtorEq, String.reduceBNe, String.reduceEq, reduceDIte, Nat.reducePow, hd0, hd, hz, hz2, u8l_len, catL_len, catV_len, tS, tF, bz, Nat.le_refl]
        refine Thn_n ?_
        refine hK _ _ ?_
        clear hK K
        refine AW.ret ?_
        refine hQ _ _ _ ?_
        first | refine RetP.drop0 (Or.inr rfl) ?_ ?_ hwf | refine RetP.drop (Or.inr rfl) ?_ ?_ hwf
        · simp only [resA, resOne, resTv, AV.tv, push_cast, Nat.reduceAdd, Nat.reduceMul, Nat.reduceSub, Nat.reduceLeDiff, Nat.reduceLT, Nat.reduceEqDiff, Nat.reduceBEq, Nat.reduceBNe, Nat.reduceMod, Nat.reduceDiv, Int.reduceLE, Int.reduceLT, Int.reduceToNat, Int.reduceAdd, Int.reduceSub, Int.reduceMul, Int.reduceNeg, Int.reduceEq, Int.reduceBEq, Int.reduceBNe, ↓reduceIte, reduceCtorEq, String.reduceBNe, String.reduceEq, reduceDIte, Nat.reducePow, hd0, hd, hz, hz2, u8l_len, catL_len, catV_len, tS, tF, bz, Nat.le_refl]
        · rfl
      · refine DX.split 19 22 (by decide) ?_ ?_
        · refine DX.run [0, 1, 2, 3, 4, 5, 7, 8, 9, 6, 10, 11, 12, 13, 14, 15, 16, 17, 18, 20, 21, 19, 22, 23, 24, 25, 26, 27, 28, 29, 30, 31, 32, 33, 34, 35, 36, 37, 38, 39, 40, 41, 42, 43, 44] [.ext, .val, .val, .val, .val, .val, .val, .rd 1, .ext, .ext, .ext, .val, .val, .val, .val, .val, .val, .val, .val, .rd 4, .ext, .ext, .ext, .val, .val, .val, .val, .val, .val, .val, .val, .val, .val, .val, .val, .val, .val, .val, .val, .val, .val, .val, .val, .val, .val] (by simp only [permL, reOp, List.idxOf_cons, push_cast, Nat.reduceAdd, Nat.reduceMul, Nat.reduceSub, Nat.reduceLeDiff, Nat.reduceLT, Nat.reduceEqDiff, Nat.reduceBEq, Nat.reduceBNe, Nat.reduceMod, Nat.reduceDiv, Int.reduceLE, Int.reduceLT, Int.reduceToNat, Int.reduceAdd, Int.reduceSub, Int.reduceMul, Int.reduceNeg, Int.reduceEq, Int.reduceBEq, Int.reduceBNe, ↓reduceIte, reduceCtorEq, String.reduceBNe, String.reduceEq, reduceDIte, Nat.reducePow, hd0, hd, hz, hz2, u8l_len, catL_len, catV_len, tS, tF, bz, Nat.le_refl]; first | done | rfl) (by kernel_rfl) ?_
          simp only [push_cast, Nat.reduceAdd, Nat.reduceMul, Nat.reduceSub, Nat.reduceLeDiff, Nat.reduceLT, Nat.reduceEqDiff, Nat.reduceBEq, Nat.reduceBNe, Nat.reduceMod, Nat.reduceDiv, Int.reduceLE, Int.reduceLT, Int.reduceToNat, Int.reduceAdd, Int.reduceSub, Int.reduceMul, Int.reduceNeg, Int.reduceEq, Int.reduceBEq, Int.reduceBNe, ↓reduceIte, reduceCtorEq, String.reduceBNe, String.reduceEq, reduceDIte, Nat.reducePow, hd0, hd, hz, hz2, u8l_len, catL_len, catV_len, tS, tF, bz, Nat.le_refl]
          refine DCall.by0 (awake_c _) ?_
          simp only [push_cast, Nat.reduceAdd, Nat.reduceMul, Nat.reduceSub, Nat.reduceLeDiff, Nat.reduceLT, Nat.reduceEqDiff, Nat.reduceBEq, Nat.reduceBNe, Nat.reduceMod, Nat.reduceDiv, Int.reduceLE, Int.reduceLT, Int.reduceToNat, Int.reduceAdd, Int.reduceSub, Int.reduceMul, Int.reduceNeg, Int.reduceEq, Int.reduceBEq, Int.reduceBNe, ↓reduceIte, reduceCtorEq, String.reduceBNe, String.reduceEq, reduceDIte, Nat.reducePow, hd0, hd, hz, hz2, u8l_len, catL_len, catV_len, tS, tF, bz, Nat.le_refl]
          refine DCall.by (sheetB_c W H rL nL GL _ (pL.mono _) bL) ?_
          iterate 2
            simp only [push_cast, Nat.reduceAdd, Nat.reduceMul, Nat.reduceSub, Nat.reduceLeDiff, Nat.reduceLT, Nat.reduceEqDiff, Nat.reduceBEq, Nat.reduceBNe, Nat.reduceMod, Nat.reduceDiv, Int.reduceLE, Int.reduceLT, Int.reduceToNat, Int.reduceAdd, Int.reduceSub, Int.reduceMul, Int.reduceNeg, Int.reduceEq, Int.reduceBEq, Int.reduceBNe, ↓reduceIte, reduceCtorEq, String.reduceBNe, String.reduceEq, reduceDIte, Nat.reducePow, hd0, hd, hz, hz2, u8l_len, catL_len, catV_len, tS, tF, bz, Nat.le_refl]
            refine DExt.by (by first | rfl | (simp only [List.append_assoc, List.cons_append, List.nil_append]; rfl)) ?_
          simp only [push_cast, Nat.reduceAdd, Nat.reduceMul, Nat.reduceSub, Nat.reduceLeDiff, Nat.reduceLT, Nat.reduceEqDiff, Nat.reduceBEq, Nat.reduceBNe, Nat.reduceMod, Nat.reduceDiv, Int.reduceLE, Int.reduceLT, Int.reduceToNat, Int.reduceAdd, Int.reduceSub, Int.reduceMul, Int.reduceNeg, Int.reduceEq, Int.reduceBEq, Int.reduceBNe, ↓reduceIte, reduceCtorEq, String.reduceBNe, String.reduceEq, reduceDIte, Nat.reducePow, hd0, hd, hz, hz2, u8l_len, catL_len, catV_len, tS, tF, bz, Nat.le_refl]
          refine DCall.by (bytesB_c W H rL nL rD nD rN nN rB nB rS nS rF nF GL GN GB fD fS fF _ (pL.mono _) (pD.mono _) (pN.mono _) (pB.mono _) (pS.mono _) (pF.mono _) bL bD bN bB bS bF) ?_
          iterate 2
            simp only [push_cast, Nat.reduceAdd, Nat.reduceMul, Nat.reduceSub, Nat.reduceLeDiff, Nat.reduceLT, Nat.reduceEqDiff, Nat.reduceBEq, Nat.reduceBNe, Nat.reduceMod, Nat.reduceDiv, Int.reduceLE, Int.reduceLT, Int.reduceToNat, Int.reduceAdd, Int.reduceSub, Int.reduceMul, Int.reduceNeg, Int.reduceEq, Int.reduceBEq, Int.reduceBNe, ↓reduceIte, reduceCtorEq, String.reduceBNe, String.reduceEq, reduceDIte, Nat.reducePow, hd0, hd, hz, hz2, u8l_len, catL_len, catV_len, tS, tF, bz, Nat.le_refl]
            refine DExt.by (by first | rfl | (simp only [List.append_assoc, List.cons_append, List.nil_append]; rfl)) ?_
          simp only [push_cast, Nat.reduceAdd, Nat.reduceMul, Nat.reduceSub, Nat.reduceLeDiff, Nat.reduceLT, Nat.reduceEqDiff, Nat.reduceBEq, Nat.reduceBNe, Nat.reduceMod, Nat.reduceDiv, Int.reduceLE, Int.reduceLT, Int.reduceToNat, Int.reduceAdd, Int.reduceSub, Int.reduceMul, Int.reduceNeg, Int.reduceEq, Int.reduceBEq, Int.reduceBNe, ↓reduceIte, reduceCtorEq, String.reduceBNe, String.reduceEq, reduceDIte, Nat.reducePow, hd0, hd, hz, hz2, u8l_len, catL_len, catV_len, tS, tF, bz, Nat.le_refl]
          refine Thn_n ?_
          refine hK _ _ ?_
          clear hK K
          refine AW.ret ?_
          refine hQ _ _ _ ?_
          first | refine RetP.drop0 (Or.inr rfl) ?_ ?_ hwf | refine RetP.drop (Or.inr rfl) ?_ ?_ hwf
          · simp only [resA, resOne, resTv, AV.tv, push_cast, Nat.reduceAdd, Nat.reduceMul, Nat.reduceSub, Nat.reduceLeDiff, Nat.reduceLT, Nat.reduceEqDiff, Nat.reduceBEq, Nat.reduceBNe, Nat.reduceMod, Nat.reduceDiv, Int.reduceLE, Int.reduceLT, Int.reduceToNat, Int.reduceAdd, Int.reduceSub, Int.reduceMul, Int.reduceNeg, Int.reduceEq, Int.reduceBEq, Int.reduceBNe, ↓reduceIte, reduceCtorEq, String.reduceBNe, String.reduceEq, reduceDIte, Nat.reducePow, hd0, hd, hz, hz2, u8l_len, catL_len, catV_len, tS, tF, bz, Nat.le_refl]
          · rfl
        · refine DX.run [0, 1, 2, 3, 4, 5, 7, 8, 9, 6, 10, 11, 12, 13, 14, 15, 16, 17, 18, 20, 21, 22, 19, 23, 24, 25, 26, 27, 28, 29, 30, 31, 32, 33, 34, 35, 36, 37, 38, 39, 40, 41, 42, 43, 44] [.ext, .val, .val, .val, .val, .val, .val, .rd 1, .ext, .ext, .ext, .val, .val, .val, .val, .val, .val, .val, .val, .rd 4, .ext, .ext, .ext, .val, .val, .val, .val, .val, .val, .val, .val, .val, .val, .val, .val, .val, .val, .val, .val, .val, .val, .val, .val, .val, .val] (by simp only [permL, reOp, List.idxOf_cons, push_cast, Nat.reduceAdd, Nat.reduceMul, Nat.reduceSub, Nat.reduceLeDiff, Nat.reduceLT, Nat.reduceEqDiff, Nat.reduceBEq, Nat.reduceBNe, Nat.reduceMod, Nat.reduceDiv, Int.reduceLE, Int.reduceLT, Int.reduceToNat, Int.reduceAdd, Int.reduceSub, Int.reduceMul, Int.reduceNeg, Int.reduceEq, Int.reduceBEq, Int.reduceBNe, ↓reduceIte, reduceCtorEq, String.reduceBNe, String.reduceEq, reduceDIte, Nat.reducePow, hd0, hd, hz, hz2, u8l_len, catL_len, catV_len, tS, tF, bz, Nat.le_refl]; first | done | rfl) (by kernel_rfl) ?_
          simp only [push_cast, Nat.reduceAdd, Nat.reduceMul, Nat.reduceSub, Nat.reduceLeDiff, Nat.reduceLT, Nat.reduceEqDiff, Nat.reduceBEq, Nat.reduceBNe, Nat.reduceMod, Nat.reduceDiv, Int.reduceLE, Int.reduceLT, Int.reduceToNat, Int.reduceAdd, Int.reduceSub, Int.reduceMul, Int.reduceNeg, Int.reduceEq, Int.reduceBEq, Int.reduceBNe, ↓reduceIte, reduceCtorEq, String.reduceBNe, String.reduceEq, reduceDIte, Nat.reducePow, hd0, hd, hz, hz2, u8l_len, catL_len, catV_len, tS, tF, bz, Nat.le_refl]
          refine DCall.by0 (awake_c _) ?_
          simp only [push_cast, Nat.reduceAdd, Nat.reduceMul, Nat.reduceSub, Nat.reduceLeDiff, Nat.reduceLT, Nat.reduceEqDiff, Nat.reduceBEq, Nat.reduceBNe, Nat.reduceMod, Nat.reduceDiv, Int.reduceLE, Int.reduceLT, Int.reduceToNat, Int.reduceAdd, Int.reduceSub, Int.reduceMul, Int.reduceNeg, Int.reduceEq, Int.reduceBEq, Int.reduceBNe, ↓reduceIte, reduceCtorEq, String.reduceBNe, String.reduceEq, reduceDIte, Nat.reducePow, hd0, hd, hz, hz2, u8l_len, catL_len, catV_len, tS, tF, bz, Nat.le_refl]
          refine DCall.by (sheetB_c W H rL nL GL _ (pL.mono _) bL) ?_
          iterate 2
            simp only [push_cast, Nat.reduceAdd, Nat.reduceMul, Nat.reduceSub, Nat.reduceLeDiff, Nat.reduceLT, Nat.reduceEqDiff, Nat.reduceBEq, Nat.reduceBNe, Nat.reduceMod, Nat.reduceDiv, Int.reduceLE, Int.reduceLT, Int.reduceToNat, Int.reduceAdd, Int.reduceSub, Int.reduceMul, Int.reduceNeg, Int.reduceEq, Int.reduceBEq, Int.reduceBNe, ↓reduceIte, reduceCtorEq, String.reduceBNe, String.reduceEq, reduceDIte, Nat.reducePow, hd0, hd, hz, hz2, u8l_len, catL_len, catV_len, tS, tF, bz, Nat.le_refl]
            refine DExt.by (by first | rfl | (simp only [List.append_assoc, List.cons_append, List.nil_append]; rfl)) ?_
          simp only [push_cast, Nat.reduceAdd, Nat.reduceMul, Nat.reduceSub, Nat.reduceLeDiff, Nat.reduceLT, Nat.reduceEqDiff, Nat.reduceBEq, Nat.reduceBNe, Nat.reduceMod, Nat.reduceDiv, Int.reduceLE, Int.reduceLT, Int.reduceToNat, Int.reduceAdd, Int.reduceSub, Int.reduceMul, Int.reduceNeg, Int.reduceEq, Int.reduceBEq, Int.reduceBNe, ↓reduceIte, reduceCtorEq, String.reduceBNe, String.reduceEq, reduceDIte, Nat.reducePow, hd0, hd, hz, hz2, u8l_len, catL_len, catV_len, tS, tF, bz, Nat.le_refl]
          refine DCall.by (bytesB_c W H rL nL rD nD rN nN rB nB rS nS rF nF GL GN GB fD fS fF _ (pL.mono _) (pD.mono _) (pN.mono _) (pB.mono _) (pS.mono _) (pF.mono _) bL bD bN bB bS bF) ?_
          iterate 2
            simp only [push_cast, Nat.reduceAdd, Nat.reduceMul, Nat.reduceSub, Nat.reduceLeDiff, Nat.reduceLT, Nat.reduceEqDiff, Nat.reduceBEq, Nat.reduceBNe, Nat.reduceMod, Nat.reduceDiv, Int.reduceLE, Int.reduceLT, Int.reduceToNat, Int.reduceAdd, Int.reduceSub, Int.reduceMul, Int.reduceNeg, Int.reduceEq, Int.reduceBEq, Int.reduceBNe, ↓reduceIte, reduceCtorEq, String.reduceBNe, String.reduceEq, reduceDIte, Nat.reducePow, hd0, hd, hz, hz2, u8l_len, catL_len, catV_len, tS, tF, bz, Nat.le_refl]
            refine DExt.by (by first | rfl | (simp only [List.append_assoc, List.cons_append, List.nil_append]; rfl)) ?_
          simp only [push_cast, Nat.reduceAdd, Nat.reduceMul, Nat.reduceSub, Nat.reduceLeDiff, Nat.reduceLT, Nat.reduceEqDiff, Nat.reduceBEq, Nat.reduceBNe, Nat.reduceMod, Nat.reduceDiv, Int.reduceLE, Int.reduceLT, Int.reduceToNat, Int.reduceAdd, Int.reduceSub, Int.reduceMul, Int.reduceNeg, Int.reduceEq, Int.reduceBEq, Int.reduceBNe, ↓reduceIte, reduceCtorEq, String.reduceBNe, String.reduceEq, reduceDIte, Nat.reducePow, hd0, hd, hz, hz2, u8l_len, catL_len, catV_len, tS, tF, bz, Nat.le_refl]
          refine Thn_n ?_
          refine hK _ _ ?_
          clear hK K
          refine AW.ret ?_
          refine hQ _ _ _ ?_
          first | refine RetP.drop0 (Or.inr rfl) ?_ ?_ hwf | refine RetP.drop (Or.inr rfl) ?_ ?_ hwf
          · simp only [resA, resOne, resTv, AV.tv, push_cast, Nat.reduceAdd, Nat.reduceMul, Nat.reduceSub, Nat.reduceLeDiff, Nat.reduceLT, Nat.reduceEqDiff, Nat.reduceBEq, Nat.reduceBNe, Nat.reduceMod, Nat.reduceDiv, Int.reduceLE, Int.reduceLT, Int.reduceToNat, Int.reduceAdd, Int.reduceSub, Int.reduceMul, Int.reduceNeg, Int.reduceEq, Int.reduceBEq, Int.reduceBNe, ↓reduceIte, reduceCtorEq, String.reduceBNe, String.reduceEq, reduceDIte, Nat.reducePow, hd0, hd, hz, hz2, u8l_len, catL_len, catV_len, tS, tF, bz, Nat.le_refl]
          · rfl
    · refine DX.split 19 21 (by decide) ?_ ?_
      · refine DX.run [0, 1, 2, 3, 4, 5, 7, 8, 9, 10, 6, 11, 12, 13, 14, 15, 16, 17, 18, 19, 20, 21, 22, 23, 24, 25, 26, 27, 28, 29, 30, 31, 32, 33, 34, 35, 36, 37, 38, 39, 40, 41, 42, 43, 44] [.ext, .val, .val, .val, .val, .val, .val, .rd 1, .ext, .ext, .ext, .val, .val, .val, .val, .val, .val, .val, .val, .ext, .rd 4, .ext, .ext, .val, .val, .val, .val, .val, .val, .val, .val, .val, .val, .val, .val, .val, .val, .val, .val, .val, .val, .val, .val, .val, .val] (by simp only [permL, reOp, List.idxOf_cons, push_cast, Nat.reduceAdd, Nat.reduceMul, Nat.reduceSub, Nat.reduceLeDiff, Nat.reduceLT, Nat.reduceEqDiff, Nat.reduceBEq, Nat.reduceBNe, Nat.reduceMod, Nat.reduceDiv, Int.reduceLE, Int.reduceLT, Int.reduceToNat, Int.reduceAdd, Int.reduceSub, Int.reduceMul, Int.reduceNeg, Int.reduceEq, Int.reduceBEq, Int.reduceBNe, ↓reduceIte, reduceCtorEq, String.reduceBNe, String.reduceEq, reduceDIte, Nat.reducePow, hd0, hd, hz, hz2, u8l_len, catL_len, catV_len, tS, tF, bz, Nat.le_refl]; first | done | rfl) (by kernel_rfl) ?_
        simp only [push_cast, Nat.reduceAdd, Nat.reduceMul, Nat.reduceSub, Nat.reduceLeDiff, Nat.reduceLT, Nat.reduceEqDiff, Nat.reduceBEq, Nat.reduceBNe, Nat.reduceMod, Nat.reduceDiv, Int.reduceLE, Int.reduceLT, Int.reduceToNat, Int.reduceAdd, Int.reduceSub, Int.reduceMul, Int.reduceNeg, Int.reduceEq, Int.reduceBEq, Int.reduceBNe, ↓reduceIte, reduceCtorEq, String.reduceBNe, String.reduceEq, reduceDIte, Nat.reducePow, hd0, hd, hz, hz2, u8l_len, catL_len, catV_len, tS, tF, bz, Nat.le_refl]
        refine DCall.by0 (awake_c _) ?_
        simp only [push_cast, Nat.reduceAdd, Nat.reduceMul, Nat.reduceSub, Nat.reduceLeDiff, Nat.reduceLT, Nat.reduceEqDiff, Nat.reduceBEq, Nat.reduceBNe, Nat.reduceMod, Nat.reduceDiv, Int.reduceLE, Int.reduceLT, Int.reduceToNat, Int.reduceAdd, Int.reduceSub, Int.reduceMul, Int.reduceNeg, Int.reduceEq, Int.reduceBEq, Int.reduceBNe, ↓reduceIte, reduceCtorEq, String.reduceBNe, String.reduceEq, reduceDIte, Nat.reducePow, hd0, hd, hz, hz2, u8l_len, catL_len, catV_len, tS, tF, bz, Nat.le_refl]
        refine DCall.by (sheetB_c W H rL nL GL _ (pL.mono _) bL) ?_
        iterate 3
          simp only [push_cast, Nat.reduceAdd, Nat.reduceMul, Nat.reduceSub, Nat.reduceLeDiff, Nat.reduceLT, Nat.reduceEqDiff, Nat.reduceBEq, Nat.reduceBNe, Nat.reduceMod, Nat.reduceDiv, Int.reduceLE, Int.reduceLT, Int.reduceToNat, Int.reduceAdd, Int.reduceSub, Int.reduceMul, Int.reduceNeg, Int.reduceEq, Int.reduceBEq, Int.reduceBNe, ↓reduceIte, reduceCtorEq, String.reduceBNe, String.reduceEq, reduceDIte, Nat.reducePow, hd0, hd, hz, hz2, u8l_len, catL_len, catV_len, tS, tF, bz, Nat.le_refl]
          refine DExt.by (by first | rfl | (simp only [List.append_assoc, List.cons_append, List.nil_append]; rfl)) ?_
        simp only [push_cast, Nat.reduceAdd, Nat.reduceMul, Nat.reduceSub, Nat.reduceLeDiff, Nat.reduceLT, Nat.reduceEqDiff, Nat.reduceBEq, Nat.reduceBNe, Nat.reduceMod, Nat.reduceDiv, Int.reduceLE, Int.reduceLT, Int.reduceToNat, Int.reduceAdd, Int.reduceSub, Int.reduceMul, Int.reduceNeg, Int.reduceEq, Int.reduceBEq, Int.reduceBNe, ↓reduceIte, reduceCtorEq, String.reduceBNe, String.reduceEq, reduceDIte, Nat.reducePow, hd0, hd, hz, hz2, u8l_len, catL_len, catV_len, tS, tF, bz, Nat.le_refl]
        refine DCall.by (bytesB_c W H rL nL rD nD rN nN rB nB rS nS rF nF GL GN GB fD fS fF _ (pL.mono _) (pD.mono _) (pN.mono _) (pB.mono _) (pS.mono _) (pF.mono _) bL bD bN bB bS bF) ?_
        simp only [push_cast, Nat.reduceAdd, Nat.reduceMul, Nat.reduceSub, Nat.reduceLeDiff, Nat.reduceLT, Nat.reduceEqDiff, Nat.reduceBEq, Nat.reduceBNe, Nat.reduceMod, Nat.reduceDiv, Int.reduceLE, Int.reduceLT, Int.reduceToNat, Int.reduceAdd, Int.reduceSub, Int.reduceMul, Int.reduceNeg, Int.reduceEq, Int.reduceBEq, Int.reduceBNe, ↓reduceIte, reduceCtorEq, String.reduceBNe, String.reduceEq, reduceDIte, Nat.reducePow, hd0, hd, hz, hz2, u8l_len, catL_len, catV_len, tS, tF, bz, Nat.le_refl]
        refine DExt.by (by first | rfl | (simp only [List.append_assoc, List.cons_append, List.nil_append]; rfl)) ?_
        simp only [push_cast, Nat.reduceAdd, Nat.reduceMul, Nat.reduceSub, Nat.reduceLeDiff, Nat.reduceLT, Nat.reduceEqDiff, Nat.reduceBEq, Nat.reduceBNe, Nat.reduceMod, Nat.reduceDiv, Int.reduceLE, Int.reduceLT, Int.reduceToNat, Int.reduceAdd, Int.reduceSub, Int.reduceMul, Int.reduceNeg, Int.reduceEq, Int.reduceBEq, Int.reduceBNe, ↓reduceIte, reduceCtorEq, String.reduceBNe, String.reduceEq, reduceDIte, Nat.reducePow, hd0, hd, hz, hz2, u8l_len, catL_len, catV_len, tS, tF, bz, Nat.le_refl]
        refine Thn_n ?_
        refine hK _ _ ?_
        clear hK K
        refine AW.ret ?_
        refine hQ _ _ _ ?_
        first | refine RetP.drop0 (Or.inr rfl) ?_ ?_ hwf | refine RetP.drop (Or.inr rfl) ?_ ?_ hwf
        · simp only [resA, resOne, resTv, AV.tv, push_cast, Nat.reduceAdd, Nat.reduceMul, Nat.reduceSub, Nat.reduceLeDiff, Nat.reduceLT, Nat.reduceEqDiff, Nat.reduceBEq, Nat.reduceBNe, Nat.reduceMod, Nat.reduceDiv, Int.reduceLE, Int.reduceLT, Int.reduceToNat, Int.reduceAdd, Int.reduceSub, Int.reduceMul, Int.reduceNeg, Int.reduceEq, Int.reduceBEq, Int.reduceBNe, ↓reduceIte, reduceCtorEq, String.reduceBNe, String.reduceEq, reduceDIte, Nat.reducePow, hd0, hd, hz, hz2, u8l_len, catL_len, catV_len, tS, tF, bz, Nat.le_refl]
        · rfl
      · refine DX.split 19 22 (by decide) ?_ ?_
        · refine DX.run [0, 1, 2, 3, 4, 5, 7, 8, 9, 10, 6, 11, 12, 13, 14, 15, 16, 17, 18, 20, 21, 19, 22, 23, 24, 25, 26, 27, 28, 29, 30, 31, 32, 33, 34, 35, 36, 37, 38, 39, 40, 41, 42, 43, 44] [.ext, .val, .val, .val, .val, .val, .val, .rd 1, .ext, .ext, .ext, .val, .val, .val, .val, .val, .val, .val, .val, .rd 4, .ext, .ext, .ext, .val, .val, .val, .val, .val, .val, .val, .val, .val, .val, .val, .val, .val, .val, .val, .val, .val, .val, .val, .val, .val, .val] (by simp only [permL, reOp, List.idxOf_cons, push_cast, Nat.reduceAdd, Nat.reduceMul, Nat.reduceSub, Nat.reduceLeDiff, Nat.reduceLT, Nat.reduceEqDiff, Nat.reduceBEq, Nat.reduceBNe, Nat.reduceMod, Nat.reduceDiv, Int.reduceLE, Int.reduceLT, Int.reduceToNat, Int.reduceAdd, Int.reduceSub, Int.reduceMul, Int.reduceNeg, Int.reduceEq, Int.reduceBEq, Int.reduceBNe, ↓reduceIte, reduceCtorEq, String.reduceBNe, String.reduceEq, reduceDIte, Nat.reducePow, hd0, hd, hz, hz2, u8l_len, catL_len, catV_len, tS, tF, bz, Nat.le_refl]; first | done | rfl) (by kernel_rfl) ?_
          simp only [push_cast, Nat.reduceAdd, Nat.reduceMul, Nat.reduceSub, Nat.reduceLeDiff, Nat.reduceLT, Nat.reduceEqDiff, Nat.reduceBEq, Nat.reduceBNe, Nat.reduceMod, Nat.reduceDiv, Int.reduceLE, Int.reduceLT, Int.reduceToNat, Int.reduceAdd, Int.reduceSub, Int.reduceMul, Int.reduceNeg, Int.reduceEq, Int.reduceBEq, Int.reduceBNe, ↓reduceIte, reduceCtorEq, String.reduceBNe, String.reduceEq, reduceDIte, Nat.reducePow, hd0, hd, hz, hz2, u8l_len, catL_len, catV_len, tS, tF, bz, Nat.le_refl]
          refine DCall.by0 (awake_c _) ?_
          simp only [push_cast, Nat.reduceAdd, Nat.reduceMul, Nat.reduceSub, Nat.reduceLeDiff, Nat.reduceLT, Nat.reduceEqDiff, Nat.reduceBEq, Nat.reduceBNe, Nat.reduceMod, Nat.reduceDiv, Int.reduceLE, Int.reduceLT, Int.reduceToNat, Int.reduceAdd, Int.reduceSub, Int.reduceMul, Int.reduceNeg, Int.reduceEq, Int.reduceBEq, Int.reduceBNe, ↓reduceIte, reduceCtorEq, String.reduceBNe, String.reduceEq, reduceDIte, Nat.reducePow, hd0, hd, hz, hz2, u8l_len, catL_len, catV_len, tS, tF, bz, Nat.le_refl]
          refine DCall.by (sheetB_c W H rL nL GL _ (pL.mono _) bL) ?_
          iterate 2
            simp only [push_cast, Nat.reduceAdd, Nat.reduceMul, Nat.reduceSub, Nat.reduceLeDiff, Nat.reduceLT, Nat.reduceEqDiff, Nat.reduceBEq, Nat.reduceBNe, Nat.reduceMod, Nat.reduceDiv, Int.reduceLE, Int.reduceLT, Int.reduceToNat, Int.reduceAdd, Int.reduceSub, Int.reduceMul, Int.reduceNeg, Int.reduceEq, Int.reduceBEq, Int.reduceBNe, ↓reduceIte, reduceCtorEq, String.reduceBNe, String.reduceEq, reduceDIte, Nat.reducePow, hd0, hd, hz, hz2, u8l_len, catL_len, catV_len, tS, tF, bz, Nat.le_refl]
            refine DExt.by (by first | rfl | (simp only [List.append_assoc, List.cons_append, List.nil_append]; rfl)) ?_
          simp only [push_cast, Nat.reduceAdd, Nat.reduceMul, Nat.reduceSub, Nat.reduceLeDiff, Nat.reduceLT, Nat.reduceEqDiff, Nat.reduceBEq, Nat.reduceBNe, Nat.reduceMod, Nat.reduceDiv, Int.reduceLE, Int.reduceLT, Int.reduceToNat, Int.reduceAdd, Int.reduceSub, Int.reduceMul, Int.reduceNeg, Int.reduceEq, Int.reduceBEq, Int.reduceBNe, ↓reduceIte, reduceCtorEq, String.reduceBNe, String.reduceEq, reduceDIte, Nat.reducePow, hd0, hd, hz, hz2, u8l_len, catL_len, catV_len, tS, tF, bz, Nat.le_refl]
          refine DCall.by (bytesB_c W H rL nL rD nD rN nN rB nB rS nS rF nF GL GN GB fD fS fF _ (pL.mono _) (pD.mono _) (pN.mono _) (pB.mono _) (pS.mono _) (pF.mono _) bL bD bN bB bS bF) ?_
          iterate 2
            simp only [push_cast, Nat.reduceAdd, Nat.reduceMul, Nat.reduceSub, Nat.reduceLeDiff, Nat.reduceLT, Nat.reduceEqDiff, Nat.reduceBEq, Nat.reduceBNe, Nat.reduceMod, Nat.reduceDiv, Int.reduceLE, Int.reduceLT, Int.reduceToNat, Int.reduceAdd, Int.reduceSub, Int.reduceMul, Int.reduceNeg, Int.reduceEq, Int.reduceBEq, Int.reduceBNe, ↓reduceIte, reduceCtorEq, String.reduceBNe, String.reduceEq, reduceDIte, Nat.reducePow, hd0, hd, hz, hz2, u8l_len, catL_len, catV_len, tS, tF, bz, Nat.le_refl]
            refine DExt.by (by first | rfl | (simp only [List.append_assoc, List.cons_append, List.nil_append]; rfl)) ?_
          simp only [push_cast, Nat.reduceAdd, Nat.reduceMul, Nat.reduceSub, Nat.reduceLeDiff, Nat.reduceLT, Nat.reduceEqDiff, Nat.reduceBEq, Nat.reduceBNe, Nat.reduceMod, Nat.reduceDiv, Int.reduceLE, Int.reduceLT, Int.reduceToNat, Int.reduceAdd, Int.reduceSub, Int.reduceMul, Int.reduceNeg, Int.reduceEq, Int.reduceBEq, Int.reduceBNe, ↓reduceIte, reduceCtorEq, String.reduceBNe, String.reduceEq, reduceDIte, Nat.reducePow, hd0, hd, hz, hz2, u8l_len, catL_len, catV_len, tS, tF, bz, Nat.le_refl]
          refine Thn_n ?_
          refine hK _ _ ?_
          clear hK K
          refine AW.ret ?_
          refine hQ _ _ _ ?_
          first | refine RetP.drop0 (Or.inr rfl) ?_ ?_ hwf | refine RetP.drop (Or.inr rfl) ?_ ?_ hwf
          · simp only [resA, resOne, resTv, AV.tv, push_cast, Nat.reduceAdd, Nat.reduceMul, Nat.reduceSub, Nat.reduceLeDiff, Nat.reduceLT, Nat.reduceEqDiff, Nat.reduceBEq, Nat.reduceBNe, Nat.reduceMod, Nat.reduceDiv, Int.reduceLE, Int.reduceLT, Int.reduceToNat, Int.reduceAdd, Int.reduceSub, Int.reduceMul, Int.reduceNeg, Int.reduceEq, Int.reduceBEq, Int.reduceBNe, ↓reduceIte, reduceCtorEq, String.reduceBNe, String.reduceEq, reduceDIte, Nat.reducePow, hd0, hd, hz, hz2, u8l_len, catL_len, catV_len, tS, tF, bz, Nat.le_refl]
          · rfl
        · refine DX.run [0, 1, 2, 3, 4, 5, 7, 8, 9, 10, 6, 11, 12, 13, 14, 15, 16, 17, 18, 20, 21, 22, 19, 23, 24, 25, 26, 27, 28, 29, 30, 31, 32, 33, 34, 35, 36, 37, 38, 39, 40, 41, 42, 43, 44] [.ext, .val, .val, .val, .val, .val, .val, .rd 1, .ext, .ext, .ext, .val, .val, .val, .val, .val, .val, .val, .val, .rd 4, .ext, .ext, .ext, .val, .val, .val, .val, .val, .val, .val, .val, .val, .val, .val, .val, .val, .val, .val, .val, .val, .val, .val, .val, .val, .val] (by simp only [permL, reOp, List.idxOf_cons, push_cast, Nat.reduceAdd, Nat.reduceMul, Nat.reduceSub, Nat.reduceLeDiff, Nat.reduceLT, Nat.reduceEqDiff, Nat.reduceBEq, Nat.reduceBNe, Nat.reduceMod, Nat.reduceDiv, Int.reduceLE, Int.reduceLT, Int.reduceToNat, Int.reduceAdd, Int.reduceSub, Int.reduceMul, Int.reduceNeg, Int.reduceEq, Int.reduceBEq, Int.reduceBNe, ↓reduceIte, reduceCtorEq, String.reduceBNe, String.reduceEq, reduceDIte, Nat.reducePow, hd0, hd, hz, hz2, u8l_len, catL_len, catV_len, tS, tF, bz, Nat.le_refl]; first | done | rfl) (by kernel_rfl) ?_
          simp only [push_cast, Nat.reduceAdd, Nat.reduceMul, Nat.reduceSub, Nat.reduceLeDiff, Nat.reduceLT, Nat.reduceEqDiff, Nat.reduceBEq, Nat.reduceBNe, Nat.reduceMod, Nat.reduceDiv, Int.reduceLE, Int.reduceLT, Int.reduceToNat, Int.reduceAdd, Int.reduceSub, Int.reduceMul, Int.reduceNeg, Int.reduceEq, Int.reduceBEq, Int.reduceBNe, ↓reduceIte, reduceCtorEq, String.reduceBNe, String.reduceEq, reduceDIte, Nat.reducePow, hd0, hd, hz, hz2, u8l_len, catL_len, catV_len, tS, tF, bz, Nat.le_refl]
          refine DCall.by0 (awake_c _) ?_
          simp only [push_cast, Nat.reduceAdd, Nat.reduceMul, Nat.reduceSub, Nat.reduceLeDiff, Nat.reduceLT, Nat.reduceEqDiff, Nat.reduceBEq, Nat.reduceBNe, Nat.reduceMod, Nat.reduceDiv, Int.reduceLE, Int.reduceLT, Int.reduceToNat, Int.reduceAdd, Int.reduceSub, Int.reduceMul, Int.reduceNeg, Int.reduceEq, Int.reduceBEq, Int.reduceBNe, ↓reduceIte, reduceCtorEq, String.reduceBNe, String.reduceEq, reduceDIte, Nat.reducePow, hd0, hd, hz, hz2, u8l_len, catL_len, catV_len, tS, tF, bz, Nat.le_refl]
          refine DCall.by (sheetB_c W H rL nL GL _ (pL.mono _) bL) ?_
          iterate 2
            simp only [push_cast, Nat.reduceAdd, Nat.reduceMul, Nat.reduceSub, Nat.reduceLeDiff, Nat.reduceLT, Nat.reduceEqDiff, Nat.reduceBEq, Nat.reduceBNe, Nat.reduceMod, Nat.reduceDiv, Int.reduceLE, Int.reduceLT, Int.reduceToNat, Int.reduceAdd, Int.reduceSub, Int.reduceMul, Int.reduceNeg, Int.reduceEq, Int.reduceBEq, Int.reduceBNe, ↓reduceIte, reduceCtorEq, String.reduceBNe, String.reduceEq, reduceDIte, Nat.reducePow, hd0, hd, hz, hz2, u8l_len, catL_len, catV_len, tS, tF, bz, Nat.le_refl]
            refine DExt.by (by first | rfl | (simp only [List.append_assoc, List.cons_append, List.nil_append]; rfl)) ?_
          simp only [push_cast, Nat.reduceAdd, Nat.reduceMul, Nat.reduceSub, Nat.reduceLeDiff, Nat.reduceLT, Nat.reduceEqDiff, Nat.reduceBEq, Nat.reduceBNe, Nat.reduceMod, Nat.reduceDiv, Int.reduceLE, Int.reduceLT, Int.reduceToNat, Int.reduceAdd, Int.reduceSub, Int.reduceMul, Int.reduceNeg, Int.reduceEq, Int.reduceBEq, Int.reduceBNe, ↓reduceIte, reduceCtorEq, String.reduceBNe, String.reduceEq, reduceDIte, Nat.reducePow, hd0, hd, hz, hz2, u8l_len, catL_len, catV_len, tS, tF, bz, Nat.le_refl]
          refine DCall.by (bytesB_c W H rL nL rD nD rN nN rB nB rS nS rF nF GL GN GB fD fS fF _ (pL.mono _) (pD.mono _) (pN.mono _) (pB.mono _) (pS.mono _) (pF.mono _) bL bD bN bB bS bF) ?_
          iterate 2
            simp only [push_cast, Nat.reduceAdd, Nat.reduceMul, Nat.reduceSub, Nat.reduceLeDiff, Nat.reduceLT, Nat.reduceEqDiff, Nat.reduceBEq, Nat.reduceBNe, Nat.reduceMod, Nat.reduceDiv, Int.reduceLE, Int.reduceLT, Int.reduceToNat, Int.reduceAdd, Int.reduceSub, Int.reduceMul, Int.reduceNeg, Int.reduceEq, Int.reduceBEq, Int.reduceBNe, ↓reduceIte, reduceCtorEq, String.reduceBNe, String.reduceEq, reduceDIte, Nat.reducePow, hd0, hd, hz, hz2, u8l_len, catL_len, catV_len, tS, tF, bz, Nat.le_refl]
            refine DExt.by (by first | rfl | (simp only [List.append_assoc, List.cons_append, List.nil_append]; rfl)) ?_
          simp only [push_cast, Nat.reduceAdd, Nat.reduceMul, Nat.reduceSub, Nat.reduceLeDiff, Nat.reduceLT, Nat.reduceEqDiff, Nat.reduceBEq, Nat.reduceBNe, Nat.reduceMod, Nat.reduceDiv, Int.reduceLE, Int.reduceLT, Int.reduceToNat, Int.reduceAdd, Int.reduceSub, Int.reduceMul, Int.reduceNeg, Int.reduceEq, Int.reduceBEq, Int.reduceBNe, ↓reduceIte, reduceCtorEq, String.reduceBNe, String.reduceEq, reduceDIte, Nat.reducePow, hd0, hd, hz, hz2, u8l_len, catL_len, catV_len, tS, tF, bz, Nat.le_refl]
          refine Thn_n ?_
          refine hK _ _ ?_
          clear hK K
          refine AW.ret ?_
          refine hQ _ _ _ ?_
          first | refine RetP.drop0 (Or.inr rfl) ?_ ?_ hwf | refine RetP.drop (Or.inr rfl) ?_ ?_ hwf
          · simp only [resA, resOne, resTv, AV.tv, push_cast, Nat.reduceAdd, Nat.reduceMul, Nat.reduceSub, Nat.reduceLeDiff, Nat.reduceLT, Nat.reduceEqDiff, Nat.reduceBEq, Nat.reduceBNe, Nat.reduceMod, Nat.reduceDiv, Int.reduceLE, Int.reduceLT, Int.reduceToNat, Int.reduceAdd, Int.reduceSub, Int.reduceMul, Int.reduceNeg, Int.reduceEq, Int.reduceBEq, Int.reduceBNe, ↓reduceIte, reduceCtorEq, String.reduceBNe, String.reduceEq, reduceDIte, Nat.reducePow, hd0, hd, hz, hz2, u8l_len, catL_len, catV_len, tS, tF, bz, Nat.le_refl]
          · rfl
namespace filmWritesLaw
theorem law (m : AMem) (avs : List AV) (h : All2 (fun t a => goodA Try.prog 1048576 m t a) Try.f4.params.toList avs) : Ctr Try.prog 4 avs m (.one (.bool true)) m := by
  rw [Try.params4] at h
  obtain ⟨a0, l0, rfl, g0, h⟩ := all2_cons h
  obtain rfl := all2_nil h
  obtain ⟨W, H, rL, nL, rD, nD, rN, nN, rB, nB, rS, nS, rF, nF, GL, GN, GB, fD, fS, fF, rfl, ⟨pL, pD, pN, pB, pS, pF⟩, ⟨bL, bD, bN, bB, bS, bF⟩⟩ := film_in g0
  rcases Classical.em (5000 < (nL : Int)) with hd0 | hd0
  · exact writes_big1 W H rL nL rD nD rN nN rB nB rS nS rF nF GL GN GB fD fS fF m pL pD pN pB pS pF bL bD bN bB bS bF hd0
  · rcases Classical.em (5000 < (nS : Int)) with hd | hd
    · exact writes_big2 W H rL nL rD nD rN nN rB nB rS nS rF nF GL GN GB fD fS fF m pL pD pN pB pS pF bL bD bN bB bS bF hd0 hd
    · cases hz : shR W H nL
      · exact writes_a W H rL nL rD nD rN nN rB nB rS nS rF nF GL GN GB fD fS fF m pL pD pN pB pS pF bL bD bN bB bS bF hd0 hd hz (shR_no hz)
      · cases hz2 : filmR W H nL nD nN nB nS nF fS fF
        · exact writes_b W H rL nL rD nD rN nN rB nB rS nS rF nF GL GN GB fD fS fF m pL pD pN pB pS pF bL bD bN bB bS bF hd0 hd hz hz2
        · exact writes_c W H rL nL rD nD rN nN rB nB rS nS rF nF GL GN GB fD fS fF m pL pD pN pB pS pF bL bD bN bB bS bF hd0 hd hz hz2
theorem contract (H : Type) (enc : TypeId × Value → H) (W : World) (base : Nat) (args : Array Value) (ds gs : List (DataW H)) (before : List MemPlace)
    (hval : ∀ (j : Nat) t v, Try.f4.params[j]? = some t → args[j]? = some v → Value.okWide Try.prog W .any base t v)
    (hW : DataW.Whole enc Try.prog Try.f4.params.toList Rows.filmWritesSpec.vars false W args.toList ds gs before) (hk : Rows.uptoSmall H (ds ++ gs) = true) :
    Calls Try.prog 4 args W fun e W' => ∃ v, e = .returned v ∧ Rows.filmWritesSpec.post enc Try.prog Try.f4 false true false false W args v W' := by
  refine law_true (B := 1048576) (bulk := Rows.uptoBulk) rfl ?_ laidOut laid (by kernel_rfl) (tb := 4) rfl Try.underlying4 isBulk (fun d hd => small hk d (List.mem_append_left _ hd)) hval hW fun m avs _ h => law m avs h
  obtain ⟨p, q, hA, _⟩ := hW
  rw [Try.params4] at hA
  rintro l rfl
  obtain ⟨v0, vs0, d0, ds0, p0, q0, _, rfl, _, _, r0⟩ := ChangeShapes.trodAll_cons hA
  obtain ⟨_, rfl, _⟩ := ChangeShapes.trodAll_nil r0
  rfl
theorem lifted (os : Os) (started : os.Started) (H : Type) (enc : TypeId × Value → H) (X : Stop.Interp) :
    ReturnsInHanded {} Try.checked os 4 .any ((Rows.OpenSpec.upto Rows.filmWritesSpec).pre6 enc Try.prog Try.f4 Rows.filmWritesUptoRow.domain false) (((Rows.OpenSpec.upto Rows.filmWritesSpec).at X).post enc Try.prog Try.f4 false true false false) := by
  refine returnsInHanded_of_cond (C := Try.checked) (s := Rows.OpenSpec.upto Rows.filmWritesSpec) (k := Rows.uptoSmall) rfl own started (by kernel_rfl) Try.func4
    (OpenSpec.witness (enc := enc) (C := Try.checked) (s := Rows.OpenSpec.upto Rows.filmWritesSpec) (k := Rows.uptoSmall) rfl false ⟨#[], #[.agg #[.int .i64 0, .int .i64 0, .slice none 0 0, .slice none 0 0, .slice none 0 0, .slice none 0 0, .slice none 0 0, .slice none 0 0]], []⟩ 8 (by kernel_rfl) (by kernel_rfl) (by kernel_rfl)
      (x := ([.agg [.agg [.lit (.int .i64 0), .lit (.int .i64 0), .nil], .nil, .nil, .nil, .nil, .nil]], [], [])) (by kernel_rfl) rfl (by kernel_rfl)) ?_
  intro W base args ds gs before hval hW _ hk _
  exact contract H enc W base args ds gs before hval hW hk
theorem proved : Rows.FilmWritesUptoSaid :=
  OpenClaim.holds_of_cond 4 Try.f4 rfl rfl rfl rfl rfl rfl rfl ⟨rfl, rfl, rfl, rfl, rfl⟩ rfl rfl rfl rfl rfl (by kernel_rfl) Try.func4 (by kernel_rfl)
    (of_decide_eq_true (by kernel_rfl)) (by unfold Func.isWrapper; first | (rw [if_pos (by decide +kernel)]; kernel_rfl) | (rw [if_neg (by decide +kernel)]; exact ⟨rfl, rfl⟩))
    (fun os started H enc _ X => lifted os started H enc X)
end filmWritesLaw
end Go.Proofs.Ytgbehbaecdepjaa
