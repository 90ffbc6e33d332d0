/- Walks and facts of this seat's program over abstract states, printed by programs of mine; no conditions but those that each theorem names. -/
import Derived.Test.YtcahlnddcjifdaaM3
import Derived.Laws.Externs
set_option linter.unusedSimpArgs false
set_option linter.unusedVariables false
set_option maxRecDepth 100000
set_option maxHeartbeats 4000000
namespace Go.Proofs.Ytcahlnddcjifdaa
open Go Go.Eng

theorem spD_S (D : DS) : (spD D).S = D.S := by unfold spD; split <;> rfl
theorem spD_E (D : DS) : (spD D).E = D.E := by unfold spD; split <;> rfl
theorem spD_ck (D : DS) : (spD D).ck = D.ck := by unfold spD; split <;> rfl
theorem spD_down {D : DS} (h : ¬ D.fuse = 0) : (spD D).down = D.down := by unfold spD; rw [if_neg h]
theorem spD_wf {n : Nat} {D : DS} (h : WfD n D) : WfD n (spD D) := ⟨by rw [spD_S]; exact h.s, by rw [spD_E, spD_ck]; exact h.e⟩
def wrD (D : DS) (k : Int) (v : List Int) : DS := { spD D with E := upE D.ck k v D.E, ck := upC D.ck k D.E }
theorem wrD_wf {n : Nat} {D : DS} (h : WfD n D) {k : Int} {v : List Int} (h0 : 0 ≤ k) (hn : k < (n : Int)) (hv : v.length = 128) : WfD n (wrD D k v) := ⟨by show L128 (spD D).S; rw [spD_S]; exact h.s, h.e.up h0 hn hv⟩
theorem setD_dm {m : AMem} {rd rs rm n : Nat} {D : DS} (h : HasD m rd rs rm n D) (D' : DS) (hS : D'.S = D.S) : setD m rd rs rm n D' = (m.set rd (drB rs rm n D')).set rm (mapD D') := by
  unfold setD
  have e : rowD n D' = rowD n D := by unfold rowD; rw [hS]
  rw [set_self (l := m.set rd _) (by rw [List.getElem?_set_ne h.dr, e]; exact h.r)]
theorem setD_d {m : AMem} {rd rs rm n : Nat} {D : DS} (h : HasD m rd rs rm n D) (D' : DS) (hS : D'.S = D.S) (hE : D'.E = D.E) (hc : D'.ck = D.ck) : setD m rd rs rm n D' = m.set rd (drB rs rm n D') := by
  rw [setD_dm h D' hS]
  have e : mapD D' = mapD D := by unfold mapD; rw [hE, hc]
  rw [set_self (l := m.set rd _) (by rw [List.getElem?_set_ne h.dm, e]; exact h.m)]
theorem wr_nil (x : Int) (v : List Int) (m : AMem) : Ctr Try.prog 8 [.one .nilp, .one (.int .i64 x), .agg (u8l v)] m (.one (.int .i64 2)) m := by
  refine Ctr.enter Try.func8 rfl (by decide) (rs := [.tmp 6]) (nt := 25) rfl rfl fun hwf Q hQ => ?_
  refine AW.seq_k fun K hK => ?_
  refine AW.region (by decide) ?_
  simp only [push_cast, Nat.reduceAdd, Nat.reduceMul, Nat.reduceSub, Nat.reduceLeDiff, Nat.reduceLT, Nat.reduceEqDiff, Nat.reduceBEq, Nat.reduceBNe, Nat.reduceMod, Nat.reduceDiv, Int.reduceLE, Int.reduceLT, Int.reduceToNat, Int.reduceAdd, Int.reduceSub, Int.reduceMul, Int.reduceNeg, Int.reduceEq, Int.reduceBEq, Int.reduceBNe, ↓reduceIte, reduceCtorEq, String.reduceBNe, String.reduceEq, reduceDIte, Nat.reducePow]
  refine Thn_n ?_
  refine hK _ _ ?_
  clear hK K
  refine AW.seq_k fun K hK => ?_
  refine AW.seq_k fun K hK => ?_
  refine AW.region (by decide) ?_
  simp only [push_cast, Nat.reduceAdd, Nat.reduceMul, Nat.reduceSub, Nat.reduceLeDiff, Nat.reduceLT, Nat.reduceEqDiff, Nat.reduceBEq, Nat.reduceBNe, Nat.reduceMod, Nat.reduceDiv, Int.reduceLE, Int.reduceLT, Int.reduceToNat, Int.reduceAdd, Int.reduceSub, Int.reduceMul, Int.reduceNeg, Int.reduceEq, Int.reduceBEq, Int.reduceBNe, ↓reduceIte, reduceCtorEq, String.reduceBNe, String.reduceEq, reduceDIte, Nat.reducePow]
  refine CThen.by (in_nil x _) ?_
  simp only [push_cast, Nat.reduceAdd, Nat.reduceMul, Nat.reduceSub, Nat.reduceLeDiff, Nat.reduceLT, Nat.reduceEqDiff, Nat.reduceBEq, Nat.reduceBNe, Nat.reduceMod, Nat.reduceDiv, Int.reduceLE, Int.reduceLT, Int.reduceToNat, Int.reduceAdd, Int.reduceSub, Int.reduceMul, Int.reduceNeg, Int.reduceEq, Int.reduceBEq, Int.reduceBNe, ↓reduceIte, reduceCtorEq, String.reduceBNe, String.reduceEq, reduceDIte, Nat.reducePow]
  refine Thn_n ?_
  refine hK _ _ ?_
  clear hK K
  refine AW.seq_k fun K hK => ?_
  refine AW.region (by decide) ?_
  simp only [push_cast, Nat.reduceAdd, Nat.reduceMul, Nat.reduceSub, Nat.reduceLeDiff, Nat.reduceLT, Nat.reduceEqDiff, Nat.reduceBEq, Nat.reduceBNe, Nat.reduceMod, Nat.reduceDiv, Int.reduceLE, Int.reduceLT, Int.reduceToNat, Int.reduceAdd, Int.reduceSub, Int.reduceMul, Int.reduceNeg, Int.reduceEq, Int.reduceBEq, Int.reduceBNe, ↓reduceIte, reduceCtorEq, String.reduceBNe, String.reduceEq, reduceDIte, Nat.reducePow]
  refine Thn_n ?_
  refine hK _ _ ?_
  clear hK K
  refine AW.cond_t rfl ?_
  refine AW.seq_k fun K hK => ?_
  refine AW.region (by decide) ?_
  simp only [push_cast, Nat.reduceAdd, Nat.reduceMul, Nat.reduceSub, Nat.reduceLeDiff, Nat.reduceLT, Nat.reduceEqDiff, Nat.reduceBEq, Nat.reduceBNe, Nat.reduceMod, Nat.reduceDiv, Int.reduceLE, Int.reduceLT, Int.reduceToNat, Int.reduceAdd, Int.reduceSub, Int.reduceMul, Int.reduceNeg, Int.reduceEq, Int.reduceBEq, Int.reduceBNe, ↓reduceIte, reduceCtorEq, String.reduceBNe, String.reduceEq, reduceDIte, Nat.reducePow]
  refine Thn_n ?_
  refine hK _ _ ?_
  clear hK K
  refine AW.ret ?_
  refine Thn_r ?_
  refine hQ _ _ _ ?_
  first | refine RetP.drop0 (Or.inr rfl) ?_ ?_ hwf | refine RetP.drop (Or.inr rfl) ?_ ?_ hwf
  · simp only [resA, resOne, resTv, AV.tv, push_cast, Nat.reduceAdd, Nat.reduceMul, Nat.reduceSub, Nat.reduceLeDiff, Nat.reduceLT, Nat.reduceEqDiff, Nat.reduceBEq, Nat.reduceBNe, Nat.reduceMod, Nat.reduceDiv, Int.reduceLE, Int.reduceLT, Int.reduceToNat, Int.reduceAdd, Int.reduceSub, Int.reduceMul, Int.reduceNeg, Int.reduceEq, Int.reduceBEq, Int.reduceBNe, ↓reduceIte, reduceCtorEq, String.reduceBNe, String.reduceEq, reduceDIte, Nat.reducePow]
  · rfl
theorem wr_down (rd rs rm n : Nat) (D : DS) (x : Int) (v : List Int) (m : AMem) (hrd : m[rd]? = some (drB rs rm n D)) (h : D.down = true) : Ctr Try.prog 8 [.one (.ptr rd 0 0), .one (.int .i64 x), .agg (u8l v)] m (.one (.int .i64 5)) m := by
  refine Ctr.enter Try.func8 rfl (by decide) (rs := [.tmp 6]) (nt := 25) rfl rfl fun hwf Q hQ => ?_
  refine AW.seq_k fun K hK => ?_
  refine AW.region (by decide) ?_
  simp only [push_cast, Nat.reduceAdd, Nat.reduceMul, Nat.reduceSub, Nat.reduceLeDiff, Nat.reduceLT, Nat.reduceEqDiff, Nat.reduceBEq, Nat.reduceBNe, Nat.reduceMod, Nat.reduceDiv, Int.reduceLE, Int.reduceLT, Int.reduceToNat, Int.reduceAdd, Int.reduceSub, Int.reduceMul, Int.reduceNeg, Int.reduceEq, Int.reduceBEq, Int.reduceBNe, ↓reduceIte, reduceCtorEq, String.reduceBNe, String.reduceEq, reduceDIte, Nat.reducePow, imp_self]
  refine Thn_n ?_
  refine hK _ _ ?_
  clear hK K
  refine AW.seq_k fun K hK => ?_
  refine AW.seq_k fun K hK => ?_
  refine AW.region (by decide) ?_
  simp only [push_cast, Nat.reduceAdd, Nat.reduceMul, Nat.reduceSub, Nat.reduceLeDiff, Nat.reduceLT, Nat.reduceEqDiff, Nat.reduceBEq, Nat.reduceBNe, Nat.reduceMod, Nat.reduceDiv, Int.reduceLE, Int.reduceLT, Int.reduceToNat, Int.reduceAdd, Int.reduceSub, Int.reduceMul, Int.reduceNeg, Int.reduceEq, Int.reduceBEq, Int.reduceBNe, ↓reduceIte, reduceCtorEq, String.reduceBNe, String.reduceEq, reduceDIte, Nat.reducePow, imp_self]
  refine CThen.by (in_down rd rs rm n D x _ (lk_old hrd _) h) ?_
  simp only [push_cast, Nat.reduceAdd, Nat.reduceMul, Nat.reduceSub, Nat.reduceLeDiff, Nat.reduceLT, Nat.reduceEqDiff, Nat.reduceBEq, Nat.reduceBNe, Nat.reduceMod, Nat.reduceDiv, Int.reduceLE, Int.reduceLT, Int.reduceToNat, Int.reduceAdd, Int.reduceSub, Int.reduceMul, Int.reduceNeg, Int.reduceEq, Int.reduceBEq, Int.reduceBNe, ↓reduceIte, reduceCtorEq, String.reduceBNe, String.reduceEq, reduceDIte, Nat.reducePow, imp_self]
  refine Thn_n ?_
  refine hK _ _ ?_
  clear hK K
  refine AW.seq_k fun K hK => ?_
  refine AW.region (by decide) ?_
  simp only [push_cast, Nat.reduceAdd, Nat.reduceMul, Nat.reduceSub, Nat.reduceLeDiff, Nat.reduceLT, Nat.reduceEqDiff, Nat.reduceBEq, Nat.reduceBNe, Nat.reduceMod, Nat.reduceDiv, Int.reduceLE, Int.reduceLT, Int.reduceToNat, Int.reduceAdd, Int.reduceSub, Int.reduceMul, Int.reduceNeg, Int.reduceEq, Int.reduceBEq, Int.reduceBNe, ↓reduceIte, reduceCtorEq, String.reduceBNe, String.reduceEq, reduceDIte, Nat.reducePow, imp_self]
  refine Thn_n ?_
  refine hK _ _ ?_
  clear hK K
  refine AW.cond_t rfl ?_
  refine AW.seq_k fun K hK => ?_
  refine AW.region (by decide) ?_
  simp only [push_cast, Nat.reduceAdd, Nat.reduceMul, Nat.reduceSub, Nat.reduceLeDiff, Nat.reduceLT, Nat.reduceEqDiff, Nat.reduceBEq, Nat.reduceBNe, Nat.reduceMod, Nat.reduceDiv, Int.reduceLE, Int.reduceLT, Int.reduceToNat, Int.reduceAdd, Int.reduceSub, Int.reduceMul, Int.reduceNeg, Int.reduceEq, Int.reduceBEq, Int.reduceBNe, ↓reduceIte, reduceCtorEq, String.reduceBNe, String.reduceEq, reduceDIte, Nat.reducePow, imp_self]
  refine Thn_n ?_
  refine hK _ _ ?_
  clear hK K
  refine AW.ret ?_
  refine Thn_r ?_
  refine hQ _ _ _ ?_
  first | refine RetP.drop0 (Or.inr rfl) ?_ ?_ hwf | refine RetP.drop (Or.inr rfl) ?_ ?_ hwf
  · simp only [resA, resOne, resTv, AV.tv, push_cast, Nat.reduceAdd, Nat.reduceMul, Nat.reduceSub, Nat.reduceLeDiff, Nat.reduceLT, Nat.reduceEqDiff, Nat.reduceBEq, Nat.reduceBNe, Nat.reduceMod, Nat.reduceDiv, Int.reduceLE, Int.reduceLT, Int.reduceToNat, Int.reduceAdd, Int.reduceSub, Int.reduceMul, Int.reduceNeg, Int.reduceEq, Int.reduceBEq, Int.reduceBNe, ↓reduceIte, reduceCtorEq, String.reduceBNe, String.reduceEq, reduceDIte, Nat.reducePow, imp_self]
  · rfl
theorem wr_lo (rd rs rm n : Nat) (D : DS) (x : Int) (v : List Int) (m : AMem) (hrd : m[rd]? = some (drB rs rm n D)) (h : D.down = false) (h1 : x < 0) : Ctr Try.prog 8 [.one (.ptr rd 0 0), .one (.int .i64 x), .agg (u8l v)] m (.one (.int .i64 1)) m := by
  refine Ctr.enter Try.func8 rfl (by decide) (rs := [.tmp 6]) (nt := 25) rfl rfl fun hwf Q hQ => ?_
  refine AW.seq_k fun K hK => ?_
  refine AW.region (by decide) ?_
  simp only [push_cast, Nat.reduceAdd, Nat.reduceMul, Nat.reduceSub, Nat.reduceLeDiff, Nat.reduceLT, Nat.reduceEqDiff, Nat.reduceBEq, Nat.reduceBNe, Nat.reduceMod, Nat.reduceDiv, Int.reduceLE, Int.reduceLT, Int.reduceToNat, Int.reduceAdd, Int.reduceSub, Int.reduceMul, Int.reduceNeg, Int.reduceEq, Int.reduceBEq, Int.reduceBNe, ↓reduceIte, reduceCtorEq, String.reduceBNe, String.reduceEq, reduceDIte, Nat.reducePow, imp_self]
  refine Thn_n ?_
  refine hK _ _ ?_
  clear hK K
  refine AW.seq_k fun K hK => ?_
  refine AW.seq_k fun K hK => ?_
  refine AW.region (by decide) ?_
  simp only [push_cast, Nat.reduceAdd, Nat.reduceMul, Nat.reduceSub, Nat.reduceLeDiff, Nat.reduceLT, Nat.reduceEqDiff, Nat.reduceBEq, Nat.reduceBNe, Nat.reduceMod, Nat.reduceDiv, Int.reduceLE, Int.reduceLT, Int.reduceToNat, Int.reduceAdd, Int.reduceSub, Int.reduceMul, Int.reduceNeg, Int.reduceEq, Int.reduceBEq, Int.reduceBNe, ↓reduceIte, reduceCtorEq, String.reduceBNe, String.reduceEq, reduceDIte, Nat.reducePow, imp_self]
  refine CThen.by (in_lo rd rs rm n D x _ (lk_old hrd _) h h1) ?_
  simp only [push_cast, Nat.reduceAdd, Nat.reduceMul, Nat.reduceSub, Nat.reduceLeDiff, Nat.reduceLT, Nat.reduceEqDiff, Nat.reduceBEq, Nat.reduceBNe, Nat.reduceMod, Nat.reduceDiv, Int.reduceLE, Int.reduceLT, Int.reduceToNat, Int.reduceAdd, Int.reduceSub, Int.reduceMul, Int.reduceNeg, Int.reduceEq, Int.reduceBEq, Int.reduceBNe, ↓reduceIte, reduceCtorEq, String.reduceBNe, String.reduceEq, reduceDIte, Nat.reducePow, imp_self]
  refine Thn_n ?_
  refine hK _ _ ?_
  clear hK K
  refine AW.seq_k fun K hK => ?_
  refine AW.region (by decide) ?_
  simp only [push_cast, Nat.reduceAdd, Nat.reduceMul, Nat.reduceSub, Nat.reduceLeDiff, Nat.reduceLT, Nat.reduceEqDiff, Nat.reduceBEq, Nat.reduceBNe, Nat.reduceMod, Nat.reduceDiv, Int.reduceLE, Int.reduceLT, Int.reduceToNat, Int.reduceAdd, Int.reduceSub, Int.reduceMul, Int.reduceNeg, Int.reduceEq, Int.reduceBEq, Int.reduceBNe, ↓reduceIte, reduceCtorEq, String.reduceBNe, String.reduceEq, reduceDIte, Nat.reducePow, imp_self]
  refine Thn_n ?_
  refine hK _ _ ?_
  clear hK K
  refine AW.cond_t rfl ?_
  refine AW.seq_k fun K hK => ?_
  refine AW.region (by decide) ?_
  simp only [push_cast, Nat.reduceAdd, Nat.reduceMul, Nat.reduceSub, Nat.reduceLeDiff, Nat.reduceLT, Nat.reduceEqDiff, Nat.reduceBEq, Nat.reduceBNe, Nat.reduceMod, Nat.reduceDiv, Int.reduceLE, Int.reduceLT, Int.reduceToNat, Int.reduceAdd, Int.reduceSub, Int.reduceMul, Int.reduceNeg, Int.reduceEq, Int.reduceBEq, Int.reduceBNe, ↓reduceIte, reduceCtorEq, String.reduceBNe, String.reduceEq, reduceDIte, Nat.reducePow, imp_self]
  refine Thn_n ?_
  refine hK _ _ ?_
  clear hK K
  refine AW.ret ?_
  refine Thn_r ?_
  refine hQ _ _ _ ?_
  first | refine RetP.drop0 (Or.inr rfl) ?_ ?_ hwf | refine RetP.drop (Or.inr rfl) ?_ ?_ hwf
  · simp only [resA, resOne, resTv, AV.tv, push_cast, Nat.reduceAdd, Nat.reduceMul, Nat.reduceSub, Nat.reduceLeDiff, Nat.reduceLT, Nat.reduceEqDiff, Nat.reduceBEq, Nat.reduceBNe, Nat.reduceMod, Nat.reduceDiv, Int.reduceLE, Int.reduceLT, Int.reduceToNat, Int.reduceAdd, Int.reduceSub, Int.reduceMul, Int.reduceNeg, Int.reduceEq, Int.reduceBEq, Int.reduceBNe, ↓reduceIte, reduceCtorEq, String.reduceBNe, String.reduceEq, reduceDIte, Nat.reducePow, imp_self]
  · rfl
theorem wr_hi (rd rs rm n : Nat) (D : DS) (x : Int) (v : List Int) (m : AMem) (hrd : m[rd]? = some (drB rs rm n D)) (h : D.down = false) (h1 : ¬ x < 0) (h2 : (n : Int) ≤ x) : Ctr Try.prog 8 [.one (.ptr rd 0 0), .one (.int .i64 x), .agg (u8l v)] m (.one (.int .i64 1)) m := by
  refine Ctr.enter Try.func8 rfl (by decide) (rs := [.tmp 6]) (nt := 25) rfl rfl fun hwf Q hQ => ?_
  refine AW.seq_k fun K hK => ?_
  refine AW.region (by decide) ?_
  simp only [push_cast, Nat.reduceAdd, Nat.reduceMul, Nat.reduceSub, Nat.reduceLeDiff, Nat.reduceLT, Nat.reduceEqDiff, Nat.reduceBEq, Nat.reduceBNe, Nat.reduceMod, Nat.reduceDiv, Int.reduceLE, Int.reduceLT, Int.reduceToNat, Int.reduceAdd, Int.reduceSub, Int.reduceMul, Int.reduceNeg, Int.reduceEq, Int.reduceBEq, Int.reduceBNe, ↓reduceIte, reduceCtorEq, String.reduceBNe, String.reduceEq, reduceDIte, Nat.reducePow, imp_self]
  refine Thn_n ?_
  refine hK _ _ ?_
  clear hK K
  refine AW.seq_k fun K hK => ?_
  refine AW.seq_k fun K hK => ?_
  refine AW.region (by decide) ?_
  simp only [push_cast, Nat.reduceAdd, Nat.reduceMul, Nat.reduceSub, Nat.reduceLeDiff, Nat.reduceLT, Nat.reduceEqDiff, Nat.reduceBEq, Nat.reduceBNe, Nat.reduceMod, Nat.reduceDiv, Int.reduceLE, Int.reduceLT, Int.reduceToNat, Int.reduceAdd, Int.reduceSub, Int.reduceMul, Int.reduceNeg, Int.reduceEq, Int.reduceBEq, Int.reduceBNe, ↓reduceIte, reduceCtorEq, String.reduceBNe, String.reduceEq, reduceDIte, Nat.reducePow, imp_self]
  refine CThen.by (in_hi rd rs rm n D x _ (lk_old hrd _) h h1 h2) ?_
  simp only [push_cast, Nat.reduceAdd, Nat.reduceMul, Nat.reduceSub, Nat.reduceLeDiff, Nat.reduceLT, Nat.reduceEqDiff, Nat.reduceBEq, Nat.reduceBNe, Nat.reduceMod, Nat.reduceDiv, Int.reduceLE, Int.reduceLT, Int.reduceToNat, Int.reduceAdd, Int.reduceSub, Int.reduceMul, Int.reduceNeg, Int.reduceEq, Int.reduceBEq, Int.reduceBNe, ↓reduceIte, reduceCtorEq, String.reduceBNe, String.reduceEq, reduceDIte, Nat.reducePow, imp_self]
  refine Thn_n ?_
  refine hK _ _ ?_
  clear hK K
  refine AW.seq_k fun K hK => ?_
  refine AW.region (by decide) ?_
  simp only [push_cast, Nat.reduceAdd, Nat.reduceMul, Nat.reduceSub, Nat.reduceLeDiff, Nat.reduceLT, Nat.reduceEqDiff, Nat.reduceBEq, Nat.reduceBNe, Nat.reduceMod, Nat.reduceDiv, Int.reduceLE, Int.reduceLT, Int.reduceToNat, Int.reduceAdd, Int.reduceSub, Int.reduceMul, Int.reduceNeg, Int.reduceEq, Int.reduceBEq, Int.reduceBNe, ↓reduceIte, reduceCtorEq, String.reduceBNe, String.reduceEq, reduceDIte, Nat.reducePow, imp_self]
  refine Thn_n ?_
  refine hK _ _ ?_
  clear hK K
  refine AW.cond_t rfl ?_
  refine AW.seq_k fun K hK => ?_
  refine AW.region (by decide) ?_
  simp only [push_cast, Nat.reduceAdd, Nat.reduceMul, Nat.reduceSub, Nat.reduceLeDiff, Nat.reduceLT, Nat.reduceEqDiff, Nat.reduceBEq, Nat.reduceBNe, Nat.reduceMod, Nat.reduceDiv, Int.reduceLE, Int.reduceLT, Int.reduceToNat, Int.reduceAdd, Int.reduceSub, Int.reduceMul, Int.reduceNeg, Int.reduceEq, Int.reduceBEq, Int.reduceBNe, ↓reduceIte, reduceCtorEq, String.reduceBNe, String.reduceEq, reduceDIte, Nat.reducePow, imp_self]
  refine Thn_n ?_
  refine hK _ _ ?_
  clear hK K
  refine AW.ret ?_
  refine Thn_r ?_
  refine hQ _ _ _ ?_
  first | refine RetP.drop0 (Or.inr rfl) ?_ ?_ hwf | refine RetP.drop (Or.inr rfl) ?_ ?_ hwf
  · simp only [resA, resOne, resTv, AV.tv, push_cast, Nat.reduceAdd, Nat.reduceMul, Nat.reduceSub, Nat.reduceLeDiff, Nat.reduceLT, Nat.reduceEqDiff, Nat.reduceBEq, Nat.reduceBNe, Nat.reduceMod, Nat.reduceDiv, Int.reduceLE, Int.reduceLT, Int.reduceToNat, Int.reduceAdd, Int.reduceSub, Int.reduceMul, Int.reduceNeg, Int.reduceEq, Int.reduceBEq, Int.reduceBNe, ↓reduceIte, reduceCtorEq, String.reduceBNe, String.reduceEq, reduceDIte, Nat.reducePow, imp_self]
  · rfl
theorem wr_no (rd rs rm n : Nat) (D : DS) (x : Int) (v : List Int) (m : AMem) (hv : v.length = 128) (h : HasD m rd rs rm n D) (hd : D.down = false) (h1 : ¬ x < 0) (h2 : ¬ (n : Int) ≤ x) (hz : D.fuse = 0) : Ctr Try.prog 8 [.one (.ptr rd 0 0), .one (.int .i64 x), .agg (u8l v)] m (.one (.int .i64 5)) (setD m rd rs rm n (spD D)) := by
  refine Ctr.enter Try.func8 rfl (by decide) (rs := [.tmp 6]) (nt := 25) rfl rfl fun hwf Q hQ => ?_
  have hrd := h.d
  have hrs := h.r
  have hrm := h.m
  have ld := get_lt hrd
  have lr := get_lt hrs
  have lm := get_lt hrm
  have ndr : rd ≠ rs := h.dr
  have ndm : rd ≠ rm := h.dm
  have nrm : rs ≠ rm := h.rm
  have nrd := ndr.symm
  have nmd := ndm.symm
  have nmr := nrm.symm
  have oD := fun (L : AMem) => mk_olds (m := m) (l := m) rfl ld L
  have oR := fun (L : AMem) => mk_olds (m := m) (l := m) rfl lr L
  have oM := fun (L : AMem) => mk_olds (m := m) (l := m) rfl lm L
  have pD := fun (l L : AMem) (e : l.length = m.length) => mk_olds (m := m) (l := l) (r := rd) e ld L
  have pR := fun (l L : AMem) (e : l.length = m.length) => mk_olds (m := m) (l := l) (r := rs) e lr L
  have pM := fun (l L : AMem) (e : l.length = m.length) => mk_olds (m := m) (l := l) (r := rm) e lm L
  have gD := fun (l L : AMem) (e : l.length = m.length) => mk_old (m := m) (l := l) (r := rd) e ld L
  have gR := fun (l L : AMem) (e : l.length = m.length) => mk_old (m := m) (l := l) (r := rs) e lr L
  have gM := fun (l L : AMem) (e : l.length = m.length) => mk_old (m := m) (l := l) (r := rm) e lm L
  have sD := fun (l : AMem) (b : Blk) (e : l.length = m.length) => mk_self (m := m) (l := l) (r := rd) e ld b
  have sR := fun (l : AMem) (b : Blk) (e : l.length = m.length) => mk_self (m := m) (l := l) (r := rs) e lr b
  have sM := fun (l : AMem) (b : Blk) (e : l.length = m.length) => mk_self (m := m) (l := l) (r := rm) e lm b
  have aA := fun (l L : AMem) (e : l.length = m.length) => mk_lk0 (m := m) (l := l) e L
  have aK := fun (l L : AMem) (k : Nat) (e : l.length = m.length) => mk_lk (m := m) (l := l) e L k
  have aT := fun (l L : AMem) (k : Nat) (b : Blk) (e : l.length = m.length) => mk_set (m := m) (l := l) e L k b
  have aS := fun (l L : AMem) (b : Blk) (e : l.length = m.length) => mk_set0 (m := m) (l := l) e L b
  have hw2 : MWf m.length (setD m rd rs rm n (spD D)) := setD_wf hwf lr lm _
  have e2 := setD_d h (spD D) (spD_S D) (spD_E D) (spD_ck D)
  refine AW.seq_k fun K hK => ?_
  refine AW.region (by decide) ?_
  simp only [push_cast, Nat.reduceAdd, Nat.reduceMul, Nat.reduceSub, Nat.reduceLeDiff, Nat.reduceLT, Nat.reduceEqDiff, Nat.reduceBEq, Nat.reduceBNe, Nat.reduceMod, Nat.reduceDiv, Int.reduceLE, Int.reduceLT, Int.reduceToNat, Int.reduceAdd, Int.reduceSub, Int.reduceMul, Int.reduceNeg, Int.reduceEq, Int.reduceBEq, Int.reduceBNe, ↓reduceIte, reduceCtorEq, String.reduceBNe, String.reduceEq, reduceDIte, Nat.reducePow, hrd, hrs, hrm, pD, pR, pM, gD, gR, gM, sD, sR, sM, aA, aS, aK, aT, List.set_set, List.length_set, List.getElem?_set_ne ndr, List.getElem?_set_ne ndm, List.getElem?_set_ne nrm, List.getElem?_set_ne nrd, List.getElem?_set_ne nmd, List.getElem?_set_ne nmr, drB, rowD, mapD]
  refine Thn_n ?_
  refine hK _ _ ?_
  clear hK K
  refine AW.seq_k fun K hK => ?_
  refine AW.seq_k fun K hK => ?_
  refine AW.region (by decide) ?_
  simp only [push_cast, Nat.reduceAdd, Nat.reduceMul, Nat.reduceSub, Nat.reduceLeDiff, Nat.reduceLT, Nat.reduceEqDiff, Nat.reduceBEq, Nat.reduceBNe, Nat.reduceMod, Nat.reduceDiv, Int.reduceLE, Int.reduceLT, Int.reduceToNat, Int.reduceAdd, Int.reduceSub, Int.reduceMul, Int.reduceNeg, Int.reduceEq, Int.reduceBEq, Int.reduceBNe, ↓reduceIte, reduceCtorEq, String.reduceBNe, String.reduceEq, reduceDIte, Nat.reducePow, hrd, hrs, hrm, pD, pR, pM, gD, gR, gM, sD, sR, sM, aA, aS, aK, aT, List.set_set, List.length_set, List.getElem?_set_ne ndr, List.getElem?_set_ne ndm, List.getElem?_set_ne nrm, List.getElem?_set_ne nrd, List.getElem?_set_ne nmd, List.getElem?_set_ne nmr, drB, rowD, mapD]
  refine CThen.by (in_ok rd rs rm n D x _ (lk_old h.d _) hd h1 h2) ?_
  simp only [push_cast, Nat.reduceAdd, Nat.reduceMul, Nat.reduceSub, Nat.reduceLeDiff, Nat.reduceLT, Nat.reduceEqDiff, Nat.reduceBEq, Nat.reduceBNe, Nat.reduceMod, Nat.reduceDiv, Int.reduceLE, Int.reduceLT, Int.reduceToNat, Int.reduceAdd, Int.reduceSub, Int.reduceMul, Int.reduceNeg, Int.reduceEq, Int.reduceBEq, Int.reduceBNe, ↓reduceIte, reduceCtorEq, String.reduceBNe, String.reduceEq, reduceDIte, Nat.reducePow, hrd, hrs, hrm, pD, pR, pM, gD, gR, gM, sD, sR, sM, aA, aS, aK, aT, List.set_set, List.length_set, List.getElem?_set_ne ndr, List.getElem?_set_ne ndm, List.getElem?_set_ne nrm, List.getElem?_set_ne nrd, List.getElem?_set_ne nmd, List.getElem?_set_ne nmr, drB, rowD, mapD]
  refine Thn_n ?_
  refine hK _ _ ?_
  clear hK K
  refine AW.seq_k fun K hK => ?_
  refine AW.region (by decide) ?_
  simp only [push_cast, Nat.reduceAdd, Nat.reduceMul, Nat.reduceSub, Nat.reduceLeDiff, Nat.reduceLT, Nat.reduceEqDiff, Nat.reduceBEq, Nat.reduceBNe, Nat.reduceMod, Nat.reduceDiv, Int.reduceLE, Int.reduceLT, Int.reduceToNat, Int.reduceAdd, Int.reduceSub, Int.reduceMul, Int.reduceNeg, Int.reduceEq, Int.reduceBEq, Int.reduceBNe, ↓reduceIte, reduceCtorEq, String.reduceBNe, String.reduceEq, reduceDIte, Nat.reducePow, hrd, hrs, hrm, pD, pR, pM, gD, gR, gM, sD, sR, sM, aA, aS, aK, aT, List.set_set, List.length_set, List.getElem?_set_ne ndr, List.getElem?_set_ne ndm, List.getElem?_set_ne nrm, List.getElem?_set_ne nrd, List.getElem?_set_ne nmd, List.getElem?_set_ne nmr, drB, rowD, mapD]
  refine Thn_n ?_
  refine hK _ _ ?_
  clear hK K
  refine AW.cond_f rfl ?_
  refine AW.skip ?_
  refine Thn_n ?_
  refine hK _ _ ?_
  clear hK K
  refine AW.seq_k fun K hK => ?_
  refine AW.seq_k fun K hK => ?_
  refine AW.region (by decide) ?_
  simp only [push_cast, Nat.reduceAdd, Nat.reduceMul, Nat.reduceSub, Nat.reduceLeDiff, Nat.reduceLT, Nat.reduceEqDiff, Nat.reduceBEq, Nat.reduceBNe, Nat.reduceMod, Nat.reduceDiv, Int.reduceLE, Int.reduceLT, Int.reduceToNat, Int.reduceAdd, Int.reduceSub, Int.reduceMul, Int.reduceNeg, Int.reduceEq, Int.reduceBEq, Int.reduceBNe, ↓reduceIte, reduceCtorEq, String.reduceBNe, String.reduceEq, reduceDIte, Nat.reducePow, hrd, hrs, hrm, pD, pR, pM, gD, gR, gM, sD, sR, sM, aA, aS, aK, aT, List.set_set, List.length_set, List.getElem?_set_ne ndr, List.getElem?_set_ne ndm, List.getElem?_set_ne nrm, List.getElem?_set_ne nrd, List.getElem?_set_ne nmd, List.getElem?_set_ne nmr, drB, rowD, mapD]
  refine CThen.by (spend_no rd rs rm n D _ (lk_old h.d _) hz) ?_
  simp only [push_cast, Nat.reduceAdd, Nat.reduceMul, Nat.reduceSub, Nat.reduceLeDiff, Nat.reduceLT, Nat.reduceEqDiff, Nat.reduceBEq, Nat.reduceBNe, Nat.reduceMod, Nat.reduceDiv, Int.reduceLE, Int.reduceLT, Int.reduceToNat, Int.reduceAdd, Int.reduceSub, Int.reduceMul, Int.reduceNeg, Int.reduceEq, Int.reduceBEq, Int.reduceBNe, ↓reduceIte, reduceCtorEq, String.reduceBNe, String.reduceEq, reduceDIte, Nat.reducePow, hrd, hrs, hrm, pD, pR, pM, gD, gR, gM, sD, sR, sM, aA, aS, aK, aT, List.set_set, List.length_set, List.getElem?_set_ne ndr, List.getElem?_set_ne ndm, List.getElem?_set_ne nrm, List.getElem?_set_ne nrd, List.getElem?_set_ne nmd, List.getElem?_set_ne nmr, drB, rowD, mapD]
  refine Thn_n ?_
  refine hK _ _ ?_
  clear hK K
  refine AW.cond_t rfl ?_
  refine AW.seq_k fun K hK => ?_
  refine AW.region (by decide) ?_
  simp only [push_cast, Nat.reduceAdd, Nat.reduceMul, Nat.reduceSub, Nat.reduceLeDiff, Nat.reduceLT, Nat.reduceEqDiff, Nat.reduceBEq, Nat.reduceBNe, Nat.reduceMod, Nat.reduceDiv, Int.reduceLE, Int.reduceLT, Int.reduceToNat, Int.reduceAdd, Int.reduceSub, Int.reduceMul, Int.reduceNeg, Int.reduceEq, Int.reduceBEq, Int.reduceBNe, ↓reduceIte, reduceCtorEq, String.reduceBNe, String.reduceEq, reduceDIte, Nat.reducePow, hrd, hrs, hrm, pD, pR, pM, gD, gR, gM, sD, sR, sM, aA, aS, aK, aT, List.set_set, List.length_set, List.getElem?_set_ne ndr, List.getElem?_set_ne ndm, List.getElem?_set_ne nrm, List.getElem?_set_ne nrd, List.getElem?_set_ne nmd, List.getElem?_set_ne nmr, drB, rowD, mapD]
  refine Thn_n ?_
  refine hK _ _ ?_
  clear hK K
  refine AW.ret ?_
  refine Thn_r ?_
  refine hQ _ _ _ ?_
  rw [e2]
  refine RetP.dropM (m1 := m.set rd (drB rs rm n (spD D))) (by rw [List.length_set]) (by first | exact Or.inr rfl | exact Or.inl rfl) ?_ ?_ (e2 ▸ hw2)
  · simp only [resA, resOne, resTv, AV.tv, push_cast, Nat.reduceAdd, Nat.reduceMul, Nat.reduceSub, Nat.reduceLeDiff, Nat.reduceLT, Nat.reduceEqDiff, Nat.reduceBEq, Nat.reduceBNe, Nat.reduceMod, Nat.reduceDiv, Int.reduceLE, Int.reduceLT, Int.reduceToNat, Int.reduceAdd, Int.reduceSub, Int.reduceMul, Int.reduceNeg, Int.reduceEq, Int.reduceBEq, Int.reduceBNe, ↓reduceIte, reduceCtorEq, String.reduceBNe, String.reduceEq, reduceDIte, Nat.reducePow]
  · rfl
theorem wr_ok (rd rs rm n : Nat) (D : DS) (x : Int) (v : List Int) (m : AMem) (hv : v.length = 128) (h : HasD m rd rs rm n D) (hd : D.down = false) (h1 : ¬ x < 0) (h2 : ¬ (n : Int) ≤ x) (hz : ¬ D.fuse = 0) : Ctr Try.prog 8 [.one (.ptr rd 0 0), .one (.int .i64 x), .agg (u8l v)] m (.one (.int .i64 0)) (setD m rd rs rm n (wrD D x v)) := by
  refine Ctr.enter Try.func8 rfl (by decide) (rs := [.tmp 6]) (nt := 25) rfl rfl fun hwf Q hQ => ?_
  have hv1 := u8l_len v
  rw [hv] at hv1
  have hv2 : (u8l v).take 128 = u8l v := List.take_of_length_le (by omega)
  have hv3 := u8l_vals v
  have hrd := h.d
  have hrs := h.r
  have hrm := h.m
  have ld := get_lt hrd
  have lr := get_lt hrs
  have lm := get_lt hrm
  have ndr : rd ≠ rs := h.dr
  have ndm : rd ≠ rm := h.dm
  have nrm : rs ≠ rm := h.rm
  have nrd := ndr.symm
  have nmd := ndm.symm
  have nmr := nrm.symm
  have oD := fun (L : AMem) => mk_olds (m := m) (l := m) rfl ld L
  have oR := fun (L : AMem) => mk_olds (m := m) (l := m) rfl lr L
  have oM := fun (L : AMem) => mk_olds (m := m) (l := m) rfl lm L
  have pD := fun (l L : AMem) (e : l.length = m.length) => mk_olds (m := m) (l := l) (r := rd) e ld L
  have pR := fun (l L : AMem) (e : l.length = m.length) => mk_olds (m := m) (l := l) (r := rs) e lr L
  have pM := fun (l L : AMem) (e : l.length = m.length) => mk_olds (m := m) (l := l) (r := rm) e lm L
  have gD := fun (l L : AMem) (e : l.length = m.length) => mk_old (m := m) (l := l) (r := rd) e ld L
  have gR := fun (l L : AMem) (e : l.length = m.length) => mk_old (m := m) (l := l) (r := rs) e lr L
  have gM := fun (l L : AMem) (e : l.length = m.length) => mk_old (m := m) (l := l) (r := rm) e lm L
  have sD := fun (l : AMem) (b : Blk) (e : l.length = m.length) => mk_self (m := m) (l := l) (r := rd) e ld b
  have sR := fun (l : AMem) (b : Blk) (e : l.length = m.length) => mk_self (m := m) (l := l) (r := rs) e lr b
  have sM := fun (l : AMem) (b : Blk) (e : l.length = m.length) => mk_self (m := m) (l := l) (r := rm) e lm b
  have aA := fun (l L : AMem) (e : l.length = m.length) => mk_lk0 (m := m) (l := l) e L
  have aK := fun (l L : AMem) (k : Nat) (e : l.length = m.length) => mk_lk (m := m) (l := l) e L k
  have aT := fun (l L : AMem) (k : Nat) (b : Blk) (e : l.length = m.length) => mk_set (m := m) (l := l) e L k b
  have aS := fun (l L : AMem) (b : Blk) (e : l.length = m.length) => mk_set0 (m := m) (l := l) e L b
  have hw2 : MWf m.length (setD m rd rs rm n (wrD D x v)) := setD_wf hwf lr lm _
  have e2 := setD_dm h (wrD D x v) (spD_S D)
  have e3 : drB rs rm n (wrD D x v) = drB rs rm n (spD D) := rfl
  refine AW.seq_k fun K hK => ?_
  refine AW.region (by decide) ?_
  simp only [push_cast, Nat.reduceAdd, Nat.reduceMul, Nat.reduceSub, Nat.reduceLeDiff, Nat.reduceLT, Nat.reduceEqDiff, Nat.reduceBEq, Nat.reduceBNe, Nat.reduceMod, Nat.reduceDiv, Int.reduceLE, Int.reduceLT, Int.reduceToNat, Int.reduceAdd, Int.reduceSub, Int.reduceMul, Int.reduceNeg, Int.reduceEq, Int.reduceBEq, Int.reduceBNe, ↓reduceIte, reduceCtorEq, String.reduceBNe, String.reduceEq, reduceDIte, Nat.reducePow, hv1, hv2, hv3, setMap, hrd, hrs, hrm, pD, pR, pM, gD, gR, gM, sD, sR, sM, aA, aS, aK, aT, List.set_set, List.length_set, List.getElem?_set_ne ndr, List.getElem?_set_ne ndm, List.getElem?_set_ne nrm, List.getElem?_set_ne nrd, List.getElem?_set_ne nmd, List.getElem?_set_ne nmr, drB, rowD, mapD]
  refine Thn_n ?_
  refine hK _ _ ?_
  clear hK K
  refine AW.seq_k fun K hK => ?_
  refine AW.seq_k fun K hK => ?_
  refine AW.region (by decide) ?_
  simp only [push_cast, Nat.reduceAdd, Nat.reduceMul, Nat.reduceSub, Nat.reduceLeDiff, Nat.reduceLT, Nat.reduceEqDiff, Nat.reduceBEq, Nat.reduceBNe, Nat.reduceMod, Nat.reduceDiv, Int.reduceLE, Int.reduceLT, Int.reduceToNat, Int.reduceAdd, Int.reduceSub, Int.reduceMul, Int.reduceNeg, Int.reduceEq, Int.reduceBEq, Int.reduceBNe, ↓reduceIte, reduceCtorEq, String.reduceBNe, String.reduceEq, reduceDIte, Nat.reducePow, hv1, hv2, hv3, setMap, hrd, hrs, hrm, pD, pR, pM, gD, gR, gM, sD, sR, sM, aA, aS, aK, aT, List.set_set, List.length_set, List.getElem?_set_ne ndr, List.getElem?_set_ne ndm, List.getElem?_set_ne nrm, List.getElem?_set_ne nrd, List.getElem?_set_ne nmd, List.getElem?_set_ne nmr, drB, rowD, mapD]
  refine CThen.by (in_ok rd rs rm n D x _ (lk_old h.d _) hd h1 h2) ?_
  simp only [push_cast, Nat.reduceAdd, Nat.reduceMul, Nat.reduceSub, Nat.reduceLeDiff, Nat.reduceLT, Nat.reduceEqDiff, Nat.reduceBEq, Nat.reduceBNe, Nat.reduceMod, Nat.reduceDiv, Int.reduceLE, Int.reduceLT, Int.reduceToNat, Int.reduceAdd, Int.reduceSub, Int.reduceMul, Int.reduceNeg, Int.reduceEq, Int.reduceBEq, Int.reduceBNe, ↓reduceIte, reduceCtorEq, String.reduceBNe, String.reduceEq, reduceDIte, Nat.reducePow, hv1, hv2, hv3, setMap, hrd, hrs, hrm, pD, pR, pM, gD, gR, gM, sD, sR, sM, aA, aS, aK, aT, List.set_set, List.length_set, List.getElem?_set_ne ndr, List.getElem?_set_ne ndm, List.getElem?_set_ne nrm, List.getElem?_set_ne nrd, List.getElem?_set_ne nmd, List.getElem?_set_ne nmr, drB, rowD, mapD]
  refine Thn_n ?_
  refine hK _ _ ?_
  clear hK K
  refine AW.seq_k fun K hK => ?_
  refine AW.region (by decide) ?_
  simp only [push_cast, Nat.reduceAdd, Nat.reduceMul, Nat.reduceSub, Nat.reduceLeDiff, Nat.reduceLT, Nat.reduceEqDiff, Nat.reduceBEq, Nat.reduceBNe, Nat.reduceMod, Nat.reduceDiv, Int.reduceLE, Int.reduceLT, Int.reduceToNat, Int.reduceAdd, Int.reduceSub, Int.reduceMul, Int.reduceNeg, Int.reduceEq, Int.reduceBEq, Int.reduceBNe, ↓reduceIte, reduceCtorEq, String.reduceBNe, String.reduceEq, reduceDIte, Nat.reducePow, hv1, hv2, hv3, setMap, hrd, hrs, hrm, pD, pR, pM, gD, gR, gM, sD, sR, sM, aA, aS, aK, aT, List.set_set, List.length_set, List.getElem?_set_ne ndr, List.getElem?_set_ne ndm, List.getElem?_set_ne nrm, List.getElem?_set_ne nrd, List.getElem?_set_ne nmd, List.getElem?_set_ne nmr, drB, rowD, mapD]
  refine Thn_n ?_
  refine hK _ _ ?_
  clear hK K
  refine AW.cond_f rfl ?_
  refine AW.skip ?_
  refine Thn_n ?_
  refine hK _ _ ?_
  clear hK K
  refine AW.seq_k fun K hK => ?_
  refine AW.seq_k fun K hK => ?_
  refine AW.region (by decide) ?_
  simp only [push_cast, Nat.reduceAdd, Nat.reduceMul, Nat.reduceSub, Nat.reduceLeDiff, Nat.reduceLT, Nat.reduceEqDiff, Nat.reduceBEq, Nat.reduceBNe, Nat.reduceMod, Nat.reduceDiv, Int.reduceLE, Int.reduceLT, Int.reduceToNat, Int.reduceAdd, Int.reduceSub, Int.reduceMul, Int.reduceNeg, Int.reduceEq, Int.reduceBEq, Int.reduceBNe, ↓reduceIte, reduceCtorEq, String.reduceBNe, String.reduceEq, reduceDIte, Nat.reducePow, hv1, hv2, hv3, setMap, hrd, hrs, hrm, pD, pR, pM, gD, gR, gM, sD, sR, sM, aA, aS, aK, aT, List.set_set, List.length_set, List.getElem?_set_ne ndr, List.getElem?_set_ne ndm, List.getElem?_set_ne nrm, List.getElem?_set_ne nrd, List.getElem?_set_ne nmd, List.getElem?_set_ne nmr, drB, rowD, mapD]
  refine CThen.by (spend_go rd rs rm n D _ (lk_old h.d _) hz) ?_
  simp only [push_cast, Nat.reduceAdd, Nat.reduceMul, Nat.reduceSub, Nat.reduceLeDiff, Nat.reduceLT, Nat.reduceEqDiff, Nat.reduceBEq, Nat.reduceBNe, Nat.reduceMod, Nat.reduceDiv, Int.reduceLE, Int.reduceLT, Int.reduceToNat, Int.reduceAdd, Int.reduceSub, Int.reduceMul, Int.reduceNeg, Int.reduceEq, Int.reduceBEq, Int.reduceBNe, ↓reduceIte, reduceCtorEq, String.reduceBNe, String.reduceEq, reduceDIte, Nat.reducePow, hv1, hv2, hv3, setMap, hrd, hrs, hrm, pD, pR, pM, gD, gR, gM, sD, sR, sM, aA, aS, aK, aT, List.set_set, List.length_set, List.getElem?_set_ne ndr, List.getElem?_set_ne ndm, List.getElem?_set_ne nrm, List.getElem?_set_ne nrd, List.getElem?_set_ne nmd, List.getElem?_set_ne nmr, drB, rowD, mapD]
  refine Thn_n ?_
  refine hK _ _ ?_
  clear hK K
  refine AW.cond_f rfl ?_
  refine AW.skip ?_
  refine Thn_n ?_
  refine hK _ _ ?_
  clear hK K
  refine AW.seq_k fun K hK => ?_
  rcases hf : fndE x D.E with _ | j
  · have g1 := findL_eL x D.E
    rw [hf] at g1
    have g2 := upE_none (ck := D.ck) (v := v) hf
    have g3 : upC D.ck x D.E = D.ck + 1 := by unfold upC; rw [hf]; rfl
    have hmd : mapD (wrD D x v) = ⟨.map false true (D.ck + 1) (eL (upE D.ck x v D.E)), 55, 0, 0, []⟩ := by unfold mapD wrD; rw [g3]
    refine AW.draw [.val, .val, .val, .rd 0, .val, .rd 0, .wr] fol (by decide) (by kernel_rfl) ?_
    simp only [push_cast, Nat.reduceAdd, Nat.reduceMul, Nat.reduceSub, Nat.reduceLeDiff, Nat.reduceLT, Nat.reduceEqDiff, Nat.reduceBEq, Nat.reduceBNe, Nat.reduceMod, Nat.reduceDiv, Int.reduceLE, Int.reduceLT, Int.reduceToNat, Int.reduceAdd, Int.reduceSub, Int.reduceMul, Int.reduceNeg, Int.reduceEq, Int.reduceBEq, Int.reduceBNe, ↓reduceIte, reduceCtorEq, String.reduceBNe, String.reduceEq, reduceDIte, Nat.reducePow, hv1, hv2, hv3, setMap, hrd, hrs, hrm, pD, pR, pM, gD, gR, gM, sD, sR, sM, aA, aS, aK, aT, List.set_set, List.length_set, List.getElem?_set_ne ndr, List.getElem?_set_ne ndm, List.getElem?_set_ne nrm, List.getElem?_set_ne nrd, List.getElem?_set_ne nmd, List.getElem?_set_ne nmr, drB, rowD, mapD, g1, g2, g3]
    refine Thn_n ?_
    refine hK _ _ ?_
    clear hK K
    refine AW.seq_k fun K hK => ?_
    refine AW.region (by decide) ?_
    simp only [push_cast, Nat.reduceAdd, Nat.reduceMul, Nat.reduceSub, Nat.reduceLeDiff, Nat.reduceLT, Nat.reduceEqDiff, Nat.reduceBEq, Nat.reduceBNe, Nat.reduceMod, Nat.reduceDiv, Int.reduceLE, Int.reduceLT, Int.reduceToNat, Int.reduceAdd, Int.reduceSub, Int.reduceMul, Int.reduceNeg, Int.reduceEq, Int.reduceBEq, Int.reduceBNe, ↓reduceIte, reduceCtorEq, String.reduceBNe, String.reduceEq, reduceDIte, Nat.reducePow, hv1, hv2, hv3, setMap, hrd, hrs, hrm, pD, pR, pM, gD, gR, gM, sD, sR, sM, aA, aS, aK, aT, List.set_set, List.length_set, List.getElem?_set_ne ndr, List.getElem?_set_ne ndm, List.getElem?_set_ne nrm, List.getElem?_set_ne nrd, List.getElem?_set_ne nmd, List.getElem?_set_ne nmr, drB, rowD, mapD, g1, g2, g3]
    refine Thn_n ?_
    refine hK _ _ ?_
    clear hK K
    refine AW.ret ?_
    refine hQ _ _ _ ?_
    rw [e2, e3, hmd] at hw2 ⊢
    refine RetP.dropM (by rw [List.length_set, List.length_set]) (by first | exact Or.inr rfl | exact Or.inl rfl) ?_ ?_ hw2
    · simp only [resA, resOne, resTv, AV.tv, push_cast, Nat.reduceAdd, Nat.reduceMul, Nat.reduceSub, Nat.reduceLeDiff, Nat.reduceLT, Nat.reduceEqDiff, Nat.reduceBEq, Nat.reduceBNe, Nat.reduceMod, Nat.reduceDiv, Int.reduceLE, Int.reduceLT, Int.reduceToNat, Int.reduceAdd, Int.reduceSub, Int.reduceMul, Int.reduceNeg, Int.reduceEq, Int.reduceBEq, Int.reduceBNe, ↓reduceIte, reduceCtorEq, String.reduceBNe, String.reduceEq, reduceDIte, Nat.reducePow]
    · rfl
  · have g1 := findL_eL x D.E
    rw [hf] at g1
    obtain ⟨b, w, hj, hl⟩ := fndE_some hf
    have g2 := upE_some (ck := D.ck) (v := v) hf hj
    have g3 : upC D.ck x D.E = D.ck := by unfold upC; rw [hf]; rfl
    have g4 := eL_get hj
    simp only [eC] at g4
    have hmd : mapD (wrD D x v) = ⟨.map false true D.ck (eL (upE D.ck x v D.E)), 55, 0, 0, []⟩ := by unfold mapD wrD; rw [g3]
    refine AW.draw [.val, .val, .val, .rd 0, .val, .rd 0, .wr] fol (by decide) (by kernel_rfl) ?_
    simp only [push_cast, Nat.reduceAdd, Nat.reduceMul, Nat.reduceSub, Nat.reduceLeDiff, Nat.reduceLT, Nat.reduceEqDiff, Nat.reduceBEq, Nat.reduceBNe, Nat.reduceMod, Nat.reduceDiv, Int.reduceLE, Int.reduceLT, Int.reduceToNat, Int.reduceAdd, Int.reduceSub, Int.reduceMul, Int.reduceNeg, Int.reduceEq, Int.reduceBEq, Int.reduceBNe, ↓reduceIte, reduceCtorEq, String.reduceBNe, String.reduceEq, reduceDIte, Nat.reducePow, hv1, hv2, hv3, setMap, hrd, hrs, hrm, pD, pR, pM, gD, gR, gM, sD, sR, sM, aA, aS, aK, aT, List.set_set, List.length_set, List.getElem?_set_ne ndr, List.getElem?_set_ne ndm, List.getElem?_set_ne nrm, List.getElem?_set_ne nrd, List.getElem?_set_ne nmd, List.getElem?_set_ne nmr, drB, rowD, mapD, g1, g2, g3, g4]
    refine Thn_n ?_
    refine hK _ _ ?_
    clear hK K
    refine AW.seq_k fun K hK => ?_
    refine AW.region (by decide) ?_
    simp only [push_cast, Nat.reduceAdd, Nat.reduceMul, Nat.reduceSub, Nat.reduceLeDiff, Nat.reduceLT, Nat.reduceEqDiff, Nat.reduceBEq, Nat.reduceBNe, Nat.reduceMod, Nat.reduceDiv, Int.reduceLE, Int.reduceLT, Int.reduceToNat, Int.reduceAdd, Int.reduceSub, Int.reduceMul, Int.reduceNeg, Int.reduceEq, Int.reduceBEq, Int.reduceBNe, ↓reduceIte, reduceCtorEq, String.reduceBNe, String.reduceEq, reduceDIte, Nat.reducePow, hv1, hv2, hv3, setMap, hrd, hrs, hrm, pD, pR, pM, gD, gR, gM, sD, sR, sM, aA, aS, aK, aT, List.set_set, List.length_set, List.getElem?_set_ne ndr, List.getElem?_set_ne ndm, List.getElem?_set_ne nrm, List.getElem?_set_ne nrd, List.getElem?_set_ne nmd, List.getElem?_set_ne nmr, drB, rowD, mapD, g1, g2, g3, g4]
    refine Thn_n ?_
    refine hK _ _ ?_
    clear hK K
    refine AW.ret ?_
    refine hQ _ _ _ ?_
    rw [e2, e3, hmd] at hw2 ⊢
    refine RetP.dropM (by rw [List.length_set, List.length_set]) (by first | exact Or.inr rfl | exact Or.inl rfl) ?_ ?_ hw2
    · simp only [resA, resOne, resTv, AV.tv, push_cast, Nat.reduceAdd, Nat.reduceMul, Nat.reduceSub, Nat.reduceLeDiff, Nat.reduceLT, Nat.reduceEqDiff, Nat.reduceBEq, Nat.reduceBNe, Nat.reduceMod, Nat.reduceDiv, Int.reduceLE, Int.reduceLT, Int.reduceToNat, Int.reduceAdd, Int.reduceSub, Int.reduceMul, Int.reduceNeg, Int.reduceEq, Int.reduceBEq, Int.reduceBNe, ↓reduceIte, reduceCtorEq, String.reduceBNe, String.reduceEq, reduceDIte, Nat.reducePow]
    · rfl
end Go.Proofs.Ytcahlnddcjifdaa

set_option linter.unusedSimpArgs false
set_option linter.unusedVariables false
set_option maxRecDepth 100000
set_option maxHeartbeats 4000000
namespace Go.Proofs.Ytcahlnddcjifdaa
open Go Go.Eng

theorem zB_cells : u8l zB = [.int .u8 0, .int .u8 0, .int .u8 0, .int .u8 0, .int .u8 0, .int .u8 0, .int .u8 0, .int .u8 0, .int .u8 0, .int .u8 0, .int .u8 0, .int .u8 0, .int .u8 0, .int .u8 0, .int .u8 0, .int .u8 0, .int .u8 0, .int .u8 0, .int .u8 0, .int .u8 0, .int .u8 0, .int .u8 0, .int .u8 0, .int .u8 0, .int .u8 0, .int .u8 0, .int .u8 0, .int .u8 0, .int .u8 0, .int .u8 0, .int .u8 0, .int .u8 0, .int .u8 0, .int .u8 0, .int .u8 0, .int .u8 0, .int .u8 0, .int .u8 0, .int .u8 0, .int .u8 0, .int .u8 0, .int .u8 0, .int .u8 0, .int .u8 0, .int .u8 0, .int .u8 0, .int .u8 0, .int .u8 0, .int .u8 0, .int .u8 0, .int .u8 0, .int .u8 0, .int .u8 0, .int .u8 0, .int .u8 0, .int .u8 0, .int .u8 0, .int .u8 0, .int .u8 0, .int .u8 0, .int .u8 0, .int .u8 0, .int .u8 0, .int .u8 0, .int .u8 0, .int .u8 0, .int .u8 0, .int .u8 0, .int .u8 0, .int .u8 0, .int .u8 0, .int .u8 0, .int .u8 0, .int .u8 0, .int .u8 0, .int .u8 0, .int .u8 0, .int .u8 0, .int .u8 0, .int .u8 0, .int .u8 0, .int .u8 0, .int .u8 0, .int .u8 0, .int .u8 0, .int .u8 0, .int .u8 0, .int .u8 0, .int .u8 0, .int .u8 0, .int .u8 0, .int .u8 0, .int .u8 0, .int .u8 0, .int .u8 0, .int .u8 0, .int .u8 0, .int .u8 0, .int .u8 0, .int .u8 0, .int .u8 0, .int .u8 0, .int .u8 0, .int .u8 0, .int .u8 0, .int .u8 0, .int .u8 0, .int .u8 0, .int .u8 0, .int .u8 0, .int .u8 0, .int .u8 0, .int .u8 0, .int .u8 0, .int .u8 0, .int .u8 0, .int .u8 0, .int .u8 0, .int .u8 0, .int .u8 0, .int .u8 0, .int .u8 0, .int .u8 0, .int .u8 0, .int .u8 0, .int .u8 0, .int .u8 0, .int .u8 0] := rfl
theorem rd_nil (x : Int) (m : AMem) : Ctr Try.prog 12 [.one .nilp, .one (.int .i64 x)] m (.tup [(true, u8l zB), (false, [.int .i64 2])]) m := by
  refine Ctr.enter Try.func12 rfl (by decide) (rs := [.cell 4 29, .tmp 5]) (nt := 34) rfl rfl fun hwf Q hQ => ?_
  refine AW.seq_k fun K hK => ?_
  refine AW.region (by decide) ?_
  simp only [push_cast, Nat.reduceAdd, Nat.reduceMul, Nat.reduceSub, Nat.reduceLeDiff, Nat.reduceLT, Nat.reduceEqDiff, Nat.reduceBEq, Nat.reduceBNe, Nat.reduceMod, Nat.reduceDiv, Int.reduceLE, Int.reduceLT, Int.reduceToNat, Int.reduceAdd, Int.reduceSub, Int.reduceMul, Int.reduceNeg, Int.reduceEq, Int.reduceBEq, Int.reduceBNe, ↓reduceIte, reduceCtorEq, String.reduceBNe, String.reduceEq, reduceDIte, Nat.reducePow]
  refine Thn_n ?_
  refine hK _ _ ?_
  clear hK K
  refine AW.seq_k fun K hK => ?_
  refine AW.seq_k fun K hK => ?_
  refine AW.region (by decide) ?_
  simp only [push_cast, Nat.reduceAdd, Nat.reduceMul, Nat.reduceSub, Nat.reduceLeDiff, Nat.reduceLT, Nat.reduceEqDiff, Nat.reduceBEq, Nat.reduceBNe, Nat.reduceMod, Nat.reduceDiv, Int.reduceLE, Int.reduceLT, Int.reduceToNat, Int.reduceAdd, Int.reduceSub, Int.reduceMul, Int.reduceNeg, Int.reduceEq, Int.reduceBEq, Int.reduceBNe, ↓reduceIte, reduceCtorEq, String.reduceBNe, String.reduceEq, reduceDIte, Nat.reducePow]
  refine CThen.by (in_nil x _) ?_
  simp only [push_cast, Nat.reduceAdd, Nat.reduceMul, Nat.reduceSub, Nat.reduceLeDiff, Nat.reduceLT, Nat.reduceEqDiff, Nat.reduceBEq, Nat.reduceBNe, Nat.reduceMod, Nat.reduceDiv, Int.reduceLE, Int.reduceLT, Int.reduceToNat, Int.reduceAdd, Int.reduceSub, Int.reduceMul, Int.reduceNeg, Int.reduceEq, Int.reduceBEq, Int.reduceBNe, ↓reduceIte, reduceCtorEq, String.reduceBNe, String.reduceEq, reduceDIte, Nat.reducePow]
  refine Thn_n ?_
  refine hK _ _ ?_
  clear hK K
  refine AW.seq_k fun K hK => ?_
  refine AW.region (by decide) ?_
  simp only [push_cast, Nat.reduceAdd, Nat.reduceMul, Nat.reduceSub, Nat.reduceLeDiff, Nat.reduceLT, Nat.reduceEqDiff, Nat.reduceBEq, Nat.reduceBNe, Nat.reduceMod, Nat.reduceDiv, Int.reduceLE, Int.reduceLT, Int.reduceToNat, Int.reduceAdd, Int.reduceSub, Int.reduceMul, Int.reduceNeg, Int.reduceEq, Int.reduceBEq, Int.reduceBNe, ↓reduceIte, reduceCtorEq, String.reduceBNe, String.reduceEq, reduceDIte, Nat.reducePow]
  refine Thn_n ?_
  refine hK _ _ ?_
  clear hK K
  refine AW.cond_t rfl ?_
  refine AW.seq_k fun K hK => ?_
  refine AW.region (by decide) ?_
  simp only [push_cast, Nat.reduceAdd, Nat.reduceMul, Nat.reduceSub, Nat.reduceLeDiff, Nat.reduceLT, Nat.reduceEqDiff, Nat.reduceBEq, Nat.reduceBNe, Nat.reduceMod, Nat.reduceDiv, Int.reduceLE, Int.reduceLT, Int.reduceToNat, Int.reduceAdd, Int.reduceSub, Int.reduceMul, Int.reduceNeg, Int.reduceEq, Int.reduceBEq, Int.reduceBNe, ↓reduceIte, reduceCtorEq, String.reduceBNe, String.reduceEq, reduceDIte, Nat.reducePow]
  refine Thn_n ?_
  refine hK _ _ ?_
  clear hK K
  refine AW.ret ?_
  refine Thn_r ?_
  refine hQ _ _ _ ?_
  refine RetP.drop (by first | exact Or.inr rfl | exact Or.inl rfl) ?_ ?_ hwf
  · simp only [resA, resOne, resTv, AV.tv, push_cast, Nat.reduceAdd, Nat.reduceMul, Nat.reduceSub, Nat.reduceLeDiff, Nat.reduceLT, Nat.reduceEqDiff, Nat.reduceBEq, Nat.reduceBNe, Nat.reduceMod, Nat.reduceDiv, Int.reduceLE, Int.reduceLT, Int.reduceToNat, Int.reduceAdd, Int.reduceSub, Int.reduceMul, Int.reduceNeg, Int.reduceEq, Int.reduceBEq, Int.reduceBNe, ↓reduceIte, reduceCtorEq, String.reduceBNe, String.reduceEq, reduceDIte, Nat.reducePow]
    try rfl
  · rfl
theorem rd_down (rd rs rm n : Nat) (D : DS) (x : Int) (m : AMem) (hrd : m[rd]? = some (drB rs rm n D)) (h : D.down = true) : Ctr Try.prog 12 [.one (.ptr rd 0 0), .one (.int .i64 x)] m (.tup [(true, u8l zB), (false, [.int .i64 5])]) m := by
  refine Ctr.enter Try.func12 rfl (by decide) (rs := [.cell 4 29, .tmp 5]) (nt := 34) rfl rfl fun hwf Q hQ => ?_
  refine AW.seq_k fun K hK => ?_
  refine AW.region (by decide) ?_
  simp only [push_cast, Nat.reduceAdd, Nat.reduceMul, Nat.reduceSub, Nat.reduceLeDiff, Nat.reduceLT, Nat.reduceEqDiff, Nat.reduceBEq, Nat.reduceBNe, Nat.reduceMod, Nat.reduceDiv, Int.reduceLE, Int.reduceLT, Int.reduceToNat, Int.reduceAdd, Int.reduceSub, Int.reduceMul, Int.reduceNeg, Int.reduceEq, Int.reduceBEq, Int.reduceBNe, ↓reduceIte, reduceCtorEq, String.reduceBNe, String.reduceEq, reduceDIte, Nat.reducePow]
  refine Thn_n ?_
  refine hK _ _ ?_
  clear hK K
  refine AW.seq_k fun K hK => ?_
  refine AW.seq_k fun K hK => ?_
  refine AW.region (by decide) ?_
  simp only [push_cast, Nat.reduceAdd, Nat.reduceMul, Nat.reduceSub, Nat.reduceLeDiff, Nat.reduceLT, Nat.reduceEqDiff, Nat.reduceBEq, Nat.reduceBNe, Nat.reduceMod, Nat.reduceDiv, Int.reduceLE, Int.reduceLT, Int.reduceToNat, Int.reduceAdd, Int.reduceSub, Int.reduceMul, Int.reduceNeg, Int.reduceEq, Int.reduceBEq, Int.reduceBNe, ↓reduceIte, reduceCtorEq, String.reduceBNe, String.reduceEq, reduceDIte, Nat.reducePow]
  refine CThen.by (in_down rd rs rm n D x _ (lk_old hrd _) h) ?_
  simp only [push_cast, Nat.reduceAdd, Nat.reduceMul, Nat.reduceSub, Nat.reduceLeDiff, Nat.reduceLT, Nat.reduceEqDiff, Nat.reduceBEq, Nat.reduceBNe, Nat.reduceMod, Nat.reduceDiv, Int.reduceLE, Int.reduceLT, Int.reduceToNat, Int.reduceAdd, Int.reduceSub, Int.reduceMul, Int.reduceNeg, Int.reduceEq, Int.reduceBEq, Int.reduceBNe, ↓reduceIte, reduceCtorEq, String.reduceBNe, String.reduceEq, reduceDIte, Nat.reducePow]
  refine Thn_n ?_
  refine hK _ _ ?_
  clear hK K
  refine AW.seq_k fun K hK => ?_
  refine AW.region (by decide) ?_
  simp only [push_cast, Nat.reduceAdd, Nat.reduceMul, Nat.reduceSub, Nat.reduceLeDiff, Nat.reduceLT, Nat.reduceEqDiff, Nat.reduceBEq, Nat.reduceBNe, Nat.reduceMod, Nat.reduceDiv, Int.reduceLE, Int.reduceLT, Int.reduceToNat, Int.reduceAdd, Int.reduceSub, Int.reduceMul, Int.reduceNeg, Int.reduceEq, Int.reduceBEq, Int.reduceBNe, ↓reduceIte, reduceCtorEq, String.reduceBNe, String.reduceEq, reduceDIte, Nat.reducePow]
  refine Thn_n ?_
  refine hK _ _ ?_
  clear hK K
  refine AW.cond_t rfl ?_
  refine AW.seq_k fun K hK => ?_
  refine AW.region (by decide) ?_
  simp only [push_cast, Nat.reduceAdd, Nat.reduceMul, Nat.reduceSub, Nat.reduceLeDiff, Nat.reduceLT, Nat.reduceEqDiff, Nat.reduceBEq, Nat.reduceBNe, Nat.reduceMod, Nat.reduceDiv, Int.reduceLE, Int.reduceLT, Int.reduceToNat, Int.reduceAdd, Int.reduceSub, Int.reduceMul, Int.reduceNeg, Int.reduceEq, Int.reduceBEq, Int.reduceBNe, ↓reduceIte, reduceCtorEq, String.reduceBNe, String.reduceEq, reduceDIte, Nat.reducePow]
  refine Thn_n ?_
  refine hK _ _ ?_
  clear hK K
  refine AW.ret ?_
  refine Thn_r ?_
  refine hQ _ _ _ ?_
  refine RetP.drop (by first | exact Or.inr rfl | exact Or.inl rfl) ?_ ?_ hwf
  · simp only [resA, resOne, resTv, AV.tv, push_cast, Nat.reduceAdd, Nat.reduceMul, Nat.reduceSub, Nat.reduceLeDiff, Nat.reduceLT, Nat.reduceEqDiff, Nat.reduceBEq, Nat.reduceBNe, Nat.reduceMod, Nat.reduceDiv, Int.reduceLE, Int.reduceLT, Int.reduceToNat, Int.reduceAdd, Int.reduceSub, Int.reduceMul, Int.reduceNeg, Int.reduceEq, Int.reduceBEq, Int.reduceBNe, ↓reduceIte, reduceCtorEq, String.reduceBNe, String.reduceEq, reduceDIte, Nat.reducePow]
    try rfl
  · rfl
theorem rd_lo (rd rs rm n : Nat) (D : DS) (x : Int) (m : AMem) (hrd : m[rd]? = some (drB rs rm n D)) (h : D.down = false) (h1 : x < 0) : Ctr Try.prog 12 [.one (.ptr rd 0 0), .one (.int .i64 x)] m (.tup [(true, u8l zB), (false, [.int .i64 1])]) m := by
  refine Ctr.enter Try.func12 rfl (by decide) (rs := [.cell 4 29, .tmp 5]) (nt := 34) rfl rfl fun hwf Q hQ => ?_
  refine AW.seq_k fun K hK => ?_
  refine AW.region (by decide) ?_
  simp only [push_cast, Nat.reduceAdd, Nat.reduceMul, Nat.reduceSub, Nat.reduceLeDiff, Nat.reduceLT, Nat.reduceEqDiff, Nat.reduceBEq, Nat.reduceBNe, Nat.reduceMod, Nat.reduceDiv, Int.reduceLE, Int.reduceLT, Int.reduceToNat, Int.reduceAdd, Int.reduceSub, Int.reduceMul, Int.reduceNeg, Int.reduceEq, Int.reduceBEq, Int.reduceBNe, ↓reduceIte, reduceCtorEq, String.reduceBNe, String.reduceEq, reduceDIte, Nat.reducePow]
  refine Thn_n ?_
  refine hK _ _ ?_
  clear hK K
  refine AW.seq_k fun K hK => ?_
  refine AW.seq_k fun K hK => ?_
  refine AW.region (by decide) ?_
  simp only [push_cast, Nat.reduceAdd, Nat.reduceMul, Nat.reduceSub, Nat.reduceLeDiff, Nat.reduceLT, Nat.reduceEqDiff, Nat.reduceBEq, Nat.reduceBNe, Nat.reduceMod, Nat.reduceDiv, Int.reduceLE, Int.reduceLT, Int.reduceToNat, Int.reduceAdd, Int.reduceSub, Int.reduceMul, Int.reduceNeg, Int.reduceEq, Int.reduceBEq, Int.reduceBNe, ↓reduceIte, reduceCtorEq, String.reduceBNe, String.reduceEq, reduceDIte, Nat.reducePow]
  refine CThen.by (in_lo rd rs rm n D x _ (lk_old hrd _) h h1) ?_
  simp only [push_cast, Nat.reduceAdd, Nat.reduceMul, Nat.reduceSub, Nat.reduceLeDiff, Nat.reduceLT, Nat.reduceEqDiff, Nat.reduceBEq, Nat.reduceBNe, Nat.reduceMod, Nat.reduceDiv, Int.reduceLE, Int.reduceLT, Int.reduceToNat, Int.reduceAdd, Int.reduceSub, Int.reduceMul, Int.reduceNeg, Int.reduceEq, Int.reduceBEq, Int.reduceBNe, ↓reduceIte, reduceCtorEq, String.reduceBNe, String.reduceEq, reduceDIte, Nat.reducePow]
  refine Thn_n ?_
  refine hK _ _ ?_
  clear hK K
  refine AW.seq_k fun K hK => ?_
  refine AW.region (by decide) ?_
  simp only [push_cast, Nat.reduceAdd, Nat.reduceMul, Nat.reduceSub, Nat.reduceLeDiff, Nat.reduceLT, Nat.reduceEqDiff, Nat.reduceBEq, Nat.reduceBNe, Nat.reduceMod, Nat.reduceDiv, Int.reduceLE, Int.reduceLT, Int.reduceToNat, Int.reduceAdd, Int.reduceSub, Int.reduceMul, Int.reduceNeg, Int.reduceEq, Int.reduceBEq, Int.reduceBNe, ↓reduceIte, reduceCtorEq, String.reduceBNe, String.reduceEq, reduceDIte, Nat.reducePow]
  refine Thn_n ?_
  refine hK _ _ ?_
  clear hK K
  refine AW.cond_t rfl ?_
  refine AW.seq_k fun K hK => ?_
  refine AW.region (by decide) ?_
  simp only [push_cast, Nat.reduceAdd, Nat.reduceMul, Nat.reduceSub, Nat.reduceLeDiff, Nat.reduceLT, Nat.reduceEqDiff, Nat.reduceBEq, Nat.reduceBNe, Nat.reduceMod, Nat.reduceDiv, Int.reduceLE, Int.reduceLT, Int.reduceToNat, Int.reduceAdd, Int.reduceSub, Int.reduceMul, Int.reduceNeg, Int.reduceEq, Int.reduceBEq, Int.reduceBNe, ↓reduceIte, reduceCtorEq, String.reduceBNe, String.reduceEq, reduceDIte, Nat.reducePow]
  refine Thn_n ?_
  refine hK _ _ ?_
  clear hK K
  refine AW.ret ?_
  refine Thn_r ?_
  refine hQ _ _ _ ?_
  refine RetP.drop (by first | exact Or.inr rfl | exact Or.inl rfl) ?_ ?_ hwf
  · simp only [resA, resOne, resTv, AV.tv, push_cast, Nat.reduceAdd, Nat.reduceMul, Nat.reduceSub, Nat.reduceLeDiff, Nat.reduceLT, Nat.reduceEqDiff, Nat.reduceBEq, Nat.reduceBNe, Nat.reduceMod, Nat.reduceDiv, Int.reduceLE, Int.reduceLT, Int.reduceToNat, Int.reduceAdd, Int.reduceSub, Int.reduceMul, Int.reduceNeg, Int.reduceEq, Int.reduceBEq, Int.reduceBNe, ↓reduceIte, reduceCtorEq, String.reduceBNe, String.reduceEq, reduceDIte, Nat.reducePow]
    try rfl
  · rfl
theorem rd_hi (rd rs rm n : Nat) (D : DS) (x : Int) (m : AMem) (hrd : m[rd]? = some (drB rs rm n D)) (h : D.down = false) (h1 : ¬ x < 0) (h2 : (n : Int) ≤ x) : Ctr Try.prog 12 [.one (.ptr rd 0 0), .one (.int .i64 x)] m (.tup [(true, u8l zB), (false, [.int .i64 1])]) m := by
  refine Ctr.enter Try.func12 rfl (by decide) (rs := [.cell 4 29, .tmp 5]) (nt := 34) rfl rfl fun hwf Q hQ => ?_
  refine AW.seq_k fun K hK => ?_
  refine AW.region (by decide) ?_
  simp only [push_cast, Nat.reduceAdd, Nat.reduceMul, Nat.reduceSub, Nat.reduceLeDiff, Nat.reduceLT, Nat.reduceEqDiff, Nat.reduceBEq, Nat.reduceBNe, Nat.reduceMod, Nat.reduceDiv, Int.reduceLE, Int.reduceLT, Int.reduceToNat, Int.reduceAdd, Int.reduceSub, Int.reduceMul, Int.reduceNeg, Int.reduceEq, Int.reduceBEq, Int.reduceBNe, ↓reduceIte, reduceCtorEq, String.reduceBNe, String.reduceEq, reduceDIte, Nat.reducePow]
  refine Thn_n ?_
  refine hK _ _ ?_
  clear hK K
  refine AW.seq_k fun K hK => ?_
  refine AW.seq_k fun K hK => ?_
  refine AW.region (by decide) ?_
  simp only [push_cast, Nat.reduceAdd, Nat.reduceMul, Nat.reduceSub, Nat.reduceLeDiff, Nat.reduceLT, Nat.reduceEqDiff, Nat.reduceBEq, Nat.reduceBNe, Nat.reduceMod, Nat.reduceDiv, Int.reduceLE, Int.reduceLT, Int.reduceToNat, Int.reduceAdd, Int.reduceSub, Int.reduceMul, Int.reduceNeg, Int.reduceEq, Int.reduceBEq, Int.reduceBNe, ↓reduceIte, reduceCtorEq, String.reduceBNe, String.reduceEq, reduceDIte, Nat.reducePow]
  refine CThen.by (in_hi rd rs rm n D x _ (lk_old hrd _) h h1 h2) ?_
  simp only [push_cast, Nat.reduceAdd, Nat.reduceMul, Nat.reduceSub, Nat.reduceLeDiff, Nat.reduceLT, Nat.reduceEqDiff, Nat.reduceBEq, Nat.reduceBNe, Nat.reduceMod, Nat.reduceDiv, Int.reduceLE, Int.reduceLT, Int.reduceToNat, Int.reduceAdd, Int.reduceSub, Int.reduceMul, Int.reduceNeg, Int.reduceEq, Int.reduceBEq, Int.reduceBNe, ↓reduceIte, reduceCtorEq, String.reduceBNe, String.reduceEq, reduceDIte, Nat.reducePow]
  refine Thn_n ?_
  refine hK _ _ ?_
  clear hK K
  refine AW.seq_k fun K hK => ?_
  refine AW.region (by decide) ?_
  simp only [push_cast, Nat.reduceAdd, Nat.reduceMul, Nat.reduceSub, Nat.reduceLeDiff, Nat.reduceLT, Nat.reduceEqDiff, Nat.reduceBEq, Nat.reduceBNe, Nat.reduceMod, Nat.reduceDiv, Int.reduceLE, Int.reduceLT, Int.reduceToNat, Int.reduceAdd, Int.reduceSub, Int.reduceMul, Int.reduceNeg, Int.reduceEq, Int.reduceBEq, Int.reduceBNe, ↓reduceIte, reduceCtorEq, String.reduceBNe, String.reduceEq, reduceDIte, Nat.reducePow]
  refine Thn_n ?_
  refine hK _ _ ?_
  clear hK K
  refine AW.cond_t rfl ?_
  refine AW.seq_k fun K hK => ?_
  refine AW.region (by decide) ?_
  simp only [push_cast, Nat.reduceAdd, Nat.reduceMul, Nat.reduceSub, Nat.reduceLeDiff, Nat.reduceLT, Nat.reduceEqDiff, Nat.reduceBEq, Nat.reduceBNe, Nat.reduceMod, Nat.reduceDiv, Int.reduceLE, Int.reduceLT, Int.reduceToNat, Int.reduceAdd, Int.reduceSub, Int.reduceMul, Int.reduceNeg, Int.reduceEq, Int.reduceBEq, Int.reduceBNe, ↓reduceIte, reduceCtorEq, String.reduceBNe, String.reduceEq, reduceDIte, Nat.reducePow]
  refine Thn_n ?_
  refine hK _ _ ?_
  clear hK K
  refine AW.ret ?_
  refine Thn_r ?_
  refine hQ _ _ _ ?_
  refine RetP.drop (by first | exact Or.inr rfl | exact Or.inl rfl) ?_ ?_ hwf
  · simp only [resA, resOne, resTv, AV.tv, push_cast, Nat.reduceAdd, Nat.reduceMul, Nat.reduceSub, Nat.reduceLeDiff, Nat.reduceLT, Nat.reduceEqDiff, Nat.reduceBEq, Nat.reduceBNe, Nat.reduceMod, Nat.reduceDiv, Int.reduceLE, Int.reduceLT, Int.reduceToNat, Int.reduceAdd, Int.reduceSub, Int.reduceMul, Int.reduceNeg, Int.reduceEq, Int.reduceBEq, Int.reduceBNe, ↓reduceIte, reduceCtorEq, String.reduceBNe, String.reduceEq, reduceDIte, Nat.reducePow]
    try rfl
  · rfl
theorem rd_ok (rd rs rm n k : Nat) (D : DS) (m : AMem) (h : HasD m rd rs rm n D) (hwd : WfD n D) (hd : D.down = false) (hk : k < n) : Ctr Try.prog 12 [.one (.ptr rd 0 0), .one (.int .i64 (k : Int))] m (.tup [(true, u8l (vis D.S D.E k)), (false, [.int .i64 0])]) m := by
  refine Ctr.enter Try.func12 rfl (by decide) (rs := [.cell 4 29, .tmp 5]) (nt := 34) rfl rfl fun hwf Q hQ => ?_
  have hrd := h.d
  have hrs := h.r
  have hrm := h.m
  have ld := get_lt hrd
  have lr := get_lt hrs
  have lm := get_lt hrm
  have ndr : rd ≠ rs := h.dr
  have ndm : rd ≠ rm := h.dm
  have nrm : rs ≠ rm := h.rm
  have nrd := ndr.symm
  have nmd := ndm.symm
  have nmr := nrm.symm
  have oD := fun (L : AMem) => mk_olds (m := m) (l := m) rfl ld L
  have oR := fun (L : AMem) => mk_olds (m := m) (l := m) rfl lr L
  have oM := fun (L : AMem) => mk_olds (m := m) (l := m) rfl lm L
  have pD := fun (l L : AMem) (e : l.length = m.length) => mk_olds (m := m) (l := l) (r := rd) e ld L
  have pR := fun (l L : AMem) (e : l.length = m.length) => mk_olds (m := m) (l := l) (r := rs) e lr L
  have pM := fun (l L : AMem) (e : l.length = m.length) => mk_olds (m := m) (l := l) (r := rm) e lm L
  have gD := fun (l L : AMem) (e : l.length = m.length) => mk_old (m := m) (l := l) (r := rd) e ld L
  have gR := fun (l L : AMem) (e : l.length = m.length) => mk_old (m := m) (l := l) (r := rs) e lr L
  have gM := fun (l L : AMem) (e : l.length = m.length) => mk_old (m := m) (l := l) (r := rm) e lm L
  have sD := fun (l : AMem) (b : Blk) (e : l.length = m.length) => mk_self (m := m) (l := l) (r := rd) e ld b
  have sR := fun (l : AMem) (b : Blk) (e : l.length = m.length) => mk_self (m := m) (l := l) (r := rs) e lr b
  have sM := fun (l : AMem) (b : Blk) (e : l.length = m.length) => mk_self (m := m) (l := l) (r := rm) e lm b
  have aA := fun (l L : AMem) (e : l.length = m.length) => mk_lk0 (m := m) (l := l) e L
  have aK := fun (l L : AMem) (k : Nat) (e : l.length = m.length) => mk_lk (m := m) (l := l) e L k
  have aT := fun (l L : AMem) (k : Nat) (b : Blk) (e : l.length = m.length) => mk_set (m := m) (l := l) e L k b
  have aS := fun (l L : AMem) (b : Blk) (e : l.length = m.length) => mk_set0 (m := m) (l := l) e L b
  have hz : zeros zV 128 = [.int .u8 0, .int .u8 0, .int .u8 0, .int .u8 0, .int .u8 0, .int .u8 0, .int .u8 0, .int .u8 0, .int .u8 0, .int .u8 0, .int .u8 0, .int .u8 0, .int .u8 0, .int .u8 0, .int .u8 0, .int .u8 0, .int .u8 0, .int .u8 0, .int .u8 0, .int .u8 0, .int .u8 0, .int .u8 0, .int .u8 0, .int .u8 0, .int .u8 0, .int .u8 0, .int .u8 0, .int .u8 0, .int .u8 0, .int .u8 0, .int .u8 0, .int .u8 0, .int .u8 0, .int .u8 0, .int .u8 0, .int .u8 0, .int .u8 0, .int .u8 0, .int .u8 0, .int .u8 0, .int .u8 0, .int .u8 0, .int .u8 0, .int .u8 0, .int .u8 0, .int .u8 0, .int .u8 0, .int .u8 0, .int .u8 0, .int .u8 0, .int .u8 0, .int .u8 0, .int .u8 0, .int .u8 0, .int .u8 0, .int .u8 0, .int .u8 0, .int .u8 0, .int .u8 0, .int .u8 0, .int .u8 0, .int .u8 0, .int .u8 0, .int .u8 0, .int .u8 0, .int .u8 0, .int .u8 0, .int .u8 0, .int .u8 0, .int .u8 0, .int .u8 0, .int .u8 0, .int .u8 0, .int .u8 0, .int .u8 0, .int .u8 0, .int .u8 0, .int .u8 0, .int .u8 0, .int .u8 0, .int .u8 0, .int .u8 0, .int .u8 0, .int .u8 0, .int .u8 0, .int .u8 0, .int .u8 0, .int .u8 0, .int .u8 0, .int .u8 0, .int .u8 0, .int .u8 0, .int .u8 0, .int .u8 0, .int .u8 0, .int .u8 0, .int .u8 0, .int .u8 0, .int .u8 0, .int .u8 0, .int .u8 0, .int .u8 0, .int .u8 0, .int .u8 0, .int .u8 0, .int .u8 0, .int .u8 0, .int .u8 0, .int .u8 0, .int .u8 0, .int .u8 0, .int .u8 0, .int .u8 0, .int .u8 0, .int .u8 0, .int .u8 0, .int .u8 0, .int .u8 0, .int .u8 0, .int .u8 0, .int .u8 0, .int .u8 0, .int .u8 0, .int .u8 0, .int .u8 0, .int .u8 0, .int .u8 0, .int .u8 0] := by decide
  have q1 : (0 : Int) ≤ (k : Int) := by omega
  have q2 : (k : Int) < (n : Int) := by omega
  have q3 : k * 128 + 128 ≤ n * 128 := by omega
  have hcl : (u8l (catB n D.S)).length = n * 128 := by rw [u8l_len, catB_len hwd.s]
  have hca := catB_at hwd.s hk
  have hs1 : (u8l (D.S k)).length = 128 := by rw [u8l_len, hwd.s k]
  have hs2 : (u8l (D.S k)).take 128 = u8l (D.S k) := List.take_of_length_le (by omega)
  have hs3 := u8l_vals (D.S k)
  have hs4 : setL [.int .u8 0, .int .u8 0, .int .u8 0, .int .u8 0, .int .u8 0, .int .u8 0, .int .u8 0, .int .u8 0, .int .u8 0, .int .u8 0, .int .u8 0, .int .u8 0, .int .u8 0, .int .u8 0, .int .u8 0, .int .u8 0, .int .u8 0, .int .u8 0, .int .u8 0, .int .u8 0, .int .u8 0, .int .u8 0, .int .u8 0, .int .u8 0, .int .u8 0, .int .u8 0, .int .u8 0, .int .u8 0, .int .u8 0, .int .u8 0, .int .u8 0, .int .u8 0, .int .u8 0, .int .u8 0, .int .u8 0, .int .u8 0, .int .u8 0, .int .u8 0, .int .u8 0, .int .u8 0, .int .u8 0, .int .u8 0, .int .u8 0, .int .u8 0, .int .u8 0, .int .u8 0, .int .u8 0, .int .u8 0, .int .u8 0, .int .u8 0, .int .u8 0, .int .u8 0, .int .u8 0, .int .u8 0, .int .u8 0, .int .u8 0, .int .u8 0, .int .u8 0, .int .u8 0, .int .u8 0, .int .u8 0, .int .u8 0, .int .u8 0, .int .u8 0, .int .u8 0, .int .u8 0, .int .u8 0, .int .u8 0, .int .u8 0, .int .u8 0, .int .u8 0, .int .u8 0, .int .u8 0, .int .u8 0, .int .u8 0, .int .u8 0, .int .u8 0, .int .u8 0, .int .u8 0, .int .u8 0, .int .u8 0, .int .u8 0, .int .u8 0, .int .u8 0, .int .u8 0, .int .u8 0, .int .u8 0, .int .u8 0, .int .u8 0, .int .u8 0, .int .u8 0, .int .u8 0, .int .u8 0, .int .u8 0, .int .u8 0, .int .u8 0, .int .u8 0, .int .u8 0, .int .u8 0, .int .u8 0, .int .u8 0, .int .u8 0, .int .u8 0, .int .u8 0, .int .u8 0, .int .u8 0, .int .u8 0, .int .u8 0, .int .u8 0, .int .u8 0, .int .u8 0, .int .u8 0, .int .u8 0, .int .u8 0, .int .u8 0, .int .u8 0, .int .u8 0, .int .u8 0, .int .u8 0, .int .u8 0, .int .u8 0, .int .u8 0, .int .u8 0, .int .u8 0, .int .u8 0, .int .u8 0, .int .u8 0, .int .u8 0] 0 (u8l (D.S k)) = u8l (D.S k) := setL_all (by rw [hs1]; rfl)
  refine AW.seq_k fun K hK => ?_
  refine AW.region (by decide) ?_
  simp only [push_cast, Nat.reduceAdd, Nat.reduceMul, Nat.reduceSub, Nat.reduceLeDiff, Nat.reduceLT, Nat.reduceEqDiff, Nat.reduceBEq, Nat.reduceBNe, Nat.reduceMod, Nat.reduceDiv, Int.reduceLE, Int.reduceLT, Int.reduceToNat, Int.reduceAdd, Int.reduceSub, Int.reduceMul, Int.reduceNeg, Int.reduceEq, Int.reduceBEq, Int.reduceBNe, ↓reduceIte, reduceCtorEq, String.reduceBNe, String.reduceEq, reduceDIte, Nat.reducePow, q1, q2, q3, hcl, hca, hs1, hs2, hs3, hs4, Int.toNat_natCast, hrd, hrs, hrm, pD, pR, pM, gD, gR, gM, sD, sR, sM, aA, aS, aK, aT, List.set_set, List.length_set, List.getElem?_set_ne ndr, List.getElem?_set_ne ndm, List.getElem?_set_ne nrm, List.getElem?_set_ne nrd, List.getElem?_set_ne nmd, List.getElem?_set_ne nmr, drB, rowD, mapD]
  refine Thn_n ?_
  refine hK _ _ ?_
  clear hK K
  refine AW.seq_k fun K hK => ?_
  refine AW.seq_k fun K hK => ?_
  refine AW.region (by decide) ?_
  simp only [push_cast, Nat.reduceAdd, Nat.reduceMul, Nat.reduceSub, Nat.reduceLeDiff, Nat.reduceLT, Nat.reduceEqDiff, Nat.reduceBEq, Nat.reduceBNe, Nat.reduceMod, Nat.reduceDiv, Int.reduceLE, Int.reduceLT, Int.reduceToNat, Int.reduceAdd, Int.reduceSub, Int.reduceMul, Int.reduceNeg, Int.reduceEq, Int.reduceBEq, Int.reduceBNe, ↓reduceIte, reduceCtorEq, String.reduceBNe, String.reduceEq, reduceDIte, Nat.reducePow, q1, q2, q3, hcl, hca, hs1, hs2, hs3, hs4, Int.toNat_natCast, hrd, hrs, hrm, pD, pR, pM, gD, gR, gM, sD, sR, sM, aA, aS, aK, aT, List.set_set, List.length_set, List.getElem?_set_ne ndr, List.getElem?_set_ne ndm, List.getElem?_set_ne nrm, List.getElem?_set_ne nrd, List.getElem?_set_ne nmd, List.getElem?_set_ne nmr, drB, rowD, mapD]
  refine CThen.by (in_ok rd rs rm n D (k : Int) _ (lk_old h.d _) hd (by omega) (by omega)) ?_
  simp only [push_cast, Nat.reduceAdd, Nat.reduceMul, Nat.reduceSub, Nat.reduceLeDiff, Nat.reduceLT, Nat.reduceEqDiff, Nat.reduceBEq, Nat.reduceBNe, Nat.reduceMod, Nat.reduceDiv, Int.reduceLE, Int.reduceLT, Int.reduceToNat, Int.reduceAdd, Int.reduceSub, Int.reduceMul, Int.reduceNeg, Int.reduceEq, Int.reduceBEq, Int.reduceBNe, ↓reduceIte, reduceCtorEq, String.reduceBNe, String.reduceEq, reduceDIte, Nat.reducePow, q1, q2, q3, hcl, hca, hs1, hs2, hs3, hs4, Int.toNat_natCast, hrd, hrs, hrm, pD, pR, pM, gD, gR, gM, sD, sR, sM, aA, aS, aK, aT, List.set_set, List.length_set, List.getElem?_set_ne ndr, List.getElem?_set_ne ndm, List.getElem?_set_ne nrm, List.getElem?_set_ne nrd, List.getElem?_set_ne nmd, List.getElem?_set_ne nmr, drB, rowD, mapD]
  refine Thn_n ?_
  refine hK _ _ ?_
  clear hK K
  refine AW.seq_k fun K hK => ?_
  refine AW.region (by decide) ?_
  simp only [push_cast, Nat.reduceAdd, Nat.reduceMul, Nat.reduceSub, Nat.reduceLeDiff, Nat.reduceLT, Nat.reduceEqDiff, Nat.reduceBEq, Nat.reduceBNe, Nat.reduceMod, Nat.reduceDiv, Int.reduceLE, Int.reduceLT, Int.reduceToNat, Int.reduceAdd, Int.reduceSub, Int.reduceMul, Int.reduceNeg, Int.reduceEq, Int.reduceBEq, Int.reduceBNe, ↓reduceIte, reduceCtorEq, String.reduceBNe, String.reduceEq, reduceDIte, Nat.reducePow, q1, q2, q3, hcl, hca, hs1, hs2, hs3, hs4, Int.toNat_natCast, hrd, hrs, hrm, pD, pR, pM, gD, gR, gM, sD, sR, sM, aA, aS, aK, aT, List.set_set, List.length_set, List.getElem?_set_ne ndr, List.getElem?_set_ne ndm, List.getElem?_set_ne nrm, List.getElem?_set_ne nrd, List.getElem?_set_ne nmd, List.getElem?_set_ne nmr, drB, rowD, mapD]
  refine Thn_n ?_
  refine hK _ _ ?_
  clear hK K
  refine AW.cond_f rfl ?_
  refine AW.skip ?_
  refine Thn_n ?_
  refine hK _ _ ?_
  clear hK K
  refine AW.seq_k fun K hK => ?_
  refine AW.seq_k fun K hK => ?_
  rcases hf : fndE (k : Int) D.E with _ | j
  · have g1 := findL_eL (k : Int) D.E
    rw [hf] at g1
    have hvis : vis D.S D.E k = D.S k := by unfold vis; rw [lkE_none hf]; rfl
    refine AW.region (by decide) ?_
    simp only [push_cast, Nat.reduceAdd, Nat.reduceMul, Nat.reduceSub, Nat.reduceLeDiff, Nat.reduceLT, Nat.reduceEqDiff, Nat.reduceBEq, Nat.reduceBNe, Nat.reduceMod, Nat.reduceDiv, Int.reduceLE, Int.reduceLT, Int.reduceToNat, Int.reduceAdd, Int.reduceSub, Int.reduceMul, Int.reduceNeg, Int.reduceEq, Int.reduceBEq, Int.reduceBNe, ↓reduceIte, reduceCtorEq, String.reduceBNe, String.reduceEq, reduceDIte, Nat.reducePow, q1, q2, q3, hcl, hca, hs1, hs2, hs3, hs4, Int.toNat_natCast, hrd, hrs, hrm, pD, pR, pM, gD, gR, gM, sD, sR, sM, aA, aS, aK, aT, List.set_set, List.length_set, List.getElem?_set_ne ndr, List.getElem?_set_ne ndm, List.getElem?_set_ne nrm, List.getElem?_set_ne nrd, List.getElem?_set_ne nmd, List.getElem?_set_ne nmr, drB, rowD, mapD, g1]
    refine Thn_n ?_
    refine hK _ _ ?_
    clear hK K
    refine AW.seq_k fun K hK => ?_
    refine AW.region (by decide) ?_
    simp only [push_cast, Nat.reduceAdd, Nat.reduceMul, Nat.reduceSub, Nat.reduceLeDiff, Nat.reduceLT, Nat.reduceEqDiff, Nat.reduceBEq, Nat.reduceBNe, Nat.reduceMod, Nat.reduceDiv, Int.reduceLE, Int.reduceLT, Int.reduceToNat, Int.reduceAdd, Int.reduceSub, Int.reduceMul, Int.reduceNeg, Int.reduceEq, Int.reduceBEq, Int.reduceBNe, ↓reduceIte, reduceCtorEq, String.reduceBNe, String.reduceEq, reduceDIte, Nat.reducePow, q1, q2, q3, hcl, hca, hs1, hs2, hs3, hs4, Int.toNat_natCast, hrd, hrs, hrm, pD, pR, pM, gD, gR, gM, sD, sR, sM, aA, aS, aK, aT, List.set_set, List.length_set, List.getElem?_set_ne ndr, List.getElem?_set_ne ndm, List.getElem?_set_ne nrm, List.getElem?_set_ne nrd, List.getElem?_set_ne nmd, List.getElem?_set_ne nmr, drB, rowD, mapD, g1]
    refine Thn_n ?_
    refine hK _ _ ?_
    clear hK K
    refine AW.cond_f rfl ?_
    refine AW.skip ?_
    refine Thn_n ?_
    refine hK _ _ ?_
    clear hK K
    refine AW.seq_k fun K hK => ?_
    refine AW.region (by decide) ?_
    simp only [push_cast, Nat.reduceAdd, Nat.reduceMul, Nat.reduceSub, Nat.reduceLeDiff, Nat.reduceLT, Nat.reduceEqDiff, Nat.reduceBEq, Nat.reduceBNe, Nat.reduceMod, Nat.reduceDiv, Int.reduceLE, Int.reduceLT, Int.reduceToNat, Int.reduceAdd, Int.reduceSub, Int.reduceMul, Int.reduceNeg, Int.reduceEq, Int.reduceBEq, Int.reduceBNe, ↓reduceIte, reduceCtorEq, String.reduceBNe, String.reduceEq, reduceDIte, Nat.reducePow, q1, q2, q3, hcl, hca, hs1, hs2, hs3, hs4, Int.toNat_natCast, hrd, hrs, hrm, pD, pR, pM, gD, gR, gM, sD, sR, sM, aA, aS, aK, aT, List.set_set, List.length_set, List.getElem?_set_ne ndr, List.getElem?_set_ne ndm, List.getElem?_set_ne nrm, List.getElem?_set_ne nrd, List.getElem?_set_ne nmd, List.getElem?_set_ne nmr, drB, rowD, mapD, g1]
    refine Thn_n ?_
    refine hK _ _ ?_
    clear hK K
    refine AW.ret ?_
    refine hQ _ _ _ ?_
    rw [hvis]
    refine RetP.drop (by first | exact Or.inr rfl | exact Or.inl rfl) ?_ ?_ hwf
    · simp only [resA, resOne, resTv, AV.tv, push_cast, Nat.reduceAdd, Nat.reduceMul, Nat.reduceSub, Nat.reduceLeDiff, Nat.reduceLT, Nat.reduceEqDiff, Nat.reduceBEq, Nat.reduceBNe, Nat.reduceMod, Nat.reduceDiv, Int.reduceLE, Int.reduceLT, Int.reduceToNat, Int.reduceAdd, Int.reduceSub, Int.reduceMul, Int.reduceNeg, Int.reduceEq, Int.reduceBEq, Int.reduceBNe, ↓reduceIte, reduceCtorEq, String.reduceBNe, String.reduceEq, reduceDIte, Nat.reducePow, hs1, hs2, hs3, hs4]
      try simp only [g5, g6, Nat.le_refl, AV.tv, push_cast, Nat.reduceAdd, Nat.reduceMul, Nat.reduceSub, Nat.reduceLeDiff, Nat.reduceLT, Nat.reduceEqDiff, Nat.reduceBEq, Nat.reduceBNe, Nat.reduceMod, Nat.reduceDiv, Int.reduceLE, Int.reduceLT, Int.reduceToNat, Int.reduceAdd, Int.reduceSub, Int.reduceMul, Int.reduceNeg, Int.reduceEq, Int.reduceBEq, Int.reduceBNe, ↓reduceIte, reduceCtorEq, String.reduceBNe, String.reduceEq, reduceDIte, Nat.reducePow]
    · simp only [AV.below, List.all_cons, List.all_nil, CV.below, u8l_below, Bool.and_self]
  · have g1 := findL_eL (k : Int) D.E
    rw [hf] at g1
    obtain ⟨b, w, hj, hl⟩ := fndE_some hf
    have g4 := eL_get hj
    simp only [eC] at g4
    have hw128 := hwd.e.len _ (List.mem_of_getElem? hj)
    dsimp only at hw128
    have g5 : (u8l w).length = 128 := by rw [u8l_len]; exact hw128
    have g6 : (u8l w).take 128 = u8l w := List.take_of_length_le (by omega)
    have g7 := u8l_vals w
    have g8 : setL [.int .u8 0, .int .u8 0, .int .u8 0, .int .u8 0, .int .u8 0, .int .u8 0, .int .u8 0, .int .u8 0, .int .u8 0, .int .u8 0, .int .u8 0, .int .u8 0, .int .u8 0, .int .u8 0, .int .u8 0, .int .u8 0, .int .u8 0, .int .u8 0, .int .u8 0, .int .u8 0, .int .u8 0, .int .u8 0, .int .u8 0, .int .u8 0, .int .u8 0, .int .u8 0, .int .u8 0, .int .u8 0, .int .u8 0, .int .u8 0, .int .u8 0, .int .u8 0, .int .u8 0, .int .u8 0, .int .u8 0, .int .u8 0, .int .u8 0, .int .u8 0, .int .u8 0, .int .u8 0, .int .u8 0, .int .u8 0, .int .u8 0, .int .u8 0, .int .u8 0, .int .u8 0, .int .u8 0, .int .u8 0, .int .u8 0, .int .u8 0, .int .u8 0, .int .u8 0, .int .u8 0, .int .u8 0, .int .u8 0, .int .u8 0, .int .u8 0, .int .u8 0, .int .u8 0, .int .u8 0, .int .u8 0, .int .u8 0, .int .u8 0, .int .u8 0, .int .u8 0, .int .u8 0, .int .u8 0, .int .u8 0, .int .u8 0, .int .u8 0, .int .u8 0, .int .u8 0, .int .u8 0, .int .u8 0, .int .u8 0, .int .u8 0, .int .u8 0, .int .u8 0, .int .u8 0, .int .u8 0, .int .u8 0, .int .u8 0, .int .u8 0, .int .u8 0, .int .u8 0, .int .u8 0, .int .u8 0, .int .u8 0, .int .u8 0, .int .u8 0, .int .u8 0, .int .u8 0, .int .u8 0, .int .u8 0, .int .u8 0, .int .u8 0, .int .u8 0, .int .u8 0, .int .u8 0, .int .u8 0, .int .u8 0, .int .u8 0, .int .u8 0, .int .u8 0, .int .u8 0, .int .u8 0, .int .u8 0, .int .u8 0, .int .u8 0, .int .u8 0, .int .u8 0, .int .u8 0, .int .u8 0, .int .u8 0, .int .u8 0, .int .u8 0, .int .u8 0, .int .u8 0, .int .u8 0, .int .u8 0, .int .u8 0, .int .u8 0, .int .u8 0, .int .u8 0, .int .u8 0, .int .u8 0, .int .u8 0, .int .u8 0] 0 (u8l w) = u8l w := setL_all (by rw [g5]; rfl)
    have hvis : vis D.S D.E k = w := by unfold vis lkE; rw [hl]; rfl
    refine AW.region (by decide) ?_
    simp only [push_cast, Nat.reduceAdd, Nat.reduceMul, Nat.reduceSub, Nat.reduceLeDiff, Nat.reduceLT, Nat.reduceEqDiff, Nat.reduceBEq, Nat.reduceBNe, Nat.reduceMod, Nat.reduceDiv, Int.reduceLE, Int.reduceLT, Int.reduceToNat, Int.reduceAdd, Int.reduceSub, Int.reduceMul, Int.reduceNeg, Int.reduceEq, Int.reduceBEq, Int.reduceBNe, ↓reduceIte, reduceCtorEq, String.reduceBNe, String.reduceEq, reduceDIte, Nat.reducePow, q1, q2, q3, hcl, hca, hs1, hs2, hs3, hs4, Int.toNat_natCast, hrd, hrs, hrm, pD, pR, pM, gD, gR, gM, sD, sR, sM, aA, aS, aK, aT, List.set_set, List.length_set, List.getElem?_set_ne ndr, List.getElem?_set_ne ndm, List.getElem?_set_ne nrm, List.getElem?_set_ne nrd, List.getElem?_set_ne nmd, List.getElem?_set_ne nmr, drB, rowD, mapD, g1, g4, g5, g6, g7, g8]
    refine Thn_n ?_
    refine hK _ _ ?_
    clear hK K
    refine AW.seq_k fun K hK => ?_
    refine AW.region (by decide) ?_
    simp only [push_cast, Nat.reduceAdd, Nat.reduceMul, Nat.reduceSub, Nat.reduceLeDiff, Nat.reduceLT, Nat.reduceEqDiff, Nat.reduceBEq, Nat.reduceBNe, Nat.reduceMod, Nat.reduceDiv, Int.reduceLE, Int.reduceLT, Int.reduceToNat, Int.reduceAdd, Int.reduceSub, Int.reduceMul, Int.reduceNeg, Int.reduceEq, Int.reduceBEq, Int.reduceBNe, ↓reduceIte, reduceCtorEq, String.reduceBNe, String.reduceEq, reduceDIte, Nat.reducePow, q1, q2, q3, hcl, hca, hs1, hs2, hs3, hs4, Int.toNat_natCast, hrd, hrs, hrm, pD, pR, pM, gD, gR, gM, sD, sR, sM, aA, aS, aK, aT, List.set_set, List.length_set, List.getElem?_set_ne ndr, List.getElem?_set_ne ndm, List.getElem?_set_ne nrm, List.getElem?_set_ne nrd, List.getElem?_set_ne nmd, List.getElem?_set_ne nmr, drB, rowD, mapD, g1, g4, g5, g6, g7, g8]
    refine Thn_n ?_
    refine hK _ _ ?_
    clear hK K
    refine AW.cond_t rfl ?_
    refine AW.seq_k fun K hK => ?_
    refine AW.region (by decide) ?_
    simp only [push_cast, Nat.reduceAdd, Nat.reduceMul, Nat.reduceSub, Nat.reduceLeDiff, Nat.reduceLT, Nat.reduceEqDiff, Nat.reduceBEq, Nat.reduceBNe, Nat.reduceMod, Nat.reduceDiv, Int.reduceLE, Int.reduceLT, Int.reduceToNat, Int.reduceAdd, Int.reduceSub, Int.reduceMul, Int.reduceNeg, Int.reduceEq, Int.reduceBEq, Int.reduceBNe, ↓reduceIte, reduceCtorEq, String.reduceBNe, String.reduceEq, reduceDIte, Nat.reducePow, q1, q2, q3, hcl, hca, hs1, hs2, hs3, hs4, Int.toNat_natCast, hrd, hrs, hrm, pD, pR, pM, gD, gR, gM, sD, sR, sM, aA, aS, aK, aT, List.set_set, List.length_set, List.getElem?_set_ne ndr, List.getElem?_set_ne ndm, List.getElem?_set_ne nrm, List.getElem?_set_ne nrd, List.getElem?_set_ne nmd, List.getElem?_set_ne nmr, drB, rowD, mapD, g1, g4, g5, g6, g7, g8]
    refine Thn_n ?_
    refine hK _ _ ?_
    clear hK K
    refine AW.ret ?_
    refine Thn_r ?_
    refine hQ _ _ _ ?_
    rw [hvis]
    refine RetP.drop (by first | exact Or.inr rfl | exact Or.inl rfl) ?_ ?_ hwf
    · simp only [resA, resOne, resTv, AV.tv, push_cast, Nat.reduceAdd, Nat.reduceMul, Nat.reduceSub, Nat.reduceLeDiff, Nat.reduceLT, Nat.reduceEqDiff, Nat.reduceBEq, Nat.reduceBNe, Nat.reduceMod, Nat.reduceDiv, Int.reduceLE, Int.reduceLT, Int.reduceToNat, Int.reduceAdd, Int.reduceSub, Int.reduceMul, Int.reduceNeg, Int.reduceEq, Int.reduceBEq, Int.reduceBNe, ↓reduceIte, reduceCtorEq, String.reduceBNe, String.reduceEq, reduceDIte, Nat.reducePow, hs1, hs2, hs3, hs4]
      try simp only [g5, g6, Nat.le_refl, AV.tv, push_cast, Nat.reduceAdd, Nat.reduceMul, Nat.reduceSub, Nat.reduceLeDiff, Nat.reduceLT, Nat.reduceEqDiff, Nat.reduceBEq, Nat.reduceBNe, Nat.reduceMod, Nat.reduceDiv, Int.reduceLE, Int.reduceLT, Int.reduceToNat, Int.reduceAdd, Int.reduceSub, Int.reduceMul, Int.reduceNeg, Int.reduceEq, Int.reduceBEq, Int.reduceBNe, ↓reduceIte, reduceCtorEq, String.reduceBNe, String.reduceEq, reduceDIte, Nat.reducePow]
    · simp only [AV.below, List.all_cons, List.all_nil, CV.below, u8l_below, Bool.and_self]
end Go.Proofs.Ytcahlnddcjifdaa

set_option linter.unusedSimpArgs false
set_option linter.unusedVariables false
set_option maxRecDepth 100000
set_option maxHeartbeats 4000000
namespace Go.Proofs.Ytcahlnddcjifdaa
open Go Go.Eng

def fuD (D : DS) (x : Int) : DS := { D with fuse := maxI x (-1) }
theorem fu_nil (x : Int) (m : AMem) : Ctr Try.prog 10 [.one .nilp, .one (.int .i64 x)] m (.one (.int .i64 2)) m := by
  refine Ctr.enter Try.func10 rfl (by decide) (rs := [.tmp 4]) (nt := 17) rfl rfl fun hwf Q hQ => ?_
  refine AW.seq_k fun K hK => ?_
  refine AW.region (by decide) ?_
  simp only [push_cast, Nat.reduceAdd, Nat.reduceMul, Nat.reduceSub, Nat.reduceLeDiff, Nat.reduceLT, Nat.reduceEqDiff, Nat.reduceBEq, Nat.reduceBNe, Nat.reduceMod, Nat.reduceDiv, Int.reduceLE, Int.reduceLT, Int.reduceToNat, Int.reduceAdd, Int.reduceSub, Int.reduceMul, Int.reduceNeg, Int.reduceEq, Int.reduceBEq, Int.reduceBNe, ↓reduceIte, reduceCtorEq, String.reduceBNe, String.reduceEq, reduceDIte, Nat.reducePow]
  refine Thn_n ?_
  refine hK _ _ ?_
  clear hK K
  refine AW.seq_k fun K hK => ?_
  refine AW.seq_k fun K hK => ?_
  refine AW.region (by decide) ?_
  simp only [push_cast, Nat.reduceAdd, Nat.reduceMul, Nat.reduceSub, Nat.reduceLeDiff, Nat.reduceLT, Nat.reduceEqDiff, Nat.reduceBEq, Nat.reduceBNe, Nat.reduceMod, Nat.reduceDiv, Int.reduceLE, Int.reduceLT, Int.reduceToNat, Int.reduceAdd, Int.reduceSub, Int.reduceMul, Int.reduceNeg, Int.reduceEq, Int.reduceBEq, Int.reduceBNe, ↓reduceIte, reduceCtorEq, String.reduceBNe, String.reduceEq, reduceDIte, Nat.reducePow]
  refine CThen.by (up_nil _) ?_
  simp only [push_cast, Nat.reduceAdd, Nat.reduceMul, Nat.reduceSub, Nat.reduceLeDiff, Nat.reduceLT, Nat.reduceEqDiff, Nat.reduceBEq, Nat.reduceBNe, Nat.reduceMod, Nat.reduceDiv, Int.reduceLE, Int.reduceLT, Int.reduceToNat, Int.reduceAdd, Int.reduceSub, Int.reduceMul, Int.reduceNeg, Int.reduceEq, Int.reduceBEq, Int.reduceBNe, ↓reduceIte, reduceCtorEq, String.reduceBNe, String.reduceEq, reduceDIte, Nat.reducePow]
  refine Thn_n ?_
  refine hK _ _ ?_
  clear hK K
  refine AW.seq_k fun K hK => ?_
  refine AW.region (by decide) ?_
  simp only [push_cast, Nat.reduceAdd, Nat.reduceMul, Nat.reduceSub, Nat.reduceLeDiff, Nat.reduceLT, Nat.reduceEqDiff, Nat.reduceBEq, Nat.reduceBNe, Nat.reduceMod, Nat.reduceDiv, Int.reduceLE, Int.reduceLT, Int.reduceToNat, Int.reduceAdd, Int.reduceSub, Int.reduceMul, Int.reduceNeg, Int.reduceEq, Int.reduceBEq, Int.reduceBNe, ↓reduceIte, reduceCtorEq, String.reduceBNe, String.reduceEq, reduceDIte, Nat.reducePow]
  refine Thn_n ?_
  refine hK _ _ ?_
  clear hK K
  refine AW.cond_t rfl ?_
  refine AW.seq_k fun K hK => ?_
  refine AW.region (by decide) ?_
  simp only [push_cast, Nat.reduceAdd, Nat.reduceMul, Nat.reduceSub, Nat.reduceLeDiff, Nat.reduceLT, Nat.reduceEqDiff, Nat.reduceBEq, Nat.reduceBNe, Nat.reduceMod, Nat.reduceDiv, Int.reduceLE, Int.reduceLT, Int.reduceToNat, Int.reduceAdd, Int.reduceSub, Int.reduceMul, Int.reduceNeg, Int.reduceEq, Int.reduceBEq, Int.reduceBNe, ↓reduceIte, reduceCtorEq, String.reduceBNe, String.reduceEq, reduceDIte, Nat.reducePow]
  refine Thn_n ?_
  refine hK _ _ ?_
  clear hK K
  refine AW.ret ?_
  refine Thn_r ?_
  refine hQ _ _ _ ?_
  first | refine RetP.drop0 (Or.inr rfl) ?_ ?_ hwf | refine RetP.drop (Or.inr rfl) ?_ ?_ hwf
  · simp only [resA, resOne, resTv, AV.tv, push_cast, Nat.reduceAdd, Nat.reduceMul, Nat.reduceSub, Nat.reduceLeDiff, Nat.reduceLT, Nat.reduceEqDiff, Nat.reduceBEq, Nat.reduceBNe, Nat.reduceMod, Nat.reduceDiv, Int.reduceLE, Int.reduceLT, Int.reduceToNat, Int.reduceAdd, Int.reduceSub, Int.reduceMul, Int.reduceNeg, Int.reduceEq, Int.reduceBEq, Int.reduceBNe, ↓reduceIte, reduceCtorEq, String.reduceBNe, String.reduceEq, reduceDIte, Nat.reducePow]
  · rfl
theorem fu_down (rd rs rm n : Nat) (D : DS) (x : Int) (m : AMem) (hrd : m[rd]? = some (drB rs rm n D)) (h : D.down = true) : Ctr Try.prog 10 [.one (.ptr rd 0 0), .one (.int .i64 x)] m (.one (.int .i64 5)) m := by
  refine Ctr.enter Try.func10 rfl (by decide) (rs := [.tmp 4]) (nt := 17) rfl rfl fun hwf Q hQ => ?_
  refine AW.seq_k fun K hK => ?_
  refine AW.region (by decide) ?_
  simp only [push_cast, Nat.reduceAdd, Nat.reduceMul, Nat.reduceSub, Nat.reduceLeDiff, Nat.reduceLT, Nat.reduceEqDiff, Nat.reduceBEq, Nat.reduceBNe, Nat.reduceMod, Nat.reduceDiv, Int.reduceLE, Int.reduceLT, Int.reduceToNat, Int.reduceAdd, Int.reduceSub, Int.reduceMul, Int.reduceNeg, Int.reduceEq, Int.reduceBEq, Int.reduceBNe, ↓reduceIte, reduceCtorEq, String.reduceBNe, String.reduceEq, reduceDIte, Nat.reducePow]
  refine Thn_n ?_
  refine hK _ _ ?_
  clear hK K
  refine AW.seq_k fun K hK => ?_
  refine AW.seq_k fun K hK => ?_
  refine AW.region (by decide) ?_
  simp only [push_cast, Nat.reduceAdd, Nat.reduceMul, Nat.reduceSub, Nat.reduceLeDiff, Nat.reduceLT, Nat.reduceEqDiff, Nat.reduceBEq, Nat.reduceBNe, Nat.reduceMod, Nat.reduceDiv, Int.reduceLE, Int.reduceLT, Int.reduceToNat, Int.reduceAdd, Int.reduceSub, Int.reduceMul, Int.reduceNeg, Int.reduceEq, Int.reduceBEq, Int.reduceBNe, ↓reduceIte, reduceCtorEq, String.reduceBNe, String.reduceEq, reduceDIte, Nat.reducePow]
  refine CThen.by (up_down rd rs rm n D _ hrd h) ?_
  simp only [push_cast, Nat.reduceAdd, Nat.reduceMul, Nat.reduceSub, Nat.reduceLeDiff, Nat.reduceLT, Nat.reduceEqDiff, Nat.reduceBEq, Nat.reduceBNe, Nat.reduceMod, Nat.reduceDiv, Int.reduceLE, Int.reduceLT, Int.reduceToNat, Int.reduceAdd, Int.reduceSub, Int.reduceMul, Int.reduceNeg, Int.reduceEq, Int.reduceBEq, Int.reduceBNe, ↓reduceIte, reduceCtorEq, String.reduceBNe, String.reduceEq, reduceDIte, Nat.reducePow]
  refine Thn_n ?_
  refine hK _ _ ?_
  clear hK K
  refine AW.seq_k fun K hK => ?_
  refine AW.region (by decide) ?_
  simp only [push_cast, Nat.reduceAdd, Nat.reduceMul, Nat.reduceSub, Nat.reduceLeDiff, Nat.reduceLT, Nat.reduceEqDiff, Nat.reduceBEq, Nat.reduceBNe, Nat.reduceMod, Nat.reduceDiv, Int.reduceLE, Int.reduceLT, Int.reduceToNat, Int.reduceAdd, Int.reduceSub, Int.reduceMul, Int.reduceNeg, Int.reduceEq, Int.reduceBEq, Int.reduceBNe, ↓reduceIte, reduceCtorEq, String.reduceBNe, String.reduceEq, reduceDIte, Nat.reducePow]
  refine Thn_n ?_
  refine hK _ _ ?_
  clear hK K
  refine AW.cond_t rfl ?_
  refine AW.seq_k fun K hK => ?_
  refine AW.region (by decide) ?_
  simp only [push_cast, Nat.reduceAdd, Nat.reduceMul, Nat.reduceSub, Nat.reduceLeDiff, Nat.reduceLT, Nat.reduceEqDiff, Nat.reduceBEq, Nat.reduceBNe, Nat.reduceMod, Nat.reduceDiv, Int.reduceLE, Int.reduceLT, Int.reduceToNat, Int.reduceAdd, Int.reduceSub, Int.reduceMul, Int.reduceNeg, Int.reduceEq, Int.reduceBEq, Int.reduceBNe, ↓reduceIte, reduceCtorEq, String.reduceBNe, String.reduceEq, reduceDIte, Nat.reducePow]
  refine Thn_n ?_
  refine hK _ _ ?_
  clear hK K
  refine AW.ret ?_
  refine Thn_r ?_
  refine hQ _ _ _ ?_
  first | refine RetP.drop0 (Or.inr rfl) ?_ ?_ hwf | refine RetP.drop (Or.inr rfl) ?_ ?_ hwf
  · simp only [resA, resOne, resTv, AV.tv, push_cast, Nat.reduceAdd, Nat.reduceMul, Nat.reduceSub, Nat.reduceLeDiff, Nat.reduceLT, Nat.reduceEqDiff, Nat.reduceBEq, Nat.reduceBNe, Nat.reduceMod, Nat.reduceDiv, Int.reduceLE, Int.reduceLT, Int.reduceToNat, Int.reduceAdd, Int.reduceSub, Int.reduceMul, Int.reduceNeg, Int.reduceEq, Int.reduceBEq, Int.reduceBNe, ↓reduceIte, reduceCtorEq, String.reduceBNe, String.reduceEq, reduceDIte, Nat.reducePow]
  · rfl
theorem fu_ok (rd rs rm n : Nat) (D : DS) (x : Int) (m : AMem) (h : HasD m rd rs rm n D) (hd : D.down = false) : Ctr Try.prog 10 [.one (.ptr rd 0 0), .one (.int .i64 x)] m (.one (.int .i64 0)) (setD m rd rs rm n (fuD D x)) := by
  refine Ctr.enter Try.func10 rfl (by decide) (rs := [.tmp 4]) (nt := 17) rfl rfl fun hwf Q hQ => ?_
  have hrd := h.d
  have hrs := h.r
  have hrm := h.m
  have ld := get_lt hrd
  have lr := get_lt hrs
  have lm := get_lt hrm
  have ndr : rd ≠ rs := h.dr
  have ndm : rd ≠ rm := h.dm
  have nrm : rs ≠ rm := h.rm
  have nrd := ndr.symm
  have nmd := ndm.symm
  have nmr := nrm.symm
  have oD := fun (L : AMem) => mk_olds (m := m) (l := m) rfl ld L
  have oR := fun (L : AMem) => mk_olds (m := m) (l := m) rfl lr L
  have oM := fun (L : AMem) => mk_olds (m := m) (l := m) rfl lm L
  have pD := fun (l L : AMem) (e : l.length = m.length) => mk_olds (m := m) (l := l) (r := rd) e ld L
  have pR := fun (l L : AMem) (e : l.length = m.length) => mk_olds (m := m) (l := l) (r := rs) e lr L
  have pM := fun (l L : AMem) (e : l.length = m.length) => mk_olds (m := m) (l := l) (r := rm) e lm L
  have gD := fun (l L : AMem) (e : l.length = m.length) => mk_old (m := m) (l := l) (r := rd) e ld L
  have gR := fun (l L : AMem) (e : l.length = m.length) => mk_old (m := m) (l := l) (r := rs) e lr L
  have gM := fun (l L : AMem) (e : l.length = m.length) => mk_old (m := m) (l := l) (r := rm) e lm L
  have sD := fun (l : AMem) (b : Blk) (e : l.length = m.length) => mk_self (m := m) (l := l) (r := rd) e ld b
  have sR := fun (l : AMem) (b : Blk) (e : l.length = m.length) => mk_self (m := m) (l := l) (r := rs) e lr b
  have sM := fun (l : AMem) (b : Blk) (e : l.length = m.length) => mk_self (m := m) (l := l) (r := rm) e lm b
  have aA := fun (l L : AMem) (e : l.length = m.length) => mk_lk0 (m := m) (l := l) e L
  have aK := fun (l L : AMem) (k : Nat) (e : l.length = m.length) => mk_lk (m := m) (l := l) e L k
  have aT := fun (l L : AMem) (k : Nat) (b : Blk) (e : l.length = m.length) => mk_set (m := m) (l := l) e L k b
  have aS := fun (l L : AMem) (b : Blk) (e : l.length = m.length) => mk_set0 (m := m) (l := l) e L b
  have hw2 : MWf m.length (setD m rd rs rm n (fuD D x)) := setD_wf hwf lr lm _
  have e2 := setD_d h (fuD D x) rfl rfl rfl
  refine AW.seq_k fun K hK => ?_
  refine AW.region (by decide) ?_
  simp only [push_cast, Nat.reduceAdd, Nat.reduceMul, Nat.reduceSub, Nat.reduceLeDiff, Nat.reduceLT, Nat.reduceEqDiff, Nat.reduceBEq, Nat.reduceBNe, Nat.reduceMod, Nat.reduceDiv, Int.reduceLE, Int.reduceLT, Int.reduceToNat, Int.reduceAdd, Int.reduceSub, Int.reduceMul, Int.reduceNeg, Int.reduceEq, Int.reduceBEq, Int.reduceBNe, ↓reduceIte, reduceCtorEq, String.reduceBNe, String.reduceEq, reduceDIte, Nat.reducePow, hrd, hrs, hrm, pD, pR, pM, gD, gR, gM, sD, sR, sM, aA, aS, aK, aT, List.set_set, List.length_set, List.getElem?_set_ne ndr, List.getElem?_set_ne ndm, List.getElem?_set_ne nrm, List.getElem?_set_ne nrd, List.getElem?_set_ne nmd, List.getElem?_set_ne nmr, drB, rowD, mapD]
  refine Thn_n ?_
  refine hK _ _ ?_
  clear hK K
  refine AW.seq_k fun K hK => ?_
  refine AW.seq_k fun K hK => ?_
  refine AW.region (by decide) ?_
  simp only [push_cast, Nat.reduceAdd, Nat.reduceMul, Nat.reduceSub, Nat.reduceLeDiff, Nat.reduceLT, Nat.reduceEqDiff, Nat.reduceBEq, Nat.reduceBNe, Nat.reduceMod, Nat.reduceDiv, Int.reduceLE, Int.reduceLT, Int.reduceToNat, Int.reduceAdd, Int.reduceSub, Int.reduceMul, Int.reduceNeg, Int.reduceEq, Int.reduceBEq, Int.reduceBNe, ↓reduceIte, reduceCtorEq, String.reduceBNe, String.reduceEq, reduceDIte, Nat.reducePow, hrd, hrs, hrm, pD, pR, pM, gD, gR, gM, sD, sR, sM, aA, aS, aK, aT, List.set_set, List.length_set, List.getElem?_set_ne ndr, List.getElem?_set_ne ndm, List.getElem?_set_ne nrm, List.getElem?_set_ne nrd, List.getElem?_set_ne nmd, List.getElem?_set_ne nmr, drB, rowD, mapD]
  refine CThen.by (up_ok rd rs rm n D _ h.d hd) ?_
  simp only [push_cast, Nat.reduceAdd, Nat.reduceMul, Nat.reduceSub, Nat.reduceLeDiff, Nat.reduceLT, Nat.reduceEqDiff, Nat.reduceBEq, Nat.reduceBNe, Nat.reduceMod, Nat.reduceDiv, Int.reduceLE, Int.reduceLT, Int.reduceToNat, Int.reduceAdd, Int.reduceSub, Int.reduceMul, Int.reduceNeg, Int.reduceEq, Int.reduceBEq, Int.reduceBNe, ↓reduceIte, reduceCtorEq, String.reduceBNe, String.reduceEq, reduceDIte, Nat.reducePow, hrd, hrs, hrm, pD, pR, pM, gD, gR, gM, sD, sR, sM, aA, aS, aK, aT, List.set_set, List.length_set, List.getElem?_set_ne ndr, List.getElem?_set_ne ndm, List.getElem?_set_ne nrm, List.getElem?_set_ne nrd, List.getElem?_set_ne nmd, List.getElem?_set_ne nmr, drB, rowD, mapD]
  refine Thn_n ?_
  refine hK _ _ ?_
  clear hK K
  refine AW.seq_k fun K hK => ?_
  refine AW.region (by decide) ?_
  simp only [push_cast, Nat.reduceAdd, Nat.reduceMul, Nat.reduceSub, Nat.reduceLeDiff, Nat.reduceLT, Nat.reduceEqDiff, Nat.reduceBEq, Nat.reduceBNe, Nat.reduceMod, Nat.reduceDiv, Int.reduceLE, Int.reduceLT, Int.reduceToNat, Int.reduceAdd, Int.reduceSub, Int.reduceMul, Int.reduceNeg, Int.reduceEq, Int.reduceBEq, Int.reduceBNe, ↓reduceIte, reduceCtorEq, String.reduceBNe, String.reduceEq, reduceDIte, Nat.reducePow, hrd, hrs, hrm, pD, pR, pM, gD, gR, gM, sD, sR, sM, aA, aS, aK, aT, List.set_set, List.length_set, List.getElem?_set_ne ndr, List.getElem?_set_ne ndm, List.getElem?_set_ne nrm, List.getElem?_set_ne nrd, List.getElem?_set_ne nmd, List.getElem?_set_ne nmr, drB, rowD, mapD]
  refine Thn_n ?_
  refine hK _ _ ?_
  clear hK K
  refine AW.cond_f rfl ?_
  refine AW.skip ?_
  iterate 2
    refine Thn_n ?_
    refine hK _ _ ?_
    clear hK K
    refine AW.seq_k fun K hK => ?_
    refine AW.region (by decide) ?_
    simp only [push_cast, Nat.reduceAdd, Nat.reduceMul, Nat.reduceSub, Nat.reduceLeDiff, Nat.reduceLT, Nat.reduceEqDiff, Nat.reduceBEq, Nat.reduceBNe, Nat.reduceMod, Nat.reduceDiv, Int.reduceLE, Int.reduceLT, Int.reduceToNat, Int.reduceAdd, Int.reduceSub, Int.reduceMul, Int.reduceNeg, Int.reduceEq, Int.reduceBEq, Int.reduceBNe, ↓reduceIte, reduceCtorEq, String.reduceBNe, String.reduceEq, reduceDIte, Nat.reducePow, hrd, hrs, hrm, pD, pR, pM, gD, gR, gM, sD, sR, sM, aA, aS, aK, aT, List.set_set, List.length_set, List.getElem?_set_ne ndr, List.getElem?_set_ne ndm, List.getElem?_set_ne nrm, List.getElem?_set_ne nrd, List.getElem?_set_ne nmd, List.getElem?_set_ne nmr, drB, rowD, mapD]
  refine Thn_n ?_
  refine hK _ _ ?_
  clear hK K
  refine AW.ret ?_
  refine hQ _ _ _ ?_
  rw [e2] at hw2 ⊢
  first | refine RetP.dropM0 (by simp only [List.length_set]) (by first | exact Or.inr rfl | exact Or.inl rfl) ?_ ?_ hw2 | refine RetP.dropM (by simp only [List.length_set]) (by first | exact Or.inr rfl | exact Or.inl rfl) ?_ ?_ hw2
  · simp only [resA, resOne, resTv, AV.tv, push_cast, Nat.reduceAdd, Nat.reduceMul, Nat.reduceSub, Nat.reduceLeDiff, Nat.reduceLT, Nat.reduceEqDiff, Nat.reduceBEq, Nat.reduceBNe, Nat.reduceMod, Nat.reduceDiv, Int.reduceLE, Int.reduceLT, Int.reduceToNat, Int.reduceAdd, Int.reduceSub, Int.reduceMul, Int.reduceNeg, Int.reduceEq, Int.reduceBEq, Int.reduceBNe, ↓reduceIte, reduceCtorEq, String.reduceBNe, String.reduceEq, reduceDIte, Nat.reducePow]
  · rfl
end Go.Proofs.Ytcahlnddcjifdaa

set_option linter.unusedSimpArgs false
set_option linter.unusedVariables false
set_option maxRecDepth 100000
set_option maxHeartbeats 4000000
namespace Go.Proofs.Ytcahlnddcjifdaa
open Go Go.Eng

theorem i64i {x : Int} (h : -9000000000000 ≤ x ∧ x ≤ 9000000000000) : IntKind.i64.wrap x = x := by rw [IntKind.wrap_i64]; omega
/-- The cells of so many integers; of bools; of rows. -/
def il : Nat → (Nat → Int) → List CV
  | 0, _ => []
  | n + 1, f => il n f ++ [.int .i64 (f n)]
theorem il_len : ∀ (n : Nat) (f : Nat → Int), (il n f).length = n
  | 0, _ => rfl
  | n + 1, f => by simp only [il, List.length_append, il_len n f, List.length_cons, List.length_nil]
theorem il_get : ∀ {n : Nat} {f : Nat → Int} {i : Nat}, i < n → (il n f)[i]? = some (.int .i64 (f i))
  | n + 1, f, i, hi => by
    simp only [il]
    rcases Nat.lt_or_ge i n with h | h
    · rw [List.getElem?_append_left (by rw [il_len]; omega)]; exact il_get h
    · have e : i = n := by omega
      subst e
      rw [List.getElem?_append_right (by rw [il_len]; omega), il_len, Nat.sub_self]; rfl
theorem il_vals : ∀ (n : Nat) (f : Nat → Int), (il n f).all CV.isVal = true
  | 0, _ => rfl
  | n + 1, f => by simp only [il, List.all_append, il_vals n f, List.all_cons, List.all_nil, CV.isVal]; rfl
theorem il_below : ∀ (L n : Nat) (f : Nat → Int), (il n f).all (CV.below L) = true
  | _, 0, _ => rfl
  | L, n + 1, f => by simp only [il, List.all_append, il_below L n f, List.all_cons, List.all_nil, CV.below]; rfl
theorem ext_get {α : Type} {a b : List α} (h : ∀ i : Nat, a[i]? = b[i]?) : a = b := List.ext_getElem? h
theorem il_of {cells : List CV} {n : Nat} {f : Nat → Int} (hl : cells.length = n) (h : ∀ i, i < n → cells[i]? = some (.int .i64 (f i))) : cells = il n f := by
  refine ext_get fun j => ?_
  rcases Nat.lt_or_ge j n with hj | hj
  · rw [h j hj, il_get hj]
  · rw [List.getElem?_eq_none (by omega), List.getElem?_eq_none (by rw [il_len]; omega)]
theorem il_congr {n : Nat} {f g : Nat → Int} (h : ∀ i, i < n → f i = g i) : il n f = il n g := il_of (il_len n f) fun i hi => by rw [il_get hi, h i hi]
def bl : Nat → (Nat → Bool) → List CV
  | 0, _ => []
  | n + 1, f => bl n f ++ [.bool (f n)]
theorem bl_len : ∀ (n : Nat) (f : Nat → Bool), (bl n f).length = n
  | 0, _ => rfl
  | n + 1, f => by simp only [bl, List.length_append, bl_len n f, List.length_cons, List.length_nil]
theorem bl_get : ∀ {n : Nat} {f : Nat → Bool} {i : Nat}, i < n → (bl n f)[i]? = some (.bool (f i))
  | n + 1, f, i, hi => by
    simp only [bl]
    rcases Nat.lt_or_ge i n with h | h
    · rw [List.getElem?_append_left (by rw [bl_len]; omega)]; exact bl_get h
    · have e : i = n := by omega
      subst e
      rw [List.getElem?_append_right (by rw [bl_len]; omega), bl_len, Nat.sub_self]; rfl
theorem bl_of {cells : List CV} {n : Nat} {f : Nat → Bool} (hl : cells.length = n) (h : ∀ i, i < n → cells[i]? = some (.bool (f i))) : cells = bl n f := by
  refine ext_get fun j => ?_
  rcases Nat.lt_or_ge j n with hj | hj
  · rw [h j hj, bl_get hj]
  · rw [List.getElem?_eq_none (by omega), List.getElem?_eq_none (by rw [bl_len]; omega)]
theorem bl_below (L n : Nat) (f : Nat → Bool) : (bl n f).all (CV.below L) = true := by
  refine List.all_eq_true.2 fun c hc => ?_
  obtain ⟨i, hi⟩ := List.getElem?_of_mem hc
  have hlt := (List.getElem?_eq_some_iff.1 hi).1
  rw [bl_len] at hlt
  rw [bl_get hlt] at hi
  injection hi with hi; subst hi; rfl
def updB (f : Nat → Bool) (j : Nat) (b : Bool) : Nat → Bool := fun i => if i = j then b else f i
theorem bl_set {n : Nat} {f : Nat → Bool} {j : Nat} {b : Bool} : (bl n f).set j (.bool b) = bl n (updB f j b) := by
  refine bl_of (by rw [List.length_set, bl_len]) fun i hi => ?_
  rw [List.getElem?_set]
  by_cases e : j = i
  · subst e; rw [if_pos rfl, if_pos (by rw [bl_len]; exact hi)]; simp [updB]
  · rw [if_neg e, bl_get hi]; simp only [updB]; rw [if_neg (fun h => e h.symm)]
def rl : Nat → (Nat → Nat) → (Nat → Nat) → (Nat → Nat) → List CV
  | 0, _, _, _ => []
  | n + 1, r, vv, ln => rl n r vv ln ++ [.sl (r n) (vv n) 0 (ln n)]
theorem rl_len : ∀ (n : Nat) (r vv ln : Nat → Nat), (rl n r vv ln).length = n
  | 0, _, _, _ => rfl
  | n + 1, r, vv, ln => by simp only [rl, List.length_append, rl_len n r vv ln, List.length_cons, List.length_nil]
theorem rl_get : ∀ {n : Nat} {r vv ln : Nat → Nat} {i : Nat}, i < n → (rl n r vv ln)[i]? = some (.sl (r i) (vv i) 0 (ln i))
  | n + 1, r, vv, ln, i, hi => by
    simp only [rl]
    rcases Nat.lt_or_ge i n with h | h
    · rw [List.getElem?_append_left (by rw [rl_len]; omega)]; exact rl_get h
    · have e : i = n := by omega
      subst e
      rw [List.getElem?_append_right (by rw [rl_len]; omega), rl_len, Nat.sub_self]; rfl
theorem rl_of {cells : List CV} {n : Nat} {r vv ln : Nat → Nat} (hl : cells.length = n) (h : ∀ i, i < n → cells[i]? = some (.sl (r i) (vv i) 0 (ln i))) : cells = rl n r vv ln := by
  refine ext_get fun j => ?_
  rcases Nat.lt_or_ge j n with hj | hj
  · rw [h j hj, rl_get hj]
  · rw [List.getElem?_eq_none (by omega), List.getElem?_eq_none (by rw [rl_len]; omega)]
/-- Integers, bools, rows of integers in memory. -/
structure IntsAt (m : AMem) (r v n : Nat) (f : Nat → Int) : Prop where
  hb : ∃ k ez, m[r]? = some ⟨k, 3, v, ez, il n f⟩
structure BoolsAt (m : AMem) (r v n : Nat) (f : Nat → Bool) : Prop where
  hb : ∃ k ez, m[r]? = some ⟨k, 4, v, ez, bl n f⟩
structure RowsAt (m : AMem) (r vp n : Nat) (ln : Nat → Nat) (q : Nat → Nat → Int) : Prop where
  hb : ∃ k ez rr vv, m[r]? = some ⟨k, 31, vp, ez, rl n rr vv ln⟩ ∧ ∀ i, i < n → IntsAt m (rr i) (vv i) (ln i) (q i)
theorem IntsAt.mono {m : AMem} {r v n : Nat} {f : Nat → Int} (h : IntsAt m r v n f) (x : AMem) : IntsAt (m ++ x) r v n f := by
  obtain ⟨k, ez, hb⟩ := h.hb; exact ⟨k, ez, lk_old hb x⟩
theorem BoolsAt.mono {m : AMem} {r v n : Nat} {f : Nat → Bool} (h : BoolsAt m r v n f) (x : AMem) : BoolsAt (m ++ x) r v n f := by
  obtain ⟨k, ez, hb⟩ := h.hb; exact ⟨k, ez, lk_old hb x⟩
theorem RowsAt.mono {m : AMem} {r vp n : Nat} {ln : Nat → Nat} {q : Nat → Nat → Int} (h : RowsAt m r vp n ln q) (x : AMem) : RowsAt (m ++ x) r vp n ln q := by
  obtain ⟨k, ez, rr, vv, hb, hr⟩ := h.hb; exact ⟨k, ez, rr, vv, lk_old hb x, fun i hi => (hr i hi).mono x⟩
def inL (n : Nat) (f : Nat → Int) (x : Int) : Bool := (List.range n).any fun i => f i == x
theorem inL_iff {n : Nat} {f : Nat → Int} {x : Int} : inL n f x = true ↔ ∃ i, i < n ∧ f i = x := by simp [inL]
theorem inL_no {n : Nat} {f : Nat → Int} {x : Int} (h : inL n f x = false) {i : Nat} (hi : i < n) : (f i == x) = false ∧ (x == f i) = false := by
  have : ¬ f i = x := fun e => by rw [inL_iff.2 ⟨i, hi, e⟩] at h; cases h
  exact ⟨by simpa using this, by simpa using fun e => this e.symm⟩
theorem inL_first {n : Nat} {f : Nat → Int} {x : Int} (h : inL n f x = true) : ∃ j, j < n ∧ f j = x ∧ ∀ i, i < j → ¬ f i = x := by
  obtain ⟨i, hi, e⟩ := inL_iff.1 h
  obtain ⟨k, h1, h2⟩ := least (p := fun i => i < n ∧ f i = x) i ⟨hi, e⟩
  exact ⟨k, h1.1, h1.2, fun i hi he => h2 i hi ⟨by omega, he⟩⟩

end Go.Proofs.Ytcahlnddcjifdaa

set_option linter.unusedSimpArgs false
set_option linter.unusedVariables false
set_option maxRecDepth 100000
set_option maxHeartbeats 4000000
namespace Go.Proofs.Ytcahlnddcjifdaa
open Go Go.Eng

def crD (D : DS) (ks : Nat → Int) (kn : Nat) : DS := { D with S := crF D.S D.E ks kn, E := [], fuse := -1, down := false }
theorem crD_wf {n : Nat} {D : DS} (h : WfD n D) (ks : Nat → Int) (kn : Nat) : WfD n (crD D ks kn) := ⟨crF_len h.s h.e ks kn, WfE.nil n D.ck⟩
theorem setD_three (m : AMem) (rd rs rm n : Nat) (D : DS) (A B C : Blk) (ha : drB rs rm n D = A) (hb : rowD n D = B) (hc : mapD D = C) : setD m rd rs rm n D = ((m.set rd A).set rs B).set rm C := by subst ha; subst hb; subst hc; rfl
theorem cr_nil (a : AV) (m : AMem) : Ctr Try.prog 11 [.one .nilp, a] m (.one (.int .i64 2)) m := by
  refine Ctr.enter Try.func11 rfl (by decide) (rs := [.tmp 4]) (nt := 47) rfl rfl fun hwf Q hQ => ?_
  refine AW.seq_k fun K hK => ?_
  refine AW.region (by decide) ?_
  simp only [push_cast, Nat.reduceAdd, Nat.reduceMul, Nat.reduceSub, Nat.reduceLeDiff, Nat.reduceLT, Nat.reduceEqDiff, Nat.reduceBEq, Nat.reduceBNe, Nat.reduceMod, Nat.reduceDiv, Int.reduceLE, Int.reduceLT, Int.reduceToNat, Int.reduceAdd, Int.reduceSub, Int.reduceMul, Int.reduceNeg, Int.reduceEq, Int.reduceBEq, Int.reduceBNe, ↓reduceIte, reduceCtorEq, String.reduceBNe, String.reduceEq, reduceDIte, Nat.reducePow]
  refine Thn_n ?_
  refine hK _ _ ?_
  clear hK K
  refine AW.seq_k fun K hK => ?_
  refine AW.seq_k fun K hK => ?_
  refine AW.region (by decide) ?_
  simp only [push_cast, Nat.reduceAdd, Nat.reduceMul, Nat.reduceSub, Nat.reduceLeDiff, Nat.reduceLT, Nat.reduceEqDiff, Nat.reduceBEq, Nat.reduceBNe, Nat.reduceMod, Nat.reduceDiv, Int.reduceLE, Int.reduceLT, Int.reduceToNat, Int.reduceAdd, Int.reduceSub, Int.reduceMul, Int.reduceNeg, Int.reduceEq, Int.reduceBEq, Int.reduceBNe, ↓reduceIte, reduceCtorEq, String.reduceBNe, String.reduceEq, reduceDIte, Nat.reducePow]
  refine Thn_n ?_
  refine hK _ _ ?_
  clear hK K
  refine AW.cond_t rfl ?_
  refine AW.seq_k fun K hK => ?_
  refine AW.region (by decide) ?_
  simp only [push_cast, Nat.reduceAdd, Nat.reduceMul, Nat.reduceSub, Nat.reduceLeDiff, Nat.reduceLT, Nat.reduceEqDiff, Nat.reduceBEq, Nat.reduceBNe, Nat.reduceMod, Nat.reduceDiv, Int.reduceLE, Int.reduceLT, Int.reduceToNat, Int.reduceAdd, Int.reduceSub, Int.reduceMul, Int.reduceNeg, Int.reduceEq, Int.reduceBEq, Int.reduceBNe, ↓reduceIte, reduceCtorEq, String.reduceBNe, String.reduceEq, reduceDIte, Nat.reducePow]
  refine Thn_n ?_
  refine hK _ _ ?_
  clear hK K
  refine AW.ret ?_
  refine Thn_r ?_
  refine hQ _ _ _ ?_
  first | refine RetP.drop0 (Or.inr rfl) ?_ ?_ hwf | refine RetP.drop (Or.inr rfl) ?_ ?_ hwf
  · simp only [resA, resOne, resTv, AV.tv, push_cast, Nat.reduceAdd, Nat.reduceMul, Nat.reduceSub, Nat.reduceLeDiff, Nat.reduceLT, Nat.reduceEqDiff, Nat.reduceBEq, Nat.reduceBNe, Nat.reduceMod, Nat.reduceDiv, Int.reduceLE, Int.reduceLT, Int.reduceToNat, Int.reduceAdd, Int.reduceSub, Int.reduceMul, Int.reduceNeg, Int.reduceEq, Int.reduceBEq, Int.reduceBNe, ↓reduceIte, reduceCtorEq, String.reduceBNe, String.reduceEq, reduceDIte, Nat.reducePow]
  · rfl
theorem cr_c (rd rs rm n : Nat) (D : DS) (lb vl kn : Nat) (ks : Nat → Int) (kl : BK) (el : Nat) (m : AMem) (h : HasD m rd rs rm n D) (hwd : WfD n D) (hl : m[lb]? = some ⟨kl, 3, vl, el, il kn ks⟩) (hkl : kl = .ro ∨ kl = .grow) (nlb : lb ≠ rs) (hkn : kn ≤ 1048576) : Ctr Try.prog 11 [.one (.ptr rd 0 0), .one (.sl lb vl 0 kn)] m (.one (.int .i64 0)) (setD m rd rs rm n (crD D ks kn)) := by
  refine Ctr.enter Try.func11 rfl (by decide) (rs := [.tmp 4]) (nt := 47) rfl rfl fun hwf Q hQ => ?_
  have hrd := h.d
  have hrs := h.r
  have hrm := h.m
  have ld := get_lt hrd
  have lr := get_lt hrs
  have lm := get_lt hrm
  have ndr : rd ≠ rs := h.dr
  have ndm : rd ≠ rm := h.dm
  have nrm : rs ≠ rm := h.rm
  have nrd := ndr.symm
  have nmd := ndm.symm
  have nmr := nrm.symm
  have oD := fun (L : AMem) => mk_olds (m := m) (l := m) rfl ld L
  have oR := fun (L : AMem) => mk_olds (m := m) (l := m) rfl lr L
  have oM := fun (L : AMem) => mk_olds (m := m) (l := m) rfl lm L
  have pD := fun (l L : AMem) (e : l.length = m.length) => mk_olds (m := m) (l := l) (r := rd) e ld L
  have pR := fun (l L : AMem) (e : l.length = m.length) => mk_olds (m := m) (l := l) (r := rs) e lr L
  have pM := fun (l L : AMem) (e : l.length = m.length) => mk_olds (m := m) (l := l) (r := rm) e lm L
  have gD := fun (l L : AMem) (e : l.length = m.length) => mk_old (m := m) (l := l) (r := rd) e ld L
  have gR := fun (l L : AMem) (e : l.length = m.length) => mk_old (m := m) (l := l) (r := rs) e lr L
  have gM := fun (l L : AMem) (e : l.length = m.length) => mk_old (m := m) (l := l) (r := rm) e lm L
  have sD := fun (l : AMem) (b : Blk) (e : l.length = m.length) => mk_self (m := m) (l := l) (r := rd) e ld b
  have sR := fun (l : AMem) (b : Blk) (e : l.length = m.length) => mk_self (m := m) (l := l) (r := rs) e lr b
  have sM := fun (l : AMem) (b : Blk) (e : l.length = m.length) => mk_self (m := m) (l := l) (r := rm) e lm b
  have aA := fun (l L : AMem) (e : l.length = m.length) => mk_lk0 (m := m) (l := l) e L
  have aK := fun (l L : AMem) (k : Nat) (e : l.length = m.length) => mk_lk (m := m) (l := l) e L k
  have aT := fun (l L : AMem) (k : Nat) (b : Blk) (e : l.length = m.length) => mk_set (m := m) (l := l) e L k b
  have aS := fun (l L : AMem) (b : Blk) (e : l.length = m.length) => mk_set0 (m := m) (l := l) e L b
  have llb := get_lt hl
  have hlr := fun (b : Blk) => (List.getElem?_set_ne (l := m) (a := b) (fun e : rs = lb => nlb e.symm)).trans hl
  have oL := fun (l L : AMem) (e : l.length = m.length) => mk_old (m := m) (l := l) (r := lb) e llb L
  have hz : zeros zV 128 = [.int .u8 0, .int .u8 0, .int .u8 0, .int .u8 0, .int .u8 0, .int .u8 0, .int .u8 0, .int .u8 0, .int .u8 0, .int .u8 0, .int .u8 0, .int .u8 0, .int .u8 0, .int .u8 0, .int .u8 0, .int .u8 0, .int .u8 0, .int .u8 0, .int .u8 0, .int .u8 0, .int .u8 0, .int .u8 0, .int .u8 0, .int .u8 0, .int .u8 0, .int .u8 0, .int .u8 0, .int .u8 0, .int .u8 0, .int .u8 0, .int .u8 0, .int .u8 0, .int .u8 0, .int .u8 0, .int .u8 0, .int .u8 0, .int .u8 0, .int .u8 0, .int .u8 0, .int .u8 0, .int .u8 0, .int .u8 0, .int .u8 0, .int .u8 0, .int .u8 0, .int .u8 0, .int .u8 0, .int .u8 0, .int .u8 0, .int .u8 0, .int .u8 0, .int .u8 0, .int .u8 0, .int .u8 0, .int .u8 0, .int .u8 0, .int .u8 0, .int .u8 0, .int .u8 0, .int .u8 0, .int .u8 0, .int .u8 0, .int .u8 0, .int .u8 0, .int .u8 0, .int .u8 0, .int .u8 0, .int .u8 0, .int .u8 0, .int .u8 0, .int .u8 0, .int .u8 0, .int .u8 0, .int .u8 0, .int .u8 0, .int .u8 0, .int .u8 0, .int .u8 0, .int .u8 0, .int .u8 0, .int .u8 0, .int .u8 0, .int .u8 0, .int .u8 0, .int .u8 0, .int .u8 0, .int .u8 0, .int .u8 0, .int .u8 0, .int .u8 0, .int .u8 0, .int .u8 0, .int .u8 0, .int .u8 0, .int .u8 0, .int .u8 0, .int .u8 0, .int .u8 0, .int .u8 0, .int .u8 0, .int .u8 0, .int .u8 0, .int .u8 0, .int .u8 0, .int .u8 0, .int .u8 0, .int .u8 0, .int .u8 0, .int .u8 0, .int .u8 0, .int .u8 0, .int .u8 0, .int .u8 0, .int .u8 0, .int .u8 0, .int .u8 0, .int .u8 0, .int .u8 0, .int .u8 0, .int .u8 0, .int .u8 0, .int .u8 0, .int .u8 0, .int .u8 0, .int .u8 0, .int .u8 0, .int .u8 0, .int .u8 0] := by decide
  have hw2 : MWf m.length (setD m rd rs rm n (crD D ks kn)) := setD_wf hwf lr lm _
  have e2 := setD_three m rd rs rm n (crD D ks kn) _ _ _ rfl rfl rfl
  have hse := set_self h.r
  refine AW.seq_k fun K hK => ?_
  refine AW.region (by decide) ?_
  simp only [push_cast, Nat.reduceAdd, Nat.reduceMul, Nat.reduceSub, Nat.reduceLeDiff, Nat.reduceLT, Nat.reduceEqDiff, Nat.reduceBEq, Nat.reduceBNe, Nat.reduceMod, Nat.reduceDiv, Int.reduceLE, Int.reduceLT, Int.reduceToNat, Int.reduceAdd, Int.reduceSub, Int.reduceMul, Int.reduceNeg, Int.reduceEq, Int.reduceBEq, Int.reduceBNe, ↓reduceIte, reduceCtorEq, String.reduceBNe, String.reduceEq, reduceDIte, Nat.reducePow, hl, hlr, oL, setMap, hrd, hrs, hrm, pD, pR, pM, gD, gR, gM, sD, sR, sM, aA, aS, aK, aT, List.set_set, List.length_set, List.getElem?_set_ne ndr, List.getElem?_set_ne ndm, List.getElem?_set_ne nrm, List.getElem?_set_ne nrd, List.getElem?_set_ne nmd, List.getElem?_set_ne nmr, drB, rowD, mapD]
  refine Thn_n ?_
  refine hK _ _ ?_
  clear hK K
  refine AW.seq_k fun K hK => ?_
  refine AW.seq_k fun K hK => ?_
  refine AW.region (by decide) ?_
  simp only [push_cast, Nat.reduceAdd, Nat.reduceMul, Nat.reduceSub, Nat.reduceLeDiff, Nat.reduceLT, Nat.reduceEqDiff, Nat.reduceBEq, Nat.reduceBNe, Nat.reduceMod, Nat.reduceDiv, Int.reduceLE, Int.reduceLT, Int.reduceToNat, Int.reduceAdd, Int.reduceSub, Int.reduceMul, Int.reduceNeg, Int.reduceEq, Int.reduceBEq, Int.reduceBNe, ↓reduceIte, reduceCtorEq, String.reduceBNe, String.reduceEq, reduceDIte, Nat.reducePow, hl, hlr, oL, setMap, hrd, hrs, hrm, pD, pR, pM, gD, gR, gM, sD, sR, sM, aA, aS, aK, aT, List.set_set, List.length_set, List.getElem?_set_ne ndr, List.getElem?_set_ne ndm, List.getElem?_set_ne nrm, List.getElem?_set_ne nrd, List.getElem?_set_ne nmd, List.getElem?_set_ne nmr, drB, rowD, mapD]
  refine Thn_n ?_
  refine hK _ _ ?_
  clear hK K
  refine AW.cond_f rfl ?_
  refine AW.skip ?_
  refine Thn_n ?_
  refine hK _ _ ?_
  clear hK K
  refine AW.seq_k fun K hK => ?_
  refine AW.seq_k fun K hK => ?_
  refine AW.region (by decide) ?_
  simp only [push_cast, Nat.reduceAdd, Nat.reduceMul, Nat.reduceSub, Nat.reduceLeDiff, Nat.reduceLT, Nat.reduceEqDiff, Nat.reduceBEq, Nat.reduceBNe, Nat.reduceMod, Nat.reduceDiv, Int.reduceLE, Int.reduceLT, Int.reduceToNat, Int.reduceAdd, Int.reduceSub, Int.reduceMul, Int.reduceNeg, Int.reduceEq, Int.reduceBEq, Int.reduceBNe, ↓reduceIte, reduceCtorEq, String.reduceBNe, String.reduceEq, reduceDIte, Nat.reducePow, hl, hlr, oL, setMap, hrd, hrs, hrm, pD, pR, pM, gD, gR, gM, sD, sR, sM, aA, aS, aK, aT, List.set_set, List.length_set, List.getElem?_set_ne ndr, List.getElem?_set_ne ndm, List.getElem?_set_ne nrm, List.getElem?_set_ne nrd, List.getElem?_set_ne nmd, List.getElem?_set_ne nmr, drB, rowD, mapD]
  refine Thn_n ?_
  refine hK _ _ ?_
  clear hK K
  refine AW.block ?_
  refine AW.loopK [0, 11, 12] (fun i => i ≤ kn) (fun i => [(13, .one (.int .i64 (i : Int)))]) (fun i => [(rs, ⟨.grow, 29, 0, 128, u8l (catB n (crF D.S D.E ks i))⟩)]) (fun i => kn - i) 0 (by omega) ?_ ?_ fun i hi6 => ?_
  · first | rfl | (simp only [Keeps, Tm.get_cons, Nat.reduceEqDiff, ↓reduceIte, if_true, if_false, ite_true, ite_false, true_and, and_true, and_self, reduceCtorEq, crF, Int.natCast_zero] <;> rfl)
  · simp only [setAll, crF]; exact set_self h.r
  try simp only [keepL, setAll, push_cast, Nat.reduceAdd, Nat.reduceMul, Nat.reduceSub, Nat.reduceLeDiff, Nat.reduceLT, Nat.reduceEqDiff, Nat.reduceBEq, Nat.reduceBNe, Nat.reduceMod, Nat.reduceDiv, Int.reduceLE, Int.reduceLT, Int.reduceToNat, Int.reduceAdd, Int.reduceSub, Int.reduceMul, Int.reduceNeg, Int.reduceEq, Int.reduceBEq, Int.reduceBNe, ↓reduceIte, reduceCtorEq, String.reduceBNe, String.reduceEq, reduceDIte, Nat.reducePow, hl, hlr, oL, setMap, hrd, hrs, hrm, pD, pR, pM, gD, gR, gM, sD, sR, sM, aA, aS, aK, aT, List.set_set, List.length_set, List.getElem?_set_ne ndr, List.getElem?_set_ne ndm, List.getElem?_set_ne nrm, List.getElem?_set_ne nrd, List.getElem?_set_ne nmd, List.getElem?_set_ne nmr, drB, rowD, mapD]
  refine AW.seq_k fun K hK => ?_
  refine AW.region (by decide) ?_
  simp only [push_cast, Nat.reduceAdd, Nat.reduceMul, Nat.reduceSub, Nat.reduceLeDiff, Nat.reduceLT, Nat.reduceEqDiff, Nat.reduceBEq, Nat.reduceBNe, Nat.reduceMod, Nat.reduceDiv, Int.reduceLE, Int.reduceLT, Int.reduceToNat, Int.reduceAdd, Int.reduceSub, Int.reduceMul, Int.reduceNeg, Int.reduceEq, Int.reduceBEq, Int.reduceBNe, ↓reduceIte, reduceCtorEq, String.reduceBNe, String.reduceEq, reduceDIte, Nat.reducePow, hl, hlr, oL, setMap, hrd, hrs, hrm, pD, pR, pM, gD, gR, gM, sD, sR, sM, aA, aS, aK, aT, List.set_set, List.length_set, List.getElem?_set_ne ndr, List.getElem?_set_ne ndm, List.getElem?_set_ne nrm, List.getElem?_set_ne nrd, List.getElem?_set_ne nmd, List.getElem?_set_ne nmr, drB, rowD, mapD]
  refine Thn_n ?_
  refine hK _ _ ?_
  clear hK K
  refine AW.seq_k fun K hK => ?_
  refine AW.cond rfl (fun h14 => ?_) (fun h14 => ?_)
  · have hlt : i < kn := by have := of_decide_eq_true h14; omega
    have c1 : (0 : Int) ≤ (i : Int) := by omega
    have c2 : (i : Int) < (kn : Int) := by omega
    have g := il_get (f := ks) hlt
    refine AW.skip ?_
    refine Thn_n ?_
    refine hK _ _ ?_
    clear hK K
    refine AW.seq_k fun K hK => ?_
    refine AW.block ?_
    refine AW.seq_k fun K hK => ?_
    refine AW.region (by decide) ?_
    simp only [push_cast, Nat.reduceAdd, Nat.reduceMul, Nat.reduceSub, Nat.reduceLeDiff, Nat.reduceLT, Nat.reduceEqDiff, Nat.reduceBEq, Nat.reduceBNe, Nat.reduceMod, Nat.reduceDiv, Int.reduceLE, Int.reduceLT, Int.reduceToNat, Int.reduceAdd, Int.reduceSub, Int.reduceMul, Int.reduceNeg, Int.reduceEq, Int.reduceBEq, Int.reduceBNe, ↓reduceIte, reduceCtorEq, String.reduceBNe, String.reduceEq, reduceDIte, Nat.reducePow, hl, hlr, oL, setMap, hrd, hrs, hrm, pD, pR, pM, gD, gR, gM, sD, sR, sM, aA, aS, aK, aT, List.set_set, List.length_set, List.getElem?_set_ne ndr, List.getElem?_set_ne ndm, List.getElem?_set_ne nrm, List.getElem?_set_ne nrd, List.getElem?_set_ne nmd, List.getElem?_set_ne nmr, drB, rowD, mapD, c1, c2, g]
    refine Thn_n ?_
    refine hK _ _ ?_
    clear hK K
    refine AW.seq_k fun K hK => ?_
    rcases hf : fndE (ks i) D.E with _ | j
    · have g1 := findL_eL (ks i) D.E
      rw [hf] at g1
      have hnx : crF D.S D.E ks (i + 1) = crF D.S D.E ks i := by
        show (match lkE (ks i) D.E with | some v => _ | none => _) = _
        rw [lkE_none hf]
      refine AW.region (by decide) ?_
      simp only [push_cast, Nat.reduceAdd, Nat.reduceMul, Nat.reduceSub, Nat.reduceLeDiff, Nat.reduceLT, Nat.reduceEqDiff, Nat.reduceBEq, Nat.reduceBNe, Nat.reduceMod, Nat.reduceDiv, Int.reduceLE, Int.reduceLT, Int.reduceToNat, Int.reduceAdd, Int.reduceSub, Int.reduceMul, Int.reduceNeg, Int.reduceEq, Int.reduceBEq, Int.reduceBNe, ↓reduceIte, reduceCtorEq, String.reduceBNe, String.reduceEq, reduceDIte, Nat.reducePow, hl, hlr, oL, setMap, hrd, hrs, hrm, pD, pR, pM, gD, gR, gM, sD, sR, sM, aA, aS, aK, aT, List.set_set, List.length_set, List.getElem?_set_ne ndr, List.getElem?_set_ne ndm, List.getElem?_set_ne nrm, List.getElem?_set_ne nrd, List.getElem?_set_ne nmd, List.getElem?_set_ne nmr, drB, rowD, mapD, c1, c2, g, g1]
      refine Thn_n ?_
      refine hK _ _ ?_
      clear hK K
      refine AW.seq_k fun K hK => ?_
      refine AW.region (by decide) ?_
      simp only [push_cast, Nat.reduceAdd, Nat.reduceMul, Nat.reduceSub, Nat.reduceLeDiff, Nat.reduceLT, Nat.reduceEqDiff, Nat.reduceBEq, Nat.reduceBNe, Nat.reduceMod, Nat.reduceDiv, Int.reduceLE, Int.reduceLT, Int.reduceToNat, Int.reduceAdd, Int.reduceSub, Int.reduceMul, Int.reduceNeg, Int.reduceEq, Int.reduceBEq, Int.reduceBNe, ↓reduceIte, reduceCtorEq, String.reduceBNe, String.reduceEq, reduceDIte, Nat.reducePow, hl, hlr, oL, setMap, hrd, hrs, hrm, pD, pR, pM, gD, gR, gM, sD, sR, sM, aA, aS, aK, aT, List.set_set, List.length_set, List.getElem?_set_ne ndr, List.getElem?_set_ne ndm, List.getElem?_set_ne nrm, List.getElem?_set_ne nrd, List.getElem?_set_ne nmd, List.getElem?_set_ne nmr, drB, rowD, mapD, c1, c2, g, g1]
      refine Thn_n ?_
      refine hK _ _ ?_
      clear hK K
      refine AW.cond_f rfl ?_
      refine AW.skip ?_
      refine InB_n ?_
      refine Thn_n ?_
      refine hK _ _ ?_
      clear hK K
      refine AW.region (by decide) ?_
      simp only [push_cast, Nat.reduceAdd, Nat.reduceMul, Nat.reduceSub, Nat.reduceLeDiff, Nat.reduceLT, Nat.reduceEqDiff, Nat.reduceBEq, Nat.reduceBNe, Nat.reduceMod, Nat.reduceDiv, Int.reduceLE, Int.reduceLT, Int.reduceToNat, Int.reduceAdd, Int.reduceSub, Int.reduceMul, Int.reduceNeg, Int.reduceEq, Int.reduceBEq, Int.reduceBNe, ↓reduceIte, reduceCtorEq, String.reduceBNe, String.reduceEq, reduceDIte, Nat.reducePow, hl, hlr, oL, setMap, hrd, hrs, hrm, pD, pR, pM, gD, gR, gM, sD, sR, sM, aA, aS, aK, aT, List.set_set, List.length_set, List.getElem?_set_ne ndr, List.getElem?_set_ne ndm, List.getElem?_set_ne nrm, List.getElem?_set_ne nrd, List.getElem?_set_ne nmd, List.getElem?_set_ne nmr, drB, rowD, mapD, c1, c2, g, g1]
      refine Thn_n ?_
      have hwi : IntKind.i64.wrap ((i:Int)+1) = (i:Int)+1 := wi (by omega)
      refine ⟨i + 1, hlt, by omega, ?_⟩
      try simp only [keepL, setAll, push_cast, Nat.reduceAdd, Nat.reduceMul, Nat.reduceSub, Nat.reduceLeDiff, Nat.reduceLT, Nat.reduceEqDiff, Nat.reduceBEq, Nat.reduceBNe, Nat.reduceMod, Nat.reduceDiv, Int.reduceLE, Int.reduceLT, Int.reduceToNat, Int.reduceAdd, Int.reduceSub, Int.reduceMul, Int.reduceNeg, Int.reduceEq, Int.reduceBEq, Int.reduceBNe, ↓reduceIte, reduceCtorEq, String.reduceBNe, String.reduceEq, reduceDIte, Nat.reducePow, hl, hlr, oL, setMap, hrd, hrs, hrm, pD, pR, pM, gD, gR, gM, sD, sR, sM, aA, aS, aK, aT, List.set_set, List.length_set, List.getElem?_set_ne ndr, List.getElem?_set_ne ndm, List.getElem?_set_ne nrm, List.getElem?_set_ne nrd, List.getElem?_set_ne nmd, List.getElem?_set_ne nmr, drB, rowD, mapD, c1, c2, g, g1, hwi, hnx]
      exact Weak.to (extra := [_]) (by simp only [Keeps, Tm.get_cons, Nat.reduceEqDiff, ↓reduceIte, if_true, if_false, ite_true, ite_false, true_and, and_true, and_self, reduceCtorEq, hwi, hnx]) (by first | rfl | (simp only [List.append_assoc, List.cons_append, List.nil_append]; rfl)) (by first | rfl | (simp [AV.below, CV.below]; done) | (simp [AV.below, CV.below]; omega)) (by rw [List.length_set]; exact MWf_setB hwf (u8l_below _ _) rfl)
    · have g1 := findL_eL (ks i) D.E
      rw [hf] at g1
      obtain ⟨b, w, hj, hl⟩ := fndE_some hf
      have g4 := eL_get hj
      simp only [eC] at g4
      have hme := List.mem_of_getElem? hj
      have hw128 := hwd.e.len _ hme
      have hkey := hwd.e.key _ hme
      dsimp only at hw128 hkey
      have g5 : (u8l w).length = 128 := by rw [u8l_len]; exact hw128
      have g6 : (u8l w).take 128 = u8l w := List.take_of_length_le (by omega)
      have g7 := u8l_vals w
      have g8 : setL [.int .u8 0, .int .u8 0, .int .u8 0, .int .u8 0, .int .u8 0, .int .u8 0, .int .u8 0, .int .u8 0, .int .u8 0, .int .u8 0, .int .u8 0, .int .u8 0, .int .u8 0, .int .u8 0, .int .u8 0, .int .u8 0, .int .u8 0, .int .u8 0, .int .u8 0, .int .u8 0, .int .u8 0, .int .u8 0, .int .u8 0, .int .u8 0, .int .u8 0, .int .u8 0, .int .u8 0, .int .u8 0, .int .u8 0, .int .u8 0, .int .u8 0, .int .u8 0, .int .u8 0, .int .u8 0, .int .u8 0, .int .u8 0, .int .u8 0, .int .u8 0, .int .u8 0, .int .u8 0, .int .u8 0, .int .u8 0, .int .u8 0, .int .u8 0, .int .u8 0, .int .u8 0, .int .u8 0, .int .u8 0, .int .u8 0, .int .u8 0, .int .u8 0, .int .u8 0, .int .u8 0, .int .u8 0, .int .u8 0, .int .u8 0, .int .u8 0, .int .u8 0, .int .u8 0, .int .u8 0, .int .u8 0, .int .u8 0, .int .u8 0, .int .u8 0, .int .u8 0, .int .u8 0, .int .u8 0, .int .u8 0, .int .u8 0, .int .u8 0, .int .u8 0, .int .u8 0, .int .u8 0, .int .u8 0, .int .u8 0, .int .u8 0, .int .u8 0, .int .u8 0, .int .u8 0, .int .u8 0, .int .u8 0, .int .u8 0, .int .u8 0, .int .u8 0, .int .u8 0, .int .u8 0, .int .u8 0, .int .u8 0, .int .u8 0, .int .u8 0, .int .u8 0, .int .u8 0, .int .u8 0, .int .u8 0, .int .u8 0, .int .u8 0, .int .u8 0, .int .u8 0, .int .u8 0, .int .u8 0, .int .u8 0, .int .u8 0, .int .u8 0, .int .u8 0, .int .u8 0, .int .u8 0, .int .u8 0, .int .u8 0, .int .u8 0, .int .u8 0, .int .u8 0, .int .u8 0, .int .u8 0, .int .u8 0, .int .u8 0, .int .u8 0, .int .u8 0, .int .u8 0, .int .u8 0, .int .u8 0, .int .u8 0, .int .u8 0, .int .u8 0, .int .u8 0, .int .u8 0, .int .u8 0, .int .u8 0, .int .u8 0] 0 (u8l w) = u8l w := setL_all (by rw [g5]; rfl)
      have hnx : crF D.S D.E ks (i + 1) = updS (crF D.S D.E ks i) (ks i).toNat w := by
        show (match lkE (ks i) D.E with | some v => _ | none => _) = _
        have e : lkE (ks i) D.E = some w := by unfold lkE; rw [hl]; rfl
        rw [e]
      have p1 : 0 ≤ ks i := hkey.1
      have p2 : ks i < (n : Int) := hkey.2
      have p3 : (ks i).toNat < n := by omega
      have p4 : (ks i).toNat * 128 + 128 ≤ n * 128 := by omega
      have hcl : (u8l (catB n (crF D.S D.E ks i))).length = n * 128 := by rw [u8l_len, catB_len (crF_len hwd.s hwd.e ks i)]
      have hcs := catB_set (crF_len hwd.s hwd.e ks i) p3 hw128
      refine AW.region (by decide) ?_
      simp only [push_cast, Nat.reduceAdd, Nat.reduceMul, Nat.reduceSub, Nat.reduceLeDiff, Nat.reduceLT, Nat.reduceEqDiff, Nat.reduceBEq, Nat.reduceBNe, Nat.reduceMod, Nat.reduceDiv, Int.reduceLE, Int.reduceLT, Int.reduceToNat, Int.reduceAdd, Int.reduceSub, Int.reduceMul, Int.reduceNeg, Int.reduceEq, Int.reduceBEq, Int.reduceBNe, ↓reduceIte, reduceCtorEq, String.reduceBNe, String.reduceEq, reduceDIte, Nat.reducePow, hl, hlr, oL, setMap, hrd, hrs, hrm, pD, pR, pM, gD, gR, gM, sD, sR, sM, aA, aS, aK, aT, List.set_set, List.length_set, List.getElem?_set_ne ndr, List.getElem?_set_ne ndm, List.getElem?_set_ne nrm, List.getElem?_set_ne nrd, List.getElem?_set_ne nmd, List.getElem?_set_ne nmr, drB, rowD, mapD, c1, c2, g, g1, g4, g5, g6, g7, g8, p1, p2, p4, hcl, hcs, Nat.le_refl]
      refine Thn_n ?_
      refine hK _ _ ?_
      clear hK K
      refine AW.seq_k fun K hK => ?_
      refine AW.region (by decide) ?_
      simp only [push_cast, Nat.reduceAdd, Nat.reduceMul, Nat.reduceSub, Nat.reduceLeDiff, Nat.reduceLT, Nat.reduceEqDiff, Nat.reduceBEq, Nat.reduceBNe, Nat.reduceMod, Nat.reduceDiv, Int.reduceLE, Int.reduceLT, Int.reduceToNat, Int.reduceAdd, Int.reduceSub, Int.reduceMul, Int.reduceNeg, Int.reduceEq, Int.reduceBEq, Int.reduceBNe, ↓reduceIte, reduceCtorEq, String.reduceBNe, String.reduceEq, reduceDIte, Nat.reducePow, hl, hlr, oL, setMap, hrd, hrs, hrm, pD, pR, pM, gD, gR, gM, sD, sR, sM, aA, aS, aK, aT, List.set_set, List.length_set, List.getElem?_set_ne ndr, List.getElem?_set_ne ndm, List.getElem?_set_ne nrm, List.getElem?_set_ne nrd, List.getElem?_set_ne nmd, List.getElem?_set_ne nmr, drB, rowD, mapD, c1, c2, g, g1, g4, g5, g6, g7, g8, p1, p2, p4, hcl, hcs, Nat.le_refl]
      refine Thn_n ?_
      refine hK _ _ ?_
      clear hK K
      refine AW.cond_t rfl ?_
      refine AW.draw [.val, .val, .val, .rd 0, .val, .rd 0, .val, .wr] fol (by decide) (by kernel_rfl) ?_
      simp only [push_cast, Nat.reduceAdd, Nat.reduceMul, Nat.reduceSub, Nat.reduceLeDiff, Nat.reduceLT, Nat.reduceEqDiff, Nat.reduceBEq, Nat.reduceBNe, Nat.reduceMod, Nat.reduceDiv, Int.reduceLE, Int.reduceLT, Int.reduceToNat, Int.reduceAdd, Int.reduceSub, Int.reduceMul, Int.reduceNeg, Int.reduceEq, Int.reduceBEq, Int.reduceBNe, ↓reduceIte, reduceCtorEq, String.reduceBNe, String.reduceEq, reduceDIte, Nat.reducePow, hl, hlr, oL, setMap, hrd, hrs, hrm, pD, pR, pM, gD, gR, gM, sD, sR, sM, aA, aS, aK, aT, List.set_set, List.length_set, List.getElem?_set_ne ndr, List.getElem?_set_ne ndm, List.getElem?_set_ne nrm, List.getElem?_set_ne nrd, List.getElem?_set_ne nmd, List.getElem?_set_ne nmr, drB, rowD, mapD, c1, c2, g, g1, g4, g5, g6, g7, g8, p1, p2, p4, hcl, hcs, Nat.le_refl]
      refine InB_n ?_
      refine Thn_n ?_
      refine hK _ _ ?_
      clear hK K
      refine AW.region (by decide) ?_
      simp only [push_cast, Nat.reduceAdd, Nat.reduceMul, Nat.reduceSub, Nat.reduceLeDiff, Nat.reduceLT, Nat.reduceEqDiff, Nat.reduceBEq, Nat.reduceBNe, Nat.reduceMod, Nat.reduceDiv, Int.reduceLE, Int.reduceLT, Int.reduceToNat, Int.reduceAdd, Int.reduceSub, Int.reduceMul, Int.reduceNeg, Int.reduceEq, Int.reduceBEq, Int.reduceBNe, ↓reduceIte, reduceCtorEq, String.reduceBNe, String.reduceEq, reduceDIte, Nat.reducePow, hl, hlr, oL, setMap, hrd, hrs, hrm, pD, pR, pM, gD, gR, gM, sD, sR, sM, aA, aS, aK, aT, List.set_set, List.length_set, List.getElem?_set_ne ndr, List.getElem?_set_ne ndm, List.getElem?_set_ne nrm, List.getElem?_set_ne nrd, List.getElem?_set_ne nmd, List.getElem?_set_ne nmr, drB, rowD, mapD, c1, c2, g, g1, g4, g5, g6, g7, g8, p1, p2, p4, hcl, hcs, Nat.le_refl]
      refine Thn_n ?_
      have hwi : IntKind.i64.wrap ((i:Int)+1) = (i:Int)+1 := wi (by omega)
      refine ⟨i + 1, hlt, by omega, ?_⟩
      try simp only [keepL, setAll, push_cast, Nat.reduceAdd, Nat.reduceMul, Nat.reduceSub, Nat.reduceLeDiff, Nat.reduceLT, Nat.reduceEqDiff, Nat.reduceBEq, Nat.reduceBNe, Nat.reduceMod, Nat.reduceDiv, Int.reduceLE, Int.reduceLT, Int.reduceToNat, Int.reduceAdd, Int.reduceSub, Int.reduceMul, Int.reduceNeg, Int.reduceEq, Int.reduceBEq, Int.reduceBNe, ↓reduceIte, reduceCtorEq, String.reduceBNe, String.reduceEq, reduceDIte, Nat.reducePow, hl, hlr, oL, setMap, hrd, hrs, hrm, pD, pR, pM, gD, gR, gM, sD, sR, sM, aA, aS, aK, aT, List.set_set, List.length_set, List.getElem?_set_ne ndr, List.getElem?_set_ne ndm, List.getElem?_set_ne nrm, List.getElem?_set_ne nrd, List.getElem?_set_ne nmd, List.getElem?_set_ne nmr, drB, rowD, mapD, c1, c2, g, g1, g4, g5, g6, g7, g8, p1, p2, p4, hcl, hcs, Nat.le_refl, hwi, hnx]
      exact Weak.to (extra := [_]) (by simp only [Keeps, Tm.get_cons, Nat.reduceEqDiff, ↓reduceIte, if_true, if_false, ite_true, ite_false, true_and, and_true, and_self, reduceCtorEq, hwi, hnx]) (by first | rfl | (simp only [List.append_assoc, List.cons_append, List.nil_append]; rfl)) (by first | rfl | (simp [AV.below, CV.below]; done) | (simp [AV.below, CV.below]; omega)) (by rw [List.length_set]; exact MWf_setB hwf (u8l_below _ _) rfl)
  · have hie : i = kn := by have := of_decide_eq_false h14; omega
    subst hie
    refine AW.exit ?_
    refine Thn_e ?_
    clear hK K
    refine Thn_e ?_
    refine InB_here ?_
    iterate 3
      refine Thn_n ?_
      refine hK _ _ ?_
      clear hK K
      refine AW.seq_k fun K hK => ?_
      refine AW.region (by decide) ?_
      simp only [push_cast, Nat.reduceAdd, Nat.reduceMul, Nat.reduceSub, Nat.reduceLeDiff, Nat.reduceLT, Nat.reduceEqDiff, Nat.reduceBEq, Nat.reduceBNe, Nat.reduceMod, Nat.reduceDiv, Int.reduceLE, Int.reduceLT, Int.reduceToNat, Int.reduceAdd, Int.reduceSub, Int.reduceMul, Int.reduceNeg, Int.reduceEq, Int.reduceBEq, Int.reduceBNe, ↓reduceIte, reduceCtorEq, String.reduceBNe, String.reduceEq, reduceDIte, Nat.reducePow, hl, hlr, oL, setMap, hrd, hrs, hrm, pD, pR, pM, gD, gR, gM, sD, sR, sM, aA, aS, aK, aT, List.set_set, List.length_set, List.getElem?_set_ne ndr, List.getElem?_set_ne ndm, List.getElem?_set_ne nrm, List.getElem?_set_ne nrd, List.getElem?_set_ne nmd, List.getElem?_set_ne nmr, drB, rowD, mapD]
    refine Thn_n ?_
    refine hK _ _ ?_
    clear hK K
    refine AW.ret ?_
    refine hQ _ _ _ ?_
    rw [e2] at hw2 ⊢
    have key : ∀ A B C : Blk, ((m.set rd A).set rs B).set rm C = ((m.set rs B).set rm C).set rd A := fun A B C => by
      rw [List.set_comm _ _ ndr, List.set_comm _ _ ndm]
    rw [key] at hw2 ⊢
    first | refine RetP.dropM0 (by simp only [List.length_set]) (by first | exact Or.inr rfl | exact Or.inl rfl) ?_ ?_ hw2 | refine RetP.dropM (by simp only [List.length_set]) (by first | exact Or.inr rfl | exact Or.inl rfl) ?_ ?_ hw2
    · simp only [resA, resOne, resTv, AV.tv, push_cast, Nat.reduceAdd, Nat.reduceMul, Nat.reduceSub, Nat.reduceLeDiff, Nat.reduceLT, Nat.reduceEqDiff, Nat.reduceBEq, Nat.reduceBNe, Nat.reduceMod, Nat.reduceDiv, Int.reduceLE, Int.reduceLT, Int.reduceToNat, Int.reduceAdd, Int.reduceSub, Int.reduceMul, Int.reduceNeg, Int.reduceEq, Int.reduceBEq, Int.reduceBNe, ↓reduceIte, reduceCtorEq, String.reduceBNe, String.reduceEq, reduceDIte, Nat.reducePow]
    · rfl
end Go.Proofs.Ytcahlnddcjifdaa

/-
  ENGINE, PART X: functions that the model itself answers: internal/abi.NoEscape, internal/bytealg.IndexByteString.
-/
set_option linter.unusedVariables false
namespace Go.Eng
open Go
variable {P : Program} {m m' : AMem}
theorem Ctr.extern {f : FuncId} {fn : Func} {e : Array Value → Sem Value} {args : List AV} {ret : AV} (hf : P.funcs[f]? = some fn) (hname : (fn.name == "runtime.NumGoroutine") = false)
    (hb : fn.body.isNone = true) (hn : Extern.findNext fn = none) (he : Extern.find fn = some e)
    (h : ∀ ρ w vs, RepM ρ m w → All2 (VR ρ) args vs → ∃ v w' ρ', (e vs.toArray).run P w = .ok v w' ∧ VR ρ' ret v ∧ RepM ρ' m' w' ∧ Step m ρ w m' ρ' w') : Ctr P f args m ret m' := fun ρ w vs hm ha => by
  obtain ⟨v, w', ρ', h1, h2, h3, h4⟩ := h ρ w vs hm ha
  refine .inr ⟨v, w', ?_, v, ρ', rfl, h2, h3, h4⟩
  rw [run_callFunc_extern hf hname hb hn he, h1]; rfl
theorem noEscape_x {f : FuncId} {fn : Func} (hf : P.funcs[f]? = some fn) (hname : (fn.name == "runtime.NumGoroutine") = false) (hb : fn.body.isNone = true) (hn : Extern.findNext fn = none) (he : Extern.find fn = some Extern.AbiNoEscape.same) (x : AV) (m : AMem) : Ctr P f [x] m x m :=
  Ctr.extern hf hname hb hn he fun ρ w vs hm ha => by
    match vs, ha with
    | [v], ha => exact ⟨v, w, ρ, Lib.run_noEscape w v, ha.1, hm, Step.refl _ _ _⟩
theorem indexByteString_x {f : FuncId} {fn : Func} (hf : P.funcs[f]? = some fn) (hname : (fn.name == "runtime.NumGoroutine") = false) (hb : fn.body.isNone = true) (hn : Extern.findNext fn = none) (he : Extern.find fn = some Extern.BytealgIndexByte.indexByte) (s : ByteArray) (c : Int) (m : AMem) :
    Ctr P f [.one (.str s), .one (.int .u8 c)] m (.one (.int .i64 (firstIdx s c.toNat.toUInt8))) m :=
  Ctr.extern hf hname hb hn he fun ρ w vs hm ha => by
    match vs, ha with
    | [u, v], ha =>
      have e1 : u = _ := ha.1
      have e2 : v = _ := ha.2.1
      subst e1; subst e2
      exact ⟨_, w, ρ, run_indexByte_string s c w, rfl, hm, Step.refl _ _ _⟩
end Go.Eng

/-
  ENGINE, PART Y: a step of a loop over a map of our own: whichever entry is left may come next. What a package-level variable holds, where memory grows.
-/
set_option linter.unusedVariables false
set_option linter.unusedSimpArgs false
namespace Go.Eng
open Go
variable {P : Program} {nt : Nat} {tm : Tm} {mem : AMem} {Q : Exit → Tm → AMem → Prop}

theorem AW.wfI {c : Code} (h : MWf mem.length mem → AW P nt c tm mem Q) : AW P nt c tm mem Q := fun ρ a w hr => h hr.mem.wf ρ a w hr

theorem gB_app {m : AMem} {g : Nat} {cs : List CV} (h : gB m g = some cs) (x : AMem) : gB (m ++ x) g = some cs := by
  unfold gB at h ⊢
  rw [List.find?_append]
  cases hf : m.find? fun b => b.kind.tag == 2 && b.ver == g + 1 && !b.cells.isEmpty with
  | none => rw [hf] at h; cases h
  | some b => rw [hf] at h; simpa using h
theorem gB_set {m : AMem} {g : Nat} {cs : List CV} (h : gB m g = some cs) {r : Nat} {b b' : Blk} (hb : m[r]? = some b) (hk : b.kind ≠ .ro) (hk' : b'.kind ≠ .ro) : gB (m.set r b') g = some cs := by
  have key : ∀ (m : AMem) (r : Nat), m[r]? = some b → ((m.set r b').find? fun b => b.kind.tag == 2 && b.ver == g + 1 && !b.cells.isEmpty) = m.find? fun b => b.kind.tag == 2 && b.ver == g + 1 && !b.cells.isEmpty := by
    intro m
    induction m with
    | nil => intro r h; simp at h
    | cons x m ih =>
      intro r h
      have hno : ∀ y : Blk, y.kind ≠ .ro → (y.kind.tag == 2) = false := fun y hy => by
        rw [beq_eq_false_iff_ne]; exact fun e => hy (BK.tag_ro.1 e)
      cases r with
      | zero =>
        simp only [List.getElem?_cons_zero, Option.some.injEq] at h
        subst h
        simp only [List.set_cons_zero, List.find?_cons, hno _ hk, hno _ hk', Bool.false_and]
      | succ r =>
        simp only [List.getElem?_cons_succ] at h
        simp only [List.set_cons_succ, List.find?_cons, ih r h]
  unfold gB at h ⊢
  rw [key m r hb]; exact h

theorem leftOf_mem {ρ : Env} {ka va : Bool} {seen : List Nat} : ∀ {es : List (Nat × List CV × List CV)} {o : List MapEntry}, All2 (entR ρ ka va) es o → ∀ {x : MapEntry}, x ∈ o → x.born ∉ seen → ∃ (j : Nat) (e : Nat × List CV × List CV), es[j]? = some e ∧ e.1 = x.born ∧ e.1 ∉ seen ∧ entR ρ ka va e x
  | [], [], _, x, h, _ => by cases h
  | e :: es, y :: o, ho, x, h, hs => by
    rcases List.mem_cons.1 h with rfl | h
    · exact ⟨0, e, rfl, ho.1.1.symm, by rw [← ho.1.1]; exact hs, ho.1⟩
    · obtain ⟨j, e', h1, h2⟩ := leftOf_mem ho.2 h hs
      exact ⟨j + 1, e', by simpa using h1, h2⟩
  | [], _ :: _, h, _, _, _ => h.elim
  | _ :: _, [], h, _, _, _ => h.elim

/-- A STEP OF A LOOP OVER A MAP. -/
theorem AW.next {id d t : Nat} {ty : TypeId} {pos : String} {af : Array Edge} {l : List Oper} (ri rm since last : Nat) (seen : List Nat) {ity iesz : Nat} {clock : Nat} {ka va : Bool} {es : List (Nat × List CV × List CV)}
    (hd : d < nt) (hl : l.all (dstOk nt) = true) (hit : Tm.get tm t = .one (.ptr ri 0 0)) (hi : mem[ri]? = some ⟨.iter rm since seen last, ity, 0, iesz, []⟩) (hm : mapAt mem rm 0 = some (ka, va, clock, es))
    (hold : ∀ e, e ∈ es → e.1 < since) (hsc : since ≤ last)
    (hMore : ∀ (j : Nat) (e : Nat × List CV × List CV), es[j]? = some e → e.1 ∉ seen → AOps P (⟨some d, .next (.tmp t) false, ty, pos, af, none⟩ :: l).toArray l ((d, .tup [(false, [.bool true]), (ka, e.2.1), (va, e.2.2)]) :: tm) (mem.set ri ⟨.iter rm since (seen ++ [e.1]) clock, ity, 0, iesz, []⟩) (Q .normal))
    (hDone : (∀ e, e ∈ es → e.1 ∈ seen) → AOps P (⟨some d, .next (.tmp t) false, ty, pos, af, none⟩ :: l).toArray l ((d, .tup [(false, [.bool false])]) :: tm) mem (Q .normal)) :
    AW P nt (.region id (⟨some d, .next (.tmp t) false, ty, pos, af, none⟩ :: l).toArray false) tm mem Q := by
  intro ρ a w hr
  refine wp_region_lit ?_
  refine wpList_plain rfl fun K hK => ?_
  unfold Oper.wp
  have hv := hr.tm t
  rw [hit] at hv
  obtain ⟨n, N, k, k', h1, h2, h3, h4, hv'⟩ := iter_sound hr.mem hi hv
  obtain ⟨b, N', kk, o, hb', hver, hkind, hcells, hρ, hvv, hheap, hall⟩ := mapAt_sound hr.mem hm (v := .map (some N)) ⟨N, k', h2, rfl⟩
  injection hvv with hvv; injection hvv with hvv; subst hvv
  have hold' : ∀ x ∈ o.toList, x.born < since := fun x hx => by
    obtain ⟨i, hi'⟩ := List.getElem?_of_mem hx
    have hlen := hall.length
    have hil : i < es.length := by rw [hlen]; exact (List.getElem?_eq_some_iff.1 hi').1
    obtain ⟨x', hx', g⟩ := hall.get (List.getElem?_eq_getElem hil)
    rw [hi'] at hx'; injection hx' with hx'; subst hx'
    rw [g.1]; exact hold _ (List.getElem_mem hil)
  have hex : ∀ r, (Instr.next (.pointer (some ⟨n, 0, none⟩)) false ty).run P w = r → (execOp a.eval ⟨some d, .next (.tmp t) false, ty, pos, af, none⟩).run P w = r.andThen fun v w' => .ok (.value v) w' := by
    intro r hr'
    have e : a.eval (.tmp t) = .pointer (some ⟨n, 0, none⟩) := hv'
    simp only [execOp, e, Sem.run_bind, hr', Sem.run_pure]
  rcases run_next_at (P := P) w ty n N since last seen.toArray o clock h3 hheap hold' hsc with ⟨h0, hrun⟩ | ⟨x, hx, w1, hw1, hrun⟩
  · rw [hex _ hrun, Result.andThen_ok, Oper.upon_value]
    refine hK _ _ ?_
    have hall0 : ∀ e, e ∈ es → e.1 ∈ seen := fun e he => by
      obtain ⟨i, hi'⟩ := List.getElem?_of_mem he
      obtain ⟨x, hx, g⟩ := hall.get hi'
      rcases Classical.em (e.1 ∈ seen) with h | h
      · exact h
      · exfalso
        have : x ∈ (leftOf o seen.toArray).toList := by
          unfold leftOf
          simp only [Array.toList_filter, List.mem_filter, Bool.not_eq_true', List.contains_toArray]
          exact ⟨List.mem_of_getElem? hx, by rw [g.1]; simpa using h⟩
        rw [Array.eq_empty_of_size_eq_zero h0] at this
        cases this
    have hr1 : Rep ρ nt ((d, .tup [(false, [.bool false])]) :: tm) mem (a.put (some d) (.tuple #[.bool false])) w := hr.put hd ⟨_, rfl, rfl, trivial⟩
    exact aops_sound l _ _ _ hl (hDone hall0) ρ _ w _ hr1 fun ρ' tm' mem' a' w' r s dd k => ⟨ρ', tm', mem', r, s, dd, k⟩
  · rw [hex _ hrun, Result.andThen_ok, Oper.upon_value]
    refine hK _ _ ?_
    have hxo : x ∈ o.toList ∧ x.born ∉ seen := by
      unfold leftOf at hx
      simp only [Array.toList_filter, List.mem_filter, Bool.not_eq_true', List.contains_toArray] at hx
      exact ⟨hx.1, by simpa using hx.2⟩
    obtain ⟨j, e, g1, g2, g3, g4⟩ := leftOf_mem hall hxo.1 hxo.2
    have hw : w1.heap = w.heap ∧ w1.os = w.os ∧ w1.tape = w.tape ∧ w1.output = w.output := by rcases hw1 with rfl | rfl <;> exact ⟨rfl, rfl, rfl, rfl⟩
    have hnl : n < w.heap.size := (Array.getElem?_eq_some_iff.1 h3).1
    have hbk : BlkR ρ (ChangeMaps.setBlock w1 n (.mapIter (some N) since (seen.toArray.push x.born) clock)) ri ⟨.iter rm since (seen ++ [e.1]) clock, ity, 0, iesz, []⟩ := by
      refine ⟨n, N, k, k', h1, h2, ?_, rfl⟩
      show (w1.heap.setIfInBounds n _)[n]? = _
      rw [hw.1, Array.getElem?_setIfInBounds_self_of_lt hnl, g2]
      simp
    obtain ⟨q1, q2⟩ := hr.mem.turn (w' := ChangeMaps.setBlock w1 n (.mapIter (some N) since (seen.toArray.push x.born) clock)) hi (by simp) h1 ⟨.iter rm since (seen ++ [e.1]) clock, ity, 0, iesz, []⟩ rfl rfl (by
        intro m hmn
        show (w1.heap.setIfInBounds n _)[m]? = _
        rw [hw.1, Array.getElem?_setIfInBounds_ne (fun e => hmn e.symm)]) (by show (w1.heap.setIfInBounds n _).size = _; rw [hw.1]; simp) hw.2.1 hw.2.2.1 hw.2.2.2 hbk
    have hr1 : Rep ρ nt ((d, .tup [(false, [.bool true]), (ka, e.2.1), (va, e.2.2)]) :: tm) (mem.set ri ⟨.iter rm since (seen ++ [e.1]) clock, ity, 0, iesz, []⟩) (a.put (some d) (.tuple #[.bool true, x.key, x.val])) (ChangeMaps.setBlock w1 n (.mapIter (some N) since (seen.toArray.push x.born) clock)) :=
      (hr.step q2 q1).put hd ⟨_, rfl, rfl, g4.2.1, g4.2.2.1, trivial⟩
    exact aops_sound l _ _ _ hl (hMore j e g1 g3) ρ _ _ _ hr1 fun ρ' tm' mem' a' w' r s dd k => ⟨ρ', tm', mem', r, q2.trans s, dd, k⟩
end Go.Eng

set_option linter.unusedSimpArgs false
set_option linter.unusedVariables false
set_option maxRecDepth 100000
set_option maxHeartbeats 4000000
namespace Go.Proofs.Ytcahlnddcjifdaa
open Go Go.Eng

theorem nd_len : ∀ {l r : List Nat}, l.Nodup → (∀ x, x ∈ l → x ∈ r) → l.length ≤ r.length
  | [], r, _, _ => Nat.zero_le _
  | x :: l, r, hn, hs => by
    rw [List.nodup_cons] at hn
    obtain ⟨a, b, rfl⟩ := List.append_of_mem (hs x List.mem_cons_self)
    have := nd_len (l := l) (r := a ++ b) hn.2 fun y hy => by
      have h1 := hs y (List.mem_cons_of_mem _ hy)
      have hne : y ≠ x := fun e => hn.1 (e ▸ hy)
      simp only [List.mem_append, List.mem_cons] at h1 ⊢
      rcases h1 with h1 | h1 | h1
      · exact .inl h1
      · exact (hne h1).elim
      · exact .inr h1
    simp only [List.length_append, List.length_cons] at this ⊢
    omega
theorem eL_find {E : DE} (hn : (E.map (·.1)).Nodup) {b : Nat} {k : Int} {v : List Int} (h : (b, k, v) ∈ E) : (eL E).find? (fun e => e.1 == b) = some (b, [.int .i64 k], u8l v) := by
  induction E with
  | nil => cases h
  | cons e E ih =>
    rw [List.map_cons, List.nodup_cons] at hn
    show (eC e :: eL E).find? _ = _
    rw [List.find?_cons]
    rcases List.mem_cons.1 h with rfl | h
    · simp [eC]
    · have hne : ((eC e).1 == b) = false := by
        rw [beq_eq_false_iff_ne]; intro e1
        exact hn.1 (by rw [show e.1 = b from e1]; exact List.mem_map_of_mem (f := (·.1)) h)
      rw [hne]
      exact ih hn.2 h
def syD (D : DS) : DS := { spD D with S := vis D.S D.E, E := [] }
theorem syD_wf {n : Nat} {D : DS} (h : WfD n D) : WfD n (syD D) := ⟨vis_len h.s h.e, WfE.nil n _⟩
structure SeenOk (E : DE) (seen : List Nat) : Prop where
  nd : seen.Nodup
  sub : ∀ x, x ∈ seen → x ∈ E.map (·.1)
theorem SeenOk.nil (E : DE) : SeenOk E [] := ⟨List.nodup_nil, fun x h => by cases h⟩
theorem SeenOk.add {E : DE} {seen : List Nat} (h : SeenOk E seen) {b : Nat} {k : Int} {v : List Int} (hb : (b, k, v) ∈ E) (hn : b ∉ seen) : SeenOk E (seen ++ [b]) :=
  ⟨List.nodup_append.2 ⟨h.nd, by simp, fun x hx y hy e => by simp at hy; subst hy; subst e; exact hn hx⟩, fun x hx => by
    rcases List.mem_append.1 hx with hx | hx
    · exact h.sub x hx
    · rw [List.mem_singleton.1 hx]; exact List.mem_map_of_mem (f := (·.1)) hb⟩
theorem SeenOk.lt {E : DE} {seen : List Nat} (h : SeenOk E seen) {b : Nat} {k : Int} {v : List Int} (hb : (b, k, v) ∈ E) (hn : b ∉ seen) : E.length - (seen ++ [b]).length < E.length - seen.length := by
  have h2 := h.add hb hn
  have := nd_len h2.nd h2.sub
  rw [List.length_map] at this
  simp only [List.length_append, List.length_cons, List.length_nil] at this ⊢
  omega
theorem getLast_app (s : List Nat) (b : Nat) : (s ++ [b]).getLast? = some b := by simp
theorem sy_nil (m : AMem) : Ctr Try.prog 9 [.one .nilp] m (.one (.int .i64 2)) m := by
  refine Ctr.enter Try.func9 rfl (by decide) (rs := [.tmp 2]) (nt := 37) rfl rfl fun hwf Q hQ => ?_
  refine AW.seq_k fun K hK => ?_
  refine AW.region (by decide) ?_
  simp only [push_cast, Nat.reduceAdd, Nat.reduceMul, Nat.reduceSub, Nat.reduceLeDiff, Nat.reduceLT, Nat.reduceEqDiff, Nat.reduceBEq, Nat.reduceBNe, Nat.reduceMod, Nat.reduceDiv, Int.reduceLE, Int.reduceLT, Int.reduceToNat, Int.reduceAdd, Int.reduceSub, Int.reduceMul, Int.reduceNeg, Int.reduceEq, Int.reduceBEq, Int.reduceBNe, ↓reduceIte, reduceCtorEq, String.reduceBNe, String.reduceEq, reduceDIte, Nat.reducePow]
  refine Thn_n ?_
  refine hK _ _ ?_
  clear hK K
  refine AW.seq_k fun K hK => ?_
  refine AW.seq_k fun K hK => ?_
  refine AW.region (by decide) ?_
  simp only [push_cast, Nat.reduceAdd, Nat.reduceMul, Nat.reduceSub, Nat.reduceLeDiff, Nat.reduceLT, Nat.reduceEqDiff, Nat.reduceBEq, Nat.reduceBNe, Nat.reduceMod, Nat.reduceDiv, Int.reduceLE, Int.reduceLT, Int.reduceToNat, Int.reduceAdd, Int.reduceSub, Int.reduceMul, Int.reduceNeg, Int.reduceEq, Int.reduceBEq, Int.reduceBNe, ↓reduceIte, reduceCtorEq, String.reduceBNe, String.reduceEq, reduceDIte, Nat.reducePow]
  refine CThen.by (up_nil _) ?_
  simp only [push_cast, Nat.reduceAdd, Nat.reduceMul, Nat.reduceSub, Nat.reduceLeDiff, Nat.reduceLT, Nat.reduceEqDiff, Nat.reduceBEq, Nat.reduceBNe, Nat.reduceMod, Nat.reduceDiv, Int.reduceLE, Int.reduceLT, Int.reduceToNat, Int.reduceAdd, Int.reduceSub, Int.reduceMul, Int.reduceNeg, Int.reduceEq, Int.reduceBEq, Int.reduceBNe, ↓reduceIte, reduceCtorEq, String.reduceBNe, String.reduceEq, reduceDIte, Nat.reducePow]
  refine Thn_n ?_
  refine hK _ _ ?_
  clear hK K
  refine AW.seq_k fun K hK => ?_
  refine AW.region (by decide) ?_
  simp only [push_cast, Nat.reduceAdd, Nat.reduceMul, Nat.reduceSub, Nat.reduceLeDiff, Nat.reduceLT, Nat.reduceEqDiff, Nat.reduceBEq, Nat.reduceBNe, Nat.reduceMod, Nat.reduceDiv, Int.reduceLE, Int.reduceLT, Int.reduceToNat, Int.reduceAdd, Int.reduceSub, Int.reduceMul, Int.reduceNeg, Int.reduceEq, Int.reduceBEq, Int.reduceBNe, ↓reduceIte, reduceCtorEq, String.reduceBNe, String.reduceEq, reduceDIte, Nat.reducePow]
  refine Thn_n ?_
  refine hK _ _ ?_
  clear hK K
  refine AW.cond_t rfl ?_
  refine AW.seq_k fun K hK => ?_
  refine AW.region (by decide) ?_
  simp only [push_cast, Nat.reduceAdd, Nat.reduceMul, Nat.reduceSub, Nat.reduceLeDiff, Nat.reduceLT, Nat.reduceEqDiff, Nat.reduceBEq, Nat.reduceBNe, Nat.reduceMod, Nat.reduceDiv, Int.reduceLE, Int.reduceLT, Int.reduceToNat, Int.reduceAdd, Int.reduceSub, Int.reduceMul, Int.reduceNeg, Int.reduceEq, Int.reduceBEq, Int.reduceBNe, ↓reduceIte, reduceCtorEq, String.reduceBNe, String.reduceEq, reduceDIte, Nat.reducePow]
  refine Thn_n ?_
  refine hK _ _ ?_
  clear hK K
  refine AW.ret ?_
  refine Thn_r ?_
  refine hQ _ _ _ ?_
  first | refine RetP.drop0 (Or.inr rfl) ?_ ?_ hwf | refine RetP.drop (Or.inr rfl) ?_ ?_ hwf
  · simp only [resA, resOne, resTv, AV.tv, push_cast, Nat.reduceAdd, Nat.reduceMul, Nat.reduceSub, Nat.reduceLeDiff, Nat.reduceLT, Nat.reduceEqDiff, Nat.reduceBEq, Nat.reduceBNe, Nat.reduceMod, Nat.reduceDiv, Int.reduceLE, Int.reduceLT, Int.reduceToNat, Int.reduceAdd, Int.reduceSub, Int.reduceMul, Int.reduceNeg, Int.reduceEq, Int.reduceBEq, Int.reduceBNe, ↓reduceIte, reduceCtorEq, String.reduceBNe, String.reduceEq, reduceDIte, Nat.reducePow]
  · rfl
theorem sy_down (rd rs rm n : Nat) (D : DS) (m : AMem) (hrd : m[rd]? = some (drB rs rm n D)) (h : D.down = true) : Ctr Try.prog 9 [.one (.ptr rd 0 0)] m (.one (.int .i64 5)) m := by
  refine Ctr.enter Try.func9 rfl (by decide) (rs := [.tmp 2]) (nt := 37) rfl rfl fun hwf Q hQ => ?_
  refine AW.seq_k fun K hK => ?_
  refine AW.region (by decide) ?_
  simp only [push_cast, Nat.reduceAdd, Nat.reduceMul, Nat.reduceSub, Nat.reduceLeDiff, Nat.reduceLT, Nat.reduceEqDiff, Nat.reduceBEq, Nat.reduceBNe, Nat.reduceMod, Nat.reduceDiv, Int.reduceLE, Int.reduceLT, Int.reduceToNat, Int.reduceAdd, Int.reduceSub, Int.reduceMul, Int.reduceNeg, Int.reduceEq, Int.reduceBEq, Int.reduceBNe, ↓reduceIte, reduceCtorEq, String.reduceBNe, String.reduceEq, reduceDIte, Nat.reducePow]
  refine Thn_n ?_
  refine hK _ _ ?_
  clear hK K
  refine AW.seq_k fun K hK => ?_
  refine AW.seq_k fun K hK => ?_
  refine AW.region (by decide) ?_
  simp only [push_cast, Nat.reduceAdd, Nat.reduceMul, Nat.reduceSub, Nat.reduceLeDiff, Nat.reduceLT, Nat.reduceEqDiff, Nat.reduceBEq, Nat.reduceBNe, Nat.reduceMod, Nat.reduceDiv, Int.reduceLE, Int.reduceLT, Int.reduceToNat, Int.reduceAdd, Int.reduceSub, Int.reduceMul, Int.reduceNeg, Int.reduceEq, Int.reduceBEq, Int.reduceBNe, ↓reduceIte, reduceCtorEq, String.reduceBNe, String.reduceEq, reduceDIte, Nat.reducePow]
  refine CThen.by (up_down rd rs rm n D _ hrd h) ?_
  simp only [push_cast, Nat.reduceAdd, Nat.reduceMul, Nat.reduceSub, Nat.reduceLeDiff, Nat.reduceLT, Nat.reduceEqDiff, Nat.reduceBEq, Nat.reduceBNe, Nat.reduceMod, Nat.reduceDiv, Int.reduceLE, Int.reduceLT, Int.reduceToNat, Int.reduceAdd, Int.reduceSub, Int.reduceMul, Int.reduceNeg, Int.reduceEq, Int.reduceBEq, Int.reduceBNe, ↓reduceIte, reduceCtorEq, String.reduceBNe, String.reduceEq, reduceDIte, Nat.reducePow]
  refine Thn_n ?_
  refine hK _ _ ?_
  clear hK K
  refine AW.seq_k fun K hK => ?_
  refine AW.region (by decide) ?_
  simp only [push_cast, Nat.reduceAdd, Nat.reduceMul, Nat.reduceSub, Nat.reduceLeDiff, Nat.reduceLT, Nat.reduceEqDiff, Nat.reduceBEq, Nat.reduceBNe, Nat.reduceMod, Nat.reduceDiv, Int.reduceLE, Int.reduceLT, Int.reduceToNat, Int.reduceAdd, Int.reduceSub, Int.reduceMul, Int.reduceNeg, Int.reduceEq, Int.reduceBEq, Int.reduceBNe, ↓reduceIte, reduceCtorEq, String.reduceBNe, String.reduceEq, reduceDIte, Nat.reducePow]
  refine Thn_n ?_
  refine hK _ _ ?_
  clear hK K
  refine AW.cond_t rfl ?_
  refine AW.seq_k fun K hK => ?_
  refine AW.region (by decide) ?_
  simp only [push_cast, Nat.reduceAdd, Nat.reduceMul, Nat.reduceSub, Nat.reduceLeDiff, Nat.reduceLT, Nat.reduceEqDiff, Nat.reduceBEq, Nat.reduceBNe, Nat.reduceMod, Nat.reduceDiv, Int.reduceLE, Int.reduceLT, Int.reduceToNat, Int.reduceAdd, Int.reduceSub, Int.reduceMul, Int.reduceNeg, Int.reduceEq, Int.reduceBEq, Int.reduceBNe, ↓reduceIte, reduceCtorEq, String.reduceBNe, String.reduceEq, reduceDIte, Nat.reducePow]
  refine Thn_n ?_
  refine hK _ _ ?_
  clear hK K
  refine AW.ret ?_
  refine Thn_r ?_
  refine hQ _ _ _ ?_
  first | refine RetP.drop0 (Or.inr rfl) ?_ ?_ hwf | refine RetP.drop (Or.inr rfl) ?_ ?_ hwf
  · simp only [resA, resOne, resTv, AV.tv, push_cast, Nat.reduceAdd, Nat.reduceMul, Nat.reduceSub, Nat.reduceLeDiff, Nat.reduceLT, Nat.reduceEqDiff, Nat.reduceBEq, Nat.reduceBNe, Nat.reduceMod, Nat.reduceDiv, Int.reduceLE, Int.reduceLT, Int.reduceToNat, Int.reduceAdd, Int.reduceSub, Int.reduceMul, Int.reduceNeg, Int.reduceEq, Int.reduceBEq, Int.reduceBNe, ↓reduceIte, reduceCtorEq, String.reduceBNe, String.reduceEq, reduceDIte, Nat.reducePow]
  · rfl
theorem sy_no (rd rs rm n : Nat) (D : DS) (m : AMem) (h : HasD m rd rs rm n D) (hd : D.down = false) (hz : D.fuse = 0) : Ctr Try.prog 9 [.one (.ptr rd 0 0)] m (.one (.int .i64 5)) (setD m rd rs rm n (spD D)) := by
  refine Ctr.enter Try.func9 rfl (by decide) (rs := [.tmp 2]) (nt := 37) rfl rfl fun hwf Q hQ => ?_
  have hrd := h.d
  have hrs := h.r
  have hrm := h.m
  have ld := get_lt hrd
  have lr := get_lt hrs
  have lm := get_lt hrm
  have ndr : rd ≠ rs := h.dr
  have ndm : rd ≠ rm := h.dm
  have nrm : rs ≠ rm := h.rm
  have nrd := ndr.symm
  have nmd := ndm.symm
  have nmr := nrm.symm
  have oD := fun (L : AMem) => mk_olds (m := m) (l := m) rfl ld L
  have oR := fun (L : AMem) => mk_olds (m := m) (l := m) rfl lr L
  have oM := fun (L : AMem) => mk_olds (m := m) (l := m) rfl lm L
  have pD := fun (l L : AMem) (e : l.length = m.length) => mk_olds (m := m) (l := l) (r := rd) e ld L
  have pR := fun (l L : AMem) (e : l.length = m.length) => mk_olds (m := m) (l := l) (r := rs) e lr L
  have pM := fun (l L : AMem) (e : l.length = m.length) => mk_olds (m := m) (l := l) (r := rm) e lm L
  have gD := fun (l L : AMem) (e : l.length = m.length) => mk_old (m := m) (l := l) (r := rd) e ld L
  have gR := fun (l L : AMem) (e : l.length = m.length) => mk_old (m := m) (l := l) (r := rs) e lr L
  have gM := fun (l L : AMem) (e : l.length = m.length) => mk_old (m := m) (l := l) (r := rm) e lm L
  have sD := fun (l : AMem) (b : Blk) (e : l.length = m.length) => mk_self (m := m) (l := l) (r := rd) e ld b
  have sR := fun (l : AMem) (b : Blk) (e : l.length = m.length) => mk_self (m := m) (l := l) (r := rs) e lr b
  have sM := fun (l : AMem) (b : Blk) (e : l.length = m.length) => mk_self (m := m) (l := l) (r := rm) e lm b
  have aA := fun (l L : AMem) (e : l.length = m.length) => mk_lk0 (m := m) (l := l) e L
  have aK := fun (l L : AMem) (k : Nat) (e : l.length = m.length) => mk_lk (m := m) (l := l) e L k
  have aT := fun (l L : AMem) (k : Nat) (b : Blk) (e : l.length = m.length) => mk_set (m := m) (l := l) e L k b
  have aS := fun (l L : AMem) (b : Blk) (e : l.length = m.length) => mk_set0 (m := m) (l := l) e L b
  have hw2 : MWf m.length (setD m rd rs rm n (spD D)) := setD_wf hwf lr lm _
  have e2 := setD_d h (spD D) (spD_S D) (spD_E D) (spD_ck D)
  refine AW.seq_k fun K hK => ?_
  refine AW.region (by decide) ?_
  simp only [push_cast, Nat.reduceAdd, Nat.reduceMul, Nat.reduceSub, Nat.reduceLeDiff, Nat.reduceLT, Nat.reduceEqDiff, Nat.reduceBEq, Nat.reduceBNe, Nat.reduceMod, Nat.reduceDiv, Int.reduceLE, Int.reduceLT, Int.reduceToNat, Int.reduceAdd, Int.reduceSub, Int.reduceMul, Int.reduceNeg, Int.reduceEq, Int.reduceBEq, Int.reduceBNe, ↓reduceIte, reduceCtorEq, String.reduceBNe, String.reduceEq, reduceDIte, Nat.reducePow, hrd, hrs, hrm, pD, pR, pM, gD, gR, gM, sD, sR, sM, aA, aS, aK, aT, List.set_set, List.length_set, List.getElem?_set_ne ndr, List.getElem?_set_ne ndm, List.getElem?_set_ne nrm, List.getElem?_set_ne nrd, List.getElem?_set_ne nmd, List.getElem?_set_ne nmr, drB, rowD, mapD]
  refine Thn_n ?_
  refine hK _ _ ?_
  clear hK K
  refine AW.seq_k fun K hK => ?_
  refine AW.seq_k fun K hK => ?_
  refine AW.region (by decide) ?_
  simp only [push_cast, Nat.reduceAdd, Nat.reduceMul, Nat.reduceSub, Nat.reduceLeDiff, Nat.reduceLT, Nat.reduceEqDiff, Nat.reduceBEq, Nat.reduceBNe, Nat.reduceMod, Nat.reduceDiv, Int.reduceLE, Int.reduceLT, Int.reduceToNat, Int.reduceAdd, Int.reduceSub, Int.reduceMul, Int.reduceNeg, Int.reduceEq, Int.reduceBEq, Int.reduceBNe, ↓reduceIte, reduceCtorEq, String.reduceBNe, String.reduceEq, reduceDIte, Nat.reducePow, hrd, hrs, hrm, pD, pR, pM, gD, gR, gM, sD, sR, sM, aA, aS, aK, aT, List.set_set, List.length_set, List.getElem?_set_ne ndr, List.getElem?_set_ne ndm, List.getElem?_set_ne nrm, List.getElem?_set_ne nrd, List.getElem?_set_ne nmd, List.getElem?_set_ne nmr, drB, rowD, mapD]
  refine CThen.by (up_ok rd rs rm n D _ h.d hd) ?_
  simp only [push_cast, Nat.reduceAdd, Nat.reduceMul, Nat.reduceSub, Nat.reduceLeDiff, Nat.reduceLT, Nat.reduceEqDiff, Nat.reduceBEq, Nat.reduceBNe, Nat.reduceMod, Nat.reduceDiv, Int.reduceLE, Int.reduceLT, Int.reduceToNat, Int.reduceAdd, Int.reduceSub, Int.reduceMul, Int.reduceNeg, Int.reduceEq, Int.reduceBEq, Int.reduceBNe, ↓reduceIte, reduceCtorEq, String.reduceBNe, String.reduceEq, reduceDIte, Nat.reducePow, hrd, hrs, hrm, pD, pR, pM, gD, gR, gM, sD, sR, sM, aA, aS, aK, aT, List.set_set, List.length_set, List.getElem?_set_ne ndr, List.getElem?_set_ne ndm, List.getElem?_set_ne nrm, List.getElem?_set_ne nrd, List.getElem?_set_ne nmd, List.getElem?_set_ne nmr, drB, rowD, mapD]
  refine Thn_n ?_
  refine hK _ _ ?_
  clear hK K
  refine AW.seq_k fun K hK => ?_
  refine AW.region (by decide) ?_
  simp only [push_cast, Nat.reduceAdd, Nat.reduceMul, Nat.reduceSub, Nat.reduceLeDiff, Nat.reduceLT, Nat.reduceEqDiff, Nat.reduceBEq, Nat.reduceBNe, Nat.reduceMod, Nat.reduceDiv, Int.reduceLE, Int.reduceLT, Int.reduceToNat, Int.reduceAdd, Int.reduceSub, Int.reduceMul, Int.reduceNeg, Int.reduceEq, Int.reduceBEq, Int.reduceBNe, ↓reduceIte, reduceCtorEq, String.reduceBNe, String.reduceEq, reduceDIte, Nat.reducePow, hrd, hrs, hrm, pD, pR, pM, gD, gR, gM, sD, sR, sM, aA, aS, aK, aT, List.set_set, List.length_set, List.getElem?_set_ne ndr, List.getElem?_set_ne ndm, List.getElem?_set_ne nrm, List.getElem?_set_ne nrd, List.getElem?_set_ne nmd, List.getElem?_set_ne nmr, drB, rowD, mapD]
  refine Thn_n ?_
  refine hK _ _ ?_
  clear hK K
  refine AW.cond_f rfl ?_
  refine AW.skip ?_
  refine Thn_n ?_
  refine hK _ _ ?_
  clear hK K
  refine AW.seq_k fun K hK => ?_
  refine AW.seq_k fun K hK => ?_
  refine AW.region (by decide) ?_
  simp only [push_cast, Nat.reduceAdd, Nat.reduceMul, Nat.reduceSub, Nat.reduceLeDiff, Nat.reduceLT, Nat.reduceEqDiff, Nat.reduceBEq, Nat.reduceBNe, Nat.reduceMod, Nat.reduceDiv, Int.reduceLE, Int.reduceLT, Int.reduceToNat, Int.reduceAdd, Int.reduceSub, Int.reduceMul, Int.reduceNeg, Int.reduceEq, Int.reduceBEq, Int.reduceBNe, ↓reduceIte, reduceCtorEq, String.reduceBNe, String.reduceEq, reduceDIte, Nat.reducePow, hrd, hrs, hrm, pD, pR, pM, gD, gR, gM, sD, sR, sM, aA, aS, aK, aT, List.set_set, List.length_set, List.getElem?_set_ne ndr, List.getElem?_set_ne ndm, List.getElem?_set_ne nrm, List.getElem?_set_ne nrd, List.getElem?_set_ne nmd, List.getElem?_set_ne nmr, drB, rowD, mapD]
  refine CThen.by (spend_no rd rs rm n D _ h.d hz) ?_
  simp only [push_cast, Nat.reduceAdd, Nat.reduceMul, Nat.reduceSub, Nat.reduceLeDiff, Nat.reduceLT, Nat.reduceEqDiff, Nat.reduceBEq, Nat.reduceBNe, Nat.reduceMod, Nat.reduceDiv, Int.reduceLE, Int.reduceLT, Int.reduceToNat, Int.reduceAdd, Int.reduceSub, Int.reduceMul, Int.reduceNeg, Int.reduceEq, Int.reduceBEq, Int.reduceBNe, ↓reduceIte, reduceCtorEq, String.reduceBNe, String.reduceEq, reduceDIte, Nat.reducePow, hrd, hrs, hrm, pD, pR, pM, gD, gR, gM, sD, sR, sM, aA, aS, aK, aT, List.set_set, List.length_set, List.getElem?_set_ne ndr, List.getElem?_set_ne ndm, List.getElem?_set_ne nrm, List.getElem?_set_ne nrd, List.getElem?_set_ne nmd, List.getElem?_set_ne nmr, drB, rowD, mapD]
  refine Thn_n ?_
  refine hK _ _ ?_
  clear hK K
  refine AW.cond_t rfl ?_
  refine AW.seq_k fun K hK => ?_
  refine AW.region (by decide) ?_
  simp only [push_cast, Nat.reduceAdd, Nat.reduceMul, Nat.reduceSub, Nat.reduceLeDiff, Nat.reduceLT, Nat.reduceEqDiff, Nat.reduceBEq, Nat.reduceBNe, Nat.reduceMod, Nat.reduceDiv, Int.reduceLE, Int.reduceLT, Int.reduceToNat, Int.reduceAdd, Int.reduceSub, Int.reduceMul, Int.reduceNeg, Int.reduceEq, Int.reduceBEq, Int.reduceBNe, ↓reduceIte, reduceCtorEq, String.reduceBNe, String.reduceEq, reduceDIte, Nat.reducePow, hrd, hrs, hrm, pD, pR, pM, gD, gR, gM, sD, sR, sM, aA, aS, aK, aT, List.set_set, List.length_set, List.getElem?_set_ne ndr, List.getElem?_set_ne ndm, List.getElem?_set_ne nrm, List.getElem?_set_ne nrd, List.getElem?_set_ne nmd, List.getElem?_set_ne nmr, drB, rowD, mapD]
  refine Thn_n ?_
  refine hK _ _ ?_
  clear hK K
  refine AW.ret ?_
  refine Thn_r ?_
  refine hQ _ _ _ ?_
  rw [e2] at hw2 ⊢
  first | refine RetP.dropM0 (by simp only [List.length_set]) (by first | exact Or.inr rfl | exact Or.inl rfl) ?_ ?_ hw2 | refine RetP.dropM (by simp only [List.length_set]) (by first | exact Or.inr rfl | exact Or.inl rfl) ?_ ?_ hw2
  · simp only [resA, resOne, resTv, AV.tv, push_cast, Nat.reduceAdd, Nat.reduceMul, Nat.reduceSub, Nat.reduceLeDiff, Nat.reduceLT, Nat.reduceEqDiff, Nat.reduceBEq, Nat.reduceBNe, Nat.reduceMod, Nat.reduceDiv, Int.reduceLE, Int.reduceLT, Int.reduceToNat, Int.reduceAdd, Int.reduceSub, Int.reduceMul, Int.reduceNeg, Int.reduceEq, Int.reduceBEq, Int.reduceBNe, ↓reduceIte, reduceCtorEq, String.reduceBNe, String.reduceEq, reduceDIte, Nat.reducePow]
  · rfl
theorem sy_ok (rd rs rm n : Nat) (D : DS) (m : AMem) (h : HasD m rd rs rm n D) (hd : D.down = false) (hwd : WfD n D) (hz : ¬ D.fuse = 0) : Ctr Try.prog 9 [.one (.ptr rd 0 0)] m (.one (.int .i64 0)) (setD m rd rs rm n (syD D)) := by
  refine Ctr.enter Try.func9 rfl (by decide) (rs := [.tmp 2]) (nt := 37) rfl rfl fun hwf Q hQ => ?_
  have hrd := h.d
  have hrs := h.r
  have hrm := h.m
  have ld := get_lt hrd
  have lr := get_lt hrs
  have lm := get_lt hrm
  have ndr : rd ≠ rs := h.dr
  have ndm : rd ≠ rm := h.dm
  have nrm : rs ≠ rm := h.rm
  have nrd := ndr.symm
  have nmd := ndm.symm
  have nmr := nrm.symm
  have oD := fun (L : AMem) => mk_olds (m := m) (l := m) rfl ld L
  have oR := fun (L : AMem) => mk_olds (m := m) (l := m) rfl lr L
  have oM := fun (L : AMem) => mk_olds (m := m) (l := m) rfl lm L
  have pD := fun (l L : AMem) (e : l.length = m.length) => mk_olds (m := m) (l := l) (r := rd) e ld L
  have pR := fun (l L : AMem) (e : l.length = m.length) => mk_olds (m := m) (l := l) (r := rs) e lr L
  have pM := fun (l L : AMem) (e : l.length = m.length) => mk_olds (m := m) (l := l) (r := rm) e lm L
  have gD := fun (l L : AMem) (e : l.length = m.length) => mk_old (m := m) (l := l) (r := rd) e ld L
  have gR := fun (l L : AMem) (e : l.length = m.length) => mk_old (m := m) (l := l) (r := rs) e lr L
  have gM := fun (l L : AMem) (e : l.length = m.length) => mk_old (m := m) (l := l) (r := rm) e lm L
  have sD := fun (l : AMem) (b : Blk) (e : l.length = m.length) => mk_self (m := m) (l := l) (r := rd) e ld b
  have sR := fun (l : AMem) (b : Blk) (e : l.length = m.length) => mk_self (m := m) (l := l) (r := rs) e lr b
  have sM := fun (l : AMem) (b : Blk) (e : l.length = m.length) => mk_self (m := m) (l := l) (r := rm) e lm b
  have aA := fun (l L : AMem) (e : l.length = m.length) => mk_lk0 (m := m) (l := l) e L
  have aK := fun (l L : AMem) (k : Nat) (e : l.length = m.length) => mk_lk (m := m) (l := l) e L k
  have aT := fun (l L : AMem) (k : Nat) (b : Blk) (e : l.length = m.length) => mk_set (m := m) (l := l) e L k b
  have aS := fun (l L : AMem) (b : Blk) (e : l.length = m.length) => mk_set0 (m := m) (l := l) e L b
  have hw2 : MWf m.length (setD m rd rs rm n (syD D)) := setD_wf hwf lr lm _
  have e2 := setD_three m rd rs rm n (syD D) _ _ _ rfl rfl rfl
  have e3 : drB rs rm n (syD D) = drB rs rm n (spD D) := rfl
  have e4 : mapD (syD D) = ⟨.map false true D.ck [], 55, 0, 0, []⟩ := by show (⟨.map false true (spD D).ck [], 55, 0, 0, []⟩ : Blk) = _; rw [spD_ck]
  have hold : ∀ e, e ∈ eL D.E → e.1 < D.ck := fun e he => by
    obtain ⟨e', h1, rfl⟩ := List.mem_map.1 he
    exact hwd.e.old e' h1
  refine AW.seq_k fun K hK => ?_
  refine AW.region (by decide) ?_
  simp only [push_cast, Nat.reduceAdd, Nat.reduceMul, Nat.reduceSub, Nat.reduceLeDiff, Nat.reduceLT, Nat.reduceEqDiff, Nat.reduceBEq, Nat.reduceBNe, Nat.reduceMod, Nat.reduceDiv, Int.reduceLE, Int.reduceLT, Int.reduceToNat, Int.reduceAdd, Int.reduceSub, Int.reduceMul, Int.reduceNeg, Int.reduceEq, Int.reduceBEq, Int.reduceBNe, ↓reduceIte, reduceCtorEq, String.reduceBNe, String.reduceEq, reduceDIte, Nat.reducePow, setMap, hrd, hrs, hrm, pD, pR, pM, gD, gR, gM, sD, sR, sM, aA, aS, aK, aT, List.set_set, List.length_set, List.getElem?_set_ne ndr, List.getElem?_set_ne ndm, List.getElem?_set_ne nrm, List.getElem?_set_ne nrd, List.getElem?_set_ne nmd, List.getElem?_set_ne nmr, drB, rowD, mapD]
  refine Thn_n ?_
  refine hK _ _ ?_
  clear hK K
  refine AW.seq_k fun K hK => ?_
  refine AW.seq_k fun K hK => ?_
  refine AW.region (by decide) ?_
  simp only [push_cast, Nat.reduceAdd, Nat.reduceMul, Nat.reduceSub, Nat.reduceLeDiff, Nat.reduceLT, Nat.reduceEqDiff, Nat.reduceBEq, Nat.reduceBNe, Nat.reduceMod, Nat.reduceDiv, Int.reduceLE, Int.reduceLT, Int.reduceToNat, Int.reduceAdd, Int.reduceSub, Int.reduceMul, Int.reduceNeg, Int.reduceEq, Int.reduceBEq, Int.reduceBNe, ↓reduceIte, reduceCtorEq, String.reduceBNe, String.reduceEq, reduceDIte, Nat.reducePow, setMap, hrd, hrs, hrm, pD, pR, pM, gD, gR, gM, sD, sR, sM, aA, aS, aK, aT, List.set_set, List.length_set, List.getElem?_set_ne ndr, List.getElem?_set_ne ndm, List.getElem?_set_ne nrm, List.getElem?_set_ne nrd, List.getElem?_set_ne nmd, List.getElem?_set_ne nmr, drB, rowD, mapD]
  refine CThen.by (up_ok rd rs rm n D _ h.d hd) ?_
  simp only [push_cast, Nat.reduceAdd, Nat.reduceMul, Nat.reduceSub, Nat.reduceLeDiff, Nat.reduceLT, Nat.reduceEqDiff, Nat.reduceBEq, Nat.reduceBNe, Nat.reduceMod, Nat.reduceDiv, Int.reduceLE, Int.reduceLT, Int.reduceToNat, Int.reduceAdd, Int.reduceSub, Int.reduceMul, Int.reduceNeg, Int.reduceEq, Int.reduceBEq, Int.reduceBNe, ↓reduceIte, reduceCtorEq, String.reduceBNe, String.reduceEq, reduceDIte, Nat.reducePow, setMap, hrd, hrs, hrm, pD, pR, pM, gD, gR, gM, sD, sR, sM, aA, aS, aK, aT, List.set_set, List.length_set, List.getElem?_set_ne ndr, List.getElem?_set_ne ndm, List.getElem?_set_ne nrm, List.getElem?_set_ne nrd, List.getElem?_set_ne nmd, List.getElem?_set_ne nmr, drB, rowD, mapD]
  refine Thn_n ?_
  refine hK _ _ ?_
  clear hK K
  refine AW.seq_k fun K hK => ?_
  refine AW.region (by decide) ?_
  simp only [push_cast, Nat.reduceAdd, Nat.reduceMul, Nat.reduceSub, Nat.reduceLeDiff, Nat.reduceLT, Nat.reduceEqDiff, Nat.reduceBEq, Nat.reduceBNe, Nat.reduceMod, Nat.reduceDiv, Int.reduceLE, Int.reduceLT, Int.reduceToNat, Int.reduceAdd, Int.reduceSub, Int.reduceMul, Int.reduceNeg, Int.reduceEq, Int.reduceBEq, Int.reduceBNe, ↓reduceIte, reduceCtorEq, String.reduceBNe, String.reduceEq, reduceDIte, Nat.reducePow, setMap, hrd, hrs, hrm, pD, pR, pM, gD, gR, gM, sD, sR, sM, aA, aS, aK, aT, List.set_set, List.length_set, List.getElem?_set_ne ndr, List.getElem?_set_ne ndm, List.getElem?_set_ne nrm, List.getElem?_set_ne nrd, List.getElem?_set_ne nmd, List.getElem?_set_ne nmr, drB, rowD, mapD]
  refine Thn_n ?_
  refine hK _ _ ?_
  clear hK K
  refine AW.cond_f rfl ?_
  refine AW.skip ?_
  refine Thn_n ?_
  refine hK _ _ ?_
  clear hK K
  refine AW.seq_k fun K hK => ?_
  refine AW.seq_k fun K hK => ?_
  refine AW.region (by decide) ?_
  simp only [push_cast, Nat.reduceAdd, Nat.reduceMul, Nat.reduceSub, Nat.reduceLeDiff, Nat.reduceLT, Nat.reduceEqDiff, Nat.reduceBEq, Nat.reduceBNe, Nat.reduceMod, Nat.reduceDiv, Int.reduceLE, Int.reduceLT, Int.reduceToNat, Int.reduceAdd, Int.reduceSub, Int.reduceMul, Int.reduceNeg, Int.reduceEq, Int.reduceBEq, Int.reduceBNe, ↓reduceIte, reduceCtorEq, String.reduceBNe, String.reduceEq, reduceDIte, Nat.reducePow, setMap, hrd, hrs, hrm, pD, pR, pM, gD, gR, gM, sD, sR, sM, aA, aS, aK, aT, List.set_set, List.length_set, List.getElem?_set_ne ndr, List.getElem?_set_ne ndm, List.getElem?_set_ne nrm, List.getElem?_set_ne nrd, List.getElem?_set_ne nmd, List.getElem?_set_ne nmr, drB, rowD, mapD]
  refine CThen.by (spend_go rd rs rm n D _ h.d hz) ?_
  simp only [push_cast, Nat.reduceAdd, Nat.reduceMul, Nat.reduceSub, Nat.reduceLeDiff, Nat.reduceLT, Nat.reduceEqDiff, Nat.reduceBEq, Nat.reduceBNe, Nat.reduceMod, Nat.reduceDiv, Int.reduceLE, Int.reduceLT, Int.reduceToNat, Int.reduceAdd, Int.reduceSub, Int.reduceMul, Int.reduceNeg, Int.reduceEq, Int.reduceBEq, Int.reduceBNe, ↓reduceIte, reduceCtorEq, String.reduceBNe, String.reduceEq, reduceDIte, Nat.reducePow, setMap, hrd, hrs, hrm, pD, pR, pM, gD, gR, gM, sD, sR, sM, aA, aS, aK, aT, List.set_set, List.length_set, List.getElem?_set_ne ndr, List.getElem?_set_ne ndm, List.getElem?_set_ne nrm, List.getElem?_set_ne nrd, List.getElem?_set_ne nmd, List.getElem?_set_ne nmr, drB, rowD, mapD]
  refine Thn_n ?_
  refine hK _ _ ?_
  clear hK K
  refine AW.cond_f rfl ?_
  refine AW.skip ?_
  refine Thn_n ?_
  refine hK _ _ ?_
  clear hK K
  refine AW.seq_k fun K hK => ?_
  refine AW.seq_k fun K hK => ?_
  refine AW.region (by decide) ?_
  simp only [push_cast, Nat.reduceAdd, Nat.reduceMul, Nat.reduceSub, Nat.reduceLeDiff, Nat.reduceLT, Nat.reduceEqDiff, Nat.reduceBEq, Nat.reduceBNe, Nat.reduceMod, Nat.reduceDiv, Int.reduceLE, Int.reduceLT, Int.reduceToNat, Int.reduceAdd, Int.reduceSub, Int.reduceMul, Int.reduceNeg, Int.reduceEq, Int.reduceBEq, Int.reduceBNe, ↓reduceIte, reduceCtorEq, String.reduceBNe, String.reduceEq, reduceDIte, Nat.reducePow, setMap, hrd, hrs, hrm, pD, pR, pM, gD, gR, gM, sD, sR, sM, aA, aS, aK, aT, List.set_set, List.length_set, List.getElem?_set_ne ndr, List.getElem?_set_ne ndm, List.getElem?_set_ne nrm, List.getElem?_set_ne nrd, List.getElem?_set_ne nmd, List.getElem?_set_ne nmr, drB, rowD, mapD]
  refine Thn_n ?_
  refine hK _ _ ?_
  clear hK K
  refine AW.block ?_
  refine AW.loopK [0, 20] (fun seen => SeenOk D.E seen) (fun seen => []) (fun seen => [(rs, ⟨.grow, 29, 0, 128, u8l (catB n (mixS D.S D.E seen))⟩), (m.length, ⟨.iter rm D.ck (seen) D.ck, 55, 0, 0, []⟩)]) (fun seen => D.E.length - seen.length) ([] : List Nat) (SeenOk.nil _) ?_ ?_ fun seen hi9 => ?_
  · first | rfl | (simp only [Keeps, Tm.get_cons, Nat.reduceEqDiff, ↓reduceIte, if_true, if_false, ite_true, ite_false, true_and, and_true, and_self, reduceCtorEq, mix_nil] <;> rfl)
  · simp only [setAll, mix_nil, push_cast, Nat.reduceAdd, Nat.reduceMul, Nat.reduceSub, Nat.reduceLeDiff, Nat.reduceLT, Nat.reduceEqDiff, Nat.reduceBEq, Nat.reduceBNe, Nat.reduceMod, Nat.reduceDiv, Int.reduceLE, Int.reduceLT, Int.reduceToNat, Int.reduceAdd, Int.reduceSub, Int.reduceMul, Int.reduceNeg, Int.reduceEq, Int.reduceBEq, Int.reduceBNe, ↓reduceIte, reduceCtorEq, String.reduceBNe, String.reduceEq, reduceDIte, Nat.reducePow, hrd, hrs, hrm, pD, pR, pM, gD, gR, gM, sD, sR, sM, aA, aS, aK, aT, List.set_set, List.length_set, List.getElem?_set_ne ndr, List.getElem?_set_ne ndm, List.getElem?_set_ne nrm, List.getElem?_set_ne nrd, List.getElem?_set_ne nmd, List.getElem?_set_ne nmr, drB, rowD, mapD]; rw [set_self (by rw [List.getElem?_set_ne ndr]; exact h.r)]
  have hseen := hi9
  try simp only [keepL, setAll, push_cast, Nat.reduceAdd, Nat.reduceMul, Nat.reduceSub, Nat.reduceLeDiff, Nat.reduceLT, Nat.reduceEqDiff, Nat.reduceBEq, Nat.reduceBNe, Nat.reduceMod, Nat.reduceDiv, Int.reduceLE, Int.reduceLT, Int.reduceToNat, Int.reduceAdd, Int.reduceSub, Int.reduceMul, Int.reduceNeg, Int.reduceEq, Int.reduceBEq, Int.reduceBNe, ↓reduceIte, reduceCtorEq, String.reduceBNe, String.reduceEq, reduceDIte, Nat.reducePow, setMap, hrd, hrs, hrm, pD, pR, pM, gD, gR, gM, sD, sR, sM, aA, aS, aK, aT, List.set_set, List.length_set, List.getElem?_set_ne ndr, List.getElem?_set_ne ndm, List.getElem?_set_ne nrm, List.getElem?_set_ne nrd, List.getElem?_set_ne nmd, List.getElem?_set_ne nmr, drB, rowD, mapD]
  refine AW.seq_k fun K hK => ?_
  refine AW.next m.length rm D.ck D.ck seen (ka := false) (va := true) (clock := D.ck) (es := eL D.E) (by decide) rfl (by simp only [push_cast, Nat.reduceAdd, Nat.reduceMul, Nat.reduceSub, Nat.reduceLeDiff, Nat.reduceLT, Nat.reduceEqDiff, Nat.reduceBEq, Nat.reduceBNe, Nat.reduceMod, Nat.reduceDiv, Int.reduceLE, Int.reduceLT, Int.reduceToNat, Int.reduceAdd, Int.reduceSub, Int.reduceMul, Int.reduceNeg, Int.reduceEq, Int.reduceBEq, Int.reduceBNe, ↓reduceIte, reduceCtorEq, String.reduceBNe, String.reduceEq, reduceDIte, Nat.reducePow, hrd, hrs, hrm, pD, pR, pM, gD, gR, gM, sD, sR, sM, aA, aS, aK, aT, List.set_set, List.length_set, List.getElem?_set_ne ndr, List.getElem?_set_ne ndm, List.getElem?_set_ne nrm, List.getElem?_set_ne nrd, List.getElem?_set_ne nmd, List.getElem?_set_ne nmr, drB, rowD, mapD]) (ity := 55) (iesz := 0) (by simp only [push_cast, Nat.reduceAdd, Nat.reduceMul, Nat.reduceSub, Nat.reduceLeDiff, Nat.reduceLT, Nat.reduceEqDiff, Nat.reduceBEq, Nat.reduceBNe, Nat.reduceMod, Nat.reduceDiv, Int.reduceLE, Int.reduceLT, Int.reduceToNat, Int.reduceAdd, Int.reduceSub, Int.reduceMul, Int.reduceNeg, Int.reduceEq, Int.reduceBEq, Int.reduceBNe, ↓reduceIte, reduceCtorEq, String.reduceBNe, String.reduceEq, reduceDIte, Nat.reducePow, hrd, hrs, hrm, pD, pR, pM, gD, gR, gM, sD, sR, sM, aA, aS, aK, aT, List.set_set, List.length_set, List.getElem?_set_ne ndr, List.getElem?_set_ne ndm, List.getElem?_set_ne nrm, List.getElem?_set_ne nrd, List.getElem?_set_ne nmd, List.getElem?_set_ne nmr, drB, rowD, mapD]) (by simp only [push_cast, Nat.reduceAdd, Nat.reduceMul, Nat.reduceSub, Nat.reduceLeDiff, Nat.reduceLT, Nat.reduceEqDiff, Nat.reduceBEq, Nat.reduceBNe, Nat.reduceMod, Nat.reduceDiv, Int.reduceLE, Int.reduceLT, Int.reduceToNat, Int.reduceAdd, Int.reduceSub, Int.reduceMul, Int.reduceNeg, Int.reduceEq, Int.reduceBEq, Int.reduceBNe, ↓reduceIte, reduceCtorEq, String.reduceBNe, String.reduceEq, reduceDIte, Nat.reducePow, hrd, hrs, hrm, pD, pR, pM, gD, gR, gM, sD, sR, sM, aA, aS, aK, aT, List.set_set, List.length_set, List.getElem?_set_ne ndr, List.getElem?_set_ne ndm, List.getElem?_set_ne nrm, List.getElem?_set_ne nrd, List.getElem?_set_ne nmd, List.getElem?_set_ne nmr, drB, rowD, mapD]) hold (Nat.le_refl _) (fun j e hj hnew => ?_) (fun hall => ?_)
  · obtain ⟨⟨b, k, v⟩, hj', rfl⟩ := eL_mem hj
    have hme := List.mem_of_getElem? hj'
    have hnb : b ∉ seen := hnew
    have hadd := hseen.add hme hnb
    have hlt := hseen.lt hme hnb
    have hfd := eL_find hwd.e.borns hme
    have hw128 := hwd.e.len _ hme
    have hkey := hwd.e.key _ hme
    dsimp only at hw128 hkey
    have g5 : (u8l v).length = 128 := by rw [u8l_len]; exact hw128
    have g6 : (u8l v).take 128 = u8l v := List.take_of_length_le (by omega)
    have g7 := u8l_vals v
    have g8 : setL [.int .u8 0, .int .u8 0, .int .u8 0, .int .u8 0, .int .u8 0, .int .u8 0, .int .u8 0, .int .u8 0, .int .u8 0, .int .u8 0, .int .u8 0, .int .u8 0, .int .u8 0, .int .u8 0, .int .u8 0, .int .u8 0, .int .u8 0, .int .u8 0, .int .u8 0, .int .u8 0, .int .u8 0, .int .u8 0, .int .u8 0, .int .u8 0, .int .u8 0, .int .u8 0, .int .u8 0, .int .u8 0, .int .u8 0, .int .u8 0, .int .u8 0, .int .u8 0, .int .u8 0, .int .u8 0, .int .u8 0, .int .u8 0, .int .u8 0, .int .u8 0, .int .u8 0, .int .u8 0, .int .u8 0, .int .u8 0, .int .u8 0, .int .u8 0, .int .u8 0, .int .u8 0, .int .u8 0, .int .u8 0, .int .u8 0, .int .u8 0, .int .u8 0, .int .u8 0, .int .u8 0, .int .u8 0, .int .u8 0, .int .u8 0, .int .u8 0, .int .u8 0, .int .u8 0, .int .u8 0, .int .u8 0, .int .u8 0, .int .u8 0, .int .u8 0, .int .u8 0, .int .u8 0, .int .u8 0, .int .u8 0, .int .u8 0, .int .u8 0, .int .u8 0, .int .u8 0, .int .u8 0, .int .u8 0, .int .u8 0, .int .u8 0, .int .u8 0, .int .u8 0, .int .u8 0, .int .u8 0, .int .u8 0, .int .u8 0, .int .u8 0, .int .u8 0, .int .u8 0, .int .u8 0, .int .u8 0, .int .u8 0, .int .u8 0, .int .u8 0, .int .u8 0, .int .u8 0, .int .u8 0, .int .u8 0, .int .u8 0, .int .u8 0, .int .u8 0, .int .u8 0, .int .u8 0, .int .u8 0, .int .u8 0, .int .u8 0, .int .u8 0, .int .u8 0, .int .u8 0, .int .u8 0, .int .u8 0, .int .u8 0, .int .u8 0, .int .u8 0, .int .u8 0, .int .u8 0, .int .u8 0, .int .u8 0, .int .u8 0, .int .u8 0, .int .u8 0, .int .u8 0, .int .u8 0, .int .u8 0, .int .u8 0, .int .u8 0, .int .u8 0, .int .u8 0, .int .u8 0, .int .u8 0, .int .u8 0, .int .u8 0] 0 (u8l v) = u8l v := setL_all (by rw [g5]; rfl)
    obtain ⟨kk, hkk⟩ : ∃ kk : Nat, (kk : Int) = k := ⟨k.toNat, by omega⟩
    subst hkk
    have p1 : (0 : Int) ≤ (kk : Int) := hkey.1
    have p2 : (kk : Int) < (n : Int) := hkey.2
    have p4 : kk * 128 + 128 ≤ n * 128 := by omega
    have hcl : (u8l (catB n (mixS D.S D.E seen))).length = n * 128 := by rw [u8l_len, catB_len (mix_len hwd.s hwd.e seen)]
    have hcs := catB_set (mix_len hwd.s hwd.e seen) (show kk < n by omega) hw128
    have hma := mix_add (S := D.S) hwd.e (seen := seen) hme
    have hgl := getLast_app seen b
    simp only [push_cast, Nat.reduceAdd, Nat.reduceMul, Nat.reduceSub, Nat.reduceLeDiff, Nat.reduceLT, Nat.reduceEqDiff, Nat.reduceBEq, Nat.reduceBNe, Nat.reduceMod, Nat.reduceDiv, Int.reduceLE, Int.reduceLT, Int.reduceToNat, Int.reduceAdd, Int.reduceSub, Int.reduceMul, Int.reduceNeg, Int.reduceEq, Int.reduceBEq, Int.reduceBNe, ↓reduceIte, reduceCtorEq, String.reduceBNe, String.reduceEq, reduceDIte, Nat.reducePow, setMap, hrd, hrs, hrm, pD, pR, pM, gD, gR, gM, sD, sR, sM, aA, aS, aK, aT, List.set_set, List.length_set, List.getElem?_set_ne ndr, List.getElem?_set_ne ndm, List.getElem?_set_ne nrm, List.getElem?_set_ne nrd, List.getElem?_set_ne nmd, List.getElem?_set_ne nmr, drB, rowD, mapD, eC, hfd, hgl, g5, g6, g7, g8, p1, p2, p4, hcl, hcs, Nat.le_refl]
    refine Thn_n ?_
    refine hK _ _ ?_
    clear hK K
    refine AW.seq_k fun K hK => ?_
    refine AW.cond_t rfl ?_
    refine AW.skip ?_
    refine Thn_n ?_
    refine hK _ _ ?_
    clear hK K
    refine AW.block ?_
    refine AW.seq_k fun K hK => ?_
    refine AW.region (by decide) ?_
    simp only [push_cast, Nat.reduceAdd, Nat.reduceMul, Nat.reduceSub, Nat.reduceLeDiff, Nat.reduceLT, Nat.reduceEqDiff, Nat.reduceBEq, Nat.reduceBNe, Nat.reduceMod, Nat.reduceDiv, Int.reduceLE, Int.reduceLT, Int.reduceToNat, Int.reduceAdd, Int.reduceSub, Int.reduceMul, Int.reduceNeg, Int.reduceEq, Int.reduceBEq, Int.reduceBNe, ↓reduceIte, reduceCtorEq, String.reduceBNe, String.reduceEq, reduceDIte, Nat.reducePow, setMap, hrd, hrs, hrm, pD, pR, pM, gD, gR, gM, sD, sR, sM, aA, aS, aK, aT, List.set_set, List.length_set, List.getElem?_set_ne ndr, List.getElem?_set_ne ndm, List.getElem?_set_ne nrm, List.getElem?_set_ne nrd, List.getElem?_set_ne nmd, List.getElem?_set_ne nmr, drB, rowD, mapD, eC, hfd, hgl, g5, g6, g7, g8, p1, p2, p4, hcl, hcs, Nat.le_refl]
    refine Thn_n ?_
    refine hK _ _ ?_
    clear hK K
    refine AW.draw [.val, .val, .val, .rd 0, .val, .rd 0, .val, .wr] fol (by decide) (by kernel_rfl) ?_
    simp only [push_cast, Nat.reduceAdd, Nat.reduceMul, Nat.reduceSub, Nat.reduceLeDiff, Nat.reduceLT, Nat.reduceEqDiff, Nat.reduceBEq, Nat.reduceBNe, Nat.reduceMod, Nat.reduceDiv, Int.reduceLE, Int.reduceLT, Int.reduceToNat, Int.reduceAdd, Int.reduceSub, Int.reduceMul, Int.reduceNeg, Int.reduceEq, Int.reduceBEq, Int.reduceBNe, ↓reduceIte, reduceCtorEq, String.reduceBNe, String.reduceEq, reduceDIte, Nat.reducePow, setMap, hrd, hrs, hrm, pD, pR, pM, gD, gR, gM, sD, sR, sM, aA, aS, aK, aT, List.set_set, List.length_set, List.getElem?_set_ne ndr, List.getElem?_set_ne ndm, List.getElem?_set_ne nrm, List.getElem?_set_ne nrd, List.getElem?_set_ne nmd, List.getElem?_set_ne nmr, drB, rowD, mapD, eC, hfd, hgl, g5, g6, g7, g8, p1, p2, p4, hcl, hcs, Nat.le_refl]
    refine InB_n ?_
    refine Thn_n ?_
    refine ⟨seen ++ [b], hadd, hlt, ?_⟩
    try simp only [keepL, setAll, push_cast, Nat.reduceAdd, Nat.reduceMul, Nat.reduceSub, Nat.reduceLeDiff, Nat.reduceLT, Nat.reduceEqDiff, Nat.reduceBEq, Nat.reduceBNe, Nat.reduceMod, Nat.reduceDiv, Int.reduceLE, Int.reduceLT, Int.reduceToNat, Int.reduceAdd, Int.reduceSub, Int.reduceMul, Int.reduceNeg, Int.reduceEq, Int.reduceBEq, Int.reduceBNe, ↓reduceIte, reduceCtorEq, String.reduceBNe, String.reduceEq, reduceDIte, Nat.reducePow, setMap, hrd, hrs, hrm, pD, pR, pM, gD, gR, gM, sD, sR, sM, aA, aS, aK, aT, List.set_set, List.length_set, List.getElem?_set_ne ndr, List.getElem?_set_ne ndm, List.getElem?_set_ne nrm, List.getElem?_set_ne nrd, List.getElem?_set_ne nmd, List.getElem?_set_ne nmr, drB, rowD, mapD, eC, hfd, hgl, g5, g6, g7, g8, p1, p2, p4, hcl, hcs, Nat.le_refl, hma]
    exact Weak.to (extra := [_]) (by simp only [Keeps, Tm.get_cons, Nat.reduceEqDiff, ↓reduceIte, if_true, if_false, ite_true, ite_false, true_and, and_true, and_self, reduceCtorEq, hma]) (by first | rfl | (simp only [List.append_assoc, List.cons_append, List.nil_append]; rfl)) (by first | rfl | (simp [AV.below, CV.below]; done) | (simp [AV.below, CV.below]; omega)) (by
      have q1 : rs < m.length + 1 := by omega
      have q2 : rm < m.length + 1 := by omega
      simp only [List.length_append, List.length_set, List.length_cons, List.length_nil, Nat.zero_add]
      refine MWf.app (MWf_setB (MWf_setB (hwf.grow (by omega)) ?_ rfl) (u8l_below _ _) rfl) (fun x hx => ?_)
      · simp only [List.all_cons, List.all_nil, CV.below, decide_eq_true q1, decide_eq_true q2, Bool.and_true]
      · obtain rfl := List.mem_singleton.1 hx
        exact blk_below (decide_eq_true q2) rfl)
  · have hmx : mixS D.S D.E seen = vis D.S D.E := mix_all fun e he => hall _ (List.mem_map_of_mem (f := eC) he)
    simp only [push_cast, Nat.reduceAdd, Nat.reduceMul, Nat.reduceSub, Nat.reduceLeDiff, Nat.reduceLT, Nat.reduceEqDiff, Nat.reduceBEq, Nat.reduceBNe, Nat.reduceMod, Nat.reduceDiv, Int.reduceLE, Int.reduceLT, Int.reduceToNat, Int.reduceAdd, Int.reduceSub, Int.reduceMul, Int.reduceNeg, Int.reduceEq, Int.reduceBEq, Int.reduceBNe, ↓reduceIte, reduceCtorEq, String.reduceBNe, String.reduceEq, reduceDIte, Nat.reducePow, setMap, hrd, hrs, hrm, pD, pR, pM, gD, gR, gM, sD, sR, sM, aA, aS, aK, aT, List.set_set, List.length_set, List.getElem?_set_ne ndr, List.getElem?_set_ne ndm, List.getElem?_set_ne nrm, List.getElem?_set_ne nrd, List.getElem?_set_ne nmd, List.getElem?_set_ne nmr, drB, rowD, mapD, hmx]
    refine Thn_n ?_
    refine hK _ _ ?_
    clear hK K
    refine AW.seq_k fun K hK => ?_
    refine AW.cond_f rfl ?_
    refine AW.exit ?_
    refine Thn_e ?_
    clear hK K
    refine Thn_e ?_
    refine InB_here ?_
    iterate 2
      refine Thn_n ?_
      refine hK _ _ ?_
      clear hK K
      refine AW.seq_k fun K hK => ?_
      refine AW.region (by decide) ?_
      simp only [push_cast, Nat.reduceAdd, Nat.reduceMul, Nat.reduceSub, Nat.reduceLeDiff, Nat.reduceLT, Nat.reduceEqDiff, Nat.reduceBEq, Nat.reduceBNe, Nat.reduceMod, Nat.reduceDiv, Int.reduceLE, Int.reduceLT, Int.reduceToNat, Int.reduceAdd, Int.reduceSub, Int.reduceMul, Int.reduceNeg, Int.reduceEq, Int.reduceBEq, Int.reduceBNe, ↓reduceIte, reduceCtorEq, String.reduceBNe, String.reduceEq, reduceDIte, Nat.reducePow, setMap, hrd, hrs, hrm, pD, pR, pM, gD, gR, gM, sD, sR, sM, aA, aS, aK, aT, List.set_set, List.length_set, List.getElem?_set_ne ndr, List.getElem?_set_ne ndm, List.getElem?_set_ne nrm, List.getElem?_set_ne nrd, List.getElem?_set_ne nmd, List.getElem?_set_ne nmr, drB, rowD, mapD, hmx]
    refine Thn_n ?_
    refine hK _ _ ?_
    clear hK K
    refine AW.ret ?_
    refine hQ _ _ _ ?_
    rw [e2, e3, e4] at hw2 ⊢
    first | refine RetP.dropM0 (by simp only [List.length_set]) (by first | exact Or.inr rfl | exact Or.inl rfl) ?_ ?_ hw2 | refine RetP.dropM (by simp only [List.length_set]) (by first | exact Or.inr rfl | exact Or.inl rfl) ?_ ?_ hw2
    · simp only [resA, resOne, resTv, AV.tv, push_cast, Nat.reduceAdd, Nat.reduceMul, Nat.reduceSub, Nat.reduceLeDiff, Nat.reduceLT, Nat.reduceEqDiff, Nat.reduceBEq, Nat.reduceBNe, Nat.reduceMod, Nat.reduceDiv, Int.reduceLE, Int.reduceLT, Int.reduceToNat, Int.reduceAdd, Int.reduceSub, Int.reduceMul, Int.reduceNeg, Int.reduceEq, Int.reduceBEq, Int.reduceBNe, ↓reduceIte, reduceCtorEq, String.reduceBNe, String.reduceEq, reduceDIte, Nat.reducePow]
    · rfl
end Go.Proofs.Ytcahlnddcjifdaa

set_option linter.unusedSimpArgs false
set_option linter.unusedVariables false
set_option maxRecDepth 100000
set_option maxHeartbeats 4000000
namespace Go.Proofs.Ytcahlnddcjifdaa
open Go Go.Eng

def pls_awake_c : Nat → Nat → List Plan := fun f r =>
  match f with
  | 8 => match r with
    | 6 => [.val, .val, .val, .rd 0, .val, .rd 0, .wr]
    | _ => []
  | 11 => match r with
    | 8 => [.val, .val, .val, .rd 0, .val, .rd 0, .val, .wr]
    | _ => []
  | _ => []

theorem awake_c (m : AMem) : Ctr Try.prog 7 [] m (.one (.bool true)) m :=
  Ctr.run pls_awake_c 200 40 fol (by kernel_rfl) (by simp) rfl m
end Go.Proofs.Ytcahlnddcjifdaa

set_option linter.unusedSimpArgs false
set_option linter.unusedVariables false
set_option maxRecDepth 100000
set_option maxHeartbeats 4000000
namespace Go.Proofs.Ytcahlnddcjifdaa
open Go Go.Eng

theorem alloc30 (mem : AMem) : allocA Try.prog 30 mem = some (.one (.ptr mem.length 0 0), mem ++ [⟨.fix, 30, 0, 0, u8l (catB 6 D0.S)⟩]) := by
  unfold allocA; rw [zr30]; rfl
def opZ : List CV := .int .i64 0 :: .int .i64 0 :: .int .i64 0 :: (u8l zB ++ [.nils])
theorem alloc33 (mem : AMem) : allocA Try.prog 33 mem = some (.one (.ptr mem.length 0 0), mem ++ [⟨.fix, 33, 0, 0, opZ⟩]) := by
  unfold allocA; rw [zr33]; rfl
/-- A step, as it comes in. -/
def opC (kd ax nx : Int) (b : List Int) (rk kn : Nat) : List CV := .int .i64 kd :: .int .i64 ax :: .int .i64 nx :: (u8l b ++ [.sl rk 0 0 kn])
theorem opC_len {kd ax nx : Int} {b : List Int} {rk kn : Nat} (hb : b.length = 128) : (opC kd ax nx b rk kn).length = 132 := by simp [opC, u8l_len, hb]
theorem opC_vals (kd ax nx : Int) (b : List Int) (rk kn : Nat) : (opC kd ax nx b rk kn).all CV.isVal = true := by
  simp only [opC, List.all_cons, List.all_append, u8l_vals, List.all_nil, CV.isVal]; rfl
theorem opC_b {kd ax nx : Int} {b : List Int} {rk kn : Nat} (hb : b.length = 128) : ((opC kd ax nx b rk kn).drop 3).take 128 = u8l b := by
  simp only [opC, List.drop_succ_cons, List.drop_zero]
  rw [List.take_left' (by rw [u8l_len, hb])]
theorem opC_k {kd ax nx : Int} {b : List Int} {rk kn : Nat} (hb : b.length = 128) : (opC kd ax nx b rk kn)[131]? = some (.sl rk 0 0 kn) := by
  simp only [opC, List.getElem?_cons_succ]
  rw [List.getElem?_append_right (by rw [u8l_len, hb]; decide), u8l_len, hb]; rfl
theorem hasD_cat {n : Nat} {D : DS} {m L : AMem} : HasD (m ++ (rowD n D :: mapD D :: drB m.length (m.length + 1) n D :: L)) (m.length + 2) m.length (m.length + 1) n D :=
  ⟨by rw [lk_app]; rfl, by rw [lk_app0]; rfl, by rw [lk_app]; rfl⟩
theorem setD_cat {n : Nat} {D D' : DS} {m L : AMem} : setD (m ++ (rowD n D :: mapD D :: drB m.length (m.length + 1) n D :: L)) (m.length + 2) m.length (m.length + 1) n D' = m ++ (rowD n D' :: mapD D' :: drB m.length (m.length + 1) n D' :: L) := by
  unfold setD
  rw [set_app, set_app0, set_app]; rfl
theorem eqp_n (d : Nat) (xs ys : List Int) (h : xs.length = ys.length) : ∀ l : List Nat, (∀ i, i ∈ l → i < xs.length) → eqParts Try.prog (eqV Try.prog (d + 1)) (u8l xs) (u8l ys) (l.map fun i => (5, i)) = some (l.all fun i => byB xs i == byB ys i)
  | [], _ => rfl
  | i :: l, hl => by
    have hi := hl i List.mem_cons_self
    have ih := eqp_n d xs ys h l fun j hj => hl j (List.mem_cons_of_mem _ hj)
    have hg := u8l_get hi
    have hg2 := u8l_get (bs := ys) (i := i) (by omega)
    simp only [List.map_cons, eqParts, ih]
    simp only [push_cast, simprocAttr, hg, hg2, Option.map_some, List.all_cons]
theorem eqp128 {xs ys : List Int} (h : xs.length = 128) (h2 : ys.length = 128) : eqParts Try.prog (eqV Try.prog 9999) (u8l xs) (u8l ys) (List.map (fun i => (5, i)) (List.range' 0 128)) = some (decide (xs = ys)) := by
  rw [eqp_n 9998 xs ys (by omega) _ fun i hi => by rw [h]; simp [List.mem_range'] at hi; omega]
  congr 1
  rw [Bool.eq_iff_iff, List.all_eq_true, decide_eq_true_iff]
  constructor
  · intro hall
    refine List.ext_getElem (by omega) fun i h1 h3 => ?_
    have := hall i (by simp [List.mem_range']; omega)
    simp only [beq_iff_eq, byB, List.getD_eq_getElem?_getD, List.getElem?_eq_getElem h1, List.getElem?_eq_getElem h3, Option.getD_some] at this
    exact this
  · rintro rfl i _; simp
theorem wrD_S (D : DS) (k : Int) (v : List Int) : (wrD D k v).S = D.S := spD_S D
theorem wrD_vis (D : DS) (k : Nat) (v : List Int) : vis (wrD D (k : Int) v).S (wrD D (k : Int) v).E = updS (vis D.S D.E) k v := by
  rw [wrD_S]; exact vis_up D.S D.E D.ck
theorem wrD_vis2 (D : DS) (k : Nat) (v : List Int) : vis D.S (wrD D (k : Int) v).E = updS (vis D.S D.E) k v := vis_up D.S D.E D.ck
theorem crD_vis2 (S : Nat → List Int) (D : DS) (ks : Nat → Int) (kn : Nat) : vis S (crD D ks kn).E = S := rfl
theorem syD_vis2 (S : Nat → List Int) (D : DS) : vis S (syD D).E = S := rfl
theorem syD_S (D : DS) : (syD D).S = vis D.S D.E := rfl
theorem syD_vis (D : DS) : vis (syD D).S (syD D).E = vis D.S D.E := rfl
theorem fuD_S (D : DS) (x : Int) : (fuD D x).S = D.S := rfl
theorem fuD_E (D : DS) (x : Int) : (fuD D x).E = D.E := rfl
theorem fuD_wf {n : Nat} {D : DS} (h : WfD n D) (x : Int) : WfD n (fuD D x) := ⟨h.s, h.e⟩
theorem crD_vis (D : DS) (ks : Nat → Int) (kn : Nat) : vis (crD D ks kn).S (crD D ks kn).E = (crD D ks kn).S := rfl
theorem dr_wf {m : AMem} {n : Nat} {D : DS} (hwf : MWf m.length m) (L : AMem) (hL : MWf (m.length + 3 + L.length) L) : MWf (m ++ (rowD n D :: mapD D :: drB m.length (m.length + 1) n D :: L)).length (m ++ (rowD n D :: mapD D :: drB m.length (m.length + 1) n D :: L)) := by
  have e : (m ++ (rowD n D :: mapD D :: drB m.length (m.length + 1) n D :: L)).length = m.length + 3 + L.length := by simp only [List.length_append, List.length_cons]; omega
  rw [e]
  have q1 : m.length < m.length + 3 + L.length := by omega
  have q2 : m.length + 1 < m.length + 3 + L.length := by omega
  refine MWf.app (hwf.grow (by omega)) (MWf_cons (u8l_below _ _) (MWf_cons rfl (MWf_cons ?_ hL) (eL_below _ _ _)))
  simp only [drB, List.all_cons, List.all_nil, CV.below, decide_eq_true q1, decide_eq_true q2, Bool.and_true]
theorem opC_below {kd ax nx : Int} {b : List Int} {rk kn l : Nat} (h : rk < l) : (opC kd ax nx b rk kn).all (CV.below l) = true := by
  simp only [opC, List.all_cons, List.all_append, List.all_nil, u8l_below, CV.below, decide_eq_true h, Bool.and_true]
/-- Two rows of blocks, the first so many of the one. -/
def mixK (A B : Nat → List Int) (k : Nat) : Nat → List Int := fun i => if i < k then A i else B i
theorem mixK_0 (A B : Nat → List Int) : mixK A B 0 = B := by funext i; unfold mixK; rw [if_neg (by omega)]
theorem mixK_at (A B : Nat → List Int) (k : Nat) : mixK A B k k = B k := by unfold mixK; rw [if_neg (by omega)]
theorem mixK_set (A B : Nat → List Int) (k : Nat) : updS (mixK A B k) k (A k) = mixK A B (k + 1) := by
  funext i; unfold updS mixK
  by_cases h : i = k
  · subst h; rw [if_pos rfl, if_pos (by omega)]
  · rw [if_neg h]
    by_cases h2 : i < k
    · rw [if_pos h2, if_pos (by omega)]
    · rw [if_neg h2, if_neg (by omega)]
theorem mixK_all (A B : Nat → List Int) (n : Nat) : catB n (mixK A B n) = catB n A := catB_congr fun k hk => by unfold mixK; rw [if_pos hk]
theorem mixK_len {A B : Nat → List Int} (hA : L128 A) (hB : L128 B) (k : Nat) : L128 (mixK A B k) := fun i => by
  unfold mixK; split
  · exact hA i
  · exact hB i
structure OpsAt (m : AMem) (r n : Nat) (kd ax nx : Nat → Int) (b : Nat → List Int) (rk kn : Nat → Nat) (ks : Nat → Nat → Int) : Prop where
  row : ∃ cells, m[r]? = some ⟨.ro, 33, 0, 132, cells⟩ ∧ cells.length = n * 132 ∧ ∀ i, i < n → (cells.drop (i * 132)).take 132 = opC (kd i) (ax i) (nx i) (b i) (rk i) (kn i)
  len : ∀ i, i < n → (b i).length = 128
  keep : ∀ i, i < n → m[rk i]? = some ⟨.ro, 3, 0, 1, il (kn i) (ks i)⟩
end Go.Proofs.Ytcahlnddcjifdaa
