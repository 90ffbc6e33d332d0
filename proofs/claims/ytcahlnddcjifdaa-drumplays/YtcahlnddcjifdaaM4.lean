/- Walks and facts of this seat's program over abstract states, printed by programs of mine; no conditions but those that each theorem names. -/
import Derived.Test.YtcahlnddcjifdaaM3
import Derived.Laws.Externs
import Derived.Sort.Row
import Derived.Sort.Grow
import Derived.Lib.SlKeysI
import Derived.WideShapes
import Derived.Maps.Own
import Derived.Shelf.Small.Bits
import Derived.Shelf.Strconv.Itoa0
import Derived.Shelf.Sort.Plain
import Derived.Ground.Names2Prog
import Derived.Shelf.Slices.SearchI
import Derived.Shelf.Slices.In.SortNone
import Derived.Shelf.SlGeneric
import Derived.Shelf.SlIterI.Sorted
import Derived.Shelf.SlIterI.Nil
import Derived.Ground.GgzProg
set_option linter.unusedSimpArgs false
set_option linter.unusedVariables false
set_option maxRecDepth 100000
set_option maxHeartbeats 4000000
namespace Go.Proofs.Ytcahlnddcjifdaa
open Go Go.Eng

theorem spD_S (D : DS) : (spD D).S = D.S := by unfold spD; split <;> rfl
theorem spD_E (D : DS) : (spD D).E = D.E := by unfold spD; split <;> rfl
theorem spD_ck (D : DS) : (spD D).ck = D.ck := by unfold spD; split <;> rfl
theorem spD_down {D : DS} (h : ¬ D.fuse = 0) : (spD D).down = D.down := by unfold spD; rw [if_neg h]
theorem spD_wf {n : Nat} {D : DS} (h : WfD n D) : WfD n (spD D) := ⟨by rw [spD_S]; exact h.s, by rw [spD_E, spD_ck]; exact h.e⟩
def wrD (D : DS) (k : Int) (v : List Int) : DS := { spD D with E := upE D.ck k v D.E, ck := upC D.ck k D.E }
theorem wrD_wf {n : Nat} {D : DS} (h : WfD n D) {k : Int} {v : List Int} (h0 : 0 ≤ k) (hn : k < (n : Int)) (hv : v.length = 128) : WfD n (wrD D k v) := ⟨by show L128 (spD D).S; rw [spD_S]; exact h.s, h.e.up h0 hn hv⟩
theorem setD_dm {m : AMem} {rd rs rm n : Nat} {D : DS} (h : HasD m rd rs rm n D) (D' : DS) (hS : D'.S = D.S) : setD m rd rs rm n D' = (m.set rd (drB rs rm n D')).set rm (mapD D') := by
  unfold setD
  have e : rowD n D' = rowD n D := by unfold rowD; rw [hS]
  rw [set_self (l := m.set rd _) (by rw [List.getElem?_set_ne h.dr, e]; exact h.r)]
theorem setD_d {m : AMem} {rd rs rm n : Nat} {D : DS} (h : HasD m rd rs rm n D) (D' : DS) (hS : D'.S = D.S) (hE : D'.E = D.E) (hc : D'.ck = D.ck) : setD m rd rs rm n D' = m.set rd (drB rs rm n D') := by
  rw [setD_dm h D' hS]
  have e : mapD D' = mapD D := by unfold mapD; rw [hE, hc]
  rw [set_self (l := m.set rd _) (by rw [List.getElem?_set_ne h.dm, e]; exact h.m)]
theorem wr_nil (x : Int) (v : List Int) (m : AMem) : Ctr Try.prog 8 [.one .nilp, .one (.int .i64 x), .agg (u8l v)] m (.one (.int .i64 2)) m := by
  refine Ctr.enter Try.func8 rfl (by decide) (rs := [.tmp 6]) (nt := 25) rfl rfl fun hwf Q hQ => ?_
  refine AW.seq_k fun K hK => ?_
  refine AW.region (by decide) ?_
  simp only [push_cast, Nat.reduceAdd, Nat.reduceMul, Nat.reduceSub, Nat.reduceLeDiff, Nat.reduceLT, Nat.reduceEqDiff, Nat.reduceBEq, Nat.reduceBNe, Nat.reduceMod, Nat.reduceDiv, Int.reduceLE, Int.reduceLT, Int.reduceToNat, Int.reduceAdd, Int.reduceSub, Int.reduceMul, Int.reduceNeg, Int.reduceEq, Int.reduceBEq, Int.reduceBNe, ↓reduceIte, reduceCtorEq, String.reduceBNe, String.reduceEq, reduceDIte, Nat.reducePow]
  refine Thn_n ?_
  refine hK _ _ ?_
  clear hK K
  refine AW.seq_k fun K hK => ?_
  refine AW.seq_k fun K hK => ?_
  refine AW.region (by decide) ?_
  simp only [push_cast, Nat.reduceAdd, Nat.reduceMul, Nat.reduceSub, Nat.reduceLeDiff, Nat.reduceLT, Nat.reduceEqDiff, Nat.reduceBEq, Nat.reduceBNe, Nat.reduceMod, Nat.reduceDiv, Int.reduceLE, Int.reduceLT, Int.reduceToNat, Int.reduceAdd, Int.reduceSub, Int.reduceMul, Int.reduceNeg, Int.reduceEq, Int.reduceBEq, Int.reduceBNe, ↓reduceIte, reduceCtorEq, String.reduceBNe, String.reduceEq, reduceDIte, Nat.reducePow]
  refine CThen.by (in_nil x _) ?_
  simp only [push_cast, Nat.reduceAdd, Nat.reduceMul, Nat.reduceSub, Nat.reduceLeDiff, Nat.reduceLT, Nat.reduceEqDiff, Nat.reduceBEq, Nat.reduceBNe, Nat.reduceMod, Nat.reduceDiv, Int.reduceLE, Int.reduceLT, Int.reduceToNat, Int.reduceAdd, Int.reduceSub, Int.reduceMul, Int.reduceNeg, Int.reduceEq, Int.reduceBEq, Int.reduceBNe, ↓reduceIte, reduceCtorEq, String.reduceBNe, String.reduceEq, reduceDIte, Nat.reducePow]
  refine Thn_n ?_
  refine hK _ _ ?_
  clear hK K
  refine AW.seq_k fun K hK => ?_
  refine AW.region (by decide) ?_
  simp only [push_cast, Nat.reduceAdd, Nat.reduceMul, Nat.reduceSub, Nat.reduceLeDiff, Nat.reduceLT, Nat.reduceEqDiff, Nat.reduceBEq, Nat.reduceBNe, Nat.reduceMod, Nat.reduceDiv, Int.reduceLE, Int.reduceLT, Int.reduceToNat, Int.reduceAdd, Int.reduceSub, Int.reduceMul, Int.reduceNeg, Int.reduceEq, Int.reduceBEq, Int.reduceBNe, ↓reduceIte, reduceCtorEq, String.reduceBNe, String.reduceEq, reduceDIte, Nat.reducePow]
  refine Thn_n ?_
  refine hK _ _ ?_
  clear hK K
  refine AW.cond_t rfl ?_
  refine AW.seq_k fun K hK => ?_
  refine AW.region (by decide) ?_
  simp only [push_cast, Nat.reduceAdd, Nat.reduceMul, Nat.reduceSub, Nat.reduceLeDiff, Nat.reduceLT, Nat.reduceEqDiff, Nat.reduceBEq, Nat.reduceBNe, Nat.reduceMod, Nat.reduceDiv, Int.reduceLE, Int.reduceLT, Int.reduceToNat, Int.reduceAdd, Int.reduceSub, Int.reduceMul, Int.reduceNeg, Int.reduceEq, Int.reduceBEq, Int.reduceBNe, ↓reduceIte, reduceCtorEq, String.reduceBNe, String.reduceEq, reduceDIte, Nat.reducePow]
  refine Thn_n ?_
  refine hK _ _ ?_
  clear hK K
  refine AW.ret ?_
  refine Thn_r ?_
  refine hQ _ _ _ ?_
  first | refine RetP.drop0 (Or.inr rfl) ?_ ?_ hwf | refine RetP.drop (Or.inr rfl) ?_ ?_ hwf
  · simp only [resA, resOne, resTv, AV.tv, push_cast, Nat.reduceAdd, Nat.reduceMul, Nat.reduceSub, Nat.reduceLeDiff, Nat.reduceLT, Nat.reduceEqDiff, Nat.reduceBEq, Nat.reduceBNe, Nat.reduceMod, Nat.reduceDiv, Int.reduceLE, Int.reduceLT, Int.reduceToNat, Int.reduceAdd, Int.reduceSub, Int.reduceMul, Int.reduceNeg, Int.reduceEq, Int.reduceBEq, Int.reduceBNe, ↓reduceIte, reduceCtorEq, String.reduceBNe, String.reduceEq, reduceDIte, Nat.reducePow]
  · rfl
theorem wr_down (rd rs rm n : Nat) (D : DS) (x : Int) (v : List Int) (m : AMem) (hrd : m[rd]? = some (drB rs rm n D)) (h : D.down = true) : Ctr Try.prog 8 [.one (.ptr rd 0 0), .one (.int .i64 x), .agg (u8l v)] m (.one (.int .i64 5)) m := by
  refine Ctr.enter Try.func8 rfl (by decide) (rs := [.tmp 6]) (nt := 25) rfl rfl fun hwf Q hQ => ?_
  refine AW.seq_k fun K hK => ?_
  refine AW.region (by decide) ?_
  simp only [push_cast, Nat.reduceAdd, Nat.reduceMul, Nat.reduceSub, Nat.reduceLeDiff, Nat.reduceLT, Nat.reduceEqDiff, Nat.reduceBEq, Nat.reduceBNe, Nat.reduceMod, Nat.reduceDiv, Int.reduceLE, Int.reduceLT, Int.reduceToNat, Int.reduceAdd, Int.reduceSub, Int.reduceMul, Int.reduceNeg, Int.reduceEq, Int.reduceBEq, Int.reduceBNe, ↓reduceIte, reduceCtorEq, String.reduceBNe, String.reduceEq, reduceDIte, Nat.reducePow, imp_self]
  refine Thn_n ?_
  refine hK _ _ ?_
  clear hK K
  refine AW.seq_k fun K hK => ?_
  refine AW.seq_k fun K hK => ?_
  refine AW.region (by decide) ?_
  simp only [push_cast, Nat.reduceAdd, Nat.reduceMul, Nat.reduceSub, Nat.reduceLeDiff, Nat.reduceLT, Nat.reduceEqDiff, Nat.reduceBEq, Nat.reduceBNe, Nat.reduceMod, Nat.reduceDiv, Int.reduceLE, Int.reduceLT, Int.reduceToNat, Int.reduceAdd, Int.reduceSub, Int.reduceMul, Int.reduceNeg, Int.reduceEq, Int.reduceBEq, Int.reduceBNe, ↓reduceIte, reduceCtorEq, String.reduceBNe, String.reduceEq, reduceDIte, Nat.reducePow, imp_self]
  refine CThen.by (in_down rd rs rm n D x _ (lk_old hrd _) h) ?_
  simp only [push_cast, Nat.reduceAdd, Nat.reduceMul, Nat.reduceSub, Nat.reduceLeDiff, Nat.reduceLT, Nat.reduceEqDiff, Nat.reduceBEq, Nat.reduceBNe, Nat.reduceMod, Nat.reduceDiv, Int.reduceLE, Int.reduceLT, Int.reduceToNat, Int.reduceAdd, Int.reduceSub, Int.reduceMul, Int.reduceNeg, Int.reduceEq, Int.reduceBEq, Int.reduceBNe, ↓reduceIte, reduceCtorEq, String.reduceBNe, String.reduceEq, reduceDIte, Nat.reducePow, imp_self]
  refine Thn_n ?_
  refine hK _ _ ?_
  clear hK K
  refine AW.seq_k fun K hK => ?_
  refine AW.region (by decide) ?_
  simp only [push_cast, Nat.reduceAdd, Nat.reduceMul, Nat.reduceSub, Nat.reduceLeDiff, Nat.reduceLT, Nat.reduceEqDiff, Nat.reduceBEq, Nat.reduceBNe, Nat.reduceMod, Nat.reduceDiv, Int.reduceLE, Int.reduceLT, Int.reduceToNat, Int.reduceAdd, Int.reduceSub, Int.reduceMul, Int.reduceNeg, Int.reduceEq, Int.reduceBEq, Int.reduceBNe, ↓reduceIte, reduceCtorEq, String.reduceBNe, String.reduceEq, reduceDIte, Nat.reducePow, imp_self]
  refine Thn_n ?_
  refine hK _ _ ?_
  clear hK K
  refine AW.cond_t rfl ?_
  refine AW.seq_k fun K hK => ?_
  refine AW.region (by decide) ?_
  simp only [push_cast, Nat.reduceAdd, Nat.reduceMul, Nat.reduceSub, Nat.reduceLeDiff, Nat.reduceLT, Nat.reduceEqDiff, Nat.reduceBEq, Nat.reduceBNe, Nat.reduceMod, Nat.reduceDiv, Int.reduceLE, Int.reduceLT, Int.reduceToNat, Int.reduceAdd, Int.reduceSub, Int.reduceMul, Int.reduceNeg, Int.reduceEq, Int.reduceBEq, Int.reduceBNe, ↓reduceIte, reduceCtorEq, String.reduceBNe, String.reduceEq, reduceDIte, Nat.reducePow, imp_self]
  refine Thn_n ?_
  refine hK _ _ ?_
  clear hK K
  refine AW.ret ?_
  refine Thn_r ?_
  refine hQ _ _ _ ?_
  first | refine RetP.drop0 (Or.inr rfl) ?_ ?_ hwf | refine RetP.drop (Or.inr rfl) ?_ ?_ hwf
  · simp only [resA, resOne, resTv, AV.tv, push_cast, Nat.reduceAdd, Nat.reduceMul, Nat.reduceSub, Nat.reduceLeDiff, Nat.reduceLT, Nat.reduceEqDiff, Nat.reduceBEq, Nat.reduceBNe, Nat.reduceMod, Nat.reduceDiv, Int.reduceLE, Int.reduceLT, Int.reduceToNat, Int.reduceAdd, Int.reduceSub, Int.reduceMul, Int.reduceNeg, Int.reduceEq, Int.reduceBEq, Int.reduceBNe, ↓reduceIte, reduceCtorEq, String.reduceBNe, String.reduceEq, reduceDIte, Nat.reducePow, imp_self]
  · rfl
theorem wr_lo (rd rs rm n : Nat) (D : DS) (x : Int) (v : List Int) (m : AMem) (hrd : m[rd]? = some (drB rs rm n D)) (h : D.down = false) (h1 : x < 0) : Ctr Try.prog 8 [.one (.ptr rd 0 0), .one (.int .i64 x), .agg (u8l v)] m (.one (.int .i64 1)) m := by
  refine Ctr.enter Try.func8 rfl (by decide) (rs := [.tmp 6]) (nt := 25) rfl rfl fun hwf Q hQ => ?_
  refine AW.seq_k fun K hK => ?_
  refine AW.region (by decide) ?_
  simp only [push_cast, Nat.reduceAdd, Nat.reduceMul, Nat.reduceSub, Nat.reduceLeDiff, Nat.reduceLT, Nat.reduceEqDiff, Nat.reduceBEq, Nat.reduceBNe, Nat.reduceMod, Nat.reduceDiv, Int.reduceLE, Int.reduceLT, Int.reduceToNat, Int.reduceAdd, Int.reduceSub, Int.reduceMul, Int.reduceNeg, Int.reduceEq, Int.reduceBEq, Int.reduceBNe, ↓reduceIte, reduceCtorEq, String.reduceBNe, String.reduceEq, reduceDIte, Nat.reducePow, imp_self]
  refine Thn_n ?_
  refine hK _ _ ?_
  clear hK K
  refine AW.seq_k fun K hK => ?_
  refine AW.seq_k fun K hK => ?_
  refine AW.region (by decide) ?_
  simp only [push_cast, Nat.reduceAdd, Nat.reduceMul, Nat.reduceSub, Nat.reduceLeDiff, Nat.reduceLT, Nat.reduceEqDiff, Nat.reduceBEq, Nat.reduceBNe, Nat.reduceMod, Nat.reduceDiv, Int.reduceLE, Int.reduceLT, Int.reduceToNat, Int.reduceAdd, Int.reduceSub, Int.reduceMul, Int.reduceNeg, Int.reduceEq, Int.reduceBEq, Int.reduceBNe, ↓reduceIte, reduceCtorEq, String.reduceBNe, String.reduceEq, reduceDIte, Nat.reducePow, imp_self]
  refine CThen.by (in_lo rd rs rm n D x _ (lk_old hrd _) h h1) ?_
  simp only [push_cast, Nat.reduceAdd, Nat.reduceMul, Nat.reduceSub, Nat.reduceLeDiff, Nat.reduceLT, Nat.reduceEqDiff, Nat.reduceBEq, Nat.reduceBNe, Nat.reduceMod, Nat.reduceDiv, Int.reduceLE, Int.reduceLT, Int.reduceToNat, Int.reduceAdd, Int.reduceSub, Int.reduceMul, Int.reduceNeg, Int.reduceEq, Int.reduceBEq, Int.reduceBNe, ↓reduceIte, reduceCtorEq, String.reduceBNe, String.reduceEq, reduceDIte, Nat.reducePow, imp_self]
  refine Thn_n ?_
  refine hK _ _ ?_
  clear hK K
  refine AW.seq_k fun K hK => ?_
  refine AW.region (by decide) ?_
  simp only [push_cast, Nat.reduceAdd, Nat.reduceMul, Nat.reduceSub, Nat.reduceLeDiff, Nat.reduceLT, Nat.reduceEqDiff, Nat.reduceBEq, Nat.reduceBNe, Nat.reduceMod, Nat.reduceDiv, Int.reduceLE, Int.reduceLT, Int.reduceToNat, Int.reduceAdd, Int.reduceSub, Int.reduceMul, Int.reduceNeg, Int.reduceEq, Int.reduceBEq, Int.reduceBNe, ↓reduceIte, reduceCtorEq, String.reduceBNe, String.reduceEq, reduceDIte, Nat.reducePow, imp_self]
  refine Thn_n ?_
  refine hK _ _ ?_
  clear hK K
  refine AW.cond_t rfl ?_
  refine AW.seq_k fun K hK => ?_
  refine AW.region (by decide) ?_
  simp only [push_cast, Nat.reduceAdd, Nat.reduceMul, Nat.reduceSub, Nat.reduceLeDiff, Nat.reduceLT, Nat.reduceEqDiff, Nat.reduceBEq, Nat.reduceBNe, Nat.reduceMod, Nat.reduceDiv, Int.reduceLE, Int.reduceLT, Int.reduceToNat, Int.reduceAdd, Int.reduceSub, Int.reduceMul, Int.reduceNeg, Int.reduceEq, Int.reduceBEq, Int.reduceBNe, ↓reduceIte, reduceCtorEq, String.reduceBNe, String.reduceEq, reduceDIte, Nat.reducePow, imp_self]
  refine Thn_n ?_
  refine hK _ _ ?_
  clear hK K
  refine AW.ret ?_
  refine Thn_r ?_
  refine hQ _ _ _ ?_
  first | refine RetP.drop0 (Or.inr rfl) ?_ ?_ hwf | refine RetP.drop (Or.inr rfl) ?_ ?_ hwf
  · simp only [resA, resOne, resTv, AV.tv, push_cast, Nat.reduceAdd, Nat.reduceMul, Nat.reduceSub, Nat.reduceLeDiff, Nat.reduceLT, Nat.reduceEqDiff, Nat.reduceBEq, Nat.reduceBNe, Nat.reduceMod, Nat.reduceDiv, Int.reduceLE, Int.reduceLT, Int.reduceToNat, Int.reduceAdd, Int.reduceSub, Int.reduceMul, Int.reduceNeg, Int.reduceEq, Int.reduceBEq, Int.reduceBNe, ↓reduceIte, reduceCtorEq, String.reduceBNe, String.reduceEq, reduceDIte, Nat.reducePow, imp_self]
  · rfl
theorem wr_hi (rd rs rm n : Nat) (D : DS) (x : Int) (v : List Int) (m : AMem) (hrd : m[rd]? = some (drB rs rm n D)) (h : D.down = false) (h1 : ¬ x < 0) (h2 : (n : Int) ≤ x) : Ctr Try.prog 8 [.one (.ptr rd 0 0), .one (.int .i64 x), .agg (u8l v)] m (.one (.int .i64 1)) m := by
  refine Ctr.enter Try.func8 rfl (by decide) (rs := [.tmp 6]) (nt := 25) rfl rfl fun hwf Q hQ => ?_
  refine AW.seq_k fun K hK => ?_
  refine AW.region (by decide) ?_
  simp only [push_cast, Nat.reduceAdd, Nat.reduceMul, Nat.reduceSub, Nat.reduceLeDiff, Nat.reduceLT, Nat.reduceEqDiff, Nat.reduceBEq, Nat.reduceBNe, Nat.reduceMod, Nat.reduceDiv, Int.reduceLE, Int.reduceLT, Int.reduceToNat, Int.reduceAdd, Int.reduceSub, Int.reduceMul, Int.reduceNeg, Int.reduceEq, Int.reduceBEq, Int.reduceBNe, ↓reduceIte, reduceCtorEq, String.reduceBNe, String.reduceEq, reduceDIte, Nat.reducePow, imp_self]
  refine Thn_n ?_
  refine hK _ _ ?_
  clear hK K
  refine AW.seq_k fun K hK => ?_
  refine AW.seq_k fun K hK => ?_
  refine AW.region (by decide) ?_
  simp only [push_cast, Nat.reduceAdd, Nat.reduceMul, Nat.reduceSub, Nat.reduceLeDiff, Nat.reduceLT, Nat.reduceEqDiff, Nat.reduceBEq, Nat.reduceBNe, Nat.reduceMod, Nat.reduceDiv, Int.reduceLE, Int.reduceLT, Int.reduceToNat, Int.reduceAdd, Int.reduceSub, Int.reduceMul, Int.reduceNeg, Int.reduceEq, Int.reduceBEq, Int.reduceBNe, ↓reduceIte, reduceCtorEq, String.reduceBNe, String.reduceEq, reduceDIte, Nat.reducePow, imp_self]
  refine CThen.by (in_hi rd rs rm n D x _ (lk_old hrd _) h h1 h2) ?_
  simp only [push_cast, Nat.reduceAdd, Nat.reduceMul, Nat.reduceSub, Nat.reduceLeDiff, Nat.reduceLT, Nat.reduceEqDiff, Nat.reduceBEq, Nat.reduceBNe, Nat.reduceMod, Nat.reduceDiv, Int.reduceLE, Int.reduceLT, Int.reduceToNat, Int.reduceAdd, Int.reduceSub, Int.reduceMul, Int.reduceNeg, Int.reduceEq, Int.reduceBEq, Int.reduceBNe, ↓reduceIte, reduceCtorEq, String.reduceBNe, String.reduceEq, reduceDIte, Nat.reducePow, imp_self]
  refine Thn_n ?_
  refine hK _ _ ?_
  clear hK K
  refine AW.seq_k fun K hK => ?_
  refine AW.region (by decide) ?_
  simp only [push_cast, Nat.reduceAdd, Nat.reduceMul, Nat.reduceSub, Nat.reduceLeDiff, Nat.reduceLT, Nat.reduceEqDiff, Nat.reduceBEq, Nat.reduceBNe, Nat.reduceMod, Nat.reduceDiv, Int.reduceLE, Int.reduceLT, Int.reduceToNat, Int.reduceAdd, Int.reduceSub, Int.reduceMul, Int.reduceNeg, Int.reduceEq, Int.reduceBEq, Int.reduceBNe, ↓reduceIte, reduceCtorEq, String.reduceBNe, String.reduceEq, reduceDIte, Nat.reducePow, imp_self]
  refine Thn_n ?_
  refine hK _ _ ?_
  clear hK K
  refine AW.cond_t rfl ?_
  refine AW.seq_k fun K hK => ?_
  refine AW.region (by decide) ?_
  simp only [push_cast, Nat.reduceAdd, Nat.reduceMul, Nat.reduceSub, Nat.reduceLeDiff, Nat.reduceLT, Nat.reduceEqDiff, Nat.reduceBEq, Nat.reduceBNe, Nat.reduceMod, Nat.reduceDiv, Int.reduceLE, Int.reduceLT, Int.reduceToNat, Int.reduceAdd, Int.reduceSub, Int.reduceMul, Int.reduceNeg, Int.reduceEq, Int.reduceBEq, Int.reduceBNe, ↓reduceIte, reduceCtorEq, String.reduceBNe, String.reduceEq, reduceDIte, Nat.reducePow, imp_self]
  refine Thn_n ?_
  refine hK _ _ ?_
  clear hK K
  refine AW.ret ?_
  refine Thn_r ?_
  refine hQ _ _ _ ?_
  first | refine RetP.drop0 (Or.inr rfl) ?_ ?_ hwf | refine RetP.drop (Or.inr rfl) ?_ ?_ hwf
  · simp only [resA, resOne, resTv, AV.tv, push_cast, Nat.reduceAdd, Nat.reduceMul, Nat.reduceSub, Nat.reduceLeDiff, Nat.reduceLT, Nat.reduceEqDiff, Nat.reduceBEq, Nat.reduceBNe, Nat.reduceMod, Nat.reduceDiv, Int.reduceLE, Int.reduceLT, Int.reduceToNat, Int.reduceAdd, Int.reduceSub, Int.reduceMul, Int.reduceNeg, Int.reduceEq, Int.reduceBEq, Int.reduceBNe, ↓reduceIte, reduceCtorEq, String.reduceBNe, String.reduceEq, reduceDIte, Nat.reducePow, imp_self]
  · rfl
theorem wr_no (rd rs rm n : Nat) (D : DS) (x : Int) (v : List Int) (m : AMem) (hv : v.length = 128) (h : HasD m rd rs rm n D) (hd : D.down = false) (h1 : ¬ x < 0) (h2 : ¬ (n : Int) ≤ x) (hz : D.fuse = 0) : Ctr Try.prog 8 [.one (.ptr rd 0 0), .one (.int .i64 x), .agg (u8l v)] m (.one (.int .i64 5)) (setD m rd rs rm n (spD D)) := by
  refine Ctr.enter Try.func8 rfl (by decide) (rs := [.tmp 6]) (nt := 25) rfl rfl fun hwf Q hQ => ?_
  have hrd := h.d
  have hrs := h.r
  have hrm := h.m
  have ld := get_lt hrd
  have lr := get_lt hrs
  have lm := get_lt hrm
  have ndr : rd ≠ rs := h.dr
  have ndm : rd ≠ rm := h.dm
  have nrm : rs ≠ rm := h.rm
  have nrd := ndr.symm
  have nmd := ndm.symm
  have nmr := nrm.symm
  have oD := fun (L : AMem) => mk_olds (m := m) (l := m) rfl ld L
  have oR := fun (L : AMem) => mk_olds (m := m) (l := m) rfl lr L
  have oM := fun (L : AMem) => mk_olds (m := m) (l := m) rfl lm L
  have pD := fun (l L : AMem) (e : l.length = m.length) => mk_olds (m := m) (l := l) (r := rd) e ld L
  have pR := fun (l L : AMem) (e : l.length = m.length) => mk_olds (m := m) (l := l) (r := rs) e lr L
  have pM := fun (l L : AMem) (e : l.length = m.length) => mk_olds (m := m) (l := l) (r := rm) e lm L
  have gD := fun (l L : AMem) (e : l.length = m.length) => mk_old (m := m) (l := l) (r := rd) e ld L
  have gR := fun (l L : AMem) (e : l.length = m.length) => mk_old (m := m) (l := l) (r := rs) e lr L
  have gM := fun (l L : AMem) (e : l.length = m.length) => mk_old (m := m) (l := l) (r := rm) e lm L
  have sD := fun (l : AMem) (b : Blk) (e : l.length = m.length) => mk_self (m := m) (l := l) (r := rd) e ld b
  have sR := fun (l : AMem) (b : Blk) (e : l.length = m.length) => mk_self (m := m) (l := l) (r := rs) e lr b
  have sM := fun (l : AMem) (b : Blk) (e : l.length = m.length) => mk_self (m := m) (l := l) (r := rm) e lm b
  have aA := fun (l L : AMem) (e : l.length = m.length) => mk_lk0 (m := m) (l := l) e L
  have aK := fun (l L : AMem) (k : Nat) (e : l.length = m.length) => mk_lk (m := m) (l := l) e L k
  have aT := fun (l L : AMem) (k : Nat) (b : Blk) (e : l.length = m.length) => mk_set (m := m) (l := l) e L k b
  have aS := fun (l L : AMem) (b : Blk) (e : l.length = m.length) => mk_set0 (m := m) (l := l) e L b
  have hw2 : MWf m.length (setD m rd rs rm n (spD D)) := setD_wf hwf lr lm _
  have e2 := setD_d h (spD D) (spD_S D) (spD_E D) (spD_ck D)
  refine AW.seq_k fun K hK => ?_
  refine AW.region (by decide) ?_
  simp only [push_cast, Nat.reduceAdd, Nat.reduceMul, Nat.reduceSub, Nat.reduceLeDiff, Nat.reduceLT, Nat.reduceEqDiff, Nat.reduceBEq, Nat.reduceBNe, Nat.reduceMod, Nat.reduceDiv, Int.reduceLE, Int.reduceLT, Int.reduceToNat, Int.reduceAdd, Int.reduceSub, Int.reduceMul, Int.reduceNeg, Int.reduceEq, Int.reduceBEq, Int.reduceBNe, ↓reduceIte, reduceCtorEq, String.reduceBNe, String.reduceEq, reduceDIte, Nat.reducePow, hrd, hrs, hrm, pD, pR, pM, gD, gR, gM, sD, sR, sM, aA, aS, aK, aT, List.set_set, List.length_set, List.getElem?_set_ne ndr, List.getElem?_set_ne ndm, List.getElem?_set_ne nrm, List.getElem?_set_ne nrd, List.getElem?_set_ne nmd, List.getElem?_set_ne nmr, drB, rowD, mapD]
  refine Thn_n ?_
  refine hK _ _ ?_
  clear hK K
  refine AW.seq_k fun K hK => ?_
  refine AW.seq_k fun K hK => ?_
  refine AW.region (by decide) ?_
  simp only [push_cast, Nat.reduceAdd, Nat.reduceMul, Nat.reduceSub, Nat.reduceLeDiff, Nat.reduceLT, Nat.reduceEqDiff, Nat.reduceBEq, Nat.reduceBNe, Nat.reduceMod, Nat.reduceDiv, Int.reduceLE, Int.reduceLT, Int.reduceToNat, Int.reduceAdd, Int.reduceSub, Int.reduceMul, Int.reduceNeg, Int.reduceEq, Int.reduceBEq, Int.reduceBNe, ↓reduceIte, reduceCtorEq, String.reduceBNe, String.reduceEq, reduceDIte, Nat.reducePow, hrd, hrs, hrm, pD, pR, pM, gD, gR, gM, sD, sR, sM, aA, aS, aK, aT, List.set_set, List.length_set, List.getElem?_set_ne ndr, List.getElem?_set_ne ndm, List.getElem?_set_ne nrm, List.getElem?_set_ne nrd, List.getElem?_set_ne nmd, List.getElem?_set_ne nmr, drB, rowD, mapD]
  refine CThen.by (in_ok rd rs rm n D x _ (lk_old h.d _) hd h1 h2) ?_
  simp only [push_cast, Nat.reduceAdd, Nat.reduceMul, Nat.reduceSub, Nat.reduceLeDiff, Nat.reduceLT, Nat.reduceEqDiff, Nat.reduceBEq, Nat.reduceBNe, Nat.reduceMod, Nat.reduceDiv, Int.reduceLE, Int.reduceLT, Int.reduceToNat, Int.reduceAdd, Int.reduceSub, Int.reduceMul, Int.reduceNeg, Int.reduceEq, Int.reduceBEq, Int.reduceBNe, ↓reduceIte, reduceCtorEq, String.reduceBNe, String.reduceEq, reduceDIte, Nat.reducePow, hrd, hrs, hrm, pD, pR, pM, gD, gR, gM, sD, sR, sM, aA, aS, aK, aT, List.set_set, List.length_set, List.getElem?_set_ne ndr, List.getElem?_set_ne ndm, List.getElem?_set_ne nrm, List.getElem?_set_ne nrd, List.getElem?_set_ne nmd, List.getElem?_set_ne nmr, drB, rowD, mapD]
  refine Thn_n ?_
  refine hK _ _ ?_
  clear hK K
  refine AW.seq_k fun K hK => ?_
  refine AW.region (by decide) ?_
  simp only [push_cast, Nat.reduceAdd, Nat.reduceMul, Nat.reduceSub, Nat.reduceLeDiff, Nat.reduceLT, Nat.reduceEqDiff, Nat.reduceBEq, Nat.reduceBNe, Nat.reduceMod, Nat.reduceDiv, Int.reduceLE, Int.reduceLT, Int.reduceToNat, Int.reduceAdd, Int.reduceSub, Int.reduceMul, Int.reduceNeg, Int.reduceEq, Int.reduceBEq, Int.reduceBNe, ↓reduceIte, reduceCtorEq, String.reduceBNe, String.reduceEq, reduceDIte, Nat.reducePow, hrd, hrs, hrm, pD, pR, pM, gD, gR, gM, sD, sR, sM, aA, aS, aK, aT, List.set_set, List.length_set, List.getElem?_set_ne ndr, List.getElem?_set_ne ndm, List.getElem?_set_ne nrm, List.getElem?_set_ne nrd, List.getElem?_set_ne nmd, List.getElem?_set_ne nmr, drB, rowD, mapD]
  refine Thn_n ?_
  refine hK _ _ ?_
  clear hK K
  refine AW.cond_f rfl ?_
  refine AW.skip ?_
  refine Thn_n ?_
  refine hK _ _ ?_
  clear hK K
  refine AW.seq_k fun K hK => ?_
  refine AW.seq_k fun K hK => ?_
  refine AW.region (by decide) ?_
  simp only [push_cast, Nat.reduceAdd, Nat.reduceMul, Nat.reduceSub, Nat.reduceLeDiff, Nat.reduceLT, Nat.reduceEqDiff, Nat.reduceBEq, Nat.reduceBNe, Nat.reduceMod, Nat.reduceDiv, Int.reduceLE, Int.reduceLT, Int.reduceToNat, Int.reduceAdd, Int.reduceSub, Int.reduceMul, Int.reduceNeg, Int.reduceEq, Int.reduceBEq, Int.reduceBNe, ↓reduceIte, reduceCtorEq, String.reduceBNe, String.reduceEq, reduceDIte, Nat.reducePow, hrd, hrs, hrm, pD, pR, pM, gD, gR, gM, sD, sR, sM, aA, aS, aK, aT, List.set_set, List.length_set, List.getElem?_set_ne ndr, List.getElem?_set_ne ndm, List.getElem?_set_ne nrm, List.getElem?_set_ne nrd, List.getElem?_set_ne nmd, List.getElem?_set_ne nmr, drB, rowD, mapD]
  refine CThen.by (spend_no rd rs rm n D _ (lk_old h.d _) hz) ?_
  simp only [push_cast, Nat.reduceAdd, Nat.reduceMul, Nat.reduceSub, Nat.reduceLeDiff, Nat.reduceLT, Nat.reduceEqDiff, Nat.reduceBEq, Nat.reduceBNe, Nat.reduceMod, Nat.reduceDiv, Int.reduceLE, Int.reduceLT, Int.reduceToNat, Int.reduceAdd, Int.reduceSub, Int.reduceMul, Int.reduceNeg, Int.reduceEq, Int.reduceBEq, Int.reduceBNe, ↓reduceIte, reduceCtorEq, String.reduceBNe, String.reduceEq, reduceDIte, Nat.reducePow, hrd, hrs, hrm, pD, pR, pM, gD, gR, gM, sD, sR, sM, aA, aS, aK, aT, List.set_set, List.length_set, List.getElem?_set_ne ndr, List.getElem?_set_ne ndm, List.getElem?_set_ne nrm, List.getElem?_set_ne nrd, List.getElem?_set_ne nmd, List.getElem?_set_ne nmr, drB, rowD, mapD]
  refine Thn_n ?_
  refine hK _ _ ?_
  clear hK K
  refine AW.cond_t rfl ?_
  refine AW.seq_k fun K hK => ?_
  refine AW.region (by decide) ?_
  simp only [push_cast, Nat.reduceAdd, Nat.reduceMul, Nat.reduceSub, Nat.reduceLeDiff, Nat.reduceLT, Nat.reduceEqDiff, Nat.reduceBEq, Nat.reduceBNe, Nat.reduceMod, Nat.reduceDiv, Int.reduceLE, Int.reduceLT, Int.reduceToNat, Int.reduceAdd, Int.reduceSub, Int.reduceMul, Int.reduceNeg, Int.reduceEq, Int.reduceBEq, Int.reduceBNe, ↓reduceIte, reduceCtorEq, String.reduceBNe, String.reduceEq, reduceDIte, Nat.reducePow, hrd, hrs, hrm, pD, pR, pM, gD, gR, gM, sD, sR, sM, aA, aS, aK, aT, List.set_set, List.length_set, List.getElem?_set_ne ndr, List.getElem?_set_ne ndm, List.getElem?_set_ne nrm, List.getElem?_set_ne nrd, List.getElem?_set_ne nmd, List.getElem?_set_ne nmr, drB, rowD, mapD]
  refine Thn_n ?_
  refine hK _ _ ?_
  clear hK K
  refine AW.ret ?_
  refine Thn_r ?_
  refine hQ _ _ _ ?_
  rw [e2]
  refine RetP.dropM (m1 := m.set rd (drB rs rm n (spD D))) (by rw [List.length_set]) (by first | exact Or.inr rfl | exact Or.inl rfl) ?_ ?_ (e2 ▸ hw2)
  · simp only [resA, resOne, resTv, AV.tv, push_cast, Nat.reduceAdd, Nat.reduceMul, Nat.reduceSub, Nat.reduceLeDiff, Nat.reduceLT, Nat.reduceEqDiff, Nat.reduceBEq, Nat.reduceBNe, Nat.reduceMod, Nat.reduceDiv, Int.reduceLE, Int.reduceLT, Int.reduceToNat, Int.reduceAdd, Int.reduceSub, Int.reduceMul, Int.reduceNeg, Int.reduceEq, Int.reduceBEq, Int.reduceBNe, ↓reduceIte, reduceCtorEq, String.reduceBNe, String.reduceEq, reduceDIte, Nat.reducePow]
  · rfl
theorem wr_ok (rd rs rm n : Nat) (D : DS) (x : Int) (v : List Int) (m : AMem) (hv : v.length = 128) (h : HasD m rd rs rm n D) (hd : D.down = false) (h1 : ¬ x < 0) (h2 : ¬ (n : Int) ≤ x) (hz : ¬ D.fuse = 0) : Ctr Try.prog 8 [.one (.ptr rd 0 0), .one (.int .i64 x), .agg (u8l v)] m (.one (.int .i64 0)) (setD m rd rs rm n (wrD D x v)) := by
  refine Ctr.enter Try.func8 rfl (by decide) (rs := [.tmp 6]) (nt := 25) rfl rfl fun hwf Q hQ => ?_
  have hv1 := u8l_len v
  rw [hv] at hv1
  have hv2 : (u8l v).take 128 = u8l v := List.take_of_length_le (by omega)
  have hv3 := u8l_vals v
  have hrd := h.d
  have hrs := h.r
  have hrm := h.m
  have ld := get_lt hrd
  have lr := get_lt hrs
  have lm := get_lt hrm
  have ndr : rd ≠ rs := h.dr
  have ndm : rd ≠ rm := h.dm
  have nrm : rs ≠ rm := h.rm
  have nrd := ndr.symm
  have nmd := ndm.symm
  have nmr := nrm.symm
  have oD := fun (L : AMem) => mk_olds (m := m) (l := m) rfl ld L
  have oR := fun (L : AMem) => mk_olds (m := m) (l := m) rfl lr L
  have oM := fun (L : AMem) => mk_olds (m := m) (l := m) rfl lm L
  have pD := fun (l L : AMem) (e : l.length = m.length) => mk_olds (m := m) (l := l) (r := rd) e ld L
  have pR := fun (l L : AMem) (e : l.length = m.length) => mk_olds (m := m) (l := l) (r := rs) e lr L
  have pM := fun (l L : AMem) (e : l.length = m.length) => mk_olds (m := m) (l := l) (r := rm) e lm L
  have gD := fun (l L : AMem) (e : l.length = m.length) => mk_old (m := m) (l := l) (r := rd) e ld L
  have gR := fun (l L : AMem) (e : l.length = m.length) => mk_old (m := m) (l := l) (r := rs) e lr L
  have gM := fun (l L : AMem) (e : l.length = m.length) => mk_old (m := m) (l := l) (r := rm) e lm L
  have sD := fun (l : AMem) (b : Blk) (e : l.length = m.length) => mk_self (m := m) (l := l) (r := rd) e ld b
  have sR := fun (l : AMem) (b : Blk) (e : l.length = m.length) => mk_self (m := m) (l := l) (r := rs) e lr b
  have sM := fun (l : AMem) (b : Blk) (e : l.length = m.length) => mk_self (m := m) (l := l) (r := rm) e lm b
  have aA := fun (l L : AMem) (e : l.length = m.length) => mk_lk0 (m := m) (l := l) e L
  have aK := fun (l L : AMem) (k : Nat) (e : l.length = m.length) => mk_lk (m := m) (l := l) e L k
  have aT := fun (l L : AMem) (k : Nat) (b : Blk) (e : l.length = m.length) => mk_set (m := m) (l := l) e L k b
  have aS := fun (l L : AMem) (b : Blk) (e : l.length = m.length) => mk_set0 (m := m) (l := l) e L b
  have hw2 : MWf m.length (setD m rd rs rm n (wrD D x v)) := setD_wf hwf lr lm _
  have e2 := setD_dm h (wrD D x v) (spD_S D)
  have e3 : drB rs rm n (wrD D x v) = drB rs rm n (spD D) := rfl
  refine AW.seq_k fun K hK => ?_
  refine AW.region (by decide) ?_
  simp only [push_cast, Nat.reduceAdd, Nat.reduceMul, Nat.reduceSub, Nat.reduceLeDiff, Nat.reduceLT, Nat.reduceEqDiff, Nat.reduceBEq, Nat.reduceBNe, Nat.reduceMod, Nat.reduceDiv, Int.reduceLE, Int.reduceLT, Int.reduceToNat, Int.reduceAdd, Int.reduceSub, Int.reduceMul, Int.reduceNeg, Int.reduceEq, Int.reduceBEq, Int.reduceBNe, ↓reduceIte, reduceCtorEq, String.reduceBNe, String.reduceEq, reduceDIte, Nat.reducePow, hv1, hv2, hv3, setMap, hrd, hrs, hrm, pD, pR, pM, gD, gR, gM, sD, sR, sM, aA, aS, aK, aT, List.set_set, List.length_set, List.getElem?_set_ne ndr, List.getElem?_set_ne ndm, List.getElem?_set_ne nrm, List.getElem?_set_ne nrd, List.getElem?_set_ne nmd, List.getElem?_set_ne nmr, drB, rowD, mapD]
  refine Thn_n ?_
  refine hK _ _ ?_
  clear hK K
  refine AW.seq_k fun K hK => ?_
  refine AW.seq_k fun K hK => ?_
  refine AW.region (by decide) ?_
  simp only [push_cast, Nat.reduceAdd, Nat.reduceMul, Nat.reduceSub, Nat.reduceLeDiff, Nat.reduceLT, Nat.reduceEqDiff, Nat.reduceBEq, Nat.reduceBNe, Nat.reduceMod, Nat.reduceDiv, Int.reduceLE, Int.reduceLT, Int.reduceToNat, Int.reduceAdd, Int.reduceSub, Int.reduceMul, Int.reduceNeg, Int.reduceEq, Int.reduceBEq, Int.reduceBNe, ↓reduceIte, reduceCtorEq, String.reduceBNe, String.reduceEq, reduceDIte, Nat.reducePow, hv1, hv2, hv3, setMap, hrd, hrs, hrm, pD, pR, pM, gD, gR, gM, sD, sR, sM, aA, aS, aK, aT, List.set_set, List.length_set, List.getElem?_set_ne ndr, List.getElem?_set_ne ndm, List.getElem?_set_ne nrm, List.getElem?_set_ne nrd, List.getElem?_set_ne nmd, List.getElem?_set_ne nmr, drB, rowD, mapD]
  refine CThen.by (in_ok rd rs rm n D x _ (lk_old h.d _) hd h1 h2) ?_
  simp only [push_cast, Nat.reduceAdd, Nat.reduceMul, Nat.reduceSub, Nat.reduceLeDiff, Nat.reduceLT, Nat.reduceEqDiff, Nat.reduceBEq, Nat.reduceBNe, Nat.reduceMod, Nat.reduceDiv, Int.reduceLE, Int.reduceLT, Int.reduceToNat, Int.reduceAdd, Int.reduceSub, Int.reduceMul, Int.reduceNeg, Int.reduceEq, Int.reduceBEq, Int.reduceBNe, ↓reduceIte, reduceCtorEq, String.reduceBNe, String.reduceEq, reduceDIte, Nat.reducePow, hv1, hv2, hv3, setMap, hrd, hrs, hrm, pD, pR, pM, gD, gR, gM, sD, sR, sM, aA, aS, aK, aT, List.set_set, List.length_set, List.getElem?_set_ne ndr, List.getElem?_set_ne ndm, List.getElem?_set_ne nrm, List.getElem?_set_ne nrd, List.getElem?_set_ne nmd, List.getElem?_set_ne nmr, drB, rowD, mapD]
  refine Thn_n ?_
  refine hK _ _ ?_
  clear hK K
  refine AW.seq_k fun K hK => ?_
  refine AW.region (by decide) ?_
  simp only [push_cast, Nat.reduceAdd, Nat.reduceMul, Nat.reduceSub, Nat.reduceLeDiff, Nat.reduceLT, Nat.reduceEqDiff, Nat.reduceBEq, Nat.reduceBNe, Nat.reduceMod, Nat.reduceDiv, Int.reduceLE, Int.reduceLT, Int.reduceToNat, Int.reduceAdd, Int.reduceSub, Int.reduceMul, Int.reduceNeg, Int.reduceEq, Int.reduceBEq, Int.reduceBNe, ↓reduceIte, reduceCtorEq, String.reduceBNe, String.reduceEq, reduceDIte, Nat.reducePow, hv1, hv2, hv3, setMap, hrd, hrs, hrm, pD, pR, pM, gD, gR, gM, sD, sR, sM, aA, aS, aK, aT, List.set_set, List.length_set, List.getElem?_set_ne ndr, List.getElem?_set_ne ndm, List.getElem?_set_ne nrm, List.getElem?_set_ne nrd, List.getElem?_set_ne nmd, List.getElem?_set_ne nmr, drB, rowD, mapD]
  refine Thn_n ?_
  refine hK _ _ ?_
  clear hK K
  refine AW.cond_f rfl ?_
  refine AW.skip ?_
  refine Thn_n ?_
  refine hK _ _ ?_
  clear hK K
  refine AW.seq_k fun K hK => ?_
  refine AW.seq_k fun K hK => ?_
  refine AW.region (by decide) ?_
  simp only [push_cast, Nat.reduceAdd, Nat.reduceMul, Nat.reduceSub, Nat.reduceLeDiff, Nat.reduceLT, Nat.reduceEqDiff, Nat.reduceBEq, Nat.reduceBNe, Nat.reduceMod, Nat.reduceDiv, Int.reduceLE, Int.reduceLT, Int.reduceToNat, Int.reduceAdd, Int.reduceSub, Int.reduceMul, Int.reduceNeg, Int.reduceEq, Int.reduceBEq, Int.reduceBNe, ↓reduceIte, reduceCtorEq, String.reduceBNe, String.reduceEq, reduceDIte, Nat.reducePow, hv1, hv2, hv3, setMap, hrd, hrs, hrm, pD, pR, pM, gD, gR, gM, sD, sR, sM, aA, aS, aK, aT, List.set_set, List.length_set, List.getElem?_set_ne ndr, List.getElem?_set_ne ndm, List.getElem?_set_ne nrm, List.getElem?_set_ne nrd, List.getElem?_set_ne nmd, List.getElem?_set_ne nmr, drB, rowD, mapD]
  refine CThen.by (spend_go rd rs rm n D _ (lk_old h.d _) hz) ?_
  simp only [push_cast, Nat.reduceAdd, Nat.reduceMul, Nat.reduceSub, Nat.reduceLeDiff, Nat.reduceLT, Nat.reduceEqDiff, Nat.reduceBEq, Nat.reduceBNe, Nat.reduceMod, Nat.reduceDiv, Int.reduceLE, Int.reduceLT, Int.reduceToNat, Int.reduceAdd, Int.reduceSub, Int.reduceMul, Int.reduceNeg, Int.reduceEq, Int.reduceBEq, Int.reduceBNe, ↓reduceIte, reduceCtorEq, String.reduceBNe, String.reduceEq, reduceDIte, Nat.reducePow, hv1, hv2, hv3, setMap, hrd, hrs, hrm, pD, pR, pM, gD, gR, gM, sD, sR, sM, aA, aS, aK, aT, List.set_set, List.length_set, List.getElem?_set_ne ndr, List.getElem?_set_ne ndm, List.getElem?_set_ne nrm, List.getElem?_set_ne nrd, List.getElem?_set_ne nmd, List.getElem?_set_ne nmr, drB, rowD, mapD]
  refine Thn_n ?_
  refine hK _ _ ?_
  clear hK K
  refine AW.cond_f rfl ?_
  refine AW.skip ?_
  refine Thn_n ?_
  refine hK _ _ ?_
  clear hK K
  refine AW.seq_k fun K hK => ?_
  rcases hf : fndE x D.E with _ | j
  · have g1 := findL_eL x D.E
    rw [hf] at g1
    have g2 := upE_none (ck := D.ck) (v := v) hf
    have g3 : upC D.ck x D.E = D.ck + 1 := by unfold upC; rw [hf]; rfl
    have hmd : mapD (wrD D x v) = ⟨.map false true (D.ck + 1) (eL (upE D.ck x v D.E)), 55, 0, 0, []⟩ := by unfold mapD wrD; rw [g3]
    refine AW.draw [.val, .val, .val, .rd 0, .val, .rd 0, .wr] fol (by decide) (by kernel_rfl) ?_
    simp only [push_cast, Nat.reduceAdd, Nat.reduceMul, Nat.reduceSub, Nat.reduceLeDiff, Nat.reduceLT, Nat.reduceEqDiff, Nat.reduceBEq, Nat.reduceBNe, Nat.reduceMod, Nat.reduceDiv, Int.reduceLE, Int.reduceLT, Int.reduceToNat, Int.reduceAdd, Int.reduceSub, Int.reduceMul, Int.reduceNeg, Int.reduceEq, Int.reduceBEq, Int.reduceBNe, ↓reduceIte, reduceCtorEq, String.reduceBNe, String.reduceEq, reduceDIte, Nat.reducePow, hv1, hv2, hv3, setMap, hrd, hrs, hrm, pD, pR, pM, gD, gR, gM, sD, sR, sM, aA, aS, aK, aT, List.set_set, List.length_set, List.getElem?_set_ne ndr, List.getElem?_set_ne ndm, List.getElem?_set_ne nrm, List.getElem?_set_ne nrd, List.getElem?_set_ne nmd, List.getElem?_set_ne nmr, drB, rowD, mapD, g1, g2, g3]
    refine Thn_n ?_
    refine hK _ _ ?_
    clear hK K
    refine AW.seq_k fun K hK => ?_
    refine AW.region (by decide) ?_
    simp only [push_cast, Nat.reduceAdd, Nat.reduceMul, Nat.reduceSub, Nat.reduceLeDiff, Nat.reduceLT, Nat.reduceEqDiff, Nat.reduceBEq, Nat.reduceBNe, Nat.reduceMod, Nat.reduceDiv, Int.reduceLE, Int.reduceLT, Int.reduceToNat, Int.reduceAdd, Int.reduceSub, Int.reduceMul, Int.reduceNeg, Int.reduceEq, Int.reduceBEq, Int.reduceBNe, ↓reduceIte, reduceCtorEq, String.reduceBNe, String.reduceEq, reduceDIte, Nat.reducePow, hv1, hv2, hv3, setMap, hrd, hrs, hrm, pD, pR, pM, gD, gR, gM, sD, sR, sM, aA, aS, aK, aT, List.set_set, List.length_set, List.getElem?_set_ne ndr, List.getElem?_set_ne ndm, List.getElem?_set_ne nrm, List.getElem?_set_ne nrd, List.getElem?_set_ne nmd, List.getElem?_set_ne nmr, drB, rowD, mapD, g1, g2, g3]
    refine Thn_n ?_
    refine hK _ _ ?_
    clear hK K
    refine AW.ret ?_
    refine hQ _ _ _ ?_
    rw [e2, e3, hmd] at hw2 ⊢
    refine RetP.dropM (by rw [List.length_set, List.length_set]) (by first | exact Or.inr rfl | exact Or.inl rfl) ?_ ?_ hw2
    · simp only [resA, resOne, resTv, AV.tv, push_cast, Nat.reduceAdd, Nat.reduceMul, Nat.reduceSub, Nat.reduceLeDiff, Nat.reduceLT, Nat.reduceEqDiff, Nat.reduceBEq, Nat.reduceBNe, Nat.reduceMod, Nat.reduceDiv, Int.reduceLE, Int.reduceLT, Int.reduceToNat, Int.reduceAdd, Int.reduceSub, Int.reduceMul, Int.reduceNeg, Int.reduceEq, Int.reduceBEq, Int.reduceBNe, ↓reduceIte, reduceCtorEq, String.reduceBNe, String.reduceEq, reduceDIte, Nat.reducePow]
    · rfl
  · have g1 := findL_eL x D.E
    rw [hf] at g1
    obtain ⟨b, w, hj, hl⟩ := fndE_some hf
    have g2 := upE_some (ck := D.ck) (v := v) hf hj
    have g3 : upC D.ck x D.E = D.ck := by unfold upC; rw [hf]; rfl
    have g4 := eL_get hj
    simp only [eC] at g4
    have hmd : mapD (wrD D x v) = ⟨.map false true D.ck (eL (upE D.ck x v D.E)), 55, 0, 0, []⟩ := by unfold mapD wrD; rw [g3]
    refine AW.draw [.val, .val, .val, .rd 0, .val, .rd 0, .wr] fol (by decide) (by kernel_rfl) ?_
    simp only [push_cast, Nat.reduceAdd, Nat.reduceMul, Nat.reduceSub, Nat.reduceLeDiff, Nat.reduceLT, Nat.reduceEqDiff, Nat.reduceBEq, Nat.reduceBNe, Nat.reduceMod, Nat.reduceDiv, Int.reduceLE, Int.reduceLT, Int.reduceToNat, Int.reduceAdd, Int.reduceSub, Int.reduceMul, Int.reduceNeg, Int.reduceEq, Int.reduceBEq, Int.reduceBNe, ↓reduceIte, reduceCtorEq, String.reduceBNe, String.reduceEq, reduceDIte, Nat.reducePow, hv1, hv2, hv3, setMap, hrd, hrs, hrm, pD, pR, pM, gD, gR, gM, sD, sR, sM, aA, aS, aK, aT, List.set_set, List.length_set, List.getElem?_set_ne ndr, List.getElem?_set_ne ndm, List.getElem?_set_ne nrm, List.getElem?_set_ne nrd, List.getElem?_set_ne nmd, List.getElem?_set_ne nmr, drB, rowD, mapD, g1, g2, g3, g4]
    refine Thn_n ?_
    refine hK _ _ ?_
    clear hK K
    refine AW.seq_k fun K hK => ?_
    refine AW.region (by decide) ?_
    simp only [push_cast, Nat.reduceAdd, Nat.reduceMul, Nat.reduceSub, Nat.reduceLeDiff, Nat.reduceLT, Nat.reduceEqDiff, Nat.reduceBEq, Nat.reduceBNe, Nat.reduceMod, Nat.reduceDiv, Int.reduceLE, Int.reduceLT, Int.reduceToNat, Int.reduceAdd, Int.reduceSub, Int.reduceMul, Int.reduceNeg, Int.reduceEq, Int.reduceBEq, Int.reduceBNe, ↓reduceIte, reduceCtorEq, String.reduceBNe, String.reduceEq, reduceDIte, Nat.reducePow, hv1, hv2, hv3, setMap, hrd, hrs, hrm, pD, pR, pM, gD, gR, gM, sD, sR, sM, aA, aS, aK, aT, List.set_set, List.length_set, List.getElem?_set_ne ndr, List.getElem?_set_ne ndm, List.getElem?_set_ne nrm, List.getElem?_set_ne nrd, List.getElem?_set_ne nmd, List.getElem?_set_ne nmr, drB, rowD, mapD, g1, g2, g3, g4]
    refine Thn_n ?_
    refine hK _ _ ?_
    clear hK K
    refine AW.ret ?_
    refine hQ _ _ _ ?_
    rw [e2, e3, hmd] at hw2 ⊢
    refine RetP.dropM (by rw [List.length_set, List.length_set]) (by first | exact Or.inr rfl | exact Or.inl rfl) ?_ ?_ hw2
    · simp only [resA, resOne, resTv, AV.tv, push_cast, Nat.reduceAdd, Nat.reduceMul, Nat.reduceSub, Nat.reduceLeDiff, Nat.reduceLT, Nat.reduceEqDiff, Nat.reduceBEq, Nat.reduceBNe, Nat.reduceMod, Nat.reduceDiv, Int.reduceLE, Int.reduceLT, Int.reduceToNat, Int.reduceAdd, Int.reduceSub, Int.reduceMul, Int.reduceNeg, Int.reduceEq, Int.reduceBEq, Int.reduceBNe, ↓reduceIte, reduceCtorEq, String.reduceBNe, String.reduceEq, reduceDIte, Nat.reducePow]
    · rfl
end Go.Proofs.Ytcahlnddcjifdaa

set_option linter.unusedSimpArgs false
set_option linter.unusedVariables false
set_option maxRecDepth 100000
set_option maxHeartbeats 4000000
namespace Go.Proofs.Ytcahlnddcjifdaa
open Go Go.Eng

theorem zB_cells : u8l zB = [.int .u8 0, .int .u8 0, .int .u8 0, .int .u8 0, .int .u8 0, .int .u8 0, .int .u8 0, .int .u8 0, .int .u8 0, .int .u8 0, .int .u8 0, .int .u8 0, .int .u8 0, .int .u8 0, .int .u8 0, .int .u8 0, .int .u8 0, .int .u8 0, .int .u8 0, .int .u8 0, .int .u8 0, .int .u8 0, .int .u8 0, .int .u8 0, .int .u8 0, .int .u8 0, .int .u8 0, .int .u8 0, .int .u8 0, .int .u8 0, .int .u8 0, .int .u8 0, .int .u8 0, .int .u8 0, .int .u8 0, .int .u8 0, .int .u8 0, .int .u8 0, .int .u8 0, .int .u8 0, .int .u8 0, .int .u8 0, .int .u8 0, .int .u8 0, .int .u8 0, .int .u8 0, .int .u8 0, .int .u8 0, .int .u8 0, .int .u8 0, .int .u8 0, .int .u8 0, .int .u8 0, .int .u8 0, .int .u8 0, .int .u8 0, .int .u8 0, .int .u8 0, .int .u8 0, .int .u8 0, .int .u8 0, .int .u8 0, .int .u8 0, .int .u8 0, .int .u8 0, .int .u8 0, .int .u8 0, .int .u8 0, .int .u8 0, .int .u8 0, .int .u8 0, .int .u8 0, .int .u8 0, .int .u8 0, .int .u8 0, .int .u8 0, .int .u8 0, .int .u8 0, .int .u8 0, .int .u8 0, .int .u8 0, .int .u8 0, .int .u8 0, .int .u8 0, .int .u8 0, .int .u8 0, .int .u8 0, .int .u8 0, .int .u8 0, .int .u8 0, .int .u8 0, .int .u8 0, .int .u8 0, .int .u8 0, .int .u8 0, .int .u8 0, .int .u8 0, .int .u8 0, .int .u8 0, .int .u8 0, .int .u8 0, .int .u8 0, .int .u8 0, .int .u8 0, .int .u8 0, .int .u8 0, .int .u8 0, .int .u8 0, .int .u8 0, .int .u8 0, .int .u8 0, .int .u8 0, .int .u8 0, .int .u8 0, .int .u8 0, .int .u8 0, .int .u8 0, .int .u8 0, .int .u8 0, .int .u8 0, .int .u8 0, .int .u8 0, .int .u8 0, .int .u8 0, .int .u8 0, .int .u8 0, .int .u8 0, .int .u8 0] := rfl
theorem rd_nil (x : Int) (m : AMem) : Ctr Try.prog 12 [.one .nilp, .one (.int .i64 x)] m (.tup [(true, u8l zB), (false, [.int .i64 2])]) m := by
  refine Ctr.enter Try.func12 rfl (by decide) (rs := [.cell 4 29, .tmp 5]) (nt := 34) rfl rfl fun hwf Q hQ => ?_
  refine AW.seq_k fun K hK => ?_
  refine AW.region (by decide) ?_
  simp only [push_cast, Nat.reduceAdd, Nat.reduceMul, Nat.reduceSub, Nat.reduceLeDiff, Nat.reduceLT, Nat.reduceEqDiff, Nat.reduceBEq, Nat.reduceBNe, Nat.reduceMod, Nat.reduceDiv, Int.reduceLE, Int.reduceLT, Int.reduceToNat, Int.reduceAdd, Int.reduceSub, Int.reduceMul, Int.reduceNeg, Int.reduceEq, Int.reduceBEq, Int.reduceBNe, ↓reduceIte, reduceCtorEq, String.reduceBNe, String.reduceEq, reduceDIte, Nat.reducePow]
  refine Thn_n ?_
  refine hK _ _ ?_
  clear hK K
  refine AW.seq_k fun K hK => ?_
  refine AW.seq_k fun K hK => ?_
  refine AW.region (by decide) ?_
  simp only [push_cast, Nat.reduceAdd, Nat.reduceMul, Nat.reduceSub, Nat.reduceLeDiff, Nat.reduceLT, Nat.reduceEqDiff, Nat.reduceBEq, Nat.reduceBNe, Nat.reduceMod, Nat.reduceDiv, Int.reduceLE, Int.reduceLT, Int.reduceToNat, Int.reduceAdd, Int.reduceSub, Int.reduceMul, Int.reduceNeg, Int.reduceEq, Int.reduceBEq, Int.reduceBNe, ↓reduceIte, reduceCtorEq, String.reduceBNe, String.reduceEq, reduceDIte, Nat.reducePow]
  refine CThen.by (in_nil x _) ?_
  simp only [push_cast, Nat.reduceAdd, Nat.reduceMul, Nat.reduceSub, Nat.reduceLeDiff, Nat.reduceLT, Nat.reduceEqDiff, Nat.reduceBEq, Nat.reduceBNe, Nat.reduceMod, Nat.reduceDiv, Int.reduceLE, Int.reduceLT, Int.reduceToNat, Int.reduceAdd, Int.reduceSub, Int.reduceMul, Int.reduceNeg, Int.reduceEq, Int.reduceBEq, Int.reduceBNe, ↓reduceIte, reduceCtorEq, String.reduceBNe, String.reduceEq, reduceDIte, Nat.reducePow]
  refine Thn_n ?_
  refine hK _ _ ?_
  clear hK K
  refine AW.seq_k fun K hK => ?_
  refine AW.region (by decide) ?_
  simp only [push_cast, Nat.reduceAdd, Nat.reduceMul, Nat.reduceSub, Nat.reduceLeDiff, Nat.reduceLT, Nat.reduceEqDiff, Nat.reduceBEq, Nat.reduceBNe, Nat.reduceMod, Nat.reduceDiv, Int.reduceLE, Int.reduceLT, Int.reduceToNat, Int.reduceAdd, Int.reduceSub, Int.reduceMul, Int.reduceNeg, Int.reduceEq, Int.reduceBEq, Int.reduceBNe, ↓reduceIte, reduceCtorEq, String.reduceBNe, String.reduceEq, reduceDIte, Nat.reducePow]
  refine Thn_n ?_
  refine hK _ _ ?_
  clear hK K
  refine AW.cond_t rfl ?_
  refine AW.seq_k fun K hK => ?_
  refine AW.region (by decide) ?_
  simp only [push_cast, Nat.reduceAdd, Nat.reduceMul, Nat.reduceSub, Nat.reduceLeDiff, Nat.reduceLT, Nat.reduceEqDiff, Nat.reduceBEq, Nat.reduceBNe, Nat.reduceMod, Nat.reduceDiv, Int.reduceLE, Int.reduceLT, Int.reduceToNat, Int.reduceAdd, Int.reduceSub, Int.reduceMul, Int.reduceNeg, Int.reduceEq, Int.reduceBEq, Int.reduceBNe, ↓reduceIte, reduceCtorEq, String.reduceBNe, String.reduceEq, reduceDIte, Nat.reducePow]
  refine Thn_n ?_
  refine hK _ _ ?_
  clear hK K
  refine AW.ret ?_
  refine Thn_r ?_
  refine hQ _ _ _ ?_
  refine RetP.drop (by first | exact Or.inr rfl | exact Or.inl rfl) ?_ ?_ hwf
  · simp only [resA, resOne, resTv, AV.tv, push_cast, Nat.reduceAdd, Nat.reduceMul, Nat.reduceSub, Nat.reduceLeDiff, Nat.reduceLT, Nat.reduceEqDiff, Nat.reduceBEq, Nat.reduceBNe, Nat.reduceMod, Nat.reduceDiv, Int.reduceLE, Int.reduceLT, Int.reduceToNat, Int.reduceAdd, Int.reduceSub, Int.reduceMul, Int.reduceNeg, Int.reduceEq, Int.reduceBEq, Int.reduceBNe, ↓reduceIte, reduceCtorEq, String.reduceBNe, String.reduceEq, reduceDIte, Nat.reducePow]
    try rfl
  · rfl
theorem rd_down (rd rs rm n : Nat) (D : DS) (x : Int) (m : AMem) (hrd : m[rd]? = some (drB rs rm n D)) (h : D.down = true) : Ctr Try.prog 12 [.one (.ptr rd 0 0), .one (.int .i64 x)] m (.tup [(true, u8l zB), (false, [.int .i64 5])]) m := by
  refine Ctr.enter Try.func12 rfl (by decide) (rs := [.cell 4 29, .tmp 5]) (nt := 34) rfl rfl fun hwf Q hQ => ?_
  refine AW.seq_k fun K hK => ?_
  refine AW.region (by decide) ?_
  simp only [push_cast, Nat.reduceAdd, Nat.reduceMul, Nat.reduceSub, Nat.reduceLeDiff, Nat.reduceLT, Nat.reduceEqDiff, Nat.reduceBEq, Nat.reduceBNe, Nat.reduceMod, Nat.reduceDiv, Int.reduceLE, Int.reduceLT, Int.reduceToNat, Int.reduceAdd, Int.reduceSub, Int.reduceMul, Int.reduceNeg, Int.reduceEq, Int.reduceBEq, Int.reduceBNe, ↓reduceIte, reduceCtorEq, String.reduceBNe, String.reduceEq, reduceDIte, Nat.reducePow]
  refine Thn_n ?_
  refine hK _ _ ?_
  clear hK K
  refine AW.seq_k fun K hK => ?_
  refine AW.seq_k fun K hK => ?_
  refine AW.region (by decide) ?_
  simp only [push_cast, Nat.reduceAdd, Nat.reduceMul, Nat.reduceSub, Nat.reduceLeDiff, Nat.reduceLT, Nat.reduceEqDiff, Nat.reduceBEq, Nat.reduceBNe, Nat.reduceMod, Nat.reduceDiv, Int.reduceLE, Int.reduceLT, Int.reduceToNat, Int.reduceAdd, Int.reduceSub, Int.reduceMul, Int.reduceNeg, Int.reduceEq, Int.reduceBEq, Int.reduceBNe, ↓reduceIte, reduceCtorEq, String.reduceBNe, String.reduceEq, reduceDIte, Nat.reducePow]
  refine CThen.by (in_down rd rs rm n D x _ (lk_old hrd _) h) ?_
  simp only [push_cast, Nat.reduceAdd, Nat.reduceMul, Nat.reduceSub, Nat.reduceLeDiff, Nat.reduceLT, Nat.reduceEqDiff, Nat.reduceBEq, Nat.reduceBNe, Nat.reduceMod, Nat.reduceDiv, Int.reduceLE, Int.reduceLT, Int.reduceToNat, Int.reduceAdd, Int.reduceSub, Int.reduceMul, Int.reduceNeg, Int.reduceEq, Int.reduceBEq, Int.reduceBNe, ↓reduceIte, reduceCtorEq, String.reduceBNe, String.reduceEq, reduceDIte, Nat.reducePow]
  refine Thn_n ?_
  refine hK _ _ ?_
  clear hK K
  refine AW.seq_k fun K hK => ?_
  refine AW.region (by decide) ?_
  simp only [push_cast, Nat.reduceAdd, Nat.reduceMul, Nat.reduceSub, Nat.reduceLeDiff, Nat.reduceLT, Nat.reduceEqDiff, Nat.reduceBEq, Nat.reduceBNe, Nat.reduceMod, Nat.reduceDiv, Int.reduceLE, Int.reduceLT, Int.reduceToNat, Int.reduceAdd, Int.reduceSub, Int.reduceMul, Int.reduceNeg, Int.reduceEq, Int.reduceBEq, Int.reduceBNe, ↓reduceIte, reduceCtorEq, String.reduceBNe, String.reduceEq, reduceDIte, Nat.reducePow]
  refine Thn_n ?_
  refine hK _ _ ?_
  clear hK K
  refine AW.cond_t rfl ?_
  refine AW.seq_k fun K hK => ?_
  refine AW.region (by decide) ?_
  simp only [push_cast, Nat.reduceAdd, Nat.reduceMul, Nat.reduceSub, Nat.reduceLeDiff, Nat.reduceLT, Nat.reduceEqDiff, Nat.reduceBEq, Nat.reduceBNe, Nat.reduceMod, Nat.reduceDiv, Int.reduceLE, Int.reduceLT, Int.reduceToNat, Int.reduceAdd, Int.reduceSub, Int.reduceMul, Int.reduceNeg, Int.reduceEq, Int.reduceBEq, Int.reduceBNe, ↓reduceIte, reduceCtorEq, String.reduceBNe, String.reduceEq, reduceDIte, Nat.reducePow]
  refine Thn_n ?_
  refine hK _ _ ?_
  clear hK K
  refine AW.ret ?_
  refine Thn_r ?_
  refine hQ _ _ _ ?_
  refine RetP.drop (by first | exact Or.inr rfl | exact Or.inl rfl) ?_ ?_ hwf
  · simp only [resA, resOne, resTv, AV.tv, push_cast, Nat.reduceAdd, Nat.reduceMul, Nat.reduceSub, Nat.reduceLeDiff, Nat.reduceLT, Nat.reduceEqDiff, Nat.reduceBEq, Nat.reduceBNe, Nat.reduceMod, Nat.reduceDiv, Int.reduceLE, Int.reduceLT, Int.reduceToNat, Int.reduceAdd, Int.reduceSub, Int.reduceMul, Int.reduceNeg, Int.reduceEq, Int.reduceBEq, Int.reduceBNe, ↓reduceIte, reduceCtorEq, String.reduceBNe, String.reduceEq, reduceDIte, Nat.reducePow]
    try rfl
  · rfl
theorem rd_lo (rd rs rm n : Nat) (D : DS) (x : Int) (m : AMem) (hrd : m[rd]? = some (drB rs rm n D)) (h : D.down = false) (h1 : x < 0) : Ctr Try.prog 12 [.one (.ptr rd 0 0), .one (.int .i64 x)] m (.tup [(true, u8l zB), (false, [.int .i64 1])]) m := by
  refine Ctr.enter Try.func12 rfl (by decide) (rs := [.cell 4 29, .tmp 5]) (nt := 34) rfl rfl fun hwf Q hQ => ?_
  refine AW.seq_k fun K hK => ?_
  refine AW.region (by decide) ?_
  simp only [push_cast, Nat.reduceAdd, Nat.reduceMul, Nat.reduceSub, Nat.reduceLeDiff, Nat.reduceLT, Nat.reduceEqDiff, Nat.reduceBEq, Nat.reduceBNe, Nat.reduceMod, Nat.reduceDiv, Int.reduceLE, Int.reduceLT, Int.reduceToNat, Int.reduceAdd, Int.reduceSub, Int.reduceMul, Int.reduceNeg, Int.reduceEq, Int.reduceBEq, Int.reduceBNe, ↓reduceIte, reduceCtorEq, String.reduceBNe, String.reduceEq, reduceDIte, Nat.reducePow]
  refine Thn_n ?_
  refine hK _ _ ?_
  clear hK K
  refine AW.seq_k fun K hK => ?_
  refine AW.seq_k fun K hK => ?_
  refine AW.region (by decide) ?_
  simp only [push_cast, Nat.reduceAdd, Nat.reduceMul, Nat.reduceSub, Nat.reduceLeDiff, Nat.reduceLT, Nat.reduceEqDiff, Nat.reduceBEq, Nat.reduceBNe, Nat.reduceMod, Nat.reduceDiv, Int.reduceLE, Int.reduceLT, Int.reduceToNat, Int.reduceAdd, Int.reduceSub, Int.reduceMul, Int.reduceNeg, Int.reduceEq, Int.reduceBEq, Int.reduceBNe, ↓reduceIte, reduceCtorEq, String.reduceBNe, String.reduceEq, reduceDIte, Nat.reducePow]
  refine CThen.by (in_lo rd rs rm n D x _ (lk_old hrd _) h h1) ?_
  simp only [push_cast, Nat.reduceAdd, Nat.reduceMul, Nat.reduceSub, Nat.reduceLeDiff, Nat.reduceLT, Nat.reduceEqDiff, Nat.reduceBEq, Nat.reduceBNe, Nat.reduceMod, Nat.reduceDiv, Int.reduceLE, Int.reduceLT, Int.reduceToNat, Int.reduceAdd, Int.reduceSub, Int.reduceMul, Int.reduceNeg, Int.reduceEq, Int.reduceBEq, Int.reduceBNe, ↓reduceIte, reduceCtorEq, String.reduceBNe, String.reduceEq, reduceDIte, Nat.reducePow]
  refine Thn_n ?_
  refine hK _ _ ?_
  clear hK K
  refine AW.seq_k fun K hK => ?_
  refine AW.region (by decide) ?_
  simp only [push_cast, Nat.reduceAdd, Nat.reduceMul, Nat.reduceSub, Nat.reduceLeDiff, Nat.reduceLT, Nat.reduceEqDiff, Nat.reduceBEq, Nat.reduceBNe, Nat.reduceMod, Nat.reduceDiv, Int.reduceLE, Int.reduceLT, Int.reduceToNat, Int.reduceAdd, Int.reduceSub, Int.reduceMul, Int.reduceNeg, Int.reduceEq, Int.reduceBEq, Int.reduceBNe, ↓reduceIte, reduceCtorEq, String.reduceBNe, String.reduceEq, reduceDIte, Nat.reducePow]
  refine Thn_n ?_
  refine hK _ _ ?_
  clear hK K
  refine AW.cond_t rfl ?_
  refine AW.seq_k fun K hK => ?_
  refine AW.region (by decide) ?_
  simp only [push_cast, Nat.reduceAdd, Nat.reduceMul, Nat.reduceSub, Nat.reduceLeDiff, Nat.reduceLT, Nat.reduceEqDiff, Nat.reduceBEq, Nat.reduceBNe, Nat.reduceMod, Nat.reduceDiv, Int.reduceLE, Int.reduceLT, Int.reduceToNat, Int.reduceAdd, Int.reduceSub, Int.reduceMul, Int.reduceNeg, Int.reduceEq, Int.reduceBEq, Int.reduceBNe, ↓reduceIte, reduceCtorEq, String.reduceBNe, String.reduceEq, reduceDIte, Nat.reducePow]
  refine Thn_n ?_
  refine hK _ _ ?_
  clear hK K
  refine AW.ret ?_
  refine Thn_r ?_
  refine hQ _ _ _ ?_
  refine RetP.drop (by first | exact Or.inr rfl | exact Or.inl rfl) ?_ ?_ hwf
  · simp only [resA, resOne, resTv, AV.tv, push_cast, Nat.reduceAdd, Nat.reduceMul, Nat.reduceSub, Nat.reduceLeDiff, Nat.reduceLT, Nat.reduceEqDiff, Nat.reduceBEq, Nat.reduceBNe, Nat.reduceMod, Nat.reduceDiv, Int.reduceLE, Int.reduceLT, Int.reduceToNat, Int.reduceAdd, Int.reduceSub, Int.reduceMul, Int.reduceNeg, Int.reduceEq, Int.reduceBEq, Int.reduceBNe, ↓reduceIte, reduceCtorEq, String.reduceBNe, String.reduceEq, reduceDIte, Nat.reducePow]
    try rfl
  · rfl
theorem rd_hi (rd rs rm n : Nat) (D : DS) (x : Int) (m : AMem) (hrd : m[rd]? = some (drB rs rm n D)) (h : D.down = false) (h1 : ¬ x < 0) (h2 : (n : Int) ≤ x) : Ctr Try.prog 12 [.one (.ptr rd 0 0), .one (.int .i64 x)] m (.tup [(true, u8l zB), (false, [.int .i64 1])]) m := by
  refine Ctr.enter Try.func12 rfl (by decide) (rs := [.cell 4 29, .tmp 5]) (nt := 34) rfl rfl fun hwf Q hQ => ?_
  refine AW.seq_k fun K hK => ?_
  refine AW.region (by decide) ?_
  simp only [push_cast, Nat.reduceAdd, Nat.reduceMul, Nat.reduceSub, Nat.reduceLeDiff, Nat.reduceLT, Nat.reduceEqDiff, Nat.reduceBEq, Nat.reduceBNe, Nat.reduceMod, Nat.reduceDiv, Int.reduceLE, Int.reduceLT, Int.reduceToNat, Int.reduceAdd, Int.reduceSub, Int.reduceMul, Int.reduceNeg, Int.reduceEq, Int.reduceBEq, Int.reduceBNe, ↓reduceIte, reduceCtorEq, String.reduceBNe, String.reduceEq, reduceDIte, Nat.reducePow]
  refine Thn_n ?_
  refine hK _ _ ?_
  clear hK K
  refine AW.seq_k fun K hK => ?_
  refine AW.seq_k fun K hK => ?_
  refine AW.region (by decide) ?_
  simp only [push_cast, Nat.reduceAdd, Nat.reduceMul, Nat.reduceSub, Nat.reduceLeDiff, Nat.reduceLT, Nat.reduceEqDiff, Nat.reduceBEq, Nat.reduceBNe, Nat.reduceMod, Nat.reduceDiv, Int.reduceLE, Int.reduceLT, Int.reduceToNat, Int.reduceAdd, Int.reduceSub, Int.reduceMul, Int.reduceNeg, Int.reduceEq, Int.reduceBEq, Int.reduceBNe, ↓reduceIte, reduceCtorEq, String.reduceBNe, String.reduceEq, reduceDIte, Nat.reducePow]
  refine CThen.by (in_hi rd rs rm n D x _ (lk_old hrd _) h h1 h2) ?_
  simp only [push_cast, Nat.reduceAdd, Nat.reduceMul, Nat.reduceSub, Nat.reduceLeDiff, Nat.reduceLT, Nat.reduceEqDiff, Nat.reduceBEq, Nat.reduceBNe, Nat.reduceMod, Nat.reduceDiv, Int.reduceLE, Int.reduceLT, Int.reduceToNat, Int.reduceAdd, Int.reduceSub, Int.reduceMul, Int.reduceNeg, Int.reduceEq, Int.reduceBEq, Int.reduceBNe, ↓reduceIte, reduceCtorEq, String.reduceBNe, String.reduceEq, reduceDIte, Nat.reducePow]
  refine Thn_n ?_
  refine hK _ _ ?_
  clear hK K
  refine AW.seq_k fun K hK => ?_
  refine AW.region (by decide) ?_
  simp only [push_cast, Nat.reduceAdd, Nat.reduceMul, Nat.reduceSub, Nat.reduceLeDiff, Nat.reduceLT, Nat.reduceEqDiff, Nat.reduceBEq, Nat.reduceBNe, Nat.reduceMod, Nat.reduceDiv, Int.reduceLE, Int.reduceLT, Int.reduceToNat, Int.reduceAdd, Int.reduceSub, Int.reduceMul, Int.reduceNeg, Int.reduceEq, Int.reduceBEq, Int.reduceBNe, ↓reduceIte, reduceCtorEq, String.reduceBNe, String.reduceEq, reduceDIte, Nat.reducePow]
  refine Thn_n ?_
  refine hK _ _ ?_
  clear hK K
  refine AW.cond_t rfl ?_
  refine AW.seq_k fun K hK => ?_
  refine AW.region (by decide) ?_
  simp only [push_cast, Nat.reduceAdd, Nat.reduceMul, Nat.reduceSub, Nat.reduceLeDiff, Nat.reduceLT, Nat.reduceEqDiff, Nat.reduceBEq, Nat.reduceBNe, Nat.reduceMod, Nat.reduceDiv, Int.reduceLE, Int.reduceLT, Int.reduceToNat, Int.reduceAdd, Int.reduceSub, Int.reduceMul, Int.reduceNeg, Int.reduceEq, Int.reduceBEq, Int.reduceBNe, ↓reduceIte, reduceCtorEq, String.reduceBNe, String.reduceEq, reduceDIte, Nat.reducePow]
  refine Thn_n ?_
  refine hK _ _ ?_
  clear hK K
  refine AW.ret ?_
  refine Thn_r ?_
  refine hQ _ _ _ ?_
  refine RetP.drop (by first | exact Or.inr rfl | exact Or.inl rfl) ?_ ?_ hwf
  · simp only [resA, resOne, resTv, AV.tv, push_cast, Nat.reduceAdd, Nat.reduceMul, Nat.reduceSub, Nat.reduceLeDiff, Nat.reduceLT, Nat.reduceEqDiff, Nat.reduceBEq, Nat.reduceBNe, Nat.reduceMod, Nat.reduceDiv, Int.reduceLE, Int.reduceLT, Int.reduceToNat, Int.reduceAdd, Int.reduceSub, Int.reduceMul, Int.reduceNeg, Int.reduceEq, Int.reduceBEq, Int.reduceBNe, ↓reduceIte, reduceCtorEq, String.reduceBNe, String.reduceEq, reduceDIte, Nat.reducePow]
    try rfl
  · rfl
theorem rd_ok (rd rs rm n k : Nat) (D : DS) (m : AMem) (h : HasD m rd rs rm n D) (hwd : WfD n D) (hd : D.down = false) (hk : k < n) : Ctr Try.prog 12 [.one (.ptr rd 0 0), .one (.int .i64 (k : Int))] m (.tup [(true, u8l (vis D.S D.E k)), (false, [.int .i64 0])]) m := by
  refine Ctr.enter Try.func12 rfl (by decide) (rs := [.cell 4 29, .tmp 5]) (nt := 34) rfl rfl fun hwf Q hQ => ?_
  have hrd := h.d
  have hrs := h.r
  have hrm := h.m
  have ld := get_lt hrd
  have lr := get_lt hrs
  have lm := get_lt hrm
  have ndr : rd ≠ rs := h.dr
  have ndm : rd ≠ rm := h.dm
  have nrm : rs ≠ rm := h.rm
  have nrd := ndr.symm
  have nmd := ndm.symm
  have nmr := nrm.symm
  have oD := fun (L : AMem) => mk_olds (m := m) (l := m) rfl ld L
  have oR := fun (L : AMem) => mk_olds (m := m) (l := m) rfl lr L
  have oM := fun (L : AMem) => mk_olds (m := m) (l := m) rfl lm L
  have pD := fun (l L : AMem) (e : l.length = m.length) => mk_olds (m := m) (l := l) (r := rd) e ld L
  have pR := fun (l L : AMem) (e : l.length = m.length) => mk_olds (m := m) (l := l) (r := rs) e lr L
  have pM := fun (l L : AMem) (e : l.length = m.length) => mk_olds (m := m) (l := l) (r := rm) e lm L
  have gD := fun (l L : AMem) (e : l.length = m.length) => mk_old (m := m) (l := l) (r := rd) e ld L
  have gR := fun (l L : AMem) (e : l.length = m.length) => mk_old (m := m) (l := l) (r := rs) e lr L
  have gM := fun (l L : AMem) (e : l.length = m.length) => mk_old (m := m) (l := l) (r := rm) e lm L
  have sD := fun (l : AMem) (b : Blk) (e : l.length = m.length) => mk_self (m := m) (l := l) (r := rd) e ld b
  have sR := fun (l : AMem) (b : Blk) (e : l.length = m.length) => mk_self (m := m) (l := l) (r := rs) e lr b
  have sM := fun (l : AMem) (b : Blk) (e : l.length = m.length) => mk_self (m := m) (l := l) (r := rm) e lm b
  have aA := fun (l L : AMem) (e : l.length = m.length) => mk_lk0 (m := m) (l := l) e L
  have aK := fun (l L : AMem) (k : Nat) (e : l.length = m.length) => mk_lk (m := m) (l := l) e L k
  have aT := fun (l L : AMem) (k : Nat) (b : Blk) (e : l.length = m.length) => mk_set (m := m) (l := l) e L k b
  have aS := fun (l L : AMem) (b : Blk) (e : l.length = m.length) => mk_set0 (m := m) (l := l) e L b
  have hz : zeros zV 128 = [.int .u8 0, .int .u8 0, .int .u8 0, .int .u8 0, .int .u8 0, .int .u8 0, .int .u8 0, .int .u8 0, .int .u8 0, .int .u8 0, .int .u8 0, .int .u8 0, .int .u8 0, .int .u8 0, .int .u8 0, .int .u8 0, .int .u8 0, .int .u8 0, .int .u8 0, .int .u8 0, .int .u8 0, .int .u8 0, .int .u8 0, .int .u8 0, .int .u8 0, .int .u8 0, .int .u8 0, .int .u8 0, .int .u8 0, .int .u8 0, .int .u8 0, .int .u8 0, .int .u8 0, .int .u8 0, .int .u8 0, .int .u8 0, .int .u8 0, .int .u8 0, .int .u8 0, .int .u8 0, .int .u8 0, .int .u8 0, .int .u8 0, .int .u8 0, .int .u8 0, .int .u8 0, .int .u8 0, .int .u8 0, .int .u8 0, .int .u8 0, .int .u8 0, .int .u8 0, .int .u8 0, .int .u8 0, .int .u8 0, .int .u8 0, .int .u8 0, .int .u8 0, .int .u8 0, .int .u8 0, .int .u8 0, .int .u8 0, .int .u8 0, .int .u8 0, .int .u8 0, .int .u8 0, .int .u8 0, .int .u8 0, .int .u8 0, .int .u8 0, .int .u8 0, .int .u8 0, .int .u8 0, .int .u8 0, .int .u8 0, .int .u8 0, .int .u8 0, .int .u8 0, .int .u8 0, .int .u8 0, .int .u8 0, .int .u8 0, .int .u8 0, .int .u8 0, .int .u8 0, .int .u8 0, .int .u8 0, .int .u8 0, .int .u8 0, .int .u8 0, .int .u8 0, .int .u8 0, .int .u8 0, .int .u8 0, .int .u8 0, .int .u8 0, .int .u8 0, .int .u8 0, .int .u8 0, .int .u8 0, .int .u8 0, .int .u8 0, .int .u8 0, .int .u8 0, .int .u8 0, .int .u8 0, .int .u8 0, .int .u8 0, .int .u8 0, .int .u8 0, .int .u8 0, .int .u8 0, .int .u8 0, .int .u8 0, .int .u8 0, .int .u8 0, .int .u8 0, .int .u8 0, .int .u8 0, .int .u8 0, .int .u8 0, .int .u8 0, .int .u8 0, .int .u8 0, .int .u8 0, .int .u8 0, .int .u8 0, .int .u8 0] := by decide
  have q1 : (0 : Int) ≤ (k : Int) := by omega
  have q2 : (k : Int) < (n : Int) := by omega
  have q3 : k * 128 + 128 ≤ n * 128 := by omega
  have hcl : (u8l (catB n D.S)).length = n * 128 := by rw [u8l_len, catB_len hwd.s]
  have hca := catB_at hwd.s hk
  have hs1 : (u8l (D.S k)).length = 128 := by rw [u8l_len, hwd.s k]
  have hs2 : (u8l (D.S k)).take 128 = u8l (D.S k) := List.take_of_length_le (by omega)
  have hs3 := u8l_vals (D.S k)
  have hs4 : setL [.int .u8 0, .int .u8 0, .int .u8 0, .int .u8 0, .int .u8 0, .int .u8 0, .int .u8 0, .int .u8 0, .int .u8 0, .int .u8 0, .int .u8 0, .int .u8 0, .int .u8 0, .int .u8 0, .int .u8 0, .int .u8 0, .int .u8 0, .int .u8 0, .int .u8 0, .int .u8 0, .int .u8 0, .int .u8 0, .int .u8 0, .int .u8 0, .int .u8 0, .int .u8 0, .int .u8 0, .int .u8 0, .int .u8 0, .int .u8 0, .int .u8 0, .int .u8 0, .int .u8 0, .int .u8 0, .int .u8 0, .int .u8 0, .int .u8 0, .int .u8 0, .int .u8 0, .int .u8 0, .int .u8 0, .int .u8 0, .int .u8 0, .int .u8 0, .int .u8 0, .int .u8 0, .int .u8 0, .int .u8 0, .int .u8 0, .int .u8 0, .int .u8 0, .int .u8 0, .int .u8 0, .int .u8 0, .int .u8 0, .int .u8 0, .int .u8 0, .int .u8 0, .int .u8 0, .int .u8 0, .int .u8 0, .int .u8 0, .int .u8 0, .int .u8 0, .int .u8 0, .int .u8 0, .int .u8 0, .int .u8 0, .int .u8 0, .int .u8 0, .int .u8 0, .int .u8 0, .int .u8 0, .int .u8 0, .int .u8 0, .int .u8 0, .int .u8 0, .int .u8 0, .int .u8 0, .int .u8 0, .int .u8 0, .int .u8 0, .int .u8 0, .int .u8 0, .int .u8 0, .int .u8 0, .int .u8 0, .int .u8 0, .int .u8 0, .int .u8 0, .int .u8 0, .int .u8 0, .int .u8 0, .int .u8 0, .int .u8 0, .int .u8 0, .int .u8 0, .int .u8 0, .int .u8 0, .int .u8 0, .int .u8 0, .int .u8 0, .int .u8 0, .int .u8 0, .int .u8 0, .int .u8 0, .int .u8 0, .int .u8 0, .int .u8 0, .int .u8 0, .int .u8 0, .int .u8 0, .int .u8 0, .int .u8 0, .int .u8 0, .int .u8 0, .int .u8 0, .int .u8 0, .int .u8 0, .int .u8 0, .int .u8 0, .int .u8 0, .int .u8 0, .int .u8 0, .int .u8 0, .int .u8 0, .int .u8 0, .int .u8 0] 0 (u8l (D.S k)) = u8l (D.S k) := setL_all (by rw [hs1]; rfl)
  refine AW.seq_k fun K hK => ?_
  refine AW.region (by decide) ?_
  simp only [push_cast, Nat.reduceAdd, Nat.reduceMul, Nat.reduceSub, Nat.reduceLeDiff, Nat.reduceLT, Nat.reduceEqDiff, Nat.reduceBEq, Nat.reduceBNe, Nat.reduceMod, Nat.reduceDiv, Int.reduceLE, Int.reduceLT, Int.reduceToNat, Int.reduceAdd, Int.reduceSub, Int.reduceMul, Int.reduceNeg, Int.reduceEq, Int.reduceBEq, Int.reduceBNe, ↓reduceIte, reduceCtorEq, String.reduceBNe, String.reduceEq, reduceDIte, Nat.reducePow, q1, q2, q3, hcl, hca, hs1, hs2, hs3, hs4, Int.toNat_natCast, hrd, hrs, hrm, pD, pR, pM, gD, gR, gM, sD, sR, sM, aA, aS, aK, aT, List.set_set, List.length_set, List.getElem?_set_ne ndr, List.getElem?_set_ne ndm, List.getElem?_set_ne nrm, List.getElem?_set_ne nrd, List.getElem?_set_ne nmd, List.getElem?_set_ne nmr, drB, rowD, mapD]
  refine Thn_n ?_
  refine hK _ _ ?_
  clear hK K
  refine AW.seq_k fun K hK => ?_
  refine AW.seq_k fun K hK => ?_
  refine AW.region (by decide) ?_
  simp only [push_cast, Nat.reduceAdd, Nat.reduceMul, Nat.reduceSub, Nat.reduceLeDiff, Nat.reduceLT, Nat.reduceEqDiff, Nat.reduceBEq, Nat.reduceBNe, Nat.reduceMod, Nat.reduceDiv, Int.reduceLE, Int.reduceLT, Int.reduceToNat, Int.reduceAdd, Int.reduceSub, Int.reduceMul, Int.reduceNeg, Int.reduceEq, Int.reduceBEq, Int.reduceBNe, ↓reduceIte, reduceCtorEq, String.reduceBNe, String.reduceEq, reduceDIte, Nat.reducePow, q1, q2, q3, hcl, hca, hs1, hs2, hs3, hs4, Int.toNat_natCast, hrd, hrs, hrm, pD, pR, pM, gD, gR, gM, sD, sR, sM, aA, aS, aK, aT, List.set_set, List.length_set, List.getElem?_set_ne ndr, List.getElem?_set_ne ndm, List.getElem?_set_ne nrm, List.getElem?_set_ne nrd, List.getElem?_set_ne nmd, List.getElem?_set_ne nmr, drB, rowD, mapD]
  refine CThen.by (in_ok rd rs rm n D (k : Int) _ (lk_old h.d _) hd (by omega) (by omega)) ?_
  simp only [push_cast, Nat.reduceAdd, Nat.reduceMul, Nat.reduceSub, Nat.reduceLeDiff, Nat.reduceLT, Nat.reduceEqDiff, Nat.reduceBEq, Nat.reduceBNe, Nat.reduceMod, Nat.reduceDiv, Int.reduceLE, Int.reduceLT, Int.reduceToNat, Int.reduceAdd, Int.reduceSub, Int.reduceMul, Int.reduceNeg, Int.reduceEq, Int.reduceBEq, Int.reduceBNe, ↓reduceIte, reduceCtorEq, String.reduceBNe, String.reduceEq, reduceDIte, Nat.reducePow, q1, q2, q3, hcl, hca, hs1, hs2, hs3, hs4, Int.toNat_natCast, hrd, hrs, hrm, pD, pR, pM, gD, gR, gM, sD, sR, sM, aA, aS, aK, aT, List.set_set, List.length_set, List.getElem?_set_ne ndr, List.getElem?_set_ne ndm, List.getElem?_set_ne nrm, List.getElem?_set_ne nrd, List.getElem?_set_ne nmd, List.getElem?_set_ne nmr, drB, rowD, mapD]
  refine Thn_n ?_
  refine hK _ _ ?_
  clear hK K
  refine AW.seq_k fun K hK => ?_
  refine AW.region (by decide) ?_
  simp only [push_cast, Nat.reduceAdd, Nat.reduceMul, Nat.reduceSub, Nat.reduceLeDiff, Nat.reduceLT, Nat.reduceEqDiff, Nat.reduceBEq, Nat.reduceBNe, Nat.reduceMod, Nat.reduceDiv, Int.reduceLE, Int.reduceLT, Int.reduceToNat, Int.reduceAdd, Int.reduceSub, Int.reduceMul, Int.reduceNeg, Int.reduceEq, Int.reduceBEq, Int.reduceBNe, ↓reduceIte, reduceCtorEq, String.reduceBNe, String.reduceEq, reduceDIte, Nat.reducePow, q1, q2, q3, hcl, hca, hs1, hs2, hs3, hs4, Int.toNat_natCast, hrd, hrs, hrm, pD, pR, pM, gD, gR, gM, sD, sR, sM, aA, aS, aK, aT, List.set_set, List.length_set, List.getElem?_set_ne ndr, List.getElem?_set_ne ndm, List.getElem?_set_ne nrm, List.getElem?_set_ne nrd, List.getElem?_set_ne nmd, List.getElem?_set_ne nmr, drB, rowD, mapD]
  refine Thn_n ?_
  refine hK _ _ ?_
  clear hK K
  refine AW.cond_f rfl ?_
  refine AW.skip ?_
  refine Thn_n ?_
  refine hK _ _ ?_
  clear hK K
  refine AW.seq_k fun K hK => ?_
  refine AW.seq_k fun K hK => ?_
  rcases hf : fndE (k : Int) D.E with _ | j
  · have g1 := findL_eL (k : Int) D.E
    rw [hf] at g1
    have hvis : vis D.S D.E k = D.S k := by unfold vis; rw [lkE_none hf]; rfl
    refine AW.region (by decide) ?_
    simp only [push_cast, Nat.reduceAdd, Nat.reduceMul, Nat.reduceSub, Nat.reduceLeDiff, Nat.reduceLT, Nat.reduceEqDiff, Nat.reduceBEq, Nat.reduceBNe, Nat.reduceMod, Nat.reduceDiv, Int.reduceLE, Int.reduceLT, Int.reduceToNat, Int.reduceAdd, Int.reduceSub, Int.reduceMul, Int.reduceNeg, Int.reduceEq, Int.reduceBEq, Int.reduceBNe, ↓reduceIte, reduceCtorEq, String.reduceBNe, String.reduceEq, reduceDIte, Nat.reducePow, q1, q2, q3, hcl, hca, hs1, hs2, hs3, hs4, Int.toNat_natCast, hrd, hrs, hrm, pD, pR, pM, gD, gR, gM, sD, sR, sM, aA, aS, aK, aT, List.set_set, List.length_set, List.getElem?_set_ne ndr, List.getElem?_set_ne ndm, List.getElem?_set_ne nrm, List.getElem?_set_ne nrd, List.getElem?_set_ne nmd, List.getElem?_set_ne nmr, drB, rowD, mapD, g1]
    refine Thn_n ?_
    refine hK _ _ ?_
    clear hK K
    refine AW.seq_k fun K hK => ?_
    refine AW.region (by decide) ?_
    simp only [push_cast, Nat.reduceAdd, Nat.reduceMul, Nat.reduceSub, Nat.reduceLeDiff, Nat.reduceLT, Nat.reduceEqDiff, Nat.reduceBEq, Nat.reduceBNe, Nat.reduceMod, Nat.reduceDiv, Int.reduceLE, Int.reduceLT, Int.reduceToNat, Int.reduceAdd, Int.reduceSub, Int.reduceMul, Int.reduceNeg, Int.reduceEq, Int.reduceBEq, Int.reduceBNe, ↓reduceIte, reduceCtorEq, String.reduceBNe, String.reduceEq, reduceDIte, Nat.reducePow, q1, q2, q3, hcl, hca, hs1, hs2, hs3, hs4, Int.toNat_natCast, hrd, hrs, hrm, pD, pR, pM, gD, gR, gM, sD, sR, sM, aA, aS, aK, aT, List.set_set, List.length_set, List.getElem?_set_ne ndr, List.getElem?_set_ne ndm, List.getElem?_set_ne nrm, List.getElem?_set_ne nrd, List.getElem?_set_ne nmd, List.getElem?_set_ne nmr, drB, rowD, mapD, g1]
    refine Thn_n ?_
    refine hK _ _ ?_
    clear hK K
    refine AW.cond_f rfl ?_
    refine AW.skip ?_
    refine Thn_n ?_
    refine hK _ _ ?_
    clear hK K
    refine AW.seq_k fun K hK => ?_
    refine AW.region (by decide) ?_
    simp only [push_cast, Nat.reduceAdd, Nat.reduceMul, Nat.reduceSub, Nat.reduceLeDiff, Nat.reduceLT, Nat.reduceEqDiff, Nat.reduceBEq, Nat.reduceBNe, Nat.reduceMod, Nat.reduceDiv, Int.reduceLE, Int.reduceLT, Int.reduceToNat, Int.reduceAdd, Int.reduceSub, Int.reduceMul, Int.reduceNeg, Int.reduceEq, Int.reduceBEq, Int.reduceBNe, ↓reduceIte, reduceCtorEq, String.reduceBNe, String.reduceEq, reduceDIte, Nat.reducePow, q1, q2, q3, hcl, hca, hs1, hs2, hs3, hs4, Int.toNat_natCast, hrd, hrs, hrm, pD, pR, pM, gD, gR, gM, sD, sR, sM, aA, aS, aK, aT, List.set_set, List.length_set, List.getElem?_set_ne ndr, List.getElem?_set_ne ndm, List.getElem?_set_ne nrm, List.getElem?_set_ne nrd, List.getElem?_set_ne nmd, List.getElem?_set_ne nmr, drB, rowD, mapD, g1]
    refine Thn_n ?_
    refine hK _ _ ?_
    clear hK K
    refine AW.ret ?_
    refine hQ _ _ _ ?_
    rw [hvis]
    refine RetP.drop (by first | exact Or.inr rfl | exact Or.inl rfl) ?_ ?_ hwf
    · simp only [resA, resOne, resTv, AV.tv, push_cast, Nat.reduceAdd, Nat.reduceMul, Nat.reduceSub, Nat.reduceLeDiff, Nat.reduceLT, Nat.reduceEqDiff, Nat.reduceBEq, Nat.reduceBNe, Nat.reduceMod, Nat.reduceDiv, Int.reduceLE, Int.reduceLT, Int.reduceToNat, Int.reduceAdd, Int.reduceSub, Int.reduceMul, Int.reduceNeg, Int.reduceEq, Int.reduceBEq, Int.reduceBNe, ↓reduceIte, reduceCtorEq, String.reduceBNe, String.reduceEq, reduceDIte, Nat.reducePow, hs1, hs2, hs3, hs4]
      try simp only [g5, g6, Nat.le_refl, AV.tv, push_cast, Nat.reduceAdd, Nat.reduceMul, Nat.reduceSub, Nat.reduceLeDiff, Nat.reduceLT, Nat.reduceEqDiff, Nat.reduceBEq, Nat.reduceBNe, Nat.reduceMod, Nat.reduceDiv, Int.reduceLE, Int.reduceLT, Int.reduceToNat, Int.reduceAdd, Int.reduceSub, Int.reduceMul, Int.reduceNeg, Int.reduceEq, Int.reduceBEq, Int.reduceBNe, ↓reduceIte, reduceCtorEq, String.reduceBNe, String.reduceEq, reduceDIte, Nat.reducePow]
    · simp only [AV.below, List.all_cons, List.all_nil, CV.below, u8l_below, Bool.and_self]
  · have g1 := findL_eL (k : Int) D.E
    rw [hf] at g1
    obtain ⟨b, w, hj, hl⟩ := fndE_some hf
    have g4 := eL_get hj
    simp only [eC] at g4
    have hw128 := hwd.e.len _ (List.mem_of_getElem? hj)
    dsimp only at hw128
    have g5 : (u8l w).length = 128 := by rw [u8l_len]; exact hw128
    have g6 : (u8l w).take 128 = u8l w := List.take_of_length_le (by omega)
    have g7 := u8l_vals w
    have g8 : setL [.int .u8 0, .int .u8 0, .int .u8 0, .int .u8 0, .int .u8 0, .int .u8 0, .int .u8 0, .int .u8 0, .int .u8 0, .int .u8 0, .int .u8 0, .int .u8 0, .int .u8 0, .int .u8 0, .int .u8 0, .int .u8 0, .int .u8 0, .int .u8 0, .int .u8 0, .int .u8 0, .int .u8 0, .int .u8 0, .int .u8 0, .int .u8 0, .int .u8 0, .int .u8 0, .int .u8 0, .int .u8 0, .int .u8 0, .int .u8 0, .int .u8 0, .int .u8 0, .int .u8 0, .int .u8 0, .int .u8 0, .int .u8 0, .int .u8 0, .int .u8 0, .int .u8 0, .int .u8 0, .int .u8 0, .int .u8 0, .int .u8 0, .int .u8 0, .int .u8 0, .int .u8 0, .int .u8 0, .int .u8 0, .int .u8 0, .int .u8 0, .int .u8 0, .int .u8 0, .int .u8 0, .int .u8 0, .int .u8 0, .int .u8 0, .int .u8 0, .int .u8 0, .int .u8 0, .int .u8 0, .int .u8 0, .int .u8 0, .int .u8 0, .int .u8 0, .int .u8 0, .int .u8 0, .int .u8 0, .int .u8 0, .int .u8 0, .int .u8 0, .int .u8 0, .int .u8 0, .int .u8 0, .int .u8 0, .int .u8 0, .int .u8 0, .int .u8 0, .int .u8 0, .int .u8 0, .int .u8 0, .int .u8 0, .int .u8 0, .int .u8 0, .int .u8 0, .int .u8 0, .int .u8 0, .int .u8 0, .int .u8 0, .int .u8 0, .int .u8 0, .int .u8 0, .int .u8 0, .int .u8 0, .int .u8 0, .int .u8 0, .int .u8 0, .int .u8 0, .int .u8 0, .int .u8 0, .int .u8 0, .int .u8 0, .int .u8 0, .int .u8 0, .int .u8 0, .int .u8 0, .int .u8 0, .int .u8 0, .int .u8 0, .int .u8 0, .int .u8 0, .int .u8 0, .int .u8 0, .int .u8 0, .int .u8 0, .int .u8 0, .int .u8 0, .int .u8 0, .int .u8 0, .int .u8 0, .int .u8 0, .int .u8 0, .int .u8 0, .int .u8 0, .int .u8 0, .int .u8 0, .int .u8 0, .int .u8 0, .int .u8 0] 0 (u8l w) = u8l w := setL_all (by rw [g5]; rfl)
    have hvis : vis D.S D.E k = w := by unfold vis lkE; rw [hl]; rfl
    refine AW.region (by decide) ?_
    simp only [push_cast, Nat.reduceAdd, Nat.reduceMul, Nat.reduceSub, Nat.reduceLeDiff, Nat.reduceLT, Nat.reduceEqDiff, Nat.reduceBEq, Nat.reduceBNe, Nat.reduceMod, Nat.reduceDiv, Int.reduceLE, Int.reduceLT, Int.reduceToNat, Int.reduceAdd, Int.reduceSub, Int.reduceMul, Int.reduceNeg, Int.reduceEq, Int.reduceBEq, Int.reduceBNe, ↓reduceIte, reduceCtorEq, String.reduceBNe, String.reduceEq, reduceDIte, Nat.reducePow, q1, q2, q3, hcl, hca, hs1, hs2, hs3, hs4, Int.toNat_natCast, hrd, hrs, hrm, pD, pR, pM, gD, gR, gM, sD, sR, sM, aA, aS, aK, aT, List.set_set, List.length_set, List.getElem?_set_ne ndr, List.getElem?_set_ne ndm, List.getElem?_set_ne nrm, List.getElem?_set_ne nrd, List.getElem?_set_ne nmd, List.getElem?_set_ne nmr, drB, rowD, mapD, g1, g4, g5, g6, g7, g8]
    refine Thn_n ?_
    refine hK _ _ ?_
    clear hK K
    refine AW.seq_k fun K hK => ?_
    refine AW.region (by decide) ?_
    simp only [push_cast, Nat.reduceAdd, Nat.reduceMul, Nat.reduceSub, Nat.reduceLeDiff, Nat.reduceLT, Nat.reduceEqDiff, Nat.reduceBEq, Nat.reduceBNe, Nat.reduceMod, Nat.reduceDiv, Int.reduceLE, Int.reduceLT, Int.reduceToNat, Int.reduceAdd, Int.reduceSub, Int.reduceMul, Int.reduceNeg, Int.reduceEq, Int.reduceBEq, Int.reduceBNe, ↓reduceIte, reduceCtorEq, String.reduceBNe, String.reduceEq, reduceDIte, Nat.reducePow, q1, q2, q3, hcl, hca, hs1, hs2, hs3, hs4, Int.toNat_natCast, hrd, hrs, hrm, pD, pR, pM, gD, gR, gM, sD, sR, sM, aA, aS, aK, aT, List.set_set, List.length_set, List.getElem?_set_ne ndr, List.getElem?_set_ne ndm, List.getElem?_set_ne nrm, List.getElem?_set_ne nrd, List.getElem?_set_ne nmd, List.getElem?_set_ne nmr, drB, rowD, mapD, g1, g4, g5, g6, g7, g8]
    refine Thn_n ?_
    refine hK _ _ ?_
    clear hK K
    refine AW.cond_t rfl ?_
    refine AW.seq_k fun K hK => ?_
    refine AW.region (by decide) ?_
    simp only [push_cast, Nat.reduceAdd, Nat.reduceMul, Nat.reduceSub, Nat.reduceLeDiff, Nat.reduceLT, Nat.reduceEqDiff, Nat.reduceBEq, Nat.reduceBNe, Nat.reduceMod, Nat.reduceDiv, Int.reduceLE, Int.reduceLT, Int.reduceToNat, Int.reduceAdd, Int.reduceSub, Int.reduceMul, Int.reduceNeg, Int.reduceEq, Int.reduceBEq, Int.reduceBNe, ↓reduceIte, reduceCtorEq, String.reduceBNe, String.reduceEq, reduceDIte, Nat.reducePow, q1, q2, q3, hcl, hca, hs1, hs2, hs3, hs4, Int.toNat_natCast, hrd, hrs, hrm, pD, pR, pM, gD, gR, gM, sD, sR, sM, aA, aS, aK, aT, List.set_set, List.length_set, List.getElem?_set_ne ndr, List.getElem?_set_ne ndm, List.getElem?_set_ne nrm, List.getElem?_set_ne nrd, List.getElem?_set_ne nmd, List.getElem?_set_ne nmr, drB, rowD, mapD, g1, g4, g5, g6, g7, g8]
    refine Thn_n ?_
    refine hK _ _ ?_
    clear hK K
    refine AW.ret ?_
    refine Thn_r ?_
    refine hQ _ _ _ ?_
    rw [hvis]
    refine RetP.drop (by first | exact Or.inr rfl | exact Or.inl rfl) ?_ ?_ hwf
    · simp only [resA, resOne, resTv, AV.tv, push_cast, Nat.reduceAdd, Nat.reduceMul, Nat.reduceSub, Nat.reduceLeDiff, Nat.reduceLT, Nat.reduceEqDiff, Nat.reduceBEq, Nat.reduceBNe, Nat.reduceMod, Nat.reduceDiv, Int.reduceLE, Int.reduceLT, Int.reduceToNat, Int.reduceAdd, Int.reduceSub, Int.reduceMul, Int.reduceNeg, Int.reduceEq, Int.reduceBEq, Int.reduceBNe, ↓reduceIte, reduceCtorEq, String.reduceBNe, String.reduceEq, reduceDIte, Nat.reducePow, hs1, hs2, hs3, hs4]
      try simp only [g5, g6, Nat.le_refl, AV.tv, push_cast, Nat.reduceAdd, Nat.reduceMul, Nat.reduceSub, Nat.reduceLeDiff, Nat.reduceLT, Nat.reduceEqDiff, Nat.reduceBEq, Nat.reduceBNe, Nat.reduceMod, Nat.reduceDiv, Int.reduceLE, Int.reduceLT, Int.reduceToNat, Int.reduceAdd, Int.reduceSub, Int.reduceMul, Int.reduceNeg, Int.reduceEq, Int.reduceBEq, Int.reduceBNe, ↓reduceIte, reduceCtorEq, String.reduceBNe, String.reduceEq, reduceDIte, Nat.reducePow]
    · simp only [AV.below, List.all_cons, List.all_nil, CV.below, u8l_below, Bool.and_self]
end Go.Proofs.Ytcahlnddcjifdaa

set_option linter.unusedSimpArgs false
set_option linter.unusedVariables false
set_option maxRecDepth 100000
set_option maxHeartbeats 4000000
namespace Go.Proofs.Ytcahlnddcjifdaa
open Go Go.Eng

def fuD (D : DS) (x : Int) : DS := { D with fuse := maxI x (-1) }
theorem fu_nil (x : Int) (m : AMem) : Ctr Try.prog 10 [.one .nilp, .one (.int .i64 x)] m (.one (.int .i64 2)) m := by
  refine Ctr.enter Try.func10 rfl (by decide) (rs := [.tmp 4]) (nt := 17) rfl rfl fun hwf Q hQ => ?_
  refine AW.seq_k fun K hK => ?_
  refine AW.region (by decide) ?_
  simp only [push_cast, Nat.reduceAdd, Nat.reduceMul, Nat.reduceSub, Nat.reduceLeDiff, Nat.reduceLT, Nat.reduceEqDiff, Nat.reduceBEq, Nat.reduceBNe, Nat.reduceMod, Nat.reduceDiv, Int.reduceLE, Int.reduceLT, Int.reduceToNat, Int.reduceAdd, Int.reduceSub, Int.reduceMul, Int.reduceNeg, Int.reduceEq, Int.reduceBEq, Int.reduceBNe, ↓reduceIte, reduceCtorEq, String.reduceBNe, String.reduceEq, reduceDIte, Nat.reducePow]
  refine Thn_n ?_
  refine hK _ _ ?_
  clear hK K
  refine AW.seq_k fun K hK => ?_
  refine AW.seq_k fun K hK => ?_
  refine AW.region (by decide) ?_
  simp only [push_cast, Nat.reduceAdd, Nat.reduceMul, Nat.reduceSub, Nat.reduceLeDiff, Nat.reduceLT, Nat.reduceEqDiff, Nat.reduceBEq, Nat.reduceBNe, Nat.reduceMod, Nat.reduceDiv, Int.reduceLE, Int.reduceLT, Int.reduceToNat, Int.reduceAdd, Int.reduceSub, Int.reduceMul, Int.reduceNeg, Int.reduceEq, Int.reduceBEq, Int.reduceBNe, ↓reduceIte, reduceCtorEq, String.reduceBNe, String.reduceEq, reduceDIte, Nat.reducePow]
  refine CThen.by (up_nil _) ?_
  simp only [push_cast, Nat.reduceAdd, Nat.reduceMul, Nat.reduceSub, Nat.reduceLeDiff, Nat.reduceLT, Nat.reduceEqDiff, Nat.reduceBEq, Nat.reduceBNe, Nat.reduceMod, Nat.reduceDiv, Int.reduceLE, Int.reduceLT, Int.reduceToNat, Int.reduceAdd, Int.reduceSub, Int.reduceMul, Int.reduceNeg, Int.reduceEq, Int.reduceBEq, Int.reduceBNe, ↓reduceIte, reduceCtorEq, String.reduceBNe, String.reduceEq, reduceDIte, Nat.reducePow]
  refine Thn_n ?_
  refine hK _ _ ?_
  clear hK K
  refine AW.seq_k fun K hK => ?_
  refine AW.region (by decide) ?_
  simp only [push_cast, Nat.reduceAdd, Nat.reduceMul, Nat.reduceSub, Nat.reduceLeDiff, Nat.reduceLT, Nat.reduceEqDiff, Nat.reduceBEq, Nat.reduceBNe, Nat.reduceMod, Nat.reduceDiv, Int.reduceLE, Int.reduceLT, Int.reduceToNat, Int.reduceAdd, Int.reduceSub, Int.reduceMul, Int.reduceNeg, Int.reduceEq, Int.reduceBEq, Int.reduceBNe, ↓reduceIte, reduceCtorEq, String.reduceBNe, String.reduceEq, reduceDIte, Nat.reducePow]
  refine Thn_n ?_
  refine hK _ _ ?_
  clear hK K
  refine AW.cond_t rfl ?_
  refine AW.seq_k fun K hK => ?_
  refine AW.region (by decide) ?_
  simp only [push_cast, Nat.reduceAdd, Nat.reduceMul, Nat.reduceSub, Nat.reduceLeDiff, Nat.reduceLT, Nat.reduceEqDiff, Nat.reduceBEq, Nat.reduceBNe, Nat.reduceMod, Nat.reduceDiv, Int.reduceLE, Int.reduceLT, Int.reduceToNat, Int.reduceAdd, Int.reduceSub, Int.reduceMul, Int.reduceNeg, Int.reduceEq, Int.reduceBEq, Int.reduceBNe, ↓reduceIte, reduceCtorEq, String.reduceBNe, String.reduceEq, reduceDIte, Nat.reducePow]
  refine Thn_n ?_
  refine hK _ _ ?_
  clear hK K
  refine AW.ret ?_
  refine Thn_r ?_
  refine hQ _ _ _ ?_
  first | refine RetP.drop0 (Or.inr rfl) ?_ ?_ hwf | refine RetP.drop (Or.inr rfl) ?_ ?_ hwf
  · simp only [resA, resOne, resTv, AV.tv, push_cast, Nat.reduceAdd, Nat.reduceMul, Nat.reduceSub, Nat.reduceLeDiff, Nat.reduceLT, Nat.reduceEqDiff, Nat.reduceBEq, Nat.reduceBNe, Nat.reduceMod, Nat.reduceDiv, Int.reduceLE, Int.reduceLT, Int.reduceToNat, Int.reduceAdd, Int.reduceSub, Int.reduceMul, Int.reduceNeg, Int.reduceEq, Int.reduceBEq, Int.reduceBNe, ↓reduceIte, reduceCtorEq, String.reduceBNe, String.reduceEq, reduceDIte, Nat.reducePow]
  · rfl
theorem fu_down (rd rs rm n : Nat) (D : DS) (x : Int) (m : AMem) (hrd : m[rd]? = some (drB rs rm n D)) (h : D.down = true) : Ctr Try.prog 10 [.one (.ptr rd 0 0), .one (.int .i64 x)] m (.one (.int .i64 5)) m := by
  refine Ctr.enter Try.func10 rfl (by decide) (rs := [.tmp 4]) (nt := 17) rfl rfl fun hwf Q hQ => ?_
  refine AW.seq_k fun K hK => ?_
  refine AW.region (by decide) ?_
  simp only [push_cast, Nat.reduceAdd, Nat.reduceMul, Nat.reduceSub, Nat.reduceLeDiff, Nat.reduceLT, Nat.reduceEqDiff, Nat.reduceBEq, Nat.reduceBNe, Nat.reduceMod, Nat.reduceDiv, Int.reduceLE, Int.reduceLT, Int.reduceToNat, Int.reduceAdd, Int.reduceSub, Int.reduceMul, Int.reduceNeg, Int.reduceEq, Int.reduceBEq, Int.reduceBNe, ↓reduceIte, reduceCtorEq, String.reduceBNe, String.reduceEq, reduceDIte, Nat.reducePow]
  refine Thn_n ?_
  refine hK _ _ ?_
  clear hK K
  refine AW.seq_k fun K hK => ?_
  refine AW.seq_k fun K hK => ?_
  refine AW.region (by decide) ?_
  simp only [push_cast, Nat.reduceAdd, Nat.reduceMul, Nat.reduceSub, Nat.reduceLeDiff, Nat.reduceLT, Nat.reduceEqDiff, Nat.reduceBEq, Nat.reduceBNe, Nat.reduceMod, Nat.reduceDiv, Int.reduceLE, Int.reduceLT, Int.reduceToNat, Int.reduceAdd, Int.reduceSub, Int.reduceMul, Int.reduceNeg, Int.reduceEq, Int.reduceBEq, Int.reduceBNe, ↓reduceIte, reduceCtorEq, String.reduceBNe, String.reduceEq, reduceDIte, Nat.reducePow]
  refine CThen.by (up_down rd rs rm n D _ hrd h) ?_
  simp only [push_cast, Nat.reduceAdd, Nat.reduceMul, Nat.reduceSub, Nat.reduceLeDiff, Nat.reduceLT, Nat.reduceEqDiff, Nat.reduceBEq, Nat.reduceBNe, Nat.reduceMod, Nat.reduceDiv, Int.reduceLE, Int.reduceLT, Int.reduceToNat, Int.reduceAdd, Int.reduceSub, Int.reduceMul, Int.reduceNeg, Int.reduceEq, Int.reduceBEq, Int.reduceBNe, ↓reduceIte, reduceCtorEq, String.reduceBNe, String.reduceEq, reduceDIte, Nat.reducePow]
  refine Thn_n ?_
  refine hK _ _ ?_
  clear hK K
  refine AW.seq_k fun K hK => ?_
  refine AW.region (by decide) ?_
  simp only [push_cast, Nat.reduceAdd, Nat.reduceMul, Nat.reduceSub, Nat.reduceLeDiff, Nat.reduceLT, Nat.reduceEqDiff, Nat.reduceBEq, Nat.reduceBNe, Nat.reduceMod, Nat.reduceDiv, Int.reduceLE, Int.reduceLT, Int.reduceToNat, Int.reduceAdd, Int.reduceSub, Int.reduceMul, Int.reduceNeg, Int.reduceEq, Int.reduceBEq, Int.reduceBNe, ↓reduceIte, reduceCtorEq, String.reduceBNe, String.reduceEq, reduceDIte, Nat.reducePow]
  refine Thn_n ?_
  refine hK _ _ ?_
  clear hK K
  refine AW.cond_t rfl ?_
  refine AW.seq_k fun K hK => ?_
  refine AW.region (by decide) ?_
  simp only [push_cast, Nat.reduceAdd, Nat.reduceMul, Nat.reduceSub, Nat.reduceLeDiff, Nat.reduceLT, Nat.reduceEqDiff, Nat.reduceBEq, Nat.reduceBNe, Nat.reduceMod, Nat.reduceDiv, Int.reduceLE, Int.reduceLT, Int.reduceToNat, Int.reduceAdd, Int.reduceSub, Int.reduceMul, Int.reduceNeg, Int.reduceEq, Int.reduceBEq, Int.reduceBNe, ↓reduceIte, reduceCtorEq, String.reduceBNe, String.reduceEq, reduceDIte, Nat.reducePow]
  refine Thn_n ?_
  refine hK _ _ ?_
  clear hK K
  refine AW.ret ?_
  refine Thn_r ?_
  refine hQ _ _ _ ?_
  first | refine RetP.drop0 (Or.inr rfl) ?_ ?_ hwf | refine RetP.drop (Or.inr rfl) ?_ ?_ hwf
  · simp only [resA, resOne, resTv, AV.tv, push_cast, Nat.reduceAdd, Nat.reduceMul, Nat.reduceSub, Nat.reduceLeDiff, Nat.reduceLT, Nat.reduceEqDiff, Nat.reduceBEq, Nat.reduceBNe, Nat.reduceMod, Nat.reduceDiv, Int.reduceLE, Int.reduceLT, Int.reduceToNat, Int.reduceAdd, Int.reduceSub, Int.reduceMul, Int.reduceNeg, Int.reduceEq, Int.reduceBEq, Int.reduceBNe, ↓reduceIte, reduceCtorEq, String.reduceBNe, String.reduceEq, reduceDIte, Nat.reducePow]
  · rfl
theorem fu_ok (rd rs rm n : Nat) (D : DS) (x : Int) (m : AMem) (h : HasD m rd rs rm n D) (hd : D.down = false) : Ctr Try.prog 10 [.one (.ptr rd 0 0), .one (.int .i64 x)] m (.one (.int .i64 0)) (setD m rd rs rm n (fuD D x)) := by
  refine Ctr.enter Try.func10 rfl (by decide) (rs := [.tmp 4]) (nt := 17) rfl rfl fun hwf Q hQ => ?_
  have hrd := h.d
  have hrs := h.r
  have hrm := h.m
  have ld := get_lt hrd
  have lr := get_lt hrs
  have lm := get_lt hrm
  have ndr : rd ≠ rs := h.dr
  have ndm : rd ≠ rm := h.dm
  have nrm : rs ≠ rm := h.rm
  have nrd := ndr.symm
  have nmd := ndm.symm
  have nmr := nrm.symm
  have oD := fun (L : AMem) => mk_olds (m := m) (l := m) rfl ld L
  have oR := fun (L : AMem) => mk_olds (m := m) (l := m) rfl lr L
  have oM := fun (L : AMem) => mk_olds (m := m) (l := m) rfl lm L
  have pD := fun (l L : AMem) (e : l.length = m.length) => mk_olds (m := m) (l := l) (r := rd) e ld L
  have pR := fun (l L : AMem) (e : l.length = m.length) => mk_olds (m := m) (l := l) (r := rs) e lr L
  have pM := fun (l L : AMem) (e : l.length = m.length) => mk_olds (m := m) (l := l) (r := rm) e lm L
  have gD := fun (l L : AMem) (e : l.length = m.length) => mk_old (m := m) (l := l) (r := rd) e ld L
  have gR := fun (l L : AMem) (e : l.length = m.length) => mk_old (m := m) (l := l) (r := rs) e lr L
  have gM := fun (l L : AMem) (e : l.length = m.length) => mk_old (m := m) (l := l) (r := rm) e lm L
  have sD := fun (l : AMem) (b : Blk) (e : l.length = m.length) => mk_self (m := m) (l := l) (r := rd) e ld b
  have sR := fun (l : AMem) (b : Blk) (e : l.length = m.length) => mk_self (m := m) (l := l) (r := rs) e lr b
  have sM := fun (l : AMem) (b : Blk) (e : l.length = m.length) => mk_self (m := m) (l := l) (r := rm) e lm b
  have aA := fun (l L : AMem) (e : l.length = m.length) => mk_lk0 (m := m) (l := l) e L
  have aK := fun (l L : AMem) (k : Nat) (e : l.length = m.length) => mk_lk (m := m) (l := l) e L k
  have aT := fun (l L : AMem) (k : Nat) (b : Blk) (e : l.length = m.length) => mk_set (m := m) (l := l) e L k b
  have aS := fun (l L : AMem) (b : Blk) (e : l.length = m.length) => mk_set0 (m := m) (l := l) e L b
  have hw2 : MWf m.length (setD m rd rs rm n (fuD D x)) := setD_wf hwf lr lm _
  have e2 := setD_d h (fuD D x) rfl rfl rfl
  refine AW.seq_k fun K hK => ?_
  refine AW.region (by decide) ?_
  simp only [push_cast, Nat.reduceAdd, Nat.reduceMul, Nat.reduceSub, Nat.reduceLeDiff, Nat.reduceLT, Nat.reduceEqDiff, Nat.reduceBEq, Nat.reduceBNe, Nat.reduceMod, Nat.reduceDiv, Int.reduceLE, Int.reduceLT, Int.reduceToNat, Int.reduceAdd, Int.reduceSub, Int.reduceMul, Int.reduceNeg, Int.reduceEq, Int.reduceBEq, Int.reduceBNe, ↓reduceIte, reduceCtorEq, String.reduceBNe, String.reduceEq, reduceDIte, Nat.reducePow, hrd, hrs, hrm, pD, pR, pM, gD, gR, gM, sD, sR, sM, aA, aS, aK, aT, List.set_set, List.length_set, List.getElem?_set_ne ndr, List.getElem?_set_ne ndm, List.getElem?_set_ne nrm, List.getElem?_set_ne nrd, List.getElem?_set_ne nmd, List.getElem?_set_ne nmr, drB, rowD, mapD]
  refine Thn_n ?_
  refine hK _ _ ?_
  clear hK K
  refine AW.seq_k fun K hK => ?_
  refine AW.seq_k fun K hK => ?_
  refine AW.region (by decide) ?_
  simp only [push_cast, Nat.reduceAdd, Nat.reduceMul, Nat.reduceSub, Nat.reduceLeDiff, Nat.reduceLT, Nat.reduceEqDiff, Nat.reduceBEq, Nat.reduceBNe, Nat.reduceMod, Nat.reduceDiv, Int.reduceLE, Int.reduceLT, Int.reduceToNat, Int.reduceAdd, Int.reduceSub, Int.reduceMul, Int.reduceNeg, Int.reduceEq, Int.reduceBEq, Int.reduceBNe, ↓reduceIte, reduceCtorEq, String.reduceBNe, String.reduceEq, reduceDIte, Nat.reducePow, hrd, hrs, hrm, pD, pR, pM, gD, gR, gM, sD, sR, sM, aA, aS, aK, aT, List.set_set, List.length_set, List.getElem?_set_ne ndr, List.getElem?_set_ne ndm, List.getElem?_set_ne nrm, List.getElem?_set_ne nrd, List.getElem?_set_ne nmd, List.getElem?_set_ne nmr, drB, rowD, mapD]
  refine CThen.by (up_ok rd rs rm n D _ h.d hd) ?_
  simp only [push_cast, Nat.reduceAdd, Nat.reduceMul, Nat.reduceSub, Nat.reduceLeDiff, Nat.reduceLT, Nat.reduceEqDiff, Nat.reduceBEq, Nat.reduceBNe, Nat.reduceMod, Nat.reduceDiv, Int.reduceLE, Int.reduceLT, Int.reduceToNat, Int.reduceAdd, Int.reduceSub, Int.reduceMul, Int.reduceNeg, Int.reduceEq, Int.reduceBEq, Int.reduceBNe, ↓reduceIte, reduceCtorEq, String.reduceBNe, String.reduceEq, reduceDIte, Nat.reducePow, hrd, hrs, hrm, pD, pR, pM, gD, gR, gM, sD, sR, sM, aA, aS, aK, aT, List.set_set, List.length_set, List.getElem?_set_ne ndr, List.getElem?_set_ne ndm, List.getElem?_set_ne nrm, List.getElem?_set_ne nrd, List.getElem?_set_ne nmd, List.getElem?_set_ne nmr, drB, rowD, mapD]
  refine Thn_n ?_
  refine hK _ _ ?_
  clear hK K
  refine AW.seq_k fun K hK => ?_
  refine AW.region (by decide) ?_
  simp only [push_cast, Nat.reduceAdd, Nat.reduceMul, Nat.reduceSub, Nat.reduceLeDiff, Nat.reduceLT, Nat.reduceEqDiff, Nat.reduceBEq, Nat.reduceBNe, Nat.reduceMod, Nat.reduceDiv, Int.reduceLE, Int.reduceLT, Int.reduceToNat, Int.reduceAdd, Int.reduceSub, Int.reduceMul, Int.reduceNeg, Int.reduceEq, Int.reduceBEq, Int.reduceBNe, ↓reduceIte, reduceCtorEq, String.reduceBNe, String.reduceEq, reduceDIte, Nat.reducePow, hrd, hrs, hrm, pD, pR, pM, gD, gR, gM, sD, sR, sM, aA, aS, aK, aT, List.set_set, List.length_set, List.getElem?_set_ne ndr, List.getElem?_set_ne ndm, List.getElem?_set_ne nrm, List.getElem?_set_ne nrd, List.getElem?_set_ne nmd, List.getElem?_set_ne nmr, drB, rowD, mapD]
  refine Thn_n ?_
  refine hK _ _ ?_
  clear hK K
  refine AW.cond_f rfl ?_
  refine AW.skip ?_
  iterate 2
    refine Thn_n ?_
    refine hK _ _ ?_
    clear hK K
    refine AW.seq_k fun K hK => ?_
    refine AW.region (by decide) ?_
    simp only [push_cast, Nat.reduceAdd, Nat.reduceMul, Nat.reduceSub, Nat.reduceLeDiff, Nat.reduceLT, Nat.reduceEqDiff, Nat.reduceBEq, Nat.reduceBNe, Nat.reduceMod, Nat.reduceDiv, Int.reduceLE, Int.reduceLT, Int.reduceToNat, Int.reduceAdd, Int.reduceSub, Int.reduceMul, Int.reduceNeg, Int.reduceEq, Int.reduceBEq, Int.reduceBNe, ↓reduceIte, reduceCtorEq, String.reduceBNe, String.reduceEq, reduceDIte, Nat.reducePow, hrd, hrs, hrm, pD, pR, pM, gD, gR, gM, sD, sR, sM, aA, aS, aK, aT, List.set_set, List.length_set, List.getElem?_set_ne ndr, List.getElem?_set_ne ndm, List.getElem?_set_ne nrm, List.getElem?_set_ne nrd, List.getElem?_set_ne nmd, List.getElem?_set_ne nmr, drB, rowD, mapD]
  refine Thn_n ?_
  refine hK _ _ ?_
  clear hK K
  refine AW.ret ?_
  refine hQ _ _ _ ?_
  rw [e2] at hw2 ⊢
  first | refine RetP.dropM0 (by simp only [List.length_set]) (by first | exact Or.inr rfl | exact Or.inl rfl) ?_ ?_ hw2 | refine RetP.dropM (by simp only [List.length_set]) (by first | exact Or.inr rfl | exact Or.inl rfl) ?_ ?_ hw2
  · simp only [resA, resOne, resTv, AV.tv, push_cast, Nat.reduceAdd, Nat.reduceMul, Nat.reduceSub, Nat.reduceLeDiff, Nat.reduceLT, Nat.reduceEqDiff, Nat.reduceBEq, Nat.reduceBNe, Nat.reduceMod, Nat.reduceDiv, Int.reduceLE, Int.reduceLT, Int.reduceToNat, Int.reduceAdd, Int.reduceSub, Int.reduceMul, Int.reduceNeg, Int.reduceEq, Int.reduceBEq, Int.reduceBNe, ↓reduceIte, reduceCtorEq, String.reduceBNe, String.reduceEq, reduceDIte, Nat.reducePow]
  · rfl
end Go.Proofs.Ytcahlnddcjifdaa

set_option linter.unusedSimpArgs false
set_option linter.unusedVariables false
set_option maxRecDepth 100000
set_option maxHeartbeats 4000000
namespace Go.Proofs.Ytcahlnddcjifdaa
open Go Go.Eng

theorem i64i {x : Int} (h : -9000000000000 ≤ x ∧ x ≤ 9000000000000) : IntKind.i64.wrap x = x := by rw [IntKind.wrap_i64]; omega
/-- The cells of so many integers; of bools; of rows. -/
def il : Nat → (Nat → Int) → List CV
  | 0, _ => []
  | n + 1, f => il n f ++ [.int .i64 (f n)]
theorem il_len : ∀ (n : Nat) (f : Nat → Int), (il n f).length = n
  | 0, _ => rfl
  | n + 1, f => by simp only [il, List.length_append, il_len n f, List.length_cons, List.length_nil]
theorem il_get : ∀ {n : Nat} {f : Nat → Int} {i : Nat}, i < n → (il n f)[i]? = some (.int .i64 (f i))
  | n + 1, f, i, hi => by
    simp only [il]
    rcases Nat.lt_or_ge i n with h | h
    · rw [List.getElem?_append_left (by rw [il_len]; omega)]; exact il_get h
    · have e : i = n := by omega
      subst e
      rw [List.getElem?_append_right (by rw [il_len]; omega), il_len, Nat.sub_self]; rfl
theorem il_vals : ∀ (n : Nat) (f : Nat → Int), (il n f).all CV.isVal = true
  | 0, _ => rfl
  | n + 1, f => by simp only [il, List.all_append, il_vals n f, List.all_cons, List.all_nil, CV.isVal]; rfl
theorem il_below : ∀ (L n : Nat) (f : Nat → Int), (il n f).all (CV.below L) = true
  | _, 0, _ => rfl
  | L, n + 1, f => by simp only [il, List.all_append, il_below L n f, List.all_cons, List.all_nil, CV.below]; rfl
theorem ext_get {α : Type} {a b : List α} (h : ∀ i : Nat, a[i]? = b[i]?) : a = b := List.ext_getElem? h
theorem il_of {cells : List CV} {n : Nat} {f : Nat → Int} (hl : cells.length = n) (h : ∀ i, i < n → cells[i]? = some (.int .i64 (f i))) : cells = il n f := by
  refine ext_get fun j => ?_
  rcases Nat.lt_or_ge j n with hj | hj
  · rw [h j hj, il_get hj]
  · rw [List.getElem?_eq_none (by omega), List.getElem?_eq_none (by rw [il_len]; omega)]
theorem il_congr {n : Nat} {f g : Nat → Int} (h : ∀ i, i < n → f i = g i) : il n f = il n g := il_of (il_len n f) fun i hi => by rw [il_get hi, h i hi]
def bl : Nat → (Nat → Bool) → List CV
  | 0, _ => []
  | n + 1, f => bl n f ++ [.bool (f n)]
theorem bl_len : ∀ (n : Nat) (f : Nat → Bool), (bl n f).length = n
  | 0, _ => rfl
  | n + 1, f => by simp only [bl, List.length_append, bl_len n f, List.length_cons, List.length_nil]
theorem bl_get : ∀ {n : Nat} {f : Nat → Bool} {i : Nat}, i < n → (bl n f)[i]? = some (.bool (f i))
  | n + 1, f, i, hi => by
    simp only [bl]
    rcases Nat.lt_or_ge i n with h | h
    · rw [List.getElem?_append_left (by rw [bl_len]; omega)]; exact bl_get h
    · have e : i = n := by omega
      subst e
      rw [List.getElem?_append_right (by rw [bl_len]; omega), bl_len, Nat.sub_self]; rfl
theorem bl_of {cells : List CV} {n : Nat} {f : Nat → Bool} (hl : cells.length = n) (h : ∀ i, i < n → cells[i]? = some (.bool (f i))) : cells = bl n f := by
  refine ext_get fun j => ?_
  rcases Nat.lt_or_ge j n with hj | hj
  · rw [h j hj, bl_get hj]
  · rw [List.getElem?_eq_none (by omega), List.getElem?_eq_none (by rw [bl_len]; omega)]
theorem bl_below (L n : Nat) (f : Nat → Bool) : (bl n f).all (CV.below L) = true := by
  refine List.all_eq_true.2 fun c hc => ?_
  obtain ⟨i, hi⟩ := List.getElem?_of_mem hc
  have hlt := (List.getElem?_eq_some_iff.1 hi).1
  rw [bl_len] at hlt
  rw [bl_get hlt] at hi
  injection hi with hi; subst hi; rfl
def updB (f : Nat → Bool) (j : Nat) (b : Bool) : Nat → Bool := fun i => if i = j then b else f i
theorem bl_set {n : Nat} {f : Nat → Bool} {j : Nat} {b : Bool} : (bl n f).set j (.bool b) = bl n (updB f j b) := by
  refine bl_of (by rw [List.length_set, bl_len]) fun i hi => ?_
  rw [List.getElem?_set]
  by_cases e : j = i
  · subst e; rw [if_pos rfl, if_pos (by rw [bl_len]; exact hi)]; simp [updB]
  · rw [if_neg e, bl_get hi]; simp only [updB]; rw [if_neg (fun h => e h.symm)]
def rl : Nat → (Nat → Nat) → (Nat → Nat) → (Nat → Nat) → List CV
  | 0, _, _, _ => []
  | n + 1, r, vv, ln => rl n r vv ln ++ [.sl (r n) (vv n) 0 (ln n)]
theorem rl_len : ∀ (n : Nat) (r vv ln : Nat → Nat), (rl n r vv ln).length = n
  | 0, _, _, _ => rfl
  | n + 1, r, vv, ln => by simp only [rl, List.length_append, rl_len n r vv ln, List.length_cons, List.length_nil]
theorem rl_get : ∀ {n : Nat} {r vv ln : Nat → Nat} {i : Nat}, i < n → (rl n r vv ln)[i]? = some (.sl (r i) (vv i) 0 (ln i))
  | n + 1, r, vv, ln, i, hi => by
    simp only [rl]
    rcases Nat.lt_or_ge i n with h | h
    · rw [List.getElem?_append_left (by rw [rl_len]; omega)]; exact rl_get h
    · have e : i = n := by omega
      subst e
      rw [List.getElem?_append_right (by rw [rl_len]; omega), rl_len, Nat.sub_self]; rfl
theorem rl_of {cells : List CV} {n : Nat} {r vv ln : Nat → Nat} (hl : cells.length = n) (h : ∀ i, i < n → cells[i]? = some (.sl (r i) (vv i) 0 (ln i))) : cells = rl n r vv ln := by
  refine ext_get fun j => ?_
  rcases Nat.lt_or_ge j n with hj | hj
  · rw [h j hj, rl_get hj]
  · rw [List.getElem?_eq_none (by omega), List.getElem?_eq_none (by rw [rl_len]; omega)]
/-- Integers, bools, rows of integers in memory. -/
structure IntsAt (m : AMem) (r v n : Nat) (f : Nat → Int) : Prop where
  hb : ∃ k ez, m[r]? = some ⟨k, 3, v, ez, il n f⟩
structure BoolsAt (m : AMem) (r v n : Nat) (f : Nat → Bool) : Prop where
  hb : ∃ k ez, m[r]? = some ⟨k, 4, v, ez, bl n f⟩
structure RowsAt (m : AMem) (r vp n : Nat) (ln : Nat → Nat) (q : Nat → Nat → Int) : Prop where
  hb : ∃ k ez rr vv, m[r]? = some ⟨k, 31, vp, ez, rl n rr vv ln⟩ ∧ ∀ i, i < n → IntsAt m (rr i) (vv i) (ln i) (q i)
theorem IntsAt.mono {m : AMem} {r v n : Nat} {f : Nat → Int} (h : IntsAt m r v n f) (x : AMem) : IntsAt (m ++ x) r v n f := by
  obtain ⟨k, ez, hb⟩ := h.hb; exact ⟨k, ez, lk_old hb x⟩
theorem BoolsAt.mono {m : AMem} {r v n : Nat} {f : Nat → Bool} (h : BoolsAt m r v n f) (x : AMem) : BoolsAt (m ++ x) r v n f := by
  obtain ⟨k, ez, hb⟩ := h.hb; exact ⟨k, ez, lk_old hb x⟩
theorem RowsAt.mono {m : AMem} {r vp n : Nat} {ln : Nat → Nat} {q : Nat → Nat → Int} (h : RowsAt m r vp n ln q) (x : AMem) : RowsAt (m ++ x) r vp n ln q := by
  obtain ⟨k, ez, rr, vv, hb, hr⟩ := h.hb; exact ⟨k, ez, rr, vv, lk_old hb x, fun i hi => (hr i hi).mono x⟩
def inL (n : Nat) (f : Nat → Int) (x : Int) : Bool := (List.range n).any fun i => f i == x
theorem inL_iff {n : Nat} {f : Nat → Int} {x : Int} : inL n f x = true ↔ ∃ i, i < n ∧ f i = x := by simp [inL]
theorem inL_no {n : Nat} {f : Nat → Int} {x : Int} (h : inL n f x = false) {i : Nat} (hi : i < n) : (f i == x) = false ∧ (x == f i) = false := by
  have : ¬ f i = x := fun e => by rw [inL_iff.2 ⟨i, hi, e⟩] at h; cases h
  exact ⟨by simpa using this, by simpa using fun e => this e.symm⟩
theorem inL_first {n : Nat} {f : Nat → Int} {x : Int} (h : inL n f x = true) : ∃ j, j < n ∧ f j = x ∧ ∀ i, i < j → ¬ f i = x := by
  obtain ⟨i, hi, e⟩ := inL_iff.1 h
  obtain ⟨k, h1, h2⟩ := least (p := fun i => i < n ∧ f i = x) i ⟨hi, e⟩
  exact ⟨k, h1.1, h1.2, fun i hi he => h2 i hi ⟨by omega, he⟩⟩

end Go.Proofs.Ytcahlnddcjifdaa

set_option linter.unusedSimpArgs false
set_option linter.unusedVariables false
set_option maxRecDepth 100000
set_option maxHeartbeats 4000000
namespace Go.Proofs.Ytcahlnddcjifdaa
open Go Go.Eng

def crD (D : DS) (ks : Nat → Int) (kn : Nat) : DS := { D with S := crF D.S D.E ks kn, E := [], fuse := -1, down := false }
theorem crD_wf {n : Nat} {D : DS} (h : WfD n D) (ks : Nat → Int) (kn : Nat) : WfD n (crD D ks kn) := ⟨crF_len h.s h.e ks kn, WfE.nil n D.ck⟩
theorem setD_three (m : AMem) (rd rs rm n : Nat) (D : DS) (A B C : Blk) (ha : drB rs rm n D = A) (hb : rowD n D = B) (hc : mapD D = C) : setD m rd rs rm n D = ((m.set rd A).set rs B).set rm C := by subst ha; subst hb; subst hc; rfl
theorem cr_nil (a : AV) (m : AMem) : Ctr Try.prog 11 [.one .nilp, a] m (.one (.int .i64 2)) m := by
  refine Ctr.enter Try.func11 rfl (by decide) (rs := [.tmp 4]) (nt := 47) rfl rfl fun hwf Q hQ => ?_
  refine AW.seq_k fun K hK => ?_
  refine AW.region (by decide) ?_
  simp only [push_cast, Nat.reduceAdd, Nat.reduceMul, Nat.reduceSub, Nat.reduceLeDiff, Nat.reduceLT, Nat.reduceEqDiff, Nat.reduceBEq, Nat.reduceBNe, Nat.reduceMod, Nat.reduceDiv, Int.reduceLE, Int.reduceLT, Int.reduceToNat, Int.reduceAdd, Int.reduceSub, Int.reduceMul, Int.reduceNeg, Int.reduceEq, Int.reduceBEq, Int.reduceBNe, ↓reduceIte, reduceCtorEq, String.reduceBNe, String.reduceEq, reduceDIte, Nat.reducePow]
  refine Thn_n ?_
  refine hK _ _ ?_
  clear hK K
  refine AW.seq_k fun K hK => ?_
  refine AW.seq_k fun K hK => ?_
  refine AW.region (by decide) ?_
  simp only [push_cast, Nat.reduceAdd, Nat.reduceMul, Nat.reduceSub, Nat.reduceLeDiff, Nat.reduceLT, Nat.reduceEqDiff, Nat.reduceBEq, Nat.reduceBNe, Nat.reduceMod, Nat.reduceDiv, Int.reduceLE, Int.reduceLT, Int.reduceToNat, Int.reduceAdd, Int.reduceSub, Int.reduceMul, Int.reduceNeg, Int.reduceEq, Int.reduceBEq, Int.reduceBNe, ↓reduceIte, reduceCtorEq, String.reduceBNe, String.reduceEq, reduceDIte, Nat.reducePow]
  refine Thn_n ?_
  refine hK _ _ ?_
  clear hK K
  refine AW.cond_t rfl ?_
  refine AW.seq_k fun K hK => ?_
  refine AW.region (by decide) ?_
  simp only [push_cast, Nat.reduceAdd, Nat.reduceMul, Nat.reduceSub, Nat.reduceLeDiff, Nat.reduceLT, Nat.reduceEqDiff, Nat.reduceBEq, Nat.reduceBNe, Nat.reduceMod, Nat.reduceDiv, Int.reduceLE, Int.reduceLT, Int.reduceToNat, Int.reduceAdd, Int.reduceSub, Int.reduceMul, Int.reduceNeg, Int.reduceEq, Int.reduceBEq, Int.reduceBNe, ↓reduceIte, reduceCtorEq, String.reduceBNe, String.reduceEq, reduceDIte, Nat.reducePow]
  refine Thn_n ?_
  refine hK _ _ ?_
  clear hK K
  refine AW.ret ?_
  refine Thn_r ?_
  refine hQ _ _ _ ?_
  first | refine RetP.drop0 (Or.inr rfl) ?_ ?_ hwf | refine RetP.drop (Or.inr rfl) ?_ ?_ hwf
  · simp only [resA, resOne, resTv, AV.tv, push_cast, Nat.reduceAdd, Nat.reduceMul, Nat.reduceSub, Nat.reduceLeDiff, Nat.reduceLT, Nat.reduceEqDiff, Nat.reduceBEq, Nat.reduceBNe, Nat.reduceMod, Nat.reduceDiv, Int.reduceLE, Int.reduceLT, Int.reduceToNat, Int.reduceAdd, Int.reduceSub, Int.reduceMul, Int.reduceNeg, Int.reduceEq, Int.reduceBEq, Int.reduceBNe, ↓reduceIte, reduceCtorEq, String.reduceBNe, String.reduceEq, reduceDIte, Nat.reducePow]
  · rfl
theorem cr_c (rd rs rm n : Nat) (D : DS) (lb vl kn : Nat) (ks : Nat → Int) (kl : BK) (el : Nat) (m : AMem) (h : HasD m rd rs rm n D) (hwd : WfD n D) (hl : m[lb]? = some ⟨kl, 3, vl, el, il kn ks⟩) (hkl : kl = .ro ∨ kl = .grow) (nlb : lb ≠ rs) (hkn : kn ≤ 1048576) : Ctr Try.prog 11 [.one (.ptr rd 0 0), .one (.sl lb vl 0 kn)] m (.one (.int .i64 0)) (setD m rd rs rm n (crD D ks kn)) := by
  refine Ctr.enter Try.func11 rfl (by decide) (rs := [.tmp 4]) (nt := 47) rfl rfl fun hwf Q hQ => ?_
  have hrd := h.d
  have hrs := h.r
  have hrm := h.m
  have ld := get_lt hrd
  have lr := get_lt hrs
  have lm := get_lt hrm
  have ndr : rd ≠ rs := h.dr
  have ndm : rd ≠ rm := h.dm
  have nrm : rs ≠ rm := h.rm
  have nrd := ndr.symm
  have nmd := ndm.symm
  have nmr := nrm.symm
  have oD := fun (L : AMem) => mk_olds (m := m) (l := m) rfl ld L
  have oR := fun (L : AMem) => mk_olds (m := m) (l := m) rfl lr L
  have oM := fun (L : AMem) => mk_olds (m := m) (l := m) rfl lm L
  have pD := fun (l L : AMem) (e : l.length = m.length) => mk_olds (m := m) (l := l) (r := rd) e ld L
  have pR := fun (l L : AMem) (e : l.length = m.length) => mk_olds (m := m) (l := l) (r := rs) e lr L
  have pM := fun (l L : AMem) (e : l.length = m.length) => mk_olds (m := m) (l := l) (r := rm) e lm L
  have gD := fun (l L : AMem) (e : l.length = m.length) => mk_old (m := m) (l := l) (r := rd) e ld L
  have gR := fun (l L : AMem) (e : l.length = m.length) => mk_old (m := m) (l := l) (r := rs) e lr L
  have gM := fun (l L : AMem) (e : l.length = m.length) => mk_old (m := m) (l := l) (r := rm) e lm L
  have sD := fun (l : AMem) (b : Blk) (e : l.length = m.length) => mk_self (m := m) (l := l) (r := rd) e ld b
  have sR := fun (l : AMem) (b : Blk) (e : l.length = m.length) => mk_self (m := m) (l := l) (r := rs) e lr b
  have sM := fun (l : AMem) (b : Blk) (e : l.length = m.length) => mk_self (m := m) (l := l) (r := rm) e lm b
  have aA := fun (l L : AMem) (e : l.length = m.length) => mk_lk0 (m := m) (l := l) e L
  have aK := fun (l L : AMem) (k : Nat) (e : l.length = m.length) => mk_lk (m := m) (l := l) e L k
  have aT := fun (l L : AMem) (k : Nat) (b : Blk) (e : l.length = m.length) => mk_set (m := m) (l := l) e L k b
  have aS := fun (l L : AMem) (b : Blk) (e : l.length = m.length) => mk_set0 (m := m) (l := l) e L b
  have llb := get_lt hl
  have hlr := fun (b : Blk) => (List.getElem?_set_ne (l := m) (a := b) (fun e : rs = lb => nlb e.symm)).trans hl
  have oL := fun (l L : AMem) (e : l.length = m.length) => mk_old (m := m) (l := l) (r := lb) e llb L
  have hz : zeros zV 128 = [.int .u8 0, .int .u8 0, .int .u8 0, .int .u8 0, .int .u8 0, .int .u8 0, .int .u8 0, .int .u8 0, .int .u8 0, .int .u8 0, .int .u8 0, .int .u8 0, .int .u8 0, .int .u8 0, .int .u8 0, .int .u8 0, .int .u8 0, .int .u8 0, .int .u8 0, .int .u8 0, .int .u8 0, .int .u8 0, .int .u8 0, .int .u8 0, .int .u8 0, .int .u8 0, .int .u8 0, .int .u8 0, .int .u8 0, .int .u8 0, .int .u8 0, .int .u8 0, .int .u8 0, .int .u8 0, .int .u8 0, .int .u8 0, .int .u8 0, .int .u8 0, .int .u8 0, .int .u8 0, .int .u8 0, .int .u8 0, .int .u8 0, .int .u8 0, .int .u8 0, .int .u8 0, .int .u8 0, .int .u8 0, .int .u8 0, .int .u8 0, .int .u8 0, .int .u8 0, .int .u8 0, .int .u8 0, .int .u8 0, .int .u8 0, .int .u8 0, .int .u8 0, .int .u8 0, .int .u8 0, .int .u8 0, .int .u8 0, .int .u8 0, .int .u8 0, .int .u8 0, .int .u8 0, .int .u8 0, .int .u8 0, .int .u8 0, .int .u8 0, .int .u8 0, .int .u8 0, .int .u8 0, .int .u8 0, .int .u8 0, .int .u8 0, .int .u8 0, .int .u8 0, .int .u8 0, .int .u8 0, .int .u8 0, .int .u8 0, .int .u8 0, .int .u8 0, .int .u8 0, .int .u8 0, .int .u8 0, .int .u8 0, .int .u8 0, .int .u8 0, .int .u8 0, .int .u8 0, .int .u8 0, .int .u8 0, .int .u8 0, .int .u8 0, .int .u8 0, .int .u8 0, .int .u8 0, .int .u8 0, .int .u8 0, .int .u8 0, .int .u8 0, .int .u8 0, .int .u8 0, .int .u8 0, .int .u8 0, .int .u8 0, .int .u8 0, .int .u8 0, .int .u8 0, .int .u8 0, .int .u8 0, .int .u8 0, .int .u8 0, .int .u8 0, .int .u8 0, .int .u8 0, .int .u8 0, .int .u8 0, .int .u8 0, .int .u8 0, .int .u8 0, .int .u8 0, .int .u8 0, .int .u8 0, .int .u8 0, .int .u8 0] := by decide
  have hw2 : MWf m.length (setD m rd rs rm n (crD D ks kn)) := setD_wf hwf lr lm _
  have e2 := setD_three m rd rs rm n (crD D ks kn) _ _ _ rfl rfl rfl
  have hse := set_self h.r
  refine AW.seq_k fun K hK => ?_
  refine AW.region (by decide) ?_
  simp only [push_cast, Nat.reduceAdd, Nat.reduceMul, Nat.reduceSub, Nat.reduceLeDiff, Nat.reduceLT, Nat.reduceEqDiff, Nat.reduceBEq, Nat.reduceBNe, Nat.reduceMod, Nat.reduceDiv, Int.reduceLE, Int.reduceLT, Int.reduceToNat, Int.reduceAdd, Int.reduceSub, Int.reduceMul, Int.reduceNeg, Int.reduceEq, Int.reduceBEq, Int.reduceBNe, ↓reduceIte, reduceCtorEq, String.reduceBNe, String.reduceEq, reduceDIte, Nat.reducePow, hl, hlr, oL, setMap, hrd, hrs, hrm, pD, pR, pM, gD, gR, gM, sD, sR, sM, aA, aS, aK, aT, List.set_set, List.length_set, List.getElem?_set_ne ndr, List.getElem?_set_ne ndm, List.getElem?_set_ne nrm, List.getElem?_set_ne nrd, List.getElem?_set_ne nmd, List.getElem?_set_ne nmr, drB, rowD, mapD]
  refine Thn_n ?_
  refine hK _ _ ?_
  clear hK K
  refine AW.seq_k fun K hK => ?_
  refine AW.seq_k fun K hK => ?_
  refine AW.region (by decide) ?_
  simp only [push_cast, Nat.reduceAdd, Nat.reduceMul, Nat.reduceSub, Nat.reduceLeDiff, Nat.reduceLT, Nat.reduceEqDiff, Nat.reduceBEq, Nat.reduceBNe, Nat.reduceMod, Nat.reduceDiv, Int.reduceLE, Int.reduceLT, Int.reduceToNat, Int.reduceAdd, Int.reduceSub, Int.reduceMul, Int.reduceNeg, Int.reduceEq, Int.reduceBEq, Int.reduceBNe, ↓reduceIte, reduceCtorEq, String.reduceBNe, String.reduceEq, reduceDIte, Nat.reducePow, hl, hlr, oL, setMap, hrd, hrs, hrm, pD, pR, pM, gD, gR, gM, sD, sR, sM, aA, aS, aK, aT, List.set_set, List.length_set, List.getElem?_set_ne ndr, List.getElem?_set_ne ndm, List.getElem?_set_ne nrm, List.getElem?_set_ne nrd, List.getElem?_set_ne nmd, List.getElem?_set_ne nmr, drB, rowD, mapD]
  refine Thn_n ?_
  refine hK _ _ ?_
  clear hK K
  refine AW.cond_f rfl ?_
  refine AW.skip ?_
  refine Thn_n ?_
  refine hK _ _ ?_
  clear hK K
  refine AW.seq_k fun K hK => ?_
  refine AW.seq_k fun K hK => ?_
  refine AW.region (by decide) ?_
  simp only [push_cast, Nat.reduceAdd, Nat.reduceMul, Nat.reduceSub, Nat.reduceLeDiff, Nat.reduceLT, Nat.reduceEqDiff, Nat.reduceBEq, Nat.reduceBNe, Nat.reduceMod, Nat.reduceDiv, Int.reduceLE, Int.reduceLT, Int.reduceToNat, Int.reduceAdd, Int.reduceSub, Int.reduceMul, Int.reduceNeg, Int.reduceEq, Int.reduceBEq, Int.reduceBNe, ↓reduceIte, reduceCtorEq, String.reduceBNe, String.reduceEq, reduceDIte, Nat.reducePow, hl, hlr, oL, setMap, hrd, hrs, hrm, pD, pR, pM, gD, gR, gM, sD, sR, sM, aA, aS, aK, aT, List.set_set, List.length_set, List.getElem?_set_ne ndr, List.getElem?_set_ne ndm, List.getElem?_set_ne nrm, List.getElem?_set_ne nrd, List.getElem?_set_ne nmd, List.getElem?_set_ne nmr, drB, rowD, mapD]
  refine Thn_n ?_
  refine hK _ _ ?_
  clear hK K
  refine AW.block ?_
  refine AW.loopK [0, 11, 12] (fun i => i ≤ kn) (fun i => [(13, .one (.int .i64 (i : Int)))]) (fun i => [(rs, ⟨.grow, 29, 0, 128, u8l (catB n (crF D.S D.E ks i))⟩)]) (fun i => kn - i) 0 (by omega) ?_ ?_ fun i hi6 => ?_
  · first | rfl | (simp only [Keeps, Tm.get_cons, Nat.reduceEqDiff, ↓reduceIte, if_true, if_false, ite_true, ite_false, true_and, and_true, and_self, reduceCtorEq, crF, Int.natCast_zero] <;> rfl)
  · simp only [setAll, crF]; exact set_self h.r
  try simp only [keepL, setAll, push_cast, Nat.reduceAdd, Nat.reduceMul, Nat.reduceSub, Nat.reduceLeDiff, Nat.reduceLT, Nat.reduceEqDiff, Nat.reduceBEq, Nat.reduceBNe, Nat.reduceMod, Nat.reduceDiv, Int.reduceLE, Int.reduceLT, Int.reduceToNat, Int.reduceAdd, Int.reduceSub, Int.reduceMul, Int.reduceNeg, Int.reduceEq, Int.reduceBEq, Int.reduceBNe, ↓reduceIte, reduceCtorEq, String.reduceBNe, String.reduceEq, reduceDIte, Nat.reducePow, hl, hlr, oL, setMap, hrd, hrs, hrm, pD, pR, pM, gD, gR, gM, sD, sR, sM, aA, aS, aK, aT, List.set_set, List.length_set, List.getElem?_set_ne ndr, List.getElem?_set_ne ndm, List.getElem?_set_ne nrm, List.getElem?_set_ne nrd, List.getElem?_set_ne nmd, List.getElem?_set_ne nmr, drB, rowD, mapD]
  refine AW.seq_k fun K hK => ?_
  refine AW.region (by decide) ?_
  simp only [push_cast, Nat.reduceAdd, Nat.reduceMul, Nat.reduceSub, Nat.reduceLeDiff, Nat.reduceLT, Nat.reduceEqDiff, Nat.reduceBEq, Nat.reduceBNe, Nat.reduceMod, Nat.reduceDiv, Int.reduceLE, Int.reduceLT, Int.reduceToNat, Int.reduceAdd, Int.reduceSub, Int.reduceMul, Int.reduceNeg, Int.reduceEq, Int.reduceBEq, Int.reduceBNe, ↓reduceIte, reduceCtorEq, String.reduceBNe, String.reduceEq, reduceDIte, Nat.reducePow, hl, hlr, oL, setMap, hrd, hrs, hrm, pD, pR, pM, gD, gR, gM, sD, sR, sM, aA, aS, aK, aT, List.set_set, List.length_set, List.getElem?_set_ne ndr, List.getElem?_set_ne ndm, List.getElem?_set_ne nrm, List.getElem?_set_ne nrd, List.getElem?_set_ne nmd, List.getElem?_set_ne nmr, drB, rowD, mapD]
  refine Thn_n ?_
  refine hK _ _ ?_
  clear hK K
  refine AW.seq_k fun K hK => ?_
  refine AW.cond rfl (fun h14 => ?_) (fun h14 => ?_)
  · have hlt : i < kn := by have := of_decide_eq_true h14; omega
    have c1 : (0 : Int) ≤ (i : Int) := by omega
    have c2 : (i : Int) < (kn : Int) := by omega
    have g := il_get (f := ks) hlt
    refine AW.skip ?_
    refine Thn_n ?_
    refine hK _ _ ?_
    clear hK K
    refine AW.seq_k fun K hK => ?_
    refine AW.block ?_
    refine AW.seq_k fun K hK => ?_
    refine AW.region (by decide) ?_
    simp only [push_cast, Nat.reduceAdd, Nat.reduceMul, Nat.reduceSub, Nat.reduceLeDiff, Nat.reduceLT, Nat.reduceEqDiff, Nat.reduceBEq, Nat.reduceBNe, Nat.reduceMod, Nat.reduceDiv, Int.reduceLE, Int.reduceLT, Int.reduceToNat, Int.reduceAdd, Int.reduceSub, Int.reduceMul, Int.reduceNeg, Int.reduceEq, Int.reduceBEq, Int.reduceBNe, ↓reduceIte, reduceCtorEq, String.reduceBNe, String.reduceEq, reduceDIte, Nat.reducePow, hl, hlr, oL, setMap, hrd, hrs, hrm, pD, pR, pM, gD, gR, gM, sD, sR, sM, aA, aS, aK, aT, List.set_set, List.length_set, List.getElem?_set_ne ndr, List.getElem?_set_ne ndm, List.getElem?_set_ne nrm, List.getElem?_set_ne nrd, List.getElem?_set_ne nmd, List.getElem?_set_ne nmr, drB, rowD, mapD, c1, c2, g]
    refine Thn_n ?_
    refine hK _ _ ?_
    clear hK K
    refine AW.seq_k fun K hK => ?_
    rcases hf : fndE (ks i) D.E with _ | j
    · have g1 := findL_eL (ks i) D.E
      rw [hf] at g1
      have hnx : crF D.S D.E ks (i + 1) = crF D.S D.E ks i := by
        show (match lkE (ks i) D.E with | some v => _ | none => _) = _
        rw [lkE_none hf]
      refine AW.region (by decide) ?_
      simp only [push_cast, Nat.reduceAdd, Nat.reduceMul, Nat.reduceSub, Nat.reduceLeDiff, Nat.reduceLT, Nat.reduceEqDiff, Nat.reduceBEq, Nat.reduceBNe, Nat.reduceMod, Nat.reduceDiv, Int.reduceLE, Int.reduceLT, Int.reduceToNat, Int.reduceAdd, Int.reduceSub, Int.reduceMul, Int.reduceNeg, Int.reduceEq, Int.reduceBEq, Int.reduceBNe, ↓reduceIte, reduceCtorEq, String.reduceBNe, String.reduceEq, reduceDIte, Nat.reducePow, hl, hlr, oL, setMap, hrd, hrs, hrm, pD, pR, pM, gD, gR, gM, sD, sR, sM, aA, aS, aK, aT, List.set_set, List.length_set, List.getElem?_set_ne ndr, List.getElem?_set_ne ndm, List.getElem?_set_ne nrm, List.getElem?_set_ne nrd, List.getElem?_set_ne nmd, List.getElem?_set_ne nmr, drB, rowD, mapD, c1, c2, g, g1]
      refine Thn_n ?_
      refine hK _ _ ?_
      clear hK K
      refine AW.seq_k fun K hK => ?_
      refine AW.region (by decide) ?_
      simp only [push_cast, Nat.reduceAdd, Nat.reduceMul, Nat.reduceSub, Nat.reduceLeDiff, Nat.reduceLT, Nat.reduceEqDiff, Nat.reduceBEq, Nat.reduceBNe, Nat.reduceMod, Nat.reduceDiv, Int.reduceLE, Int.reduceLT, Int.reduceToNat, Int.reduceAdd, Int.reduceSub, Int.reduceMul, Int.reduceNeg, Int.reduceEq, Int.reduceBEq, Int.reduceBNe, ↓reduceIte, reduceCtorEq, String.reduceBNe, String.reduceEq, reduceDIte, Nat.reducePow, hl, hlr, oL, setMap, hrd, hrs, hrm, pD, pR, pM, gD, gR, gM, sD, sR, sM, aA, aS, aK, aT, List.set_set, List.length_set, List.getElem?_set_ne ndr, List.getElem?_set_ne ndm, List.getElem?_set_ne nrm, List.getElem?_set_ne nrd, List.getElem?_set_ne nmd, List.getElem?_set_ne nmr, drB, rowD, mapD, c1, c2, g, g1]
      refine Thn_n ?_
      refine hK _ _ ?_
      clear hK K
      refine AW.cond_f rfl ?_
      refine AW.skip ?_
      refine InB_n ?_
      refine Thn_n ?_
      refine hK _ _ ?_
      clear hK K
      refine AW.region (by decide) ?_
      simp only [push_cast, Nat.reduceAdd, Nat.reduceMul, Nat.reduceSub, Nat.reduceLeDiff, Nat.reduceLT, Nat.reduceEqDiff, Nat.reduceBEq, Nat.reduceBNe, Nat.reduceMod, Nat.reduceDiv, Int.reduceLE, Int.reduceLT, Int.reduceToNat, Int.reduceAdd, Int.reduceSub, Int.reduceMul, Int.reduceNeg, Int.reduceEq, Int.reduceBEq, Int.reduceBNe, ↓reduceIte, reduceCtorEq, String.reduceBNe, String.reduceEq, reduceDIte, Nat.reducePow, hl, hlr, oL, setMap, hrd, hrs, hrm, pD, pR, pM, gD, gR, gM, sD, sR, sM, aA, aS, aK, aT, List.set_set, List.length_set, List.getElem?_set_ne ndr, List.getElem?_set_ne ndm, List.getElem?_set_ne nrm, List.getElem?_set_ne nrd, List.getElem?_set_ne nmd, List.getElem?_set_ne nmr, drB, rowD, mapD, c1, c2, g, g1]
      refine Thn_n ?_
      have hwi : IntKind.i64.wrap ((i:Int)+1) = (i:Int)+1 := wi (by omega)
      refine ⟨i + 1, hlt, by omega, ?_⟩
      try simp only [keepL, setAll, push_cast, Nat.reduceAdd, Nat.reduceMul, Nat.reduceSub, Nat.reduceLeDiff, Nat.reduceLT, Nat.reduceEqDiff, Nat.reduceBEq, Nat.reduceBNe, Nat.reduceMod, Nat.reduceDiv, Int.reduceLE, Int.reduceLT, Int.reduceToNat, Int.reduceAdd, Int.reduceSub, Int.reduceMul, Int.reduceNeg, Int.reduceEq, Int.reduceBEq, Int.reduceBNe, ↓reduceIte, reduceCtorEq, String.reduceBNe, String.reduceEq, reduceDIte, Nat.reducePow, hl, hlr, oL, setMap, hrd, hrs, hrm, pD, pR, pM, gD, gR, gM, sD, sR, sM, aA, aS, aK, aT, List.set_set, List.length_set, List.getElem?_set_ne ndr, List.getElem?_set_ne ndm, List.getElem?_set_ne nrm, List.getElem?_set_ne nrd, List.getElem?_set_ne nmd, List.getElem?_set_ne nmr, drB, rowD, mapD, c1, c2, g, g1, hwi, hnx]
      exact Weak.to (extra := [_]) (by simp only [Keeps, Tm.get_cons, Nat.reduceEqDiff, ↓reduceIte, if_true, if_false, ite_true, ite_false, true_and, and_true, and_self, reduceCtorEq, hwi, hnx]) (by first | rfl | (simp only [List.append_assoc, List.cons_append, List.nil_append]; rfl)) (by first | rfl | (simp [AV.below, CV.below]; done) | (simp [AV.below, CV.below]; omega)) (by rw [List.length_set]; exact MWf_setB hwf (u8l_below _ _) rfl)
    · have g1 := findL_eL (ks i) D.E
      rw [hf] at g1
      obtain ⟨b, w, hj, hl⟩ := fndE_some hf
      have g4 := eL_get hj
      simp only [eC] at g4
      have hme := List.mem_of_getElem? hj
      have hw128 := hwd.e.len _ hme
      have hkey := hwd.e.key _ hme
      dsimp only at hw128 hkey
      have g5 : (u8l w).length = 128 := by rw [u8l_len]; exact hw128
      have g6 : (u8l w).take 128 = u8l w := List.take_of_length_le (by omega)
      have g7 := u8l_vals w
      have g8 : setL [.int .u8 0, .int .u8 0, .int .u8 0, .int .u8 0, .int .u8 0, .int .u8 0, .int .u8 0, .int .u8 0, .int .u8 0, .int .u8 0, .int .u8 0, .int .u8 0, .int .u8 0, .int .u8 0, .int .u8 0, .int .u8 0, .int .u8 0, .int .u8 0, .int .u8 0, .int .u8 0, .int .u8 0, .int .u8 0, .int .u8 0, .int .u8 0, .int .u8 0, .int .u8 0, .int .u8 0, .int .u8 0, .int .u8 0, .int .u8 0, .int .u8 0, .int .u8 0, .int .u8 0, .int .u8 0, .int .u8 0, .int .u8 0, .int .u8 0, .int .u8 0, .int .u8 0, .int .u8 0, .int .u8 0, .int .u8 0, .int .u8 0, .int .u8 0, .int .u8 0, .int .u8 0, .int .u8 0, .int .u8 0, .int .u8 0, .int .u8 0, .int .u8 0, .int .u8 0, .int .u8 0, .int .u8 0, .int .u8 0, .int .u8 0, .int .u8 0, .int .u8 0, .int .u8 0, .int .u8 0, .int .u8 0, .int .u8 0, .int .u8 0, .int .u8 0, .int .u8 0, .int .u8 0, .int .u8 0, .int .u8 0, .int .u8 0, .int .u8 0, .int .u8 0, .int .u8 0, .int .u8 0, .int .u8 0, .int .u8 0, .int .u8 0, .int .u8 0, .int .u8 0, .int .u8 0, .int .u8 0, .int .u8 0, .int .u8 0, .int .u8 0, .int .u8 0, .int .u8 0, .int .u8 0, .int .u8 0, .int .u8 0, .int .u8 0, .int .u8 0, .int .u8 0, .int .u8 0, .int .u8 0, .int .u8 0, .int .u8 0, .int .u8 0, .int .u8 0, .int .u8 0, .int .u8 0, .int .u8 0, .int .u8 0, .int .u8 0, .int .u8 0, .int .u8 0, .int .u8 0, .int .u8 0, .int .u8 0, .int .u8 0, .int .u8 0, .int .u8 0, .int .u8 0, .int .u8 0, .int .u8 0, .int .u8 0, .int .u8 0, .int .u8 0, .int .u8 0, .int .u8 0, .int .u8 0, .int .u8 0, .int .u8 0, .int .u8 0, .int .u8 0, .int .u8 0, .int .u8 0, .int .u8 0, .int .u8 0, .int .u8 0] 0 (u8l w) = u8l w := setL_all (by rw [g5]; rfl)
      have hnx : crF D.S D.E ks (i + 1) = updS (crF D.S D.E ks i) (ks i).toNat w := by
        show (match lkE (ks i) D.E with | some v => _ | none => _) = _
        have e : lkE (ks i) D.E = some w := by unfold lkE; rw [hl]; rfl
        rw [e]
      have p1 : 0 ≤ ks i := hkey.1
      have p2 : ks i < (n : Int) := hkey.2
      have p3 : (ks i).toNat < n := by omega
      have p4 : (ks i).toNat * 128 + 128 ≤ n * 128 := by omega
      have hcl : (u8l (catB n (crF D.S D.E ks i))).length = n * 128 := by rw [u8l_len, catB_len (crF_len hwd.s hwd.e ks i)]
      have hcs := catB_set (crF_len hwd.s hwd.e ks i) p3 hw128
      refine AW.region (by decide) ?_
      simp only [push_cast, Nat.reduceAdd, Nat.reduceMul, Nat.reduceSub, Nat.reduceLeDiff, Nat.reduceLT, Nat.reduceEqDiff, Nat.reduceBEq, Nat.reduceBNe, Nat.reduceMod, Nat.reduceDiv, Int.reduceLE, Int.reduceLT, Int.reduceToNat, Int.reduceAdd, Int.reduceSub, Int.reduceMul, Int.reduceNeg, Int.reduceEq, Int.reduceBEq, Int.reduceBNe, ↓reduceIte, reduceCtorEq, String.reduceBNe, String.reduceEq, reduceDIte, Nat.reducePow, hl, hlr, oL, setMap, hrd, hrs, hrm, pD, pR, pM, gD, gR, gM, sD, sR, sM, aA, aS, aK, aT, List.set_set, List.length_set, List.getElem?_set_ne ndr, List.getElem?_set_ne ndm, List.getElem?_set_ne nrm, List.getElem?_set_ne nrd, List.getElem?_set_ne nmd, List.getElem?_set_ne nmr, drB, rowD, mapD, c1, c2, g, g1, g4, g5, g6, g7, g8, p1, p2, p4, hcl, hcs, Nat.le_refl]
      refine Thn_n ?_
      refine hK _ _ ?_
      clear hK K
      refine AW.seq_k fun K hK => ?_
      refine AW.region (by decide) ?_
      simp only [push_cast, Nat.reduceAdd, Nat.reduceMul, Nat.reduceSub, Nat.reduceLeDiff, Nat.reduceLT, Nat.reduceEqDiff, Nat.reduceBEq, Nat.reduceBNe, Nat.reduceMod, Nat.reduceDiv, Int.reduceLE, Int.reduceLT, Int.reduceToNat, Int.reduceAdd, Int.reduceSub, Int.reduceMul, Int.reduceNeg, Int.reduceEq, Int.reduceBEq, Int.reduceBNe, ↓reduceIte, reduceCtorEq, String.reduceBNe, String.reduceEq, reduceDIte, Nat.reducePow, hl, hlr, oL, setMap, hrd, hrs, hrm, pD, pR, pM, gD, gR, gM, sD, sR, sM, aA, aS, aK, aT, List.set_set, List.length_set, List.getElem?_set_ne ndr, List.getElem?_set_ne ndm, List.getElem?_set_ne nrm, List.getElem?_set_ne nrd, List.getElem?_set_ne nmd, List.getElem?_set_ne nmr, drB, rowD, mapD, c1, c2, g, g1, g4, g5, g6, g7, g8, p1, p2, p4, hcl, hcs, Nat.le_refl]
      refine Thn_n ?_
      refine hK _ _ ?_
      clear hK K
      refine AW.cond_t rfl ?_
      refine AW.draw [.val, .val, .val, .rd 0, .val, .rd 0, .val, .wr] fol (by decide) (by kernel_rfl) ?_
      simp only [push_cast, Nat.reduceAdd, Nat.reduceMul, Nat.reduceSub, Nat.reduceLeDiff, Nat.reduceLT, Nat.reduceEqDiff, Nat.reduceBEq, Nat.reduceBNe, Nat.reduceMod, Nat.reduceDiv, Int.reduceLE, Int.reduceLT, Int.reduceToNat, Int.reduceAdd, Int.reduceSub, Int.reduceMul, Int.reduceNeg, Int.reduceEq, Int.reduceBEq, Int.reduceBNe, ↓reduceIte, reduceCtorEq, String.reduceBNe, String.reduceEq, reduceDIte, Nat.reducePow, hl, hlr, oL, setMap, hrd, hrs, hrm, pD, pR, pM, gD, gR, gM, sD, sR, sM, aA, aS, aK, aT, List.set_set, List.length_set, List.getElem?_set_ne ndr, List.getElem?_set_ne ndm, List.getElem?_set_ne nrm, List.getElem?_set_ne nrd, List.getElem?_set_ne nmd, List.getElem?_set_ne nmr, drB, rowD, mapD, c1, c2, g, g1, g4, g5, g6, g7, g8, p1, p2, p4, hcl, hcs, Nat.le_refl]
      refine InB_n ?_
      refine Thn_n ?_
      refine hK _ _ ?_
      clear hK K
      refine AW.region (by decide) ?_
      simp only [push_cast, Nat.reduceAdd, Nat.reduceMul, Nat.reduceSub, Nat.reduceLeDiff, Nat.reduceLT, Nat.reduceEqDiff, Nat.reduceBEq, Nat.reduceBNe, Nat.reduceMod, Nat.reduceDiv, Int.reduceLE, Int.reduceLT, Int.reduceToNat, Int.reduceAdd, Int.reduceSub, Int.reduceMul, Int.reduceNeg, Int.reduceEq, Int.reduceBEq, Int.reduceBNe, ↓reduceIte, reduceCtorEq, String.reduceBNe, String.reduceEq, reduceDIte, Nat.reducePow, hl, hlr, oL, setMap, hrd, hrs, hrm, pD, pR, pM, gD, gR, gM, sD, sR, sM, aA, aS, aK, aT, List.set_set, List.length_set, List.getElem?_set_ne ndr, List.getElem?_set_ne ndm, List.getElem?_set_ne nrm, List.getElem?_set_ne nrd, List.getElem?_set_ne nmd, List.getElem?_set_ne nmr, drB, rowD, mapD, c1, c2, g, g1, g4, g5, g6, g7, g8, p1, p2, p4, hcl, hcs, Nat.le_refl]
      refine Thn_n ?_
      have hwi : IntKind.i64.wrap ((i:Int)+1) = (i:Int)+1 := wi (by omega)
      refine ⟨i + 1, hlt, by omega, ?_⟩
      try simp only [keepL, setAll, push_cast, Nat.reduceAdd, Nat.reduceMul, Nat.reduceSub, Nat.reduceLeDiff, Nat.reduceLT, Nat.reduceEqDiff, Nat.reduceBEq, Nat.reduceBNe, Nat.reduceMod, Nat.reduceDiv, Int.reduceLE, Int.reduceLT, Int.reduceToNat, Int.reduceAdd, Int.reduceSub, Int.reduceMul, Int.reduceNeg, Int.reduceEq, Int.reduceBEq, Int.reduceBNe, ↓reduceIte, reduceCtorEq, String.reduceBNe, String.reduceEq, reduceDIte, Nat.reducePow, hl, hlr, oL, setMap, hrd, hrs, hrm, pD, pR, pM, gD, gR, gM, sD, sR, sM, aA, aS, aK, aT, List.set_set, List.length_set, List.getElem?_set_ne ndr, List.getElem?_set_ne ndm, List.getElem?_set_ne nrm, List.getElem?_set_ne nrd, List.getElem?_set_ne nmd, List.getElem?_set_ne nmr, drB, rowD, mapD, c1, c2, g, g1, g4, g5, g6, g7, g8, p1, p2, p4, hcl, hcs, Nat.le_refl, hwi, hnx]
      exact Weak.to (extra := [_]) (by simp only [Keeps, Tm.get_cons, Nat.reduceEqDiff, ↓reduceIte, if_true, if_false, ite_true, ite_false, true_and, and_true, and_self, reduceCtorEq, hwi, hnx]) (by first | rfl | (simp only [List.append_assoc, List.cons_append, List.nil_append]; rfl)) (by first | rfl | (simp [AV.below, CV.below]; done) | (simp [AV.below, CV.below]; omega)) (by rw [List.length_set]; exact MWf_setB hwf (u8l_below _ _) rfl)
  · have hie : i = kn := by have := of_decide_eq_false h14; omega
    subst hie
    refine AW.exit ?_
    refine Thn_e ?_
    clear hK K
    refine Thn_e ?_
    refine InB_here ?_
    iterate 3
      refine Thn_n ?_
      refine hK _ _ ?_
      clear hK K
      refine AW.seq_k fun K hK => ?_
      refine AW.region (by decide) ?_
      simp only [push_cast, Nat.reduceAdd, Nat.reduceMul, Nat.reduceSub, Nat.reduceLeDiff, Nat.reduceLT, Nat.reduceEqDiff, Nat.reduceBEq, Nat.reduceBNe, Nat.reduceMod, Nat.reduceDiv, Int.reduceLE, Int.reduceLT, Int.reduceToNat, Int.reduceAdd, Int.reduceSub, Int.reduceMul, Int.reduceNeg, Int.reduceEq, Int.reduceBEq, Int.reduceBNe, ↓reduceIte, reduceCtorEq, String.reduceBNe, String.reduceEq, reduceDIte, Nat.reducePow, hl, hlr, oL, setMap, hrd, hrs, hrm, pD, pR, pM, gD, gR, gM, sD, sR, sM, aA, aS, aK, aT, List.set_set, List.length_set, List.getElem?_set_ne ndr, List.getElem?_set_ne ndm, List.getElem?_set_ne nrm, List.getElem?_set_ne nrd, List.getElem?_set_ne nmd, List.getElem?_set_ne nmr, drB, rowD, mapD]
    refine Thn_n ?_
    refine hK _ _ ?_
    clear hK K
    refine AW.ret ?_
    refine hQ _ _ _ ?_
    rw [e2] at hw2 ⊢
    have key : ∀ A B C : Blk, ((m.set rd A).set rs B).set rm C = ((m.set rs B).set rm C).set rd A := fun A B C => by
      rw [List.set_comm _ _ ndr, List.set_comm _ _ ndm]
    rw [key] at hw2 ⊢
    first | refine RetP.dropM0 (by simp only [List.length_set]) (by first | exact Or.inr rfl | exact Or.inl rfl) ?_ ?_ hw2 | refine RetP.dropM (by simp only [List.length_set]) (by first | exact Or.inr rfl | exact Or.inl rfl) ?_ ?_ hw2
    · simp only [resA, resOne, resTv, AV.tv, push_cast, Nat.reduceAdd, Nat.reduceMul, Nat.reduceSub, Nat.reduceLeDiff, Nat.reduceLT, Nat.reduceEqDiff, Nat.reduceBEq, Nat.reduceBNe, Nat.reduceMod, Nat.reduceDiv, Int.reduceLE, Int.reduceLT, Int.reduceToNat, Int.reduceAdd, Int.reduceSub, Int.reduceMul, Int.reduceNeg, Int.reduceEq, Int.reduceBEq, Int.reduceBNe, ↓reduceIte, reduceCtorEq, String.reduceBNe, String.reduceEq, reduceDIte, Nat.reducePow]
    · rfl
end Go.Proofs.Ytcahlnddcjifdaa

/-
  ENGINE, PART X: functions that the model itself answers: internal/abi.NoEscape, internal/bytealg.IndexByteString.
-/
set_option linter.unusedVariables false
namespace Go.Eng
open Go
variable {P : Program} {m m' : AMem}
theorem Ctr.extern {f : FuncId} {fn : Func} {e : Array Value → Sem Value} {args : List AV} {ret : AV} (hf : P.funcs[f]? = some fn) (hname : (fn.name == "runtime.NumGoroutine") = false)
    (hb : fn.body.isNone = true) (hn : Extern.findNext fn = none) (he : Extern.find fn = some e)
    (h : ∀ ρ w vs, RepM ρ m w → All2 (VR ρ) args vs → ∃ v w' ρ', (e vs.toArray).run P w = .ok v w' ∧ VR ρ' ret v ∧ RepM ρ' m' w' ∧ Step m ρ w m' ρ' w') : Ctr P f args m ret m' := fun ρ w vs hm ha => by
  obtain ⟨v, w', ρ', h1, h2, h3, h4⟩ := h ρ w vs hm ha
  refine .inr ⟨v, w', ?_, v, ρ', rfl, h2, h3, h4⟩
  rw [run_callFunc_extern hf hname hb hn he, h1]; rfl
theorem noEscape_x {f : FuncId} {fn : Func} (hf : P.funcs[f]? = some fn) (hname : (fn.name == "runtime.NumGoroutine") = false) (hb : fn.body.isNone = true) (hn : Extern.findNext fn = none) (he : Extern.find fn = some Extern.AbiNoEscape.same) (x : AV) (m : AMem) : Ctr P f [x] m x m :=
  Ctr.extern hf hname hb hn he fun ρ w vs hm ha => by
    match vs, ha with
    | [v], ha => exact ⟨v, w, ρ, Lib.run_noEscape w v, ha.1, hm, Step.refl _ _ _⟩
theorem indexByteString_x {f : FuncId} {fn : Func} (hf : P.funcs[f]? = some fn) (hname : (fn.name == "runtime.NumGoroutine") = false) (hb : fn.body.isNone = true) (hn : Extern.findNext fn = none) (he : Extern.find fn = some Extern.BytealgIndexByte.indexByte) (s : ByteArray) (c : Int) (m : AMem) :
    Ctr P f [.one (.str s), .one (.int .u8 c)] m (.one (.int .i64 (firstIdx s c.toNat.toUInt8))) m :=
  Ctr.extern hf hname hb hn he fun ρ w vs hm ha => by
    match vs, ha with
    | [u, v], ha =>
      have e1 : u = _ := ha.1
      have e2 : v = _ := ha.2.1
      subst e1; subst e2
      exact ⟨_, w, ρ, run_indexByte_string s c w, rfl, hm, Step.refl _ _ _⟩
end Go.Eng

/-
  ENGINE, PART Y: a step of a loop over a map of our own: whichever entry is left may come next. What a package-level variable holds, where memory grows.
-/
set_option linter.unusedVariables false
set_option linter.unusedSimpArgs false
namespace Go.Eng
open Go
variable {P : Program} {nt : Nat} {tm : Tm} {mem : AMem} {Q : Exit → Tm → AMem → Prop}

theorem AW.wfI {c : Code} (h : MWf mem.length mem → AW P nt c tm mem Q) : AW P nt c tm mem Q := fun ρ a w hr => h hr.mem.wf ρ a w hr

theorem gB_app {m : AMem} {g : Nat} {cs : List CV} (h : gB m g = some cs) (x : AMem) : gB (m ++ x) g = some cs := by
  unfold gB at h ⊢
  rw [List.find?_append]
  cases hf : m.find? fun b => b.kind.tag == 2 && b.ver == g + 1 && !b.cells.isEmpty with
  | none => rw [hf] at h; cases h
  | some b => rw [hf] at h; simpa using h
theorem gB_set {m : AMem} {g : Nat} {cs : List CV} (h : gB m g = some cs) {r : Nat} {b b' : Blk} (hb : m[r]? = some b) (hk : b.kind ≠ .ro) (hk' : b'.kind ≠ .ro) : gB (m.set r b') g = some cs := by
  have key : ∀ (m : AMem) (r : Nat), m[r]? = some b → ((m.set r b').find? fun b => b.kind.tag == 2 && b.ver == g + 1 && !b.cells.isEmpty) = m.find? fun b => b.kind.tag == 2 && b.ver == g + 1 && !b.cells.isEmpty := by
    intro m
    induction m with
    | nil => intro r h; simp at h
    | cons x m ih =>
      intro r h
      have hno : ∀ y : Blk, y.kind ≠ .ro → (y.kind.tag == 2) = false := fun y hy => by
        rw [beq_eq_false_iff_ne]; exact fun e => hy (BK.tag_ro.1 e)
      cases r with
      | zero =>
        simp only [List.getElem?_cons_zero, Option.some.injEq] at h
        subst h
        simp only [List.set_cons_zero, List.find?_cons, hno _ hk, hno _ hk', Bool.false_and]
      | succ r =>
        simp only [List.getElem?_cons_succ] at h
        simp only [List.set_cons_succ, List.find?_cons, ih r h]
  unfold gB at h ⊢
  rw [key m r hb]; exact h

theorem leftOf_mem {ρ : Env} {ka va : Bool} {seen : List Nat} : ∀ {es : List (Nat × List CV × List CV)} {o : List MapEntry}, All2 (entR ρ ka va) es o → ∀ {x : MapEntry}, x ∈ o → x.born ∉ seen → ∃ (j : Nat) (e : Nat × List CV × List CV), es[j]? = some e ∧ e.1 = x.born ∧ e.1 ∉ seen ∧ entR ρ ka va e x
  | [], [], _, x, h, _ => by cases h
  | e :: es, y :: o, ho, x, h, hs => by
    rcases List.mem_cons.1 h with rfl | h
    · exact ⟨0, e, rfl, ho.1.1.symm, by rw [← ho.1.1]; exact hs, ho.1⟩
    · obtain ⟨j, e', h1, h2⟩ := leftOf_mem ho.2 h hs
      exact ⟨j + 1, e', by simpa using h1, h2⟩
  | [], _ :: _, h, _, _, _ => h.elim
  | _ :: _, [], h, _, _, _ => h.elim

/-- A STEP OF A LOOP OVER A MAP. -/
theorem AW.next {id d t : Nat} {ty : TypeId} {pos : String} {af : Array Edge} {l : List Oper} (ri rm since last : Nat) (seen : List Nat) {ity iesz : Nat} {clock : Nat} {ka va : Bool} {es : List (Nat × List CV × List CV)}
    (hd : d < nt) (hl : l.all (dstOk nt) = true) (hit : Tm.get tm t = .one (.ptr ri 0 0)) (hi : mem[ri]? = some ⟨.iter rm since seen last, ity, 0, iesz, []⟩) (hm : mapAt mem rm 0 = some (ka, va, clock, es))
    (hold : ∀ e, e ∈ es → e.1 < since) (hsc : since ≤ last)
    (hMore : ∀ (j : Nat) (e : Nat × List CV × List CV), es[j]? = some e → e.1 ∉ seen → AOps P (⟨some d, .next (.tmp t) false, ty, pos, af, none⟩ :: l).toArray l ((d, .tup [(false, [.bool true]), (ka, e.2.1), (va, e.2.2)]) :: tm) (mem.set ri ⟨.iter rm since (seen ++ [e.1]) clock, ity, 0, iesz, []⟩) (Q .normal))
    (hDone : (∀ e, e ∈ es → e.1 ∈ seen) → AOps P (⟨some d, .next (.tmp t) false, ty, pos, af, none⟩ :: l).toArray l ((d, .tup [(false, [.bool false])]) :: tm) mem (Q .normal)) :
    AW P nt (.region id (⟨some d, .next (.tmp t) false, ty, pos, af, none⟩ :: l).toArray false) tm mem Q := by
  intro ρ a w hr
  refine wp_region_lit ?_
  refine wpList_plain rfl fun K hK => ?_
  unfold Oper.wp
  have hv := hr.tm t
  rw [hit] at hv
  obtain ⟨n, N, k, k', h1, h2, h3, h4, hv'⟩ := iter_sound hr.mem hi hv
  obtain ⟨b, N', kk, o, hb', hver, hkind, hcells, hρ, hvv, hheap, hall⟩ := mapAt_sound hr.mem hm (v := .map (some N)) ⟨N, k', h2, rfl⟩
  injection hvv with hvv; injection hvv with hvv; subst hvv
  have hold' : ∀ x ∈ o.toList, x.born < since := fun x hx => by
    obtain ⟨i, hi'⟩ := List.getElem?_of_mem hx
    have hlen := hall.length
    have hil : i < es.length := by rw [hlen]; exact (List.getElem?_eq_some_iff.1 hi').1
    obtain ⟨x', hx', g⟩ := hall.get (List.getElem?_eq_getElem hil)
    rw [hi'] at hx'; injection hx' with hx'; subst hx'
    rw [g.1]; exact hold _ (List.getElem_mem hil)
  have hex : ∀ r, (Instr.next (.pointer (some ⟨n, 0, none⟩)) false ty).run P w = r → (execOp a.eval ⟨some d, .next (.tmp t) false, ty, pos, af, none⟩).run P w = r.andThen fun v w' => .ok (.value v) w' := by
    intro r hr'
    have e : a.eval (.tmp t) = .pointer (some ⟨n, 0, none⟩) := hv'
    simp only [execOp, e, Sem.run_bind, hr', Sem.run_pure]
  rcases run_next_at (P := P) w ty n N since last seen.toArray o clock h3 hheap hold' hsc with ⟨h0, hrun⟩ | ⟨x, hx, w1, hw1, hrun⟩
  · rw [hex _ hrun, Result.andThen_ok, Oper.upon_value]
    refine hK _ _ ?_
    have hall0 : ∀ e, e ∈ es → e.1 ∈ seen := fun e he => by
      obtain ⟨i, hi'⟩ := List.getElem?_of_mem he
      obtain ⟨x, hx, g⟩ := hall.get hi'
      rcases Classical.em (e.1 ∈ seen) with h | h
      · exact h
      · exfalso
        have : x ∈ (leftOf o seen.toArray).toList := by
          unfold leftOf
          simp only [Array.toList_filter, List.mem_filter, Bool.not_eq_true', List.contains_toArray]
          exact ⟨List.mem_of_getElem? hx, by rw [g.1]; simpa using h⟩
        rw [Array.eq_empty_of_size_eq_zero h0] at this
        cases this
    have hr1 : Rep ρ nt ((d, .tup [(false, [.bool false])]) :: tm) mem (a.put (some d) (.tuple #[.bool false])) w := hr.put hd ⟨_, rfl, rfl, trivial⟩
    exact aops_sound l _ _ _ hl (hDone hall0) ρ _ w _ hr1 fun ρ' tm' mem' a' w' r s dd k => ⟨ρ', tm', mem', r, s, dd, k⟩
  · rw [hex _ hrun, Result.andThen_ok, Oper.upon_value]
    refine hK _ _ ?_
    have hxo : x ∈ o.toList ∧ x.born ∉ seen := by
      unfold leftOf at hx
      simp only [Array.toList_filter, List.mem_filter, Bool.not_eq_true', List.contains_toArray] at hx
      exact ⟨hx.1, by simpa using hx.2⟩
    obtain ⟨j, e, g1, g2, g3, g4⟩ := leftOf_mem hall hxo.1 hxo.2
    have hw : w1.heap = w.heap ∧ w1.os = w.os ∧ w1.tape = w.tape ∧ w1.output = w.output := by rcases hw1 with rfl | rfl <;> exact ⟨rfl, rfl, rfl, rfl⟩
    have hnl : n < w.heap.size := (Array.getElem?_eq_some_iff.1 h3).1
    have hbk : BlkR ρ (ChangeMaps.setBlock w1 n (.mapIter (some N) since (seen.toArray.push x.born) clock)) ri ⟨.iter rm since (seen ++ [e.1]) clock, ity, 0, iesz, []⟩ := by
      refine ⟨n, N, k, k', h1, h2, ?_, rfl⟩
      show (w1.heap.setIfInBounds n _)[n]? = _
      rw [hw.1, Array.getElem?_setIfInBounds_self_of_lt hnl, g2]
      simp
    obtain ⟨q1, q2⟩ := hr.mem.turn (w' := ChangeMaps.setBlock w1 n (.mapIter (some N) since (seen.toArray.push x.born) clock)) hi (by simp) h1 ⟨.iter rm since (seen ++ [e.1]) clock, ity, 0, iesz, []⟩ rfl rfl (by
        intro m hmn
        show (w1.heap.setIfInBounds n _)[m]? = _
        rw [hw.1, Array.getElem?_setIfInBounds_ne (fun e => hmn e.symm)]) (by show (w1.heap.setIfInBounds n _).size = _; rw [hw.1]; simp) hw.2.1 hw.2.2.1 hw.2.2.2 hbk
    have hr1 : Rep ρ nt ((d, .tup [(false, [.bool true]), (ka, e.2.1), (va, e.2.2)]) :: tm) (mem.set ri ⟨.iter rm since (seen ++ [e.1]) clock, ity, 0, iesz, []⟩) (a.put (some d) (.tuple #[.bool true, x.key, x.val])) (ChangeMaps.setBlock w1 n (.mapIter (some N) since (seen.toArray.push x.born) clock)) :=
      (hr.step q2 q1).put hd ⟨_, rfl, rfl, g4.2.1, g4.2.2.1, trivial⟩
    exact aops_sound l _ _ _ hl (hMore j e g1 g3) ρ _ _ _ hr1 fun ρ' tm' mem' a' w' r s dd k => ⟨ρ', tm', mem', r, q2.trans s, dd, k⟩
end Go.Eng

set_option linter.unusedSimpArgs false
set_option linter.unusedVariables false
set_option maxRecDepth 100000
set_option maxHeartbeats 4000000
namespace Go.Proofs.Ytcahlnddcjifdaa
open Go Go.Eng

theorem nd_len : ∀ {l r : List Nat}, l.Nodup → (∀ x, x ∈ l → x ∈ r) → l.length ≤ r.length
  | [], r, _, _ => Nat.zero_le _
  | x :: l, r, hn, hs => by
    rw [List.nodup_cons] at hn
    obtain ⟨a, b, rfl⟩ := List.append_of_mem (hs x List.mem_cons_self)
    have := nd_len (l := l) (r := a ++ b) hn.2 fun y hy => by
      have h1 := hs y (List.mem_cons_of_mem _ hy)
      have hne : y ≠ x := fun e => hn.1 (e ▸ hy)
      simp only [List.mem_append, List.mem_cons] at h1 ⊢
      rcases h1 with h1 | h1 | h1
      · exact .inl h1
      · exact (hne h1).elim
      · exact .inr h1
    simp only [List.length_append, List.length_cons] at this ⊢
    omega
theorem eL_find {E : DE} (hn : (E.map (·.1)).Nodup) {b : Nat} {k : Int} {v : List Int} (h : (b, k, v) ∈ E) : (eL E).find? (fun e => e.1 == b) = some (b, [.int .i64 k], u8l v) := by
  induction E with
  | nil => cases h
  | cons e E ih =>
    rw [List.map_cons, List.nodup_cons] at hn
    show (eC e :: eL E).find? _ = _
    rw [List.find?_cons]
    rcases List.mem_cons.1 h with rfl | h
    · simp [eC]
    · have hne : ((eC e).1 == b) = false := by
        rw [beq_eq_false_iff_ne]; intro e1
        exact hn.1 (by rw [show e.1 = b from e1]; exact List.mem_map_of_mem (f := (·.1)) h)
      rw [hne]
      exact ih hn.2 h
def syD (D : DS) : DS := { spD D with S := vis D.S D.E, E := [] }
theorem syD_wf {n : Nat} {D : DS} (h : WfD n D) : WfD n (syD D) := ⟨vis_len h.s h.e, WfE.nil n _⟩
structure SeenOk (E : DE) (seen : List Nat) : Prop where
  nd : seen.Nodup
  sub : ∀ x, x ∈ seen → x ∈ E.map (·.1)
theorem SeenOk.nil (E : DE) : SeenOk E [] := ⟨List.nodup_nil, fun x h => by cases h⟩
theorem SeenOk.add {E : DE} {seen : List Nat} (h : SeenOk E seen) {b : Nat} {k : Int} {v : List Int} (hb : (b, k, v) ∈ E) (hn : b ∉ seen) : SeenOk E (seen ++ [b]) :=
  ⟨List.nodup_append.2 ⟨h.nd, by simp, fun x hx y hy e => by simp at hy; subst hy; subst e; exact hn hx⟩, fun x hx => by
    rcases List.mem_append.1 hx with hx | hx
    · exact h.sub x hx
    · rw [List.mem_singleton.1 hx]; exact List.mem_map_of_mem (f := (·.1)) hb⟩
theorem SeenOk.lt {E : DE} {seen : List Nat} (h : SeenOk E seen) {b : Nat} {k : Int} {v : List Int} (hb : (b, k, v) ∈ E) (hn : b ∉ seen) : E.length - (seen ++ [b]).length < E.length - seen.length := by
  have h2 := h.add hb hn
  have := nd_len h2.nd h2.sub
  rw [List.length_map] at this
  simp only [List.length_append, List.length_cons, List.length_nil] at this ⊢
  omega
theorem getLast_app (s : List Nat) (b : Nat) : (s ++ [b]).getLast? = some b := by simp
theorem sy_nil (m : AMem) : Ctr Try.prog 9 [.one .nilp] m (.one (.int .i64 2)) m := by
  refine Ctr.enter Try.func9 rfl (by decide) (rs := [.tmp 2]) (nt := 37) rfl rfl fun hwf Q hQ => ?_
  refine AW.seq_k fun K hK => ?_
  refine AW.region (by decide) ?_
  simp only [push_cast, Nat.reduceAdd, Nat.reduceMul, Nat.reduceSub, Nat.reduceLeDiff, Nat.reduceLT, Nat.reduceEqDiff, Nat.reduceBEq, Nat.reduceBNe, Nat.reduceMod, Nat.reduceDiv, Int.reduceLE, Int.reduceLT, Int.reduceToNat, Int.reduceAdd, Int.reduceSub, Int.reduceMul, Int.reduceNeg, Int.reduceEq, Int.reduceBEq, Int.reduceBNe, ↓reduceIte, reduceCtorEq, String.reduceBNe, String.reduceEq, reduceDIte, Nat.reducePow]
  refine Thn_n ?_
  refine hK _ _ ?_
  clear hK K
  refine AW.seq_k fun K hK => ?_
  refine AW.seq_k fun K hK => ?_
  refine AW.region (by decide) ?_
  simp only [push_cast, Nat.reduceAdd, Nat.reduceMul, Nat.reduceSub, Nat.reduceLeDiff, Nat.reduceLT, Nat.reduceEqDiff, Nat.reduceBEq, Nat.reduceBNe, Nat.reduceMod, Nat.reduceDiv, Int.reduceLE, Int.reduceLT, Int.reduceToNat, Int.reduceAdd, Int.reduceSub, Int.reduceMul, Int.reduceNeg, Int.reduceEq, Int.reduceBEq, Int.reduceBNe, ↓reduceIte, reduceCtorEq, String.reduceBNe, String.reduceEq, reduceDIte, Nat.reducePow]
  refine CThen.by (up_nil _) ?_
  simp only [push_cast, Nat.reduceAdd, Nat.reduceMul, Nat.reduceSub, Nat.reduceLeDiff, Nat.reduceLT, Nat.reduceEqDiff, Nat.reduceBEq, Nat.reduceBNe, Nat.reduceMod, Nat.reduceDiv, Int.reduceLE, Int.reduceLT, Int.reduceToNat, Int.reduceAdd, Int.reduceSub, Int.reduceMul, Int.reduceNeg, Int.reduceEq, Int.reduceBEq, Int.reduceBNe, ↓reduceIte, reduceCtorEq, String.reduceBNe, String.reduceEq, reduceDIte, Nat.reducePow]
  refine Thn_n ?_
  refine hK _ _ ?_
  clear hK K
  refine AW.seq_k fun K hK => ?_
  refine AW.region (by decide) ?_
  simp only [push_cast, Nat.reduceAdd, Nat.reduceMul, Nat.reduceSub, Nat.reduceLeDiff, Nat.reduceLT, Nat.reduceEqDiff, Nat.reduceBEq, Nat.reduceBNe, Nat.reduceMod, Nat.reduceDiv, Int.reduceLE, Int.reduceLT, Int.reduceToNat, Int.reduceAdd, Int.reduceSub, Int.reduceMul, Int.reduceNeg, Int.reduceEq, Int.reduceBEq, Int.reduceBNe, ↓reduceIte, reduceCtorEq, String.reduceBNe, String.reduceEq, reduceDIte, Nat.reducePow]
  refine Thn_n ?_
  refine hK _ _ ?_
  clear hK K
  refine AW.cond_t rfl ?_
  refine AW.seq_k fun K hK => ?_
  refine AW.region (by decide) ?_
  simp only [push_cast, Nat.reduceAdd, Nat.reduceMul, Nat.reduceSub, Nat.reduceLeDiff, Nat.reduceLT, Nat.reduceEqDiff, Nat.reduceBEq, Nat.reduceBNe, Nat.reduceMod, Nat.reduceDiv, Int.reduceLE, Int.reduceLT, Int.reduceToNat, Int.reduceAdd, Int.reduceSub, Int.reduceMul, Int.reduceNeg, Int.reduceEq, Int.reduceBEq, Int.reduceBNe, ↓reduceIte, reduceCtorEq, String.reduceBNe, String.reduceEq, reduceDIte, Nat.reducePow]
  refine Thn_n ?_
  refine hK _ _ ?_
  clear hK K
  refine AW.ret ?_
  refine Thn_r ?_
  refine hQ _ _ _ ?_
  first | refine RetP.drop0 (Or.inr rfl) ?_ ?_ hwf | refine RetP.drop (Or.inr rfl) ?_ ?_ hwf
  · simp only [resA, resOne, resTv, AV.tv, push_cast, Nat.reduceAdd, Nat.reduceMul, Nat.reduceSub, Nat.reduceLeDiff, Nat.reduceLT, Nat.reduceEqDiff, Nat.reduceBEq, Nat.reduceBNe, Nat.reduceMod, Nat.reduceDiv, Int.reduceLE, Int.reduceLT, Int.reduceToNat, Int.reduceAdd, Int.reduceSub, Int.reduceMul, Int.reduceNeg, Int.reduceEq, Int.reduceBEq, Int.reduceBNe, ↓reduceIte, reduceCtorEq, String.reduceBNe, String.reduceEq, reduceDIte, Nat.reducePow]
  · rfl
theorem sy_down (rd rs rm n : Nat) (D : DS) (m : AMem) (hrd : m[rd]? = some (drB rs rm n D)) (h : D.down = true) : Ctr Try.prog 9 [.one (.ptr rd 0 0)] m (.one (.int .i64 5)) m := by
  refine Ctr.enter Try.func9 rfl (by decide) (rs := [.tmp 2]) (nt := 37) rfl rfl fun hwf Q hQ => ?_
  refine AW.seq_k fun K hK => ?_
  refine AW.region (by decide) ?_
  simp only [push_cast, Nat.reduceAdd, Nat.reduceMul, Nat.reduceSub, Nat.reduceLeDiff, Nat.reduceLT, Nat.reduceEqDiff, Nat.reduceBEq, Nat.reduceBNe, Nat.reduceMod, Nat.reduceDiv, Int.reduceLE, Int.reduceLT, Int.reduceToNat, Int.reduceAdd, Int.reduceSub, Int.reduceMul, Int.reduceNeg, Int.reduceEq, Int.reduceBEq, Int.reduceBNe, ↓reduceIte, reduceCtorEq, String.reduceBNe, String.reduceEq, reduceDIte, Nat.reducePow]
  refine Thn_n ?_
  refine hK _ _ ?_
  clear hK K
  refine AW.seq_k fun K hK => ?_
  refine AW.seq_k fun K hK => ?_
  refine AW.region (by decide) ?_
  simp only [push_cast, Nat.reduceAdd, Nat.reduceMul, Nat.reduceSub, Nat.reduceLeDiff, Nat.reduceLT, Nat.reduceEqDiff, Nat.reduceBEq, Nat.reduceBNe, Nat.reduceMod, Nat.reduceDiv, Int.reduceLE, Int.reduceLT, Int.reduceToNat, Int.reduceAdd, Int.reduceSub, Int.reduceMul, Int.reduceNeg, Int.reduceEq, Int.reduceBEq, Int.reduceBNe, ↓reduceIte, reduceCtorEq, String.reduceBNe, String.reduceEq, reduceDIte, Nat.reducePow]
  refine CThen.by (up_down rd rs rm n D _ hrd h) ?_
  simp only [push_cast, Nat.reduceAdd, Nat.reduceMul, Nat.reduceSub, Nat.reduceLeDiff, Nat.reduceLT, Nat.reduceEqDiff, Nat.reduceBEq, Nat.reduceBNe, Nat.reduceMod, Nat.reduceDiv, Int.reduceLE, Int.reduceLT, Int.reduceToNat, Int.reduceAdd, Int.reduceSub, Int.reduceMul, Int.reduceNeg, Int.reduceEq, Int.reduceBEq, Int.reduceBNe, ↓reduceIte, reduceCtorEq, String.reduceBNe, String.reduceEq, reduceDIte, Nat.reducePow]
  refine Thn_n ?_
  refine hK _ _ ?_
  clear hK K
  refine AW.seq_k fun K hK => ?_
  refine AW.region (by decide) ?_
  simp only [push_cast, Nat.reduceAdd, Nat.reduceMul, Nat.reduceSub, Nat.reduceLeDiff, Nat.reduceLT, Nat.reduceEqDiff, Nat.reduceBEq, Nat.reduceBNe, Nat.reduceMod, Nat.reduceDiv, Int.reduceLE, Int.reduceLT, Int.reduceToNat, Int.reduceAdd, Int.reduceSub, Int.reduceMul, Int.reduceNeg, Int.reduceEq, Int.reduceBEq, Int.reduceBNe, ↓reduceIte, reduceCtorEq, String.reduceBNe, String.reduceEq, reduceDIte, Nat.reducePow]
  refine Thn_n ?_
  refine hK _ _ ?_
  clear hK K
  refine AW.cond_t rfl ?_
  refine AW.seq_k fun K hK => ?_
  refine AW.region (by decide) ?_
  simp only [push_cast, Nat.reduceAdd, Nat.reduceMul, Nat.reduceSub, Nat.reduceLeDiff, Nat.reduceLT, Nat.reduceEqDiff, Nat.reduceBEq, Nat.reduceBNe, Nat.reduceMod, Nat.reduceDiv, Int.reduceLE, Int.reduceLT, Int.reduceToNat, Int.reduceAdd, Int.reduceSub, Int.reduceMul, Int.reduceNeg, Int.reduceEq, Int.reduceBEq, Int.reduceBNe, ↓reduceIte, reduceCtorEq, String.reduceBNe, String.reduceEq, reduceDIte, Nat.reducePow]
  refine Thn_n ?_
  refine hK _ _ ?_
  clear hK K
  refine AW.ret ?_
  refine Thn_r ?_
  refine hQ _ _ _ ?_
  first | refine RetP.drop0 (Or.inr rfl) ?_ ?_ hwf | refine RetP.drop (Or.inr rfl) ?_ ?_ hwf
  · simp only [resA, resOne, resTv, AV.tv, push_cast, Nat.reduceAdd, Nat.reduceMul, Nat.reduceSub, Nat.reduceLeDiff, Nat.reduceLT, Nat.reduceEqDiff, Nat.reduceBEq, Nat.reduceBNe, Nat.reduceMod, Nat.reduceDiv, Int.reduceLE, Int.reduceLT, Int.reduceToNat, Int.reduceAdd, Int.reduceSub, Int.reduceMul, Int.reduceNeg, Int.reduceEq, Int.reduceBEq, Int.reduceBNe, ↓reduceIte, reduceCtorEq, String.reduceBNe, String.reduceEq, reduceDIte, Nat.reducePow]
  · rfl
theorem sy_no (rd rs rm n : Nat) (D : DS) (m : AMem) (h : HasD m rd rs rm n D) (hd : D.down = false) (hz : D.fuse = 0) : Ctr Try.prog 9 [.one (.ptr rd 0 0)] m (.one (.int .i64 5)) (setD m rd rs rm n (spD D)) := by
  refine Ctr.enter Try.func9 rfl (by decide) (rs := [.tmp 2]) (nt := 37) rfl rfl fun hwf Q hQ => ?_
  have hrd := h.d
  have hrs := h.r
  have hrm := h.m
  have ld := get_lt hrd
  have lr := get_lt hrs
  have lm := get_lt hrm
  have ndr : rd ≠ rs := h.dr
  have ndm : rd ≠ rm := h.dm
  have nrm : rs ≠ rm := h.rm
  have nrd := ndr.symm
  have nmd := ndm.symm
  have nmr := nrm.symm
  have oD := fun (L : AMem) => mk_olds (m := m) (l := m) rfl ld L
  have oR := fun (L : AMem) => mk_olds (m := m) (l := m) rfl lr L
  have oM := fun (L : AMem) => mk_olds (m := m) (l := m) rfl lm L
  have pD := fun (l L : AMem) (e : l.length = m.length) => mk_olds (m := m) (l := l) (r := rd) e ld L
  have pR := fun (l L : AMem) (e : l.length = m.length) => mk_olds (m := m) (l := l) (r := rs) e lr L
  have pM := fun (l L : AMem) (e : l.length = m.length) => mk_olds (m := m) (l := l) (r := rm) e lm L
  have gD := fun (l L : AMem) (e : l.length = m.length) => mk_old (m := m) (l := l) (r := rd) e ld L
  have gR := fun (l L : AMem) (e : l.length = m.length) => mk_old (m := m) (l := l) (r := rs) e lr L
  have gM := fun (l L : AMem) (e : l.length = m.length) => mk_old (m := m) (l := l) (r := rm) e lm L
  have sD := fun (l : AMem) (b : Blk) (e : l.length = m.length) => mk_self (m := m) (l := l) (r := rd) e ld b
  have sR := fun (l : AMem) (b : Blk) (e : l.length = m.length) => mk_self (m := m) (l := l) (r := rs) e lr b
  have sM := fun (l : AMem) (b : Blk) (e : l.length = m.length) => mk_self (m := m) (l := l) (r := rm) e lm b
  have aA := fun (l L : AMem) (e : l.length = m.length) => mk_lk0 (m := m) (l := l) e L
  have aK := fun (l L : AMem) (k : Nat) (e : l.length = m.length) => mk_lk (m := m) (l := l) e L k
  have aT := fun (l L : AMem) (k : Nat) (b : Blk) (e : l.length = m.length) => mk_set (m := m) (l := l) e L k b
  have aS := fun (l L : AMem) (b : Blk) (e : l.length = m.length) => mk_set0 (m := m) (l := l) e L b
  have hw2 : MWf m.length (setD m rd rs rm n (spD D)) := setD_wf hwf lr lm _
  have e2 := setD_d h (spD D) (spD_S D) (spD_E D) (spD_ck D)
  refine AW.seq_k fun K hK => ?_
  refine AW.region (by decide) ?_
  simp only [push_cast, Nat.reduceAdd, Nat.reduceMul, Nat.reduceSub, Nat.reduceLeDiff, Nat.reduceLT, Nat.reduceEqDiff, Nat.reduceBEq, Nat.reduceBNe, Nat.reduceMod, Nat.reduceDiv, Int.reduceLE, Int.reduceLT, Int.reduceToNat, Int.reduceAdd, Int.reduceSub, Int.reduceMul, Int.reduceNeg, Int.reduceEq, Int.reduceBEq, Int.reduceBNe, ↓reduceIte, reduceCtorEq, String.reduceBNe, String.reduceEq, reduceDIte, Nat.reducePow, hrd, hrs, hrm, pD, pR, pM, gD, gR, gM, sD, sR, sM, aA, aS, aK, aT, List.set_set, List.length_set, List.getElem?_set_ne ndr, List.getElem?_set_ne ndm, List.getElem?_set_ne nrm, List.getElem?_set_ne nrd, List.getElem?_set_ne nmd, List.getElem?_set_ne nmr, drB, rowD, mapD]
  refine Thn_n ?_
  refine hK _ _ ?_
  clear hK K
  refine AW.seq_k fun K hK => ?_
  refine AW.seq_k fun K hK => ?_
  refine AW.region (by decide) ?_
  simp only [push_cast, Nat.reduceAdd, Nat.reduceMul, Nat.reduceSub, Nat.reduceLeDiff, Nat.reduceLT, Nat.reduceEqDiff, Nat.reduceBEq, Nat.reduceBNe, Nat.reduceMod, Nat.reduceDiv, Int.reduceLE, Int.reduceLT, Int.reduceToNat, Int.reduceAdd, Int.reduceSub, Int.reduceMul, Int.reduceNeg, Int.reduceEq, Int.reduceBEq, Int.reduceBNe, ↓reduceIte, reduceCtorEq, String.reduceBNe, String.reduceEq, reduceDIte, Nat.reducePow, hrd, hrs, hrm, pD, pR, pM, gD, gR, gM, sD, sR, sM, aA, aS, aK, aT, List.set_set, List.length_set, List.getElem?_set_ne ndr, List.getElem?_set_ne ndm, List.getElem?_set_ne nrm, List.getElem?_set_ne nrd, List.getElem?_set_ne nmd, List.getElem?_set_ne nmr, drB, rowD, mapD]
  refine CThen.by (up_ok rd rs rm n D _ h.d hd) ?_
  simp only [push_cast, Nat.reduceAdd, Nat.reduceMul, Nat.reduceSub, Nat.reduceLeDiff, Nat.reduceLT, Nat.reduceEqDiff, Nat.reduceBEq, Nat.reduceBNe, Nat.reduceMod, Nat.reduceDiv, Int.reduceLE, Int.reduceLT, Int.reduceToNat, Int.reduceAdd, Int.reduceSub, Int.reduceMul, Int.reduceNeg, Int.reduceEq, Int.reduceBEq, Int.reduceBNe, ↓reduceIte, reduceCtorEq, String.reduceBNe, String.reduceEq, reduceDIte, Nat.reducePow, hrd, hrs, hrm, pD, pR, pM, gD, gR, gM, sD, sR, sM, aA, aS, aK, aT, List.set_set, List.length_set, List.getElem?_set_ne ndr, List.getElem?_set_ne ndm, List.getElem?_set_ne nrm, List.getElem?_set_ne nrd, List.getElem?_set_ne nmd, List.getElem?_set_ne nmr, drB, rowD, mapD]
  refine Thn_n ?_
  refine hK _ _ ?_
  clear hK K
  refine AW.seq_k fun K hK => ?_
  refine AW.region (by decide) ?_
  simp only [push_cast, Nat.reduceAdd, Nat.reduceMul, Nat.reduceSub, Nat.reduceLeDiff, Nat.reduceLT, Nat.reduceEqDiff, Nat.reduceBEq, Nat.reduceBNe, Nat.reduceMod, Nat.reduceDiv, Int.reduceLE, Int.reduceLT, Int.reduceToNat, Int.reduceAdd, Int.reduceSub, Int.reduceMul, Int.reduceNeg, Int.reduceEq, Int.reduceBEq, Int.reduceBNe, ↓reduceIte, reduceCtorEq, String.reduceBNe, String.reduceEq, reduceDIte, Nat.reducePow, hrd, hrs, hrm, pD, pR, pM, gD, gR, gM, sD, sR, sM, aA, aS, aK, aT, List.set_set, List.length_set, List.getElem?_set_ne ndr, List.getElem?_set_ne ndm, List.getElem?_set_ne nrm, List.getElem?_set_ne nrd, List.getElem?_set_ne nmd, List.getElem?_set_ne nmr, drB, rowD, mapD]
  refine Thn_n ?_
  refine hK _ _ ?_
  clear hK K
  refine AW.cond_f rfl ?_
  refine AW.skip ?_
  refine Thn_n ?_
  refine hK _ _ ?_
  clear hK K
  refine AW.seq_k fun K hK => ?_
  refine AW.seq_k fun K hK => ?_
  refine AW.region (by decide) ?_
  simp only [push_cast, Nat.reduceAdd, Nat.reduceMul, Nat.reduceSub, Nat.reduceLeDiff, Nat.reduceLT, Nat.reduceEqDiff, Nat.reduceBEq, Nat.reduceBNe, Nat.reduceMod, Nat.reduceDiv, Int.reduceLE, Int.reduceLT, Int.reduceToNat, Int.reduceAdd, Int.reduceSub, Int.reduceMul, Int.reduceNeg, Int.reduceEq, Int.reduceBEq, Int.reduceBNe, ↓reduceIte, reduceCtorEq, String.reduceBNe, String.reduceEq, reduceDIte, Nat.reducePow, hrd, hrs, hrm, pD, pR, pM, gD, gR, gM, sD, sR, sM, aA, aS, aK, aT, List.set_set, List.length_set, List.getElem?_set_ne ndr, List.getElem?_set_ne ndm, List.getElem?_set_ne nrm, List.getElem?_set_ne nrd, List.getElem?_set_ne nmd, List.getElem?_set_ne nmr, drB, rowD, mapD]
  refine CThen.by (spend_no rd rs rm n D _ h.d hz) ?_
  simp only [push_cast, Nat.reduceAdd, Nat.reduceMul, Nat.reduceSub, Nat.reduceLeDiff, Nat.reduceLT, Nat.reduceEqDiff, Nat.reduceBEq, Nat.reduceBNe, Nat.reduceMod, Nat.reduceDiv, Int.reduceLE, Int.reduceLT, Int.reduceToNat, Int.reduceAdd, Int.reduceSub, Int.reduceMul, Int.reduceNeg, Int.reduceEq, Int.reduceBEq, Int.reduceBNe, ↓reduceIte, reduceCtorEq, String.reduceBNe, String.reduceEq, reduceDIte, Nat.reducePow, hrd, hrs, hrm, pD, pR, pM, gD, gR, gM, sD, sR, sM, aA, aS, aK, aT, List.set_set, List.length_set, List.getElem?_set_ne ndr, List.getElem?_set_ne ndm, List.getElem?_set_ne nrm, List.getElem?_set_ne nrd, List.getElem?_set_ne nmd, List.getElem?_set_ne nmr, drB, rowD, mapD]
  refine Thn_n ?_
  refine hK _ _ ?_
  clear hK K
  refine AW.cond_t rfl ?_
  refine AW.seq_k fun K hK => ?_
  refine AW.region (by decide) ?_
  simp only [push_cast, Nat.reduceAdd, Nat.reduceMul, Nat.reduceSub, Nat.reduceLeDiff, Nat.reduceLT, Nat.reduceEqDiff, Nat.reduceBEq, Nat.reduceBNe, Nat.reduceMod, Nat.reduceDiv, Int.reduceLE, Int.reduceLT, Int.reduceToNat, Int.reduceAdd, Int.reduceSub, Int.reduceMul, Int.reduceNeg, Int.reduceEq, Int.reduceBEq, Int.reduceBNe, ↓reduceIte, reduceCtorEq, String.reduceBNe, String.reduceEq, reduceDIte, Nat.reducePow, hrd, hrs, hrm, pD, pR, pM, gD, gR, gM, sD, sR, sM, aA, aS, aK, aT, List.set_set, List.length_set, List.getElem?_set_ne ndr, List.getElem?_set_ne ndm, List.getElem?_set_ne nrm, List.getElem?_set_ne nrd, List.getElem?_set_ne nmd, List.getElem?_set_ne nmr, drB, rowD, mapD]
  refine Thn_n ?_
  refine hK _ _ ?_
  clear hK K
  refine AW.ret ?_
  refine Thn_r ?_
  refine hQ _ _ _ ?_
  rw [e2] at hw2 ⊢
  first | refine RetP.dropM0 (by simp only [List.length_set]) (by first | exact Or.inr rfl | exact Or.inl rfl) ?_ ?_ hw2 | refine RetP.dropM (by simp only [List.length_set]) (by first | exact Or.inr rfl | exact Or.inl rfl) ?_ ?_ hw2
  · simp only [resA, resOne, resTv, AV.tv, push_cast, Nat.reduceAdd, Nat.reduceMul, Nat.reduceSub, Nat.reduceLeDiff, Nat.reduceLT, Nat.reduceEqDiff, Nat.reduceBEq, Nat.reduceBNe, Nat.reduceMod, Nat.reduceDiv, Int.reduceLE, Int.reduceLT, Int.reduceToNat, Int.reduceAdd, Int.reduceSub, Int.reduceMul, Int.reduceNeg, Int.reduceEq, Int.reduceBEq, Int.reduceBNe, ↓reduceIte, reduceCtorEq, String.reduceBNe, String.reduceEq, reduceDIte, Nat.reducePow]
  · rfl
theorem sy_ok (rd rs rm n : Nat) (D : DS) (m : AMem) (h : HasD m rd rs rm n D) (hd : D.down = false) (hwd : WfD n D) (hz : ¬ D.fuse = 0) : Ctr Try.prog 9 [.one (.ptr rd 0 0)] m (.one (.int .i64 0)) (setD m rd rs rm n (syD D)) := by
  refine Ctr.enter Try.func9 rfl (by decide) (rs := [.tmp 2]) (nt := 37) rfl rfl fun hwf Q hQ => ?_
  have hrd := h.d
  have hrs := h.r
  have hrm := h.m
  have ld := get_lt hrd
  have lr := get_lt hrs
  have lm := get_lt hrm
  have ndr : rd ≠ rs := h.dr
  have ndm : rd ≠ rm := h.dm
  have nrm : rs ≠ rm := h.rm
  have nrd := ndr.symm
  have nmd := ndm.symm
  have nmr := nrm.symm
  have oD := fun (L : AMem) => mk_olds (m := m) (l := m) rfl ld L
  have oR := fun (L : AMem) => mk_olds (m := m) (l := m) rfl lr L
  have oM := fun (L : AMem) => mk_olds (m := m) (l := m) rfl lm L
  have pD := fun (l L : AMem) (e : l.length = m.length) => mk_olds (m := m) (l := l) (r := rd) e ld L
  have pR := fun (l L : AMem) (e : l.length = m.length) => mk_olds (m := m) (l := l) (r := rs) e lr L
  have pM := fun (l L : AMem) (e : l.length = m.length) => mk_olds (m := m) (l := l) (r := rm) e lm L
  have gD := fun (l L : AMem) (e : l.length = m.length) => mk_old (m := m) (l := l) (r := rd) e ld L
  have gR := fun (l L : AMem) (e : l.length = m.length) => mk_old (m := m) (l := l) (r := rs) e lr L
  have gM := fun (l L : AMem) (e : l.length = m.length) => mk_old (m := m) (l := l) (r := rm) e lm L
  have sD := fun (l : AMem) (b : Blk) (e : l.length = m.length) => mk_self (m := m) (l := l) (r := rd) e ld b
  have sR := fun (l : AMem) (b : Blk) (e : l.length = m.length) => mk_self (m := m) (l := l) (r := rs) e lr b
  have sM := fun (l : AMem) (b : Blk) (e : l.length = m.length) => mk_self (m := m) (l := l) (r := rm) e lm b
  have aA := fun (l L : AMem) (e : l.length = m.length) => mk_lk0 (m := m) (l := l) e L
  have aK := fun (l L : AMem) (k : Nat) (e : l.length = m.length) => mk_lk (m := m) (l := l) e L k
  have aT := fun (l L : AMem) (k : Nat) (b : Blk) (e : l.length = m.length) => mk_set (m := m) (l := l) e L k b
  have aS := fun (l L : AMem) (b : Blk) (e : l.length = m.length) => mk_set0 (m := m) (l := l) e L b
  have hw2 : MWf m.length (setD m rd rs rm n (syD D)) := setD_wf hwf lr lm _
  have e2 := setD_three m rd rs rm n (syD D) _ _ _ rfl rfl rfl
  have e3 : drB rs rm n (syD D) = drB rs rm n (spD D) := rfl
  have e4 : mapD (syD D) = ⟨.map false true D.ck [], 55, 0, 0, []⟩ := by show (⟨.map false true (spD D).ck [], 55, 0, 0, []⟩ : Blk) = _; rw [spD_ck]
  have hold : ∀ e, e ∈ eL D.E → e.1 < D.ck := fun e he => by
    obtain ⟨e', h1, rfl⟩ := List.mem_map.1 he
    exact hwd.e.old e' h1
  refine AW.seq_k fun K hK => ?_
  refine AW.region (by decide) ?_
  simp only [push_cast, Nat.reduceAdd, Nat.reduceMul, Nat.reduceSub, Nat.reduceLeDiff, Nat.reduceLT, Nat.reduceEqDiff, Nat.reduceBEq, Nat.reduceBNe, Nat.reduceMod, Nat.reduceDiv, Int.reduceLE, Int.reduceLT, Int.reduceToNat, Int.reduceAdd, Int.reduceSub, Int.reduceMul, Int.reduceNeg, Int.reduceEq, Int.reduceBEq, Int.reduceBNe, ↓reduceIte, reduceCtorEq, String.reduceBNe, String.reduceEq, reduceDIte, Nat.reducePow, setMap, hrd, hrs, hrm, pD, pR, pM, gD, gR, gM, sD, sR, sM, aA, aS, aK, aT, List.set_set, List.length_set, List.getElem?_set_ne ndr, List.getElem?_set_ne ndm, List.getElem?_set_ne nrm, List.getElem?_set_ne nrd, List.getElem?_set_ne nmd, List.getElem?_set_ne nmr, drB, rowD, mapD]
  refine Thn_n ?_
  refine hK _ _ ?_
  clear hK K
  refine AW.seq_k fun K hK => ?_
  refine AW.seq_k fun K hK => ?_
  refine AW.region (by decide) ?_
  simp only [push_cast, Nat.reduceAdd, Nat.reduceMul, Nat.reduceSub, Nat.reduceLeDiff, Nat.reduceLT, Nat.reduceEqDiff, Nat.reduceBEq, Nat.reduceBNe, Nat.reduceMod, Nat.reduceDiv, Int.reduceLE, Int.reduceLT, Int.reduceToNat, Int.reduceAdd, Int.reduceSub, Int.reduceMul, Int.reduceNeg, Int.reduceEq, Int.reduceBEq, Int.reduceBNe, ↓reduceIte, reduceCtorEq, String.reduceBNe, String.reduceEq, reduceDIte, Nat.reducePow, setMap, hrd, hrs, hrm, pD, pR, pM, gD, gR, gM, sD, sR, sM, aA, aS, aK, aT, List.set_set, List.length_set, List.getElem?_set_ne ndr, List.getElem?_set_ne ndm, List.getElem?_set_ne nrm, List.getElem?_set_ne nrd, List.getElem?_set_ne nmd, List.getElem?_set_ne nmr, drB, rowD, mapD]
  refine CThen.by (up_ok rd rs rm n D _ h.d hd) ?_
  simp only [push_cast, Nat.reduceAdd, Nat.reduceMul, Nat.reduceSub, Nat.reduceLeDiff, Nat.reduceLT, Nat.reduceEqDiff, Nat.reduceBEq, Nat.reduceBNe, Nat.reduceMod, Nat.reduceDiv, Int.reduceLE, Int.reduceLT, Int.reduceToNat, Int.reduceAdd, Int.reduceSub, Int.reduceMul, Int.reduceNeg, Int.reduceEq, Int.reduceBEq, Int.reduceBNe, ↓reduceIte, reduceCtorEq, String.reduceBNe, String.reduceEq, reduceDIte, Nat.reducePow, setMap, hrd, hrs, hrm, pD, pR, pM, gD, gR, gM, sD, sR, sM, aA, aS, aK, aT, List.set_set, List.length_set, List.getElem?_set_ne ndr, List.getElem?_set_ne ndm, List.getElem?_set_ne nrm, List.getElem?_set_ne nrd, List.getElem?_set_ne nmd, List.getElem?_set_ne nmr, drB, rowD, mapD]
  refine Thn_n ?_
  refine hK _ _ ?_
  clear hK K
  refine AW.seq_k fun K hK => ?_
  refine AW.region (by decide) ?_
  simp only [push_cast, Nat.reduceAdd, Nat.reduceMul, Nat.reduceSub, Nat.reduceLeDiff, Nat.reduceLT, Nat.reduceEqDiff, Nat.reduceBEq, Nat.reduceBNe, Nat.reduceMod, Nat.reduceDiv, Int.reduceLE, Int.reduceLT, Int.reduceToNat, Int.reduceAdd, Int.reduceSub, Int.reduceMul, Int.reduceNeg, Int.reduceEq, Int.reduceBEq, Int.reduceBNe, ↓reduceIte, reduceCtorEq, String.reduceBNe, String.reduceEq, reduceDIte, Nat.reducePow, setMap, hrd, hrs, hrm, pD, pR, pM, gD, gR, gM, sD, sR, sM, aA, aS, aK, aT, List.set_set, List.length_set, List.getElem?_set_ne ndr, List.getElem?_set_ne ndm, List.getElem?_set_ne nrm, List.getElem?_set_ne nrd, List.getElem?_set_ne nmd, List.getElem?_set_ne nmr, drB, rowD, mapD]
  refine Thn_n ?_
  refine hK _ _ ?_
  clear hK K
  refine AW.cond_f rfl ?_
  refine AW.skip ?_
  refine Thn_n ?_
  refine hK _ _ ?_
  clear hK K
  refine AW.seq_k fun K hK => ?_
  refine AW.seq_k fun K hK => ?_
  refine AW.region (by decide) ?_
  simp only [push_cast, Nat.reduceAdd, Nat.reduceMul, Nat.reduceSub, Nat.reduceLeDiff, Nat.reduceLT, Nat.reduceEqDiff, Nat.reduceBEq, Nat.reduceBNe, Nat.reduceMod, Nat.reduceDiv, Int.reduceLE, Int.reduceLT, Int.reduceToNat, Int.reduceAdd, Int.reduceSub, Int.reduceMul, Int.reduceNeg, Int.reduceEq, Int.reduceBEq, Int.reduceBNe, ↓reduceIte, reduceCtorEq, String.reduceBNe, String.reduceEq, reduceDIte, Nat.reducePow, setMap, hrd, hrs, hrm, pD, pR, pM, gD, gR, gM, sD, sR, sM, aA, aS, aK, aT, List.set_set, List.length_set, List.getElem?_set_ne ndr, List.getElem?_set_ne ndm, List.getElem?_set_ne nrm, List.getElem?_set_ne nrd, List.getElem?_set_ne nmd, List.getElem?_set_ne nmr, drB, rowD, mapD]
  refine CThen.by (spend_go rd rs rm n D _ h.d hz) ?_
  simp only [push_cast, Nat.reduceAdd, Nat.reduceMul, Nat.reduceSub, Nat.reduceLeDiff, Nat.reduceLT, Nat.reduceEqDiff, Nat.reduceBEq, Nat.reduceBNe, Nat.reduceMod, Nat.reduceDiv, Int.reduceLE, Int.reduceLT, Int.reduceToNat, Int.reduceAdd, Int.reduceSub, Int.reduceMul, Int.reduceNeg, Int.reduceEq, Int.reduceBEq, Int.reduceBNe, ↓reduceIte, reduceCtorEq, String.reduceBNe, String.reduceEq, reduceDIte, Nat.reducePow, setMap, hrd, hrs, hrm, pD, pR, pM, gD, gR, gM, sD, sR, sM, aA, aS, aK, aT, List.set_set, List.length_set, List.getElem?_set_ne ndr, List.getElem?_set_ne ndm, List.getElem?_set_ne nrm, List.getElem?_set_ne nrd, List.getElem?_set_ne nmd, List.getElem?_set_ne nmr, drB, rowD, mapD]
  refine Thn_n ?_
  refine hK _ _ ?_
  clear hK K
  refine AW.cond_f rfl ?_
  refine AW.skip ?_
  refine Thn_n ?_
  refine hK _ _ ?_
  clear hK K
  refine AW.seq_k fun K hK => ?_
  refine AW.seq_k fun K hK => ?_
  refine AW.region (by decide) ?_
  simp only [push_cast, Nat.reduceAdd, Nat.reduceMul, Nat.reduceSub, Nat.reduceLeDiff, Nat.reduceLT, Nat.reduceEqDiff, Nat.reduceBEq, Nat.reduceBNe, Nat.reduceMod, Nat.reduceDiv, Int.reduceLE, Int.reduceLT, Int.reduceToNat, Int.reduceAdd, Int.reduceSub, Int.reduceMul, Int.reduceNeg, Int.reduceEq, Int.reduceBEq, Int.reduceBNe, ↓reduceIte, reduceCtorEq, String.reduceBNe, String.reduceEq, reduceDIte, Nat.reducePow, setMap, hrd, hrs, hrm, pD, pR, pM, gD, gR, gM, sD, sR, sM, aA, aS, aK, aT, List.set_set, List.length_set, List.getElem?_set_ne ndr, List.getElem?_set_ne ndm, List.getElem?_set_ne nrm, List.getElem?_set_ne nrd, List.getElem?_set_ne nmd, List.getElem?_set_ne nmr, drB, rowD, mapD]
  refine Thn_n ?_
  refine hK _ _ ?_
  clear hK K
  refine AW.block ?_
  refine AW.loopK [0, 20] (fun seen => SeenOk D.E seen) (fun seen => []) (fun seen => [(rs, ⟨.grow, 29, 0, 128, u8l (catB n (mixS D.S D.E seen))⟩), (m.length, ⟨.iter rm D.ck (seen) D.ck, 55, 0, 0, []⟩)]) (fun seen => D.E.length - seen.length) ([] : List Nat) (SeenOk.nil _) ?_ ?_ fun seen hi9 => ?_
  · first | rfl | (simp only [Keeps, Tm.get_cons, Nat.reduceEqDiff, ↓reduceIte, if_true, if_false, ite_true, ite_false, true_and, and_true, and_self, reduceCtorEq, mix_nil] <;> rfl)
  · simp only [setAll, mix_nil, push_cast, Nat.reduceAdd, Nat.reduceMul, Nat.reduceSub, Nat.reduceLeDiff, Nat.reduceLT, Nat.reduceEqDiff, Nat.reduceBEq, Nat.reduceBNe, Nat.reduceMod, Nat.reduceDiv, Int.reduceLE, Int.reduceLT, Int.reduceToNat, Int.reduceAdd, Int.reduceSub, Int.reduceMul, Int.reduceNeg, Int.reduceEq, Int.reduceBEq, Int.reduceBNe, ↓reduceIte, reduceCtorEq, String.reduceBNe, String.reduceEq, reduceDIte, Nat.reducePow, hrd, hrs, hrm, pD, pR, pM, gD, gR, gM, sD, sR, sM, aA, aS, aK, aT, List.set_set, List.length_set, List.getElem?_set_ne ndr, List.getElem?_set_ne ndm, List.getElem?_set_ne nrm, List.getElem?_set_ne nrd, List.getElem?_set_ne nmd, List.getElem?_set_ne nmr, drB, rowD, mapD]; rw [set_self (by rw [List.getElem?_set_ne ndr]; exact h.r)]
  have hseen := hi9
  try simp only [keepL, setAll, push_cast, Nat.reduceAdd, Nat.reduceMul, Nat.reduceSub, Nat.reduceLeDiff, Nat.reduceLT, Nat.reduceEqDiff, Nat.reduceBEq, Nat.reduceBNe, Nat.reduceMod, Nat.reduceDiv, Int.reduceLE, Int.reduceLT, Int.reduceToNat, Int.reduceAdd, Int.reduceSub, Int.reduceMul, Int.reduceNeg, Int.reduceEq, Int.reduceBEq, Int.reduceBNe, ↓reduceIte, reduceCtorEq, String.reduceBNe, String.reduceEq, reduceDIte, Nat.reducePow, setMap, hrd, hrs, hrm, pD, pR, pM, gD, gR, gM, sD, sR, sM, aA, aS, aK, aT, List.set_set, List.length_set, List.getElem?_set_ne ndr, List.getElem?_set_ne ndm, List.getElem?_set_ne nrm, List.getElem?_set_ne nrd, List.getElem?_set_ne nmd, List.getElem?_set_ne nmr, drB, rowD, mapD]
  refine AW.seq_k fun K hK => ?_
  refine AW.next m.length rm D.ck D.ck seen (ka := false) (va := true) (clock := D.ck) (es := eL D.E) (by decide) rfl (by simp only [push_cast, Nat.reduceAdd, Nat.reduceMul, Nat.reduceSub, Nat.reduceLeDiff, Nat.reduceLT, Nat.reduceEqDiff, Nat.reduceBEq, Nat.reduceBNe, Nat.reduceMod, Nat.reduceDiv, Int.reduceLE, Int.reduceLT, Int.reduceToNat, Int.reduceAdd, Int.reduceSub, Int.reduceMul, Int.reduceNeg, Int.reduceEq, Int.reduceBEq, Int.reduceBNe, ↓reduceIte, reduceCtorEq, String.reduceBNe, String.reduceEq, reduceDIte, Nat.reducePow, hrd, hrs, hrm, pD, pR, pM, gD, gR, gM, sD, sR, sM, aA, aS, aK, aT, List.set_set, List.length_set, List.getElem?_set_ne ndr, List.getElem?_set_ne ndm, List.getElem?_set_ne nrm, List.getElem?_set_ne nrd, List.getElem?_set_ne nmd, List.getElem?_set_ne nmr, drB, rowD, mapD]) (ity := 55) (iesz := 0) (by simp only [push_cast, Nat.reduceAdd, Nat.reduceMul, Nat.reduceSub, Nat.reduceLeDiff, Nat.reduceLT, Nat.reduceEqDiff, Nat.reduceBEq, Nat.reduceBNe, Nat.reduceMod, Nat.reduceDiv, Int.reduceLE, Int.reduceLT, Int.reduceToNat, Int.reduceAdd, Int.reduceSub, Int.reduceMul, Int.reduceNeg, Int.reduceEq, Int.reduceBEq, Int.reduceBNe, ↓reduceIte, reduceCtorEq, String.reduceBNe, String.reduceEq, reduceDIte, Nat.reducePow, hrd, hrs, hrm, pD, pR, pM, gD, gR, gM, sD, sR, sM, aA, aS, aK, aT, List.set_set, List.length_set, List.getElem?_set_ne ndr, List.getElem?_set_ne ndm, List.getElem?_set_ne nrm, List.getElem?_set_ne nrd, List.getElem?_set_ne nmd, List.getElem?_set_ne nmr, drB, rowD, mapD]) (by simp only [push_cast, Nat.reduceAdd, Nat.reduceMul, Nat.reduceSub, Nat.reduceLeDiff, Nat.reduceLT, Nat.reduceEqDiff, Nat.reduceBEq, Nat.reduceBNe, Nat.reduceMod, Nat.reduceDiv, Int.reduceLE, Int.reduceLT, Int.reduceToNat, Int.reduceAdd, Int.reduceSub, Int.reduceMul, Int.reduceNeg, Int.reduceEq, Int.reduceBEq, Int.reduceBNe, ↓reduceIte, reduceCtorEq, String.reduceBNe, String.reduceEq, reduceDIte, Nat.reducePow, hrd, hrs, hrm, pD, pR, pM, gD, gR, gM, sD, sR, sM, aA, aS, aK, aT, List.set_set, List.length_set, List.getElem?_set_ne ndr, List.getElem?_set_ne ndm, List.getElem?_set_ne nrm, List.getElem?_set_ne nrd, List.getElem?_set_ne nmd, List.getElem?_set_ne nmr, drB, rowD, mapD]) hold (Nat.le_refl _) (fun j e hj hnew => ?_) (fun hall => ?_)
  · obtain ⟨⟨b, k, v⟩, hj', rfl⟩ := eL_mem hj
    have hme := List.mem_of_getElem? hj'
    have hnb : b ∉ seen := hnew
    have hadd := hseen.add hme hnb
    have hlt := hseen.lt hme hnb
    have hfd := eL_find hwd.e.borns hme
    have hw128 := hwd.e.len _ hme
    have hkey := hwd.e.key _ hme
    dsimp only at hw128 hkey
    have g5 : (u8l v).length = 128 := by rw [u8l_len]; exact hw128
    have g6 : (u8l v).take 128 = u8l v := List.take_of_length_le (by omega)
    have g7 := u8l_vals v
    have g8 : setL [.int .u8 0, .int .u8 0, .int .u8 0, .int .u8 0, .int .u8 0, .int .u8 0, .int .u8 0, .int .u8 0, .int .u8 0, .int .u8 0, .int .u8 0, .int .u8 0, .int .u8 0, .int .u8 0, .int .u8 0, .int .u8 0, .int .u8 0, .int .u8 0, .int .u8 0, .int .u8 0, .int .u8 0, .int .u8 0, .int .u8 0, .int .u8 0, .int .u8 0, .int .u8 0, .int .u8 0, .int .u8 0, .int .u8 0, .int .u8 0, .int .u8 0, .int .u8 0, .int .u8 0, .int .u8 0, .int .u8 0, .int .u8 0, .int .u8 0, .int .u8 0, .int .u8 0, .int .u8 0, .int .u8 0, .int .u8 0, .int .u8 0, .int .u8 0, .int .u8 0, .int .u8 0, .int .u8 0, .int .u8 0, .int .u8 0, .int .u8 0, .int .u8 0, .int .u8 0, .int .u8 0, .int .u8 0, .int .u8 0, .int .u8 0, .int .u8 0, .int .u8 0, .int .u8 0, .int .u8 0, .int .u8 0, .int .u8 0, .int .u8 0, .int .u8 0, .int .u8 0, .int .u8 0, .int .u8 0, .int .u8 0, .int .u8 0, .int .u8 0, .int .u8 0, .int .u8 0, .int .u8 0, .int .u8 0, .int .u8 0, .int .u8 0, .int .u8 0, .int .u8 0, .int .u8 0, .int .u8 0, .int .u8 0, .int .u8 0, .int .u8 0, .int .u8 0, .int .u8 0, .int .u8 0, .int .u8 0, .int .u8 0, .int .u8 0, .int .u8 0, .int .u8 0, .int .u8 0, .int .u8 0, .int .u8 0, .int .u8 0, .int .u8 0, .int .u8 0, .int .u8 0, .int .u8 0, .int .u8 0, .int .u8 0, .int .u8 0, .int .u8 0, .int .u8 0, .int .u8 0, .int .u8 0, .int .u8 0, .int .u8 0, .int .u8 0, .int .u8 0, .int .u8 0, .int .u8 0, .int .u8 0, .int .u8 0, .int .u8 0, .int .u8 0, .int .u8 0, .int .u8 0, .int .u8 0, .int .u8 0, .int .u8 0, .int .u8 0, .int .u8 0, .int .u8 0, .int .u8 0, .int .u8 0, .int .u8 0, .int .u8 0] 0 (u8l v) = u8l v := setL_all (by rw [g5]; rfl)
    obtain ⟨kk, hkk⟩ : ∃ kk : Nat, (kk : Int) = k := ⟨k.toNat, by omega⟩
    subst hkk
    have p1 : (0 : Int) ≤ (kk : Int) := hkey.1
    have p2 : (kk : Int) < (n : Int) := hkey.2
    have p4 : kk * 128 + 128 ≤ n * 128 := by omega
    have hcl : (u8l (catB n (mixS D.S D.E seen))).length = n * 128 := by rw [u8l_len, catB_len (mix_len hwd.s hwd.e seen)]
    have hcs := catB_set (mix_len hwd.s hwd.e seen) (show kk < n by omega) hw128
    have hma := mix_add (S := D.S) hwd.e (seen := seen) hme
    have hgl := getLast_app seen b
    simp only [push_cast, Nat.reduceAdd, Nat.reduceMul, Nat.reduceSub, Nat.reduceLeDiff, Nat.reduceLT, Nat.reduceEqDiff, Nat.reduceBEq, Nat.reduceBNe, Nat.reduceMod, Nat.reduceDiv, Int.reduceLE, Int.reduceLT, Int.reduceToNat, Int.reduceAdd, Int.reduceSub, Int.reduceMul, Int.reduceNeg, Int.reduceEq, Int.reduceBEq, Int.reduceBNe, ↓reduceIte, reduceCtorEq, String.reduceBNe, String.reduceEq, reduceDIte, Nat.reducePow, setMap, hrd, hrs, hrm, pD, pR, pM, gD, gR, gM, sD, sR, sM, aA, aS, aK, aT, List.set_set, List.length_set, List.getElem?_set_ne ndr, List.getElem?_set_ne ndm, List.getElem?_set_ne nrm, List.getElem?_set_ne nrd, List.getElem?_set_ne nmd, List.getElem?_set_ne nmr, drB, rowD, mapD, eC, hfd, hgl, g5, g6, g7, g8, p1, p2, p4, hcl, hcs, Nat.le_refl]
    refine Thn_n ?_
    refine hK _ _ ?_
    clear hK K
    refine AW.seq_k fun K hK => ?_
    refine AW.cond_t rfl ?_
    refine AW.skip ?_
    refine Thn_n ?_
    refine hK _ _ ?_
    clear hK K
    refine AW.block ?_
    refine AW.seq_k fun K hK => ?_
    refine AW.region (by decide) ?_
    simp only [push_cast, Nat.reduceAdd, Nat.reduceMul, Nat.reduceSub, Nat.reduceLeDiff, Nat.reduceLT, Nat.reduceEqDiff, Nat.reduceBEq, Nat.reduceBNe, Nat.reduceMod, Nat.reduceDiv, Int.reduceLE, Int.reduceLT, Int.reduceToNat, Int.reduceAdd, Int.reduceSub, Int.reduceMul, Int.reduceNeg, Int.reduceEq, Int.reduceBEq, Int.reduceBNe, ↓reduceIte, reduceCtorEq, String.reduceBNe, String.reduceEq, reduceDIte, Nat.reducePow, setMap, hrd, hrs, hrm, pD, pR, pM, gD, gR, gM, sD, sR, sM, aA, aS, aK, aT, List.set_set, List.length_set, List.getElem?_set_ne ndr, List.getElem?_set_ne ndm, List.getElem?_set_ne nrm, List.getElem?_set_ne nrd, List.getElem?_set_ne nmd, List.getElem?_set_ne nmr, drB, rowD, mapD, eC, hfd, hgl, g5, g6, g7, g8, p1, p2, p4, hcl, hcs, Nat.le_refl]
    refine Thn_n ?_
    refine hK _ _ ?_
    clear hK K
    refine AW.draw [.val, .val, .val, .rd 0, .val, .rd 0, .val, .wr] fol (by decide) (by kernel_rfl) ?_
    simp only [push_cast, Nat.reduceAdd, Nat.reduceMul, Nat.reduceSub, Nat.reduceLeDiff, Nat.reduceLT, Nat.reduceEqDiff, Nat.reduceBEq, Nat.reduceBNe, Nat.reduceMod, Nat.reduceDiv, Int.reduceLE, Int.reduceLT, Int.reduceToNat, Int.reduceAdd, Int.reduceSub, Int.reduceMul, Int.reduceNeg, Int.reduceEq, Int.reduceBEq, Int.reduceBNe, ↓reduceIte, reduceCtorEq, String.reduceBNe, String.reduceEq, reduceDIte, Nat.reducePow, setMap, hrd, hrs, hrm, pD, pR, pM, gD, gR, gM, sD, sR, sM, aA, aS, aK, aT, List.set_set, List.length_set, List.getElem?_set_ne ndr, List.getElem?_set_ne ndm, List.getElem?_set_ne nrm, List.getElem?_set_ne nrd, List.getElem?_set_ne nmd, List.getElem?_set_ne nmr, drB, rowD, mapD, eC, hfd, hgl, g5, g6, g7, g8, p1, p2, p4, hcl, hcs, Nat.le_refl]
    refine InB_n ?_
    refine Thn_n ?_
    refine ⟨seen ++ [b], hadd, hlt, ?_⟩
    try simp only [keepL, setAll, push_cast, Nat.reduceAdd, Nat.reduceMul, Nat.reduceSub, Nat.reduceLeDiff, Nat.reduceLT, Nat.reduceEqDiff, Nat.reduceBEq, Nat.reduceBNe, Nat.reduceMod, Nat.reduceDiv, Int.reduceLE, Int.reduceLT, Int.reduceToNat, Int.reduceAdd, Int.reduceSub, Int.reduceMul, Int.reduceNeg, Int.reduceEq, Int.reduceBEq, Int.reduceBNe, ↓reduceIte, reduceCtorEq, String.reduceBNe, String.reduceEq, reduceDIte, Nat.reducePow, setMap, hrd, hrs, hrm, pD, pR, pM, gD, gR, gM, sD, sR, sM, aA, aS, aK, aT, List.set_set, List.length_set, List.getElem?_set_ne ndr, List.getElem?_set_ne ndm, List.getElem?_set_ne nrm, List.getElem?_set_ne nrd, List.getElem?_set_ne nmd, List.getElem?_set_ne nmr, drB, rowD, mapD, eC, hfd, hgl, g5, g6, g7, g8, p1, p2, p4, hcl, hcs, Nat.le_refl, hma]
    exact Weak.to (extra := [_]) (by simp only [Keeps, Tm.get_cons, Nat.reduceEqDiff, ↓reduceIte, if_true, if_false, ite_true, ite_false, true_and, and_true, and_self, reduceCtorEq, hma]) (by first | rfl | (simp only [List.append_assoc, List.cons_append, List.nil_append]; rfl)) (by first | rfl | (simp [AV.below, CV.below]; done) | (simp [AV.below, CV.below]; omega)) (by
      have q1 : rs < m.length + 1 := by omega
      have q2 : rm < m.length + 1 := by omega
      simp only [List.length_append, List.length_set, List.length_cons, List.length_nil, Nat.zero_add]
      refine MWf.app (MWf_setB (MWf_setB (hwf.grow (by omega)) ?_ rfl) (u8l_below _ _) rfl) (fun x hx => ?_)
      · simp only [List.all_cons, List.all_nil, CV.below, decide_eq_true q1, decide_eq_true q2, Bool.and_true]
      · obtain rfl := List.mem_singleton.1 hx
        exact blk_below (decide_eq_true q2) rfl)
  · have hmx : mixS D.S D.E seen = vis D.S D.E := mix_all fun e he => hall _ (List.mem_map_of_mem (f := eC) he)
    simp only [push_cast, Nat.reduceAdd, Nat.reduceMul, Nat.reduceSub, Nat.reduceLeDiff, Nat.reduceLT, Nat.reduceEqDiff, Nat.reduceBEq, Nat.reduceBNe, Nat.reduceMod, Nat.reduceDiv, Int.reduceLE, Int.reduceLT, Int.reduceToNat, Int.reduceAdd, Int.reduceSub, Int.reduceMul, Int.reduceNeg, Int.reduceEq, Int.reduceBEq, Int.reduceBNe, ↓reduceIte, reduceCtorEq, String.reduceBNe, String.reduceEq, reduceDIte, Nat.reducePow, setMap, hrd, hrs, hrm, pD, pR, pM, gD, gR, gM, sD, sR, sM, aA, aS, aK, aT, List.set_set, List.length_set, List.getElem?_set_ne ndr, List.getElem?_set_ne ndm, List.getElem?_set_ne nrm, List.getElem?_set_ne nrd, List.getElem?_set_ne nmd, List.getElem?_set_ne nmr, drB, rowD, mapD, hmx]
    refine Thn_n ?_
    refine hK _ _ ?_
    clear hK K
    refine AW.seq_k fun K hK => ?_
    refine AW.cond_f rfl ?_
    refine AW.exit ?_
    refine Thn_e ?_
    clear hK K
    refine Thn_e ?_
    refine InB_here ?_
    iterate 2
      refine Thn_n ?_
      refine hK _ _ ?_
      clear hK K
      refine AW.seq_k fun K hK => ?_
      refine AW.region (by decide) ?_
      simp only [push_cast, Nat.reduceAdd, Nat.reduceMul, Nat.reduceSub, Nat.reduceLeDiff, Nat.reduceLT, Nat.reduceEqDiff, Nat.reduceBEq, Nat.reduceBNe, Nat.reduceMod, Nat.reduceDiv, Int.reduceLE, Int.reduceLT, Int.reduceToNat, Int.reduceAdd, Int.reduceSub, Int.reduceMul, Int.reduceNeg, Int.reduceEq, Int.reduceBEq, Int.reduceBNe, ↓reduceIte, reduceCtorEq, String.reduceBNe, String.reduceEq, reduceDIte, Nat.reducePow, setMap, hrd, hrs, hrm, pD, pR, pM, gD, gR, gM, sD, sR, sM, aA, aS, aK, aT, List.set_set, List.length_set, List.getElem?_set_ne ndr, List.getElem?_set_ne ndm, List.getElem?_set_ne nrm, List.getElem?_set_ne nrd, List.getElem?_set_ne nmd, List.getElem?_set_ne nmr, drB, rowD, mapD, hmx]
    refine Thn_n ?_
    refine hK _ _ ?_
    clear hK K
    refine AW.ret ?_
    refine hQ _ _ _ ?_
    rw [e2, e3, e4] at hw2 ⊢
    first | refine RetP.dropM0 (by simp only [List.length_set]) (by first | exact Or.inr rfl | exact Or.inl rfl) ?_ ?_ hw2 | refine RetP.dropM (by simp only [List.length_set]) (by first | exact Or.inr rfl | exact Or.inl rfl) ?_ ?_ hw2
    · simp only [resA, resOne, resTv, AV.tv, push_cast, Nat.reduceAdd, Nat.reduceMul, Nat.reduceSub, Nat.reduceLeDiff, Nat.reduceLT, Nat.reduceEqDiff, Nat.reduceBEq, Nat.reduceBNe, Nat.reduceMod, Nat.reduceDiv, Int.reduceLE, Int.reduceLT, Int.reduceToNat, Int.reduceAdd, Int.reduceSub, Int.reduceMul, Int.reduceNeg, Int.reduceEq, Int.reduceBEq, Int.reduceBNe, ↓reduceIte, reduceCtorEq, String.reduceBNe, String.reduceEq, reduceDIte, Nat.reducePow]
    · rfl
end Go.Proofs.Ytcahlnddcjifdaa

set_option linter.unusedSimpArgs false
set_option linter.unusedVariables false
set_option maxRecDepth 100000
set_option maxHeartbeats 4000000
namespace Go.Proofs.Ytcahlnddcjifdaa
open Go Go.Eng

def pls_awake_c : Nat → Nat → List Plan := fun f r =>
  match f with
  | 8 => match r with
    | 6 => [.val, .val, .val, .rd 0, .val, .rd 0, .wr]
    | _ => []
  | 11 => match r with
    | 8 => [.val, .val, .val, .rd 0, .val, .rd 0, .val, .wr]
    | _ => []
  | _ => []

theorem awake_c (m : AMem) : Ctr Try.prog 7 [] m (.one (.bool true)) m :=
  Ctr.run pls_awake_c 200 40 fol (by kernel_rfl) (by simp) rfl m
end Go.Proofs.Ytcahlnddcjifdaa

set_option linter.unusedSimpArgs false
set_option linter.unusedVariables false
set_option maxRecDepth 100000
set_option maxHeartbeats 4000000
namespace Go.Proofs.Ytcahlnddcjifdaa
open Go Go.Eng

theorem alloc30 (mem : AMem) : allocA Try.prog 30 mem = some (.one (.ptr mem.length 0 0), mem ++ [⟨.fix, 30, 0, 0, u8l (catB 6 D0.S)⟩]) := by
  unfold allocA; rw [zr30]; rfl
def opZ : List CV := .int .i64 0 :: .int .i64 0 :: .int .i64 0 :: (u8l zB ++ [.nils])
theorem alloc33 (mem : AMem) : allocA Try.prog 33 mem = some (.one (.ptr mem.length 0 0), mem ++ [⟨.fix, 33, 0, 0, opZ⟩]) := by
  unfold allocA; rw [zr33]; rfl
/-- A step, as it comes in. -/
def opC (kd ax nx : Int) (b : List Int) (rk kn : Nat) : List CV := .int .i64 kd :: .int .i64 ax :: .int .i64 nx :: (u8l b ++ [.sl rk 0 0 kn])
theorem opC_len {kd ax nx : Int} {b : List Int} {rk kn : Nat} (hb : b.length = 128) : (opC kd ax nx b rk kn).length = 132 := by simp [opC, u8l_len, hb]
theorem opC_vals (kd ax nx : Int) (b : List Int) (rk kn : Nat) : (opC kd ax nx b rk kn).all CV.isVal = true := by
  simp only [opC, List.all_cons, List.all_append, u8l_vals, List.all_nil, CV.isVal]; rfl
theorem opC_b {kd ax nx : Int} {b : List Int} {rk kn : Nat} (hb : b.length = 128) : ((opC kd ax nx b rk kn).drop 3).take 128 = u8l b := by
  simp only [opC, List.drop_succ_cons, List.drop_zero]
  rw [List.take_left' (by rw [u8l_len, hb])]
theorem opC_k {kd ax nx : Int} {b : List Int} {rk kn : Nat} (hb : b.length = 128) : (opC kd ax nx b rk kn)[131]? = some (.sl rk 0 0 kn) := by
  simp only [opC, List.getElem?_cons_succ]
  rw [List.getElem?_append_right (by rw [u8l_len, hb]; decide), u8l_len, hb]; rfl
theorem hasD_cat {n : Nat} {D : DS} {m L : AMem} : HasD (m ++ (rowD n D :: mapD D :: drB m.length (m.length + 1) n D :: L)) (m.length + 2) m.length (m.length + 1) n D :=
  ⟨by rw [lk_app]; rfl, by rw [lk_app0]; rfl, by rw [lk_app]; rfl⟩
theorem setD_cat {n : Nat} {D D' : DS} {m L : AMem} : setD (m ++ (rowD n D :: mapD D :: drB m.length (m.length + 1) n D :: L)) (m.length + 2) m.length (m.length + 1) n D' = m ++ (rowD n D' :: mapD D' :: drB m.length (m.length + 1) n D' :: L) := by
  unfold setD
  rw [set_app, set_app0, set_app]; rfl
theorem eqp_n (d : Nat) (xs ys : List Int) (h : xs.length = ys.length) : ∀ l : List Nat, (∀ i, i ∈ l → i < xs.length) → eqParts Try.prog (eqV Try.prog (d + 1)) (u8l xs) (u8l ys) (l.map fun i => (5, i)) = some (l.all fun i => byB xs i == byB ys i)
  | [], _ => rfl
  | i :: l, hl => by
    have hi := hl i List.mem_cons_self
    have ih := eqp_n d xs ys h l fun j hj => hl j (List.mem_cons_of_mem _ hj)
    have hg := u8l_get hi
    have hg2 := u8l_get (bs := ys) (i := i) (by omega)
    simp only [List.map_cons, eqParts, ih]
    simp only [push_cast, simprocAttr, hg, hg2, Option.map_some, List.all_cons]
theorem eqp128 {xs ys : List Int} (h : xs.length = 128) (h2 : ys.length = 128) : eqParts Try.prog (eqV Try.prog 9999) (u8l xs) (u8l ys) (List.map (fun i => (5, i)) (List.range' 0 128)) = some (decide (xs = ys)) := by
  rw [eqp_n 9998 xs ys (by omega) _ fun i hi => by rw [h]; simp [List.mem_range'] at hi; omega]
  congr 1
  rw [Bool.eq_iff_iff, List.all_eq_true, decide_eq_true_iff]
  constructor
  · intro hall
    refine List.ext_getElem (by omega) fun i h1 h3 => ?_
    have := hall i (by simp [List.mem_range']; omega)
    simp only [beq_iff_eq, byB, List.getD_eq_getElem?_getD, List.getElem?_eq_getElem h1, List.getElem?_eq_getElem h3, Option.getD_some] at this
    exact this
  · rintro rfl i _; simp
theorem wrD_S (D : DS) (k : Int) (v : List Int) : (wrD D k v).S = D.S := spD_S D
theorem wrD_vis (D : DS) (k : Nat) (v : List Int) : vis (wrD D (k : Int) v).S (wrD D (k : Int) v).E = updS (vis D.S D.E) k v := by
  rw [wrD_S]; exact vis_up D.S D.E D.ck
theorem wrD_vis2 (D : DS) (k : Nat) (v : List Int) : vis D.S (wrD D (k : Int) v).E = updS (vis D.S D.E) k v := vis_up D.S D.E D.ck
theorem crD_vis2 (S : Nat → List Int) (D : DS) (ks : Nat → Int) (kn : Nat) : vis S (crD D ks kn).E = S := rfl
theorem syD_vis2 (S : Nat → List Int) (D : DS) : vis S (syD D).E = S := rfl
theorem syD_S (D : DS) : (syD D).S = vis D.S D.E := rfl
theorem syD_vis (D : DS) : vis (syD D).S (syD D).E = vis D.S D.E := rfl
theorem fuD_S (D : DS) (x : Int) : (fuD D x).S = D.S := rfl
theorem fuD_E (D : DS) (x : Int) : (fuD D x).E = D.E := rfl
theorem fuD_wf {n : Nat} {D : DS} (h : WfD n D) (x : Int) : WfD n (fuD D x) := ⟨h.s, h.e⟩
theorem crD_vis (D : DS) (ks : Nat → Int) (kn : Nat) : vis (crD D ks kn).S (crD D ks kn).E = (crD D ks kn).S := rfl
theorem dr_wf {m : AMem} {n : Nat} {D : DS} (hwf : MWf m.length m) (L : AMem) (hL : MWf (m.length + 3 + L.length) L) : MWf (m ++ (rowD n D :: mapD D :: drB m.length (m.length + 1) n D :: L)).length (m ++ (rowD n D :: mapD D :: drB m.length (m.length + 1) n D :: L)) := by
  have e : (m ++ (rowD n D :: mapD D :: drB m.length (m.length + 1) n D :: L)).length = m.length + 3 + L.length := by simp only [List.length_append, List.length_cons]; omega
  rw [e]
  have q1 : m.length < m.length + 3 + L.length := by omega
  have q2 : m.length + 1 < m.length + 3 + L.length := by omega
  refine MWf.app (hwf.grow (by omega)) (MWf_cons (u8l_below _ _) (MWf_cons rfl (MWf_cons ?_ hL) (eL_below _ _ _)))
  simp only [drB, List.all_cons, List.all_nil, CV.below, decide_eq_true q1, decide_eq_true q2, Bool.and_true]
theorem opC_below {kd ax nx : Int} {b : List Int} {rk kn l : Nat} (h : rk < l) : (opC kd ax nx b rk kn).all (CV.below l) = true := by
  simp only [opC, List.all_cons, List.all_append, List.all_nil, u8l_below, CV.below, decide_eq_true h, Bool.and_true]
/-- Two rows of blocks, the first so many of the one. -/
def mixK (A B : Nat → List Int) (k : Nat) : Nat → List Int := fun i => if i < k then A i else B i
theorem mixK_0 (A B : Nat → List Int) : mixK A B 0 = B := by funext i; unfold mixK; rw [if_neg (by omega)]
theorem mixK_at (A B : Nat → List Int) (k : Nat) : mixK A B k k = B k := by unfold mixK; rw [if_neg (by omega)]
theorem mixK_set (A B : Nat → List Int) (k : Nat) : updS (mixK A B k) k (A k) = mixK A B (k + 1) := by
  funext i; unfold updS mixK
  by_cases h : i = k
  · subst h; rw [if_pos rfl, if_pos (by omega)]
  · rw [if_neg h]
    by_cases h2 : i < k
    · rw [if_pos h2, if_pos (by omega)]
    · rw [if_neg h2, if_neg (by omega)]
theorem mixK_all (A B : Nat → List Int) (n : Nat) : catB n (mixK A B n) = catB n A := catB_congr fun k hk => by unfold mixK; rw [if_pos hk]
theorem mixK_len {A B : Nat → List Int} (hA : L128 A) (hB : L128 B) (k : Nat) : L128 (mixK A B k) := fun i => by
  unfold mixK; split
  · exact hA i
  · exact hB i
structure OpsAt (m : AMem) (r n : Nat) (kd ax nx : Nat → Int) (b : Nat → List Int) (rk kn : Nat → Nat) (ks : Nat → Nat → Int) : Prop where
  row : ∃ cells, m[r]? = some ⟨.ro, 33, 0, 132, cells⟩ ∧ cells.length = n * 132 ∧ ∀ i, i < n → (cells.drop (i * 132)).take 132 = opC (kd i) (ax i) (nx i) (b i) (rk i) (kn i)
  len : ∀ i, i < n → (b i).length = 128
  keep : ∀ i, i < n → m[rk i]? = some ⟨.ro, 3, 0, 1, il (kn i) (ks i)⟩
end Go.Proofs.Ytcahlnddcjifdaa

/-
  ENGINE, PART Sh: contracts of the library's shelf, as contracts of the engine: a row of our own that is sorted in place.
-/
set_option linter.unusedVariables false
set_option linter.unusedSimpArgs false
namespace Go.Eng
open Go

/-- A world with more blocks, and draws. -/
theorem RepM.ext {ρ : Env} {mem : AMem} {w w' : World} (h : RepM ρ mem w) (hos : w'.os = w.os) (htape : w'.tape = w.tape) (hout : w'.output = w.output) (hsize : w.heap.size ≤ w'.heap.size)
    (hheap : ∀ k, k < w.heap.size → w'.heap[k]? = w.heap[k]?) : RepM ρ mem w' ∧ Step mem ρ w mem ρ w' :=
  ⟨⟨fun r b hb => (h.blk r b hb).heap hsize fun x k _ _ hx => hheap _ hx, h.dom, h.domv, h.sep⟩,
   ⟨hos, htape, hout, hsize, Nat.le_refl _, fun _ _ _ _ h => h, fun r b b' h1 h2 => by rw [h1] at h2; injection h2 with h2; rw [h2], fun r b h1 _ => h1, fun n hn _ => hheap n hn, fun r b x k h1 h2 h3 => .inr ⟨r, b, x, k, h1, h2, h3, rfl⟩⟩⟩

theorem holds_of {ρ : Env} {w : World} {n : Nat} {c : Array Value} {ty : TypeId} {esz : Nat} (h : RowAt w n c ty esz) {xs sp : List Value} (hc : c.toList = xs ++ sp) : Sort.Holds id w n 0 xs.toArray := by
  obtain ⟨fz, hfz, hh⟩ := h
  intro j hj
  have hjl : j < xs.length := by simpa using hj
  have hx : c[j]? = some xs[j] := by
    rw [← Array.getElem?_toList, hc, List.getElem?_append_left hjl, List.getElem?_eq_getElem hjl]
  have hjc : j < c.size := (Array.getElem?_eq_some_iff.1 hx).1
  refine ⟨?_, ?_⟩
  · simp only [World.cell?, hh, Option.isSome_none, Bool.false_eq_true, if_false, Nat.zero_add, hx]
    simp [hjl]
  · simp only [World.frozen?, hh, Nat.zero_add]
    rcases hfz with rfl | rfl
    · simp
    · unfold fzOf; split
      · simp; omega
      · simp
theorem putRow_at {w : World} {n : Nat} {c : Array Value} {ty : TypeId} {esz : Nat} (h : RowAt w n c ty esz) {xs sp ys : List Value} (hc : c.toList = xs ++ sp) (hl : ys.length = xs.length) (k : Nat) (os : Array Obj) :
    ∃ c' : Array Value, RowAt (Sort.grow (Sort.putRow id (Sort.ahead w k) n 0 ys.toArray) os) n c' ty esz ∧ c'.size = c.size ∧ c'.toList = ys ++ sp := by
  obtain ⟨fz, hfz, hh⟩ := h
  have hlt : n < w.heap.size := (Array.getElem?_eq_some_iff.1 hh).1
  refine ⟨Sort.putCells id 0 ys.toArray c, ⟨fz, by simpa [Sort.putCells] using hfz, ?_⟩, by simp [Sort.putCells], ?_⟩
  · rw [Sort.heap_grow_old _ _ (by simpa using hlt)]
    show ((w.heap.modify n _)[n]?) = _
    rw [Array.getElem?_modify, if_pos rfl, hh]
    rfl
  · have hcs : c.size = xs.length + sp.length := by rw [← Array.length_toList, hc, List.length_append]
    refine List.ext_getElem? fun j => ?_
    rw [Array.getElem?_toList]
    simp only [Sort.putCells, Array.getElem?_mapIdx, Nat.zero_le, true_and, Nat.zero_add, Nat.sub_zero, List.size_toArray]
    rcases Nat.lt_or_ge j ys.length with hj | hj
    · have hjc : j < c.size := by omega
      rw [Array.getElem?_eq_getElem hjc, List.getElem?_append_left hj]
      simp [hj]
    · rw [List.getElem?_append_right hj]
      have : c[j]? = (xs ++ sp)[j]? := by rw [← hc, Array.getElem?_toList]
      rw [this, List.getElem?_append_right (by omega), hl]
      cases sp[j - xs.length]? with
      | none => rfl
      | some v => rw [Option.map_some, if_neg (by omega)]

/-- A row of our own whose cells turn in place, in a world with more blocks, and draws. -/
theorem RepM.rowIn {ρ : Env} {mem : AMem} {w : World} (hm : RepM ρ mem w) {r ty ver esz cap n : Nat} {cs cs' : List CV} (hb : mem[r]? = some ⟨.grow, ty, ver, esz, cs⟩) (hρ : ρ r ver = some (some ⟨n, 0, none⟩, cap)) {c : Array Value} {xs sp ys : List Value}
    (hrow : RowAt w n c ty esz) (hsz : c.size = cap * unitOf esz) (hcm : cap ≤ maxLen) (hc : c.toList = xs ++ sp) (hl : ys.length = xs.length) (hys : All2 (VC ρ) cs' ys) (k : Nat) (os : Array Obj) :
    RepM ρ (mem.set r ⟨.grow, ty, ver, esz, cs'⟩) (Sort.grow (Sort.putRow id (Sort.ahead w k) n 0 ys.toArray) os) ∧ Step mem ρ w (mem.set r ⟨.grow, ty, ver, esz, cs'⟩) ρ (Sort.grow (Sort.putRow id (Sort.ahead w k) n 0 ys.toArray) os) := by
  obtain ⟨c1, g1, g2, g3⟩ := putRow_at hrow hc hl k #[]
  rw [Sort.grow_empty] at g1
  obtain ⟨a1, a2⟩ := hm.turn (w' := Sort.putRow id (Sort.ahead w k) n 0 ys.toArray) hb (by simp) hρ ⟨.grow, ty, ver, esz, cs'⟩ rfl rfl (fun m hmn => by
      show ((w.heap.modify n _)[m]?) = _
      rw [Array.getElem?_modify, if_neg (fun e => hmn e.symm)]) (by simp) rfl rfl rfl
    (.inr ⟨n, c1, cap, ys, sp, hρ, g1, by rw [g2]; exact hsz, hcm, g3, hys⟩)
  obtain ⟨b1, b2⟩ := a1.ext (w' := Sort.grow (Sort.putRow id (Sort.ahead w k) n 0 ys.toArray) os) rfl rfl rfl (by simp [Sort.grow]) (fun k hk => Sort.heap_grow_old _ _ hk)
  exact ⟨b1, a2.trans b2⟩

theorem holds_map {w : World} {b o : Nat} {zs : List Int} (h : Sort.Holds id w b o (zs.map (Value.int .i64)).toArray) : Sort.Holds (Value.int .i64) w b o zs.toArray := fun j hj => by
  have hj' : j < zs.length := by simpa using hj
  have := h j (by simpa using hj')
  simpa [hj'] using this
theorem putCells_map (d : List Int) (c : Array Value) : Sort.putCells (Value.int .i64) 0 d.toArray c = Sort.putCells id 0 (d.map (Value.int .i64)).toArray c := by
  unfold Sort.putCells
  congr 1
  funext k x
  simp only [Nat.zero_le, true_and, Nat.zero_add, Nat.sub_zero, List.size_toArray, List.length_map]
  by_cases h : k < d.length
  · rw [if_pos h, if_pos h]; simp [h]
  · rw [if_neg h, if_neg h]
theorem all2_ints {ρ : Env} : ∀ {zs : List Int} {xs : List Value}, All2 (VC ρ) (zs.map (CV.int .i64)) xs → xs = zs.map (Value.int .i64)
  | [], [], _ => rfl
  | z :: zs, x :: xs, h => by
    have h1 : x = .int .i64 z := h.1
    rw [List.map_cons, h1, all2_ints h.2]
  | [], _ :: _, h => h.elim
  | _ :: _, [], h => h.elim
theorem all2_ints' {ρ : Env} : ∀ {zs : List Int}, All2 (VC ρ) (zs.map (CV.int .i64)) (zs.map (Value.int .i64))
  | [] => trivial
  | z :: zs => ⟨rfl, all2_ints'⟩
abbrev SortsInts (P : Program) (f : FuncId) : Prop := ∀ (blk off cap : Nat) (zs : List Int) (w : World), Sort.Holds (Value.int .i64) w blk off zs.toArray → blk < w.heap.size → zs.length < 4611686018427387904 →
    Calls P f #[.slice (some ⟨blk, off, none⟩) zs.length cap] w fun e w' =>
      e = .returned (.tuple #[]) ∧ ∃ n os, w' = Sort.grow (Sort.putRow (Value.int .i64) (Sort.ahead w n) blk off (zs.mergeSort fun x y => decide (x ≤ y)).toArray) os
abbrev SortsNone (P : Program) (f : FuncId) : Prop := ∀ (p : Option Addr) (cap : Nat) (w : World), Calls P f #[.slice p 0 cap] w fun e w' => e = .returned (.tuple #[]) ∧ w' = w
def srt (zs : List Int) : List Int := zs.mergeSort fun x y => decide (x ≤ y)
/-- slices.Sort of ints, at a row of our own. -/
theorem Ctr.sortInts {P : Program} {f : FuncId} (hb : Bodied P f) (h1 : SortsInts P f) (h0 : SortsNone P f) {mem : AMem} {r ty ver : Nat} {zs : List Int} (hr : mem[r]? = some ⟨.grow, ty, ver, 1, zs.map (CV.int .i64)⟩) (hlen : zs.length ≤ 140737488355328) (n : Nat) (hn : n = zs.length) :
    Ctr P f [.one (.sl r ver 0 n)] mem (.tup []) (mem.set r ⟨.grow, ty, ver, 1, (srt zs).map (CV.int .i64)⟩) := by
  subst hn
  intro ρ w vs hm ha
  obtain ⟨A, c0, B, c, hρ, rfl, hlc, hB, h00⟩ : ∃ A c0 B c, ρ r ver = some (A, c0) ∧ vs = [.slice B zs.length c] ∧ zs.length ≤ c ∧ (0 < zs.length → ∃ a, A = some a ∧ B = some (a.add 0)) ∧ (0 = 0 → B = A ∧ c = c0) := by
    match vs, ha with
    | [v], ha =>
      obtain ⟨A, c0, B, c, q1, rfl, q2, q3, q4⟩ := ha.1
      exact ⟨A, c0, B, c, q1, rfl, q2, q3, q4⟩
  obtain ⟨rfl, rfl⟩ := h00 rfl
  have hbk := hm.blk r _ hr
  simp only [BlkR] at hbk
  refine .inl ⟨hb, ?_⟩
  by_cases hz : zs.length = 0
  · have hzs : zs = [] := List.eq_nil_of_length_eq_zero hz
    subst hzs
    have hsame : mem.set r ⟨.grow, ty, ver, 1, (srt []).map (CV.int .i64)⟩ = mem := set_self (by simpa [srt] using hr)
    rw [hsame]
    refine (h0 B c w).mono ?_
    rintro e w' ⟨rfl, rfl⟩
    exact ⟨_, ρ, rfl, ⟨#[], rfl, trivial⟩, hm, Step.refl _ _ _⟩
  · obtain ⟨a, rfl, _⟩ := hB (by omega)
    rcases hbk with ⟨q1, q2⟩ | ⟨g, cc, cap, xs, sp, q1, q2, q3, q4, q5, q6⟩
    · rw [q2] at hρ; injection hρ with hρ; injection hρ with hρ _; cases hρ
    · rw [q1] at hρ; injection hρ with hρ; injection hρ with e1 e2
      injection e1 with e1
      subst e1; subst e2
      have hxs := all2_ints q6
      subst hxs
      have hH := holds_map (holds_of q2 (ρ := ρ) q5)
      refine (h1 g 0 cap zs w hH q2.lt (by omega)).mono ?_
      rintro e w' ⟨rfl, n, os, rfl⟩
      have hpl : (srt zs).length = zs.length := by unfold srt; rw [List.length_mergeSort]
      have hw : Sort.putRow (Value.int .i64) (Sort.ahead w n) g 0 (zs.mergeSort fun x y => decide (x ≤ y)).toArray = Sort.putRow id (Sort.ahead w n) g 0 ((srt zs).map (Value.int .i64)).toArray := by
        unfold Sort.putRow
        congr 1
        funext c
        exact putCells_map _ c
      rw [hw]
      obtain ⟨g1, g2⟩ := hm.rowIn hr q1 q2 q3 q4 q5 (by simp [hpl]) (all2_ints' (zs := srt zs)) n os
      exact ⟨_, ρ, rfl, ⟨#[], rfl, trivial⟩, g1, g2⟩

/-- slices.Sorted of a map's keys, as the shelf says it. -/
abbrev SortedKeys (P : Program) (f g : FuncId) (kt et : TypeId) : Prop := ∀ (Bm b nn : Nat) (D0 : DataW Nat) (w : World), Bm < w.heap.size → w.cell? ⟨Bm, 0, none⟩ = some (.map (some b)) → w.ownsMap P kt (fun _ => some (.nil, [])) b nn D0 →
    Maps.size D0 ≤ maxLen → Maps.size D0 * 8 ≤ 140737488355328 → Calls P f #[.func (.func g) #[] #[.pointer (some ⟨Bm, 0, none⟩)]] w fun e w' => ∃ (v : Value) (ss : List Int), e = .returned v ∧ ss.Perm (intKeys D0) ∧
      w'.ownsRow w.heap.size et 1 v ss.length ((ss.mergeSort fun x y => decide (x ≤ y)).map encZ) ∧ RowKit.Below w.heap.size w w'
theorem Ctr.sortedKeys {P : Program} {f g : FuncId} {kt et : TypeId} (hb : Bodied P f) (hs : SortedKeys P f g kt et) (hkt : P.underlying kt = some (.int .i64)) {mem : AMem} {rb tb eb rm clock : Nat} {va : Bool} {es : List (Nat × List CV × List CV)}
    (hbx : mem[rb]? = some ⟨.fix, tb, 0, eb, [.mp rm 0]⟩) (hmp : mapAt mem rm 0 = some (false, va, clock, es)) (ks : List Int) (hks : es.map (·.2.1) = ks.map fun k => [CV.int .i64 k]) (hbnd : ∀ k, k ∈ ks → -9223372036854775808 ≤ k ∧ k ≤ 9223372036854775807) (hnk : ks.Nodup)
    (hold : ∀ e, e ∈ es → e.1 < clock) (hnb : (es.map (·.1)).Nodup) (hlen : ks.length ≤ 17592186044416) (n : Nat) (hn : n = ks.length) :
    Ctr P f [.one (.fn g [(rb, 0, 0)])] mem (.one (.sl mem.length 0 0 n)) (mem ++ [⟨.grow, et, 0, 1, (srt ks).map (CV.int .i64)⟩]) := by
  subst hn
  intro ρ w vs hm ha
  obtain ⟨a, kk, hρ, rfl⟩ : ∃ a kk, ρ rb 0 = some (some a, kk) ∧ vs = [.func (.func g) #[] #[.pointer (some (a.add 0))]] := by
    match vs, ha with
    | [v], ha =>
      obtain ⟨us, rfl, hu⟩ := ha.1
      obtain ⟨l⟩ := us
      match l, hu with
      | [x], hu =>
        obtain ⟨a, k, q1, rfl⟩ := hu.1
        exact ⟨a, k, q1, rfl⟩
  have hbk := hm.blk rb _ hbx
  simp only [BlkR] at hbk
  obtain ⟨nb, c, k, q1, q2, q3, q4⟩ := hbk
  rw [q1] at hρ; injection hρ with hρ; injection hρ with e1 e2; injection e1 with e1; subst e1; subst e2
  obtain ⟨l⟩ := c
  match l, q3 with
  | [x], q3 =>
    obtain ⟨N, kN, q5, rfl⟩ := q3.1
    obtain ⟨b, N', kk, o, hb', hver, hkind, hcells, hρ', hvv, hheap, hall⟩ := mapAt_sound hm hmp (v := .map (some N)) ⟨N, kN, q5, rfl⟩
    injection hvv with hvv; injection hvv with hvv; subst hvv
    have hkey : ∀ (j : Nat) (x : MapEntry), o.toList[j]? = some x → ∃ kx, ks[j]? = some kx ∧ x.key = .int .i64 kx ∧ ∃ e, es[j]? = some e ∧ x.born = e.1 := by
      intro j x hx
      have hj : j < es.length := by rw [hall.length]; exact (List.getElem?_eq_some_iff.1 hx).1
      obtain ⟨x', hx', g⟩ := hall.get (List.getElem?_eq_getElem hj)
      rw [hx] at hx'; injection hx' with hx'; subst hx'
      have h1 : (es.map (·.2.1))[j]? = some (es[j].2.1) := by rw [List.getElem?_map, List.getElem?_eq_getElem hj]; rfl
      rw [hks, List.getElem?_map] at h1
      obtain ⟨kx, h2, h3⟩ := Option.map_eq_some_iff.1 h1
      have g2 := g.2.1
      rw [← h3] at g2
      exact ⟨kx, h2, g2, _, List.getElem?_eq_getElem hj, g.1⟩
    have hol : o.toList.length = ks.length := by
      rw [← hall.length]
      have := congrArg List.length hks
      simpa using this
    have hborn : o.toList.map (·.born) = es.map (·.1) := by
      refine List.ext_getElem? fun j => ?_
      simp only [List.getElem?_map]
      cases hx : o.toList[j]? with
      | none =>
        rw [List.getElem?_eq_none_iff] at hx
        rw [List.getElem?_eq_none (by rw [hall.length]; exact hx)]; rfl
      | some x =>
        obtain ⟨kx, _, _, e, h4, h5⟩ := hkey j x hx
        rw [h4]; simp [h5]
    have hkeys : o.toList.map (·.key) = ks.map (Value.int .i64) := by
      refine List.ext_getElem? fun j => ?_
      simp only [List.getElem?_map]
      cases hx : o.toList[j]? with
      | none =>
        rw [List.getElem?_eq_none_iff] at hx
        rw [List.getElem?_eq_none (by omega)]; rfl
      | some x =>
        obtain ⟨kx, h4, h5, _⟩ := hkey j x hx
        rw [h4]; simp [h5]
    have hrd : ∀ x, x ∈ o.toList → ∃ kx, kx ∈ ks ∧ x.key = .int .i64 kx ∧ WideElems.rd P kt (fun _ => some (DataW.nil (H := Nat), [])) x = some (.int .i64 kx, .nil) := by
      intro x hx
      obtain ⟨j, hj⟩ := List.getElem?_of_mem hx
      obtain ⟨kx, h4, h5, _⟩ := hkey j x hj
      have hmem := List.mem_of_getElem? h4
      have := hbnd kx hmem
      refine ⟨kx, hmem, h5, ?_⟩
      have hwf : (Lit.int .i64 kx).wf = true := by simp [Lit.wf, IntKind.min, IntKind.max, IntKind.signed, IntKind.bits]; omega
      simp [WideElems.rd, h5, Maps.keyOf_int_mk hkt hwf]
    have hown : w.ownsMap P kt (fun _ => some (DataW.nil (H := Nat), [])) N o.size (.map ((o.toList.map (WideElems.rg P kt (fun _ => some (DataW.nil, [])))).foldr DataW.insert [])) := by
      refine ⟨o, clock, hheap, ⟨?_, ⟨fun x hx => ?_, ?_, ?_⟩, fun x hx => ?_⟩, Nat.le_refl _, rfl⟩
      · rw [← Array.length_toList, hol]; unfold maxLen; omega
      · have : x.born ∈ es.map (·.1) := by rw [← hborn]; exact List.mem_map_of_mem hx
        obtain ⟨e, he, h1⟩ := List.mem_map.1 this
        rw [← h1]; exact hold e he
      · rw [hborn]; exact hnb
      · rw [hkeys]; exact List.pairwise_map.2 (hnk.imp fun hne e => hne (by injection e))
      · obtain ⟨kx, _, _, h⟩ := hrd x hx; exact ⟨_, h⟩
    have hperm : (intKeys (DataW.map (H := Nat) ((o.toList.map (WideElems.rg P kt (fun _ => some (DataW.nil, [])))).foldr DataW.insert []))).Perm ks := by
      have h1 := (WideShapes.sorted_perm (H := Nat) (o.toList.map (WideElems.rg P kt (fun _ => some (DataW.nil, []))))).map fun p => intOf p.1
      refine h1.trans ?_
      rw [List.map_map]
      have h2 : o.toList.map ((fun p => intOf p.1) ∘ WideElems.rg P kt (fun _ => some (DataW.nil (H := Nat), []))) = ks := by
        refine List.ext_getElem? fun j => ?_
        rw [List.getElem?_map]
        cases hx : o.toList[j]? with
        | none =>
          rw [List.getElem?_eq_none_iff] at hx
          rw [List.getElem?_eq_none (by omega)]; rfl
        | some x =>
          obtain ⟨kx, h4, h5, _⟩ := hkey j x hx
          obtain ⟨ky, _, h6, h7⟩ := hrd x (List.mem_of_getElem? hx)
          rw [h5] at h6; injection h6 with _ h6; subst h6
          rw [h4]
          simp [WideElems.rg, h7, intOf]
      rw [h2]
    have hsz : Maps.size (DataW.map (H := Nat) ((o.toList.map (WideElems.rg P kt (fun _ => some (DataW.nil, [])))).foldr DataW.insert [])) = ks.length := by
      have := (WideShapes.sorted_perm (H := Nat) (o.toList.map (WideElems.rg P kt (fun _ => some (DataW.nil, []))))).length_eq
      rw [List.length_map, hol] at this
      exact this
    refine .inl ⟨hb, (hs nb N o.size _ w (Array.getElem?_eq_some_iff.1 q2).1 (by simp [World.cell?, q2]) hown (by rw [hsz]; unfold maxLen; omega) (by rw [hsz]; omega)).mono ?_⟩
    rintro e w' ⟨v, ss, rfl, hp, hrow, hbel⟩
    have hss : ss.mergeSort (fun x y => decide (x ≤ y)) = srt ks := mergeSort_of_perm_i (hp.trans hperm)
    rw [hss, (hp.trans hperm).length_eq] at hrow
    obtain ⟨A, cap, rfl, hnc, hA, hAb, hbr⟩ := blk_of_owns (r := mem.length) (ver := 0) hrow (by omega) (all2_ints' (ρ := ρ) (zs := srt ks))
    have hle : ρ.le (ρ.set mem.length 0 (A, cap)) := Env.le_set (hm.dom _ _ (Nat.le_refl _))
    have hbase : ∀ x, A = some x → w.heap.size ≤ x.block := by
      rintro x rfl
      rcases hrow.2 with ⟨h, _⟩ | ⟨g', cap', cur, h, hbg, _⟩
      · cases h
      · injection h with h; injection h with h; rw [h]; exact hbg
    obtain ⟨g1, g2⟩ := hm.new' (w' := w') hbel.os hbel.tape hbel.output hbel.size hbel.block ⟨.grow, et, 0, 1, (srt ks).map (CV.int .i64)⟩ A cap hbase (by simp) (hbr _ (fun _ _ => VC.mono hle) (Env.set_same _ _ _ _))
    refine ⟨_, _, rfl, ⟨A, cap, A, cap, Env.set_same _ _ _ _, rfl, hnc, fun hpos => ?_, fun _ => ⟨rfl, rfl⟩⟩, g1, g2⟩
    cases A with
    | none => have := (hA rfl).2; omega
    | some a => exact ⟨a, rfl, by simp [Addr.add]⟩
end Go.Eng

/- Contracts of Go's library off the kit's shelf, laid at this program by the kit's own command. -/
namespace Go.Proofs
open Go.Shelf
def Try.lays189_ren : Go.Shelf.Ren := ⟨fun | 189 => 33 | 125 => 37 | 257 => 36 | 128 => 47 | 129 => 48 | 294 => 38 | 295 => 39 | 296 => 40 | 297 => 41 | 298 => 42 | 299 => 43 | 216 => 44 | 300 => 45 | 301 => 46 | 328 => 49 | 329 => 50 | 330 => 51 | 331 => 52 | 332 => 53 | 215 => 54 | 343 => 55 | n => n, fun | 28 => 31 | 3 => 3 | 46 => 34 | 0 => 0 | 51 => 87 | 53 => 89 | 4 => 4 | 183 => 79 | 182 => 78 | 131 => 84 | 5 => 5 | 9 => 9 | 218 => 90 | 222 => 94 | 228 => 96 | 229 => 97 | n => n, fun | n => n⟩

theorem Try.lays189 : Go.Proofs.Lays.n189 Try.prog Try.lays189_ren := {
  mixed := by kernel_rfl
  f125 := Try.func37.trans (congrArg some (by kernel_rfl))
  f128 := Try.func47.trans (congrArg some (by kernel_rfl))
  f129 := Try.func48.trans (congrArg some (by kernel_rfl))
  f189 := Try.func33.trans (congrArg some (by kernel_rfl))
  f215 := Try.func54.trans (congrArg some (by kernel_rfl))
  f216 := Try.func44.trans (congrArg some (by kernel_rfl))
  f257 := Try.func36.trans (congrArg some (by kernel_rfl))
  f294 := Try.func38.trans (congrArg some (by kernel_rfl))
  f295 := Try.func39.trans (congrArg some (by kernel_rfl))
  f296 := Try.func40.trans (congrArg some (by kernel_rfl))
  f297 := Try.func41.trans (congrArg some (by kernel_rfl))
  f298 := Try.func42.trans (congrArg some (by kernel_rfl))
  f299 := Try.func43.trans (congrArg some (by kernel_rfl))
  f300 := Try.func45.trans (congrArg some (by kernel_rfl))
  f301 := Try.func46.trans (congrArg some (by kernel_rfl))
  f328 := Try.func49.trans (congrArg some (by kernel_rfl))
  f329 := Try.func50.trans (congrArg some (by kernel_rfl))
  f330 := Try.func51.trans (congrArg some (by kernel_rfl))
  f331 := Try.func52.trans (congrArg some (by kernel_rfl))
  f332 := Try.func53.trans (congrArg some (by kernel_rfl))
  f343 := Try.func55.trans (congrArg some (by kernel_rfl))
  t0 := Try.underlying0
  a0 := Try.isAgg0
  z0 := Try.sizeOf0
  v0 := Try.zeroValue0
  t3 := Try.underlying3
  a3 := Try.isAgg3
  z3 := Try.sizeOf3
  v3 := Try.zeroValue3
  t4 := Try.underlying4
  a4 := Try.isAgg4
  z4 := Try.sizeOf4
  v4 := Try.zeroValue4
  t5 := Try.underlying5
  a5 := Try.isAgg5
  z5 := Try.sizeOf5
  v5 := Try.zeroValue5
  t9 := Try.underlying9
  a9 := Try.isAgg9
  z9 := Try.sizeOf9
  v9 := Try.zeroValue9
  t28 := Try.underlying31
  a28 := Try.isAgg31
  z28 := Try.sizeOf31
  v28 := Try.zeroValue31
  t46 := Try.underlying34
  a46 := Try.isAgg34
  z46 := Try.sizeOf34
  v46 := Try.zeroValue34
  t51 := Try.underlying87
  a51 := Try.isAgg87
  z51 := Try.sizeOf87
  v51 := Try.zeroValue87
  t53 := Try.underlying89
  a53 := Try.isAgg89
  z53 := Try.sizeOf89
  v53 := Try.zeroValue89
  t131 := Try.underlying84
  a131 := Try.isAgg84
  z131 := Try.sizeOf84
  v131 := Try.zeroValue84
  t182 := Try.underlying78
  a182 := Try.isAgg78
  z182 := Try.sizeOf78
  v182 := Try.zeroValue78
  t183 := Try.underlying79
  a183 := Try.isAgg79
  z183 := Try.sizeOf79
  v183 := Try.zeroValue79
  t218 := Try.underlying90
  a218 := Try.isAgg90
  z218 := Try.sizeOf90
  v218 := Try.zeroValue90
  t222 := Try.underlying94
  a222 := Try.isAgg94
  z222 := Try.sizeOf94
  v222 := Try.zeroValue94
  t228 := Try.underlying96
  a228 := Try.isAgg96
  z228 := Try.sizeOf96
  v228 := Try.zeroValue96
  t229 := Try.underlying97
  a229 := Try.isAgg97
  z229 := Try.sizeOf97
  v229 := Try.zeroValue97 }

open Go.Sort Go.RowKit in
theorem Try.slices_Sort_int (blk off cap : Nat) (zs : List Int) (w : World) (hH : Holds (Value.int .i64) w blk off zs.toArray) (hblk : blk < w.heap.size) (hsz : zs.length < 4611686018427387904) :
    Calls Try.prog 33 #[.slice (some ⟨blk, off, none⟩) zs.length cap] w fun e w' =>
      e = .returned (.tuple #[]) ∧ ∃ n os, w' = grow (putRow (Value.int .i64) (Sort.ahead w n) blk off (zs.mergeSort fun x y => decide (x ≤ y)).toArray) os := Any.slices_Sort_int Try.lays189 blk off cap zs w hH hblk hsz

open Go.RowKit Go.Sort in
theorem Try.slices_Sort_int_none (p : Option Addr) (cap : Nat) (w : World) :
    Calls Try.prog 33 #[.slice p 0 cap] w fun e w' => e = .returned (.tuple #[]) ∧ w' = w := Any.slices_Sort_int_none Try.lays189 p cap w

def Try.keysA_ren : Go.Shelf.Ren := ⟨fun | 7 => 29 | 10 => 34 | n => n, fun | 23 => 55 | 26 => 3 | 3 => 29 | 28 => 70 | 0 => 0 | 27 => 69 | 33 => 51 | 4 => 4 | n => n, fun | n => n⟩

theorem Try.keysA : Go.Proofs.SlLaysZI.n7 Try.prog Try.keysA_ren := {
  mixed := by kernel_rfl
  f7 := ⟨Try.f29.name, by decide, Try.func29.trans (congrArg some (by kernel_rfl))⟩
  f10 := ⟨Try.f34.name, by decide, Try.func34.trans (congrArg some (by kernel_rfl))⟩
  t0 := Try.underlying0
  a0 := Try.isAgg0
  z0 := Try.sizeOf0
  v0 := Try.zeroValue0
  t4 := Try.underlying4
  a4 := Try.isAgg4
  z4 := Try.sizeOf4
  v4 := Try.zeroValue4
  t23 := Try.underlying55
  a23 := Try.isAgg55
  z23 := Try.sizeOf55
  v23 := Try.zeroValue55
  t26 := Try.underlying3
  a26 := Try.isAgg3
  z26 := Try.sizeOf3
  v26 := Try.zeroValue3
  t27 := Try.underlying69
  a27 := Try.isAgg69
  z27 := Try.sizeOf69
  v27 := Try.zeroValue69
  t28 := Try.underlying70
  a28 := Try.isAgg70
  z28 := Try.sizeOf70
  v28 := Try.zeroValue70
  t33 := Try.underlying51
  a33 := Try.isAgg51
  z33 := Try.sizeOf51
  v33 := Try.zeroValue51 }

def Try.sortedA_ren : Go.Shelf.Ren := ⟨fun | 6 => 28 | 8 => 32 | 9 => 33 | 11 => 35 | 13 => 37 | 12 => 36 | 23 => 47 | 24 => 48 | 14 => 38 | 15 => 39 | 16 => 40 | 17 => 41 | 18 => 42 | 19 => 43 | 20 => 44 | 21 => 45 | 22 => 46 | 25 => 49 | 26 => 50 | 27 => 51 | 28 => 52 | 29 => 53 | 30 => 54 | 31 => 55 | n => n, fun | 26 => 3 | 28 => 70 | 24 => 31 | 0 => 0 | 3 => 3 | 37 => 34 | 48 => 87 | 50 => 89 | 4 => 4 | 40 => 79 | 39 => 78 | 45 => 84 | 5 => 5 | 9 => 9 | 51 => 90 | 55 => 94 | 57 => 96 | 58 => 97 | 33 => 51 | n => n, fun | n => n⟩

theorem Try.sortedA : Go.Proofs.SlLaysZI.n6 Try.prog Try.sortedA_ren := {
  mixed := by kernel_rfl
  f6 := ⟨Try.f28.name, by decide, Try.func28.trans (congrArg some (by kernel_rfl))⟩
  f8 := ⟨Try.f32.name, by decide, Try.func32.trans (congrArg some (by kernel_rfl))⟩
  f11 := ⟨Try.f35.name, by decide, Try.func35.trans (congrArg some (by kernel_rfl))⟩
  t0 := Try.underlying0
  a0 := Try.isAgg0
  z0 := Try.sizeOf0
  v0 := Try.zeroValue0
  t24 := Try.underlying31
  a24 := Try.isAgg31
  z24 := Try.sizeOf31
  v24 := Try.zeroValue31
  t26 := Try.underlying3
  a26 := Try.isAgg3
  z26 := Try.sizeOf3
  v26 := Try.zeroValue3
  t28 := Try.underlying70
  a28 := Try.isAgg70
  z28 := Try.sizeOf70
  v28 := Try.zeroValue70
  i26 := by kernel_rfl }

end Go.Proofs

set_option linter.unusedSimpArgs false
set_option linter.unusedVariables false
set_option maxRecDepth 100000
set_option maxHeartbeats 4000000
namespace Go.Proofs.Ytcahlnddcjifdaa
open Go Go.Eng

/-- The document's lists: blocks by their numbers. -/
abbrev RE := List (Int × List Int)
def entC (e : Int × List Int) : List CV := .int .i64 e.1 :: u8l e.2
def rowC (l : RE) : List CV := l.flatMap entC
def L9 (l : RE) : Prop := ∀ e, e ∈ l → e.2.length = 128
theorem entC_len {e : Int × List Int} (h : e.2.length = 128) : (entC e).length = 129 := by simp [entC, u8l_len, h]
theorem entC_vals (e : Int × List Int) : (entC e).all CV.isVal = true := by simp only [entC, List.all_cons, CV.isVal, u8l_vals]; rfl
theorem entC_below (L : Nat) (e : Int × List Int) : (entC e).all (CV.below L) = true := by simp only [entC, List.all_cons, CV.below, u8l_below, Bool.and_self]
theorem rowC_snoc (l : RE) (e : Int × List Int) : rowC l ++ entC e = rowC (l ++ [e]) := by simp [rowC]
theorem rowC_len : ∀ {l : RE}, L9 l → (rowC l).length = l.length * 129
  | [], _ => rfl
  | e :: l, h => by
    have h1 := entC_len (h e List.mem_cons_self)
    have h2 := rowC_len (l := l) fun x hx => h x (List.mem_cons_of_mem _ hx)
    show (entC e ++ rowC l).length = _
    rw [List.length_append, h1, h2, List.length_cons]; omega
theorem rowC_below (L : Nat) : ∀ l : RE, (rowC l).all (CV.below L) = true
  | [] => rfl
  | e :: l => by
    show (entC e ++ rowC l).all _ = true
    rw [List.all_append, rowC_below L l]
    simp only [entC, List.all_cons, CV.below, u8l_below, Bool.and_self]
theorem rowC_drop : ∀ {l : RE} (i : Nat), L9 l → (rowC l).drop (i * 129) = rowC (l.drop i)
  | [], i, _ => by simp [rowC]
  | e :: l, 0, _ => by simp
  | e :: l, i + 1, h => by
    have h1 := entC_len (h e List.mem_cons_self)
    show (entC e ++ rowC l).drop _ = _
    rw [List.drop_append, List.drop_of_length_le (by omega), h1, show (i + 1) * 129 - 129 = i * 129 by omega, List.nil_append, rowC_drop i fun x hx => h x (List.mem_cons_of_mem _ hx)]
    rfl
theorem rowC_at {l : RE} (h : L9 l) {i : Nat} {e : Int × List Int} (hi : l[i]? = some e) : ((rowC l).drop (i * 129)).take 129 = entC e := by
  have hlt := (List.getElem?_eq_some_iff.1 hi).1
  have he := h e (List.mem_of_getElem? hi)
  have hg : l[i] = e := (List.getElem?_eq_some_iff.1 hi).2
  rw [rowC_drop i h, List.drop_eq_getElem_cons hlt, hg]
  show (entC e ++ rowC _).take 129 = _
  rw [List.take_left' (entC_len he)]
theorem rowC_key {l : RE} (h : L9 l) {i : Nat} {e : Int × List Int} (hi : l[i]? = some e) : (rowC l)[i * 129]? = some (.int .i64 e.1) := by
  have h1 := congrArg (fun c => c[0]?) (rowC_at h hi)
  simpa [entC, List.getElem?_take, List.getElem?_drop] using h1
theorem rowC_b {l : RE} (h : L9 l) {i : Nat} {e : Int × List Int} (hi : l[i]? = some e) : ((rowC l).drop (i * 129 + 1)).take 128 = u8l e.2 := by
  have h1 := congrArg (List.drop 1) (rowC_at h hi)
  rw [List.drop_take, List.drop_drop] at h1
  simpa [entC] using h1
/-- A block in a list, in the place that rising numbers give it. -/
def putR (x : Int × List Int) : Bool → RE → RE
  | false, [] => [x]
  | true, [] => []
  | false, e :: l => if x.1 ≤ e.1 then (if e.1 = x.1 then x :: putR x true l else x :: e :: putR x true l) else e :: putR x false l
  | true, e :: l => if e.1 = x.1 then putR x true l else e :: putR x true l
def lkR (k : Int) : RE → Option (List Int)
  | [] => none
  | e :: l => if e.1 = k then some e.2 else lkR k l
theorem lkR_c (k : Int) (e : Int × List Int) (l : RE) : lkR k (e :: l) = if e.1 = k then some e.2 else lkR k l := rfl
theorem lkR_true (k : Int) (x : Int × List Int) : ∀ l, lkR k (putR x true l) = if k = x.1 then none else lkR k l
  | [] => by simp [putR, lkR]
  | e :: l => by
    have ih := lkR_true k x l
    unfold putR
    by_cases h : e.1 = x.1
    · rw [if_pos h, ih, lkR_c]
      by_cases hk : k = x.1
      · rw [if_pos hk, if_pos hk]
      · rw [if_neg hk, if_neg hk, if_neg (fun h2 => hk (by rw [← h2, h]))]
    · rw [if_neg h, lkR_c, lkR_c, ih]
      by_cases hk : k = x.1
      · rw [if_pos hk, if_pos hk, if_neg (by rw [hk]; exact h)]
      · rw [if_neg hk, if_neg hk]
theorem lkR_put (k : Int) (x : Int × List Int) : ∀ l, lkR k (putR x false l) = if k = x.1 then some x.2 else lkR k l
  | [] => by
    by_cases hk : k = x.1
    · simp [putR, lkR, hk]
    · have hk2 : ¬ x.1 = k := fun h => hk h.symm
      simp [putR, lkR, hk, hk2]
  | e :: l => by
    have ih := lkR_put k x l
    have it := lkR_true k x l
    unfold putR
    by_cases h : x.1 ≤ e.1
    · rw [if_pos h]
      by_cases h2 : e.1 = x.1
      · rw [if_pos h2, lkR_c]
        by_cases hk : k = x.1
        · rw [if_pos hk, if_pos hk.symm]
        · rw [if_neg hk, if_neg (fun h => hk h.symm), it, if_neg hk, lkR_c, if_neg (fun h3 => hk (by rw [← h3, h2]))]
      · rw [if_neg h2, lkR_c]
        by_cases hk : k = x.1
        · rw [if_pos hk, if_pos hk.symm]
        · rw [if_neg hk, if_neg (fun h => hk h.symm), lkR_c, lkR_c, it, if_neg hk]
    · rw [if_neg h, lkR_c, ih, lkR_c]
      by_cases hk : k = x.1
      · rw [if_pos hk, if_neg (by omega), if_pos hk]
      · rw [if_neg hk, if_neg hk]
theorem putR_mem {x : Int × List Int} : ∀ {d : Bool} {l : RE} {e}, e ∈ putR x d l → e = x ∨ e ∈ l
  | false, [], e, h => .inl (List.mem_singleton.1 h)
  | true, [], e, h => by cases h
  | false, y :: l, e, h => by
    unfold putR at h
    split at h
    · split at h
      · rcases List.mem_cons.1 h with h | h
        · exact .inl h
        · exact (putR_mem h).imp id (List.mem_cons_of_mem _)
      · rcases List.mem_cons.1 h with h | h
        · exact .inl h
        · rcases List.mem_cons.1 h with h | h
          · exact .inr (h ▸ List.mem_cons_self)
          · exact (putR_mem h).imp id (List.mem_cons_of_mem _)
    · rcases List.mem_cons.1 h with h | h
      · exact .inr (h ▸ List.mem_cons_self)
      · exact (putR_mem h).imp id (List.mem_cons_of_mem _)
  | true, y :: l, e, h => by
    unfold putR at h
    split at h
    · exact (putR_mem h).imp id (List.mem_cons_of_mem _)
    · rcases List.mem_cons.1 h with h | h
      · exact .inr (h ▸ List.mem_cons_self)
      · exact (putR_mem h).imp id (List.mem_cons_of_mem _)
theorem putR_memt {x : Int × List Int} : ∀ {l : RE} {e}, e ∈ putR x true l → e ∈ l
  | [], e, h => by cases h
  | y :: l, e, h => by
    unfold putR at h
    split at h
    · exact List.mem_cons_of_mem _ (putR_memt h)
    · rcases List.mem_cons.1 h with h | h
      · exact h ▸ List.mem_cons_self
      · exact List.mem_cons_of_mem _ (putR_memt h)
def Srt (l : RE) : Prop := l.Pairwise fun a b => a.1 < b.1
theorem srt_true {x : Int × List Int} : ∀ {l : RE}, Srt l → Srt (putR x true l)
  | [], h => h
  | e :: l, h => by
    obtain ⟨h1, h2⟩ := List.pairwise_cons.1 h
    unfold putR
    split
    · exact srt_true h2
    · exact List.pairwise_cons.2 ⟨fun y hy => h1 y (putR_memt hy), srt_true h2⟩
theorem srt_put {x : Int × List Int} : ∀ {l : RE}, Srt l → Srt (putR x false l)
  | [], _ => List.pairwise_singleton _ _
  | e :: l, h => by
    obtain ⟨h1, h2⟩ := List.pairwise_cons.1 h
    unfold putR
    split
    · rename_i hx
      split
      · rename_i he
        exact List.pairwise_cons.2 ⟨fun y hy => by have := h1 y (putR_memt hy); omega, srt_true h2⟩
      · rename_i he
        have hlt : x.1 < e.1 := by omega
        refine List.pairwise_cons.2 ⟨fun y hy => ?_, List.pairwise_cons.2 ⟨fun y hy => h1 y (putR_memt hy), srt_true h2⟩⟩
        rcases List.mem_cons.1 hy with rfl | hy
        · exact hlt
        · have := h1 y (putR_memt hy); omega
    · rename_i hx
      refine List.pairwise_cons.2 ⟨fun y hy => ?_, srt_put h2⟩
      rcases putR_mem hy with rfl | hy
      · omega
      · exact h1 y hy
theorem srt_len : ∀ {l : RE} {a b : Int}, Srt l → (∀ e, e ∈ l → a ≤ e.1 ∧ e.1 < b) → l.length ≤ (b - a).toNat
  | [], _, _, _, _ => Nat.zero_le _
  | e :: l, a, b, h, hb => by
    obtain ⟨h1, h2⟩ := List.pairwise_cons.1 h
    have he := hb e List.mem_cons_self
    have ih := srt_len (l := l) (a := a + 1) (b := b) h2 fun x hx => by
      have := h1 x hx
      have := hb x (List.mem_cons_of_mem _ hx)
      omega
    rw [List.length_cons]; omega
/-- A list of a device of so many blocks. -/
structure WfR (n : Nat) (l : RE) : Prop where
  srt : Srt l
  key : ∀ e, e ∈ l → 0 ≤ e.1 ∧ e.1 < (n : Int)
  len : L9 l
theorem WfR.nil (n : Nat) : WfR n [] := ⟨List.Pairwise.nil, fun e h => (by cases h), fun e h => (by cases h)⟩
theorem WfR.put {n : Nat} {l : RE} (h : WfR n l) {x : Int × List Int} (hk : 0 ≤ x.1 ∧ x.1 < (n : Int)) (hx : x.2.length = 128) : WfR n (putR x false l) :=
  ⟨srt_put h.srt, fun e he => (putR_mem he).elim (fun h => h ▸ hk) (h.key e), fun e he => (putR_mem he).elim (fun h => h ▸ hx) (h.len e)⟩
theorem WfR.size {n : Nat} {l : RE} (h : WfR n l) : l.length ≤ n := by
  have := srt_len (a := 0) (b := (n : Int)) h.srt h.key
  omega
theorem putR_len {x : Int × List Int} : ∀ {d : Bool} {l : RE}, (putR x d l).length ≤ l.length + 1
  | false, [] => by simp [putR]
  | true, [] => by simp [putR]
  | false, e :: l => by
    have h1 := putR_len (x := x) (d := false) (l := l)
    have h2 : (putR x true l).length ≤ l.length := by
      have : ∀ l : RE, (putR x true l).length ≤ l.length := by
        intro l
        induction l with
        | nil => simp [putR]
        | cons e l ih => unfold putR; split <;> simp only [List.length_cons] <;> omega
      exact this l
    unfold putR
    split
    · split <;> simp only [List.length_cons] <;> omega
    · simp only [List.length_cons]; omega
  | true, e :: l => by
    have h2 := putR_len (x := x) (d := true) (l := l)
    unfold putR
    split <;> simp only [List.length_cons] <;> omega
end Go.Proofs.Ytcahlnddcjifdaa
