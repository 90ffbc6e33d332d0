/- Walks and facts of this seat's program over abstract states, printed by programs of mine; no conditions but those that each theorem names. -/
import Derived.Test.YtcahlnddcjifdaaM5
set_option linter.unusedSimpArgs false
set_option linter.unusedVariables false
set_option maxRecDepth 100000
set_option maxHeartbeats 4000000
namespace Go.Proofs.Ytcahlnddcjifdaa
open Go Go.Eng

theorem sortsA (k : Nat) : AnyZI.SortsIn Try.prog Try.sortedA_ren Fence.wide k :=
  ⟨fun blk off cap ss W hH hblk hsz => callsIn_wide.2 (Go.Proofs.Try.slices_Sort_int blk off cap ss W hH hblk hsz),
   fun p cap W => callsIn_wide.2 (Go.Proofs.Try.slices_Sort_int_none p cap W)⟩
theorem sortedKeys_dr : SortedKeys Try.prog 28 34 3 3 := fun Bm b nn D0 w hBm hm hown hmax hbytes =>
  (callsIn_wide (n := 5)).1 ((AnyZI.sorted_in Try.sortedA Fence.wide 5 trivial trivial trivial trivial rfl (by omega) (sortsA _) (enters_of Try.func33 (by kernel_rfl) rfl) 34 #[.pointer (some ⟨Bm, 0, none⟩)] trivial (enters_of Try.func34 (by kernel_rfl) rfl) _ _ hmax hbytes w
    (AnyZI.keys_gives (ρ := Try.keysA_ren) { Try.keysA with } Fence.wide _ trivial rfl (by omega) Bm b nn D0 w hBm hm hown)).mono fun e w' ⟨v, ss, h1, h2, h3, _, h5⟩ => ⟨v, ss, h1, h2, h3, h5⟩)
theorem sortedk_c (rb rm n : Nat) (D : DS) (m : AMem) (hb : m[rb]? = some ⟨.fix, 55, 0, 0, [.mp rm 0]⟩) (hm : m[rm]? = some (mapD D)) (hw : WfD n D) (hn : n ≤ 8192) (hl : D.E.length ≤ 8192) :
    Ctr Try.prog 28 [.one (.fn 34 [(rb, 0, 0)])] m (.one (.sl m.length 0 0 D.E.length)) (m ++ [⟨.grow, 3, 0, 1, (srt (D.E.map (·.2.1))).map (CV.int .i64)⟩]) := by
  refine Ctr.sortedKeys ⟨_, Try.func28, by decide, rfl⟩ sortedKeys_dr Try.underlying3 hb (es := eL D.E) (va := true) (clock := D.ck) ?_ (D.E.map (·.2.1)) ?_ ?_ hw.e.keys ?_ ?_ (by simpa using (by omega : D.E.length ≤ 17592186044416)) D.E.length (by simp)
  · simp [mapAt, hm, mapD]
  · simp [eL, eC]
  · intro k hk
    obtain ⟨e, he, rfl⟩ := List.mem_map.1 hk
    have := hw.e.key e he
    omega
  · intro e he
    obtain ⟨x, hx, rfl⟩ := List.mem_map.1 he
    exact hw.e.old x hx
  · have : (eL D.E).map (·.1) = D.E.map (·.1) := by simp [eL, eC]
    rw [this]; exact hw.e.borns
theorem keys_c (rm : Nat) (m : AMem) : Ctr Try.prog 29 [.one (.mp rm 0)] m (.one (.fn 34 [(m.length, 0, 0)])) (m ++ [⟨.fix, 55, 0, 0, [.mp rm 0]⟩]) := by
  refine Ctr.enter Try.func29 rfl (by decide) (rs := [.tmp 2]) (nt := 4) rfl rfl fun hwf Q hQ => ?_
  iterate 2
    refine AW.seq_k fun K hK => ?_
    refine AW.region (by decide) ?_
    simp only [push_cast, Nat.reduceAdd, Nat.reduceMul, Nat.reduceSub, Nat.reduceLeDiff, Nat.reduceLT, Nat.reduceEqDiff, Nat.reduceBEq, Nat.reduceBNe, Nat.reduceMod, Nat.reduceDiv, Int.reduceLE, Int.reduceLT, Int.reduceToNat, Int.reduceAdd, Int.reduceSub, Int.reduceMul, Int.reduceNeg, Int.reduceEq, Int.reduceBEq, Int.reduceBNe, ↓reduceIte, reduceCtorEq, String.reduceBNe, String.reduceEq, reduceDIte, Nat.reducePow]
    refine Thn_n ?_
    refine hK _ _ ?_
    clear hK K
  refine AW.ret ?_
  refine hQ _ _ _ ?_
  refine ⟨Or.inr rfl, _, ?_, Hands.all⟩
  simp only [resA, resOne, resTv, AV.tv, push_cast, Nat.reduceAdd, Nat.reduceMul, Nat.reduceSub, Nat.reduceLeDiff, Nat.reduceLT, Nat.reduceEqDiff, Nat.reduceBEq, Nat.reduceBNe, Nat.reduceMod, Nat.reduceDiv, Int.reduceLE, Int.reduceLT, Int.reduceToNat, Int.reduceAdd, Int.reduceSub, Int.reduceMul, Int.reduceNeg, Int.reduceEq, Int.reduceBEq, Int.reduceBNe, ↓reduceIte, reduceCtorEq, String.reduceBNe, String.reduceEq, reduceDIte, Nat.reducePow]
theorem loose_c (rd rs rm n : Nat) (D : DS) (m : AMem) (h : HasD m rd rs rm n D) (hw : WfD n D) (hn : n ≤ 8192) (hl : D.E.length ≤ 8192) : Ctr Try.prog 18 [.one (.ptr rd 0 0)] m (.one (.sl m.length 0 0 D.E.length)) (m ++ [⟨.grow, 3, 0, 1, (srt (D.E.map (·.2.1))).map (CV.int .i64)⟩]) := by
  refine Ctr.enter Try.func18 rfl (by decide) (rs := [.tmp 2]) (nt := 11) rfl rfl fun hwf Q hQ => ?_
  have hrd := h.d
  have hrs := h.r
  have hrm := h.m
  have ld := get_lt hrd
  have lr := get_lt hrs
  have lm := get_lt hrm
  have ndr : rd ≠ rs := h.dr
  have ndm : rd ≠ rm := h.dm
  have nrm : rs ≠ rm := h.rm
  have nrd := ndr.symm
  have nmd := ndm.symm
  have nmr := nrm.symm
  have oD := fun (L : AMem) => mk_olds (m := m) (l := m) rfl ld L
  have oR := fun (L : AMem) => mk_olds (m := m) (l := m) rfl lr L
  have oM := fun (L : AMem) => mk_olds (m := m) (l := m) rfl lm L
  have pD := fun (l L : AMem) (e : l.length = m.length) => mk_olds (m := m) (l := l) (r := rd) e ld L
  have pR := fun (l L : AMem) (e : l.length = m.length) => mk_olds (m := m) (l := l) (r := rs) e lr L
  have pM := fun (l L : AMem) (e : l.length = m.length) => mk_olds (m := m) (l := l) (r := rm) e lm L
  have gD := fun (l L : AMem) (e : l.length = m.length) => mk_old (m := m) (l := l) (r := rd) e ld L
  have gR := fun (l L : AMem) (e : l.length = m.length) => mk_old (m := m) (l := l) (r := rs) e lr L
  have gM := fun (l L : AMem) (e : l.length = m.length) => mk_old (m := m) (l := l) (r := rm) e lm L
  have sD := fun (l : AMem) (b : Blk) (e : l.length = m.length) => mk_self (m := m) (l := l) (r := rd) e ld b
  have sR := fun (l : AMem) (b : Blk) (e : l.length = m.length) => mk_self (m := m) (l := l) (r := rs) e lr b
  have sM := fun (l : AMem) (b : Blk) (e : l.length = m.length) => mk_self (m := m) (l := l) (r := rm) e lm b
  have aA := fun (l L : AMem) (e : l.length = m.length) => mk_lk0 (m := m) (l := l) e L
  have aK := fun (l L : AMem) (k : Nat) (e : l.length = m.length) => mk_lk (m := m) (l := l) e L k
  have aT := fun (l L : AMem) (k : Nat) (b : Blk) (e : l.length = m.length) => mk_set (m := m) (l := l) e L k b
  have aS := fun (l L : AMem) (b : Blk) (e : l.length = m.length) => mk_set0 (m := m) (l := l) e L b
  have hlt0 : ∀ k, ¬ m.length + k < m.length := fun k => by omega
  refine AW.seq_k fun K hK => ?_
  refine AW.region (by decide) ?_
  simp only [push_cast, Nat.reduceAdd, Nat.reduceMul, Nat.reduceSub, Nat.reduceLeDiff, Nat.reduceLT, Nat.reduceEqDiff, Nat.reduceBEq, Nat.reduceBNe, Nat.reduceMod, Nat.reduceDiv, Int.reduceLE, Int.reduceLT, Int.reduceToNat, Int.reduceAdd, Int.reduceSub, Int.reduceMul, Int.reduceNeg, Int.reduceEq, Int.reduceBEq, Int.reduceBNe, ↓reduceIte, reduceCtorEq, String.reduceBNe, String.reduceEq, reduceDIte, Nat.reducePow, hrd, hrs, hrm, pD, pR, pM, gD, gR, gM, sD, sR, sM, aA, aS, aK, aT, List.set_set, List.length_set, List.getElem?_set_ne ndr, List.getElem?_set_ne ndm, List.getElem?_set_ne nrm, List.getElem?_set_ne nrd, List.getElem?_set_ne nmd, List.getElem?_set_ne nmr, drB, rowD, mapD]
  refine Thn_n ?_
  refine hK _ _ ?_
  clear hK K
  refine AW.seq_k fun K hK => ?_
  refine AW.seq_k fun K hK => ?_
  refine AW.region (by decide) ?_
  simp only [push_cast, Nat.reduceAdd, Nat.reduceMul, Nat.reduceSub, Nat.reduceLeDiff, Nat.reduceLT, Nat.reduceEqDiff, Nat.reduceBEq, Nat.reduceBNe, Nat.reduceMod, Nat.reduceDiv, Int.reduceLE, Int.reduceLT, Int.reduceToNat, Int.reduceAdd, Int.reduceSub, Int.reduceMul, Int.reduceNeg, Int.reduceEq, Int.reduceBEq, Int.reduceBNe, ↓reduceIte, reduceCtorEq, String.reduceBNe, String.reduceEq, reduceDIte, Nat.reducePow, hrd, hrs, hrm, pD, pR, pM, gD, gR, gM, sD, sR, sM, aA, aS, aK, aT, List.set_set, List.length_set, List.getElem?_set_ne ndr, List.getElem?_set_ne ndm, List.getElem?_set_ne nrm, List.getElem?_set_ne nrd, List.getElem?_set_ne nmd, List.getElem?_set_ne nmr, drB, rowD, mapD]
  refine Thn_n ?_
  refine hK _ _ ?_
  clear hK K
  refine AW.cond_f rfl ?_
  refine AW.skip ?_
  refine Thn_n ?_
  refine hK _ _ ?_
  clear hK K
  refine AW.seq_k fun K hK => ?_
  refine AW.region (by decide) ?_
  simp only [push_cast, Nat.reduceAdd, Nat.reduceMul, Nat.reduceSub, Nat.reduceLeDiff, Nat.reduceLT, Nat.reduceEqDiff, Nat.reduceBEq, Nat.reduceBNe, Nat.reduceMod, Nat.reduceDiv, Int.reduceLE, Int.reduceLT, Int.reduceToNat, Int.reduceAdd, Int.reduceSub, Int.reduceMul, Int.reduceNeg, Int.reduceEq, Int.reduceBEq, Int.reduceBNe, ↓reduceIte, reduceCtorEq, String.reduceBNe, String.reduceEq, reduceDIte, Nat.reducePow, hrd, hrs, hrm, pD, pR, pM, gD, gR, gM, sD, sR, sM, aA, aS, aK, aT, List.set_set, List.length_set, List.getElem?_set_ne ndr, List.getElem?_set_ne ndm, List.getElem?_set_ne nrm, List.getElem?_set_ne nrd, List.getElem?_set_ne nmd, List.getElem?_set_ne nmr, drB, rowD, mapD]
  refine CThen.by (keys_c rm _) ?_
  simp only [push_cast, Nat.reduceAdd, Nat.reduceMul, Nat.reduceSub, Nat.reduceLeDiff, Nat.reduceLT, Nat.reduceEqDiff, Nat.reduceBEq, Nat.reduceBNe, Nat.reduceMod, Nat.reduceDiv, Int.reduceLE, Int.reduceLT, Int.reduceToNat, Int.reduceAdd, Int.reduceSub, Int.reduceMul, Int.reduceNeg, Int.reduceEq, Int.reduceBEq, Int.reduceBNe, ↓reduceIte, reduceCtorEq, String.reduceBNe, String.reduceEq, reduceDIte, Nat.reducePow, hrd, hrs, hrm, pD, pR, pM, gD, gR, gM, sD, sR, sM, aA, aS, aK, aT, List.set_set, List.length_set, List.getElem?_set_ne ndr, List.getElem?_set_ne ndm, List.getElem?_set_ne nrm, List.getElem?_set_ne nrd, List.getElem?_set_ne nmd, List.getElem?_set_ne nmr, drB, rowD, mapD]
  refine CThen.by (sortedk_c m.length rm n D _ (by simp only [push_cast, Nat.reduceAdd, Nat.reduceMul, Nat.reduceSub, Nat.reduceLeDiff, Nat.reduceLT, Nat.reduceEqDiff, Nat.reduceBEq, Nat.reduceBNe, Nat.reduceMod, Nat.reduceDiv, Int.reduceLE, Int.reduceLT, Int.reduceToNat, Int.reduceAdd, Int.reduceSub, Int.reduceMul, Int.reduceNeg, Int.reduceEq, Int.reduceBEq, Int.reduceBNe, ↓reduceIte, reduceCtorEq, String.reduceBNe, String.reduceEq, reduceDIte, Nat.reducePow, hrd, hrs, hrm, pD, pR, pM, gD, gR, gM, sD, sR, sM, aA, aS, aK, aT, List.set_set, List.length_set, List.getElem?_set_ne ndr, List.getElem?_set_ne ndm, List.getElem?_set_ne nrm, List.getElem?_set_ne nrd, List.getElem?_set_ne nmd, List.getElem?_set_ne nmr, drB, rowD, mapD]) (lk_old h.m _) hw hn hl) ?_
  simp only [push_cast, Nat.reduceAdd, Nat.reduceMul, Nat.reduceSub, Nat.reduceLeDiff, Nat.reduceLT, Nat.reduceEqDiff, Nat.reduceBEq, Nat.reduceBNe, Nat.reduceMod, Nat.reduceDiv, Int.reduceLE, Int.reduceLT, Int.reduceToNat, Int.reduceAdd, Int.reduceSub, Int.reduceMul, Int.reduceNeg, Int.reduceEq, Int.reduceBEq, Int.reduceBNe, ↓reduceIte, reduceCtorEq, String.reduceBNe, String.reduceEq, reduceDIte, Nat.reducePow, hrd, hrs, hrm, pD, pR, pM, gD, gR, gM, sD, sR, sM, aA, aS, aK, aT, List.set_set, List.length_set, List.getElem?_set_ne ndr, List.getElem?_set_ne ndm, List.getElem?_set_ne nrm, List.getElem?_set_ne nrd, List.getElem?_set_ne nmd, List.getElem?_set_ne nmr, drB, rowD, mapD]
  refine Thn_n ?_
  refine hK _ _ ?_
  clear hK K
  refine AW.ret ?_
  refine hQ _ _ _ ?_
  refine RetP.pick [(m.length + 1, 0)] (Or.inr rfl) ?_ ?_ ?_ hwf ?_
  · simp only [resA, resOne, resTv, AV.tv, push_cast, Nat.reduceAdd, Nat.reduceMul, Nat.reduceSub, Nat.reduceLeDiff, Nat.reduceLT, Nat.reduceEqDiff, Nat.reduceBEq, Nat.reduceBNe, Nat.reduceMod, Nat.reduceDiv, Int.reduceLE, Int.reduceLT, Int.reduceToNat, Int.reduceAdd, Int.reduceSub, Int.reduceMul, Int.reduceNeg, Int.reduceEq, Int.reduceBEq, Int.reduceBNe, ↓reduceIte, reduceCtorEq, String.reduceBNe, String.reduceEq, reduceDIte, Nat.reducePow]
    simp [renV, renT, renL, renC, renIdx, hlt0]
  · simp only [picks, push_cast, Nat.reduceAdd, Nat.reduceMul, Nat.reduceSub, Nat.reduceLeDiff, Nat.reduceLT, Nat.reduceEqDiff, Nat.reduceBEq, Nat.reduceBNe, Nat.reduceMod, Nat.reduceDiv, Int.reduceLE, Int.reduceLT, Int.reduceToNat, Int.reduceAdd, Int.reduceSub, Int.reduceMul, Int.reduceNeg, Int.reduceEq, Int.reduceBEq, Int.reduceBNe, ↓reduceIte, reduceCtorEq, String.reduceBNe, String.reduceEq, reduceDIte, Nat.reducePow]
  · simp [distinctFrom]
  · exact MWf_one (by simp [List.all_map, CV.below, Function.comp_def])
  
theorem blocks_c (rd rs rm n : Nat) (D : DS) (m : AMem) (hrd : m[rd]? = some (drB rs rm n D)) : Ctr Try.prog 17 [.one (.ptr rd 0 0)] m (.one (.int .i64 (n : Int))) m := by
  refine Ctr.enter Try.func17 rfl (by decide) (rs := [.tmp 2]) (nt := 10) rfl rfl fun hwf Q hQ => ?_
  refine AW.seq_k fun K hK => ?_
  refine AW.region (by decide) ?_
  simp only [push_cast, Nat.reduceAdd, Nat.reduceMul, Nat.reduceSub, Nat.reduceLeDiff, Nat.reduceLT, Nat.reduceEqDiff, Nat.reduceBEq, Nat.reduceBNe, Nat.reduceMod, Nat.reduceDiv, Int.reduceLE, Int.reduceLT, Int.reduceToNat, Int.reduceAdd, Int.reduceSub, Int.reduceMul, Int.reduceNeg, Int.reduceEq, Int.reduceBEq, Int.reduceBNe, ↓reduceIte, reduceCtorEq, String.reduceBNe, String.reduceEq, reduceDIte, Nat.reducePow, hrd, drB]
  refine Thn_n ?_
  refine hK _ _ ?_
  clear hK K
  refine AW.seq_k fun K hK => ?_
  refine AW.seq_k fun K hK => ?_
  refine AW.region (by decide) ?_
  simp only [push_cast, Nat.reduceAdd, Nat.reduceMul, Nat.reduceSub, Nat.reduceLeDiff, Nat.reduceLT, Nat.reduceEqDiff, Nat.reduceBEq, Nat.reduceBNe, Nat.reduceMod, Nat.reduceDiv, Int.reduceLE, Int.reduceLT, Int.reduceToNat, Int.reduceAdd, Int.reduceSub, Int.reduceMul, Int.reduceNeg, Int.reduceEq, Int.reduceBEq, Int.reduceBNe, ↓reduceIte, reduceCtorEq, String.reduceBNe, String.reduceEq, reduceDIte, Nat.reducePow, hrd, drB]
  refine Thn_n ?_
  refine hK _ _ ?_
  clear hK K
  refine AW.cond_f rfl ?_
  refine AW.skip ?_
  refine Thn_n ?_
  refine hK _ _ ?_
  clear hK K
  refine AW.seq_k fun K hK => ?_
  refine AW.region (by decide) ?_
  simp only [push_cast, Nat.reduceAdd, Nat.reduceMul, Nat.reduceSub, Nat.reduceLeDiff, Nat.reduceLT, Nat.reduceEqDiff, Nat.reduceBEq, Nat.reduceBNe, Nat.reduceMod, Nat.reduceDiv, Int.reduceLE, Int.reduceLT, Int.reduceToNat, Int.reduceAdd, Int.reduceSub, Int.reduceMul, Int.reduceNeg, Int.reduceEq, Int.reduceBEq, Int.reduceBNe, ↓reduceIte, reduceCtorEq, String.reduceBNe, String.reduceEq, reduceDIte, Nat.reducePow, hrd, drB]
  refine Thn_n ?_
  refine hK _ _ ?_
  clear hK K
  refine AW.ret ?_
  refine hQ _ _ _ ?_
  first | refine RetP.drop0 (Or.inr rfl) ?_ ?_ hwf | refine RetP.drop (Or.inr rfl) ?_ ?_ hwf
  · simp only [resA, resOne, resTv, AV.tv, push_cast, Nat.reduceAdd, Nat.reduceMul, Nat.reduceSub, Nat.reduceLeDiff, Nat.reduceLT, Nat.reduceEqDiff, Nat.reduceBEq, Nat.reduceBNe, Nat.reduceMod, Nat.reduceDiv, Int.reduceLE, Int.reduceLT, Int.reduceToNat, Int.reduceAdd, Int.reduceSub, Int.reduceMul, Int.reduceNeg, Int.reduceEq, Int.reduceBEq, Int.reduceBNe, ↓reduceIte, reduceCtorEq, String.reduceBNe, String.reduceEq, reduceDIte, Nat.reducePow, hrd, drB]
  · rfl
theorem steps_c (rd rs rm n : Nat) (D : DS) (m : AMem) (hrd : m[rd]? = some (drB rs rm n D)) : Ctr Try.prog 19 [.one (.ptr rd 0 0)] m (.one (.int .i64 D.steps)) m := by
  refine Ctr.enter Try.func19 rfl (by decide) (rs := [.tmp 2]) (nt := 10) rfl rfl fun hwf Q hQ => ?_
  refine AW.seq_k fun K hK => ?_
  refine AW.region (by decide) ?_
  simp only [push_cast, Nat.reduceAdd, Nat.reduceMul, Nat.reduceSub, Nat.reduceLeDiff, Nat.reduceLT, Nat.reduceEqDiff, Nat.reduceBEq, Nat.reduceBNe, Nat.reduceMod, Nat.reduceDiv, Int.reduceLE, Int.reduceLT, Int.reduceToNat, Int.reduceAdd, Int.reduceSub, Int.reduceMul, Int.reduceNeg, Int.reduceEq, Int.reduceBEq, Int.reduceBNe, ↓reduceIte, reduceCtorEq, String.reduceBNe, String.reduceEq, reduceDIte, Nat.reducePow, hrd, drB]
  refine Thn_n ?_
  refine hK _ _ ?_
  clear hK K
  refine AW.seq_k fun K hK => ?_
  refine AW.seq_k fun K hK => ?_
  refine AW.region (by decide) ?_
  simp only [push_cast, Nat.reduceAdd, Nat.reduceMul, Nat.reduceSub, Nat.reduceLeDiff, Nat.reduceLT, Nat.reduceEqDiff, Nat.reduceBEq, Nat.reduceBNe, Nat.reduceMod, Nat.reduceDiv, Int.reduceLE, Int.reduceLT, Int.reduceToNat, Int.reduceAdd, Int.reduceSub, Int.reduceMul, Int.reduceNeg, Int.reduceEq, Int.reduceBEq, Int.reduceBNe, ↓reduceIte, reduceCtorEq, String.reduceBNe, String.reduceEq, reduceDIte, Nat.reducePow, hrd, drB]
  refine Thn_n ?_
  refine hK _ _ ?_
  clear hK K
  refine AW.cond_f rfl ?_
  refine AW.skip ?_
  refine Thn_n ?_
  refine hK _ _ ?_
  clear hK K
  refine AW.seq_k fun K hK => ?_
  refine AW.region (by decide) ?_
  simp only [push_cast, Nat.reduceAdd, Nat.reduceMul, Nat.reduceSub, Nat.reduceLeDiff, Nat.reduceLT, Nat.reduceEqDiff, Nat.reduceBEq, Nat.reduceBNe, Nat.reduceMod, Nat.reduceDiv, Int.reduceLE, Int.reduceLT, Int.reduceToNat, Int.reduceAdd, Int.reduceSub, Int.reduceMul, Int.reduceNeg, Int.reduceEq, Int.reduceBEq, Int.reduceBNe, ↓reduceIte, reduceCtorEq, String.reduceBNe, String.reduceEq, reduceDIte, Nat.reducePow, hrd, drB]
  refine Thn_n ?_
  refine hK _ _ ?_
  clear hK K
  refine AW.ret ?_
  refine hQ _ _ _ ?_
  first | refine RetP.drop0 (Or.inr rfl) ?_ ?_ hwf | refine RetP.drop (Or.inr rfl) ?_ ?_ hwf
  · simp only [resA, resOne, resTv, AV.tv, push_cast, Nat.reduceAdd, Nat.reduceMul, Nat.reduceSub, Nat.reduceLeDiff, Nat.reduceLT, Nat.reduceEqDiff, Nat.reduceBEq, Nat.reduceBNe, Nat.reduceMod, Nat.reduceDiv, Int.reduceLE, Int.reduceLT, Int.reduceToNat, Int.reduceAdd, Int.reduceSub, Int.reduceMul, Int.reduceNeg, Int.reduceEq, Int.reduceBEq, Int.reduceBNe, ↓reduceIte, reduceCtorEq, String.reduceBNe, String.reduceEq, reduceDIte, Nat.reducePow, hrd, drB]
  · rfl
theorem down_c (rd rs rm n : Nat) (D : DS) (m : AMem) (hrd : m[rd]? = some (drB rs rm n D)) : Ctr Try.prog 20 [.one (.ptr rd 0 0)] m (.one (.bool D.down)) m := by
  refine Ctr.enter Try.func20 rfl (by decide) (rs := [.tmp 2]) (nt := 12) rfl rfl fun hwf Q hQ => ?_
  iterate 2
    refine AW.seq_k fun K hK => ?_
    refine AW.region (by decide) ?_
    simp only [push_cast, Nat.reduceAdd, Nat.reduceMul, Nat.reduceSub, Nat.reduceLeDiff, Nat.reduceLT, Nat.reduceEqDiff, Nat.reduceBEq, Nat.reduceBNe, Nat.reduceMod, Nat.reduceDiv, Int.reduceLE, Int.reduceLT, Int.reduceToNat, Int.reduceAdd, Int.reduceSub, Int.reduceMul, Int.reduceNeg, Int.reduceEq, Int.reduceBEq, Int.reduceBNe, ↓reduceIte, reduceCtorEq, String.reduceBNe, String.reduceEq, reduceDIte, Nat.reducePow, hrd, drB]
    refine Thn_n ?_
    refine hK _ _ ?_
    clear hK K
  refine AW.ret ?_
  refine hQ _ _ _ ?_
  first | refine RetP.drop0 (Or.inr rfl) ?_ ?_ hwf | refine RetP.drop (Or.inr rfl) ?_ ?_ hwf
  · simp only [resA, resOne, resTv, AV.tv, push_cast, Nat.reduceAdd, Nat.reduceMul, Nat.reduceSub, Nat.reduceLeDiff, Nat.reduceLT, Nat.reduceEqDiff, Nat.reduceBEq, Nat.reduceBNe, Nat.reduceMod, Nat.reduceDiv, Int.reduceLE, Int.reduceLT, Int.reduceToNat, Int.reduceAdd, Int.reduceSub, Int.reduceMul, Int.reduceNeg, Int.reduceEq, Int.reduceBEq, Int.reduceBNe, ↓reduceIte, reduceCtorEq, String.reduceBNe, String.reduceEq, reduceDIte, Nat.reducePow, hrd, drB]
  · rfl
theorem hasR_cat {n : Nat} {R : RS} {m T : AMem} {a b c : Blk} : HasR (m ++ (a :: b :: c :: refB (m.length + 4) (m.length + 5) n R :: rowR R.vs R.su :: rowR R.vl R.lo :: T)) (m.length + 3) (m.length + 4) (m.length + 5) n R :=
  ⟨by rw [lk_app]; rfl, by rw [lk_app]; rfl, by rw [lk_app]; rfl, by omega, by omega, by omega⟩
theorem cat7 (m T X : AMem) (a b c d e f : Blk) : m ++ (a :: b :: c :: d :: e :: f :: (T ++ X)) = (m ++ (a :: b :: c :: d :: e :: f :: T)) ++ X := by simp
theorem setR_cat {n : Nat} {R' : RS} {m T : AMem} {a b c x y z : Blk} : setR (m ++ (a :: b :: c :: x :: y :: z :: T)) (m.length + 3) (m.length + 4) (m.length + 5) n R' = m ++ (a :: b :: c :: refB (m.length + 4) (m.length + 5) n R' :: rowR R'.vs R'.su :: rowR R'.vl R'.lo :: T) := by
  unfold setR
  rw [set_app, set_app, set_app]; rfl
theorem six_wf {m T : AMem} {L n : Nat} {D D' : DS} {R R' : RS} (hL : m.length + 6 ≤ L) (h : MWf L (m ++ (rowD n (D) :: mapD (D) :: drB m.length (m.length + 1) n (D) :: refB (m.length + 4) (m.length + 5) n (R) :: rowR (R).vs (R).su :: rowR (R).vl (R).lo :: T))) : MWf L (m ++ (rowD n (D') :: mapD (D') :: drB m.length (m.length + 1) n (D') :: refB (m.length + 4) (m.length + 5) n (R') :: rowR (R').vs (R').su :: rowR (R').vl (R').lo :: T)) := by
  have h1 := setD_wf (rd := m.length + 2) (rs := m.length) (rm := m.length + 1) (n := n) h (by omega) (by omega) D'
  rw [setD_cat] at h1
  have h2 := setR_wf (rd := m.length + 3) (rs := m.length + 4) (rl := m.length + 5) (n := n) h1 (by omega) (by omega) R'
  rw [setR_cat] at h2
  exact h2
theorem does_w_down (n : Nat) (D : DS) (R : RS) (kd ax nx : Int) (b : List Int) (rk kn : Nat) (ks : Nat → Int) (m T : AMem) (hrel : Rel n D R) (hn : n ≤ 8192) (hb : b.length = 128) (hkr : m[rk]? = some ⟨.ro, 3, 0, 1, il kn ks⟩) (hkn : kn ≤ 60) (hk : kd = 0) (hd : D.down = true) : Ctr Try.prog 14 [.one (.ptr (m.length + 2) 0 0), .one (.ptr (m.length + 3) 0 0), .agg (opC kd ax nx b rk kn)] (m ++ (rowD n (D) :: mapD (D) :: drB m.length (m.length + 1) n (D) :: refB (m.length + 4) (m.length + 5) n (R) :: rowR (R).vs (R).su :: rowR (R).vl (R).lo :: T)) (.one (.bool true)) (m ++ (rowD n (D) :: mapD (D) :: drB m.length (m.length + 1) n (D) :: refB (m.length + 4) (m.length + 5) n (R) :: rowR (R).vs (R).su :: rowR (R).vl (R).lo :: T)) := by
  refine Ctr.enter Try.func14 rfl (by decide) (rs := [.tmp 6]) (nt := 64) rfl rfl fun hwf Q hQ => ?_
  have hov := opC_vals kd ax nx b rk kn
  have hol := opC_len (kd := kd) (ax := ax) (nx := nx) (rk := rk) (kn := kn) hb
  have hot : (opC kd ax nx b rk kn).take 132 = opC kd ax nx b rk kn := List.take_of_length_le (by omega)
  have o0 : (opC kd ax nx b rk kn)[0]? = some (.int .i64 kd) := rfl
  have o1 : (opC kd ax nx b rk kn)[1]? = some (.int .i64 ax) := rfl
  have o2 : (opC kd ax nx b rk kn)[2]? = some (.int .i64 nx) := rfl
  have o3 := opC_b (kd := kd) (ax := ax) (nx := nx) (rk := rk) (kn := kn) hb
  have o4 := opC_k (kd := kd) (ax := ax) (nx := nx) (rk := rk) (kn := kn) hb
  have hbl := u8l_len b
  rw [hb] at hbl
  have hbv := u8l_vals b
  have hbt : (u8l b).take 128 = u8l b := List.take_of_length_le (by omega)
  have lrk := get_lt hkr
  have k0 : (kd == 0) = true := by rw [hk]; rfl
  have k1 : (kd == 1) = false := by rw [hk]; rfl
  have k2 : (kd == 2) = false := by rw [hk]; rfl
  have k3 : (kd == 3) = false := by rw [hk]; rfl
  have hw2 : MWf (m ++ (rowD n (D) :: mapD (D) :: drB m.length (m.length + 1) n (D) :: refB (m.length + 4) (m.length + 5) n (R) :: rowR (R).vs (R).su :: rowR (R).vl (R).lo :: T)).length (m ++ (rowD n (D) :: mapD (D) :: drB m.length (m.length + 1) n (D) :: refB (m.length + 4) (m.length + 5) n (R) :: rowR (R).vs (R).su :: rowR (R).vl (R).lo :: T)) := six_wf (by simp) hwf
  refine AW.seq_k fun K hK => ?_
  refine AW.region (by decide) ?_
  simp only [push_cast, Nat.reduceAdd, Nat.reduceMul, Nat.reduceSub, Nat.reduceLeDiff, Nat.reduceLT, Nat.reduceEqDiff, Nat.reduceBEq, Nat.reduceBNe, Nat.reduceMod, Nat.reduceDiv, Int.reduceLE, Int.reduceLT, Int.reduceToNat, Int.reduceAdd, Int.reduceSub, Int.reduceMul, Int.reduceNeg, Int.reduceEq, Int.reduceBEq, Int.reduceBNe, ↓reduceIte, reduceCtorEq, String.reduceBNe, String.reduceEq, reduceDIte, Nat.reducePow, hov, hol, hot, o0, o1, o2, o3, o4, hbl, hbv, hbt, setD_cat, setR_cat, List.append_assoc, List.cons_append, List.nil_append, k0, k1, k2, k3]
  refine Thn_n ?_
  refine hK _ _ ?_
  clear hK K
  refine AW.seq_k fun K hK => ?_
  refine AW.seq_k fun K hK => ?_
  refine AW.region (by decide) ?_
  simp only [push_cast, Nat.reduceAdd, Nat.reduceMul, Nat.reduceSub, Nat.reduceLeDiff, Nat.reduceLT, Nat.reduceEqDiff, Nat.reduceBEq, Nat.reduceBNe, Nat.reduceMod, Nat.reduceDiv, Int.reduceLE, Int.reduceLT, Int.reduceToNat, Int.reduceAdd, Int.reduceSub, Int.reduceMul, Int.reduceNeg, Int.reduceEq, Int.reduceBEq, Int.reduceBNe, ↓reduceIte, reduceCtorEq, String.reduceBNe, String.reduceEq, reduceDIte, Nat.reducePow, hov, hol, hot, o0, o1, o2, o3, o4, hbl, hbv, hbt, setD_cat, setR_cat, List.append_assoc, List.cons_append, List.nil_append, k0, k1, k2, k3]
  refine Thn_n ?_
  refine hK _ _ ?_
  clear hK K
  refine AW.block ?_
  refine AW.seq_k fun K hK => ?_
  refine AW.region (by decide) ?_
  simp only [push_cast, Nat.reduceAdd, Nat.reduceMul, Nat.reduceSub, Nat.reduceLeDiff, Nat.reduceLT, Nat.reduceEqDiff, Nat.reduceBEq, Nat.reduceBNe, Nat.reduceMod, Nat.reduceDiv, Int.reduceLE, Int.reduceLT, Int.reduceToNat, Int.reduceAdd, Int.reduceSub, Int.reduceMul, Int.reduceNeg, Int.reduceEq, Int.reduceBEq, Int.reduceBNe, ↓reduceIte, reduceCtorEq, String.reduceBNe, String.reduceEq, reduceDIte, Nat.reducePow, hov, hol, hot, o0, o1, o2, o3, o4, hbl, hbv, hbt, setD_cat, setR_cat, List.append_assoc, List.cons_append, List.nil_append, k0, k1, k2, k3]
  refine Thn_n ?_
  refine hK _ _ ?_
  clear hK K
  refine AW.cond_t rfl ?_
  refine AW.seq_k fun K hK => ?_
  refine AW.draw [.val, .val, .rd 0, .val, .rd 0, .wr, .val, .val, .rw 0, .val, .rw 0, .wr, .val, .val] fol (by decide) (by kernel_rfl) ?_
  simp only [push_cast, Nat.reduceAdd, Nat.reduceMul, Nat.reduceSub, Nat.reduceLeDiff, Nat.reduceLT, Nat.reduceEqDiff, Nat.reduceBEq, Nat.reduceBNe, Nat.reduceMod, Nat.reduceDiv, Int.reduceLE, Int.reduceLT, Int.reduceToNat, Int.reduceAdd, Int.reduceSub, Int.reduceMul, Int.reduceNeg, Int.reduceEq, Int.reduceBEq, Int.reduceBNe, ↓reduceIte, reduceCtorEq, String.reduceBNe, String.reduceEq, reduceDIte, Nat.reducePow, hov, hol, hot, o0, o1, o2, o3, o4, hbl, hbv, hbt, setD_cat, setR_cat, List.append_assoc, List.cons_append, List.nil_append, k0, k1, k2, k3]
  refine DCallW.by (wr_down (m.length + 2) m.length (m.length + 1) n D ax b _ hasD_cat.d hd) ?_
  simp only [push_cast, Nat.reduceAdd, Nat.reduceMul, Nat.reduceSub, Nat.reduceLeDiff, Nat.reduceLT, Nat.reduceEqDiff, Nat.reduceBEq, Nat.reduceBNe, Nat.reduceMod, Nat.reduceDiv, Int.reduceLE, Int.reduceLT, Int.reduceToNat, Int.reduceAdd, Int.reduceSub, Int.reduceMul, Int.reduceNeg, Int.reduceEq, Int.reduceBEq, Int.reduceBNe, ↓reduceIte, reduceCtorEq, String.reduceBNe, String.reduceEq, reduceDIte, Nat.reducePow, hov, hol, hot, o0, o1, o2, o3, o4, hbl, hbv, hbt, setD_cat, setR_cat, List.append_assoc, List.cons_append, List.nil_append, k0, k1, k2, k3]
  refine DCallW.by (rwr_down (m.length + 3) (m.length + 4) (m.length + 5) n R ax b _ hasR_cat.d (hrel.down.trans hd)) ?_
  simp only [push_cast, Nat.reduceAdd, Nat.reduceMul, Nat.reduceSub, Nat.reduceLeDiff, Nat.reduceLT, Nat.reduceEqDiff, Nat.reduceBEq, Nat.reduceBNe, Nat.reduceMod, Nat.reduceDiv, Int.reduceLE, Int.reduceLT, Int.reduceToNat, Int.reduceAdd, Int.reduceSub, Int.reduceMul, Int.reduceNeg, Int.reduceEq, Int.reduceBEq, Int.reduceBNe, ↓reduceIte, reduceCtorEq, String.reduceBNe, String.reduceEq, reduceDIte, Nat.reducePow, hov, hol, hot, o0, o1, o2, o3, o4, hbl, hbv, hbt, setD_cat, setR_cat, List.append_assoc, List.cons_append, List.nil_append, k0, k1, k2, k3]
  refine AOpsD_end (by simp only [watchS, allAt, push_cast, Nat.reduceAdd, Nat.reduceMul, Nat.reduceSub, Nat.reduceLeDiff, Nat.reduceLT, Nat.reduceEqDiff, Nat.reduceBEq, Nat.reduceBNe, Nat.reduceMod, Nat.reduceDiv, Int.reduceLE, Int.reduceLT, Int.reduceToNat, Int.reduceAdd, Int.reduceSub, Int.reduceMul, Int.reduceNeg, Int.reduceEq, Int.reduceBEq, Int.reduceBNe, ↓reduceIte, reduceCtorEq, String.reduceBNe, String.reduceEq, reduceDIte, Nat.reducePow, hov, hol, hot, o0, o1, o2, o3, o4, hbl, hbv, hbt, setD_cat, setR_cat, List.append_assoc, List.cons_append, List.nil_append, k0, k1, k2, k3]) ?_
  refine Thn_n ?_
  refine hK _ _ ?_
  clear hK K
  refine AW.ret ?_
  refine InB_r ?_
  refine Thn_r ?_
  refine hQ _ _ _ ?_
  rw [cat7]
  refine RetP.dropM (m1 := (m ++ (rowD n (D) :: mapD (D) :: drB m.length (m.length + 1) n (D) :: refB (m.length + 4) (m.length + 5) n (R) :: rowR (R).vs (R).su :: rowR (R).vl (R).lo :: T))) (by simp) (by first | exact Or.inr rfl | exact Or.inl rfl) ?_ ?_ hw2
  · simp only [resA, resOne, resTv, AV.tv, push_cast, Nat.reduceAdd, Nat.reduceMul, Nat.reduceSub, Nat.reduceLeDiff, Nat.reduceLT, Nat.reduceEqDiff, Nat.reduceBEq, Nat.reduceBNe, Nat.reduceMod, Nat.reduceDiv, Int.reduceLE, Int.reduceLT, Int.reduceToNat, Int.reduceAdd, Int.reduceSub, Int.reduceMul, Int.reduceNeg, Int.reduceEq, Int.reduceBEq, Int.reduceBNe, ↓reduceIte, reduceCtorEq, String.reduceBNe, String.reduceEq, reduceDIte, Nat.reducePow]
  · rfl
theorem does_w_lo (n : Nat) (D : DS) (R : RS) (kd ax nx : Int) (b : List Int) (rk kn : Nat) (ks : Nat → Int) (m T : AMem) (hrel : Rel n D R) (hn : n ≤ 8192) (hb : b.length = 128) (hkr : m[rk]? = some ⟨.ro, 3, 0, 1, il kn ks⟩) (hkn : kn ≤ 60) (hk : kd = 0) (hd : D.down = false) (h1 : ax < 0) : Ctr Try.prog 14 [.one (.ptr (m.length + 2) 0 0), .one (.ptr (m.length + 3) 0 0), .agg (opC kd ax nx b rk kn)] (m ++ (rowD n (D) :: mapD (D) :: drB m.length (m.length + 1) n (D) :: refB (m.length + 4) (m.length + 5) n (R) :: rowR (R).vs (R).su :: rowR (R).vl (R).lo :: T)) (.one (.bool true)) (m ++ (rowD n (D) :: mapD (D) :: drB m.length (m.length + 1) n (D) :: refB (m.length + 4) (m.length + 5) n (R) :: rowR (R).vs (R).su :: rowR (R).vl (R).lo :: T)) := by
  refine Ctr.enter Try.func14 rfl (by decide) (rs := [.tmp 6]) (nt := 64) rfl rfl fun hwf Q hQ => ?_
  have hov := opC_vals kd ax nx b rk kn
  have hol := opC_len (kd := kd) (ax := ax) (nx := nx) (rk := rk) (kn := kn) hb
  have hot : (opC kd ax nx b rk kn).take 132 = opC kd ax nx b rk kn := List.take_of_length_le (by omega)
  have o0 : (opC kd ax nx b rk kn)[0]? = some (.int .i64 kd) := rfl
  have o1 : (opC kd ax nx b rk kn)[1]? = some (.int .i64 ax) := rfl
  have o2 : (opC kd ax nx b rk kn)[2]? = some (.int .i64 nx) := rfl
  have o3 := opC_b (kd := kd) (ax := ax) (nx := nx) (rk := rk) (kn := kn) hb
  have o4 := opC_k (kd := kd) (ax := ax) (nx := nx) (rk := rk) (kn := kn) hb
  have hbl := u8l_len b
  rw [hb] at hbl
  have hbv := u8l_vals b
  have hbt : (u8l b).take 128 = u8l b := List.take_of_length_le (by omega)
  have lrk := get_lt hkr
  have k0 : (kd == 0) = true := by rw [hk]; rfl
  have k1 : (kd == 1) = false := by rw [hk]; rfl
  have k2 : (kd == 2) = false := by rw [hk]; rfl
  have k3 : (kd == 3) = false := by rw [hk]; rfl
  have hw2 : MWf (m ++ (rowD n (D) :: mapD (D) :: drB m.length (m.length + 1) n (D) :: refB (m.length + 4) (m.length + 5) n (R) :: rowR (R).vs (R).su :: rowR (R).vl (R).lo :: T)).length (m ++ (rowD n (D) :: mapD (D) :: drB m.length (m.length + 1) n (D) :: refB (m.length + 4) (m.length + 5) n (R) :: rowR (R).vs (R).su :: rowR (R).vl (R).lo :: T)) := six_wf (by simp) hwf
  refine AW.seq_k fun K hK => ?_
  refine AW.region (by decide) ?_
  simp only [push_cast, Nat.reduceAdd, Nat.reduceMul, Nat.reduceSub, Nat.reduceLeDiff, Nat.reduceLT, Nat.reduceEqDiff, Nat.reduceBEq, Nat.reduceBNe, Nat.reduceMod, Nat.reduceDiv, Int.reduceLE, Int.reduceLT, Int.reduceToNat, Int.reduceAdd, Int.reduceSub, Int.reduceMul, Int.reduceNeg, Int.reduceEq, Int.reduceBEq, Int.reduceBNe, ↓reduceIte, reduceCtorEq, String.reduceBNe, String.reduceEq, reduceDIte, Nat.reducePow, hov, hol, hot, o0, o1, o2, o3, o4, hbl, hbv, hbt, setD_cat, setR_cat, List.append_assoc, List.cons_append, List.nil_append, k0, k1, k2, k3]
  refine Thn_n ?_
  refine hK _ _ ?_
  clear hK K
  refine AW.seq_k fun K hK => ?_
  refine AW.seq_k fun K hK => ?_
  refine AW.region (by decide) ?_
  simp only [push_cast, Nat.reduceAdd, Nat.reduceMul, Nat.reduceSub, Nat.reduceLeDiff, Nat.reduceLT, Nat.reduceEqDiff, Nat.reduceBEq, Nat.reduceBNe, Nat.reduceMod, Nat.reduceDiv, Int.reduceLE, Int.reduceLT, Int.reduceToNat, Int.reduceAdd, Int.reduceSub, Int.reduceMul, Int.reduceNeg, Int.reduceEq, Int.reduceBEq, Int.reduceBNe, ↓reduceIte, reduceCtorEq, String.reduceBNe, String.reduceEq, reduceDIte, Nat.reducePow, hov, hol, hot, o0, o1, o2, o3, o4, hbl, hbv, hbt, setD_cat, setR_cat, List.append_assoc, List.cons_append, List.nil_append, k0, k1, k2, k3]
  refine Thn_n ?_
  refine hK _ _ ?_
  clear hK K
  refine AW.block ?_
  refine AW.seq_k fun K hK => ?_
  refine AW.region (by decide) ?_
  simp only [push_cast, Nat.reduceAdd, Nat.reduceMul, Nat.reduceSub, Nat.reduceLeDiff, Nat.reduceLT, Nat.reduceEqDiff, Nat.reduceBEq, Nat.reduceBNe, Nat.reduceMod, Nat.reduceDiv, Int.reduceLE, Int.reduceLT, Int.reduceToNat, Int.reduceAdd, Int.reduceSub, Int.reduceMul, Int.reduceNeg, Int.reduceEq, Int.reduceBEq, Int.reduceBNe, ↓reduceIte, reduceCtorEq, String.reduceBNe, String.reduceEq, reduceDIte, Nat.reducePow, hov, hol, hot, o0, o1, o2, o3, o4, hbl, hbv, hbt, setD_cat, setR_cat, List.append_assoc, List.cons_append, List.nil_append, k0, k1, k2, k3]
  refine Thn_n ?_
  refine hK _ _ ?_
  clear hK K
  refine AW.cond_t rfl ?_
  refine AW.seq_k fun K hK => ?_
  refine AW.draw [.val, .val, .rd 0, .val, .rd 0, .wr, .val, .val, .rw 0, .val, .rw 0, .wr, .val, .val] fol (by decide) (by kernel_rfl) ?_
  simp only [push_cast, Nat.reduceAdd, Nat.reduceMul, Nat.reduceSub, Nat.reduceLeDiff, Nat.reduceLT, Nat.reduceEqDiff, Nat.reduceBEq, Nat.reduceBNe, Nat.reduceMod, Nat.reduceDiv, Int.reduceLE, Int.reduceLT, Int.reduceToNat, Int.reduceAdd, Int.reduceSub, Int.reduceMul, Int.reduceNeg, Int.reduceEq, Int.reduceBEq, Int.reduceBNe, ↓reduceIte, reduceCtorEq, String.reduceBNe, String.reduceEq, reduceDIte, Nat.reducePow, hov, hol, hot, o0, o1, o2, o3, o4, hbl, hbv, hbt, setD_cat, setR_cat, List.append_assoc, List.cons_append, List.nil_append, k0, k1, k2, k3]
  refine DCallW.by (wr_lo (m.length + 2) m.length (m.length + 1) n D ax b _ hasD_cat.d hd h1) ?_
  simp only [push_cast, Nat.reduceAdd, Nat.reduceMul, Nat.reduceSub, Nat.reduceLeDiff, Nat.reduceLT, Nat.reduceEqDiff, Nat.reduceBEq, Nat.reduceBNe, Nat.reduceMod, Nat.reduceDiv, Int.reduceLE, Int.reduceLT, Int.reduceToNat, Int.reduceAdd, Int.reduceSub, Int.reduceMul, Int.reduceNeg, Int.reduceEq, Int.reduceBEq, Int.reduceBNe, ↓reduceIte, reduceCtorEq, String.reduceBNe, String.reduceEq, reduceDIte, Nat.reducePow, hov, hol, hot, o0, o1, o2, o3, o4, hbl, hbv, hbt, setD_cat, setR_cat, List.append_assoc, List.cons_append, List.nil_append, k0, k1, k2, k3]
  refine DCallW.by (rwr_lo (m.length + 3) (m.length + 4) (m.length + 5) n R ax b _ hasR_cat.d (hrel.down.trans hd) h1) ?_
  simp only [push_cast, Nat.reduceAdd, Nat.reduceMul, Nat.reduceSub, Nat.reduceLeDiff, Nat.reduceLT, Nat.reduceEqDiff, Nat.reduceBEq, Nat.reduceBNe, Nat.reduceMod, Nat.reduceDiv, Int.reduceLE, Int.reduceLT, Int.reduceToNat, Int.reduceAdd, Int.reduceSub, Int.reduceMul, Int.reduceNeg, Int.reduceEq, Int.reduceBEq, Int.reduceBNe, ↓reduceIte, reduceCtorEq, String.reduceBNe, String.reduceEq, reduceDIte, Nat.reducePow, hov, hol, hot, o0, o1, o2, o3, o4, hbl, hbv, hbt, setD_cat, setR_cat, List.append_assoc, List.cons_append, List.nil_append, k0, k1, k2, k3]
  refine AOpsD_end (by simp only [watchS, allAt, push_cast, Nat.reduceAdd, Nat.reduceMul, Nat.reduceSub, Nat.reduceLeDiff, Nat.reduceLT, Nat.reduceEqDiff, Nat.reduceBEq, Nat.reduceBNe, Nat.reduceMod, Nat.reduceDiv, Int.reduceLE, Int.reduceLT, Int.reduceToNat, Int.reduceAdd, Int.reduceSub, Int.reduceMul, Int.reduceNeg, Int.reduceEq, Int.reduceBEq, Int.reduceBNe, ↓reduceIte, reduceCtorEq, String.reduceBNe, String.reduceEq, reduceDIte, Nat.reducePow, hov, hol, hot, o0, o1, o2, o3, o4, hbl, hbv, hbt, setD_cat, setR_cat, List.append_assoc, List.cons_append, List.nil_append, k0, k1, k2, k3]) ?_
  refine Thn_n ?_
  refine hK _ _ ?_
  clear hK K
  refine AW.ret ?_
  refine InB_r ?_
  refine Thn_r ?_
  refine hQ _ _ _ ?_
  rw [cat7]
  refine RetP.dropM (m1 := (m ++ (rowD n (D) :: mapD (D) :: drB m.length (m.length + 1) n (D) :: refB (m.length + 4) (m.length + 5) n (R) :: rowR (R).vs (R).su :: rowR (R).vl (R).lo :: T))) (by simp) (by first | exact Or.inr rfl | exact Or.inl rfl) ?_ ?_ hw2
  · simp only [resA, resOne, resTv, AV.tv, push_cast, Nat.reduceAdd, Nat.reduceMul, Nat.reduceSub, Nat.reduceLeDiff, Nat.reduceLT, Nat.reduceEqDiff, Nat.reduceBEq, Nat.reduceBNe, Nat.reduceMod, Nat.reduceDiv, Int.reduceLE, Int.reduceLT, Int.reduceToNat, Int.reduceAdd, Int.reduceSub, Int.reduceMul, Int.reduceNeg, Int.reduceEq, Int.reduceBEq, Int.reduceBNe, ↓reduceIte, reduceCtorEq, String.reduceBNe, String.reduceEq, reduceDIte, Nat.reducePow]
  · rfl
theorem does_w_hi (n : Nat) (D : DS) (R : RS) (kd ax nx : Int) (b : List Int) (rk kn : Nat) (ks : Nat → Int) (m T : AMem) (hrel : Rel n D R) (hn : n ≤ 8192) (hb : b.length = 128) (hkr : m[rk]? = some ⟨.ro, 3, 0, 1, il kn ks⟩) (hkn : kn ≤ 60) (hk : kd = 0) (hd : D.down = false) (h1 : ¬ ax < 0) (h2 : (n : Int) ≤ ax) : Ctr Try.prog 14 [.one (.ptr (m.length + 2) 0 0), .one (.ptr (m.length + 3) 0 0), .agg (opC kd ax nx b rk kn)] (m ++ (rowD n (D) :: mapD (D) :: drB m.length (m.length + 1) n (D) :: refB (m.length + 4) (m.length + 5) n (R) :: rowR (R).vs (R).su :: rowR (R).vl (R).lo :: T)) (.one (.bool true)) (m ++ (rowD n (D) :: mapD (D) :: drB m.length (m.length + 1) n (D) :: refB (m.length + 4) (m.length + 5) n (R) :: rowR (R).vs (R).su :: rowR (R).vl (R).lo :: T)) := by
  refine Ctr.enter Try.func14 rfl (by decide) (rs := [.tmp 6]) (nt := 64) rfl rfl fun hwf Q hQ => ?_
  have hov := opC_vals kd ax nx b rk kn
  have hol := opC_len (kd := kd) (ax := ax) (nx := nx) (rk := rk) (kn := kn) hb
  have hot : (opC kd ax nx b rk kn).take 132 = opC kd ax nx b rk kn := List.take_of_length_le (by omega)
  have o0 : (opC kd ax nx b rk kn)[0]? = some (.int .i64 kd) := rfl
  have o1 : (opC kd ax nx b rk kn)[1]? = some (.int .i64 ax) := rfl
  have o2 : (opC kd ax nx b rk kn)[2]? = some (.int .i64 nx) := rfl
  have o3 := opC_b (kd := kd) (ax := ax) (nx := nx) (rk := rk) (kn := kn) hb
  have o4 := opC_k (kd := kd) (ax := ax) (nx := nx) (rk := rk) (kn := kn) hb
  have hbl := u8l_len b
  rw [hb] at hbl
  have hbv := u8l_vals b
  have hbt : (u8l b).take 128 = u8l b := List.take_of_length_le (by omega)
  have lrk := get_lt hkr
  have k0 : (kd == 0) = true := by rw [hk]; rfl
  have k1 : (kd == 1) = false := by rw [hk]; rfl
  have k2 : (kd == 2) = false := by rw [hk]; rfl
  have k3 : (kd == 3) = false := by rw [hk]; rfl
  have hw2 : MWf (m ++ (rowD n (D) :: mapD (D) :: drB m.length (m.length + 1) n (D) :: refB (m.length + 4) (m.length + 5) n (R) :: rowR (R).vs (R).su :: rowR (R).vl (R).lo :: T)).length (m ++ (rowD n (D) :: mapD (D) :: drB m.length (m.length + 1) n (D) :: refB (m.length + 4) (m.length + 5) n (R) :: rowR (R).vs (R).su :: rowR (R).vl (R).lo :: T)) := six_wf (by simp) hwf
  refine AW.seq_k fun K hK => ?_
  refine AW.region (by decide) ?_
  simp only [push_cast, Nat.reduceAdd, Nat.reduceMul, Nat.reduceSub, Nat.reduceLeDiff, Nat.reduceLT, Nat.reduceEqDiff, Nat.reduceBEq, Nat.reduceBNe, Nat.reduceMod, Nat.reduceDiv, Int.reduceLE, Int.reduceLT, Int.reduceToNat, Int.reduceAdd, Int.reduceSub, Int.reduceMul, Int.reduceNeg, Int.reduceEq, Int.reduceBEq, Int.reduceBNe, ↓reduceIte, reduceCtorEq, String.reduceBNe, String.reduceEq, reduceDIte, Nat.reducePow, hov, hol, hot, o0, o1, o2, o3, o4, hbl, hbv, hbt, setD_cat, setR_cat, List.append_assoc, List.cons_append, List.nil_append, k0, k1, k2, k3]
  refine Thn_n ?_
  refine hK _ _ ?_
  clear hK K
  refine AW.seq_k fun K hK => ?_
  refine AW.seq_k fun K hK => ?_
  refine AW.region (by decide) ?_
  simp only [push_cast, Nat.reduceAdd, Nat.reduceMul, Nat.reduceSub, Nat.reduceLeDiff, Nat.reduceLT, Nat.reduceEqDiff, Nat.reduceBEq, Nat.reduceBNe, Nat.reduceMod, Nat.reduceDiv, Int.reduceLE, Int.reduceLT, Int.reduceToNat, Int.reduceAdd, Int.reduceSub, Int.reduceMul, Int.reduceNeg, Int.reduceEq, Int.reduceBEq, Int.reduceBNe, ↓reduceIte, reduceCtorEq, String.reduceBNe, String.reduceEq, reduceDIte, Nat.reducePow, hov, hol, hot, o0, o1, o2, o3, o4, hbl, hbv, hbt, setD_cat, setR_cat, List.append_assoc, List.cons_append, List.nil_append, k0, k1, k2, k3]
  refine Thn_n ?_
  refine hK _ _ ?_
  clear hK K
  refine AW.block ?_
  refine AW.seq_k fun K hK => ?_
  refine AW.region (by decide) ?_
  simp only [push_cast, Nat.reduceAdd, Nat.reduceMul, Nat.reduceSub, Nat.reduceLeDiff, Nat.reduceLT, Nat.reduceEqDiff, Nat.reduceBEq, Nat.reduceBNe, Nat.reduceMod, Nat.reduceDiv, Int.reduceLE, Int.reduceLT, Int.reduceToNat, Int.reduceAdd, Int.reduceSub, Int.reduceMul, Int.reduceNeg, Int.reduceEq, Int.reduceBEq, Int.reduceBNe, ↓reduceIte, reduceCtorEq, String.reduceBNe, String.reduceEq, reduceDIte, Nat.reducePow, hov, hol, hot, o0, o1, o2, o3, o4, hbl, hbv, hbt, setD_cat, setR_cat, List.append_assoc, List.cons_append, List.nil_append, k0, k1, k2, k3]
  refine Thn_n ?_
  refine hK _ _ ?_
  clear hK K
  refine AW.cond_t rfl ?_
  refine AW.seq_k fun K hK => ?_
  refine AW.draw [.val, .val, .rd 0, .val, .rd 0, .wr, .val, .val, .rw 0, .val, .rw 0, .wr, .val, .val] fol (by decide) (by kernel_rfl) ?_
  simp only [push_cast, Nat.reduceAdd, Nat.reduceMul, Nat.reduceSub, Nat.reduceLeDiff, Nat.reduceLT, Nat.reduceEqDiff, Nat.reduceBEq, Nat.reduceBNe, Nat.reduceMod, Nat.reduceDiv, Int.reduceLE, Int.reduceLT, Int.reduceToNat, Int.reduceAdd, Int.reduceSub, Int.reduceMul, Int.reduceNeg, Int.reduceEq, Int.reduceBEq, Int.reduceBNe, ↓reduceIte, reduceCtorEq, String.reduceBNe, String.reduceEq, reduceDIte, Nat.reducePow, hov, hol, hot, o0, o1, o2, o3, o4, hbl, hbv, hbt, setD_cat, setR_cat, List.append_assoc, List.cons_append, List.nil_append, k0, k1, k2, k3]
  refine DCallW.by (wr_hi (m.length + 2) m.length (m.length + 1) n D ax b _ hasD_cat.d hd h1 h2) ?_
  simp only [push_cast, Nat.reduceAdd, Nat.reduceMul, Nat.reduceSub, Nat.reduceLeDiff, Nat.reduceLT, Nat.reduceEqDiff, Nat.reduceBEq, Nat.reduceBNe, Nat.reduceMod, Nat.reduceDiv, Int.reduceLE, Int.reduceLT, Int.reduceToNat, Int.reduceAdd, Int.reduceSub, Int.reduceMul, Int.reduceNeg, Int.reduceEq, Int.reduceBEq, Int.reduceBNe, ↓reduceIte, reduceCtorEq, String.reduceBNe, String.reduceEq, reduceDIte, Nat.reducePow, hov, hol, hot, o0, o1, o2, o3, o4, hbl, hbv, hbt, setD_cat, setR_cat, List.append_assoc, List.cons_append, List.nil_append, k0, k1, k2, k3]
  refine DCallW.by (rwr_hi (m.length + 3) (m.length + 4) (m.length + 5) n R ax b _ hasR_cat.d (hrel.down.trans hd) h1 h2) ?_
  simp only [push_cast, Nat.reduceAdd, Nat.reduceMul, Nat.reduceSub, Nat.reduceLeDiff, Nat.reduceLT, Nat.reduceEqDiff, Nat.reduceBEq, Nat.reduceBNe, Nat.reduceMod, Nat.reduceDiv, Int.reduceLE, Int.reduceLT, Int.reduceToNat, Int.reduceAdd, Int.reduceSub, Int.reduceMul, Int.reduceNeg, Int.reduceEq, Int.reduceBEq, Int.reduceBNe, ↓reduceIte, reduceCtorEq, String.reduceBNe, String.reduceEq, reduceDIte, Nat.reducePow, hov, hol, hot, o0, o1, o2, o3, o4, hbl, hbv, hbt, setD_cat, setR_cat, List.append_assoc, List.cons_append, List.nil_append, k0, k1, k2, k3]
  refine AOpsD_end (by simp only [watchS, allAt, push_cast, Nat.reduceAdd, Nat.reduceMul, Nat.reduceSub, Nat.reduceLeDiff, Nat.reduceLT, Nat.reduceEqDiff, Nat.reduceBEq, Nat.reduceBNe, Nat.reduceMod, Nat.reduceDiv, Int.reduceLE, Int.reduceLT, Int.reduceToNat, Int.reduceAdd, Int.reduceSub, Int.reduceMul, Int.reduceNeg, Int.reduceEq, Int.reduceBEq, Int.reduceBNe, ↓reduceIte, reduceCtorEq, String.reduceBNe, String.reduceEq, reduceDIte, Nat.reducePow, hov, hol, hot, o0, o1, o2, o3, o4, hbl, hbv, hbt, setD_cat, setR_cat, List.append_assoc, List.cons_append, List.nil_append, k0, k1, k2, k3]) ?_
  refine Thn_n ?_
  refine hK _ _ ?_
  clear hK K
  refine AW.ret ?_
  refine InB_r ?_
  refine Thn_r ?_
  refine hQ _ _ _ ?_
  rw [cat7]
  refine RetP.dropM (m1 := (m ++ (rowD n (D) :: mapD (D) :: drB m.length (m.length + 1) n (D) :: refB (m.length + 4) (m.length + 5) n (R) :: rowR (R).vs (R).su :: rowR (R).vl (R).lo :: T))) (by simp) (by first | exact Or.inr rfl | exact Or.inl rfl) ?_ ?_ hw2
  · simp only [resA, resOne, resTv, AV.tv, push_cast, Nat.reduceAdd, Nat.reduceMul, Nat.reduceSub, Nat.reduceLeDiff, Nat.reduceLT, Nat.reduceEqDiff, Nat.reduceBEq, Nat.reduceBNe, Nat.reduceMod, Nat.reduceDiv, Int.reduceLE, Int.reduceLT, Int.reduceToNat, Int.reduceAdd, Int.reduceSub, Int.reduceMul, Int.reduceNeg, Int.reduceEq, Int.reduceBEq, Int.reduceBNe, ↓reduceIte, reduceCtorEq, String.reduceBNe, String.reduceEq, reduceDIte, Nat.reducePow]
  · rfl
theorem does_w_no (n : Nat) (D : DS) (R : RS) (kd ax nx : Int) (b : List Int) (rk kn : Nat) (ks : Nat → Int) (m T : AMem) (hrel : Rel n D R) (hn : n ≤ 8192) (hb : b.length = 128) (hkr : m[rk]? = some ⟨.ro, 3, 0, 1, il kn ks⟩) (hkn : kn ≤ 60) (hk : kd = 0) (hd : D.down = false) (h1 : ¬ ax < 0) (h2 : ¬ (n : Int) ≤ ax) (hz : D.fuse = 0) : Ctr Try.prog 14 [.one (.ptr (m.length + 2) 0 0), .one (.ptr (m.length + 3) 0 0), .agg (opC kd ax nx b rk kn)] (m ++ (rowD n (D) :: mapD (D) :: drB m.length (m.length + 1) n (D) :: refB (m.length + 4) (m.length + 5) n (R) :: rowR (R).vs (R).su :: rowR (R).vl (R).lo :: T)) (.one (.bool true)) (m ++ (rowD n (spD D) :: mapD (spD D) :: drB m.length (m.length + 1) n (spD D) :: refB (m.length + 4) (m.length + 5) n (spR R) :: rowR (spR R).vs (spR R).su :: rowR (spR R).vl (spR R).lo :: T)) := by
  refine Ctr.enter Try.func14 rfl (by decide) (rs := [.tmp 6]) (nt := 64) rfl rfl fun hwf Q hQ => ?_
  have hov := opC_vals kd ax nx b rk kn
  have hol := opC_len (kd := kd) (ax := ax) (nx := nx) (rk := rk) (kn := kn) hb
  have hot : (opC kd ax nx b rk kn).take 132 = opC kd ax nx b rk kn := List.take_of_length_le (by omega)
  have o0 : (opC kd ax nx b rk kn)[0]? = some (.int .i64 kd) := rfl
  have o1 : (opC kd ax nx b rk kn)[1]? = some (.int .i64 ax) := rfl
  have o2 : (opC kd ax nx b rk kn)[2]? = some (.int .i64 nx) := rfl
  have o3 := opC_b (kd := kd) (ax := ax) (nx := nx) (rk := rk) (kn := kn) hb
  have o4 := opC_k (kd := kd) (ax := ax) (nx := nx) (rk := rk) (kn := kn) hb
  have hbl := u8l_len b
  rw [hb] at hbl
  have hbv := u8l_vals b
  have hbt : (u8l b).take 128 = u8l b := List.take_of_length_le (by omega)
  have lrk := get_lt hkr
  have k0 : (kd == 0) = true := by rw [hk]; rfl
  have k1 : (kd == 1) = false := by rw [hk]; rfl
  have k2 : (kd == 2) = false := by rw [hk]; rfl
  have k3 : (kd == 3) = false := by rw [hk]; rfl
  have hw2 : MWf (m ++ (rowD n (D) :: mapD (D) :: drB m.length (m.length + 1) n (D) :: refB (m.length + 4) (m.length + 5) n (R) :: rowR (R).vs (R).su :: rowR (R).vl (R).lo :: T)).length (m ++ (rowD n (spD D) :: mapD (spD D) :: drB m.length (m.length + 1) n (spD D) :: refB (m.length + 4) (m.length + 5) n (spR R) :: rowR (spR R).vs (spR R).su :: rowR (spR R).vl (spR R).lo :: T)) := six_wf (by simp) hwf
  refine AW.seq_k fun K hK => ?_
  refine AW.region (by decide) ?_
  simp only [push_cast, Nat.reduceAdd, Nat.reduceMul, Nat.reduceSub, Nat.reduceLeDiff, Nat.reduceLT, Nat.reduceEqDiff, Nat.reduceBEq, Nat.reduceBNe, Nat.reduceMod, Nat.reduceDiv, Int.reduceLE, Int.reduceLT, Int.reduceToNat, Int.reduceAdd, Int.reduceSub, Int.reduceMul, Int.reduceNeg, Int.reduceEq, Int.reduceBEq, Int.reduceBNe, ↓reduceIte, reduceCtorEq, String.reduceBNe, String.reduceEq, reduceDIte, Nat.reducePow, hov, hol, hot, o0, o1, o2, o3, o4, hbl, hbv, hbt, setD_cat, setR_cat, List.append_assoc, List.cons_append, List.nil_append, k0, k1, k2, k3]
  refine Thn_n ?_
  refine hK _ _ ?_
  clear hK K
  refine AW.seq_k fun K hK => ?_
  refine AW.seq_k fun K hK => ?_
  refine AW.region (by decide) ?_
  simp only [push_cast, Nat.reduceAdd, Nat.reduceMul, Nat.reduceSub, Nat.reduceLeDiff, Nat.reduceLT, Nat.reduceEqDiff, Nat.reduceBEq, Nat.reduceBNe, Nat.reduceMod, Nat.reduceDiv, Int.reduceLE, Int.reduceLT, Int.reduceToNat, Int.reduceAdd, Int.reduceSub, Int.reduceMul, Int.reduceNeg, Int.reduceEq, Int.reduceBEq, Int.reduceBNe, ↓reduceIte, reduceCtorEq, String.reduceBNe, String.reduceEq, reduceDIte, Nat.reducePow, hov, hol, hot, o0, o1, o2, o3, o4, hbl, hbv, hbt, setD_cat, setR_cat, List.append_assoc, List.cons_append, List.nil_append, k0, k1, k2, k3]
  refine Thn_n ?_
  refine hK _ _ ?_
  clear hK K
  refine AW.block ?_
  refine AW.seq_k fun K hK => ?_
  refine AW.region (by decide) ?_
  simp only [push_cast, Nat.reduceAdd, Nat.reduceMul, Nat.reduceSub, Nat.reduceLeDiff, Nat.reduceLT, Nat.reduceEqDiff, Nat.reduceBEq, Nat.reduceBNe, Nat.reduceMod, Nat.reduceDiv, Int.reduceLE, Int.reduceLT, Int.reduceToNat, Int.reduceAdd, Int.reduceSub, Int.reduceMul, Int.reduceNeg, Int.reduceEq, Int.reduceBEq, Int.reduceBNe, ↓reduceIte, reduceCtorEq, String.reduceBNe, String.reduceEq, reduceDIte, Nat.reducePow, hov, hol, hot, o0, o1, o2, o3, o4, hbl, hbv, hbt, setD_cat, setR_cat, List.append_assoc, List.cons_append, List.nil_append, k0, k1, k2, k3]
  refine Thn_n ?_
  refine hK _ _ ?_
  clear hK K
  refine AW.cond_t rfl ?_
  refine AW.seq_k fun K hK => ?_
  refine AW.draw [.val, .val, .rd 0, .val, .rd 0, .wr, .val, .val, .rw 0, .val, .rw 0, .wr, .val, .val] fol (by decide) (by kernel_rfl) ?_
  simp only [push_cast, Nat.reduceAdd, Nat.reduceMul, Nat.reduceSub, Nat.reduceLeDiff, Nat.reduceLT, Nat.reduceEqDiff, Nat.reduceBEq, Nat.reduceBNe, Nat.reduceMod, Nat.reduceDiv, Int.reduceLE, Int.reduceLT, Int.reduceToNat, Int.reduceAdd, Int.reduceSub, Int.reduceMul, Int.reduceNeg, Int.reduceEq, Int.reduceBEq, Int.reduceBNe, ↓reduceIte, reduceCtorEq, String.reduceBNe, String.reduceEq, reduceDIte, Nat.reducePow, hov, hol, hot, o0, o1, o2, o3, o4, hbl, hbv, hbt, setD_cat, setR_cat, List.append_assoc, List.cons_append, List.nil_append, k0, k1, k2, k3]
  refine DCallW.by (wr_no (m.length + 2) m.length (m.length + 1) n D ax b _ hb hasD_cat hd h1 h2 hz) ?_
  simp only [push_cast, Nat.reduceAdd, Nat.reduceMul, Nat.reduceSub, Nat.reduceLeDiff, Nat.reduceLT, Nat.reduceEqDiff, Nat.reduceBEq, Nat.reduceBNe, Nat.reduceMod, Nat.reduceDiv, Int.reduceLE, Int.reduceLT, Int.reduceToNat, Int.reduceAdd, Int.reduceSub, Int.reduceMul, Int.reduceNeg, Int.reduceEq, Int.reduceBEq, Int.reduceBNe, ↓reduceIte, reduceCtorEq, String.reduceBNe, String.reduceEq, reduceDIte, Nat.reducePow, hov, hol, hot, o0, o1, o2, o3, o4, hbl, hbv, hbt, setD_cat, setR_cat, List.append_assoc, List.cons_append, List.nil_append, k0, k1, k2, k3]
  refine DCallW.by (rwr_no (m.length + 3) (m.length + 4) (m.length + 5) n R ax b _ hb hasR_cat (hrel.down.trans hd) h1 h2 (hrel.fuse.trans hz)) ?_
  simp only [push_cast, Nat.reduceAdd, Nat.reduceMul, Nat.reduceSub, Nat.reduceLeDiff, Nat.reduceLT, Nat.reduceEqDiff, Nat.reduceBEq, Nat.reduceBNe, Nat.reduceMod, Nat.reduceDiv, Int.reduceLE, Int.reduceLT, Int.reduceToNat, Int.reduceAdd, Int.reduceSub, Int.reduceMul, Int.reduceNeg, Int.reduceEq, Int.reduceBEq, Int.reduceBNe, ↓reduceIte, reduceCtorEq, String.reduceBNe, String.reduceEq, reduceDIte, Nat.reducePow, hov, hol, hot, o0, o1, o2, o3, o4, hbl, hbv, hbt, setD_cat, setR_cat, List.append_assoc, List.cons_append, List.nil_append, k0, k1, k2, k3]
  refine AOpsD_end (by simp only [watchS, allAt, push_cast, Nat.reduceAdd, Nat.reduceMul, Nat.reduceSub, Nat.reduceLeDiff, Nat.reduceLT, Nat.reduceEqDiff, Nat.reduceBEq, Nat.reduceBNe, Nat.reduceMod, Nat.reduceDiv, Int.reduceLE, Int.reduceLT, Int.reduceToNat, Int.reduceAdd, Int.reduceSub, Int.reduceMul, Int.reduceNeg, Int.reduceEq, Int.reduceBEq, Int.reduceBNe, ↓reduceIte, reduceCtorEq, String.reduceBNe, String.reduceEq, reduceDIte, Nat.reducePow, hov, hol, hot, o0, o1, o2, o3, o4, hbl, hbv, hbt, setD_cat, setR_cat, List.append_assoc, List.cons_append, List.nil_append, k0, k1, k2, k3]) ?_
  refine Thn_n ?_
  refine hK _ _ ?_
  clear hK K
  refine AW.ret ?_
  refine InB_r ?_
  refine Thn_r ?_
  refine hQ _ _ _ ?_
  rw [cat7]
  refine RetP.dropM (m1 := (m ++ (rowD n (spD D) :: mapD (spD D) :: drB m.length (m.length + 1) n (spD D) :: refB (m.length + 4) (m.length + 5) n (spR R) :: rowR (spR R).vs (spR R).su :: rowR (spR R).vl (spR R).lo :: T))) (by simp) (by first | exact Or.inr rfl | exact Or.inl rfl) ?_ ?_ hw2
  · simp only [resA, resOne, resTv, AV.tv, push_cast, Nat.reduceAdd, Nat.reduceMul, Nat.reduceSub, Nat.reduceLeDiff, Nat.reduceLT, Nat.reduceEqDiff, Nat.reduceBEq, Nat.reduceBNe, Nat.reduceMod, Nat.reduceDiv, Int.reduceLE, Int.reduceLT, Int.reduceToNat, Int.reduceAdd, Int.reduceSub, Int.reduceMul, Int.reduceNeg, Int.reduceEq, Int.reduceBEq, Int.reduceBNe, ↓reduceIte, reduceCtorEq, String.reduceBNe, String.reduceEq, reduceDIte, Nat.reducePow]
  · rfl
theorem does_w_ok (n : Nat) (D : DS) (R : RS) (kd ax nx : Int) (b : List Int) (rk kn : Nat) (ks : Nat → Int) (m T : AMem) (hrel : Rel n D R) (hn : n ≤ 8192) (hb : b.length = 128) (hkr : m[rk]? = some ⟨.ro, 3, 0, 1, il kn ks⟩) (hkn : kn ≤ 60) (hk : kd = 0) (hd : D.down = false) (h1 : ¬ ax < 0) (h2 : ¬ (n : Int) ≤ ax) (hz : ¬ D.fuse = 0) : Ctr Try.prog 14 [.one (.ptr (m.length + 2) 0 0), .one (.ptr (m.length + 3) 0 0), .agg (opC kd ax nx b rk kn)] (m ++ (rowD n (D) :: mapD (D) :: drB m.length (m.length + 1) n (D) :: refB (m.length + 4) (m.length + 5) n (R) :: rowR (R).vs (R).su :: rowR (R).vl (R).lo :: T)) (.one (.bool true)) (m ++ (rowD n (wrD D ax b) :: mapD (wrD D ax b) :: drB m.length (m.length + 1) n (wrD D ax b) :: refB (m.length + 4) (m.length + 5) n (wrR R ax b) :: rowR (wrR R ax b).vs (wrR R ax b).su :: rowR (wrR R ax b).vl (wrR R ax b).lo :: T)) := by
  refine Ctr.enter Try.func14 rfl (by decide) (rs := [.tmp 6]) (nt := 64) rfl rfl fun hwf Q hQ => ?_
  have hov := opC_vals kd ax nx b rk kn
  have hol := opC_len (kd := kd) (ax := ax) (nx := nx) (rk := rk) (kn := kn) hb
  have hot : (opC kd ax nx b rk kn).take 132 = opC kd ax nx b rk kn := List.take_of_length_le (by omega)
  have o0 : (opC kd ax nx b rk kn)[0]? = some (.int .i64 kd) := rfl
  have o1 : (opC kd ax nx b rk kn)[1]? = some (.int .i64 ax) := rfl
  have o2 : (opC kd ax nx b rk kn)[2]? = some (.int .i64 nx) := rfl
  have o3 := opC_b (kd := kd) (ax := ax) (nx := nx) (rk := rk) (kn := kn) hb
  have o4 := opC_k (kd := kd) (ax := ax) (nx := nx) (rk := rk) (kn := kn) hb
  have hbl := u8l_len b
  rw [hb] at hbl
  have hbv := u8l_vals b
  have hbt : (u8l b).take 128 = u8l b := List.take_of_length_le (by omega)
  have lrk := get_lt hkr
  have k0 : (kd == 0) = true := by rw [hk]; rfl
  have k1 : (kd == 1) = false := by rw [hk]; rfl
  have k2 : (kd == 2) = false := by rw [hk]; rfl
  have k3 : (kd == 3) = false := by rw [hk]; rfl
  have hw2 : MWf (m ++ (rowD n (D) :: mapD (D) :: drB m.length (m.length + 1) n (D) :: refB (m.length + 4) (m.length + 5) n (R) :: rowR (R).vs (R).su :: rowR (R).vl (R).lo :: T)).length (m ++ (rowD n (wrD D ax b) :: mapD (wrD D ax b) :: drB m.length (m.length + 1) n (wrD D ax b) :: refB (m.length + 4) (m.length + 5) n (wrR R ax b) :: rowR (wrR R ax b).vs (wrR R ax b).su :: rowR (wrR R ax b).vl (wrR R ax b).lo :: T)) := six_wf (by simp) hwf
  refine AW.seq_k fun K hK => ?_
  refine AW.region (by decide) ?_
  simp only [push_cast, Nat.reduceAdd, Nat.reduceMul, Nat.reduceSub, Nat.reduceLeDiff, Nat.reduceLT, Nat.reduceEqDiff, Nat.reduceBEq, Nat.reduceBNe, Nat.reduceMod, Nat.reduceDiv, Int.reduceLE, Int.reduceLT, Int.reduceToNat, Int.reduceAdd, Int.reduceSub, Int.reduceMul, Int.reduceNeg, Int.reduceEq, Int.reduceBEq, Int.reduceBNe, ↓reduceIte, reduceCtorEq, String.reduceBNe, String.reduceEq, reduceDIte, Nat.reducePow, hov, hol, hot, o0, o1, o2, o3, o4, hbl, hbv, hbt, setD_cat, setR_cat, List.append_assoc, List.cons_append, List.nil_append, k0, k1, k2, k3]
  refine Thn_n ?_
  refine hK _ _ ?_
  clear hK K
  refine AW.seq_k fun K hK => ?_
  refine AW.seq_k fun K hK => ?_
  refine AW.region (by decide) ?_
  simp only [push_cast, Nat.reduceAdd, Nat.reduceMul, Nat.reduceSub, Nat.reduceLeDiff, Nat.reduceLT, Nat.reduceEqDiff, Nat.reduceBEq, Nat.reduceBNe, Nat.reduceMod, Nat.reduceDiv, Int.reduceLE, Int.reduceLT, Int.reduceToNat, Int.reduceAdd, Int.reduceSub, Int.reduceMul, Int.reduceNeg, Int.reduceEq, Int.reduceBEq, Int.reduceBNe, ↓reduceIte, reduceCtorEq, String.reduceBNe, String.reduceEq, reduceDIte, Nat.reducePow, hov, hol, hot, o0, o1, o2, o3, o4, hbl, hbv, hbt, setD_cat, setR_cat, List.append_assoc, List.cons_append, List.nil_append, k0, k1, k2, k3]
  refine Thn_n ?_
  refine hK _ _ ?_
  clear hK K
  refine AW.block ?_
  refine AW.seq_k fun K hK => ?_
  refine AW.region (by decide) ?_
  simp only [push_cast, Nat.reduceAdd, Nat.reduceMul, Nat.reduceSub, Nat.reduceLeDiff, Nat.reduceLT, Nat.reduceEqDiff, Nat.reduceBEq, Nat.reduceBNe, Nat.reduceMod, Nat.reduceDiv, Int.reduceLE, Int.reduceLT, Int.reduceToNat, Int.reduceAdd, Int.reduceSub, Int.reduceMul, Int.reduceNeg, Int.reduceEq, Int.reduceBEq, Int.reduceBNe, ↓reduceIte, reduceCtorEq, String.reduceBNe, String.reduceEq, reduceDIte, Nat.reducePow, hov, hol, hot, o0, o1, o2, o3, o4, hbl, hbv, hbt, setD_cat, setR_cat, List.append_assoc, List.cons_append, List.nil_append, k0, k1, k2, k3]
  refine Thn_n ?_
  refine hK _ _ ?_
  clear hK K
  refine AW.cond_t rfl ?_
  refine AW.seq_k fun K hK => ?_
  refine AW.draw [.val, .val, .rd 0, .val, .rd 0, .wr, .val, .val, .rw 0, .val, .rw 0, .wr, .val, .val] fol (by decide) (by kernel_rfl) ?_
  simp only [push_cast, Nat.reduceAdd, Nat.reduceMul, Nat.reduceSub, Nat.reduceLeDiff, Nat.reduceLT, Nat.reduceEqDiff, Nat.reduceBEq, Nat.reduceBNe, Nat.reduceMod, Nat.reduceDiv, Int.reduceLE, Int.reduceLT, Int.reduceToNat, Int.reduceAdd, Int.reduceSub, Int.reduceMul, Int.reduceNeg, Int.reduceEq, Int.reduceBEq, Int.reduceBNe, ↓reduceIte, reduceCtorEq, String.reduceBNe, String.reduceEq, reduceDIte, Nat.reducePow, hov, hol, hot, o0, o1, o2, o3, o4, hbl, hbv, hbt, setD_cat, setR_cat, List.append_assoc, List.cons_append, List.nil_append, k0, k1, k2, k3]
  refine DCallW.by (wr_ok (m.length + 2) m.length (m.length + 1) n D ax b _ hb hasD_cat hd h1 h2 hz) ?_
  simp only [push_cast, Nat.reduceAdd, Nat.reduceMul, Nat.reduceSub, Nat.reduceLeDiff, Nat.reduceLT, Nat.reduceEqDiff, Nat.reduceBEq, Nat.reduceBNe, Nat.reduceMod, Nat.reduceDiv, Int.reduceLE, Int.reduceLT, Int.reduceToNat, Int.reduceAdd, Int.reduceSub, Int.reduceMul, Int.reduceNeg, Int.reduceEq, Int.reduceBEq, Int.reduceBNe, ↓reduceIte, reduceCtorEq, String.reduceBNe, String.reduceEq, reduceDIte, Nat.reducePow, hov, hol, hot, o0, o1, o2, o3, o4, hbl, hbv, hbt, setD_cat, setR_cat, List.append_assoc, List.cons_append, List.nil_append, k0, k1, k2, k3]
  refine DCallW.by (rwr_ok (m.length + 3) (m.length + 4) (m.length + 5) n R ax b _ hb hasR_cat (hrel.down.trans hd) h1 h2 (by rw [hrel.fuse]; exact hz) hrel.l hn) ?_
  simp only [push_cast, Nat.reduceAdd, Nat.reduceMul, Nat.reduceSub, Nat.reduceLeDiff, Nat.reduceLT, Nat.reduceEqDiff, Nat.reduceBEq, Nat.reduceBNe, Nat.reduceMod, Nat.reduceDiv, Int.reduceLE, Int.reduceLT, Int.reduceToNat, Int.reduceAdd, Int.reduceSub, Int.reduceMul, Int.reduceNeg, Int.reduceEq, Int.reduceBEq, Int.reduceBNe, ↓reduceIte, reduceCtorEq, String.reduceBNe, String.reduceEq, reduceDIte, Nat.reducePow, hov, hol, hot, o0, o1, o2, o3, o4, hbl, hbv, hbt, setD_cat, setR_cat, List.append_assoc, List.cons_append, List.nil_append, k0, k1, k2, k3]
  refine AOpsD_end (by simp only [watchS, allAt, push_cast, Nat.reduceAdd, Nat.reduceMul, Nat.reduceSub, Nat.reduceLeDiff, Nat.reduceLT, Nat.reduceEqDiff, Nat.reduceBEq, Nat.reduceBNe, Nat.reduceMod, Nat.reduceDiv, Int.reduceLE, Int.reduceLT, Int.reduceToNat, Int.reduceAdd, Int.reduceSub, Int.reduceMul, Int.reduceNeg, Int.reduceEq, Int.reduceBEq, Int.reduceBNe, ↓reduceIte, reduceCtorEq, String.reduceBNe, String.reduceEq, reduceDIte, Nat.reducePow, hov, hol, hot, o0, o1, o2, o3, o4, hbl, hbv, hbt, setD_cat, setR_cat, List.append_assoc, List.cons_append, List.nil_append, k0, k1, k2, k3]) ?_
  refine Thn_n ?_
  refine hK _ _ ?_
  clear hK K
  refine AW.ret ?_
  refine InB_r ?_
  refine Thn_r ?_
  refine hQ _ _ _ ?_
  rw [cat7]
  refine RetP.dropM (m1 := (m ++ (rowD n (wrD D ax b) :: mapD (wrD D ax b) :: drB m.length (m.length + 1) n (wrD D ax b) :: refB (m.length + 4) (m.length + 5) n (wrR R ax b) :: rowR (wrR R ax b).vs (wrR R ax b).su :: rowR (wrR R ax b).vl (wrR R ax b).lo :: T))) (by simp) (by first | exact Or.inr rfl | exact Or.inl rfl) ?_ ?_ hw2
  · simp only [resA, resOne, resTv, AV.tv, push_cast, Nat.reduceAdd, Nat.reduceMul, Nat.reduceSub, Nat.reduceLeDiff, Nat.reduceLT, Nat.reduceEqDiff, Nat.reduceBEq, Nat.reduceBNe, Nat.reduceMod, Nat.reduceDiv, Int.reduceLE, Int.reduceLT, Int.reduceToNat, Int.reduceAdd, Int.reduceSub, Int.reduceMul, Int.reduceNeg, Int.reduceEq, Int.reduceBEq, Int.reduceBNe, ↓reduceIte, reduceCtorEq, String.reduceBNe, String.reduceEq, reduceDIte, Nat.reducePow]
  · rfl
theorem does_s_down (n : Nat) (D : DS) (R : RS) (kd ax nx : Int) (b : List Int) (rk kn : Nat) (ks : Nat → Int) (m T : AMem) (hrel : Rel n D R) (hn : n ≤ 8192) (hb : b.length = 128) (hkr : m[rk]? = some ⟨.ro, 3, 0, 1, il kn ks⟩) (hkn : kn ≤ 60) (hk : kd = 1) (hd : D.down = true) : Ctr Try.prog 14 [.one (.ptr (m.length + 2) 0 0), .one (.ptr (m.length + 3) 0 0), .agg (opC kd ax nx b rk kn)] (m ++ (rowD n (D) :: mapD (D) :: drB m.length (m.length + 1) n (D) :: refB (m.length + 4) (m.length + 5) n (R) :: rowR (R).vs (R).su :: rowR (R).vl (R).lo :: T)) (.one (.bool true)) (m ++ (rowD n (D) :: mapD (D) :: drB m.length (m.length + 1) n (D) :: refB (m.length + 4) (m.length + 5) n (R) :: rowR (R).vs (R).su :: rowR (R).vl (R).lo :: T)) := by
  refine Ctr.enter Try.func14 rfl (by decide) (rs := [.tmp 6]) (nt := 64) rfl rfl fun hwf Q hQ => ?_
  have hov := opC_vals kd ax nx b rk kn
  have hol := opC_len (kd := kd) (ax := ax) (nx := nx) (rk := rk) (kn := kn) hb
  have hot : (opC kd ax nx b rk kn).take 132 = opC kd ax nx b rk kn := List.take_of_length_le (by omega)
  have o0 : (opC kd ax nx b rk kn)[0]? = some (.int .i64 kd) := rfl
  have o1 : (opC kd ax nx b rk kn)[1]? = some (.int .i64 ax) := rfl
  have o2 : (opC kd ax nx b rk kn)[2]? = some (.int .i64 nx) := rfl
  have o3 := opC_b (kd := kd) (ax := ax) (nx := nx) (rk := rk) (kn := kn) hb
  have o4 := opC_k (kd := kd) (ax := ax) (nx := nx) (rk := rk) (kn := kn) hb
  have hbl := u8l_len b
  rw [hb] at hbl
  have hbv := u8l_vals b
  have hbt : (u8l b).take 128 = u8l b := List.take_of_length_le (by omega)
  have lrk := get_lt hkr
  have k0 : (kd == 0) = false := by rw [hk]; rfl
  have k1 : (kd == 1) = true := by rw [hk]; rfl
  have k2 : (kd == 2) = false := by rw [hk]; rfl
  have k3 : (kd == 3) = false := by rw [hk]; rfl
  have hw2 : MWf (m ++ (rowD n (D) :: mapD (D) :: drB m.length (m.length + 1) n (D) :: refB (m.length + 4) (m.length + 5) n (R) :: rowR (R).vs (R).su :: rowR (R).vl (R).lo :: T)).length (m ++ (rowD n (D) :: mapD (D) :: drB m.length (m.length + 1) n (D) :: refB (m.length + 4) (m.length + 5) n (R) :: rowR (R).vs (R).su :: rowR (R).vl (R).lo :: T)) := six_wf (by simp) hwf
  refine AW.seq_k fun K hK => ?_
  refine AW.region (by decide) ?_
  simp only [push_cast, Nat.reduceAdd, Nat.reduceMul, Nat.reduceSub, Nat.reduceLeDiff, Nat.reduceLT, Nat.reduceEqDiff, Nat.reduceBEq, Nat.reduceBNe, Nat.reduceMod, Nat.reduceDiv, Int.reduceLE, Int.reduceLT, Int.reduceToNat, Int.reduceAdd, Int.reduceSub, Int.reduceMul, Int.reduceNeg, Int.reduceEq, Int.reduceBEq, Int.reduceBNe, ↓reduceIte, reduceCtorEq, String.reduceBNe, String.reduceEq, reduceDIte, Nat.reducePow, hov, hol, hot, o0, o1, o2, o3, o4, hbl, hbv, hbt, setD_cat, setR_cat, List.append_assoc, List.cons_append, List.nil_append, k0, k1, k2, k3]
  refine Thn_n ?_
  refine hK _ _ ?_
  clear hK K
  refine AW.seq_k fun K hK => ?_
  refine AW.seq_k fun K hK => ?_
  refine AW.region (by decide) ?_
  simp only [push_cast, Nat.reduceAdd, Nat.reduceMul, Nat.reduceSub, Nat.reduceLeDiff, Nat.reduceLT, Nat.reduceEqDiff, Nat.reduceBEq, Nat.reduceBNe, Nat.reduceMod, Nat.reduceDiv, Int.reduceLE, Int.reduceLT, Int.reduceToNat, Int.reduceAdd, Int.reduceSub, Int.reduceMul, Int.reduceNeg, Int.reduceEq, Int.reduceBEq, Int.reduceBNe, ↓reduceIte, reduceCtorEq, String.reduceBNe, String.reduceEq, reduceDIte, Nat.reducePow, hov, hol, hot, o0, o1, o2, o3, o4, hbl, hbv, hbt, setD_cat, setR_cat, List.append_assoc, List.cons_append, List.nil_append, k0, k1, k2, k3]
  refine Thn_n ?_
  refine hK _ _ ?_
  clear hK K
  refine AW.block ?_
  refine AW.seq_k fun K hK => ?_
  refine AW.region (by decide) ?_
  simp only [push_cast, Nat.reduceAdd, Nat.reduceMul, Nat.reduceSub, Nat.reduceLeDiff, Nat.reduceLT, Nat.reduceEqDiff, Nat.reduceBEq, Nat.reduceBNe, Nat.reduceMod, Nat.reduceDiv, Int.reduceLE, Int.reduceLT, Int.reduceToNat, Int.reduceAdd, Int.reduceSub, Int.reduceMul, Int.reduceNeg, Int.reduceEq, Int.reduceBEq, Int.reduceBNe, ↓reduceIte, reduceCtorEq, String.reduceBNe, String.reduceEq, reduceDIte, Nat.reducePow, hov, hol, hot, o0, o1, o2, o3, o4, hbl, hbv, hbt, setD_cat, setR_cat, List.append_assoc, List.cons_append, List.nil_append, k0, k1, k2, k3]
  refine Thn_n ?_
  refine hK _ _ ?_
  clear hK K
  refine AW.cond_f rfl ?_
  refine AW.seq_k fun K hK => ?_
  refine AW.region (by decide) ?_
  simp only [push_cast, Nat.reduceAdd, Nat.reduceMul, Nat.reduceSub, Nat.reduceLeDiff, Nat.reduceLT, Nat.reduceEqDiff, Nat.reduceBEq, Nat.reduceBNe, Nat.reduceMod, Nat.reduceDiv, Int.reduceLE, Int.reduceLT, Int.reduceToNat, Int.reduceAdd, Int.reduceSub, Int.reduceMul, Int.reduceNeg, Int.reduceEq, Int.reduceBEq, Int.reduceBNe, ↓reduceIte, reduceCtorEq, String.reduceBNe, String.reduceEq, reduceDIte, Nat.reducePow, hov, hol, hot, o0, o1, o2, o3, o4, hbl, hbv, hbt, setD_cat, setR_cat, List.append_assoc, List.cons_append, List.nil_append, k0, k1, k2, k3]
  refine Thn_n ?_
  refine hK _ _ ?_
  clear hK K
  refine AW.cond_t rfl ?_
  refine AW.seq_k fun K hK => ?_
  refine AW.region (by decide) ?_
  simp only [push_cast, Nat.reduceAdd, Nat.reduceMul, Nat.reduceSub, Nat.reduceLeDiff, Nat.reduceLT, Nat.reduceEqDiff, Nat.reduceBEq, Nat.reduceBNe, Nat.reduceMod, Nat.reduceDiv, Int.reduceLE, Int.reduceLT, Int.reduceToNat, Int.reduceAdd, Int.reduceSub, Int.reduceMul, Int.reduceNeg, Int.reduceEq, Int.reduceBEq, Int.reduceBNe, ↓reduceIte, reduceCtorEq, String.reduceBNe, String.reduceEq, reduceDIte, Nat.reducePow, hov, hol, hot, o0, o1, o2, o3, o4, hbl, hbv, hbt, setD_cat, setR_cat, List.append_assoc, List.cons_append, List.nil_append, k0, k1, k2, k3]
  refine CThen.by (sy_down (m.length + 2) m.length (m.length + 1) n D _ hasD_cat.d hd) ?_
  simp only [push_cast, Nat.reduceAdd, Nat.reduceMul, Nat.reduceSub, Nat.reduceLeDiff, Nat.reduceLT, Nat.reduceEqDiff, Nat.reduceBEq, Nat.reduceBNe, Nat.reduceMod, Nat.reduceDiv, Int.reduceLE, Int.reduceLT, Int.reduceToNat, Int.reduceAdd, Int.reduceSub, Int.reduceMul, Int.reduceNeg, Int.reduceEq, Int.reduceBEq, Int.reduceBNe, ↓reduceIte, reduceCtorEq, String.reduceBNe, String.reduceEq, reduceDIte, Nat.reducePow, hov, hol, hot, o0, o1, o2, o3, o4, hbl, hbv, hbt, setD_cat, setR_cat, List.append_assoc, List.cons_append, List.nil_append, k0, k1, k2, k3]
  refine CThen.by (rsy_down (m.length + 3) (m.length + 4) (m.length + 5) n R _ hasR_cat.d (hrel.down.trans hd)) ?_
  simp only [push_cast, Nat.reduceAdd, Nat.reduceMul, Nat.reduceSub, Nat.reduceLeDiff, Nat.reduceLT, Nat.reduceEqDiff, Nat.reduceBEq, Nat.reduceBNe, Nat.reduceMod, Nat.reduceDiv, Int.reduceLE, Int.reduceLT, Int.reduceToNat, Int.reduceAdd, Int.reduceSub, Int.reduceMul, Int.reduceNeg, Int.reduceEq, Int.reduceBEq, Int.reduceBNe, ↓reduceIte, reduceCtorEq, String.reduceBNe, String.reduceEq, reduceDIte, Nat.reducePow, hov, hol, hot, o0, o1, o2, o3, o4, hbl, hbv, hbt, setD_cat, setR_cat, List.append_assoc, List.cons_append, List.nil_append, k0, k1, k2, k3]
  refine Thn_n ?_
  refine hK _ _ ?_
  clear hK K
  refine AW.ret ?_
  refine InB_r ?_
  refine Thn_r ?_
  refine hQ _ _ _ ?_
  rw [cat7]
  refine RetP.dropM (m1 := (m ++ (rowD n (D) :: mapD (D) :: drB m.length (m.length + 1) n (D) :: refB (m.length + 4) (m.length + 5) n (R) :: rowR (R).vs (R).su :: rowR (R).vl (R).lo :: T))) (by simp) (by first | exact Or.inr rfl | exact Or.inl rfl) ?_ ?_ hw2
  · simp only [resA, resOne, resTv, AV.tv, push_cast, Nat.reduceAdd, Nat.reduceMul, Nat.reduceSub, Nat.reduceLeDiff, Nat.reduceLT, Nat.reduceEqDiff, Nat.reduceBEq, Nat.reduceBNe, Nat.reduceMod, Nat.reduceDiv, Int.reduceLE, Int.reduceLT, Int.reduceToNat, Int.reduceAdd, Int.reduceSub, Int.reduceMul, Int.reduceNeg, Int.reduceEq, Int.reduceBEq, Int.reduceBNe, ↓reduceIte, reduceCtorEq, String.reduceBNe, String.reduceEq, reduceDIte, Nat.reducePow]
  · rfl
theorem does_s_no (n : Nat) (D : DS) (R : RS) (kd ax nx : Int) (b : List Int) (rk kn : Nat) (ks : Nat → Int) (m T : AMem) (hrel : Rel n D R) (hn : n ≤ 8192) (hb : b.length = 128) (hkr : m[rk]? = some ⟨.ro, 3, 0, 1, il kn ks⟩) (hkn : kn ≤ 60) (hk : kd = 1) (hd : D.down = false) (hz : D.fuse = 0) : Ctr Try.prog 14 [.one (.ptr (m.length + 2) 0 0), .one (.ptr (m.length + 3) 0 0), .agg (opC kd ax nx b rk kn)] (m ++ (rowD n (D) :: mapD (D) :: drB m.length (m.length + 1) n (D) :: refB (m.length + 4) (m.length + 5) n (R) :: rowR (R).vs (R).su :: rowR (R).vl (R).lo :: T)) (.one (.bool true)) (m ++ (rowD n (spD D) :: mapD (spD D) :: drB m.length (m.length + 1) n (spD D) :: refB (m.length + 4) (m.length + 5) n (spR R) :: rowR (spR R).vs (spR R).su :: rowR (spR R).vl (spR R).lo :: T)) := by
  refine Ctr.enter Try.func14 rfl (by decide) (rs := [.tmp 6]) (nt := 64) rfl rfl fun hwf Q hQ => ?_
  have hov := opC_vals kd ax nx b rk kn
  have hol := opC_len (kd := kd) (ax := ax) (nx := nx) (rk := rk) (kn := kn) hb
  have hot : (opC kd ax nx b rk kn).take 132 = opC kd ax nx b rk kn := List.take_of_length_le (by omega)
  have o0 : (opC kd ax nx b rk kn)[0]? = some (.int .i64 kd) := rfl
  have o1 : (opC kd ax nx b rk kn)[1]? = some (.int .i64 ax) := rfl
  have o2 : (opC kd ax nx b rk kn)[2]? = some (.int .i64 nx) := rfl
  have o3 := opC_b (kd := kd) (ax := ax) (nx := nx) (rk := rk) (kn := kn) hb
  have o4 := opC_k (kd := kd) (ax := ax) (nx := nx) (rk := rk) (kn := kn) hb
  have hbl := u8l_len b
  rw [hb] at hbl
  have hbv := u8l_vals b
  have hbt : (u8l b).take 128 = u8l b := List.take_of_length_le (by omega)
  have lrk := get_lt hkr
  have k0 : (kd == 0) = false := by rw [hk]; rfl
  have k1 : (kd == 1) = true := by rw [hk]; rfl
  have k2 : (kd == 2) = false := by rw [hk]; rfl
  have k3 : (kd == 3) = false := by rw [hk]; rfl
  have hw2 : MWf (m ++ (rowD n (D) :: mapD (D) :: drB m.length (m.length + 1) n (D) :: refB (m.length + 4) (m.length + 5) n (R) :: rowR (R).vs (R).su :: rowR (R).vl (R).lo :: T)).length (m ++ (rowD n (spD D) :: mapD (spD D) :: drB m.length (m.length + 1) n (spD D) :: refB (m.length + 4) (m.length + 5) n (spR R) :: rowR (spR R).vs (spR R).su :: rowR (spR R).vl (spR R).lo :: T)) := six_wf (by simp) hwf
  refine AW.seq_k fun K hK => ?_
  refine AW.region (by decide) ?_
  simp only [push_cast, Nat.reduceAdd, Nat.reduceMul, Nat.reduceSub, Nat.reduceLeDiff, Nat.reduceLT, Nat.reduceEqDiff, Nat.reduceBEq, Nat.reduceBNe, Nat.reduceMod, Nat.reduceDiv, Int.reduceLE, Int.reduceLT, Int.reduceToNat, Int.reduceAdd, Int.reduceSub, Int.reduceMul, Int.reduceNeg, Int.reduceEq, Int.reduceBEq, Int.reduceBNe, ↓reduceIte, reduceCtorEq, String.reduceBNe, String.reduceEq, reduceDIte, Nat.reducePow, hov, hol, hot, o0, o1, o2, o3, o4, hbl, hbv, hbt, setD_cat, setR_cat, List.append_assoc, List.cons_append, List.nil_append, k0, k1, k2, k3]
  refine Thn_n ?_
  refine hK _ _ ?_
  clear hK K
  refine AW.seq_k fun K hK => ?_
  refine AW.seq_k fun K hK => ?_
  refine AW.region (by decide) ?_
  simp only [push_cast, Nat.reduceAdd, Nat.reduceMul, Nat.reduceSub, Nat.reduceLeDiff, Nat.reduceLT, Nat.reduceEqDiff, Nat.reduceBEq, Nat.reduceBNe, Nat.reduceMod, Nat.reduceDiv, Int.reduceLE, Int.reduceLT, Int.reduceToNat, Int.reduceAdd, Int.reduceSub, Int.reduceMul, Int.reduceNeg, Int.reduceEq, Int.reduceBEq, Int.reduceBNe, ↓reduceIte, reduceCtorEq, String.reduceBNe, String.reduceEq, reduceDIte, Nat.reducePow, hov, hol, hot, o0, o1, o2, o3, o4, hbl, hbv, hbt, setD_cat, setR_cat, List.append_assoc, List.cons_append, List.nil_append, k0, k1, k2, k3]
  refine Thn_n ?_
  refine hK _ _ ?_
  clear hK K
  refine AW.block ?_
  refine AW.seq_k fun K hK => ?_
  refine AW.region (by decide) ?_
  simp only [push_cast, Nat.reduceAdd, Nat.reduceMul, Nat.reduceSub, Nat.reduceLeDiff, Nat.reduceLT, Nat.reduceEqDiff, Nat.reduceBEq, Nat.reduceBNe, Nat.reduceMod, Nat.reduceDiv, Int.reduceLE, Int.reduceLT, Int.reduceToNat, Int.reduceAdd, Int.reduceSub, Int.reduceMul, Int.reduceNeg, Int.reduceEq, Int.reduceBEq, Int.reduceBNe, ↓reduceIte, reduceCtorEq, String.reduceBNe, String.reduceEq, reduceDIte, Nat.reducePow, hov, hol, hot, o0, o1, o2, o3, o4, hbl, hbv, hbt, setD_cat, setR_cat, List.append_assoc, List.cons_append, List.nil_append, k0, k1, k2, k3]
  refine Thn_n ?_
  refine hK _ _ ?_
  clear hK K
  refine AW.cond_f rfl ?_
  refine AW.seq_k fun K hK => ?_
  refine AW.region (by decide) ?_
  simp only [push_cast, Nat.reduceAdd, Nat.reduceMul, Nat.reduceSub, Nat.reduceLeDiff, Nat.reduceLT, Nat.reduceEqDiff, Nat.reduceBEq, Nat.reduceBNe, Nat.reduceMod, Nat.reduceDiv, Int.reduceLE, Int.reduceLT, Int.reduceToNat, Int.reduceAdd, Int.reduceSub, Int.reduceMul, Int.reduceNeg, Int.reduceEq, Int.reduceBEq, Int.reduceBNe, ↓reduceIte, reduceCtorEq, String.reduceBNe, String.reduceEq, reduceDIte, Nat.reducePow, hov, hol, hot, o0, o1, o2, o3, o4, hbl, hbv, hbt, setD_cat, setR_cat, List.append_assoc, List.cons_append, List.nil_append, k0, k1, k2, k3]
  refine Thn_n ?_
  refine hK _ _ ?_
  clear hK K
  refine AW.cond_t rfl ?_
  refine AW.seq_k fun K hK => ?_
  refine AW.region (by decide) ?_
  simp only [push_cast, Nat.reduceAdd, Nat.reduceMul, Nat.reduceSub, Nat.reduceLeDiff, Nat.reduceLT, Nat.reduceEqDiff, Nat.reduceBEq, Nat.reduceBNe, Nat.reduceMod, Nat.reduceDiv, Int.reduceLE, Int.reduceLT, Int.reduceToNat, Int.reduceAdd, Int.reduceSub, Int.reduceMul, Int.reduceNeg, Int.reduceEq, Int.reduceBEq, Int.reduceBNe, ↓reduceIte, reduceCtorEq, String.reduceBNe, String.reduceEq, reduceDIte, Nat.reducePow, hov, hol, hot, o0, o1, o2, o3, o4, hbl, hbv, hbt, setD_cat, setR_cat, List.append_assoc, List.cons_append, List.nil_append, k0, k1, k2, k3]
  refine CThen.by (sy_no (m.length + 2) m.length (m.length + 1) n D _ hasD_cat hd hz) ?_
  simp only [push_cast, Nat.reduceAdd, Nat.reduceMul, Nat.reduceSub, Nat.reduceLeDiff, Nat.reduceLT, Nat.reduceEqDiff, Nat.reduceBEq, Nat.reduceBNe, Nat.reduceMod, Nat.reduceDiv, Int.reduceLE, Int.reduceLT, Int.reduceToNat, Int.reduceAdd, Int.reduceSub, Int.reduceMul, Int.reduceNeg, Int.reduceEq, Int.reduceBEq, Int.reduceBNe, ↓reduceIte, reduceCtorEq, String.reduceBNe, String.reduceEq, reduceDIte, Nat.reducePow, hov, hol, hot, o0, o1, o2, o3, o4, hbl, hbv, hbt, setD_cat, setR_cat, List.append_assoc, List.cons_append, List.nil_append, k0, k1, k2, k3]
  refine CThen.by (rsy_no (m.length + 3) (m.length + 4) (m.length + 5) n R _ hasR_cat (hrel.down.trans hd) (hrel.fuse.trans hz)) ?_
  simp only [push_cast, Nat.reduceAdd, Nat.reduceMul, Nat.reduceSub, Nat.reduceLeDiff, Nat.reduceLT, Nat.reduceEqDiff, Nat.reduceBEq, Nat.reduceBNe, Nat.reduceMod, Nat.reduceDiv, Int.reduceLE, Int.reduceLT, Int.reduceToNat, Int.reduceAdd, Int.reduceSub, Int.reduceMul, Int.reduceNeg, Int.reduceEq, Int.reduceBEq, Int.reduceBNe, ↓reduceIte, reduceCtorEq, String.reduceBNe, String.reduceEq, reduceDIte, Nat.reducePow, hov, hol, hot, o0, o1, o2, o3, o4, hbl, hbv, hbt, setD_cat, setR_cat, List.append_assoc, List.cons_append, List.nil_append, k0, k1, k2, k3]
  refine Thn_n ?_
  refine hK _ _ ?_
  clear hK K
  refine AW.ret ?_
  refine InB_r ?_
  refine Thn_r ?_
  refine hQ _ _ _ ?_
  rw [cat7]
  refine RetP.dropM (m1 := (m ++ (rowD n (spD D) :: mapD (spD D) :: drB m.length (m.length + 1) n (spD D) :: refB (m.length + 4) (m.length + 5) n (spR R) :: rowR (spR R).vs (spR R).su :: rowR (spR R).vl (spR R).lo :: T))) (by simp) (by first | exact Or.inr rfl | exact Or.inl rfl) ?_ ?_ hw2
  · simp only [resA, resOne, resTv, AV.tv, push_cast, Nat.reduceAdd, Nat.reduceMul, Nat.reduceSub, Nat.reduceLeDiff, Nat.reduceLT, Nat.reduceEqDiff, Nat.reduceBEq, Nat.reduceBNe, Nat.reduceMod, Nat.reduceDiv, Int.reduceLE, Int.reduceLT, Int.reduceToNat, Int.reduceAdd, Int.reduceSub, Int.reduceMul, Int.reduceNeg, Int.reduceEq, Int.reduceBEq, Int.reduceBNe, ↓reduceIte, reduceCtorEq, String.reduceBNe, String.reduceEq, reduceDIte, Nat.reducePow]
  · rfl
theorem does_s_ok (n : Nat) (D : DS) (R : RS) (kd ax nx : Int) (b : List Int) (rk kn : Nat) (ks : Nat → Int) (m T : AMem) (hrel : Rel n D R) (hn : n ≤ 8192) (hb : b.length = 128) (hkr : m[rk]? = some ⟨.ro, 3, 0, 1, il kn ks⟩) (hkn : kn ≤ 60) (hk : kd = 1) (hd : D.down = false) (hz : ¬ D.fuse = 0) : Ctr Try.prog 14 [.one (.ptr (m.length + 2) 0 0), .one (.ptr (m.length + 3) 0 0), .agg (opC kd ax nx b rk kn)] (m ++ (rowD n (D) :: mapD (D) :: drB m.length (m.length + 1) n (D) :: refB (m.length + 4) (m.length + 5) n (R) :: rowR (R).vs (R).su :: rowR (R).vl (R).lo :: T)) (.one (.bool true)) (m ++ (rowD n (syD D) :: mapD (syD D) :: drB m.length (m.length + 1) n (syD D) :: refB (m.length + 4) (m.length + 5) n (syR R) :: rowR (syR R).vs (syR R).su :: rowR (syR R).vl (syR R).lo :: T)) := by
  refine Ctr.enter Try.func14 rfl (by decide) (rs := [.tmp 6]) (nt := 64) rfl rfl fun hwf Q hQ => ?_
  have hov := opC_vals kd ax nx b rk kn
  have hol := opC_len (kd := kd) (ax := ax) (nx := nx) (rk := rk) (kn := kn) hb
  have hot : (opC kd ax nx b rk kn).take 132 = opC kd ax nx b rk kn := List.take_of_length_le (by omega)
  have o0 : (opC kd ax nx b rk kn)[0]? = some (.int .i64 kd) := rfl
  have o1 : (opC kd ax nx b rk kn)[1]? = some (.int .i64 ax) := rfl
  have o2 : (opC kd ax nx b rk kn)[2]? = some (.int .i64 nx) := rfl
  have o3 := opC_b (kd := kd) (ax := ax) (nx := nx) (rk := rk) (kn := kn) hb
  have o4 := opC_k (kd := kd) (ax := ax) (nx := nx) (rk := rk) (kn := kn) hb
  have hbl := u8l_len b
  rw [hb] at hbl
  have hbv := u8l_vals b
  have hbt : (u8l b).take 128 = u8l b := List.take_of_length_le (by omega)
  have lrk := get_lt hkr
  have k0 : (kd == 0) = false := by rw [hk]; rfl
  have k1 : (kd == 1) = true := by rw [hk]; rfl
  have k2 : (kd == 2) = false := by rw [hk]; rfl
  have k3 : (kd == 3) = false := by rw [hk]; rfl
  have hw2 : MWf (m ++ (rowD n (D) :: mapD (D) :: drB m.length (m.length + 1) n (D) :: refB (m.length + 4) (m.length + 5) n (R) :: rowR (R).vs (R).su :: rowR (R).vl (R).lo :: T)).length (m ++ (rowD n (syD D) :: mapD (syD D) :: drB m.length (m.length + 1) n (syD D) :: refB (m.length + 4) (m.length + 5) n (syR R) :: rowR (syR R).vs (syR R).su :: rowR (syR R).vl (syR R).lo :: T)) := six_wf (by simp) hwf
  refine AW.seq_k fun K hK => ?_
  refine AW.region (by decide) ?_
  simp only [push_cast, Nat.reduceAdd, Nat.reduceMul, Nat.reduceSub, Nat.reduceLeDiff, Nat.reduceLT, Nat.reduceEqDiff, Nat.reduceBEq, Nat.reduceBNe, Nat.reduceMod, Nat.reduceDiv, Int.reduceLE, Int.reduceLT, Int.reduceToNat, Int.reduceAdd, Int.reduceSub, Int.reduceMul, Int.reduceNeg, Int.reduceEq, Int.reduceBEq, Int.reduceBNe, ↓reduceIte, reduceCtorEq, String.reduceBNe, String.reduceEq, reduceDIte, Nat.reducePow, hov, hol, hot, o0, o1, o2, o3, o4, hbl, hbv, hbt, setD_cat, setR_cat, List.append_assoc, List.cons_append, List.nil_append, k0, k1, k2, k3]
  refine Thn_n ?_
  refine hK _ _ ?_
  clear hK K
  refine AW.seq_k fun K hK => ?_
  refine AW.seq_k fun K hK => ?_
  refine AW.region (by decide) ?_
  simp only [push_cast, Nat.reduceAdd, Nat.reduceMul, Nat.reduceSub, Nat.reduceLeDiff, Nat.reduceLT, Nat.reduceEqDiff, Nat.reduceBEq, Nat.reduceBNe, Nat.reduceMod, Nat.reduceDiv, Int.reduceLE, Int.reduceLT, Int.reduceToNat, Int.reduceAdd, Int.reduceSub, Int.reduceMul, Int.reduceNeg, Int.reduceEq, Int.reduceBEq, Int.reduceBNe, ↓reduceIte, reduceCtorEq, String.reduceBNe, String.reduceEq, reduceDIte, Nat.reducePow, hov, hol, hot, o0, o1, o2, o3, o4, hbl, hbv, hbt, setD_cat, setR_cat, List.append_assoc, List.cons_append, List.nil_append, k0, k1, k2, k3]
  refine Thn_n ?_
  refine hK _ _ ?_
  clear hK K
  refine AW.block ?_
  refine AW.seq_k fun K hK => ?_
  refine AW.region (by decide) ?_
  simp only [push_cast, Nat.reduceAdd, Nat.reduceMul, Nat.reduceSub, Nat.reduceLeDiff, Nat.reduceLT, Nat.reduceEqDiff, Nat.reduceBEq, Nat.reduceBNe, Nat.reduceMod, Nat.reduceDiv, Int.reduceLE, Int.reduceLT, Int.reduceToNat, Int.reduceAdd, Int.reduceSub, Int.reduceMul, Int.reduceNeg, Int.reduceEq, Int.reduceBEq, Int.reduceBNe, ↓reduceIte, reduceCtorEq, String.reduceBNe, String.reduceEq, reduceDIte, Nat.reducePow, hov, hol, hot, o0, o1, o2, o3, o4, hbl, hbv, hbt, setD_cat, setR_cat, List.append_assoc, List.cons_append, List.nil_append, k0, k1, k2, k3]
  refine Thn_n ?_
  refine hK _ _ ?_
  clear hK K
  refine AW.cond_f rfl ?_
  refine AW.seq_k fun K hK => ?_
  refine AW.region (by decide) ?_
  simp only [push_cast, Nat.reduceAdd, Nat.reduceMul, Nat.reduceSub, Nat.reduceLeDiff, Nat.reduceLT, Nat.reduceEqDiff, Nat.reduceBEq, Nat.reduceBNe, Nat.reduceMod, Nat.reduceDiv, Int.reduceLE, Int.reduceLT, Int.reduceToNat, Int.reduceAdd, Int.reduceSub, Int.reduceMul, Int.reduceNeg, Int.reduceEq, Int.reduceBEq, Int.reduceBNe, ↓reduceIte, reduceCtorEq, String.reduceBNe, String.reduceEq, reduceDIte, Nat.reducePow, hov, hol, hot, o0, o1, o2, o3, o4, hbl, hbv, hbt, setD_cat, setR_cat, List.append_assoc, List.cons_append, List.nil_append, k0, k1, k2, k3]
  refine Thn_n ?_
  refine hK _ _ ?_
  clear hK K
  refine AW.cond_t rfl ?_
  refine AW.seq_k fun K hK => ?_
  refine AW.region (by decide) ?_
  simp only [push_cast, Nat.reduceAdd, Nat.reduceMul, Nat.reduceSub, Nat.reduceLeDiff, Nat.reduceLT, Nat.reduceEqDiff, Nat.reduceBEq, Nat.reduceBNe, Nat.reduceMod, Nat.reduceDiv, Int.reduceLE, Int.reduceLT, Int.reduceToNat, Int.reduceAdd, Int.reduceSub, Int.reduceMul, Int.reduceNeg, Int.reduceEq, Int.reduceBEq, Int.reduceBNe, ↓reduceIte, reduceCtorEq, String.reduceBNe, String.reduceEq, reduceDIte, Nat.reducePow, hov, hol, hot, o0, o1, o2, o3, o4, hbl, hbv, hbt, setD_cat, setR_cat, List.append_assoc, List.cons_append, List.nil_append, k0, k1, k2, k3]
  refine CThen.by (sy_ok (m.length + 2) m.length (m.length + 1) n D _ hasD_cat hd hrel.d hz) ?_
  simp only [push_cast, Nat.reduceAdd, Nat.reduceMul, Nat.reduceSub, Nat.reduceLeDiff, Nat.reduceLT, Nat.reduceEqDiff, Nat.reduceBEq, Nat.reduceBNe, Nat.reduceMod, Nat.reduceDiv, Int.reduceLE, Int.reduceLT, Int.reduceToNat, Int.reduceAdd, Int.reduceSub, Int.reduceMul, Int.reduceNeg, Int.reduceEq, Int.reduceBEq, Int.reduceBNe, ↓reduceIte, reduceCtorEq, String.reduceBNe, String.reduceEq, reduceDIte, Nat.reducePow, hov, hol, hot, o0, o1, o2, o3, o4, hbl, hbv, hbt, setD_cat, setR_cat, List.append_assoc, List.cons_append, List.nil_append, k0, k1, k2, k3]
  refine CThen.by (rsy_ok (m.length + 3) (m.length + 4) (m.length + 5) n R _ hasR_cat (hrel.down.trans hd) (by rw [hrel.fuse]; exact hz) hrel.s hrel.l hn) ?_
  simp only [push_cast, Nat.reduceAdd, Nat.reduceMul, Nat.reduceSub, Nat.reduceLeDiff, Nat.reduceLT, Nat.reduceEqDiff, Nat.reduceBEq, Nat.reduceBNe, Nat.reduceMod, Nat.reduceDiv, Int.reduceLE, Int.reduceLT, Int.reduceToNat, Int.reduceAdd, Int.reduceSub, Int.reduceMul, Int.reduceNeg, Int.reduceEq, Int.reduceBEq, Int.reduceBNe, ↓reduceIte, reduceCtorEq, String.reduceBNe, String.reduceEq, reduceDIte, Nat.reducePow, hov, hol, hot, o0, o1, o2, o3, o4, hbl, hbv, hbt, setD_cat, setR_cat, List.append_assoc, List.cons_append, List.nil_append, k0, k1, k2, k3]
  refine Thn_n ?_
  refine hK _ _ ?_
  clear hK K
  refine AW.ret ?_
  refine InB_r ?_
  refine Thn_r ?_
  refine hQ _ _ _ ?_
  rw [cat7]
  refine RetP.dropM (m1 := (m ++ (rowD n (syD D) :: mapD (syD D) :: drB m.length (m.length + 1) n (syD D) :: refB (m.length + 4) (m.length + 5) n (syR R) :: rowR (syR R).vs (syR R).su :: rowR (syR R).vl (syR R).lo :: T))) (by simp) (by first | exact Or.inr rfl | exact Or.inl rfl) ?_ ?_ hw2
  · simp only [resA, resOne, resTv, AV.tv, push_cast, Nat.reduceAdd, Nat.reduceMul, Nat.reduceSub, Nat.reduceLeDiff, Nat.reduceLT, Nat.reduceEqDiff, Nat.reduceBEq, Nat.reduceBNe, Nat.reduceMod, Nat.reduceDiv, Int.reduceLE, Int.reduceLT, Int.reduceToNat, Int.reduceAdd, Int.reduceSub, Int.reduceMul, Int.reduceNeg, Int.reduceEq, Int.reduceBEq, Int.reduceBNe, ↓reduceIte, reduceCtorEq, String.reduceBNe, String.reduceEq, reduceDIte, Nat.reducePow]
  · rfl
theorem does_f_down (n : Nat) (D : DS) (R : RS) (kd ax nx : Int) (b : List Int) (rk kn : Nat) (ks : Nat → Int) (m T : AMem) (hrel : Rel n D R) (hn : n ≤ 8192) (hb : b.length = 128) (hkr : m[rk]? = some ⟨.ro, 3, 0, 1, il kn ks⟩) (hkn : kn ≤ 60) (hk : kd = 2) (hd : D.down = true) : Ctr Try.prog 14 [.one (.ptr (m.length + 2) 0 0), .one (.ptr (m.length + 3) 0 0), .agg (opC kd ax nx b rk kn)] (m ++ (rowD n (D) :: mapD (D) :: drB m.length (m.length + 1) n (D) :: refB (m.length + 4) (m.length + 5) n (R) :: rowR (R).vs (R).su :: rowR (R).vl (R).lo :: T)) (.one (.bool true)) (m ++ (rowD n (D) :: mapD (D) :: drB m.length (m.length + 1) n (D) :: refB (m.length + 4) (m.length + 5) n (R) :: rowR (R).vs (R).su :: rowR (R).vl (R).lo :: T)) := by
  refine Ctr.enter Try.func14 rfl (by decide) (rs := [.tmp 6]) (nt := 64) rfl rfl fun hwf Q hQ => ?_
  have hov := opC_vals kd ax nx b rk kn
  have hol := opC_len (kd := kd) (ax := ax) (nx := nx) (rk := rk) (kn := kn) hb
  have hot : (opC kd ax nx b rk kn).take 132 = opC kd ax nx b rk kn := List.take_of_length_le (by omega)
  have o0 : (opC kd ax nx b rk kn)[0]? = some (.int .i64 kd) := rfl
  have o1 : (opC kd ax nx b rk kn)[1]? = some (.int .i64 ax) := rfl
  have o2 : (opC kd ax nx b rk kn)[2]? = some (.int .i64 nx) := rfl
  have o3 := opC_b (kd := kd) (ax := ax) (nx := nx) (rk := rk) (kn := kn) hb
  have o4 := opC_k (kd := kd) (ax := ax) (nx := nx) (rk := rk) (kn := kn) hb
  have hbl := u8l_len b
  rw [hb] at hbl
  have hbv := u8l_vals b
  have hbt : (u8l b).take 128 = u8l b := List.take_of_length_le (by omega)
  have lrk := get_lt hkr
  have k0 : (kd == 0) = false := by rw [hk]; rfl
  have k1 : (kd == 1) = false := by rw [hk]; rfl
  have k2 : (kd == 2) = true := by rw [hk]; rfl
  have k3 : (kd == 3) = false := by rw [hk]; rfl
  have hw2 : MWf (m ++ (rowD n (D) :: mapD (D) :: drB m.length (m.length + 1) n (D) :: refB (m.length + 4) (m.length + 5) n (R) :: rowR (R).vs (R).su :: rowR (R).vl (R).lo :: T)).length (m ++ (rowD n (D) :: mapD (D) :: drB m.length (m.length + 1) n (D) :: refB (m.length + 4) (m.length + 5) n (R) :: rowR (R).vs (R).su :: rowR (R).vl (R).lo :: T)) := six_wf (by simp) hwf
  have hrd2 : R.down = true := hrel.down.trans hd
  refine AW.seq_k fun K hK => ?_
  refine AW.region (by decide) ?_
  simp only [push_cast, Nat.reduceAdd, Nat.reduceMul, Nat.reduceSub, Nat.reduceLeDiff, Nat.reduceLT, Nat.reduceEqDiff, Nat.reduceBEq, Nat.reduceBNe, Nat.reduceMod, Nat.reduceDiv, Int.reduceLE, Int.reduceLT, Int.reduceToNat, Int.reduceAdd, Int.reduceSub, Int.reduceMul, Int.reduceNeg, Int.reduceEq, Int.reduceBEq, Int.reduceBNe, ↓reduceIte, reduceCtorEq, String.reduceBNe, String.reduceEq, reduceDIte, Nat.reducePow, hov, hol, hot, o0, o1, o2, o3, o4, hbl, hbv, hbt, setD_cat, setR_cat, List.append_assoc, List.cons_append, List.nil_append, k0, k1, k2, k3, refB, hrd2]
  refine Thn_n ?_
  refine hK _ _ ?_
  clear hK K
  refine AW.seq_k fun K hK => ?_
  refine AW.seq_k fun K hK => ?_
  refine AW.region (by decide) ?_
  simp only [push_cast, Nat.reduceAdd, Nat.reduceMul, Nat.reduceSub, Nat.reduceLeDiff, Nat.reduceLT, Nat.reduceEqDiff, Nat.reduceBEq, Nat.reduceBNe, Nat.reduceMod, Nat.reduceDiv, Int.reduceLE, Int.reduceLT, Int.reduceToNat, Int.reduceAdd, Int.reduceSub, Int.reduceMul, Int.reduceNeg, Int.reduceEq, Int.reduceBEq, Int.reduceBNe, ↓reduceIte, reduceCtorEq, String.reduceBNe, String.reduceEq, reduceDIte, Nat.reducePow, hov, hol, hot, o0, o1, o2, o3, o4, hbl, hbv, hbt, setD_cat, setR_cat, List.append_assoc, List.cons_append, List.nil_append, k0, k1, k2, k3, refB, hrd2]
  refine Thn_n ?_
  refine hK _ _ ?_
  clear hK K
  refine AW.block ?_
  iterate 2
    refine AW.seq_k fun K hK => ?_
    refine AW.region (by decide) ?_
    simp only [push_cast, Nat.reduceAdd, Nat.reduceMul, Nat.reduceSub, Nat.reduceLeDiff, Nat.reduceLT, Nat.reduceEqDiff, Nat.reduceBEq, Nat.reduceBNe, Nat.reduceMod, Nat.reduceDiv, Int.reduceLE, Int.reduceLT, Int.reduceToNat, Int.reduceAdd, Int.reduceSub, Int.reduceMul, Int.reduceNeg, Int.reduceEq, Int.reduceBEq, Int.reduceBNe, ↓reduceIte, reduceCtorEq, String.reduceBNe, String.reduceEq, reduceDIte, Nat.reducePow, hov, hol, hot, o0, o1, o2, o3, o4, hbl, hbv, hbt, setD_cat, setR_cat, List.append_assoc, List.cons_append, List.nil_append, k0, k1, k2, k3, refB, hrd2]
    refine Thn_n ?_
    refine hK _ _ ?_
    clear hK K
    refine AW.cond_f rfl ?_
  iterate 2
    refine AW.seq_k fun K hK => ?_
    refine AW.region (by decide) ?_
    simp only [push_cast, Nat.reduceAdd, Nat.reduceMul, Nat.reduceSub, Nat.reduceLeDiff, Nat.reduceLT, Nat.reduceEqDiff, Nat.reduceBEq, Nat.reduceBNe, Nat.reduceMod, Nat.reduceDiv, Int.reduceLE, Int.reduceLT, Int.reduceToNat, Int.reduceAdd, Int.reduceSub, Int.reduceMul, Int.reduceNeg, Int.reduceEq, Int.reduceBEq, Int.reduceBNe, ↓reduceIte, reduceCtorEq, String.reduceBNe, String.reduceEq, reduceDIte, Nat.reducePow, hov, hol, hot, o0, o1, o2, o3, o4, hbl, hbv, hbt, setD_cat, setR_cat, List.append_assoc, List.cons_append, List.nil_append, k0, k1, k2, k3, refB, hrd2]
    refine Thn_n ?_
    refine hK _ _ ?_
    clear hK K
    refine AW.cond_t rfl ?_
    refine AW.seq_k fun K hK => ?_
  refine AW.region (by decide) ?_
  simp only [push_cast, Nat.reduceAdd, Nat.reduceMul, Nat.reduceSub, Nat.reduceLeDiff, Nat.reduceLT, Nat.reduceEqDiff, Nat.reduceBEq, Nat.reduceBNe, Nat.reduceMod, Nat.reduceDiv, Int.reduceLE, Int.reduceLT, Int.reduceToNat, Int.reduceAdd, Int.reduceSub, Int.reduceMul, Int.reduceNeg, Int.reduceEq, Int.reduceBEq, Int.reduceBNe, ↓reduceIte, reduceCtorEq, String.reduceBNe, String.reduceEq, reduceDIte, Nat.reducePow, hov, hol, hot, o0, o1, o2, o3, o4, hbl, hbv, hbt, setD_cat, setR_cat, List.append_assoc, List.cons_append, List.nil_append, k0, k1, k2, k3, refB, hrd2]
  refine CThen.by (fu_down (m.length + 2) m.length (m.length + 1) n D nx _ hasD_cat.d hd) ?_
  simp only [push_cast, Nat.reduceAdd, Nat.reduceMul, Nat.reduceSub, Nat.reduceLeDiff, Nat.reduceLT, Nat.reduceEqDiff, Nat.reduceBEq, Nat.reduceBNe, Nat.reduceMod, Nat.reduceDiv, Int.reduceLE, Int.reduceLT, Int.reduceToNat, Int.reduceAdd, Int.reduceSub, Int.reduceMul, Int.reduceNeg, Int.reduceEq, Int.reduceBEq, Int.reduceBNe, ↓reduceIte, reduceCtorEq, String.reduceBNe, String.reduceEq, reduceDIte, Nat.reducePow, hov, hol, hot, o0, o1, o2, o3, o4, hbl, hbv, hbt, setD_cat, setR_cat, List.append_assoc, List.cons_append, List.nil_append, k0, k1, k2, k3, refB, hrd2]
  refine Thn_n ?_
  refine hK _ _ ?_
  clear hK K
  refine AW.ret ?_
  refine Thn_r ?_
  refine InB_r ?_
  refine Thn_r ?_
  refine hQ _ _ _ ?_
  rw [cat7]
  have hcell : refB (m.length + 4) (m.length + 5) n (R) = ⟨.fix, 61, 0, 0, [.int .i64 n, .sl (m.length + 4) R.vs 0 R.su.length, .sl (m.length + 5) R.vl 0 R.lo.length, .int .i64 R.fuse, .int .i64 R.steps, .bool true]⟩ := by simp [refB, fuR, hrd2]
  rw [hcell] at hw2 ⊢
  refine RetP.dropM (by simp) (by first | exact Or.inr rfl | exact Or.inl rfl) ?_ ?_ hw2
  · simp only [resA, resOne, resTv, AV.tv, push_cast, Nat.reduceAdd, Nat.reduceMul, Nat.reduceSub, Nat.reduceLeDiff, Nat.reduceLT, Nat.reduceEqDiff, Nat.reduceBEq, Nat.reduceBNe, Nat.reduceMod, Nat.reduceDiv, Int.reduceLE, Int.reduceLT, Int.reduceToNat, Int.reduceAdd, Int.reduceSub, Int.reduceMul, Int.reduceNeg, Int.reduceEq, Int.reduceBEq, Int.reduceBNe, ↓reduceIte, reduceCtorEq, String.reduceBNe, String.reduceEq, reduceDIte, Nat.reducePow]
  · rfl
theorem does_f_ok (n : Nat) (D : DS) (R : RS) (kd ax nx : Int) (b : List Int) (rk kn : Nat) (ks : Nat → Int) (m T : AMem) (hrel : Rel n D R) (hn : n ≤ 8192) (hb : b.length = 128) (hkr : m[rk]? = some ⟨.ro, 3, 0, 1, il kn ks⟩) (hkn : kn ≤ 60) (hk : kd = 2) (hd : D.down = false) : Ctr Try.prog 14 [.one (.ptr (m.length + 2) 0 0), .one (.ptr (m.length + 3) 0 0), .agg (opC kd ax nx b rk kn)] (m ++ (rowD n (D) :: mapD (D) :: drB m.length (m.length + 1) n (D) :: refB (m.length + 4) (m.length + 5) n (R) :: rowR (R).vs (R).su :: rowR (R).vl (R).lo :: T)) (.one (.bool true)) (m ++ (rowD n (fuD D nx) :: mapD (fuD D nx) :: drB m.length (m.length + 1) n (fuD D nx) :: refB (m.length + 4) (m.length + 5) n (fuR R nx) :: rowR (fuR R nx).vs (fuR R nx).su :: rowR (fuR R nx).vl (fuR R nx).lo :: T)) := by
  refine Ctr.enter Try.func14 rfl (by decide) (rs := [.tmp 6]) (nt := 64) rfl rfl fun hwf Q hQ => ?_
  have hov := opC_vals kd ax nx b rk kn
  have hol := opC_len (kd := kd) (ax := ax) (nx := nx) (rk := rk) (kn := kn) hb
  have hot : (opC kd ax nx b rk kn).take 132 = opC kd ax nx b rk kn := List.take_of_length_le (by omega)
  have o0 : (opC kd ax nx b rk kn)[0]? = some (.int .i64 kd) := rfl
  have o1 : (opC kd ax nx b rk kn)[1]? = some (.int .i64 ax) := rfl
  have o2 : (opC kd ax nx b rk kn)[2]? = some (.int .i64 nx) := rfl
  have o3 := opC_b (kd := kd) (ax := ax) (nx := nx) (rk := rk) (kn := kn) hb
  have o4 := opC_k (kd := kd) (ax := ax) (nx := nx) (rk := rk) (kn := kn) hb
  have hbl := u8l_len b
  rw [hb] at hbl
  have hbv := u8l_vals b
  have hbt : (u8l b).take 128 = u8l b := List.take_of_length_le (by omega)
  have lrk := get_lt hkr
  have k0 : (kd == 0) = false := by rw [hk]; rfl
  have k1 : (kd == 1) = false := by rw [hk]; rfl
  have k2 : (kd == 2) = true := by rw [hk]; rfl
  have k3 : (kd == 3) = false := by rw [hk]; rfl
  have hw2 : MWf (m ++ (rowD n (D) :: mapD (D) :: drB m.length (m.length + 1) n (D) :: refB (m.length + 4) (m.length + 5) n (R) :: rowR (R).vs (R).su :: rowR (R).vl (R).lo :: T)).length (m ++ (rowD n (fuD D nx) :: mapD (fuD D nx) :: drB m.length (m.length + 1) n (fuD D nx) :: refB (m.length + 4) (m.length + 5) n (fuR R nx) :: rowR (fuR R nx).vs (fuR R nx).su :: rowR (fuR R nx).vl (fuR R nx).lo :: T)) := six_wf (by simp) hwf
  have hrd2 : R.down = false := hrel.down.trans hd
  refine AW.seq_k fun K hK => ?_
  refine AW.region (by decide) ?_
  simp only [push_cast, Nat.reduceAdd, Nat.reduceMul, Nat.reduceSub, Nat.reduceLeDiff, Nat.reduceLT, Nat.reduceEqDiff, Nat.reduceBEq, Nat.reduceBNe, Nat.reduceMod, Nat.reduceDiv, Int.reduceLE, Int.reduceLT, Int.reduceToNat, Int.reduceAdd, Int.reduceSub, Int.reduceMul, Int.reduceNeg, Int.reduceEq, Int.reduceBEq, Int.reduceBNe, ↓reduceIte, reduceCtorEq, String.reduceBNe, String.reduceEq, reduceDIte, Nat.reducePow, hov, hol, hot, o0, o1, o2, o3, o4, hbl, hbv, hbt, setD_cat, setR_cat, List.append_assoc, List.cons_append, List.nil_append, k0, k1, k2, k3, refB, hrd2, fuR]
  refine Thn_n ?_
  refine hK _ _ ?_
  clear hK K
  refine AW.seq_k fun K hK => ?_
  refine AW.seq_k fun K hK => ?_
  refine AW.region (by decide) ?_
  simp only [push_cast, Nat.reduceAdd, Nat.reduceMul, Nat.reduceSub, Nat.reduceLeDiff, Nat.reduceLT, Nat.reduceEqDiff, Nat.reduceBEq, Nat.reduceBNe, Nat.reduceMod, Nat.reduceDiv, Int.reduceLE, Int.reduceLT, Int.reduceToNat, Int.reduceAdd, Int.reduceSub, Int.reduceMul, Int.reduceNeg, Int.reduceEq, Int.reduceBEq, Int.reduceBNe, ↓reduceIte, reduceCtorEq, String.reduceBNe, String.reduceEq, reduceDIte, Nat.reducePow, hov, hol, hot, o0, o1, o2, o3, o4, hbl, hbv, hbt, setD_cat, setR_cat, List.append_assoc, List.cons_append, List.nil_append, k0, k1, k2, k3, refB, hrd2, fuR]
  refine Thn_n ?_
  refine hK _ _ ?_
  clear hK K
  refine AW.block ?_
  iterate 2
    refine AW.seq_k fun K hK => ?_
    refine AW.region (by decide) ?_
    simp only [push_cast, Nat.reduceAdd, Nat.reduceMul, Nat.reduceSub, Nat.reduceLeDiff, Nat.reduceLT, Nat.reduceEqDiff, Nat.reduceBEq, Nat.reduceBNe, Nat.reduceMod, Nat.reduceDiv, Int.reduceLE, Int.reduceLT, Int.reduceToNat, Int.reduceAdd, Int.reduceSub, Int.reduceMul, Int.reduceNeg, Int.reduceEq, Int.reduceBEq, Int.reduceBNe, ↓reduceIte, reduceCtorEq, String.reduceBNe, String.reduceEq, reduceDIte, Nat.reducePow, hov, hol, hot, o0, o1, o2, o3, o4, hbl, hbv, hbt, setD_cat, setR_cat, List.append_assoc, List.cons_append, List.nil_append, k0, k1, k2, k3, refB, hrd2, fuR]
    refine Thn_n ?_
    refine hK _ _ ?_
    clear hK K
    refine AW.cond_f rfl ?_
  refine AW.seq_k fun K hK => ?_
  refine AW.region (by decide) ?_
  simp only [push_cast, Nat.reduceAdd, Nat.reduceMul, Nat.reduceSub, Nat.reduceLeDiff, Nat.reduceLT, Nat.reduceEqDiff, Nat.reduceBEq, Nat.reduceBNe, Nat.reduceMod, Nat.reduceDiv, Int.reduceLE, Int.reduceLT, Int.reduceToNat, Int.reduceAdd, Int.reduceSub, Int.reduceMul, Int.reduceNeg, Int.reduceEq, Int.reduceBEq, Int.reduceBNe, ↓reduceIte, reduceCtorEq, String.reduceBNe, String.reduceEq, reduceDIte, Nat.reducePow, hov, hol, hot, o0, o1, o2, o3, o4, hbl, hbv, hbt, setD_cat, setR_cat, List.append_assoc, List.cons_append, List.nil_append, k0, k1, k2, k3, refB, hrd2, fuR]
  refine Thn_n ?_
  refine hK _ _ ?_
  clear hK K
  refine AW.cond_t rfl ?_
  refine AW.seq_k fun K hK => ?_
  refine AW.seq_k fun K hK => ?_
  refine AW.region (by decide) ?_
  simp only [push_cast, Nat.reduceAdd, Nat.reduceMul, Nat.reduceSub, Nat.reduceLeDiff, Nat.reduceLT, Nat.reduceEqDiff, Nat.reduceBEq, Nat.reduceBNe, Nat.reduceMod, Nat.reduceDiv, Int.reduceLE, Int.reduceLT, Int.reduceToNat, Int.reduceAdd, Int.reduceSub, Int.reduceMul, Int.reduceNeg, Int.reduceEq, Int.reduceBEq, Int.reduceBNe, ↓reduceIte, reduceCtorEq, String.reduceBNe, String.reduceEq, reduceDIte, Nat.reducePow, hov, hol, hot, o0, o1, o2, o3, o4, hbl, hbv, hbt, setD_cat, setR_cat, List.append_assoc, List.cons_append, List.nil_append, k0, k1, k2, k3, refB, hrd2, fuR]
  refine Thn_n ?_
  refine hK _ _ ?_
  clear hK K
  refine AW.cond_f rfl ?_
  refine AW.skip ?_
  iterate 2
    refine Thn_n ?_
    refine hK _ _ ?_
    clear hK K
    refine AW.seq_k fun K hK => ?_
    refine AW.region (by decide) ?_
    simp only [push_cast, Nat.reduceAdd, Nat.reduceMul, Nat.reduceSub, Nat.reduceLeDiff, Nat.reduceLT, Nat.reduceEqDiff, Nat.reduceBEq, Nat.reduceBNe, Nat.reduceMod, Nat.reduceDiv, Int.reduceLE, Int.reduceLT, Int.reduceToNat, Int.reduceAdd, Int.reduceSub, Int.reduceMul, Int.reduceNeg, Int.reduceEq, Int.reduceBEq, Int.reduceBNe, ↓reduceIte, reduceCtorEq, String.reduceBNe, String.reduceEq, reduceDIte, Nat.reducePow, hov, hol, hot, o0, o1, o2, o3, o4, hbl, hbv, hbt, setD_cat, setR_cat, List.append_assoc, List.cons_append, List.nil_append, k0, k1, k2, k3, refB, hrd2, fuR]
  refine CThen.by (fu_ok (m.length + 2) m.length (m.length + 1) n D nx _ hasD_cat hd) ?_
  simp only [push_cast, Nat.reduceAdd, Nat.reduceMul, Nat.reduceSub, Nat.reduceLeDiff, Nat.reduceLT, Nat.reduceEqDiff, Nat.reduceBEq, Nat.reduceBNe, Nat.reduceMod, Nat.reduceDiv, Int.reduceLE, Int.reduceLT, Int.reduceToNat, Int.reduceAdd, Int.reduceSub, Int.reduceMul, Int.reduceNeg, Int.reduceEq, Int.reduceBEq, Int.reduceBNe, ↓reduceIte, reduceCtorEq, String.reduceBNe, String.reduceEq, reduceDIte, Nat.reducePow, hov, hol, hot, o0, o1, o2, o3, o4, hbl, hbv, hbt, setD_cat, setR_cat, List.append_assoc, List.cons_append, List.nil_append, k0, k1, k2, k3, refB, hrd2, fuR]
  refine Thn_n ?_
  refine hK _ _ ?_
  clear hK K
  refine AW.ret ?_
  refine InB_r ?_
  refine Thn_r ?_
  refine hQ _ _ _ ?_
  rw [cat7]
  have hcell : refB (m.length + 4) (m.length + 5) n (fuR R nx) = ⟨.fix, 61, 0, 0, [.int .i64 n, .sl (m.length + 4) R.vs 0 R.su.length, .sl (m.length + 5) R.vl 0 R.lo.length, .int .i64 (maxI nx (-1)), .int .i64 R.steps, .bool false]⟩ := by simp [refB, fuR, hrd2]
  rw [hcell] at hw2 ⊢
  refine RetP.dropM (by simp) (by first | exact Or.inr rfl | exact Or.inl rfl) ?_ ?_ hw2
  · simp only [resA, resOne, resTv, AV.tv, push_cast, Nat.reduceAdd, Nat.reduceMul, Nat.reduceSub, Nat.reduceLeDiff, Nat.reduceLT, Nat.reduceEqDiff, Nat.reduceBEq, Nat.reduceBNe, Nat.reduceMod, Nat.reduceDiv, Int.reduceLE, Int.reduceLT, Int.reduceToNat, Int.reduceAdd, Int.reduceSub, Int.reduceMul, Int.reduceNeg, Int.reduceEq, Int.reduceBEq, Int.reduceBNe, ↓reduceIte, reduceCtorEq, String.reduceBNe, String.reduceEq, reduceDIte, Nat.reducePow]
  · rfl
theorem does_c (n : Nat) (D : DS) (R : RS) (kd ax nx : Int) (b : List Int) (rk kn : Nat) (ks : Nat → Int) (m T : AMem) (hrel : Rel n D R) (hn : n ≤ 8192) (hb : b.length = 128) (hkr : m[rk]? = some ⟨.ro, 3, 0, 1, il kn ks⟩) (hkn : kn ≤ 60) (hk : kd = 3) : Ctr Try.prog 14 [.one (.ptr (m.length + 2) 0 0), .one (.ptr (m.length + 3) 0 0), .agg (opC kd ax nx b rk kn)] (m ++ (rowD n (D) :: mapD (D) :: drB m.length (m.length + 1) n (D) :: refB (m.length + 4) (m.length + 5) n (R) :: rowR (R).vs (R).su :: rowR (R).vl (R).lo :: T)) (.one (.bool true)) (m ++ (rowD n (crD D ks kn) :: mapD (crD D ks kn) :: drB m.length (m.length + 1) n (crD D ks kn) :: refB (m.length + 4) (m.length + 5) n (crR R ks kn) :: rowR (crR R ks kn).vs (crR R ks kn).su :: rowR (crR R ks kn).vl (crR R ks kn).lo :: T)) := by
  refine Ctr.enter Try.func14 rfl (by decide) (rs := [.tmp 6]) (nt := 64) rfl rfl fun hwf Q hQ => ?_
  have hov := opC_vals kd ax nx b rk kn
  have hol := opC_len (kd := kd) (ax := ax) (nx := nx) (rk := rk) (kn := kn) hb
  have hot : (opC kd ax nx b rk kn).take 132 = opC kd ax nx b rk kn := List.take_of_length_le (by omega)
  have o0 : (opC kd ax nx b rk kn)[0]? = some (.int .i64 kd) := rfl
  have o1 : (opC kd ax nx b rk kn)[1]? = some (.int .i64 ax) := rfl
  have o2 : (opC kd ax nx b rk kn)[2]? = some (.int .i64 nx) := rfl
  have o3 := opC_b (kd := kd) (ax := ax) (nx := nx) (rk := rk) (kn := kn) hb
  have o4 := opC_k (kd := kd) (ax := ax) (nx := nx) (rk := rk) (kn := kn) hb
  have hbl := u8l_len b
  rw [hb] at hbl
  have hbv := u8l_vals b
  have hbt : (u8l b).take 128 = u8l b := List.take_of_length_le (by omega)
  have lrk := get_lt hkr
  have k0 : (kd == 0) = false := by rw [hk]; rfl
  have k1 : (kd == 1) = false := by rw [hk]; rfl
  have k2 : (kd == 2) = false := by rw [hk]; rfl
  have k3 : (kd == 3) = true := by rw [hk]; rfl
  have hw2 : MWf (m ++ (rowD n (D) :: mapD (D) :: drB m.length (m.length + 1) n (D) :: refB (m.length + 4) (m.length + 5) n (R) :: rowR (R).vs (R).su :: rowR (R).vl (R).lo :: T)).length (m ++ (rowD n (crD D ks kn) :: mapD (crD D ks kn) :: drB m.length (m.length + 1) n (crD D ks kn) :: refB (m.length + 4) (m.length + 5) n (crR R ks kn) :: rowR (crR R ks kn).vs (crR R ks kn).su :: rowR (crR R ks kn).vl (crR R ks kn).lo :: T)) := six_wf (by simp) hwf
  refine AW.seq_k fun K hK => ?_
  refine AW.region (by decide) ?_
  simp only [push_cast, Nat.reduceAdd, Nat.reduceMul, Nat.reduceSub, Nat.reduceLeDiff, Nat.reduceLT, Nat.reduceEqDiff, Nat.reduceBEq, Nat.reduceBNe, Nat.reduceMod, Nat.reduceDiv, Int.reduceLE, Int.reduceLT, Int.reduceToNat, Int.reduceAdd, Int.reduceSub, Int.reduceMul, Int.reduceNeg, Int.reduceEq, Int.reduceBEq, Int.reduceBNe, ↓reduceIte, reduceCtorEq, String.reduceBNe, String.reduceEq, reduceDIte, Nat.reducePow, hov, hol, hot, o0, o1, o2, o3, o4, hbl, hbv, hbt, setD_cat, setR_cat, List.append_assoc, List.cons_append, List.nil_append, k0, k1, k2, k3]
  refine Thn_n ?_
  refine hK _ _ ?_
  clear hK K
  refine AW.seq_k fun K hK => ?_
  refine AW.seq_k fun K hK => ?_
  refine AW.region (by decide) ?_
  simp only [push_cast, Nat.reduceAdd, Nat.reduceMul, Nat.reduceSub, Nat.reduceLeDiff, Nat.reduceLT, Nat.reduceEqDiff, Nat.reduceBEq, Nat.reduceBNe, Nat.reduceMod, Nat.reduceDiv, Int.reduceLE, Int.reduceLT, Int.reduceToNat, Int.reduceAdd, Int.reduceSub, Int.reduceMul, Int.reduceNeg, Int.reduceEq, Int.reduceBEq, Int.reduceBNe, ↓reduceIte, reduceCtorEq, String.reduceBNe, String.reduceEq, reduceDIte, Nat.reducePow, hov, hol, hot, o0, o1, o2, o3, o4, hbl, hbv, hbt, setD_cat, setR_cat, List.append_assoc, List.cons_append, List.nil_append, k0, k1, k2, k3]
  refine Thn_n ?_
  refine hK _ _ ?_
  clear hK K
  refine AW.block ?_
  iterate 3
    refine AW.seq_k fun K hK => ?_
    refine AW.region (by decide) ?_
    simp only [push_cast, Nat.reduceAdd, Nat.reduceMul, Nat.reduceSub, Nat.reduceLeDiff, Nat.reduceLT, Nat.reduceEqDiff, Nat.reduceBEq, Nat.reduceBNe, Nat.reduceMod, Nat.reduceDiv, Int.reduceLE, Int.reduceLT, Int.reduceToNat, Int.reduceAdd, Int.reduceSub, Int.reduceMul, Int.reduceNeg, Int.reduceEq, Int.reduceBEq, Int.reduceBNe, ↓reduceIte, reduceCtorEq, String.reduceBNe, String.reduceEq, reduceDIte, Nat.reducePow, hov, hol, hot, o0, o1, o2, o3, o4, hbl, hbv, hbt, setD_cat, setR_cat, List.append_assoc, List.cons_append, List.nil_append, k0, k1, k2, k3]
    refine Thn_n ?_
    refine hK _ _ ?_
    clear hK K
    refine AW.cond_f rfl ?_
  refine AW.seq_k fun K hK => ?_
  refine AW.region (by decide) ?_
  simp only [push_cast, Nat.reduceAdd, Nat.reduceMul, Nat.reduceSub, Nat.reduceLeDiff, Nat.reduceLT, Nat.reduceEqDiff, Nat.reduceBEq, Nat.reduceBNe, Nat.reduceMod, Nat.reduceDiv, Int.reduceLE, Int.reduceLT, Int.reduceToNat, Int.reduceAdd, Int.reduceSub, Int.reduceMul, Int.reduceNeg, Int.reduceEq, Int.reduceBEq, Int.reduceBNe, ↓reduceIte, reduceCtorEq, String.reduceBNe, String.reduceEq, reduceDIte, Nat.reducePow, hov, hol, hot, o0, o1, o2, o3, o4, hbl, hbv, hbt, setD_cat, setR_cat, List.append_assoc, List.cons_append, List.nil_append, k0, k1, k2, k3]
  refine Thn_n ?_
  refine hK _ _ ?_
  clear hK K
  refine AW.cond_t rfl ?_
  refine AW.seq_k fun K hK => ?_
  refine AW.region (by decide) ?_
  simp only [push_cast, Nat.reduceAdd, Nat.reduceMul, Nat.reduceSub, Nat.reduceLeDiff, Nat.reduceLT, Nat.reduceEqDiff, Nat.reduceBEq, Nat.reduceBNe, Nat.reduceMod, Nat.reduceDiv, Int.reduceLE, Int.reduceLT, Int.reduceToNat, Int.reduceAdd, Int.reduceSub, Int.reduceMul, Int.reduceNeg, Int.reduceEq, Int.reduceBEq, Int.reduceBNe, ↓reduceIte, reduceCtorEq, String.reduceBNe, String.reduceEq, reduceDIte, Nat.reducePow, hov, hol, hot, o0, o1, o2, o3, o4, hbl, hbv, hbt, setD_cat, setR_cat, List.append_assoc, List.cons_append, List.nil_append, k0, k1, k2, k3]
  refine CThen.by (rcr_c (m.length + 3) (m.length + 4) (m.length + 5) n rk 0 kn R ks .ro 1 _ hasR_cat hrel.s hrel.l hn (lk_old hkr _) (by omega) (by omega) (by omega) (by omega)) ?_
  simp only [push_cast, Nat.reduceAdd, Nat.reduceMul, Nat.reduceSub, Nat.reduceLeDiff, Nat.reduceLT, Nat.reduceEqDiff, Nat.reduceBEq, Nat.reduceBNe, Nat.reduceMod, Nat.reduceDiv, Int.reduceLE, Int.reduceLT, Int.reduceToNat, Int.reduceAdd, Int.reduceSub, Int.reduceMul, Int.reduceNeg, Int.reduceEq, Int.reduceBEq, Int.reduceBNe, ↓reduceIte, reduceCtorEq, String.reduceBNe, String.reduceEq, reduceDIte, Nat.reducePow, hov, hol, hot, o0, o1, o2, o3, o4, hbl, hbv, hbt, setD_cat, setR_cat, List.append_assoc, List.cons_append, List.nil_append, k0, k1, k2, k3]
  refine Thn_n ?_
  refine hK _ _ ?_
  clear hK K
  refine AW.seq_k fun K hK => ?_
  refine AW.region (by decide) ?_
  simp only [push_cast, Nat.reduceAdd, Nat.reduceMul, Nat.reduceSub, Nat.reduceLeDiff, Nat.reduceLT, Nat.reduceEqDiff, Nat.reduceBEq, Nat.reduceBNe, Nat.reduceMod, Nat.reduceDiv, Int.reduceLE, Int.reduceLT, Int.reduceToNat, Int.reduceAdd, Int.reduceSub, Int.reduceMul, Int.reduceNeg, Int.reduceEq, Int.reduceBEq, Int.reduceBNe, ↓reduceIte, reduceCtorEq, String.reduceBNe, String.reduceEq, reduceDIte, Nat.reducePow, hov, hol, hot, o0, o1, o2, o3, o4, hbl, hbv, hbt, setD_cat, setR_cat, List.append_assoc, List.cons_append, List.nil_append, k0, k1, k2, k3]
  refine CThen.by (cr_c (m.length + 2) m.length (m.length + 1) n D rk 0 kn ks .ro 1 _ hasD_cat hrel.d (lk_old hkr _) (Or.inl rfl) (by omega) (by omega)) ?_
  simp only [push_cast, Nat.reduceAdd, Nat.reduceMul, Nat.reduceSub, Nat.reduceLeDiff, Nat.reduceLT, Nat.reduceEqDiff, Nat.reduceBEq, Nat.reduceBNe, Nat.reduceMod, Nat.reduceDiv, Int.reduceLE, Int.reduceLT, Int.reduceToNat, Int.reduceAdd, Int.reduceSub, Int.reduceMul, Int.reduceNeg, Int.reduceEq, Int.reduceBEq, Int.reduceBNe, ↓reduceIte, reduceCtorEq, String.reduceBNe, String.reduceEq, reduceDIte, Nat.reducePow, hov, hol, hot, o0, o1, o2, o3, o4, hbl, hbv, hbt, setD_cat, setR_cat, List.append_assoc, List.cons_append, List.nil_append, k0, k1, k2, k3]
  refine Thn_n ?_
  refine hK _ _ ?_
  clear hK K
  refine AW.ret ?_
  refine InB_r ?_
  refine Thn_r ?_
  refine hQ _ _ _ ?_
  rw [cat7]
  refine RetP.dropM (m1 := (m ++ (rowD n (crD D ks kn) :: mapD (crD D ks kn) :: drB m.length (m.length + 1) n (crD D ks kn) :: refB (m.length + 4) (m.length + 5) n (crR R ks kn) :: rowR (crR R ks kn).vs (crR R ks kn).su :: rowR (crR R ks kn).vl (crR R ks kn).lo :: T))) (by simp) (by first | exact Or.inr rfl | exact Or.inl rfl) ?_ ?_ hw2
  · simp only [resA, resOne, resTv, AV.tv, push_cast, Nat.reduceAdd, Nat.reduceMul, Nat.reduceSub, Nat.reduceLeDiff, Nat.reduceLT, Nat.reduceEqDiff, Nat.reduceBEq, Nat.reduceBNe, Nat.reduceMod, Nat.reduceDiv, Int.reduceLE, Int.reduceLT, Int.reduceToNat, Int.reduceAdd, Int.reduceSub, Int.reduceMul, Int.reduceNeg, Int.reduceEq, Int.reduceBEq, Int.reduceBNe, ↓reduceIte, reduceCtorEq, String.reduceBNe, String.reduceEq, reduceDIte, Nat.reducePow]
  · rfl
theorem does_n (n : Nat) (D : DS) (R : RS) (kd ax nx : Int) (b : List Int) (rk kn : Nat) (ks : Nat → Int) (m T : AMem) (hrel : Rel n D R) (hn : n ≤ 8192) (hb : b.length = 128) (hkr : m[rk]? = some ⟨.ro, 3, 0, 1, il kn ks⟩) (hkn : kn ≤ 60) (hk : (kd == 0) = false ∧ (kd == 1) = false ∧ (kd == 2) = false ∧ (kd == 3) = false) : Ctr Try.prog 14 [.one (.ptr (m.length + 2) 0 0), .one (.ptr (m.length + 3) 0 0), .agg (opC kd ax nx b rk kn)] (m ++ (rowD n (D) :: mapD (D) :: drB m.length (m.length + 1) n (D) :: refB (m.length + 4) (m.length + 5) n (R) :: rowR (R).vs (R).su :: rowR (R).vl (R).lo :: T)) (.one (.bool true)) (m ++ (rowD n (D) :: mapD (D) :: drB m.length (m.length + 1) n (D) :: refB (m.length + 4) (m.length + 5) n (R) :: rowR (R).vs (R).su :: rowR (R).vl (R).lo :: T)) := by
  refine Ctr.enter Try.func14 rfl (by decide) (rs := [.tmp 6]) (nt := 64) rfl rfl fun hwf Q hQ => ?_
  have hov := opC_vals kd ax nx b rk kn
  have hol := opC_len (kd := kd) (ax := ax) (nx := nx) (rk := rk) (kn := kn) hb
  have hot : (opC kd ax nx b rk kn).take 132 = opC kd ax nx b rk kn := List.take_of_length_le (by omega)
  have o0 : (opC kd ax nx b rk kn)[0]? = some (.int .i64 kd) := rfl
  have o1 : (opC kd ax nx b rk kn)[1]? = some (.int .i64 ax) := rfl
  have o2 : (opC kd ax nx b rk kn)[2]? = some (.int .i64 nx) := rfl
  have o3 := opC_b (kd := kd) (ax := ax) (nx := nx) (rk := rk) (kn := kn) hb
  have o4 := opC_k (kd := kd) (ax := ax) (nx := nx) (rk := rk) (kn := kn) hb
  have hbl := u8l_len b
  rw [hb] at hbl
  have hbv := u8l_vals b
  have hbt : (u8l b).take 128 = u8l b := List.take_of_length_le (by omega)
  have lrk := get_lt hkr
  have k0 : (kd == 0) = false := by simpa using hk.1
  have k1 : (kd == 1) = false := by simpa using hk.2.1
  have k2 : (kd == 2) = false := by simpa using hk.2.2.1
  have k3 : (kd == 3) = false := by simpa using hk.2.2.2
  have hw2 : MWf (m ++ (rowD n (D) :: mapD (D) :: drB m.length (m.length + 1) n (D) :: refB (m.length + 4) (m.length + 5) n (R) :: rowR (R).vs (R).su :: rowR (R).vl (R).lo :: T)).length (m ++ (rowD n (D) :: mapD (D) :: drB m.length (m.length + 1) n (D) :: refB (m.length + 4) (m.length + 5) n (R) :: rowR (R).vs (R).su :: rowR (R).vl (R).lo :: T)) := six_wf (by simp) hwf
  refine AW.seq_k fun K hK => ?_
  refine AW.region (by decide) ?_
  simp only [push_cast, Nat.reduceAdd, Nat.reduceMul, Nat.reduceSub, Nat.reduceLeDiff, Nat.reduceLT, Nat.reduceEqDiff, Nat.reduceBEq, Nat.reduceBNe, Nat.reduceMod, Nat.reduceDiv, Int.reduceLE, Int.reduceLT, Int.reduceToNat, Int.reduceAdd, Int.reduceSub, Int.reduceMul, Int.reduceNeg, Int.reduceEq, Int.reduceBEq, Int.reduceBNe, ↓reduceIte, reduceCtorEq, String.reduceBNe, String.reduceEq, reduceDIte, Nat.reducePow, hov, hol, hot, o0, o1, o2, o3, o4, hbl, hbv, hbt, setD_cat, setR_cat, List.append_assoc, List.cons_append, List.nil_append, k0, k1, k2, k3]
  refine Thn_n ?_
  refine hK _ _ ?_
  clear hK K
  refine AW.seq_k fun K hK => ?_
  refine AW.seq_k fun K hK => ?_
  refine AW.region (by decide) ?_
  simp only [push_cast, Nat.reduceAdd, Nat.reduceMul, Nat.reduceSub, Nat.reduceLeDiff, Nat.reduceLT, Nat.reduceEqDiff, Nat.reduceBEq, Nat.reduceBNe, Nat.reduceMod, Nat.reduceDiv, Int.reduceLE, Int.reduceLT, Int.reduceToNat, Int.reduceAdd, Int.reduceSub, Int.reduceMul, Int.reduceNeg, Int.reduceEq, Int.reduceBEq, Int.reduceBNe, ↓reduceIte, reduceCtorEq, String.reduceBNe, String.reduceEq, reduceDIte, Nat.reducePow, hov, hol, hot, o0, o1, o2, o3, o4, hbl, hbv, hbt, setD_cat, setR_cat, List.append_assoc, List.cons_append, List.nil_append, k0, k1, k2, k3]
  refine Thn_n ?_
  refine hK _ _ ?_
  clear hK K
  refine AW.block ?_
  iterate 4
    refine AW.seq_k fun K hK => ?_
    refine AW.region (by decide) ?_
    simp only [push_cast, Nat.reduceAdd, Nat.reduceMul, Nat.reduceSub, Nat.reduceLeDiff, Nat.reduceLT, Nat.reduceEqDiff, Nat.reduceBEq, Nat.reduceBNe, Nat.reduceMod, Nat.reduceDiv, Int.reduceLE, Int.reduceLT, Int.reduceToNat, Int.reduceAdd, Int.reduceSub, Int.reduceMul, Int.reduceNeg, Int.reduceEq, Int.reduceBEq, Int.reduceBNe, ↓reduceIte, reduceCtorEq, String.reduceBNe, String.reduceEq, reduceDIte, Nat.reducePow, hov, hol, hot, o0, o1, o2, o3, o4, hbl, hbv, hbt, setD_cat, setR_cat, List.append_assoc, List.cons_append, List.nil_append, k0, k1, k2, k3]
    refine Thn_n ?_
    refine hK _ _ ?_
    clear hK K
    refine AW.cond_f rfl ?_
  refine AW.skip ?_
  refine InB_n ?_
  refine Thn_n ?_
  refine hK _ _ ?_
  clear hK K
  refine AW.seq_k fun K hK => ?_
  refine AW.region (by decide) ?_
  simp only [push_cast, Nat.reduceAdd, Nat.reduceMul, Nat.reduceSub, Nat.reduceLeDiff, Nat.reduceLT, Nat.reduceEqDiff, Nat.reduceBEq, Nat.reduceBNe, Nat.reduceMod, Nat.reduceDiv, Int.reduceLE, Int.reduceLT, Int.reduceToNat, Int.reduceAdd, Int.reduceSub, Int.reduceMul, Int.reduceNeg, Int.reduceEq, Int.reduceBEq, Int.reduceBNe, ↓reduceIte, reduceCtorEq, String.reduceBNe, String.reduceEq, reduceDIte, Nat.reducePow, hov, hol, hot, o0, o1, o2, o3, o4, hbl, hbv, hbt, setD_cat, setR_cat, List.append_assoc, List.cons_append, List.nil_append, k0, k1, k2, k3]
  refine Thn_n ?_
  refine hK _ _ ?_
  clear hK K
  refine AW.ret ?_
  refine hQ _ _ _ ?_
  rw [cat7]
  refine RetP.dropM (m1 := (m ++ (rowD n (D) :: mapD (D) :: drB m.length (m.length + 1) n (D) :: refB (m.length + 4) (m.length + 5) n (R) :: rowR (R).vs (R).su :: rowR (R).vl (R).lo :: T))) (by simp) (by first | exact Or.inr rfl | exact Or.inl rfl) ?_ ?_ hw2
  · simp only [resA, resOne, resTv, AV.tv, push_cast, Nat.reduceAdd, Nat.reduceMul, Nat.reduceSub, Nat.reduceLeDiff, Nat.reduceLT, Nat.reduceEqDiff, Nat.reduceBEq, Nat.reduceBNe, Nat.reduceMod, Nat.reduceDiv, Int.reduceLE, Int.reduceLT, Int.reduceToNat, Int.reduceAdd, Int.reduceSub, Int.reduceMul, Int.reduceNeg, Int.reduceEq, Int.reduceBEq, Int.reduceBNe, ↓reduceIte, reduceCtorEq, String.reduceBNe, String.reduceEq, reduceDIte, Nat.reducePow]
  · rfl
end Go.Proofs.Ytcahlnddcjifdaa

set_option linter.unusedSimpArgs false
set_option linter.unusedVariables false
set_option maxRecDepth 100000
set_option maxHeartbeats 4000000
namespace Go.Proofs.Ytcahlnddcjifdaa
open Go Go.Eng

theorem does_all (n : Nat) (D : DS) (R : RS) (kd ax nx : Int) (b : List Int) (rk kn : Nat) (ks : Nat → Int) (m T : AMem) (hrel : Rel n D R) (hn : n ≤ 8192) (hb : b.length = 128) (hkr : m[rk]? = some ⟨.ro, 3, 0, 1, il kn ks⟩) (hkn : kn ≤ 60) : ∃ D' R', Rel n D' R' ∧ Ctr Try.prog 14 [.one (.ptr (m.length + 2) 0 0), .one (.ptr (m.length + 3) 0 0), .agg (opC kd ax nx b rk kn)] (m ++ (rowD n (D) :: mapD (D) :: drB m.length (m.length + 1) n (D) :: refB (m.length + 4) (m.length + 5) n (R) :: rowR (R).vs (R).su :: rowR (R).vl (R).lo :: T)) (.one (.bool true)) (m ++ (rowD n (D') :: mapD (D') :: drB m.length (m.length + 1) n (D') :: refB (m.length + 4) (m.length + 5) n (R') :: rowR (R').vs (R').su :: rowR (R').vl (R').lo :: T)) := by
  by_cases k0 : kd = 0
  · by_cases hd : D.down = true
    · exact ⟨_, _, hrel, does_w_down n D R kd ax nx b rk kn ks m T hrel hn hb hkr hkn k0 hd⟩
    · replace hd : D.down = false := by simpa using hd
      by_cases h1 : ax < 0
      · exact ⟨_, _, hrel, does_w_lo n D R kd ax nx b rk kn ks m T hrel hn hb hkr hkn k0 hd h1⟩
      · by_cases h2 : (n : Int) ≤ ax
        · exact ⟨_, _, hrel, does_w_hi n D R kd ax nx b rk kn ks m T hrel hn hb hkr hkn k0 hd h1 h2⟩
        · by_cases hz : D.fuse = 0
          · exact ⟨_, _, hrel.sp, does_w_no n D R kd ax nx b rk kn ks m T hrel hn hb hkr hkn k0 hd h1 h2 hz⟩
          · exact ⟨_, _, hrel.wr (by omega) (by omega) hb, does_w_ok n D R kd ax nx b rk kn ks m T hrel hn hb hkr hkn k0 hd h1 h2 hz⟩
  · by_cases k1 : kd = 1
    · by_cases hd : D.down = true
      · exact ⟨_, _, hrel, does_s_down n D R kd ax nx b rk kn ks m T hrel hn hb hkr hkn k1 hd⟩
      · replace hd : D.down = false := by simpa using hd
        by_cases hz : D.fuse = 0
        · exact ⟨_, _, hrel.sp, does_s_no n D R kd ax nx b rk kn ks m T hrel hn hb hkr hkn k1 hd hz⟩
        · exact ⟨_, _, hrel.sy, does_s_ok n D R kd ax nx b rk kn ks m T hrel hn hb hkr hkn k1 hd hz⟩
    · by_cases k2 : kd = 2
      · by_cases hd : D.down = true
        · exact ⟨_, _, hrel, does_f_down n D R kd ax nx b rk kn ks m T hrel hn hb hkr hkn k2 hd⟩
        · replace hd : D.down = false := by simpa using hd
          exact ⟨_, _, hrel.fu nx, does_f_ok n D R kd ax nx b rk kn ks m T hrel hn hb hkr hkn k2 hd⟩
      · by_cases k3 : kd = 3
        · exact ⟨_, _, hrel.cr ks kn, does_c n D R kd ax nx b rk kn ks m T hrel hn hb hkr hkn k3⟩
        · exact ⟨_, _, hrel, does_n n D R kd ax nx b rk kn ks m T hrel hn hb hkr hkn (by simp [beq_eq_false_iff_ne, k0, k1, k2, k3])⟩
theorem HasR.mono {m : AMem} {rd rs rl n : Nat} {R : RS} (h : HasR m rd rs rl n R) (x : AMem) : HasR (m ++ x) rd rs rl n R := ⟨lk_old h.d x, lk_old h.s x, lk_old h.l x, h.dr, h.dm, h.rm⟩
theorem read_any {n rd rs rm pd ps pl : Nat} {D : DS} {R : RS} {m : AMem} (hrel : Rel n D R) (hn : n ≤ 8192) (h : HasD m rd rs rm n D) (g : HasR m pd ps pl n R) (x : Int) : ∃ v z, v.length = 128 ∧ ∀ M : AMem, Ctr Try.prog 12 [.one (.ptr rd 0 0), .one (.int .i64 x)] (m ++ M) (.tup [(true, u8l v), (false, [.int .i64 z])]) (m ++ M) ∧ Ctr Try.prog 16 [.one (.ptr pd 0 0), .one (.int .i64 x)] (m ++ M) (.tup [(true, u8l v), (false, [.int .i64 z])]) (m ++ M) := by
  by_cases hd : D.down = true
  · exact ⟨zB, 5, rfl, fun M => ⟨rd_down rd rs rm n D x _ (h.mono M).d hd, rrd_down pd ps pl n R x _ (g.mono M).d (hrel.down.trans hd)⟩⟩
  · replace hd : D.down = false := by simpa using hd
    by_cases h1 : x < 0
    · exact ⟨zB, 1, rfl, fun M => ⟨rd_lo rd rs rm n D x _ (h.mono M).d hd h1, rrd_lo pd ps pl n R x _ (g.mono M).d (hrel.down.trans hd) h1⟩⟩
    · by_cases h2 : (n : Int) ≤ x
      · exact ⟨zB, 1, rfl, fun M => ⟨rd_hi rd rs rm n D x _ (h.mono M).d hd h1 h2, rrd_hi pd ps pl n R x _ (g.mono M).d (hrel.down.trans hd) h1 h2⟩⟩
      · obtain ⟨k, rfl⟩ : ∃ k : Nat, x = (k : Int) := ⟨x.toNat, by omega⟩
        have hk : k < n := by omega
        have e := hrel.vis hk
        refine ⟨_, 0, vis_len hrel.d.s hrel.d.e k, fun M => ⟨rd_ok rd rs rm n k D _ (h.mono M) hrel.d hd hk, ?_⟩⟩
        have h3 := rrd_ok pd ps pl n R (k : Int) _ (g.mono M) (hrel.down.trans hd) h1 h2 hrel.s hrel.l hn
        rw [e] at h3
        exact h3
theorem loose_r {n rd rs rm pd ps pl : Nat} {D : DS} {R : RS} {m : AMem} (hrel : Rel n D R) (hn : n ≤ 8192) (h : HasD m rd rs rm n D) (g : HasR m pd ps pl n R) : Ctr Try.prog 18 [.one (.ptr rd 0 0)] m (.one (.sl m.length 0 0 R.lo.length)) (m ++ [⟨.grow, 3, 0, 1, (R.lo.map (·.1)).map (CV.int .i64)⟩]) := by
  have h1 := loose_c rd rs rm n D m h hrel.d hn (by rw [hrel.size]; have := hrel.l.size; omega)
  rw [← hrel.keys, hrel.size] at h1
  exact h1
theorem keys_get {l : RE} {i : Nat} {e : Int × List Int} (h : l[i]? = some e) : ((l.map (·.1)).map (CV.int .i64))[i]? = some (.int .i64 e.1) := by simp [h]
theorem is_c (n rd rs rm pd ps pl : Nat) (D : DS) (R : RS) (m : AMem) (hrel : Rel n D R) (hn : n ≤ 8192) (h : HasD m rd rs rm n D) (g : HasR m pd ps pl n R) : Ctr Try.prog 15 [.one (.ptr rd 0 0), .one (.ptr pd 0 0)] m (.one (.bool true)) m := by
  refine Ctr.enter Try.func15 rfl (by decide) (rs := [.tmp 4]) (nt := 100) rfl rfl fun hwf Q hQ => ?_
  have hpd := g.d
  have hpl := g.l
  have lpd := get_lt hpd
  have lrd := get_lt h.d
  have lpl := get_lt hpl
  have hll := hrel.l.size
  have hst := hrel.steps
  have hdn := hrel.down
  refine AW.seq_k fun K hK => ?_
  refine AW.region (by decide) ?_
  simp only [push_cast, Nat.reduceAdd, Nat.reduceMul, Nat.reduceSub, Nat.reduceLeDiff, Nat.reduceLT, Nat.reduceEqDiff, Nat.reduceBEq, Nat.reduceBNe, Nat.reduceMod, Nat.reduceDiv, Int.reduceLE, Int.reduceLT, Int.reduceToNat, Int.reduceAdd, Int.reduceSub, Int.reduceMul, Int.reduceNeg, Int.reduceEq, Int.reduceBEq, Int.reduceBNe, ↓reduceIte, reduceCtorEq, String.reduceBNe, String.reduceEq, reduceDIte, Nat.reducePow, hpd, lk_old hpd, hpl, lk_old hpl, refB, rowR, hst, hdn, bne_self_eq_false]
  refine Thn_n ?_
  refine hK _ _ ?_
  clear hK K
  refine AW.seq_k fun K hK => ?_
  refine AW.region (by decide) ?_
  simp only [push_cast, Nat.reduceAdd, Nat.reduceMul, Nat.reduceSub, Nat.reduceLeDiff, Nat.reduceLT, Nat.reduceEqDiff, Nat.reduceBEq, Nat.reduceBNe, Nat.reduceMod, Nat.reduceDiv, Int.reduceLE, Int.reduceLT, Int.reduceToNat, Int.reduceAdd, Int.reduceSub, Int.reduceMul, Int.reduceNeg, Int.reduceEq, Int.reduceBEq, Int.reduceBNe, ↓reduceIte, reduceCtorEq, String.reduceBNe, String.reduceEq, reduceDIte, Nat.reducePow, hpd, lk_old hpd, hpl, lk_old hpl, refB, rowR, hst, hdn, bne_self_eq_false]
  refine CThen.by (loose_r hrel hn h g) ?_
  simp only [push_cast, Nat.reduceAdd, Nat.reduceMul, Nat.reduceSub, Nat.reduceLeDiff, Nat.reduceLT, Nat.reduceEqDiff, Nat.reduceBEq, Nat.reduceBNe, Nat.reduceMod, Nat.reduceDiv, Int.reduceLE, Int.reduceLT, Int.reduceToNat, Int.reduceAdd, Int.reduceSub, Int.reduceMul, Int.reduceNeg, Int.reduceEq, Int.reduceBEq, Int.reduceBNe, ↓reduceIte, reduceCtorEq, String.reduceBNe, String.reduceEq, reduceDIte, Nat.reducePow, hpd, lk_old hpd, hpl, lk_old hpl, refB, rowR, hst, hdn, bne_self_eq_false]
  refine Thn_n ?_
  refine hK _ _ ?_
  clear hK K
  refine AW.seq_k fun K hK => ?_
  refine AW.seq_k fun K hK => ?_
  refine AW.draw [.val, .ext, .val, .val, .val, .rd 0, .val, .val, .val, .val, .val, .val, .val, .rd 1, .val, .val, .val, .val, .val, .ext, .val, .val, .val, .rd 1, .val, .val, .val, .val, .ext, .val, .val, .val, .rd 2, .val, .val] fol (by decide) (by kernel_rfl) ?_
  simp only [push_cast, Nat.reduceAdd, Nat.reduceMul, Nat.reduceSub, Nat.reduceLeDiff, Nat.reduceLT, Nat.reduceEqDiff, Nat.reduceBEq, Nat.reduceBNe, Nat.reduceMod, Nat.reduceDiv, Int.reduceLE, Int.reduceLT, Int.reduceToNat, Int.reduceAdd, Int.reduceSub, Int.reduceMul, Int.reduceNeg, Int.reduceEq, Int.reduceBEq, Int.reduceBNe, ↓reduceIte, reduceCtorEq, String.reduceBNe, String.reduceEq, reduceDIte, Nat.reducePow, hpd, lk_old hpd, hpl, lk_old hpl, refB, rowR, hst, hdn, bne_self_eq_false]
  refine DCall.by0 (blocks_c rd rs rm n D _ (lk_old h.d _)) ?_
  simp only [push_cast, Nat.reduceAdd, Nat.reduceMul, Nat.reduceSub, Nat.reduceLeDiff, Nat.reduceLT, Nat.reduceEqDiff, Nat.reduceBEq, Nat.reduceBNe, Nat.reduceMod, Nat.reduceDiv, Int.reduceLE, Int.reduceLT, Int.reduceToNat, Int.reduceAdd, Int.reduceSub, Int.reduceMul, Int.reduceNeg, Int.reduceEq, Int.reduceBEq, Int.reduceBNe, ↓reduceIte, reduceCtorEq, String.reduceBNe, String.reduceEq, reduceDIte, Nat.reducePow, hpd, lk_old hpd, hpl, lk_old hpl, refB, rowR, hst, hdn, bne_self_eq_false]
  refine DCall.by0 (down_c rd rs rm n D _ (lk_old h.d _)) ?_
  simp only [push_cast, Nat.reduceAdd, Nat.reduceMul, Nat.reduceSub, Nat.reduceLeDiff, Nat.reduceLT, Nat.reduceEqDiff, Nat.reduceBEq, Nat.reduceBNe, Nat.reduceMod, Nat.reduceDiv, Int.reduceLE, Int.reduceLT, Int.reduceToNat, Int.reduceAdd, Int.reduceSub, Int.reduceMul, Int.reduceNeg, Int.reduceEq, Int.reduceBEq, Int.reduceBNe, ↓reduceIte, reduceCtorEq, String.reduceBNe, String.reduceEq, reduceDIte, Nat.reducePow, hpd, lk_old hpd, hpl, lk_old hpl, refB, rowR, hst, hdn, bne_self_eq_false]
  refine DCall.by0 (steps_c rd rs rm n D _ (lk_old h.d _)) ?_
  simp only [push_cast, Nat.reduceAdd, Nat.reduceMul, Nat.reduceSub, Nat.reduceLeDiff, Nat.reduceLT, Nat.reduceEqDiff, Nat.reduceBEq, Nat.reduceBNe, Nat.reduceMod, Nat.reduceDiv, Int.reduceLE, Int.reduceLT, Int.reduceToNat, Int.reduceAdd, Int.reduceSub, Int.reduceMul, Int.reduceNeg, Int.reduceEq, Int.reduceBEq, Int.reduceBNe, ↓reduceIte, reduceCtorEq, String.reduceBNe, String.reduceEq, reduceDIte, Nat.reducePow, hpd, lk_old hpd, hpl, lk_old hpl, refB, rowR, hst, hdn, bne_self_eq_false]
  refine Thn_n ?_
  refine hK _ _ ?_
  clear hK K
  refine AW.cond_f rfl ?_
  refine AW.skip ?_
  refine Thn_n ?_
  refine hK _ _ ?_
  clear hK K
  refine AW.seq_k fun K hK => ?_
  refine AW.seq_k fun K hK => ?_
  refine AW.region (by decide) ?_
  simp only [push_cast, Nat.reduceAdd, Nat.reduceMul, Nat.reduceSub, Nat.reduceLeDiff, Nat.reduceLT, Nat.reduceEqDiff, Nat.reduceBEq, Nat.reduceBNe, Nat.reduceMod, Nat.reduceDiv, Int.reduceLE, Int.reduceLT, Int.reduceToNat, Int.reduceAdd, Int.reduceSub, Int.reduceMul, Int.reduceNeg, Int.reduceEq, Int.reduceBEq, Int.reduceBNe, ↓reduceIte, reduceCtorEq, String.reduceBNe, String.reduceEq, reduceDIte, Nat.reducePow, hpd, lk_old hpd, hpl, lk_old hpl, refB, rowR, hst, hdn, bne_self_eq_false]
  refine Thn_n ?_
  refine hK _ _ ?_
  clear hK K
  refine AW.block ?_
  refine AW.loopK [0, 1, 50, 51] (fun i => i ≤ R.lo.length) (fun i => [(52, .one (.int .i64 (i : Int)))]) (fun i => []) (fun i => R.lo.length - i) 0 (by omega) ?_ ?_ fun i hi7 => ?_
  · first | rfl | (simp only [Keeps, Tm.get_cons, Nat.reduceEqDiff, ↓reduceIte, if_true, if_false, ite_true, ite_false, true_and, and_true, and_self, reduceCtorEq, Int.natCast_zero] <;> rfl)
  · first | rfl | (simp only [setAll, push_cast, Nat.reduceAdd, Nat.reduceMul, Nat.reduceSub, Nat.reduceLeDiff, Nat.reduceLT, Nat.reduceEqDiff, Nat.reduceBEq, Nat.reduceBNe, Nat.reduceMod, Nat.reduceDiv, Int.reduceLE, Int.reduceLT, Int.reduceToNat, Int.reduceAdd, Int.reduceSub, Int.reduceMul, Int.reduceNeg, Int.reduceEq, Int.reduceBEq, Int.reduceBNe, ↓reduceIte, reduceCtorEq, String.reduceBNe, String.reduceEq, reduceDIte, Nat.reducePow, hpd, lk_old hpd, hpl, lk_old hpl, refB, rowR, hst, hdn, bne_self_eq_false, Int.natCast_zero] <;> rfl)
  try simp only [keepL, setAll, push_cast, Nat.reduceAdd, Nat.reduceMul, Nat.reduceSub, Nat.reduceLeDiff, Nat.reduceLT, Nat.reduceEqDiff, Nat.reduceBEq, Nat.reduceBNe, Nat.reduceMod, Nat.reduceDiv, Int.reduceLE, Int.reduceLT, Int.reduceToNat, Int.reduceAdd, Int.reduceSub, Int.reduceMul, Int.reduceNeg, Int.reduceEq, Int.reduceBEq, Int.reduceBNe, ↓reduceIte, reduceCtorEq, String.reduceBNe, String.reduceEq, reduceDIte, Nat.reducePow, hpd, lk_old hpd, hpl, lk_old hpl, refB, rowR, hst, hdn, bne_self_eq_false]
  refine AW.seq_k fun K hK => ?_
  refine AW.region (by decide) ?_
  simp only [push_cast, Nat.reduceAdd, Nat.reduceMul, Nat.reduceSub, Nat.reduceLeDiff, Nat.reduceLT, Nat.reduceEqDiff, Nat.reduceBEq, Nat.reduceBNe, Nat.reduceMod, Nat.reduceDiv, Int.reduceLE, Int.reduceLT, Int.reduceToNat, Int.reduceAdd, Int.reduceSub, Int.reduceMul, Int.reduceNeg, Int.reduceEq, Int.reduceBEq, Int.reduceBNe, ↓reduceIte, reduceCtorEq, String.reduceBNe, String.reduceEq, reduceDIte, Nat.reducePow, hpd, lk_old hpd, hpl, lk_old hpl, refB, rowR, hst, hdn, bne_self_eq_false]
  refine Thn_n ?_
  refine hK _ _ ?_
  clear hK K
  refine AW.seq_k fun K hK => ?_
  refine AW.cond rfl (fun h53 => ?_) (fun h53 => ?_)
  · have hlt : i < R.lo.length := by have := of_decide_eq_true h53; omega
    have c1 : (0 : Int) ≤ (i : Int) := by omega
    have c2 : (i : Int) < (R.lo.length : Int) := by omega
    have c3 : i * 129 + 129 ≤ R.lo.length * 129 := by omega
    have hcl := rowC_len hrel.l.len
    obtain ⟨e, he⟩ : ∃ e, R.lo[i]? = some e := ⟨_, List.getElem?_eq_getElem hlt⟩
    have gk := rowC_key hrel.l.len he
    have gl := keys_get he
    refine AW.skip ?_
    refine Thn_n ?_
    refine hK _ _ ?_
    clear hK K
    refine AW.seq_k fun K hK => ?_
    refine AW.block ?_
    iterate 2
      refine AW.seq_k fun K hK => ?_
      refine AW.region (by decide) ?_
      simp only [push_cast, Nat.reduceAdd, Nat.reduceMul, Nat.reduceSub, Nat.reduceLeDiff, Nat.reduceLT, Nat.reduceEqDiff, Nat.reduceBEq, Nat.reduceBNe, Nat.reduceMod, Nat.reduceDiv, Int.reduceLE, Int.reduceLT, Int.reduceToNat, Int.reduceAdd, Int.reduceSub, Int.reduceMul, Int.reduceNeg, Int.reduceEq, Int.reduceBEq, Int.reduceBNe, ↓reduceIte, reduceCtorEq, String.reduceBNe, String.reduceEq, reduceDIte, Nat.reducePow, hpd, lk_old hpd, hpl, lk_old hpl, refB, rowR, hst, hdn, bne_self_eq_false, c1, c2, c3, hcl, gk, gl]
      refine Thn_n ?_
      refine hK _ _ ?_
      clear hK K
    refine AW.cond_f rfl ?_
    refine AW.skip ?_
    refine InB_n ?_
    refine Thn_n ?_
    refine hK _ _ ?_
    clear hK K
    refine AW.region (by decide) ?_
    simp only [push_cast, Nat.reduceAdd, Nat.reduceMul, Nat.reduceSub, Nat.reduceLeDiff, Nat.reduceLT, Nat.reduceEqDiff, Nat.reduceBEq, Nat.reduceBNe, Nat.reduceMod, Nat.reduceDiv, Int.reduceLE, Int.reduceLT, Int.reduceToNat, Int.reduceAdd, Int.reduceSub, Int.reduceMul, Int.reduceNeg, Int.reduceEq, Int.reduceBEq, Int.reduceBNe, ↓reduceIte, reduceCtorEq, String.reduceBNe, String.reduceEq, reduceDIte, Nat.reducePow, hpd, lk_old hpd, hpl, lk_old hpl, refB, rowR, hst, hdn, bne_self_eq_false, c1, c2, c3, hcl, gk, gl]
    refine Thn_n ?_
    have hwi : IntKind.i64.wrap ((i:Int)+1) = (i:Int)+1 := wi (by omega)
    refine ⟨i + 1, by omega, by omega, ?_⟩
    try simp only [keepL, setAll, push_cast, Nat.reduceAdd, Nat.reduceMul, Nat.reduceSub, Nat.reduceLeDiff, Nat.reduceLT, Nat.reduceEqDiff, Nat.reduceBEq, Nat.reduceBNe, Nat.reduceMod, Nat.reduceDiv, Int.reduceLE, Int.reduceLT, Int.reduceToNat, Int.reduceAdd, Int.reduceSub, Int.reduceMul, Int.reduceNeg, Int.reduceEq, Int.reduceBEq, Int.reduceBNe, ↓reduceIte, reduceCtorEq, String.reduceBNe, String.reduceEq, reduceDIte, Nat.reducePow, hpd, lk_old hpd, hpl, lk_old hpl, refB, rowR, hst, hdn, bne_self_eq_false, c1, c2, c3, hcl, gk, gl, hwi]
    exact Weak.same (by simp only [Keeps, Tm.get_cons, Nat.reduceEqDiff, ↓reduceIte, if_true, if_false, ite_true, ite_false, true_and, and_true, and_self, reduceCtorEq, hwi]) (by first | rfl | simp only [Keeps, Tm.get_cons, Nat.reduceEqDiff, ↓reduceIte, if_true, if_false, ite_true, ite_false, true_and, and_true, and_self, reduceCtorEq, hwi])
  · skip
    refine AW.exit ?_
    refine Thn_e ?_
    clear hK K
    refine Thn_e ?_
    refine InB_here ?_
    refine Thn_n ?_
    refine hK _ _ ?_
    clear hK K
    refine AW.seq_k fun K hK => ?_
    refine AW.seq_k fun K hK => ?_
    refine AW.region (by decide) ?_
    simp only [push_cast, Nat.reduceAdd, Nat.reduceMul, Nat.reduceSub, Nat.reduceLeDiff, Nat.reduceLT, Nat.reduceEqDiff, Nat.reduceBEq, Nat.reduceBNe, Nat.reduceMod, Nat.reduceDiv, Int.reduceLE, Int.reduceLT, Int.reduceToNat, Int.reduceAdd, Int.reduceSub, Int.reduceMul, Int.reduceNeg, Int.reduceEq, Int.reduceBEq, Int.reduceBNe, ↓reduceIte, reduceCtorEq, String.reduceBNe, String.reduceEq, reduceDIte, Nat.reducePow, hpd, lk_old hpd, hpl, lk_old hpl, refB, rowR, hst, hdn, bne_self_eq_false]
    refine Thn_n ?_
    refine hK _ _ ?_
    clear hK K
    refine AW.block ?_
    refine AW.loopK [0, 1] (fun i => i ≤ n) (fun i => [(8, .one (.int .i64 (i : Int)))]) (fun i => []) (fun i => n - i) 0 (by omega) ?_ ?_ fun i hi15 => ?_
    · first | rfl | (simp only [Keeps, Tm.get_cons, Nat.reduceEqDiff, ↓reduceIte, if_true, if_false, ite_true, ite_false, true_and, and_true, and_self, reduceCtorEq, Int.natCast_zero] <;> rfl)
    · first | rfl | (simp only [setAll, push_cast, Nat.reduceAdd, Nat.reduceMul, Nat.reduceSub, Nat.reduceLeDiff, Nat.reduceLT, Nat.reduceEqDiff, Nat.reduceBEq, Nat.reduceBNe, Nat.reduceMod, Nat.reduceDiv, Int.reduceLE, Int.reduceLT, Int.reduceToNat, Int.reduceAdd, Int.reduceSub, Int.reduceMul, Int.reduceNeg, Int.reduceEq, Int.reduceBEq, Int.reduceBNe, ↓reduceIte, reduceCtorEq, String.reduceBNe, String.reduceEq, reduceDIte, Nat.reducePow, hpd, lk_old hpd, hpl, lk_old hpl, refB, rowR, hst, hdn, bne_self_eq_false, Int.natCast_zero] <;> rfl)
    try simp only [keepL, setAll, push_cast, Nat.reduceAdd, Nat.reduceMul, Nat.reduceSub, Nat.reduceLeDiff, Nat.reduceLT, Nat.reduceEqDiff, Nat.reduceBEq, Nat.reduceBNe, Nat.reduceMod, Nat.reduceDiv, Int.reduceLE, Int.reduceLT, Int.reduceToNat, Int.reduceAdd, Int.reduceSub, Int.reduceMul, Int.reduceNeg, Int.reduceEq, Int.reduceBEq, Int.reduceBNe, ↓reduceIte, reduceCtorEq, String.reduceBNe, String.reduceEq, reduceDIte, Nat.reducePow, hpd, lk_old hpd, hpl, lk_old hpl, refB, rowR, hst, hdn, bne_self_eq_false]
    refine AW.seq_k fun K hK => ?_
    refine AW.seq_k fun K hK => ?_
    have hc : (n : Int) ≤ (i : Int) ∨ (¬ (n : Int) ≤ (i : Int) ∧ (40 : Int) ≤ (i : Int)) ∨ (¬ (n : Int) ≤ (i : Int) ∧ ¬ (40 : Int) ≤ (i : Int)) := by omega
    rcases hc with b1 | ⟨b1, b2⟩ | ⟨b1, b2⟩
    · have b3 : ¬ (i : Int) < (n : Int) := by omega
      refine AW.region (by decide) ?_
      simp only [push_cast, Nat.reduceAdd, Nat.reduceMul, Nat.reduceSub, Nat.reduceLeDiff, Nat.reduceLT, Nat.reduceEqDiff, Nat.reduceBEq, Nat.reduceBNe, Nat.reduceMod, Nat.reduceDiv, Int.reduceLE, Int.reduceLT, Int.reduceToNat, Int.reduceAdd, Int.reduceSub, Int.reduceMul, Int.reduceNeg, Int.reduceEq, Int.reduceBEq, Int.reduceBNe, ↓reduceIte, reduceCtorEq, String.reduceBNe, String.reduceEq, reduceDIte, Nat.reducePow, hpd, lk_old hpd, hpl, lk_old hpl, refB, rowR, hst, hdn, bne_self_eq_false, b3]
      refine Thn_n ?_
      refine hK _ _ ?_
      clear hK K
      refine AW.cond_f rfl ?_
      refine AW.exit ?_
      refine Thn_e ?_
      clear hK K
      refine Thn_e ?_
      refine InB_here ?_
      refine Thn_n ?_
      refine hK _ _ ?_
      clear hK K
      refine AW.seq_k fun K hK => ?_
      refine AW.region (by decide) ?_
      simp only [push_cast, Nat.reduceAdd, Nat.reduceMul, Nat.reduceSub, Nat.reduceLeDiff, Nat.reduceLT, Nat.reduceEqDiff, Nat.reduceBEq, Nat.reduceBNe, Nat.reduceMod, Nat.reduceDiv, Int.reduceLE, Int.reduceLT, Int.reduceToNat, Int.reduceAdd, Int.reduceSub, Int.reduceMul, Int.reduceNeg, Int.reduceEq, Int.reduceBEq, Int.reduceBNe, ↓reduceIte, reduceCtorEq, String.reduceBNe, String.reduceEq, reduceDIte, Nat.reducePow, hpd, lk_old hpd, hpl, lk_old hpl, refB, rowR, hst, hdn, bne_self_eq_false, b3]
      refine Thn_n ?_
      refine hK _ _ ?_
      clear hK K
      refine AW.ret ?_
      refine hQ _ _ _ ?_
      first | refine RetP.drop0 (Or.inr rfl) ?_ ?_ hwf | refine RetP.drop (Or.inr rfl) ?_ ?_ hwf
      · simp only [resA, resOne, resTv, AV.tv, push_cast, Nat.reduceAdd, Nat.reduceMul, Nat.reduceSub, Nat.reduceLeDiff, Nat.reduceLT, Nat.reduceEqDiff, Nat.reduceBEq, Nat.reduceBNe, Nat.reduceMod, Nat.reduceDiv, Int.reduceLE, Int.reduceLT, Int.reduceToNat, Int.reduceAdd, Int.reduceSub, Int.reduceMul, Int.reduceNeg, Int.reduceEq, Int.reduceBEq, Int.reduceBNe, ↓reduceIte, reduceCtorEq, String.reduceBNe, String.reduceEq, reduceDIte, Nat.reducePow, hpd, lk_old hpd, hpl, lk_old hpl, refB, rowR, hst, hdn, bne_self_eq_false, b3]
      · rfl
    · have b3 : (i : Int) < (n : Int) := by omega
      have b4 : ¬ (i : Int) < 40 := by omega
      refine AW.region (by decide) ?_
      simp only [push_cast, Nat.reduceAdd, Nat.reduceMul, Nat.reduceSub, Nat.reduceLeDiff, Nat.reduceLT, Nat.reduceEqDiff, Nat.reduceBEq, Nat.reduceBNe, Nat.reduceMod, Nat.reduceDiv, Int.reduceLE, Int.reduceLT, Int.reduceToNat, Int.reduceAdd, Int.reduceSub, Int.reduceMul, Int.reduceNeg, Int.reduceEq, Int.reduceBEq, Int.reduceBNe, ↓reduceIte, reduceCtorEq, String.reduceBNe, String.reduceEq, reduceDIte, Nat.reducePow, hpd, lk_old hpd, hpl, lk_old hpl, refB, rowR, hst, hdn, bne_self_eq_false, b3, b4]
      refine Thn_n ?_
      refine hK _ _ ?_
      clear hK K
      refine AW.cond_f rfl ?_
      refine AW.exit ?_
      refine Thn_e ?_
      clear hK K
      refine Thn_e ?_
      refine InB_here ?_
      refine Thn_n ?_
      refine hK _ _ ?_
      clear hK K
      refine AW.seq_k fun K hK => ?_
      refine AW.region (by decide) ?_
      simp only [push_cast, Nat.reduceAdd, Nat.reduceMul, Nat.reduceSub, Nat.reduceLeDiff, Nat.reduceLT, Nat.reduceEqDiff, Nat.reduceBEq, Nat.reduceBNe, Nat.reduceMod, Nat.reduceDiv, Int.reduceLE, Int.reduceLT, Int.reduceToNat, Int.reduceAdd, Int.reduceSub, Int.reduceMul, Int.reduceNeg, Int.reduceEq, Int.reduceBEq, Int.reduceBNe, ↓reduceIte, reduceCtorEq, String.reduceBNe, String.reduceEq, reduceDIte, Nat.reducePow, hpd, lk_old hpd, hpl, lk_old hpl, refB, rowR, hst, hdn, bne_self_eq_false, b3, b4]
      refine Thn_n ?_
      refine hK _ _ ?_
      clear hK K
      refine AW.ret ?_
      refine hQ _ _ _ ?_
      first | refine RetP.drop0 (Or.inr rfl) ?_ ?_ hwf | refine RetP.drop (Or.inr rfl) ?_ ?_ hwf
      · simp only [resA, resOne, resTv, AV.tv, push_cast, Nat.reduceAdd, Nat.reduceMul, Nat.reduceSub, Nat.reduceLeDiff, Nat.reduceLT, Nat.reduceEqDiff, Nat.reduceBEq, Nat.reduceBNe, Nat.reduceMod, Nat.reduceDiv, Int.reduceLE, Int.reduceLT, Int.reduceToNat, Int.reduceAdd, Int.reduceSub, Int.reduceMul, Int.reduceNeg, Int.reduceEq, Int.reduceBEq, Int.reduceBNe, ↓reduceIte, reduceCtorEq, String.reduceBNe, String.reduceEq, reduceDIte, Nat.reducePow, hpd, lk_old hpd, hpl, lk_old hpl, refB, rowR, hst, hdn, bne_self_eq_false, b3, b4]
      · rfl
    · have b3 : (i : Int) < (n : Int) := by omega
      have b4 : (i : Int) < 40 := by omega
      have hin : i + 1 ≤ n := by omega
      obtain ⟨v, z, hv9, hr0⟩ := read_any hrel hn h g (i : Int)
      have g1 : (u8l v).length = 128 := by rw [u8l_len, hv9]
      have g3 : (u8l v).take 128 = u8l v := List.take_of_length_le (by omega)
      have g2 := u8l_vals v
      have g4 : setL [.int .u8 0, .int .u8 0, .int .u8 0, .int .u8 0, .int .u8 0, .int .u8 0, .int .u8 0, .int .u8 0, .int .u8 0, .int .u8 0, .int .u8 0, .int .u8 0, .int .u8 0, .int .u8 0, .int .u8 0, .int .u8 0, .int .u8 0, .int .u8 0, .int .u8 0, .int .u8 0, .int .u8 0, .int .u8 0, .int .u8 0, .int .u8 0, .int .u8 0, .int .u8 0, .int .u8 0, .int .u8 0, .int .u8 0, .int .u8 0, .int .u8 0, .int .u8 0, .int .u8 0, .int .u8 0, .int .u8 0, .int .u8 0, .int .u8 0, .int .u8 0, .int .u8 0, .int .u8 0, .int .u8 0, .int .u8 0, .int .u8 0, .int .u8 0, .int .u8 0, .int .u8 0, .int .u8 0, .int .u8 0, .int .u8 0, .int .u8 0, .int .u8 0, .int .u8 0, .int .u8 0, .int .u8 0, .int .u8 0, .int .u8 0, .int .u8 0, .int .u8 0, .int .u8 0, .int .u8 0, .int .u8 0, .int .u8 0, .int .u8 0, .int .u8 0, .int .u8 0, .int .u8 0, .int .u8 0, .int .u8 0, .int .u8 0, .int .u8 0, .int .u8 0, .int .u8 0, .int .u8 0, .int .u8 0, .int .u8 0, .int .u8 0, .int .u8 0, .int .u8 0, .int .u8 0, .int .u8 0, .int .u8 0, .int .u8 0, .int .u8 0, .int .u8 0, .int .u8 0, .int .u8 0, .int .u8 0, .int .u8 0, .int .u8 0, .int .u8 0, .int .u8 0, .int .u8 0, .int .u8 0, .int .u8 0, .int .u8 0, .int .u8 0, .int .u8 0, .int .u8 0, .int .u8 0, .int .u8 0, .int .u8 0, .int .u8 0, .int .u8 0, .int .u8 0, .int .u8 0, .int .u8 0, .int .u8 0, .int .u8 0, .int .u8 0, .int .u8 0, .int .u8 0, .int .u8 0, .int .u8 0, .int .u8 0, .int .u8 0, .int .u8 0, .int .u8 0, .int .u8 0, .int .u8 0, .int .u8 0, .int .u8 0, .int .u8 0, .int .u8 0, .int .u8 0, .int .u8 0, .int .u8 0, .int .u8 0, .int .u8 0] 0 (u8l v) = u8l v := setL_all (by rw [g1]; rfl)
      have g6 : setL (u8l zB) 0 (u8l v) = u8l v := setL_all (by rw [g1]; rfl)
      have q1 := eqp128 hv9 hv9
      rw [decide_eq_true rfl] at q1
      refine AW.region (by decide) ?_
      simp only [push_cast, Nat.reduceAdd, Nat.reduceMul, Nat.reduceSub, Nat.reduceLeDiff, Nat.reduceLT, Nat.reduceEqDiff, Nat.reduceBEq, Nat.reduceBNe, Nat.reduceMod, Nat.reduceDiv, Int.reduceLE, Int.reduceLT, Int.reduceToNat, Int.reduceAdd, Int.reduceSub, Int.reduceMul, Int.reduceNeg, Int.reduceEq, Int.reduceBEq, Int.reduceBNe, ↓reduceIte, reduceCtorEq, String.reduceBNe, String.reduceEq, reduceDIte, Nat.reducePow, hpd, lk_old hpd, hpl, lk_old hpl, refB, rowR, hst, hdn, bne_self_eq_false, b3, b4, g1, g2, g3, g4, g6, q1]
      refine Thn_n ?_
      refine hK _ _ ?_
      clear hK K
      refine AW.cond_t rfl ?_
      refine AW.skip ?_
      refine Thn_n ?_
      refine hK _ _ ?_
      clear hK K
      refine AW.seq_k fun K hK => ?_
      refine AW.block ?_
      refine AW.seq_k fun K hK => ?_
      refine AW.region (by decide) ?_
      simp only [push_cast, Nat.reduceAdd, Nat.reduceMul, Nat.reduceSub, Nat.reduceLeDiff, Nat.reduceLT, Nat.reduceEqDiff, Nat.reduceBEq, Nat.reduceBNe, Nat.reduceMod, Nat.reduceDiv, Int.reduceLE, Int.reduceLT, Int.reduceToNat, Int.reduceAdd, Int.reduceSub, Int.reduceMul, Int.reduceNeg, Int.reduceEq, Int.reduceBEq, Int.reduceBNe, ↓reduceIte, reduceCtorEq, String.reduceBNe, String.reduceEq, reduceDIte, Nat.reducePow, hpd, lk_old hpd, hpl, lk_old hpl, refB, rowR, hst, hdn, bne_self_eq_false, b3, b4, g1, g2, g3, g4, g6, q1]
      refine CThen.by ((hr0 _).1) ?_
      simp only [push_cast, Nat.reduceAdd, Nat.reduceMul, Nat.reduceSub, Nat.reduceLeDiff, Nat.reduceLT, Nat.reduceEqDiff, Nat.reduceBEq, Nat.reduceBNe, Nat.reduceMod, Nat.reduceDiv, Int.reduceLE, Int.reduceLT, Int.reduceToNat, Int.reduceAdd, Int.reduceSub, Int.reduceMul, Int.reduceNeg, Int.reduceEq, Int.reduceBEq, Int.reduceBNe, ↓reduceIte, reduceCtorEq, String.reduceBNe, String.reduceEq, reduceDIte, Nat.reducePow, hpd, lk_old hpd, hpl, lk_old hpl, refB, rowR, hst, hdn, bne_self_eq_false, b3, b4, g1, g2, g3, g4, g6, q1]
      refine Thn_n ?_
      refine hK _ _ ?_
      clear hK K
      refine AW.seq_k fun K hK => ?_
      refine AW.region (by decide) ?_
      simp only [push_cast, Nat.reduceAdd, Nat.reduceMul, Nat.reduceSub, Nat.reduceLeDiff, Nat.reduceLT, Nat.reduceEqDiff, Nat.reduceBEq, Nat.reduceBNe, Nat.reduceMod, Nat.reduceDiv, Int.reduceLE, Int.reduceLT, Int.reduceToNat, Int.reduceAdd, Int.reduceSub, Int.reduceMul, Int.reduceNeg, Int.reduceEq, Int.reduceBEq, Int.reduceBNe, ↓reduceIte, reduceCtorEq, String.reduceBNe, String.reduceEq, reduceDIte, Nat.reducePow, hpd, lk_old hpd, hpl, lk_old hpl, refB, rowR, hst, hdn, bne_self_eq_false, b3, b4, g1, g2, g3, g4, g6, q1]
      refine CThen.by ((hr0 _).2) ?_
      simp only [push_cast, Nat.reduceAdd, Nat.reduceMul, Nat.reduceSub, Nat.reduceLeDiff, Nat.reduceLT, Nat.reduceEqDiff, Nat.reduceBEq, Nat.reduceBNe, Nat.reduceMod, Nat.reduceDiv, Int.reduceLE, Int.reduceLT, Int.reduceToNat, Int.reduceAdd, Int.reduceSub, Int.reduceMul, Int.reduceNeg, Int.reduceEq, Int.reduceBEq, Int.reduceBNe, ↓reduceIte, reduceCtorEq, String.reduceBNe, String.reduceEq, reduceDIte, Nat.reducePow, hpd, lk_old hpd, hpl, lk_old hpl, refB, rowR, hst, hdn, bne_self_eq_false, b3, b4, g1, g2, g3, g4, g6, q1]
      refine Thn_n ?_
      refine hK _ _ ?_
      clear hK K
      refine AW.seq_k fun K hK => ?_
      refine AW.region (by decide) ?_
      simp only [push_cast, Nat.reduceAdd, Nat.reduceMul, Nat.reduceSub, Nat.reduceLeDiff, Nat.reduceLT, Nat.reduceEqDiff, Nat.reduceBEq, Nat.reduceBNe, Nat.reduceMod, Nat.reduceDiv, Int.reduceLE, Int.reduceLT, Int.reduceToNat, Int.reduceAdd, Int.reduceSub, Int.reduceMul, Int.reduceNeg, Int.reduceEq, Int.reduceBEq, Int.reduceBNe, ↓reduceIte, reduceCtorEq, String.reduceBNe, String.reduceEq, reduceDIte, Nat.reducePow, hpd, lk_old hpd, hpl, lk_old hpl, refB, rowR, hst, hdn, bne_self_eq_false, b3, b4, g1, g2, g3, g4, g6, q1]
      refine Thn_n ?_
      refine hK _ _ ?_
      clear hK K
      refine AW.cond_f rfl ?_
      refine AW.skip ?_
      refine InB_n ?_
      refine Thn_n ?_
      refine hK _ _ ?_
      clear hK K
      refine AW.region (by decide) ?_
      simp only [push_cast, Nat.reduceAdd, Nat.reduceMul, Nat.reduceSub, Nat.reduceLeDiff, Nat.reduceLT, Nat.reduceEqDiff, Nat.reduceBEq, Nat.reduceBNe, Nat.reduceMod, Nat.reduceDiv, Int.reduceLE, Int.reduceLT, Int.reduceToNat, Int.reduceAdd, Int.reduceSub, Int.reduceMul, Int.reduceNeg, Int.reduceEq, Int.reduceBEq, Int.reduceBNe, ↓reduceIte, reduceCtorEq, String.reduceBNe, String.reduceEq, reduceDIte, Nat.reducePow, hpd, lk_old hpd, hpl, lk_old hpl, refB, rowR, hst, hdn, bne_self_eq_false, b3, b4, g1, g2, g3, g4, g6, q1]
      refine Thn_n ?_
      have hwi : IntKind.i64.wrap ((i:Int)+1) = (i:Int)+1 := wi (by omega)
      refine ⟨i + 1, hin, by omega, ?_⟩
      try simp only [keepL, setAll, push_cast, Nat.reduceAdd, Nat.reduceMul, Nat.reduceSub, Nat.reduceLeDiff, Nat.reduceLT, Nat.reduceEqDiff, Nat.reduceBEq, Nat.reduceBNe, Nat.reduceMod, Nat.reduceDiv, Int.reduceLE, Int.reduceLT, Int.reduceToNat, Int.reduceAdd, Int.reduceSub, Int.reduceMul, Int.reduceNeg, Int.reduceEq, Int.reduceBEq, Int.reduceBNe, ↓reduceIte, reduceCtorEq, String.reduceBNe, String.reduceEq, reduceDIte, Nat.reducePow, hpd, lk_old hpd, hpl, lk_old hpl, refB, rowR, hst, hdn, bne_self_eq_false, b3, b4, g1, g2, g3, g4, g6, q1, hwi]
      exact Weak.to (extra := [_, _]) (by simp only [Keeps, Tm.get_cons, Nat.reduceEqDiff, ↓reduceIte, if_true, if_false, ite_true, ite_false, true_and, and_true, and_self, reduceCtorEq, hwi]) (by first | rfl | (simp only [List.append_assoc, List.cons_append, List.nil_append]; rfl)) (by first | rfl | (simp [AV.below, CV.below, u8l_below]; done) | (simp [AV.below, CV.below, u8l_below]; omega)) (by
        first | exact hwf | refine MWf.app (hwf.grow (by simp)) ?_
        repeat (first | exact MWf_nil | (refine MWf_cons ?_ ?_; · first | rfl | (simp [CV.below, u8l_below]; done) | (simp [CV.below, u8l_below]; omega))))
end Go.Proofs.Ytcahlnddcjifdaa

set_option linter.unusedSimpArgs false
set_option linter.unusedVariables false
set_option maxRecDepth 100000
set_option maxHeartbeats 4000000
namespace Go.Proofs.Ytcahlnddcjifdaa
open Go Go.Eng

theorem six0 (n : Nat) (m T : AMem) : m ++ (rowD n (D0) :: mapD (D0) :: drB m.length (m.length + 1) n (D0) :: refB (m.length + 4) (m.length + 5) n (R0) :: rowR (R0).vs (R0).su :: rowR (R0).vl (R0).lo :: T) = m ++ (rowD n D0 :: mapD D0 :: drB m.length (m.length + 1) n D0 :: ⟨.fix, 61, 0, 0, [.int .i64 n, .sl (m.length + 4) 0 0 0, .sl (m.length + 5) 0 0 0, .int .i64 (-1), .int .i64 0, .bool false]⟩ :: ⟨.grow, 65, 0, 129, []⟩ :: ⟨.grow, 65, 0, 129, []⟩ :: T) := rfl
theorem new_lo' (x : Int) (m : AMem) (h : x < 1 ∨ 8192 < x) : Ctr Try.prog 6 [.one (.int .i64 x)] m (.tup [(false, [.nilp]), (false, [.int .i64 1])]) m := by
  rcases Classical.em (x < 1) with h1 | h1
  · exact new_lo x m h1
  · exact new_hi x m h1 (h.resolve_left h1)
theorem plays_lo (x : Int) (r n : Nat) (kd ax nx : Nat → Int) (b : Nat → List Int) (rk kn : Nat → Nat) (ks : Nat → Nat → Int) (at_ : Int) (m : AMem) (h : x < 1) : Ctr Try.prog 4 [.one (.int .i64 x), .one (.sl r 0 0 n), .one (.int .i64 at_)] m (.one (.bool true)) m := by
  refine Ctr.enter Try.func4 rfl (by decide) (rs := [.tmp 6]) (nt := 95) rfl rfl fun hwf Q hQ => ?_
  refine AW.seq_k fun K hK => ?_
  refine AW.region (by decide) ?_
  simp only [push_cast, Nat.reduceAdd, Nat.reduceMul, Nat.reduceSub, Nat.reduceLeDiff, Nat.reduceLT, Nat.reduceEqDiff, Nat.reduceBEq, Nat.reduceBNe, Nat.reduceMod, Nat.reduceDiv, Int.reduceLE, Int.reduceLT, Int.reduceToNat, Int.reduceAdd, Int.reduceSub, Int.reduceMul, Int.reduceNeg, Int.reduceEq, Int.reduceBEq, Int.reduceBNe, ↓reduceIte, reduceCtorEq, String.reduceBNe, String.reduceEq, reduceDIte, Nat.reducePow, h]
  refine Thn_n ?_
  refine hK _ _ ?_
  clear hK K
  refine AW.seq_k fun K hK => ?_
  refine AW.region (by decide) ?_
  simp only [push_cast, Nat.reduceAdd, Nat.reduceMul, Nat.reduceSub, Nat.reduceLeDiff, Nat.reduceLT, Nat.reduceEqDiff, Nat.reduceBEq, Nat.reduceBNe, Nat.reduceMod, Nat.reduceDiv, Int.reduceLE, Int.reduceLT, Int.reduceToNat, Int.reduceAdd, Int.reduceSub, Int.reduceMul, Int.reduceNeg, Int.reduceEq, Int.reduceBEq, Int.reduceBNe, ↓reduceIte, reduceCtorEq, String.reduceBNe, String.reduceEq, reduceDIte, Nat.reducePow, h]
  refine CThen.by (new_lo' x _ (.inl h)) ?_
  simp only [push_cast, Nat.reduceAdd, Nat.reduceMul, Nat.reduceSub, Nat.reduceLeDiff, Nat.reduceLT, Nat.reduceEqDiff, Nat.reduceBEq, Nat.reduceBNe, Nat.reduceMod, Nat.reduceDiv, Int.reduceLE, Int.reduceLT, Int.reduceToNat, Int.reduceAdd, Int.reduceSub, Int.reduceMul, Int.reduceNeg, Int.reduceEq, Int.reduceBEq, Int.reduceBNe, ↓reduceIte, reduceCtorEq, String.reduceBNe, String.reduceEq, reduceDIte, Nat.reducePow, h]
  refine Thn_n ?_
  refine hK _ _ ?_
  clear hK K
  refine AW.seq_k fun K hK => ?_
  refine AW.seq_k fun K hK => ?_
  refine AW.region (by decide) ?_
  simp only [push_cast, Nat.reduceAdd, Nat.reduceMul, Nat.reduceSub, Nat.reduceLeDiff, Nat.reduceLT, Nat.reduceEqDiff, Nat.reduceBEq, Nat.reduceBNe, Nat.reduceMod, Nat.reduceDiv, Int.reduceLE, Int.reduceLT, Int.reduceToNat, Int.reduceAdd, Int.reduceSub, Int.reduceMul, Int.reduceNeg, Int.reduceEq, Int.reduceBEq, Int.reduceBNe, ↓reduceIte, reduceCtorEq, String.reduceBNe, String.reduceEq, reduceDIte, Nat.reducePow, h]
  refine Thn_n ?_
  refine hK _ _ ?_
  clear hK K
  refine AW.cond_t rfl ?_
  refine AW.seq_k fun K hK => ?_
  refine AW.region (by decide) ?_
  simp only [push_cast, Nat.reduceAdd, Nat.reduceMul, Nat.reduceSub, Nat.reduceLeDiff, Nat.reduceLT, Nat.reduceEqDiff, Nat.reduceBEq, Nat.reduceBNe, Nat.reduceMod, Nat.reduceDiv, Int.reduceLE, Int.reduceLT, Int.reduceToNat, Int.reduceAdd, Int.reduceSub, Int.reduceMul, Int.reduceNeg, Int.reduceEq, Int.reduceBEq, Int.reduceBNe, ↓reduceIte, reduceCtorEq, String.reduceBNe, String.reduceEq, reduceDIte, Nat.reducePow, h]
  refine CThen.by (awake_c _) ?_
  simp only [push_cast, Nat.reduceAdd, Nat.reduceMul, Nat.reduceSub, Nat.reduceLeDiff, Nat.reduceLT, Nat.reduceEqDiff, Nat.reduceBEq, Nat.reduceBNe, Nat.reduceMod, Nat.reduceDiv, Int.reduceLE, Int.reduceLT, Int.reduceToNat, Int.reduceAdd, Int.reduceSub, Int.reduceMul, Int.reduceNeg, Int.reduceEq, Int.reduceBEq, Int.reduceBNe, ↓reduceIte, reduceCtorEq, String.reduceBNe, String.reduceEq, reduceDIte, Nat.reducePow, h]
  refine Thn_n ?_
  refine hK _ _ ?_
  clear hK K
  refine AW.ret ?_
  refine Thn_r ?_
  refine hQ _ _ _ ?_
  first | refine RetP.drop0 (Or.inr rfl) ?_ ?_ hwf | refine RetP.drop (Or.inr rfl) ?_ ?_ hwf
  · simp only [resA, resOne, resTv, AV.tv, push_cast, Nat.reduceAdd, Nat.reduceMul, Nat.reduceSub, Nat.reduceLeDiff, Nat.reduceLT, Nat.reduceEqDiff, Nat.reduceBEq, Nat.reduceBNe, Nat.reduceMod, Nat.reduceDiv, Int.reduceLE, Int.reduceLT, Int.reduceToNat, Int.reduceAdd, Int.reduceSub, Int.reduceMul, Int.reduceNeg, Int.reduceEq, Int.reduceBEq, Int.reduceBNe, ↓reduceIte, reduceCtorEq, String.reduceBNe, String.reduceEq, reduceDIte, Nat.reducePow, h]
  · rfl
theorem plays_hi (x : Int) (r n : Nat) (kd ax nx : Nat → Int) (b : Nat → List Int) (rk kn : Nat → Nat) (ks : Nat → Nat → Int) (at_ : Int) (m : AMem) (h : ¬ x < 1) (h2 : 8192 < x) : Ctr Try.prog 4 [.one (.int .i64 x), .one (.sl r 0 0 n), .one (.int .i64 at_)] m (.one (.bool true)) m := by
  refine Ctr.enter Try.func4 rfl (by decide) (rs := [.tmp 6]) (nt := 95) rfl rfl fun hwf Q hQ => ?_
  refine AW.seq_k fun K hK => ?_
  refine AW.region (by decide) ?_
  simp only [push_cast, Nat.reduceAdd, Nat.reduceMul, Nat.reduceSub, Nat.reduceLeDiff, Nat.reduceLT, Nat.reduceEqDiff, Nat.reduceBEq, Nat.reduceBNe, Nat.reduceMod, Nat.reduceDiv, Int.reduceLE, Int.reduceLT, Int.reduceToNat, Int.reduceAdd, Int.reduceSub, Int.reduceMul, Int.reduceNeg, Int.reduceEq, Int.reduceBEq, Int.reduceBNe, ↓reduceIte, reduceCtorEq, String.reduceBNe, String.reduceEq, reduceDIte, Nat.reducePow, h, h2]
  refine Thn_n ?_
  refine hK _ _ ?_
  clear hK K
  refine AW.seq_k fun K hK => ?_
  refine AW.region (by decide) ?_
  simp only [push_cast, Nat.reduceAdd, Nat.reduceMul, Nat.reduceSub, Nat.reduceLeDiff, Nat.reduceLT, Nat.reduceEqDiff, Nat.reduceBEq, Nat.reduceBNe, Nat.reduceMod, Nat.reduceDiv, Int.reduceLE, Int.reduceLT, Int.reduceToNat, Int.reduceAdd, Int.reduceSub, Int.reduceMul, Int.reduceNeg, Int.reduceEq, Int.reduceBEq, Int.reduceBNe, ↓reduceIte, reduceCtorEq, String.reduceBNe, String.reduceEq, reduceDIte, Nat.reducePow, h, h2]
  refine CThen.by (new_lo' x _ (.inr h2)) ?_
  simp only [push_cast, Nat.reduceAdd, Nat.reduceMul, Nat.reduceSub, Nat.reduceLeDiff, Nat.reduceLT, Nat.reduceEqDiff, Nat.reduceBEq, Nat.reduceBNe, Nat.reduceMod, Nat.reduceDiv, Int.reduceLE, Int.reduceLT, Int.reduceToNat, Int.reduceAdd, Int.reduceSub, Int.reduceMul, Int.reduceNeg, Int.reduceEq, Int.reduceBEq, Int.reduceBNe, ↓reduceIte, reduceCtorEq, String.reduceBNe, String.reduceEq, reduceDIte, Nat.reducePow, h, h2]
  refine Thn_n ?_
  refine hK _ _ ?_
  clear hK K
  refine AW.seq_k fun K hK => ?_
  refine AW.seq_k fun K hK => ?_
  refine AW.region (by decide) ?_
  simp only [push_cast, Nat.reduceAdd, Nat.reduceMul, Nat.reduceSub, Nat.reduceLeDiff, Nat.reduceLT, Nat.reduceEqDiff, Nat.reduceBEq, Nat.reduceBNe, Nat.reduceMod, Nat.reduceDiv, Int.reduceLE, Int.reduceLT, Int.reduceToNat, Int.reduceAdd, Int.reduceSub, Int.reduceMul, Int.reduceNeg, Int.reduceEq, Int.reduceBEq, Int.reduceBNe, ↓reduceIte, reduceCtorEq, String.reduceBNe, String.reduceEq, reduceDIte, Nat.reducePow, h, h2]
  refine Thn_n ?_
  refine hK _ _ ?_
  clear hK K
  refine AW.cond_t rfl ?_
  refine AW.seq_k fun K hK => ?_
  refine AW.region (by decide) ?_
  simp only [push_cast, Nat.reduceAdd, Nat.reduceMul, Nat.reduceSub, Nat.reduceLeDiff, Nat.reduceLT, Nat.reduceEqDiff, Nat.reduceBEq, Nat.reduceBNe, Nat.reduceMod, Nat.reduceDiv, Int.reduceLE, Int.reduceLT, Int.reduceToNat, Int.reduceAdd, Int.reduceSub, Int.reduceMul, Int.reduceNeg, Int.reduceEq, Int.reduceBEq, Int.reduceBNe, ↓reduceIte, reduceCtorEq, String.reduceBNe, String.reduceEq, reduceDIte, Nat.reducePow, h, h2]
  refine CThen.by (awake_c _) ?_
  simp only [push_cast, Nat.reduceAdd, Nat.reduceMul, Nat.reduceSub, Nat.reduceLeDiff, Nat.reduceLT, Nat.reduceEqDiff, Nat.reduceBEq, Nat.reduceBNe, Nat.reduceMod, Nat.reduceDiv, Int.reduceLE, Int.reduceLT, Int.reduceToNat, Int.reduceAdd, Int.reduceSub, Int.reduceMul, Int.reduceNeg, Int.reduceEq, Int.reduceBEq, Int.reduceBNe, ↓reduceIte, reduceCtorEq, String.reduceBNe, String.reduceEq, reduceDIte, Nat.reducePow, h, h2]
  refine Thn_n ?_
  refine hK _ _ ?_
  clear hK K
  refine AW.ret ?_
  refine Thn_r ?_
  refine hQ _ _ _ ?_
  first | refine RetP.drop0 (Or.inr rfl) ?_ ?_ hwf | refine RetP.drop (Or.inr rfl) ?_ ?_ hwf
  · simp only [resA, resOne, resTv, AV.tv, push_cast, Nat.reduceAdd, Nat.reduceMul, Nat.reduceSub, Nat.reduceLeDiff, Nat.reduceLT, Nat.reduceEqDiff, Nat.reduceBEq, Nat.reduceBNe, Nat.reduceMod, Nat.reduceDiv, Int.reduceLE, Int.reduceLT, Int.reduceToNat, Int.reduceAdd, Int.reduceSub, Int.reduceMul, Int.reduceNeg, Int.reduceEq, Int.reduceBEq, Int.reduceBNe, ↓reduceIte, reduceCtorEq, String.reduceBNe, String.reduceEq, reduceDIte, Nat.reducePow, h, h2]
  · rfl
theorem rnew_c (x : Int) (m : AMem) : Ctr Try.prog 13 [.one (.int .i64 x)] m (.one (.ptr m.length 0 0)) (m ++ [⟨.fix, 61, 0, 0, [.int .i64 x, .nils, .nils, .int .i64 (-1), .int .i64 0, .bool false]⟩]) := by
  refine Ctr.enter Try.func13 rfl (by decide) (rs := [.tmp 2]) (nt := 6) rfl rfl fun hwf Q hQ => ?_
  iterate 2
    refine AW.seq_k fun K hK => ?_
    refine AW.region (by decide) ?_
    simp only [push_cast, Nat.reduceAdd, Nat.reduceMul, Nat.reduceSub, Nat.reduceLeDiff, Nat.reduceLT, Nat.reduceEqDiff, Nat.reduceBEq, Nat.reduceBNe, Nat.reduceMod, Nat.reduceDiv, Int.reduceLE, Int.reduceLT, Int.reduceToNat, Int.reduceAdd, Int.reduceSub, Int.reduceMul, Int.reduceNeg, Int.reduceEq, Int.reduceBEq, Int.reduceBNe, ↓reduceIte, reduceCtorEq, String.reduceBNe, String.reduceEq, reduceDIte, Nat.reducePow]
    refine Thn_n ?_
    refine hK _ _ ?_
    clear hK K
  refine AW.ret ?_
  refine hQ _ _ _ ?_
  refine ⟨Or.inr rfl, _, ?_, Hands.all⟩
  simp only [resA, resOne, resTv, AV.tv, push_cast, Nat.reduceAdd, Nat.reduceMul, Nat.reduceSub, Nat.reduceLeDiff, Nat.reduceLT, Nat.reduceEqDiff, Nat.reduceBEq, Nat.reduceBNe, Nat.reduceMod, Nat.reduceDiv, Int.reduceLE, Int.reduceLT, Int.reduceToNat, Int.reduceAdd, Int.reduceSub, Int.reduceMul, Int.reduceNeg, Int.reduceEq, Int.reduceBEq, Int.reduceBNe, ↓reduceIte, reduceCtorEq, String.reduceBNe, String.reduceEq, reduceDIte, Nat.reducePow]
theorem plays_c (w : Nat) (r n : Nat) (kd ax nx : Nat → Int) (b : Nat → List Int) (rk kn : Nat → Nat) (ks : Nat → Nat → Int) (at_ : Int) (m : AMem) (hw0 : 0 < w) (hw8 : w ≤ 8192) (hops : OpsAt m r n kd ax nx b rk kn ks) : Ctr Try.prog 4 [.one (.int .i64 (w : Int)), .one (.sl r 0 0 n), .one (.int .i64 at_)] m (.one (.bool true)) m := by
  refine Ctr.enter Try.func4 rfl (by decide) (rs := [.tmp 6]) (nt := 95) rfl rfl fun hwf Q hQ => ?_
  obtain ⟨cells, hrow, hcl, hch⟩ := hops.row
  have lr := get_lt hrow
  have hoz : opZ.length = 132 := rfl
  have w1 : ¬ (w : Int) < 1 := by omega
  have w2 : ¬ (8192 : Int) < (w : Int) := by omega
  refine AW.seq_k fun K hK => ?_
  refine AW.region (by decide) ?_
  simp only [push_cast, Nat.reduceAdd, Nat.reduceMul, Nat.reduceSub, Nat.reduceLeDiff, Nat.reduceLT, Nat.reduceEqDiff, Nat.reduceBEq, Nat.reduceBNe, Nat.reduceMod, Nat.reduceDiv, Int.reduceLE, Int.reduceLT, Int.reduceToNat, Int.reduceAdd, Int.reduceSub, Int.reduceMul, Int.reduceNeg, Int.reduceEq, Int.reduceBEq, Int.reduceBNe, ↓reduceIte, reduceCtorEq, String.reduceBNe, String.reduceEq, reduceDIte, Nat.reducePow, hrow, lk_old hrow, hcl, hoz, ↓alloc33, w1, w2, Int.le_refl, Nat.le_refl]
  refine Thn_n ?_
  refine hK _ _ ?_
  clear hK K
  refine AW.seq_k fun K hK => ?_
  refine AW.region (by decide) ?_
  simp only [push_cast, Nat.reduceAdd, Nat.reduceMul, Nat.reduceSub, Nat.reduceLeDiff, Nat.reduceLT, Nat.reduceEqDiff, Nat.reduceBEq, Nat.reduceBNe, Nat.reduceMod, Nat.reduceDiv, Int.reduceLE, Int.reduceLT, Int.reduceToNat, Int.reduceAdd, Int.reduceSub, Int.reduceMul, Int.reduceNeg, Int.reduceEq, Int.reduceBEq, Int.reduceBNe, ↓reduceIte, reduceCtorEq, String.reduceBNe, String.reduceEq, reduceDIte, Nat.reducePow, hrow, lk_old hrow, hcl, hoz, ↓alloc33, w1, w2, Int.le_refl, Nat.le_refl]
  refine CThen.by (new_c w _ hw0 hw8) ?_
  simp only [push_cast, Nat.reduceAdd, Nat.reduceMul, Nat.reduceSub, Nat.reduceLeDiff, Nat.reduceLT, Nat.reduceEqDiff, Nat.reduceBEq, Nat.reduceBNe, Nat.reduceMod, Nat.reduceDiv, Int.reduceLE, Int.reduceLT, Int.reduceToNat, Int.reduceAdd, Int.reduceSub, Int.reduceMul, Int.reduceNeg, Int.reduceEq, Int.reduceBEq, Int.reduceBNe, ↓reduceIte, reduceCtorEq, String.reduceBNe, String.reduceEq, reduceDIte, Nat.reducePow, hrow, lk_old hrow, hcl, hoz, ↓alloc33, w1, w2, Int.le_refl, Nat.le_refl]
  refine Thn_n ?_
  refine hK _ _ ?_
  clear hK K
  refine AW.seq_k fun K hK => ?_
  refine AW.seq_k fun K hK => ?_
  refine AW.region (by decide) ?_
  simp only [push_cast, Nat.reduceAdd, Nat.reduceMul, Nat.reduceSub, Nat.reduceLeDiff, Nat.reduceLT, Nat.reduceEqDiff, Nat.reduceBEq, Nat.reduceBNe, Nat.reduceMod, Nat.reduceDiv, Int.reduceLE, Int.reduceLT, Int.reduceToNat, Int.reduceAdd, Int.reduceSub, Int.reduceMul, Int.reduceNeg, Int.reduceEq, Int.reduceBEq, Int.reduceBNe, ↓reduceIte, reduceCtorEq, String.reduceBNe, String.reduceEq, reduceDIte, Nat.reducePow, hrow, lk_old hrow, hcl, hoz, ↓alloc33, w1, w2, Int.le_refl, Nat.le_refl]
  refine Thn_n ?_
  refine hK _ _ ?_
  clear hK K
  refine AW.cond_f rfl ?_
  refine AW.skip ?_
  refine Thn_n ?_
  refine hK _ _ ?_
  clear hK K
  refine AW.seq_k fun K hK => ?_
  refine AW.seq_k fun K hK => ?_
  refine AW.region (by decide) ?_
  simp only [push_cast, Nat.reduceAdd, Nat.reduceMul, Nat.reduceSub, Nat.reduceLeDiff, Nat.reduceLT, Nat.reduceEqDiff, Nat.reduceBEq, Nat.reduceBNe, Nat.reduceMod, Nat.reduceDiv, Int.reduceLE, Int.reduceLT, Int.reduceToNat, Int.reduceAdd, Int.reduceSub, Int.reduceMul, Int.reduceNeg, Int.reduceEq, Int.reduceBEq, Int.reduceBNe, ↓reduceIte, reduceCtorEq, String.reduceBNe, String.reduceEq, reduceDIte, Nat.reducePow, hrow, lk_old hrow, hcl, hoz, ↓alloc33, w1, w2, Int.le_refl, Nat.le_refl]
  refine CThen.by (awake_c _) ?_
  simp only [push_cast, Nat.reduceAdd, Nat.reduceMul, Nat.reduceSub, Nat.reduceLeDiff, Nat.reduceLT, Nat.reduceEqDiff, Nat.reduceBEq, Nat.reduceBNe, Nat.reduceMod, Nat.reduceDiv, Int.reduceLE, Int.reduceLT, Int.reduceToNat, Int.reduceAdd, Int.reduceSub, Int.reduceMul, Int.reduceNeg, Int.reduceEq, Int.reduceBEq, Int.reduceBNe, ↓reduceIte, reduceCtorEq, String.reduceBNe, String.reduceEq, reduceDIte, Nat.reducePow, hrow, lk_old hrow, hcl, hoz, ↓alloc33, w1, w2, Int.le_refl, Nat.le_refl]
  refine Thn_n ?_
  refine hK _ _ ?_
  clear hK K
  refine AW.cond_f rfl ?_
  refine AW.skip ?_
  refine Thn_n ?_
  refine hK _ _ ?_
  clear hK K
  refine AW.seq_k fun K hK => ?_
  refine AW.region (by decide) ?_
  simp only [push_cast, Nat.reduceAdd, Nat.reduceMul, Nat.reduceSub, Nat.reduceLeDiff, Nat.reduceLT, Nat.reduceEqDiff, Nat.reduceBEq, Nat.reduceBNe, Nat.reduceMod, Nat.reduceDiv, Int.reduceLE, Int.reduceLT, Int.reduceToNat, Int.reduceAdd, Int.reduceSub, Int.reduceMul, Int.reduceNeg, Int.reduceEq, Int.reduceBEq, Int.reduceBNe, ↓reduceIte, reduceCtorEq, String.reduceBNe, String.reduceEq, reduceDIte, Nat.reducePow, hrow, lk_old hrow, hcl, hoz, ↓alloc33, w1, w2, Int.le_refl, Nat.le_refl]
  refine CThen.by (rnew_c (w : Int) _) ?_
  simp only [push_cast, Nat.reduceAdd, Nat.reduceMul, Nat.reduceSub, Nat.reduceLeDiff, Nat.reduceLT, Nat.reduceEqDiff, Nat.reduceBEq, Nat.reduceBNe, Nat.reduceMod, Nat.reduceDiv, Int.reduceLE, Int.reduceLT, Int.reduceToNat, Int.reduceAdd, Int.reduceSub, Int.reduceMul, Int.reduceNeg, Int.reduceEq, Int.reduceBEq, Int.reduceBNe, ↓reduceIte, reduceCtorEq, String.reduceBNe, String.reduceEq, reduceDIte, Nat.reducePow, hrow, lk_old hrow, hcl, hoz, ↓alloc33, w1, w2, Int.le_refl, Nat.le_refl]
  refine Thn_n ?_
  refine hK _ _ ?_
  clear hK K
  refine AW.seq_k fun K hK => ?_
  refine AW.seq_k fun K hK => ?_
  refine AW.nilCell 65 129 (m.length + 3) 1 (b := ⟨.fix, 61, 0, 0, [.int .i64 w, .nils, .nils, .int .i64 (-1), .int .i64 0, .bool false]⟩) (by simp only [push_cast, Nat.reduceAdd, Nat.reduceMul, Nat.reduceSub, Nat.reduceLeDiff, Nat.reduceLT, Nat.reduceEqDiff, Nat.reduceBEq, Nat.reduceBNe, Nat.reduceMod, Nat.reduceDiv, Int.reduceLE, Int.reduceLT, Int.reduceToNat, Int.reduceAdd, Int.reduceSub, Int.reduceMul, Int.reduceNeg, Int.reduceEq, Int.reduceBEq, Int.reduceBNe, ↓reduceIte, reduceCtorEq, String.reduceBNe, String.reduceEq, reduceDIte, Nat.reducePow]) (by intro e; cases e) rfl ?_
  simp only [List.set_cons_succ, List.set_cons_zero, push_cast, Nat.reduceAdd, Nat.reduceMul, Nat.reduceSub, Nat.reduceLeDiff, Nat.reduceLT, Nat.reduceEqDiff, Nat.reduceBEq, Nat.reduceBNe, Nat.reduceMod, Nat.reduceDiv, Int.reduceLE, Int.reduceLT, Int.reduceToNat, Int.reduceAdd, Int.reduceSub, Int.reduceMul, Int.reduceNeg, Int.reduceEq, Int.reduceBEq, Int.reduceBNe, ↓reduceIte, reduceCtorEq, String.reduceBNe, String.reduceEq, reduceDIte, Nat.reducePow]
  refine AW.nilCell 65 129 (m.length + 3) 2 (b := ⟨.fix, 61, 0, 0, [.int .i64 w, .sl (m.length + 4) 0 0 0, .nils, .int .i64 (-1), .int .i64 0, .bool false]⟩) (by simp only [push_cast, Nat.reduceAdd, Nat.reduceMul, Nat.reduceSub, Nat.reduceLeDiff, Nat.reduceLT, Nat.reduceEqDiff, Nat.reduceBEq, Nat.reduceBNe, Nat.reduceMod, Nat.reduceDiv, Int.reduceLE, Int.reduceLT, Int.reduceToNat, Int.reduceAdd, Int.reduceSub, Int.reduceMul, Int.reduceNeg, Int.reduceEq, Int.reduceBEq, Int.reduceBNe, ↓reduceIte, reduceCtorEq, String.reduceBNe, String.reduceEq, reduceDIte, Nat.reducePow]) (by intro e; cases e) rfl ?_
  simp only [List.set_cons_succ, List.set_cons_zero, push_cast, Nat.reduceAdd, Nat.reduceMul, Nat.reduceSub, Nat.reduceLeDiff, Nat.reduceLT, Nat.reduceEqDiff, Nat.reduceBEq, Nat.reduceBNe, Nat.reduceMod, Nat.reduceDiv, Int.reduceLE, Int.reduceLT, Int.reduceToNat, Int.reduceAdd, Int.reduceSub, Int.reduceMul, Int.reduceNeg, Int.reduceEq, Int.reduceBEq, Int.reduceBNe, ↓reduceIte, reduceCtorEq, String.reduceBNe, String.reduceEq, reduceDIte, Nat.reducePow]
  refine AW.region (by decide) ?_
  simp only [push_cast, Nat.reduceAdd, Nat.reduceMul, Nat.reduceSub, Nat.reduceLeDiff, Nat.reduceLT, Nat.reduceEqDiff, Nat.reduceBEq, Nat.reduceBNe, Nat.reduceMod, Nat.reduceDiv, Int.reduceLE, Int.reduceLT, Int.reduceToNat, Int.reduceAdd, Int.reduceSub, Int.reduceMul, Int.reduceNeg, Int.reduceEq, Int.reduceBEq, Int.reduceBNe, ↓reduceIte, reduceCtorEq, String.reduceBNe, String.reduceEq, reduceDIte, Nat.reducePow, hrow, lk_old hrow, hcl, hoz, ↓alloc33, w1, w2, Int.le_refl, Nat.le_refl]
  refine Thn_n ?_
  refine hK _ _ ?_
  clear hK K
  refine AW.block ?_
  refine AW.loopK [2, 7, 9, 48, 49] (fun p => p.1 ≤ n ∧ p.1 ≤ 60 ∧ Rel w p.2.1 p.2.2) (fun p => [(50, .one (.int .i64 (p.1 : Int)))]) (fun p => [(m.length, rowD w (p.2.1)), (m.length + 1, mapD (p.2.1)), (m.length + 2, drB m.length (m.length + 1) w (p.2.1)), (m.length + 3, refB (m.length + 4) (m.length + 5) w (p.2.2)), (m.length + 4, rowR (p.2.2).vs (p.2.2).su), (m.length + 5, rowR (p.2.2).vl (p.2.2).lo)]) (fun p => n - p.1) ((0, D0, R0) : Nat × DS × RS) ⟨Nat.zero_le _, Nat.zero_le _, rel0 w⟩ ?_ ?_ fun p hi10 => ?_
  · first | rfl | (simp only [Keeps, Tm.get_cons, Nat.reduceEqDiff, ↓reduceIte, if_true, if_false, ite_true, ite_false, true_and, and_true, and_self, reduceCtorEq, Int.natCast_zero] <;> rfl)
  · simp only [setAll, push_cast, Nat.reduceAdd, Nat.reduceMul, Nat.reduceSub, Nat.reduceLeDiff, Nat.reduceLT, Nat.reduceEqDiff, Nat.reduceBEq, Nat.reduceBNe, Nat.reduceMod, Nat.reduceDiv, Int.reduceLE, Int.reduceLT, Int.reduceToNat, Int.reduceAdd, Int.reduceSub, Int.reduceMul, Int.reduceNeg, Int.reduceEq, Int.reduceBEq, Int.reduceBNe, ↓reduceIte, reduceCtorEq, String.reduceBNe, String.reduceEq, reduceDIte, Nat.reducePow]; rfl
  obtain ⟨i, D, R⟩ := p
  obtain ⟨hin, hi60, hrel⟩ := hi10
  dsimp only at hin hi60 hrel ⊢
  try simp only [keepL, setAll, push_cast, Nat.reduceAdd, Nat.reduceMul, Nat.reduceSub, Nat.reduceLeDiff, Nat.reduceLT, Nat.reduceEqDiff, Nat.reduceBEq, Nat.reduceBNe, Nat.reduceMod, Nat.reduceDiv, Int.reduceLE, Int.reduceLT, Int.reduceToNat, Int.reduceAdd, Int.reduceSub, Int.reduceMul, Int.reduceNeg, Int.reduceEq, Int.reduceBEq, Int.reduceBNe, ↓reduceIte, reduceCtorEq, String.reduceBNe, String.reduceEq, reduceDIte, Nat.reducePow, hrow, lk_old hrow, hcl, hoz, ↓alloc33, w1, w2, Int.le_refl, Nat.le_refl]
  refine AW.seq_k fun K hK => ?_
  refine AW.region (by decide) ?_
  simp only [push_cast, Nat.reduceAdd, Nat.reduceMul, Nat.reduceSub, Nat.reduceLeDiff, Nat.reduceLT, Nat.reduceEqDiff, Nat.reduceBEq, Nat.reduceBNe, Nat.reduceMod, Nat.reduceDiv, Int.reduceLE, Int.reduceLT, Int.reduceToNat, Int.reduceAdd, Int.reduceSub, Int.reduceMul, Int.reduceNeg, Int.reduceEq, Int.reduceBEq, Int.reduceBNe, ↓reduceIte, reduceCtorEq, String.reduceBNe, String.reduceEq, reduceDIte, Nat.reducePow, hrow, lk_old hrow, hcl, hoz, ↓alloc33, w1, w2, Int.le_refl, Nat.le_refl]
  refine Thn_n ?_
  refine hK _ _ ?_
  clear hK K
  refine AW.seq_k fun K hK => ?_
  refine AW.cond rfl (fun h51 => ?_) (fun h51 => ?_)
  · have hlt : i < n := by have := of_decide_eq_true h51; omega
    have c1 : (0 : Int) ≤ (i : Int) := by omega
    have c2 : (i : Int) < (n : Int) := by omega
    have c3 : i * 132 + 132 ≤ n * 132 := by omega
    have hb := hops.len i hlt
    have hc := hch i hlt
    have hol := opC_len (kd := kd i) (ax := ax i) (nx := nx i) (rk := rk i) (kn := kn i) hb
    have hov := opC_vals (kd i) (ax i) (nx i) (b i) (rk i) (kn i)
    have hos : setL opZ 0 (opC (kd i) (ax i) (nx i) (b i) (rk i) (kn i)) = opC (kd i) (ax i) (nx i) (b i) (rk i) (kn i) := setL_all (by rw [hol]; rfl)
    have hot : (opC (kd i) (ax i) (nx i) (b i) (rk i) (kn i)).take 132 = opC (kd i) (ax i) (nx i) (b i) (rk i) (kn i) := List.take_of_length_le (by omega)
    have o4 := opC_k (kd := kd i) (ax := ax i) (nx := nx i) (rk := rk i) (kn := kn i) hb
    refine AW.skip ?_
    refine Thn_n ?_
    refine hK _ _ ?_
    clear hK K
    refine AW.seq_k fun K hK => ?_
    refine AW.block ?_
    refine AW.seq_k fun K hK => ?_
    refine AW.region (by decide) ?_
    simp only [push_cast, Nat.reduceAdd, Nat.reduceMul, Nat.reduceSub, Nat.reduceLeDiff, Nat.reduceLT, Nat.reduceEqDiff, Nat.reduceBEq, Nat.reduceBNe, Nat.reduceMod, Nat.reduceDiv, Int.reduceLE, Int.reduceLT, Int.reduceToNat, Int.reduceAdd, Int.reduceSub, Int.reduceMul, Int.reduceNeg, Int.reduceEq, Int.reduceBEq, Int.reduceBNe, ↓reduceIte, reduceCtorEq, String.reduceBNe, String.reduceEq, reduceDIte, Nat.reducePow, hrow, lk_old hrow, hcl, hoz, ↓alloc33, w1, w2, Int.le_refl, Nat.le_refl, c1, c2, c3, hc, hol, hov, hos, hot, o4]
    refine Thn_n ?_
    refine hK _ _ ?_
    clear hK K
    refine AW.seq_k fun K hK => ?_
    refine AW.seq_k fun K hK => ?_
    have h37 : (60 : Int) ≤ (i : Int) ∨ (¬ (60 : Int) ≤ (i : Int) ∧ (60 : Int) < (kn i : Int)) ∨ (¬ (60 : Int) ≤ (i : Int) ∧ ¬ (60 : Int) < (kn i : Int)) := by omega
    rcases h37 with h60 | ⟨h60, hkn⟩ | ⟨h60, hkn⟩
    · have h60x := h60
      refine AW.region (by decide) ?_
      simp only [push_cast, Nat.reduceAdd, Nat.reduceMul, Nat.reduceSub, Nat.reduceLeDiff, Nat.reduceLT, Nat.reduceEqDiff, Nat.reduceBEq, Nat.reduceBNe, Nat.reduceMod, Nat.reduceDiv, Int.reduceLE, Int.reduceLT, Int.reduceToNat, Int.reduceAdd, Int.reduceSub, Int.reduceMul, Int.reduceNeg, Int.reduceEq, Int.reduceBEq, Int.reduceBNe, ↓reduceIte, reduceCtorEq, String.reduceBNe, String.reduceEq, reduceDIte, Nat.reducePow, hrow, lk_old hrow, hcl, hoz, ↓alloc33, w1, w2, Int.le_refl, Nat.le_refl, c1, c2, c3, hc, hol, hov, hos, hot, o4, h60]
      refine Thn_n ?_
      refine hK _ _ ?_
      clear hK K
      refine AW.cond_t rfl ?_
      refine AW.exit ?_
      refine Thn_e ?_
      clear hK K
      refine InB_far (by decide) ?_
      refine Thn_e ?_
      clear hK K
      refine Thn_e ?_
      refine InB_here ?_
      refine Thn_n ?_
      refine hK _ _ ?_
      clear hK K
      refine AW.seq_k fun K hK => ?_
      refine AW.region (by decide) ?_
      simp only [push_cast, Nat.reduceAdd, Nat.reduceMul, Nat.reduceSub, Nat.reduceLeDiff, Nat.reduceLT, Nat.reduceEqDiff, Nat.reduceBEq, Nat.reduceBNe, Nat.reduceMod, Nat.reduceDiv, Int.reduceLE, Int.reduceLT, Int.reduceToNat, Int.reduceAdd, Int.reduceSub, Int.reduceMul, Int.reduceNeg, Int.reduceEq, Int.reduceBEq, Int.reduceBNe, ↓reduceIte, reduceCtorEq, String.reduceBNe, String.reduceEq, reduceDIte, Nat.reducePow, hrow, lk_old hrow, hcl, hoz, ↓alloc33, w1, w2, Int.le_refl, Nat.le_refl, c1, c2, c3, hc, hol, hov, hos, hot, o4, h60]
      refine Thn_n ?_
      refine hK _ _ ?_
      clear hK K
      refine AW.ret ?_
      refine hQ _ _ _ ?_
      first | refine RetP.drop0 (Or.inr rfl) ?_ ?_ hwf | refine RetP.drop (Or.inr rfl) ?_ ?_ hwf
      · simp only [resA, resOne, resTv, AV.tv, push_cast, Nat.reduceAdd, Nat.reduceMul, Nat.reduceSub, Nat.reduceLeDiff, Nat.reduceLT, Nat.reduceEqDiff, Nat.reduceBEq, Nat.reduceBNe, Nat.reduceMod, Nat.reduceDiv, Int.reduceLE, Int.reduceLT, Int.reduceToNat, Int.reduceAdd, Int.reduceSub, Int.reduceMul, Int.reduceNeg, Int.reduceEq, Int.reduceBEq, Int.reduceBNe, ↓reduceIte, reduceCtorEq, String.reduceBNe, String.reduceEq, reduceDIte, Nat.reducePow, hrow, lk_old hrow, hcl, hoz, ↓alloc33, w1, w2, Int.le_refl, Nat.le_refl, c1, c2, c3, hc, hol, hov, hos, hot, o4, h60]
      · rfl
    · have h60x := h60
      refine AW.region (by decide) ?_
      simp only [push_cast, Nat.reduceAdd, Nat.reduceMul, Nat.reduceSub, Nat.reduceLeDiff, Nat.reduceLT, Nat.reduceEqDiff, Nat.reduceBEq, Nat.reduceBNe, Nat.reduceMod, Nat.reduceDiv, Int.reduceLE, Int.reduceLT, Int.reduceToNat, Int.reduceAdd, Int.reduceSub, Int.reduceMul, Int.reduceNeg, Int.reduceEq, Int.reduceBEq, Int.reduceBNe, ↓reduceIte, reduceCtorEq, String.reduceBNe, String.reduceEq, reduceDIte, Nat.reducePow, hrow, lk_old hrow, hcl, hoz, ↓alloc33, w1, w2, Int.le_refl, Nat.le_refl, c1, c2, c3, hc, hol, hov, hos, hot, o4, h60, hkn]
      refine Thn_n ?_
      refine hK _ _ ?_
      clear hK K
      refine AW.cond_t rfl ?_
      refine AW.exit ?_
      refine Thn_e ?_
      clear hK K
      refine InB_far (by decide) ?_
      refine Thn_e ?_
      clear hK K
      refine Thn_e ?_
      refine InB_here ?_
      refine Thn_n ?_
      refine hK _ _ ?_
      clear hK K
      refine AW.seq_k fun K hK => ?_
      refine AW.region (by decide) ?_
      simp only [push_cast, Nat.reduceAdd, Nat.reduceMul, Nat.reduceSub, Nat.reduceLeDiff, Nat.reduceLT, Nat.reduceEqDiff, Nat.reduceBEq, Nat.reduceBNe, Nat.reduceMod, Nat.reduceDiv, Int.reduceLE, Int.reduceLT, Int.reduceToNat, Int.reduceAdd, Int.reduceSub, Int.reduceMul, Int.reduceNeg, Int.reduceEq, Int.reduceBEq, Int.reduceBNe, ↓reduceIte, reduceCtorEq, String.reduceBNe, String.reduceEq, reduceDIte, Nat.reducePow, hrow, lk_old hrow, hcl, hoz, ↓alloc33, w1, w2, Int.le_refl, Nat.le_refl, c1, c2, c3, hc, hol, hov, hos, hot, o4, h60, hkn]
      refine Thn_n ?_
      refine hK _ _ ?_
      clear hK K
      refine AW.ret ?_
      refine hQ _ _ _ ?_
      first | refine RetP.drop0 (Or.inr rfl) ?_ ?_ hwf | refine RetP.drop (Or.inr rfl) ?_ ?_ hwf
      · simp only [resA, resOne, resTv, AV.tv, push_cast, Nat.reduceAdd, Nat.reduceMul, Nat.reduceSub, Nat.reduceLeDiff, Nat.reduceLT, Nat.reduceEqDiff, Nat.reduceBEq, Nat.reduceBNe, Nat.reduceMod, Nat.reduceDiv, Int.reduceLE, Int.reduceLT, Int.reduceToNat, Int.reduceAdd, Int.reduceSub, Int.reduceMul, Int.reduceNeg, Int.reduceEq, Int.reduceBEq, Int.reduceBNe, ↓reduceIte, reduceCtorEq, String.reduceBNe, String.reduceEq, reduceDIte, Nat.reducePow, hrow, lk_old hrow, hcl, hoz, ↓alloc33, w1, w2, Int.le_refl, Nat.le_refl, c1, c2, c3, hc, hol, hov, hos, hot, o4, h60, hkn]
      · rfl
    · have h60x := h60
      have hi61 : i < 60 := by omega
      have hkn60 : kn i ≤ 60 := by omega
      obtain ⟨D2, R2, hrel2, hdo⟩ := does_all w D R (kd i) (ax i) (nx i) (b i) (rk i) (kn i) (ks i) m [⟨.fix, 33, 0, 0, opC (kd i) (ax i) (nx i) (b i) (rk i) (kn i)⟩] hrel hw8 hb (hops.keep i hlt) hkn60
      obtain ⟨v, z, hv9, hr0⟩ := read_any (m := m ++ (rowD w (D2) :: mapD (D2) :: drB m.length (m.length + 1) w (D2) :: refB (m.length + 4) (m.length + 5) w (R2) :: rowR (R2).vs (R2).su :: rowR (R2).vl (R2).lo :: [⟨.fix, 33, 0, 0, opC (kd i) (ax i) (nx i) (b i) (rk i) (kn i)⟩])) hrel2 hw8 hasD_cat hasR_cat at_
      simp only [List.append_assoc, List.cons_append, List.nil_append] at hr0
      have g1 : (u8l v).length = 128 := by rw [u8l_len, hv9]
      have g3 : (u8l v).take 128 = u8l v := List.take_of_length_le (by omega)
      have g2 := u8l_vals v
      have g4 : setL [.int .u8 0, .int .u8 0, .int .u8 0, .int .u8 0, .int .u8 0, .int .u8 0, .int .u8 0, .int .u8 0, .int .u8 0, .int .u8 0, .int .u8 0, .int .u8 0, .int .u8 0, .int .u8 0, .int .u8 0, .int .u8 0, .int .u8 0, .int .u8 0, .int .u8 0, .int .u8 0, .int .u8 0, .int .u8 0, .int .u8 0, .int .u8 0, .int .u8 0, .int .u8 0, .int .u8 0, .int .u8 0, .int .u8 0, .int .u8 0, .int .u8 0, .int .u8 0, .int .u8 0, .int .u8 0, .int .u8 0, .int .u8 0, .int .u8 0, .int .u8 0, .int .u8 0, .int .u8 0, .int .u8 0, .int .u8 0, .int .u8 0, .int .u8 0, .int .u8 0, .int .u8 0, .int .u8 0, .int .u8 0, .int .u8 0, .int .u8 0, .int .u8 0, .int .u8 0, .int .u8 0, .int .u8 0, .int .u8 0, .int .u8 0, .int .u8 0, .int .u8 0, .int .u8 0, .int .u8 0, .int .u8 0, .int .u8 0, .int .u8 0, .int .u8 0, .int .u8 0, .int .u8 0, .int .u8 0, .int .u8 0, .int .u8 0, .int .u8 0, .int .u8 0, .int .u8 0, .int .u8 0, .int .u8 0, .int .u8 0, .int .u8 0, .int .u8 0, .int .u8 0, .int .u8 0, .int .u8 0, .int .u8 0, .int .u8 0, .int .u8 0, .int .u8 0, .int .u8 0, .int .u8 0, .int .u8 0, .int .u8 0, .int .u8 0, .int .u8 0, .int .u8 0, .int .u8 0, .int .u8 0, .int .u8 0, .int .u8 0, .int .u8 0, .int .u8 0, .int .u8 0, .int .u8 0, .int .u8 0, .int .u8 0, .int .u8 0, .int .u8 0, .int .u8 0, .int .u8 0, .int .u8 0, .int .u8 0, .int .u8 0, .int .u8 0, .int .u8 0, .int .u8 0, .int .u8 0, .int .u8 0, .int .u8 0, .int .u8 0, .int .u8 0, .int .u8 0, .int .u8 0, .int .u8 0, .int .u8 0, .int .u8 0, .int .u8 0, .int .u8 0, .int .u8 0, .int .u8 0, .int .u8 0, .int .u8 0, .int .u8 0] 0 (u8l v) = u8l v := setL_all (by rw [g1]; rfl)
      have g6 : setL (u8l zB) 0 (u8l v) = u8l v := setL_all (by rw [g1]; rfl)
      have q1 := eqp128 hv9 hv9
      rw [decide_eq_true rfl] at q1
      refine AW.region (by decide) ?_
      simp only [push_cast, Nat.reduceAdd, Nat.reduceMul, Nat.reduceSub, Nat.reduceLeDiff, Nat.reduceLT, Nat.reduceEqDiff, Nat.reduceBEq, Nat.reduceBNe, Nat.reduceMod, Nat.reduceDiv, Int.reduceLE, Int.reduceLT, Int.reduceToNat, Int.reduceAdd, Int.reduceSub, Int.reduceMul, Int.reduceNeg, Int.reduceEq, Int.reduceBEq, Int.reduceBNe, ↓reduceIte, reduceCtorEq, String.reduceBNe, String.reduceEq, reduceDIte, Nat.reducePow, hrow, lk_old hrow, hcl, hoz, ↓alloc33, w1, w2, Int.le_refl, Nat.le_refl, c1, c2, c3, hc, hol, hov, hos, hot, o4, h60, hkn, g1, g2, g3, g4, g6, q1]
      refine Thn_n ?_
      refine hK _ _ ?_
      clear hK K
      refine AW.cond_f rfl ?_
      refine AW.skip ?_
      refine Thn_n ?_
      refine hK _ _ ?_
      clear hK K
      refine AW.seq_k fun K hK => ?_
      refine AW.seq_k fun K hK => ?_
      refine AW.region (by decide) ?_
      simp only [push_cast, Nat.reduceAdd, Nat.reduceMul, Nat.reduceSub, Nat.reduceLeDiff, Nat.reduceLT, Nat.reduceEqDiff, Nat.reduceBEq, Nat.reduceBNe, Nat.reduceMod, Nat.reduceDiv, Int.reduceLE, Int.reduceLT, Int.reduceToNat, Int.reduceAdd, Int.reduceSub, Int.reduceMul, Int.reduceNeg, Int.reduceEq, Int.reduceBEq, Int.reduceBNe, ↓reduceIte, reduceCtorEq, String.reduceBNe, String.reduceEq, reduceDIte, Nat.reducePow, hrow, lk_old hrow, hcl, hoz, ↓alloc33, w1, w2, Int.le_refl, Nat.le_refl, c1, c2, c3, hc, hol, hov, hos, hot, o4, h60, hkn, g1, g2, g3, g4, g6, q1]
      refine CThen.by (hdo) ?_
      simp only [push_cast, Nat.reduceAdd, Nat.reduceMul, Nat.reduceSub, Nat.reduceLeDiff, Nat.reduceLT, Nat.reduceEqDiff, Nat.reduceBEq, Nat.reduceBNe, Nat.reduceMod, Nat.reduceDiv, Int.reduceLE, Int.reduceLT, Int.reduceToNat, Int.reduceAdd, Int.reduceSub, Int.reduceMul, Int.reduceNeg, Int.reduceEq, Int.reduceBEq, Int.reduceBNe, ↓reduceIte, reduceCtorEq, String.reduceBNe, String.reduceEq, reduceDIte, Nat.reducePow, hrow, lk_old hrow, hcl, hoz, ↓alloc33, w1, w2, Int.le_refl, Nat.le_refl, c1, c2, c3, hc, hol, hov, hos, hot, o4, h60, hkn, g1, g2, g3, g4, g6, q1]
      refine CThen.by (is_c w (m.length + 2) m.length (m.length + 1) (m.length + 3) (m.length + 4) (m.length + 5) D2 R2 _ hrel2 hw8 hasD_cat hasR_cat) ?_
      simp only [push_cast, Nat.reduceAdd, Nat.reduceMul, Nat.reduceSub, Nat.reduceLeDiff, Nat.reduceLT, Nat.reduceEqDiff, Nat.reduceBEq, Nat.reduceBNe, Nat.reduceMod, Nat.reduceDiv, Int.reduceLE, Int.reduceLT, Int.reduceToNat, Int.reduceAdd, Int.reduceSub, Int.reduceMul, Int.reduceNeg, Int.reduceEq, Int.reduceBEq, Int.reduceBNe, ↓reduceIte, reduceCtorEq, String.reduceBNe, String.reduceEq, reduceDIte, Nat.reducePow, hrow, lk_old hrow, hcl, hoz, ↓alloc33, w1, w2, Int.le_refl, Nat.le_refl, c1, c2, c3, hc, hol, hov, hos, hot, o4, h60, hkn, g1, g2, g3, g4, g6, q1]
      refine Thn_n ?_
      refine hK _ _ ?_
      clear hK K
      refine AW.cond_f rfl ?_
      refine AW.skip ?_
      refine Thn_n ?_
      refine hK _ _ ?_
      clear hK K
      refine AW.seq_k fun K hK => ?_
      refine AW.region (by decide) ?_
      simp only [push_cast, Nat.reduceAdd, Nat.reduceMul, Nat.reduceSub, Nat.reduceLeDiff, Nat.reduceLT, Nat.reduceEqDiff, Nat.reduceBEq, Nat.reduceBNe, Nat.reduceMod, Nat.reduceDiv, Int.reduceLE, Int.reduceLT, Int.reduceToNat, Int.reduceAdd, Int.reduceSub, Int.reduceMul, Int.reduceNeg, Int.reduceEq, Int.reduceBEq, Int.reduceBNe, ↓reduceIte, reduceCtorEq, String.reduceBNe, String.reduceEq, reduceDIte, Nat.reducePow, hrow, lk_old hrow, hcl, hoz, ↓alloc33, w1, w2, Int.le_refl, Nat.le_refl, c1, c2, c3, hc, hol, hov, hos, hot, o4, h60, hkn, g1, g2, g3, g4, g6, q1]
      refine CThen.by ((hr0 _).1) ?_
      simp only [push_cast, Nat.reduceAdd, Nat.reduceMul, Nat.reduceSub, Nat.reduceLeDiff, Nat.reduceLT, Nat.reduceEqDiff, Nat.reduceBEq, Nat.reduceBNe, Nat.reduceMod, Nat.reduceDiv, Int.reduceLE, Int.reduceLT, Int.reduceToNat, Int.reduceAdd, Int.reduceSub, Int.reduceMul, Int.reduceNeg, Int.reduceEq, Int.reduceBEq, Int.reduceBNe, ↓reduceIte, reduceCtorEq, String.reduceBNe, String.reduceEq, reduceDIte, Nat.reducePow, hrow, lk_old hrow, hcl, hoz, ↓alloc33, w1, w2, Int.le_refl, Nat.le_refl, c1, c2, c3, hc, hol, hov, hos, hot, o4, h60, hkn, g1, g2, g3, g4, g6, q1]
      refine Thn_n ?_
      refine hK _ _ ?_
      clear hK K
      refine AW.seq_k fun K hK => ?_
      refine AW.region (by decide) ?_
      simp only [push_cast, Nat.reduceAdd, Nat.reduceMul, Nat.reduceSub, Nat.reduceLeDiff, Nat.reduceLT, Nat.reduceEqDiff, Nat.reduceBEq, Nat.reduceBNe, Nat.reduceMod, Nat.reduceDiv, Int.reduceLE, Int.reduceLT, Int.reduceToNat, Int.reduceAdd, Int.reduceSub, Int.reduceMul, Int.reduceNeg, Int.reduceEq, Int.reduceBEq, Int.reduceBNe, ↓reduceIte, reduceCtorEq, String.reduceBNe, String.reduceEq, reduceDIte, Nat.reducePow, hrow, lk_old hrow, hcl, hoz, ↓alloc33, w1, w2, Int.le_refl, Nat.le_refl, c1, c2, c3, hc, hol, hov, hos, hot, o4, h60, hkn, g1, g2, g3, g4, g6, q1]
      refine CThen.by ((hr0 _).2) ?_
      simp only [push_cast, Nat.reduceAdd, Nat.reduceMul, Nat.reduceSub, Nat.reduceLeDiff, Nat.reduceLT, Nat.reduceEqDiff, Nat.reduceBEq, Nat.reduceBNe, Nat.reduceMod, Nat.reduceDiv, Int.reduceLE, Int.reduceLT, Int.reduceToNat, Int.reduceAdd, Int.reduceSub, Int.reduceMul, Int.reduceNeg, Int.reduceEq, Int.reduceBEq, Int.reduceBNe, ↓reduceIte, reduceCtorEq, String.reduceBNe, String.reduceEq, reduceDIte, Nat.reducePow, hrow, lk_old hrow, hcl, hoz, ↓alloc33, w1, w2, Int.le_refl, Nat.le_refl, c1, c2, c3, hc, hol, hov, hos, hot, o4, h60, hkn, g1, g2, g3, g4, g6, q1]
      refine Thn_n ?_
      refine hK _ _ ?_
      clear hK K
      refine AW.seq_k fun K hK => ?_
      refine AW.region (by decide) ?_
      simp only [push_cast, Nat.reduceAdd, Nat.reduceMul, Nat.reduceSub, Nat.reduceLeDiff, Nat.reduceLT, Nat.reduceEqDiff, Nat.reduceBEq, Nat.reduceBNe, Nat.reduceMod, Nat.reduceDiv, Int.reduceLE, Int.reduceLT, Int.reduceToNat, Int.reduceAdd, Int.reduceSub, Int.reduceMul, Int.reduceNeg, Int.reduceEq, Int.reduceBEq, Int.reduceBNe, ↓reduceIte, reduceCtorEq, String.reduceBNe, String.reduceEq, reduceDIte, Nat.reducePow, hrow, lk_old hrow, hcl, hoz, ↓alloc33, w1, w2, Int.le_refl, Nat.le_refl, c1, c2, c3, hc, hol, hov, hos, hot, o4, h60, hkn, g1, g2, g3, g4, g6, q1]
      refine Thn_n ?_
      refine hK _ _ ?_
      clear hK K
      refine AW.cond_f rfl ?_
      refine AW.skip ?_
      refine InB_n ?_
      refine Thn_n ?_
      refine hK _ _ ?_
      clear hK K
      refine AW.region (by decide) ?_
      simp only [push_cast, Nat.reduceAdd, Nat.reduceMul, Nat.reduceSub, Nat.reduceLeDiff, Nat.reduceLT, Nat.reduceEqDiff, Nat.reduceBEq, Nat.reduceBNe, Nat.reduceMod, Nat.reduceDiv, Int.reduceLE, Int.reduceLT, Int.reduceToNat, Int.reduceAdd, Int.reduceSub, Int.reduceMul, Int.reduceNeg, Int.reduceEq, Int.reduceBEq, Int.reduceBNe, ↓reduceIte, reduceCtorEq, String.reduceBNe, String.reduceEq, reduceDIte, Nat.reducePow, hrow, lk_old hrow, hcl, hoz, ↓alloc33, w1, w2, Int.le_refl, Nat.le_refl, c1, c2, c3, hc, hol, hov, hos, hot, o4, h60, hkn, g1, g2, g3, g4, g6, q1]
      refine Thn_n ?_
      have hwi : IntKind.i64.wrap ((i:Int)+1) = (i:Int)+1 := wi (by omega)
      refine ⟨((i + 1, D2, R2) : Nat × DS × RS), ⟨by show i + 1 ≤ n; omega, by show i + 1 ≤ 60; omega, hrel2⟩, by show n - (i + 1) < n - i; omega, ?_⟩
      try simp only [keepL, setAll, push_cast, Nat.reduceAdd, Nat.reduceMul, Nat.reduceSub, Nat.reduceLeDiff, Nat.reduceLT, Nat.reduceEqDiff, Nat.reduceBEq, Nat.reduceBNe, Nat.reduceMod, Nat.reduceDiv, Int.reduceLE, Int.reduceLT, Int.reduceToNat, Int.reduceAdd, Int.reduceSub, Int.reduceMul, Int.reduceNeg, Int.reduceEq, Int.reduceBEq, Int.reduceBNe, ↓reduceIte, reduceCtorEq, String.reduceBNe, String.reduceEq, reduceDIte, Nat.reducePow, hrow, lk_old hrow, hcl, hoz, ↓alloc33, w1, w2, Int.le_refl, Nat.le_refl, c1, c2, c3, hc, hol, hov, hos, hot, o4, h60, hkn, g1, g2, g3, g4, g6, q1, hwi]
      exact Weak.to (extra := [_, _, _]) (by simp only [Keeps, Tm.get_cons, Nat.reduceEqDiff, ↓reduceIte, if_true, if_false, ite_true, ite_false, true_and, and_true, and_self, reduceCtorEq, hwi]) (by first | rfl | (simp only [List.append_assoc, List.cons_append, List.nil_append]; rfl)) (by first | rfl | (simp [AV.below, CV.below]; done) | (simp [AV.below, CV.below]; omega)) (dr_wf hwf _ (MWf_cons (by simp [refB, CV.below]) (MWf_cons (rowC_below _ _) (MWf_cons (rowC_below _ _) MWf_nil))))
  · refine AW.exit ?_
    refine Thn_e ?_
    clear hK K
    refine Thn_e ?_
    refine InB_here ?_
    refine Thn_n ?_
    refine hK _ _ ?_
    clear hK K
    refine AW.seq_k fun K hK => ?_
    refine AW.region (by decide) ?_
    simp only [push_cast, Nat.reduceAdd, Nat.reduceMul, Nat.reduceSub, Nat.reduceLeDiff, Nat.reduceLT, Nat.reduceEqDiff, Nat.reduceBEq, Nat.reduceBNe, Nat.reduceMod, Nat.reduceDiv, Int.reduceLE, Int.reduceLT, Int.reduceToNat, Int.reduceAdd, Int.reduceSub, Int.reduceMul, Int.reduceNeg, Int.reduceEq, Int.reduceBEq, Int.reduceBNe, ↓reduceIte, reduceCtorEq, String.reduceBNe, String.reduceEq, reduceDIte, Nat.reducePow, hrow, lk_old hrow, hcl, hoz, ↓alloc33, w1, w2, Int.le_refl, Nat.le_refl]
    refine Thn_n ?_
    refine hK _ _ ?_
    clear hK K
    refine AW.ret ?_
    refine hQ _ _ _ ?_
    first | refine RetP.drop0 (Or.inr rfl) ?_ ?_ hwf | refine RetP.drop (Or.inr rfl) ?_ ?_ hwf
    · simp only [resA, resOne, resTv, AV.tv, push_cast, Nat.reduceAdd, Nat.reduceMul, Nat.reduceSub, Nat.reduceLeDiff, Nat.reduceLT, Nat.reduceEqDiff, Nat.reduceBEq, Nat.reduceBNe, Nat.reduceMod, Nat.reduceDiv, Int.reduceLE, Int.reduceLT, Int.reduceToNat, Int.reduceAdd, Int.reduceSub, Int.reduceMul, Int.reduceNeg, Int.reduceEq, Int.reduceBEq, Int.reduceBNe, ↓reduceIte, reduceCtorEq, String.reduceBNe, String.reduceEq, reduceDIte, Nat.reducePow, hrow, lk_old hrow, hcl, hoz, ↓alloc33, w1, w2, Int.le_refl, Nat.le_refl]
    · rfl
end Go.Proofs.Ytcahlnddcjifdaa
