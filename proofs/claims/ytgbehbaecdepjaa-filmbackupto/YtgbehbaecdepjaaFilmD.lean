/- Walks and facts of this seat's program over abstract states, printed by a program of mine; no conditions but those that each theorem names. -/
import Derived.Test.YtgbehbaecdepjaaFilmA
import Derived.Test.YtgbehbaecdepjaaEngW
set_option linter.unusedSimpArgs false
set_option linter.unusedVariables false
set_option maxRecDepth 100000
set_option maxHeartbeats 4000000
namespace Go.Proofs.Ytgbehbaecdepjaa
open Go Go.Eng

/-- Bytes; a number's bytes, the lowest first. -/
def u8l (bs : List Int) : List CV := bs.map (CV.int .u8)
theorem u8l_len (bs : List Int) : (u8l bs).length = bs.length := by simp [u8l]
theorem u8l_app (a b : List Int) : u8l a ++ u8l b = u8l (a ++ b) := by simp [u8l]
theorem u8l_snoc (a : List Int) (x : Int) : u8l a ++ [.int .u8 x] = u8l (a ++ [x]) := by simp [u8l]
theorem u8l_vals (bs : List Int) : (u8l bs).all CV.isVal = true := by
  simp only [u8l, List.all_map, List.all_eq_true]; intro x _; rfl
theorem u8l_below (L : Nat) (bs : List Int) : (u8l bs).all (CV.below L) = true := by
  simp only [u8l, List.all_map, List.all_eq_true]; intro x _; rfl
def shN (n : Int) : Nat → Int
  | 0 => n
  | j + 1 => shN n j / 256
theorem shN_0 {n : Int} (h : 0 ≤ n) : ∀ j, 0 ≤ shN n j
  | 0 => h
  | j + 1 => Int.ediv_nonneg (shN_0 h j) (by decide)
theorem shN_le {n : Int} (h : 0 ≤ n) : ∀ j, shN n j ≤ n
  | 0 => Int.le_refl _
  | j + 1 => by have := shN_le h j; have := shN_0 h j; simp only [shN]; omega
def numL (n : Int) : Nat → List Int
  | 0 => []
  | j + 1 => numL n j ++ [IntKind.u8.wrap (shN n j)]
theorem numL_len (n : Int) : ∀ j, (numL n j).length = j
  | 0 => rfl
  | j + 1 => by simp only [numL, List.length_append, numL_len n j, List.length_cons, List.length_nil]
/-- A writer: what was laid, behind a pointer. -/
def wA (rb : Nat) (bs : List Int) : Blk := ⟨.fix, 107, 0, 0, [.sl rb bs.length 0 bs.length]⟩
def wB (bs : List Int) : Blk := ⟨.grow, 5, bs.length, 1, u8l bs⟩
def wM (m : AMem) (w rb : Nat) (bs : List Int) : AMem := (m.set w (wA rb bs)).set rb (wB bs)
structure WAt (m : AMem) (w rb : Nat) (bs : List Int) : Prop where
  hw : m[w]? = some (wA rb bs)
  hb : m[rb]? = some (wB bs)
  ne : w ≠ rb
section
variable {m : AMem} {w rb : Nat}
theorem wM_fold (m : AMem) (w rb : Nat) (bs : List Int) : (m.set w (wA rb bs)).set rb (wB bs) = wM m w rb bs := rfl
theorem wM_len (bs : List Int) : (wM m w rb bs).length = m.length := by simp [wM]
theorem set_self {α : Type} {l : List α} {i : Nat} {x : α} (h : l[i]? = some x) : l.set i x = l := by
  refine List.ext_getElem? fun j => ?_
  rw [List.getElem?_set]
  split
  · rename_i e; subst e
    have := (List.getElem?_eq_some_iff.1 h).1
    rw [if_pos this, h]
  · rfl
theorem wM_self {bs : List Int} (h : WAt m w rb bs) : wM m w rb bs = m := by
  unfold wM; rw [set_self h.hw, set_self h.hb]
theorem wM_two (hne : w ≠ rb) (X Y : List Int) : wM (wM m w rb X) w rb Y = wM m w rb Y := by
  unfold wM
  rw [List.set_comm _ _ (fun h => hne h.symm), List.set_set, List.set_set]
theorem wM_app (hw : w < m.length) (hb : rb < m.length) (L : AMem) (X : List Int) : wM (m ++ L) w rb X = wM m w rb X ++ L := by
  unfold wM; rw [List.set_append_left _ _ hw, List.set_append_left _ _ (by simpa using hb)]
theorem wM_w (hw : w < m.length) (hne : w ≠ rb) (X : List Int) (L : AMem) : (wM m w rb X ++ L)[w]? = some ⟨.fix, 107, 0, 0, [.sl rb X.length 0 X.length]⟩ := by
  rw [List.getElem?_append_left (by rw [wM_len]; exact hw)]
  unfold wM; rw [List.getElem?_set_ne (fun h => hne h.symm), List.getElem?_set_self hw]; rfl
theorem wM_w0 (hw : w < m.length) (hne : w ≠ rb) (X : List Int) : (wM m w rb X)[w]? = some ⟨.fix, 107, 0, 0, [.sl rb X.length 0 X.length]⟩ := by
  have := wM_w hw hne X []; rwa [List.append_nil] at this
theorem wM_b (hb : rb < m.length) (X : List Int) (L : AMem) : (wM m w rb X ++ L)[rb]? = some ⟨.grow, 5, X.length, 1, u8l X⟩ := by
  rw [List.getElem?_append_left (by rw [wM_len]; exact hb)]
  unfold wM; rw [List.getElem?_set_self (by simpa using hb)]; rfl
theorem wM_b0 (hb : rb < m.length) (X : List Int) : (wM m w rb X)[rb]? = some ⟨.grow, 5, X.length, 1, u8l X⟩ := by
  have := wM_b (w := w) hb X []; rwa [List.append_nil] at this
theorem wM_o {r : Nat} {b : Blk} (h : m[r]? = some b) (h1 : r ≠ w) (h2 : r ≠ rb) (X : List Int) (L : AMem) : (wM m w rb X ++ L)[r]? = some b := by
  have hr := (List.getElem?_eq_some_iff.1 h).1
  rw [List.getElem?_append_left (by rw [wM_len]; exact hr)]
  unfold wM; rw [List.getElem?_set_ne (fun h => h2 h.symm), List.getElem?_set_ne (fun h => h1 h.symm)]; exact h
theorem wM_o0 {r : Nat} {b : Blk} (h : m[r]? = some b) (h1 : r ≠ w) (h2 : r ≠ rb) (X : List Int) : (wM m w rb X)[r]? = some b := by
  have := wM_o h h1 h2 X []; rwa [List.append_nil] at this
theorem wM_new (X : List Int) (b : Blk) (L : AMem) (k : Nat) : (wM m w rb X ++ L)[m.length + k]? = L[k]? := by
  rw [List.getElem?_append_right (by rw [wM_len]; omega), wM_len]; congr 1; omega
theorem wM_new0 (X : List Int) (b : Blk) (L : AMem) : (wM m w rb X ++ b :: L)[m.length]? = some b := by
  rw [List.getElem?_append_right (by rw [wM_len]; omega), wM_len, Nat.sub_self]; rfl
theorem wM_s1 (hb : rb < m.length) (X : List Int) (L : AMem) (b : Blk) : (wM m w rb X ++ L).set rb b = (wM m w rb X).set rb b ++ L := List.set_append_left _ _ (by rw [wM_len]; exact hb)
theorem wM_s2 (hw : w < m.length) (X : List Int) (L : AMem) (b b' : Blk) : ((wM m w rb X).set rb b ++ L).set w b' = ((wM m w rb X).set rb b).set w b' ++ L := List.set_append_left _ _ (by simpa [wM_len] using hw)
theorem wM_w2 (hw : w < m.length) (hne : w ≠ rb) (X : List Int) (L : AMem) (b : Blk) : ((wM m w rb X).set rb b ++ L)[w]? = some ⟨.fix, 107, 0, 0, [.sl rb X.length 0 X.length]⟩ := by
  rw [List.getElem?_append_left (by simpa [wM_len] using hw), List.getElem?_set_ne (fun h => hne h.symm)]
  exact wM_w0 hw hne X
theorem wM_step (hne : w ≠ rb) (X : List Int) (x : Int) : ((wM m w rb X).set rb ⟨.grow, 5, X.length + 1, 1, u8l X ++ [.int .u8 x]⟩).set w ⟨.fix, 107, 0, 0, [.sl rb (X.length + 1) 0 (X.length + 1)]⟩ = wM m w rb (X ++ [x]) := by
  have e1 : (X ++ [x]).length = X.length + 1 := by simp
  have ea : wA rb (X ++ [x]) = ⟨.fix, 107, 0, 0, [.sl rb (X.length + 1) 0 (X.length + 1)]⟩ := by unfold wA; rw [e1]
  have eb : wB (X ++ [x]) = ⟨.grow, 5, X.length + 1, 1, u8l X ++ [.int .u8 x]⟩ := by unfold wB; rw [e1, u8l_snoc]
  rw [← ea, ← eb]
  unfold wM
  rw [List.set_set, List.set_comm _ _ (fun h => hne h.symm), List.set_set]
theorem wM_wf {L : Nat} (hb : rb < L) (h : MWf L m) (X : List Int) : MWf L (wM m w rb X) := fun b hm => by
  rcases List.mem_or_eq_of_mem_set hm with h1 | rfl
  · rcases List.mem_or_eq_of_mem_set h1 with h2 | rfl
    · exact h b h2
    · show (wA rb X).cells.all (CV.below L) = true
      simp [wA, CV.below, hb]
  · exact u8l_below _ _
theorem wM_at (hw : w < m.length) (hb : rb < m.length) (hne : w ≠ rb) (X : List Int) : WAt (wM m w rb X) w rb X := ⟨wM_w0 hw hne X, wM_b0 hb X, hne⟩
theorem WAt.app {bs : List Int} (h : WAt m w rb bs) (L : AMem) : WAt (m ++ L) w rb bs := ⟨lk_old h.hw L, lk_old h.hb L, h.ne⟩
theorem WAt.ne1 {bs : List Int} (h : WAt m w rb bs) {r : Nat} {b : Blk} (hr : m[r]? = some b) (h1 : b.ty ≠ 107) : r ≠ w := fun e => by
  subst e; rw [h.hw] at hr; injection hr with hr; subst hr; exact h1 rfl
theorem WAt.ne2 {bs : List Int} (h : WAt m w rb bs) {r : Nat} {b : Blk} (hr : m[r]? = some b) (h1 : b.ty ≠ 5) : r ≠ rb := fun e => by
  subst e; rw [h.hb] at hr; injection hr with hr; subst hr; exact h1 rfl
end
theorem raw_c (w rb : Nat) (bs : List Int) (n : Int) (s : Nat) (m : AMem) (hW : WAt m w rb bs) (hn : 0 ≤ n) (hn2 : n ≤ 18446744073709551615) (hs : bs.length + s ≤ 100000000000) : Ctr Try.prog 59 [.one (.ptr w 0 0), .one (.int .u64 n), .one (.int .i64 (s : Int))] m (.tup []) (wM m w rb (bs ++ numL n s)) := by
  refine Ctr.enter Try.func59 rfl (by decide) (rs := []) (nt := 25) rfl rfl fun hwf Q hQ => ?_
  have lw := get_lt hW.hw
  have lb := get_lt hW.hb
  have ne := hW.ne
  have hlen := fun X => @wM_len m w rb X
  have hst := wM_self hW
  have g1 := fun X L => @wM_w m w rb lw ne X L
  have g10 := fun X => @wM_w0 m w rb lw ne X
  have g2 := fun X L => @wM_b m w rb lb X L
  have g20 := fun X => @wM_b0 m w rb lb X
  have g3 := fun X b L => @wM_new0 m w rb X b L
  have s1 := fun X L b => @wM_s1 m w rb lb X L b
  have s2 := fun X L b c => @wM_s2 m w rb lw X L b c
  have g4 := fun X L b => @wM_w2 m w rb lw ne X L b
  have s3 := fun X x => @wM_step m w rb ne X x
  have hwfM := fun X => @wM_wf m w rb m.length lb hwf X
  have hst0 : wM m w rb (bs ++ numL n 0) = m := by rw [numL, List.append_nil]; exact hst
  have p8 : (2 : Int) ^ min 8 IntKind.u64.bits = 256 := by decide
  refine AW.seq_k fun K hK => ?_
  refine AW.seq_k fun K hK => ?_
  refine AW.region (by decide) ?_
  simp only [push_cast, Nat.reduceAdd, Nat.reduceMul, Nat.reduceSub, Nat.reduceLeDiff, Nat.reduceLT, Nat.reduceEqDiff, Nat.reduceBEq, Nat.reduceBNe, Nat.reduceMod, Nat.reduceDiv, Int.reduceLE, Int.reduceLT, Int.reduceToNat, Int.reduceAdd, Int.reduceSub, Int.reduceMul, Int.reduceNeg, Int.reduceEq, Int.reduceBEq, Int.reduceBNe, ↓reduceIte, reduceCtorEq, String.reduceBNe, String.reduceEq, reduceDIte, Nat.reducePow, wM_fold, hlen, g1, g10, g2, g20, g3, s1, s2, g4, s3, u8l_len, p8]
  refine Thn_n ?_
  refine hK _ _ ?_
  clear hK K
  refine AW.cond_f rfl ?_
  refine AW.skip ?_
  refine Thn_n ?_
  refine hK _ _ ?_
  clear hK K
  refine AW.seq_k fun K hK => ?_
  refine AW.region (by decide) ?_
  simp only [push_cast, Nat.reduceAdd, Nat.reduceMul, Nat.reduceSub, Nat.reduceLeDiff, Nat.reduceLT, Nat.reduceEqDiff, Nat.reduceBEq, Nat.reduceBNe, Nat.reduceMod, Nat.reduceDiv, Int.reduceLE, Int.reduceLT, Int.reduceToNat, Int.reduceAdd, Int.reduceSub, Int.reduceMul, Int.reduceNeg, Int.reduceEq, Int.reduceBEq, Int.reduceBNe, ↓reduceIte, reduceCtorEq, String.reduceBNe, String.reduceEq, reduceDIte, Nat.reducePow, wM_fold, hlen, g1, g10, g2, g20, g3, s1, s2, g4, s3, u8l_len, p8]
  refine Thn_n ?_
  refine hK _ _ ?_
  clear hK K
  refine AW.block ?_
  refine AW.loopK [0, 8] (fun j => j ≤ s) (fun j => [(1, .one (.int .u64 (shN n j))), (9, .one (.int .i64 (j : Int)))]) (fun j => [(w, wA rb (bs ++ numL n j)), (rb, wB (bs ++ numL n j))]) (fun j => s - j) 0 (by omega) ?_ ?_ fun j hi4 => ?_
  · first | rfl | (simp only [Keeps, Tm.get_cons, Nat.reduceEqDiff, ↓reduceIte, if_true, if_false, ite_true, ite_false, true_and, and_true, and_self, reduceCtorEq, shN] <;> rfl)
  · exact hst0
  try simp only [keepL, setAll, push_cast, Nat.reduceAdd, Nat.reduceMul, Nat.reduceSub, Nat.reduceLeDiff, Nat.reduceLT, Nat.reduceEqDiff, Nat.reduceBEq, Nat.reduceBNe, Nat.reduceMod, Nat.reduceDiv, Int.reduceLE, Int.reduceLT, Int.reduceToNat, Int.reduceAdd, Int.reduceSub, Int.reduceMul, Int.reduceNeg, Int.reduceEq, Int.reduceBEq, Int.reduceBNe, ↓reduceIte, reduceCtorEq, String.reduceBNe, String.reduceEq, reduceDIte, Nat.reducePow, wM_fold, hlen, g1, g10, g2, g20, g3, s1, s2, g4, s3, u8l_len, p8]
  refine AW.seq_k fun K hK => ?_
  refine AW.region (by decide) ?_
  simp only [push_cast, Nat.reduceAdd, Nat.reduceMul, Nat.reduceSub, Nat.reduceLeDiff, Nat.reduceLT, Nat.reduceEqDiff, Nat.reduceBEq, Nat.reduceBNe, Nat.reduceMod, Nat.reduceDiv, Int.reduceLE, Int.reduceLT, Int.reduceToNat, Int.reduceAdd, Int.reduceSub, Int.reduceMul, Int.reduceNeg, Int.reduceEq, Int.reduceBEq, Int.reduceBNe, ↓reduceIte, reduceCtorEq, String.reduceBNe, String.reduceEq, reduceDIte, Nat.reducePow, wM_fold, hlen, g1, g10, g2, g20, g3, s1, s2, g4, s3, u8l_len, p8]
  refine Thn_n ?_
  refine hK _ _ ?_
  clear hK K
  refine AW.seq_k fun K hK => ?_
  refine AW.cond rfl (fun h10 => ?_) (fun h10 => ?_)
  · have hlt : j < s := by have := of_decide_eq_true h10; omega
    have hX : (bs ++ numL n j).length = bs.length + j := by rw [List.length_append, numL_len]
    have hnx : bs ++ numL n (j + 1) = (bs ++ numL n j) ++ [IntKind.u8.wrap (shN n j)] := by rw [numL, List.append_assoc]
    have sh0 := shN_0 hn j
    have sh1 := shN_le hn j
    have hfd : (shN n j).fdiv 256 = shN n j / 256 := Int.fdiv_eq_ediv_of_nonneg _ (by decide)
    generalize bs ++ numL n j = X at *
    have q1 : X.length + 1 ≤ 140737488355328 := by omega
    refine AW.skip ?_
    refine Thn_n ?_
    refine hK _ _ ?_
    clear hK K
    refine AW.seq_k fun K hK => ?_
    refine AW.block ?_
    refine AW.seq_k fun K hK => ?_
    refine AW.region (by decide) ?_
    simp only [push_cast, Nat.reduceAdd, Nat.reduceMul, Nat.reduceSub, Nat.reduceLeDiff, Nat.reduceLT, Nat.reduceEqDiff, Nat.reduceBEq, Nat.reduceBNe, Nat.reduceMod, Nat.reduceDiv, Int.reduceLE, Int.reduceLT, Int.reduceToNat, Int.reduceAdd, Int.reduceSub, Int.reduceMul, Int.reduceNeg, Int.reduceEq, Int.reduceBEq, Int.reduceBNe, ↓reduceIte, reduceCtorEq, String.reduceBNe, String.reduceEq, reduceDIte, Nat.reducePow, wM_fold, hlen, g1, g10, g2, g20, g3, s1, s2, g4, s3, u8l_len, p8, q1, hfd]
    refine Thn_n ?_
    refine hK _ _ ?_
    clear hK K
    refine AW.region (by decide) ?_
    simp only [push_cast, Nat.reduceAdd, Nat.reduceMul, Nat.reduceSub, Nat.reduceLeDiff, Nat.reduceLT, Nat.reduceEqDiff, Nat.reduceBEq, Nat.reduceBNe, Nat.reduceMod, Nat.reduceDiv, Int.reduceLE, Int.reduceLT, Int.reduceToNat, Int.reduceAdd, Int.reduceSub, Int.reduceMul, Int.reduceNeg, Int.reduceEq, Int.reduceBEq, Int.reduceBNe, ↓reduceIte, reduceCtorEq, String.reduceBNe, String.reduceEq, reduceDIte, Nat.reducePow, wM_fold, hlen, g1, g10, g2, g20, g3, s1, s2, g4, s3, u8l_len, p8, q1, hfd]
    refine InB_n ?_
    refine Thn_n ?_
    refine hK _ _ ?_
    clear hK K
    refine AW.region (by decide) ?_
    simp only [push_cast, Nat.reduceAdd, Nat.reduceMul, Nat.reduceSub, Nat.reduceLeDiff, Nat.reduceLT, Nat.reduceEqDiff, Nat.reduceBEq, Nat.reduceBNe, Nat.reduceMod, Nat.reduceDiv, Int.reduceLE, Int.reduceLT, Int.reduceToNat, Int.reduceAdd, Int.reduceSub, Int.reduceMul, Int.reduceNeg, Int.reduceEq, Int.reduceBEq, Int.reduceBNe, ↓reduceIte, reduceCtorEq, String.reduceBNe, String.reduceEq, reduceDIte, Nat.reducePow, wM_fold, hlen, g1, g10, g2, g20, g3, s1, s2, g4, s3, u8l_len, p8, q1, hfd]
    refine Thn_n ?_
    have hwi : IntKind.i64.wrap ((j:Int)+1) = (j:Int)+1 := wi (by omega)
    refine ⟨j + 1, by omega, by omega, ?_⟩
    try simp only [keepL, setAll, push_cast, Nat.reduceAdd, Nat.reduceMul, Nat.reduceSub, Nat.reduceLeDiff, Nat.reduceLT, Nat.reduceEqDiff, Nat.reduceBEq, Nat.reduceBNe, Nat.reduceMod, Nat.reduceDiv, Int.reduceLE, Int.reduceLT, Int.reduceToNat, Int.reduceAdd, Int.reduceSub, Int.reduceMul, Int.reduceNeg, Int.reduceEq, Int.reduceBEq, Int.reduceBNe, ↓reduceIte, reduceCtorEq, String.reduceBNe, String.reduceEq, reduceDIte, Nat.reducePow, wM_fold, hlen, g1, g10, g2, g20, g3, s1, s2, g4, s3, u8l_len, p8, q1, hfd, hwi, hnx, shN]
    exact Weak.to (extra := [_]) (by simp only [Keeps, Tm.get_cons, Nat.reduceEqDiff, ↓reduceIte, if_true, if_false, ite_true, ite_false, true_and, and_true, and_self, reduceCtorEq, hwi, hnx, shN]) (by first | rfl | (simp only [List.append_assoc, List.cons_append, List.nil_append]; rfl)) (by first | rfl | (simp [AV.below, CV.below, wM_len]; done) | (simp [AV.below, CV.below, wM_len]; omega)) (by first | exact hwfM _ | (simp only [hlen]; exact hwfM _))
  · have hin : s = j := by have := of_decide_eq_false h10; omega
    subst hin
    refine AW.exit ?_
    refine Thn_e ?_
    clear hK K
    refine Thn_e ?_
    refine InB_here ?_
    refine hQ _ _ _ ?_
    first | refine RetP.dropM0 (wM_len _) (Or.inl rfl) ?_ ?_ (hwfM _) | refine RetP.dropM (wM_len _) (Or.inl rfl) ?_ ?_ (hwfM _)
    · rfl
    · rfl
    
end Go.Proofs.Ytgbehbaecdepjaa
