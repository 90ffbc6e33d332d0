/- Walks and facts of this seat's program over abstract states, printed by programs of mine; no conditions but those that each theorem names. -/
import Derived.Test.YtdeacicnfglhdaaGreatDoorM5
import Derived.Shelf.Small.Bits
import Derived.Shelf.Strconv.Itoa0
import Derived.Shelf.Strconv.Itoa1
import Derived.Shelf.LaysM
import Derived.Shelf.Strconv.Itoa2
import Derived.Shelf.Strconv.Itoa3
import Derived.Ground.Names2Prog
import Derived.Shelf.Slices.SearchI
import Derived.MakeChecks
import Derived.Sort.Row
import Derived.Sort.Grow
import Derived.Lib.SlKeysI
import Derived.WideShapes
import Derived.Maps.Own
import Derived.Stop.LaidErr
import Derived.Lib.LaidTab
import Derived.Lib.ItoaNum
import Derived.Lib.Atoi
import Derived.Lib.AtoiBound
import Derived.Lib.AtoiErrMem
import Derived.Lib.Bytealg
import Derived.Shelf.Bytes.SlIndexAt
set_option linter.unusedSimpArgs false
set_option linter.unusedVariables false
set_option maxRecDepth 100000
set_option maxHeartbeats 4000000
namespace Go.Proofs.YtdeacicnfglhdaaGreatDoor
open Go Go.Eng
theorem w8 (x : Int) : IntKind.u8.wrap x = x % 256 := by simp [IntKind.wrap, IntKind.signed, IntKind.bits]
def u8l (bs : List Int) : List CV := bs.map (CV.int .u8)
theorem u8l_len (bs : List Int) : (u8l bs).length = bs.length := by simp [u8l]
theorem u8l_vals (bs : List Int) : (u8l bs).all CV.isVal = true := by
 simp only [u8l, List.all_map, List.all_eq_true]; intro x _; rfl
theorem u8l_below (L : Nat) (bs : List Int) : (u8l bs).all (CV.below L) = true := by
 simp only [u8l, List.all_map, List.all_eq_true]; intro x _; rfl
theorem u8l_snoc (a : List Int) (x : Int) : u8l a ++ [.int .u8 x] = u8l (a ++ [x]) := by simp [u8l]
def shN (n : Int) : Nat → Int
 | 0 => n
 | j + 1 => shN n j / 256
theorem shN_0 {n : Int} (h : 0 ≤ n) : ∀ j, 0 ≤ shN n j
 | 0 => h
 | j + 1 => Int.ediv_nonneg (shN_0 h j) (by decide)
theorem shN_le {n : Int} (h : 0 ≤ n) : ∀ j, shN n j ≤ n
 | 0 => Int.le_refl _
 | j + 1 => by have := shN_le h j; have := shN_0 h j; simp only [shN]; omega
def numW (n : Int) : Nat → List Int
 | 0 => []
 | j + 1 => numW n j ++ [IntKind.u8.wrap (shN n j)]
theorem numW_len (n : Int) : ∀ j, (numW n j).length = j
 | 0 => rfl
 | j + 1 => by simp only [numW, List.length_append, numW_len n j, List.length_cons, List.length_nil]
structure WS where
 (bs : List Int) (v : Nat)
def WS.add (X : WS) (l : List Int) : WS := ⟨X.bs ++ l, X.v + l.length⟩
def WS.app (X : WS) (l : List Int) : WS := ⟨X.bs ++ l, X.v + 1⟩
theorem WS.add_nil (X : WS) : X.add [] = X := by simp [WS.add]
theorem WS.add_add (X : WS) (a b : List Int) : (X.add a).add b = X.add (a ++ b) := by simp [WS.add, Nat.add_assoc]
def wA (rb : Nat) (X : WS) : Blk := ⟨.fix, 187, 0, 0, [.sl rb X.v 0 X.bs.length]⟩
def wB (X : WS) : Blk := ⟨.grow, 5, X.v, 1, u8l X.bs⟩
def wM (m : AMem) (w rb : Nat) (X : WS) : AMem := (m.set w (wA rb X)).set rb (wB X)
structure WAt (m : AMem) (w rb : Nat) (X : WS) : Prop where
 hw : m[w]? = some (wA rb X)
 hb : m[rb]? = some (wB X)
 ne : w ≠ rb
section
variable {m : AMem} {w rb : Nat}
theorem wM_fold (m : AMem) (w rb : Nat) (X : WS) : (m.set w (wA rb X)).set rb (wB X) = wM m w rb X := rfl
theorem wM_len (X : WS) : (wM m w rb X).length = m.length := by simp [wM]
theorem set_selfW {α : Type} {l : List α} {i : Nat} {x : α} (h : l[i]? = some x) : l.set i x = l := by
 refine List.ext_getElem? fun j => ?_
 rw [List.getElem?_set]
 split
 ·rename_i e; subst e
  have := (List.getElem?_eq_some_iff.1 h).1
  rw [if_pos this, h]
 ·rfl
theorem wM_self {X : WS} (h : WAt m w rb X) : wM m w rb X = m := by
 unfold wM; rw [set_selfW h.hw, set_selfW h.hb]
theorem wM_two (hne : w ≠ rb) (X Y : WS) : wM (wM m w rb X) w rb Y = wM m w rb Y := by
 unfold wM
 rw [List.set_comm _ _ (fun h => hne h.symm), List.set_set, List.set_set]
theorem wM_app (hw : w < m.length) (hb : rb < m.length) (L : AMem) (X : WS) : wM (m ++ L) w rb X = wM m w rb X ++ L := by
 unfold wM; rw [List.set_append_left _ _ hw, List.set_append_left _ _ (by simpa using hb)]
theorem wM_w (hw : w < m.length) (hne : w ≠ rb) (X : WS) (L : AMem) : (wM m w rb X ++ L)[w]? = some ⟨.fix, 187, 0, 0, [.sl rb X.v 0 X.bs.length]⟩ := by
 rw [List.getElem?_append_left (by rw [wM_len]; exact hw)]
 unfold wM; rw [List.getElem?_set_ne (fun h => hne h.symm), List.getElem?_set_self hw]; rfl
theorem wM_w0 (hw : w < m.length) (hne : w ≠ rb) (X : WS) : (wM m w rb X)[w]? = some ⟨.fix, 187, 0, 0, [.sl rb X.v 0 X.bs.length]⟩ := by
 have := wM_w hw hne X []; rwa [List.append_nil] at this
theorem wM_b (hb : rb < m.length) (X : WS) (L : AMem) : (wM m w rb X ++ L)[rb]? = some ⟨.grow, 5, X.v, 1, u8l X.bs⟩ := by
 rw [List.getElem?_append_left (by rw [wM_len]; exact hb)]
 unfold wM; rw [List.getElem?_set_self (by simpa using hb)]; rfl
theorem wM_b0 (hb : rb < m.length) (X : WS) : (wM m w rb X)[rb]? = some ⟨.grow, 5, X.v, 1, u8l X.bs⟩ := by
 have := wM_b (w := w) hb X []; rwa [List.append_nil] at this
theorem wM_o {r : Nat} {b : Blk} (h : m[r]? = some b) (h1 : r ≠ w) (h2 : r ≠ rb) (X : WS) (L : AMem) : (wM m w rb X ++ L)[r]? = some b := by
 have hr := (List.getElem?_eq_some_iff.1 h).1
 rw [List.getElem?_append_left (by rw [wM_len]; exact hr)]
 unfold wM; rw [List.getElem?_set_ne (fun h => h2 h.symm), List.getElem?_set_ne (fun h => h1 h.symm)]; exact h
theorem wM_o0 {r : Nat} {b : Blk} (h : m[r]? = some b) (h1 : r ≠ w) (h2 : r ≠ rb) (X : WS) : (wM m w rb X)[r]? = some b := by
 have := wM_o h h1 h2 X []; rwa [List.append_nil] at this
theorem wM_new (X : WS) (b : Blk) (L : AMem) (k : Nat) : (wM m w rb X ++ L)[m.length + k]? = L[k]? := by
 rw [List.getElem?_append_right (by rw [wM_len]; omega), wM_len]; congr 1; omega
theorem wM_new0 (X : WS) (b : Blk) (L : AMem) : (wM m w rb X ++ b :: L)[m.length]? = some b := by
 rw [List.getElem?_append_right (by rw [wM_len]; omega), wM_len, Nat.sub_self]; rfl
theorem wM_snew (X : WS) (b c : Blk) (L : AMem) : (wM m w rb X ++ b :: L).set m.length c = wM m w rb X ++ c :: L := by
 rw [List.set_append_right _ _ (by rw [wM_len]; omega), wM_len, Nat.sub_self]; rfl
theorem wM_s1 (hb : rb < m.length) (X : WS) (L : AMem) (b : Blk) : (wM m w rb X ++ L).set rb b = (wM m w rb X).set rb b ++ L := List.set_append_left _ _ (by rw [wM_len]; exact hb)
theorem wM_s2 (hw : w < m.length) (X : WS) (L : AMem) (b b' : Blk) : ((wM m w rb X).set rb b ++ L).set w b' = ((wM m w rb X).set rb b).set w b' ++ L := List.set_append_left _ _ (by simpa [wM_len] using hw)
theorem wM_w2 (hw : w < m.length) (hne : w ≠ rb) (X : WS) (L : AMem) (b : Blk) : ((wM m w rb X).set rb b ++ L)[w]? = some ⟨.fix, 187, 0, 0, [.sl rb X.v 0 X.bs.length]⟩ := by
 rw [List.getElem?_append_left (by simpa [wM_len] using hw), List.getElem?_set_ne (fun h => hne h.symm)]
 exact wM_w0 hw hne X
theorem wM_step (hne : w ≠ rb) (X : WS) (x : Int) : ((wM m w rb X).set rb ⟨.grow, 5, X.v + 1, 1, u8l X.bs ++ [.int .u8 x]⟩).set w ⟨.fix, 187, 0, 0, [.sl rb (X.v + 1) 0 (X.bs.length + 1)]⟩ = wM m w rb (X.add [x]) := by
 have ea : wA rb (X.add [x]) = ⟨.fix, 187, 0, 0, [.sl rb (X.v + 1) 0 (X.bs.length + 1)]⟩ := by simp [wA, WS.add]
 have eb : wB (X.add [x]) = ⟨.grow, 5, X.v + 1, 1, u8l X.bs ++ [.int .u8 x]⟩ := by simp [wB, WS.add, u8l_snoc]
 rw [← ea, ← eb]
 unfold wM
 rw [List.set_set, List.set_comm _ _ (fun h => hne h.symm), List.set_set]
theorem wM_wf {L : Nat} (hb : rb < L) (h : MWf L m) (X : WS) : MWf L (wM m w rb X) := fun b hm => by
 rcases List.mem_or_eq_of_mem_set hm with h1 | rfl
 ·rcases List.mem_or_eq_of_mem_set h1 with h2 | rfl
  ·exact h b h2
  ·show (wA rb X).cells.all (CV.below L) = true
   simp [wA, CV.below, hb]
 ·exact u8l_below _ _
theorem wM_at (hw : w < m.length) (hb : rb < m.length) (hne : w ≠ rb) (X : WS) : WAt (wM m w rb X) w rb X := ⟨wM_w0 hw hne X, wM_b0 hb X, hne⟩
theorem WAt.app {X : WS} (h : WAt m w rb X) (L : AMem) : WAt (m ++ L) w rb X := ⟨lk_old h.hw L, lk_old h.hb L, h.ne⟩
theorem WAt.ne1 {X : WS} (h : WAt m w rb X) {r : Nat} {b : Blk} (hr : m[r]? = some b) (h1 : b.ty ≠ 187) : r ≠ w := fun e => by
 subst e; rw [h.hw] at hr; injection hr with hr; subst hr; exact h1 rfl
theorem WAt.ne2 {X : WS} (h : WAt m w rb X) {r : Nat} {b : Blk} (hr : m[r]? = some b) (h1 : b.ty ≠ 5) : r ≠ rb := fun e => by
 subst e; rw [h.hb] at hr; injection hr with hr; subst hr; exact h1 rfl
end
def catL (s : Nat) (f : Nat → Int) : Nat → List Int
 | 0 => []
 | n + 1 => catL s f n ++ numW (IntKind.u64.wrap (f n)) s
theorem catL_len (s : Nat) (f : Nat → Int) : ∀ n, (catL s f n).length = n * s
 | 0 => by simp [catL]
 | n + 1 => by simp only [catL, List.length_append, catL_len s f n, numW_len, Nat.succ_mul]
def wh (W H : Int) : Nat → Int
 | 0 => W
 | _ + 1 => H
theorem u64b (x : Int) : 0 ≤ IntKind.u64.wrap x ∧ IntKind.u64.wrap x ≤ 18446744073709551615 := by rw [IntKind.wrap_u64]; omega
theorem raw_c (w rb : Nat) (X0 : WS) (n : Int) (s : Nat) (m : AMem) (hW : WAt m w rb X0) (hn : 0 ≤ n) (hn2 : n ≤ 18446744073709551615) (hs : X0.bs.length + s ≤ 100000000000) : Ctr Tryz.prog 107 [.one (.ptr w 0 0), .one (.int .u64 n), .one (.int .i64 (s : Int))] m (.tup []) (wM m w rb (X0.add (numW n s))) := by
 refine Ctr.enter Tryz.func107 rfl (by decide) (rs := []) (nt := 25) rfl rfl fun hwf Q hQ => ?_
 have lw := get_lt hW.hw
 have lb := get_lt hW.hb
 have ne := hW.ne
 have hlen := fun X => @wM_len m w rb X
 have hst := wM_self hW
 have g1 := fun X L => @wM_w m w rb lw ne X L
 have g10 := fun X => @wM_w0 m w rb lw ne X
 have g2 := fun X L => @wM_b m w rb lb X L
 have g20 := fun X => @wM_b0 m w rb lb X
 have g3 := fun X b L => @wM_new0 m w rb X b L
 have s1 := fun X L b => @wM_s1 m w rb lb X L b
 have s2 := fun X L b c => @wM_s2 m w rb lw X L b c
 have g4 := fun X L b => @wM_w2 m w rb lw ne X L b
 have s3 := fun X x => @wM_step m w rb ne X x
 have hwfM := fun X => @wM_wf m w rb m.length lb hwf X
 have hst0 : wM m w rb (X0.add (numW n 0)) = m := by rw [numW, WS.add_nil]; exact hst
 have p8 : (2 : Int) ^ min 8 IntKind.u64.bits = 256 := by decide
 refine AW.seq_k fun K hK => ?_
 refine AW.sr 1 fun K hK => ?_
 have pk_1 : _ ∧ _ ∧ _ ∧ _ ∧ _ ∧ _ ∧ _ ∧ _ ∧ _ ∧ _ ∧ _ := ⟨hlen, g1, g10, g2, g20, g3, s1, s2, g4, s3, p8⟩
 simp only [push_cast, simprocAttr, wM_fold, u8l_len, pk_1]
 apply hK;clear hK K
 refine AW.cond_f rfl ?_
 refine AW.skip ?_
 apply hK;clear hK K
 refine AW.sr 1 fun K hK => ?_
 simp only [push_cast, simprocAttr, wM_fold, u8l_len, pk_1]
 apply hK;clear hK K
 refine AW.block ?_
 refine AW.loopK [0, 8] (fun j => j ≤ s) (fun j => [(1, .one (.int .u64 (shN n j))), (9, .one (.int .i64 (j : Int)))]) (fun j => [(w, wA rb (X0.add (numW n j))), (rb, wB (X0.add (numW n j)))]) (fun j => s - j) 0 (by omega) ?_ ?_ fun j hi2 => ?_
 · first | rfl | (simp only [KS, simprocAttr, shN] <;> repeat' (first | rfl | apply And.intro))
 · exact hst0
 try simp only [keepL, setAll, push_cast, simprocAttr, wM_fold, u8l_len, pk_1]
 refine AW.sr 1 fun K hK => ?_
 simp only [push_cast, simprocAttr, wM_fold, u8l_len, pk_1]
 apply hK;clear hK K
 refine AW.seq_k fun K hK => ?_
 refine AW.cond rfl (fun h10 => ?_) (fun h10 => ?_)
 ·have hlt : j < s := by have := of_decide_eq_true h10; omega
  have hX : (X0.add (numW n j)).bs.length = X0.bs.length + j := by simp only [WS.add, List.length_append, numW_len]
  have hnx : X0.add (numW n (j + 1)) = (X0.add (numW n j)).add [IntKind.u8.wrap (shN n j)] := by rw [numW, WS.add_add]
  have sh0 := shN_0 hn j
  have sh1 := shN_le hn j
  have hfd : (shN n j).fdiv 256 = shN n j / 256 := Int.fdiv_eq_ediv_of_nonneg _ (by decide)
  generalize X0.add (numW n j) = X at *
  have q1 : X.bs.length + 1 ≤ 140737488355328 := by omega
  refine AW.skip ?_
  apply hK;clear hK K
  refine AW.seq_k fun K hK => ?_
  refine AW.block ?_
  refine AW.sr 1 fun K hK => ?_
  simp only [push_cast, simprocAttr, wM_fold, u8l_len, pk_1, q1, hfd]
  apply hK;clear hK K
  refine AW.rg ?_
  simp only [push_cast, simprocAttr, wM_fold, u8l_len, pk_1, q1, hfd]
  refine InB_n ?_
  apply hK;clear hK K
  refine AW.rg ?_
  simp only [push_cast, simprocAttr, wM_fold, u8l_len, pk_1, q1, hfd]
  refine Thn_n ?_
  have hwi : IntKind.i64.wrap ((j:Int)+1) = (j:Int)+1 := wi (by omega)
  refine ⟨j + 1, by omega, by omega, ?_⟩
  try simp only [keepL, setAll, push_cast, simprocAttr, wM_fold, u8l_len, pk_1, q1, hfd, hwi, hnx, shN]
  exact Weak.to (extra := [_]) (by simp only [KS, simprocAttr, hwi, hnx, shN]) (by first | rfl | (simp only [List.append_assoc, List.cons_append, List.nil_append]; rfl)) (by first | rfl | (simp [AV.below, CV.below, wM_len]; done) | (simp [AV.below, CV.below, wM_len]; omega)) (by first | exact hwfM _ | (simp only [hlen]; exact hwfM _))
 ·have hin : s = j := by have := of_decide_eq_false h10; omega
  subst hin
  refine AW.exit ?_
  refine Thn_e ?_
  clear hK K
  refine Thn_e ?_
  refine InB_here ?_
  refine hQ _ _ _ ?_
  first | refine RetP.dropM0 (wM_len _) (Or.inl rfl) ?_ ?_ (hwfM _) | refine RetP.dropM (wM_len _) (Or.inl rfl) ?_ ?_ (hwfM _)
  · rfl
  · rfl
theorem wbyte_c (w rb : Nat) (X0 : WS) (r v n : Nat) (f : Nat → Int) (m : AMem) (hW : WAt m w rb X0) (hp : ∃ k ez, m[r]? = some ⟨k, 3, v, ez, il n f⟩) (hn : n ≤ 1048576) (hs : X0.bs.length ≤ 50000000000) : Ctr Tryz.prog 86 [.one (.ptr w 0 0), .one (.sl r v 0 n)] m (.tup []) (wM m w rb (X0.add (catL 1 f n))) := by
 refine Ctr.enter Tryz.func86 rfl (by decide) (rs := []) (nt := 17) rfl rfl fun hwf Q hQ => ?_
 have lw := get_lt hW.hw
 have lb := get_lt hW.hb
 have ne := hW.ne
 have hlen := fun X => @wM_len m w rb X
 have hst := wM_self hW
 have g1 := fun X L => @wM_w m w rb lw ne X L
 have g10 := fun X => @wM_w0 m w rb lw ne X
 have g2 := fun X L => @wM_b m w rb lb X L
 have g20 := fun X => @wM_b0 m w rb lb X
 have g3 := fun X b L => @wM_new0 m w rb X b L
 have s1 := fun X L b => @wM_s1 m w rb lb X L b
 have s2 := fun X L b c => @wM_s2 m w rb lw X L b c
 have g4 := fun X L b => @wM_w2 m w rb lw ne X L b
 have s3 := fun X x => @wM_step m w rb ne X x
 have hwfM := fun X => @wM_wf m w rb m.length lb hwf X
 have two := fun X Y => @wM_two m w rb ne X Y
 have a0 := fun L X => @wM_app m w rb lw lb L X
 have a1 := fun X L Y => (@wM_app (wM m w rb X) w rb (by rw [wM_len]; exact lw) (by rw [wM_len]; exact lb) L Y).trans (by rw [wM_two ne])
 have n1 := fun X b L k => @wM_new m w rb X b L k
 have s5 := fun X b c L => @wM_snew m w rb X b c L
 obtain ⟨k0, ez, hb⟩ := hp
 have hr := get_lt hb
 have n1w := hW.ne1 hb (by simp)
 have n2w := hW.ne2 hb (by simp)
 have o0 := fun X => wM_o0 hb n1w n2w X
 have o1 := fun X L => wM_o hb n1w n2w X L
 have hst0 : wM m w rb (X0.add (catL 1 f 0)) = m := by rw [catL, WS.add_nil]; exact hst
 refine AW.sr 1 fun K hK => ?_
 have pk_2 : _ ∧ _ ∧ _ ∧ _ ∧ _ ∧ _ ∧ _ ∧ _ ∧ _ ∧ _ ∧ _ ∧ _ ∧ _ := ⟨hlen, g1, g10, g2, g20, g3, s1, s2, g4, s3, two, hb, o0⟩
 simp only [push_cast, simprocAttr, wM_fold, u8l_len, pk_2]
 apply hK;clear hK K
 refine AW.block ?_
 refine AW.loopK [0, 6, 7] (fun i => i ≤ n) (fun i => [(8, .one (.int .i64 (i : Int)))]) (fun i => [(w, wA rb (X0.add (catL 1 f i))), (rb, wB (X0.add (catL 1 f i)))]) (fun i => n - i) 0 (by omega) ?_ ?_ fun i hi1 => ?_
 · first | rfl | (simp only [KS, simprocAttr] <;> repeat' (first | rfl | apply And.intro))
 · exact hst0
 try simp only [keepL, setAll, push_cast, simprocAttr, wM_fold, u8l_len, pk_2]
 refine AW.sr 1 fun K hK => ?_
 simp only [push_cast, simprocAttr, wM_fold, u8l_len, pk_2]
 apply hK;clear hK K
 refine AW.seq_k fun K hK => ?_
 refine AW.cond rfl (fun h9 => ?_) (fun h9 => ?_)
 ·have hlt : i < n := by have := of_decide_eq_true h9; omega
  have c1 : (0 : Int) ≤ (i : Int) := by omega
  have c2 : (i : Int) < (n : Int) := by omega
  have g := il_get (f := f) hlt
  refine AW.skip ?_
  apply hK;clear hK K
  refine AW.seq_k fun K hK => ?_
  refine AW.block ?_
  refine AW.sr 1 fun K hK => ?_
  simp only [push_cast, simprocAttr, wM_fold, u8l_len, pk_2, c1, c2, g]
  apply hK;clear hK K
  refine AW.rg ?_
  simp only [push_cast, simprocAttr, wM_fold, u8l_len, pk_2, c1, c2, g]
  refine CThen.by (raw_c w rb (X0.add (catL 1 f i)) (IntKind.u64.wrap (f i)) 1 _ (wM_at lw lb ne _) (u64b _).1 (u64b _).2 (by simp only [WS.add, List.length_append, catL_len]; omega)) ?_
  simp only [push_cast, simprocAttr, wM_fold, u8l_len, pk_2, c1, c2, g]
  refine InB_n ?_
  apply hK;clear hK K
  refine AW.rg ?_
  simp only [push_cast, simprocAttr, wM_fold, u8l_len, pk_2, c1, c2, g]
  refine Thn_n ?_
  have hwi : IntKind.i64.wrap ((i:Int)+1) = (i:Int)+1 := wi (by omega)
  have hnx : X0.add (catL 1 f (i + 1)) = (X0.add (catL 1 f i)).add (numW (IntKind.u64.wrap (f i)) 1) := by rw [catL, WS.add_add]
  refine ⟨i + 1, by omega, by omega, ?_⟩
  try simp only [keepL, setAll, push_cast, simprocAttr, wM_fold, u8l_len, pk_2, c1, c2, g, hwi, hnx]
  exact Weak.same (by simp only [KS, simprocAttr, hwi, hnx]) (by first | rfl | simp only [KS, simprocAttr, hwi, hnx])
 ·have hin : n = i := by have := of_decide_eq_false h9; omega
  subst hin
  refine AW.exit ?_
  refine Thn_e ?_
  clear hK K
  refine Thn_e ?_
  refine InB_here ?_
  refine hQ _ _ _ ?_
  first | refine RetP.dropM0 (wM_len _) (Or.inl rfl) ?_ ?_ (hwfM _) | refine RetP.dropM (wM_len _) (Or.inl rfl) ?_ ?_ (hwfM _)
  · rfl
  · rfl
theorem whalf_c (w rb : Nat) (X0 : WS) (r v n : Nat) (f : Nat → Int) (m : AMem) (hW : WAt m w rb X0) (hp : ∃ k ez, m[r]? = some ⟨k, 3, v, ez, il n f⟩) (hn : n ≤ 1048576) (hs : X0.bs.length ≤ 50000000000) : Ctr Tryz.prog 91 [.one (.ptr w 0 0), .one (.sl r v 0 n)] m (.tup []) (wM m w rb (X0.add (catL 2 f n))) := by
 refine Ctr.enter Tryz.func91 rfl (by decide) (rs := []) (nt := 17) rfl rfl fun hwf Q hQ => ?_
 have lw := get_lt hW.hw
 have lb := get_lt hW.hb
 have ne := hW.ne
 have hlen := fun X => @wM_len m w rb X
 have hst := wM_self hW
 have g1 := fun X L => @wM_w m w rb lw ne X L
 have g10 := fun X => @wM_w0 m w rb lw ne X
 have g2 := fun X L => @wM_b m w rb lb X L
 have g20 := fun X => @wM_b0 m w rb lb X
 have g3 := fun X b L => @wM_new0 m w rb X b L
 have s1 := fun X L b => @wM_s1 m w rb lb X L b
 have s2 := fun X L b c => @wM_s2 m w rb lw X L b c
 have g4 := fun X L b => @wM_w2 m w rb lw ne X L b
 have s3 := fun X x => @wM_step m w rb ne X x
 have hwfM := fun X => @wM_wf m w rb m.length lb hwf X
 have two := fun X Y => @wM_two m w rb ne X Y
 have a0 := fun L X => @wM_app m w rb lw lb L X
 have a1 := fun X L Y => (@wM_app (wM m w rb X) w rb (by rw [wM_len]; exact lw) (by rw [wM_len]; exact lb) L Y).trans (by rw [wM_two ne])
 have n1 := fun X b L k => @wM_new m w rb X b L k
 have s5 := fun X b c L => @wM_snew m w rb X b c L
 obtain ⟨k0, ez, hb⟩ := hp
 have hr := get_lt hb
 have n1w := hW.ne1 hb (by simp)
 have n2w := hW.ne2 hb (by simp)
 have o0 := fun X => wM_o0 hb n1w n2w X
 have o1 := fun X L => wM_o hb n1w n2w X L
 have hst0 : wM m w rb (X0.add (catL 2 f 0)) = m := by rw [catL, WS.add_nil]; exact hst
 refine AW.sr 1 fun K hK => ?_
 have pk_3 : _ ∧ _ ∧ _ ∧ _ ∧ _ ∧ _ ∧ _ ∧ _ ∧ _ ∧ _ ∧ _ ∧ _ ∧ _ := ⟨hlen, g1, g10, g2, g20, g3, s1, s2, g4, s3, two, hb, o0⟩
 simp only [push_cast, simprocAttr, wM_fold, u8l_len, pk_3]
 apply hK;clear hK K
 refine AW.block ?_
 refine AW.loopK [0, 6, 7] (fun i => i ≤ n) (fun i => [(8, .one (.int .i64 (i : Int)))]) (fun i => [(w, wA rb (X0.add (catL 2 f i))), (rb, wB (X0.add (catL 2 f i)))]) (fun i => n - i) 0 (by omega) ?_ ?_ fun i hi1 => ?_
 · first | rfl | (simp only [KS, simprocAttr] <;> repeat' (first | rfl | apply And.intro))
 · exact hst0
 try simp only [keepL, setAll, push_cast, simprocAttr, wM_fold, u8l_len, pk_3]
 refine AW.sr 1 fun K hK => ?_
 simp only [push_cast, simprocAttr, wM_fold, u8l_len, pk_3]
 apply hK;clear hK K
 refine AW.seq_k fun K hK => ?_
 refine AW.cond rfl (fun h9 => ?_) (fun h9 => ?_)
 ·have hlt : i < n := by have := of_decide_eq_true h9; omega
  have c1 : (0 : Int) ≤ (i : Int) := by omega
  have c2 : (i : Int) < (n : Int) := by omega
  have g := il_get (f := f) hlt
  refine AW.skip ?_
  apply hK;clear hK K
  refine AW.seq_k fun K hK => ?_
  refine AW.block ?_
  refine AW.sr 1 fun K hK => ?_
  simp only [push_cast, simprocAttr, wM_fold, u8l_len, pk_3, c1, c2, g]
  apply hK;clear hK K
  refine AW.rg ?_
  simp only [push_cast, simprocAttr, wM_fold, u8l_len, pk_3, c1, c2, g]
  refine CThen.by (raw_c w rb (X0.add (catL 2 f i)) (IntKind.u64.wrap (f i)) 2 _ (wM_at lw lb ne _) (u64b _).1 (u64b _).2 (by simp only [WS.add, List.length_append, catL_len]; omega)) ?_
  simp only [push_cast, simprocAttr, wM_fold, u8l_len, pk_3, c1, c2, g]
  refine InB_n ?_
  apply hK;clear hK K
  refine AW.rg ?_
  simp only [push_cast, simprocAttr, wM_fold, u8l_len, pk_3, c1, c2, g]
  refine Thn_n ?_
  have hwi : IntKind.i64.wrap ((i:Int)+1) = (i:Int)+1 := wi (by omega)
  have hnx : X0.add (catL 2 f (i + 1)) = (X0.add (catL 2 f i)).add (numW (IntKind.u64.wrap (f i)) 2) := by rw [catL, WS.add_add]
  refine ⟨i + 1, by omega, by omega, ?_⟩
  try simp only [keepL, setAll, push_cast, simprocAttr, wM_fold, u8l_len, pk_3, c1, c2, g, hwi, hnx]
  exact Weak.same (by simp only [KS, simprocAttr, hwi, hnx]) (by first | rfl | simp only [KS, simprocAttr, hwi, hnx])
 ·have hin : n = i := by have := of_decide_eq_false h9; omega
  subst hin
  refine AW.exit ?_
  refine Thn_e ?_
  clear hK K
  refine Thn_e ?_
  refine InB_here ?_
  refine hQ _ _ _ ?_
  first | refine RetP.dropM0 (wM_len _) (Or.inl rfl) ?_ ?_ (hwfM _) | refine RetP.dropM (wM_len _) (Or.inl rfl) ?_ ?_ (hwfM _)
  · rfl
  · rfl
theorem wfix_c (w rb : Nat) (X0 : WS) (r v n : Nat) (f : Nat → Int) (m : AMem) (hW : WAt m w rb X0) (hp : ∃ k ez, m[r]? = some ⟨k, 58, v, ez, il n f⟩) (hn : n ≤ 1048576) (hs : X0.bs.length ≤ 50000000000) : Ctr Tryz.prog 89 [.one (.ptr w 0 0), .one (.sl r v 0 n)] m (.tup []) (wM m w rb (X0.add (catL 5 f n))) := by
 refine Ctr.enter Tryz.func89 rfl (by decide) (rs := []) (nt := 17) rfl rfl fun hwf Q hQ => ?_
 have lw := get_lt hW.hw
 have lb := get_lt hW.hb
 have ne := hW.ne
 have hlen := fun X => @wM_len m w rb X
 have hst := wM_self hW
 have g1 := fun X L => @wM_w m w rb lw ne X L
 have g10 := fun X => @wM_w0 m w rb lw ne X
 have g2 := fun X L => @wM_b m w rb lb X L
 have g20 := fun X => @wM_b0 m w rb lb X
 have g3 := fun X b L => @wM_new0 m w rb X b L
 have s1 := fun X L b => @wM_s1 m w rb lb X L b
 have s2 := fun X L b c => @wM_s2 m w rb lw X L b c
 have g4 := fun X L b => @wM_w2 m w rb lw ne X L b
 have s3 := fun X x => @wM_step m w rb ne X x
 have hwfM := fun X => @wM_wf m w rb m.length lb hwf X
 have two := fun X Y => @wM_two m w rb ne X Y
 have a0 := fun L X => @wM_app m w rb lw lb L X
 have a1 := fun X L Y => (@wM_app (wM m w rb X) w rb (by rw [wM_len]; exact lw) (by rw [wM_len]; exact lb) L Y).trans (by rw [wM_two ne])
 have n1 := fun X b L k => @wM_new m w rb X b L k
 have s5 := fun X b c L => @wM_snew m w rb X b c L
 obtain ⟨k0, ez, hb⟩ := hp
 have hr := get_lt hb
 have n1w := hW.ne1 hb (by simp)
 have n2w := hW.ne2 hb (by simp)
 have o0 := fun X => wM_o0 hb n1w n2w X
 have o1 := fun X L => wM_o hb n1w n2w X L
 have hst0 : wM m w rb (X0.add (catL 5 f 0)) = m := by rw [catL, WS.add_nil]; exact hst
 refine AW.sr 1 fun K hK => ?_
 have pk_4 : _ ∧ _ ∧ _ ∧ _ ∧ _ ∧ _ ∧ _ ∧ _ ∧ _ ∧ _ ∧ _ ∧ _ ∧ _ := ⟨hlen, g1, g10, g2, g20, g3, s1, s2, g4, s3, two, hb, o0⟩
 simp only [push_cast, simprocAttr, wM_fold, u8l_len, pk_4]
 apply hK;clear hK K
 refine AW.block ?_
 refine AW.loopK [0, 6, 7] (fun i => i ≤ n) (fun i => [(8, .one (.int .i64 (i : Int)))]) (fun i => [(w, wA rb (X0.add (catL 5 f i))), (rb, wB (X0.add (catL 5 f i)))]) (fun i => n - i) 0 (by omega) ?_ ?_ fun i hi1 => ?_
 · first | rfl | (simp only [KS, simprocAttr] <;> repeat' (first | rfl | apply And.intro))
 · exact hst0
 try simp only [keepL, setAll, push_cast, simprocAttr, wM_fold, u8l_len, pk_4]
 refine AW.sr 1 fun K hK => ?_
 simp only [push_cast, simprocAttr, wM_fold, u8l_len, pk_4]
 apply hK;clear hK K
 refine AW.seq_k fun K hK => ?_
 refine AW.cond rfl (fun h9 => ?_) (fun h9 => ?_)
 ·have hlt : i < n := by have := of_decide_eq_true h9; omega
  have c1 : (0 : Int) ≤ (i : Int) := by omega
  have c2 : (i : Int) < (n : Int) := by omega
  have g := il_get (f := f) hlt
  refine AW.skip ?_
  apply hK;clear hK K
  refine AW.seq_k fun K hK => ?_
  refine AW.block ?_
  refine AW.sr 1 fun K hK => ?_
  simp only [push_cast, simprocAttr, wM_fold, u8l_len, pk_4, c1, c2, g]
  apply hK;clear hK K
  refine AW.rg ?_
  simp only [push_cast, simprocAttr, wM_fold, u8l_len, pk_4, c1, c2, g]
  refine CThen.by (raw_c w rb (X0.add (catL 5 f i)) (IntKind.u64.wrap (f i)) 5 _ (wM_at lw lb ne _) (u64b _).1 (u64b _).2 (by simp only [WS.add, List.length_append, catL_len]; omega)) ?_
  simp only [push_cast, simprocAttr, wM_fold, u8l_len, pk_4, c1, c2, g]
  refine InB_n ?_
  apply hK;clear hK K
  refine AW.rg ?_
  simp only [push_cast, simprocAttr, wM_fold, u8l_len, pk_4, c1, c2, g]
  refine Thn_n ?_
  have hwi : IntKind.i64.wrap ((i:Int)+1) = (i:Int)+1 := wi (by omega)
  have hnx : X0.add (catL 5 f (i + 1)) = (X0.add (catL 5 f i)).add (numW (IntKind.u64.wrap (f i)) 5) := by rw [catL, WS.add_add]
  refine ⟨i + 1, by omega, by omega, ?_⟩
  try simp only [keepL, setAll, push_cast, simprocAttr, wM_fold, u8l_len, pk_4, c1, c2, g, hwi, hnx]
  exact Weak.same (by simp only [KS, simprocAttr, hwi, hnx]) (by first | rfl | simp only [KS, simprocAttr, hwi, hnx])
 ·have hin : n = i := by have := of_decide_eq_false h9; omega
  subst hin
  refine AW.exit ?_
  refine Thn_e ?_
  clear hK K
  refine Thn_e ?_
  refine InB_here ?_
  refine hQ _ _ _ ?_
  first | refine RetP.dropM0 (wM_len _) (Or.inl rfl) ?_ ?_ (hwfM _) | refine RetP.dropM (wM_len _) (Or.inl rfl) ?_ ?_ (hwfM _)
  · rfl
  · rfl
theorem wnew_c (m : AMem) : Ctr Tryz.prog 85 [] m (.one (.ptr m.length 0 0)) (m ++ [⟨.fix, 187, 0, 0, [.nils]⟩]) := by
 refine Ctr.enter Tryz.func85 rfl (by decide) (rs := [.tmp 0]) (nt := 3) rfl rfl fun hwf Q hQ => ?_
 have hlt0 : ∀ k, ¬ m.length + k < m.length := fun k => by omega
 refine AW.sr 2 fun K hK => ?_
 simp only [push_cast, simprocAttr]
 apply hK;clear hK K
 refine AW.ret ?_
 refine hQ _ _ _ ?_
 refine RetP.pick [(m.length, 0)] (Or.inr rfl) ?_ ?_ ?_ hwf ?_
 · simp only [resA, resOne, resTv, AV.tv, push_cast, simprocAttr]
   simp [renV, renT, renL, renC, renIdx, hlt0]
 · simp only [picks, push_cast, simprocAttr]
 · simp [distinctFrom]
 · exact MWf_one rfl
theorem wbytes_c (w rb : Nat) (X : WS) (m : AMem) (hW : WAt m w rb X) (hs : X.bs.length ≤ 100000000000) : Ctr Tryz.prog 93 [.one (.ptr w 0 0)] m (.one (.sl m.length 0 0 X.bs.length)) (m ++ [⟨.grow, 5, 0, 1, u8l X.bs⟩]) := by
 refine Ctr.enter Tryz.func93 rfl (by decide) (rs := [.tmp 2]) (nt := 11) rfl rfl fun hwf Q hQ => ?_
 have hlt0 : ∀ k, ¬ m.length + k < m.length := fun k => by omega
 have hw : m[w]? = some ⟨.fix, 187, 0, 0, [.sl rb X.v 0 X.bs.length]⟩ := hW.hw
 have hb : m[rb]? = some ⟨.grow, 5, X.v, 1, u8l X.bs⟩ := hW.hb
 have tk : (u8l X.bs).take X.bs.length = u8l X.bs := List.take_of_length_le (by rw [u8l_len]; exact Nat.le_refl _)
 have q1 : X.bs.length ≤ 140737488355328 := by omega
 have vv := u8l_vals X.bs
 refine AW.sr 1 fun K hK => ?_
 have pk_5 : _ ∧ _ ∧ _ ∧ _ ∧ _ ∧ _ ∧ _ := ⟨hw, lk_old hw, hb, lk_old hb, tk, q1, vv⟩
 simp only [push_cast, simprocAttr, u8l_len, Nat.zero_add, List.nil_append, Nat.le_refl, pk_5]
 apply hK;clear hK K
 refine AW.seq_k fun K hK => ?_
 refine AW.sr 1 fun K hK => ?_
 simp only [push_cast, simprocAttr, u8l_len, Nat.zero_add, List.nil_append, Nat.le_refl, pk_5]
 apply hK;clear hK K
 refine AW.cond_f rfl ?_
 refine AW.skip ?_
 apply hK;clear hK K
 refine AW.sr 1 fun K hK => ?_
 simp only [push_cast, simprocAttr, u8l_len, Nat.zero_add, List.nil_append, Nat.le_refl, pk_5]
 apply hK;clear hK K
 refine AW.ret ?_
 refine hQ _ _ _ ?_
 refine RetP.pick [(m.length, 1)] (Or.inr rfl) ?_ ?_ ?_ hwf ?_
 · simp only [resA, resOne, resTv, AV.tv, push_cast, simprocAttr]
   simp [renV, renT, renL, renC, renIdx, hlt0]
 · simp only [picks, push_cast, simprocAttr]
 · simp [distinctFrom]
 · exact MWf_one (u8l_below _ _)
theorem wlong_c (w rb : Nat) (X0 : WS) (n : Int) (m : AMem) (hW : WAt m w rb X0) (hn : 0 ≤ n) (hn2 : n ≤ 18446744073709551615) (hs : X0.bs.length ≤ 50000000000) : Ctr Tryz.prog 108 [.one (.ptr w 0 0), .one (.int .u64 n)] m (.tup []) (wM m w rb (X0.add (numW n 8))) := by
 refine Ctr.enter Tryz.func108 rfl (by decide) (rs := []) (nt := 7) rfl rfl fun hwf Q hQ => ?_
 have lw := get_lt hW.hw
 have lb := get_lt hW.hb
 have ne := hW.ne
 have hlen := fun X => @wM_len m w rb X
 have hst := wM_self hW
 have g1 := fun X L => @wM_w m w rb lw ne X L
 have g10 := fun X => @wM_w0 m w rb lw ne X
 have g2 := fun X L => @wM_b m w rb lb X L
 have g20 := fun X => @wM_b0 m w rb lb X
 have g3 := fun X b L => @wM_new0 m w rb X b L
 have s1 := fun X L b => @wM_s1 m w rb lb X L b
 have s2 := fun X L b c => @wM_s2 m w rb lw X L b c
 have g4 := fun X L b => @wM_w2 m w rb lw ne X L b
 have s3 := fun X x => @wM_step m w rb ne X x
 have hwfM := fun X => @wM_wf m w rb m.length lb hwf X
 refine AW.rg ?_
 have pk_6 : _ ∧ _ ∧ _ ∧ _ ∧ _ ∧ _ ∧ _ ∧ _ ∧ _ ∧ _ := ⟨hlen, g1, g10, g2, g20, g3, s1, s2, g4, s3⟩
 simp only [push_cast, simprocAttr, wM_fold, u8l_len, pk_6]
 refine CThen.by (raw_c w rb X0 n 8 _ hW hn hn2 (by omega)) ?_
 simp only [push_cast, simprocAttr, wM_fold, u8l_len, pk_6]
 refine hQ _ _ _ ?_
 first | refine RetP.dropM0 (wM_len _) (Or.inl rfl) ?_ ?_ (hwfM _) | refine RetP.dropM (wM_len _) (Or.inl rfl) ?_ ?_ (hwfM _)
 · rfl
 · rfl
def vecL (V : Nat → Nat → Int) : Nat → List Int
 | 0 => []
 | n + 1 => vecL V n ++ catL 5 (V n) 3
theorem vecL_len (V : Nat → Nat → Int) : ∀ n, (vecL V n).length = 15 * n
 | 0 => rfl
 | n + 1 => by simp only [vecL, List.length_append, vecL_len V n, catL_len]; omega
def c3R (V : Nat → Nat → Int) (n : Nat) : List CV := catC n fun i => c3C (V i)
theorem wvec_c (w rb : Nat) (X0 : WS) (r v n : Nat) (V : Nat → Nat → Int) (m : AMem) (hW : WAt m w rb X0) (hp : ∃ k ez, m[r]? = some ⟨k, 78, v, ez, c3R V n⟩) (hn : n ≤ 1048576) (hs : X0.bs.length ≤ 10000000000) : Ctr Tryz.prog 109 [.one (.ptr w 0 0), .one (.sl r v 0 n)] m (.tup []) (wM m w rb (X0.add (vecL V n))) := by
 refine Ctr.enter Tryz.func109 rfl (by decide) (rs := []) (nt := 22) rfl rfl fun hwf Q hQ => ?_
 have lw := get_lt hW.hw
 have lb := get_lt hW.hb
 have ne := hW.ne
 have hlen := fun X => @wM_len m w rb X
 have hst := wM_self hW
 have g1 := fun X L => @wM_w m w rb lw ne X L
 have g10 := fun X => @wM_w0 m w rb lw ne X
 have g2 := fun X L => @wM_b m w rb lb X L
 have g20 := fun X => @wM_b0 m w rb lb X
 have g3 := fun X b L => @wM_new0 m w rb X b L
 have s1 := fun X L b => @wM_s1 m w rb lb X L b
 have s2 := fun X L b c => @wM_s2 m w rb lw X L b c
 have g4 := fun X L b => @wM_w2 m w rb lw ne X L b
 have s3 := fun X x => @wM_step m w rb ne X x
 have hwfM := fun X => @wM_wf m w rb m.length lb hwf X
 have two := fun X Y => @wM_two m w rb ne X Y
 have a0 := fun L X => @wM_app m w rb lw lb L X
 have a1 := fun X L Y => (@wM_app (wM m w rb X) w rb (by rw [wM_len]; exact lw) (by rw [wM_len]; exact lb) L Y).trans (by rw [wM_two ne])
 have n1 := fun X b L k => @wM_new m w rb X b L k
 have s5 := fun X b c L => @wM_snew m w rb X b c L
 obtain ⟨k0, ez, hb⟩ := hp
 have hr := get_lt hb
 have n1w := hW.ne1 hb (by simp)
 have n2w := hW.ne2 hb (by simp)
 have o0 := fun X => wM_o0 hb n1w n2w X
 have o1 := fun X L => wM_o hb n1w n2w X L
 have gl : (c3R V n).length = n * 3 := catC_len (w := 3) (F := fun i => c3C (V i)) (fun _ => rfl) n
 have hst0 : wM m w rb (X0.add (vecL V 0)) = m := by rw [vecL, WS.add_nil]; exact hst
 have hlt0 : ∀ k, ¬ m.length + k < m.length := fun k => by omega
 refine AW.sr 1 fun K hK => ?_
 have pk_7 : _ ∧ _ ∧ _ ∧ _ ∧ _ ∧ _ ∧ _ ∧ _ ∧ _ ∧ _ ∧ _ ∧ _ ∧ _ ∧ _ ∧ _ ∧ _ ∧ _ ∧ _ := ⟨hlen, g1, g10, g2, g20, g3, s1, s2, g4, s3, two, hb, o0, o1, gl, n1, a1, s5⟩
 simp only [push_cast, simprocAttr, wM_fold, u8l_len, c3C, pk_7]
 apply hK;clear hK K
 refine AW.block ?_
 refine AW.loopK [0, 6, 7] (fun i => i ≤ n) (fun i => [(8, .one (.int .i64 (i : Int)))]) (fun i => [(w, wA rb (X0.add (vecL V i))), (rb, wB (X0.add (vecL V i)))]) (fun i => n - i) 0 (by omega) ?_ ?_ fun i hi1 => ?_
 · first | rfl | (simp only [KS, simprocAttr] <;> repeat' (first | rfl | apply And.intro))
 · exact hst0
 try simp only [keepL, setAll, push_cast, simprocAttr, wM_fold, u8l_len, c3C, pk_7]
 refine AW.sr 1 fun K hK => ?_
 simp only [push_cast, simprocAttr, wM_fold, u8l_len, c3C, pk_7]
 apply hK;clear hK K
 refine AW.seq_k fun K hK => ?_
 refine AW.cond rfl (fun h9 => ?_) (fun h9 => ?_)
 ·have hlt : i < n := by have := of_decide_eq_true h9; omega
  have c1 : (0 : Int) ≤ (i : Int) := by omega
  have c2 : (i : Int) < (n : Int) := by omega
  have c3 : i * 3 + 3 ≤ n * 3 := by omega
  have ga : ((c3R V n).drop (i * 3)).take 3 = c3C (V i) := catC_at (w := 3) (F := fun i => c3C (V i)) (fun _ => rfl) hlt
  have gv : c3C (V i) = [.int .i64 (V i 0), .int .i64 (V i 1), .int .i64 (V i 2)] := rfl
  refine AW.skip ?_
  apply hK;clear hK K
  refine AW.seq_k fun K hK => ?_
  refine AW.block ?_
  refine AW.sr 1 fun K hK => ?_
  have pk_8 : _ ∧ _ ∧ _ ∧ _ ∧ _ ∧ _ := ⟨pk_7, c1, c2, c3, ga, gv⟩
  simp only [push_cast, simprocAttr, wM_fold, u8l_len, c3C, pk_8]
  apply hK;clear hK K
  refine AW.rg ?_
  simp only [push_cast, simprocAttr, wM_fold, u8l_len, c3C, pk_8]
  refine CThen.by (wfix_c w rb (X0.add (vecL V i)) (m.length + 1) 0 3 (V i) _ ((wM_at lw lb ne _).app _) ⟨.grow, 1, by rw [n1 _ (wB X0)]; rfl⟩ (by decide) (by simp only [WS.add, List.length_append, vecL_len]; omega)) ?_
  simp only [push_cast, simprocAttr, wM_fold, u8l_len, c3C, pk_8]
  refine InB_n ?_
  apply hK;clear hK K
  refine AW.rg ?_
  simp only [push_cast, simprocAttr, wM_fold, u8l_len, c3C, pk_8]
  refine Thn_n ?_
  have hwi : IntKind.i64.wrap ((i:Int)+1) = (i:Int)+1 := wi (by omega)
  have hnx : X0.add (vecL V (i + 1)) = (X0.add (vecL V i)).add (catL 5 (V i) 3) := by rw [vecL, WS.add_add]
  refine ⟨i + 1, by omega, by omega, ?_⟩
  try simp only [keepL, setAll, push_cast, simprocAttr, wM_fold, u8l_len, c3C, pk_8, hwi, hnx]
  exact Weak.to (extra := [_, _]) (by simp only [KS, simprocAttr, hwi, hnx]) (by first | rfl | (simp only [List.append_assoc, List.cons_append, List.nil_append]; rfl)) (by first | rfl | (simp [AV.below, CV.below, wM_len]; done) | (simp [AV.below, CV.below, wM_len]; omega)) (by first | exact hwfM _ | (simp only [hlen]; exact hwfM _))
 ·have hin : n = i := by have := of_decide_eq_false h9; omega
  subst hin
  refine AW.exit ?_
  refine Thn_e ?_
  clear hK K
  refine Thn_e ?_
  refine InB_here ?_
  refine hQ _ _ _ ?_
  first | refine RetP.dropM0 (wM_len _) (Or.inl rfl) ?_ ?_ (hwfM _) | refine RetP.dropM (wM_len _) (Or.inl rfl) ?_ ?_ (hwfM _)
  · rfl
  · rfl
theorem whue_c (w rb : Nat) (X0 : WS) (r v n : Nat) (V : Nat → Nat → Int) (m : AMem) (hW : WAt m w rb X0) (hp : ∃ k ez, m[r]? = some ⟨k, 60, v, ez, c3R V n⟩) (hn : n ≤ 1048576) (hs : X0.bs.length ≤ 10000000000) : Ctr Tryz.prog 88 [.one (.ptr w 0 0), .one (.sl r v 0 n)] m (.tup []) (wM m w rb (X0.add (vecL V n))) := by
 refine Ctr.enter Tryz.func88 rfl (by decide) (rs := []) (nt := 22) rfl rfl fun hwf Q hQ => ?_
 have lw := get_lt hW.hw
 have lb := get_lt hW.hb
 have ne := hW.ne
 have hlen := fun X => @wM_len m w rb X
 have hst := wM_self hW
 have g1 := fun X L => @wM_w m w rb lw ne X L
 have g10 := fun X => @wM_w0 m w rb lw ne X
 have g2 := fun X L => @wM_b m w rb lb X L
 have g20 := fun X => @wM_b0 m w rb lb X
 have g3 := fun X b L => @wM_new0 m w rb X b L
 have s1 := fun X L b => @wM_s1 m w rb lb X L b
 have s2 := fun X L b c => @wM_s2 m w rb lw X L b c
 have g4 := fun X L b => @wM_w2 m w rb lw ne X L b
 have s3 := fun X x => @wM_step m w rb ne X x
 have hwfM := fun X => @wM_wf m w rb m.length lb hwf X
 have two := fun X Y => @wM_two m w rb ne X Y
 have a0 := fun L X => @wM_app m w rb lw lb L X
 have a1 := fun X L Y => (@wM_app (wM m w rb X) w rb (by rw [wM_len]; exact lw) (by rw [wM_len]; exact lb) L Y).trans (by rw [wM_two ne])
 have n1 := fun X b L k => @wM_new m w rb X b L k
 have s5 := fun X b c L => @wM_snew m w rb X b c L
 obtain ⟨k0, ez, hb⟩ := hp
 have hr := get_lt hb
 have n1w := hW.ne1 hb (by simp)
 have n2w := hW.ne2 hb (by simp)
 have o0 := fun X => wM_o0 hb n1w n2w X
 have o1 := fun X L => wM_o hb n1w n2w X L
 have gl : (c3R V n).length = n * 3 := catC_len (w := 3) (F := fun i => c3C (V i)) (fun _ => rfl) n
 have hst0 : wM m w rb (X0.add (vecL V 0)) = m := by rw [vecL, WS.add_nil]; exact hst
 have hlt0 : ∀ k, ¬ m.length + k < m.length := fun k => by omega
 refine AW.sr 1 fun K hK => ?_
 have pk_9 : _ ∧ _ ∧ _ ∧ _ ∧ _ ∧ _ ∧ _ ∧ _ ∧ _ ∧ _ ∧ _ ∧ _ ∧ _ ∧ _ ∧ _ ∧ _ ∧ _ ∧ _ := ⟨hlen, g1, g10, g2, g20, g3, s1, s2, g4, s3, two, hb, o0, o1, gl, n1, a1, s5⟩
 simp only [push_cast, simprocAttr, wM_fold, u8l_len, c3C, pk_9]
 apply hK;clear hK K
 refine AW.block ?_
 refine AW.loopK [0, 6, 7] (fun i => i ≤ n) (fun i => [(8, .one (.int .i64 (i : Int)))]) (fun i => [(w, wA rb (X0.add (vecL V i))), (rb, wB (X0.add (vecL V i)))]) (fun i => n - i) 0 (by omega) ?_ ?_ fun i hi1 => ?_
 · first | rfl | (simp only [KS, simprocAttr] <;> repeat' (first | rfl | apply And.intro))
 · exact hst0
 try simp only [keepL, setAll, push_cast, simprocAttr, wM_fold, u8l_len, c3C, pk_9]
 refine AW.sr 1 fun K hK => ?_
 simp only [push_cast, simprocAttr, wM_fold, u8l_len, c3C, pk_9]
 apply hK;clear hK K
 refine AW.seq_k fun K hK => ?_
 refine AW.cond rfl (fun h9 => ?_) (fun h9 => ?_)
 ·have hlt : i < n := by have := of_decide_eq_true h9; omega
  have c1 : (0 : Int) ≤ (i : Int) := by omega
  have c2 : (i : Int) < (n : Int) := by omega
  have c3 : i * 3 + 3 ≤ n * 3 := by omega
  have ga : ((c3R V n).drop (i * 3)).take 3 = c3C (V i) := catC_at (w := 3) (F := fun i => c3C (V i)) (fun _ => rfl) hlt
  have gv : c3C (V i) = [.int .i64 (V i 0), .int .i64 (V i 1), .int .i64 (V i 2)] := rfl
  refine AW.skip ?_
  apply hK;clear hK K
  refine AW.seq_k fun K hK => ?_
  refine AW.block ?_
  refine AW.sr 1 fun K hK => ?_
  have pk_10 : _ ∧ _ ∧ _ ∧ _ ∧ _ ∧ _ := ⟨pk_9, c1, c2, c3, ga, gv⟩
  simp only [push_cast, simprocAttr, wM_fold, u8l_len, c3C, pk_10]
  apply hK;clear hK K
  refine AW.rg ?_
  simp only [push_cast, simprocAttr, wM_fold, u8l_len, c3C, pk_10]
  refine CThen.by (wfix_c w rb (X0.add (vecL V i)) (m.length + 1) 0 3 (V i) _ ((wM_at lw lb ne _).app _) ⟨.grow, 1, by rw [n1 _ (wB X0)]; rfl⟩ (by decide) (by simp only [WS.add, List.length_append, vecL_len]; omega)) ?_
  simp only [push_cast, simprocAttr, wM_fold, u8l_len, c3C, pk_10]
  refine InB_n ?_
  apply hK;clear hK K
  refine AW.rg ?_
  simp only [push_cast, simprocAttr, wM_fold, u8l_len, c3C, pk_10]
  refine Thn_n ?_
  have hwi : IntKind.i64.wrap ((i:Int)+1) = (i:Int)+1 := wi (by omega)
  have hnx : X0.add (vecL V (i + 1)) = (X0.add (vecL V i)).add (catL 5 (V i) 3) := by rw [vecL, WS.add_add]
  refine ⟨i + 1, by omega, by omega, ?_⟩
  try simp only [keepL, setAll, push_cast, simprocAttr, wM_fold, u8l_len, c3C, pk_10, hwi, hnx]
  exact Weak.to (extra := [_, _]) (by simp only [KS, simprocAttr, hwi, hnx]) (by first | rfl | (simp only [List.append_assoc, List.cons_append, List.nil_append]; rfl)) (by first | rfl | (simp [AV.below, CV.below, wM_len]; done) | (simp [AV.below, CV.below, wM_len]; omega)) (by first | exact hwfM _ | (simp only [hlen]; exact hwfM _))
 ·have hin : n = i := by have := of_decide_eq_false h9; omega
  subst hin
  refine AW.exit ?_
  refine Thn_e ?_
  clear hK K
  refine Thn_e ?_
  refine InB_here ?_
  refine hQ _ _ _ ?_
  first | refine RetP.dropM0 (wM_len _) (Or.inl rfl) ?_ ?_ (hwfM _) | refine RetP.dropM (wM_len _) (Or.inl rfl) ?_ ?_ (hwfM _)
  · rfl
  · rfl
def f5 (a b c d e : Int) : Nat → Int
 | 0 => a
 | 1 => b
 | 2 => c
 | 3 => d
 | _ + 4 => e
def hdL (s : SC) : List Int := catL 2 (f5 s.w s.h s.sm s.dp s.fr) 5 ++ (catL 5 (fun _ => s.sh) 1 ++ (numW s.sd 8 ++ (vecL (fun _ => s.sk) 1 ++ (catL 2 (wh s.ey s.lk) 2 ++ catL 5 (fun _ => s.wd) 1))))
theorem hdL_len (s : SC) : (hdL s).length = 47 := by simp only [hdL, List.length_append, catL_len, numW_len, vecL_len]
def kyL (T : Nat → Int) (V : Nat → Nat → Int) : Nat → List Int
 | 0 => []
 | n + 1 => kyL T V n ++ (catL 5 (fun _ => T n) 1 ++ vecL (fun _ => V n) 1)
theorem kyL_len (T : Nat → Int) (V : Nat → Nat → Int) : ∀ n, (kyL T V n).length = 20 * n
 | 0 => rfl
 | n + 1 => by simp only [kyL, List.length_append, kyL_len T V n, catL_len, vecL_len]; omega
def trL (w : Int) (n : Nat) (T : Nat → Int) (V : Nat → Nat → Int) : List Int := catL 1 (wh w (n : Int)) 2 ++ kyL T V n
theorem trL_len (w : Int) (n : Nat) (T : Nat → Int) (V : Nat → Nat → Int) : (trL w n T V).length = 2 + 20 * n := by simp only [trL, List.length_append, catL_len, kyL_len]
def shL (s : SC) (i : Nat) : List Int := catL 2 (wh (s.xj i) (s.xp i)) 2 ++ (catL 1 (fun _ => s.xk i) 1 ++ (if s.xk i = 0 then vecL (s.xv i) 1 ++ catL 5 (fun _ => s.xr i) 1 else vecL (s.xv i) 3))
theorem shL_len (s : SC) (i : Nat) : (shL s i).length = if s.xk i = 0 then 25 else 50 := by
 unfold shL; split <;> simp only [List.length_append, catL_len, vecL_len]
theorem jhd_c (w rb : Nat) (X0 : WS) (s : SC) (R : RWs) (m : AMem) (hW : WAt m w rb X0) (hs : X0.bs.length ≤ 1000000000) (hsd : 0 ≤ s.sd ∧ s.sd ≤ 18446744073709551615) : Ctr Tryz.prog 87 [.agg [.ptr w 0 0], .agg (scC s R)] m (.tup []) (wM m w rb (X0.add (hdL s))) := by
 refine Ctr.enter Tryz.func87 rfl (by decide) (rs := []) (nt := 55) rfl rfl fun hwf Q hQ => ?_
 have lw := get_lt hW.hw
 have lb := get_lt hW.hb
 have ne := hW.ne
 have hlen := fun X => @wM_len m w rb X
 have hst := wM_self hW
 have g1 := fun X L => @wM_w m w rb lw ne X L
 have g10 := fun X => @wM_w0 m w rb lw ne X
 have g2 := fun X L => @wM_b m w rb lb X L
 have g20 := fun X => @wM_b0 m w rb lb X
 have g3 := fun X b L => @wM_new0 m w rb X b L
 have s1 := fun X L b => @wM_s1 m w rb lb X L b
 have s2 := fun X L b c => @wM_s2 m w rb lw X L b c
 have g4 := fun X L b => @wM_w2 m w rb lw ne X L b
 have s3 := fun X x => @wM_step m w rb ne X x
 have hwfM := fun X => @wM_wf m w rb m.length lb hwf X
 have two := fun X Y => @wM_two m w rb ne X Y
 have a0 := fun L X => @wM_app m w rb lw lb L X
 have a1 := fun X L Y => (@wM_app (wM m w rb X) w rb (by rw [wM_len]; exact lw) (by rw [wM_len]; exact lb) L Y).trans (by rw [wM_two ne])
 have n1 := fun X b L k => @wM_new m w rb X b L k
 have s5 := fun X b c L => @wM_snew m w rb X b c L
 have s6 : ∀ (X : WS) (L : AMem) (k : Nat) (b : Blk), (wM m w rb X ++ L).set (m.length + k) b = wM m w rb X ++ L.set k b := fun X L k b => by rw [List.set_append_right _ _ (by rw [wM_len]; omega), wM_len]; congr 1; congr 1; omega
 have n2 := fun X L k => @wM_new m w rb X (wB X0) L k
 have hlt0 : ∀ k, ¬ m.length + k < m.length := fun k => by omega
 have hfin : ((((((X0.add (catL 2 (f5 s.w s.h s.sm s.dp s.fr) 5)).add (catL 5 (fun _ => s.sh) 1)).add (numW s.sd 8)).add (vecL (fun _ => s.sk) 1)).add (catL 2 (wh s.ey s.lk) 2)).add (catL 5 (fun _ => s.wd) 1)) = X0.add (hdL s) := by simp only [WS.add_add]; rfl
 refine AW.sr 7 fun K hK => ?_
 have pk_1 : _ ∧ _ ∧ _ ∧ _ ∧ _ ∧ _ ∧ _ ∧ _ ∧ _ ∧ _ ∧ _ ∧ _ ∧ _ ∧ _ ∧ _ ∧ _ ∧ _ := ⟨hlen, g1, g10, g2, g20, g3, s1, s2, g4, s3, two, n2, a0, a1, s5, s6, hfin⟩
 simp only [push_cast, simprocAttr, wM_fold, u8l_len, scC, hdC, tlC, c3C, pk_1]
 refine CThen.by (whalf_c w rb X0 (m.length + 3) 0 5 (f5 s.w s.h s.sm s.dp s.fr) _ (hW.app _) ⟨.grow, 1, by rw [lk_app]; rfl⟩ (by decide) (by omega)) ?_
 simp only [push_cast, simprocAttr, wM_fold, u8l_len, scC, hdC, tlC, c3C, pk_1]
 refine CThen.by (wfix_c w rb (X0.add (catL 2 (f5 s.w s.h s.sm s.dp s.fr) 5)) (m.length + 4) 0 1 (fun _ => s.sh) _ ((wM_at lw lb ne _).app _) ⟨.grow, 1, by rw [n1 _ (wB X0)]; rfl⟩ (by decide) (by simp only [WS.add, List.length_append, catL_len, vecL_len, numW_len]; omega)) ?_
 simp only [push_cast, simprocAttr, wM_fold, u8l_len, scC, hdC, tlC, c3C, pk_1]
 refine CThen.by (wlong_c w rb ((X0.add (catL 2 (f5 s.w s.h s.sm s.dp s.fr) 5)).add (catL 5 (fun _ => s.sh) 1)) s.sd _ ((wM_at lw lb ne _).app _) hsd.1 hsd.2 (by simp only [WS.add, List.length_append, catL_len, vecL_len, numW_len]; omega)) ?_
 simp only [push_cast, simprocAttr, wM_fold, u8l_len, scC, hdC, tlC, c3C, pk_1]
 refine CThen.by (whue_c w rb (((X0.add (catL 2 (f5 s.w s.h s.sm s.dp s.fr) 5)).add (catL 5 (fun _ => s.sh) 1)).add (numW s.sd 8)) (m.length + 5) 0 1 (fun _ => s.sk) _ ((wM_at lw lb ne _).app _) ⟨.grow, 3, by rw [n1 _ (wB X0)]; rfl⟩ (by decide) (by simp only [WS.add, List.length_append, catL_len, vecL_len, numW_len]; omega)) ?_
 simp only [push_cast, simprocAttr, wM_fold, u8l_len, scC, hdC, tlC, c3C, pk_1]
 refine CThen.by (whalf_c w rb ((((X0.add (catL 2 (f5 s.w s.h s.sm s.dp s.fr) 5)).add (catL 5 (fun _ => s.sh) 1)).add (numW s.sd 8)).add (vecL (fun _ => s.sk) 1)) (m.length + 6) 0 2 (wh s.ey s.lk) _ ((wM_at lw lb ne _).app _) ⟨.grow, 1, by rw [n1 _ (wB X0)]; rfl⟩ (by decide) (by simp only [WS.add, List.length_append, catL_len, vecL_len, numW_len]; omega)) ?_
 simp only [push_cast, simprocAttr, wM_fold, u8l_len, scC, hdC, tlC, c3C, pk_1]
 apply hK;clear hK K
 refine AW.rg ?_
 simp only [push_cast, simprocAttr, wM_fold, u8l_len, scC, hdC, tlC, c3C, pk_1]
 refine CThen.by (wfix_c w rb (((((X0.add (catL 2 (f5 s.w s.h s.sm s.dp s.fr) 5)).add (catL 5 (fun _ => s.sh) 1)).add (numW s.sd 8)).add (vecL (fun _ => s.sk) 1)).add (catL 2 (wh s.ey s.lk) 2)) (m.length + 7) 0 1 (fun _ => s.wd) _ ((wM_at lw lb ne _).app _) ⟨.grow, 1, by rw [n1 _ (wB X0)]; rfl⟩ (by decide) (by simp only [WS.add, List.length_append, catL_len, vecL_len, numW_len]; omega)) ?_
 simp only [push_cast, simprocAttr, wM_fold, u8l_len, scC, hdC, tlC, c3C, pk_1]
 refine hQ _ _ _ ?_
 first | refine RetP.dropM0 (wM_len _) (Or.inl rfl) ?_ ?_ (hwfM _) | refine RetP.dropM (wM_len _) (Or.inl rfl) ?_ ?_ (hwfM _)
 · rfl
 · rfl
theorem jtr_c (w rb : Nat) (X0 : WS) (wy : Int) (r v n : Nat) (T : Nat → Int) (V : Nat → Nat → Int) (m : AMem) (hW : WAt m w rb X0) (hs : X0.bs.length ≤ 1000000000) (hr : ∃ k e, m[r]? = some ⟨k, 119, v, e, catC n (keC T V)⟩) (hn : n ≤ 1000) : Ctr Tryz.prog 90 [.agg [.ptr w 0 0], .agg [.int .i64 wy, .sl r v 0 n]] m (.tup []) (wM m w rb (X0.add (trL wy n T V))) := by
 refine Ctr.enter Tryz.func90 rfl (by decide) (rs := []) (nt := 35) rfl rfl fun hwf Q hQ => ?_
 have lw := get_lt hW.hw
 have lb := get_lt hW.hb
 have ne := hW.ne
 have hlen := fun X => @wM_len m w rb X
 have hst := wM_self hW
 have g1 := fun X L => @wM_w m w rb lw ne X L
 have g10 := fun X => @wM_w0 m w rb lw ne X
 have g2 := fun X L => @wM_b m w rb lb X L
 have g20 := fun X => @wM_b0 m w rb lb X
 have g3 := fun X b L => @wM_new0 m w rb X b L
 have s1 := fun X L b => @wM_s1 m w rb lb X L b
 have s2 := fun X L b c => @wM_s2 m w rb lw X L b c
 have g4 := fun X L b => @wM_w2 m w rb lw ne X L b
 have s3 := fun X x => @wM_step m w rb ne X x
 have hwfM := fun X => @wM_wf m w rb m.length lb hwf X
 have two := fun X Y => @wM_two m w rb ne X Y
 have a0 := fun L X => @wM_app m w rb lw lb L X
 have a1 := fun X L Y => (@wM_app (wM m w rb X) w rb (by rw [wM_len]; exact lw) (by rw [wM_len]; exact lb) L Y).trans (by rw [wM_two ne])
 have n1 := fun X b L k => @wM_new m w rb X b L k
 have s5 := fun X b c L => @wM_snew m w rb X b c L
 have s6 : ∀ (X : WS) (L : AMem) (k : Nat) (b : Blk), (wM m w rb X ++ L).set (m.length + k) b = wM m w rb X ++ L.set k b := fun X L k b => by rw [List.set_append_right _ _ (by rw [wM_len]; omega), wM_len]; congr 1; congr 1; omega
 have n2 := fun X L k => @wM_new m w rb X (wB X0) L k
 have hlt0 : ∀ k, ¬ m.length + k < m.length := fun k => by omega
 obtain ⟨kr, er, hr⟩ := hr
 have lr := get_lt hr
 have nw1 := hW.ne1 hr (by simp)
 have nw2 := hW.ne2 hr (by simp)
 have o0 := fun X => wM_o0 hr nw1 nw2 X
 have o1 := fun X L => wM_o hr nw1 nw2 X L
 have gl : (catC n (keC T V)).length = n * 4 := catC_len (w := 4) (F := keC T V) (fun _ => rfl) n
 have hfin : ((X0.add (catL 1 (wh wy (n : Int)) 2)).add (kyL T V n)) = X0.add (trL wy n T V) := by rw [WS.add_add]; rfl
 have hst0 : ((X0.add (catL 1 (wh wy (n : Int)) 2)).add (kyL T V 0)) = (X0.add (catL 1 (wh wy (n : Int)) 2)) := by rw [kyL, WS.add_nil]
 refine AW.sr 3 fun K hK => ?_
 have pk_2 : _ ∧ _ ∧ _ ∧ _ ∧ _ ∧ _ ∧ _ ∧ _ ∧ _ ∧ _ ∧ _ ∧ _ ∧ _ ∧ _ ∧ _ ∧ _ ∧ _ ∧ _ ∧ _ ∧ _ ∧ _ := ⟨hlen, g1, g10, g2, g20, g3, s1, s2, g4, s3, two, n2, a0, a1, s5, s6, hr, lk_old hr, o0, o1, gl⟩
 simp only [push_cast, simprocAttr, wM_fold, u8l_len, pk_2]
 refine CThen.by (wbyte_c w rb X0 (m.length + 2) 0 2 (wh wy (n : Int)) _ (hW.app _) ⟨.grow, 1, by rw [lk_app]; rfl⟩ (by decide) (by omega)) ?_
 simp only [push_cast, simprocAttr, wM_fold, u8l_len, pk_2]
 apply hK;clear hK K
 refine AW.block ?_
 refine AW.loopK [2, 16, 17] (fun i => i ≤ n) (fun i => [(18, .one (.int .i64 (i : Int)))]) (fun i => [(w, wA rb (((X0.add (catL 1 (wh wy (n : Int)) 2)).add (kyL T V i)))), (rb, wB (((X0.add (catL 1 (wh wy (n : Int)) 2)).add (kyL T V i))))]) (fun i => n - i) 0 (by omega) ?_ ?_ fun i hi1 => ?_
 · first | rfl | (simp only [KS, simprocAttr] <;> repeat' (first | rfl | apply And.intro))
 · simp only [setAll, push_cast, simprocAttr, wM_fold, two, a0, a1, hst0]
 try simp only [keepL, setAll, push_cast, simprocAttr, wM_fold, u8l_len, pk_2]
 refine AW.sr 1 fun K hK => ?_
 simp only [push_cast, simprocAttr, wM_fold, u8l_len, pk_2]
 apply hK;clear hK K
 refine AW.seq_k fun K hK => ?_
 refine AW.cond rfl (fun h19 => ?_) (fun h19 => ?_)
 ·have hlt : i < n := by have := of_decide_eq_true h19; omega
  have c1 : (0 : Int) ≤ (i : Int) := by omega
  have c2 : (i : Int) < (n : Int) := by omega
  have c3 : i * 4 + 4 ≤ n * 4 := by omega
  have ga := catC_at (w := 4) (F := keC T V) (fun _ => rfl) hlt
  have gk : keC T V i = [.int .i64 (T i), .int .i64 (V i 0), .int .i64 (V i 1), .int .i64 (V i 2)] := rfl
  refine AW.skip ?_
  apply hK;clear hK K
  refine AW.seq_k fun K hK => ?_
  refine AW.block ?_
  refine AW.sr 2 fun K hK => ?_
  have pk_3 : _ ∧ _ ∧ _ ∧ _ ∧ _ ∧ _ ∧ _ := ⟨pk_2, c1, c2, c3, ga, gk, hlt⟩
  simp only [push_cast, simprocAttr, wM_fold, u8l_len, pk_3]
  refine CThen.by (wfix_c w rb ((X0.add (catL 1 (wh wy (n : Int)) 2)).add (kyL T V i)) (m.length + 4) 0 1 (fun _ => T i) _ ((wM_at lw lb ne _).app _) ⟨.grow, 1, by rw [n1 _ (wB X0)]; rfl⟩ (by decide) (by simp only [WS.add, List.length_append, catL_len, kyL_len]; omega)) ?_
  simp only [push_cast, simprocAttr, wM_fold, u8l_len, pk_3]
  apply hK;clear hK K
  refine AW.rg ?_
  simp only [push_cast, simprocAttr, wM_fold, u8l_len, pk_3]
  refine CThen.by (wvec_c w rb (((X0.add (catL 1 (wh wy (n : Int)) 2)).add (kyL T V i)).add (catL 5 (fun _ => T i) 1)) (m.length + 5) 0 1 (fun _ => V i) _ ((wM_at lw lb ne _).app _) ⟨.grow, 3, by rw [n1 _ (wB X0)]; rfl⟩ (by decide) (by simp only [WS.add, List.length_append, catL_len, kyL_len]; omega)) ?_
  simp only [push_cast, simprocAttr, wM_fold, u8l_len, pk_3]
  refine InB_n ?_
  apply hK;clear hK K
  refine AW.rg ?_
  simp only [push_cast, simprocAttr, wM_fold, u8l_len, pk_3]
  refine Thn_n ?_
  have hwi : IntKind.i64.wrap ((i:Int)+1) = (i:Int)+1 := wi (by omega)
  have hnx : (((X0.add (catL 1 (wh wy (n : Int)) 2)).add (kyL T V i)).add (catL 5 (fun _ => T i) 1)).add (vecL (fun _ => V i) 1) = ((X0.add (catL 1 (wh wy (n : Int)) 2)).add (kyL T V (i + 1))) := by simp only [WS.add_add, kyL, List.append_assoc]
  refine ⟨i + 1, by omega, by omega, ?_⟩
  try simp only [keepL, setAll, push_cast, simprocAttr, wM_fold, u8l_len, pk_3, hwi, hnx, wM_fold, two, a0, a1]
  exact Weak.to (extra := [_, _, _]) (by simp only [KS, simprocAttr, hwi, hnx, wM_fold, two, a0, a1]) (by first | rfl | (simp only [List.append_assoc, List.cons_append, List.nil_append]; rfl)) (by first | rfl | (simp [AV.below, CV.below, wM_len]; done) | (simp [AV.below, CV.below, wM_len]; omega)) (by exact MWf.app ((hwfM _).grow (by simp [wM_len])) (MWf_cons (by simp [CV.below, wM_len]; omega) (MWf_cons (by simp [CV.below, wM_len]; omega) (MWf_cons rfl MWf_nil))))
 ·have hin : i = n := by have := of_decide_eq_false h19; omega
  subst hin
  rw [hfin]
  refine AW.exit ?_
  refine Thn_e ?_
  clear hK K
  refine Thn_e ?_
  refine InB_here ?_
  refine hQ _ _ _ ?_
  first | refine RetP.dropM0 (wM_len _) (Or.inl rfl) ?_ ?_ (hwfM _) | refine RetP.dropM (wM_len _) (Or.inl rfl) ?_ ?_ (hwfM _)
  · rfl
  · rfl
theorem cor0_c (s : SC) (i : Nat) (m : AMem) (hk : (s.xk i == 0) = true) : Ctr Tryz.prog 110 [.agg (xC s i)] m (.one (.sl m.length 0 0 1)) (m ++ [⟨.grow, 78, 0, 3, c3R (s.xv i) 1⟩]) := by
 refine Ctr.enter Tryz.func110 rfl (by decide) (rs := [.tmp 2]) (nt := 16) rfl rfl fun hwf Q hQ => ?_
 have gx : xC s i = [.int .i64 (s.xj i), .int .i64 (s.xp i), .int .i64 (s.xk i), .int .i64 (s.xv i 0 0), .int .i64 (s.xv i 0 1), .int .i64 (s.xv i 0 2), .int .i64 (s.xv i 1 0), .int .i64 (s.xv i 1 1), .int .i64 (s.xv i 1 2), .int .i64 (s.xv i 2 0), .int .i64 (s.xv i 2 1), .int .i64 (s.xv i 2 2), .int .i64 (s.xr i)] := rfl
 have hlt0 : ∀ k, ¬ m.length + k < m.length := fun k => by omega
 refine AW.sr 1 fun K hK => ?_
 simp only [push_cast, simprocAttr, gx, hk]
 apply hK;clear hK K
 refine AW.seq_k fun K hK => ?_
 refine AW.sr 1 fun K hK => ?_
 simp only [push_cast, simprocAttr, gx, hk]
 apply hK;clear hK K
 refine AW.cond_t rfl ?_
 refine AW.sr 1 fun K hK => ?_
 simp only [push_cast, simprocAttr, gx, hk]
 apply hK;clear hK K
 refine AW.ret ?_
 refine Thn_r ?_
 refine hQ _ _ _ ?_
 refine RetP.pick [(m.length + 1, 0)] (by first | exact Or.inr rfl | exact Or.inl rfl) ?_ ?_ ?_ hwf ?_
 · simp only [resA, resOne, resTv, AV.tv, push_cast, simprocAttr]
   simp [renV, renT, renL, renC, renIdx, hlt0]
 · (simp only [picks, push_cast, simprocAttr]) <;> rfl
 · simp [distinctFrom]
 · exact MWf_one rfl
theorem cor1_c (s : SC) (i : Nat) (m : AMem) (hk : (s.xk i == 0) = false) : Ctr Tryz.prog 110 [.agg (xC s i)] m (.one (.sl m.length 0 0 3)) (m ++ [⟨.grow, 78, 0, 3, c3R (s.xv i) 3⟩]) := by
 refine Ctr.enter Tryz.func110 rfl (by decide) (rs := [.tmp 2]) (nt := 16) rfl rfl fun hwf Q hQ => ?_
 have gx : xC s i = [.int .i64 (s.xj i), .int .i64 (s.xp i), .int .i64 (s.xk i), .int .i64 (s.xv i 0 0), .int .i64 (s.xv i 0 1), .int .i64 (s.xv i 0 2), .int .i64 (s.xv i 1 0), .int .i64 (s.xv i 1 1), .int .i64 (s.xv i 1 2), .int .i64 (s.xv i 2 0), .int .i64 (s.xv i 2 1), .int .i64 (s.xv i 2 2), .int .i64 (s.xr i)] := rfl
 have hlt0 : ∀ k, ¬ m.length + k < m.length := fun k => by omega
 refine AW.sr 1 fun K hK => ?_
 simp only [push_cast, simprocAttr, gx, hk]
 apply hK;clear hK K
 refine AW.seq_k fun K hK => ?_
 refine AW.sr 1 fun K hK => ?_
 simp only [push_cast, simprocAttr, gx, hk]
 apply hK;clear hK K
 refine AW.cond_f rfl ?_
 refine AW.skip ?_
 apply hK;clear hK K
 refine AW.sr 1 fun K hK => ?_
 simp only [push_cast, simprocAttr, gx, hk]
 apply hK;clear hK K
 refine AW.ret ?_
 refine hQ _ _ _ ?_
 refine RetP.pick [(m.length + 1, 0)] (by first | exact Or.inr rfl | exact Or.inl rfl) ?_ ?_ ?_ hwf ?_
 · simp only [resA, resOne, resTv, AV.tv, push_cast, simprocAttr]
   simp [renV, renT, renL, renC, renIdx, hlt0]
 · (simp only [picks, push_cast, simprocAttr]) <;> rfl
 · simp [distinctFrom]
 · exact MWf_one rfl
theorem jsh0_c (w rb : Nat) (X0 : WS) (s : SC) (i : Nat) (m : AMem) (hW : WAt m w rb X0) (hs : X0.bs.length ≤ 1000000000) (hk : (s.xk i == 0) = true) : Ctr Tryz.prog 92 [.agg [.ptr w 0 0], .agg (xC s i)] m (.tup []) (wM m w rb (X0.add (shL s i))) := by
 refine Ctr.enter Tryz.func92 rfl (by decide) (rs := []) (nt := 34) rfl rfl fun hwf Q hQ => ?_
 have lw := get_lt hW.hw
 have lb := get_lt hW.hb
 have ne := hW.ne
 have hlen := fun X => @wM_len m w rb X
 have hst := wM_self hW
 have g1 := fun X L => @wM_w m w rb lw ne X L
 have g10 := fun X => @wM_w0 m w rb lw ne X
 have g2 := fun X L => @wM_b m w rb lb X L
 have g20 := fun X => @wM_b0 m w rb lb X
 have g3 := fun X b L => @wM_new0 m w rb X b L
 have s1 := fun X L b => @wM_s1 m w rb lb X L b
 have s2 := fun X L b c => @wM_s2 m w rb lw X L b c
 have g4 := fun X L b => @wM_w2 m w rb lw ne X L b
 have s3 := fun X x => @wM_step m w rb ne X x
 have hwfM := fun X => @wM_wf m w rb m.length lb hwf X
 have two := fun X Y => @wM_two m w rb ne X Y
 have a0 := fun L X => @wM_app m w rb lw lb L X
 have a1 := fun X L Y => (@wM_app (wM m w rb X) w rb (by rw [wM_len]; exact lw) (by rw [wM_len]; exact lb) L Y).trans (by rw [wM_two ne])
 have n1 := fun X b L k => @wM_new m w rb X b L k
 have s5 := fun X b c L => @wM_snew m w rb X b c L
 have s6 : ∀ (X : WS) (L : AMem) (k : Nat) (b : Blk), (wM m w rb X ++ L).set (m.length + k) b = wM m w rb X ++ L.set k b := fun X L k b => by rw [List.set_append_right _ _ (by rw [wM_len]; omega), wM_len]; congr 1; congr 1; omega
 have n2 := fun X L k => @wM_new m w rb X (wB X0) L k
 have hlt0 : ∀ k, ¬ m.length + k < m.length := fun k => by omega
 have gx : xC s i = [.int .i64 (s.xj i), .int .i64 (s.xp i), .int .i64 (s.xk i), .int .i64 (s.xv i 0 0), .int .i64 (s.xv i 0 1), .int .i64 (s.xv i 0 2), .int .i64 (s.xv i 1 0), .int .i64 (s.xv i 1 1), .int .i64 (s.xv i 1 2), .int .i64 (s.xv i 2 0), .int .i64 (s.xv i 2 1), .int .i64 (s.xv i 2 2), .int .i64 (s.xr i)] := rfl
 have hk0 := eq_of_beq hk
 have hfin : ((((X0.add (catL 2 (wh (s.xj i) (s.xp i)) 2)).add (catL 1 (fun _ => s.xk i) 1)).add (vecL (s.xv i) 1)).add (catL 5 (fun _ => s.xr i) 1)) = X0.add (shL s i) := by simp only [WS.add_add, shL, hk0, if_true, if_false, List.append_assoc]
 refine AW.sr 3 fun K hK => ?_
 have pk_4 : _ ∧ _ ∧ _ ∧ _ ∧ _ ∧ _ ∧ _ ∧ _ ∧ _ ∧ _ ∧ _ ∧ _ ∧ _ ∧ _ ∧ _ ∧ _ ∧ _ ∧ _ ∧ _ := ⟨hlen, g1, g10, g2, g20, g3, s1, s2, g4, s3, two, n2, a0, a1, s5, s6, gx, hk, hfin⟩
 simp only [push_cast, simprocAttr, wM_fold, u8l_len, pk_4]
 refine CThen.by (whalf_c w rb X0 (m.length + 2) 0 2 (wh (s.xj i) (s.xp i)) _ (hW.app _) ⟨.grow, 1, by rw [lk_app]; rfl⟩ (by decide) (by omega)) ?_
 simp only [push_cast, simprocAttr, wM_fold, u8l_len, pk_4]
 refine CThen.by (wbyte_c w rb (X0.add (catL 2 (wh (s.xj i) (s.xp i)) 2)) (m.length + 3) 0 1 (fun _ => s.xk i) _ ((wM_at lw lb ne _).app _) ⟨.grow, 1, by rw [n1 _ (wB X0)]; rfl⟩ (by decide) (by simp only [WS.add, List.length_append, catL_len, vecL_len, numW_len]; omega)) ?_
 simp only [push_cast, simprocAttr, wM_fold, u8l_len, pk_4]
 apply hK;clear hK K
 refine AW.seq_k fun K hK => ?_
 refine AW.draw [.val, .rd 0, .rd 0, .ext, .wr] fol (by decide) (by kernel_rfl) ?_
 simp only [push_cast, simprocAttr, wM_fold, u8l_len, pk_4]
 refine DCall.by (cor0_c s i _ hk) ?_
 simp only [push_cast, simprocAttr, wM_fold, u8l_len, pk_4]
 refine DCallW.by (wvec_c w rb ((X0.add (catL 2 (wh (s.xj i) (s.xp i)) 2)).add (catL 1 (fun _ => s.xk i) 1)) (m.length + 4) 0 1 (s.xv i) _ ((wM_at lw lb ne _).app _) ⟨.grow, 3, by rw [n1 _ (wB X0)]; rfl⟩ (by decide) (by simp only [WS.add, List.length_append, catL_len, vecL_len, numW_len]; omega)) ?_
 simp only [push_cast, simprocAttr, wM_fold, u8l_len, pk_4]
 apply hK;clear hK K
 refine AW.sr 1 fun K hK => ?_
 simp only [push_cast, simprocAttr, wM_fold, u8l_len, pk_4]
 apply hK;clear hK K
 refine AW.cond_t rfl ?_
 refine AW.rg ?_
 simp only [push_cast, simprocAttr, wM_fold, u8l_len, pk_4]
 refine CThen.by (wfix_c w rb (((X0.add (catL 2 (wh (s.xj i) (s.xp i)) 2)).add (catL 1 (fun _ => s.xk i) 1)).add (vecL (s.xv i) 1)) (m.length + 5) 0 1 (fun _ => s.xr i) _ ((wM_at lw lb ne _).app _) ⟨.grow, 1, by rw [n1 _ (wB X0)]; rfl⟩ (by decide) (by simp only [WS.add, List.length_append, catL_len, vecL_len, numW_len]; omega)) ?_
 simp only [push_cast, simprocAttr, wM_fold, u8l_len, pk_4]
 refine hQ _ _ _ ?_
 first | refine RetP.dropM0 (wM_len _) (Or.inl rfl) ?_ ?_ (hwfM _) | refine RetP.dropM (wM_len _) (Or.inl rfl) ?_ ?_ (hwfM _)
 · rfl
 · rfl
theorem jsh1_c (w rb : Nat) (X0 : WS) (s : SC) (i : Nat) (m : AMem) (hW : WAt m w rb X0) (hs : X0.bs.length ≤ 1000000000) (hk : (s.xk i == 0) = false) : Ctr Tryz.prog 92 [.agg [.ptr w 0 0], .agg (xC s i)] m (.tup []) (wM m w rb (X0.add (shL s i))) := by
 refine Ctr.enter Tryz.func92 rfl (by decide) (rs := []) (nt := 34) rfl rfl fun hwf Q hQ => ?_
 have lw := get_lt hW.hw
 have lb := get_lt hW.hb
 have ne := hW.ne
 have hlen := fun X => @wM_len m w rb X
 have hst := wM_self hW
 have g1 := fun X L => @wM_w m w rb lw ne X L
 have g10 := fun X => @wM_w0 m w rb lw ne X
 have g2 := fun X L => @wM_b m w rb lb X L
 have g20 := fun X => @wM_b0 m w rb lb X
 have g3 := fun X b L => @wM_new0 m w rb X b L
 have s1 := fun X L b => @wM_s1 m w rb lb X L b
 have s2 := fun X L b c => @wM_s2 m w rb lw X L b c
 have g4 := fun X L b => @wM_w2 m w rb lw ne X L b
 have s3 := fun X x => @wM_step m w rb ne X x
 have hwfM := fun X => @wM_wf m w rb m.length lb hwf X
 have two := fun X Y => @wM_two m w rb ne X Y
 have a0 := fun L X => @wM_app m w rb lw lb L X
 have a1 := fun X L Y => (@wM_app (wM m w rb X) w rb (by rw [wM_len]; exact lw) (by rw [wM_len]; exact lb) L Y).trans (by rw [wM_two ne])
 have n1 := fun X b L k => @wM_new m w rb X b L k
 have s5 := fun X b c L => @wM_snew m w rb X b c L
 have s6 : ∀ (X : WS) (L : AMem) (k : Nat) (b : Blk), (wM m w rb X ++ L).set (m.length + k) b = wM m w rb X ++ L.set k b := fun X L k b => by rw [List.set_append_right _ _ (by rw [wM_len]; omega), wM_len]; congr 1; congr 1; omega
 have n2 := fun X L k => @wM_new m w rb X (wB X0) L k
 have hlt0 : ∀ k, ¬ m.length + k < m.length := fun k => by omega
 have gx : xC s i = [.int .i64 (s.xj i), .int .i64 (s.xp i), .int .i64 (s.xk i), .int .i64 (s.xv i 0 0), .int .i64 (s.xv i 0 1), .int .i64 (s.xv i 0 2), .int .i64 (s.xv i 1 0), .int .i64 (s.xv i 1 1), .int .i64 (s.xv i 1 2), .int .i64 (s.xv i 2 0), .int .i64 (s.xv i 2 1), .int .i64 (s.xv i 2 2), .int .i64 (s.xr i)] := rfl
 have hk0 := (by simpa using hk : ¬ s.xk i = 0)
 have hfin : (((X0.add (catL 2 (wh (s.xj i) (s.xp i)) 2)).add (catL 1 (fun _ => s.xk i) 1)).add (vecL (s.xv i) 3)) = X0.add (shL s i) := by simp only [WS.add_add, shL, hk0, if_true, if_false, List.append_assoc]
 refine AW.sr 3 fun K hK => ?_
 have pk_5 : _ ∧ _ ∧ _ ∧ _ ∧ _ ∧ _ ∧ _ ∧ _ ∧ _ ∧ _ ∧ _ ∧ _ ∧ _ ∧ _ ∧ _ ∧ _ ∧ _ ∧ _ ∧ _ := ⟨hlen, g1, g10, g2, g20, g3, s1, s2, g4, s3, two, n2, a0, a1, s5, s6, gx, hk, hfin⟩
 simp only [push_cast, simprocAttr, wM_fold, u8l_len, pk_5]
 refine CThen.by (whalf_c w rb X0 (m.length + 2) 0 2 (wh (s.xj i) (s.xp i)) _ (hW.app _) ⟨.grow, 1, by rw [lk_app]; rfl⟩ (by decide) (by omega)) ?_
 simp only [push_cast, simprocAttr, wM_fold, u8l_len, pk_5]
 refine CThen.by (wbyte_c w rb (X0.add (catL 2 (wh (s.xj i) (s.xp i)) 2)) (m.length + 3) 0 1 (fun _ => s.xk i) _ ((wM_at lw lb ne _).app _) ⟨.grow, 1, by rw [n1 _ (wB X0)]; rfl⟩ (by decide) (by simp only [WS.add, List.length_append, catL_len, vecL_len, numW_len]; omega)) ?_
 simp only [push_cast, simprocAttr, wM_fold, u8l_len, pk_5]
 apply hK;clear hK K
 refine AW.seq_k fun K hK => ?_
 refine AW.draw [.val, .rd 0, .rd 0, .ext, .wr] fol (by decide) (by kernel_rfl) ?_
 simp only [push_cast, simprocAttr, wM_fold, u8l_len, pk_5]
 refine DCall.by (cor1_c s i _ hk) ?_
 simp only [push_cast, simprocAttr, wM_fold, u8l_len, pk_5]
 refine DCallW.by (wvec_c w rb ((X0.add (catL 2 (wh (s.xj i) (s.xp i)) 2)).add (catL 1 (fun _ => s.xk i) 1)) (m.length + 4) 0 3 (s.xv i) _ ((wM_at lw lb ne _).app _) ⟨.grow, 3, by rw [n1 _ (wB X0)]; rfl⟩ (by decide) (by simp only [WS.add, List.length_append, catL_len, vecL_len, numW_len]; omega)) ?_
 simp only [push_cast, simprocAttr, wM_fold, u8l_len, pk_5]
 apply hK;clear hK K
 refine AW.sr 1 fun K hK => ?_
 simp only [push_cast, simprocAttr, wM_fold, u8l_len, pk_5]
 apply hK;clear hK K
 refine AW.cond_f rfl ?_
 refine AW.skip ?_
 refine hQ _ _ _ ?_
 first | refine RetP.dropM0 (wM_len _) (Or.inl rfl) ?_ ?_ (hwfM _) | refine RetP.dropM (wM_len _) (Or.inl rfl) ?_ ?_ (hwfM _)
 · rfl
 · rfl
theorem jsh_c (w rb : Nat) (X0 : WS) (s : SC) (i : Nat) (m : AMem) (hW : WAt m w rb X0) (hs : X0.bs.length ≤ 1000000000) : Ctr Tryz.prog 92 [.agg [.ptr w 0 0], .agg (xC s i)] m (.tup []) (wM m w rb (X0.add (shL s i))) := by
 cases hk : s.xk i == 0
 ·exact jsh1_c w rb X0 s i m hW hs hk
 ·exact jsh0_c w rb X0 s i m hW hs hk
structure GdS (s : SC) : Prop where
 hd : HdR s
 p : s.np ≤ 32
 pa : ∀ i, i < s.np → PaR s i
 t : s.nt ≤ 32
 tr : ∀ i, i < s.nt → TrS s i
 j : s.nj ≤ 32
 jo : ∀ i, i < s.nj → JoR s i
 x : s.nx ≤ 128
 sh : ∀ i, i < s.nx → ShR s i
 le : LeR s
 la : (outL (glB s) s.nx).length ≤ 16
theorem chk_good {s : SC} (h : (chkV s).1 = 0) : GdS s ∧ chkV s = (0, 0) := by
 have fb : ∀ (P : Nat → Prop) [DecidablePred P] (n : Nat), ¬ fbN (fun i => decide (P i)) n < n → ∀ k, k < n → P k := fun P _ n q k hk => by
  have := fbN_of (f := fun i => decide (P i)) n (by have := fbN_le (fun i => decide (P i)) n; omega) k hk
  exact of_decide_eq_true this
 have h0 := h
 unfold chkV at h
 split at h
 ·exact absurd h (by decide)
 rename_i a1
 split at h
 ·exact absurd h (by decide)
 rename_i a2
 split at h
 ·exact absurd h (by simp)
 rename_i a3
 split at h
 ·exact absurd h (by decide)
 rename_i a4
 split at h
 ·exact absurd h (by simp)
 rename_i a5
 split at h
 ·exact absurd h (by decide)
 rename_i a6
 split at h
 ·exact absurd h (by simp)
 rename_i a7
 split at h
 ·exact absurd h (by decide)
 rename_i a8
 split at h
 ·exact absurd h (by simp)
 rename_i a9
 split at h
 ·exact absurd h (by decide)
 rename_i a10
 split at h
 ·exact absurd h (by simp)
 rename_i a11
 refine ⟨⟨Classical.not_not.1 a1, by omega, fb (PaR s) _ a3, by omega, fb (TrS s) _ a5, by omega, fb (JoR s) _ a7, by omega, fb (ShR s) _ a9, Classical.not_not.1 a10, by omega⟩, ?_⟩
 unfold chkV
 rw [if_neg a1, if_neg a2, if_neg a3, if_neg a4, if_neg a5, if_neg a6, if_neg a7, if_neg a8, if_neg a9, if_neg a10, if_neg a11]
theorem GdS.kn {s : SC} (h : GdS s) {i : Nat} (hi : i < s.nt) : s.kn i ≤ 16 := (h.tr i hi).2.2.2.1
def f3 (a b c : Int) : Nat → Int
 | 0 => a
 | 1 => b
 | _ + 2 => c
def f4 (a b c d : Int) : Nat → Int
 | 0 => a
 | 1 => b
 | 2 => c
 | _ + 3 => d
def paL (s : SC) : Nat → List Int
 | 0 => []
 | n + 1 => paL s n ++ (catL 1 (fun _ => s.pk n) 1 ++ (vecL (fun _ => s.pc n) 1 ++ catL 5 (fun _ => s.pr n) 1))
theorem paL_len (s : SC) : ∀ n, (paL s n).length = 21 * n
 | 0 => rfl
 | n + 1 => by simp only [paL, List.length_append, paL_len s n, catL_len, vecL_len]; omega
def tksL (s : SC) : Nat → List Int
 | 0 => []
 | n + 1 => tksL s n ++ trL (s.tw n) (s.kn n) (s.kt n) (s.kv n)
def knS (s : SC) : Nat → Nat
 | 0 => 0
 | n + 1 => knS s n + (2 + 20 * s.kn n)
theorem tksL_len (s : SC) : ∀ n, (tksL s n).length = knS s n
 | 0 => rfl
 | n + 1 => by simp only [tksL, List.length_append, tksL_len s n, trL_len, knS]
theorem knS_le {s : SC} (h : GdS s) : ∀ n, n ≤ s.nt → knS s n ≤ 322 * n
 | 0, _ => Nat.le_refl _
 | n + 1, hn => by have := knS_le h n (by omega); have := h.kn (i := n) (by omega); simp only [knS]; omega
def joL (s : SC) : Nat → List Int
 | 0 => []
 | n + 1 => joL s n ++ (catL 2 (f3 (s.jp n) (s.jm n) (s.jt n)) 3 ++ catL 5 (fun _ => s.js n) 1)
theorem joL_len (s : SC) : ∀ n, (joL s n).length = 11 * n
 | 0 => rfl
 | n + 1 => by simp only [joL, List.length_append, joL_len s n, catL_len]; omega
def shsL (s : SC) : Nat → List Int
 | 0 => []
 | n + 1 => shsL s n ++ shL s n
def shN' (s : SC) : Nat → Nat
 | 0 => 0
 | n + 1 => shN' s n + (if s.xk n = 0 then 25 else 50)
theorem shsL_len (s : SC) : ∀ n, (shsL s n).length = shN' s n
 | 0 => rfl
 | n + 1 => by simp only [shsL, List.length_append, shsL_len s n, shL_len, shN']
theorem shN'_le (s : SC) : ∀ n, shN' s n ≤ 50 * n
 | 0 => Nat.le_refl _
 | n + 1 => by have := shN'_le s n; simp only [shN']; split <;> omega
def mgX : WS := (((WS.add ⟨[], 0⟩ (catL 1 (fun _ => 90) 1)).add (catL 1 (fun _ => 79) 1)).add (catL 1 (fun _ => 69) 1)).add (catL 1 (fun _ => 49) 1)
def hdX (s : SC) : WS := (mgX.add (hdL s)).add (catL 1 (f4 (s.np : Int) (s.nt : Int) (s.nj : Int) (s.nx : Int)) 4)
def encX (s : SC) : WS := ((((hdX s).add (paL s s.np)).add (tksL s s.nt)).add (joL s s.nj)).add (shsL s s.nx)
theorem mgX_len : mgX.bs.length = 4 := rfl
theorem hdX_len (s : SC) : (hdX s).bs.length = 55 := by simp only [hdX, WS.add, List.length_append, hdL_len, catL_len, mgX_len]
theorem encX_len (s : SC) : (encX s).bs.length = 55 + 21 * s.np + knS s s.nt + 11 * s.nj + shN' s s.nx := by simp only [encX, WS.add, List.length_append, paL_len, tksL_len, joL_len, shsL_len]; rw [show (hdX s).bs.length = 55 from hdX_len s]
theorem jenc_c (s : SC) (R : RWs) (m : AMem) (hR : ScR 107 75 119 112 117 m s R) (hsd : 0 ≤ s.sd ∧ s.sd ≤ 18446744073709551615) (hc : (chkV s).1 = 0) : Ctr Tryz.prog 60 [.agg (scC s R)] m (.tup [(false, [.sl m.length 0 0 (encX s).bs.length]), (false, [.int .i64 0])]) (m ++ [⟨.grow, 5, 0, 1, u8l (encX s).bs⟩]) := by
 refine Ctr.enter Tryz.func60 rfl (by decide) (rs := [.tmp 2, .tmp 3]) (nt := 135) rfl rfl fun hwf Q hQ => ?_
 have hM : ∀ (a x j y : Blk) (L : AMem) (Z : WS), wM (m ++ a :: x :: j :: y :: L) (m.length + 1) (m.length + 3) Z = m ++ a :: wA (m.length + 3) Z :: j :: wB Z :: L := fun a x j y L Z => by unfold wM; rw [set_app, set_app]; rfl
 have hAt : ∀ (a j : Blk) (L : AMem) (Z : WS), WAt (m ++ a :: wA (m.length + 3) Z :: j :: wB Z :: L) (m.length + 1) (m.length + 3) Z := fun a j L Z => ⟨by rw [lk_app]; rfl, by rw [lk_app]; rfl, by omega⟩
 have hlt0 : ∀ k, ¬ m.length + k < m.length := fun k => by omega
 obtain ⟨hG, hC⟩ := chk_good hc
 have gp := hG.p
 have gt := hG.t
 have gj := hG.j
 have gx := hG.x
 obtain ⟨kp, ep, hp⟩ := hR.hp
 have lp := get_lt hp
 obtain ⟨kt, et, ht⟩ := hR.ht
 have lt := get_lt ht
 obtain ⟨kj, ej, hj⟩ := hR.hj
 have lj := get_lt hj
 obtain ⟨kx, ex, hx⟩ := hR.hx
 have lx := get_lt hx
 have pl : (catC s.np (pC s)).length = s.np * 5 := catC_len (w := 5) (F := pC s) (fun _ => rfl) _
 have tl : (catC s.nt (tC s R)).length = s.nt * 2 := catC_len (w := 2) (F := tC s R) (fun _ => rfl) _
 have jl : (catC s.nj (jC s)).length = s.nj * 4 := catC_len (w := 4) (F := jC s) (fun _ => rfl) _
 have xl : (catC s.nx (xC s)).length = s.nx * 13 := catC_len (w := 13) (F := xC s) (fun _ => rfl) _
 have wl : ∀ b : Nat, ∀ Z : WS, (wA b Z).cells.all (CV.below (b + 1)) = true := fun b Z => by simp [wA, CV.below]
 have z1 : (hdX s).add (paL s 0) = (hdX s) := by rw [paL, WS.add_nil]
 have z2 : ((hdX s).add (paL s s.np)).add (tksL s 0) = ((hdX s).add (paL s s.np)) := by rw [tksL, WS.add_nil]
 have z3 : (((hdX s).add (paL s s.np)).add (tksL s s.nt)).add (joL s 0) = (((hdX s).add (paL s s.np)).add (tksL s s.nt)) := by rw [joL, WS.add_nil]
 have z4 : ((((hdX s).add (paL s s.np)).add (tksL s s.nt)).add (joL s s.nj)).add (shsL s 0) = ((((hdX s).add (paL s s.np)).add (tksL s s.nt)).add (joL s s.nj)) := by rw [shsL, WS.add_nil]
 refine AW.sr 1 fun K hK => ?_
 have pk_1 : _ ∧ _ ∧ _ ∧ _ ∧ _ ∧ _ ∧ _ ∧ _ ∧ _ ∧ _ ∧ _ ∧ _ ∧ _ ∧ _ := ⟨hC, hM, hp, lk_old hp, ht, lk_old ht, hj, lk_old hj, hx, lk_old hx, pl, tl, jl, xl⟩
 simp only [push_cast, simprocAttr, scC, hdC, tlC, c3C, pk_1]
 apply hK;clear hK K
 refine AW.seq_k fun K hK => ?_
 refine AW.sr 2 fun K hK => ?_
 simp only [push_cast, simprocAttr, scC, hdC, tlC, c3C, pk_1]
 refine CThen.by (cchk_c s R _ (hR.app _)) ?_
 simp only [push_cast, simprocAttr, scC, hdC, tlC, c3C, pk_1]
 apply hK;clear hK K
 refine AW.cond_f rfl ?_
 refine AW.skip ?_
 apply hK;clear hK K
 refine AW.sr 1 fun K hK => ?_
 simp only [push_cast, simprocAttr, scC, hdC, tlC, c3C, pk_1]
 refine CThen.by (wnew_c _) ?_
 simp only [push_cast, simprocAttr, scC, hdC, tlC, c3C, pk_1]
 apply hK;clear hK K
 refine AW.seq_k fun K hK => ?_
 refine AW.nilCell 5 1 (m.length + 1) 0 (by simp only [push_cast, simprocAttr]; first | done | rfl) (by intro e; cases e) rfl ?_
 try simp only [push_cast, simprocAttr]
 refine AW.sr 1 fun K hK => ?_
 simp only [push_cast, simprocAttr, scC, hdC, tlC, c3C, pk_1]
 apply hK;clear hK K
 refine AW.block ?_
 refine AW.rounds 5 ?_
 refine ARounds.succ fun K hK => ?_
 refine AW.sr 1 fun K hK => ?_
 simp only [push_cast, simprocAttr, scC, hdC, tlC, c3C, pk_1]
 apply hK;clear hK K
 refine AW.ifT rfl ?_
 refine AW.seq_k fun K hK => ?_
 refine AW.block ?_
 refine AW.sr 1 fun K hK => ?_
 simp only [push_cast, simprocAttr, scC, hdC, tlC, c3C, pk_1]
 apply hK;clear hK K
 refine AW.rg ?_
 simp only [push_cast, simprocAttr, scC, hdC, tlC, c3C, pk_1]
 refine CThen.by (wbyte_c (m.length + 1) (m.length + 3) ⟨[], 0⟩ (m.length + 5) 0 1 (fun _ => 90) _ (hAt _ _ _ ⟨[], 0⟩) ⟨.grow, 1, by rw [lk_app]; rfl⟩ (by decide) (by decide)) ?_
 simp only [push_cast, simprocAttr, scC, hdC, tlC, c3C, pk_1]
 refine InB_n ?_
 apply hK;clear hK K
 refine AW.rg ?_
 simp only [push_cast, simprocAttr, scC, hdC, tlC, c3C, pk_1]
 apply hK;clear hK K
 refine ARounds.succ fun K hK => ?_
 refine AW.sr 1 fun K hK => ?_
 simp only [push_cast, simprocAttr, scC, hdC, tlC, c3C, pk_1]
 apply hK;clear hK K
 refine AW.ifT rfl ?_
 refine AW.seq_k fun K hK => ?_
 refine AW.block ?_
 refine AW.sr 1 fun K hK => ?_
 simp only [push_cast, simprocAttr, scC, hdC, tlC, c3C, pk_1]
 apply hK;clear hK K
 refine AW.rg ?_
 simp only [push_cast, simprocAttr, scC, hdC, tlC, c3C, pk_1]
 refine CThen.by (wbyte_c (m.length + 1) (m.length + 3) (WS.add ⟨[], 0⟩ (catL 1 (fun _ => 90) 1)) (m.length + 6) 0 1 (fun _ => 79) _ (hAt _ _ _ (WS.add ⟨[], 0⟩ (catL 1 (fun _ => 90) 1))) ⟨.grow, 1, by rw [lk_app]; rfl⟩ (by decide) (by decide)) ?_
 simp only [push_cast, simprocAttr, scC, hdC, tlC, c3C, pk_1]
 refine InB_n ?_
 apply hK;clear hK K
 refine AW.rg ?_
 simp only [push_cast, simprocAttr, scC, hdC, tlC, c3C, pk_1]
 apply hK;clear hK K
 refine ARounds.succ fun K hK => ?_
 refine AW.sr 1 fun K hK => ?_
 simp only [push_cast, simprocAttr, scC, hdC, tlC, c3C, pk_1]
 apply hK;clear hK K
 refine AW.ifT rfl ?_
 refine AW.seq_k fun K hK => ?_
 refine AW.block ?_
 refine AW.sr 1 fun K hK => ?_
 simp only [push_cast, simprocAttr, scC, hdC, tlC, c3C, pk_1]
 apply hK;clear hK K
 refine AW.rg ?_
 simp only [push_cast, simprocAttr, scC, hdC, tlC, c3C, pk_1]
 refine CThen.by (wbyte_c (m.length + 1) (m.length + 3) (WS.add (WS.add ⟨[], 0⟩ (catL 1 (fun _ => 90) 1)) (catL 1 (fun _ => 79) 1)) (m.length + 7) 0 1 (fun _ => 69) _ (hAt _ _ _ (WS.add (WS.add ⟨[], 0⟩ (catL 1 (fun _ => 90) 1)) (catL 1 (fun _ => 79) 1))) ⟨.grow, 1, by rw [lk_app]; rfl⟩ (by decide) (by decide)) ?_
 simp only [push_cast, simprocAttr, scC, hdC, tlC, c3C, pk_1]
 refine InB_n ?_
 apply hK;clear hK K
 refine AW.rg ?_
 simp only [push_cast, simprocAttr, scC, hdC, tlC, c3C, pk_1]
 apply hK;clear hK K
 refine ARounds.succ fun K hK => ?_
 refine AW.sr 1 fun K hK => ?_
 simp only [push_cast, simprocAttr, scC, hdC, tlC, c3C, pk_1]
 apply hK;clear hK K
 refine AW.ifT rfl ?_
 refine AW.seq_k fun K hK => ?_
 refine AW.block ?_
 refine AW.sr 1 fun K hK => ?_
 simp only [push_cast, simprocAttr, scC, hdC, tlC, c3C, pk_1]
 apply hK;clear hK K
 refine AW.rg ?_
 simp only [push_cast, simprocAttr, scC, hdC, tlC, c3C, pk_1]
 refine CThen.by (wbyte_c (m.length + 1) (m.length + 3) (WS.add (WS.add (WS.add ⟨[], 0⟩ (catL 1 (fun _ => 90) 1)) (catL 1 (fun _ => 79) 1)) (catL 1 (fun _ => 69) 1)) (m.length + 8) 0 1 (fun _ => 49) _ (hAt _ _ _ (WS.add (WS.add (WS.add ⟨[], 0⟩ (catL 1 (fun _ => 90) 1)) (catL 1 (fun _ => 79) 1)) (catL 1 (fun _ => 69) 1))) ⟨.grow, 1, by rw [lk_app]; rfl⟩ (by decide) (by decide)) ?_
 simp only [push_cast, simprocAttr, scC, hdC, tlC, c3C, pk_1]
 refine InB_n ?_
 apply hK;clear hK K
 refine AW.rg ?_
 simp only [push_cast, simprocAttr, scC, hdC, tlC, c3C, pk_1]
 apply hK;clear hK K
 refine ARounds.succ fun K hK => ?_
 refine AW.sr 1 fun K hK => ?_
 simp only [push_cast, simprocAttr, scC, hdC, tlC, c3C, pk_1]
 apply hK;clear hK K
 refine AW.seq_k fun K hK => ?_
 refine AW.cond_f rfl ?_
 refine AW.exit ?_
 refine Thn_e ?_
 clear hK K
 refine Thn_e ?_
 clear hK K
 refine InB_here ?_
 apply hK;clear hK K
 refine AW.sr 2 fun K hK => ?_
 simp only [push_cast, simprocAttr, scC, hdC, tlC, c3C, pk_1]
 refine CThen.by (jhd_c (m.length + 1) (m.length + 3)  mgX s R _ (hAt _ _ _ mgX) (by rw [mgX_len]; decide) hsd) ?_
 simp only [push_cast, simprocAttr, scC, hdC, tlC, c3C, pk_1]
 refine CThen.by (wbyte_c (m.length + 1) (m.length + 3)  (mgX.add (hdL s)) (m.length + 9) 0 4 (f4 (s.np : Int) (s.nt : Int) (s.nj : Int) (s.nx : Int)) _ (hAt _ _ _ _) ⟨.grow, 1, by rw [lk_app]; rfl⟩ (by decide) (by simp only [WS.add, List.length_append, hdL_len, mgX_len]; decide)) ?_
 simp only [push_cast, simprocAttr, scC, hdC, tlC, c3C, pk_1]
 apply hK;clear hK K
 refine AW.seq_k fun K hK => ?_
 refine AW.sr 1 fun K hK => ?_
 simp only [push_cast, simprocAttr, scC, hdC, tlC, c3C, pk_1]
 apply hK;clear hK K
 refine AW.block ?_
 refine AW.loopK [1, 6, 61, 62] (fun i => i ≤ s.np) (fun i => [(63, .one (.int .i64 (i : Int)))]) (fun i => [(m.length + 1, wA (m.length + 3) ((hdX s).add (paL s i))), (m.length + 3, wB ((hdX s).add (paL s i)))]) (fun i => s.np - i) 0 (by omega) ?_ ?_ fun i hi14 => ?_
 · first | rfl | (simp only [KS, simprocAttr, Int.natCast_zero] <;> repeat' (first | rfl | apply And.intro))
 · simp only [setAll, push_cast, simprocAttr, z1] <;> rfl
 try simp only [keepL, setAll, push_cast, simprocAttr, scC, hdC, tlC, c3C, pk_1]
 refine AW.sr 1 fun K hK => ?_
 simp only [push_cast, simprocAttr, scC, hdC, tlC, c3C, pk_1]
 apply hK;clear hK K
 refine AW.seq_k fun K hK => ?_
 refine AW.cond rfl (fun h64 => ?_) (fun h64 => ?_)
 ·have hlt : i < s.np := by have := of_decide_eq_true h64; omega
  have c1 : (0 : Int) ≤ (i : Int) := by omega
  have c2 : (i : Int) < (s.np : Int) := by omega
  have c3 : i * 5 + 5 ≤ s.np * 5 := by omega
  have ga := catC_at (w := 5) (F := pC s) (fun _ => rfl) hlt
  have gk : pC s i = [.int .i64 (s.pk i), .int .i64 (s.pc i 0), .int .i64 (s.pc i 1), .int .i64 (s.pc i 2), .int .i64 (s.pr i)] := rfl
  refine AW.skip ?_
  apply hK;clear hK K
  refine AW.seq_k fun K hK => ?_
  refine AW.block ?_
  refine AW.sr 3 fun K hK => ?_
  have pk_2 : _ ∧ _ ∧ _ ∧ _ ∧ _ ∧ _ ∧ _ := ⟨pk_1, c1, c2, c3, ga, gk, hlt⟩
  simp only [push_cast, simprocAttr, scC, hdC, tlC, c3C, pk_2]
  refine CThen.by (wbyte_c (m.length + 1) (m.length + 3)  ((hdX s).add (paL s i)) (m.length + 11) 0 1 (fun _ => s.pk i) _ (hAt _ _ _ _) ⟨.grow, 1, by rw [lk_app]; rfl⟩ (by decide) (by simp only [WS.add, List.length_append, catL_len, vecL_len, numW_len, paL_len, tksL_len, joL_len, shsL_len]; rw [show (hdX s).bs.length = 55 from hdX_len s]; omega)) ?_
  simp only [push_cast, simprocAttr, scC, hdC, tlC, c3C, pk_2]
  refine CThen.by (whue_c (m.length + 1) (m.length + 3)  (((hdX s).add (paL s i)).add (catL 1 (fun _ => s.pk i) 1)) (m.length + 12) 0 1 (fun _ => s.pc i) _ (hAt _ _ _ _) ⟨.grow, 3, by rw [lk_app]; rfl⟩ (by decide) (by simp only [WS.add, List.length_append, catL_len, vecL_len, numW_len, paL_len, tksL_len, joL_len, shsL_len]; rw [show (hdX s).bs.length = 55 from hdX_len s]; omega)) ?_
  simp only [push_cast, simprocAttr, scC, hdC, tlC, c3C, pk_2]
  apply hK;clear hK K
  refine AW.rg ?_
  simp only [push_cast, simprocAttr, scC, hdC, tlC, c3C, pk_2]
  refine CThen.by (wfix_c (m.length + 1) (m.length + 3)  ((((hdX s).add (paL s i)).add (catL 1 (fun _ => s.pk i) 1)).add (vecL (fun _ => s.pc i) 1)) (m.length + 13) 0 1 (fun _ => s.pr i) _ (hAt _ _ _ _) ⟨.grow, 1, by rw [lk_app]; rfl⟩ (by decide) (by simp only [WS.add, List.length_append, catL_len, vecL_len, numW_len, paL_len, tksL_len, joL_len, shsL_len]; rw [show (hdX s).bs.length = 55 from hdX_len s]; omega)) ?_
  simp only [push_cast, simprocAttr, scC, hdC, tlC, c3C, pk_2]
  refine InB_n ?_
  apply hK;clear hK K
  refine AW.rg ?_
  simp only [push_cast, simprocAttr, scC, hdC, tlC, c3C, pk_2]
  refine Thn_n ?_
  have hwi : IntKind.i64.wrap ((i:Int)+1) = (i:Int)+1 := wi (by omega)
  have hnx : (((((hdX s).add (paL s i)).add (catL 1 (fun _ => s.pk i) 1)).add (vecL (fun _ => s.pc i) 1)).add (catL 5 (fun _ => s.pr i) 1)) = ((hdX s).add (paL s (i + 1))) := by simp only [WS.add_add, paL, List.append_assoc]
  refine ⟨i + 1, by omega, by omega, ?_⟩
  try simp only [keepL, setAll, push_cast, simprocAttr, scC, hdC, tlC, c3C, pk_2, hwi, hnx]
  exact Weak.to (extra := [_, _, _, _]) (by simp only [KS, simprocAttr, hwi, hnx]) (by first | rfl | (simp only [List.append_assoc, List.cons_append, List.nil_append]; rfl)) (by first | rfl | (simp [AV.below, CV.below]; done) | (simp [AV.below, CV.below]; omega)) (by exact MWf.app (hwf.grow (by simp)) (MWf_cons (hR.bel _ (by simp)) (MWf_cons (by simp [wA, CV.below]) (MWf_cons (by simp [CV.below]) (MWf_cons (u8l_below _ _) (MWf_cons rfl (MWf_cons rfl (MWf_cons rfl (MWf_cons rfl (MWf_cons rfl (MWf_cons rfl MWf_nil)))))))))))
 ·have hin : i = s.np := by have := of_decide_eq_false h64; omega
  rw [hin]
  refine AW.exit ?_
  refine Thn_e ?_
  clear hK K
  refine Thn_e ?_
  refine InB_here ?_
  apply hK;clear hK K
  refine AW.seq_k fun K hK => ?_
  refine AW.sr 1 fun K hK => ?_
  simp only [push_cast, simprocAttr, scC, hdC, tlC, c3C, pk_1]
  apply hK;clear hK K
  refine AW.block ?_
  refine AW.loopK [1, 6, 87, 88] (fun i => i ≤ s.nt) (fun i => [(89, .one (.int .i64 (i : Int)))]) (fun i => [(m.length + 1, wA (m.length + 3) (((hdX s).add (paL s s.np)).add (tksL s i))), (m.length + 3, wB (((hdX s).add (paL s s.np)).add (tksL s i)))]) (fun i => s.nt - i) 0 (by omega) ?_ ?_ fun i hi18 => ?_
  · first | rfl | (simp only [KS, simprocAttr, Int.natCast_zero] <;> repeat' (first | rfl | apply And.intro))
  · simp only [setAll, push_cast, simprocAttr, z2] <;> rfl
  try simp only [keepL, setAll, push_cast, simprocAttr, scC, hdC, tlC, c3C, pk_1]
  refine AW.sr 1 fun K hK => ?_
  simp only [push_cast, simprocAttr, scC, hdC, tlC, c3C, pk_1]
  apply hK;clear hK K
  refine AW.seq_k fun K hK => ?_
  refine AW.cond rfl (fun h90 => ?_) (fun h90 => ?_)
  ·have hlt : i < s.nt := by have := of_decide_eq_true h90; omega
   have c1 : (0 : Int) ≤ (i : Int) := by omega
   have c2 : (i : Int) < (s.nt : Int) := by omega
   have c3 : i * 2 + 2 ≤ s.nt * 2 := by omega
   have ga := catC_at (w := 2) (F := tC s R) (fun _ => rfl) hlt
   have gk : tC s R i = [.int .i64 (s.tw i), .sl (R.k i) (R.vk i) 0 (s.kn i)] := rfl
   obtain ⟨kk, ek, hky⟩ := hR.hk i hlt
   have hkn := hG.kn hlt
   refine AW.skip ?_
   apply hK;clear hK K
   refine AW.seq_k fun K hK => ?_
   refine AW.block ?_
   refine AW.sr 1 fun K hK => ?_
   have pk_3 : _ ∧ _ ∧ _ ∧ _ ∧ _ ∧ _ ∧ _ := ⟨pk_1, c1, c2, c3, ga, gk, hlt⟩
   simp only [push_cast, simprocAttr, scC, hdC, tlC, c3C, pk_3]
   apply hK;clear hK K
   refine AW.rg ?_
   simp only [push_cast, simprocAttr, scC, hdC, tlC, c3C, pk_3]
   refine CThen.by (jtr_c (m.length + 1) (m.length + 3)  (((hdX s).add (paL s s.np)).add (tksL s i)) (s.tw i) (R.k i) (R.vk i) (s.kn i) (s.kt i) (s.kv i) _ (hAt _ _ _ _) (by simp only [WS.add, List.length_append, catL_len, vecL_len, numW_len, paL_len, tksL_len, joL_len, shsL_len]; rw [show (hdX s).bs.length = 55 from hdX_len s]; have := knS_le hG i (by omega); omega) ⟨kk, ek, lk_old hky _⟩ (by omega)) ?_
   simp only [push_cast, simprocAttr, scC, hdC, tlC, c3C, pk_3]
   refine InB_n ?_
   apply hK;clear hK K
   refine AW.rg ?_
   simp only [push_cast, simprocAttr, scC, hdC, tlC, c3C, pk_3]
   refine Thn_n ?_
   have hwi : IntKind.i64.wrap ((i:Int)+1) = (i:Int)+1 := wi (by omega)
   have hnx : (((hdX s).add (paL s s.np)).add (tksL s i)).add (trL (s.tw i) (s.kn i) (s.kt i) (s.kv i)) = (((hdX s).add (paL s s.np)).add (tksL s (i + 1))) := by rw [WS.add_add, tksL]
   refine ⟨i + 1, by omega, by omega, ?_⟩
   try simp only [keepL, setAll, push_cast, simprocAttr, scC, hdC, tlC, c3C, pk_3, hwi, hnx]
   exact Weak.to (extra := [_]) (by simp only [KS, simprocAttr, hwi, hnx]) (by first | rfl | (simp only [List.append_assoc, List.cons_append, List.nil_append]; rfl)) (by first | rfl | (simp [AV.below, CV.below]; done) | (simp [AV.below, CV.below]; omega)) (by exact MWf.app (hwf.grow (by simp)) (MWf_cons (hR.bel _ (by simp)) (MWf_cons (by simp [wA, CV.below]) (MWf_cons (by simp [CV.below]) (MWf_cons (u8l_below _ _) (MWf_cons rfl (MWf_cons rfl (MWf_cons rfl (MWf_cons rfl (MWf_cons rfl (MWf_cons rfl MWf_nil)))))))))))
  ·have hin : i = s.nt := by have := of_decide_eq_false h90; omega
   rw [hin]
   refine AW.exit ?_
   refine Thn_e ?_
   clear hK K
   refine Thn_e ?_
   refine InB_here ?_
   apply hK;clear hK K
   refine AW.seq_k fun K hK => ?_
   refine AW.sr 1 fun K hK => ?_
   simp only [push_cast, simprocAttr, scC, hdC, tlC, c3C, pk_1]
   apply hK;clear hK K
   refine AW.block ?_
   refine AW.loopK [1, 6, 98, 99] (fun i => i ≤ s.nj) (fun i => [(100, .one (.int .i64 (i : Int)))]) (fun i => [(m.length + 1, wA (m.length + 3) ((((hdX s).add (paL s s.np)).add (tksL s s.nt)).add (joL s i))), (m.length + 3, wB ((((hdX s).add (paL s s.np)).add (tksL s s.nt)).add (joL s i)))]) (fun i => s.nj - i) 0 (by omega) ?_ ?_ fun i hi22 => ?_
   · first | rfl | (simp only [KS, simprocAttr, Int.natCast_zero] <;> repeat' (first | rfl | apply And.intro))
   · simp only [setAll, push_cast, simprocAttr, z3] <;> rfl
   try simp only [keepL, setAll, push_cast, simprocAttr, scC, hdC, tlC, c3C, pk_1]
   refine AW.sr 1 fun K hK => ?_
   simp only [push_cast, simprocAttr, scC, hdC, tlC, c3C, pk_1]
   apply hK;clear hK K
   refine AW.seq_k fun K hK => ?_
   refine AW.cond rfl (fun h101 => ?_) (fun h101 => ?_)
   ·have hlt : i < s.nj := by have := of_decide_eq_true h101; omega
    have c1 : (0 : Int) ≤ (i : Int) := by omega
    have c2 : (i : Int) < (s.nj : Int) := by omega
    have c3 : i * 4 + 4 ≤ s.nj * 4 := by omega
    have ga := catC_at (w := 4) (F := jC s) (fun _ => rfl) hlt
    have gk : jC s i = [.int .i64 (s.jp i), .int .i64 (s.jm i), .int .i64 (s.jt i), .int .i64 (s.js i)] := rfl
    refine AW.skip ?_
    apply hK;clear hK K
    refine AW.seq_k fun K hK => ?_
    refine AW.block ?_
    refine AW.sr 2 fun K hK => ?_
    have pk_4 : _ ∧ _ ∧ _ ∧ _ ∧ _ ∧ _ ∧ _ := ⟨pk_1, c1, c2, c3, ga, gk, hlt⟩
    simp only [push_cast, simprocAttr, scC, hdC, tlC, c3C, pk_4]
    refine CThen.by (whalf_c (m.length + 1) (m.length + 3)  ((((hdX s).add (paL s s.np)).add (tksL s s.nt)).add (joL s i)) (m.length + 11) 0 3 (f3 (s.jp i) (s.jm i) (s.jt i)) _ (hAt _ _ _ _) ⟨.grow, 1, by rw [lk_app]; rfl⟩ (by decide) (by simp only [WS.add, List.length_append, catL_len, vecL_len, numW_len, paL_len, tksL_len, joL_len, shsL_len]; rw [show (hdX s).bs.length = 55 from hdX_len s]; have := knS_le hG s.nt (Nat.le_refl _); omega)) ?_
    simp only [push_cast, simprocAttr, scC, hdC, tlC, c3C, pk_4]
    apply hK;clear hK K
    refine AW.rg ?_
    simp only [push_cast, simprocAttr, scC, hdC, tlC, c3C, pk_4]
    refine CThen.by (wfix_c (m.length + 1) (m.length + 3)  (((((hdX s).add (paL s s.np)).add (tksL s s.nt)).add (joL s i)).add (catL 2 (f3 (s.jp i) (s.jm i) (s.jt i)) 3)) (m.length + 12) 0 1 (fun _ => s.js i) _ (hAt _ _ _ _) ⟨.grow, 1, by rw [lk_app]; rfl⟩ (by decide) (by simp only [WS.add, List.length_append, catL_len, vecL_len, numW_len, paL_len, tksL_len, joL_len, shsL_len]; rw [show (hdX s).bs.length = 55 from hdX_len s]; have := knS_le hG s.nt (Nat.le_refl _); omega)) ?_
    simp only [push_cast, simprocAttr, scC, hdC, tlC, c3C, pk_4]
    refine InB_n ?_
    apply hK;clear hK K
    refine AW.rg ?_
    simp only [push_cast, simprocAttr, scC, hdC, tlC, c3C, pk_4]
    refine Thn_n ?_
    have hwi : IntKind.i64.wrap ((i:Int)+1) = (i:Int)+1 := wi (by omega)
    have hnx : ((((((hdX s).add (paL s s.np)).add (tksL s s.nt)).add (joL s i)).add (catL 2 (f3 (s.jp i) (s.jm i) (s.jt i)) 3)).add (catL 5 (fun _ => s.js i) 1)) = ((((hdX s).add (paL s s.np)).add (tksL s s.nt)).add (joL s (i + 1))) := by simp only [WS.add_add, joL, List.append_assoc]
    refine ⟨i + 1, by omega, by omega, ?_⟩
    try simp only [keepL, setAll, push_cast, simprocAttr, scC, hdC, tlC, c3C, pk_4, hwi, hnx]
    exact Weak.to (extra := [_, _, _]) (by simp only [KS, simprocAttr, hwi, hnx]) (by first | rfl | (simp only [List.append_assoc, List.cons_append, List.nil_append]; rfl)) (by first | rfl | (simp [AV.below, CV.below]; done) | (simp [AV.below, CV.below]; omega)) (by exact MWf.app (hwf.grow (by simp)) (MWf_cons (hR.bel _ (by simp)) (MWf_cons (by simp [wA, CV.below]) (MWf_cons (by simp [CV.below]) (MWf_cons (u8l_below _ _) (MWf_cons rfl (MWf_cons rfl (MWf_cons rfl (MWf_cons rfl (MWf_cons rfl (MWf_cons rfl MWf_nil)))))))))))
   ·have hin : i = s.nj := by have := of_decide_eq_false h101; omega
    rw [hin]
    refine AW.exit ?_
    refine Thn_e ?_
    clear hK K
    refine Thn_e ?_
    refine InB_here ?_
    apply hK;clear hK K
    refine AW.seq_k fun K hK => ?_
    refine AW.sr 1 fun K hK => ?_
    simp only [push_cast, simprocAttr, scC, hdC, tlC, c3C, pk_1]
    apply hK;clear hK K
    refine AW.block ?_
    refine AW.loopK [6, 122, 123] (fun i => i ≤ s.nx) (fun i => [(124, .one (.int .i64 (i : Int)))]) (fun i => [(m.length + 1, wA (m.length + 3) (((((hdX s).add (paL s s.np)).add (tksL s s.nt)).add (joL s s.nj)).add (shsL s i))), (m.length + 3, wB (((((hdX s).add (paL s s.np)).add (tksL s s.nt)).add (joL s s.nj)).add (shsL s i)))]) (fun i => s.nx - i) 0 (by omega) ?_ ?_ fun i hi26 => ?_
    · first | rfl | (simp only [KS, simprocAttr, Int.natCast_zero] <;> repeat' (first | rfl | apply And.intro))
    · simp only [setAll, push_cast, simprocAttr, z4] <;> rfl
    try simp only [keepL, setAll, push_cast, simprocAttr, scC, hdC, tlC, c3C, pk_1]
    refine AW.sr 1 fun K hK => ?_
    simp only [push_cast, simprocAttr, scC, hdC, tlC, c3C, pk_1]
    apply hK;clear hK K
    refine AW.seq_k fun K hK => ?_
    refine AW.cond rfl (fun h125 => ?_) (fun h125 => ?_)
    ·have hlt : i < s.nx := by have := of_decide_eq_true h125; omega
     have c1 : (0 : Int) ≤ (i : Int) := by omega
     have c2 : (i : Int) < (s.nx : Int) := by omega
     have c3 : i * 13 + 13 ≤ s.nx * 13 := by omega
     have ga := catC_at (w := 13) (F := xC s) (fun _ => rfl) hlt
     have gk : xC s i = [.int .i64 (s.xj i), .int .i64 (s.xp i), .int .i64 (s.xk i), .int .i64 (s.xv i 0 0), .int .i64 (s.xv i 0 1), .int .i64 (s.xv i 0 2), .int .i64 (s.xv i 1 0), .int .i64 (s.xv i 1 1), .int .i64 (s.xv i 1 2), .int .i64 (s.xv i 2 0), .int .i64 (s.xv i 2 1), .int .i64 (s.xv i 2 2), .int .i64 (s.xr i)] := rfl
     refine AW.skip ?_
     apply hK;clear hK K
     refine AW.seq_k fun K hK => ?_
     refine AW.block ?_
     refine AW.sr 1 fun K hK => ?_
     have pk_5 : _ ∧ _ ∧ _ ∧ _ ∧ _ ∧ _ ∧ _ := ⟨pk_1, c1, c2, c3, ga, gk, hlt⟩
     simp only [push_cast, simprocAttr, scC, hdC, tlC, c3C, pk_5]
     apply hK;clear hK K
     refine AW.rg ?_
     simp only [push_cast, simprocAttr, scC, hdC, tlC, c3C, pk_5]
     refine CThen.by (jsh_c (m.length + 1) (m.length + 3)  (((((hdX s).add (paL s s.np)).add (tksL s s.nt)).add (joL s s.nj)).add (shsL s i)) s i _ (hAt _ _ _ _) (by simp only [WS.add, List.length_append, catL_len, vecL_len, numW_len, paL_len, tksL_len, joL_len, shsL_len]; rw [show (hdX s).bs.length = 55 from hdX_len s]; have := knS_le hG s.nt (Nat.le_refl _); have := shN'_le s i; omega)) ?_
     simp only [push_cast, simprocAttr, scC, hdC, tlC, c3C, pk_5]
     refine InB_n ?_
     apply hK;clear hK K
     refine AW.rg ?_
     simp only [push_cast, simprocAttr, scC, hdC, tlC, c3C, pk_5]
     refine Thn_n ?_
     have hwi : IntKind.i64.wrap ((i:Int)+1) = (i:Int)+1 := wi (by omega)
     have hnx : (((((hdX s).add (paL s s.np)).add (tksL s s.nt)).add (joL s s.nj)).add (shsL s i)).add (shL s i) = (((((hdX s).add (paL s s.np)).add (tksL s s.nt)).add (joL s s.nj)).add (shsL s (i + 1))) := by rw [WS.add_add, shsL]
     refine ⟨i + 1, by omega, by omega, ?_⟩
     try simp only [keepL, setAll, push_cast, simprocAttr, scC, hdC, tlC, c3C, pk_5, hwi, hnx]
     exact Weak.to (extra := [_]) (by simp only [KS, simprocAttr, hwi, hnx]) (by first | rfl | (simp only [List.append_assoc, List.cons_append, List.nil_append]; rfl)) (by first | rfl | (simp [AV.below, CV.below]; done) | (simp [AV.below, CV.below]; omega)) (by exact MWf.app (hwf.grow (by simp)) (MWf_cons (hR.bel _ (by simp)) (MWf_cons (by simp [wA, CV.below]) (MWf_cons (by simp [CV.below]) (MWf_cons (u8l_below _ _) (MWf_cons rfl (MWf_cons rfl (MWf_cons rfl (MWf_cons rfl (MWf_cons rfl (MWf_cons rfl MWf_nil)))))))))))
    ·have hin : i = s.nx := by have := of_decide_eq_false h125; omega
     rw [hin]
     refine AW.exit ?_
     refine Thn_e ?_
     clear hK K
     refine Thn_e ?_
     refine InB_here ?_
     apply hK;clear hK K
     refine AW.sr 1 fun K hK => ?_
     simp only [push_cast, simprocAttr, scC, hdC, tlC, c3C, pk_1]
     refine CThen.by (wbytes_c (m.length + 1) (m.length + 3)  (encX s) _ (hAt _ _ _ _) (by rw [encX_len]; have := knS_le hG s.nt (Nat.le_refl _); have := shN'_le s s.nx; omega)) ?_
     simp only [push_cast, simprocAttr, scC, hdC, tlC, c3C, pk_1]
     apply hK;clear hK K
     refine AW.ret ?_
     refine hQ _ _ _ ?_
     refine RetP.pick [(m.length + 10, 0)] (by first | exact Or.inr rfl | exact Or.inl rfl) ?_ ?_ ?_ hwf ?_
     · simp only [resA, resOne, resTv, AV.tv, push_cast, simprocAttr]
       simp [renV, renT, renL, renC, renIdx, hlt0]
     · simp only [picks, push_cast, simprocAttr]
     · simp [distinctFrom]
     · exact MWf_one (u8l_below _ _)
theorem wrap256 {x : Int} : IntKind.u8.wrap (x % 256) = IntKind.u8.wrap x := by rw [IntKind.wrap_u8, IntKind.wrap_u8]; omega
theorem w8_64 (x : Int) : IntKind.u8.wrap (IntKind.u64.wrap x) = IntKind.u8.wrap x := by rw [IntKind.wrap_u8, IntKind.wrap_u8, IntKind.wrap_u64]; omega
theorem num_c (m : AMem) (r v : Nat) (bs : List Int) (hp : ∃ k ez, m[r]? = some ⟨k, 5, v, ez, u8l bs⟩) (hb0 : bs.length ≤ 50000000000) (n : Int) (s : Nat) (hn : 0 ≤ n) (hn2 : n ≤ 18446744073709551615) (hs : s ≤ 1000) : Ctr Tryz.prog 97 [.one (.sl r v 0 bs.length), .one (.int .u64 n), .one (.int .i64 (s : Int))] m (.one (.sl m.length 0 0 (bs ++ numW n s).length)) (m ++ [⟨.grow, 5, 0, 1, u8l (bs ++ numW n s)⟩]) := by
 refine Ctr.enter Tryz.func97 rfl (by decide) (rs := [.tmp 6]) (nt := 26) rfl rfl fun hwf Q hQ => ?_
 obtain ⟨k0, ez, hb⟩ := hp
 have tk : (u8l bs).take bs.length = u8l bs := List.take_of_length_le (by rw [u8l_len]; exact Nat.le_refl _)
 have q0 : bs.length ≤ 140737488355328 := by omega
 have vv := u8l_vals bs
 have hlt0 : ∀ k, ¬ m.length + k < m.length := fun k => by omega
 have hnil : u8l ([] : List Int) = [] := rfl
 refine AW.sr 2 fun K hK => ?_
 have pk_1 : _ ∧ _ ∧ _ ∧ _ ∧ _ := ⟨hb, lk_old hb, tk, q0, vv⟩
 simp only [push_cast, simprocAttr, u8l_len, Nat.le_refl, pk_1]
 apply hK;clear hK K
 refine AW.seq_k fun K hK => ?_
 refine AW.sr 1 fun K hK => ?_
 simp only [push_cast, simprocAttr, u8l_len, Nat.le_refl, pk_1]
 apply hK;clear hK K
 refine AW.block ?_
 refine AW.loopK [2] (fun j => j ≤ s) (fun j => [(1, .one (.int .u64 (shN n j))), (7, .one (.sl m.length (1 + j) 0 (bs.length + j))), (8, .one (.int .i64 (j : Int)))]) (fun j => [(m.length, ⟨.grow, 5, 1 + j, 1, u8l (bs ++ numW n j)⟩)]) (fun j => s - j) 0 (by omega) ?_ ?_ fun j hi2 => ?_
 · first | rfl | (simp only [KS, simprocAttr, shN, numW, List.append_nil, hnil, Int.natCast_zero] <;> repeat' (first | rfl | apply And.intro))
 · first | rfl | (simp only [setAll, push_cast, simprocAttr, u8l_len, Nat.le_refl, pk_1, shN, numW, List.append_nil, hnil, Int.natCast_zero] <;> rfl)
 try simp only [keepL, setAll, push_cast, simprocAttr, u8l_len, Nat.le_refl, pk_1]
 refine AW.seq_k fun K hK => ?_
 refine AW.sr 1 fun K hK => ?_
 simp only [push_cast, simprocAttr, u8l_len, Nat.le_refl, pk_1]
 apply hK;clear hK K
 refine AW.cond rfl (fun h14 => ?_) (fun h14 => ?_)
 ·have hlt : j < s := by have := of_decide_eq_true h14; omega
  have hX : (bs ++ numW n j).length = (bs.length + j) := by simp only [List.length_append, numW_len]
  have hnx : (bs ++ numW n (j + 1)) = (bs ++ numW n j) ++ [IntKind.u8.wrap (shN n j)] := by simp only [numW, List.append_assoc]
  have sh0 := shN_0 hn j
  have sh1 := shN_le hn j
  have ht : (shN n j).tmod 256 = shN n j % 256 := Int.tmod_eq_emod_of_nonneg sh0
  have hq : (shN n j).tdiv 256 = shN n j / 256 := Int.tdiv_eq_ediv_of_nonneg sh0
  have hw6 : IntKind.u64.wrap (shN n j / 256) = shN n j / 256 := by rw [IntKind.wrap_u64]; omega
  generalize (bs ++ numW n j) = X at *
  have q1 : (bs.length + j) + 1 ≤ 140737488355328 := by omega
  have q2 : (bs.length + (j + 1)) ≤ 140737488355328 := by omega
  refine AW.skip ?_
  apply hK;clear hK K
  refine AW.seq_k fun K hK => ?_
  refine AW.block ?_
  refine AW.sr 1 fun K hK => ?_
  have pk_2 : _ ∧ _ ∧ _ ∧ _ ∧ _ ∧ _ ∧ _ := ⟨pk_1, q1, q2, ht, hq, hw6, hX⟩
  simp only [push_cast, simprocAttr, u8l_len, Nat.le_refl, wrap256, pk_2]
  apply hK;clear hK K
  refine AW.rg ?_
  simp only [push_cast, simprocAttr, u8l_len, Nat.le_refl, wrap256, pk_2]
  refine InB_n ?_
  apply hK;clear hK K
  refine AW.rg ?_
  simp only [push_cast, simprocAttr, u8l_len, Nat.le_refl, wrap256, pk_2]
  refine Thn_n ?_
  have hwi : IntKind.i64.wrap ((j:Int)+1) = (j:Int)+1 := wi (by omega)
  refine ⟨j + 1, by omega, by omega, ?_⟩
  try simp only [keepL, setAll, push_cast, simprocAttr, u8l_len, Nat.le_refl, wrap256, pk_2, hwi, hnx, shN, u8l_snoc, Nat.add_assoc]
  exact Weak.to (extra := [_]) (by simp only [KS, simprocAttr, hwi, hnx, shN, u8l_snoc, Nat.add_assoc]) (by first | rfl | (simp only [List.append_assoc, List.cons_append, List.nil_append]; rfl)) (by first | rfl | (simp [AV.below, CV.below, u8l_below]; done) | (simp [AV.below, CV.below, u8l_below]; omega)) (by
    first | exact hwf | refine MWf.app (hwf.grow (by simp)) ?_
    repeat (first | exact MWf_nil | (refine MWf_cons ?_ ?_; · first | rfl | (simp [CV.below, u8l_below]; done) | (simp [CV.below, u8l_below]; omega))))
 ·have hin : s = j := by have := of_decide_eq_false h14; omega
  subst hin
  refine AW.exit ?_
  refine Thn_e ?_
  clear hK K
  refine Thn_e ?_
  refine InB_here ?_
  apply hK;clear hK K
  refine AW.sr 1 fun K hK => ?_
  simp only [push_cast, simprocAttr, u8l_len, Nat.le_refl, pk_1]
  apply hK;clear hK K
  refine AW.ret ?_
  refine hQ _ _ _ ?_
  refine RetP.pick [(m.length, 1 + s)] (by first | exact Or.inr rfl | exact Or.inl rfl) ?_ ?_ ?_ hwf ?_
  · simp only [resA, resOne, resTv, AV.tv, push_cast, simprocAttr]
    simp [renV, renT, renL, renC, renIdx, hlt0, numW_len]
  · simp only [picks, push_cast, simprocAttr]
  · simp [distinctFrom]
  · exact MWf_one (u8l_below _ _)
theorem num_k (m : AMem) (r v : Nat) (bs : List Int) (k : Nat) (hk : bs.length = k) (hp : ∃ q ez, m[r]? = some ⟨q, 5, v, ez, u8l bs⟩) (hb0 : k ≤ 50000000000) (n : Int) (s : Nat) (hn : 0 ≤ n) (hn2 : n ≤ 18446744073709551615) (hs : s ≤ 1000) : Ctr Tryz.prog 97 [.one (.sl r v 0 k), .one (.int .u64 n), .one (.int .i64 (s : Int))] m (.one (.sl m.length 0 0 (k + s))) (m ++ [⟨.grow, 5, 0, 1, u8l (bs ++ numW n s)⟩]) := by
 subst hk
 have h := num_c m r v bs hp hb0 n s hn hn2 hs
 rwa [List.length_append, numW_len] at h
theorem rvec_c (r v : Nat) (bs : List Int) (k : Nat) (hk : bs.length = k) (V : Nat → Int) (m : AMem) (hp : ∃ k ez, m[r]? = some ⟨k, 5, v, ez, u8l bs⟩) (hb0 : k ≤ 20000000000) : Ctr Tryz.prog 98 [.one (.sl r v 0 k), .agg (c3C V)] m (.one (.sl m.length 0 0 (k + 15))) (m ++ [⟨.grow, 5, 0, 1, u8l (bs ++ catL 5 V 3)⟩]) := by
 refine Ctr.enter Tryz.func98 rfl (by decide) (rs := [.tmp 4]) (nt := 17) rfl rfl fun hwf Q hQ => ?_
 obtain ⟨k0, ez, hb⟩ := hp
 have hlt0 : ∀ k, ¬ m.length + k < m.length := fun k => by omega
 have hcat : catL 5 V 3 = (numW (IntKind.u64.wrap (V 0)) 5 ++ (numW (IntKind.u64.wrap (V 1)) 5 ++ numW (IntKind.u64.wrap (V 2)) 5)) := by simp only [catL, List.nil_append, List.append_assoc]
 rw [hcat] at hQ
 refine AW.sr 1 fun K hK => ?_
 simp only [push_cast, simprocAttr, hb, lk_old hb, c3C]
 apply hK;clear hK K
 refine AW.seq_k fun K hK => ?_
 refine AW.sr 1 fun K hK => ?_
 simp only [push_cast, simprocAttr, hb, lk_old hb, c3C]
 apply hK;clear hK K
 refine AW.block ?_
 refine AW.rounds 4 ?_
 refine ARounds.succ fun K hK => ?_
 refine AW.seq_k fun K hK => ?_
 refine AW.sr 1 fun K hK => ?_
 simp only [push_cast, simprocAttr, hb, lk_old hb, c3C]
 apply hK;clear hK K
 refine AW.cond_t rfl ?_
 refine AW.skip ?_
 apply hK;clear hK K
 refine AW.seq_k fun K hK => ?_
 refine AW.block ?_
 refine AW.rg ?_
 simp only [push_cast, simprocAttr, hb, lk_old hb, c3C]
 refine CThen.by (num_k _ r v bs k hk ⟨_, _, lk_old hb _⟩ (by omega) _ 5 (u64b _).1 (u64b _).2 (by decide)) ?_
 simp only [push_cast, simprocAttr, hb, lk_old hb, c3C]
 refine InB_n ?_
 apply hK;clear hK K
 refine AW.rg ?_
 simp only [push_cast, simprocAttr, hb, lk_old hb, c3C]
 apply hK;clear hK K
 refine ARounds.succ fun K hK => ?_
 refine AW.seq_k fun K hK => ?_
 refine AW.sr 1 fun K hK => ?_
 simp only [push_cast, simprocAttr, hb, lk_old hb, c3C]
 apply hK;clear hK K
 refine AW.cond_t rfl ?_
 refine AW.skip ?_
 apply hK;clear hK K
 refine AW.seq_k fun K hK => ?_
 refine AW.block ?_
 refine AW.rg ?_
 simp only [push_cast, simprocAttr, hb, lk_old hb, c3C]
 refine CThen.by (num_k _ (m.length + 1) 0 (bs ++ numW (IntKind.u64.wrap (V 0)) 5) (k + 5) (by (simp only [List.length_append, numW_len]) <;> omega) ⟨.grow, 1, by simp only [push_cast, simprocAttr]⟩ (by omega) _ 5 (u64b _).1 (u64b _).2 (by decide)) ?_
 simp only [push_cast, simprocAttr, hb, lk_old hb, c3C]
 refine InB_n ?_
 apply hK;clear hK K
 refine AW.rg ?_
 simp only [push_cast, simprocAttr, hb, lk_old hb, c3C]
 apply hK;clear hK K
 refine ARounds.succ fun K hK => ?_
 refine AW.seq_k fun K hK => ?_
 refine AW.sr 1 fun K hK => ?_
 simp only [push_cast, simprocAttr, hb, lk_old hb, c3C]
 apply hK;clear hK K
 refine AW.cond_t rfl ?_
 refine AW.skip ?_
 apply hK;clear hK K
 refine AW.seq_k fun K hK => ?_
 refine AW.block ?_
 refine AW.rg ?_
 simp only [push_cast, simprocAttr, hb, lk_old hb, c3C]
 refine CThen.by (num_k _ (m.length + 2) 0 (bs ++ (numW (IntKind.u64.wrap (V 0)) 5 ++ numW (IntKind.u64.wrap (V 1)) 5)) (k + 10) (by (simp only [List.length_append, numW_len]) <;> omega) ⟨.grow, 1, by simp only [push_cast, simprocAttr]⟩ (by omega) _ 5 (u64b _).1 (u64b _).2 (by decide)) ?_
 simp only [push_cast, simprocAttr, hb, lk_old hb, c3C]
 refine InB_n ?_
 apply hK;clear hK K
 refine AW.rg ?_
 simp only [push_cast, simprocAttr, hb, lk_old hb, c3C]
 apply hK;clear hK K
 refine ARounds.succ fun K hK => ?_
 refine AW.seq_k fun K hK => ?_
 refine AW.sr 1 fun K hK => ?_
 simp only [push_cast, simprocAttr, hb, lk_old hb, c3C]
 apply hK;clear hK K
 refine AW.cond_f rfl ?_
 refine AW.exit ?_
 refine Thn_e ?_
 clear hK K
 refine Thn_e ?_
 clear hK K
 refine InB_here ?_
 apply hK;clear hK K
 refine AW.sr 1 fun K hK => ?_
 simp only [push_cast, simprocAttr, hb, lk_old hb, c3C]
 apply hK;clear hK K
 refine AW.ret ?_
 refine hQ _ _ _ ?_
 refine RetP.pick [(m.length + 3, 0)] (by first | exact Or.inr rfl | exact Or.inl rfl) ?_ ?_ ?_ hwf ?_
 · simp only [resA, resOne, resTv, AV.tv, push_cast, simprocAttr]
   simp [renV, renT, renL, renC, renIdx, hlt0, numW_len]
 · simp only [picks, push_cast, simprocAttr]
 · simp [distinctFrom]
 · exact MWf_one (u8l_below _ _)
def vT (s : SC) : Nat → Nat
 | 0 => 1 + s.np
 | n + 1 => vT s n + (1 + s.kn n)
theorem nW1 (x : Int) : numW (IntKind.u64.wrap x) 1 = [IntKind.u8.wrap x] := by simp only [numW, shN, List.nil_append, w8_64]
theorem hdX_bs (s : SC) : (hdX s).bs = 90 :: 79 :: 69 :: 49 :: (numW (IntKind.u64.wrap (s.w)) 2 ++ (numW (IntKind.u64.wrap (s.h)) 2 ++ (numW (IntKind.u64.wrap (s.sm)) 2 ++ (numW (IntKind.u64.wrap (s.dp)) 2 ++ (numW (IntKind.u64.wrap (s.fr)) 2 ++ (numW (IntKind.u64.wrap (s.sh)) 5 ++ (numW s.sd 8 ++ (catL 5 s.sk 3 ++ (numW (IntKind.u64.wrap (s.ey)) 2 ++ (numW (IntKind.u64.wrap (s.lk)) 2 ++ (numW (IntKind.u64.wrap (s.wd)) 5 ++ [IntKind.u8.wrap (s.np : Int), IntKind.u8.wrap (s.nt : Int), IntKind.u8.wrap (s.nj : Int), IntKind.u8.wrap (s.nx : Int)]))))))))))) := by
 simp only [hdX, mgX, WS.add, hdL, catL, vecL, nW1, List.nil_append, List.append_assoc, List.cons_append]
 rfl
theorem u8l_two (l : List Int) (a b : Int) : u8l l ++ [.int .u8 a, .int .u8 b] = u8l (l ++ [a, b]) := by simp [u8l]
theorem u8l_four (l : List Int) (a b c d : Int) : u8l l ++ [.int .u8 a, .int .u8 b, .int .u8 c, .int .u8 d] = u8l (l ++ [a, b, c, d]) := by simp [u8l]
theorem renc_c (s : SC) (R : RWs) (m : AMem) (hR : ScR 89 93 128 110 99 m s R) (hsd : 0 ≤ s.sd ∧ s.sd ≤ 18446744073709551615) (hc : (chkV s).1 = 0) : Ctr Tryz.prog 64 [.agg (scC s R)] m (.tup [(false, [.sl m.length 0 0 (encX s).bs.length]), (false, [.int .i64 0])]) (m ++ [⟨.grow, 5, 0, 1, u8l (encX s).bs⟩]) := by
 refine Ctr.enter Tryz.func64 rfl (by decide) (rs := [.tmp 2, .tmp 3]) (nt := 242) rfl rfl fun hwf Q hQ => ?_
 obtain ⟨hG, hC⟩ := chk_good hc
 have gp := hG.p
 have gt := hG.t
 have gj := hG.j
 have gx := hG.x
 obtain ⟨kp, ep, hp⟩ := hR.hp
 have lp := get_lt hp
 obtain ⟨kt, et, ht⟩ := hR.ht
 have lt := get_lt ht
 obtain ⟨kj, ej, hj⟩ := hR.hj
 have lj := get_lt hj
 obtain ⟨kx, ex, hx⟩ := hR.hx
 have lx := get_lt hx
 have pl : (catC s.np (pC s)).length = s.np * 5 := catC_len (w := 5) (F := pC s) (fun _ => rfl) _
 have tl : (catC s.nt (tC s R)).length = s.nt * 2 := catC_len (w := 2) (F := tC s R) (fun _ => rfl) _
 have jl : (catC s.nj (jC s)).length = s.nj * 4 := catC_len (w := 4) (F := jC s) (fun _ => rfl) _
 have xl : (catC s.nx (xC s)).length = s.nx * 13 := catC_len (w := 13) (F := xC s) (fun _ => rfl) _
 have hlt0 : ∀ k, ¬ m.length + k < m.length := fun k => by omega
 have hks := fun i (hi : i ≤ s.nt) => knS_le hG i hi
 have hsh := fun i => shN'_le s i
 have hk9 := hks s.nt (Nat.le_refl _)
 have hap : u8l (90 :: 79 :: 69 :: 49 :: (numW (IntKind.u64.wrap (s.w)) 2 ++ (numW (IntKind.u64.wrap (s.h)) 2 ++ (numW (IntKind.u64.wrap (s.sm)) 2 ++ (numW (IntKind.u64.wrap (s.dp)) 2 ++ (numW (IntKind.u64.wrap (s.fr)) 2 ++ (numW (IntKind.u64.wrap (s.sh)) 5 ++ (numW s.sd 8 ++ (catL 5 s.sk 3 ++ (numW (IntKind.u64.wrap (s.ey)) 2 ++ (numW (IntKind.u64.wrap (s.lk)) 2 ++ numW (IntKind.u64.wrap (s.wd)) 5))))))))))) ++ [.int .u8 (IntKind.u8.wrap (s.np : Int)), .int .u8 (IntKind.u8.wrap (s.nt : Int)), .int .u8 (IntKind.u8.wrap (s.nj : Int)), .int .u8 (IntKind.u8.wrap (s.nx : Int))] = u8l (hdX s).bs := by
   rw [u8l_four, hdX_bs]; simp only [List.append_assoc, List.cons_append]
 have hel : (encX s).bs.length = 55 + (21 * s.np + (knS s s.nt + (11 * s.nj + shN' s s.nx))) := by rw [encX_len]; omega
 have heb : (hdX s).bs ++ (paL s s.np ++ (tksL s s.nt ++ (joL s s.nj ++ shsL s s.nx))) = (encX s).bs := by simp only [encX, WS.add, List.append_assoc]
 refine AW.sr 2 fun K hK => ?_
 have pk_1 : _ ∧ _ ∧ _ ∧ _ ∧ _ ∧ _ ∧ _ ∧ _ ∧ _ ∧ _ ∧ _ ∧ _ ∧ _ ∧ _ := ⟨hC, hp, lk_old hp, ht, lk_old ht, hj, lk_old hj, hx, lk_old hx, pl, tl, jl, xl, hap⟩
 simp only [push_cast, simprocAttr, scC, hdC, tlC, c3C, u8l_len, hdX_len, paL_len, tksL_len, pk_1]
 refine CThen.by (rchk_c s R _ (hR.app _)) ?_
 simp only [push_cast, simprocAttr, scC, hdC, tlC, c3C, u8l_len, hdX_len, paL_len, tksL_len, pk_1]
 apply hK;clear hK K
 refine AW.seq_k fun K hK => ?_
 refine AW.sr 1 fun K hK => ?_
 simp only [push_cast, simprocAttr, scC, hdC, tlC, c3C, u8l_len, hdX_len, paL_len, tksL_len, pk_1]
 apply hK;clear hK K
 refine AW.cond_f rfl ?_
 refine AW.skip ?_
 apply hK;clear hK K
 refine AW.sr 2 fun K hK => ?_
 simp only [push_cast, simprocAttr, scC, hdC, tlC, c3C, u8l_len, hdX_len, paL_len, tksL_len, pk_1]
 apply hK;clear hK K
 refine AW.seq_k fun K hK => ?_
 refine AW.draw [.val, .val, .rd 0, .val, .ext, .val, .rd 0, .val, .ext, .val, .rd 0, .val, .ext, .val, .rd 0, .val, .ext, .val, .rd 0, .val, .ext, .val] fol (by decide) (by kernel_rfl) ?_
 simp only [push_cast, simprocAttr, scC, hdC, tlC, c3C, u8l_len, hdX_len, paL_len, tksL_len, pk_1]
 refine DCall.by (num_k _ (m.length + 2) 0 [90, 79, 69, 49] 4 rfl ⟨.grow, 1, by rw [lk_app]; rfl⟩ (by decide) _ 2 (u64b _).1 (u64b _).2 (by decide)) ?_
 simp only [push_cast, simprocAttr, scC, hdC, tlC, c3C, u8l_len, hdX_len, paL_len, tksL_len, pk_1]
 refine DCall.by (num_k _ (m.length + 3) 0 (90 :: 79 :: 69 :: 49 :: numW (IntKind.u64.wrap (s.w)) 2) 6 (by (simp only [List.length_append, List.length_cons, List.length_nil, numW_len, catL_len]) <;> omega) ⟨.grow, 1, by simp only [push_cast, simprocAttr]⟩ (by decide) _ 2 (u64b _).1 (u64b _).2 (by decide)) ?_
 simp only [push_cast, simprocAttr, scC, hdC, tlC, c3C, u8l_len, hdX_len, paL_len, tksL_len, pk_1]
 refine DCall.by (num_k _ (m.length + 4) 0 (90 :: 79 :: 69 :: 49 :: (numW (IntKind.u64.wrap (s.w)) 2 ++ numW (IntKind.u64.wrap (s.h)) 2)) 8 (by (simp only [List.length_append, List.length_cons, List.length_nil, numW_len, catL_len]) <;> omega) ⟨.grow, 1, by simp only [push_cast, simprocAttr]⟩ (by decide) _ 2 (u64b _).1 (u64b _).2 (by decide)) ?_
 simp only [push_cast, simprocAttr, scC, hdC, tlC, c3C, u8l_len, hdX_len, paL_len, tksL_len, pk_1]
 refine DCall.by (num_k _ (m.length + 5) 0 (90 :: 79 :: 69 :: 49 :: (numW (IntKind.u64.wrap (s.w)) 2 ++ (numW (IntKind.u64.wrap (s.h)) 2 ++ numW (IntKind.u64.wrap (s.sm)) 2))) 10 (by (simp only [List.length_append, List.length_cons, List.length_nil, numW_len, catL_len]) <;> omega) ⟨.grow, 1, by simp only [push_cast, simprocAttr]⟩ (by decide) _ 2 (u64b _).1 (u64b _).2 (by decide)) ?_
 simp only [push_cast, simprocAttr, scC, hdC, tlC, c3C, u8l_len, hdX_len, paL_len, tksL_len, pk_1]
 refine DCall.by (num_k _ (m.length + 6) 0 (90 :: 79 :: 69 :: 49 :: (numW (IntKind.u64.wrap (s.w)) 2 ++ (numW (IntKind.u64.wrap (s.h)) 2 ++ (numW (IntKind.u64.wrap (s.sm)) 2 ++ numW (IntKind.u64.wrap (s.dp)) 2)))) 12 (by (simp only [List.length_append, List.length_cons, List.length_nil, numW_len, catL_len]) <;> omega) ⟨.grow, 1, by simp only [push_cast, simprocAttr]⟩ (by decide) _ 2 (u64b _).1 (u64b _).2 (by decide)) ?_
 simp only [push_cast, simprocAttr, scC, hdC, tlC, c3C, u8l_len, hdX_len, paL_len, tksL_len, pk_1]
 apply hK;clear hK K
 refine AW.seq_k fun K hK => ?_
 refine AW.draw [.val, .val, .rd 0, .val, .ext, .val, .rd 0, .ext, .val] fol (by decide) (by kernel_rfl) ?_
 simp only [push_cast, simprocAttr, scC, hdC, tlC, c3C, u8l_len, hdX_len, paL_len, tksL_len, pk_1]
 refine DCall.by (num_k _ (m.length + 7) 0 (90 :: 79 :: 69 :: 49 :: (numW (IntKind.u64.wrap (s.w)) 2 ++ (numW (IntKind.u64.wrap (s.h)) 2 ++ (numW (IntKind.u64.wrap (s.sm)) 2 ++ (numW (IntKind.u64.wrap (s.dp)) 2 ++ numW (IntKind.u64.wrap (s.fr)) 2))))) 14 (by (simp only [List.length_append, List.length_cons, List.length_nil, numW_len, catL_len]) <;> omega) ⟨.grow, 1, by simp only [push_cast, simprocAttr]⟩ (by decide) _ 5 (u64b _).1 (u64b _).2 (by decide)) ?_
 simp only [push_cast, simprocAttr, scC, hdC, tlC, c3C, u8l_len, hdX_len, paL_len, tksL_len, pk_1]
 refine DCall.by (num_k _ (m.length + 8) 0 (90 :: 79 :: 69 :: 49 :: (numW (IntKind.u64.wrap (s.w)) 2 ++ (numW (IntKind.u64.wrap (s.h)) 2 ++ (numW (IntKind.u64.wrap (s.sm)) 2 ++ (numW (IntKind.u64.wrap (s.dp)) 2 ++ (numW (IntKind.u64.wrap (s.fr)) 2 ++ numW (IntKind.u64.wrap (s.sh)) 5)))))) 19 (by (simp only [List.length_append, List.length_cons, List.length_nil, numW_len, catL_len]) <;> omega) ⟨.grow, 1, by simp only [push_cast, simprocAttr]⟩ (by decide) _ 8 hsd.1 hsd.2 (by decide)) ?_
 simp only [push_cast, simprocAttr, scC, hdC, tlC, c3C, u8l_len, hdX_len, paL_len, tksL_len, pk_1]
 apply hK;clear hK K
 refine AW.sr 1 fun K hK => ?_
 simp only [push_cast, simprocAttr, scC, hdC, tlC, c3C, u8l_len, hdX_len, paL_len, tksL_len, pk_1]
 refine CThen.by ((by have h := fun M q1 => rvec_c (m.length + 9) 0 (90 :: 79 :: 69 :: 49 :: (numW (IntKind.u64.wrap (s.w)) 2 ++ (numW (IntKind.u64.wrap (s.h)) 2 ++ (numW (IntKind.u64.wrap (s.sm)) 2 ++ (numW (IntKind.u64.wrap (s.dp)) 2 ++ (numW (IntKind.u64.wrap (s.fr)) 2 ++ (numW (IntKind.u64.wrap (s.sh)) 5 ++ numW s.sd 8))))))) 27 (by (simp only [List.length_append, List.length_cons, List.length_nil, numW_len, catL_len]) <;> omega) s.sk M q1 (by decide); simp only [c3C] at h; exact h _ ⟨.grow, 1, by simp only [push_cast, simprocAttr]⟩)) ?_
 simp only [push_cast, simprocAttr, scC, hdC, tlC, c3C, u8l_len, hdX_len, paL_len, tksL_len, pk_1]
 apply hK;clear hK K
 refine AW.seq_k fun K hK => ?_
 refine AW.draw [.val, .val, .rd 0, .val, .ext, .val, .rd 0, .val, .ext, .val] fol (by decide) (by kernel_rfl) ?_
 simp only [push_cast, simprocAttr, scC, hdC, tlC, c3C, u8l_len, hdX_len, paL_len, tksL_len, pk_1]
 refine DCall.by (num_k _ (m.length + 10) 0 (90 :: 79 :: 69 :: 49 :: (numW (IntKind.u64.wrap (s.w)) 2 ++ (numW (IntKind.u64.wrap (s.h)) 2 ++ (numW (IntKind.u64.wrap (s.sm)) 2 ++ (numW (IntKind.u64.wrap (s.dp)) 2 ++ (numW (IntKind.u64.wrap (s.fr)) 2 ++ (numW (IntKind.u64.wrap (s.sh)) 5 ++ (numW s.sd 8 ++ catL 5 s.sk 3)))))))) 42 (by (simp only [List.length_append, List.length_cons, List.length_nil, numW_len, catL_len]) <;> omega) ⟨.grow, 1, by simp only [push_cast, simprocAttr]⟩ (by decide) _ 2 (u64b _).1 (u64b _).2 (by decide)) ?_
 simp only [push_cast, simprocAttr, scC, hdC, tlC, c3C, u8l_len, hdX_len, paL_len, tksL_len, pk_1]
 refine DCall.by (num_k _ (m.length + 11) 0 (90 :: 79 :: 69 :: 49 :: (numW (IntKind.u64.wrap (s.w)) 2 ++ (numW (IntKind.u64.wrap (s.h)) 2 ++ (numW (IntKind.u64.wrap (s.sm)) 2 ++ (numW (IntKind.u64.wrap (s.dp)) 2 ++ (numW (IntKind.u64.wrap (s.fr)) 2 ++ (numW (IntKind.u64.wrap (s.sh)) 5 ++ (numW s.sd 8 ++ (catL 5 s.sk 3 ++ numW (IntKind.u64.wrap (s.ey)) 2))))))))) 44 (by (simp only [List.length_append, List.length_cons, List.length_nil, numW_len, catL_len]) <;> omega) ⟨.grow, 1, by simp only [push_cast, simprocAttr]⟩ (by decide) _ 2 (u64b _).1 (u64b _).2 (by decide)) ?_
 simp only [push_cast, simprocAttr, scC, hdC, tlC, c3C, u8l_len, hdX_len, paL_len, tksL_len, pk_1]
 apply hK;clear hK K
 refine AW.sr 2 fun K hK => ?_
 simp only [push_cast, simprocAttr, scC, hdC, tlC, c3C, u8l_len, hdX_len, paL_len, tksL_len, pk_1]
 refine CThen.by (num_k _ (m.length + 12) 0 (90 :: 79 :: 69 :: 49 :: (numW (IntKind.u64.wrap (s.w)) 2 ++ (numW (IntKind.u64.wrap (s.h)) 2 ++ (numW (IntKind.u64.wrap (s.sm)) 2 ++ (numW (IntKind.u64.wrap (s.dp)) 2 ++ (numW (IntKind.u64.wrap (s.fr)) 2 ++ (numW (IntKind.u64.wrap (s.sh)) 5 ++ (numW s.sd 8 ++ (catL 5 s.sk 3 ++ (numW (IntKind.u64.wrap (s.ey)) 2 ++ numW (IntKind.u64.wrap (s.lk)) 2)))))))))) 46 (by (simp only [List.length_append, List.length_cons, List.length_nil, numW_len, catL_len]) <;> omega) ⟨.grow, 1, by simp only [push_cast, simprocAttr]⟩ (by decide) _ 5 (u64b _).1 (u64b _).2 (by decide)) ?_
 simp only [push_cast, simprocAttr, scC, hdC, tlC, c3C, u8l_len, hdX_len, paL_len, tksL_len, pk_1]
 apply hK;clear hK K
 refine AW.seq_k fun K hK => ?_
 refine AW.sr 1 fun K hK => ?_
 simp only [push_cast, simprocAttr, scC, hdC, tlC, c3C, u8l_len, hdX_len, paL_len, tksL_len, pk_1]
 apply hK;clear hK K
 refine AW.block ?_
 refine AW.loopK [1] (fun i => i ≤ s.np) (fun i => [(7, .one (.sl (m.length + 13) (1 + i) 0 (55 + 21 * i))), (8, .one (.int .i64 (i : Int)))]) (fun i => [(m.length + 13, ⟨.grow, 5, (1 + i), 1, u8l ((hdX s).bs ++ paL s i)⟩)]) (fun i => s.np - i) 0 (by omega) ?_ ?_ fun i hi6 => ?_
 · first | rfl | (simp only [KS, simprocAttr, List.append_nil, Int.natCast_zero, Nat.mul_zero, Nat.add_zero, paL] <;> repeat' (first | rfl | apply And.intro))
 · (simp only [setAll, push_cast, simprocAttr, List.append_nil, Int.natCast_zero, Nat.mul_zero, Nat.add_zero, paL]) <;> rfl
 try simp only [keepL, setAll, push_cast, simprocAttr, scC, hdC, tlC, c3C, u8l_len, hdX_len, paL_len, tksL_len, pk_1]
 refine AW.seq_k fun K hK => ?_
 refine AW.sr 1 fun K hK => ?_
 simp only [push_cast, simprocAttr, scC, hdC, tlC, c3C, u8l_len, hdX_len, paL_len, tksL_len, pk_1]
 apply hK;clear hK K
 refine AW.cond rfl (fun h98 => ?_) (fun h98 => ?_)
 ·have hlt : i < s.np := by have := of_decide_eq_true h98; omega
  have c1 : (0 : Int) ≤ (i : Int) := by omega
  have c2 : (i : Int) < (s.np : Int) := by omega
  have c3 : i * 5 + 5 ≤ s.np * 5 := by omega
  have ga := catC_at (w := 5) (F := pC s) (fun _ => rfl) hlt
  have gk : pC s i = [.int .i64 (s.pk i), .int .i64 (s.pc i 0), .int .i64 (s.pc i 1), .int .i64 (s.pc i 2), .int .i64 (s.pr i)] := rfl
  refine AW.skip ?_
  apply hK;clear hK K
  refine AW.seq_k fun K hK => ?_
  refine AW.block ?_
  refine AW.sr 2 fun K hK => ?_
  have pk_2 : _ ∧ _ ∧ _ ∧ _ ∧ _ ∧ _ ∧ _ := ⟨pk_1, c1, c2, c3, ga, gk, hlt⟩
  simp only [push_cast, simprocAttr, scC, hdC, tlC, c3C, u8l_len, hdX_len, paL_len, tksL_len, pk_2]
  refine CThen.by (num_k _ (m.length + 13) (1 + i) ((hdX s).bs ++ paL s i) (55 + 21 * i) (by (simp only [List.length_append, numW_len, catL_len, hdX_len, paL_len, tksL_len, kyL_len, joL_len, shsL_len]) <;> omega) ⟨.grow, 1, by simp only [push_cast, simprocAttr]⟩ (by omega) _ 1 (u64b _).1 (u64b _).2 (by decide)) ?_
  simp only [push_cast, simprocAttr, scC, hdC, tlC, c3C, u8l_len, hdX_len, paL_len, tksL_len, pk_2]
  apply hK;clear hK K
  refine AW.draw [.val, .val, .rd 0, .ext, .val, .rd 0, .val, .ext, .val] fol (by decide) (by kernel_rfl) ?_
  simp only [push_cast, simprocAttr, scC, hdC, tlC, c3C, u8l_len, hdX_len, paL_len, tksL_len, pk_2]
  refine DCall.by ((by have h := fun M q1 q2 => rvec_c (m.length + 16) 0 ((hdX s).bs ++ (paL s i ++ numW (IntKind.u64.wrap (s.pk i)) 1)) (55 + (21 * i + 1)) (by (simp only [List.length_append, numW_len, catL_len, hdX_len, paL_len, tksL_len, kyL_len, joL_len, shsL_len]) <;> omega) (s.pc i) M q1 q2; simp only [c3C] at h; exact h _ ⟨.grow, 1, by simp only [push_cast, simprocAttr]⟩ (by omega))) ?_
  simp only [push_cast, simprocAttr, scC, hdC, tlC, c3C, u8l_len, hdX_len, paL_len, tksL_len, pk_2]
  refine DCall.by (num_k _ (m.length + 17) 0 ((hdX s).bs ++ (paL s i ++ (numW (IntKind.u64.wrap (s.pk i)) 1 ++ catL 5 (s.pc i) 3))) (55 + (21 * i + 16)) (by (simp only [List.length_append, numW_len, catL_len, hdX_len, paL_len, tksL_len, kyL_len, joL_len, shsL_len]) <;> omega) ⟨.grow, 1, by simp only [push_cast, simprocAttr]⟩ (by omega) _ 5 (u64b _).1 (u64b _).2 (by decide)) ?_
  simp only [push_cast, simprocAttr, scC, hdC, tlC, c3C, u8l_len, hdX_len, paL_len, tksL_len, pk_2]
  refine InB_n ?_
  apply hK;clear hK K
  refine AW.move (m.length + 13) (m.length + 18) 7 _ (by simp only [push_cast, simprocAttr]; first | done | rfl) (by rfl) (by simp only [push_cast, simprocAttr]; first | done | rfl) (by rfl) (by omega) (by rfl) ?_
  simp only [push_cast, simprocAttr]
  refine AW.rg ?_
  simp only [push_cast, simprocAttr, scC, hdC, tlC, c3C, u8l_len, hdX_len, paL_len, tksL_len, pk_2]
  refine Thn_n ?_
  have hwi : IntKind.i64.wrap ((i:Int)+1) = (i:Int)+1 := wi (by omega)
  have hnx : (paL s i ++ (numW (IntKind.u64.wrap (s.pk i)) 1 ++ (catL 5 (s.pc i) 3 ++ numW (IntKind.u64.wrap (s.pr i)) 5))) = paL s (i + 1) := by simp only [paL, catL, vecL, List.nil_append, List.append_assoc]
  have hln : 55 + (21 * i + 21) = 55 + 21 * (i + 1) := by omega
  refine ⟨i + 1, by omega, by omega, ?_⟩
  try simp only [keepL, setAll, push_cast, simprocAttr, scC, hdC, tlC, c3C, u8l_len, hdX_len, paL_len, tksL_len, pk_2, hwi, hnx, hln]
  exact Weak.to (extra := [_, _, _, _]) (by simp only [KS, simprocAttr, hwi, hnx, hln]) (by first | rfl | (simp only [List.append_assoc, List.cons_append, List.nil_append]; rfl)) (by first | rfl | (simp [AV.below, CV.below, u8l_below]; done) | (simp [AV.below, CV.below, u8l_below]; omega)) (by
    first | exact hwf | refine MWf.app (hwf.grow (by simp)) ?_
    repeat (first | exact MWf_nil | (refine MWf_cons ?_ ?_; · first | rfl | (simp [CV.below, u8l_below]; done) | (simp [CV.below, u8l_below]; omega))))
 ·have hin : i = s.np := by have := of_decide_eq_false h98; omega
  rw [hin]
  refine AW.exit ?_
  refine Thn_e ?_
  clear hK K
  refine Thn_e ?_
  refine InB_here ?_
  apply hK;clear hK K
  refine AW.seq_k fun K hK => ?_
  refine AW.sr 1 fun K hK => ?_
  simp only [push_cast, simprocAttr, scC, hdC, tlC, c3C, u8l_len, hdX_len, paL_len, tksL_len, pk_1]
  apply hK;clear hK K
  refine AW.block ?_
  refine AW.loopK [1] (fun i => i ≤ s.nt) (fun i => [(7, .one (.sl (m.length + 13) (vT s i) 0 (55 + (21 * s.np + knS s i)))), (10, .one (.int .i64 (i : Int)))]) (fun i => [(m.length + 13, ⟨.grow, 5, (vT s i), 1, u8l ((hdX s).bs ++ (paL s s.np ++ tksL s i))⟩)]) (fun i => s.nt - i) 0 (by omega) ?_ ?_ fun i hi10 => ?_
  · first | rfl | (simp only [KS, simprocAttr, List.append_nil, Int.natCast_zero, Nat.mul_zero, Nat.add_zero, tksL, knS, vT] <;> repeat' (first | rfl | apply And.intro))
  · (simp only [setAll, push_cast, simprocAttr, List.append_nil, Int.natCast_zero, Nat.mul_zero, Nat.add_zero, tksL, knS, vT]) <;> rfl
  try simp only [keepL, setAll, push_cast, simprocAttr, scC, hdC, tlC, c3C, u8l_len, hdX_len, paL_len, tksL_len, pk_1]
  refine AW.seq_k fun K hK => ?_
  refine AW.sr 1 fun K hK => ?_
  simp only [push_cast, simprocAttr, scC, hdC, tlC, c3C, u8l_len, hdX_len, paL_len, tksL_len, pk_1]
  apply hK;clear hK K
  refine AW.cond rfl (fun h123 => ?_) (fun h123 => ?_)
  ·have hlt : i < s.nt := by have := of_decide_eq_true h123; omega
   have c1 : (0 : Int) ≤ (i : Int) := by omega
   have c2 : (i : Int) < (s.nt : Int) := by omega
   have c3 : i * 2 + 2 ≤ s.nt * 2 := by omega
   have ga := catC_at (w := 2) (F := tC s R) (fun _ => rfl) hlt
   have gk : tC s R i = [.int .i64 (s.tw i), .sl (R.k i) (R.vk i) 0 (s.kn i)] := rfl
   obtain ⟨kk, ek, hky⟩ := hR.hk i hlt
   have lky := get_lt hky
   have hkn := hG.kn hlt
   have hki := hks i (by omega)
   have q1 : 55 + (21 * s.np + (knS s i + 2)) ≤ 140737488355328 := by omega
   have hap2 : u8l ((hdX s).bs ++ (paL s s.np ++ tksL s i)) ++ [.int .u8 (IntKind.u8.wrap (s.tw i)), .int .u8 (IntKind.u8.wrap (s.kn i : Int))] = u8l ((hdX s).bs ++ (paL s s.np ++ (tksL s i ++ catL 1 (wh (s.tw i) (s.kn i : Int)) 2))) := by
     rw [u8l_two]; simp only [catL, wh, nW1, List.nil_append, List.append_assoc, List.cons_append]
   refine AW.skip ?_
   apply hK;clear hK K
   refine AW.seq_k fun K hK => ?_
   refine AW.block ?_
   refine AW.sr 3 fun K hK => ?_
   have pk_3 : _ ∧ _ ∧ _ ∧ _ ∧ _ ∧ _ ∧ _ ∧ _ ∧ _ ∧ _ ∧ _ := ⟨pk_1, c1, c2, c3, ga, gk, hlt, hky, lk_old hky, q1, hap2⟩
   simp only [push_cast, simprocAttr, scC, hdC, tlC, c3C, u8l_len, hdX_len, paL_len, tksL_len, pk_3]
   apply hK;clear hK K
   refine AW.block ?_
   refine AW.loopK [1, 10, 11] (fun j => j ≤ s.kn i) (fun j => [(7, .one (.sl (m.length + 13) (vT s i + (1 + j)) 0 (55 + (21 * s.np + (knS s i + (2 + 20 * j)))))), (12, .one (.int .i64 (j : Int)))]) (fun j => [(m.length + 13, ⟨.grow, 5, (vT s i + (1 + j)), 1, u8l ((hdX s).bs ++ (paL s s.np ++ (tksL s i ++ (catL 1 (wh (s.tw i) (s.kn i : Int)) 2 ++ kyL (s.kt i) (s.kv i) j))))⟩)]) (fun j => s.kn i - j) 0 (by omega) ?_ ?_ fun j hi13 => ?_
   · first | rfl | (simp only [KS, simprocAttr, List.append_nil, Int.natCast_zero, Nat.mul_zero, Nat.add_zero, kyL] <;> repeat' (first | rfl | apply And.intro))
   · (simp only [setAll, push_cast, simprocAttr, List.append_nil, Int.natCast_zero, Nat.mul_zero, Nat.add_zero, kyL]) <;> rfl
   try simp only [keepL, setAll, push_cast, simprocAttr, scC, hdC, tlC, c3C, u8l_len, hdX_len, paL_len, tksL_len, pk_3]
   refine AW.seq_k fun K hK => ?_
   refine AW.sr 1 fun K hK => ?_
   simp only [push_cast, simprocAttr, scC, hdC, tlC, c3C, u8l_len, hdX_len, paL_len, tksL_len, pk_3]
   apply hK;clear hK K
   refine AW.cond rfl (fun h145 => ?_) (fun h145 => ?_)
   ·have hltj : j < s.kn i := by have := of_decide_eq_true h145; omega
    have c1 : (0 : Int) ≤ (j : Int) := by omega
    have c2 : (j : Int) < (s.kn i : Int) := by omega
    have c4 : j * 4 + 4 ≤ s.kn i * 4 := by omega
    have kl : (catC (s.kn i) (kC s i)).length = s.kn i * 4 := catC_len (w := 4) (F := kC s i) (fun _ => rfl) _
    have ga0 : (catC (s.kn i) (kC s i))[j * 4]? = some (.int .i64 (s.kt i j)) := catC_get (w := 4) (F := kC s i) (fun _ => rfl) hltj (a := 0) (by omega)
    have ga1 : ((catC (s.kn i) (kC s i)).drop (j * 4 + 1)).take 3 = [.int .i64 (s.kv i j 0), .int .i64 (s.kv i j 1), .int .i64 (s.kv i j 2)] := catC_in (w := 4) (F := kC s i) (fun _ => rfl) hltj (a := 1) (b := 3) (by omega)
    refine AW.skip ?_
    apply hK;clear hK K
    refine AW.seq_k fun K hK => ?_
    refine AW.block ?_
    refine AW.draw [.val, .val, .rd 0, .val, .val, .val, .rd 0, .val, .ext, .val, .rd 0, .val, .val, .val, .rd 0, .ext, .val] fol (by decide) (by kernel_rfl) ?_
    have pk_4 : _ ∧ _ ∧ _ ∧ _ ∧ _ ∧ _ ∧ _ ∧ _ := ⟨pk_3, c1, c2, c4, kl, ga0, ga1, hltj⟩
    simp only [push_cast, simprocAttr, scC, hdC, tlC, c3C, u8l_len, hdX_len, paL_len, tksL_len, pk_4]
    refine DCall.by (num_k _ (m.length + 13) (vT s i + (1 + j)) ((hdX s).bs ++ (paL s s.np ++ (tksL s i ++ (catL 1 (wh (s.tw i) (s.kn i : Int)) 2 ++ kyL (s.kt i) (s.kv i) j)))) (55 + (21 * s.np + (knS s i + (2 + 20 * j)))) (by (simp only [List.length_append, numW_len, catL_len, hdX_len, paL_len, tksL_len, kyL_len, joL_len, shsL_len]) <;> omega) ⟨.grow, 1, by simp only [push_cast, simprocAttr]⟩ (by omega) _ 5 (u64b _).1 (u64b _).2 (by decide)) ?_
    simp only [push_cast, simprocAttr, scC, hdC, tlC, c3C, u8l_len, hdX_len, paL_len, tksL_len, pk_4]
    refine DCall.by ((by have h := fun M q1 q2 => rvec_c (m.length + 17) 0 ((hdX s).bs ++ (paL s s.np ++ (tksL s i ++ (catL 1 (wh (s.tw i) (s.kn i : Int)) 2 ++ (kyL (s.kt i) (s.kv i) j ++ numW (IntKind.u64.wrap (s.kt i j)) 5))))) (55 + (21 * s.np + (knS s i + (2 + (20 * j + 5))))) (by (simp only [List.length_append, numW_len, catL_len, hdX_len, paL_len, tksL_len, kyL_len, joL_len, shsL_len]) <;> omega) (s.kv i j) M q1 q2; simp only [c3C] at h; exact h _ ⟨.grow, 1, by simp only [push_cast, simprocAttr]⟩ (by omega))) ?_
    simp only [push_cast, simprocAttr, scC, hdC, tlC, c3C, u8l_len, hdX_len, paL_len, tksL_len, pk_4]
    refine InB_n ?_
    apply hK;clear hK K
    refine AW.move (m.length + 13) (m.length + 18) 7 _ (by simp only [push_cast, simprocAttr]; first | done | rfl) (by rfl) (by simp only [push_cast, simprocAttr]; first | done | rfl) (by rfl) (by omega) (by rfl) ?_
    simp only [push_cast, simprocAttr]
    refine AW.rg ?_
    simp only [push_cast, simprocAttr, scC, hdC, tlC, c3C, u8l_len, hdX_len, paL_len, tksL_len, pk_4]
    refine Thn_n ?_
    have hwi : IntKind.i64.wrap ((j:Int)+1) = (j:Int)+1 := wi (by omega)
    have hnx : (kyL (s.kt i) (s.kv i) j ++ (numW (IntKind.u64.wrap (s.kt i j)) 5 ++ catL 5 (s.kv i j) 3)) = kyL (s.kt i) (s.kv i) (j + 1) := by simp only [kyL, catL, vecL, List.nil_append, List.append_assoc]
    have hln : 2 + (20 * j + 20) = 2 + 20 * (j + 1) := by omega
    refine ⟨j + 1, by omega, by omega, ?_⟩
    try simp only [keepL, setAll, push_cast, simprocAttr, scC, hdC, tlC, c3C, u8l_len, hdX_len, paL_len, tksL_len, pk_4, hwi, hnx, hln]
    exact Weak.to (extra := [_, _]) (by simp only [KS, simprocAttr, hwi, hnx, hln]) (by first | rfl | (simp only [List.append_assoc, List.cons_append, List.nil_append]; rfl)) (by first | rfl | (simp [AV.below, CV.below, u8l_below]; done) | (simp [AV.below, CV.below, u8l_below]; omega)) (by
      first | exact hwf | refine MWf.app (hwf.grow (by simp)) ?_
      repeat (first | exact MWf_nil | (refine MWf_cons ?_ ?_; · first | rfl | (simp [CV.below, u8l_below]; done) | (simp [CV.below, u8l_below]; omega))))
   ·have hjn : j = s.kn i := by have := of_decide_eq_false h145; omega
    subst hjn
    have hx1 : tksL s i ++ (catL 1 (wh (s.tw i) (s.kn i : Int)) 2 ++ kyL (s.kt i) (s.kv i) (s.kn i)) = tksL s (i + 1) := rfl
    have hx2 : knS s i + (2 + 20 * s.kn i) = knS s (i + 1) := rfl
    have hx3 : vT s i + (1 + s.kn i) = vT s (i + 1) := rfl
    refine AW.exit ?_
    refine Thn_e ?_
    clear hK K
    refine Thn_e ?_
    refine InB_here ?_
    refine InB_n ?_
    apply hK;clear hK K
    refine AW.rg ?_
    simp only [push_cast, simprocAttr, scC, hdC, tlC, c3C, u8l_len, hdX_len, paL_len, tksL_len, pk_3]
    refine Thn_n ?_
    have hwi : IntKind.i64.wrap ((i:Int)+1) = (i:Int)+1 := wi (by omega)
    refine ⟨i + 1, by omega, by omega, ?_⟩
    try simp only [keepL, setAll, push_cast, simprocAttr, scC, hdC, tlC, c3C, u8l_len, hdX_len, paL_len, tksL_len, pk_3, hwi, hx1, hx2, hx3]
    exact Weak.to (extra := [_, _]) (by simp only [KS, simprocAttr, hwi, hx1, hx2, hx3]) (by first | rfl | (simp only [List.append_assoc, List.cons_append, List.nil_append]; rfl)) (by first | rfl | (simp [AV.below, CV.below, u8l_below]; done) | (simp [AV.below, CV.below, u8l_below]; omega)) (by
      first | exact hwf | refine MWf.app (hwf.grow (by simp)) ?_
      repeat (first | exact MWf_nil | (refine MWf_cons ?_ ?_; · first | rfl | (simp [CV.below, u8l_below]; done) | (simp [CV.below, u8l_below]; omega))))
  ·have hin : i = s.nt := by have := of_decide_eq_false h123; omega
   rw [hin]
   refine AW.exit ?_
   refine Thn_e ?_
   clear hK K
   refine Thn_e ?_
   refine InB_here ?_
   apply hK;clear hK K
   refine AW.seq_k fun K hK => ?_
   refine AW.sr 1 fun K hK => ?_
   simp only [push_cast, simprocAttr, scC, hdC, tlC, c3C, u8l_len, hdX_len, paL_len, tksL_len, pk_1]
   apply hK;clear hK K
   refine AW.block ?_
   refine AW.loopK [1] (fun i => i ≤ s.nj) (fun i => [(7, .one (.sl (m.length + 13) (vT s s.nt + i) 0 (55 + (21 * s.np + (knS s s.nt + 11 * i))))), (13, .one (.int .i64 (i : Int)))]) (fun i => [(m.length + 13, ⟨.grow, 5, (vT s s.nt + i), 1, u8l ((hdX s).bs ++ (paL s s.np ++ (tksL s s.nt ++ joL s i)))⟩)]) (fun i => s.nj - i) 0 (by omega) ?_ ?_ fun i hi17 => ?_
   · first | rfl | (simp only [KS, simprocAttr, List.append_nil, Int.natCast_zero, Nat.mul_zero, Nat.add_zero, joL] <;> repeat' (first | rfl | apply And.intro))
   · (simp only [setAll, push_cast, simprocAttr, List.append_nil, Int.natCast_zero, Nat.mul_zero, Nat.add_zero, joL]) <;> rfl
   try simp only [keepL, setAll, push_cast, simprocAttr, scC, hdC, tlC, c3C, u8l_len, hdX_len, paL_len, tksL_len, pk_1]
   refine AW.seq_k fun K hK => ?_
   refine AW.sr 1 fun K hK => ?_
   simp only [push_cast, simprocAttr, scC, hdC, tlC, c3C, u8l_len, hdX_len, paL_len, tksL_len, pk_1]
   apply hK;clear hK K
   refine AW.cond rfl (fun h168 => ?_) (fun h168 => ?_)
   ·have hlt : i < s.nj := by have := of_decide_eq_true h168; omega
    have c1 : (0 : Int) ≤ (i : Int) := by omega
    have c2 : (i : Int) < (s.nj : Int) := by omega
    have c3 : i * 4 + 4 ≤ s.nj * 4 := by omega
    have ga := catC_at (w := 4) (F := jC s) (fun _ => rfl) hlt
    have gk : jC s i = [.int .i64 (s.jp i), .int .i64 (s.jm i), .int .i64 (s.jt i), .int .i64 (s.js i)] := rfl
    refine AW.skip ?_
    apply hK;clear hK K
    refine AW.seq_k fun K hK => ?_
    refine AW.block ?_
    refine AW.sr 1 fun K hK => ?_
    have pk_5 : _ ∧ _ ∧ _ ∧ _ ∧ _ ∧ _ ∧ _ := ⟨pk_1, c1, c2, c3, ga, gk, hlt⟩
    simp only [push_cast, simprocAttr, scC, hdC, tlC, c3C, u8l_len, hdX_len, paL_len, tksL_len, pk_5]
    apply hK;clear hK K
    refine AW.seq_k fun K hK => ?_
    refine AW.draw [.val, .val, .rd 0, .val, .ext, .val, .rd 0, .val, .ext, .val, .rd 0, .val, .ext, .val] fol (by decide) (by kernel_rfl) ?_
    simp only [push_cast, simprocAttr, scC, hdC, tlC, c3C, u8l_len, hdX_len, paL_len, tksL_len, pk_5]
    refine DCall.by (num_k _ (m.length + 13) (vT s s.nt + i) ((hdX s).bs ++ (paL s s.np ++ (tksL s s.nt ++ joL s i))) (55 + (21 * s.np + (knS s s.nt + 11 * i))) (by (simp only [List.length_append, numW_len, catL_len, hdX_len, paL_len, tksL_len, kyL_len, joL_len, shsL_len]) <;> omega) ⟨.grow, 1, by simp only [push_cast, simprocAttr]⟩ (by omega) _ 2 (u64b _).1 (u64b _).2 (by decide)) ?_
    simp only [push_cast, simprocAttr, scC, hdC, tlC, c3C, u8l_len, hdX_len, paL_len, tksL_len, pk_5]
    refine DCall.by (num_k _ (m.length + 16) 0 ((hdX s).bs ++ (paL s s.np ++ (tksL s s.nt ++ (joL s i ++ numW (IntKind.u64.wrap (s.jp i)) 2)))) (55 + (21 * s.np + (knS s s.nt + (11 * i + 2)))) (by (simp only [List.length_append, numW_len, catL_len, hdX_len, paL_len, tksL_len, kyL_len, joL_len, shsL_len]) <;> omega) ⟨.grow, 1, by simp only [push_cast, simprocAttr]⟩ (by omega) _ 2 (u64b _).1 (u64b _).2 (by decide)) ?_
    simp only [push_cast, simprocAttr, scC, hdC, tlC, c3C, u8l_len, hdX_len, paL_len, tksL_len, pk_5]
    refine DCall.by (num_k _ (m.length + 17) 0 ((hdX s).bs ++ (paL s s.np ++ (tksL s s.nt ++ (joL s i ++ (numW (IntKind.u64.wrap (s.jp i)) 2 ++ numW (IntKind.u64.wrap (s.jm i)) 2))))) (55 + (21 * s.np + (knS s s.nt + (11 * i + 4)))) (by (simp only [List.length_append, numW_len, catL_len, hdX_len, paL_len, tksL_len, kyL_len, joL_len, shsL_len]) <;> omega) ⟨.grow, 1, by simp only [push_cast, simprocAttr]⟩ (by omega) _ 2 (u64b _).1 (u64b _).2 (by decide)) ?_
    simp only [push_cast, simprocAttr, scC, hdC, tlC, c3C, u8l_len, hdX_len, paL_len, tksL_len, pk_5]
    apply hK;clear hK K
    refine AW.rg ?_
    simp only [push_cast, simprocAttr, scC, hdC, tlC, c3C, u8l_len, hdX_len, paL_len, tksL_len, pk_5]
    refine CThen.by (num_k _ (m.length + 18) 0 ((hdX s).bs ++ (paL s s.np ++ (tksL s s.nt ++ (joL s i ++ (numW (IntKind.u64.wrap (s.jp i)) 2 ++ (numW (IntKind.u64.wrap (s.jm i)) 2 ++ numW (IntKind.u64.wrap (s.jt i)) 2)))))) (55 + (21 * s.np + (knS s s.nt + (11 * i + 6)))) (by (simp only [List.length_append, numW_len, catL_len, hdX_len, paL_len, tksL_len, kyL_len, joL_len, shsL_len]) <;> omega) ⟨.grow, 1, by simp only [push_cast, simprocAttr]⟩ (by omega) _ 5 (u64b _).1 (u64b _).2 (by decide)) ?_
    simp only [push_cast, simprocAttr, scC, hdC, tlC, c3C, u8l_len, hdX_len, paL_len, tksL_len, pk_5]
    refine InB_n ?_
    apply hK;clear hK K
    refine AW.move (m.length + 13) (m.length + 19) 7 _ (by simp only [push_cast, simprocAttr]; first | done | rfl) (by rfl) (by simp only [push_cast, simprocAttr]; first | done | rfl) (by rfl) (by omega) (by rfl) ?_
    simp only [push_cast, simprocAttr]
    refine AW.rg ?_
    simp only [push_cast, simprocAttr, scC, hdC, tlC, c3C, u8l_len, hdX_len, paL_len, tksL_len, pk_5]
    refine Thn_n ?_
    have hwi : IntKind.i64.wrap ((i:Int)+1) = (i:Int)+1 := wi (by omega)
    have hnx : (joL s i ++ (numW (IntKind.u64.wrap (s.jp i)) 2 ++ (numW (IntKind.u64.wrap (s.jm i)) 2 ++ (numW (IntKind.u64.wrap (s.jt i)) 2 ++ numW (IntKind.u64.wrap (s.js i)) 5)))) = joL s (i + 1) := by simp only [joL, catL, f3, List.nil_append, List.append_assoc]
    have hln : 11 * i + 11 = 11 * (i + 1) := by omega
    refine ⟨i + 1, by omega, by omega, ?_⟩
    try simp only [keepL, setAll, push_cast, simprocAttr, scC, hdC, tlC, c3C, u8l_len, hdX_len, paL_len, tksL_len, pk_5, hwi, hnx, hln]
    exact Weak.to (extra := [_, _, _, _, _]) (by simp only [KS, simprocAttr, hwi, hnx, hln]) (by first | rfl | (simp only [List.append_assoc, List.cons_append, List.nil_append]; rfl)) (by first | rfl | (simp [AV.below, CV.below, u8l_below]; done) | (simp [AV.below, CV.below, u8l_below]; omega)) (by
      first | exact hwf | refine MWf.app (hwf.grow (by simp)) ?_
      repeat (first | exact MWf_nil | (refine MWf_cons ?_ ?_; · first | rfl | (simp [CV.below, u8l_below]; done) | (simp [CV.below, u8l_below]; omega))))
   ·have hin : i = s.nj := by have := of_decide_eq_false h168; omega
    rw [hin]
    refine AW.exit ?_
    refine Thn_e ?_
    clear hK K
    refine Thn_e ?_
    refine InB_here ?_
    apply hK;clear hK K
    refine AW.seq_k fun K hK => ?_
    refine AW.sr 1 fun K hK => ?_
    simp only [push_cast, simprocAttr, scC, hdC, tlC, c3C, u8l_len, hdX_len, paL_len, tksL_len, pk_1]
    apply hK;clear hK K
    refine AW.block ?_
    refine AW.loopK [1] (fun i => i ≤ s.nx) (fun i => [(7, .one (.sl (m.length + 13) (vT s s.nt + (s.nj + i)) 0 (55 + (21 * s.np + (knS s s.nt + (11 * s.nj + shN' s i)))))), (15, .one (.int .i64 (i : Int)))]) (fun i => [(m.length + 13, ⟨.grow, 5, (vT s s.nt + (s.nj + i)), 1, u8l ((hdX s).bs ++ (paL s s.np ++ (tksL s s.nt ++ (joL s s.nj ++ shsL s i))))⟩)]) (fun i => s.nx - i) 0 (by omega) ?_ ?_ fun i hi22 => ?_
    · first | rfl | (simp only [KS, simprocAttr, List.append_nil, Int.natCast_zero, Nat.mul_zero, Nat.add_zero, shsL, shN'] <;> repeat' (first | rfl | apply And.intro))
    · (simp only [setAll, push_cast, simprocAttr, List.append_nil, Int.natCast_zero, Nat.mul_zero, Nat.add_zero, shsL, shN']) <;> rfl
    try simp only [keepL, setAll, push_cast, simprocAttr, scC, hdC, tlC, c3C, u8l_len, hdX_len, paL_len, tksL_len, pk_1]
    refine AW.seq_k fun K hK => ?_
    refine AW.sr 1 fun K hK => ?_
    simp only [push_cast, simprocAttr, scC, hdC, tlC, c3C, u8l_len, hdX_len, paL_len, tksL_len, pk_1]
    apply hK;clear hK K
    refine AW.cond rfl (fun h198 => ?_) (fun h198 => ?_)
    ·have hlt : i < s.nx := by have := of_decide_eq_true h198; omega
     have c1 : (0 : Int) ≤ (i : Int) := by omega
     have c2 : (i : Int) < (s.nx : Int) := by omega
     have c3 : i * 13 + 13 ≤ s.nx * 13 := by omega
     have ga := catC_at (w := 13) (F := xC s) (fun _ => rfl) hlt
     have gk : xC s i = [.int .i64 (s.xj i), .int .i64 (s.xp i), .int .i64 (s.xk i), .int .i64 (s.xv i 0 0), .int .i64 (s.xv i 0 1), .int .i64 (s.xv i 0 2), .int .i64 (s.xv i 1 0), .int .i64 (s.xv i 1 1), .int .i64 (s.xv i 1 2), .int .i64 (s.xv i 2 0), .int .i64 (s.xv i 2 1), .int .i64 (s.xv i 2 2), .int .i64 (s.xr i)] := rfl
     have hsi := hsh i
     refine AW.skip ?_
     apply hK;clear hK K
     refine AW.seq_k fun K hK => ?_
     refine AW.block ?_
     refine AW.sr 1 fun K hK => ?_
     have pk_6 : _ ∧ _ ∧ _ ∧ _ ∧ _ ∧ _ ∧ _ := ⟨pk_1, c1, c2, c3, ga, gk, hlt⟩
     simp only [push_cast, simprocAttr, scC, hdC, tlC, c3C, u8l_len, hdX_len, paL_len, tksL_len, pk_6]
     apply hK;clear hK K
     refine AW.seq_k fun K hK => ?_
     refine AW.draw [.val, .val, .rd 0, .val, .ext, .val, .rd 0, .val, .ext, .val, .rd 0, .val, .ext, .val] fol (by decide) (by kernel_rfl) ?_
     simp only [push_cast, simprocAttr, scC, hdC, tlC, c3C, u8l_len, hdX_len, paL_len, tksL_len, pk_6]
     refine DCall.by (num_k _ (m.length + 13) (vT s s.nt + (s.nj + i)) ((hdX s).bs ++ (paL s s.np ++ (tksL s s.nt ++ (joL s s.nj ++ shsL s i)))) (55 + (21 * s.np + (knS s s.nt + (11 * s.nj + shN' s i)))) (by (simp only [List.length_append, numW_len, catL_len, hdX_len, paL_len, tksL_len, kyL_len, joL_len, shsL_len]) <;> omega) ⟨.grow, 1, by simp only [push_cast, simprocAttr]⟩ (by omega) _ 2 (u64b _).1 (u64b _).2 (by decide)) ?_
     simp only [push_cast, simprocAttr, scC, hdC, tlC, c3C, u8l_len, hdX_len, paL_len, tksL_len, pk_6]
     refine DCall.by (num_k _ (m.length + 16) 0 ((hdX s).bs ++ (paL s s.np ++ (tksL s s.nt ++ (joL s s.nj ++ (shsL s i ++ numW (IntKind.u64.wrap (s.xj i)) 2))))) (55 + (21 * s.np + (knS s s.nt + (11 * s.nj + (shN' s i + 2))))) (by (simp only [List.length_append, numW_len, catL_len, hdX_len, paL_len, tksL_len, kyL_len, joL_len, shsL_len]) <;> omega) ⟨.grow, 1, by simp only [push_cast, simprocAttr]⟩ (by omega) _ 2 (u64b _).1 (u64b _).2 (by decide)) ?_
     simp only [push_cast, simprocAttr, scC, hdC, tlC, c3C, u8l_len, hdX_len, paL_len, tksL_len, pk_6]
     refine DCall.by (num_k _ (m.length + 17) 0 ((hdX s).bs ++ (paL s s.np ++ (tksL s s.nt ++ (joL s s.nj ++ (shsL s i ++ (numW (IntKind.u64.wrap (s.xj i)) 2 ++ numW (IntKind.u64.wrap (s.xp i)) 2)))))) (55 + (21 * s.np + (knS s s.nt + (11 * s.nj + (shN' s i + 4))))) (by (simp only [List.length_append, numW_len, catL_len, hdX_len, paL_len, tksL_len, kyL_len, joL_len, shsL_len]) <;> omega) ⟨.grow, 1, by simp only [push_cast, simprocAttr]⟩ (by omega) _ 1 (u64b _).1 (u64b _).2 (by decide)) ?_
     simp only [push_cast, simprocAttr, scC, hdC, tlC, c3C, u8l_len, hdX_len, paL_len, tksL_len, pk_6]
     apply hK;clear hK K
     refine AW.sr 2 fun K hK => ?_
     simp only [push_cast, simprocAttr, scC, hdC, tlC, c3C, u8l_len, hdX_len, paL_len, tksL_len, pk_6]
     refine CThen.by ((by have h := fun M q1 q2 => rvec_c (m.length + 18) 0 ((hdX s).bs ++ (paL s s.np ++ (tksL s s.nt ++ (joL s s.nj ++ (shsL s i ++ (numW (IntKind.u64.wrap (s.xj i)) 2 ++ (numW (IntKind.u64.wrap (s.xp i)) 2 ++ numW (IntKind.u64.wrap (s.xk i)) 1))))))) (55 + (21 * s.np + (knS s s.nt + (11 * s.nj + (shN' s i + 5))))) (by (simp only [List.length_append, numW_len, catL_len, hdX_len, paL_len, tksL_len, kyL_len, joL_len, shsL_len]) <;> omega) (s.xv i 0) M q1 q2; simp only [c3C] at h; exact h _ ⟨.grow, 1, by simp only [push_cast, simprocAttr]⟩ (by omega))) ?_
     simp only [push_cast, simprocAttr, scC, hdC, tlC, c3C, u8l_len, hdX_len, paL_len, tksL_len, pk_6]
     apply hK;clear hK K
     refine AW.cond rfl (fun h226 => ?_) (fun h226 => ?_)
     ·have hk0 : s.xk i = 0 := eq_of_beq h226
      have hsx : shsL s i ++ (numW (IntKind.u64.wrap (s.xj i)) 2 ++ (numW (IntKind.u64.wrap (s.xp i)) 2 ++ (numW (IntKind.u64.wrap (s.xk i)) 1 ++ (catL 5 (s.xv i 0) 3 ++ numW (IntKind.u64.wrap (s.xr i)) 5)))) = shsL s (i + 1) := by simp only [shsL, shL, hk0, if_true, catL, vecL, wh, List.nil_append, List.append_assoc]
      have hln : shN' s i + 25 = shN' s (i + 1) := by simp only [shN', hk0, if_true]
      refine AW.rg ?_
      simp only [push_cast, simprocAttr, scC, hdC, tlC, c3C, u8l_len, hdX_len, paL_len, tksL_len, pk_6]
      refine CThen.by (num_k _ (m.length + 19) 0 ((hdX s).bs ++ (paL s s.np ++ (tksL s s.nt ++ (joL s s.nj ++ (shsL s i ++ (numW (IntKind.u64.wrap (s.xj i)) 2 ++ (numW (IntKind.u64.wrap (s.xp i)) 2 ++ (numW (IntKind.u64.wrap (s.xk i)) 1 ++ catL 5 (s.xv i 0) 3)))))))) (55 + (21 * s.np + (knS s s.nt + (11 * s.nj + (shN' s i + 20))))) (by (simp only [List.length_append, numW_len, catL_len, hdX_len, paL_len, tksL_len, kyL_len, joL_len, shsL_len]) <;> omega) ⟨.grow, 1, by simp only [push_cast, simprocAttr]⟩ (by omega) _ 5 (u64b _).1 (u64b _).2 (by decide)) ?_
      simp only [push_cast, simprocAttr, scC, hdC, tlC, c3C, u8l_len, hdX_len, paL_len, tksL_len, pk_6]
      refine InB_n ?_
      apply hK;clear hK K
      first
      | (refine AW.move (m.length + 13) (m.length + 20) 7 _ (by simp only [push_cast, simprocAttr]; first | done | rfl) (by rfl) (by simp only [push_cast, simprocAttr]; first | done | rfl) (by rfl) (by omega) (by rfl) ?_)
      | (refine AW.move (m.length + 13) (m.length + 21) 7 _ (by simp only [push_cast, simprocAttr]; first | done | rfl) (by rfl) (by simp only [push_cast, simprocAttr]; first | done | rfl) (by rfl) (by omega) (by rfl) ?_)
      simp only [push_cast, simprocAttr]
      refine AW.rg ?_
      simp only [push_cast, simprocAttr, scC, hdC, tlC, c3C, u8l_len, hdX_len, paL_len, tksL_len, pk_6]
      refine Thn_n ?_
      have hwi : IntKind.i64.wrap ((i:Int)+1) = (i:Int)+1 := wi (by omega)
      refine ⟨i + 1, by omega, by omega, ?_⟩
      try simp only [keepL, setAll, push_cast, simprocAttr, scC, hdC, tlC, c3C, u8l_len, hdX_len, paL_len, tksL_len, pk_6, hwi, hsx, hln]
      first
       | exact Weak.to (extra := [_, _, _, _, _, _]) (by simp only [KS, simprocAttr, hwi, hsx, hln]) (by first | rfl | (simp only [List.append_assoc, List.cons_append, List.nil_append]; rfl)) (by first | rfl | (simp [AV.below, CV.below, u8l_below]; done) | (simp [AV.below, CV.below, u8l_below]; omega)) (by
          first | exact hwf | refine MWf.app (hwf.grow (by simp)) ?_
          repeat (first | exact MWf_nil | (refine MWf_cons ?_ ?_; · first | rfl | (simp [CV.below, u8l_below]; done) | (simp [CV.below, u8l_below]; omega))))
       | exact Weak.to (extra := [_, _, _, _, _, _, _]) (by simp only [KS, simprocAttr, hwi, hsx, hln]) (by first | rfl | (simp only [List.append_assoc, List.cons_append, List.nil_append]; rfl)) (by first | rfl | (simp [AV.below, CV.below, u8l_below]; done) | (simp [AV.below, CV.below, u8l_below]; omega)) (by
          first | exact hwf | refine MWf.app (hwf.grow (by simp)) ?_
          repeat (first | exact MWf_nil | (refine MWf_cons ?_ ?_; · first | rfl | (simp [CV.below, u8l_below]; done) | (simp [CV.below, u8l_below]; omega))))
     ·have hk0 : ¬ s.xk i = 0 := by simpa using h226
      have hsx : shsL s i ++ (numW (IntKind.u64.wrap (s.xj i)) 2 ++ (numW (IntKind.u64.wrap (s.xp i)) 2 ++ (numW (IntKind.u64.wrap (s.xk i)) 1 ++ (catL 5 (s.xv i 0) 3 ++ (catL 5 (s.xv i 1) 3 ++ catL 5 (s.xv i 2) 3))))) = shsL s (i + 1) := by simp only [shsL, shL, hk0, if_false, catL, vecL, wh, List.nil_append, List.append_assoc]
      have hln : shN' s i + 50 = shN' s (i + 1) := by simp only [shN', hk0, if_false]
      refine AW.draw [.val, .val, .val, .rd 0, .ext, .val, .val, .rd 0, .ext, .val] fol (by decide) (by kernel_rfl) ?_
      simp only [push_cast, simprocAttr, scC, hdC, tlC, c3C, u8l_len, hdX_len, paL_len, tksL_len, pk_6]
      refine DCall.by ((by have h := fun M q1 q2 => rvec_c (m.length + 19) 0 ((hdX s).bs ++ (paL s s.np ++ (tksL s s.nt ++ (joL s s.nj ++ (shsL s i ++ (numW (IntKind.u64.wrap (s.xj i)) 2 ++ (numW (IntKind.u64.wrap (s.xp i)) 2 ++ (numW (IntKind.u64.wrap (s.xk i)) 1 ++ catL 5 (s.xv i 0) 3)))))))) (55 + (21 * s.np + (knS s s.nt + (11 * s.nj + (shN' s i + 20))))) (by (simp only [List.length_append, numW_len, catL_len, hdX_len, paL_len, tksL_len, kyL_len, joL_len, shsL_len]) <;> omega) (s.xv i 1) M q1 q2; simp only [c3C] at h; exact h _ ⟨.grow, 1, by simp only [push_cast, simprocAttr]⟩ (by omega))) ?_
      simp only [push_cast, simprocAttr, scC, hdC, tlC, c3C, u8l_len, hdX_len, paL_len, tksL_len, pk_6]
      refine DCall.by ((by have h := fun M q1 q2 => rvec_c (m.length + 20) 0 ((hdX s).bs ++ (paL s s.np ++ (tksL s s.nt ++ (joL s s.nj ++ (shsL s i ++ (numW (IntKind.u64.wrap (s.xj i)) 2 ++ (numW (IntKind.u64.wrap (s.xp i)) 2 ++ (numW (IntKind.u64.wrap (s.xk i)) 1 ++ (catL 5 (s.xv i 0) 3 ++ catL 5 (s.xv i 1) 3))))))))) (55 + (21 * s.np + (knS s s.nt + (11 * s.nj + (shN' s i + 35))))) (by (simp only [List.length_append, numW_len, catL_len, hdX_len, paL_len, tksL_len, kyL_len, joL_len, shsL_len]) <;> omega) (s.xv i 2) M q1 q2; simp only [c3C] at h; exact h _ ⟨.grow, 1, by simp only [push_cast, simprocAttr]⟩ (by omega))) ?_
      simp only [push_cast, simprocAttr, scC, hdC, tlC, c3C, u8l_len, hdX_len, paL_len, tksL_len, pk_6]
      refine InB_n ?_
      apply hK;clear hK K
      first
      | (refine AW.move (m.length + 13) (m.length + 20) 7 _ (by simp only [push_cast, simprocAttr]; first | done | rfl) (by rfl) (by simp only [push_cast, simprocAttr]; first | done | rfl) (by rfl) (by omega) (by rfl) ?_)
      | (refine AW.move (m.length + 13) (m.length + 21) 7 _ (by simp only [push_cast, simprocAttr]; first | done | rfl) (by rfl) (by simp only [push_cast, simprocAttr]; first | done | rfl) (by rfl) (by omega) (by rfl) ?_)
      simp only [push_cast, simprocAttr]
      refine AW.rg ?_
      simp only [push_cast, simprocAttr, scC, hdC, tlC, c3C, u8l_len, hdX_len, paL_len, tksL_len, pk_6]
      refine Thn_n ?_
      have hwi : IntKind.i64.wrap ((i:Int)+1) = (i:Int)+1 := wi (by omega)
      refine ⟨i + 1, by omega, by omega, ?_⟩
      try simp only [keepL, setAll, push_cast, simprocAttr, scC, hdC, tlC, c3C, u8l_len, hdX_len, paL_len, tksL_len, pk_6, hwi, hsx, hln]
      first
       | exact Weak.to (extra := [_, _, _, _, _, _]) (by simp only [KS, simprocAttr, hwi, hsx, hln]) (by first | rfl | (simp only [List.append_assoc, List.cons_append, List.nil_append]; rfl)) (by first | rfl | (simp [AV.below, CV.below, u8l_below]; done) | (simp [AV.below, CV.below, u8l_below]; omega)) (by
          first | exact hwf | refine MWf.app (hwf.grow (by simp)) ?_
          repeat (first | exact MWf_nil | (refine MWf_cons ?_ ?_; · first | rfl | (simp [CV.below, u8l_below]; done) | (simp [CV.below, u8l_below]; omega))))
       | exact Weak.to (extra := [_, _, _, _, _, _, _]) (by simp only [KS, simprocAttr, hwi, hsx, hln]) (by first | rfl | (simp only [List.append_assoc, List.cons_append, List.nil_append]; rfl)) (by first | rfl | (simp [AV.below, CV.below, u8l_below]; done) | (simp [AV.below, CV.below, u8l_below]; omega)) (by
          first | exact hwf | refine MWf.app (hwf.grow (by simp)) ?_
          repeat (first | exact MWf_nil | (refine MWf_cons ?_ ?_; · first | rfl | (simp [CV.below, u8l_below]; done) | (simp [CV.below, u8l_below]; omega))))
    ·have hin : i = s.nx := by have := of_decide_eq_false h198; omega
     rw [hin]
     refine AW.exit ?_
     refine Thn_e ?_
     clear hK K
     refine Thn_e ?_
     refine InB_here ?_
     apply hK;clear hK K
     refine AW.sr 1 fun K hK => ?_
     simp only [push_cast, simprocAttr, scC, hdC, tlC, c3C, u8l_len, hdX_len, paL_len, tksL_len, pk_1]
     apply hK;clear hK K
     refine AW.ret ?_
     refine hQ _ _ _ ?_
     refine RetP.pick [(m.length + 13, vT s s.nt + (s.nj + s.nx))] (by first | exact Or.inr rfl | exact Or.inl rfl) ?_ ?_ ?_ hwf ?_
     · simp only [resA, resOne, resTv, AV.tv, push_cast, simprocAttr]
       simp [renV, renT, renL, renC, renIdx, hlt0, hel]
     · simp only [picks, heb, push_cast, simprocAttr]
     · simp [distinctFrom]
     · exact MWf_one (u8l_below _ _)
end Go.Proofs.YtdeacicnfglhdaaGreatDoor
namespace Go.Proofs
open Go.Shelf
def Tryz.lays171_ren : Go.Shelf.Ren := ⟨fun | 171 => 115 | 243 => 116 | 246 => 117 | 283 => 118 | 284 => 119 | 285 => 120 | 286 => 121 | 129 => 79 | 317 => 122 | 318 => 123 | 319 => 124 | 320 => 125 | 337 => 126 | 338 => 127 | n => n, fun | 3 => 3 | 9 => 9 | 2 => 2 | 4 => 4 | 171 => 203 | 0 => 0 | 53 => 41 | 37 => 137 | 5 => 5 | 173 => 205 | 212 => 208 | 51 => 159 | 20 => 20 | 213 => 209 | 46 => 124 | 232 => 210 | 233 => 211 | n => n, fun | 17 => 0 | 18 => 1 | 19 => 2 | n => n⟩
theorem Tryz.lays171 : Go.Proofs.Lays.n171 Tryz.prog Tryz.lays171_ren := {
 mixed := by kernel_rfl
 f129 := Tryz.func79.trans (congrArg some (by kernel_rfl))
 f171 := Tryz.func115.trans (congrArg some (by kernel_rfl))
 f243 := Tryz.func116.trans (congrArg some (by kernel_rfl))
 f246 := Tryz.func117.trans (congrArg some (by kernel_rfl))
 f283 := Tryz.func118.trans (congrArg some (by kernel_rfl))
 f284 := Tryz.func119.trans (congrArg some (by kernel_rfl))
 f285 := Tryz.func120.trans (congrArg some (by kernel_rfl))
 f286 := Tryz.func121.trans (congrArg some (by kernel_rfl))
 f317 := Tryz.func122.trans (congrArg some (by kernel_rfl))
 f318 := Tryz.func123.trans (congrArg some (by kernel_rfl))
 f319 := Tryz.func124.trans (congrArg some (by kernel_rfl))
 f320 := Tryz.func125.trans (congrArg some (by kernel_rfl))
 f337 := Tryz.func126.trans (congrArg some (by kernel_rfl))
 f338 := Tryz.func127.trans (congrArg some (by kernel_rfl))
 t0 := Tryz.underlying0
 a0 := Tryz.isAgg0
 z0 := Tryz.sizeOf0
 v0 := Tryz.zeroValue0
 t2 := Tryz.underlying2
 a2 := Tryz.isAgg2
 z2 := Tryz.sizeOf2
 v2 := Tryz.zeroValue2
 t3 := Tryz.underlying3
 a3 := Tryz.isAgg3
 z3 := Tryz.sizeOf3
 v3 := Tryz.zeroValue3
 t4 := Tryz.underlying4
 a4 := Tryz.isAgg4
 z4 := Tryz.sizeOf4
 v4 := Tryz.zeroValue4
 t5 := Tryz.underlying5
 a5 := Tryz.isAgg5
 z5 := Tryz.sizeOf5
 v5 := Tryz.zeroValue5
 t9 := Tryz.underlying9
 a9 := Tryz.isAgg9
 z9 := Tryz.sizeOf9
 v9 := Tryz.zeroValue9
 t20 := Tryz.underlying20
 a20 := Tryz.isAgg20
 z20 := Tryz.sizeOf20
 v20 := Tryz.zeroValue20
 t37 := Tryz.underlying137
 a37 := Tryz.isAgg137
 z37 := Tryz.sizeOf137
 v37 := Tryz.zeroValue137
 t46 := Tryz.underlying124
 a46 := Tryz.isAgg124
 z46 := Tryz.sizeOf124
 v46 := Tryz.zeroValue124
 t51 := Tryz.underlying159
 a51 := Tryz.isAgg159
 z51 := Tryz.sizeOf159
 v51 := Tryz.zeroValue159
 t53 := Tryz.underlying41
 a53 := Tryz.isAgg41
 z53 := Tryz.sizeOf41
 v53 := Tryz.zeroValue41
 t171 := Tryz.underlying203
 a171 := Tryz.isAgg203
 z171 := Tryz.sizeOf203
 v171 := Tryz.zeroValue203
 t173 := Tryz.underlying205
 a173 := Tryz.isAgg205
 z173 := Tryz.sizeOf205
 v173 := Tryz.zeroValue205
 t212 := Tryz.underlying208
 a212 := Tryz.isAgg208
 z212 := Tryz.sizeOf208
 v212 := Tryz.zeroValue208
 t213 := Tryz.underlying209
 a213 := Tryz.isAgg209
 z213 := Tryz.sizeOf209
 t232 := Tryz.underlying210
 a232 := Tryz.isAgg210
 z232 := Tryz.sizeOf210
 v232 := Tryz.zeroValue210
 t233 := Tryz.underlying211
 a233 := Tryz.isAgg211
 z233 := Tryz.sizeOf211
 v233 := Tryz.zeroValue211
 g17 := by kernel_rfl
 g18 := by kernel_rfl
 g19 := by kernel_rfl }
open Go.RowKit Go.Sort Go.Lib in
theorem Tryz.strconv_Itoa_small (i : Nat) (hi : i < 100) (w : World) :
  Calls Tryz.prog 115 #[.int .i64 i] w fun e w' => e = .returned (.string ⟨(Lib.decDigits i).toArray⟩) ∧ w' = w := Any.strconv_Itoa_small Tryz.lays171 i hi w
end Go.Proofs
namespace Go.Eng
open Go Go.RowKit Go.ChangeShapes Go.WideShapes
section
variable {P : Program} {B : Nat} {H : Type} {enc : TypeId × Value → H} {W : World} {bulk : DataW H → Nat}
end
theorem RepM.ext {ρ : Env} {mem : AMem} {w w' : World} (h : RepM ρ mem w) (hos : w'.os = w.os) (htape : w'.tape = w.tape) (hout : w'.output = w.output) (hsize : w.heap.size ≤ w'.heap.size)
    (hheap : ∀ k, k < w.heap.size → w'.heap[k]? = w.heap[k]?) : RepM ρ mem w' ∧ Step mem ρ w mem ρ w' :=
  ⟨⟨fun r b hb => (h.blk r b hb).heap hsize fun x k _ _ hx => hheap _ hx, h.dom, h.domv, h.sep⟩,
   ⟨hos, htape, hout, hsize, Nat.le_refl _, fun _ _ _ _ h => h, fun r b b' h1 h2 => by rw [h1] at h2; injection h2 with h2; rw [h2], fun r b h1 _ => h1, fun n hn _ => hheap n hn, fun r b x k h1 h2 h3 => .inr ⟨r, b, x, k, h1, h2, h3, rfl⟩⟩⟩
open Go Go.RowKit Go.ChangeShapes Go.WideShapes
section
variable {P : Program} {B : Nat} {H : Type} {enc : TypeId × Value → H} {W : World} {bulk : DataW H → Nat}
structure RoFact (W : World) (g : Nat) (cvv : List CV) : Prop where
 ne : cvv.isEmpty = false
 at_ : ∃ cs t z, W.heap[g]? = some (.cells cs t z) ∧ ∀ ρ : Env, All2 (VC ρ) cvv cs.toList
end
section
variable {P : Program} {mem : AMem}
theorem RepM.below {ρ : Env} {w w' : World} (h : RepM ρ mem w) (b : Below w.heap.size w w') : RepM ρ mem w' ∧ Step mem ρ w mem ρ w' := h.ext b.os b.tape b.output b.size b.block
theorem Ctr.itoaS {f : FuncId} (hb : Bodied P f) (h : ∀ i : Nat, i < 100 → ∀ w : World, Calls P f #[.int .i64 i] w fun e w' => e = .returned (.string ⟨(Lib.decDigits i).toArray⟩) ∧ w' = w) {n : Nat} (hn : n < 100) :
  Ctr P f [.one (.int .i64 (n : Int))] mem (.one (.str ⟨(Lib.decDigits n).toArray⟩)) mem := by
 intro ρ w vs hm ha
 refine .inl ⟨hb, ?_⟩
 match vs, ha with
 | [v], ha =>
  have e1 : v = _ := ha.1
  subst e1
  refine (h n hn w).mono ?_
  rintro e w' ⟨rfl, rfl⟩
  exact ⟨_, ρ, rfl, rfl, hm, Step.refl _ _ _⟩
end
end Go.Eng
namespace Go.Proofs.YtdeacicnfglhdaaGreatDoor
open Go Go.Eng
def bI (l : List UInt8) : List Int := l.map fun b => ((b.toNat : Nat) : Int)
def u8c (xs : List Int) : List CV := xs.map (CV.int .u8)
theorem u8c_below (L : Nat) : ∀ xs : List Int, (u8c xs).all (CV.below L) = true
 | [] => rfl
 | x :: xs => by
  show (CV.int .u8 x :: u8c xs).all _ = true
  rw [List.all_cons, u8c_below L xs]; rfl
theorem strC_bI (l : List UInt8) : strC ⟨l.toArray⟩ = u8c (bI l) := by
 unfold strC u8c bI
 simp
theorem str_app (a b : List UInt8) : (⟨a.toArray⟩ : ByteArray) ++ ⟨b.toArray⟩ = ⟨(a ++ b).toArray⟩ := by
 apply ByteArray.ext
 simp
theorem str_size (a : List UInt8) : (⟨a.toArray⟩ : ByteArray).size = a.length := rfl
def hdB (w h : Nat) : List UInt8 := [80, 54, 10] ++ (Lib.decDigits w ++ ([32] ++ (Lib.decDigits h ++ [10, 50, 53, 53, 10])))
def hdI (w h : Nat) : List Int := bI (hdB w h)
theorem dec_len {n : Nat} (h : n < 100) : 1 ≤ (Lib.decDigits n).length ∧ (Lib.decDigits n).length ≤ 2 := by
 unfold Lib.decDigits
 split
 ·simp
 ·unfold Lib.decDigits
  rw [dif_pos (by omega)]; simp
theorem hdB_len {w h : Nat} (hw : w < 100) (hh : h < 100) : 11 ≤ (hdB w h).length ∧ (hdB w h).length ≤ 13 := by
 have h1 := dec_len hw
 have h2 := dec_len hh
 unfold hdB
 simp only [List.length_append, List.length_cons, List.length_nil]
 omega
theorem hdI_len (w h : Nat) : (hdI w h).length = (hdB w h).length := List.length_map _
theorem itoa_c (n : Nat) (hn : n < 100) (m : AMem) : Ctr Tryz.prog 115 [.one (.int .i64 (n : Int))] m (.one (.str ⟨(Lib.decDigits n).toArray⟩)) m := Ctr.itoaS ⟨_, rfl, rfl, rfl⟩ (fun i hi w => Tryz.strconv_Itoa_small i hi w) hn
theorem head_c (w h : Nat) (c0 : CV) (hw : w < 100) (hh : h < 100) (m : AMem) : Ctr Tryz.prog 111 [.agg [.int .i64 (w : Int), .int .i64 (h : Int), c0]] m (.one (.sl m.length 0 0 (hdI w h).length)) (m ++ [⟨.grow, 5, 0, 0, u8c (hdI w h)⟩]) := by
 refine Ctr.enter Tryz.func111 rfl (by decide) (rs := [.tmp 2]) (nt := 16) rfl rfl fun hwf Q hQ => ?_
 have hlt0 : ∀ k, ¬ m.length + k < m.length := fun k => by omega
 have l1 := dec_len hw
 have l2 := dec_len hh
 obtain ⟨S1, e1⟩ : ∃ S : List UInt8, S = [80, 54, 10] ++ Lib.decDigits w := ⟨_, rfl⟩
 obtain ⟨S2, e2⟩ : ∃ S : List UInt8, S = S1 ++ [32] := ⟨_, rfl⟩
 obtain ⟨S3, e3⟩ : ∃ S : List UInt8, S = S2 ++ Lib.decDigits h := ⟨_, rfl⟩
 obtain ⟨S4, e4⟩ : ∃ S : List UInt8, S = S3 ++ [10, 50, 53, 53, 10] := ⟨_, rfl⟩
 have e5 : S4 = hdB w h := by rw [e4, e3, e2, e1]; unfold hdB; simp only [List.append_assoc]
 have f1 : (⟨#[80, 54, 10]⟩ : ByteArray) ++ ⟨(Lib.decDigits w).toArray⟩ = ⟨S1.toArray⟩ := by rw [e1]; exact str_app [80, 54, 10] _
 have f2 : (⟨S1.toArray⟩ : ByteArray) ++ ⟨#[32]⟩ = ⟨S2.toArray⟩ := by rw [e2]; exact str_app _ [32]
 have f3 : (⟨S2.toArray⟩ : ByteArray) ++ ⟨(Lib.decDigits h).toArray⟩ = ⟨S3.toArray⟩ := by rw [e3]; exact str_app _ _
 have f4 : (⟨S3.toArray⟩ : ByteArray) ++ ⟨#[10, 50, 53, 53, 10]⟩ = ⟨S4.toArray⟩ := by rw [e4]; exact str_app _ [10, 50, 53, 53, 10]
 have g1 : S1.length = 3 + (Lib.decDigits w).length := by rw [e1, List.length_append]; rfl
 have g2 : S2.length = S1.length + 1 := by rw [e2, List.length_append]; rfl
 have g3 : S3.length = S2.length + (Lib.decDigits h).length := by rw [e3, List.length_append]
 have g4 : S4.length = S3.length + 5 := by rw [e4, List.length_append]; rfl
 have q1 : 3 + (Lib.decDigits w).length ≤ 9223372036854775807 := by omega
 have q2 : S1.length + 1 ≤ 9223372036854775807 := by omega
 have q3 : S2.length + (Lib.decDigits h).length ≤ 9223372036854775807 := by omega
 have q4 : S3.length + 5 ≤ 9223372036854775807 := by omega
 have q5 : S4.length ≤ 140737488355328 := by omega
 have hsc : strC ⟨S4.toArray⟩ = u8c (hdI w h) := by rw [e5]; exact strC_bI _
 have hln : S4.length = (hdI w h).length := by rw [e5, hdI_len]
 refine AW.sr 1 fun K hK => ?_
 have pk_1 : _ ∧ _ ∧ _ ∧ _ ∧ _ ∧ _ ∧ _ ∧ _ := ⟨f1, f2, q1, q2, q3, q4, q5, hsc⟩
 simp only [push_cast, simprocAttr, f3, f4, str_size, pk_1]
 apply hK;clear hK K
 refine AW.seq_k fun K hK => ?_
 refine AW.draw [.val, .val, .rd 0, .ext, .val, .val, .val, .val, .rd 0, .ext, .val, .val, .ext, .val] fol (by decide) (by kernel_rfl) ?_
 simp only [push_cast, simprocAttr, f3, f4, str_size, pk_1]
 refine DCall.by0 (itoa_c w hw _) ?_
 simp only [push_cast, simprocAttr, f3, f4, str_size, pk_1]
 refine DCall.by0 (itoa_c h hh _) ?_
 simp only [push_cast, simprocAttr, f3, f4, str_size, pk_1]
 refine DExt.by (by first | rfl | exact (List.append_nil _).symm | (simp only [List.append_assoc, List.cons_append, List.nil_append]; rfl)) ?_
 simp only [push_cast, simprocAttr, f3, f4, str_size, pk_1]
 apply hK;clear hK K
 refine AW.ret ?_
 refine hQ _ _ _ ?_
 refine RetP.pick [(m.length + 1, 0)] (Or.inr rfl) ?_ ?_ ?_ hwf ?_
 · simp only [resA, resOne, resTv, AV.tv, push_cast, simprocAttr]
   simp [renV, renT, renL, renC, renIdx, hlt0, hln]
 · simp only [picks, push_cast, simprocAttr]
 · simp [distinctFrom]
 · exact MWf_one (u8c_below _ _)
theorem strB_one (n : Nat) : strB [(n : Int)] = ⟨([UInt8.ofNat n] : List UInt8).toArray⟩ := rfl
theorem wu64 {x : Int} (h : 0 ≤ x ∧ x ≤ 4294967296) : IntKind.u64.wrap x = x := by
 unfold IntKind.wrap
 simp [IntKind.signed, IntKind.bits]
 omega
theorem wu8 {x : Int} (h : 0 ≤ x ∧ x ≤ 255) : IntKind.u8.wrap x = x := by
 unfold IntKind.wrap
 simp [IntKind.signed, IntKind.bits]
 omega
theorem dec_lo {n : Nat} (h : n < 10) : Lib.decDigits n = [UInt8.ofNat (48 + n)] := by
 unfold Lib.decDigits; rw [dif_pos h]
theorem dec_hi {n : Nat} (h : ¬ n < 10) (h2 : n < 100) : Lib.decDigits n = [UInt8.ofNat (48 + n / 10)] ++ [UInt8.ofNat (48 + n % 10)] := by
 rw [Lib.decDigits, dif_neg h, dec_lo (by omega)]
theorem rdec_lo (n : Nat) (hn : n < 10) (m : AMem) : Ctr Tryz.prog 112 [.one (.int .u64 (n : Int))] m (.one (.str ⟨(Lib.decDigits n).toArray⟩)) m := by
 refine Ctr.enter Tryz.func112 rfl (by decide) (rs := [.tmp 2]) (nt := 23) rfl rfl fun hwf Q hQ => ?_
 have w1 : ¬ (9 : Int) < (n : Int) := by omega
 have w2 : IntKind.u64.wrap (48 + (n : Int)) = ((48 + n : Nat) : Int) := by rw [wu64 (by omega)]; push_cast; rfl
 obtain ⟨z, hz⟩ : ∃ z, z = 48 + n := ⟨_, rfl⟩
 rw [← hz] at w2
 have w3 : IntKind.u8.wrap (z : Int) = (z : Int) := wu8 (by omega)
 have s1 := strB_one z
 have s2 : (⟨[UInt8.ofNat z].toArray⟩ : ByteArray) ++ ⟨#[]⟩ = ⟨(Lib.decDigits n).toArray⟩ := by
   rw [dec_lo hn, ← hz]; exact str_app [UInt8.ofNat z] []
 refine AW.sr 2 fun K hK => ?_
 have pk_2 : _ ∧ _ ∧ _ ∧ _ ∧ _ := ⟨w1, w2, w3, s1, s2⟩
 simp only [push_cast, simprocAttr, str_size, pk_2]
 apply hK;clear hK K
 refine AW.seq_k fun K hK => ?_
 refine AW.block ?_
 refine AW.rounds 1 ?_
 refine ARounds.succ fun K hK => ?_
 refine AW.seq_k fun K hK => ?_
 refine AW.sr 1 fun K hK => ?_
 simp only [push_cast, simprocAttr, str_size, pk_2]
 apply hK;clear hK K
 refine AW.cond_f rfl ?_
 refine AW.exit ?_
 refine Thn_e ?_
 clear hK K
 refine Thn_e ?_
 clear hK K
 refine InB_here ?_
 apply hK;clear hK K
 refine AW.sr 1 fun K hK => ?_
 simp only [push_cast, simprocAttr, str_size, pk_2]
 apply hK;clear hK K
 refine AW.ret ?_
 refine hQ _ _ _ ?_
 first | refine RetP.drop0 (Or.inr rfl) ?_ ?_ hwf | refine RetP.drop (Or.inr rfl) ?_ ?_ hwf
 · simp only [resA, resOne, resTv, AV.tv, push_cast, simprocAttr, str_size, pk_2]
 · rfl
theorem rdec_hi (n : Nat) (hn : ¬ n < 10) (hn2 : n < 100) (m : AMem) : Ctr Tryz.prog 112 [.one (.int .u64 (n : Int))] m (.one (.str ⟨(Lib.decDigits n).toArray⟩)) m := by
 refine Ctr.enter Tryz.func112 rfl (by decide) (rs := [.tmp 2]) (nt := 23) rfl rfl fun hwf Q hQ => ?_
 have w1 : (9 : Int) < (n : Int) := by omega
 obtain ⟨a, ha⟩ : ∃ a, a = n / 10 := ⟨_, rfl⟩
 obtain ⟨b, hb⟩ : ∃ b, b = n % 10 := ⟨_, rfl⟩
 have d1 : (n : Int).tmod 10 = (b : Int) := by rw [Int.tmod_eq_emod_of_nonneg (by omega), hb]; push_cast; rfl
 have d2 : (n : Int).tdiv 10 = (a : Int) := by rw [Int.tdiv_eq_ediv_of_nonneg (by omega), ha]; push_cast; rfl
 have d3 : IntKind.u64.wrap (b : Int) = (b : Int) := wu64 (by omega)
 have d4 : IntKind.u64.wrap (a : Int) = (a : Int) := wu64 (by omega)
 have w4 : ¬ (9 : Int) < (a : Int) := by omega
 obtain ⟨y, hy⟩ : ∃ y, y = 48 + a := ⟨_, rfl⟩
 obtain ⟨z, hz⟩ : ∃ z, z = 48 + b := ⟨_, rfl⟩
 have w2 : IntKind.u64.wrap (48 + (b : Int)) = (z : Int) := by rw [wu64 (by omega)]; omega
 have w5 : IntKind.u64.wrap (48 + (a : Int)) = (y : Int) := by rw [wu64 (by omega)]; omega
 have w3 : IntKind.u8.wrap (z : Int) = (z : Int) := wu8 (by omega)
 have w6 : IntKind.u8.wrap (y : Int) = (y : Int) := wu8 (by omega)
 have s1 := strB_one z
 have s2 := strB_one y
 have s3 : (⟨[UInt8.ofNat z].toArray⟩ : ByteArray) ++ ⟨#[]⟩ = ⟨[UInt8.ofNat z].toArray⟩ := str_app [UInt8.ofNat z] []
 have s4 : (⟨[UInt8.ofNat y].toArray⟩ : ByteArray) ++ ⟨[UInt8.ofNat z].toArray⟩ = ⟨(Lib.decDigits n).toArray⟩ := by
   rw [dec_hi hn hn2, ← ha, ← hb, ← hz, ← hy]; exact str_app [UInt8.ofNat y] [UInt8.ofNat z]
 refine AW.sr 2 fun K hK => ?_
 have pk_3 : _ ∧ _ ∧ _ ∧ _ ∧ _ ∧ _ ∧ _ ∧ _ ∧ _ ∧ _ ∧ _ ∧ _ ∧ _ ∧ _ := ⟨w1, w2, w3, w4, w5, w6, d1, d2, d3, d4, s1, s2, s3, s4⟩
 simp only [push_cast, simprocAttr, str_size, pk_3]
 apply hK;clear hK K
 refine AW.seq_k fun K hK => ?_
 refine AW.block ?_
 refine AW.rounds 2 ?_
 refine ARounds.succ fun K hK => ?_
 refine AW.seq_k fun K hK => ?_
 refine AW.sr 1 fun K hK => ?_
 simp only [push_cast, simprocAttr, str_size, pk_3]
 apply hK;clear hK K
 refine AW.cond_t rfl ?_
 refine AW.skip ?_
 apply hK;clear hK K
 refine AW.block ?_
 refine AW.sr 1 fun K hK => ?_
 simp only [push_cast, simprocAttr, str_size, pk_3]
 apply hK;clear hK K
 refine AW.rg ?_
 simp only [push_cast, simprocAttr, str_size, pk_3]
 refine InB_n ?_
 apply hK;clear hK K
 refine ARounds.succ fun K hK => ?_
 refine AW.seq_k fun K hK => ?_
 refine AW.sr 1 fun K hK => ?_
 simp only [push_cast, simprocAttr, str_size, pk_3]
 apply hK;clear hK K
 refine AW.cond_f rfl ?_
 refine AW.exit ?_
 refine Thn_e ?_
 clear hK K
 refine Thn_e ?_
 clear hK K
 refine InB_here ?_
 apply hK;clear hK K
 refine AW.sr 1 fun K hK => ?_
 simp only [push_cast, simprocAttr, str_size, pk_3]
 apply hK;clear hK K
 refine AW.ret ?_
 refine hQ _ _ _ ?_
 first | refine RetP.drop0 (Or.inr rfl) ?_ ?_ hwf | refine RetP.drop (Or.inr rfl) ?_ ?_ hwf
 · simp only [resA, resOne, resTv, AV.tv, push_cast, simprocAttr, str_size, pk_3]
 · rfl
theorem rdec_c (n : Nat) (hn : n < 100) (m : AMem) : Ctr Tryz.prog 112 [.one (.int .u64 (n : Int))] m (.one (.str ⟨(Lib.decDigits n).toArray⟩)) m := by
 by_cases h : n < 10
 ·exact rdec_lo n h m
 ·exact rdec_hi n h hn m
theorem rhead_c (w h : Nat) (hw : w < 100) (hh : h < 100) (m : AMem) : Ctr Tryz.prog 99 [.one (.int .i64 (w : Int)), .one (.int .i64 (h : Int))] m (.one (.sl m.length 0 0 (hdI w h).length)) (m ++ [⟨.grow, 5, 0, 0, u8c (hdI w h)⟩]) := by
 refine Ctr.enter Tryz.func99 rfl (by decide) (rs := [.tmp 4]) (nt := 16) rfl rfl fun hwf Q hQ => ?_
 have hlt0 : ∀ k, ¬ m.length + k < m.length := fun k => by omega
 have l1 := dec_len hw
 have l2 := dec_len hh
 obtain ⟨S1, e1⟩ : ∃ S : List UInt8, S = [80, 54, 10] ++ Lib.decDigits w := ⟨_, rfl⟩
 obtain ⟨S2, e2⟩ : ∃ S : List UInt8, S = S1 ++ [32] := ⟨_, rfl⟩
 obtain ⟨S3, e3⟩ : ∃ S : List UInt8, S = S2 ++ Lib.decDigits h := ⟨_, rfl⟩
 obtain ⟨S4, e4⟩ : ∃ S : List UInt8, S = S3 ++ [10, 50, 53, 53, 10] := ⟨_, rfl⟩
 have e5 : S4 = hdB w h := by rw [e4, e3, e2, e1]; unfold hdB; simp only [List.append_assoc]
 have f1 : (⟨#[80, 54, 10]⟩ : ByteArray) ++ ⟨(Lib.decDigits w).toArray⟩ = ⟨S1.toArray⟩ := by rw [e1]; exact str_app [80, 54, 10] _
 have f2 : (⟨S1.toArray⟩ : ByteArray) ++ ⟨#[32]⟩ = ⟨S2.toArray⟩ := by rw [e2]; exact str_app _ [32]
 have f3 : (⟨S2.toArray⟩ : ByteArray) ++ ⟨(Lib.decDigits h).toArray⟩ = ⟨S3.toArray⟩ := by rw [e3]; exact str_app _ _
 have f4 : (⟨S3.toArray⟩ : ByteArray) ++ ⟨#[10, 50, 53, 53, 10]⟩ = ⟨S4.toArray⟩ := by rw [e4]; exact str_app _ [10, 50, 53, 53, 10]
 have g1 : S1.length = 3 + (Lib.decDigits w).length := by rw [e1, List.length_append]; rfl
 have g2 : S2.length = S1.length + 1 := by rw [e2, List.length_append]; rfl
 have g3 : S3.length = S2.length + (Lib.decDigits h).length := by rw [e3, List.length_append]
 have g4 : S4.length = S3.length + 5 := by rw [e4, List.length_append]; rfl
 have q1 : 3 + (Lib.decDigits w).length ≤ 9223372036854775807 := by omega
 have q2 : S1.length + 1 ≤ 9223372036854775807 := by omega
 have q3 : S2.length + (Lib.decDigits h).length ≤ 9223372036854775807 := by omega
 have q4 : S3.length + 5 ≤ 9223372036854775807 := by omega
 have q5 : S4.length ≤ 140737488355328 := by omega
 have hsc : strC ⟨S4.toArray⟩ = u8c (hdI w h) := by rw [e5]; exact strC_bI _
 have hln : S4.length = (hdI w h).length := by rw [e5, hdI_len]
 have u1 : IntKind.u64.wrap (w : Int) = (w : Int) := wu64 (by omega)
 have u2 : IntKind.u64.wrap (h : Int) = (h : Int) := wu64 (by omega)
 refine AW.sr 2 fun K hK => ?_
 have pk_4 : _ ∧ _ ∧ _ ∧ _ ∧ _ ∧ _ ∧ _ ∧ _ ∧ _ ∧ _ := ⟨f1, f2, q1, q2, q3, q4, q5, hsc, u1, u2⟩
 simp only [push_cast, simprocAttr, f3, f4, str_size, pk_4]
 refine CThen.by (rdec_c w hw _) ?_
 simp only [push_cast, simprocAttr, f3, f4, str_size, pk_4]
 refine CThen.by (rdec_c h hh _) ?_
 simp only [push_cast, simprocAttr, f3, f4, str_size, pk_4]
 apply hK;clear hK K
 refine AW.ret ?_
 refine hQ _ _ _ ?_
 refine RetP.pick [(m.length, 0)] (Or.inr rfl) ?_ ?_ ?_ hwf ?_
 · simp only [resA, resOne, resTv, AV.tv, push_cast, simprocAttr]
   simp [renV, renT, renL, renC, renIdx, hlt0, hln]
 · simp only [picks, push_cast, simprocAttr]
 · simp [distinctFrom]
 · exact MWf_one (u8c_below _ _)
def ndZ (n : Int) : Int := (n + 127) / 128
def szZ (w h : Nat) : Nat → Int
 | 0 => 4 + 54 * ((w : Int) * (h : Int))
 | 1 => 4 + 15 * ((w : Int) * (h : Int))
 | 2 => 4 + 15 * ((w : Int) * (h : Int))
 | _ + 3 => ((hdI w h).length : Int) + 3 * ((w : Int) * (h : Int))
theorem wh_b {w h : Nat} (hw : w ≤ 64) (hh : h ≤ 64) : 0 ≤ (w : Int) * (h : Int) ∧ (w : Int) * (h : Int) ≤ 4096 := by
 have h1 := Nat.mul_le_mul hw hh
 have h2 : ((w * h : Nat) : Int) = (w : Int) * (h : Int) := by push_cast; rfl
 omega
theorem cneed_c (n : Int) (m : AMem) (h0 : 0 ≤ n) (h1 : n ≤ 1000000000000) : Ctr Tryz.prog 61 [.one (.int .i64 n)] m (.one (.int .i64 (ndZ n))) m := by
 refine Ctr.enter Tryz.func61 rfl (by decide) (rs := [.tmp 2]) (nt := 8) rfl rfl fun hwf Q hQ => ?_
 have e1 : maxI n 0 = n := by unfold maxI; split <;> omega
 have e2 : IntKind.i64.wrap (n + 128) = n + 128 := wi (by omega)
 have e3 : IntKind.i64.wrap (n + 128 - 1) = n + 127 := by rw [wi (by omega)]; omega
 have e4 : (n + 127).tdiv 128 = ndZ n := by rw [Int.tdiv_eq_ediv_of_nonneg (by omega)]; rfl
 have e5 : IntKind.i64.wrap (ndZ n) = ndZ n := wi (by unfold ndZ; omega)
 refine AW.sr 2 fun K hK => ?_
 have pk_5 : _ ∧ _ ∧ _ ∧ _ ∧ _ := ⟨e1, e2, e3, e4, e5⟩
 simp only [push_cast, simprocAttr, pk_5]
 apply hK;clear hK K
 refine AW.ret ?_
 refine hQ _ _ _ ?_
 first | refine RetP.drop0 (Or.inr rfl) ?_ ?_ hwf | refine RetP.drop (Or.inr rfl) ?_ ?_ hwf
 · simp only [resA, resOne, resTv, AV.tv, push_cast, simprocAttr, pk_5]
 · rfl
theorem rneed_c (n : Int) (m : AMem) (h0 : 0 ≤ n) (h1 : n ≤ 1000000000000) : Ctr Tryz.prog 65 [.one (.int .i64 n)] m (.one (.int .i64 (ndZ n))) m := by
 refine Ctr.enter Tryz.func65 rfl (by decide) (rs := [.tmp 2]) (nt := 13) rfl rfl fun hwf Q hQ => ?_
 have e3 : n.tmod 128 = n % 128 := Int.tmod_eq_emod_of_nonneg h0
 have e4 : n.tdiv 128 = n / 128 := Int.tdiv_eq_ediv_of_nonneg h0
 have e5 : IntKind.i64.wrap (n / 128) = n / 128 := wi (by omega)
 have e6 : IntKind.i64.wrap (n % 128) = n % 128 := wi (by omega)
 have e7 : IntKind.i64.wrap (n / 128 + 1) = n / 128 + 1 := wi (by omega)
 refine AW.sr 1 fun K hK => ?_
 have pk_6 : _ ∧ _ ∧ _ ∧ _ ∧ _ := ⟨e3, e4, e5, e6, e7⟩
 simp only [push_cast, simprocAttr, pk_6]
 apply hK;clear hK K
 refine AW.seq_k fun K hK => ?_
 refine AW.sr 1 fun K hK => ?_
 simp only [push_cast, simprocAttr, pk_6]
 apply hK;clear hK K
 refine AW.cond rfl (fun h4 => ?_) (fun h4 => ?_)
 ·have e : ndZ n = 0 := by have := of_decide_eq_true h4; unfold ndZ; omega
  refine AW.sr 1 fun K hK => ?_
  simp only [push_cast, simprocAttr, pk_6, e]
  apply hK;clear hK K
  refine AW.ret ?_
  refine Thn_r ?_
  refine hQ _ _ _ ?_
  first | refine RetP.drop0 (Or.inr rfl) ?_ ?_ hwf | refine RetP.drop (Or.inr rfl) ?_ ?_ hwf
  · simp only [resA, resOne, resTv, AV.tv, push_cast, simprocAttr, pk_6, e]
  · rfl
 ·refine AW.skip ?_
  apply hK;clear hK K
  refine AW.seq_k fun K hK => ?_
  refine AW.sr 1 fun K hK => ?_
  simp only [push_cast, simprocAttr, pk_6]
  apply hK;clear hK K
  refine AW.cond rfl (fun h7 => ?_) (fun h7 => ?_)
  ·have e : ndZ n = n / 128 := by have := eq_of_beq h7; unfold ndZ; omega
   refine AW.sr 1 fun K hK => ?_
   simp only [push_cast, simprocAttr, pk_6, e]
   apply hK;clear hK K
   refine AW.ret ?_
   refine Thn_r ?_
   refine hQ _ _ _ ?_
   first | refine RetP.drop0 (Or.inr rfl) ?_ ?_ hwf | refine RetP.drop (Or.inr rfl) ?_ ?_ hwf
   · simp only [resA, resOne, resTv, AV.tv, push_cast, simprocAttr, pk_6, e]
   · rfl
  ·have h7b : ¬ n % 128 = 0 := by simpa using h7
   have h4b := of_decide_eq_false h4
   have e : ndZ n = n / 128 + 1 := by unfold ndZ; omega
   refine AW.skip ?_
   apply hK;clear hK K
   refine AW.sr 1 fun K hK => ?_
   simp only [push_cast, simprocAttr, pk_6, e]
   apply hK;clear hK K
   refine AW.ret ?_
   refine hQ _ _ _ ?_
   first | refine RetP.drop0 (Or.inr rfl) ?_ ?_ hwf | refine RetP.drop (Or.inr rfl) ?_ ?_ hwf
   · simp only [resA, resOne, resTv, AV.tv, push_cast, simprocAttr, pk_6, e]
   · rfl
theorem szr_c (w h : Nat) (hw0 : 1 ≤ w) (hw : w ≤ 64) (hh0 : 1 ≤ h) (hh : h ≤ 64) (m : AMem) : Ctr Tryz.prog 94 [.agg [.int .i64 (w : Int), .int .i64 (h : Int)]] m (.one (.bool true)) m := by
 refine Ctr.enter Tryz.func94 rfl (by decide) (rs := [.tmp 2]) (nt := 21) rfl rfl fun hwf Q hQ => ?_
 have hb := wh_b hw hh
 have g1 : (1 : Int) ≤ (w : Int) := by omega
 have g2 : (w : Int) ≤ 64 := by omega
 have g3 : (1 : Int) ≤ (h : Int) := by omega
 have g4 : (h : Int) ≤ 64 := by omega
 obtain ⟨q, hq⟩ : ∃ q, q = (w : Int) * (h : Int) := ⟨_, rfl⟩
 rw [← hq] at hb
 have e1 : (54 : Int) * (w : Int) * (h : Int) = 54 * q := by rw [hq, Int.mul_assoc]
 have e2 : (15 : Int) * (w : Int) * (h : Int) = 15 * q := by rw [hq, Int.mul_assoc]
 have e3 : (3 : Int) * (w : Int) * (h : Int) = 3 * q := by rw [hq, Int.mul_assoc]
 have w0 : IntKind.i64.wrap q = q := wi (by omega)
 have w1 : IntKind.i64.wrap (54 * q) = 54 * q := wi (by omega)
 have w2 : IntKind.i64.wrap (4 + 54 * q) = 4 + 54 * q := wi (by omega)
 have w3 : IntKind.i64.wrap (15 * q) = 15 * q := wi (by omega)
 have w4 : IntKind.i64.wrap (4 + 15 * q) = 4 + 15 * q := wi (by omega)
 have w5 : IntKind.i64.wrap (3 * q) = 3 * q := wi (by omega)
 have w6 : IntKind.i64.wrap (54 * (w : Int)) = 54 * (w : Int) := wi (by omega)
 have w7 : IntKind.i64.wrap (15 * (w : Int)) = 15 * (w : Int) := wi (by omega)
 have w8 : IntKind.i64.wrap (3 * (w : Int)) = 3 * (w : Int) := wi (by omega)
 have hl := hdB_len (w := w) (h := h) (by omega) (by omega)
 have w9 : IntKind.i64.wrap (((hdI w h).length : Int) + 3 * q) = ((hdI w h).length : Int) + 3 * q := wi (by rw [hdI_len]; omega)
 have hq2 := hq.symm
 refine AW.sr 2 fun K hK => ?_
 have pk_7 : _ ∧ _ ∧ _ ∧ _ ∧ _ ∧ _ ∧ _ ∧ _ ∧ _ ∧ _ ∧ _ ∧ _ ∧ _ ∧ _ ∧ _ ∧ _ ∧ _ := ⟨g1, g2, g3, g4, e1, e2, e3, w0, w1, w2, w3, w4, w5, w6, w7, w9, hq2⟩
 simp only [push_cast, simprocAttr, w8, pk_7]
 apply hK;clear hK K
 refine AW.ret ?_
 refine hQ _ _ _ ?_
 first | refine RetP.drop0 (Or.inr rfl) ?_ ?_ hwf | refine RetP.drop (Or.inr rfl) ?_ ?_ hwf
 · simp only [resA, resOne, resTv, AV.tv, push_cast, simprocAttr, w8, pk_7]
 · rfl
theorem szp_c (w h : Nat) (hw0 : 1 ≤ w) (hw : w ≤ 64) (hh0 : 1 ≤ h) (hh : h ≤ 64) (m : AMem) : Ctr Tryz.prog 95 [.agg [.int .i64 (w : Int), .int .i64 (h : Int)]] m (.one (.int .i64 ((w : Int) * (h : Int)))) m := by
 refine Ctr.enter Tryz.func95 rfl (by decide) (rs := [.tmp 2]) (nt := 8) rfl rfl fun hwf Q hQ => ?_
 have hb := wh_b hw hh
 have g1 : (1 : Int) ≤ (w : Int) := by omega
 have g2 : (w : Int) ≤ 64 := by omega
 have g3 : (1 : Int) ≤ (h : Int) := by omega
 have g4 : (h : Int) ≤ 64 := by omega
 obtain ⟨q, hq⟩ : ∃ q, q = (w : Int) * (h : Int) := ⟨_, rfl⟩
 rw [← hq] at hb
 have e1 : (54 : Int) * (w : Int) * (h : Int) = 54 * q := by rw [hq, Int.mul_assoc]
 have e2 : (15 : Int) * (w : Int) * (h : Int) = 15 * q := by rw [hq, Int.mul_assoc]
 have e3 : (3 : Int) * (w : Int) * (h : Int) = 3 * q := by rw [hq, Int.mul_assoc]
 have w0 : IntKind.i64.wrap q = q := wi (by omega)
 have w1 : IntKind.i64.wrap (54 * q) = 54 * q := wi (by omega)
 have w2 : IntKind.i64.wrap (4 + 54 * q) = 4 + 54 * q := wi (by omega)
 have w3 : IntKind.i64.wrap (15 * q) = 15 * q := wi (by omega)
 have w4 : IntKind.i64.wrap (4 + 15 * q) = 4 + 15 * q := wi (by omega)
 have w5 : IntKind.i64.wrap (3 * q) = 3 * q := wi (by omega)
 have w6 : IntKind.i64.wrap (54 * (w : Int)) = 54 * (w : Int) := wi (by omega)
 have w7 : IntKind.i64.wrap (15 * (w : Int)) = 15 * (w : Int) := wi (by omega)
 have w8 : IntKind.i64.wrap (3 * (w : Int)) = 3 * (w : Int) := wi (by omega)
 have hl := hdB_len (w := w) (h := h) (by omega) (by omega)
 have w9 : IntKind.i64.wrap (((hdI w h).length : Int) + 3 * q) = ((hdI w h).length : Int) + 3 * q := wi (by rw [hdI_len]; omega)
 have hq2 := hq.symm
 refine AW.sr 2 fun K hK => ?_
 have pk_8 : _ ∧ _ ∧ _ ∧ _ ∧ _ ∧ _ ∧ _ ∧ _ ∧ _ ∧ _ ∧ _ ∧ _ ∧ _ ∧ _ ∧ _ ∧ _ ∧ _ := ⟨g1, g2, g3, g4, e1, e2, e3, w0, w1, w2, w3, w4, w5, w6, w7, w9, hq2⟩
 simp only [push_cast, simprocAttr, w8, pk_8]
 apply hK;clear hK K
 refine AW.ret ?_
 refine hQ _ _ _ ?_
 first | refine RetP.drop0 (Or.inr rfl) ?_ ?_ hwf | refine RetP.drop (Or.inr rfl) ?_ ?_ hwf
 · simp only [resA, resOne, resTv, AV.tv, push_cast, simprocAttr, w8, pk_8, hq2]
 · rfl
theorem pby_c (w h : Nat) (hw0 : 1 ≤ w) (hw : w ≤ 64) (hh0 : 1 ≤ h) (hh : h ≤ 64) (m : AMem) : Ctr Tryz.prog 96 [.agg [.int .i64 (w : Int), .int .i64 (h : Int)]] m (.one (.int .i64 (szZ w h 3))) m := by
 refine Ctr.enter Tryz.func96 rfl (by decide) (rs := [.tmp 2]) (nt := 14) rfl rfl fun hwf Q hQ => ?_
 have hb := wh_b hw hh
 have g1 : (1 : Int) ≤ (w : Int) := by omega
 have g2 : (w : Int) ≤ 64 := by omega
 have g3 : (1 : Int) ≤ (h : Int) := by omega
 have g4 : (h : Int) ≤ 64 := by omega
 obtain ⟨q, hq⟩ : ∃ q, q = (w : Int) * (h : Int) := ⟨_, rfl⟩
 rw [← hq] at hb
 have e1 : (54 : Int) * (w : Int) * (h : Int) = 54 * q := by rw [hq, Int.mul_assoc]
 have e2 : (15 : Int) * (w : Int) * (h : Int) = 15 * q := by rw [hq, Int.mul_assoc]
 have e3 : (3 : Int) * (w : Int) * (h : Int) = 3 * q := by rw [hq, Int.mul_assoc]
 have w0 : IntKind.i64.wrap q = q := wi (by omega)
 have w1 : IntKind.i64.wrap (54 * q) = 54 * q := wi (by omega)
 have w2 : IntKind.i64.wrap (4 + 54 * q) = 4 + 54 * q := wi (by omega)
 have w3 : IntKind.i64.wrap (15 * q) = 15 * q := wi (by omega)
 have w4 : IntKind.i64.wrap (4 + 15 * q) = 4 + 15 * q := wi (by omega)
 have w5 : IntKind.i64.wrap (3 * q) = 3 * q := wi (by omega)
 have w6 : IntKind.i64.wrap (54 * (w : Int)) = 54 * (w : Int) := wi (by omega)
 have w7 : IntKind.i64.wrap (15 * (w : Int)) = 15 * (w : Int) := wi (by omega)
 have w8 : IntKind.i64.wrap (3 * (w : Int)) = 3 * (w : Int) := wi (by omega)
 have hl := hdB_len (w := w) (h := h) (by omega) (by omega)
 have w9 : IntKind.i64.wrap (((hdI w h).length : Int) + 3 * q) = ((hdI w h).length : Int) + 3 * q := wi (by rw [hdI_len]; omega)
 have hq2 := hq.symm
 have hz : szZ w h 3 = ((hdI w h).length : Int) + 3 * q := by show _ + 3 * ((w : Int) * (h : Int)) = _; rw [← hq]
 refine AW.sr 1 fun K hK => ?_
 have pk_9 : _ ∧ _ ∧ _ ∧ _ ∧ _ ∧ _ ∧ _ ∧ _ ∧ _ ∧ _ ∧ _ ∧ _ ∧ _ ∧ _ ∧ _ ∧ _ ∧ _ ∧ _ := ⟨g1, g2, g3, g4, e1, e2, e3, w0, w1, w2, w3, w4, w5, w6, w7, w9, hq2, hz⟩
 simp only [push_cast, simprocAttr, w8, pk_9]
 apply hK;clear hK K
 refine AW.seq_k fun K hK => ?_
 refine AW.sr 1 fun K hK => ?_
 simp only [push_cast, simprocAttr, w8, pk_9]
 refine CThen.by (szr_c w h hw0 hw hh0 hh _) ?_
 simp only [push_cast, simprocAttr, w8, pk_9]
 apply hK;clear hK K
 refine AW.cond_f rfl ?_
 refine AW.skip ?_
 apply hK;clear hK K
 refine AW.seq_k fun K hK => ?_
 refine AW.draw [.rd 0, .val, .ext, .val, .rd 0, .ext, .val, .val, .val] fol (by decide) (by kernel_rfl) ?_
 simp only [push_cast, simprocAttr, w8, pk_9]
 refine DCall.by (head_c w h .nils (by omega) (by omega) _) ?_
 simp only [push_cast, simprocAttr, w8, pk_9]
 refine DCall.by0 (szp_c w h hw0 hw hh0 hh _) ?_
 simp only [push_cast, simprocAttr, w8, pk_9]
 apply hK;clear hK K
 refine AW.ret ?_
 refine hQ _ _ _ ?_
 first | refine RetP.drop0 (Or.inr rfl) ?_ ?_ hwf | refine RetP.drop (Or.inr rfl) ?_ ?_ hwf
 · simp only [resA, resOne, resTv, AV.tv, push_cast, simprocAttr, w8, pk_9]
 · rfl
theorem csz0_c (w h : Nat) (hw0 : 1 ≤ w) (hw : w ≤ 64) (hh0 : 1 ≤ h) (hh : h ≤ 64) (m : AMem) : Ctr Tryz.prog 62 [.one (.int .i64 0), .agg [.int .i64 (w : Int), .int .i64 (h : Int)]] m (.one (.int .i64 (szZ w h 0))) m := by
 refine Ctr.enter Tryz.func62 rfl (by decide) (rs := [.tmp 4]) (nt := 27) rfl rfl fun hwf Q hQ => ?_
 have hb := wh_b hw hh
 have g1 : (1 : Int) ≤ (w : Int) := by omega
 have g2 : (w : Int) ≤ 64 := by omega
 have g3 : (1 : Int) ≤ (h : Int) := by omega
 have g4 : (h : Int) ≤ 64 := by omega
 obtain ⟨q, hq⟩ : ∃ q, q = (w : Int) * (h : Int) := ⟨_, rfl⟩
 rw [← hq] at hb
 have e1 : (54 : Int) * (w : Int) * (h : Int) = 54 * q := by rw [hq, Int.mul_assoc]
 have e2 : (15 : Int) * (w : Int) * (h : Int) = 15 * q := by rw [hq, Int.mul_assoc]
 have e3 : (3 : Int) * (w : Int) * (h : Int) = 3 * q := by rw [hq, Int.mul_assoc]
 have w0 : IntKind.i64.wrap q = q := wi (by omega)
 have w1 : IntKind.i64.wrap (54 * q) = 54 * q := wi (by omega)
 have w2 : IntKind.i64.wrap (4 + 54 * q) = 4 + 54 * q := wi (by omega)
 have w3 : IntKind.i64.wrap (15 * q) = 15 * q := wi (by omega)
 have w4 : IntKind.i64.wrap (4 + 15 * q) = 4 + 15 * q := wi (by omega)
 have w5 : IntKind.i64.wrap (3 * q) = 3 * q := wi (by omega)
 have w6 : IntKind.i64.wrap (54 * (w : Int)) = 54 * (w : Int) := wi (by omega)
 have w7 : IntKind.i64.wrap (15 * (w : Int)) = 15 * (w : Int) := wi (by omega)
 have w8 : IntKind.i64.wrap (3 * (w : Int)) = 3 * (w : Int) := wi (by omega)
 have hl := hdB_len (w := w) (h := h) (by omega) (by omega)
 have w9 : IntKind.i64.wrap (((hdI w h).length : Int) + 3 * q) = ((hdI w h).length : Int) + 3 * q := wi (by rw [hdI_len]; omega)
 have hq2 := hq.symm
 have hz : szZ w h 0 = 4 + 54 * q := by show 4 + 54 * ((w : Int) * (h : Int)) = _; rw [← hq]
 refine AW.sr 1 fun K hK => ?_
 have pk_10 : _ ∧ _ ∧ _ ∧ _ ∧ _ ∧ _ ∧ _ ∧ _ ∧ _ ∧ _ ∧ _ ∧ _ ∧ _ ∧ _ ∧ _ ∧ _ ∧ _ ∧ _ := ⟨g1, g2, g3, g4, e1, e2, e3, w0, w1, w2, w3, w4, w5, w6, w7, w9, hq2, hz⟩
 simp only [push_cast, simprocAttr, w8, pk_10]
 apply hK;clear hK K
 refine AW.seq_k fun K hK => ?_
 refine AW.sr 1 fun K hK => ?_
 simp only [push_cast, simprocAttr, w8, pk_10]
 refine CThen.by (szr_c w h hw0 hw hh0 hh _) ?_
 simp only [push_cast, simprocAttr, w8, pk_10]
 apply hK;clear hK K
 refine AW.cond_f rfl ?_
 refine AW.skip ?_
 apply hK;clear hK K
 refine AW.sr 1 fun K hK => ?_
 simp only [push_cast, simprocAttr, w8, pk_10]
 refine CThen.by (szp_c w h hw0 hw hh0 hh _) ?_
 simp only [push_cast, simprocAttr, w8, pk_10]
 apply hK;clear hK K
 refine AW.seq_k fun K hK => ?_
 refine AW.sr 1 fun K hK => ?_
 simp only [push_cast, simprocAttr, w8, pk_10]
 apply hK;clear hK K
 refine AW.block ?_
 refine AW.sr 1 fun K hK => ?_
 simp only [push_cast, simprocAttr, w8, pk_10]
 apply hK;clear hK K
 refine AW.cond_t rfl ?_
 refine AW.sr 1 fun K hK => ?_
 simp only [push_cast, simprocAttr, w8, pk_10]
 apply hK;clear hK K
 refine AW.ret ?_
 refine InB_r ?_
 refine Thn_r ?_
 refine hQ _ _ _ ?_
 first | refine RetP.drop0 (Or.inr rfl) ?_ ?_ hwf | refine RetP.drop (Or.inr rfl) ?_ ?_ hwf
 · simp only [resA, resOne, resTv, AV.tv, push_cast, simprocAttr, w8, pk_10]
 · rfl
theorem rsz0_c (w h : Nat) (hw0 : 1 ≤ w) (hw : w ≤ 64) (hh0 : 1 ≤ h) (hh : h ≤ 64) (m : AMem) : Ctr Tryz.prog 66 [.one (.int .i64 0), .one (.int .i64 (w : Int)), .one (.int .i64 (h : Int))] m (.one (.int .i64 (szZ w h 0))) m := by
 refine Ctr.enter Tryz.func66 rfl (by decide) (rs := [.tmp 6]) (nt := 34) rfl rfl fun hwf Q hQ => ?_
 have hb := wh_b hw hh
 have g1 : (1 : Int) ≤ (w : Int) := by omega
 have g2 : (w : Int) ≤ 64 := by omega
 have g3 : (1 : Int) ≤ (h : Int) := by omega
 have g4 : (h : Int) ≤ 64 := by omega
 obtain ⟨q, hq⟩ : ∃ q, q = (w : Int) * (h : Int) := ⟨_, rfl⟩
 rw [← hq] at hb
 have e1 : (54 : Int) * (w : Int) * (h : Int) = 54 * q := by rw [hq, Int.mul_assoc]
 have e2 : (15 : Int) * (w : Int) * (h : Int) = 15 * q := by rw [hq, Int.mul_assoc]
 have e3 : (3 : Int) * (w : Int) * (h : Int) = 3 * q := by rw [hq, Int.mul_assoc]
 have w0 : IntKind.i64.wrap q = q := wi (by omega)
 have w1 : IntKind.i64.wrap (54 * q) = 54 * q := wi (by omega)
 have w2 : IntKind.i64.wrap (4 + 54 * q) = 4 + 54 * q := wi (by omega)
 have w3 : IntKind.i64.wrap (15 * q) = 15 * q := wi (by omega)
 have w4 : IntKind.i64.wrap (4 + 15 * q) = 4 + 15 * q := wi (by omega)
 have w5 : IntKind.i64.wrap (3 * q) = 3 * q := wi (by omega)
 have w6 : IntKind.i64.wrap (54 * (w : Int)) = 54 * (w : Int) := wi (by omega)
 have w7 : IntKind.i64.wrap (15 * (w : Int)) = 15 * (w : Int) := wi (by omega)
 have w8 : IntKind.i64.wrap (3 * (w : Int)) = 3 * (w : Int) := wi (by omega)
 have hl := hdB_len (w := w) (h := h) (by omega) (by omega)
 have w9 : IntKind.i64.wrap (((hdI w h).length : Int) + 3 * q) = ((hdI w h).length : Int) + 3 * q := wi (by rw [hdI_len]; omega)
 have hq2 := hq.symm
 have hz : szZ w h 0 = 4 + 54 * q := by show 4 + 54 * ((w : Int) * (h : Int)) = _; rw [← hq]
 refine AW.sr 1 fun K hK => ?_
 have pk_11 : _ ∧ _ ∧ _ ∧ _ ∧ _ ∧ _ ∧ _ ∧ _ ∧ _ ∧ _ ∧ _ ∧ _ ∧ _ ∧ _ ∧ _ ∧ _ ∧ _ ∧ _ := ⟨g1, g2, g3, g4, e1, e2, e3, w0, w1, w2, w3, w4, w5, w6, w7, w9, hq2, hz⟩
 simp only [push_cast, simprocAttr, w8, pk_11]
 apply hK;clear hK K
 refine AW.seq_k fun K hK => ?_
 refine AW.sr 1 fun K hK => ?_
 simp only [push_cast, simprocAttr, w8, pk_11]
 apply hK;clear hK K
 refine AW.block ?_
 refine AW.sr 1 fun K hK => ?_
 simp only [push_cast, simprocAttr, w8, pk_11]
 apply hK;clear hK K
 refine AW.cond_t rfl ?_
 refine AW.sr 1 fun K hK => ?_
 simp only [push_cast, simprocAttr, w8, pk_11]
 apply hK;clear hK K
 refine AW.ret ?_
 refine InB_r ?_
 refine Thn_r ?_
 refine hQ _ _ _ ?_
 first | refine RetP.drop0 (Or.inr rfl) ?_ ?_ hwf | refine RetP.drop (Or.inr rfl) ?_ ?_ hwf
 · simp only [resA, resOne, resTv, AV.tv, push_cast, simprocAttr, w8, pk_11]
 · rfl
theorem csz1_c (w h : Nat) (hw0 : 1 ≤ w) (hw : w ≤ 64) (hh0 : 1 ≤ h) (hh : h ≤ 64) (m : AMem) : Ctr Tryz.prog 62 [.one (.int .i64 1), .agg [.int .i64 (w : Int), .int .i64 (h : Int)]] m (.one (.int .i64 (szZ w h 1))) m := by
 refine Ctr.enter Tryz.func62 rfl (by decide) (rs := [.tmp 4]) (nt := 27) rfl rfl fun hwf Q hQ => ?_
 have hb := wh_b hw hh
 have g1 : (1 : Int) ≤ (w : Int) := by omega
 have g2 : (w : Int) ≤ 64 := by omega
 have g3 : (1 : Int) ≤ (h : Int) := by omega
 have g4 : (h : Int) ≤ 64 := by omega
 obtain ⟨q, hq⟩ : ∃ q, q = (w : Int) * (h : Int) := ⟨_, rfl⟩
 rw [← hq] at hb
 have e1 : (54 : Int) * (w : Int) * (h : Int) = 54 * q := by rw [hq, Int.mul_assoc]
 have e2 : (15 : Int) * (w : Int) * (h : Int) = 15 * q := by rw [hq, Int.mul_assoc]
 have e3 : (3 : Int) * (w : Int) * (h : Int) = 3 * q := by rw [hq, Int.mul_assoc]
 have w0 : IntKind.i64.wrap q = q := wi (by omega)
 have w1 : IntKind.i64.wrap (54 * q) = 54 * q := wi (by omega)
 have w2 : IntKind.i64.wrap (4 + 54 * q) = 4 + 54 * q := wi (by omega)
 have w3 : IntKind.i64.wrap (15 * q) = 15 * q := wi (by omega)
 have w4 : IntKind.i64.wrap (4 + 15 * q) = 4 + 15 * q := wi (by omega)
 have w5 : IntKind.i64.wrap (3 * q) = 3 * q := wi (by omega)
 have w6 : IntKind.i64.wrap (54 * (w : Int)) = 54 * (w : Int) := wi (by omega)
 have w7 : IntKind.i64.wrap (15 * (w : Int)) = 15 * (w : Int) := wi (by omega)
 have w8 : IntKind.i64.wrap (3 * (w : Int)) = 3 * (w : Int) := wi (by omega)
 have hl := hdB_len (w := w) (h := h) (by omega) (by omega)
 have w9 : IntKind.i64.wrap (((hdI w h).length : Int) + 3 * q) = ((hdI w h).length : Int) + 3 * q := wi (by rw [hdI_len]; omega)
 have hq2 := hq.symm
 have hz : szZ w h 1 = 4 + 15 * q := by show 4 + 15 * ((w : Int) * (h : Int)) = _; rw [← hq]
 refine AW.sr 1 fun K hK => ?_
 have pk_12 : _ ∧ _ ∧ _ ∧ _ ∧ _ ∧ _ ∧ _ ∧ _ ∧ _ ∧ _ ∧ _ ∧ _ ∧ _ ∧ _ ∧ _ ∧ _ ∧ _ ∧ _ := ⟨g1, g2, g3, g4, e1, e2, e3, w0, w1, w2, w3, w4, w5, w6, w7, w9, hq2, hz⟩
 simp only [push_cast, simprocAttr, w8, pk_12]
 apply hK;clear hK K
 refine AW.seq_k fun K hK => ?_
 refine AW.sr 1 fun K hK => ?_
 simp only [push_cast, simprocAttr, w8, pk_12]
 refine CThen.by (szr_c w h hw0 hw hh0 hh _) ?_
 simp only [push_cast, simprocAttr, w8, pk_12]
 apply hK;clear hK K
 refine AW.cond_f rfl ?_
 refine AW.skip ?_
 apply hK;clear hK K
 refine AW.sr 1 fun K hK => ?_
 simp only [push_cast, simprocAttr, w8, pk_12]
 refine CThen.by (szp_c w h hw0 hw hh0 hh _) ?_
 simp only [push_cast, simprocAttr, w8, pk_12]
 apply hK;clear hK K
 refine AW.seq_k fun K hK => ?_
 refine AW.sr 1 fun K hK => ?_
 simp only [push_cast, simprocAttr, w8, pk_12]
 apply hK;clear hK K
 refine AW.block ?_
 refine AW.sr 1 fun K hK => ?_
 simp only [push_cast, simprocAttr, w8, pk_12]
 apply hK;clear hK K
 refine AW.cond_f rfl ?_
 refine AW.seq_k fun K hK => ?_
 refine AW.sr 1 fun K hK => ?_
 simp only [push_cast, simprocAttr, w8, pk_12]
 apply hK;clear hK K
 refine AW.cond_t rfl ?_
 refine AW.skip ?_
 apply hK;clear hK K
 refine AW.cond_t rfl ?_
 refine AW.sr 1 fun K hK => ?_
 simp only [push_cast, simprocAttr, w8, pk_12]
 apply hK;clear hK K
 refine AW.ret ?_
 refine InB_r ?_
 refine Thn_r ?_
 refine hQ _ _ _ ?_
 first | refine RetP.drop0 (Or.inr rfl) ?_ ?_ hwf | refine RetP.drop (Or.inr rfl) ?_ ?_ hwf
 · simp only [resA, resOne, resTv, AV.tv, push_cast, simprocAttr, w8, pk_12]
 · rfl
theorem rsz1_c (w h : Nat) (hw0 : 1 ≤ w) (hw : w ≤ 64) (hh0 : 1 ≤ h) (hh : h ≤ 64) (m : AMem) : Ctr Tryz.prog 66 [.one (.int .i64 1), .one (.int .i64 (w : Int)), .one (.int .i64 (h : Int))] m (.one (.int .i64 (szZ w h 1))) m := by
 refine Ctr.enter Tryz.func66 rfl (by decide) (rs := [.tmp 6]) (nt := 34) rfl rfl fun hwf Q hQ => ?_
 have hb := wh_b hw hh
 have g1 : (1 : Int) ≤ (w : Int) := by omega
 have g2 : (w : Int) ≤ 64 := by omega
 have g3 : (1 : Int) ≤ (h : Int) := by omega
 have g4 : (h : Int) ≤ 64 := by omega
 obtain ⟨q, hq⟩ : ∃ q, q = (w : Int) * (h : Int) := ⟨_, rfl⟩
 rw [← hq] at hb
 have e1 : (54 : Int) * (w : Int) * (h : Int) = 54 * q := by rw [hq, Int.mul_assoc]
 have e2 : (15 : Int) * (w : Int) * (h : Int) = 15 * q := by rw [hq, Int.mul_assoc]
 have e3 : (3 : Int) * (w : Int) * (h : Int) = 3 * q := by rw [hq, Int.mul_assoc]
 have w0 : IntKind.i64.wrap q = q := wi (by omega)
 have w1 : IntKind.i64.wrap (54 * q) = 54 * q := wi (by omega)
 have w2 : IntKind.i64.wrap (4 + 54 * q) = 4 + 54 * q := wi (by omega)
 have w3 : IntKind.i64.wrap (15 * q) = 15 * q := wi (by omega)
 have w4 : IntKind.i64.wrap (4 + 15 * q) = 4 + 15 * q := wi (by omega)
 have w5 : IntKind.i64.wrap (3 * q) = 3 * q := wi (by omega)
 have w6 : IntKind.i64.wrap (54 * (w : Int)) = 54 * (w : Int) := wi (by omega)
 have w7 : IntKind.i64.wrap (15 * (w : Int)) = 15 * (w : Int) := wi (by omega)
 have w8 : IntKind.i64.wrap (3 * (w : Int)) = 3 * (w : Int) := wi (by omega)
 have hl := hdB_len (w := w) (h := h) (by omega) (by omega)
 have w9 : IntKind.i64.wrap (((hdI w h).length : Int) + 3 * q) = ((hdI w h).length : Int) + 3 * q := wi (by rw [hdI_len]; omega)
 have hq2 := hq.symm
 have hz : szZ w h 1 = 4 + 15 * q := by show 4 + 15 * ((w : Int) * (h : Int)) = _; rw [← hq]
 refine AW.sr 1 fun K hK => ?_
 have pk_13 : _ ∧ _ ∧ _ ∧ _ ∧ _ ∧ _ ∧ _ ∧ _ ∧ _ ∧ _ ∧ _ ∧ _ ∧ _ ∧ _ ∧ _ ∧ _ ∧ _ ∧ _ := ⟨g1, g2, g3, g4, e1, e2, e3, w0, w1, w2, w3, w4, w5, w6, w7, w9, hq2, hz⟩
 simp only [push_cast, simprocAttr, w8, pk_13]
 apply hK;clear hK K
 refine AW.seq_k fun K hK => ?_
 refine AW.sr 1 fun K hK => ?_
 simp only [push_cast, simprocAttr, w8, pk_13]
 apply hK;clear hK K
 refine AW.block ?_
 refine AW.sr 1 fun K hK => ?_
 simp only [push_cast, simprocAttr, w8, pk_13]
 apply hK;clear hK K
 refine AW.cond_f rfl ?_
 refine AW.seq_k fun K hK => ?_
 refine AW.sr 1 fun K hK => ?_
 simp only [push_cast, simprocAttr, w8, pk_13]
 apply hK;clear hK K
 refine AW.cond_t rfl ?_
 refine AW.skip ?_
 apply hK;clear hK K
 refine AW.cond_t rfl ?_
 refine AW.sr 1 fun K hK => ?_
 simp only [push_cast, simprocAttr, w8, pk_13]
 apply hK;clear hK K
 refine AW.ret ?_
 refine InB_r ?_
 refine Thn_r ?_
 refine hQ _ _ _ ?_
 first | refine RetP.drop0 (Or.inr rfl) ?_ ?_ hwf | refine RetP.drop (Or.inr rfl) ?_ ?_ hwf
 · simp only [resA, resOne, resTv, AV.tv, push_cast, simprocAttr, w8, pk_13]
 · rfl
theorem csz2_c (w h : Nat) (hw0 : 1 ≤ w) (hw : w ≤ 64) (hh0 : 1 ≤ h) (hh : h ≤ 64) (m : AMem) : Ctr Tryz.prog 62 [.one (.int .i64 2), .agg [.int .i64 (w : Int), .int .i64 (h : Int)]] m (.one (.int .i64 (szZ w h 2))) m := by
 refine Ctr.enter Tryz.func62 rfl (by decide) (rs := [.tmp 4]) (nt := 27) rfl rfl fun hwf Q hQ => ?_
 have hb := wh_b hw hh
 have g1 : (1 : Int) ≤ (w : Int) := by omega
 have g2 : (w : Int) ≤ 64 := by omega
 have g3 : (1 : Int) ≤ (h : Int) := by omega
 have g4 : (h : Int) ≤ 64 := by omega
 obtain ⟨q, hq⟩ : ∃ q, q = (w : Int) * (h : Int) := ⟨_, rfl⟩
 rw [← hq] at hb
 have e1 : (54 : Int) * (w : Int) * (h : Int) = 54 * q := by rw [hq, Int.mul_assoc]
 have e2 : (15 : Int) * (w : Int) * (h : Int) = 15 * q := by rw [hq, Int.mul_assoc]
 have e3 : (3 : Int) * (w : Int) * (h : Int) = 3 * q := by rw [hq, Int.mul_assoc]
 have w0 : IntKind.i64.wrap q = q := wi (by omega)
 have w1 : IntKind.i64.wrap (54 * q) = 54 * q := wi (by omega)
 have w2 : IntKind.i64.wrap (4 + 54 * q) = 4 + 54 * q := wi (by omega)
 have w3 : IntKind.i64.wrap (15 * q) = 15 * q := wi (by omega)
 have w4 : IntKind.i64.wrap (4 + 15 * q) = 4 + 15 * q := wi (by omega)
 have w5 : IntKind.i64.wrap (3 * q) = 3 * q := wi (by omega)
 have w6 : IntKind.i64.wrap (54 * (w : Int)) = 54 * (w : Int) := wi (by omega)
 have w7 : IntKind.i64.wrap (15 * (w : Int)) = 15 * (w : Int) := wi (by omega)
 have w8 : IntKind.i64.wrap (3 * (w : Int)) = 3 * (w : Int) := wi (by omega)
 have hl := hdB_len (w := w) (h := h) (by omega) (by omega)
 have w9 : IntKind.i64.wrap (((hdI w h).length : Int) + 3 * q) = ((hdI w h).length : Int) + 3 * q := wi (by rw [hdI_len]; omega)
 have hq2 := hq.symm
 have hz : szZ w h 2 = 4 + 15 * q := by show 4 + 15 * ((w : Int) * (h : Int)) = _; rw [← hq]
 refine AW.sr 1 fun K hK => ?_
 have pk_14 : _ ∧ _ ∧ _ ∧ _ ∧ _ ∧ _ ∧ _ ∧ _ ∧ _ ∧ _ ∧ _ ∧ _ ∧ _ ∧ _ ∧ _ ∧ _ ∧ _ ∧ _ := ⟨g1, g2, g3, g4, e1, e2, e3, w0, w1, w2, w3, w4, w5, w6, w7, w9, hq2, hz⟩
 simp only [push_cast, simprocAttr, w8, pk_14]
 apply hK;clear hK K
 refine AW.seq_k fun K hK => ?_
 refine AW.sr 1 fun K hK => ?_
 simp only [push_cast, simprocAttr, w8, pk_14]
 refine CThen.by (szr_c w h hw0 hw hh0 hh _) ?_
 simp only [push_cast, simprocAttr, w8, pk_14]
 apply hK;clear hK K
 refine AW.cond_f rfl ?_
 refine AW.skip ?_
 apply hK;clear hK K
 refine AW.sr 1 fun K hK => ?_
 simp only [push_cast, simprocAttr, w8, pk_14]
 refine CThen.by (szp_c w h hw0 hw hh0 hh _) ?_
 simp only [push_cast, simprocAttr, w8, pk_14]
 apply hK;clear hK K
 refine AW.seq_k fun K hK => ?_
 refine AW.sr 1 fun K hK => ?_
 simp only [push_cast, simprocAttr, w8, pk_14]
 apply hK;clear hK K
 refine AW.block ?_
 refine AW.sr 1 fun K hK => ?_
 simp only [push_cast, simprocAttr, w8, pk_14]
 apply hK;clear hK K
 refine AW.cond_f rfl ?_
 refine AW.seq_k fun K hK => ?_
 refine AW.sr 1 fun K hK => ?_
 simp only [push_cast, simprocAttr, w8, pk_14]
 apply hK;clear hK K
 refine AW.cond_f rfl ?_
 refine AW.rg ?_
 simp only [push_cast, simprocAttr, w8, pk_14]
 apply hK;clear hK K
 refine AW.cond_t rfl ?_
 refine AW.sr 1 fun K hK => ?_
 simp only [push_cast, simprocAttr, w8, pk_14]
 apply hK;clear hK K
 refine AW.ret ?_
 refine InB_r ?_
 refine Thn_r ?_
 refine hQ _ _ _ ?_
 first | refine RetP.drop0 (Or.inr rfl) ?_ ?_ hwf | refine RetP.drop (Or.inr rfl) ?_ ?_ hwf
 · simp only [resA, resOne, resTv, AV.tv, push_cast, simprocAttr, w8, pk_14]
 · rfl
theorem rsz2_c (w h : Nat) (hw0 : 1 ≤ w) (hw : w ≤ 64) (hh0 : 1 ≤ h) (hh : h ≤ 64) (m : AMem) : Ctr Tryz.prog 66 [.one (.int .i64 2), .one (.int .i64 (w : Int)), .one (.int .i64 (h : Int))] m (.one (.int .i64 (szZ w h 2))) m := by
 refine Ctr.enter Tryz.func66 rfl (by decide) (rs := [.tmp 6]) (nt := 34) rfl rfl fun hwf Q hQ => ?_
 have hb := wh_b hw hh
 have g1 : (1 : Int) ≤ (w : Int) := by omega
 have g2 : (w : Int) ≤ 64 := by omega
 have g3 : (1 : Int) ≤ (h : Int) := by omega
 have g4 : (h : Int) ≤ 64 := by omega
 obtain ⟨q, hq⟩ : ∃ q, q = (w : Int) * (h : Int) := ⟨_, rfl⟩
 rw [← hq] at hb
 have e1 : (54 : Int) * (w : Int) * (h : Int) = 54 * q := by rw [hq, Int.mul_assoc]
 have e2 : (15 : Int) * (w : Int) * (h : Int) = 15 * q := by rw [hq, Int.mul_assoc]
 have e3 : (3 : Int) * (w : Int) * (h : Int) = 3 * q := by rw [hq, Int.mul_assoc]
 have w0 : IntKind.i64.wrap q = q := wi (by omega)
 have w1 : IntKind.i64.wrap (54 * q) = 54 * q := wi (by omega)
 have w2 : IntKind.i64.wrap (4 + 54 * q) = 4 + 54 * q := wi (by omega)
 have w3 : IntKind.i64.wrap (15 * q) = 15 * q := wi (by omega)
 have w4 : IntKind.i64.wrap (4 + 15 * q) = 4 + 15 * q := wi (by omega)
 have w5 : IntKind.i64.wrap (3 * q) = 3 * q := wi (by omega)
 have w6 : IntKind.i64.wrap (54 * (w : Int)) = 54 * (w : Int) := wi (by omega)
 have w7 : IntKind.i64.wrap (15 * (w : Int)) = 15 * (w : Int) := wi (by omega)
 have w8 : IntKind.i64.wrap (3 * (w : Int)) = 3 * (w : Int) := wi (by omega)
 have hl := hdB_len (w := w) (h := h) (by omega) (by omega)
 have w9 : IntKind.i64.wrap (((hdI w h).length : Int) + 3 * q) = ((hdI w h).length : Int) + 3 * q := wi (by rw [hdI_len]; omega)
 have hq2 := hq.symm
 have hz : szZ w h 2 = 4 + 15 * q := by show 4 + 15 * ((w : Int) * (h : Int)) = _; rw [← hq]
 refine AW.sr 1 fun K hK => ?_
 have pk_15 : _ ∧ _ ∧ _ ∧ _ ∧ _ ∧ _ ∧ _ ∧ _ ∧ _ ∧ _ ∧ _ ∧ _ ∧ _ ∧ _ ∧ _ ∧ _ ∧ _ ∧ _ := ⟨g1, g2, g3, g4, e1, e2, e3, w0, w1, w2, w3, w4, w5, w6, w7, w9, hq2, hz⟩
 simp only [push_cast, simprocAttr, w8, pk_15]
 apply hK;clear hK K
 refine AW.seq_k fun K hK => ?_
 refine AW.sr 1 fun K hK => ?_
 simp only [push_cast, simprocAttr, w8, pk_15]
 apply hK;clear hK K
 refine AW.block ?_
 refine AW.sr 1 fun K hK => ?_
 simp only [push_cast, simprocAttr, w8, pk_15]
 apply hK;clear hK K
 refine AW.cond_f rfl ?_
 refine AW.seq_k fun K hK => ?_
 refine AW.sr 1 fun K hK => ?_
 simp only [push_cast, simprocAttr, w8, pk_15]
 apply hK;clear hK K
 refine AW.cond_f rfl ?_
 refine AW.rg ?_
 simp only [push_cast, simprocAttr, w8, pk_15]
 apply hK;clear hK K
 refine AW.cond_t rfl ?_
 refine AW.sr 1 fun K hK => ?_
 simp only [push_cast, simprocAttr, w8, pk_15]
 apply hK;clear hK K
 refine AW.ret ?_
 refine InB_r ?_
 refine Thn_r ?_
 refine hQ _ _ _ ?_
 first | refine RetP.drop0 (Or.inr rfl) ?_ ?_ hwf | refine RetP.drop (Or.inr rfl) ?_ ?_ hwf
 · simp only [resA, resOne, resTv, AV.tv, push_cast, simprocAttr, w8, pk_15]
 · rfl
theorem csz3_c (w h : Nat) (hw0 : 1 ≤ w) (hw : w ≤ 64) (hh0 : 1 ≤ h) (hh : h ≤ 64) (m : AMem) : Ctr Tryz.prog 62 [.one (.int .i64 3), .agg [.int .i64 (w : Int), .int .i64 (h : Int)]] m (.one (.int .i64 (szZ w h 3))) m := by
 refine Ctr.enter Tryz.func62 rfl (by decide) (rs := [.tmp 4]) (nt := 27) rfl rfl fun hwf Q hQ => ?_
 have hb := wh_b hw hh
 have g1 : (1 : Int) ≤ (w : Int) := by omega
 have g2 : (w : Int) ≤ 64 := by omega
 have g3 : (1 : Int) ≤ (h : Int) := by omega
 have g4 : (h : Int) ≤ 64 := by omega
 obtain ⟨q, hq⟩ : ∃ q, q = (w : Int) * (h : Int) := ⟨_, rfl⟩
 rw [← hq] at hb
 have e1 : (54 : Int) * (w : Int) * (h : Int) = 54 * q := by rw [hq, Int.mul_assoc]
 have e2 : (15 : Int) * (w : Int) * (h : Int) = 15 * q := by rw [hq, Int.mul_assoc]
 have e3 : (3 : Int) * (w : Int) * (h : Int) = 3 * q := by rw [hq, Int.mul_assoc]
 have w0 : IntKind.i64.wrap q = q := wi (by omega)
 have w1 : IntKind.i64.wrap (54 * q) = 54 * q := wi (by omega)
 have w2 : IntKind.i64.wrap (4 + 54 * q) = 4 + 54 * q := wi (by omega)
 have w3 : IntKind.i64.wrap (15 * q) = 15 * q := wi (by omega)
 have w4 : IntKind.i64.wrap (4 + 15 * q) = 4 + 15 * q := wi (by omega)
 have w5 : IntKind.i64.wrap (3 * q) = 3 * q := wi (by omega)
 have w6 : IntKind.i64.wrap (54 * (w : Int)) = 54 * (w : Int) := wi (by omega)
 have w7 : IntKind.i64.wrap (15 * (w : Int)) = 15 * (w : Int) := wi (by omega)
 have w8 : IntKind.i64.wrap (3 * (w : Int)) = 3 * (w : Int) := wi (by omega)
 have hl := hdB_len (w := w) (h := h) (by omega) (by omega)
 have w9 : IntKind.i64.wrap (((hdI w h).length : Int) + 3 * q) = ((hdI w h).length : Int) + 3 * q := wi (by rw [hdI_len]; omega)
 have hq2 := hq.symm
 have hz : szZ w h 3 = ((hdI w h).length : Int) + 3 * q := by show ((hdI w h).length : Int) + 3 * ((w : Int) * (h : Int)) = _; rw [← hq]
 refine AW.sr 1 fun K hK => ?_
 have pk_16 : _ ∧ _ ∧ _ ∧ _ ∧ _ ∧ _ ∧ _ ∧ _ ∧ _ ∧ _ ∧ _ ∧ _ ∧ _ ∧ _ ∧ _ ∧ _ ∧ _ ∧ _ := ⟨g1, g2, g3, g4, e1, e2, e3, w0, w1, w2, w3, w4, w5, w6, w7, w9, hq2, hz⟩
 simp only [push_cast, simprocAttr, w8, pk_16]
 apply hK;clear hK K
 refine AW.seq_k fun K hK => ?_
 refine AW.sr 1 fun K hK => ?_
 simp only [push_cast, simprocAttr, w8, pk_16]
 refine CThen.by (szr_c w h hw0 hw hh0 hh _) ?_
 simp only [push_cast, simprocAttr, w8, pk_16]
 apply hK;clear hK K
 refine AW.cond_f rfl ?_
 refine AW.skip ?_
 apply hK;clear hK K
 refine AW.sr 1 fun K hK => ?_
 simp only [push_cast, simprocAttr, w8, pk_16]
 refine CThen.by (szp_c w h hw0 hw hh0 hh _) ?_
 simp only [push_cast, simprocAttr, w8, pk_16]
 apply hK;clear hK K
 refine AW.seq_k fun K hK => ?_
 refine AW.sr 1 fun K hK => ?_
 simp only [push_cast, simprocAttr, w8, pk_16]
 apply hK;clear hK K
 refine AW.block ?_
 refine AW.sr 1 fun K hK => ?_
 simp only [push_cast, simprocAttr, w8, pk_16]
 apply hK;clear hK K
 refine AW.cond_f rfl ?_
 refine AW.seq_k fun K hK => ?_
 refine AW.sr 1 fun K hK => ?_
 simp only [push_cast, simprocAttr, w8, pk_16]
 apply hK;clear hK K
 refine AW.cond_f rfl ?_
 refine AW.rg ?_
 simp only [push_cast, simprocAttr, w8, pk_16]
 apply hK;clear hK K
 refine AW.cond_f rfl ?_
 refine AW.sr 1 fun K hK => ?_
 simp only [push_cast, simprocAttr, w8, pk_16]
 apply hK;clear hK K
 refine AW.cond_t rfl ?_
 refine AW.sr 1 fun K hK => ?_
 simp only [push_cast, simprocAttr, w8, pk_16]
 refine CThen.by (pby_c w h hw0 hw hh0 hh _) ?_
 simp only [push_cast, simprocAttr, w8, pk_16]
 apply hK;clear hK K
 refine AW.ret ?_
 refine InB_r ?_
 refine Thn_r ?_
 refine hQ _ _ _ ?_
 first | refine RetP.drop0 (Or.inr rfl) ?_ ?_ hwf | refine RetP.drop (Or.inr rfl) ?_ ?_ hwf
 · simp only [resA, resOne, resTv, AV.tv, push_cast, simprocAttr, w8, pk_16]
 · rfl
theorem rsz3_c (w h : Nat) (hw0 : 1 ≤ w) (hw : w ≤ 64) (hh0 : 1 ≤ h) (hh : h ≤ 64) (m : AMem) : Ctr Tryz.prog 66 [.one (.int .i64 3), .one (.int .i64 (w : Int)), .one (.int .i64 (h : Int))] m (.one (.int .i64 (szZ w h 3))) m := by
 refine Ctr.enter Tryz.func66 rfl (by decide) (rs := [.tmp 6]) (nt := 34) rfl rfl fun hwf Q hQ => ?_
 have hb := wh_b hw hh
 have g1 : (1 : Int) ≤ (w : Int) := by omega
 have g2 : (w : Int) ≤ 64 := by omega
 have g3 : (1 : Int) ≤ (h : Int) := by omega
 have g4 : (h : Int) ≤ 64 := by omega
 obtain ⟨q, hq⟩ : ∃ q, q = (w : Int) * (h : Int) := ⟨_, rfl⟩
 rw [← hq] at hb
 have e1 : (54 : Int) * (w : Int) * (h : Int) = 54 * q := by rw [hq, Int.mul_assoc]
 have e2 : (15 : Int) * (w : Int) * (h : Int) = 15 * q := by rw [hq, Int.mul_assoc]
 have e3 : (3 : Int) * (w : Int) * (h : Int) = 3 * q := by rw [hq, Int.mul_assoc]
 have w0 : IntKind.i64.wrap q = q := wi (by omega)
 have w1 : IntKind.i64.wrap (54 * q) = 54 * q := wi (by omega)
 have w2 : IntKind.i64.wrap (4 + 54 * q) = 4 + 54 * q := wi (by omega)
 have w3 : IntKind.i64.wrap (15 * q) = 15 * q := wi (by omega)
 have w4 : IntKind.i64.wrap (4 + 15 * q) = 4 + 15 * q := wi (by omega)
 have w5 : IntKind.i64.wrap (3 * q) = 3 * q := wi (by omega)
 have w6 : IntKind.i64.wrap (54 * (w : Int)) = 54 * (w : Int) := wi (by omega)
 have w7 : IntKind.i64.wrap (15 * (w : Int)) = 15 * (w : Int) := wi (by omega)
 have w8 : IntKind.i64.wrap (3 * (w : Int)) = 3 * (w : Int) := wi (by omega)
 have hl := hdB_len (w := w) (h := h) (by omega) (by omega)
 have w9 : IntKind.i64.wrap (((hdI w h).length : Int) + 3 * q) = ((hdI w h).length : Int) + 3 * q := wi (by rw [hdI_len]; omega)
 have hq2 := hq.symm
 have hz : szZ w h 3 = ((hdI w h).length : Int) + 3 * q := by show ((hdI w h).length : Int) + 3 * ((w : Int) * (h : Int)) = _; rw [← hq]
 refine AW.sr 1 fun K hK => ?_
 have pk_17 : _ ∧ _ ∧ _ ∧ _ ∧ _ ∧ _ ∧ _ ∧ _ ∧ _ ∧ _ ∧ _ ∧ _ ∧ _ ∧ _ ∧ _ ∧ _ ∧ _ ∧ _ := ⟨g1, g2, g3, g4, e1, e2, e3, w0, w1, w2, w3, w4, w5, w6, w7, w9, hq2, hz⟩
 simp only [push_cast, simprocAttr, w8, pk_17]
 apply hK;clear hK K
 refine AW.seq_k fun K hK => ?_
 refine AW.sr 1 fun K hK => ?_
 simp only [push_cast, simprocAttr, w8, pk_17]
 apply hK;clear hK K
 refine AW.block ?_
 refine AW.sr 1 fun K hK => ?_
 simp only [push_cast, simprocAttr, w8, pk_17]
 apply hK;clear hK K
 refine AW.cond_f rfl ?_
 refine AW.seq_k fun K hK => ?_
 refine AW.sr 1 fun K hK => ?_
 simp only [push_cast, simprocAttr, w8, pk_17]
 apply hK;clear hK K
 refine AW.cond_f rfl ?_
 refine AW.rg ?_
 simp only [push_cast, simprocAttr, w8, pk_17]
 apply hK;clear hK K
 refine AW.cond_f rfl ?_
 refine AW.sr 1 fun K hK => ?_
 simp only [push_cast, simprocAttr, w8, pk_17]
 apply hK;clear hK K
 refine AW.cond_t rfl ?_
 refine AW.sr 1 fun K hK => ?_
 simp only [push_cast, simprocAttr, w8, pk_17]
 refine CThen.by (rhead_c w h (by omega) (by omega) _) ?_
 simp only [push_cast, simprocAttr, w8, pk_17]
 apply hK;clear hK K
 refine AW.ret ?_
 refine InB_r ?_
 refine Thn_r ?_
 refine hQ _ _ _ ?_
 first | refine RetP.drop0 (Or.inr rfl) ?_ ?_ hwf | refine RetP.drop (Or.inr rfl) ?_ ?_ hwf
 · simp only [resA, resOne, resTv, AV.tv, push_cast, simprocAttr, w8, pk_17]
 · rfl
theorem mul_bd {a b A B : Int} (ha : 0 ≤ a ∧ a ≤ A) (hb : 0 ≤ b ∧ b ≤ B) : 0 ≤ a * b ∧ a * b ≤ A * B := by
 constructor
 ·exact Int.mul_nonneg ha.1 hb.1
 ·have h1 : a * b ≤ A * b := Int.mul_le_mul_of_nonneg_right ha.2 hb.1
  have h2 : A * b ≤ A * B := Int.mul_le_mul_of_nonneg_left hb.2 (by omega)
  omega
theorem hd_b {s : SC} (h : HdR s) : 1 ≤ s.w ∧ s.w ≤ 64 ∧ 1 ≤ s.h ∧ s.h ≤ 64 ∧ 1 ≤ s.sm ∧ s.sm ≤ 16 ∧ 1 ≤ s.dp ∧ s.dp ≤ 6 ∧ 1 ≤ s.fr ∧ s.fr ≤ 32 := by
 have h1 := inB_iff.1 h.1
 have h2 := inB_iff.1 h.2.1
 have h3 := inB_iff.1 h.2.2.1
 have h4 := inB_iff.1 h.2.2.2.1
 have h5 := inB_iff.1 h.2.2.2.2.1
 omega
def wN (s : SC) : Nat := s.w.toNat
def hN (s : SC) : Nat := s.h.toNat
def nk (s : SC) (k : Nat) : Int := ndZ (szZ (wN s) (hN s) k)
def bdZ (s : SC) : Int := ndZ ((encX s).bs.length : Int) + s.fr * (nk s 0 + (nk s 1 + (nk s 2 + nk s 3)))
def raZ (s : SC) : Int := 2 * (s.w * s.h * s.fr * s.sm * s.dp)
def maN (s : SC) : Int := maxI (s.nx : Int) 1
def costF (s : SC) : Nat → Int
 | 0 => 4 * s.fr
 | 1 => raZ s
 | 2 => raZ s * maN s
 | 3 => 1 + 4 * s.fr
 | _ + 4 => bdZ s
theorem sz_b {w h : Nat} (hw0 : 1 ≤ w) (hw : w ≤ 64) (hh0 : 1 ≤ h) (hh : h ≤ 64) (k : Nat) : 0 ≤ szZ w h k ∧ szZ w h k ≤ 1000000 := by
 have hb := wh_b hw hh
 have hl := hdB_len (w := w) (h := h) (by omega) (by omega)
 have hl2 := hdI_len w h
 match k with
 | 0 => show 0 ≤ 4 + 54 * ((w : Int) * (h : Int)) ∧ 4 + 54 * ((w : Int) * (h : Int)) ≤ _; omega
 | 1 => show 0 ≤ 4 + 15 * ((w : Int) * (h : Int)) ∧ 4 + 15 * ((w : Int) * (h : Int)) ≤ _; omega
 | 2 => show 0 ≤ 4 + 15 * ((w : Int) * (h : Int)) ∧ 4 + 15 * ((w : Int) * (h : Int)) ≤ _; omega
 | k + 3 => show 0 ≤ ((hdI w h).length : Int) + 3 * ((w : Int) * (h : Int)) ∧ ((hdI w h).length : Int) + 3 * ((w : Int) * (h : Int)) ≤ _; omega
theorem enc_b {s : SC} (hG : GdS s) : (encX s).bs.length ≤ 1000000 := by
 have h1 := knS_le hG s.nt (Nat.le_refl _)
 have h2 := shN'_le s s.nx
 have := hG.p
 have := hG.t
 have := hG.j
 have := hG.x
 rw [encX_len]; omega
theorem nk_b {s : SC} (hG : GdS s) (k : Nat) : 0 ≤ nk s k ∧ nk s k ≤ 10000 := by
 have hb := hd_b hG.hd
 have h1 := sz_b (w := wN s) (h := hN s) (by unfold wN; omega) (by unfold wN; omega) (by unfold hN; omega) (by unfold hN; omega) k
 unfold nk ndZ; omega
theorem costF_b {s : SC} (hG : GdS s) (j : Nat) : 0 ≤ costF s j ∧ costF s j ≤ 10000000000 := by
 have hb := hd_b hG.hd
 have h1 := mul_bd (a := s.w) (b := s.h) (A := 64) (B := 64) (by omega) (by omega)
 have h2 := mul_bd (b := s.fr) (B := 32) h1 (by omega)
 have h3 := mul_bd (b := s.sm) (B := 16) h2 (by omega)
 have h4 := mul_bd (b := s.dp) (B := 6) h3 (by omega)
 have hra : 0 ≤ raZ s ∧ raZ s ≤ 30000000 := by unfold raZ; omega
 have hma : 0 ≤ maN s ∧ maN s ≤ 128 := by have := hG.x; unfold maN maxI; split <;> omega
 have h5 := mul_bd hra hma
 have k0 := nk_b hG 0
 have k1 := nk_b hG 1
 have k2 := nk_b hG 2
 have k3 := nk_b hG 3
 have he := enc_b hG
 have h6 := mul_bd (a := s.fr) (b := nk s 0 + (nk s 1 + (nk s 2 + nk s 3))) (A := 32) (B := 40000) (by omega) (by omega)
 match j with
 | 0 => show 0 ≤ 4 * s.fr ∧ 4 * s.fr ≤ _; omega
 | 1 => exact ⟨hra.1, by show raZ s ≤ _; omega⟩
 | 2 => exact ⟨h5.1, by show raZ s * maN s ≤ _; omega⟩
 | 3 => show 0 ≤ 1 + 4 * s.fr ∧ 1 + 4 * s.fr ≤ _; omega
 | j + 4 => show 0 ≤ bdZ s ∧ bdZ s ≤ _; unfold bdZ; unfold ndZ; omega
theorem cbd_c (s : SC) (R : RWs) (m : AMem) (hR : ScR 107 75 119 112 117 m s R) (hsd : 0 ≤ s.sd ∧ s.sd ≤ 18446744073709551615) (hc : (chkV s).1 = 0) : Ctr Tryz.prog 35 [.agg (scC s R)] m (.tup [(false, [.int .i64 (1 + 4 * s.fr)]), (false, [.int .i64 (bdZ s)])]) m := by
 refine Ctr.enter Tryz.func35 rfl (by decide) (rs := [.tmp 2, .tmp 3]) (nt := 43) rfl rfl fun hwf Q hQ => ?_
 obtain ⟨hG, hC⟩ := chk_good hc
 obtain ⟨b1, b2, b3, b4, b5, b6, b7, b8, b9, b10⟩ := hd_b hG.hd
 have hlt0 : ∀ k, ¬ m.length + k < m.length := fun k => by omega
 have hwN : s.w = ((wN s : Nat) : Int) := by unfold wN; omega
 have hhN : s.h = ((hN s : Nat) : Int) := by unfold hN; omega
 have a1 : 1 ≤ wN s := by unfold wN; omega
 have a2 : wN s ≤ 64 := by unfold wN; omega
 have a3 : 1 ≤ hN s := by unfold hN; omega
 have a4 : hN s ≤ 64 := by unfold hN; omega
 have he := enc_b hG
 obtain ⟨b, hb⟩ : ∃ b, b = ndZ ((encX s).bs.length : Int) := ⟨_, rfl⟩
 have hbb : 0 ≤ b ∧ b ≤ 10000 := by rw [hb]; unfold ndZ; omega
 have zb := fun k => sz_b a1 a2 a3 a4 k
 have wF : IntKind.i64.wrap (4 * s.fr) = 4 * s.fr := wi (by omega)
 have wG : IntKind.i64.wrap (1 + 4 * s.fr) = 1 + 4 * s.fr := wi (by omega)
 have hb' := hb.symm
 obtain ⟨n0, hn0⟩ : ∃ n, n = nk s 0 := ⟨_, rfl⟩
 have nb0 := nk_b hG 0
 rw [← hn0] at nb0
 have hz0 : ndZ (szZ (wN s) (hN s) 0) = n0 := hn0.symm
 obtain ⟨n1, hn1⟩ : ∃ n, n = nk s 1 := ⟨_, rfl⟩
 have nb1 := nk_b hG 1
 rw [← hn1] at nb1
 have hz1 : ndZ (szZ (wN s) (hN s) 1) = n1 := hn1.symm
 obtain ⟨n2, hn2⟩ : ∃ n, n = nk s 2 := ⟨_, rfl⟩
 have nb2 := nk_b hG 2
 rw [← hn2] at nb2
 have hz2 : ndZ (szZ (wN s) (hN s) 2) = n2 := hn2.symm
 obtain ⟨n3, hn3⟩ : ∃ n, n = nk s 3 := ⟨_, rfl⟩
 have nb3 := nk_b hG 3
 rw [← hn3] at nb3
 have hz3 : ndZ (szZ (wN s) (hN s) 3) = n3 := hn3.symm
 obtain ⟨p0, hp0⟩ : ∃ p, p = s.fr * n0 := ⟨_, rfl⟩
 have pb0 := mul_bd (a := s.fr) (b := n0) (A := 32) (B := 10000) (by omega) nb0
 rw [← hp0] at pb0
 have wp0 : IntKind.i64.wrap p0 = p0 := wi (by omega)
 have hp0' := hp0.symm
 obtain ⟨p1, hp1⟩ : ∃ p, p = s.fr * n1 := ⟨_, rfl⟩
 have pb1 := mul_bd (a := s.fr) (b := n1) (A := 32) (B := 10000) (by omega) nb1
 rw [← hp1] at pb1
 have wp1 : IntKind.i64.wrap p1 = p1 := wi (by omega)
 have hp1' := hp1.symm
 obtain ⟨p2, hp2⟩ : ∃ p, p = s.fr * n2 := ⟨_, rfl⟩
 have pb2 := mul_bd (a := s.fr) (b := n2) (A := 32) (B := 10000) (by omega) nb2
 rw [← hp2] at pb2
 have wp2 : IntKind.i64.wrap p2 = p2 := wi (by omega)
 have hp2' := hp2.symm
 obtain ⟨p3, hp3⟩ : ∃ p, p = s.fr * n3 := ⟨_, rfl⟩
 have pb3 := mul_bd (a := s.fr) (b := n3) (A := 32) (B := 10000) (by omega) nb3
 rw [← hp3] at pb3
 have wp3 : IntKind.i64.wrap p3 = p3 := wi (by omega)
 have hp3' := hp3.symm
 have s0 : IntKind.i64.wrap (b + p0) = b + p0 := wi (by omega)
 have s1 : IntKind.i64.wrap (b + p0 + p1) = b + p0 + p1 := wi (by omega)
 have s2 : IntKind.i64.wrap (b + p0 + p1 + p2) = b + p0 + p1 + p2 := wi (by omega)
 have hbd : b + p0 + p1 + p2 + p3 = bdZ s := by unfold bdZ; rw [← hb, ← hn0, ← hn1, ← hn2, ← hn3, Int.mul_add, Int.mul_add, Int.mul_add, ← hp0, ← hp1, ← hp2, ← hp3]; omega
 have s3 : IntKind.i64.wrap (bdZ s) = bdZ s := by rw [← hbd]; exact wi (by omega)
 refine AW.sr 2 fun K hK => ?_
 have pk_1 : _ ∧ _ ∧ _ ∧ _ ∧ _ ∧ _ ∧ _ ∧ _ ∧ _ ∧ _ ∧ _ ∧ _ ∧ _ ∧ _ ∧ _ ∧ _ ∧ _ ∧ _ ∧ _ ∧ _ := ⟨hb', hz0, hz1, hz2, hz3, wF, wG, hp0', hp1', hp2', hp3', wp0, wp1, wp2, wp3, s0, s1, s2, s3, hbd⟩
 simp only [push_cast, simprocAttr, scC, hdC, tlC, c3C, pk_1]
 refine CThen.by (jenc_c s R _ (hR.app _) hsd hc) ?_
 simp only [push_cast, simprocAttr, scC, hdC, tlC, c3C, pk_1]
 apply hK;clear hK K
 refine AW.seq_k fun K hK => ?_
 refine AW.sr 1 fun K hK => ?_
 simp only [push_cast, simprocAttr, scC, hdC, tlC, c3C, pk_1]
 apply hK;clear hK K
 refine AW.cond_f rfl ?_
 refine AW.skip ?_
 apply hK;clear hK K
 refine AW.sr 1 fun K hK => ?_
 simp only [push_cast, simprocAttr, scC, hdC, tlC, c3C, pk_1]
 refine CThen.by (cneed_c _ _ (by omega) (by omega)) ?_
 simp only [push_cast, simprocAttr, scC, hdC, tlC, c3C, pk_1]
 apply hK;clear hK K
 refine AW.seq_k fun K hK => ?_
 refine AW.sr 1 fun K hK => ?_
 simp only [push_cast, simprocAttr, scC, hdC, tlC, c3C, pk_1]
 apply hK;clear hK K
 refine AW.block ?_
 refine AW.rounds 5 ?_
 refine ARounds.succ fun K hK => ?_
 refine AW.sr 1 fun K hK => ?_
 simp only [push_cast, simprocAttr, scC, hdC, tlC, c3C, pk_1]
 apply hK;clear hK K
 refine AW.ifT rfl ?_
 refine AW.seq_k fun K hK => ?_
 refine AW.block ?_
 refine AW.sr 1 fun K hK => ?_
 simp only [push_cast, simprocAttr, scC, hdC, tlC, c3C, pk_1]
 apply hK;clear hK K
 refine AW.draw [.val, .val, .val, .rd 0, .val, .val, .val, .rd 0, .val, .val, .rd 0, .val, .ext, .ext, .val, .val, .val] fol (by decide) (by kernel_rfl) ?_
 simp only [push_cast, simprocAttr, scC, hdC, tlC, c3C, pk_1]
 refine DCall.by0 ((by have h := csz0_c (wN s) (hN s) a1 a2 a3 a4; rw [← hwN, ← hhN] at h; exact h _)) ?_
 simp only [push_cast, simprocAttr, scC, hdC, tlC, c3C, pk_1]
 refine DCall.by0 (cneed_c _ _ (zb 0).1 (by have := (zb 0).2; omega)) ?_
 simp only [push_cast, simprocAttr, scC, hdC, tlC, c3C, pk_1]
 refine InB_n ?_
 apply hK;clear hK K
 refine AW.rg ?_
 simp only [push_cast, simprocAttr, scC, hdC, tlC, c3C, pk_1]
 apply hK;clear hK K
 refine ARounds.succ fun K hK => ?_
 refine AW.sr 1 fun K hK => ?_
 simp only [push_cast, simprocAttr, scC, hdC, tlC, c3C, pk_1]
 apply hK;clear hK K
 refine AW.ifT rfl ?_
 refine AW.seq_k fun K hK => ?_
 refine AW.block ?_
 refine AW.sr 1 fun K hK => ?_
 simp only [push_cast, simprocAttr, scC, hdC, tlC, c3C, pk_1]
 apply hK;clear hK K
 refine AW.draw [.val, .val, .val, .rd 0, .val, .val, .val, .rd 0, .val, .val, .rd 0, .val, .ext, .ext, .val, .val, .val] fol (by decide) (by kernel_rfl) ?_
 simp only [push_cast, simprocAttr, scC, hdC, tlC, c3C, pk_1]
 refine DCall.by0 ((by have h := csz1_c (wN s) (hN s) a1 a2 a3 a4; rw [← hwN, ← hhN] at h; exact h _)) ?_
 simp only [push_cast, simprocAttr, scC, hdC, tlC, c3C, pk_1]
 refine DCall.by0 (cneed_c _ _ (zb 1).1 (by have := (zb 1).2; omega)) ?_
 simp only [push_cast, simprocAttr, scC, hdC, tlC, c3C, pk_1]
 refine InB_n ?_
 apply hK;clear hK K
 refine AW.rg ?_
 simp only [push_cast, simprocAttr, scC, hdC, tlC, c3C, pk_1]
 apply hK;clear hK K
 refine ARounds.succ fun K hK => ?_
 refine AW.sr 1 fun K hK => ?_
 simp only [push_cast, simprocAttr, scC, hdC, tlC, c3C, pk_1]
 apply hK;clear hK K
 refine AW.ifT rfl ?_
 refine AW.seq_k fun K hK => ?_
 refine AW.block ?_
 refine AW.sr 1 fun K hK => ?_
 simp only [push_cast, simprocAttr, scC, hdC, tlC, c3C, pk_1]
 apply hK;clear hK K
 refine AW.draw [.val, .val, .val, .rd 0, .val, .val, .val, .rd 0, .val, .val, .rd 0, .val, .ext, .ext, .val, .val, .val] fol (by decide) (by kernel_rfl) ?_
 simp only [push_cast, simprocAttr, scC, hdC, tlC, c3C, pk_1]
 refine DCall.by0 ((by have h := csz2_c (wN s) (hN s) a1 a2 a3 a4; rw [← hwN, ← hhN] at h; exact h _)) ?_
 simp only [push_cast, simprocAttr, scC, hdC, tlC, c3C, pk_1]
 refine DCall.by0 (cneed_c _ _ (zb 2).1 (by have := (zb 2).2; omega)) ?_
 simp only [push_cast, simprocAttr, scC, hdC, tlC, c3C, pk_1]
 refine InB_n ?_
 apply hK;clear hK K
 refine AW.rg ?_
 simp only [push_cast, simprocAttr, scC, hdC, tlC, c3C, pk_1]
 apply hK;clear hK K
 refine ARounds.succ fun K hK => ?_
 refine AW.sr 1 fun K hK => ?_
 simp only [push_cast, simprocAttr, scC, hdC, tlC, c3C, pk_1]
 apply hK;clear hK K
 refine AW.ifT rfl ?_
 refine AW.seq_k fun K hK => ?_
 refine AW.block ?_
 refine AW.sr 1 fun K hK => ?_
 simp only [push_cast, simprocAttr, scC, hdC, tlC, c3C, pk_1]
 apply hK;clear hK K
 refine AW.draw [.val, .val, .val, .rd 0, .val, .val, .val, .rd 0, .val, .val, .rd 0, .val, .ext, .ext, .val, .val, .val] fol (by decide) (by kernel_rfl) ?_
 simp only [push_cast, simprocAttr, scC, hdC, tlC, c3C, pk_1]
 refine DCall.by0 ((by have h := csz3_c (wN s) (hN s) a1 a2 a3 a4; rw [← hwN, ← hhN] at h; exact h _)) ?_
 simp only [push_cast, simprocAttr, scC, hdC, tlC, c3C, pk_1]
 refine DCall.by0 (cneed_c _ _ (zb 3).1 (by have := (zb 3).2; omega)) ?_
 simp only [push_cast, simprocAttr, scC, hdC, tlC, c3C, pk_1]
 refine InB_n ?_
 apply hK;clear hK K
 refine AW.rg ?_
 simp only [push_cast, simprocAttr, scC, hdC, tlC, c3C, pk_1]
 apply hK;clear hK K
 refine ARounds.succ fun K hK => ?_
 refine AW.sr 1 fun K hK => ?_
 simp only [push_cast, simprocAttr, scC, hdC, tlC, c3C, pk_1]
 apply hK;clear hK K
 refine AW.seq_k fun K hK => ?_
 refine AW.cond_f rfl ?_
 refine AW.exit ?_
 refine Thn_e ?_
 clear hK K
 refine Thn_e ?_
 clear hK K
 refine InB_here ?_
 apply hK;clear hK K
 refine AW.sr 1 fun K hK => ?_
 simp only [push_cast, simprocAttr, scC, hdC, tlC, c3C, pk_1]
 apply hK;clear hK K
 refine AW.ret ?_
 refine hQ _ _ _ ?_
 first | refine RetP.drop0 (Or.inr rfl) ?_ ?_ hwf | refine RetP.drop (Or.inr rfl) ?_ ?_ hwf
 · simp only [resA, resOne, resTv, AV.tv, push_cast, simprocAttr, scC, hdC, tlC, c3C, pk_1]
 · rfl
theorem rbd_c (s : SC) (R : RWs) (m : AMem) (hR : ScR 89 93 128 110 99 m s R) (hsd : 0 ≤ s.sd ∧ s.sd ≤ 18446744073709551615) (hc : (chkV s).1 = 0) : Ctr Tryz.prog 39 [.agg (scC s R)] m (.tup [(false, [.int .i64 (1 + 4 * s.fr)]), (false, [.int .i64 (bdZ s)])]) m := by
 refine Ctr.enter Tryz.func39 rfl (by decide) (rs := [.tmp 2, .tmp 3]) (nt := 47) rfl rfl fun hwf Q hQ => ?_
 obtain ⟨hG, hC⟩ := chk_good hc
 obtain ⟨b1, b2, b3, b4, b5, b6, b7, b8, b9, b10⟩ := hd_b hG.hd
 have hlt0 : ∀ k, ¬ m.length + k < m.length := fun k => by omega
 have hwN : s.w = ((wN s : Nat) : Int) := by unfold wN; omega
 have hhN : s.h = ((hN s : Nat) : Int) := by unfold hN; omega
 have a1 : 1 ≤ wN s := by unfold wN; omega
 have a2 : wN s ≤ 64 := by unfold wN; omega
 have a3 : 1 ≤ hN s := by unfold hN; omega
 have a4 : hN s ≤ 64 := by unfold hN; omega
 have he := enc_b hG
 obtain ⟨b, hb⟩ : ∃ b, b = ndZ ((encX s).bs.length : Int) := ⟨_, rfl⟩
 have hbb : 0 ≤ b ∧ b ≤ 10000 := by rw [hb]; unfold ndZ; omega
 have zb := fun k => sz_b a1 a2 a3 a4 k
 have wF : IntKind.i64.wrap (4 * s.fr) = 4 * s.fr := wi (by omega)
 have wG : IntKind.i64.wrap (1 + 4 * s.fr) = 1 + 4 * s.fr := wi (by omega)
 have hb' := hb.symm
 obtain ⟨n0, hn0⟩ : ∃ n, n = nk s 0 := ⟨_, rfl⟩
 have nb0 := nk_b hG 0
 rw [← hn0] at nb0
 have hz0 : ndZ (szZ (wN s) (hN s) 0) = n0 := hn0.symm
 obtain ⟨n1, hn1⟩ : ∃ n, n = nk s 1 := ⟨_, rfl⟩
 have nb1 := nk_b hG 1
 rw [← hn1] at nb1
 have hz1 : ndZ (szZ (wN s) (hN s) 1) = n1 := hn1.symm
 obtain ⟨n2, hn2⟩ : ∃ n, n = nk s 2 := ⟨_, rfl⟩
 have nb2 := nk_b hG 2
 rw [← hn2] at nb2
 have hz2 : ndZ (szZ (wN s) (hN s) 2) = n2 := hn2.symm
 obtain ⟨n3, hn3⟩ : ∃ n, n = nk s 3 := ⟨_, rfl⟩
 have nb3 := nk_b hG 3
 rw [← hn3] at nb3
 have hz3 : ndZ (szZ (wN s) (hN s) 3) = n3 := hn3.symm
 obtain ⟨N, hN9⟩ : ∃ N : Nat, N = s.fr.toNat := ⟨_, rfl⟩
 have hF : s.fr = (N : Int) := by omega
 have hN32 : N ≤ 32 := by omega
 obtain ⟨S, hS⟩ : ∃ S : Int, S = n0 + (n1 + (n2 + n3)) := ⟨_, rfl⟩
 have hSb : 0 ≤ S ∧ S ≤ 40000 := by omega
 have hqb := fun i : Nat => fun hi : i ≤ 32 => mul_bd (a := (i : Int)) (b := S) (A := 32) (B := 40000) (by omega) hSb
 have hbd : b + (N : Int) * S = bdZ s := by unfold bdZ; rw [← hb, ← hn0, ← hn1, ← hn2, ← hn3, ← hS, hF]
 have hz0' : b + ((0 : Nat) : Int) * S = b := by rw [Int.natCast_zero, Int.zero_mul, Int.add_zero]
 refine AW.sr 2 fun K hK => ?_
 have pk_2 : _ ∧ _ ∧ _ ∧ _ ∧ _ ∧ _ ∧ _ := ⟨hb', hz0, hz1, hz2, hz3, wF, wG⟩
 simp only [push_cast, simprocAttr, scC, hdC, tlC, c3C, pk_2]
 refine CThen.by (renc_c s R _ (hR.app _) hsd hc) ?_
 simp only [push_cast, simprocAttr, scC, hdC, tlC, c3C, pk_2]
 apply hK;clear hK K
 refine AW.seq_k fun K hK => ?_
 refine AW.sr 1 fun K hK => ?_
 simp only [push_cast, simprocAttr, scC, hdC, tlC, c3C, pk_2]
 apply hK;clear hK K
 refine AW.cond_f rfl ?_
 refine AW.skip ?_
 apply hK;clear hK K
 refine AW.sr 1 fun K hK => ?_
 simp only [push_cast, simprocAttr, scC, hdC, tlC, c3C, pk_2]
 refine CThen.by (rneed_c _ _ (by omega) (by omega)) ?_
 simp only [push_cast, simprocAttr, scC, hdC, tlC, c3C, pk_2]
 apply hK;clear hK K
 refine AW.seq_k fun K hK => ?_
 refine AW.sr 1 fun K hK => ?_
 simp only [push_cast, simprocAttr, scC, hdC, tlC, c3C, pk_2]
 apply hK;clear hK K
 refine AW.block ?_
 refine AW.loopK [1] (fun i => i ≤ N) (fun i => [(6, .one (.int .i64 (b + (i : Int) * S))), (7, .one (.int .i64 (i : Int)))]) (fun i => []) (fun i => N - i) 0 (by omega) ?_ ?_ fun i hi3 => ?_
 · (simp only [KS, simprocAttr, Int.zero_mul, Int.add_zero]) <;> repeat' (first | rfl | apply And.intro | (simp only [Int.natCast_zero, Int.zero_mul, Int.add_zero]))
 · first | rfl | (simp only [setAll, push_cast, simprocAttr, scC, hdC, tlC, c3C, pk_2, hz0', Int.natCast_zero] <;> rfl)
 try simp only [keepL, setAll, push_cast, simprocAttr, scC, hdC, tlC, c3C, pk_2]
 refine AW.seq_k fun K hK => ?_
 refine AW.sr 1 fun K hK => ?_
 simp only [push_cast, simprocAttr, scC, hdC, tlC, c3C, pk_2]
 apply hK;clear hK K
 refine AW.cond rfl (fun h23 => ?_) (fun h23 => ?_)
 ·have hlt : i < N := by have := of_decide_eq_true h23; omega
  have hqi := hqb i (by omega)
  obtain ⟨q, hq⟩ : ∃ q, q = (i : Int) * S := ⟨_, rfl⟩
  rw [← hq] at hqi
  have hq' := hq.symm
  have x0 : IntKind.i64.wrap (b + q + n0) = b + q + n0 := wi (by omega)
  have x1 : IntKind.i64.wrap (b + q + n0 + n1) = b + q + n0 + n1 := wi (by omega)
  have x2 : IntKind.i64.wrap (b + q + n0 + n1 + n2) = b + q + n0 + n1 + n2 := wi (by omega)
  have x3 : IntKind.i64.wrap (b + q + n0 + n1 + n2 + n3) = b + q + n0 + n1 + n2 + n3 := wi (by omega)
  refine AW.skip ?_
  apply hK;clear hK K
  refine AW.seq_k fun K hK => ?_
  refine AW.block ?_
  refine AW.sr 1 fun K hK => ?_
  have pk_3 : _ ∧ _ ∧ _ ∧ _ ∧ _ ∧ _ := ⟨pk_2, hq', x0, x1, x2, x3⟩
  simp only [push_cast, simprocAttr, scC, hdC, tlC, c3C, pk_3]
  apply hK;clear hK K
  refine AW.block ?_
  refine AW.rounds 5 ?_
  refine ARounds.succ fun K hK => ?_
  refine AW.seq_k fun K hK => ?_
  refine AW.sr 1 fun K hK => ?_
  simp only [push_cast, simprocAttr, scC, hdC, tlC, c3C, pk_3]
  apply hK;clear hK K
  refine AW.cond_t rfl ?_
  refine AW.skip ?_
  apply hK;clear hK K
  refine AW.seq_k fun K hK => ?_
  refine AW.block ?_
  refine AW.rg ?_
  simp only [push_cast, simprocAttr, scC, hdC, tlC, c3C, pk_3]
  refine CThen.by ((by have h := rsz0_c (wN s) (hN s) a1 a2 a3 a4; rw [← hwN, ← hhN] at h; exact h _)) ?_
  simp only [push_cast, simprocAttr, scC, hdC, tlC, c3C, pk_3]
  refine CThen.by (rneed_c _ _ (zb 0).1 (by have := (zb 0).2; omega)) ?_
  simp only [push_cast, simprocAttr, scC, hdC, tlC, c3C, pk_3]
  refine InB_n ?_
  apply hK;clear hK K
  refine AW.rg ?_
  simp only [push_cast, simprocAttr, scC, hdC, tlC, c3C, pk_3]
  apply hK;clear hK K
  refine ARounds.succ fun K hK => ?_
  refine AW.seq_k fun K hK => ?_
  refine AW.sr 1 fun K hK => ?_
  simp only [push_cast, simprocAttr, scC, hdC, tlC, c3C, pk_3]
  apply hK;clear hK K
  refine AW.cond_t rfl ?_
  refine AW.skip ?_
  apply hK;clear hK K
  refine AW.seq_k fun K hK => ?_
  refine AW.block ?_
  refine AW.rg ?_
  simp only [push_cast, simprocAttr, scC, hdC, tlC, c3C, pk_3]
  refine CThen.by ((by have h := rsz1_c (wN s) (hN s) a1 a2 a3 a4; rw [← hwN, ← hhN] at h; exact h _)) ?_
  simp only [push_cast, simprocAttr, scC, hdC, tlC, c3C, pk_3]
  refine CThen.by (rneed_c _ _ (zb 1).1 (by have := (zb 1).2; omega)) ?_
  simp only [push_cast, simprocAttr, scC, hdC, tlC, c3C, pk_3]
  refine InB_n ?_
  apply hK;clear hK K
  refine AW.rg ?_
  simp only [push_cast, simprocAttr, scC, hdC, tlC, c3C, pk_3]
  apply hK;clear hK K
  refine ARounds.succ fun K hK => ?_
  refine AW.seq_k fun K hK => ?_
  refine AW.sr 1 fun K hK => ?_
  simp only [push_cast, simprocAttr, scC, hdC, tlC, c3C, pk_3]
  apply hK;clear hK K
  refine AW.cond_t rfl ?_
  refine AW.skip ?_
  apply hK;clear hK K
  refine AW.seq_k fun K hK => ?_
  refine AW.block ?_
  refine AW.rg ?_
  simp only [push_cast, simprocAttr, scC, hdC, tlC, c3C, pk_3]
  refine CThen.by ((by have h := rsz2_c (wN s) (hN s) a1 a2 a3 a4; rw [← hwN, ← hhN] at h; exact h _)) ?_
  simp only [push_cast, simprocAttr, scC, hdC, tlC, c3C, pk_3]
  refine CThen.by (rneed_c _ _ (zb 2).1 (by have := (zb 2).2; omega)) ?_
  simp only [push_cast, simprocAttr, scC, hdC, tlC, c3C, pk_3]
  refine InB_n ?_
  apply hK;clear hK K
  refine AW.rg ?_
  simp only [push_cast, simprocAttr, scC, hdC, tlC, c3C, pk_3]
  apply hK;clear hK K
  refine ARounds.succ fun K hK => ?_
  refine AW.seq_k fun K hK => ?_
  refine AW.sr 1 fun K hK => ?_
  simp only [push_cast, simprocAttr, scC, hdC, tlC, c3C, pk_3]
  apply hK;clear hK K
  refine AW.cond_t rfl ?_
  refine AW.skip ?_
  apply hK;clear hK K
  refine AW.seq_k fun K hK => ?_
  refine AW.block ?_
  refine AW.rg ?_
  simp only [push_cast, simprocAttr, scC, hdC, tlC, c3C, pk_3]
  refine CThen.by ((by have h := rsz3_c (wN s) (hN s) a1 a2 a3 a4; rw [← hwN, ← hhN] at h; exact h _)) ?_
  simp only [push_cast, simprocAttr, scC, hdC, tlC, c3C, pk_3]
  refine CThen.by (rneed_c _ _ (zb 3).1 (by have := (zb 3).2; omega)) ?_
  simp only [push_cast, simprocAttr, scC, hdC, tlC, c3C, pk_3]
  refine InB_n ?_
  apply hK;clear hK K
  refine AW.rg ?_
  simp only [push_cast, simprocAttr, scC, hdC, tlC, c3C, pk_3]
  apply hK;clear hK K
  refine ARounds.succ fun K hK => ?_
  refine AW.seq_k fun K hK => ?_
  refine AW.sr 1 fun K hK => ?_
  simp only [push_cast, simprocAttr, scC, hdC, tlC, c3C, pk_3]
  apply hK;clear hK K
  refine AW.cond_f rfl ?_
  refine AW.exit ?_
  refine Thn_e ?_
  clear hK K
  refine Thn_e ?_
  clear hK K
  refine InB_here ?_
  refine InB_n ?_
  apply hK;clear hK K
  refine AW.rg ?_
  simp only [push_cast, simprocAttr, scC, hdC, tlC, c3C, pk_3]
  refine Thn_n ?_
  have hwi : IntKind.i64.wrap ((i:Int)+1) = (i:Int)+1 := wi (by omega)
  have hnx : b + q + n0 + n1 + n2 + n3 = b + ((i : Int) + 1) * S := by rw [Int.add_mul, Int.one_mul, ← hq, hS]; omega
  refine ⟨i + 1, by omega, by omega, ?_⟩
  try simp only [keepL, setAll, push_cast, simprocAttr, scC, hdC, tlC, c3C, pk_3, hwi, hnx]
  exact Weak.same (by simp only [KS, simprocAttr, hwi, hnx]) (by first | rfl | simp only [KS, simprocAttr, hwi, hnx])
 ·have hin : i = N := by have := of_decide_eq_false h23; omega
  subst hin
  refine AW.exit ?_
  refine Thn_e ?_
  clear hK K
  refine Thn_e ?_
  refine InB_here ?_
  apply hK;clear hK K
  refine AW.sr 1 fun K hK => ?_
  simp only [push_cast, simprocAttr, scC, hdC, tlC, c3C, pk_2, hbd]
  apply hK;clear hK K
  refine AW.ret ?_
  refine hQ _ _ _ ?_
  first | refine RetP.drop0 (Or.inr rfl) ?_ ?_ hwf | refine RetP.drop (Or.inr rfl) ?_ ?_ hwf
  · simp only [resA, resOne, resTv, AV.tv, push_cast, simprocAttr, scC, hdC, tlC, c3C, pk_2, hbd, hbd]
  · rfl
theorem pix_c (s : SC) (m : AMem) (q0 : Int) (hq : q0 = s.w * s.h) (v0 : IntKind.i64.wrap q0 = q0) : Ctr Tryz.prog 34 [.agg (hdC s)] m (.one (.int .i64 q0)) m := by
 refine Ctr.enter Tryz.func34 rfl (by decide) (rs := [.tmp 2]) (nt := 8) rfl rfl fun hwf Q hQ => ?_
 have e0 := hq.symm
 refine AW.sr 2 fun K hK => ?_
 simp only [push_cast, simprocAttr, hdC, c3C, e0, v0]
 apply hK;clear hK K
 refine AW.ret ?_
 refine hQ _ _ _ ?_
 first | refine RetP.drop0 (Or.inr rfl) ?_ ?_ hwf | refine RetP.drop (Or.inr rfl) ?_ ?_ hwf
 · simp only [resA, resOne, resTv, AV.tv, push_cast, simprocAttr, hdC, c3C, e0, v0]
 · rfl
theorem cof_c (s : SC) (R : RWs) (m : AMem) (hR : ScR 107 75 119 112 117 m s R) (hsd : 0 ≤ s.sd ∧ s.sd ≤ 18446744073709551615) (hc : (chkV s).1 = 0) : Ctr Tryz.prog 16 [.agg (scC s R)] m (.tup [(true, c5C (costF s)), (false, [.int .i64 0])]) m := by
 refine Ctr.enter Tryz.func16 rfl (by decide) (rs := [.cell 2 34, .tmp 3]) (nt := 54) rfl rfl fun hwf Q hQ => ?_
 obtain ⟨hG, hC⟩ := chk_good hc
 obtain ⟨b1, b2, b3, b4, b5, b6, b7, b8, b9, b10⟩ := hd_b hG.hd
 have hlt0 : ∀ k, ¬ m.length + k < m.length := fun k => by omega
 have hwN : s.w = ((wN s : Nat) : Int) := by unfold wN; omega
 have hhN : s.h = ((hN s : Nat) : Int) := by unfold hN; omega
 have a1 : 1 ≤ wN s := by unfold wN; omega
 have a2 : wN s ≤ 64 := by unfold wN; omega
 have a3 : 1 ≤ hN s := by unfold hN; omega
 have a4 : hN s ≤ 64 := by unfold hN; omega
 have he := enc_b hG
 obtain ⟨b, hb⟩ : ∃ b, b = ndZ ((encX s).bs.length : Int) := ⟨_, rfl⟩
 have hbb : 0 ≤ b ∧ b ≤ 10000 := by rw [hb]; unfold ndZ; omega
 have zb := fun k => sz_b a1 a2 a3 a4 k
 have wF : IntKind.i64.wrap (4 * s.fr) = 4 * s.fr := wi (by omega)
 have wG : IntKind.i64.wrap (1 + 4 * s.fr) = 1 + 4 * s.fr := wi (by omega)
 have hb' := hb.symm
 obtain ⟨q0, e0⟩ : ∃ q, q = s.w * s.h := ⟨_, rfl⟩
 obtain ⟨q1, e1⟩ : ∃ q, q = q0 * s.fr := ⟨_, rfl⟩
 obtain ⟨q2, e2⟩ : ∃ q, q = q1 * s.sm := ⟨_, rfl⟩
 obtain ⟨q3, e3⟩ : ∃ q, q = q2 * s.dp := ⟨_, rfl⟩
 have m0 := mul_bd (a := s.w) (b := s.h) (A := 64) (B := 64) (by omega) (by omega)
 rw [← e0] at m0
 have m1 := mul_bd (b := s.fr) (B := 32) m0 (by omega)
 rw [← e1] at m1
 have m2 := mul_bd (b := s.sm) (B := 16) m1 (by omega)
 rw [← e2] at m2
 have m3 := mul_bd (b := s.dp) (B := 6) m2 (by omega)
 rw [← e3] at m3
 have hra : raZ s = 2 * q3 := by unfold raZ; rw [← e0, ← e1, ← e2, ← e3]
 obtain ⟨M, hM⟩ : ∃ M, M = maN s := ⟨_, rfl⟩
 have hMb : 0 ≤ M ∧ M ≤ 128 := by have := hG.x; rw [hM]; unfold maN maxI; split <;> omega
 have m4 := mul_bd (a := 2 * q3) (b := M) (A := 30000000) (B := 128) (by omega) hMb
 have hc0 : c5C (costF s) = [.int .i64 (4 * s.fr), .int .i64 (2 * q3), .int .i64 (2 * q3 * M), .int .i64 (1 + 4 * s.fr), .int .i64 (bdZ s)] := by
   have : c5C (costF s) = [.int .i64 (4 * s.fr), .int .i64 (raZ s), .int .i64 (raZ s * maN s), .int .i64 (1 + 4 * s.fr), .int .i64 (bdZ s)] := rfl
   rw [this, hra, ← hM]
 rw [hc0] at hQ
 have e0' := e0.symm
 have e1' := e1.symm
 have e2' := e2.symm
 have e3' := e3.symm
 have v0 : IntKind.i64.wrap q0 = q0 := wi (by omega)
 have v1 : IntKind.i64.wrap q1 = q1 := wi (by omega)
 have v2 : IntKind.i64.wrap q2 = q2 := wi (by omega)
 have v3 : IntKind.i64.wrap q3 = q3 := wi (by omega)
 have v4 : q3 * 2 = 2 * q3 := by omega
 have v5 : IntKind.i64.wrap (2 * q3) = 2 * q3 := wi (by omega)
 have v6 : IntKind.i64.wrap (2 * q3 * M) = 2 * q3 * M := wi (by omega)
 have hM1 : maxI (s.nx : Int) 1 = M := hM.symm
 refine AW.sr 1 fun K hK => ?_
 have pk_1 : _ ∧ _ ∧ _ ∧ _ ∧ _ ∧ _ ∧ _ ∧ _ ∧ _ ∧ _ ∧ _ ∧ _ ∧ _ ∧ _ ∧ _ := ⟨wF, wG, e0', e1', e2', e3', v0, v1, v2, v3, v4, v5, v6, hC, hM1⟩
 simp only [push_cast, simprocAttr, scC, hdC, tlC, c3C, pk_1]
 apply hK;clear hK K
 refine AW.seq_k fun K hK => ?_
 refine AW.sr 2 fun K hK => ?_
 simp only [push_cast, simprocAttr, scC, hdC, tlC, c3C, pk_1]
 refine CThen.by (cchk_c s R _ (hR.app _)) ?_
 simp only [push_cast, simprocAttr, scC, hdC, tlC, c3C, pk_1]
 apply hK;clear hK K
 refine AW.cond_f rfl ?_
 refine AW.skip ?_
 apply hK;clear hK K
 refine AW.sr 1 fun K hK => ?_
 simp only [push_cast, simprocAttr, scC, hdC, tlC, c3C, pk_1]
 apply hK;clear hK K
 refine AW.seq_k fun K hK => ?_
 refine AW.draw [.val, .rd 0, .ext, .val, .val, .rd 0, .val, .val, .val, .rd 0, .val, .val, .val, .rd 0, .val, .val, .val, .wr] fol (by decide) (by kernel_rfl) ?_
 simp only [push_cast, simprocAttr, scC, hdC, tlC, c3C, pk_1]
 refine DCall.by0 (pix_c s _ q0 e0 v0) ?_
 simp only [push_cast, simprocAttr, scC, hdC, tlC, c3C, pk_1]
 apply hK;clear hK K
 refine AW.sr 3 fun K hK => ?_
 simp only [push_cast, simprocAttr, scC, hdC, tlC, c3C, pk_1]
 refine CThen.by (cbd_c s R _ (hR.app _) hsd hc) ?_
 simp only [push_cast, simprocAttr, scC, hdC, tlC, c3C, pk_1]
 apply hK;clear hK K
 refine AW.ret ?_
 refine hQ _ _ _ ?_
 first | refine RetP.drop0 (Or.inr rfl) ?_ ?_ hwf | refine RetP.drop (Or.inr rfl) ?_ ?_ hwf
 · simp only [resA, resOne, resTv, AV.tv, push_cast, simprocAttr, scC, hdC, tlC, c3C, pk_1]
 · rfl
theorem rof0_c (s : SC) (R : RWs) (m : AMem) (hR : ScR 89 93 128 110 99 m s R) (hsd : 0 ≤ s.sd ∧ s.sd ≤ 18446744073709551615) (hc : (chkV s).1 = 0) (h0 : s.nx = 0) : Ctr Tryz.prog 18 [.agg (scC s R)] m (.agg (c5C (costF s))) m := by
 refine Ctr.enter Tryz.func18 rfl (by decide) (rs := [.cell 2 29]) (nt := 48) rfl rfl fun hwf Q hQ => ?_
 obtain ⟨hG, hC⟩ := chk_good hc
 obtain ⟨b1, b2, b3, b4, b5, b6, b7, b8, b9, b10⟩ := hd_b hG.hd
 have hlt0 : ∀ k, ¬ m.length + k < m.length := fun k => by omega
 have hwN : s.w = ((wN s : Nat) : Int) := by unfold wN; omega
 have hhN : s.h = ((hN s : Nat) : Int) := by unfold hN; omega
 have a1 : 1 ≤ wN s := by unfold wN; omega
 have a2 : wN s ≤ 64 := by unfold wN; omega
 have a3 : 1 ≤ hN s := by unfold hN; omega
 have a4 : hN s ≤ 64 := by unfold hN; omega
 have he := enc_b hG
 obtain ⟨b, hb⟩ : ∃ b, b = ndZ ((encX s).bs.length : Int) := ⟨_, rfl⟩
 have hbb : 0 ≤ b ∧ b ≤ 10000 := by rw [hb]; unfold ndZ; omega
 have zb := fun k => sz_b a1 a2 a3 a4 k
 have wF : IntKind.i64.wrap (4 * s.fr) = 4 * s.fr := wi (by omega)
 have wG : IntKind.i64.wrap (1 + 4 * s.fr) = 1 + 4 * s.fr := wi (by omega)
 have hb' := hb.symm
 obtain ⟨q0, e0⟩ : ∃ q, q = s.w * s.h := ⟨_, rfl⟩
 obtain ⟨q1, e1⟩ : ∃ q, q = q0 * s.fr := ⟨_, rfl⟩
 obtain ⟨q2, e2⟩ : ∃ q, q = q1 * s.sm := ⟨_, rfl⟩
 obtain ⟨q3, e3⟩ : ∃ q, q = q2 * s.dp := ⟨_, rfl⟩
 have m0 := mul_bd (a := s.w) (b := s.h) (A := 64) (B := 64) (by omega) (by omega)
 rw [← e0] at m0
 have m1 := mul_bd (b := s.fr) (B := 32) m0 (by omega)
 rw [← e1] at m1
 have m2 := mul_bd (b := s.sm) (B := 16) m1 (by omega)
 rw [← e2] at m2
 have m3 := mul_bd (b := s.dp) (B := 6) m2 (by omega)
 rw [← e3] at m3
 have hra : raZ s = 2 * q3 := by unfold raZ; rw [← e0, ← e1, ← e2, ← e3]
 obtain ⟨M, hM⟩ : ∃ M, M = maN s := ⟨_, rfl⟩
 have hMb : 0 ≤ M ∧ M ≤ 128 := by have := hG.x; rw [hM]; unfold maN maxI; split <;> omega
 have m4 := mul_bd (a := 2 * q3) (b := M) (A := 30000000) (B := 128) (by omega) hMb
 have hc0 : c5C (costF s) = [.int .i64 (4 * s.fr), .int .i64 (2 * q3), .int .i64 (2 * q3 * M), .int .i64 (1 + 4 * s.fr), .int .i64 (bdZ s)] := by
   have : c5C (costF s) = [.int .i64 (4 * s.fr), .int .i64 (raZ s), .int .i64 (raZ s * maN s), .int .i64 (1 + 4 * s.fr), .int .i64 (bdZ s)] := rfl
   rw [this, hra, ← hM]
 rw [hc0] at hQ
 have e0' := e0.symm
 have e1' := e1.symm
 have e2' := e2.symm
 have e3' := e3.symm
 have v0 : IntKind.i64.wrap q0 = q0 := wi (by omega)
 have v1 : IntKind.i64.wrap q1 = q1 := wi (by omega)
 have v2 : IntKind.i64.wrap q2 = q2 := wi (by omega)
 have v3 : IntKind.i64.wrap q3 = q3 := wi (by omega)
 have v4 : q3 * 2 = 2 * q3 := by omega
 have v5 : IntKind.i64.wrap (2 * q3) = 2 * q3 := wi (by omega)
 have v6 : IntKind.i64.wrap (2 * q3 * M) = 2 * q3 * M := wi (by omega)
 have x0 : IntKind.i64.wrap (2 * s.w) = 2 * s.w := wi (by omega)
 have y0 : 2 * s.w * s.h = 2 * q0 := by rw [Int.mul_assoc, ← e0]
 have y1 : 2 * q0 * s.fr = 2 * q1 := by rw [Int.mul_assoc, ← e1]
 have y2 : 2 * q1 * s.sm = 2 * q2 := by rw [Int.mul_assoc, ← e2]
 have y3 : 2 * q2 * s.dp = 2 * q3 := by rw [Int.mul_assoc, ← e3]
 have x1 : IntKind.i64.wrap (2 * q0) = 2 * q0 := wi (by omega)
 have x2 : IntKind.i64.wrap (2 * q1) = 2 * q1 := wi (by omega)
 have x3 : IntKind.i64.wrap (2 * q2) = 2 * q2 := wi (by omega)
 have z7 : 2 * q3 * 1 = 2 * q3 := Int.mul_one _
 have hM1 : M = 1 := by rw [hM]; unfold maN maxI; rw [h0]; rfl
 have z6 : 2 * q3 * M = 2 * q3 := by rw [hM1, Int.mul_one]
 rw [z6] at hQ
 have hz : ((s.nx : Int) == 0) = true := by rw [h0]; rfl
 refine AW.sr 3 fun K hK => ?_
 have pk_2 : _ ∧ _ ∧ _ ∧ _ ∧ _ ∧ _ ∧ _ ∧ _ ∧ _ ∧ _ ∧ _ ∧ _ ∧ _ ∧ _ ∧ _ := ⟨wF, wG, y0, y1, y2, y3, x0, x1, x2, x3, v5, v6, hC, hz, z7⟩
 simp only [push_cast, simprocAttr, scC, hdC, tlC, c3C, pk_2]
 apply hK;clear hK K
 refine AW.seq_k fun K hK => ?_
 refine AW.sr 1 fun K hK => ?_
 simp only [push_cast, simprocAttr, scC, hdC, tlC, c3C, pk_2]
 apply hK;clear hK K
 refine AW.cond_t rfl ?_
 refine AW.rg ?_
 simp only [push_cast, simprocAttr, scC, hdC, tlC, c3C, pk_2]
 apply hK;clear hK K
 refine AW.sr 2 fun K hK => ?_
 simp only [push_cast, simprocAttr, scC, hdC, tlC, c3C, pk_2]
 refine CThen.by (rbd_c s R _ (hR.app _) hsd hc) ?_
 simp only [push_cast, simprocAttr, scC, hdC, tlC, c3C, pk_2]
 apply hK;clear hK K
 refine AW.ret ?_
 refine hQ _ _ _ ?_
 first | refine RetP.drop0 (Or.inr rfl) ?_ ?_ hwf | refine RetP.drop (Or.inr rfl) ?_ ?_ hwf
 · simp only [resA, resOne, resTv, AV.tv, push_cast, simprocAttr, scC, hdC, tlC, c3C, pk_2]
 · rfl
theorem rof1_c (s : SC) (R : RWs) (m : AMem) (hR : ScR 89 93 128 110 99 m s R) (hsd : 0 ≤ s.sd ∧ s.sd ≤ 18446744073709551615) (hc : (chkV s).1 = 0) (h0 : 0 < s.nx) : Ctr Tryz.prog 18 [.agg (scC s R)] m (.agg (c5C (costF s))) m := by
 refine Ctr.enter Tryz.func18 rfl (by decide) (rs := [.cell 2 29]) (nt := 48) rfl rfl fun hwf Q hQ => ?_
 obtain ⟨hG, hC⟩ := chk_good hc
 obtain ⟨b1, b2, b3, b4, b5, b6, b7, b8, b9, b10⟩ := hd_b hG.hd
 have hlt0 : ∀ k, ¬ m.length + k < m.length := fun k => by omega
 have hwN : s.w = ((wN s : Nat) : Int) := by unfold wN; omega
 have hhN : s.h = ((hN s : Nat) : Int) := by unfold hN; omega
 have a1 : 1 ≤ wN s := by unfold wN; omega
 have a2 : wN s ≤ 64 := by unfold wN; omega
 have a3 : 1 ≤ hN s := by unfold hN; omega
 have a4 : hN s ≤ 64 := by unfold hN; omega
 have he := enc_b hG
 obtain ⟨b, hb⟩ : ∃ b, b = ndZ ((encX s).bs.length : Int) := ⟨_, rfl⟩
 have hbb : 0 ≤ b ∧ b ≤ 10000 := by rw [hb]; unfold ndZ; omega
 have zb := fun k => sz_b a1 a2 a3 a4 k
 have wF : IntKind.i64.wrap (4 * s.fr) = 4 * s.fr := wi (by omega)
 have wG : IntKind.i64.wrap (1 + 4 * s.fr) = 1 + 4 * s.fr := wi (by omega)
 have hb' := hb.symm
 obtain ⟨q0, e0⟩ : ∃ q, q = s.w * s.h := ⟨_, rfl⟩
 obtain ⟨q1, e1⟩ : ∃ q, q = q0 * s.fr := ⟨_, rfl⟩
 obtain ⟨q2, e2⟩ : ∃ q, q = q1 * s.sm := ⟨_, rfl⟩
 obtain ⟨q3, e3⟩ : ∃ q, q = q2 * s.dp := ⟨_, rfl⟩
 have m0 := mul_bd (a := s.w) (b := s.h) (A := 64) (B := 64) (by omega) (by omega)
 rw [← e0] at m0
 have m1 := mul_bd (b := s.fr) (B := 32) m0 (by omega)
 rw [← e1] at m1
 have m2 := mul_bd (b := s.sm) (B := 16) m1 (by omega)
 rw [← e2] at m2
 have m3 := mul_bd (b := s.dp) (B := 6) m2 (by omega)
 rw [← e3] at m3
 have hra : raZ s = 2 * q3 := by unfold raZ; rw [← e0, ← e1, ← e2, ← e3]
 obtain ⟨M, hM⟩ : ∃ M, M = maN s := ⟨_, rfl⟩
 have hMb : 0 ≤ M ∧ M ≤ 128 := by have := hG.x; rw [hM]; unfold maN maxI; split <;> omega
 have m4 := mul_bd (a := 2 * q3) (b := M) (A := 30000000) (B := 128) (by omega) hMb
 have hc0 : c5C (costF s) = [.int .i64 (4 * s.fr), .int .i64 (2 * q3), .int .i64 (2 * q3 * M), .int .i64 (1 + 4 * s.fr), .int .i64 (bdZ s)] := by
   have : c5C (costF s) = [.int .i64 (4 * s.fr), .int .i64 (raZ s), .int .i64 (raZ s * maN s), .int .i64 (1 + 4 * s.fr), .int .i64 (bdZ s)] := rfl
   rw [this, hra, ← hM]
 rw [hc0] at hQ
 have e0' := e0.symm
 have e1' := e1.symm
 have e2' := e2.symm
 have e3' := e3.symm
 have v0 : IntKind.i64.wrap q0 = q0 := wi (by omega)
 have v1 : IntKind.i64.wrap q1 = q1 := wi (by omega)
 have v2 : IntKind.i64.wrap q2 = q2 := wi (by omega)
 have v3 : IntKind.i64.wrap q3 = q3 := wi (by omega)
 have v4 : q3 * 2 = 2 * q3 := by omega
 have v5 : IntKind.i64.wrap (2 * q3) = 2 * q3 := wi (by omega)
 have v6 : IntKind.i64.wrap (2 * q3 * M) = 2 * q3 * M := wi (by omega)
 have x0 : IntKind.i64.wrap (2 * s.w) = 2 * s.w := wi (by omega)
 have y0 : 2 * s.w * s.h = 2 * q0 := by rw [Int.mul_assoc, ← e0]
 have y1 : 2 * q0 * s.fr = 2 * q1 := by rw [Int.mul_assoc, ← e1]
 have y2 : 2 * q1 * s.sm = 2 * q2 := by rw [Int.mul_assoc, ← e2]
 have y3 : 2 * q2 * s.dp = 2 * q3 := by rw [Int.mul_assoc, ← e3]
 have x1 : IntKind.i64.wrap (2 * q0) = 2 * q0 := wi (by omega)
 have x2 : IntKind.i64.wrap (2 * q1) = 2 * q1 := wi (by omega)
 have x3 : IntKind.i64.wrap (2 * q2) = 2 * q2 := wi (by omega)
 have hM1 : M = (s.nx : Int) := by rw [hM]; unfold maN maxI; split <;> omega
 rw [hM1] at hQ v6
 have hz : ((s.nx : Int) == 0) = false := by simp; omega
 refine AW.sr 3 fun K hK => ?_
 have pk_3 : _ ∧ _ ∧ _ ∧ _ ∧ _ ∧ _ ∧ _ ∧ _ ∧ _ ∧ _ ∧ _ ∧ _ ∧ _ ∧ _ := ⟨wF, wG, y0, y1, y2, y3, x0, x1, x2, x3, v5, v6, hC, hz⟩
 simp only [push_cast, simprocAttr, scC, hdC, tlC, c3C, pk_3]
 apply hK;clear hK K
 refine AW.seq_k fun K hK => ?_
 refine AW.sr 1 fun K hK => ?_
 simp only [push_cast, simprocAttr, scC, hdC, tlC, c3C, pk_3]
 apply hK;clear hK K
 refine AW.cond_f rfl ?_
 refine AW.skip ?_
 apply hK;clear hK K
 refine AW.sr 2 fun K hK => ?_
 simp only [push_cast, simprocAttr, scC, hdC, tlC, c3C, pk_3]
 refine CThen.by (rbd_c s R _ (hR.app _) hsd hc) ?_
 simp only [push_cast, simprocAttr, scC, hdC, tlC, c3C, pk_3]
 apply hK;clear hK K
 refine AW.ret ?_
 refine hQ _ _ _ ?_
 first | refine RetP.drop0 (Or.inr rfl) ?_ ?_ hwf | refine RetP.drop (Or.inr rfl) ?_ ?_ hwf
 · simp only [resA, resOne, resTv, AV.tv, push_cast, simprocAttr, scC, hdC, tlC, c3C, pk_3]
 · rfl
theorem rof_c (s : SC) (R : RWs) (m : AMem) (hR : ScR 89 93 128 110 99 m s R) (hsd : 0 ≤ s.sd ∧ s.sd ≤ 18446744073709551615) (hc : (chkV s).1 = 0) : Ctr Tryz.prog 18 [.agg (scC s R)] m (.agg (c5C (costF s))) m := by
 rcases Nat.eq_zero_or_pos s.nx with h | h
 ·exact rof0_c s R m hR hsd hc h
 ·exact rof1_c s R m hR hsd hc h
def okS (s : SC) : Prop := SmR s ∧ (chkV s).1 = 0
instance (s : SC) : Decidable (okS s) := by unfold okS; exact inferInstance
def cs (S : Nat → SC) : Nat → Nat × (Nat → Nat → Int)
 | 0 => (0, fun _ _ => 0)
 | i + 1 => if i < 12 ∧ okS (S i) then ((cs S i).1 + 1, fun k => if k = (cs S i).1 then costF (S i) else (cs S i).2 k) else cs S i
theorem cs_le (S : Nat → SC) : ∀ n, (cs S n).1 ≤ n ∧ (cs S n).1 ≤ 12
 | 0 => ⟨Nat.le_refl _, by show 0 ≤ 12; omega⟩
 | n + 1 => by
  have h := cs_le S n
  unfold cs
  split
  ·rename_i q; constructor
   ·show _ + 1 ≤ n + 1; omega
   ·show _ + 1 ≤ 12
    have : (cs S n).1 ≤ n := h.1
    omega
  ·omega
theorem cs_sm (S : Nat → SC) : ∀ n, Sm (cs S n).2
 | 0 => fun _ _ => ⟨Int.le_refl _, by show (0 : Int) ≤ _; omega⟩
 | n + 1 => fun k j => by
  have h := cs_sm S n k j
  unfold cs
  split
  ·rename_i q
   show 0 ≤ (if k = (cs S n).1 then costF (S n) else (cs S n).2 k) j ∧ (if k = (cs S n).1 then costF (S n) else (cs S n).2 k) j ≤ _
   split
   ·exact costF_b (chk_good q.2.2).1 j
   ·exact h
  ·exact h
theorem cs_yes {S : Nat → SC} {i : Nat} (h : i < 12 ∧ okS (S i)) : (cs S (i + 1)).1 = (cs S i).1 + 1 ∧ (catC (cs S i).1 fun k => c5C ((cs S i).2 k)) ++ c5C (costF (S i)) = catC ((cs S i).1 + 1) fun k => c5C ((cs S (i + 1)).2 k) := by
 have e : cs S (i + 1) = ((cs S i).1 + 1, fun k => if k = (cs S i).1 then costF (S i) else (cs S i).2 k) := if_pos h
 rw [e]
 refine ⟨rfl, ?_⟩
 rw [catC_snoc]
 refine catC_congr fun k _ => ?_
 show (if k = _ then _ else _) = c5C (if k = _ then _ else _)
 split <;> rfl
theorem cs_no {S : Nat → SC} {i : Nat} (h : ¬ (i < 12 ∧ okS (S i))) : cs S (i + 1) = cs S i := if_neg h
theorem toB_len (s : SC) (R : RWs) (m : AMem) : (toB s R m).length = 8 + 3 * s.nt := by
 simp only [toB, List.length_cons, tkB_len]; omega
theorem to_scr {m : AMem} {s : SC} {R : RWs} (hR : ScR 89 93 128 110 99 m s R) : ScR 107 75 119 112 117 (m ++ toB s R m) s (toR s m.length) := by
 have hq : ∀ k, (m ++ toB s R m)[m.length + k]? = (toB s R m)[k]? := fun k => by rw [List.getElem?_append_right (by omega)]; congr 1; omega
 refine ⟨⟨.grow, 5, ?_⟩, ⟨.grow, 2, ?_⟩, fun i hi => ⟨.grow, 4, ?_⟩, ⟨.grow, 4, ?_⟩, ⟨.grow, 13, ?_⟩, hR.np, hR.nt, hR.nj, hR.nx, hR.nk⟩
 ·show (m ++ toB s R m)[m.length + 4]? = _; rw [hq]; rfl
 ·show (m ++ toB s R m)[m.length + 5]? = _; rw [hq]; rfl
 ·show (m ++ toB s R m)[m.length + (3 * i + 9)]? = _
  rw [hq]
  show (tkB s R m.length s.nt)[3 * i + 1]? = _
  exact tkB_get s R m.length hi
 ·show (m ++ toB s R m)[m.length + 6]? = _; rw [hq]; rfl
 ·show (m ++ toB s R m)[m.length + 7]? = _; rw [hq]; rfl
theorem to_scr3 {m : AMem} {s : SC} {R : RWs} (hR : ScR 89 93 128 110 99 m s R) (a b c : Blk) : ScR 107 75 119 112 117 (m ++ a :: b :: c :: toB s R (m ++ [a, b, c])) s (toR s (m.length + 3)) := by
 have h := to_scr (hR.app [a, b, c])
 have e : (m ++ [a, b, c]).length = m.length + 3 := by simp
 rw [List.append_assoc, e] at h
 exact h
theorem costs_c (r v n : Nat) (S : Nat → SC) (RR : Nat → RWs) (m : AMem) (hr : ∃ k e, m[r]? = some ⟨k, 51, v, e, catC n fun i => scC (S i) (RR i)⟩) (hS : ∀ i, i < n → ScR 89 93 128 110 99 m (S i) (RR i)) (hsd : ∀ i, i < n → 0 ≤ (S i).sd ∧ (S i).sd ≤ 18446744073709551615) (hn : n ≤ 1000000000000) : Ctr Tryz.prog 4 [.one (.sl r v 0 n)] m (.tup [(false, [.sl m.length 0 0 (cs S n).1]), (false, [.sl (m.length + 1) 0 0 (cs S n).1])]) (m ++ [⟨.grow, 34, 0, 5, catC (cs S n).1 fun k => c5C ((cs S n).2 k)⟩, ⟨.grow, 29, 0, 5, catC (cs S n).1 fun k => c5C ((cs S n).2 k)⟩]) := by
 refine Ctr.enter Tryz.func4 rfl (by decide) (rs := [.tmp 2, .tmp 3]) (nt := 53) rfl rfl fun hwf Q hQ => ?_
 obtain ⟨kr, er, hr⟩ := hr
 have lr := get_lt hr
 have rl : (catC n fun i => scC (S i) (RR i)).length = n * 17 := catC_len (w := 17) (F := fun i => scC (S i) (RR i)) (fun _ => rfl) _
 have l17 : ∀ s R, (scC s R).length = 17 := fun _ _ => rfl
 have t17 : ∀ s R, (scC s R).take 17 = scC s R := fun _ _ => rfl
 have z17 : ∀ s R, setL [.int .i64 0, .int .i64 0, .int .i64 0, .int .i64 0, .int .i64 0, .int .i64 0, .int .u64 0, .int .i64 0, .int .i64 0, .int .i64 0, .int .i64 0, .int .i64 0, .int .i64 0, .nils, .nils, .nils, .nils] 0 (scC s R) = scC s R := fun _ _ => rfl
 have v17 : ∀ s R, (scC s R).all CV.isVal = true := fun _ _ => rfl
 have l5 : ∀ x, (c5C x).length = 5 := fun _ => rfl
 have t5 : ∀ x, (c5C x).take 5 = c5C x := fun _ => rfl
 have z6 : ∀ y, setL [.int .i64 0, .int .i64 0, .int .i64 0, .int .i64 0, .int .i64 0] 0 (c5C y) = c5C y := fun _ => rfl
 have gl := fun (X : Nat → Nat → Int) (k : Nat) => catC5_len X k
 have hlt0 : ∀ k, ¬ m.length + k < m.length := fun k => by omega
 have cl := fun i => cs_le S i
 refine AW.sr 3 fun K hK => ?_
 have pk_1 : _ ∧ _ ∧ _ ∧ _ ∧ _ ∧ _ ∧ _ ∧ _ ∧ _ ∧ _ := ⟨hr, lk_old hr, l17, t17, z17, v17, l5, t5, z6, gl⟩
 simp only [push_cast, simprocAttr, rl, c5_vals, pk_1]
 apply hK;clear hK K
 refine AW.seq_k fun K hK => ?_
 refine AW.sr 1 fun K hK => ?_
 simp only [push_cast, simprocAttr, rl, c5_vals, pk_1]
 apply hK;clear hK K
 refine AW.block ?_
 refine AW.nilTm 34 5 4 rfl ?_
 try simp only [push_cast, simprocAttr, rl, c5_vals, pk_1]
 refine AW.nilTm 29 5 5 rfl ?_
 try simp only [push_cast, simprocAttr, rl, c5_vals, pk_1]
 refine AW.loopK [12, 13] (fun i => i ≤ n) (fun i => [(4, .one (.sl m.length (cs S i).1 0 (cs S i).1)), (5, .one (.sl (m.length + 1) (cs S i).1 0 (cs S i).1)), (14, .one (.int .i64 (i : Int)))]) (fun i => [(m.length, ⟨.grow, 34, (cs S i).1, 5, catC (cs S i).1 fun k => c5C ((cs S i).2 k)⟩), (m.length + 1, ⟨.grow, 29, (cs S i).1, 5, catC (cs S i).1 fun k => c5C ((cs S i).2 k)⟩)]) (fun i => n - i) 0 (by omega) ?_ ?_ fun i hi2 => ?_
 · first | rfl | (simp only [KS, simprocAttr, cs, catC, Int.natCast_zero] <;> repeat' (first | rfl | apply And.intro))
 · (simp only [setAll, push_cast, simprocAttr, cs, catC]) <;> rfl
 try simp only [keepL, setAll, push_cast, simprocAttr, rl, c5_vals, pk_1]
 refine AW.sr 1 fun K hK => ?_
 simp only [push_cast, simprocAttr, rl, c5_vals, pk_1]
 apply hK;clear hK K
 refine AW.seq_k fun K hK => ?_
 refine AW.cond rfl (fun h15 => ?_) (fun h15 => ?_)
 ·have hlt : i < n := by have := of_decide_eq_true h15; omega
  have c1 : (0 : Int) ≤ (i : Int) := by omega
  have c2 : (i : Int) < (n : Int) := by omega
  have c3 : i * 17 + 17 ≤ n * 17 := by omega
  have ga : ((catC n fun i => scC (S i) (RR i)).drop (i * 17)).take 17 = scC (S i) (RR i) := catC_at (w := 17) (F := fun i => scC (S i) (RR i)) (fun _ => rfl) hlt
  have hSi := hS i hlt
  have cli := cl i
  have q1 : (cs S i).1 ≤ 140737488355327 := by omega
  have q2 : ((cs S i).1 + 1) * 40 ≤ 140737488355328 := by omega
  obtain ⟨Z, hZ⟩ : ∃ Z, Z = 8 + 3 * (S i).nt := ⟨_, rfl⟩
  have tz := fun M => (toB_len (S i) (RR i) M).trans hZ.symm
  have tz1 : ∀ (M L : AMem) (k : Nat), (toB (S i) (RR i) M ++ L)[Z + k]? = L[k]? := fun M L k => by rw [List.getElem?_append_right (by rw [tz]; omega), tz]; congr 1; omega
  have tz0 : ∀ (M L : AMem), (toB (S i) (RR i) M ++ L)[Z]? = L[0]? := fun M L => tz1 M L 0
  have ts0 : ∀ (M L : AMem) (b c : Blk), (toB (S i) (RR i) M ++ b :: L).set Z c = toB (S i) (RR i) M ++ c :: L := fun M L b c => by rw [List.set_append_right _ _ (by rw [tz]; omega), tz, Nat.sub_self]; rfl
  refine AW.skip ?_
  apply hK;clear hK K
  refine AW.seq_k fun K hK => ?_
  refine AW.block ?_
  refine AW.sr 1 fun K hK => ?_
  have pk_2 : _ ∧ _ ∧ _ ∧ _ ∧ _ ∧ _ ∧ _ ∧ _ ∧ _ ∧ _ ∧ _ ∧ _ := ⟨pk_1, c1, c2, c3, ga, q1, q2, hlt, tz, tz1, tz0, ts0⟩
  simp only [push_cast, simprocAttr, rl, c5_vals, pk_2]
  apply hK;clear hK K
  refine AW.seq_k fun K hK => ?_
  refine AW.sr 1 fun K hK => ?_
  simp only [push_cast, simprocAttr, rl, c5_vals, pk_2]
  refine CThen.by (rchk_c (S i) (RR i) _ (hSi.app _)) ?_
  simp only [push_cast, simprocAttr, rl, c5_vals, pk_2]
  apply hK;clear hK K
  refine AW.seq_k fun K hK => ?_
  have hk : (12 : Int) ≤ (i : Int) ∨ (¬ (12 : Int) ≤ (i : Int) ∧ ¬ SmR (S i)) ∨ (¬ (12 : Int) ≤ (i : Int) ∧ SmR (S i) ∧ ¬ (chkV (S i)).1 = 0) ∨ (¬ (12 : Int) ≤ (i : Int) ∧ SmR (S i) ∧ (chkV (S i)).1 = 0) := by
    by_cases a : SmR (S i) <;> by_cases b : (chkV (S i)).1 = 0 <;> simp [a, b] <;> omega
  rcases hk with g1 | ⟨g1, g2⟩ | ⟨g1, g2, g3⟩ | ⟨g1, g2, g3⟩
  ·have hno : ¬ (i < 12 ∧ okS (S i)) := fun h => by omega
   have hcs := cs_no hno
   have hu1 := True.intro
   have hu2 := True.intro
   refine AW.rg ?_
   simp only [push_cast, simprocAttr, rl, c5_vals, pk_2, g1]
   apply hK;clear hK K
   refine AW.cond_t rfl ?_
   refine AW.exit ?_
   refine Thn_e ?_
   clear hK K
   refine InB_here ?_
   apply hK;clear hK K
   refine AW.rg ?_
   simp only [push_cast, simprocAttr, rl, c5_vals, pk_2, g1]
   refine Thn_n ?_
   have hwi : IntKind.i64.wrap ((i:Int)+1) = (i:Int)+1 := wi (by omega)
   refine ⟨i + 1, by omega, by omega, ?_⟩
   try simp only [keepL, setAll, push_cast, simprocAttr, rl, c5_vals, pk_2, g1, hwi, hcs, hu1, hu2]
   first
    | exact Weak.to (extra := [_]) (by simp only [KS, simprocAttr, hwi, hcs, hu1, hu2]) (by first | rfl | (simp only [List.append_assoc, List.cons_append, List.nil_append]; rfl)) (by first | rfl | (simp [AV.below, CV.below]; done) | (simp [AV.below, CV.below]; omega)) (by first | exact hwf | exact MWf.app (hwf.grow (by simp)) (MWf_cons (c5R_below _ _ _) (MWf_cons (c5R_below _ _ _) MWf_nil)))
    | exact Weak.to (extra := _) (by simp only [KS, simprocAttr, hwi, hcs, hu1, hu2]) (by first | rfl | (simp only [List.append_assoc, List.cons_append, List.nil_append]; rfl)) (by first | rfl | (simp [AV.below, CV.below]; done) | (simp [AV.below, CV.below]; omega)) (by first | exact hwf | exact MWf.app (hwf.grow (by simp)) (MWf_cons (c5R_below _ _ _) (MWf_cons (c5R_below _ _ _) MWf_nil)))
  ·have hno : ¬ (i < 12 ∧ okS (S i)) := fun h => g2 h.2.1
   have hcs := cs_no hno
   have hu1 := True.intro
   have hu2 := True.intro
   have d2 := decide_eq_false g2
   refine AW.rg ?_
   simp only [push_cast, simprocAttr, rl, c5_vals, pk_2, g1, d2]
   refine CThen.by (rsm_c (S i) (RR i) _ (hSi.app _)) ?_
   simp only [push_cast, simprocAttr, rl, c5_vals, pk_2, g1, d2]
   apply hK;clear hK K
   refine AW.cond_t rfl ?_
   refine AW.exit ?_
   refine Thn_e ?_
   clear hK K
   refine InB_here ?_
   apply hK;clear hK K
   refine AW.rg ?_
   simp only [push_cast, simprocAttr, rl, c5_vals, pk_2, g1, d2]
   refine Thn_n ?_
   have hwi : IntKind.i64.wrap ((i:Int)+1) = (i:Int)+1 := wi (by omega)
   refine ⟨i + 1, by omega, by omega, ?_⟩
   try simp only [keepL, setAll, push_cast, simprocAttr, rl, c5_vals, pk_2, g1, d2, hwi, hcs, hu1, hu2]
   first
    | exact Weak.to (extra := [_]) (by simp only [KS, simprocAttr, hwi, hcs, hu1, hu2]) (by first | rfl | (simp only [List.append_assoc, List.cons_append, List.nil_append]; rfl)) (by first | rfl | (simp [AV.below, CV.below]; done) | (simp [AV.below, CV.below]; omega)) (by first | exact hwf | exact MWf.app (hwf.grow (by simp)) (MWf_cons (c5R_below _ _ _) (MWf_cons (c5R_below _ _ _) MWf_nil)))
    | exact Weak.to (extra := _) (by simp only [KS, simprocAttr, hwi, hcs, hu1, hu2]) (by first | rfl | (simp only [List.append_assoc, List.cons_append, List.nil_append]; rfl)) (by first | rfl | (simp [AV.below, CV.below]; done) | (simp [AV.below, CV.below]; omega)) (by first | exact hwf | exact MWf.app (hwf.grow (by simp)) (MWf_cons (c5R_below _ _ _) (MWf_cons (c5R_below _ _ _) MWf_nil)))
  ·have hno : ¬ (i < 12 ∧ okS (S i)) := fun h => g3 h.2.2
   have hcs := cs_no hno
   have hu1 := True.intro
   have hu2 := True.intro
   have d2 := decide_eq_true g2
   have d3 : ((chkV (S i)).1 != 0) = true := by simpa using g3
   refine AW.rg ?_
   simp only [push_cast, simprocAttr, rl, c5_vals, pk_2, g1, d2, d3]
   refine CThen.by (rsm_c (S i) (RR i) _ (hSi.app _)) ?_
   simp only [push_cast, simprocAttr, rl, c5_vals, pk_2, g1, d2, d3]
   apply hK;clear hK K
   refine AW.cond_t rfl ?_
   refine AW.exit ?_
   refine Thn_e ?_
   clear hK K
   refine InB_here ?_
   apply hK;clear hK K
   refine AW.rg ?_
   simp only [push_cast, simprocAttr, rl, c5_vals, pk_2, g1, d2, d3]
   refine Thn_n ?_
   have hwi : IntKind.i64.wrap ((i:Int)+1) = (i:Int)+1 := wi (by omega)
   refine ⟨i + 1, by omega, by omega, ?_⟩
   try simp only [keepL, setAll, push_cast, simprocAttr, rl, c5_vals, pk_2, g1, d2, d3, hwi, hcs, hu1, hu2]
   first
    | exact Weak.to (extra := [_]) (by simp only [KS, simprocAttr, hwi, hcs, hu1, hu2]) (by first | rfl | (simp only [List.append_assoc, List.cons_append, List.nil_append]; rfl)) (by first | rfl | (simp [AV.below, CV.below]; done) | (simp [AV.below, CV.below]; omega)) (by first | exact hwf | exact MWf.app (hwf.grow (by simp)) (MWf_cons (c5R_below _ _ _) (MWf_cons (c5R_below _ _ _) MWf_nil)))
    | exact Weak.to (extra := _) (by simp only [KS, simprocAttr, hwi, hcs, hu1, hu2]) (by first | rfl | (simp only [List.append_assoc, List.cons_append, List.nil_append]; rfl)) (by first | rfl | (simp [AV.below, CV.below]; done) | (simp [AV.below, CV.below]; omega)) (by first | exact hwf | exact MWf.app (hwf.grow (by simp)) (MWf_cons (c5R_below _ _ _) (MWf_cons (c5R_below _ _ _) MWf_nil)))
  ·have hok : i < 12 ∧ okS (S i) := ⟨by omega, g2, g3⟩
   obtain ⟨hcs, hu1⟩ := cs_yes hok
   have d2 := decide_eq_true g2
   have d3 : ((chkV (S i)).1 != 0) = false := by rw [g3]; rfl
   have hu2 := True.intro
   refine AW.rg ?_
   have pk_3 : _ ∧ _ ∧ _ ∧ _ ∧ _ := ⟨pk_2, g1, d2, d3, hu1⟩
   simp only [push_cast, simprocAttr, rl, c5_vals, pk_3]
   refine CThen.by (rsm_c (S i) (RR i) _ (hSi.app _)) ?_
   simp only [push_cast, simprocAttr, rl, c5_vals, pk_3]
   apply hK;clear hK K
   refine AW.cond_f rfl ?_
   refine AW.skip ?_
   apply hK;clear hK K
   refine AW.sr 2 fun K hK => ?_
   simp only [push_cast, simprocAttr, rl, c5_vals, pk_3]
   refine CThen.by (to_c (S i) (RR i) _ (hSi.app _) g2) ?_
   simp only [push_cast, simprocAttr, rl, c5_vals, pk_3]
   refine CThen.by (cof_c (S i) _ _ (to_scr3 hSi _ _ _) (hsd i hlt) g3) ?_
   simp only [push_cast, simprocAttr, rl, c5_vals, pk_3]
   apply hK;clear hK K
   refine AW.rg ?_
   simp only [push_cast, simprocAttr, rl, c5_vals, pk_3]
   refine CThen.by (rof_c (S i) (RR i) _ (hSi.app _) (hsd i hlt) g3) ?_
   simp only [push_cast, simprocAttr, rl, c5_vals, pk_3]
   refine InB_n ?_
   apply hK;clear hK K
   refine AW.rg ?_
   simp only [push_cast, simprocAttr, rl, c5_vals, pk_3]
   refine Thn_n ?_
   have hwi : IntKind.i64.wrap ((i:Int)+1) = (i:Int)+1 := wi (by omega)
   refine ⟨i + 1, by omega, by omega, ?_⟩
   try simp only [keepL, setAll, push_cast, simprocAttr, rl, c5_vals, pk_3, hwi, hcs, hu1, hu2]
   first
    | exact Weak.to (extra := [_]) (by simp only [KS, simprocAttr, hwi, hcs, hu1, hu2]) (by first | rfl | (simp only [List.append_assoc, List.cons_append, List.nil_append]; rfl)) (by first | rfl | (simp [AV.below, CV.below]; done) | (simp [AV.below, CV.below]; omega)) (by first | exact hwf | exact MWf.app (hwf.grow (by simp)) (MWf_cons (c5R_below _ _ _) (MWf_cons (c5R_below _ _ _) MWf_nil)))
    | exact Weak.to (extra := _) (by simp only [KS, simprocAttr, hwi, hcs, hu1, hu2]) (by first | rfl | (simp only [List.append_assoc, List.cons_append, List.nil_append]; rfl)) (by first | rfl | (simp [AV.below, CV.below]; done) | (simp [AV.below, CV.below]; omega)) (by first | exact hwf | exact MWf.app (hwf.grow (by simp)) (MWf_cons (c5R_below _ _ _) (MWf_cons (c5R_below _ _ _) MWf_nil)))
 ·have hin : i = n := by have := of_decide_eq_false h15; omega
  rw [hin]
  refine AW.exit ?_
  refine Thn_e ?_
  clear hK K
  refine Thn_e ?_
  refine InB_here ?_
  apply hK;clear hK K
  refine AW.sr 1 fun K hK => ?_
  simp only [push_cast, simprocAttr, rl, c5_vals, pk_1]
  apply hK;clear hK K
  refine AW.ret ?_
  refine hQ _ _ _ ?_
  refine RetP.pick [(m.length, (cs S n).1), (m.length + 1, (cs S n).1)] (by first | exact Or.inr rfl | exact Or.inl rfl) ?_ ?_ ?_ hwf ?_
  · simp only [resA, resOne, resTv, AV.tv, push_cast, simprocAttr]
    simp [renV, renT, renL, renC, renIdx, hlt0]
  · simp only [picks, push_cast, simprocAttr]
  · simp [distinctFrom]
  · exact MWf_cons (c5R_below _ _ _) (MWf_cons (c5R_below _ _ _) MWf_nil)
end Go.Proofs.YtdeacicnfglhdaaGreatDoor
