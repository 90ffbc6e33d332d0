/- Walks and facts of this seat's program over abstract states, printed by a program of mine; no conditions but those that each theorem names. -/
import Derived.Test.YtmjbbnfmhgcfaaaSeal3
set_option linter.unusedSimpArgs false
set_option linter.unusedVariables false
set_option maxRecDepth 100000
set_option maxHeartbeats 4000000
namespace Go.Proofs.Ytmjbbnfmhgcfaaa
open Go Go.Eng

def U8ok (l : List Int) : Prop := ∀ x, x ∈ l → 0 ≤ x ∧ x ≤ 255
theorem U8ok.by {l : List Int} (h : U8ok l) (i : Nat) : 0 ≤ byB l i ∧ byB l i ≤ 255 := by
  unfold byB
  rw [List.getD_eq_getElem?_getD]
  cases e : l[i]? with
  | none => simp
  | some x => simpa using h x (List.mem_of_getElem? e)
theorem U8ok.app {a b : List Int} (ha : U8ok a) (hb : U8ok b) : U8ok (a ++ b) := fun x hx => by
  rcases List.mem_append.1 hx with h | h
  · exact ha x h
  · exact hb x h
theorem U8ok.take {a : List Int} (ha : U8ok a) (n : Nat) : U8ok (a.take n) := fun x hx => ha x (List.mem_of_mem_take hx)
theorem U8ok.drop {a : List Int} (ha : U8ok a) (n : Nat) : U8ok (a.drop n) := fun x hx => ha x (List.mem_of_mem_drop hx)
theorem U8ok.nil : U8ok [] := fun x hx => by cases hx
/-- Some blocks stirred in, one behind the other. -/
def compN (S : S8) (bs : List Int) : Nat → S8
  | 0 => S
  | i + 1 => comp KW (compN S bs i) bs (64 * i)
structure PS where
  (S : S8) (r : List Int) (n : Int)
def absS (s : PS) (bs : List Int) : PS :=
  ⟨compN s.S (s.r ++ bs) ((s.r ++ bs).length / 64), (s.r ++ bs).drop (64 * ((s.r ++ bs).length / 64)), IntKind.u64.wrap (s.n + (bs.length : Int))⟩
def accP (s : PS) (bf : Nat → List Int) : Nat → PS
  | 0 => s
  | i + 1 => absS (accP s bf i) (bf i)
theorem absS_r (s : PS) (bs : List Int) : (absS s bs).r.length < 64 := by
  simp only [absS, List.length_drop]; omega
theorem accP_r {s : PS} (h : s.r.length < 64) (bf : Nat → List Int) : ∀ i, (accP s bf i).r.length < 64
  | 0 => h
  | i + 1 => absS_r _ _
theorem accP_ok {s : PS} (h : U8ok s.r) {bf : Nat → List Int} {np : Nat} (hb : ∀ i, i < np → U8ok (bf i)) : ∀ i, i ≤ np → U8ok (accP s bf i).r
  | 0, _ => h
  | i + 1, hi => ((accP_ok h hb i (by omega)).app (hb i (by omega))).drop _
/-- A part: a slice of bytes. -/
def PartAt (m : AMem) (bb : Nat) (c : CV) (bs : List Int) : Prop :=
  (c = .nils ∧ bs = []) ∨ ∃ rb k ty v ez off X, c = .sl rb v off bs.length ∧ rb ≠ bb ∧ m[rb]? = some ⟨k, ty, v, ez, u8l X⟩ ∧ off + bs.length ≤ X.length ∧ (X.drop off).take bs.length = bs
def prB (S : S8) (b : CV) (n : Int) : Blk := ⟨.fix, 74, 0, 0, [.int .u32 (S).a, .int .u32 (S).b, .int .u32 (S).c, .int .u32 (S).d, .int .u32 (S).e, .int .u32 (S).f, .int .u32 (S).g, .int .u32 (S).h, b, .int .u64 n]⟩
def rowB (v : Nat) (bs : List Int) : Blk := ⟨.grow, 5, v, 1, u8l bs⟩
/-- The press and its row, anew. -/
def pwr (m : AMem) (rp bb v : Nat) (s : PS) : AMem := (m.set bb (rowB v s.r)).set rp (prB s.S (.sl bb v 0 s.r.length) s.n)
theorem pwr_len (m : AMem) (rp bb v : Nat) (s : PS) : (pwr m rp bb v s).length = m.length := by simp [pwr]
theorem MWf_set {L : Nat} {m : AMem} {r : Nat} {b : Blk} (h : MWf L m) (hb : b.cells.all (CV.below L) = true) : MWf L (m.set r b) := fun x hx => by
  rcases List.mem_or_eq_of_mem_set hx with h1 | rfl
  · exact h x h1
  · exact hb
theorem pwr_wf {L : Nat} {m : AMem} (rp bb v : Nat) (s : PS) (h : MWf L m) (hb : bb < L) : MWf L (pwr m rp bb v s) := by
  refine MWf_set (MWf_set h (u8l_below _ _)) ?_
  simp only [prB, List.all_cons, List.all_nil, CV.below, decide_eq_true hb, Bool.and_true, Bool.true_and]
theorem mk_lk {m l : AMem} (h : l.length = m.length) (L : AMem) (k : Nat) : (l ++ L)[m.length + k]? = L[k]? := by rw [← h]; exact lk_app l L k
theorem mk_lk0 {m l : AMem} (h : l.length = m.length) (L : AMem) : (l ++ L)[m.length]? = L[0]? := by rw [← h]; exact lk_app0 l L
theorem mk_set {m l : AMem} (h : l.length = m.length) (L : AMem) (k : Nat) (b : Blk) : (l ++ L).set (m.length + k) b = l ++ L.set k b := by rw [← h]; exact set_app l L k b
theorem mk_set0 {m l : AMem} (h : l.length = m.length) (L : AMem) (b : Blk) : (l ++ L).set m.length b = l ++ L.set 0 b := by rw [← h]; exact set_app0 l L b
theorem mk_old {m l : AMem} {r : Nat} (h : l.length = m.length) (hr : r < m.length) (L : AMem) : (l ++ L)[r]? = l[r]? := List.getElem?_append_left (by rw [h]; exact hr)
theorem mk_olds {m l : AMem} {r : Nat} (h : l.length = m.length) (hr : r < m.length) (L : AMem) (b : Blk) : (l ++ L).set r b = l.set r b ++ L := List.set_append_left _ _ (by rw [h]; exact hr)
theorem mk_self {m l : AMem} {r : Nat} (h : l.length = m.length) (hr : r < m.length) (b : Blk) : (l.set r b)[r]? = some b := List.getElem?_set_self (by rw [h]; exact hr)
theorem mk_comm {r s : Nat} (h : r ≠ s) (l : AMem) (a b : Blk) : (l.set r a).set s b = (l.set s b).set r a := List.set_comm _ _ h
end Go.Proofs.Ytmjbbnfmhgcfaaa
