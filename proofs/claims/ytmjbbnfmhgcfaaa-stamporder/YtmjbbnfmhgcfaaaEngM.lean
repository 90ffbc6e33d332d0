/-
  ENGINE, PART M: from the reading of the arguments to abstract states, and back: a law that answers true.
-/
import Derived.Test.YtmjbbnfmhgcfaaaEngL
import Derived.Carry
import Derived.ChangeSame
import Derived.RowKit
set_option linter.unusedVariables false
set_option linter.unusedSimpArgs false
namespace Go.Eng
open Go Go.RowKit Go.ChangeShapes Go.WideShapes

def AllRo (m : AMem) : Prop := ∀ b, b ∈ m → b.kind = .ro

theorem Step.below {m m' : AMem} {ρ ρ' : Env} {W W' : World} (h : Step m ρ W m' ρ' W') (hro : AllRo m) : Below W.heap.size W W' :=
  ⟨h.os, h.tape, h.output, h.size, fun k hk => h.frame k hk (fun r b x _ hb hne => absurd (hro b (List.mem_of_getElem? hb)) hne)⟩

section
variable {P : Program} {B : Nat}

/-- Cells as the arguments have them: rows are read-only blocks. -/
def good (P : Program) (B : Nat) (m : AMem) : Nat → TypeId → List CV → Prop
  | 0, _, _ => False
  | n + 1, t, cs => match P.underlying t with
    | some .bool => ∃ b, cs = [.bool b]
    | some (.int k) => ∃ x, cs = [.int k x] ∧ k.min ≤ x ∧ x ≤ k.max
    | some .string => ∃ s : ByteArray, cs = [.str s] ∧ s.size ≤ B
    | some (.slice e) => ∃ r len cells, cs = [.sl r 0 0 len] ∧ m[r]? = some ⟨.ro, e, 0, P.cellsOf e, cells⟩ ∧ cells.length = len * P.cellsOf e ∧ len ≤ B ∧
        ∀ i, i < len → good P B m n e ((cells.drop (i * P.cellsOf e)).take (P.cellsOf e))
    | some (.struct fs) => cs.length = P.cellsOf t ∧ ∀ f, f ∈ fs.toList → good P B m n f.type ((cs.drop f.offset).take (P.cellsOf f.type))
    | some (.array k e) => cs.length = P.cellsOf t ∧ ∀ i, i < k → good P B m n e ((cs.drop (i * P.cellsOf e)).take (P.cellsOf e))
    | _ => True

theorem good_mono {m : AMem} (x : AMem) : ∀ (n : Nat) (t : TypeId) (cs : List CV), good P B m n t cs → good P B (m ++ x) n t cs
  | 0, _, _, h => h
  | n + 1, t, cs, h => by
    unfold good at h ⊢
    split at h
    · exact h
    · exact h
    · exact h
    · obtain ⟨r, len, cells, h1, h2, h3, h4, h5⟩ := h
      exact ⟨r, len, cells, h1, lk_old h2 x, h3, h4, fun i hi => good_mono x n _ _ (h5 i hi)⟩
    · exact ⟨h.1, fun f hf => good_mono x n _ _ (h.2 f hf)⟩
    · exact ⟨h.1, fun i hi => good_mono x n _ _ (h.2 i hi)⟩
    · trivial

theorem mapM_all2 {α β : Type} {f : α → Option β} : ∀ {l : List α} {xs : List β}, l.mapM f = some xs → All2 (fun a x => f a = some x) l xs
  | [], xs, h => by simp at h; subst h; trivial
  | a :: l, xs, h => by
    rw [List.mapM_cons] at h
    cases ha : f a with
    | none => simp [ha] at h
    | some y =>
      cases hl : l.mapM f with
      | none => simp [ha, hl] at h
      | some ys =>
        simp [ha, hl] at h
        subst h
        exact ⟨ha, mapM_all2 hl⟩

theorem All2.mem {α β : Type} {R : α → β → Prop} : ∀ {l : List α} {r : List β}, All2 R l r → ∀ a, a ∈ l → ∃ b, b ∈ r ∧ R a b
  | [], _, _, a, h => by cases h
  | x :: l, [], h, _, _ => h.elim
  | x :: l, y :: r, h, a, ha => by
    rcases List.mem_cons.1 ha with rfl | ha
    · exact ⟨y, by simp, h.1⟩
    · obtain ⟨b, hb, hr⟩ := All2.mem h.2 a ha
      exact ⟨b, List.mem_cons_of_mem _ hb, hr⟩

/-- How much a reading holds, at the least. -/
structure IsBulk {H : Type} (bulk : DataW H → Nat) : Prop where
  str : ∀ l : List UInt8, l.length ≤ bulk (.lit (.string l))
  agg : ∀ (l : List (DataW H)) (d : DataW H), d ∈ l → bulk d ≤ bulk (.agg l)
  row : ∀ (l s : List (DataW H)) (d : DataW H), d ∈ l → bulk d ≤ bulk (.slice l s)
  len : ∀ l s : List (DataW H), l.length ≤ bulk (.slice l s)

theorem RepM.roBlk {ρ : Env} {m : AMem} {W : World} (h : RepM ρ m W) (hro : AllRo m) (A : Option Addr) (k ty esz : Nat) (cells : List CV)
    (hc : cells ≠ [] → ∃ a, A = some a ∧ a.block < W.heap.size ∧ ∀ i c, cells[i]? = some c → ∃ v, W.cell? (a.add i) = some v ∧ VC ρ c v) :
    ρ.le (ρ.set m.length 0 (A, k)) ∧ RepM (ρ.set m.length 0 (A, k)) (m ++ [⟨.ro, ty, 0, esz, cells⟩]) W ∧ AllRo (m ++ [⟨.ro, ty, 0, esz, cells⟩]) := by
  have hle : ρ.le (ρ.set m.length 0 (A, k)) := Env.le_set (h.dom _ _ (Nat.le_refl _))
  have hall : AllRo (m ++ [⟨.ro, ty, 0, esz, cells⟩]) := by
    intro b hb
    rcases List.mem_append.1 hb with hb | hb
    · exact hro b hb
    · rw [List.mem_singleton.1 hb]
  refine ⟨hle, ⟨?_, ?_, ?_, ?_⟩, hall⟩
  · intro r b hb
    rcases Nat.lt_trichotomy r m.length with hr | hr | hr
    · rw [List.getElem?_append_left hr] at hb
      exact (h.blk r b hb).mono hle
    · subst hr; simp at hb; subst hb
      refine ⟨A, k, Env.set_same _ _ _ _, fun hne => ?_⟩
      obtain ⟨a, ha, hlt, hv⟩ := hc hne
      exact ⟨a, ha, hlt, fun i c hi => by obtain ⟨v, h1, h2⟩ := hv i c hi; exact ⟨v, h1, h2.mono hle⟩⟩
    · rw [List.getElem?_append_right (by omega), List.getElem?_eq_none (by simp; omega)] at hb
      cases hb
  · intro r v hr
    simp at hr
    rw [Env.set_other ρ _ (by omega)]
    exact h.dom r v (by omega)
  · intro r b v hb hv
    rcases Nat.lt_trichotomy r m.length with hr | hr | hr
    · rw [List.getElem?_append_left hr] at hb
      rw [Env.set_other ρ _ (by omega)]; exact h.domv r b v hb hv
    · subst hr; simp at hb; subst hb
      rw [Env.set_other ρ _ (by simp only at hv; omega)]; exact h.dom _ _ (Nat.le_refl _)
    · rw [List.getElem?_append_right (by omega), List.getElem?_eq_none (by simp; omega)] at hb
      cases hb
  · intro r s b c hb _ _ hk
    exact absurd (hall b (List.mem_of_getElem? hb)) hk

theorem add_add (a : Addr) (m n : Nat) : (a.add m).add n = a.add (m + n) := by
  unfold Addr.add
  by_cases hm : m = 0
  · subst hm; simp
  · by_cases hn : n = 0
    · subst hn; simp
    · rw [if_neg hn, if_neg hm, if_neg (by omega)]; simp [Nat.add_assoc]

theorem chunk_at {α : Type} {sz : Nat} : ∀ {ls : List (List α)} (hl : ∀ l, l ∈ ls → l.length = sz) {i : Nat} {c : List α}, ls[i]? = some c → (ls.flatten.drop (i * sz)).take sz = c
  | [], _, i, c, h => by simp at h
  | l :: ls, hl, 0, c, h => by
    simp at h; subst h
    simp [List.flatten_cons, List.take_append_of_le_length (Nat.le_of_eq (hl l (by simp)).symm), List.take_of_length_le (Nat.le_of_eq (hl l (by simp)))]
  | l :: ls, hl, i + 1, c, h => by
    simp only [List.getElem?_cons_succ] at h
    have := chunk_at (fun x hx => hl x (List.mem_cons_of_mem _ hx)) h
    rw [List.flatten_cons, show (i + 1) * sz = l.length + i * sz by rw [hl l (by simp), Nat.add_mul]; omega, List.drop_append, List.drop_of_length_le (by omega)]
    simpa using this

theorem flat_len {α : Type} {sz : Nat} : ∀ {ls : List (List α)} (hl : ∀ l, l ∈ ls → l.length = sz), ls.flatten.length = ls.length * sz
  | [], _ => by simp
  | l :: ls, hl => by
    rw [List.flatten_cons, List.length_append, flat_len (fun x hx => hl x (List.mem_cons_of_mem _ hx)), hl l (by simp), List.length_cons, Nat.add_mul]; omega

theorem flat_get {α : Type} {sz : Nat} : ∀ {ls : List (List α)} (hl : ∀ l, l ∈ ls → l.length = sz) {j : Nat} {c : α}, ls.flatten[j]? = some c → ∃ i q l, j = i * sz + q ∧ q < sz ∧ ls[i]? = some l ∧ l[q]? = some c
  | [], _, j, c, h => by simp at h
  | l :: ls, hl, j, c, h => by
    rw [List.flatten_cons] at h
    rcases Nat.lt_or_ge j l.length with hj | hj
    · rw [List.getElem?_append_left hj] at h
      exact ⟨0, j, l, by simp, by rw [← hl l (by simp)]; exact hj, rfl, h⟩
    · rw [List.getElem?_append_right hj] at h
      obtain ⟨i, q, l', h1, h2, h3, h4⟩ := flat_get (fun x hx => hl x (List.mem_cons_of_mem _ hx)) h
      refine ⟨i + 1, q, l', ?_, h2, h3, h4⟩
      have := hl l (by simp)
      rw [Nat.add_mul]; omega

variable {H : Type} {enc : TypeId × Value → H} {W : World} {bulk : DataW H → Nat}

def ReadOk (P : Program) (B : Nat) (W : World) (n : Nat) (t : TypeId) (cs : List Value) : Prop :=
  ∀ ρ m, RepM ρ m W → AllRo m → ∃ ρ' ex cv, ρ.le ρ' ∧ RepM ρ' (m ++ ex) W ∧ AllRo (m ++ ex) ∧ All2 (VC ρ') cv cs ∧ good P B (m ++ ex) n t cv

theorem read_items {α : Type} {n : Nat} (tt : α → TypeId) : ∀ (l : List α) (cs : List (List Value)), All2 (fun a c => ReadOk P B W n (tt a) c) l cs →
    ∀ ρ m, RepM ρ m W → AllRo m → ∃ ρ' ex cvs, ρ.le ρ' ∧ RepM ρ' (m ++ ex) W ∧ AllRo (m ++ ex) ∧ All2 (fun cv c => All2 (VC ρ') cv c) cvs cs ∧ All2 (fun a cv => good P B (m ++ ex) n (tt a) cv) l cvs
  | [], [], _, ρ, m, hm, hro => ⟨ρ, [], [], Env.le_refl _, by simpa using hm, by simpa using hro, trivial, trivial⟩
  | a :: l, c :: cs, h, ρ, m, hm, hro => by
    obtain ⟨ρ1, ex1, cv, h1, h2, h3, h4, h5⟩ := h.1 ρ m hm hro
    obtain ⟨ρ2, ex2, cvs, g1, g2, g3, g4, g5⟩ := read_items tt l cs h.2 ρ1 (m ++ ex1) h2 h3
    refine ⟨ρ2, ex1 ++ ex2, cv :: cvs, fun r v x hx => g1 _ _ _ (h1 _ _ _ hx), by rwa [← List.append_assoc], by rwa [← List.append_assoc], ⟨h4.mono fun _ _ => VC.mono g1, g4⟩, ⟨?_, ?_⟩⟩
    · rw [← List.append_assoc]; exact good_mono _ _ _ _ h5
    · rwa [← List.append_assoc]
  | [], _ :: _, h, _, _, _, _ => h.elim
  | _ :: _, [], h, _, _, _, _ => h.elim

/-- Are a struct's fields side by side? -/
def laidF (P : Program) : List Field → Nat → Nat → Bool
  | [], off, tot => off == tot
  | f :: fs, off, tot => f.offset == off && laidF P fs (off + P.cellsOf f.type) tot
def laidB (P : Program) : Bool := (List.range P.types.size).all fun t => match P.underlying t with
  | some (.struct fs) => laidF P fs.toList 0 (P.cellsOf t) && fs.toList.all fun f => decide (f.type < P.types.size)
  | some (.array n e) => P.cellsOf t == n * P.cellsOf e && decide (e < P.types.size)
  | some (.slice e) => decide (e < P.types.size)
  | _ => true

theorem laidF_le : ∀ {fs : List Field} {off tot : Nat}, laidF P fs off tot = true → off ≤ tot
  | [], off, tot, h => by simp [laidF] at h; omega
  | f :: fs, off, tot, h => by simp only [laidF, Bool.and_eq_true] at h; have := laidF_le h.2; omega

theorem fields_get {ρ : Env} {m : AMem} {n : Nat} (cs : List Value) : ∀ (fs : List Field) (off tot : Nat) (cvs : List (List CV)), laidF P fs off tot = true → cs.length = tot →
    All2 (fun cv c => All2 (VC ρ) cv c) cvs (fs.map fun f => (cs.drop f.offset).take (P.cellsOf f.type)) → All2 (fun f cv => good P B m n f.type cv) fs cvs →
    All2 (VC ρ) cvs.flatten (cs.drop off) ∧ ∀ f, f ∈ fs → off ≤ f.offset ∧ good P B m n f.type ((cvs.flatten.drop (f.offset - off)).take (P.cellsOf f.type))
  | [], off, tot, [], h, hl, _, _ => by
    simp [laidF] at h
    rw [List.drop_of_length_le (by omega)]
    exact ⟨trivial, fun f hf => by cases hf⟩
  | f :: fs, off, tot, cv :: cvs, h, hl, h1, h2 => by
    simp only [laidF, Bool.and_eq_true, beq_iff_eq] at h
    have hle := laidF_le h.2
    have hlen : cv.length = P.cellsOf f.type := by
      rw [h1.1.length, List.length_take, List.length_drop, h.1]; omega
    obtain ⟨g1, g2⟩ := fields_get cs fs _ tot cvs h.2 hl h1.2 h2.2
    refine ⟨?_, fun f' hf' => ?_⟩
    · rw [List.flatten_cons]
      have e : cs.drop off = (cs.drop off).take (P.cellsOf f.type) ++ cs.drop (off + P.cellsOf f.type) := by
        rw [← List.drop_drop, List.take_append_drop]
      rw [e]
      have h1' : All2 (VC ρ) cv ((cs.drop f.offset).take (P.cellsOf f.type)) := h1.1
      rw [h.1] at h1'
      exact h1'.append g1
    · rcases List.mem_cons.1 hf' with rfl | hf'
      · refine ⟨by omega, ?_⟩
        rw [h.1, Nat.sub_self, List.drop_zero, List.flatten_cons, List.take_append_of_le_length (by omega), List.take_of_length_le (by omega)]
        exact h2.1
      · obtain ⟨q1, q2⟩ := g2 f' hf'
        refine ⟨by omega, ?_⟩
        rw [List.flatten_cons, show f'.offset - off = cv.length + (f'.offset - (off + P.cellsOf f.type)) by omega, List.drop_append, List.drop_of_length_le (by omega)]
        simpa using q2
  | [], _, _, _ :: _, _, _, _, h => h.elim
  | _ :: _, _, _, [], _, _, _, h => h.elim

theorem All2_of_map {α β γ : Type} {R : α → γ → Prop} {f : β → γ} : ∀ {l : List α} {r : List β}, All2 R l (r.map f) → All2 (fun a b => R a (f b)) l r
  | [], [], _ => trivial
  | _ :: _, _ :: _, h => ⟨h.1, All2_of_map h.2⟩
  | [], _ :: _, h => h.elim
  | _ :: _, [], h => h.elim
theorem All2_map_mk {α β γ : Type} {R : α → γ → Prop} {f : β → γ} : ∀ {l : List α} {r : List β}, All2 (fun a b => R a (f b)) l r → All2 R l (r.map f)
  | [], [], _ => trivial
  | _ :: _, _ :: _, h => ⟨h.1, All2_map_mk h.2⟩
  | [], _ :: _, h => h.elim
  | _ :: _, [], h => h.elim
theorem All2_self {α : Type} {R : α → α → Prop} : ∀ {l : List α}, (∀ a, a ∈ l → R a a) → All2 R l l
  | [], _ => trivial
  | a :: l, h => ⟨h a (by simp), All2_self fun b hb => h b (List.mem_cons_of_mem _ hb)⟩

theorem cells?_get {a : Addr} {base sz : Nat} {cs : List Value} (h : W.cells? base a sz = some cs) : cs.length = sz ∧ ∀ q v, cs[q]? = some v → W.cell? (a.add q) = some v := by
  unfold World.cells? at h
  split at h
  · have h2 := mapM_all2 h
    refine ⟨by rw [← h2.length, List.length_range], fun q v hq => ?_⟩
    have hql : q < sz := by have := (List.getElem?_eq_some_iff.1 hq).1; rw [← h2.length, List.length_range] at this; exact this
    obtain ⟨b, hb, hr⟩ := h2.get (i := q) (a := q) (by simp [hql])
    rw [hq] at hb; injection hb with hb; subst hb; exact hr
  · cases h

theorem cell?_lt {a : Addr} {v : Value} (h : W.cell? a = some v) : a.block < W.heap.size := by
  unfold World.cell? at h
  split at h
  · rename_i hb; exact (Array.getElem?_eq_some_iff.1 hb).1
  · cases h

theorem laid_struct (hl : laidB P = true) {t : TypeId} {fs : Array Field} (hlt : t < P.types.size) (h : P.underlying t = some (.struct fs)) : laidF P fs.toList 0 (P.cellsOf t) = true ∧ ∀ f, f ∈ fs.toList → f.type < P.types.size := by
  have := List.all_eq_true.1 hl t (List.mem_range.2 hlt)
  rw [h] at this
  simp only [Bool.and_eq_true, List.all_eq_true, decide_eq_true_eq] at this
  exact this
theorem laid_array (hl : laidB P = true) {t e : TypeId} {n : Nat} (hlt : t < P.types.size) (h : P.underlying t = some (.array n e)) : P.cellsOf t = n * P.cellsOf e ∧ e < P.types.size := by
  have := List.all_eq_true.1 hl t (List.mem_range.2 hlt)
  rw [h] at this; simpa using this
theorem laid_slice (hl : laidB P = true) {t e : TypeId} (hlt : t < P.types.size) (h : P.underlying t = some (.slice e)) : e < P.types.size := by
  have := List.all_eq_true.1 hl t (List.mem_range.2 hlt)
  rw [h] at this; simpa using this

theorem junk_all {ρ : Env} : ∀ cs : List Value, All2 (VC ρ) (cs.map fun _ => CV.junk) cs
  | [] => trivial
  | _ :: cs => ⟨trivial, junk_all cs⟩

theorem all2_junk_ok {n : Nat} {t : TypeId} {cs : List Value} (h : ∀ m cv, good P B m (n + 1) t cv) : ReadOk P B W (n + 1) t cs := fun ρ m hm hro =>
  ⟨ρ, [], cs.map fun _ => .junk, Env.le_refl _, by simpa using hm, by simpa using hro, junk_all cs, h _ _⟩
theorem one_ok {n : Nat} {t : TypeId} {c : CV} {v : Value} (hv : ∀ ρ, VC ρ c v) (h : ∀ m, good P B m (n + 1) t [c]) : ReadOk P B W (n + 1) t [v] := fun ρ m hm hro =>
  ⟨ρ, [], [c], Env.le_refl _, by simpa using hm, by simpa using hro, ⟨hv ρ, trivial⟩, h _⟩

theorem chunks_flat {α : Type} {sz : Nat} : ∀ (n : Nat) (cs : List α), cs.length = n * sz → ((List.range n).map fun i => (cs.drop (i * sz)).take sz).flatten = cs
  | 0, cs, h => by simp at h; simp [h]
  | n + 1, cs, h => by
    have ih := chunks_flat n (cs.take (n * sz)) (by rw [List.length_take, h]; exact Nat.min_eq_left (Nat.mul_le_mul_right _ (by omega)))
    rw [List.range_succ, List.map_append, List.flatten_append]
    have e : ((List.range n).map fun i => (cs.drop (i * sz)).take sz) = (List.range n).map fun i => ((cs.take (n * sz)).drop (i * sz)).take sz := by
      refine List.map_congr_left fun i hi => ?_
      have hi' := List.mem_range.1 hi
      have hle : i * sz + sz ≤ n * sz := by rw [← Nat.succ_mul]; exact Nat.mul_le_mul_right _ hi'
      rw [List.drop_take, List.take_take, Nat.min_eq_left (by omega)]
    rw [e, ih]
    simp only [List.map_cons, List.map_nil, List.flatten_cons, List.flatten_nil, List.append_nil]
    rw [List.take_of_length_le (l := cs.drop (n * sz)) (by rw [List.length_drop, h, Nat.succ_mul]; omega), List.take_append_drop]

theorem All2_flatten {ρ : Env} : ∀ {cvs : List (List CV)} {cs : List (List Value)}, All2 (fun cv c => All2 (VC ρ) cv c) cvs cs → All2 (VC ρ) cvs.flatten cs.flatten
  | [], [], _ => trivial
  | _ :: _, _ :: _, h => by rw [List.flatten_cons, List.flatten_cons]; exact h.1.append (All2_flatten h.2)
  | [], _ :: _, h => h.elim
  | _ :: _, [], h => h.elim

theorem All2.right {α β : Type} {R : α → β → Prop} {Q : β → Prop} : ∀ {l : List α} {r : List β}, All2 R l r → (∀ a b, a ∈ l → R a b → Q b) → ∀ b, b ∈ r → Q b
  | [], [], _, _, b, hb => by cases hb
  | x :: l, y :: r, h, hq, b, hb => by
    rcases List.mem_cons.1 hb with rfl | hb
    · exact hq x _ (by simp) h.1
    · exact All2.right h.2 (fun a b ha => hq a b (List.mem_cons_of_mem _ ha)) b hb
  | [], _ :: _, h, _, _, _ => h.elim
  | _ :: _, [], h, _, _, _ => h.elim

theorem read_ok (hl : laidB P = true) (hb : IsBulk bulk) {held : Bool} : ∀ (n : Nat) (t : TypeId) (cs : List Value) (x : DataW H × List MemPlace), DataW.trod enc P W 0 (fun _ => true) held n t cs = some x → bulk x.1 ≤ B → t < P.types.size → ReadOk P B W n t cs
  | 0, t, cs, x, h, _, _ => by simp [DataW.trod] at h
  | n + 1, t, cs0, x, h, hB, hlt => by
    unfold DataW.trod at h
    split at h
    · rename_i b ht
      exact one_ok (c := .bool b) (fun _ => rfl) fun m => by simp only [good, ht]; exact ⟨b, rfl⟩
    · rename_i k k' a ht
      split at h
      · rename_i hk
        obtain ⟨rfl, hw⟩ := hk
        simp only [Lit.wf, Bool.and_eq_true, decide_eq_true_eq] at hw
        exact one_ok (c := .int k' a) (fun _ => rfl) fun m => by simp only [good, ht]; exact ⟨a, rfl, hw.1, hw.2⟩
      · cases h
    · rename_i ht
      exact all2_junk_ok fun m cv => by simp only [good, ht]
    · rename_i s ht
      split at h
      · injection h with h; subst h
        have := hb.str s.data.toList
        have hB' : bulk (.lit (.string s.data.toList)) ≤ B := hB
        have e : s.data.toList.length = s.size := by rw [Array.length_toList]; rfl
        exact one_ok (c := .str s) (fun _ => rfl) fun m => by simp only [good, ht]; exact ⟨s, rfl, by omega⟩
      · cases h
    · rename_i ht
      exact all2_junk_ok fun m cv => by simp only [good, ht]
    · rename_i ht
      exact all2_junk_ok fun m cv => by simp only [good, ht]
    · rename_i e ht
      intro ρ m hm hro
      obtain ⟨q1, q2, q3⟩ := hm.roBlk hro none 0 e (P.cellsOf e) [] (fun h => absurd rfl h)
      refine ⟨_, [⟨.ro, e, 0, P.cellsOf e, []⟩], [.sl m.length 0 0 0], q1, q2, q3, ⟨⟨none, 0, none, 0, Env.set_same _ _ _ _, rfl, Nat.le_refl _, fun h => absurd h (by omega), fun _ => ⟨rfl, rfl⟩⟩, trivial⟩, ?_⟩
      simp only [good, ht]
      exact ⟨_, 0, [], rfl, by simp, by simp, by omega, fun i hi => by omega⟩
    · rename_i e a len cap ht
      split at h
      · rename_i hcap
        obtain ⟨elems, he, h⟩ := Option.bind_eq_some_iff.1 h
        obtain ⟨rest, hr, h⟩ := Option.map_eq_some_iff.1 h
        subst h
        have h2 := mapM_all2 he
        have hex : ∀ (l : List Nat) (el : List (DataW H × List MemPlace)), All2 (fun i y => ((W.cells? 0 (a.add (i * P.cellsOf e)) (P.cellsOf e)).bind (DataW.trod enc P W 0 (fun _ => true) held n e)) = some y) l el → (∀ y, y ∈ el → bulk y.1 ≤ B) →
            ∃ css : List (List Value), All2 (fun i c => W.cells? 0 (a.add (i * P.cellsOf e)) (P.cellsOf e) = some c ∧ ReadOk P B W n e c) l css := by
          intro l
          induction l with
          | nil => intro el _ _; exact ⟨[], trivial⟩
          | cons i l ih =>
            intro el hel hbl
            cases el with
            | nil => exact hel.elim
            | cons y el =>
              obtain ⟨css, hcss⟩ := ih el hel.2 fun y hy => hbl y (List.mem_cons_of_mem _ hy)
              obtain ⟨c, hc1, hc2⟩ := Option.bind_eq_some_iff.1 hel.1
              exact ⟨c :: css, ⟨hc1, read_ok hl hb n e c y hc2 (hbl y (by simp)) (laid_slice hl hlt ht)⟩, hcss⟩
        obtain ⟨css, hcss⟩ := hex _ _ h2 fun y hy => Nat.le_trans (hb.row _ _ y.1 (List.mem_map_of_mem hy)) hB
        have hlen : len ≤ B := by
          have := hb.len (elems.map (·.1)) (rest.map (·.1))
          have hB' : bulk (.slice (elems.map (·.1)) (rest.map (·.1))) ≤ B := hB
          rw [List.length_map, ← h2.length, List.length_range] at this
          omega
        intro ρ m hm hro
        obtain ⟨ρ1, ex, cvs, g1, g2, g3, g4, g5⟩ := read_items (W := W) (fun _ => e) _ css (hcss.mono fun _ _ h => h.2) ρ m hm hro
        have hcl : ∀ c, c ∈ css → c.length = P.cellsOf e := hcss.right fun i c _ hc => (cells?_get hc.1).1
        have hvl : ∀ cv, cv ∈ cvs → cv.length = P.cellsOf e := fun cv hcv => by
          obtain ⟨c, hc, hvc⟩ := g4.mem cv hcv
          rw [hvc.length]; exact hcl c hc
        have hcvl : cvs.length = len := by rw [← g5.length, List.length_range]
        obtain ⟨q1, q2, q3⟩ := g2.roBlk g3 (some a) cap e (P.cellsOf e) cvs.flatten (by
          intro hne
          have hcell : ∀ i c, cvs.flatten[i]? = some c → ∃ v, W.cell? (a.add i) = some v ∧ VC ρ1 c v := by
            intro j c hj
            obtain ⟨i, q, l, e1, e2, e3, e4⟩ := flat_get hvl hj
            obtain ⟨c', hc', hvc⟩ := g4.get e3
            obtain ⟨v, hv, hvv⟩ := hvc.get e4
            have hi : i < len := by have := (List.getElem?_eq_some_iff.1 e3).1; omega
            obtain ⟨c'', hc'', hr'⟩ := hcss.get (i := i) (a := i) (by simp [hi])
            rw [hc'] at hc''; injection hc'' with hc''; subst hc''
            have := (cells?_get hr'.1).2 q v hv
            rw [add_add] at this
            exact ⟨v, by rw [e1]; exact this, hvv⟩
          refine ⟨a, rfl, ?_, hcell⟩
          cases hf : cvs.flatten with
          | nil => exact absurd hf hne
          | cons c r =>
            obtain ⟨v, hv, _⟩ := hcell 0 c (by rw [hf]; rfl)
            have := cell?_lt hv
            simpa [Addr.add] using this)
        refine ⟨_, ex ++ [⟨.ro, e, 0, P.cellsOf e, cvs.flatten⟩], [.sl (m ++ ex).length 0 0 len], fun r v x hx => q1 _ _ _ (g1 _ _ _ hx), by rwa [← List.append_assoc], by rwa [← List.append_assoc], ⟨?_, trivial⟩, ?_⟩
        · exact ⟨some a, cap, some a, cap, Env.set_same _ _ _ _, rfl, hcap.2.1, fun _ => ⟨a, rfl, by simp [Addr.add]⟩, fun _ => ⟨rfl, rfl⟩⟩
        · simp only [good, ht]
          refine ⟨_, len, cvs.flatten, rfl, by rw [← List.append_assoc]; simp, by rw [flat_len hvl, hcvl], hlen, fun i hi => ?_⟩
          obtain ⟨cv, hcv, hg⟩ := g5.get (i := i) (a := i) (by simp [hi])
          rw [chunk_at hvl hcv, ← List.append_assoc]
          exact good_mono _ _ _ _ hg
      · cases h
    · rename_i cs0 _ _ fs ht
      have hlaid := laid_struct hl hlt ht
      split at h
      · rename_i hcl
        obtain ⟨xs, hx, h⟩ := Option.map_eq_some_iff.1 h
        subst h
        have h2 := mapM_all2 hx
        intro ρ m hm hro
        have h3 : All2 (fun (f : Field) c => ReadOk P B W n f.type c) fs.toList (fs.toList.map fun f => (cs0.drop f.offset).take (P.cellsOf f.type)) := by
          refine All2_map_mk (All2_self fun f hf => ?_)
          obtain ⟨y, hy, hfy⟩ := h2.mem f hf
          exact read_ok hl hb n _ _ y hfy (Nat.le_trans (hb.agg _ y.1 (List.mem_map_of_mem hy)) hB) (hlaid.2 f hf)
        obtain ⟨ρ1, ex, cvs, g1, g2, g3, g4, g5⟩ := read_items (W := W) (fun f : Field => f.type) _ _ h3 ρ m hm hro
        obtain ⟨r1, r2⟩ := fields_get cs0 fs.toList 0 _ cvs hlaid.1 hcl g4 g5
        refine ⟨ρ1, ex, cvs.flatten, g1, g2, g3, by simpa using r1, ?_⟩
        simp only [good, ht]
        refine ⟨by rw [r1.length, List.drop_zero]; exact hcl, ?_⟩
        exact fun f hf => by have := (r2 f hf).2; rwa [Nat.sub_zero] at this
      · cases h
    · rename_i cs0 _ _ k e ht
      split at h
      · rename_i hcl
        obtain ⟨xs, hx, h⟩ := Option.map_eq_some_iff.1 h
        subst h
        have h2 := mapM_all2 hx
        have hsz := laid_array hl hlt ht
        intro ρ m hm hro
        have h3 : All2 (fun (i : Nat) c => ReadOk P B W n e c) (List.range k) ((List.range k).map fun i => (cs0.drop (i * P.cellsOf e)).take (P.cellsOf e)) := by
          refine All2_map_mk (All2_self fun i hi => ?_)
          obtain ⟨y, hy, hfy⟩ := h2.mem i hi
          exact read_ok hl hb n _ _ y hfy (Nat.le_trans (hb.agg _ y.1 (List.mem_map_of_mem hy)) hB) hsz.2
        obtain ⟨ρ1, ex, cvs, g1, g2, g3, g4, g5⟩ := read_items (W := W) (fun _ : Nat => e) _ _ h3 ρ m hm hro
        have hcl2 : cs0.length = k * P.cellsOf e := by omega
        have hvl : ∀ cv, cv ∈ cvs → cv.length = P.cellsOf e := fun cv hcv => by
          obtain ⟨c, hc, hvc⟩ := g4.mem cv hcv
          rw [hvc.length]
          obtain ⟨i, hi, rfl⟩ := List.mem_map.1 hc
          have hi' := List.mem_range.1 hi
          have hle : i * P.cellsOf e + P.cellsOf e ≤ k * P.cellsOf e := by rw [← Nat.succ_mul]; exact Nat.mul_le_mul_right _ hi'
          rw [List.length_take, List.length_drop]; omega
        have hfl : All2 (VC ρ1) cvs.flatten cs0 := by
          have := All2_flatten g4
          rwa [chunks_flat k cs0 hcl2] at this
        refine ⟨ρ1, ex, cvs.flatten, g1, g2, g3, hfl, ?_⟩
        · simp only [good, ht]
          refine ⟨by rw [hfl.length]; exact hcl, ?_⟩
          intro i hi
          obtain ⟨cv, hcv, hg⟩ := g5.get (i := i) (a := i) (by simp [hi])
          rw [chunk_at hvl hcv]; exact hg
      · cases h
    all_goals first | (cases h; done) | exact all2_junk_ok fun m cv => by simp only [good, *]


theorem not_agg {base : Nat} {r : Reach} {t : TypeId} {cs : Array Value} (h : Cell.okWide P W r base t (.agg cs)) : False := by
  unfold Cell.okWide at h
  split at h <;> try (rename_i h1; cases h1; done)
  all_goals (unfold Cell.ok at h; split at h <;> first | exact h | (rename_i h1; cases h1; done) | simp_all)

def goodA (P : Program) (B : Nat) (m : AMem) (t : TypeId) (x : AV) : Prop := ∃ n, match P.underlying t with
  | some (.struct _) => ∃ cs, x = .agg cs ∧ good P B m n t cs
  | some (.array _ _) => ∃ cs, x = .agg cs ∧ good P B m n t cs
  | _ => ∃ c, x = .one c ∧ good P B m n t [c]

theorem goodA_mono {m : AMem} (x : AMem) {t : TypeId} {a : AV} (h : goodA P B m t a) : goodA P B (m ++ x) t a := by
  obtain ⟨n, h⟩ := h
  refine ⟨n, ?_⟩
  split at h
  · obtain ⟨cs, h1, h2⟩ := h; exact ⟨cs, h1, good_mono x _ _ _ h2⟩
  · obtain ⟨cs, h1, h2⟩ := h; exact ⟨cs, h1, good_mono x _ _ _ h2⟩
  · obtain ⟨cs, h1, h2⟩ := h; exact ⟨cs, h1, good_mono x _ _ _ h2⟩

theorem read_args (hl : laidB P = true) (hb : IsBulk bulk) {base : Nat} : ∀ (ts : List TypeId) (vs : List Value) (ds : List (DataW H)) (ps : List MemPlace), DataW.TrodAll enc P W 0 (fun _ => true) true ts vs ds ps →
    (∀ (i : Nat) t v, ts[i]? = some t → vs[i]? = some v → Value.okWide P W .any base t v) → (∀ d, d ∈ ds → bulk d ≤ B) → (∀ t, t ∈ ts → t < P.types.size) → ∀ ρ m, RepM ρ m W → AllRo m →
    ∃ ρ' ex avs, RepM ρ' (m ++ ex) W ∧ AllRo (m ++ ex) ∧ ρ.le ρ' ∧ All2 (VR ρ') avs vs ∧ All2 (fun t a => goodA P B (m ++ ex) t a) ts avs
  | [], vs, ds, ps, h, _, _, _, ρ, m, hm, hro => by
    obtain ⟨rfl, rfl, rfl⟩ := trodAll_nil h
    exact ⟨ρ, [], [], by simpa using hm, by simpa using hro, Env.le_refl _, trivial, trivial⟩
  | t :: ts, vs0, ds0, ps, h, hok, hB, hts, ρ, m, hm, hro => by
    obtain ⟨v, vs, d, ds, p, q, rfl, rfl, rfl, ⟨n, h0⟩, r0⟩ := trodAll_cons h
    obtain ⟨ρ1, ex1, cv, g1, g2, g3, g4, g5⟩ := read_ok hl hb n t _ _ h0 (hB d (by simp)) (hts t (by simp)) ρ m hm hro
    obtain ⟨ρ2, ex2, avs, k1, k2, k3, k4, k5⟩ := read_args hl hb ts vs ds q r0 (fun i t' v' h1 h2 => hok (i + 1) t' v' h1 h2) (fun d' hd => hB d' (List.mem_cons_of_mem _ hd)) (fun t' ht' => hts t' (List.mem_cons_of_mem _ ht')) ρ1 (m ++ ex1) g2 g3
    have hv := hok 0 t v rfl rfl
    have key : ∃ a, VR ρ1 a v ∧ goodA P B (m ++ ex1) t a := by
      unfold Value.okWide at hv
      split at hv
      · rename_i fs ht
        obtain ⟨cs, rfl, _, _⟩ := hv
        exact ⟨.agg cv, ⟨cs, rfl, g4⟩, n, by rw [ht]; exact ⟨cv, rfl, g5⟩⟩
      · rename_i k e ht
        obtain ⟨cs, rfl, _, _⟩ := hv
        exact ⟨.agg cv, ⟨cs, rfl, g4⟩, n, by rw [ht]; exact ⟨cv, rfl, g5⟩⟩
      · rename_i hn1 hn2
        have hc : v.cells.toList = [v] := by
          cases v <;> first | rfl | exact (not_agg hv).elim
        rw [hc] at g4
        match cv, g4, g5 with
        | [c], g4, g5 =>
          refine ⟨.one c, g4.1, n, ?_⟩
          split
          · rename_i fs ht; exact absurd ht (hn1 fs)
          · rename_i k e ht; exact absurd ht (hn2 k e)
          · exact ⟨c, rfl, g5⟩
        | [], g4, _ => exact g4.elim
        | _ :: _ :: _, g4, _ => exact g4.2.elim
    obtain ⟨a, ha, hg⟩ := key
    refine ⟨ρ2, ex1 ++ ex2, a :: avs, by rwa [← List.append_assoc], by rwa [← List.append_assoc], fun r v x hx => k3 _ _ _ (g1 _ _ _ hx), ⟨ha.mono k3, k4⟩, ⟨?_, ?_⟩⟩
    · rw [← List.append_assoc]; exact goodA_mono _ hg
    · rwa [← List.append_assoc]

theorem trodAll_stays (hl : laidOutB P = true) {W' : World} {sp : Nat → Bool} : ∀ (ts : List TypeId) (vs : List Value) (ds : List (DataW H)) (ps : List MemPlace), (∀ t, t ∈ ts → P.readableRec t = true ∧ t < P.types.size) →
    DataW.TrodAll enc P W 0 (fun _ => true) true ts vs ds ps → (∀ p, p ∈ ps → W.sameAt W' p) → (∀ p, p ∈ ps → sp p.block = true) → DataW.TrodAll enc P W' 0 sp true ts vs ds ps
  | [], vs, ds, ps, _, h, _, _ => by
    obtain ⟨rfl, rfl, rfl⟩ := trodAll_nil h
    exact rfl
  | t :: ts, vs0, ds0, ps, ht, h, hs, hsp => by
    obtain ⟨v, vs, d, ds, p, q, rfl, rfl, rfl, h0, r0⟩ := trodAll_cons h
    exact ⟨p, q, WideElems.Trod_stays hl (ht t (by simp)).1 (ht t (by simp)).2 h0 (fun x hx => hs x (by simp [hx])) (fun x hx => hsp x (by simp [hx])),
      trodAll_stays hl ts vs ds q (fun t' h' => ht t' (List.mem_cons_of_mem _ h')) r0 (fun x hx => hs x (by simp [hx])) (fun x hx => hsp x (by simp [hx])), rfl⟩

/-- What stands where the call only made blocks of its own, and answers a bool. -/
theorem post_true {fn : Func} {s : ChangeSpec} {W' : World} {args : Array Value} {ds gs : List (DataW H)} {before : List MemPlace} {tb : TypeId} (hvars : s.vars = [])
    (hs : ∀ l : List (DataW H), l = ds → s.fn H l = { results := [.lit (.bool true)], args := l }) (hl : laidOutB P = true) (hread : ∀ t, t ∈ fn.params.toList → P.readableRec t = true ∧ t < P.types.size)
    (hres : fn.resultTypes = #[tb]) (htb : P.underlying tb = some .bool) (hW : DataW.Whole enc P fn.params.toList s.vars false W args.toList ds gs before) (hb : Below W.heap.size W W') :
    s.post enc P fn false true false false W args (.bool true) W' := by
  have hlt : ∀ p ∈ before, p.block < W.heap.size := fun p hp => hW.lt p hp
  obtain ⟨p, q, hA, hV, rfl, hz, hn⟩ := id hW
  rw [hvars] at hV
  obtain ⟨rfl, rfl⟩ := trodVars_none hV
  have hargs : ∀ sp : Nat → Bool, (∀ x, x ∈ p → sp x.block = true) → DataW.TrodAll enc P W' 0 sp true fn.params.toList args.toList ds p := fun sp hsp =>
    trodAll_stays hl _ _ _ _ hread hA (fun x hx => hb.same (hlt x (by simp [hx]))) hsp
  have hfn : s.fn H (ds ++ []) = { results := [.lit (.bool true)], args := ds } := by rw [List.append_nil]; exact hs ds rfl
  have hr : ∀ (b : Nat) (sp : Nat → Bool) (hd : Bool), DataW.TrodAll enc P W' b sp hd fn.resultTypes.toList ((Value.bool true).resultList fn.resultTypes.size) [.lit (.bool true)] [] := fun b sp hd => by
    rw [hres]
    exact ⟨[], [], ⟨1, by simp [DataW.trod, htb, Value.cells]⟩, rfl, rfl⟩
  have hok := ok_one (P := P) (W' := W') (v := .bool true) hres rfl (okWide_bool_mk htb true)
  refine ⟨ds, [], p ++ [], [], p, [], hW, ?_, ?_, ?_, World.keptBut_mono (fun x hx => ⟨hx, .inr (by simpa using hx)⟩) (hb.frame (· ∈ p ++ [])), fun _ => ⟨hok, _, [], ([] ++ p) ++ [], ⟨[] ++ p, [], trodAll_append (hargs _ fun _ _ => rfl) (hr _ _ _), ?_, rfl, ?_, ?_⟩, ?_⟩⟩
  · rw [hfn]; exact hr _ _ _
  · rw [hfn]; exact hargs _ fun x hx => by simpa using hlt x (by simp [hx])
  · rw [hfn, hvars]; exact rfl
  · rw [hvars]; exact rfl
  · intro b off hp
    rw [hb.frozen (hlt _ (by simpa using hp))]
    exact hz b off (by simpa using hp)
  · intro ha; cases ha
  · intro x hx _
    simpa using hx

/-- A LAW THAT ANSWERS TRUE, by its walk over abstract states. -/
theorem law_true {f : FuncId} {fn : Func} {s : ChangeSpec} {args : Array Value} {ds gs : List (DataW H)} {before : List MemPlace} {tb : TypeId} {base : Nat} (hvars : s.vars = [])
    (hs : ∀ l : List (DataW H), l = ds → s.fn H l = { results := [.lit (.bool true)], args := l }) (hl : laidOutB P = true) (hlb : laidB P = true) (hread : fn.params.toList.all (fun t => P.readableRec t && decide (t < P.types.size)) = true)
    (hres : fn.resultTypes = #[tb]) (htb : P.underlying tb = some .bool) (hb : IsBulk bulk) (hk : ∀ d, d ∈ ds → bulk d ≤ B)
    (hval : ∀ (j : Nat) t v, fn.params[j]? = some t → args[j]? = some v → Value.okWide P W .any base t v)
    (hW : DataW.Whole enc P fn.params.toList s.vars false W args.toList ds gs before)
    (hlaw : ∀ m avs, AllRo m → All2 (fun t a => goodA P B m t a) fn.params.toList avs → Ctr P f avs m (.one (.bool true)) m) (hbod : Bodied P f := by exact ⟨_, rfl, rfl, rfl⟩) :
    Calls P f args W fun e W' => ∃ v, e = .returned v ∧ s.post enc P fn false true false false W args v W' := by
  have hread' : ∀ t, t ∈ fn.params.toList → P.readableRec t = true ∧ t < P.types.size := fun t ht => by
    have := List.all_eq_true.1 hread t ht
    simpa using this
  obtain ⟨p, q, hA, hV, he, hz, hn⟩ := id hW
  obtain ⟨ρ, ex, avs, k1, k2, k3, k4, k5⟩ := read_args hlb hb (base := base) _ _ _ _ hA (fun i t v h1 h2 => hval i t v (by simpa using h1) (by simpa using h2)) hk (fun t ht => (hread' t ht).2) (fun _ _ => none) []
    ⟨fun r b h => by simp at h, fun _ _ _ => rfl, fun r b v h => by simp at h, fun r s b c h => by simp at h⟩ (fun b h => by cases h)
  have hc := (hlaw _ avs k2 k5 ρ W _ k1 k4).calls hbod
  rw [show args.toList.toArray = args by simp] at hc
  refine hc.mono fun e W' ⟨v, ρ', e1, hv, hm, hst⟩ => ?_
  have hv' : v = .bool true := hv
  subst e1; subst hv'
  exact ⟨_, rfl, post_true hvars hs hl hread' hres htb hW (hst.below k2)⟩


/-- The same, with no fuel in sight. -/
def Good (P : Program) (B : Nat) (m : AMem) (t : TypeId) (cs : List CV) : Prop := ∃ n, good P B m n t cs
theorem Good.bool {m : AMem} {t : TypeId} {cs : List CV} (h : Good P B m t cs) (ht : P.underlying t = some .bool) : ∃ b, cs = [.bool b] := by
  obtain ⟨n, h⟩ := h
  cases n with
  | zero => exact h.elim
  | succ n => simpa only [good, ht] using h
theorem Good.int {m : AMem} {t : TypeId} {cs : List CV} (h : Good P B m t cs) {k : IntKind} (ht : P.underlying t = some (.int k)) : ∃ x, cs = [.int k x] ∧ k.min ≤ x ∧ x ≤ k.max := by
  obtain ⟨n, h⟩ := h
  cases n with
  | zero => exact h.elim
  | succ n => simpa only [good, ht] using h
theorem Good.str {m : AMem} {t : TypeId} {cs : List CV} (h : Good P B m t cs) (ht : P.underlying t = some .string) : ∃ s : ByteArray, cs = [.str s] ∧ s.size ≤ B := by
  obtain ⟨n, h⟩ := h
  cases n with
  | zero => exact h.elim
  | succ n => simpa only [good, ht] using h
theorem Good.row {m : AMem} {t e : TypeId} {cs : List CV} (h : Good P B m t cs) (ht : P.underlying t = some (.slice e)) :
    ∃ r len cells, cs = [.sl r 0 0 len] ∧ m[r]? = some ⟨.ro, e, 0, P.cellsOf e, cells⟩ ∧ cells.length = len * P.cellsOf e ∧ len ≤ B ∧ ∀ i, i < len → Good P B m e ((cells.drop (i * P.cellsOf e)).take (P.cellsOf e)) := by
  obtain ⟨n, h⟩ := h
  cases n with
  | zero => exact h.elim
  | succ n =>
    simp only [good, ht] at h
    obtain ⟨r, len, cells, h1, h2, h3, h4, h5⟩ := h
    exact ⟨r, len, cells, h1, h2, h3, h4, fun i hi => ⟨n, h5 i hi⟩⟩
theorem Good.struct {m : AMem} {t : TypeId} {cs : List CV} (h : Good P B m t cs) {fs : Array Field} (ht : P.underlying t = some (.struct fs)) : cs.length = P.cellsOf t ∧ ∀ f, f ∈ fs.toList → Good P B m f.type ((cs.drop f.offset).take (P.cellsOf f.type)) := by
  obtain ⟨n, h⟩ := h
  cases n with
  | zero => exact h.elim
  | succ n => simp only [good, ht] at h; exact ⟨h.1, fun f hf => ⟨n, h.2 f hf⟩⟩
theorem Good.arr {m : AMem} {t e : TypeId} {cs : List CV} (h : Good P B m t cs) {k : Nat} (ht : P.underlying t = some (.array k e)) : cs.length = P.cellsOf t ∧ ∀ i, i < k → Good P B m e ((cs.drop (i * P.cellsOf e)).take (P.cellsOf e)) := by
  obtain ⟨n, h⟩ := h
  cases n with
  | zero => exact h.elim
  | succ n => simp only [good, ht] at h; exact ⟨h.1, fun i hi => ⟨n, h.2 i hi⟩⟩
theorem goodA.agg {m : AMem} {t : TypeId} {x : AV} (h : goodA P B m t x) (ht : (∃ fs, P.underlying t = some (.struct fs)) ∨ ∃ k e, P.underlying t = some (.array k e)) : ∃ cs, x = .agg cs ∧ Good P B m t cs := by
  obtain ⟨n, h⟩ := h
  rcases ht with ⟨fs, ht⟩ | ⟨k, e, ht⟩
  · rw [ht] at h; obtain ⟨cs, h1, h2⟩ := h; exact ⟨cs, h1, n, h2⟩
  · rw [ht] at h; obtain ⟨cs, h1, h2⟩ := h; exact ⟨cs, h1, n, h2⟩
theorem goodA.one {m : AMem} {t : TypeId} {x : AV} (h : goodA P B m t x) (h1 : ∀ fs, P.underlying t ≠ some (.struct fs)) (h2 : ∀ k e, P.underlying t ≠ some (.array k e)) : ∃ c, x = .one c ∧ Good P B m t [c] := by
  obtain ⟨n, h⟩ := h
  split at h
  · rename_i fs ht; exact absurd ht (h1 fs)
  · rename_i k e ht; exact absurd ht (h2 k e)
  · obtain ⟨c, q1, q2⟩ := h; exact ⟨c, q1, n, q2⟩

/-- A flat array of ints. -/
theorem ints_of {k : IntKind} : ∀ (n : Nat) (cs : List CV), cs.length = n → (∀ i, i < n → ∃ x, (cs.drop i).take 1 = [.int k x] ∧ k.min ≤ x ∧ x ≤ k.max) → ∃ xs : List Int, cs = xs.map (CV.int k) ∧ ∀ x, x ∈ xs → k.min ≤ x ∧ x ≤ k.max
  | 0, cs, h, _ => ⟨[], by simpa using h, fun x hx => by cases hx⟩
  | n + 1, [], h, _ => by simp at h
  | n + 1, c :: cs, h, hi => by
    obtain ⟨x, h1, h2⟩ := hi 0 (by omega)
    simp at h1; subst h1
    obtain ⟨xs, h3, h4⟩ := ints_of n cs (by simpa using h) fun i hlt => by simpa using hi (i + 1) (by omega)
    exact ⟨x :: xs, by rw [h3]; rfl, fun y hy => by
      rcases List.mem_cons.1 hy with rfl | hy
      · exact h2
      · exact h4 y hy⟩
theorem rows_of {k : IntKind} {sz : Nat} : ∀ (n : Nat) (cs : List CV), cs.length = n * sz → (∀ i, i < n → ∃ xs : List Int, (cs.drop (i * sz)).take sz = xs.map (CV.int k) ∧ ∀ x, x ∈ xs → k.min ≤ x ∧ x ≤ k.max) →
    ∃ xs : List Int, cs = xs.map (CV.int k) ∧ ∀ x, x ∈ xs → k.min ≤ x ∧ x ≤ k.max
  | 0, cs, h, _ => ⟨[], by simpa using h, fun x hx => by cases hx⟩
  | n + 1, cs, h, hi => by
    obtain ⟨xs, h1, h2⟩ := hi 0 (by omega)
    rw [Nat.zero_mul, List.drop_zero] at h1
    obtain ⟨ys, h3, h4⟩ := rows_of (k := k) (sz := sz) n (cs.drop sz) (by rw [List.length_drop, h, Nat.succ_mul]; omega) fun i hlt => by
      have := hi (i + 1) (by omega)
      rwa [Nat.succ_mul, Nat.add_comm, ← List.drop_drop] at this
    refine ⟨xs ++ ys, ?_, fun x hx => ?_⟩
    · rw [List.map_append, ← h1, ← h3, List.take_append_drop]
    · rcases List.mem_append.1 hx with hx | hx
      · exact h2 x hx
      · exact h4 x hx
end
/-- Some cells of a row, at once. -/
theorem ldCells_if (cells : List CV) (off n : Nat) : ldCells cells off n = if n = 0 then some [] else if off + n ≤ cells.length then some ((cells.drop off).take n) else none := by
  by_cases h0 : n = 0
  · subst h0; rw [if_pos rfl]; rfl
  · rw [if_neg h0]
    have key : ∀ (n off : Nat), 0 < n → ldCells cells off n = if off + n ≤ cells.length then some ((cells.drop off).take n) else none := by
      intro n
      induction n with
      | zero => intro off h; omega
      | succ n ih =>
        intro off _
        simp only [ldCells]
        rcases Nat.lt_or_ge off cells.length with hl | hl
        · rw [List.getElem?_eq_getElem hl]
          simp only
          rcases Nat.eq_zero_or_pos n with hn | hn
          · subst hn
            rw [if_pos (by omega), List.drop_eq_getElem_cons hl]; rfl
          · rw [ih (off + 1) hn]
            by_cases hle : off + (n + 1) ≤ cells.length
            · rw [if_pos hle, if_pos (by omega), List.drop_eq_getElem_cons hl, List.take_succ_cons]; rfl
            · rw [if_neg hle, if_neg (by omega)]; rfl
        · rw [List.getElem?_eq_none hl, if_neg (by omega)]
    exact key n off (by omega)
end Go.Eng
