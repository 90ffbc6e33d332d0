/-
  ENGINE, PART Q: a region that draws its order, where operations that make memory are left unordered: it is parted by which of two comes first, and each part is reckoned in an order of its own.
-/
import Derived.Test.YtmjbbnfmhgcfaaaEngP
set_option linter.unusedVariables false
set_option linter.unusedSimpArgs false
namespace Go.Eng
open Go

def bef (σ : List Nat) (i j : Nat) : Prop := σ.idxOf i < σ.idxOf j

/-- An order in which the operations of a region may run. -/
structure Lin (ops : Array Oper) (σ : List Nat) : Prop where
  nd : σ.Nodup
  all : ∀ i, i ∈ σ ↔ i < ops.size
  ord : ∀ (j : Nat) (o : Oper), ops[j]? = some o → ∀ e, e ∈ o.after → Region.binds .any e = true → bef σ e.on j

def backB (ops : List Oper) : Bool := (List.range ops.length).all fun j => match ops[j]? with
  | some o => o.after.all fun e => !Region.binds .any e || decide (e.on < j)
  | none => true
theorem backB_ok {l : List Oper} (h : backB l = true) : ∀ (j : Nat) (o : Oper), l.toArray[j]? = some o → ∀ e, e ∈ o.after → Region.binds .any e = true → e.on < j := by
  intro j o hj e he hb
  have hj' : l[j]? = some o := by simpa using hj
  have h1 := List.all_eq_true.1 h j (List.mem_range.2 (List.getElem?_eq_some_iff.1 hj').1)
  rw [hj'] at h1
  have h2 := Array.all_eq_true_iff_forall_mem.1 h1 e he
  simpa [hb] using h2

theorem idxOf_cons' (i : Nat) (σ : List Nat) (k : Nat) : (i :: σ).idxOf k = if k = i then 0 else σ.idxOf k + 1 := by
  rw [List.idxOf_cons]
  by_cases h : k = i
  · subst h; simp
  · have h1 : (i == k) = false := by simpa using fun e => h e.symm
    rw [if_neg h, h1]; rfl

theorem get_idxOf : ∀ {σ : List Nat} {i : Nat}, i ∈ σ → σ[σ.idxOf i]? = some i
  | k :: σ, i, h => by
    rw [idxOf_cons']
    by_cases e : i = k
    · subst e; simp
    · rw [if_neg e]
      rcases List.mem_cons.1 h with h | h
      · exact absurd h e
      · simpa using get_idxOf h

theorem getD_set (l : Array Bool) (i k : Nat) (d : Bool) (hi : i < l.size) : (l.setIfInBounds i true).getD k d = if k = i then true else l.getD k d := by
  simp only [Array.getD_eq_getD_getElem?]
  by_cases h : k = i
  · subst h; simp [Array.getElem?_setIfInBounds_self_of_lt, hi]
  · rw [if_neg h, Array.getElem?_setIfInBounds_ne (fun e => h e.symm)]

def unl (n : Nat) (listed : Array Bool) : Nat := (List.range n).countP fun i => !listed.getD i true

theorem go_facts {ops : Array Oper} (hback : ∀ (j : Nat) (o : Oper), ops[j]? = some o → ∀ e, e ∈ o.after → Region.binds .any e = true → e.on < j) :
    ∀ (fuel t : Nat) (listed : Array Bool), listed.size = ops.size → unl ops.size listed ≤ fuel →
      (∀ i, i ∈ Region.linearise.go .any ops fuel t listed [] ↔ (i < ops.size ∧ listed.getD i true = false)) ∧ (Region.linearise.go .any ops fuel t listed []).Nodup ∧
      ∀ (j : Nat) (o : Oper), ops[j]? = some o → listed.getD j true = false → ∀ e, e ∈ o.after → Region.binds .any e = true → listed.getD e.on false = true ∨ bef (Region.linearise.go .any ops fuel t listed []) e.on j := by
  have hnone : ∀ (listed : Array Bool), listed.size = ops.size → Region.ready .any ops listed = [] → ∀ j, j < ops.size → listed.getD j true = true := by
    intro listed hsz hr j
    induction j using Nat.strongRecOn with
    | _ j ih =>
      intro hj
      cases hl : listed.getD j true with
      | true => rfl
      | false =>
        exfalso
        have hm : j ∈ Region.ready .any ops listed := by
          simp only [Region.ready, List.mem_filter, List.mem_range]
          refine ⟨hj, ?_⟩
          rw [hl, Array.getElem?_eq_getElem hj]
          simp only [Bool.not_false, Option.map_some, Option.getD_some, Bool.true_and]
          refine Array.all_eq_true_iff_forall_mem.2 fun e he => ?_
          cases hb : Region.binds .any e with
          | false => rfl
          | true =>
            have hlt := hback j _ (Array.getElem?_eq_getElem hj) e he hb
            have h1 := ih e.on hlt (by omega)
            simp only [Bool.not_true, Bool.false_or]
            have : e.on < listed.size := by omega
            simpa [Array.getD_eq_getD_getElem?, this] using h1
        rw [hr] at hm
        cases hm
  intro fuel
  induction fuel with
  | zero =>
    intro t listed hsz hc
    have h0 : ∀ i, i < ops.size → listed.getD i true = true := fun i hi => by
      cases hl : listed.getD i true with
      | true => rfl
      | false =>
        have : 0 < unl ops.size listed := List.countP_pos_iff.2 ⟨i, List.mem_range.2 hi, by simp only [hl, Bool.not_false]⟩
        omega
    simp only [Region.linearise.go]
    refine ⟨fun i => ⟨fun h => (by simp at h), fun h => ?_⟩, (by simp), fun j o hj hl e he hb => ?_⟩
    · have := h0 i h.1; rw [this] at h; cases h.2
    · have := h0 j (Array.getElem?_eq_some_iff.1 hj).1; rw [this] at hl; cases hl
  | succ fuel ih =>
    intro t listed hsz hc
    simp only [Region.linearise.go]
    change (∀ i, i ∈ (match (Region.ready .any ops listed)[t % (Region.ready .any ops listed).length]? with
      | some i => Region.linearise.go .any ops fuel (t / (Region.ready .any ops listed).length) (listed.setIfInBounds i true) [i]
      | none => [].reverse) ↔ (i < ops.size ∧ listed.getD i true = false)) ∧ (match (Region.ready .any ops listed)[t % (Region.ready .any ops listed).length]? with
      | some i => Region.linearise.go .any ops fuel (t / (Region.ready .any ops listed).length) (listed.setIfInBounds i true) [i]
      | none => [].reverse).Nodup ∧ ∀ (j : Nat) (o : Oper), ops[j]? = some o → listed.getD j true = false → ∀ e, e ∈ o.after → Region.binds .any e = true → listed.getD e.on false = true ∨ bef (match (Region.ready .any ops listed)[t % (Region.ready .any ops listed).length]? with
      | some i => Region.linearise.go .any ops fuel (t / (Region.ready .any ops listed).length) (listed.setIfInBounds i true) [i]
      | none => [].reverse) e.on j
    cases hi : (Region.ready .any ops listed)[t % (Region.ready .any ops listed).length]? with
    | none =>
      have hnil : Region.ready .any ops listed = [] := by
        cases hr : Region.ready .any ops listed with
        | nil => rfl
        | cons x xs =>
          rw [hr] at hi
          have hlt : t % (x :: xs).length < (x :: xs).length := Nat.mod_lt _ (by simp)
          simp at hi
          simp at hlt
          omega
      have h0 := hnone listed hsz hnil
      refine ⟨fun i => ⟨fun h => (by simp at h), fun h => ?_⟩, (by simp), fun j o hj hl e he hb => ?_⟩
      · have := h0 i h.1; rw [this] at h; cases h.2
      · have := h0 j (Array.getElem?_eq_some_iff.1 hj).1; rw [this] at hl; cases hl
    | some i =>
      have hm := List.mem_of_getElem? hi
      simp only [Region.ready, List.mem_filter, List.mem_range, Bool.and_eq_true, Bool.not_eq_true'] at hm
      obtain ⟨hil, hiu, hie⟩ := hm
      simp only []
      rw [linearise_go_acc, List.reverse_singleton, List.singleton_append]
      have hsz' : (listed.setIfInBounds i true).size = ops.size := by simpa using hsz
      have hget : ∀ k d, (listed.setIfInBounds i true).getD k d = if k = i then true else listed.getD k d := fun k d => getD_set _ _ _ _ (by omega)
      have hcnt : unl ops.size (listed.setIfInBounds i true) < unl ops.size listed := by
        refine countP_lt (fun k _ hk => ?_) i (List.mem_range.2 hil) (by rw [hiu]; rfl) (by rw [hget, if_pos rfl]; rfl)
        rw [hget] at hk
        by_cases e : k = i
        · rw [if_pos e] at hk; cases hk
        · rw [if_neg e] at hk; exact hk
      obtain ⟨h1, h2, h3⟩ := ih (t / (Region.ready .any ops listed).length) (listed.setIfInBounds i true) hsz' (by omega)
      generalize Region.linearise.go .any ops fuel (t / (Region.ready .any ops listed).length) (listed.setIfInBounds i true) [] = τ at *
      have hin : i ∉ τ := fun h => by
        have := ((h1 i).1 h).2
        rw [hget, if_pos rfl] at this; cases this
      refine ⟨fun k => ?_, List.nodup_cons.2 ⟨hin, h2⟩, fun j o hj hl e he hb => ?_⟩
      · rw [List.mem_cons, h1 k, hget]
        by_cases e : k = i
        · subst e; simp [hil, hiu]
        · rw [if_neg e]; simp [e]
      · unfold bef
        rw [idxOf_cons', idxOf_cons']
        by_cases ej : j = i
        · subst ej
          rw [hj] at hie
          simp only [Option.map_some, Option.getD_some] at hie
          have := Array.all_eq_true_iff_forall_mem.1 hie e he
          simp only [hb, Bool.not_true, Bool.false_or] at this
          exact .inl this
        · rw [if_neg ej]
          rcases h3 j o hj (by rw [hget, if_neg ej]; exact hl) e he hb with h | h
          · rw [hget] at h
            by_cases eo : e.on = i
            · exact .inr (by rw [if_pos eo]; omega)
            · rw [if_neg eo] at h; exact .inl h
          · right
            unfold bef at h
            split <;> omega

theorem lin_of {ops : Array Oper} (hback : ∀ (j : Nat) (o : Oper), ops[j]? = some o → ∀ e, e ∈ o.after → Region.binds .any e = true → e.on < j) (t : Nat) : Lin ops (Region.linearise .any ops t) := by
  have hrep : ∀ k, (Array.replicate ops.size false).getD k false = false := fun k => by
    simp only [Array.getD_eq_getD_getElem?, Array.getElem?_replicate]; split <;> rfl
  have hrep' : ∀ k, k < ops.size → (Array.replicate ops.size false).getD k true = false := fun k hk => by
    simp only [Array.getD_eq_getD_getElem?, Array.getElem?_replicate]; rw [if_pos hk]; rfl
  have h := go_facts hback ops.size t (Array.replicate ops.size false) (by simp) (by
    unfold unl
    have := List.countP_le_length (p := fun i => !(Array.replicate ops.size false).getD i true) (l := List.range ops.size)
    simpa using this)
  refine ⟨h.2.1, fun i => ?_, fun j o hj e he hb => ?_⟩
  · rw [show Region.linearise .any ops t = Region.linearise.go .any ops ops.size t (Array.replicate ops.size false) [] from rfl, h.1 i]
    exact ⟨fun h => h.1, fun h => ⟨h, hrep' i h⟩⟩
  · rcases h.2.2 j o hj (hrep' j (Array.getElem?_eq_some_iff.1 hj).1) e he hb with h1 | h1
    · rw [hrep] at h1; cases h1
    · exact h1

theorem wpAny_lin {P : Program} {ops : Array Oper} {Q : Exit → Act → World → Prop} {σ : List Nat} (hl : Lin ops σ) :
    ∀ (suf pre : List Nat) (fuel : Nat) (listed : Array Bool) (a : Act) (w : World), pre ++ suf = σ → listed.size = ops.size → (∀ k, k < ops.size → listed.getD k false = decide (k ∈ pre)) → suf.length ≤ fuel →
      wpAny P .any ops Q fuel listed a w → wpOps P ops Q suf a w := by
  intro suf
  induction suf with
  | nil =>
    intro pre fuel listed a w hp hsz hli hf h
    have hr : Region.ready .any ops listed = [] := by
      refine List.eq_nil_iff_forall_not_mem.2 fun i hi => ?_
      simp only [Region.ready, List.mem_filter, List.mem_range, Bool.and_eq_true, Bool.not_eq_true'] at hi
      have h1 := hli i hi.1
      have h2 : i ∈ pre := by rw [List.append_nil] at hp; rw [hp]; exact (hl.all i).2 hi.1
      have h3 : listed.getD i true = true := by
        have : i < listed.size := by have := hi.1; omega
        simp only [decide_eq_true h2] at h1
        simpa [Array.getD_eq_getD_getElem?, this] using h1
      rw [h3] at hi
      cases hi.2.1
    cases fuel with
    | zero => exact h.2
    | succ f => exact h.1 hr
  | cons i suf ih =>
    intro pre fuel listed a w hp hsz hli hf h
    have hnd := hl.nd
    rw [← hp] at hnd
    have hil : i < ops.size := (hl.all i).1 (by rw [← hp]; simp)
    have hip : i ∉ pre := fun hh => (List.nodup_append.1 hnd).2.2 i hh i List.mem_cons_self rfl
    have hidx : σ.idxOf i = pre.length := by
      rw [← hp, List.idxOf_append, if_neg hip]; simp
    have hrd : i ∈ Region.ready .any ops listed := by
      simp only [Region.ready, List.mem_filter, List.mem_range, Bool.and_eq_true, Bool.not_eq_true']
      refine ⟨hil, ?_, ?_⟩
      · have h1 := hli i hil
        rw [decide_eq_false hip] at h1
        have : i < listed.size := by omega
        simpa [Array.getD_eq_getD_getElem?, this] using h1
      · rw [Array.getElem?_eq_getElem hil]
        simp only [Option.map_some, Option.getD_some]
        refine Array.all_eq_true_iff_forall_mem.2 fun e he => ?_
        cases hb : Region.binds .any e with
        | false => rfl
        | true =>
          have h1 := hl.ord i _ (Array.getElem?_eq_getElem hil) e he hb
          unfold bef at h1
          rw [hidx] at h1
          have hmem : e.on ∈ pre := by
            rw [← hp, List.idxOf_append] at h1
            by_cases hm : e.on ∈ pre
            · exact hm
            · rw [if_neg hm] at h1; omega
          have hlt : e.on < ops.size := (hl.all _).1 (by rw [← hp]; exact List.mem_append_left _ hmem)
          simp only [Bool.not_true, Bool.false_or]
          rw [hli _ hlt, decide_eq_true hmem]
    cases fuel with
    | zero => simp at hf
    | succ f =>
      rw [wpOps_cons]
      refine wpOp_mono (fun a w => ih (pre ++ [i]) f (listed.setIfInBounds i true) a w (by simpa using hp) (by simpa using hsz) (fun k hk => ?_) (by simpa using hf)) (h.2 i hrd)
      rw [getD_set _ _ _ _ (by omega), hli k hk]
      by_cases e : k = i
      · subst e; simp
      · rw [if_neg e]; simp [e]

/-- The operations in another order, some of them bound to come behind others. -/
def reAft (π : List Nat) (ext : List (Nat × Nat)) (i : Nat) (af : Array Edge) : Array Edge := ((af.toList.map fun e : Edge => (⟨π.idxOf e.on, e.ground⟩ : Edge)) ++ ((ext.filter fun p => p.2 == i).map fun p => (⟨π.idxOf p.1, .data⟩ : Edge))).toArray
def reOp (π : List Nat) (ext : List (Nat × Nat)) (i : Nat) (o : Oper) : Oper :=
  ⟨o.dst, o.op, o.type, o.pos, reAft π ext i o.after, o.guard.map fun g => (π.idxOf g.1, g.2)⟩
def permL (ops : List Oper) (π : List Nat) (ext : List (Nat × Nat)) : List Oper := π.map fun i => reOp π ext i (ops[i]?.getD default)
def permOk (n : Nat) (π : List Nat) : Bool := decide (π.length = n) && π.all (fun i => decide (i < n)) && (List.range n).all (fun i => π.contains i) && decide π.Nodup

section
variable {ops : List Oper} {π : List Nat} {ext : List (Nat × Nat)}
theorem permOk_facts {n : Nat} (h : permOk n π = true) : π.length = n ∧ (∀ i, i ∈ π ↔ i < n) ∧ π.Nodup := by
  simp only [permOk, Bool.and_eq_true, decide_eq_true_eq, List.all_eq_true, List.mem_range, List.contains_iff_mem] at h
  obtain ⟨⟨⟨h1, h2⟩, h3⟩, h4⟩ := h
  exact ⟨h1, fun i => ⟨h2 i, h3 i⟩, h4⟩
theorem permL_get {n : Nat} (hn : ops.length = n) (h : permOk n π = true) {i : Nat} {o : Oper} (ho : ops[i]? = some o) : (permL ops π ext)[π.idxOf i]? = some (reOp π ext i o) := by
  obtain ⟨h1, h2, h3⟩ := permOk_facts h
  have hi : i < n := by rw [← hn]; exact (List.getElem?_eq_some_iff.1 ho).1
  have hm := (h2 i).2 hi
  unfold permL
  rw [List.getElem?_map, get_idxOf hm]
  simp [ho]
theorem idx_inj {n : Nat} (h : permOk n π = true) {i j : Nat} (hi : i < n) (he : π.idxOf i = π.idxOf j) : i = j := by
  obtain ⟨h1, h2, h3⟩ := permOk_facts h
  have hm := (h2 i).2 hi
  have e1 := get_idxOf hm
  have hj : j ∈ π := by
    refine List.idxOf_lt_length_iff.1 ?_
    rw [← he]; exact List.idxOf_lt_length_iff.2 hm
  have e2 := get_idxOf hj
  rw [← he, e1] at e2
  injection e2
theorem idxOf_map {n : Nat} (h : permOk n π = true) : ∀ (σ : List Nat), (∀ k, k ∈ σ → k < n) → ∀ {i : Nat}, i < n → (σ.map fun k => π.idxOf k).idxOf (π.idxOf i) = σ.idxOf i
  | [], _, i, _ => rfl
  | k :: σ, hs, i, hi => by
    rw [List.map_cons, idxOf_cons', idxOf_cons', idxOf_map h σ (fun k hk => hs k (List.mem_cons_of_mem _ hk)) hi]
    by_cases e : i = k
    · subst e; simp
    · rw [if_neg e, if_neg fun he => e (idx_inj h hi he)]

theorem Lin.perm {σ : List Nat} (hl : Lin ops.toArray σ) (h : permOk ops.length π = true) (he : ∀ p, p ∈ ext → bef σ p.1 p.2 ∧ p.1 < ops.length) (hb : ∀ (j : Nat) (o : Oper), ops.toArray[j]? = some o → ∀ e, e ∈ o.after → Region.binds .any e = true → e.on < j) :
    Lin (permL ops π ext).toArray (σ.map fun k => π.idxOf k) := by
  obtain ⟨h1, h2, h3⟩ := permOk_facts h
  have hlt : ∀ k, k ∈ σ → k < ops.length := fun k hk => by simpa using (hl.all k).1 hk
  have hsz : (permL ops π ext).toArray.size = ops.length := by simp [permL, h1]
  have hmapnd : ∀ τ : List Nat, (∀ k, k ∈ τ → k < ops.length) → τ.Nodup → (τ.map fun k => π.idxOf k).Nodup := by
    intro τ
    induction τ with
    | nil => intro _ _; simp
    | cons k τ ih =>
      intro hk hnd
      obtain ⟨hk1, hk2⟩ := List.nodup_cons.1 hnd
      rw [List.map_cons]
      refine List.nodup_cons.2 ⟨fun hm => ?_, ih (fun k hk' => hk k (List.mem_cons_of_mem _ hk')) hk2⟩
      obtain ⟨k', hk', e⟩ := List.mem_map.1 hm
      have := idx_inj h (hk k' (List.mem_cons_of_mem _ hk')) e
      subst this; exact hk1 hk'
  refine ⟨hmapnd σ hlt hl.nd, fun i => ?_, fun j o hj e hee hbe => ?_⟩
  · rw [hsz, List.mem_map]
    constructor
    · rintro ⟨k, hk, rfl⟩
      rw [← h1]; exact List.idxOf_lt_length_iff.2 ((h2 k).2 (hlt k hk))
    · intro hi
      have hi' : i < π.length := by omega
      refine ⟨π[i], (hl.all _).2 (by simpa using (h2 _).1 (List.getElem_mem hi')), h3.idxOf_getElem i hi'⟩
  · have hj' : (permL ops π ext)[j]? = some o := by simpa using hj
    unfold permL at hj'
    rw [List.getElem?_map, Option.map_eq_some_iff] at hj'
    obtain ⟨i, hi, rfl⟩ := hj'
    have hil : i < ops.length := (h2 i).1 (List.mem_of_getElem? hi)
    have hji : π.idxOf i = j := by
      obtain ⟨hjl, e⟩ := List.getElem?_eq_some_iff.1 hi
      rw [← e]; exact h3.idxOf_getElem j hjl
    have ho : ops[i]? = some (ops[i]'hil) := List.getElem?_eq_getElem hil
    rw [ho] at hee
    simp only [Option.getD_some, reOp, reAft, List.mem_toArray, List.mem_append, List.mem_map, List.mem_filter] at hee
    unfold bef
    rw [← hji, idxOf_map h σ hlt hil]
    rcases hee with ⟨e0, he0, rfl⟩ | ⟨p, ⟨hp, hpi⟩, rfl⟩
    · have hb0 : Region.binds .any e0 = true := by simpa [Region.binds] using hbe
      have hlt0 := hb i _ (by rw [List.getElem?_toArray]; exact ho) e0 (by simpa using he0) hb0
      simp only
      rw [idxOf_map h σ hlt (by omega)]
      exact hl.ord i _ (by rw [List.getElem?_toArray]; exact ho) e0 (by simpa using he0) hb0
    · have hpe : p.2 = i := by simpa using hpi
      simp only
      rw [idxOf_map h σ hlt (he p hp).2, ← hpe]
      exact (he p hp).1

theorem wpOp_perm {P : Program} {Q : Exit → Act → World → Prop} (h : permOk ops.length π = true) {i : Nat} (hi : i < ops.length) {K : Act → World → Prop} {a : Act} {w : World}
    (hw : wpOp P (permL ops π ext).toArray Q (π.idxOf i) K a w) : wpOp P ops.toArray Q i K a w := by
  obtain ⟨h1, h2, h3⟩ := permOk_facts h
  have ho : ops[i]? = some (ops[i]'hi) := List.getElem?_eq_getElem hi
  generalize ops[i]'hi = o at ho
  have hy : ∀ g, yielded (permL ops π ext).toArray a.tmps (π.idxOf g) = yielded ops.toArray a.tmps g := by
    intro g
    unfold yielded
    rcases Nat.lt_or_ge g ops.length with hg | hg
    · have hg' : ops[g]? = some (ops[g]'hg) := List.getElem?_eq_getElem hg
      simp only [List.getElem?_toArray, permL_get rfl h hg', hg', reOp, Option.bind_some]
    · have e1 : ops[g]? = none := List.getElem?_eq_none hg
      have e2 : (permL ops π ext)[π.idxOf g]? = none := List.getElem?_eq_none (by
        have : g ∉ π := fun hm => by have := (h2 g).1 hm; omega
        rw [List.idxOf_eq_length this]; simp [permL])
      simp only [List.getElem?_toArray, e1, e2]
  have hwant : Region.wanted (reOp π ext i o) (yielded (permL ops π ext).toArray a.tmps) = Region.wanted o (yielded ops.toArray a.tmps) := by
    simp only [Region.wanted, reOp]
    cases o.guard with
    | none => rfl
    | some g => simp only [Option.map_some, hy]
  unfold wpOp at hw ⊢
  simp only [List.getElem?_toArray, permL_get rfl h ho, hwant] at hw
  simp only [List.getElem?_toArray, ho]
  exact hw

theorem wpOps_perm {P : Program} {Q : Exit → Act → World → Prop} (h : permOk ops.length π = true) : ∀ (σ : List Nat), (∀ k, k ∈ σ → k < ops.length) → ∀ (a : Act) (w : World), wpOps P (permL ops π ext).toArray Q (σ.map fun k => π.idxOf k) a w → wpOps P ops.toArray Q σ a w
  | [], _, a, w, hw => hw
  | i :: σ, hs, a, w, hw => by
    rw [List.map_cons, wpOps_cons] at hw
    rw [wpOps_cons]
    exact wpOp_perm h (hs i List.mem_cons_self) (wpOp_mono (fun a w => wpOps_perm h σ (fun k hk => hs k (List.mem_cons_of_mem _ hk)) a w) hw)
end

section
variable {P : Program} {nt : Nat} {tm : Tm} {mem : AMem}
/-- All orders in which, of some pairs, the one comes ahead of the other. -/
def DX (P : Program) (nt : Nat) (ops : List Oper) (ext : List (Nat × Nat)) (tm : Tm) (mem : AMem) (K : Tm → AMem → Prop) : Prop :=
  ∀ ρ a w, Rep ρ nt tm mem a w → ∀ QQ : Exit → Act → World → Prop, (∀ ρ' tm' mem' a' w', Rep ρ' nt tm' mem' a' w' → Step mem ρ w mem' ρ' w' → a'.defers = a.defers → K tm' mem' → QQ .normal a' w') →
    ∀ σ, Lin ops.toArray σ → (∀ p, p ∈ ext → bef σ p.1 p.2) → wpOps P ops.toArray QQ σ a w

theorem AW.drawX {id : Nat} {l : List Oper} {Q : Exit → Tm → AMem → Prop} (hf : P.follows .mixedOrders = true) (hb : backB l = true) (h : DX P nt l [] tm mem (Q .normal)) : AW P nt (.region id l.toArray true) tm mem Q := by
  intro ρ a w hr
  refine wp_region_draw fun t => ?_
  simp only [Region.schedule, hf, Bool.true_or, if_true]
  exact h ρ a _ hr.drew _ (fun ρ' tm' mem' a' w' r s d k => ⟨ρ', tm', mem', r, ⟨s.os, s.tape, s.output, s.size, s.len, s.ext, s.kind, s.ro, s.frame, s.fresh⟩, d, k⟩) _ (lin_of (backB_ok hb) t) (fun p hp => by cases hp)

theorem DX.split {l : List Oper} {ext : List (Nat × Nat)} {K : Tm → AMem → Prop} (i j : Nat) (hn : i ≠ j ∧ i < l.length ∧ j < l.length) (h1 : DX P nt l ((i, j) :: ext) tm mem K) (h2 : DX P nt l ((j, i) :: ext) tm mem K) : DX P nt l ext tm mem K := by
  intro ρ a w hr QQ hQ σ hl he
  obtain ⟨hne, hi, hj⟩ := hn
  have hmi : i ∈ σ := (hl.all i).2 (by simpa using hi)
  have hmj : j ∈ σ := (hl.all j).2 (by simpa using hj)
  have hneq : σ.idxOf i ≠ σ.idxOf j := fun e => by
    have e1 := get_idxOf hmi
    have e2 := get_idxOf hmj
    rw [e, e2] at e1
    injection e1 with e1
    exact hne e1.symm
  rcases Nat.lt_or_ge (σ.idxOf i) (σ.idxOf j) with h | h
  · exact h1 ρ a w hr QQ hQ σ hl fun p hp => by
      rcases List.mem_cons.1 hp with rfl | hp
      · exact h
      · exact he p hp
  · exact h2 ρ a w hr QQ hQ σ hl fun p hp => by
      rcases List.mem_cons.1 hp with rfl | hp
      · unfold bef; simp only; omega
      · exact he p hp

def dxOk (nt : Nat) (l : List Oper) (π : List Nat) (ext : List (Nat × Nat)) (l' : List Oper) (pl : List Plan) : Bool :=
  permOk l.length π && backB l && ext.all (fun p => decide (p.1 < l.length)) && decide (pl.length = l'.length) && planOk nt (l'.zip pl)

theorem DX.run {l l' : List Oper} {ext : List (Nat × Nat)} {K : Tm → AMem → Prop} (π : List Nat) (pl : List Plan) (hl' : permL l π ext = l') (hok : dxOk nt l π ext l' pl = true)
    (h : AOpsD P l'.toArray (l'.zip pl) tm mem [mem] [] K) : DX P nt l ext tm mem K := by
  intro ρ a w hr QQ hQ σ hl he
  subst hl'
  simp only [dxOk, Bool.and_eq_true, List.all_eq_true, decide_eq_true_eq] at hok
  obtain ⟨⟨⟨⟨h1, h2⟩, h3⟩, h4⟩, h5⟩ := hok
  have hlt : ∀ k, k ∈ σ → k < l.length := fun k hk => by simpa using (hl.all k).1 hk
  refine wpOps_perm (ext := ext) h1 σ hlt a w ?_
  have hlin := hl.perm h1 (fun p hp => ⟨he p hp, h3 p hp⟩) (backB_ok h2)
  have he' : (permL l π ext).toArray = opsOf ((permL l π ext).zip pl) := by
    unfold opsOf
    rw [show (fun x : Oper × Plan => x.1) = Prod.fst from rfl, List.map_fst_zip (by omega)]
  have hs := aopsD_sound (P := P) h5 (by rw [he'] at h; exact h) hr (Q := QQ) hQ
  rw [← he'] at hs
  refine wpAny_lin hlin (σ.map fun k => π.idxOf k) [] _ _ a w rfl (by simp) (fun k hk => ?_) ?_ hs
  · simp only [Array.getD_eq_getD_getElem?, Array.getElem?_replicate]
    rw [if_pos hk]; rfl
  · have hperm : ∀ (n : Nat) (τ : List Nat), τ.Nodup → (∀ k, k ∈ τ → k < n) → τ.length ≤ n := by
      intro n
      induction n with
      | zero => intro τ _ hk; cases τ with
        | nil => simp
        | cons x τ => exact absurd (hk x List.mem_cons_self) (by omega)
      | succ n ih =>
        intro τ hnd hk
        have h6 : (τ.erase n).length ≤ n := ih _ (hnd.erase n) fun k hk' => by
          have hkm := List.mem_of_mem_erase hk'
          have := hk k hkm
          have : k ≠ n := fun e => by subst e; exact (List.Nodup.not_mem_erase hnd) hk'
          omega
        have := List.length_erase (a := n) (l := τ)
        split at this <;> omega
    exact hperm _ _ hlin.nd fun k hk => (hlin.all k).1 hk
end
end Go.Eng
