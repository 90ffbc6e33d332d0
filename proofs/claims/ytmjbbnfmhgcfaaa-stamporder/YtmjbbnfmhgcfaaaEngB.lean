/-
  ENGINE, PART B: what loads, stores, new blocks and appends do to the abstract memory.
-/
import Derived.Test.YtmjbbnfmhgcfaaaEngA
set_option linter.unusedVariables false
set_option linter.unusedSimpArgs false
namespace Go.Eng
open Go

theorem addr_add0 (n off : Nat) : (⟨n, 0, none⟩ : Addr).add off = ⟨n, off, none⟩ := by rw [Addr.add_lit]; simp
theorem addr_add_add (a : Addr) (i j : Nat) : (a.add i).add j = a.add (i + j) := by
  unfold Addr.add
  by_cases hi : i = 0 <;> by_cases hj : j = 0 <;> simp [hi, hj, Nat.add_assoc]
theorem addr_add_block (a : Addr) (i : Nat) : (a.add i).block = a.block := by unfold Addr.add; split <;> rfl

theorem BlkR.mono {ρ ρ' : Env} (h : ρ.le ρ') {w : World} {r : Nat} {b : Blk} (hb : BlkR ρ w r b) : BlkR ρ' w r b := by
  obtain ⟨kind, ty, ver, esz, cells⟩ := b
  cases kind with
  | fix => obtain ⟨n, c, k, h1, h2, h3, hk⟩ := hb; exact ⟨n, c, k, h _ _ _ h1, h2, h3.mono fun _ _ => VC.mono h, hk⟩
  | grow =>
    rcases hb with ⟨h1, h2⟩ | ⟨n, c, cap, xs, sp, h1, h2, h3, hcm, h4, h5⟩
    · exact .inl ⟨h1, h _ _ _ h2⟩
    · exact .inr ⟨n, c, cap, xs, sp, h _ _ _ h1, h2, h3, hcm, h4, h5.mono fun _ _ => VC.mono h⟩
  | ro =>
    obtain ⟨A, k, h1, h2⟩ := hb
    refine ⟨A, k, h _ _ _ h1, fun hne => ?_⟩
    obtain ⟨a, ha, hlt, hc⟩ := h2 hne
    exact ⟨a, ha, hlt, fun i c hi => by obtain ⟨v, hv, hr⟩ := hc i c hi; exact ⟨v, hv, hr.mono h⟩⟩

theorem BlkR.heap {ρ : Env} {w w' : World} {r : Nat} {b : Blk} (hb : BlkR ρ w r b) (hz : w.heap.size ≤ w'.heap.size)
    (h : ∀ x k, ρ r b.ver = some (some x, k) → (b.kind = .ro → b.cells ≠ []) → x.block < w.heap.size → w'.heap[x.block]? = w.heap[x.block]?) : BlkR ρ w' r b := by
  obtain ⟨kind, ty, ver, esz, cells⟩ := b
  have hlt : ∀ {n : Nat} {o : Obj}, w.heap[n]? = some o → n < w.heap.size := fun {n o} h => (Array.getElem?_eq_some_iff.1 h).1
  cases kind with
  | fix =>
    obtain ⟨n, c, k, h1, h2, h3⟩ := hb
    exact ⟨n, c, k, h1, (h _ _ h1 (fun e => by cases e) (hlt h2)).trans h2, h3⟩
  | grow =>
    rcases hb with ⟨h1, h2⟩ | ⟨n, c, cap, xs, sp, h1, h2, h3, hcm, h4, h5⟩
    · exact .inl ⟨h1, h2⟩
    · exact .inr ⟨n, c, cap, xs, sp, h1, (h _ _ h1 (fun e => by cases e) (hlt h2)).trans h2, h3, hcm, h4, h5⟩
  | ro =>
    obtain ⟨A, k, h1, h2⟩ := hb
    refine ⟨A, k, h1, fun hne => ?_⟩
    obtain ⟨a, ha, hlt', hc⟩ := h2 hne
    subst ha
    refine ⟨a, rfl, by omega, fun i c hi => ?_⟩
    obtain ⟨v, hv, hr⟩ := hc i c hi
    refine ⟨v, ?_, hr⟩
    rw [World.cell?_of_block (w := w) (by rw [addr_add_block]; exact h _ _ h1 (fun _ => hne) hlt')]
    exact hv

theorem BlkR.lt {ρ : Env} {w : World} {r : Nat} {b : Blk} (hb : BlkR ρ w r b) {x : Addr} {k : Nat} (hx : ρ r b.ver = some (some x, k)) (hne : b.kind = .ro → b.cells ≠ []) : x.block < w.heap.size := by
  obtain ⟨kind, ty, ver, esz, cells⟩ := b
  cases kind with
  | fix =>
    obtain ⟨n, c, k, h1, h2, h3⟩ := hb
    rw [h1] at hx; injection hx with hx; injection hx with hx _; injection hx with hx; subst hx
    exact (Array.getElem?_eq_some_iff.1 h2).1
  | grow =>
    rcases hb with ⟨h1, h2⟩ | ⟨n, c, cap, xs, sp, h1, h2, h3, hcm, h4, h5⟩
    · rw [h2] at hx; injection hx with hx; injection hx with hx _; cases hx
    · rw [h1] at hx; injection hx with hx; injection hx with hx _; injection hx with hx; subst hx
      exact (Array.getElem?_eq_some_iff.1 h2).1
  | ro =>
    obtain ⟨A, k, h1, h2⟩ := hb
    obtain ⟨a, ha, hlt', _⟩ := h2 (hne rfl)
    subst ha
    rw [h1] at hx; injection hx with hx; injection hx with hx _; injection hx with hx; subst hx
    exact hlt'

theorem halloc_old (w : World) (o : Obj) (i : Nat) (h : i < w.heap.size) : (w.alloc o).heap[i]? = w.heap[i]? := by
  show (w.heap.push o)[i]? = _
  rw [Array.getElem?_push, if_neg (by omega)]

/-- An environment with one place more. -/
def Env.set (ρ : Env) (r v : Nat) (x : Option Addr × Nat) : Env := fun r' v' => if r' = r ∧ v' = v then some x else ρ r' v'
theorem Env.le_set {ρ : Env} {r v : Nat} {x : Option Addr × Nat} (h : ρ r v = none) : ρ.le (ρ.set r v x) := fun r' v' y hy => by
  unfold Env.set
  rw [if_neg]
  · exact hy
  · rintro ⟨rfl, rfl⟩; rw [h] at hy; cases hy
theorem Env.set_same (ρ : Env) (r v : Nat) (x : Option Addr × Nat) : ρ.set r v x r v = some x := by simp [Env.set]
theorem Env.set_other (ρ : Env) {r v r' v' : Nat} (x : Option Addr × Nat) (h : ¬ (r' = r ∧ v' = v)) : ρ.set r v x r' v' = ρ r' v' := by simp [Env.set, h]

/-- A NEW BLOCK (or a row that is not yet laid: x = none). -/
theorem RepM.new' {ρ : Env} {mem : AMem} {w w' : World} (h : RepM ρ mem w) (hos : w'.os = w.os) (htape : w'.tape = w.tape) (hout : w'.output = w.output) (hz : w.heap.size ≤ w'.heap.size)
    (hheap : ∀ k, k < w.heap.size → w'.heap[k]? = w.heap[k]?) (b : Blk) (A : Option Addr) (cap : Nat) (hA : ∀ x, A = some x → w.heap.size ≤ x.block) (hkr : b.kind ≠ .ro)
    (hb : BlkR (ρ.set mem.length b.ver (A, cap)) w' mem.length b) :
    RepM (ρ.set mem.length b.ver (A, cap)) (mem ++ [b]) w' ∧ Step mem ρ w (mem ++ [b]) (ρ.set mem.length b.ver (A, cap)) w' := by
  have hle : ρ.le (ρ.set mem.length b.ver (A, cap)) := Env.le_set (h.dom _ _ (Nat.le_refl _))
  have hgt : ∀ {r : Nat} {c : Blk}, (mem ++ [b])[r]? = some c → (r < mem.length ∧ mem[r]? = some c) ∨ (r = mem.length ∧ c = b) := by
    intro r c hc
    rcases Nat.lt_trichotomy r mem.length with hr | hr | hr
    · exact .inl ⟨hr, by rwa [List.getElem?_append_left hr] at hc⟩
    · subst hr; simp at hc; exact .inr ⟨rfl, hc.symm⟩
    · rw [List.getElem?_append_right (by omega)] at hc
      rw [List.getElem?_eq_none (by simp; omega)] at hc
      cases hc
  have hold : ∀ {r : Nat} {v : Nat}, r < mem.length → ρ.set mem.length b.ver (A, cap) r v = ρ r v := fun {r v} hr => Env.set_other ρ _ (by omega)
  have hlt : ∀ {r : Nat} {c : Blk} {x : Addr} {k : Nat}, mem[r]? = some c → ρ r c.ver = some (some x, k) → (c.kind = .ro → c.cells ≠ []) → x.block < w.heap.size := fun {r c x k} hc hx hne => (h.blk r c hc).lt hx hne
  refine ⟨⟨?_, ?_, ?_, ?_⟩, ⟨hos, htape, hout, hz, by simp, fun r hr v x hx => hle _ _ _ hx, ?_, ?_, ?_, ?_⟩⟩
  · intro r c hc
    rcases hgt hc with ⟨hr, hc⟩ | ⟨rfl, rfl⟩
    · refine ((h.blk r c hc).mono hle).heap hz fun x k hx hne hl => ?_
      exact hheap _ hl
    · exact hb
  · intro r v hr
    simp at hr
    rw [Env.set_other ρ _ (by omega)]
    exact h.dom r v (by omega)
  · intro r c v hc hv
    rcases hgt hc with ⟨hr, hc⟩ | ⟨rfl, rfl⟩
    · rw [hold hr]; exact h.domv r c v hc hv
    · rw [Env.set_other ρ _ (by omega)]; exact h.dom _ _ (Nat.le_refl _)
  · intro r s c d hc hd hrs hk hne x y k l hx hy
    rcases hgt hc with ⟨hr, hc1⟩ | ⟨e1, e2⟩ <;> rcases hgt hd with ⟨hs, hd1⟩ | ⟨e3, e4⟩
    · rw [hold hr] at hx; rw [hold hs] at hy
      exact h.sep r s c d hc1 hd1 hrs hk hne x y k l hx hy
    · subst e3; subst e4; rw [hold hr] at hx; rw [Env.set_same] at hy
      injection hy with hy; injection hy with hy _
      have := hlt hc1 hx (fun e => absurd e hk)
      have := hA y hy
      omega
    · subst e1; subst e2; rw [hold hs] at hy; rw [Env.set_same] at hx
      injection hx with hx; injection hx with hx _
      have := hlt hd1 hy hne
      have := hA x hx
      omega
    · exact absurd (e1.trans e3.symm) hrs
  · intro r c c' hc hc'
    rcases hgt hc' with ⟨hr, hc'⟩ | ⟨rfl, rfl⟩
    · rw [hc] at hc'; injection hc' with e; rw [e]
    · simp at hc
  · intro r c hc hro
    rcases hgt hc with ⟨hr, hc1⟩ | ⟨e1, e2⟩
    · exact hc1
    · subst e2; exact absurd hro hkr
  · intro n hn _; exact hheap n hn
  · intro r c x k hc hk hx
    rcases hgt hc with ⟨hr, hc⟩ | ⟨rfl, rfl⟩
    · rw [hold hr] at hx; exact .inr ⟨r, c, x, k, hc, hk, hx, rfl⟩
    · rw [Env.set_same] at hx; injection hx with hx; injection hx with hx _
      exact .inl (by have := hA x hx; omega)

theorem RepM.new {ρ : Env} {mem : AMem} {w : World} (h : RepM ρ mem w) (o : Obj) (b : Blk) (A : Option Addr) (cap : Nat) (hA : ∀ x, A = some x → x.block = w.heap.size) (hkr : b.kind ≠ .ro)
    (hb : BlkR (ρ.set mem.length b.ver (A, cap)) (w.alloc o) mem.length b) :
    RepM (ρ.set mem.length b.ver (A, cap)) (mem ++ [b]) (w.alloc o) ∧ Step mem ρ w (mem ++ [b]) (ρ.set mem.length b.ver (A, cap)) (w.alloc o) :=
  h.new' (w' := w.alloc o) rfl rfl rfl (by simp) (fun k hk => halloc_old w o k hk) b A cap (fun x e => Nat.le_of_eq (hA x e).symm) hkr hb

/-- A block (fixed) that is made: alloc, box. -/
theorem RepM.newFix {ρ : Env} {mem : AMem} {w : World} (h : RepM ρ mem w) (ty : TypeId) (esz : Nat) (cells : List CV) (c : Array Value) (hc : All2 (VC ρ) cells c.toList) :
    let ρ' := ρ.set mem.length 0 (some ⟨w.heap.size, 0, none⟩, c.size)
    RepM ρ' (mem ++ [⟨.fix, ty, 0, esz, cells⟩]) (w.alloc (.cells c ty)) ∧ Step mem ρ w (mem ++ [⟨.fix, ty, 0, esz, cells⟩]) ρ' (w.alloc (.cells c ty)) ∧
      VC ρ' (.ptr mem.length 0 0) (.pointer (some ⟨w.heap.size, 0, none⟩)) := by
  have hle : ρ.le (ρ.set mem.length 0 (some ⟨w.heap.size, 0, none⟩, c.size)) := Env.le_set (h.dom _ _ (Nat.le_refl _))
  have := h.new (.cells c ty) ⟨.fix, ty, 0, esz, cells⟩ (some ⟨w.heap.size, 0, none⟩) c.size (fun x e => by injection e with e; rw [← e]) (by simp)
    ⟨w.heap.size, c, c.size, Env.set_same _ _ _ _, heap_alloc_new w _, hc.mono fun _ _ => VC.mono hle, rfl⟩
  exact ⟨this.1, this.2, _, _, Env.set_same _ _ _ _, by rw [addr_add0]⟩

/-- A row that may grow, laid with nothing to spare but what 'cap' says. -/
theorem RepM.newRow {ρ : Env} {mem : AMem} {w : World} (h : RepM ρ mem w) (ty : TypeId) (esz : Nat) (cells : List CV) (c : Array Value) (xs sp : List Value) (cap len : Nat) (he : esz ≠ 0) (hsz : c.size = cap * esz)
    (hxs : c.toList = xs ++ sp) (hc : All2 (VC ρ) cells xs) (hlen : len ≤ cap) (hcap : cap ≤ maxLen) :
    let ρ' := ρ.set mem.length 0 (some ⟨w.heap.size, 0, none⟩, cap)
    RepM ρ' (mem ++ [⟨.grow, ty, 0, esz, cells⟩]) (w.alloc (.cells c ty)) ∧ Step mem ρ w (mem ++ [⟨.grow, ty, 0, esz, cells⟩]) ρ' (w.alloc (.cells c ty)) ∧
      VC ρ' (.sl mem.length 0 0 len) (.slice (some ⟨w.heap.size, 0, none⟩) len cap) := by
  have hle : ρ.le (ρ.set mem.length 0 (some ⟨w.heap.size, 0, none⟩, cap)) := Env.le_set (h.dom _ _ (Nat.le_refl _))
  have := h.new (.cells c ty) ⟨.grow, ty, 0, esz, cells⟩ (some ⟨w.heap.size, 0, none⟩) cap (fun x e => by injection e with e; rw [← e]) (by simp)
    (.inr ⟨w.heap.size, c, cap, xs, sp, Env.set_same _ _ _ _, by show _ = some (Obj.cells c ty (fzOf esz c.size)); rw [fzOf_pos he]; exact heap_alloc_new w _, by show c.size = cap * unitOf esz; rw [unitOf_pos he]; exact hsz, hcap, hxs, hc.mono fun _ _ => VC.mono hle⟩)
  exact ⟨this.1, this.2, _, _, _, _, Env.set_same _ _ _ _, rfl, hlen, fun _ => ⟨_, rfl, by rw [addr_add0]⟩, fun _ => ⟨rfl, rfl⟩⟩

/-- A row of our own that has grown: where it was, or in a new block. -/
theorem RepM.regrow {ρ : Env} {mem : AMem} {w w' : World} (h : RepM ρ mem w) (hos : w'.os = w.os) (htape : w'.tape = w.tape) (hout : w'.output = w.output) (hz : w.heap.size ≤ w'.heap.size)
    {r : Nat} {b : Blk} (hb : mem[r]? = some b) (hk : b.kind = .grow) (hheap : ∀ k, k < w.heap.size → (∀ x l, ρ r b.ver = some (some x, l) → x.block ≠ k) → w'.heap[k]? = w.heap[k]?)
    (b' : Blk) (hk' : b'.kind = .grow) (hv' : b'.ver = b.ver + 1) (A : Option Addr) (cap : Nat)
    (hA : ∀ x, A = some x → w.heap.size ≤ x.block ∨ ∃ y l, ρ r b.ver = some (some y, l) ∧ y.block = x.block)
    (hbk : BlkR (ρ.set r (b.ver + 1) (A, cap)) w' r b') :
    RepM (ρ.set r (b.ver + 1) (A, cap)) (mem.set r b') w' ∧ Step mem ρ w (mem.set r b') (ρ.set r (b.ver + 1) (A, cap)) w' := by
  have hrl : r < mem.length := (List.getElem?_eq_some_iff.1 hb).1
  have hle : ρ.le (ρ.set r (b.ver + 1) (A, cap)) := Env.le_set (h.domv r b _ hb (by omega))
  have hgt : ∀ {s : Nat} {d : Blk}, (mem.set r b')[s]? = some d → (s ≠ r ∧ mem[s]? = some d) ∨ (s = r ∧ d = b') := by
    intro s d hd
    by_cases hs : s = r
    · subst hs
      rw [List.getElem?_set_self hrl] at hd
      injection hd with hd
      exact .inr ⟨rfl, hd.symm⟩
    · rw [List.getElem?_set_ne (fun e => hs e.symm)] at hd
      exact .inl ⟨hs, hd⟩
  have hkne : b.kind ≠ .ro := by rw [hk]; intro e; cases e
  have hlt : ∀ {s : Nat} {c : Blk} {x : Addr} {k : Nat}, mem[s]? = some c → ρ s c.ver = some (some x, k) → (c.kind = .ro → c.cells ≠ []) → x.block < w.heap.size := fun {s c x k} hc hx hne => (h.blk s c hc).lt hx hne
  have hoth : ∀ {s : Nat} {v : Nat}, s ≠ r → ρ.set r (b.ver + 1) (A, cap) s v = ρ s v := fun {s v} hs => Env.set_other ρ _ (by omega)
  have hcur : ρ.set r (b.ver + 1) (A, cap) r b'.ver = some (A, cap) := by rw [hv']; exact Env.set_same _ _ _ _
  refine ⟨⟨?_, ?_, ?_, ?_⟩, ⟨hos, htape, hout, hz, by simp, fun s hs v x hx => hle _ _ _ hx, ?_, ?_, ?_, ?_⟩⟩
  · intro s d hd
    rcases hgt hd with ⟨hs, hd1⟩ | ⟨e1, e2⟩
    · refine ((h.blk s d hd1).mono hle).heap hz fun x l hx hne hl => ?_
      rw [hoth hs] at hx
      exact hheap _ hl fun y m hy e => h.sep r s b d hb hd1 (fun e => hs e.symm) hkne hne _ _ _ _ hy hx e
    · subst e1; subst e2; exact hbk
  · intro s v hs
    simp at hs
    rw [hoth (by omega)]
    exact h.dom s v hs
  · intro s d v hd hv
    rcases hgt hd with ⟨hs, hd1⟩ | ⟨e1, e2⟩
    · rw [hoth hs]; exact h.domv s d v hd1 hv
    · subst e1; subst e2
      rw [Env.set_other ρ _ (by omega)]
      exact h.domv s b v hb (by omega)
  · intro s t d e hd he hst hkd hne x y k1 k2 hx hy
    rcases hgt hd with ⟨hs, hd1⟩ | ⟨e1, e2⟩ <;> rcases hgt he with ⟨ht, he1⟩ | ⟨e3, e4⟩
    · rw [hoth hs] at hx; rw [hoth ht] at hy
      exact h.sep s t d e hd1 he1 hst hkd hne x y k1 k2 hx hy
    · subst e3; subst e4
      rw [hoth hs] at hx; rw [hcur] at hy
      injection hy with hy; injection hy with hy _
      rcases hA y hy with hge | ⟨z, l, hz', he'⟩
      · have := hlt hd1 hx (fun e => absurd e hkd); omega
      · rw [← he']; exact h.sep s t d b hd1 hb hst hkd (fun e => absurd e hkne) x z k1 l hx hz'
    · subst e1; subst e2
      rw [hcur] at hx; rw [hoth ht] at hy
      injection hx with hx; injection hx with hx _
      rcases hA x hx with hge | ⟨z, l, hz', he'⟩
      · have := hlt he1 hy hne; omega
      · rw [← he']; exact h.sep s t b e hb he1 hst hkne hne z y l k2 hz' hy
    · exact absurd (e1.trans e3.symm) hst
  · intro s d d' hd hd'
    rcases hgt hd' with ⟨hs, hd1⟩ | ⟨e1, e2⟩
    · rw [hd] at hd1; injection hd1 with e; rw [e]
    · subst e1; subst e2; rw [hb] at hd; injection hd with e; rw [← e, hk', hk]
  · intro s d hd hro
    rcases hgt hd with ⟨hs, hd1⟩ | ⟨e1, e2⟩
    · exact hd1
    · subst e2; rw [hk'] at hro; cases hro
  · intro m hm hne
    exact hheap m hm fun x l hx => hne r b x l hb hkne hx
  · intro s d x l hd hkd hx
    rcases hgt hd with ⟨hs, hd1⟩ | ⟨e1, e2⟩
    · rw [hoth hs] at hx; exact .inr ⟨s, d, x, l, hd1, hkd, hx, rfl⟩
    · subst e1; subst e2
      rw [hcur] at hx; injection hx with hx; injection hx with hx _
      rcases hA x hx with hge | ⟨z, l', hz', he'⟩
      · exact .inl hge
      · exact .inr ⟨s, b, z, l', hb, hkne, hz', he'⟩

/-- 'n' cells from 'off' on. -/
def ldCells (cells : List CV) : Nat → Nat → Option (List CV)
  | _, 0 => some []
  | off, n + 1 => match cells[off]? with
    | some c => (ldCells cells (off + 1) n).map (c :: ·)
    | none => none

def setL {α : Type} : List α → Nat → List α → List α
  | l, _, [] => l
  | l, i, v :: vs => setL (l.set i v) (i + 1) vs

theorem setL_length {α : Type} : ∀ (vs l : List α) (i : Nat), (setL l i vs).length = l.length
  | [], _, _ => rfl
  | v :: vs, l, i => by simp [setL, setL_length vs]
theorem All2.setL {α β : Type} {R : α → β → Prop} : ∀ {as : List α} {bs : List β} {l : List α} {m : List β} (i : Nat), All2 R l m → All2 R as bs → All2 R (Eng.setL l i as) (Eng.setL m i bs)
  | [], [], _, _, _, h, _ => h
  | _ :: _, _ :: _, _, _, i, h, h' => All2.setL (i + 1) (h.set h'.1) h'.2
  | [], _ :: _, _, _, _, _, h => h.elim
  | _ :: _, [], _, _, _, _, h => h.elim
theorem setL_append {α : Type} : ∀ (vs l r : List α) (i : Nat), i + vs.length ≤ l.length → setL (l ++ r) i vs = setL l i vs ++ r
  | [], _, _, _, _ => rfl
  | v :: vs, l, r, i, h => by
    simp at h
    simp only [setL]
    rw [List.set_append_left _ _ (by omega), setL_append vs _ _ _ (by simp; omega)]

/-- The cells of a block, read through a pointer into it. -/
theorem cells_at {ρ : Env} {w : World} {r : Nat} {b : Blk} (hb : BlkR ρ w r b) {a : Addr} {k : Nat} (ha : ρ r b.ver = some (some a, k)) {i : Nat} {c : CV} (hc : b.cells[i]? = some c) :
    ∃ v, w.cell? (a.add i) = some v ∧ VC ρ c v := by
  obtain ⟨kind, ty, ver, esz, cells⟩ := b
  cases kind with
  | fix =>
    obtain ⟨n, cs, k, h1, h2, h3, _⟩ := hb
    rw [h1] at ha; injection ha with ha; injection ha with ha _; injection ha with ha; subst ha
    obtain ⟨v, hv, hr⟩ := h3.get hc
    exact ⟨v, by rw [addr_add0, cell_of_row w n i _ _ _ h2]; simpa using hv, hr⟩
  | grow =>
    rcases hb with ⟨h1, h2⟩ | ⟨n, cs, cap, xs, sp, h1, h2, h3, hcm, h4, h5⟩
    · rw [h2] at ha; injection ha with ha; injection ha with ha _; cases ha
    · rw [h1] at ha; injection ha with ha; injection ha with ha _; injection ha with ha; subst ha
      obtain ⟨v, hv, hr⟩ := h5.get hc
      refine ⟨v, ?_, hr⟩
      rw [addr_add0, cell_of_row w n i _ _ _ h2]
      have : cs.toList[i]? = some v := by rw [h4]; rw [List.getElem?_append_left (List.getElem?_eq_some_iff.1 hv).1]; exact hv
      simpa using this
  | ro =>
    obtain ⟨A, k', h1, h2⟩ := hb
    obtain ⟨a', ha', _, hcs⟩ := h2 (by
      show cells ≠ []
      intro e
      have hc' : cells[i]? = some c := hc
      rw [e] at hc'; simp at hc')
    subst ha'
    rw [h1] at ha; injection ha with ha; injection ha with ha _; injection ha with ha; subst ha
    exact hcs i c hc

theorem ldCells_length : ∀ {cells : List CV} {n off : Nat} {cs : List CV}, ldCells cells off n = some cs → cs.length = n
  | cells, 0, off, cs, h => by simp [ldCells] at h; subst h; rfl
  | cells, n + 1, off, cs, h => by
    simp only [ldCells] at h
    split at h
    · simp only [Option.map_eq_some_iff] at h
      obtain ⟨cs', h', rfl⟩ := h
      simp [ldCells_length h']
    · cases h

theorem run_ldCells {P : Program} {ρ : Env} {w : World} {r : Nat} {b : Blk} (hb : BlkR ρ w r b) {a : Addr} {k : Nat} (ha : ρ r b.ver = some (some a, k)) (off0 : Nat) :
    ∀ (n off : Nat) (cs : List CV) (acc : Array Value), ldCells b.cells (off0 + off) n = some cs →
      ∃ vs : List Value, (loadCellsFrom (a.add off0) off n acc).run P w = .ok (acc ++ vs.toArray) w ∧ All2 (VC ρ) cs vs
  | 0, off, cs, acc, h => by
    simp [ldCells] at h; subst h
    exact ⟨[], by simp [loadCellsFrom], trivial⟩
  | n + 1, off, cs, acc, h => by
    simp only [ldCells] at h
    split at h
    · rename_i c hc
      simp only [Option.map_eq_some_iff] at h
      obtain ⟨cs', h', rfl⟩ := h
      obtain ⟨v, hv, hr⟩ := cells_at hb ha hc
      obtain ⟨vs, hrun, hall⟩ := run_ldCells (P := P) hb ha off0 n (off + 1) cs' (acc.push v) (by rw [← Nat.add_assoc]; exact h')
      refine ⟨v :: vs, ?_, hr, hall⟩
      simp only [loadCellsFrom, Sem.run_bind, run_load, addr_add_add, hv, Result.andThen_ok, hrun]
      congr 1
      apply Array.ext'
      simp
    · cases h

theorem run_storeCells {P : Program} (n : Nat) (ty : TypeId) (off : Nat) (fz : Nat × Nat) : ∀ (vs : List Value) (i : Nat) (w : World) (c : Array Value), w.heap[n]? = some (.cells c ty fz) → (∀ k, k < c.size → ¬ (fz.1 ≤ k ∧ k < fz.2)) → off + i + vs.length ≤ c.size → (∀ v ∈ vs, v.oneCell' = true) →
    ∃ w', (storeCells (⟨n, off, none⟩ : Addr) vs i).run P w = .ok () w' ∧ w'.heap[n]? = some (.cells (setL c.toList (off + i) vs).toArray ty fz) ∧ (∀ m, m ≠ n → w'.heap[m]? = w.heap[m]?) ∧
      w'.heap.size = w.heap.size ∧ w'.os = w.os ∧ w'.tape = w.tape ∧ w'.output = w.output
  | [], i, w, c, h, _, _, _ => ⟨w, by simp [storeCells], by simpa [setL] using h, fun _ _ => rfl, rfl, rfl, rfl, rfl⟩
  | v :: vs, i, w, c, h, hfz, hsz, hone => by
    simp at hsz
    have hcell : w.cell? ⟨n, off + i, none⟩ = some c[off + i] := by rw [cell_of_row w n _ _ _ _ h]; simp
    have hset : (w.setCell ⟨n, off + i, none⟩ v).heap[n]? = some (.cells (c.setIfInBounds (off + i) v) ty fz) := by
      rw [setCell_eq_setRow w n (off + i) c ty fz v h]; exact setRow_heap w n c _ ty _ h
    have hfr : w.frozen? ⟨n, off + i, none⟩ = false := by
      have := hfz (off + i) (by omega)
      simp only [World.frozen?, h, Bool.and_eq_false_iff, decide_eq_false_iff_not]; omega
    obtain ⟨w', hrun, hh, hoth, hsize, hos, htape, hout⟩ := run_storeCells (P := P) n ty off fz vs (i + 1) (w.setCell ⟨n, off + i, none⟩ v) (c.setIfInBounds (off + i) v) hset (by simpa using hfz) (by simp; omega) (fun v hv => hone v (List.mem_cons_of_mem _ hv))
    refine ⟨w', ?_, ?_, fun m hm => (hoth m hm).trans (heap_setCell_other w _ m v hm), by rw [hsize]; simp, hos, htape, hout⟩
    · simp only [storeCells, Sem.run_bind, Addr.add_lit]
      rw [run_store P w _ v _ (hone v List.mem_cons_self)]
      rw [hcell, hfr]
      simpa using hrun
    · rw [hh]
      simp [setL, Nat.add_assoc]

/-- A STORE INTO A BLOCK OF OUR OWN. -/
theorem RepM.store {P : Program} {ρ : Env} {mem : AMem} {w : World} (h : RepM ρ mem w) {r : Nat} {b : Blk} (hb : mem[r]? = some b) (hk : b.kind ≠ .ro) {a : Addr} {k : Nat} (ha : ρ r b.ver = some (some a, k))
    {off : Nat} {cs : List CV} {vs : List Value} (hvs : All2 (VC ρ) cs vs) (hoff : off + cs.length ≤ b.cells.length) (hone : ∀ v ∈ vs, v.oneCell' = true) :
    ∃ w', (storeCells (a.add off) vs 0).run P w = .ok () w' ∧ RepM ρ (mem.set r { b with cells := setL b.cells off cs }) w' ∧ Step mem ρ w (mem.set r { b with cells := setL b.cells off cs }) ρ w' := by
  have hbk := h.blk r b hb
  have hrl : r < mem.length := (List.getElem?_eq_some_iff.1 hb).1
  obtain ⟨n, c, fz, hn, hheap, hfz, hsz, hnew⟩ : ∃ n c fz, a = ⟨n, 0, none⟩ ∧ w.heap[n]? = some (.cells c b.ty fz) ∧ (∀ k, k < c.size → ¬ (fz.1 ≤ k ∧ k < fz.2)) ∧ off + vs.length ≤ c.size ∧
      ∀ w' : World, w'.heap[n]? = some (.cells (setL c.toList off vs).toArray b.ty fz) → BlkR ρ w' r { b with cells := setL b.cells off cs } := by
    obtain ⟨kind, ty, ver, esz, cells⟩ := b
    have hl := hvs.length
    cases kind with
    | fix =>
      obtain ⟨n, c, k', h1, h2, h3, hkk⟩ := hbk
      have ha' := ha
      rw [h1] at ha'; injection ha' with ha'; injection ha' with ha' _; injection ha' with ha'
      have hcl := h3.length
      refine ⟨n, c, (0, 0), ha'.symm, h2, fun k _ => by simp, ?_, fun w' hw' => ⟨n, _, k', h1, hw', ?_, ?_⟩⟩
      · simp at hcl hoff; omega
      · simpa using h3.setL off hvs
      · rw [hkk]; simp [setL_length]
    | grow =>
      rcases hbk with ⟨h1, h2⟩ | ⟨n, c, cap, xs, sp, h1, h2, h3, hcm, h4, h5⟩
      · have ha' := ha
        rw [h2] at ha'; injection ha' with ha'; injection ha' with ha' _; cases ha'
      · have ha' := ha
        rw [h1] at ha'; injection ha' with ha'; injection ha' with ha' _; injection ha' with ha'
        have hcl := h5.length
        have hcs : c.size = xs.length + sp.length := by rw [← Array.length_toList, h4, List.length_append]
        simp at hcl hoff
        refine ⟨n, c, fzOf esz c.size, ha'.symm, h2, fun k hk => by unfold fzOf; split <;> simp; omega, by omega, fun w' hw' => .inr ⟨n, (setL c.toList off vs).toArray, cap, setL xs off vs, sp, h1, by rw [hw']; simp [setL_length], ?_, hcm, ?_, h5.setL off hvs⟩⟩
        · simp [setL_length, h3]
        · show (setL c.toList off vs).toArray.toList = _
          rw [List.toList_toArray, h4, setL_append _ _ _ _ (by omega)]
    | ro => exact absurd rfl hk
  subst hn
  obtain ⟨w', hrun, hh, hoth, hsize, hos, htape, hout⟩ := run_storeCells (P := P) n b.ty off fz vs 0 w c hheap hfz (by omega) hone
  rw [addr_add0]
  have hgt : ∀ {s : Nat} {d : Blk}, (mem.set r { b with cells := setL b.cells off cs })[s]? = some d → (s ≠ r ∧ mem[s]? = some d) ∨ (s = r ∧ d = { b with cells := setL b.cells off cs }) := by
    intro s d hd
    by_cases hs : s = r
    · subst hs
      rw [List.getElem?_set_self hrl] at hd
      injection hd with hd
      exact .inr ⟨rfl, hd.symm⟩
    · rw [List.getElem?_set_ne (fun e => hs e.symm)] at hd
      exact .inl ⟨hs, hd⟩
  refine ⟨w', hrun, ⟨?_, ?_, ?_, ?_⟩, ⟨hos, htape, hout, by omega, by simp, fun _ _ _ _ h => h, ?_, ?_, ?_, ?_⟩⟩
  · intro s d hd
    rcases hgt hd with ⟨hs, hd⟩ | ⟨rfl, rfl⟩
    · refine (h.blk s d hd).heap (by omega) fun x l hx hne _ => hoth _ ?_
      exact fun e => h.sep r s b d hb hd (fun e => hs e.symm) hk hne _ _ _ _ ha hx e.symm
    · exact hnew w' (by simpa using hh)
  · intro s v hs; exact h.dom s v (by simpa using hs)
  · intro s d v hd hv
    rcases hgt hd with ⟨hs, hd⟩ | ⟨rfl, rfl⟩
    · exact h.domv s d v hd hv
    · exact h.domv s b v hb hv
  · intro s t d e hd he hst hkd hne x y k1 k2 hx hy
    rcases hgt hd with ⟨hs, hd1⟩ | ⟨e1, e2⟩ <;> rcases hgt he with ⟨ht, he1⟩ | ⟨e3, e4⟩
    · exact h.sep s t d e hd1 he1 hst hkd hne x y k1 k2 hx hy
    · subst e3; subst e4; exact h.sep s t d b hd1 hb hst hkd (fun e => absurd e hk) x y k1 k2 hx hy
    · subst e1; subst e2; exact h.sep s t b e hb he1 hst hk hne x y k1 k2 hx hy
    · exact absurd (e1.trans e3.symm) hst
  · intro s d d' hd hd'
    rcases hgt hd' with ⟨hs, hd'⟩ | ⟨rfl, rfl⟩
    · rw [hd] at hd'; injection hd' with e; rw [e]
    · rw [hb] at hd; injection hd with e; rw [← e]
  · intro s d hd hro
    rcases hgt hd with ⟨hs, hd1⟩ | ⟨e1, e2⟩
    · exact hd1
    · subst e2; exact absurd hro hk
  · intro m hm hne
    exact hoth m (fun e => hne r b _ _ hb hk ha (by rw [e]))
  · intro s d x l hd hkd hx
    rcases hgt hd with ⟨hs, hd⟩ | ⟨rfl, rfl⟩
    · exact .inr ⟨s, d, x, l, hd, hkd, hx, rfl⟩
    · exact .inr ⟨s, b, x, l, hb, hk, hx, rfl⟩

end Go.Eng
