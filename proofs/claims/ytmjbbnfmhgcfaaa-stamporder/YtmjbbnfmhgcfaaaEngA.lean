/-
  ENGINE, PART A: abstract values, abstract memory, how they stand to the model's values and worlds. Plain definitions and lemmas; no program in sight.
-/
import Derived.WalkKit
set_option linter.unusedVariables false
set_option linter.unusedSimpArgs false
namespace Go.Eng
open Go

inductive CV where
  | bool (b : Bool)
  | int (k : IntKind) (n : Int)
  | str (s : ByteArray)
  | ptr (r ver off : Nat)
  | nilp
  | sl (r ver off len : Nat)
  | nils
  | fn (f : FuncId) (caps : List (Nat × Nat × Nat))
  | nilf
  | nili
  | und
  | junk
  deriving Inhabited

inductive AV where
  | one (c : CV)
  | agg (cs : List CV)
  | tup (vs : List (Bool × List CV))
  deriving Inhabited

abbrev Env := Nat → Nat → Option (Option Addr × Nat)

def All2 {α β : Type} (R : α → β → Prop) : List α → List β → Prop
  | [], [] => True
  | a :: as, b :: bs => R a b ∧ All2 R as bs
  | _, _ => False

section
variable {α β : Type} {R R' : α → β → Prop}
theorem All2.length : ∀ {as : List α} {bs : List β}, All2 R as bs → as.length = bs.length
  | [], [], _ => rfl
  | _ :: _, _ :: _, h => by simp [All2.length h.2]
  | [], _ :: _, h => h.elim
  | _ :: _, [], h => h.elim
theorem All2.mono (hr : ∀ a b, R a b → R' a b) : ∀ {as : List α} {bs : List β}, All2 R as bs → All2 R' as bs
  | [], [], _ => trivial
  | _ :: _, _ :: _, h => ⟨hr _ _ h.1, All2.mono hr h.2⟩
  | [], _ :: _, h => h.elim
  | _ :: _, [], h => h.elim
theorem All2.get : ∀ {as : List α} {bs : List β}, All2 R as bs → ∀ {i : Nat} {a : α}, as[i]? = some a → ∃ b, bs[i]? = some b ∧ R a b
  | [], [], _, i, a, h => by simp at h
  | x :: as, y :: bs, h, 0, a, ha => by simp at ha; subst ha; exact ⟨y, by simp, h.1⟩
  | x :: as, y :: bs, h, i + 1, a, ha => by
    simp at ha
    obtain ⟨b, hb, hr⟩ := All2.get h.2 ha
    exact ⟨b, by simpa using hb, hr⟩
  | [], _ :: _, h, _, _, _ => h.elim
  | _ :: _, [], h, _, _, _ => h.elim
theorem All2.of_get : ∀ {as : List α} {bs : List β}, as.length = bs.length → (∀ (i : Nat) (a : α) (b : β), as[i]? = some a → bs[i]? = some b → R a b) → All2 R as bs
  | [], [], _, _ => trivial
  | x :: as, y :: bs, hl, h => ⟨h 0 x y rfl rfl, All2.of_get (by simpa using hl) (fun i a b ha hb => h (i + 1) a b (by simpa using ha) (by simpa using hb))⟩
  | [], _ :: _, hl, _ => by simp at hl
  | _ :: _, [], hl, _ => by simp at hl
theorem All2.append : ∀ {as : List α} {bs : List β} {as' : List α} {bs' : List β}, All2 R as bs → All2 R as' bs' → All2 R (as ++ as') (bs ++ bs')
  | [], [], _, _, _, h => h
  | _ :: _, _ :: _, _, _, h, h' => ⟨h.1, All2.append h.2 h'⟩
  | [], _ :: _, _, _, h, _ => h.elim
  | _ :: _, [], _, _, h, _ => h.elim
theorem All2.set : ∀ {as : List α} {bs : List β}, All2 R as bs → ∀ {i : Nat} {a : α} {b : β}, R a b → All2 R (as.set i a) (bs.set i b)
  | [], [], _, _, _, _, _ => trivial
  | _ :: _, _ :: _, h, 0, _, _, hr => ⟨hr, h.2⟩
  | _ :: _, _ :: _, h, i + 1, _, _, hr => ⟨h.1, All2.set h.2 hr⟩
  | [], _ :: _, h, _, _, _, _ => h.elim
  | _ :: _, [], h, _, _, _, _ => h.elim
theorem All2.drop : ∀ {as : List α} {bs : List β}, All2 R as bs → ∀ n, All2 R (as.drop n) (bs.drop n)
  | [], [], _, n => by simp [All2]
  | _ :: _, _ :: _, h, 0 => h
  | _ :: as, _ :: bs, h, n + 1 => by simpa using All2.drop h.2 n
  | [], _ :: _, h, _ => h.elim
  | _ :: _, [], h, _ => h.elim
theorem All2.take : ∀ {as : List α} {bs : List β}, All2 R as bs → ∀ n, All2 R (as.take n) (bs.take n)
  | [], [], _, n => by simp [All2]
  | _ :: _, _ :: _, _, 0 => trivial
  | _ :: as, _ :: bs, h, n + 1 => ⟨h.1, All2.take h.2 n⟩
  | [], _ :: _, h, _ => h.elim
  | _ :: _, [], h, _ => h.elim
end

/-- A pointer held by a closure. -/
def CapR (ρ : Env) (c : Nat × Nat × Nat) (x : Value) : Prop := ∃ a k, ρ c.1 c.2.1 = some (some a, k) ∧ x = .pointer (some (a.add c.2.2))

def VC (ρ : Env) : CV → Value → Prop
  | .bool b, v => v = .bool b
  | .int k n, v => v = .int k n
  | .str s, v => v = .string s
  | .ptr r ver off, v => ∃ a k, ρ r ver = some (some a, k) ∧ v = .pointer (some (a.add off))
  | .nilp, v => v = .pointer none
  | .sl r ver off len, v => ∃ A c0 B c, ρ r ver = some (A, c0) ∧ v = .slice B len c ∧ len ≤ c ∧ (0 < len → ∃ a, A = some a ∧ B = some (a.add off)) ∧ (off = 0 → B = A ∧ c = c0)
  | .nils, v => v = .slice none 0 0
  | .fn f caps, v => ∃ vs : Array Value, v = .func (.func f) #[] vs ∧ All2 (CapR ρ) caps vs.toList
  | .nilf, v => v = .nilFunc
  | .nili, v => v = .nilIface
  | .und, v => v = undef
  | .junk, _ => True

def Env.le (ρ ρ' : Env) : Prop := ∀ r v x, ρ r v = some x → ρ' r v = some x
theorem Env.le_refl (ρ : Env) : ρ.le ρ := fun _ _ _ h => h
theorem CapR.mono {ρ ρ' : Env} (h : ρ.le ρ') {c : Nat × Nat × Nat} {x : Value} : CapR ρ c x → CapR ρ' c x := fun ⟨a, k, h1, h2⟩ => ⟨a, k, h _ _ _ h1, h2⟩
theorem VC.mono {ρ ρ' : Env} (h : ρ.le ρ') : ∀ {c : CV} {v : Value}, VC ρ c v → VC ρ' c v
  | .bool _, _, hv => hv
  | .int _ _, _, hv => hv
  | .str _, _, hv => hv
  | .ptr _ _ _, _, ⟨a, k, h1, h2⟩ => ⟨a, k, h _ _ _ h1, h2⟩
  | .nilp, _, hv => hv
  | .sl _ _ _ _, _, ⟨A, c0, B, c, h1, h2⟩ => ⟨A, c0, B, c, h _ _ _ h1, h2⟩
  | .nils, _, hv => hv
  | .fn _ _, _, ⟨vs, h1, h2⟩ => ⟨vs, h1, h2.mono fun _ _ => CapR.mono h⟩
  | .nilf, _, hv => hv
  | .nili, _, hv => hv
  | .und, _, hv => hv
  | .junk, _, _ => trivial

def TV (ρ : Env) (t : Bool × List CV) (v : Value) : Prop :=
  match t with
  | (true, cs) => ∃ vs : Array Value, v = .agg vs ∧ All2 (VC ρ) cs vs.toList
  | (false, [c]) => VC ρ c v
  | (false, _) => True

def VR (ρ : Env) : AV → Value → Prop
  | .one c, v => VC ρ c v
  | .agg cs, v => ∃ vs : Array Value, v = .agg vs ∧ All2 (VC ρ) cs vs.toList
  | .tup ts, v => ∃ vs : Array Value, v = .tuple vs ∧ All2 (TV ρ) ts vs.toList

theorem TV.mono {ρ ρ' : Env} (h : ρ.le ρ') {t : Bool × List CV} {v : Value} (hv : TV ρ t v) : TV ρ' t v := by
  obtain ⟨b, cs⟩ := t
  cases b with
  | true => obtain ⟨vs, h1, h2⟩ := hv; exact ⟨vs, h1, h2.mono fun _ _ => VC.mono h⟩
  | false =>
    match cs, hv with
    | [], _ => trivial
    | [c], hv => exact VC.mono h hv
    | _ :: _ :: _, _ => trivial
theorem VR.mono {ρ ρ' : Env} (h : ρ.le ρ') {x : AV} {v : Value} (hv : VR ρ x v) : VR ρ' x v := by
  cases x with
  | one c => exact VC.mono h hv
  | agg cs => obtain ⟨vs, h1, h2⟩ := hv; exact ⟨vs, h1, h2.mono fun _ _ => VC.mono h⟩
  | tup ts => obtain ⟨vs, h1, h2⟩ := hv; exact ⟨vs, h1, h2.mono fun _ _ => TV.mono h⟩

inductive BK where
  | fix
  | grow
  | ro

structure Blk where
  kind : BK
  ty : TypeId
  ver : Nat
  esz : Nat
  cells : List CV

abbrev AMem := List Blk
abbrev Tm := List (Nat × AV)

def Tm.get : List (Nat × AV) → Nat → AV
  | [], _ => .one .junk
  | (j, v) :: r, i => if i = j then v else Tm.get r i

/-- What of a row of ours is frozen: nothing, or (a row that was made out of a text: its element's size is told as 0) the place behind its end. -/
def fzOf (esz n : Nat) : Nat × Nat := if esz = 0 then (n, n + 1) else (0, 0)
def unitOf (esz : Nat) : Nat := if esz = 0 then 1 else esz
theorem fzOf_pos {esz : Nat} (h : esz ≠ 0) (n : Nat) : fzOf esz n = (0, 0) := if_neg h
theorem unitOf_pos {esz : Nat} (h : esz ≠ 0) : unitOf esz = esz := if_neg h

def BlkR (ρ : Env) (w : World) (r : Nat) (b : Blk) : Prop :=
  match b.kind with
  | .fix => ∃ n c k, ρ r b.ver = some (some ⟨n, 0, none⟩, k) ∧ w.heap[n]? = some (.cells c b.ty (0, 0)) ∧ All2 (VC ρ) b.cells c.toList ∧ k = c.size
  | .grow => (b.cells = [] ∧ ρ r b.ver = some (none, 0)) ∨
      ∃ n c cap xs sp, ρ r b.ver = some (some ⟨n, 0, none⟩, cap) ∧ w.heap[n]? = some (.cells c b.ty (fzOf b.esz c.size)) ∧ c.size = cap * unitOf b.esz ∧ cap ≤ maxLen ∧ c.toList = xs ++ sp ∧ All2 (VC ρ) b.cells xs
  | .ro => ∃ A k, ρ r b.ver = some (A, k) ∧ (b.cells ≠ [] → ∃ a, A = some a ∧ a.block < w.heap.size ∧ ∀ i c, b.cells[i]? = some c → ∃ v, w.cell? (a.add i) = some v ∧ VC ρ c v)

def Blk.rw (b : Blk) : Prop := b.kind ≠ .ro

structure RepM (ρ : Env) (mem : AMem) (w : World) : Prop where
  blk : ∀ (r : Nat) (b : Blk), mem[r]? = some b → BlkR ρ w r b
  dom : ∀ r v, mem.length ≤ r → ρ r v = none
  domv : ∀ (r : Nat) (b : Blk) (v : Nat), mem[r]? = some b → b.ver < v → ρ r v = none
  sep : ∀ (r s : Nat) (b c : Blk), mem[r]? = some b → mem[s]? = some c → r ≠ s → b.kind ≠ .ro → (c.kind = .ro → c.cells ≠ []) →
    ∀ x y k l, ρ r b.ver = some (some x, k) → ρ s c.ver = some (some y, l) → x.block ≠ y.block

structure Rep (ρ : Env) (nt : Nat) (tm : Tm) (mem : AMem) (a : Act) (w : World) : Prop where
  size : nt ≤ a.tmps.size
  tm : ∀ i, VR ρ (Tm.get tm i) (a.tmps.getD i undef)
  mem : RepM ρ mem w

structure Step (mem : AMem) (ρ : Env) (w : World) (mem' : AMem) (ρ' : Env) (w' : World) : Prop where
  os : w'.os = w.os
  tape : w'.tape = w.tape
  output : w'.output = w.output
  size : w.heap.size ≤ w'.heap.size
  len : mem.length ≤ mem'.length
  ext : ∀ r, r < mem.length → ∀ v x, ρ r v = some x → ρ' r v = some x
  kind : ∀ (r : Nat) (b b' : Blk), mem[r]? = some b → mem'[r]? = some b' → b'.kind = b.kind
  ro : ∀ (r : Nat) (b' : Blk), mem'[r]? = some b' → b'.kind = .ro → mem[r]? = some b'
  frame : ∀ n, n < w.heap.size → (∀ (r : Nat) (b : Blk) x k, mem[r]? = some b → b.kind ≠ .ro → ρ r b.ver = some (some x, k) → x.block ≠ n) → w'.heap[n]? = w.heap[n]?
  fresh : ∀ (r : Nat) (b' : Blk) x k, mem'[r]? = some b' → b'.kind ≠ .ro → ρ' r b'.ver = some (some x, k) →
    w.heap.size ≤ x.block ∨ ∃ (s : Nat) (b : Blk) (y : Addr) (l : Nat), mem[s]? = some b ∧ b.kind ≠ .ro ∧ ρ s b.ver = some (some y, l) ∧ y.block = x.block

theorem Step.refl (mem : AMem) (ρ : Env) (w : World) : Step mem ρ w mem ρ w where
  os := rfl
  tape := rfl
  output := rfl
  size := Nat.le_refl _
  len := Nat.le_refl _
  ext := fun _ _ _ _ h => h
  kind := fun r b b' h h' => by rw [h] at h'; injection h' with h'; rw [h']
  ro := fun _ _ h _ => h
  frame := fun _ _ _ => rfl
  fresh := fun r b x k h hk hx => .inr ⟨r, b, x, k, h, hk, hx, rfl⟩

theorem Step.trans {m1 m2 m3 : AMem} {ρ1 ρ2 ρ3 : Env} {w1 w2 w3 : World} (h : Step m1 ρ1 w1 m2 ρ2 w2) (g : Step m2 ρ2 w2 m3 ρ3 w3) : Step m1 ρ1 w1 m3 ρ3 w3 where
  os := g.os.trans h.os
  tape := g.tape.trans h.tape
  output := g.output.trans h.output
  size := Nat.le_trans h.size g.size
  len := Nat.le_trans h.len g.len
  ext := fun r hr v x hx => g.ext r (Nat.lt_of_lt_of_le hr h.len) v x (h.ext r hr v x hx)
  kind := fun r b b' hb hb' => by
    have hr : r < m2.length := by
      have := (List.getElem?_eq_some_iff.1 hb).1
      have := h.len
      omega
    have h2 := List.getElem?_eq_getElem hr
    rw [g.kind r _ _ h2 hb', h.kind r _ _ hb h2]
  ro := fun r b h1 hk => h.ro r b (g.ro r b h1 hk) hk
  frame := fun n hn hne => by
    rw [g.frame n (Nat.lt_of_lt_of_le hn h.size), h.frame n hn hne]
    intro r b x k hb hk hx
    rcases h.fresh r b x k hb hk hx with hlt | ⟨s, b0, y, l, hb0, hk0, hy, he⟩
    · omega
    · rw [← he]; exact hne s b0 y l hb0 hk0 hy
  fresh := fun r b x k hb hk hx => by
    rcases g.fresh r b x k hb hk hx with hlt | ⟨s, b0, y, l, hb0, hk0, hy, he⟩
    · exact .inl (Nat.le_trans h.size hlt)
    · rcases h.fresh s b0 y l hb0 hk0 hy with hlt | ⟨s', b1, y1, l1, hb1, hk1, hy1, he1⟩
      · exact .inl (by omega)
      · exact .inr ⟨s', b1, y1, l1, hb1, hk1, hy1, he1.trans he⟩

/-- What holds of a value under the elder reading holds under the younger one: the elder one speaks of the elder blocks alone. -/
theorem Step.le {mem mem' : AMem} {ρ ρ' : Env} {w w' : World} (h : Step mem ρ w mem' ρ' w') (hm : RepM ρ mem w) : ρ.le ρ' := fun r v x hx => by
  rcases Nat.lt_or_ge r mem.length with hr | hr
  · exact h.ext r hr v x hx
  · rw [hm.dom r v hr] at hx; cases hx

theorem Tm.get_put (tm : List (Nat × AV)) (d : Nat) (v : AV) (i : Nat) : Tm.get ((d, v) :: tm) i = if i = d then v else Tm.get tm i := rfl

theorem Rep.put {ρ : Env} {nt : Nat} {tm : Tm} {mem : AMem} {a : Act} {w : World} (h : Rep ρ nt tm mem a w) {d : Nat} (hd : d < nt) {x : AV} {v : Value} (hv : VR ρ x v) :
    Rep ρ nt ((d, x) :: tm) mem (a.put (some d) v) w where
  size := by simpa [Act.put] using h.size
  tm := fun i => by
    have hs := h.size
    rw [Tm.get_put]
    by_cases hi : i = d
    · subst hi
      rw [if_pos rfl]
      have : (a.put (some i) v).tmps.getD i undef = v := by simp [Act.put, Array.getD_eq_getD_getElem?, (by omega : i < a.tmps.size)]
      rw [this]; exact hv
    · rw [if_neg hi]
      have : (a.put (some d) v).tmps.getD i undef = a.tmps.getD i undef := by
        simp [Act.put, Array.getD_eq_getD_getElem?, Array.getElem?_setIfInBounds_ne (fun e => hi e.symm)]
      rw [this]; exact h.tm i
  mem := h.mem

theorem Rep.step {ρ ρ' : Env} {nt : Nat} {tm : Tm} {mem mem' : AMem} {a : Act} {w w' : World} (h : Rep ρ nt tm mem a w) (hs : Step mem ρ w mem' ρ' w') (hm : RepM ρ' mem' w') : Rep ρ' nt tm mem' a w' where
  size := h.size
  tm := fun i => (h.tm i).mono (hs.le h.mem)
  mem := hm

theorem Rep.put_none {ρ : Env} {nt : Nat} {tm : Tm} {mem : AMem} {a : Act} {w : World} (h : Rep ρ nt tm mem a w) (v : Value) : Rep ρ nt tm mem (a.put none v) w := h

end Go.Eng
