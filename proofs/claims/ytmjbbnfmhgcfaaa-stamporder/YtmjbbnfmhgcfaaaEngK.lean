/-
  ENGINE, PART K: the plan of a region that draws its order is checked, and then one reckoning serves for every order.
-/
import Derived.Test.YtmjbbnfmhgcfaaaEngJ
import Derived.StillTail
set_option linter.unusedVariables false
set_option linter.unusedSimpArgs false
namespace Go.Eng
open Go

abbrev Pl := List (Oper × Plan)

def opsOf (l : Pl) : Array Oper := (l.map (·.1)).toArray
def ancB (b : Array Nat) (j i : Nat) : Bool := (b.getD j 0).testBit i
def namesOf (ops : Array Oper) (o : Oper) : List Tmp := o.dst.toList ++ o.looksAt ops
def hasDst (o : Oper) (ns : List Tmp) : Bool :=
  match o.dst with
  | some d => ns.contains d
  | none => false

def chkE (l : Pl) : Bool := (List.range l.length).all fun j => match l[j]? with
  | some (o, _) => o.after.all fun e => !Region.binds .any e || decide (e.on < j)
  | none => true
def chkA (l : Pl) (b : Array Nat) : Bool := (List.range l.length).all fun j => match l[j]? with
  | some (o, _) => (List.range l.length).all fun i => !ancB b j i || o.after.any fun e => Region.binds .any e && (e.on == i || ancB b e.on i)
  | none => true
def pairs (l : Pl) (f : Nat → Oper × Plan → Nat → Oper × Plan → Bool) : Bool := (List.range l.length).all fun j => match l[j]? with
  | some oj => (List.range j).all fun i => match l[i]? with
    | some oi => f i oi j oj
    | none => true
  | none => true
def chkN (l : Pl) (b : Array Nat) : Bool := pairs l fun i oi j oj => !(hasDst oi.1 (namesOf (opsOf l) oj.1) || hasDst oj.1 (namesOf (opsOf l) oi.1)) || ancB b j i
def chkC (l : Pl) (b : Array Nat) : Bool := pairs l fun i oi j oj => !(oi.2.chain && oj.2.chain && !oj.2.isFl || oi.2.isWr && oj.2.isRd || oi.2.isRd && oj.2.isWr) || ancB b j i
def chkL (l : Pl) (b : Array Nat) : Bool := (List.range l.length).all fun i => match l[i]? with
  | some (_, .rd lo) => (List.range l.length).all fun c => match l[c]? with
    | some (_, p) => (!(p.chain && decide (chBefore l c < lo)) || ancB b i c) && (!(p.isWr && decide (c < i)) || decide (chBefore l c < lo)) && (match p with
      | .up q => decide (q ≤ chBefore l c) && (decide (chBefore l c < lo) || decide (i < c) && ancB b c i || decide (lo ≤ q))
      | _ => true)
    | none => true
  | _ => true
def chkR (l : Pl) (b : Array Nat) : Bool := (List.range l.length).all fun i => match l[i]? with
  | some (_, .rw lo) => (List.range l.length).all fun c => match l[c]? with
    | some (_, p) => !(p.chain && decide (chBefore l c < lo)) || ancB b i c
    | none => true
  | _ => true
def chkF (l : Pl) : Bool := (List.range l.length).all fun i => match l[i]? with
  | some (o, .fl) => (o.dst.isSome && o.guard.isNone) && (List.range l.length).all fun j => match l[j]? with
    | some (o', p) => decide (j = i) || !hasDst o (namesOf (opsOf l) o') || (p.chain && !p.isFl)
    | none => true
  | _ => true
def planOk (nt : Nat) (l : Pl) : Bool := chkE l && chkA l (Region.before (opsOf l)) && chkN l (Region.before (opsOf l)) && chkC l (Region.before (opsOf l)) && chkL l (Region.before (opsOf l)) && chkF l && chkR l (Region.before (opsOf l)) && l.all (fun o => dstOk nt o.1)

theorem pairs_get {l : Pl} {f : Nat → Oper × Plan → Nat → Oper × Plan → Bool} (h : pairs l f = true) {i j : Nat} {oi oj : Oper × Plan} (hi : l[i]? = some oi) (hj : l[j]? = some oj) (hij : i < j) : f i oi j oj = true := by
  unfold pairs at h
  have hjl := (List.getElem?_eq_some_iff.1 hj).1
  have h1 := List.all_eq_true.1 h j (List.mem_range.2 hjl)
  rw [hj] at h1
  have h2 := List.all_eq_true.1 h1 i (List.mem_range.2 hij)
  rw [hi] at h2
  exact h2

section
variable {P : Program} {l : Pl}

theorem chBefore_le (l : Pl) : ∀ {i j : Nat}, i ≤ j → chBefore l i ≤ chBefore l j := by
  intro i j h
  induction j with
  | zero => have : i = 0 := by omega
            subst this; exact Nat.le_refl _
  | succ j ih =>
    rcases Nat.lt_or_ge i (j + 1) with h1 | h1
    · have := ih (by omega)
      simp only [chBefore]
      split
      · split <;> omega
      · omega
    · have : i = j + 1 := by omega
      subst this; exact Nat.le_refl _
theorem chBefore_lt {i j : Nat} {o : Oper} {p : Plan} (hi : l[i]? = some (o, p)) (hp : p.chain = true) (h : i < j) : chBefore l i < chBefore l j := by
  have h1 := chBefore_le l (show i + 1 ≤ j from h)
  have h2 : chBefore l (i + 1) = chBefore l i + 1 := by simp only [chBefore, hi, hp, if_true]
  omega
theorem ch_at (l : Pl) : ∀ (n q : Nat), q < chBefore l n → ∃ c o p, c < n ∧ l[c]? = some (o, p) ∧ p.chain = true ∧ chBefore l c = q
  | 0, q, h => by simp [chBefore] at h
  | n + 1, q, h => by
    simp only [chBefore] at h
    split at h
    · rename_i o p hl
      split at h
      · rename_i hp
        by_cases hq : q = chBefore l n
        · exact ⟨n, o, p, by omega, hl, hp, hq.symm⟩
        · obtain ⟨c, o, p, h1, h2⟩ := ch_at l n q (by omega)
          exact ⟨c, o, p, by omega, h2⟩
      · obtain ⟨c, o, p, h1, h2⟩ := ch_at l n q h
        exact ⟨c, o, p, by omega, h2⟩
    · obtain ⟨c, o, p, h1, h2⟩ := ch_at l n q h
      exact ⟨c, o, p, by omega, h2⟩

theorem get_putO (o : Oper) (x : AV) (tm : Tm) (t : Nat) : Tm.get (putO o.dst x tm) t = if o.dst = some t then x else Tm.get tm t := by
  unfold putO
  cases o.dst with
  | none => simp
  | some d =>
    simp only [Tm.get, Option.some.injEq]
    by_cases h : t = d
    · subst h; simp
    · rw [if_neg h, if_neg (fun e => h e.symm)]

theorem get_step {xs : List AV} {sel : Nat → Bool} {tm : Tm} {t n : Nat} : Tm.get (tmSel l xs sel tm (n + 1)) t = match l[n]?, xs[n]? with
    | some (o, _), some x => if sel n = true ∧ o.dst = some t then x else Tm.get (tmSel l xs sel tm n) t
    | _, _ => Tm.get (tmSel l xs sel tm n) t := by
  simp only [tmSel]
  cases l[n]? with
  | none => rfl
  | some op =>
    obtain ⟨o, p⟩ := op
    cases xs[n]? with
    | none => rfl
    | some x =>
      simp only
      by_cases hs : sel n = true
      · rw [if_pos hs, get_putO]
        by_cases hd : o.dst = some t
        · rw [if_pos hd, if_pos ⟨hs, hd⟩]
        · rw [if_neg hd, if_neg (fun h => hd h.2)]
      · rw [if_neg hs, if_neg (fun h => hs h.1)]

theorem get_agree2 {xs xs' : List AV} {sel sel' : Nat → Bool} {tm : Tm} {t : Nat} : ∀ n, (∀ j o p, j < n → l[j]? = some (o, p) → o.dst = some t → sel j = sel' j ∧ (sel j = true → xs[j]? = xs'[j]?)) →
    (∀ j, j < n → xs[j]?.isSome = true ∧ xs'[j]?.isSome = true) → Tm.get (tmSel l xs sel tm n) t = Tm.get (tmSel l xs' sel' tm n) t
  | 0, _, _ => rfl
  | n + 1, h, hx => by
    have ih := get_agree2 (xs := xs) (xs' := xs') (tm := tm) n (fun j o p hj => h j o p (by omega)) (fun j hj => hx j (by omega))
    rw [get_step, get_step, ih]
    obtain ⟨x, hx1⟩ := Option.isSome_iff_exists.1 (hx n (by omega)).1
    obtain ⟨x', hx2⟩ := Option.isSome_iff_exists.1 (hx n (by omega)).2
    rw [hx1, hx2]
    cases hl : l[n]? with
    | none => rfl
    | some op =>
      obtain ⟨o, p⟩ := op
      simp only
      by_cases hd : o.dst = some t
      · obtain ⟨h1, h2⟩ := h n o p (by omega) hl hd
        rw [← h1]
        by_cases hs : sel n = true
        · have := h2 hs
          rw [hx1, hx2] at this
          injection this with this
          rw [if_pos ⟨hs, hd⟩, if_pos ⟨hs, hd⟩, this]
        · rw [if_neg (fun h => hs h.1), if_neg (fun h => hs h.1)]
      · rw [if_neg (fun h => hd h.2), if_neg (fun h => hd h.2)]

theorem get_agree {xs : List AV} {sel sel' : Nat → Bool} {tm : Tm} {t : Nat} : ∀ n, (∀ j o p, j < n → l[j]? = some (o, p) → o.dst = some t → sel j = sel' j) → Tm.get (tmSel l xs sel tm n) t = Tm.get (tmSel l xs sel' tm n) t
  | 0, _ => rfl
  | n + 1, h => by
    have ih := get_agree (xs := xs) (tm := tm) n (fun j o p hj => h j o p (by omega))
    rw [get_step, get_step, ih]
    split
    · rename_i o p x hl hx
      by_cases hd : o.dst = some t
      · rw [h n o p (by omega) hl hd]
      · rw [if_neg (fun h => hd h.2), if_neg (fun h => hd h.2)]
    · rfl

def earlyB (l : Pl) (listed : Array Bool) (k j : Nat) : Bool := listed.getD j false && (match l[j]? with
  | some (_, p) => p.chain && decide (k ≤ chBefore l j)
  | none => false)
def xsJ (l : Pl) (xs : List AV) (listed : Array Bool) (k : Nat) : List AV := (List.range l.length).map fun j => if earlyB l listed k j then .one .junk else (xs[j]?).getD (.one .junk)
theorem xsJ_get {xs : List AV} {listed : Array Bool} {k j : Nat} (hj : j < l.length) : (xsJ l xs listed k)[j]? = some (if earlyB l listed k j then .one .junk else (xs[j]?).getD (.one .junk)) := by
  simp [xsJ, hj]

theorem RepM.claim {ρ : Env} {mem : AMem} {w : World} (h : RepM ρ mem w) {n : Nat} {ty : TypeId} {cells : List CV} {c : Array Value} (hheap : w.heap[n]? = some (.cells c ty (0, 0))) (hall : All2 (VC ρ) cells c.toList)
    (hne : ∀ (r : Nat) (b : Blk) (x : Addr) (κ : Nat), mem[r]? = some b → (b.kind = .ro → b.cells ≠ []) → ρ r b.ver = some (some x, κ) → x.block ≠ n) :
    RepM (ρ.set mem.length 0 (some ⟨n, 0, none⟩, c.size)) (mem ++ [⟨.fix, ty, 0, 0, cells⟩]) w := by
  have hle : ρ.le (ρ.set mem.length 0 (some ⟨n, 0, none⟩, c.size)) := Env.le_set (h.dom _ _ (Nat.le_refl _))
  have hgt : ∀ {r : Nat} {c : Blk}, (mem ++ [⟨.fix, ty, 0, 0, cells⟩])[r]? = some c → (r < mem.length ∧ mem[r]? = some c) ∨ (r = mem.length ∧ c = ⟨.fix, ty, 0, 0, cells⟩) := by
    intro r c hc
    rcases Nat.lt_trichotomy r mem.length with hr | hr | hr
    · exact .inl ⟨hr, by rwa [List.getElem?_append_left hr] at hc⟩
    · subst hr; simp at hc; exact .inr ⟨rfl, hc.symm⟩
    · rw [List.getElem?_append_right (by omega)] at hc
      rw [List.getElem?_eq_none (by simp; omega)] at hc
      cases hc
  have hold : ∀ {r v : Nat}, r < mem.length → ρ.set mem.length 0 (some ⟨n, 0, none⟩, c.size) r v = ρ r v := fun {r v} hr => Env.set_other ρ _ (by omega)
  refine ⟨?_, ?_, ?_, ?_⟩
  · intro r c' hc
    rcases hgt hc with ⟨hr, hc1⟩ | ⟨e1, e2⟩
    · exact (h.blk r c' hc1).mono hle
    · subst e1; subst e2
      exact ⟨n, c, c.size, Env.set_same _ _ _ _, hheap, hall.mono fun _ _ => VC.mono hle, rfl⟩
  · intro r v hr
    simp at hr
    rw [Env.set_other ρ _ (by omega)]
    exact h.dom r v (by omega)
  · intro r c' v hc hv
    rcases hgt hc with ⟨hr, hc1⟩ | ⟨e1, e2⟩
    · rw [hold hr]; exact h.domv r c' v hc1 hv
    · subst e1; subst e2
      rw [Env.set_other ρ _ (by simp only at hv; omega)]; exact h.dom _ _ (Nat.le_refl _)
  · intro r s c' d hc hd hrs hk hne' x y k l hx hy
    rcases hgt hc with ⟨hr, hc1⟩ | ⟨e1, e2⟩ <;> rcases hgt hd with ⟨hs, hd1⟩ | ⟨e3, e4⟩
    · rw [hold hr] at hx; rw [hold hs] at hy
      exact h.sep r s c' d hc1 hd1 hrs hk hne' x y k l hx hy
    · subst e3; subst e4; rw [hold hr] at hx; rw [Env.set_same] at hy
      injection hy with hy; injection hy with hy _; injection hy with hy; subst hy
      exact hne r c' x k hc1 (fun e => absurd e hk) hx
    · subst e1; subst e2; rw [hold hs] at hy; rw [Env.set_same] at hx
      injection hx with hx; injection hx with hx _; injection hx with hx; subst hx
      exact fun e => hne s d y l hd1 hne' hy e.symm
    · exact absurd (e1.trans e3.symm) hrs

theorem Step.claim {m0 mem : AMem} {ρ0 ρ : Env} {w0 w : World} (hs : Step m0 ρ0 w0 mem ρ w) (hm : RepM ρ mem w) {n : Nat} (hge : w0.heap.size ≤ n) (ty : TypeId) (cells : List CV) (kk : Nat) :
    Step m0 ρ0 w0 (mem ++ [⟨.fix, ty, 0, 0, cells⟩]) (ρ.set mem.length 0 (some ⟨n, 0, none⟩, kk)) w := by
  have hle : ρ.le (ρ.set mem.length 0 (some ⟨n, 0, none⟩, kk)) := Env.le_set (hm.dom _ _ (Nat.le_refl _))
  have hgt : ∀ {r : Nat} {c : Blk}, (mem ++ [⟨.fix, ty, 0, 0, cells⟩])[r]? = some c → (r < mem.length ∧ mem[r]? = some c) ∨ (r = mem.length ∧ c = ⟨.fix, ty, 0, 0, cells⟩) := by
    intro r c hc
    rcases Nat.lt_trichotomy r mem.length with hr | hr | hr
    · exact .inl ⟨hr, by rwa [List.getElem?_append_left hr] at hc⟩
    · subst hr; simp at hc; exact .inr ⟨rfl, hc.symm⟩
    · rw [List.getElem?_append_right (by omega)] at hc
      rw [List.getElem?_eq_none (by simp; omega)] at hc
      cases hc
  refine ⟨hs.os, hs.tape, hs.output, hs.size, by simp only [List.length_append]; have := hs.len; omega, fun r hr v x hx => hle _ _ _ (hs.ext r hr v x hx), ?_, ?_, hs.frame, ?_⟩
  · intro r b b' hb hb'
    have hr := (List.getElem?_eq_some_iff.1 hb).1
    have := hs.len
    rcases hgt hb' with ⟨_, h1⟩ | ⟨e1, _⟩
    · exact hs.kind r b b' hb h1
    · omega
  · intro r b hb hro
    rcases hgt hb with ⟨_, h1⟩ | ⟨_, e2⟩
    · exact hs.ro r b h1 hro
    · subst e2; cases hro
  · intro r b x k hb hk hx
    rcases hgt hb with ⟨hr, h1⟩ | ⟨e1, e2⟩
    · rw [Env.set_other ρ _ (by omega)] at hx
      exact hs.fresh r b x k h1 hk hx
    · subst e1; subst e2
      rw [Env.set_same] at hx
      injection hx with hx; injection hx with hx _; injection hx with hx; subst hx
      exact .inl hge

theorem RepM.garbage {ρ : Env} {mem : AMem} {w : World} (h : RepM ρ mem w) (o : Obj) : RepM ρ mem (w.alloc o) ∧ Step mem ρ w mem ρ (w.alloc o) :=
  ⟨⟨fun r b hb => (h.blk r b hb).heap (by simp) fun x k _ _ hl => halloc_old w o _ hl, h.dom, h.domv, h.sep⟩,
   ⟨rfl, rfl, rfl, by simp, Nat.le_refl _, fun _ _ _ _ h => h, (fun r b b' h1 h2 => by rw [h1] at h2; injection h2 with e; rw [e]), fun _ _ h _ => h, fun n hn _ => halloc_old w o n hn, fun r b x k h1 h2 h3 => .inr ⟨r, b, x, k, h1, h2, h3, rfl⟩⟩⟩

theorem tmSel_lt {xs : List AV} {tm : Tm} {i : Nat} : ∀ n, i ≤ n → tmSel l xs (fun j => decide (j < i)) tm n = tmSel l xs (fun _ => true) tm i := by
  have low : ∀ k, k ≤ i → tmSel l xs (fun j => decide (j < i)) tm k = tmSel l xs (fun _ => true) tm k := by
    intro k
    induction k with
    | zero => intro _; rfl
    | succ k ih =>
      intro hk
      simp only [tmSel]
      rw [ih (by omega)]
      split
      · rw [if_pos (by simp; omega)]; simp
      · rfl
  intro n hn
  induction n with
  | zero => have : i = 0 := by omega
            subst this; rfl
  | succ n ih =>
    by_cases h : i = n + 1
    · subst h; exact low _ (Nat.le_refl _)
    · rw [← ih (by omega)]
      simp only [tmSel]
      split
      · rw [if_neg (by simp; omega)]
      · rfl

theorem get_last {xs : List AV} {sel : Nat → Bool} {tm : Tm} {t i : Nat} {o : Oper} {p : Plan} {x : AV} (hi : l[i]? = some (o, p)) (hd : o.dst = some t) (hx : xs[i]? = some x) (hs : sel i = true) :
    ∀ n, i < n → (∀ j o p, i < j → j < n → l[j]? = some (o, p) → o.dst = some t → sel j = false) → Tm.get (tmSel l xs sel tm n) t = x
  | 0, h, _ => by omega
  | n + 1, h, hlater => by
    simp only [tmSel]
    by_cases hin : i = n
    · subst hin
      rw [hi, hx]
      simp only [hs, if_true]
      rw [get_putO, if_pos hd]
    · have ih := get_last (tm := tm) hi hd hx hs n (by omega) (fun j o p h1 h2 => hlater j o p h1 (by omega))
      split
      · rename_i o' p' x' hl hx'
        by_cases hd' : o'.dst = some t
        · rw [hlater n o' p' (by omega) (by omega) hl hd']; simpa using ih
        · split
          · rw [get_putO, if_neg hd']; exact ih
          · exact ih
      · exact ih

theorem evVal_nil {e : Operand → AV} {op : Op} {x : AV} (h : evVal P e [] op = some (x, [])) (M : AMem) : evVal P e M op = some (x, M) := by
  have mp : ∀ {y : Option AV}, (y.map fun z => (z, ([] : AMem))) = some (x, []) → (y.map fun z => (z, M)) = some (x, M) := by
    intro y h
    simp only [Option.map_eq_some_iff, Prod.mk.injEq] at h ⊢
    obtain ⟨a, h1, h2⟩ := h
    exact ⟨a, h1, h2.1, trivial⟩
  have hne : ∀ {y : AV} {b : Blk}, some (y, ([] : AMem) ++ [b]) = some (x, []) → False := by
    intro y b h; simp at h
  unfold evVal at h ⊢
  split at h
  · injection h with h; injection h with h; subst h; rfl
  · injection h with h; injection h with h; subst h; rfl
  · split at h
    · rename_i hc; injection h with h; injection h with h; subst h; simp only [hc]
    · cases h
  · unfold allocA at h; split at h
    · exact (hne h).elim
    · cases h
  · unfold boxA at h; split at h
    · exact (hne h).elim
    · cases h
  · exact mp h
  · unfold buildSliceA at h
    split at h
    · split at h
      · split at h
        · split at h
          · exact (hne h).elim
          · cases h
        · cases h
      · cases h
    · cases h
  · rename_i t y
    simp only [Option.map_eq_some_iff] at h
    obtain ⟨a, h1, _⟩ := h
    unfold loadA at h1
    split at h1
    · simp at h1
    · cases h1
  · split at h
    · rename_i r v o hc; injection h with h; injection h with h; subst h; simp only [hc]
    · rename_i f cs hc; injection h with h; injection h with h; subst h; simp only [hc]
    · cases h
  · exact mp h
  · exact mp h
  · exact convS_nil P h
  · simp only [Option.map_eq_some_iff, Prod.mk.injEq] at h ⊢
    obtain ⟨a, h1, h2⟩ := h
    exact ⟨a, sliceM_nil P h1, h2.1, trivial⟩
  · exact mp h
  · exact mp h
  · exact mp h
  · exact mp h
  · exact mp h
  · split at h
    · rename_i h0
      rw [if_pos h0]
      simp only [Option.map_eq_some_iff, Prod.mk.injEq] at h ⊢
      obtain ⟨a, h1, h2⟩ := h
      exact ⟨a, h1, h2.1, trivial⟩
    · cases h
  · unfold makeA at h
    split at h
    · split at h
      · split at h
        · exact (hne h).elim
        · cases h
      · cases h
    · cases h
  · unfold builtinA at h ⊢
    split at h
    · exact mp h
    · split at h
      · unfold appendA at h
        split at h
        · split at h
          · split at h
            · split at h
              · split at h
                · split at h
                  · split at h
                    · exact (hne h).elim
                    · cases h
                  · simp at h
                  · cases h
                · cases h
              · cases h
            · cases h
          · cases h
        · cases h
      · cases h
    · unfold copyA at h
      split at h
      · split at h
        · rename_i hb _; simp at hb
        · cases h
      · cases h
    · exact mp h
    · unfold usA at h ⊢
      split at h
      · split at h
        · rename_i h0
          rw [if_pos h0]
          injection h with h; injection h with h1 h2; subst h1; rfl
        · cases h
      · simp at h
      · cases h
    · exact mp h
    · exact mp h
    · cases h
  · cases h

theorem does_of_evVal {o : Oper} {e : Operand → AV} {M M' : AMem} {x : AV} (h : evVal P e M o.op = some (x, M')) : Does P o e M x M' := by
  unfold Does
  split
  · rename_i hop; rw [hop] at h; simp [evVal] at h
  · rename_i hop; rw [hop] at h; simp [evVal] at h
  · exact h

theorem loadA_mono {t : TypeId} {x y : AV} {M M' : AMem} (h : loadA P t x M = some y) (hm : ∀ (r : Nat) (b : Blk), M[r]? = some b → M'[r]? = some b) : loadA P t x M' = some y := by
  unfold loadA at h ⊢
  split at h
  · rename_i r ver off
    split at h
    · rename_i b hb
      rw [hm r b hb]; exact h
    · cases h
  · cases h

theorem wantedA_congr {ops : Array Oper} {o : Oper} {tm tm' : Tm} (h : ∀ t, t ∈ o.looksAt ops → Tm.get tm t = Tm.get tm' t) : wantedA ops o tm = wantedA ops o tm' := by
  unfold wantedA
  cases hg : o.guard with
  | none => rfl
  | some jw =>
    obtain ⟨j, want⟩ := jw
    simp only
    cases hd : (ops[j]?).bind (·.dst) with
    | none => rfl
    | some t =>
      simp only
      rw [h t (by unfold Oper.looksAt; simp [hg, hd])]

theorem opd_congr {ops : Array Oper} {o : Oper} {tm tm' : Tm} (h : ∀ t, t ∈ o.looksAt ops → Tm.get tm t = Tm.get tm' t) : ∀ y ∈ o.op.operands, opd tm y = opd tm' y := by
  intro y hy
  cases y with
  | tmp t => exact h t (by unfold Oper.looksAt; exact List.mem_append_left _ (List.mem_filterMap.2 ⟨.tmp t, by simpa using hy, rfl⟩))
  | _ => rfl

theorem countP_lt {α : Type} {p q : α → Bool} : ∀ {l : List α}, (∀ x, x ∈ l → q x = true → p x = true) → ∀ x, x ∈ l → p x = true → q x = false → l.countP q < l.countP p
  | [], _, x, hx, _, _ => by cases hx
  | y :: l, h, x, hx, hp, hq => by
    have hle : l.countP q ≤ l.countP p := List.countP_mono_left fun z hz => h z (List.mem_cons_of_mem _ hz)
    rcases List.mem_cons.1 hx with rfl | hx
    · rw [List.countP_cons_of_pos hp, List.countP_cons_of_neg (by simp [hq])]; omega
    · have ih := countP_lt (fun z hz => h z (List.mem_cons_of_mem _ hz)) x hx hp hq
      by_cases hy : q y = true
      · rw [List.countP_cons_of_pos hy, List.countP_cons_of_pos (h y List.mem_cons_self hy)]; omega
      · rw [List.countP_cons_of_neg hy]
        by_cases hy' : p y = true
        · rw [List.countP_cons_of_pos hy']; omega
        · rw [List.countP_cons_of_neg hy']; exact ih

theorem aopsD_sound {nt : Nat} (hok : planOk nt l = true) {tm : Tm} {mem : AMem} {K : Tm → AMem → Prop} (h : AOpsD P (opsOf l) l tm mem [mem] [] K) {ρ0 : Env} {a0 : Act} {w0 : World} {Q : Exit → Act → World → Prop}
    (hr0 : Rep ρ0 nt tm mem a0 w0) (hQ : ∀ ρ' tm' mem' a' w', Rep ρ' nt tm' mem' a' w' → Step mem ρ0 w0 mem' ρ' w' → a'.defers = a0.defers → K tm' mem' → Q .normal a' w') :
    wpAny P .any (opsOf l) Q (opsOf l).size (Array.replicate (opsOf l).size false) a0 w0 := by
  obtain ⟨Wt, xs, Ms, tmF, memF, _, hWt, hrun, hK⟩ := run_of_aopsD l tm mem [mem] [] K h
  obtain ⟨hxl, htmF, hmemF, hfacts⟩ := run_facts hrun 0 rfl rfl
  simp only [Nat.zero_add] at hmemF hfacts
  simp only [planOk, Bool.and_eq_true] at hok
  obtain ⟨⟨⟨⟨⟨⟨⟨hE, hA⟩, hN⟩, hC⟩, hL⟩, hF⟩, hR⟩, hD⟩ := hok
  generalize hb : Region.before (opsOf l) = b at hA hN hC hL hR
  have hsz : (opsOf l).size = l.length := by simp [opsOf]
  have hat : ∀ i, i < l.length → ∃ o p, l[i]? = some (o, p) := fun i hi => ⟨(l[i]'hi).1, (l[i]'hi).2, by rw [List.getElem?_eq_getElem hi]⟩
  have hxsome : ∀ i, i < l.length → xs[i]?.isSome = true := fun i hi => by
    obtain ⟨o, p, hi'⟩ := hat i hi
    obtain ⟨x, _, _, hx, _⟩ := hfacts i o p hi'
    rw [hx]; rfl
  have hxJsome : ∀ listed k i, i < l.length → (xsJ l xs listed k)[i]?.isSome = true := fun listed k i hi => by rw [xsJ_get hi]; rfl
  have hMl : ∀ {k : Nat} {M : AMem}, Ms[k]? = some M → k ≤ chBefore l l.length := fun {k M} hk => by
    have := (List.getElem?_eq_some_iff.1 hk).1
    omega
  have hops : ∀ {i : Nat} {o : Oper}, (opsOf l)[i]? = some o → ∃ p, l[i]? = some (o, p) := by
    intro i o ho
    simp only [opsOf, List.getElem?_toArray, List.getElem?_map, Option.map_eq_some_iff] at ho
    obtain ⟨⟨o', p⟩, h1, rfl⟩ := ho
    exact ⟨p, h1⟩
  have hops' : ∀ {i : Nat} {o : Oper} {p : Plan}, l[i]? = some (o, p) → (opsOf l)[i]? = some o := by
    intro i o p h
    simp [opsOf, h]
  have hEdge : ∀ {j : Nat} {o : Oper} {p : Plan}, l[j]? = some (o, p) → ∀ e ∈ o.after, Region.binds .any e = true → e.on < j := by
    intro j o p hj e he hbd
    have h1 := List.all_eq_true.1 hE j (List.mem_range.2 (List.getElem?_eq_some_iff.1 hj).1)
    rw [hj] at h1
    have h2 := Array.all_eq_true_iff_forall_mem.1 h1 e he
    simpa [hbd] using h2
  have hAnc : ∀ {j : Nat} {o : Oper} {p : Plan}, l[j]? = some (o, p) → ∀ i, i < l.length → ancB b j i = true → ∃ e ∈ o.after, Region.binds .any e = true ∧ (e.on = i ∨ ancB b e.on i = true) := by
    intro j o p hj i hi hb
    have h1 := List.all_eq_true.1 hA j (List.mem_range.2 (List.getElem?_eq_some_iff.1 hj).1)
    rw [hj] at h1
    have h2 := List.all_eq_true.1 h1 i (List.mem_range.2 hi)
    rw [hb] at h2
    simp only [Bool.not_true, Bool.false_or] at h2
    obtain ⟨e, he, h3⟩ := Array.any_eq_true'.1 h2
    simp only [Bool.and_eq_true, Bool.or_eq_true, beq_iff_eq] at h3
    exact ⟨e, he, h3.1, h3.2⟩
  have hFg : ∀ {i : Nat} {o : Oper}, l[i]? = some (o, Plan.fl) → o.guard = none := by
    intro i o hi
    have h1 := List.all_eq_true.1 hF i (List.mem_range.2 (List.getElem?_eq_some_iff.1 hi).1)
    rw [hi] at h1
    simp only [Bool.and_eq_true] at h1
    exact Option.isNone_iff_eq_none.1 h1.1.2
  have hFl : ∀ {i : Nat} {o : Oper}, l[i]? = some (o, Plan.fl) → (∃ d, o.dst = some d) ∧ ∀ j o' p', l[j]? = some (o', p') → j ≠ i → ∀ d, o.dst = some d → d ∈ namesOf (opsOf l) o' → p'.chain = true ∧ p'.isFl = false := by
    intro i o hi
    have h1 := List.all_eq_true.1 hF i (List.mem_range.2 (List.getElem?_eq_some_iff.1 hi).1)
    rw [hi] at h1
    simp only [Bool.and_eq_true] at h1
    refine ⟨Option.isSome_iff_exists.1 h1.1.1, fun j o' p' hj hji d hd hmem => ?_⟩
    have h2 := List.all_eq_true.1 h1.2 j (List.mem_range.2 (List.getElem?_eq_some_iff.1 hj).1)
    rw [hj] at h2
    have h3 : hasDst o (namesOf (opsOf l) o') = true := by simp [hasDst, hd, hmem]
    simp only [h3, Bool.not_true, Bool.or_false, Bool.or_eq_true, decide_eq_true_eq, Bool.and_eq_true, Bool.not_eq_true'] at h2
    rcases h2 with h2 | h2
    · exact absurd h2 hji
    · exact h2
  have hisFl : ∀ {p : Plan}, p.isFl = true → p = .fl := fun {p} h => by cases p <;> simp [Plan.isFl] at h; rfl
  -- the float's own facts
  have hflf : ∀ {c : Nat} {o : Oper}, l[c]? = some (o, Plan.fl) → ∃ t z M1, o.op = .alloc t ∧ zeroOf P t = some z ∧ xs[c]? = some (.one (.ptr M1.length 0 0)) ∧ Ms[chBefore l c]? = some M1 ∧ Ms[chBefore l c + 1]? = some (M1 ++ [⟨.fix, t, 0, 0, z.cells.toList.map cellOf⟩]) ∧ o.guard = none := by
    intro c o hc
    obtain ⟨x, M1, M2, hx, hM1, hM2, hop⟩ := hfacts c o _ hc
    have hc1 : chBefore l (c + 1) = chBefore l c + 1 := by simp only [chBefore, hc, Plan.chain, if_true]
    rw [hc1] at hM2
    have hop' : o.guard = none ∧ ∃ t z, o.op = .alloc t ∧ zeroOf P t = some z ∧ x = .one (.ptr M1.length 0 0) ∧ M2 = M1 ++ [⟨.fix, t, 0, 0, z.cells.toList.map cellOf⟩] := by
      rcases hop with ⟨hw, _⟩ | ⟨_, hop⟩
      · exfalso
        simp [wantedA, hFg hc] at hw
      · exact hop
    obtain ⟨hg, t, z, h1, h2, h3, h4⟩ := hop'
    subst h3; subst h4
    exact ⟨t, z, M1, h1, h2, hx, hM1, hM2, hg⟩
  let Jn : Array Bool → Prop := fun listed => listed.size = l.length ∧ ∀ j o p, l[j]? = some (o, p) → listed.getD j false = true → ∀ e ∈ o.after, Region.binds .any e = true → listed.getD e.on false = true
  have hclosed : ∀ {listed : Array Bool}, Jn listed → ∀ (j : Nat) (o : Oper) (p : Plan), l[j]? = some (o, p) → listed.getD j false = true → ∀ i, i < l.length → ancB b j i = true → listed.getD i false = true := by
    intro listed hJ j
    induction j using Nat.strongRecOn with
    | _ j ih =>
      intro o p hj hl i hi hanc
      obtain ⟨e, he, hbd, hor⟩ := hAnc hj i hi hanc
      have hel := hJ.2 j o p hj hl e he hbd
      rcases hor with rfl | hor
      · exact hel
      · have hlt := hEdge hj e he hbd
        have hjl := (List.getElem?_eq_some_iff.1 hj).1
        obtain ⟨oe, pe, hoe⟩ := hat e.on (by omega)
        exact ih e.on hlt oe pe hoe hel i hi hor
  -- the state behind the operations 'listed', of which the first k that turn memory are reckoned
  let St : Array Bool → Nat → Act → World → Prop := fun listed k a w => ∃ (ρ : Env) (M : AMem) (N : Nat → Nat), Ms[k]? = some M ∧
    (∀ c o p, l[c]? = some (o, p) → p.chain = true → chBefore l c < k → listed.getD c false = true) ∧
    (∀ c o p, l[c]? = some (o, p) → p.chain = true → listed.getD c false = true → k ≤ chBefore l c → p = .fl) ∧
    Rep ρ nt (tmSel l (xsJ l xs listed k) (fun j => listed.getD j false) tm l.length) M a w ∧ Step mem ρ0 w0 M ρ w ∧ a.defers = a0.defers ∧
    (∀ c o, l[c]? = some (o, Plan.fl) → listed.getD c false = true → k ≤ chBefore l c → ∃ t z d, o.op = .alloc t ∧ zeroOf P t = some z ∧ o.dst = some d ∧ a.tmps.getD d undef = .pointer (some ⟨N c, 0, none⟩) ∧
      w.heap[N c]? = some (.cells z.cells t (0, 0)) ∧ w0.heap.size ≤ N c ∧ ∀ (r : Nat) (b : Blk) (x : Addr) (κ : Nat), M[r]? = some b → (b.kind = .ro → b.cells ≠ []) → ρ r b.ver = some (some x, κ) → x.block ≠ N c) ∧
    (∀ c c' o o', l[c]? = some (o, Plan.fl) → l[c']? = some (o', Plan.fl) → listed.getD c false = true → listed.getD c' false = true → k ≤ chBefore l c → k ≤ chBefore l c' → c ≠ c' → N c ≠ N c')
  have hearly : ∀ {listed : Array Bool} {k j : Nat} {o : Oper} {p : Plan}, l[j]? = some (o, p) → (earlyB l listed k j = true ↔ listed.getD j false = true ∧ p.chain = true ∧ k ≤ chBefore l j) := by
    intro listed k j o p hj
    simp [earlyB, hj]
  have huniq : ∀ {c c' : Nat} {o o' : Oper} {p p' : Plan}, l[c]? = some (o, p) → l[c']? = some (o', p') → p.chain = true → p'.chain = true → chBefore l c = chBefore l c' → c = c' := by
    intro c c' o o' p p' hc hc' hp hp' he
    rcases Nat.lt_trichotomy c c' with h | h | h
    · have := chBefore_lt hc hp h; omega
    · exact h
    · have := chBefore_lt hc' hp' h; omega
  have absorb : ∀ (m : Nat) (listed : Array Bool) (k : Nat) (a : Act) (w : World), Jn listed → chBefore l l.length - k ≤ m → St listed k a w →
      ∃ k', St listed k' a w ∧ ∀ c o p, l[c]? = some (o, p) → p.chain = true → chBefore l c = k' → listed.getD c false = false := by
    intro m
    induction m with
    | zero =>
      intro listed k a w hJ hm hS
      refine ⟨k, hS, fun c o p hc hp hk => ?_⟩
      obtain ⟨ρ, M, N, hM, _⟩ := hS
      have := hMl hM
      have := chBefore_lt hc hp (List.getElem?_eq_some_iff.1 hc).1
      omega
    | succ m ih =>
      intro listed k a w hJ hm hS
      by_cases hex : ∃ c o p, l[c]? = some (o, p) ∧ p.chain = true ∧ chBefore l c = k ∧ listed.getD c false = true
      · obtain ⟨c, o, p, hc, hp, hck, hlc⟩ := hex
        have hclt := chBefore_lt hc hp (List.getElem?_eq_some_iff.1 hc).1
        refine ih listed (k + 1) a w hJ (by omega) ?_
        obtain ⟨ρ, M, N, hM, hlow, hfl, hrep, hst, hdef, hpend, hdist⟩ := hS
        have hpf := hfl c o p hc hp hlc (by omega)
        subst hpf
        obtain ⟨t, z, d, h1, h2, h3, h4, h5, h6, h7⟩ := hpend c o hc hlc (by omega)
        obtain ⟨t', z', M1, g1, g2, g3, g4, g5, _⟩ := hflf hc
        rw [h1] at g1; injection g1 with g1; subst g1
        rw [h2] at g2; injection g2 with g2; subst g2
        rw [hck, hM] at g4; injection g4 with g4; subst g4
        rw [hck] at g5
        have hle : ρ.le (ρ.set M.length 0 (some ⟨N c, 0, none⟩, z.cells.size)) := Env.le_set (hrep.mem.dom _ _ (Nat.le_refl _))
        refine ⟨ρ.set M.length 0 (some ⟨N c, 0, none⟩, z.cells.size), _, N, g5, ?_, ?_, ⟨hrep.size, fun s => ?_, hrep.mem.claim h5 (All2_cellOf ρ _) h7⟩, hst.claim hrep.mem h6 _ _ _, hdef, ?_, ?_⟩
        · intro c' o' p' hc' hp' hlt
          by_cases he : chBefore l c' = k
          · rw [huniq hc' hc hp' rfl (he.trans hck.symm)]; exact hlc
          · exact hlow c' o' p' hc' hp' (by omega)
        · intro c' o' p' hc' hp' hl' hge; exact hfl c' o' p' hc' hp' hl' (by omega)
        · by_cases hs : o.dst = some s
          · have hds : d = s := by rw [h3] at hs; injection hs
            subst hds
            have hlast : Tm.get (tmSel l (xsJ l xs listed (k + 1)) (fun j => listed.getD j false) tm l.length) d = .one (.ptr M.length 0 0) := by
              refine get_last hc h3 ?_ hlc _ (List.getElem?_eq_some_iff.1 hc).1 fun j o' p' hcj hj hl' hd' => ?_
              · rw [xsJ_get (List.getElem?_eq_some_iff.1 hc).1, g3, if_neg]
                · rfl
                · rw [hearly hc]; omega
              · obtain ⟨q1, q2⟩ := (hFl hc).2 j o' p' hl' (by omega) d h3 (by simp [namesOf, hd'])
                cases hlj : listed.getD j false with
                | false => rfl
                | true =>
                  exfalso
                  have h8 := chBefore_lt hc rfl hcj
                  have := hfl j o' p' hl' q1 hlj (by omega)
                  subst this
                  cases q2
            rw [hlast, h4]
            exact ⟨_, _, Env.set_same _ _ _ _, by simp [Addr.add]⟩
          · have := (hrep.tm s).mono hle
            rw [get_agree2 (xs' := xsJ l xs listed (k + 1)) (sel' := fun j => listed.getD j false) l.length (fun j o' p' hj hl' hd' => ⟨rfl, fun hlj => ?_⟩) (fun j hj => ⟨hxJsome _ _ j hj, hxJsome _ _ j hj⟩)] at this
            · exact this
            · have hjc : j ≠ c := by rintro rfl; rw [hc] at hl'; injection hl' with hl'; injection hl' with e1 _; subst e1; exact hs hd'
              rw [xsJ_get hj, xsJ_get hj]
              have : earlyB l listed k j = earlyB l listed (k + 1) j := by
                rw [Bool.eq_iff_iff, hearly hl', hearly hl']
                constructor
                · rintro ⟨q1, q2, q3⟩
                  refine ⟨q1, q2, ?_⟩
                  rcases Nat.lt_or_ge k (chBefore l j) with h | h
                  · omega
                  · exact absurd (huniq hl' hc q2 rfl (by omega)) hjc
                · rintro ⟨q1, q2, q3⟩; exact ⟨q1, q2, by omega⟩
              rw [this]
        · intro c' o' hc' hl' hge
          obtain ⟨t', z', d', q1, q2, q3, q4, q5, q6, q7⟩ := hpend c' o' hc' hl' (by omega)
          refine ⟨t', z', d', q1, q2, q3, q4, q5, q6, fun r bb x κ hb hne hx => ?_⟩
          rcases Nat.lt_trichotomy r M.length with hr | hr | hr
          · rw [List.getElem?_append_left hr] at hb
            rw [Env.set_other ρ _ (by omega)] at hx
            exact q7 r bb x κ hb hne hx
          · subst hr
            have hbb : bb.ver = 0 := by simp at hb; rw [← hb]
            rw [hbb, Env.set_same] at hx
            injection hx with hx; injection hx with hx _; injection hx with hx; subst hx
            exact hdist c c' o o' hc hc' hlc hl' (by omega) (by omega) (by rintro rfl; omega)
          · rw [List.getElem?_eq_none (by simp; omega)] at hb; cases hb
        · intro c1 c2 o1 o2 q1 q2 q3 q4 q5 q6 q7; exact hdist c1 c2 o1 o2 q1 q2 q3 q4 (by omega) (by omega) q7
      · refine ⟨k, hS, fun c o p hc hp hk => ?_⟩
        cases hl : listed.getD c false with
        | false => rfl
        | true => exact absurd ⟨c, o, p, hc, hp, hk, hl⟩ hex
  have key : ∀ (fuel : Nat) (listed : Array Bool) (a : Act) (w : World), Jn listed → (List.range l.length).countP (fun i => !listed.getD i false) ≤ fuel →
      (∃ k, St listed k a w ∧ ∀ c o p, l[c]? = some (o, p) → p.chain = true → chBefore l c = k → listed.getD c false = false) →
      wpAny P .any (opsOf l) Q fuel listed a w := by
    intro fuel
    have hdone : ∀ (listed : Array Bool) (a : Act) (w : World), Jn listed → (∀ i, i < l.length → listed.getD i false = true) →
        (∃ k, St listed k a w ∧ ∀ c o p, l[c]? = some (o, p) → p.chain = true → chBefore l c = k → listed.getD c false = false) → Q .normal a w := by
      rintro listed a w hJ hall ⟨k, ⟨ρ, M, N, hM, hlow, hfl, hrep, hst, hdef, hpend, hdist⟩, hnorm⟩
      have hk2 : k ≤ chBefore l l.length := hMl hM
      have hk : k = chBefore l l.length := by
        rcases Nat.lt_or_ge k (chBefore l l.length) with hlt | hge
        · obtain ⟨c, o, p, h1, h2, h3, h4⟩ := ch_at l _ k hlt
          have := hnorm c o p h2 h3 h4
          rw [hall c h1] at this; cases this
        · omega
      subst hk
      rw [hM] at hmemF
      injection hmemF with hmemF
      subst hmemF
      refine hQ ρ tmF M a w ⟨hrep.size, fun t => ?_, hrep.mem⟩ hst hdef hK
      have := hrep.tm t
      rw [get_agree2 (xs' := xs) (sel' := fun _ => true) l.length (fun j o p hj hl' hd' => ⟨hall j hj, fun _ => ?_⟩) (fun j hj => ⟨hxJsome _ _ j hj, hxsome j hj⟩)] at this
      · rw [htmF]; exact this
      · obtain ⟨x, hx⟩ := Option.isSome_iff_exists.1 (hxsome j hj)
        rw [xsJ_get hj, hx, if_neg]
        · rfl
        · rw [hearly hl']
          rintro ⟨_, q2, q3⟩
          have := chBefore_lt hl' q2 hj
          omega
    have hready : ∀ (listed : Array Bool), Jn listed → Region.ready .any (opsOf l) listed = [] → ∀ i, i < l.length → listed.getD i false = true := by
      intro listed hJ hnil i
      induction i using Nat.strongRecOn with
      | _ i ih =>
        intro hi
        cases hl : listed.getD i false with
        | true => rfl
        | false =>
          exfalso
          have hmem : i ∈ Region.ready .any (opsOf l) listed := by
            obtain ⟨o, p, hoi⟩ := hat i hi
            refine mem_ready.2 ⟨getD_in (by rw [hJ.1]; exact hi) hl, o, hops' hoi, fun e he hbd => ?_⟩
            have := hEdge hoi e he hbd
            exact ih e.on this (by omega)
          rw [hnil] at hmem
          cases hmem
    induction fuel with
    | zero =>
      intro listed a w hJ hcnt hst
      have hall : ∀ i, i < l.length → listed.getD i false = true := by
        intro i hi
        have h0 : (List.range l.length).countP (fun i => !listed.getD i false) = 0 := by omega
        have := (List.countP_eq_zero.1 h0) i (List.mem_range.2 hi)
        simpa using this
      refine ⟨?_, hdone listed a w hJ hall hst⟩
      apply List.eq_nil_iff_forall_not_mem.2
      intro i hi
      obtain ⟨h1, oi, h2, _⟩ := mem_ready.1 hi
      obtain ⟨p, hp⟩ := hops h2
      have := hall i (List.getElem?_eq_some_iff.1 hp).1
      rw [getD_both h1] at this
      cases this
    | succ fuel ih =>
      intro listed a w hJ hcnt hst
      refine ⟨fun hnil => hdone listed a w hJ (hready listed hJ hnil) hst, fun i hi => ?_⟩
      obtain ⟨hun, oi, hoi, hpre⟩ := mem_ready.1 hi
      obtain ⟨pi, hli⟩ := hops hoi
      have hil := (List.getElem?_eq_some_iff.1 hli).1
      have hunF : listed.getD i false = false := getD_both hun
      have hset : ∀ j, (listed.setIfInBounds i true).getD j false = if j = i then true else listed.getD j false := by
        intro j
        by_cases hj : j = i
        · subst hj
          simp [Array.getD_eq_getD_getElem?, (by rw [hJ.1]; exact hil : j < listed.size)]
        · rw [if_neg hj]
          simp [Array.getD_eq_getD_getElem?, Array.getElem?_setIfInBounds_ne (fun e => hj e.symm)]
      have hJ' : Jn (listed.setIfInBounds i true) := by
        refine ⟨by simp [hJ.1], fun j o p hj hl e he hbd => ?_⟩
        rw [hset]
        split
        · rfl
        · rw [hset] at hl
          by_cases hji : j = i
          · subst hji
            rw [hli] at hj; injection hj with hj; injection hj with hj _; subst hj
            exact hpre e he hbd
          · rw [if_neg hji] at hl
            exact hJ.2 j o p hj hl e he hbd
      have hcnt' : (List.range l.length).countP (fun j => !(listed.setIfInBounds i true).getD j false) ≤ fuel := by
        have : (List.range l.length).countP (fun j => !(listed.setIfInBounds i true).getD j false) < (List.range l.length).countP (fun j => !listed.getD j false) := by
          refine countP_lt (fun j _ hj => ?_) i (List.mem_range.2 hil) (by simp [hunF]) (by rw [hset]; simp)
          rw [hset] at hj
          split at hj
          · simp at hj
          · exact hj
        omega
      obtain ⟨k, ⟨ρ, M, N, hM, hlow, hfl, hrep, hstp, hdef, hpend, hdist⟩, hnorm⟩ := hst
      have hnext : ∀ (k' : Nat) (a' : Act) (w' : World), St (listed.setIfInBounds i true) k' a' w' → wpAny P .any (opsOf l) Q fuel (listed.setIfInBounds i true) a' w' := by
        intro k' a' w' hS
        obtain ⟨k2, h1, h2⟩ := absorb _ _ k' a' w' hJ' (Nat.le_refl _) hS
        exact ih _ _ _ hJ' hcnt' ⟨k2, h1, h2⟩
      obtain ⟨x, M1, M2, hx, hM1, hM2, hop⟩ := hfacts i oi pi hli
      have hafter : ∀ j o p, l[j]? = some (o, p) → ancB b j i = true → listed.getD j false = false := by
        intro j o p hj hanc
        cases hl : listed.getD j false with
        | false => rfl
        | true => have := hclosed hJ j o p hj hl i hil hanc; rw [hunF] at this; cases this
      have hbefore : ∀ j, j < l.length → ancB b i j = true → listed.getD j false = true := by
        intro j hj hanc
        obtain ⟨e, he, hbd, hor⟩ := hAnc hli j hj hanc
        have hel := hpre e he hbd
        rcases hor with rfl | hor
        · exact hel
        · have hlt := hEdge hli e he hbd
          obtain ⟨oe, pe, hoe⟩ := hat e.on (by omega)
          exact hclosed hJ e.on oe pe hoe hel j hj hor
      have hnames : ∀ t, t ∈ namesOf (opsOf l) oi → ∀ j o p, l[j]? = some (o, p) → o.dst = some t → j ≠ i → listed.getD j false = decide (j < i) := by
        intro t ht j o p hj hd hji
        have hjl := (List.getElem?_eq_some_iff.1 hj).1
        rcases Nat.lt_or_gt_of_ne hji with hlt | hgt
        · have hn := pairs_get hN hj hli hlt
          have : hasDst o (namesOf (opsOf l) oi) = true := by simp [hasDst, hd, ht]
          simp only [this, Bool.true_or, Bool.not_true, Bool.false_or] at hn
          rw [hbefore j hjl hn]; simp [hlt]
        · have hn := pairs_get hN hli hj hgt
          have : hasDst o (namesOf (opsOf l) oi) = true := by simp [hasDst, hd, ht]
          simp only [this, Bool.or_true, Bool.not_true, Bool.false_or] at hn
          rw [hafter j o p hj hn]; simp; omega
      have hk_chain : pi.chain = true → pi.isFl = false → k = chBefore l i := by
        intro hp hnf
        have h1 : k ≤ chBefore l i := by
          rcases Nat.lt_or_ge (chBefore l i) k with hlt | hge
          · have := hlow i oi pi hli hp hlt; rw [hunF] at this; cases this
          · exact hge
        rcases Nat.lt_or_ge k (chBefore l i) with hlt | hge
        · obtain ⟨c, o, p, h2, h3, h4, h5⟩ := ch_at l i k hlt
          have hc := pairs_get hC h3 hli h2
          simp only [h4, hp, hnf, Bool.and_self, Bool.not_false, Bool.and_true, Bool.true_or, Bool.not_true, Bool.false_or] at hc
          have h6 := hbefore c (by omega) hc
          rw [hnorm c o p h3 h4 h5] at h6; cases h6
        · omega
      -- no float that has come early is named by i
      have hnoearly : ∀ t, t ∈ namesOf (opsOf l) oi → ∀ j o p, l[j]? = some (o, p) → o.dst = some t → j ≠ i → earlyB l listed k j = false := by
        intro t ht j o p hj hd hji
        cases he : earlyB l listed k j with
        | false => rfl
        | true =>
          exfalso
          obtain ⟨q1, q2, q3⟩ := (hearly hj).1 he
          have hpf := hfl j o p hj q2 q1 q3
          subst hpf
          obtain ⟨r1, r2⟩ := (hFl hj).2 i oi pi hli (fun e => hji e.symm) t hd ht
          have hkc := hk_chain r1 r2
          have := hnames t ht j o _ hj hd hji
          rw [q1] at this
          have hlt : j < i := by simpa using this.symm
          have := chBefore_lt hj rfl hlt
          omega
      have hlook : ∀ t, t ∈ oi.looksAt (opsOf l) → Tm.get (tmSel l xs (fun _ => true) tm i) t = Tm.get (tmSel l (xsJ l xs listed k) (fun j => listed.getD j false) tm l.length) t := by
        intro t ht
        rw [← tmSel_lt l.length (by omega)]
        refine get_agree2 _ (fun j o p hj hl hd => ?_) (fun j hj => ⟨hxsome j hj, hxJsome _ _ j hj⟩)
        by_cases hji : j = i
        · subst hji; exact ⟨by simp [hunF], fun h => by simp at h⟩
        · refine ⟨(hnames t (List.mem_append_right _ ht) j o p hl hd hji).symm, fun _ => ?_⟩
          obtain ⟨xj, hxj⟩ := Option.isSome_iff_exists.1 (hxsome j hj)
          rw [xsJ_get hj, hnoearly t (List.mem_append_right _ ht) j o p hl hd hji, hxj]
          rfl
      have hch1 : chBefore l (i + 1) = chBefore l i + (if pi.chain = true then 1 else 0) := by
        simp only [chBefore, hli]; split <;> simp
      -- the same state, the operation (no float) done
      have hfin : pi.isFl = false → ∀ (ρ' : Env) (k' : Nat) (M' : AMem) (v : Value) (w' : World), Ms[k']? = some M' → (k' = if pi.chain = true then k + 1 else k) → VR ρ' x v → RepM ρ' M' w' → Step M ρ w M' ρ' w' →
          wpAny P .any (opsOf l) Q fuel (listed.setIfInBounds i true) (a.put oi.dst v) w' := by
        intro hnf ρ' k' M' v w' hM' hk' hv hm hs
        have hkk : k ≤ k' := by rw [hk']; split <;> omega
        have hearly_i : earlyB l (listed.setIfInBounds i true) k' i = false := by
          cases he : earlyB l (listed.setIfInBounds i true) k' i with
          | false => rfl
          | true =>
            exfalso
            obtain ⟨_, q2, q3⟩ := (hearly hli).1 he
            have := hk_chain q2 hnf
            rw [hk', if_pos q2] at q3
            omega
        refine hnext k' _ _ ⟨ρ', M', N, hM', ?_, ?_, ?_, hstp.trans hs, ?_, ?_, ?_⟩
        · intro c o p hc hp hlt
          rw [hset]
          split
          · rfl
          · rename_i hci
            split at hk'
            · rename_i hpi
              have hkc := hk_chain hpi hnf
              by_cases he : chBefore l c = k
              · exact absurd (huniq hc hli hp hpi (by omega)) hci
              · exact hlow c o p hc hp (by omega)
            · exact hlow c o p hc hp (by omega)
        · intro c o p hc hp hlc hge
          rw [hset] at hlc
          split at hlc
          · rename_i hci
            subst hci
            rw [hli] at hc; injection hc with hc; injection hc with _ hc; subst hc
            rw [if_pos hp] at hk'
            have := hk_chain hp hnf
            omega
          · exact hfl c o p hc hp hlc (by omega)
        · have hrep' : Rep ρ' nt (putO oi.dst x (tmSel l (xsJ l xs listed k) (fun j => listed.getD j false) tm l.length)) M' (a.put oi.dst v) w' :=
            (hrep.step hs hm).putO (List.all_eq_true.1 hD (oi, pi) (List.mem_of_getElem? hli)) hv
          refine ⟨hrep'.size, fun t => ?_, hm⟩
          have := hrep'.tm t
          rw [get_putO] at this
          have e : Tm.get (tmSel l (xsJ l xs (listed.setIfInBounds i true) k') (fun j => (listed.setIfInBounds i true).getD j false) tm l.length) t = if oi.dst = some t then x else Tm.get (tmSel l (xsJ l xs listed k) (fun j => listed.getD j false) tm l.length) t := by
            split
            · rename_i hd
              refine get_last hli hd (by rw [xsJ_get hil, hearly_i, hx]; rfl) (by rw [hset]; simp) _ hil fun j o p hij hj hl hdj => ?_
              rw [hset, if_neg (by omega), hnames t (by simp [namesOf, hd]) j o p hl hdj (by omega)]
              simp; omega
            · rename_i hd
              refine get_agree2 _ (fun j o p hj hl hdj => ?_) (fun j hj => ⟨hxJsome _ _ j hj, hxJsome _ _ j hj⟩)
              have hji : j ≠ i := by rintro rfl; rw [hli] at hl; injection hl with hl; injection hl with hl _; subst hl; exact hd hdj
              rw [hset, if_neg hji]
              refine ⟨rfl, fun hlj => ?_⟩
              rw [xsJ_get hj, xsJ_get hj]
              have : earlyB l (listed.setIfInBounds i true) k' j = earlyB l listed k j := by
                rw [Bool.eq_iff_iff, hearly hl, hearly hl, hset, if_neg hji]
                constructor
                · rintro ⟨q1, q2, q3⟩; exact ⟨q1, q2, by omega⟩
                · rintro ⟨q1, q2, q3⟩
                  refine ⟨q1, q2, ?_⟩
                  rw [hk']
                  split
                  · rcases Nat.lt_or_ge k (chBefore l j) with h | h
                    · omega
                    · have := hnorm j o p hl q2 (by omega)
                      rw [q1] at this; cases this
                  · exact q3
              rw [this]
          rw [e]; exact this
        · rw [← hdef]; cases oi.dst <;> rfl
        · intro c o hc hlc hge
          rw [hset] at hlc
          have hci : c ≠ i := by rintro rfl; rw [hli] at hc; injection hc with hc; injection hc with _ hc; rw [hc] at hnf; cases hnf
          rw [if_neg hci] at hlc
          obtain ⟨t, z, d, q1, q2, q3, q4, q5, q6, q7⟩ := hpend c o hc hlc (by omega)
          have hNlt : N c < w.heap.size := (Array.getElem?_eq_some_iff.1 q5).1
          refine ⟨t, z, d, q1, q2, q3, ?_, ?_, q6, ?_⟩
          · have hne : oi.dst ≠ some d := by
              intro hd
              have := hnoearly d (by simp [namesOf, hd]) c o _ hc q3 hci
              have h8 := (hearly (listed := listed) (k := k) hc).2 ⟨hlc, rfl, by omega⟩
              rw [this] at h8; cases h8
            rw [← q4]
            cases hdd : oi.dst with
            | none => rfl
            | some d' =>
              have : d' ≠ d := fun e => hne (by rw [hdd, e])
              simp [Act.put, Array.getD_eq_getD_getElem?, Array.getElem?_setIfInBounds_ne this]
          · rw [hs.frame (N c) hNlt]
            · exact q5
            · intro r bb x κ hb hk hx
              exact q7 r bb x κ hb (fun e => absurd e hk) hx
          · intro r bb x' κ hb hne hx'
            by_cases hro : bb.kind = .ro
            · have h8 := hs.ro r bb hb hro
              obtain ⟨A, k0, h9, _⟩ : ∃ A k0, ρ r bb.ver = some (A, k0) ∧ True := by
                have := hrep.mem.blk r bb h8
                unfold BlkR at this
                rw [hro] at this
                obtain ⟨A, k0, h, _⟩ := this
                exact ⟨A, k0, h, trivial⟩
              have h10 := hs.ext r (List.getElem?_eq_some_iff.1 h8).1 _ _ h9
              rw [h10] at hx'
              exact q7 r bb x' κ h8 hne (by rw [h9]; exact hx')
            · rcases hs.fresh r bb x' κ hb hro hx' with h8 | ⟨s, b0, y, l0, h8, h9, h10, h11⟩
              · omega
              · rw [← h11]; exact q7 s b0 y l0 h8 (fun e => absurd e h9) h10
        · intro c1 c2 o1 o2 q1 q2 q3 q4 q5 q6 q7
          have n1 : c1 ≠ i := by rintro rfl; rw [hli] at q1; injection q1 with q1; injection q1 with _ q1; rw [q1] at hnf; cases hnf
          have n2 : c2 ≠ i := by rintro rfl; rw [hli] at q2; injection q2 with q2; injection q2 with _ q2; rw [q2] at hnf; cases hnf
          rw [hset, if_neg n1] at q3
          rw [hset, if_neg n2] at q4
          exact hdist c1 c2 o1 o2 q1 q2 q3 q4 (by omega) (by omega) q7
      unfold wpOp
      rw [hoi]
      simp only
      have hwant := wantedA_congr (ops := opsOf l) (o := oi) hlook
      cases hisf : pi.isFl with
      | true =>
        have hpf := hisFl hisf
        subst hpf
        obtain ⟨t, z, M1', g1, g2, g3, g4, g5, g6⟩ := hflf hli
        have hw : Region.wanted oi (yielded (opsOf l) a.tmps) = true := by simp [Region.wanted, g6]
        rw [if_pos hw]
        refine .inl ?_
        have hexec : (execOp a.eval oi).run P w = .ok (.value (.pointer (some ⟨w.heap.size, 0, none⟩))) (w.alloc (.cells z.cells t)) := by
          rw [ex_alloc g1]
          simp only [Instr.alloc, Sem.run_bind, run_zeroValue P g2, Result.andThen_ok, newVar, newRow, run_newObj, Sem.run_pure]
          rfl
        unfold Oper.wp
        rw [hexec, Oper.upon_value]
        obtain ⟨d, hd⟩ := (hFl hli).1
        have hdlt : d < nt := by
          have := List.all_eq_true.1 hD (oi, .fl) (List.mem_of_getElem? hli)
          simpa [dstOk, hd] using this
        obtain ⟨hm', hs'⟩ := hrep.mem.garbage (.cells z.cells t)
        have hki : k ≤ chBefore l i := by
          rcases Nat.lt_or_ge (chBefore l i) k with hlt | hge
          · have := hlow i oi _ hli rfl hlt; rw [hunF] at this; cases this
          · exact hge
        have hNlt : ∀ c o, l[c]? = some (o, Plan.fl) → listed.getD c false = true → k ≤ chBefore l c → N c < w.heap.size := by
          intro c o hc hlc hge
          obtain ⟨_, _, _, _, _, _, _, q5, _⟩ := hpend c o hc hlc hge
          exact (Array.getElem?_eq_some_iff.1 q5).1
        refine hnext k _ _ ⟨ρ, M, fun c => if c = i then w.heap.size else N c, hM, ?_, ?_, ?_, hstp.trans hs', ?_, ?_, ?_⟩
        · intro c o p hc hp hlt
          rw [hset]
          split
          · rfl
          · exact hlow c o p hc hp hlt
        · intro c o p hc hp hlc hge
          rw [hset] at hlc
          split at hlc
          · rename_i hci; subst hci; rw [hli] at hc; injection hc with hc; injection hc with _ hc; exact hc.symm
          · exact hfl c o p hc hp hlc hge
        · have hrep' : Rep ρ nt (putO oi.dst (.one .junk) (tmSel l (xsJ l xs listed k) (fun j => listed.getD j false) tm l.length)) M (a.put oi.dst (.pointer (some ⟨w.heap.size, 0, none⟩))) (w.alloc (.cells z.cells t)) :=
            (hrep.step hs' hm').putO (List.all_eq_true.1 hD (oi, .fl) (List.mem_of_getElem? hli)) trivial
          refine ⟨hrep'.size, fun t' => ?_, hm'⟩
          have := hrep'.tm t'
          rw [get_putO] at this
          have e : Tm.get (tmSel l (xsJ l xs (listed.setIfInBounds i true) k) (fun j => (listed.setIfInBounds i true).getD j false) tm l.length) t' = if oi.dst = some t' then .one .junk else Tm.get (tmSel l (xsJ l xs listed k) (fun j => listed.getD j false) tm l.length) t' := by
            split
            · rename_i hd'
              refine get_last hli hd' (by rw [xsJ_get hil, if_pos]; rw [hearly hli, hset]; simp [Plan.chain, hki]) (by rw [hset]; simp) _ hil fun j o p hij hj hl hdj => ?_
              rw [hset, if_neg (by omega), hnames t' (by simp [namesOf, hd']) j o p hl hdj (by omega)]
              simp; omega
            · rename_i hd'
              refine get_agree2 _ (fun j o p hj hl hdj => ?_) (fun j hj => ⟨hxJsome _ _ j hj, hxJsome _ _ j hj⟩)
              have hji : j ≠ i := by rintro rfl; rw [hli] at hl; injection hl with hl; injection hl with hl _; subst hl; exact hd' hdj
              rw [hset, if_neg hji]
              refine ⟨rfl, fun hlj => ?_⟩
              rw [xsJ_get hj, xsJ_get hj]
              have : earlyB l (listed.setIfInBounds i true) k j = earlyB l listed k j := by
                rw [Bool.eq_iff_iff, hearly hl, hearly hl, hset, if_neg hji]
              rw [this]
          rw [e]; exact this
        · rw [← hdef]; cases oi.dst <;> rfl
        · intro c o hc hlc hge
          rw [hset] at hlc
          by_cases hci : c = i
          · subst hci
            rw [hli] at hc; injection hc with hc; injection hc with hc _; subst hc
            refine ⟨t, z, d, g1, g2, hd, ?_, ?_, ?_, ?_⟩
            · simp only [if_true]
              rw [hd]
              have hda : d < a.tmps.size := Nat.lt_of_lt_of_le hdlt hrep.size
              simp [Act.put, Array.getD_eq_getD_getElem?, hda]
            · simp only [if_true]; exact heap_alloc_new w _
            · simp only [if_true]; exact hstp.size
            · simp only [if_true]
              intro r bb x' κ hb hne hx'
              have := (hrep.mem.blk r bb hb).lt hx' hne
              omega
          · rw [if_neg hci] at hlc
            obtain ⟨t', z', d', q1, q2, q3, q4, q5, q6, q7⟩ := hpend c o hc hlc hge
            refine ⟨t', z', d', q1, q2, q3, ?_, ?_, ?_, ?_⟩
            · simp only [if_neg hci]
              have hne : d ≠ d' := by
                rintro rfl
                obtain ⟨_, r2⟩ := (hFl hli).2 c o _ hc hci d hd (by simp [namesOf, q3])
                cases r2
              rw [hd, ← q4]
              simp [Act.put, Array.getD_eq_getD_getElem?, Array.getElem?_setIfInBounds_ne hne]
            · simp only [if_neg hci]
              rw [halloc_old w _ _ (Array.getElem?_eq_some_iff.1 q5).1]; exact q5
            · simp only [if_neg hci]; exact q6
            · simp only [if_neg hci]; exact q7
        · intro c1 c2 o1 o2 q1 q2 q3 q4 q5 q6 q7
          rw [hset] at q3 q4
          by_cases n1 : c1 = i
          · have n2 : c2 ≠ i := fun e => q7 (n1.trans e.symm)
            rw [if_neg n2] at q4
            have := hNlt c2 o2 q2 q4 q6
            simp only [if_pos n1, if_neg n2]; omega
          · by_cases n2 : c2 = i
            · rw [if_neg n1] at q3
              have := hNlt c1 o1 q1 q3 q5
              simp only [if_neg n1, if_pos n2]; omega
            · rw [if_neg n1] at q3; rw [if_neg n2] at q4
              simp only [if_neg n1, if_neg n2]
              exact hdist c1 c2 o1 o2 q1 q2 q3 q4 q5 q6 q7
      | false =>
      rcases hop with ⟨hw, hx0, hMM⟩ | ⟨hw, hop⟩
      · rw [hwant] at hw
        rw [if_neg (by rw [wantedA_sound hrep hw]; simp)]
        subst hx0; subst hMM
        by_cases hp : pi.chain = true
        · have hkc := hk_chain hp hisf
          rw [hkc] at hM
          rw [hM1] at hM; injection hM with hM; subst hM
          refine hfin hisf ρ (k + 1) M2 undef w ?_ (by rw [if_pos hp]) rfl hrep.mem (Step.refl _ _ _)
          rw [hch1, if_pos hp, ← hkc] at hM2; exact hM2
        · exact hfin hisf ρ k M undef w hM (by rw [if_neg hp]) rfl hrep.mem (Step.refl _ _ _)
      · rw [hwant] at hw
        rw [if_pos (wantedA_sound hrep hw)]
        refine .inl ?_
        have hoc := opd_congr (ops := opsOf l) (o := oi) hlook
        have hdoes : ∃ k' M', Ms[k']? = some M' ∧ (k' = if pi.chain = true then k + 1 else k) ∧ Does P oi (opd (tmSel l xs (fun _ => true) tm i)) M x M' := by
          cases hp : pi with
          | val =>
            rw [hp] at hop
            exact ⟨k, M, hM, rfl, does_of_evVal (evVal_nil hop.2 M)⟩
          | rd lo =>
            rw [hp] at hop
            obtain ⟨_, t, y, ML, hopl, hlo, hload⟩ := hop
            have hLi := List.all_eq_true.1 hL i (List.mem_range.2 hil)
            rw [hli, hp] at hLi
            simp only at hLi
            have hLc : ∀ c o p, l[c]? = some (o, p) → (p.chain = true → chBefore l c < lo → ancB b i c = true) ∧ (p.isWr = true → c < i → chBefore l c < lo) ∧ (∀ q, p = .up q → q ≤ chBefore l c ∧ (chBefore l c < lo ∨ (i < c ∧ ancB b c i = true) ∨ lo ≤ q)) := by
              intro c o p hc
              have := List.all_eq_true.1 hLi c (List.mem_range.2 (List.getElem?_eq_some_iff.1 hc).1)
              rw [hc] at this
              rw [Bool.and_eq_true] at this
              obtain ⟨this, hup⟩ := this
              simp only [Bool.and_eq_true, Bool.or_eq_true, Bool.not_eq_true', Bool.and_eq_false_iff, decide_eq_false_iff_not, decide_eq_true_eq] at this
              refine ⟨fun h1 h2 => ?_, fun h1 h2 => ?_, fun q hq => ?_⟩
              · rcases this.1 with (h | h) | h
                · rw [h1] at h; cases h
                · exact absurd h2 h
                · exact h
              · rcases this.2 with (h | h) | h
                · rw [h1] at h; cases h
                · exact absurd h2 h
                · exact h
              · subst hq
                simp only [Bool.and_eq_true, Bool.or_eq_true, decide_eq_true_eq] at hup
                refine ⟨hup.1, ?_⟩
                rcases hup.2 with (h | h) | h
                · exact .inl h
                · exact .inr (.inl h)
                · exact .inr (.inr h)
            have hext : ∀ q, lo ≤ q → q ≤ k → ∀ Mq, Ms[q]? = some Mq → ∀ (r : Nat) (b : Blk), ML[r]? = some b → Mq[r]? = some b := by
              intro q
              induction q using Nat.strongRecOn with
              | _ q ihq =>
                intro hlq hqk Mq hMq r bb hbb
                by_cases hql : q = lo
                · subst hql; rw [hlo] at hMq; injection hMq with e; rw [← e]; exact hbb
                · obtain ⟨q', rfl⟩ : ∃ q', q = q' + 1 := ⟨q - 1, by omega⟩
                  have hlt : q' < chBefore l l.length := by have := hMl hMq; omega
                  obtain ⟨c, o, p, h1, h2, h3, h4⟩ := ch_at l _ q' hlt
                  obtain ⟨x', Mc, Mc', g1, g2, g3, g4⟩ := hfacts c o p h2
                  have hc1 : chBefore l (c + 1) = chBefore l c + 1 := by simp only [chBefore, h2, h3, if_true]
                  rw [hc1, h4, hMq] at g3
                  injection g3 with g3; subst g3
                  rw [h4] at g2
                  have hold := ihq q' (by omega) (by omega) (by omega) Mc g2 r bb hbb
                  have hlc : listed.getD c false = true := hlow c o p h2 h3 (by omega)
                  have hnw : p.isWr = false := by
                    cases hw' : p.isWr with
                    | false => rfl
                    | true =>
                      exfalso
                      have hci : c ≠ i := by rintro rfl; rw [hli] at h2; injection h2 with h2; injection h2 with _ h2; rw [← h2, hp] at hw'; cases hw'
                      rcases Nat.lt_or_gt_of_ne hci with hlt' | hgt'
                      · have := (hLc c o p h2).2.1 hw' hlt'; omega
                      · have hc := pairs_get hC hli h2 hgt'
                        simp only [hp, Plan.isRd, hw', Bool.and_self, Bool.or_true, Bool.not_true, Bool.false_or] at hc
                        have := hafter c o p h2 hc
                        rw [hlc] at this; cases this
                  rcases g4 with ⟨_, _, e⟩ | ⟨_, g4⟩
                  · subst e; exact hold
                  · cases p with
                    | val => cases h3
                    | rd lo => cases h3
                    | rw lo => cases h3
                    | wr => cases hnw
                    | ext => obtain ⟨⟨ex', e⟩, _⟩ := g4; rw [e]; exact lk_old hold ex'
                    | fl => obtain ⟨_, _, _, _, _, _, e⟩ := g4; rw [e]; exact lk_old hold _
                    | up q0 =>
                      obtain ⟨⟨A, hA, hAr⟩, _⟩ := g4
                      obtain ⟨hq0, hor⟩ := (hLc c o _ h2).2.2 q0 rfl
                      have hloq : lo ≤ q0 := by
                        rcases hor with h | h | h
                        · omega
                        · have := hafter c o _ h2 h.2
                          rw [hlc] at this; cases this
                        · exact h
                      have hAb := ihq q0 (by omega) hloq (by omega) A hA r bb hbb
                      rw [hAr r (List.getElem?_eq_some_iff.1 hAb).1]
                      exact hold
            have hlok : lo ≤ k := by
              rcases Nat.lt_or_ge k lo with hlt | hge
              · exfalso
                have hlt' : k < chBefore l l.length := by have := hMl hlo; omega
                obtain ⟨c, o, p, h1, h2, h3, h4⟩ := ch_at l _ k hlt'
                have h6 := hbefore c h1 ((hLc c o p h2).1 h3 (by omega))
                rw [hnorm c o p h2 h3 h4] at h6; cases h6
              · exact hge
            refine ⟨k, _, hM, rfl, does_of_evVal ?_⟩
            rw [hopl]
            simp only [evVal, loadA_mono hload (hext k hlok (Nat.le_refl _) M hM), Option.map_some]
          | rw lo =>
            rw [hp] at hop
            obtain ⟨_, t, y, ML, r, ver, off, hopl, hlo, hy, hload, hin⟩ := hop
            have hRi := List.all_eq_true.1 hR i (List.mem_range.2 hil)
            rw [hli, hp] at hRi
            simp only at hRi
            have hLc : ∀ c o p, l[c]? = some (o, p) → p.chain = true → chBefore l c < lo → ancB b i c = true := by
              intro c o p hc h1 h2
              have := List.all_eq_true.1 hRi c (List.mem_range.2 (List.getElem?_eq_some_iff.1 hc).1)
              rw [hc] at this
              simp only [Bool.or_eq_true, Bool.not_eq_true', Bool.and_eq_false_iff, decide_eq_false_iff_not] at this
              rcases this with (h | h) | h
              · rw [h1] at h; cases h
              · exact absurd h2 h
              · exact h
            have hlok : lo ≤ k := by
              rcases Nat.lt_or_ge k lo with hlt | hge
              · exfalso
                have hlt' : k < chBefore l l.length := by have := hMl hlo; omega
                obtain ⟨c, o, p, h1, h2, h3, h4⟩ := ch_at l _ k hlt'
                have h6 := hbefore c h1 (hLc c o p h2 h3 (by omega))
                rw [hnorm c o p h2 h3 h4] at h6; cases h6
              · exact hge
            obtain ⟨bb, hbb⟩ := hWt _ hin
            have e1 : ML[r]? = some bb := hbb ML (List.mem_of_getElem? (i := 0) (by rw [List.getElem?_drop]; simpa using hlo))
            have e2 : M[r]? = some bb := hbb M (List.mem_of_getElem? (i := k - lo) (by rw [List.getElem?_drop]; simpa [Nat.add_sub_cancel' hlok] using hM))
            refine ⟨k, _, hM, rfl, does_of_evVal ?_⟩
            rw [hopl]
            have e3 : loadA P t (opd (tmSel l xs (fun _ => true) tm i) y) M = some x := by
              rw [hy]; rw [← hload]; simp only [loadA, e1, e2]
            simp only [evVal, e3, Option.map_some]
          | fl => rw [hp] at hisf; cases hisf
          | ext =>
            have hkc := hk_chain (by rw [hp]; rfl) hisf
            rw [hp] at hop hch1
            rw [hkc] at hM
            rw [hM1] at hM; injection hM with hM; subst hM
            refine ⟨k + 1, M2, ?_, rfl, hop.2⟩
            simp only [Plan.chain, if_true] at hch1
            rw [hch1, ← hkc] at hM2; exact hM2
          | up q =>
            have hkc := hk_chain (by rw [hp]; rfl) hisf
            rw [hp] at hop hch1
            rw [hkc] at hM
            rw [hM1] at hM; injection hM with hM; subst hM
            refine ⟨k + 1, M2, ?_, rfl, hop.2⟩
            simp only [Plan.chain, if_true] at hch1
            rw [hch1, ← hkc] at hM2; exact hM2
          | wr =>
            have hkc := hk_chain (by rw [hp]; rfl) hisf
            rw [hp] at hop hch1
            rw [hkc] at hM
            rw [hM1] at hM; injection hM with hM; subst hM
            refine ⟨k + 1, M2, ?_, rfl, hop⟩
            simp only [Plan.chain, if_true] at hch1
            rw [hch1, ← hkc] at hM2; exact hM2
        obtain ⟨k', M', hMk', hk', hdo⟩ := hdoes
        exact does_sound (hdo.congr hoc) hrep fun ρ' v w' hv hm hs => hfin hisf ρ' k' M' v w' hMk' hk' hv hm hs
  refine key _ _ _ _ ⟨by simp [hsz], fun j o p hj hl => ?_⟩ ?_ ⟨0, ⟨ρ0, mem, fun _ => 0, ?_, ?_, ?_, ?_, Step.refl _ _ _, rfl, ?_, ?_⟩, ?_⟩
  · rw [getD_replicate_false] at hl; cases hl
  · rw [hsz]
    exact Nat.le_trans List.countP_le_length (by simp)
  · obtain ⟨t, ht⟩ := run_prefix hrun
    rw [ht]; rfl
  · intro c o p hc hp hlt; omega
  · intro c o p hc hp hl; rw [getD_replicate_false] at hl; cases hl
  · refine ⟨hr0.size, fun t => ?_, hr0.mem⟩
    have : ∀ (ys : List AV) n, tmSel l ys (fun j => (Array.replicate (opsOf l).size false).getD j false) tm n = tm := by
      intro ys n
      induction n with
      | zero => rfl
      | succ n ih =>
        simp only [tmSel, getD_replicate_false]
        simp only [getD_replicate_false] at ih
        split
        · simpa using ih
        · exact ih
    rw [this]; exact hr0.tm t
  · intro c o hc hl; rw [getD_replicate_false] at hl; cases hl
  · intro c c' o o' _ _ hl; rw [getD_replicate_false] at hl; cases hl
  · intro c o p _ _ _; exact getD_replicate_false _ _

theorem Rep.drew {ρ : Env} {nt : Nat} {tm : Tm} {mem : AMem} {a : Act} {w : World} (h : Rep ρ nt tm mem a w) : Rep ρ nt tm mem a { w with drawn := w.drawn + 1 } :=
  ⟨h.size, h.tm, ⟨fun r b hb => (h.mem.blk r b hb).heap (Nat.le_refl _) fun _ _ _ _ _ => rfl, h.mem.dom, h.mem.domv, h.mem.sep⟩⟩

theorem AW.draw {nt id : Nat} {l : List Oper} {tm : Tm} {mem : AMem} {Q : Exit → Tm → AMem → Prop} (pl : List Plan) (hf : P.follows .mixedOrders = true) (hl : pl.length = l.length) (hp : planOk nt (l.zip pl) = true)
    (h : AOpsD P l.toArray (l.zip pl) tm mem [mem] [] (Q .normal)) : AW P nt (.region id l.toArray true) tm mem Q := by
  intro ρ a w hr
  have he : l.toArray = opsOf (l.zip pl) := by
    unfold opsOf
    rw [show (fun x : Oper × Plan => x.1) = Prod.fst from rfl, List.map_fst_zip (by omega)]
  rw [he] at h ⊢
  refine wp_region_any hf ?_
  refine aopsD_sound hp h hr.drew fun ρ' tm' mem' a' w' r s d k => ⟨ρ', tm', mem', r, ⟨s.os, s.tape, s.output, s.size, s.len, s.ext, s.kind, s.ro, s.frame, s.fresh⟩, d, k⟩

end
end Go.Eng
