/- Walks and facts of this seat's program over abstract states, printed by programs of mine; no conditions but those that each theorem names. -/
import Derived.Test.YtmjbbnfmhgcfaaaM2
import Derived.ScopeJumps
import Derived.Scope
import Derived.JoinedCond
import Derived.LaidMore
import Derived.Stop.Joined
/-
  ENGINE, PART R: a scope in which the run jumps back to one label.
-/
set_option linter.unusedVariables false
set_option linter.unusedSimpArgs false
namespace Go.Eng
open Go

theorem least {p : Nat → Prop} : ∀ n, p n → ∃ k, p k ∧ ∀ m, m < k → ¬ p m := by
  intro n
  induction n using Nat.strongRecOn with
  | _ n ih =>
    intro hn
    by_cases h : ∃ m, m < n ∧ p m
    · obtain ⟨m, hm, hp⟩ := h; exact ih m hm hp
    · exact ⟨n, hn, fun m hm hp => h ⟨m, hm, hp⟩⟩

def Jmp (l : Nat) (J : Tm → AMem → Prop) (Q : Exit → Tm → AMem → Prop) : Exit → Tm → AMem → Prop
  | .goto l', tm, mem => l' = l ∧ J tm mem
  | e, tm, mem => Q e tm mem

section
variable {P : Program} {nt : Nat} {tm : Tm} {mem : AMem} {Q : Exit → Tm → AMem → Prop}
theorem AW.label {l : Nat} (h : Q .normal tm mem) : AW P nt (.label l) tm mem Q := fun ρ a w hr => by
  have h1 := AW.skip (P := P) (nt := nt) (tm := tm) (mem := mem) (Q := Q) h ρ a w hr
  intro b k cs
  obtain ⟨e, a', w', q, r⟩ := h1 b k cs
  exact ⟨.normal, a, w, ⟨ρ, tm, mem, hr, Step.refl _ _ _, rfl, h⟩, .one step_label⟩
theorem AW.goto {l : Nat} (h : Q (.goto l) tm mem) : AW P nt (.goto l) tm mem Q := fun ρ a w hr b k cs =>
  ⟨.goto l, a, w, ⟨ρ, tm, mem, hr, Step.refl _ _ _, rfl, h⟩, fun k' hk => .one (step_goto hk)⟩

theorem AW.scope {ι : Type} {c rest : Code} (l : Nat) (hf : findLabel c l = some rest) (T : ι → Tm) (M : ι → AMem) (μ : ι → Nat)
    (pass : ∀ i, AW P nt rest (T i) (M i) (Jmp l (fun tm' mem' => ∃ j, μ j < μ i ∧ Weak nt tm' mem' (T j) (M j) ∧ (M i).length ≤ (M j).length) Q))
    (first : AW P nt c tm mem (Jmp l (fun tm' mem' => ∃ j, Weak nt tm' mem' (T j) (M j) ∧ mem.length ≤ (M j).length) Q)) : AW P nt (.scope c) tm mem Q := by
  intro ρ a w hr
  let JJ : Nat → Act → World → Prop := fun n a' w' => ∃ i ρ', μ i = n ∧ Rep ρ' nt (T i) (M i) a' w' ∧ Step mem ρ w (M i) ρ' w' ∧ a'.defers = a.defers ∧ mem.length ≤ (M i).length
  let J : Act → World → Prop := fun a' w' => ∃ n, JJ n a' w'
  have hle : ∀ a' w', ∃ n, J a' w' → JJ n a' w' ∧ ∀ m, m < n → ¬ JJ m a' w' := fun a' w' => by
    by_cases h : J a' w'
    · obtain ⟨n, hn⟩ := h
      obtain ⟨k, h1, h2⟩ := least (p := fun n => JJ n a' w') n hn
      exact ⟨k, fun _ => ⟨h1, h2⟩⟩
    · exact ⟨0, fun h' => absurd h' h⟩
  let μ' : Act → World → Nat := fun a' w' => Classical.choose (hle a' w')
  have hμ : ∀ a' w', J a' w' → JJ (μ' a' w') a' w' ∧ ∀ m, JJ m a' w' → μ' a' w' ≤ m := fun a' w' h => by
    have := Classical.choose_spec (hle a' w') h
    exact ⟨this.1, fun m hm => Nat.le_of_not_lt fun hlt => this.2 m hlt hm⟩
  refine wp_scope_jumps l J μ' hf (wp_mono (first ρ a w hr) ?_) ?_
  · rintro e a' w' ⟨ρ', tm', mem', hr', hs, hd, hq⟩
    cases e with
    | goto l' =>
      obtain ⟨rfl, j, hw, hl⟩ := hq
      obtain ⟨ρ2, hr2, hs2⟩ := hw ρ' a' w' hr'
      exact ⟨rfl, μ j, j, ρ2, rfl, hr2, hs2 _ _ _ hl hs, hd, hl⟩
    | _ => exact ⟨ρ', tm', mem', hr', hs, hd, hq⟩
  · intro a1 w1 hJ
    obtain ⟨⟨i, ρ1, hi, hr1, hs1, hd1, hl1⟩, hmin⟩ := hμ a1 w1 hJ
    refine wp_mono (pass i ρ1 a1 w1 hr1) ?_
    rintro e a' w' ⟨ρ', tm', mem', hr', hs, hd, hq⟩
    cases e with
    | goto l' =>
      obtain ⟨rfl, j, hlt, hw, hl⟩ := hq
      obtain ⟨ρ2, hr2, hs2⟩ := hw ρ' a' w' hr'
      have hl' : mem.length ≤ (M j).length := Nat.le_trans hl1 hl
      have hJJ : JJ (μ j) a' w' := ⟨j, ρ2, rfl, hr2, hs2 _ _ _ hl' (hs1.trans hs), hd.trans hd1, hl'⟩
      have hJ' : J a' w' := ⟨_, hJJ⟩
      refine ⟨rfl, hJ', ?_⟩
      have := (hμ a' w' hJ').2 _ hJJ
      omega
    | _ => exact ⟨ρ', tm', mem', hr', hs1.trans hs, hd.trans hd1, hq⟩

/-- The fall into the label: what holds of every pass holds of this one. -/
theorem AW.fall {ι : Type} {c : Code} {l : Nat} {T : ι → Tm} {M : ι → AMem} {μ : ι → Nat} {L : Nat} (i : ι) (hw : Weak nt tm mem (T i) (M i)) (hlen : mem.length ≤ (M i).length) (hL : L ≤ (M i).length)
    (h : AW P nt c (T i) (M i) (Jmp l (fun tm' mem' => ∃ j, μ j < μ i ∧ Weak nt tm' mem' (T j) (M j) ∧ (M i).length ≤ (M j).length) Q)) :
    AW P nt c tm mem (Jmp l (fun tm' mem' => ∃ j, Weak nt tm' mem' (T j) (M j) ∧ L ≤ (M j).length) Q) := by
  intro ρ a w hr
  obtain ⟨ρ', hr', hs⟩ := hw ρ a w hr
  refine wp_mono (h ρ' a w hr') ?_
  rintro e a' w' ⟨ρ2, tm2, mem2, hr2, hs2, hd, hq⟩
  refine ⟨ρ2, tm2, mem2, hr2, (hs mem ρ w hlen (Step.refl _ _ _)).trans hs2, hd, ?_⟩
  cases e with
  | goto l' => obtain ⟨rfl, j, _, hw2, hl2⟩ := hq; exact ⟨rfl, j, hw2, Nat.le_trans hL hl2⟩
  | _ => exact hq

theorem AW.scopeI {ι : Type} {c R : Code} (l : Nat) (hf : findLabel c l = some (.seq .skip R)) (I : ι → Prop) (T : ι → Tm) (M : ι → AMem) (μ : ι → Nat)
    (pass : ∀ i, I i → AW P nt R (T i) (M i) (Jmp l (fun tm' mem' => ∃ j, I j ∧ μ j < μ i ∧ Weak nt tm' mem' (T j) (M j) ∧ (M i).length ≤ (M j).length) Q))
    (first : (∀ i, I i → AW P nt R (T i) (M i) (Jmp l (fun tm' mem' => ∃ j, I j ∧ μ j < μ i ∧ Weak nt tm' mem' (T j) (M j) ∧ (M i).length ≤ (M j).length) Q)) →
      ∀ J : Tm → AMem → Prop, (∀ j tm' mem', I j → Weak nt tm' mem' (T j) (M j) → mem.length ≤ (M j).length → J tm' mem') → AW P nt c tm mem (Jmp l J Q)) : AW P nt (.scope c) tm mem Q := by
  refine AW.scope (ι := { i // I i }) l hf (fun i => T i.1) (fun i => M i.1) (fun i => μ i.1) (fun i => ?_) ?_
  · refine AW.seq (AW.skip ?_)
    refine (pass i.1 i.2).mono fun e tm' mem' hq => ?_
    cases e with
    | goto l' => obtain ⟨rfl, j, hj, h1, h2, h3⟩ := hq; exact ⟨rfl, ⟨j, hj⟩, h1, h2, h3⟩
    | _ => exact hq
  · refine (first pass (fun tm' mem' => ∃ j, I j ∧ Weak nt tm' mem' (T j) (M j) ∧ mem.length ≤ (M j).length) fun j _ _ h1 h2 h3 => ⟨j, h1, h2, h3⟩).mono fun e tm' mem' hq => ?_
    cases e with
    | goto l' => obtain ⟨rfl, j, hj, h2, h3⟩ := hq; exact ⟨rfl, ⟨j, hj⟩, h2, h3⟩
    | _ => exact hq
theorem AW.fallI {ι : Type} {R : Code} {l : Nat} {I : ι → Prop} {T : ι → Tm} {M : ι → AMem} {μ : ι → Nat} {L : Nat} {J : Tm → AMem → Prop}
    (pass : ∀ i, I i → AW P nt R (T i) (M i) (Jmp l (fun tm' mem' => ∃ j, I j ∧ μ j < μ i ∧ Weak nt tm' mem' (T j) (M j) ∧ (M i).length ≤ (M j).length) Q))
    (hJ : ∀ j tm' mem', I j → Weak nt tm' mem' (T j) (M j) → L ≤ (M j).length → J tm' mem')
    (i : ι) (hi : I i) (hlen : mem.length ≤ (M i).length) (hL : L ≤ (M i).length) (hw : Weak nt tm mem (T i) (M i)) :
    AW P nt (.seq (.label l) R) tm mem (Jmp l J Q) := by
  refine AW.seq (AW.label ?_)
  intro ρ a w hr
  obtain ⟨ρ', hr', hs⟩ := hw ρ a w hr
  refine wp_mono (pass i hi ρ' a w hr') ?_
  rintro e a' w' ⟨ρ2, tm2, mem2, hr2, hs2, hd, hq⟩
  refine ⟨ρ2, tm2, mem2, hr2, (hs mem ρ w hlen (Step.refl _ _ _)).trans hs2, hd, ?_⟩
  cases e with
  | goto l' => obtain ⟨rfl, j, hj, _, hw2, hl2⟩ := hq; exact ⟨rfl, hJ j _ _ hj hw2 (Nat.le_trans hL hl2)⟩
  | _ => exact hq
theorem Jmp_n {l : Nat} {J : Tm → AMem → Prop} {tm' : Tm} {m' : AMem} (h : Q .normal tm' m') : Jmp l J Q .normal tm' m' := h
theorem Jmp_r {l : Nat} {J : Tm → AMem → Prop} {tm' : Tm} {m' : AMem} (h : Q .ret tm' m') : Jmp l J Q .ret tm' m' := h
theorem Jmp_e {l id : Nat} {J : Tm → AMem → Prop} {tm' : Tm} {m' : AMem} (h : Q (.exit id) tm' m') : Jmp l J Q (.exit id) tm' m' := h
theorem Jmp_g {l : Nat} {J : Tm → AMem → Prop} {tm' : Tm} {m' : AMem} (h : J tm' m') : Jmp l J Q (.goto l) tm' m' := ⟨rfl, h⟩
theorem Thn_g {K : Tm → AMem → Prop} {tm' : Tm} {m' : AMem} {l : Nat} (h : Q (.goto l) tm' m') : Thn K Q (.goto l) tm' m' := h
theorem InB_g {id : Nat} {tm' : Tm} {m' : AMem} {l : Nat} (h : Q (.goto l) tm' m') : InB id Q (.goto l) tm' m' := h
end
end Go.Eng

/-
  ENGINE, PART S: the machine of part O, with scopes in which the run jumps back to a label.
-/
set_option linter.unusedVariables false
set_option linter.unusedSimpArgs false
namespace Go.Eng
open Go

def rJump (run : Code → Tm → AMem → Option (Exit × Tm × AMem)) (l : Nat) (rest : Code) : Nat → Tm → AMem → Option (Exit × Tm × AMem)
  | 0, _, _ => none
  | n + 1, tm, mem => match run rest tm mem with
    | some (.goto l', tm', mem') => if l' = l ∧ mem.length ≤ mem'.length then rJump run l rest n tm' mem' else none
    | r => r

section
variable (P : Program) (call : Caller) (pls : Nat → List Plan) (nt L : Nat) (jump : Code → Tm → AMem → Option (Exit × Tm × AMem))
def rCodeS : Code → Tm → AMem → Option (Exit × Tm × AMem)
  | .skip, tm, mem => some (.normal, tm, mem)
  | .ret, tm, mem => some (.ret, tm, mem)
  | .exit id, tm, mem => some (.exit id, tm, mem)
  | .seq x y, tm, mem => match rCodeS x tm mem with
    | some (.normal, tm', mem') => rCodeS y tm' mem'
    | r => r
  | .block id c, tm, mem => match rCodeS c tm mem with
    | some (.exit id', tm', mem') => if id' = id then some (.normal, tm', mem') else some (.exit id', tm', mem')
    | r => r
  | .cond c x y, tm, mem => match opd tm c with
    | .one (.bool true) => rCodeS x tm mem
    | .one (.bool false) => rCodeS y tm mem
    | _ => none
  | .loop c, tm, mem => rLoop (rCodeS c) L tm mem
  | .region id ops false, tm, mem => if ops.toList.all (dstOk nt) = true then (rOps P call ops ops.toList tm mem).map fun x => (.normal, x.1, x.2) else none
  | .region id ops true, tm, mem => if (pls id).length = ops.toList.length ∧ planOk nt (ops.toList.zip (pls id)) = true then
      (rOpsD P call ops (ops.toList.zip (pls id)) tm mem [mem] []).map fun x => (.normal, x.1, x.2) else none
  | .label l, tm, mem => some (.normal, tm, mem)
  | .goto l, tm, mem => some (.goto l, tm, mem)
  | .scope c, tm, mem => match rCodeS c tm mem with
    | some (.goto l, tm', mem') => match findLabel c l with
      | some rest => if mem.length ≤ mem'.length then rJump jump l rest L tm' mem' else none
      | none => none
    | r => r
  | _, _, _ => none
end

def rFuncS (P : Program) (pls : Nat → Nat → List Plan) (L : Nat) : Nat → Caller
  | 0, _, _, _ => none
  | n + 1, g, args, mem => match P.funcs[g]? with
    | some fn => match fn.body with
      | some c => if (fn.name == "runtime.NumGoroutine") = false then
          match rCodeS P (rFuncS P pls L n) (pls g) fn.ntmps L (rCodeS P (rFuncS P pls L n) (pls g) fn.ntmps L (fun _ _ _ => none)) c (enterTm 0 args) mem with
          | some (.normal, tm, m) => (resA P fn.results.toList tm m).map fun x => (x, m)
          | some (.ret, tm, m) => (resA P fn.results.toList tm m).map fun x => (x, m)
          | _ => none
        else none
      | none => none
    | none => none


/-- So many passes more from the label. -/
def Rn (P : Program) (nt l : Nat) (rest : Code) (Q : Exit → Tm → AMem → Prop) : Nat → Tm → AMem → Prop
  | 0, _, _ => False
  | n + 1, tm, mem => AW P nt rest tm mem (Jmp l (fun tm' mem' => mem.length ≤ mem'.length ∧ Rn P nt l rest Q n tm' mem') Q)
def JumpOk (P : Program) (nt : Nat) (jump : Code → Tm → AMem → Option (Exit × Tm × AMem)) : Prop :=
  ∀ c tm mem ex tm' mem' (Q : Exit → Tm → AMem → Prop), jump c tm mem = some (ex, tm', mem') → Q ex tm' mem' → AW P nt c tm mem Q
section
variable {P : Program} {call : Caller} {pls : Nat → List Plan} {nt L : Nat}
theorem rJump_ok {jump : Code → Tm → AMem → Option (Exit × Tm × AMem)} (hj : JumpOk P nt jump) {l : Nat} {rest : Code} : ∀ (n : Nat) (tm : Tm) (mem : AMem) (ex : Exit) (tm' : Tm) (mem' : AMem) (Q : Exit → Tm → AMem → Prop),
    rJump jump l rest n tm mem = some (ex, tm', mem') → Q ex tm' mem' → Rn P nt l rest Q n tm mem
  | 0, _, _, _, _, _, _, h, _ => by cases h
  | n + 1, tm, mem, ex, tm', mem', Q, h, hq => by
    simp only [rJump] at h
    rw [Rn]
    split at h
    · rename_i l' tm1 mem1 h1
      split at h
      · rename_i hle
        obtain ⟨rfl, hle⟩ := hle
        exact hj _ _ _ _ _ _ _ h1 ⟨rfl, hle, rJump_ok hj n _ _ _ _ _ Q h hq⟩
      · cases h
    · rename_i r hne
      refine hj _ _ _ _ _ _ _ h ?_
      cases ex with
      | goto l' => exact absurd h (hne _ _ _)
      | _ => exact hq
theorem Weak.rfl0 {tm : Tm} {mem : AMem} : Weak nt tm mem tm mem := fun ρ a w hr => ⟨ρ, hr, fun _ _ _ _ h => h⟩
theorem AW.scopeNo {c : Code} {tm : Tm} {mem : AMem} {Q : Exit → Tm → AMem → Prop} (h : AW P nt c tm mem (fun e tm' mem' => (∀ l, e ≠ .goto l) ∧ Q e tm' mem')) : AW P nt (.scope c) tm mem Q := by
  intro ρ a w hr
  refine wp_scope_straight (wp_mono (h ρ a w hr) ?_)
  rintro e a' w' ⟨ρ', tm', mem', hr', hs, hd, hne, hq⟩
  cases e with
  | goto l' => exact absurd rfl (hne l')
  | _ => exact ⟨ρ', tm', mem', hr', hs, hd, hq⟩
theorem AW.scopeRun {c rest : Code} {tm : Tm} {mem : AMem} {Q : Exit → Tm → AMem → Prop} (l : Nat) (hf : findLabel c l = some rest) (n : Nat)
    (h : AW P nt c tm mem (Jmp l (fun tm' mem' => mem.length ≤ mem'.length ∧ Rn P nt l rest Q n tm' mem') Q)) : AW P nt (.scope c) tm mem Q := by
  refine AW.scope (ι := { x : Nat × Tm × AMem // Rn P nt l rest Q x.1 x.2.1 x.2.2 }) l hf (fun x => x.1.2.1) (fun x => x.1.2.2) (fun x => x.1.1) (fun x => ?_) ?_
  · obtain ⟨⟨n, tm1, mem1⟩, hx⟩ := x
    cases n with
    | zero => exact hx.elim
    | succ n =>
      refine AW.mono hx fun e tm' mem' hq => ?_
      cases e with
      | goto l' => obtain ⟨rfl, hle, hr⟩ := hq; exact ⟨rfl, ⟨(n, tm', mem'), hr⟩, Nat.lt_succ_self n, Weak.rfl0, hle⟩
      | _ => exact hq
  · refine h.mono fun e tm' mem' hq => ?_
    cases e with
    | goto l' => obtain ⟨rfl, hle, hr⟩ := hq; exact ⟨rfl, ⟨(n, tm', mem'), hr⟩, Weak.rfl0, hle⟩
    | _ => exact hq
theorem rCodeS_ok (hc : CallOk P call) {jump : Code → Tm → AMem → Option (Exit × Tm × AMem)} (hj : JumpOk P nt jump) (hfol : P.follows .mixedOrders = true) : ∀ (c : Code) (tm : Tm) (mem : AMem) (ex : Exit) (tm' : Tm) (mem' : AMem) (Q : Exit → Tm → AMem → Prop),
    rCodeS P call pls nt L jump c tm mem = some (ex, tm', mem') → Q ex tm' mem' → AW P nt c tm mem Q := by
  intro c
  induction c with
  | skip => intro tm mem ex tm' mem' Q h hq; simp only [rCodeS, Option.some.injEq, Prod.mk.injEq] at h; obtain ⟨rfl, rfl, rfl⟩ := h; exact AW.skip hq
  | ret => intro tm mem ex tm' mem' Q h hq; simp only [rCodeS, Option.some.injEq, Prod.mk.injEq] at h; obtain ⟨rfl, rfl, rfl⟩ := h; exact AW.ret hq
  | exit id => intro tm mem ex tm' mem' Q h hq; simp only [rCodeS, Option.some.injEq, Prod.mk.injEq] at h; obtain ⟨rfl, rfl, rfl⟩ := h; exact AW.exit hq
  | seq x y ihx ihy =>
    intro tm mem ex tm' mem' Q h hq
    simp only [rCodeS] at h
    split at h
    · rename_i tm1 mem1 h1
      exact AW.seq (ihx _ _ _ _ _ _ h1 (ihy _ _ _ _ _ _ h hq))
    · rename_i r hne
      have hex : ex ≠ .normal := by rintro rfl; exact hne _ _ h
      refine AW.seq (ihx _ _ _ _ _ _ h ?_)
      cases ex with
      | normal => exact absurd rfl hex
      | _ => exact hq
  | block id c ih =>
    intro tm mem ex tm' mem' Q h hq
    simp only [rCodeS] at h
    refine AW.block ?_
    split at h
    · rename_i id' tm1 mem1 h1
      refine ih _ _ _ _ _ _ h1 ?_
      split at h
      · rename_i he
        simp only [Option.some.injEq, Prod.mk.injEq] at h; obtain ⟨rfl, rfl, rfl⟩ := h
        subst he; exact InB_here hq
      · rename_i he
        simp only [Option.some.injEq, Prod.mk.injEq] at h; obtain ⟨rfl, rfl, rfl⟩ := h
        exact InB_far he hq
    · rename_i r hne
      refine ih _ _ _ _ _ _ h ?_
      cases ex with
      | exit id' => exact absurd h (hne _ _ _)
      | _ => exact hq
  | cond c x y ihx ihy =>
    intro tm mem ex tm' mem' Q h hq
    simp only [rCodeS] at h
    split at h
    · rename_i hb; exact AW.cond_t hb (ihx _ _ _ _ _ _ h hq)
    · rename_i hb; exact AW.cond_f hb (ihy _ _ _ _ _ _ h hq)
    · cases h
  | loop c ih =>
    intro tm mem ex tm' mem' Q h hq
    simp only [rCodeS] at h
    exact AW.rounds L (rLoop_ok ih _ _ _ _ _ _ _ h hq)
  | region id ops b =>
    intro tm mem ex tm' mem' Q h hq
    cases b with
    | false =>
      simp only [rCodeS] at h
      split at h
      · rename_i hd
        simp only [Option.map_eq_some_iff, Prod.mk.injEq] at h
        obtain ⟨⟨tm1, mem1⟩, h1, rfl, rfl, rfl⟩ := h
        have h2 : AOps P ops ops.toList tm mem (Q .normal) := rOps_ok hc _ _ _ _ _ _ h1 hq
        have h3 := AW.region (P := P) (nt := nt) (id := id) (l := ops.toList) (tm := tm) (mem := mem) (Q := Q) hd (by simpa using h2)
        simpa using h3
      · cases h
    | true =>
      simp only [rCodeS] at h
      split at h
      · rename_i hd
        simp only [Option.map_eq_some_iff, Prod.mk.injEq] at h
        obtain ⟨⟨tm1, mem1⟩, h1, rfl, rfl, rfl⟩ := h
        have h2 := rOpsD_ok hc _ _ _ _ _ _ _ (Q .normal) h1 hq
        have h3 := AW.draw (P := P) (nt := nt) (id := id) (l := ops.toList) (tm := tm) (mem := mem) (Q := Q) (pls id) hfol hd.1 hd.2 (by simpa using h2)
        simpa using h3
      · cases h
  | label l => intro tm mem ex tm' mem' Q h hq; simp only [rCodeS, Option.some.injEq, Prod.mk.injEq] at h; obtain ⟨rfl, rfl, rfl⟩ := h; exact AW.label hq
  | goto l => intro tm mem ex tm' mem' Q h hq; simp only [rCodeS, Option.some.injEq, Prod.mk.injEq] at h; obtain ⟨rfl, rfl, rfl⟩ := h; exact AW.goto hq
  | scope c ih =>
    intro tm mem ex tm' mem' Q h hq
    simp only [rCodeS] at h
    split at h
    · rename_i l tm1 mem1 h1
      split at h
      · rename_i rest hf
        split at h
        · rename_i hle
          have h2 := rJump_ok hj L tm1 mem1 ex tm' mem' Q h hq
          exact AW.scopeRun l hf L (ih _ _ _ _ _ (Jmp l (fun tm' mem' => mem.length ≤ mem'.length ∧ Rn P nt l rest Q L tm' mem') Q) h1 ⟨rfl, hle, h2⟩)
        · cases h
      · cases h
    · rename_i r hne
      exact AW.scopeNo (ih _ _ _ _ _ _ h ⟨fun l e => by subst e; exact hne _ _ _ h, hq⟩)
  | _ => intro tm mem ex tm' mem' Q h hq; simp only [rCodeS] at h; cases h
end
theorem rFuncS_ok {P : Program} {pls : Nat → Nat → List Plan} {L : Nat} (hfol : P.follows .mixedOrders = true) : ∀ n : Nat, CallOk P (rFuncS P pls L n)
  | 0 => fun g args mem ret mem' h => by cases h
  | n + 1 => fun g args mem ret mem' h => by
    simp only [rFuncS] at h
    split at h
    · rename_i fn hfn
      split at h
      · rename_i c hb
        split at h
        · rename_i hname
          have ok := rFuncS_ok (P := P) (pls := pls) (L := L) hfol n
          split at h
          · rename_i tm m hr
            simp only [Option.map_eq_some_iff, Prod.mk.injEq] at h
            obtain ⟨x, hx, rfl, rfl⟩ := h
            exact Ctr.of_body hfn hb hname fun hw => rCodeS_ok ok (rCodeS_ok ok (fun c tm mem ex tm' mem' Q h _ => by cases h) hfol) hfol _ _ _ _ _ _ _ hr ⟨.inl rfl, x, hx, Hands.all⟩
          · rename_i tm m hr
            simp only [Option.map_eq_some_iff, Prod.mk.injEq] at h
            obtain ⟨x, hx, rfl, rfl⟩ := h
            exact Ctr.of_body hfn hb hname fun hw => rCodeS_ok ok (rCodeS_ok ok (fun c tm mem ex tm' mem' Q h _ => by cases h) hfol) hfol _ _ _ _ _ _ _ hr ⟨.inr rfl, x, hx, Hands.all⟩
          · cases h
        · cases h
      · cases h
    · cases h

/-- A call whose arguments are known, reckoned by the machine. -/
theorem Ctr.runS {P : Program} {f : FuncId} {args : List AV} {ret : AV} (pls : Nat → Nat → List Plan) (L n : Nat) (hfol : P.follows .mixedOrders = true) (h : ((rFuncS P pls L n f args []).map (·.1)) = some ret) (ha : ∀ a, a ∈ args → a.below 0 = true) (hr : ret.below 0 = true) (m : AMem) : Ctr P f args m ret m := by
  rw [Option.map_eq_some_iff] at h
  obtain ⟨⟨x, mem'⟩, h1, rfl⟩ := h
  exact Ctr.closed (rFuncS_ok hfol n _ _ _ _ _ h1) ha hr m
end Go.Eng

/-
  ENGINE, PART T: a row of our own is cut short (what lies behind is spare).
-/
set_option linter.unusedVariables false
namespace Go.Eng
open Go
variable {P : Program} {nt : Nat} {tm : Tm} {mem : AMem}
theorem All2.take_left {α β : Type} {R : α → β → Prop} : ∀ {xa : List α} {bs : List β} (k : Nat), All2 R xa bs → ∃ xs sp, bs = xs ++ sp ∧ All2 R (xa.take k) xs
  | xa, bs, 0, _ => ⟨[], bs, rfl, by rw [List.take_zero]; trivial⟩
  | [], [], _ + 1, _ => ⟨[], [], rfl, trivial⟩
  | a :: xa, b :: bs, k + 1, h => by
    obtain ⟨xs, sp, e, h2⟩ := All2.take_left k h.2
    exact ⟨b :: xs, sp, by rw [e]; rfl, h.1, h2⟩
theorem BlkR.cut {ρ : Env} {w : World} {r : Nat} {b : Blk} (hb : BlkR ρ w r b) (hk : b.kind = .grow) (k : Nat) : BlkR ρ w r { b with cells := b.cells.take k } := by
  obtain ⟨kind, ty, ver, esz, cells⟩ := b
  simp only at hk
  subst hk
  rcases hb with ⟨h1, h2⟩ | ⟨n, c, cap, xs, sp, h1, h2, h3, h4, h5, h6⟩
  · simp only at h1; subst h1; exact .inl ⟨by simp, h2⟩
  · obtain ⟨ys, tp, e, h7⟩ := All2.take_left k h6
    exact .inr ⟨n, c, cap, ys, tp ++ sp, h1, h2, h3, h4, by rw [h5, e, List.append_assoc], h7⟩
theorem AW.cut {c : Code} {Q : Exit → Tm → AMem → Prop} (r k : Nat) {b : Blk} (hb : mem[r]? = some b) (hk : b.kind = .grow)
    (h : AW P nt c tm (mem.set r { b with cells := b.cells.take k }) Q) : AW P nt c tm mem Q := by
  intro ρ a w hr
  have hrl := (List.getElem?_eq_some_iff.1 hb).1
  have hgt : ∀ {s : Nat} {d : Blk}, (mem.set r { b with cells := b.cells.take k })[s]? = some d → (s ≠ r ∧ mem[s]? = some d) ∨ (s = r ∧ d = { b with cells := b.cells.take k }) := by
    intro s d hd
    by_cases hs : s = r
    · subst hs; rw [List.getElem?_set_self hrl] at hd; injection hd with hd; exact .inr ⟨rfl, hd.symm⟩
    · rw [List.getElem?_set_ne (fun e => hs e.symm)] at hd; exact .inl ⟨hs, hd⟩
  have hold : ∀ {s : Nat} {d : Blk}, (mem.set r { b with cells := b.cells.take k })[s]? = some d → ∃ d0, mem[s]? = some d0 ∧ d0.kind = d.kind ∧ d0.ver = d.ver ∧ (d.kind = .ro → d0 = d) := by
    intro s d hd
    rcases hgt hd with ⟨_, h1⟩ | ⟨e1, e2⟩
    · exact ⟨d, h1, rfl, rfl, fun _ => rfl⟩
    · subst e1; subst e2; exact ⟨b, hb, rfl, rfl, fun h => by rw [hk] at h; cases h⟩
  have hm : RepM ρ (mem.set r { b with cells := b.cells.take k }) w := by
    refine ⟨fun s d hd => ?_, fun s v hs => hr.mem.dom s v (by simpa using hs), fun s d v hd hv => ?_, fun s t d e hd he hne hkd hke x y i j hx hy => ?_⟩
    · rcases hgt hd with ⟨_, h1⟩ | ⟨e1, e2⟩
      · exact hr.mem.blk s d h1
      · subst e1; subst e2; exact (hr.mem.blk s b hb).cut hk k
    · obtain ⟨d0, h1, _, h3, _⟩ := hold hd
      exact hr.mem.domv s d0 v h1 (by omega)
    · obtain ⟨d0, h1, h2, h3, _⟩ := hold hd
      obtain ⟨e0, g1, g2, g3, g4⟩ := hold he
      refine hr.mem.sep s t d0 e0 h1 g1 hne (by rw [h2]; exact hkd) (fun hro => ?_) x y i j (by rw [h3]; exact hx) (by rw [g3]; exact hy)
      rw [g4 (by rw [← g2]; exact hro)]; exact hke (by rw [← g2]; exact hro)
  refine wp_mono (h ρ a w ⟨hr.size, hr.tm, hm⟩) ?_
  rintro e a' w' ⟨ρ2, tm2, mem2, hr2, hs2, hd, hq⟩
  refine ⟨ρ2, tm2, mem2, hr2, ?_, hd, hq⟩
  refine ⟨hs2.os, hs2.tape, hs2.output, hs2.size, by have := hs2.len; simpa using this, fun s hs v x hx => hs2.ext s (by simpa using hs) v x hx, fun s d d' h1 h2 => ?_, fun s d' h1 h2 => ?_, fun n hn hne => ?_, fun s d' x i h1 h2 h3 => ?_⟩
  · by_cases hs : s = r
    · subst hs
      rw [hb] at h1; injection h1 with h1; subst h1
      exact hs2.kind s { b with cells := b.cells.take k } d' (List.getElem?_set_self hrl) h2
    · exact hs2.kind s d d' (by rw [List.getElem?_set_ne (fun e => hs e.symm)]; exact h1) h2
  · have := hs2.ro s d' h1 h2
    rcases hgt this with ⟨_, h3⟩ | ⟨e1, e2⟩
    · exact h3
    · subst e2; rw [hk] at h2; cases h2
  · refine hs2.frame n hn fun s d x i h1 h2 h3 => ?_
    obtain ⟨d0, g1, g2, g3, _⟩ := hold h1
    exact hne s d0 x i g1 (by rw [g2]; exact h2) (by rw [g3]; exact h3)
  · rcases hs2.fresh s d' x i h1 h2 h3 with h | ⟨t, d, y, l, h1, h2, h3, h4⟩
    · exact .inl h
    · obtain ⟨d0, g1, g2, g3, _⟩ := hold h1
      exact .inr ⟨t, d0, y, l, g1, by rw [g2]; exact h2, by rw [g3]; exact h3, h4⟩
end Go.Eng

/-
  ENGINE, PART U: a row held against nil, of which nothing more is known; a nil row taken as one of our own, of any version.
-/
set_option linter.unusedVariables false
namespace Go.Eng
open Go
variable {P : Program}
theorem aops_app {nt : Nat} {ops : Array Oper} {last : List Oper} : ∀ (l : List Oper) (tm : Tm) (mem : AMem) (K : Tm → AMem → Prop), l.all (dstOk nt) = true → AOps P ops l tm mem K →
    ∀ (ρ : Env) (a : Act) (w : World) (Q : Exit → Act → World → Prop), Rep ρ nt tm mem a w →
      (∀ ρ' tm' mem' a' w', Rep ρ' nt tm' mem' a' w' → Step mem ρ w mem' ρ' w' → a'.defers = a.defers → K tm' mem' → wpList P ops Q last a' w') → wpList P ops Q (l ++ last) a w
  | [], tm, mem, K, _, h, ρ, a, w, Q, hr, hQ => hQ ρ tm mem a w hr (Step.refl _ _ _) rfl h
  | o :: rest, tm, mem, K, hd, h, ρ, a, w, Q, hr, hQ => by
    simp only [List.all_cons, Bool.and_eq_true] at hd
    have hdef : ∀ v, (a.put o.dst v).defers = a.defers := fun v => by cases o.dst <;> rfl
    simp only [AOps] at h
    rw [List.cons_append]
    unfold wpList
    split at h
    · rename_i hw
      rw [if_pos (wantedA_sound hr hw)]
      refine .inl ?_
      unfold Oper.wp
      split at h
      · rename_i t x y hop
        split at h
        · rename_i mem' hs
          obtain ⟨w', hrun, hm, hst⟩ := run_storeA P hr.mem hs (hr.opd x) (hr.opd y)
          have he : (execOp a.eval o).run P w = .ok .skip w' := by rw [ex_store hop]; simp only [Sem.run_bind, hrun, Result.andThen_ok, Sem.run_pure]
          rw [he, Oper.upon_skip]
          refine aops_app rest _ mem' K hd.2 h ρ _ w' Q ((hr.step hst hm).putO hd.1 (x := .one .und) rfl) fun ρ' tm' mem'' a' w'' r s d k => hQ ρ' tm' mem'' a' w'' r (hst.trans s) (d.trans (hdef _)) k
        · exact h.elim
      · rename_i f args ts hop
        split at h
        · rename_i g cs hf
          obtain ⟨ret, mem', hg, h⟩ := h
          have hfv := hr.opd f
          rw [hf] at hfv
          obtain ⟨vs, hfe, hcaps⟩ := hfv
          have hargs : All2 (VR ρ) (args.toList.map (opd tm)) (args.toList.map a.eval) := All2_map (fun y => hr.opd y) args.toList
          have hc := hg ρ w _ hr.mem (hargs.append (capsAV_sound hcaps))
          have hea : (args.toList.map a.eval ++ vs.toList).toArray = args.map a.eval ++ vs := by
            apply Array.ext'; simp
          rw [hea] at hc
          have he0 : (execOp a.eval o).run P w = (callFunc g (args.map a.eval ++ vs)).run P w := by
            rw [ex_call hop]
            simp only [resolve, hfe, Deferred.ofValue, Sem.run_bind, Sem.run_pure, Result.andThen_ok, invoke, Array.empty_append]
          rcases hc with ⟨⟨fn, hfn, hname, hbody⟩, hc⟩ | ⟨v, w', hrun, v', ρ', he', hv, hm, hst⟩
          · have he : (execOp a.eval o).run P w = .ok (.enter g (args.map a.eval ++ vs)) w := by
              rw [he0]
              simp only [Sem.run_bind, Sem.run_pure, Result.andThen_ok, callFunc, run_program, hfn, hname, hbody, Bool.false_eq_true, if_false]
            rw [he, Oper.upon_enter]
            refine hc.mono fun e w' ⟨v, ρ', he', hv, hm, hst⟩ => ?_
            subst he'
            exact aops_app rest _ mem' K hd.2 h ρ' _ w' Q ((hr.step hst hm).putO hd.1 hv) fun ρ'' tm' mem'' a' w'' r s d k => hQ ρ'' tm' mem'' a' w'' r (hst.trans s) (d.trans (hdef _)) k
          · injection he' with he'; subst he'
            rw [he0, hrun, Oper.upon_value]
            exact aops_app rest _ mem' K hd.2 h ρ' _ w' Q ((hr.step hst hm).putO hd.1 hv) fun ρ'' tm' mem'' a' w'' r s d k => hQ ρ'' tm' mem'' a' w'' r (hst.trans s) (d.trans (hdef _)) k
        · exact h.elim
      · split at h
        · rename_i x mem' hv
          obtain ⟨v, w', ρ', hrun, hvr, hm, hst⟩ := evVal_sound hr hv
          rw [hrun, Oper.upon_value]
          exact aops_app rest _ mem' K hd.2 h ρ' _ w' Q ((hr.step hst hm).putO hd.1 hvr) fun ρ'' tm' mem'' a' w'' r s d k => hQ ρ'' tm' mem'' a' w'' r (hst.trans s) (d.trans (hdef _)) k
        · exact h.elim
    · rename_i hw
      rw [if_neg (by rw [wantedA_sound hr hw]; simp)]
      exact aops_app rest _ mem K hd.2 h ρ _ w Q (hr.putO hd.1 (x := .one .und) rfl) fun ρ'' tm' mem'' a' w'' r s d k => hQ ρ'' tm' mem'' a' w'' r s (d.trans (hdef _)) k
    · exact h.elim


def nilEqA (P : Program) (f : Operand → AV) : Op → Bool
  | .binOp .eql t x y _ => match P.underlying t, f x, f y with
    | some (.slice _), .one (.sl _ _ _ _), .one .nils => true
    | _, _, _ => false
  | _ => false
theorem run_eqNil {ρ : Env} {t e : TypeId} {r v off len : Nat} {u x : Value} (ht : P.underlying t = some (.slice e)) (hx : VR ρ (.one (.sl r v off len)) u) (hy : VR ρ (.one .nils) x) (o1 o2 : Operand) (w : World) :
    ∃ b, ((do eqGuard .eql t o1 o2 u x; binOp .eql t u x) : Sem Value).run P w = .ok (.bool b) w := by
  have e2 : x = _ := hy
  subst e2
  obtain ⟨A, c0, B, c, _, rfl, _, _, _⟩ := hx
  refine ⟨B.isNone, ?_⟩
  cases B with
  | none => exact (eq_pair P (fun op h => by rw [eqGuard_at_slice]; rfl) rfl rfl (fun d => by simp [Op.equalIn, run_underlying ht])).1
  | some a => exact (eq_pair P (fun op h => by rw [eqGuard_at_slice]; rfl) rfl rfl (fun d => by simp [Op.equalIn, run_underlying ht])).1
variable {nt : Nat} {tm : Tm} {mem : AMem}
theorem AW.eqNil {id : Nat} {o1 o2 : Oper} {Q : Exit → Tm → AMem → Prop} (hd : [o1, o2].all (dstOk nt) = true)
    (h : AOps P [o1, o2].toArray [o1] tm mem fun tm' mem' => wantedA [o1, o2].toArray o2 tm' = some true ∧ nilEqA P (opd tm') o2.op = true ∧ ∀ b, Q .normal (putO o2.dst (.one (.bool b)) tm') mem') :
    AW P nt (.region id [o1, o2].toArray false) tm mem Q := by
  intro ρ a w hr
  refine wp_region_lit ?_
  simp only [List.all_cons, List.all_nil, Bool.and_true, Bool.and_eq_true] at hd
  refine aops_app (last := [o2]) [o1] tm mem _ (by simp [hd.1]) h ρ a w _ hr fun ρ' tm' mem' a' w' r s d k => ?_
  obtain ⟨hw, hn, hq⟩ := k
  unfold wpList
  rw [if_pos (wantedA_sound r hw)]
  refine .inl ?_
  unfold nilEqA at hn
  split at hn
  · rename_i t x y yt hop
    split at hn
    · rename_i e rr vv oo ll ht hx hy
      have h1 := r.opd x
      have h2 := r.opd y
      rw [hx] at h1
      rw [hy] at h2
      obtain ⟨b, hb⟩ := run_eqNil ht h1 h2 x y w'
      have he : (execOp a'.eval o2).run P w' = .ok (.value (.bool b)) w' := by
        rw [ex_binOp hop]
        simp only [Sem.run_bind] at hb ⊢
        rw [hb]; rfl
      unfold Oper.wp
      rw [he, Oper.upon_value]
      unfold wpList
      exact ⟨ρ', _, mem', r.putO hd.2 (x := .one (.bool b)) rfl, s, by cases o2.dst <;> exact d, hq b⟩
    · cases hn
  · cases hn
theorem nil_rowV {ver : Nat} {ρ : Env} {L : Nat} {v : Value} (h : VC ρ .nils v) : VC (ρ.set L ver (none, 0)) (.sl L ver 0 0) v := by
  have e : v = .slice none 0 0 := h
  subst e
  exact ⟨none, 0, none, 0, Env.set_same _ _ _ _, rfl, Nat.le_refl _, fun h => by omega, fun _ => ⟨rfl, rfl⟩⟩

theorem Rep.nilRowV (ver : Nat) {ρ : Env} {a : Act} {w : World} (hr : Rep ρ nt tm mem a w) (ty esz : Nat) (mem1 : AMem) (hlen : mem1.length = mem.length) (hk : ∀ (r : Nat) (b1 : Blk), mem1[r]? = some b1 → ∃ b, mem[r]? = some b ∧ b1.kind = b.kind ∧ b1.ver = b.ver ∧ (b.kind = .ro → b1 = b))
    (hb : ∀ (r : Nat) (b1 : Blk), mem1[r]? = some b1 → BlkR (ρ.set mem.length ver (none, 0)) w r b1) (tm1 : Tm) (ht : ∀ i, VR (ρ.set mem.length ver (none, 0)) (Tm.get tm1 i) (a.tmps.getD i undef)) :
    Rep (ρ.set mem.length ver (none, 0)) nt tm1 (mem1 ++ [⟨.grow, ty, ver, esz, []⟩]) a w ∧ ∀ m0 ρ0 w0, Step m0 ρ0 w0 mem ρ w → Step m0 ρ0 w0 (mem1 ++ [⟨.grow, ty, ver, esz, []⟩]) (ρ.set mem.length ver (none, 0)) w := by
  have hle : ρ.le (ρ.set mem.length ver (none, 0)) := Env.le_set (hr.mem.dom _ _ (Nat.le_refl _))
  have hgt : ∀ {s : Nat} {d : Blk}, (mem1 ++ [⟨.grow, ty, ver, esz, []⟩])[s]? = some d → (s < mem.length ∧ mem1[s]? = some d) ∨ (s = mem.length ∧ d = ⟨.grow, ty, ver, esz, []⟩) := by
    intro s d hd
    rcases Nat.lt_or_ge s mem1.length with h | h
    · rw [List.getElem?_append_left h] at hd; exact .inl ⟨by omega, hd⟩
    · rw [List.getElem?_append_right h] at hd
      have hl := (List.getElem?_eq_some_iff.1 hd).1
      simp at hl
      have : s = mem.length := by omega
      subst this
      simp [hlen] at hd
      exact .inr ⟨rfl, hd.symm⟩
  have hoth : ∀ {s v : Nat}, s < mem.length → ρ.set mem.length ver (none, 0) s v = ρ s v := fun {s v} h => Env.set_other ρ _ (by omega)
  refine ⟨⟨hr.size, ht, ⟨?_, ?_, ?_, ?_⟩⟩, ?_⟩
  · intro s d hd
    rcases hgt hd with ⟨_, h1⟩ | ⟨rfl, rfl⟩
    · exact hb s d h1
    · exact .inl ⟨rfl, Env.set_same _ _ _ _⟩
  · intro s v hs
    simp at hs
    rw [Env.set_other ρ _ (by omega)]
    exact hr.mem.dom s v (by omega)
  · intro s d v hd hv
    rcases hgt hd with ⟨hl, h1⟩ | ⟨rfl, rfl⟩
    · obtain ⟨b, h2, _, h3, _⟩ := hk s d h1
      rw [hoth hl]; exact hr.mem.domv s b v h2 (by omega)
    · simp only at hv
      rw [Env.set_other ρ _ (by omega)]
      exact hr.mem.dom _ _ (Nat.le_refl _)
  · intro s t d e hd he hst hkd hne x y k1 k2 hx hy
    rcases hgt hd with ⟨hl, h1⟩ | ⟨rfl, rfl⟩
    · rcases hgt he with ⟨hl', h1'⟩ | ⟨rfl, rfl⟩
      · obtain ⟨b, h2, h3, h4, h5⟩ := hk s d h1
        obtain ⟨b', h2', h3', h4', h5'⟩ := hk t e h1'
        rw [hoth hl, h4] at hx
        rw [hoth hl', h4'] at hy
        exact hr.mem.sep s t b b' h2 h2' hst (by rw [← h3]; exact hkd) (fun h => by rw [← h5' h]; exact hne (by rw [h3']; exact h)) x y k1 k2 hx hy
      · simp only [Env.set_same] at hy
        injection hy with hy; injection hy with hy _; cases hy
    · simp only [Env.set_same] at hx
      injection hx with hx; injection hx with hx _; cases hx
  · intro m0 ρ0 w0 hs
    refine ⟨hs.os, hs.tape, hs.output, hs.size, ?_, fun r hr v x hx => hle _ _ _ (hs.ext r hr v x hx), ?_, ?_, ?_, ?_⟩
    · have := hs.len; simp; omega
    · intro r b b' hb0 hb'
      have hl0 := (List.getElem?_eq_some_iff.1 hb0).1
      have := hs.len
      rcases hgt hb' with ⟨hl, h1⟩ | ⟨rfl, rfl⟩
      · obtain ⟨b2, h2, h3, _, _⟩ := hk r b' h1
        rw [h3]; exact hs.kind r b b2 hb0 h2
      · omega
    · intro r b' hb' hro
      rcases hgt hb' with ⟨hl, h1⟩ | ⟨rfl, rfl⟩
      · obtain ⟨b2, h2, h3, _, h5⟩ := hk r b' h1
        have e := h5 (by rw [← h3]; exact hro)
        subst e
        exact hs.ro r b' h2 hro
      · cases hro
    · exact hs.frame
    · intro r b' x k hb' hkd hx
      rcases hgt hb' with ⟨hl, h1⟩ | ⟨rfl, rfl⟩
      · obtain ⟨b2, h2, h3, h4, h5⟩ := hk r b' h1
        rw [hoth hl, h4] at hx
        exact hs.fresh r b2 x k h2 (by rw [← h3]; exact hkd) hx
      · simp only [Env.set_same] at hx
        injection hx with hx; injection hx with hx _; cases hx

/-- The same of a temporary. -/
theorem AW.nilTmV {c : Code} {Q : Exit → Tm → AMem → Prop} (ty esz : Nat) (ver : Nat) (d : Nat) (hd : Tm.get tm d = .one .nils)
    (h : AW P nt c ((d, .one (.sl mem.length ver 0 0)) :: tm) (mem ++ [⟨.grow, ty, ver, esz, []⟩]) Q) : AW P nt c tm mem Q := by
  intro ρ a w hr
  have hle : ρ.le (ρ.set mem.length ver (none, 0)) := Env.le_set (hr.mem.dom _ _ (Nat.le_refl _))
  obtain ⟨h1, h2⟩ := hr.nilRowV ver ty esz mem rfl (fun s d hd => ⟨d, hd, rfl, rfl, fun _ => rfl⟩) (fun s d hd => (hr.mem.blk s d hd).mono hle) ((d, .one (.sl mem.length ver 0 0)) :: tm) (fun i => by
    rw [Tm.get_put]
    by_cases hi : i = d
    · subst hi
      rw [if_pos rfl]
      have := hr.tm i
      rw [hd] at this
      exact nil_rowV this
    · rw [if_neg hi]; exact (hr.tm i).mono hle)
  refine wp_mono (h _ a w h1) ?_
  rintro e a' w' ⟨ρ2, tm2, mem2, hr2, hs2, hd, hq⟩
  exact ⟨ρ2, tm2, mem2, hr2, (h2 mem ρ w (Step.refl _ _ _)).trans hs2, hd, hq⟩

end Go.Eng

/-
  ENGINE, PART V: from a contract to a row that bears a condition of its own and lists variables with what they hold.
-/
set_option linter.unusedVariables false
namespace Go.Eng
open Go
variable {H : Type} {enc : TypeId × Value → H}
theorem returns_row_cond {a : Assume} {C : Checked} {os : Os} {f : FuncId} {fn : Func} {s : OpenSpec} {k : (H : Type) → List (DataW H) → Bool} (hk : s.cond = some k) {F : Stop.Interp} {conds : List PathCond} {apart fresh handsOn again : Bool} {laid : List (String × DataW Unit)}
    (own : ownKnob C.prog.godebug = none) (started : os.Started) (noInit : C.prog.inits.idxOf? f = none) (hfn : C.prog.funcs[f]? = some fn)
    (witness : ∃ (w : World) (tape : Tape) (i : Input), w.os = os ∧ (w.forCall tape i).Shaped C.prog ∧ i.vars = [] ∧ Input.okWide C.prog (w.forCall tape i) .any w.heap.size f i ∧
      s.preRow enc C.prog fn conds apart laid (w.forCall tape i).memory i.args ∧ a.holds C.prog (lone (Frame.enter C.prog f i.args .normal) [] (w.forCall tape i)))
    (contract : ∀ (W : World) (base : Nat) (args : Array Value) (ds gs : List (DataW H)) (before : List MemPlace),
      (∀ (j : Nat) t v, fn.params[j]? = some t → args[j]? = some v → Value.okWide C.prog W .any base t v) →
      DataW.Whole enc C.prog fn.params.toList s.vars apart W args.toList ds gs before → k H (ds ++ gs) = true →
      Calls C.prog f args W fun e W' => ∃ v, e = .returned v ∧ (s.at F).post enc C.prog fn apart fresh handsOn again W args v W') :
    ReturnsInHanded a C os f .any (s.preRow enc C.prog fn conds apart laid) ((s.at F).post enc C.prog fn apart fresh handsOn again) := by
  refine returnsInHanded_of_calls own started noInit witness ?_
  intro w tape i _ _ _ hok hpre hholds
  obtain ⟨_, _, _, fn', hfn', _, _, _, _, hval⟩ := hok
  have e : fn' = fn := Option.some.inj (hfn'.symm.trans hfn)
  subst e
  obtain ⟨ds, gs, before, hw, hc, hkk⟩ := (OpenSpec.pre_some hk conds apart _ _).1 hpre.1.1
  have hw' := DataW.Whole.of_heap (w' := w.forCall tape i) (by rfl) hw
  refine (contract (w.forCall tape i) w.heap.size i.args ds gs before hval hw' hkk).mono fun e W' ⟨v, he, hp⟩ => ?_
  subst he
  exact ChangeSpec.post_blind hp
theorem witness_row {C : Checked} {os : Os} {f : FuncId} {fn : Func} {s : OpenSpec} {k : (H : Type) → List (DataW H) → Bool} (hk : s.cond = some k) {conds : List PathCond} {apart : Bool} {laid : List (String × DataW Unit)} (modest : Bool) (w0 : World) (args : Array Value) (fuel : Nat) (hos : w0.os = os)
    (hsh : (w0.forCall (fun _ _ => 0) ⟨#[], args, []⟩).Shaped C.prog)
    (hok : Input.okWideB C.prog (w0.forCall (fun _ _ => 0) ⟨#[], args, []⟩) f ⟨#[], args, []⟩ = true)
    {x : List (DataW H) × List (DataW H) × List MemPlace} (hx : DataW.whole enc C.prog (w0.forCall (fun _ _ => 0) ⟨#[], args, []⟩).memory fn.params.toList s.vars apart args.toList fuel = some x)
    (hconds : conds.all (PathCond.test C.prog ⟨fn.params.toList, x.1, s.bare.plain.varTypes C.prog, x.2.1⟩) = true) (hkk : k H (x.1 ++ x.2.1) = true)
    (hl : laidMetH C.prog laid (w0.forCall (fun _ _ => 0) ⟨#[], args, []⟩).memory)
    (hsz : s.bare.sizedB enc C.prog fn apart (w0.forCall (fun _ _ => 0) ⟨#[], args, []⟩).memory args fuel = true := by kernel_rfl) :
    ∃ (w : World) (tape : Tape) (i : Input), w.os = os ∧ (w.forCall tape i).Shaped C.prog ∧ i.vars = [] ∧ Input.okWide C.prog (w.forCall tape i) .any w.heap.size f i ∧
      s.preRow enc C.prog fn conds apart laid (w.forCall tape i).memory i.args ∧ ({ modest := modest } : Assume).holds C.prog (lone (Frame.enter C.prog f i.args .normal) [] (w.forCall tape i)) :=
  ⟨w0, fun _ _ => 0, ⟨#[], args, []⟩, hos, hsh, (Input.okWide_of_okWideB (base := 0) hok).1, (Input.okWide_of_okWideB hok).2,
    ⟨⟨(OpenSpec.pre_some hk conds apart _ _).2 ⟨x.1, x.2.1, x.2.2, DataW.Whole_of_whole hx, hconds, hkk⟩, hl⟩, sizedMet_of_sizedB hsz⟩, by
    simp only [Assume.holds]
    exact ⟨by simp, by simp, fun _ => Modest.zero, by simp, by simp⟩⟩
end Go.Eng

/-
  ENGINE, PART W: what a row of our own holds is handed on to another one (which bears a new version then); results beside a memory that was written.
-/
set_option linter.unusedVariables false
namespace Go.Eng
open Go
variable {P : Program} {nt : Nat} {tm : Tm} {mem : AMem}
theorem RetP.dropM {m1 : AMem} {L : Nat} {rs : List ResultVar} {ret : AV} {extra : AMem} {ex : Exit} (hl : m1.length = L) (hex : ex = .normal ∨ ex = .ret) (hres : resA P rs tm (m1 ++ extra) = some ret) (hb : ret.below L = true) (hw : MWf L m1) :
    RetP P rs L ret m1 ex tm (m1 ++ extra) := by
  subst hl; exact RetP.drop hex hres hb hw
theorem RetP.dropM0 {m1 : AMem} {L : Nat} {rs : List ResultVar} {ret : AV} {ex : Exit} (hl : m1.length = L) (hex : ex = .normal ∨ ex = .ret) (hres : resA P rs tm m1 = some ret) (hb : ret.below L = true) (hw : MWf L m1) :
    RetP P rs L ret m1 ex tm m1 := by
  subst hl; exact RetP.drop0 hex hres hb hw
theorem AW.moveP {c : Code} {Q : Exit → Tm → AMem → Prop} (old new d n : Nat) {b e : Blk} (hb : mem[old]? = some b) (hbk : b.kind = .grow) (he : mem[new]? = some e) (hek : e.kind = .grow) (hne : old ≠ new) (hd : Tm.get tm d = .one (.sl new e.ver 0 n))
    (h : ∀ ρ2 a w, ρ2 old (b.ver + 1) = ρ2 new e.ver → Rep ρ2 nt ((d, .one (.sl old (b.ver + 1) 0 n)) :: tm) ((mem.set old ⟨.grow, e.ty, b.ver + 1, e.esz, e.cells⟩).set new ⟨.grow, e.ty, e.ver + 1, e.esz, []⟩) a w →
      c.wp P (fun ex a' w' => ∃ ρ' tm' mem', Rep ρ' nt tm' mem' a' w' ∧ Step ((mem.set old ⟨.grow, e.ty, b.ver + 1, e.esz, e.cells⟩).set new ⟨.grow, e.ty, e.ver + 1, e.esz, []⟩) ρ2 w mem' ρ' w' ∧ a'.defers = a.defers ∧ Q ex tm' mem') a w) : AW P nt c tm mem Q := by
  intro ρ a w hr
  have hol := (List.getElem?_eq_some_iff.1 hb).1
  have hnl := (List.getElem?_eq_some_iff.1 he).1
  obtain ⟨x0, hx0⟩ : ∃ x, ρ new e.ver = some x := by
    have h1 := hr.tm d
    rw [hd] at h1
    obtain ⟨A, c0, B, cc, h2, _⟩ := h1
    exact ⟨_, h2⟩
  have hle1 : ρ.le (ρ.set old (b.ver + 1) x0) := Env.le_set (hr.mem.domv old b _ hb (by omega))
  have hle2 : (ρ.set old (b.ver + 1) x0).le ((ρ.set old (b.ver + 1) x0).set new (e.ver + 1) (none, 0)) := Env.le_set (by
    rw [Env.set_other ρ _ (fun hc => hne hc.1.symm)]; exact hr.mem.domv new e _ he (by omega))
  have hle : ρ.le ((ρ.set old (b.ver + 1) x0).set new (e.ver + 1) (none, 0)) := fun r v x hx => hle2 r v x (hle1 r v x hx)
  generalize hρ : (ρ.set old (b.ver + 1) x0).set new (e.ver + 1) (none, 0) = ρ2 at *
  have eo : ρ2 old (b.ver + 1) = some x0 := by rw [← hρ, Env.set_other _ _ (fun hc => hne hc.1), Env.set_same]
  have en : ρ2 new (e.ver + 1) = some (none, 0) := by rw [← hρ, Env.set_same]
  have eq : ∀ r v, r ≠ old → r ≠ new → ρ2 r v = ρ r v := fun r v h1 h2 => by rw [← hρ, Env.set_other _ _ (fun hc => h2 hc.1), Env.set_other _ _ (fun hc => h1 hc.1)]
  have hgt : ∀ {s : Nat} {q : Blk}, ((mem.set old ⟨.grow, e.ty, b.ver + 1, e.esz, e.cells⟩).set new ⟨.grow, e.ty, e.ver + 1, e.esz, []⟩)[s]? = some q →
      (s ≠ old ∧ s ≠ new ∧ mem[s]? = some q) ∨ (s = old ∧ q = ⟨.grow, e.ty, b.ver + 1, e.esz, e.cells⟩) ∨ (s = new ∧ q = ⟨.grow, e.ty, e.ver + 1, e.esz, []⟩) := by
    intro s q hq
    by_cases h1 : s = new
    · subst h1; rw [List.getElem?_set_self (by simpa using hnl)] at hq; injection hq with hq; exact .inr (.inr ⟨rfl, hq.symm⟩)
    · rw [List.getElem?_set_ne (fun h => h1 h.symm)] at hq
      by_cases h2 : s = old
      · subst h2; rw [List.getElem?_set_self hol] at hq; injection hq with hq; exact .inr (.inl ⟨rfl, hq.symm⟩)
      · rw [List.getElem?_set_ne (fun h => h2 h.symm)] at hq; exact .inl ⟨h2, h1, hq⟩
  have hblk : BlkR ρ2 w old ⟨.grow, e.ty, b.ver + 1, e.esz, e.cells⟩ := by
    have h1 := hr.mem.blk new e he
    obtain ⟨kind, ty, ver, esz, cells⟩ := e
    simp only at hek; subst hek
    rcases h1 with ⟨q1, q2⟩ | ⟨q, c1, cap, xs, sp, q1, q2, q3, q4, q5, q6⟩
    · refine .inl ⟨q1, ?_⟩
      rw [eo, ← hx0]; exact q2
    · refine .inr ⟨q, c1, cap, xs, sp, ?_, q2, q3, q4, q5, q6.mono fun _ _ => VC.mono hle⟩
      rw [eo, ← hx0]; exact q1
  have hsrc : ∀ {s : Nat} {q : Blk} {x : Addr} {k : Nat}, ((mem.set old ⟨.grow, e.ty, b.ver + 1, e.esz, e.cells⟩).set new ⟨.grow, e.ty, e.ver + 1, e.esz, []⟩)[s]? = some q → ρ2 s q.ver = some (some x, k) →
      ∃ s0 q0, mem[s0]? = some q0 ∧ ρ s0 q0.ver = some (some x, k) ∧ q0.kind = q.kind ∧ (s0 = s ∧ q0 = q ∨ s = old ∧ s0 = new) ∧ s ≠ new := by
    intro s q x k hq hx
    rcases hgt hq with ⟨h1, h2, h3⟩ | ⟨rfl, rfl⟩ | ⟨rfl, rfl⟩
    · rw [eq s _ h1 h2] at hx; exact ⟨s, q, h3, hx, rfl, .inl ⟨rfl, rfl⟩, h2⟩
    · simp only at hx; rw [eo, ← hx0] at hx; exact ⟨new, e, he, hx, hek, .inr ⟨rfl, rfl⟩, hne⟩
    · simp only at hx; rw [en] at hx; injection hx with hx; injection hx with hx _; cases hx
  have hm : RepM ρ2 ((mem.set old ⟨.grow, e.ty, b.ver + 1, e.esz, e.cells⟩).set new ⟨.grow, e.ty, e.ver + 1, e.esz, []⟩) w := by
    refine ⟨fun s q hq => ?_, fun s v hs => ?_, fun s q v hq hv => ?_, fun s t q u hq hu hst hqk huk x y i j hx hy => ?_⟩
    · rcases hgt hq with ⟨_, _, h3⟩ | ⟨rfl, rfl⟩ | ⟨rfl, rfl⟩
      · exact (hr.mem.blk s q h3).mono hle
      · exact hblk
      · exact .inl ⟨rfl, en⟩
    · simp only [List.length_set] at hs
      rw [eq s v (by omega) (by omega)]; exact hr.mem.dom s v hs
    · rcases hgt hq with ⟨h1, h2, h3⟩ | ⟨rfl, rfl⟩ | ⟨rfl, rfl⟩
      · rw [eq s v h1 h2]; exact hr.mem.domv s q v h3 hv
      · simp only at hv
        rw [← hρ, Env.set_other _ _ (fun hc => hne hc.1), Env.set_other _ _ (fun hc => by omega)]
        exact hr.mem.domv _ b v hb (by omega)
      · simp only at hv
        rw [← hρ, Env.set_other _ _ (fun hc => by omega), Env.set_other _ _ (fun hc => hne hc.1.symm)]
        exact hr.mem.domv _ e v he (by omega)
    · obtain ⟨s0, q0, g1, g2, g3, g4, g5⟩ := hsrc hq hx
      obtain ⟨t0, u0, f1, f2, f3, f4, f5⟩ := hsrc hu hy
      refine hr.mem.sep s0 t0 q0 u0 g1 f1 ?_ (by rw [g3]; exact hqk) (fun hro => ?_) x y i j g2 f2
      · rcases g4 with ⟨rfl, _⟩ | ⟨rfl, rfl⟩ <;> rcases f4 with ⟨rfl, _⟩ | ⟨rfl, rfl⟩
        · exact hst
        · exact g5
        · exact fun h => f5 h.symm
        · exact absurd rfl hst
      · rcases f4 with ⟨_, rfl⟩ | ⟨_, rfl⟩
        · exact huk hro
        · rw [he] at f1; injection f1 with f1; subst f1; rw [hek] at hro; cases hro
  refine wp_mono (h ρ2 a w (by rw [eo]; exact (hle new e.ver x0 hx0).symm) ⟨hr.size, fun i => ?_, hm⟩) ?_
  · rw [Tm.get_put]
    split
    · rename_i hi
      subst hi
      have h1 := hr.tm i
      rw [hd] at h1
      obtain ⟨A, c0, B, cc, h2, h3, h4, h5, h6⟩ := h1
      exact ⟨A, c0, B, cc, by rw [eo, ← hx0]; exact h2, h3, h4, h5, h6⟩
    · exact (hr.tm i).mono hle
  · rintro ee a' w' ⟨ρ3, tm2, mem2, hr2, hs2, hdd, hq⟩
    refine ⟨ρ3, tm2, mem2, hr2, ?_, hdd, hq⟩
    refine ⟨hs2.os, hs2.tape, hs2.output, hs2.size, by have := hs2.len; simpa using this, fun s hs v x hx => hs2.ext s (by simpa using hs) v x (hle s v x hx), fun s q q' h1 h2 => ?_, fun s q' h1 h2 => ?_, fun n1 hn hn2 => ?_, fun s q' x i h1 h2 h3 => ?_⟩
    · by_cases e1 : s = new
      · subst e1
        rw [he] at h1; injection h1 with h1; subst h1
        rw [hek]; exact hs2.kind s ⟨.grow, e.ty, e.ver + 1, e.esz, []⟩ q' (List.getElem?_set_self (by simpa using hnl)) h2
      · by_cases e2 : s = old
        · subst e2
          rw [hb] at h1; injection h1 with h1; subst h1
          rw [hbk]; exact hs2.kind s ⟨.grow, e.ty, b.ver + 1, e.esz, e.cells⟩ q' (by rw [List.getElem?_set_ne (fun h => e1 h.symm)]; exact List.getElem?_set_self hol) h2
        · exact hs2.kind s q q' (by rw [List.getElem?_set_ne (fun h => e1 h.symm), List.getElem?_set_ne (fun h => e2 h.symm)]; exact h1) h2
    · have := hs2.ro s q' h1 h2
      rcases hgt this with ⟨_, _, h3⟩ | ⟨_, rfl⟩ | ⟨_, rfl⟩
      · exact h3
      · cases h2
      · cases h2
    · refine hs2.frame n1 hn fun s q x i h1 h2 h3 => ?_
      obtain ⟨s0, q0, g1, g2, g3, _, _⟩ := hsrc h1 h3
      exact hn2 s0 q0 x i g1 (by rw [g3]; exact h2) g2
    · rcases hs2.fresh s q' x i h1 h2 h3 with h | ⟨t, q, y, l, g1, g2, g3, g4⟩
      · exact .inl h
      · obtain ⟨s0, q0, f1, f2, f3, _, _⟩ := hsrc g1 g3
        exact .inr ⟨s0, q0, y, l, f1, by rw [f3]; exact g2, f2, g4⟩
theorem AW.move {c : Code} {Q : Exit → Tm → AMem → Prop} (old new d n : Nat) {b e : Blk} (hb : mem[old]? = some b) (hbk : b.kind = .grow) (he : mem[new]? = some e) (hek : e.kind = .grow) (hne : old ≠ new) (hd : Tm.get tm d = .one (.sl new e.ver 0 n))
    (h : AW P nt c ((d, .one (.sl old (b.ver + 1) 0 n)) :: tm) ((mem.set old ⟨.grow, e.ty, b.ver + 1, e.esz, e.cells⟩).set new ⟨.grow, e.ty, e.ver + 1, e.esz, []⟩) Q) : AW P nt c tm mem Q :=
  AW.moveP old new d n hb hbk he hek hne hd fun ρ2 a w _ hr => h ρ2 a w hr
theorem BlkR.recell {ρ : Env} {w : World} {r : Nat} {b : Blk} (hb : BlkR ρ w r b) (hk : b.kind ≠ .ro) {j : Nat} {c0 c : CV} (hj : b.cells[j]? = some c0) (hc : ∀ v, VC ρ c0 v → VC ρ c v) : BlkR ρ w r { b with cells := b.cells.set j c } := by
  obtain ⟨kind, ty, ver, esz, cells⟩ := b
  cases kind with
  | fix =>
    obtain ⟨n, cs, k, h1, h2, h3, hkk⟩ := hb
    obtain ⟨v, hv, hr⟩ := h3.get hj
    exact ⟨n, cs, k, h1, h2, h3.set_left hv (hc v hr), hkk⟩
  | grow =>
    rcases hb with ⟨h1, h2⟩ | ⟨n, cs, cap, xs, sp, h1, h2, h3, hcm, h4, h5⟩
    · simp only at h1; subst h1; simp at hj
    · obtain ⟨v, hv, hr⟩ := h5.get hj
      exact .inr ⟨n, cs, cap, xs, sp, h1, h2, h3, hcm, h4, h5.set_left hv (hc v hr)⟩
  | ro => exact absurd rfl hk
theorem RepM.recell {ρ : Env} {w : World} (h : RepM ρ mem w) {r j : Nat} {b : Blk} {c0 c : CV} (hb : mem[r]? = some b) (hk : b.kind ≠ .ro) (hj : b.cells[j]? = some c0) (hc : ∀ v, VC ρ c0 v → VC ρ c v) :
    RepM ρ (mem.set r { b with cells := b.cells.set j c }) w ∧ Step mem ρ w (mem.set r { b with cells := b.cells.set j c }) ρ w := by
  have hrl := (List.getElem?_eq_some_iff.1 hb).1
  have hold : ∀ {s : Nat} {d : Blk}, (mem.set r { b with cells := b.cells.set j c })[s]? = some d → ∃ d0, mem[s]? = some d0 ∧ d0.kind = d.kind ∧ d0.ver = d.ver ∧ (d.kind = .ro → d0 = d) ∧ BlkR ρ w s d := by
    intro s d hd
    by_cases hs : s = r
    · subst hs; rw [List.getElem?_set_self hrl] at hd; injection hd with hd; subst hd
      exact ⟨b, hb, rfl, rfl, fun h => absurd h hk, (h.blk s b hb).recell hk hj hc⟩
    · rw [List.getElem?_set_ne (fun e => hs e.symm)] at hd
      exact ⟨d, hd, rfl, rfl, fun _ => rfl, h.blk s d hd⟩
  refine ⟨⟨fun s d hd => ?_, fun s v hs => h.dom s v (by simpa using hs), fun s d v hd hv => ?_, fun s t d e hd he hne hkd hke x y i k hx hy => ?_⟩,
    ⟨rfl, rfl, rfl, Nat.le_refl _, by simp, fun _ _ _ _ h => h, fun s d d' h1 h2 => ?_, fun s d h1 h2 => ?_, fun _ _ _ => rfl, fun s d x k h1 h2 h3 => ?_⟩⟩
  · obtain ⟨_, _, _, _, _, h5⟩ := hold hd; exact h5
  · obtain ⟨d0, h1, _, h3, _⟩ := hold hd; exact h.domv s d0 v h1 (by rw [h3]; exact hv)
  · obtain ⟨d0, h1, h2, h3, _⟩ := hold hd
    obtain ⟨e0, f1, f2, f3, f4, _⟩ := hold he
    exact h.sep s t d0 e0 h1 f1 hne (by rw [h2]; exact hkd) (fun hro => by rw [f4 (by rw [← f2]; exact hro)]; exact hke (by rw [← f2]; exact hro)) x y i k (by rw [h3]; exact hx) (by rw [f3]; exact hy)
  · obtain ⟨d0, h3, h4, _⟩ := hold h2; rw [h1] at h3; injection h3 with h3; rw [h3, h4]
  · obtain ⟨d0, h3, _, _, h5, _⟩ := hold h1; rw [← h5 h2]; exact h3
  · obtain ⟨d0, f1, f2, f3, _⟩ := hold h1; exact .inr ⟨s, d0, x, k, f1, by rw [f2]; exact h2, by rw [f3]; exact h3, rfl⟩
/-- The same where a cell of a block of our own leads to the row, too. -/
theorem AW.moveC {c : Code} {Q : Exit → Tm → AMem → Prop} (old new d n rp j : Nat) {b e p : Blk} (hb : mem[old]? = some b) (hbk : b.kind = .grow) (he : mem[new]? = some e) (hek : e.kind = .grow) (hne : old ≠ new) (hd : Tm.get tm d = .one (.sl new e.ver 0 n))
    (hp : mem[rp]? = some p) (hpk : p.kind ≠ .ro) (hpo : rp ≠ old) (hpn : rp ≠ new) (hpj : p.cells[j]? = some (.sl new e.ver 0 n))
    (h : AW P nt c ((d, .one (.sl old (b.ver + 1) 0 n)) :: tm) (((mem.set old ⟨.grow, e.ty, b.ver + 1, e.esz, e.cells⟩).set new ⟨.grow, e.ty, e.ver + 1, e.esz, []⟩).set rp { p with cells := p.cells.set j (.sl old (b.ver + 1) 0 n) }) Q) : AW P nt c tm mem Q :=
  AW.moveP old new d n hb hbk he hek hne hd fun ρ2 a w heq hr => by
    obtain ⟨g1, g2⟩ := hr.mem.recell (r := rp) (j := j) (c := .sl old (b.ver + 1) 0 n) (b := p) (by rw [List.getElem?_set_ne (fun e => hpn e.symm), List.getElem?_set_ne (fun e => hpo e.symm)]; exact hp) hpk hpj (fun v hv => by
      obtain ⟨A, c0, B, cc, h2, h3⟩ := hv
      exact ⟨A, c0, B, cc, by rw [heq]; exact h2, h3⟩)
    refine wp_mono (h ρ2 a w ⟨hr.size, hr.tm, g1⟩) ?_
    rintro ee a' w' ⟨ρ3, tm2, mem2, hr2, hs2, hdd, hq⟩
    exact ⟨ρ3, tm2, mem2, hr2, g2.trans hs2, hdd, hq⟩
end Go.Eng

set_option linter.unusedSimpArgs false
set_option linter.unusedVariables false
set_option maxRecDepth 100000
set_option maxHeartbeats 4000000
namespace Go.Proofs.Ytmjbbnfmhgcfaaa
open Go Go.Eng

theorem wi {x : Int} (h : -9223372036854775808 ≤ x ∧ x ≤ 9223372036854775807) : IntKind.i64.wrap x = x := by rw [IntKind.wrap_i64]; omega
theorem w32 (x : Int) : IntKind.u32.wrap x = x % 4294967296 := by simp [IntKind.wrap, IntKind.signed, IntKind.bits]
theorem w8 (x : Int) : IntKind.u8.wrap x = x % 256 := by simp [IntKind.wrap, IntKind.signed, IntKind.bits]
/-- Bytes; words; a number's bits. -/
def u8l (bs : List Int) : List CV := bs.map (CV.int .u8)
theorem u8l_len (bs : List Int) : (u8l bs).length = bs.length := by simp [u8l]
theorem u8l_app (a b : List Int) : u8l a ++ u8l b = u8l (a ++ b) := by simp [u8l]
theorem u8l_vals (bs : List Int) : (u8l bs).all CV.isVal = true := by
  simp only [u8l, List.all_map, List.all_eq_true]; intro x _; rfl
theorem u8l_below (L : Nat) (bs : List Int) : (u8l bs).all (CV.below L) = true := by
  simp only [u8l, List.all_map, List.all_eq_true]; intro x _; rfl
def byB (bs : List Int) (i : Nat) : Int := bs.getD i 0
theorem u8l_get {bs : List Int} {i : Nat} (h : i < bs.length) : (u8l bs)[i]? = some (.int .u8 (byB bs i)) := by
  simp only [u8l, List.getElem?_map, byB, List.getD_eq_getElem?_getD, List.getElem?_eq_getElem h]; rfl
theorem u8l_take (bs : List Int) (n : Nat) : (u8l bs).take n = u8l (bs.take n) := by simp [u8l]
theorem u8l_drop (bs : List Int) (n : Nat) : (u8l bs).drop n = u8l (bs.drop n) := by simp [u8l]
def ul (xs : List Int) : List CV := xs.map (CV.int .u32)
theorem ul_len (xs : List Int) : (ul xs).length = xs.length := by simp [ul]
theorem ul_get {xs : List Int} {i : Nat} (h : i < xs.length) : (ul xs)[i]? = some (.int .u32 (xs.getD i 0)) := by
  simp only [ul, List.getElem?_map, List.getD_eq_getElem?_getD, List.getElem?_eq_getElem h]; rfl
theorem ul_set (xs : List Int) (i : Nat) (x : Int) : (ul xs).set i (.int .u32 x) = ul (xs.set i x) := by simp [ul, List.map_set]
theorem ul_vals (xs : List Int) : (ul xs).all CV.isVal = true := by
  simp only [ul, List.all_map, List.all_eq_true]; intro x _; rfl
theorem ul_below (L : Nat) (xs : List Int) : (ul xs).all (CV.below L) = true := by
  simp only [ul, List.all_map, List.all_eq_true]; intro x _; rfl
def R32 (x : Int) : Prop := 0 ≤ x ∧ x ≤ 4294967295
theorem r32w (x : Int) : R32 (IntKind.u32.wrap x) := by unfold R32; rw [w32]; omega
theorem r32b (op : BinOp) (x y : Int) : R32 (bits op .u32 x y) := r32w _
theorem or_comm (x y : Int) : bits .or .u32 x y = bits .or .u32 y x := by unfold bits; simp only; rw [BitVec.or_comm]
theorem ofInt32 {x : Int} (h : R32 x) : (BitVec.ofInt 32 x).toNat = x.toNat := by
  have := h.1; have := h.2
  rw [BitVec.toNat_ofInt]; omega
theorem or_add {x y : Int} (k : Nat) (q : Int) (hx : R32 x) (hy : 0 ≤ y) (e : x = 2 ^ k * q) (hq : 0 ≤ q) (hlt : y < 2 ^ k) (hk : k ≤ 32) : bits .or .u32 x y = x + y := by
  have h2 : (2 : Int) ^ k ≤ 4294967296 := by
    have := Nat.pow_le_pow_right (n := 2) (by omega) hk
    have e2 : ((2 ^ k : Nat) : Int) = (2 : Int) ^ k := by simp
    rw [← e2]; omega
  have hy' : R32 y := ⟨hy, by omega⟩
  have hn : x.toNat ||| y.toNat = x.toNat + y.toNat := by
    have ex : x.toNat = 2 ^ k * q.toNat := by
      have e2 : ((2 ^ k * q.toNat : Nat) : Int) = x := by rw [e]; simp [Int.natCast_mul, Int.toNat_of_nonneg hq]
      omega
    have ylt : y.toNat < 2 ^ k := by
      have e2 : ((2 ^ k : Nat) : Int) = (2 : Int) ^ k := by simp
      omega
    rw [ex, Nat.two_pow_add_eq_or_of_lt ylt]
  have hor : (BitVec.ofInt 32 x ||| BitVec.ofInt 32 y).toNat = x.toNat + y.toNat := by
    rw [BitVec.toNat_or, ofInt32 hx, ofInt32 hy', hn]
  have hlt2 : x.toNat + y.toNat < 2 ^ 32 := by rw [← hor]; exact (BitVec.ofInt 32 x ||| BitVec.ofInt 32 y).isLt
  show IntKind.u32.wrap ((BitVec.ofInt 32 x ||| BitVec.ofInt 32 y).toNat : Int) = x + y
  rw [hor, w32]; have := hx.1; omega
theorem xor_max {e : Int} (h : R32 e) : bits .xor .u32 4294967295 e = 4294967295 - e := by
  have h1 : BitVec.ofInt 32 4294967295 = BitVec.allOnes 32 := by decide
  have h2 : (BitVec.ofInt 32 4294967295 ^^^ BitVec.ofInt 32 e).toNat = 2 ^ 32 - 1 - e.toNat := by
    rw [h1, BitVec.allOnes_xor, BitVec.toNat_not, ofInt32 h]
  show IntKind.u32.wrap ((BitVec.ofInt 32 4294967295 ^^^ BitVec.ofInt 32 e).toNat : Int) = _
  rw [h2, w32]; have := h.1; have := h.2; omega
/-- Turned to the right. -/
def rotR (x : Int) (n : Nat) : Int := bits .or .u32 (x.fdiv (2 ^ n)) (IntKind.u32.wrap (x * 2 ^ (32 - n)))
theorem and31 : ∀ n : Fin 32, 1 ≤ n.val → bits .and .u64 (IntKind.u64.wrap (-(n.val : Int))) 31 = 32 - (n.val : Int) := by decide +kernel
theorem and31' {n : Nat} (h : 1 ≤ n ∧ n ≤ 31) : bits .and .u64 (IntKind.u64.wrap (-(n : Int))) 31 = 32 - (n : Int) := and31 ⟨n, by omega⟩ h.1
def s0 (x : Int) : Int := bits .xor .u32 (bits .xor .u32 (rotR x 7) (rotR x 18)) (x.fdiv 8)
def s1 (x : Int) : Int := bits .xor .u32 (bits .xor .u32 (rotR x 17) (rotR x 19)) (x.fdiv 1024)
def S0 (x : Int) : Int := bits .xor .u32 (bits .xor .u32 (rotR x 2) (rotR x 13)) (rotR x 22)
def S1 (x : Int) : Int := bits .xor .u32 (bits .xor .u32 (rotR x 6) (rotR x 11)) (rotR x 25)
def chF (e f g : Int) : Int := bits .xor .u32 (bits .and .u32 e f) (bits .and .u32 (bits .xor .u32 4294967295 e) g)
def maF (a b c : Int) : Int := bits .xor .u32 (bits .xor .u32 (bits .and .u32 a b) (bits .and .u32 a c)) (bits .and .u32 b c)
def a32 (x y : Int) : Int := IntKind.u32.wrap (x + y)
structure S8 where
  (a b c d e f g h : Int)
def t1F (K W : List Int) (i : Nat) (s : S8) : Int := a32 (a32 (a32 (a32 s.h (S1 s.e)) (chF s.e s.f s.g)) (K.getD i 0)) (W.getD i 0)
def rdF (K W : List Int) (i : Nat) (s : S8) : S8 := ⟨a32 (t1F K W i s) (a32 (S0 s.a) (maF s.a s.b s.c)), s.a, s.b, s.c, a32 s.d (t1F K W i s), s.e, s.f, s.g⟩
def rd (K W : List Int) (s : S8) : Nat → S8
  | 0 => s
  | i + 1 => rdF K W i (rd K W s i)
def wordV (bs : List Int) (o : Nat) : Int := byB bs o * 16777216 + byB bs (o + 1) * 65536 + byB bs (o + 2) * 256 + byB bs (o + 3)
def mixF (w : List Int) (i : Nat) : Int := a32 (a32 (a32 (w.getD (i - 16) 0) (s0 (w.getD (i - 15) 0))) (w.getD (i - 7) 0)) (s1 (w.getD (i - 2) 0))
def sch (bs : List Int) (o : Nat) : Nat → List Int
  | 0 => List.replicate 64 0
  | i + 1 => (sch bs o i).set i (if i < 16 then wordV bs (o + 4 * i) else mixF (sch bs o i) i)
theorem sch_len (bs : List Int) (o : Nat) : ∀ i, (sch bs o i).length = 64
  | 0 => by simp [sch]
  | i + 1 => by simp [sch, sch_len bs o i]
def add8 (s t : S8) : S8 := ⟨a32 s.a t.a, a32 s.b t.b, a32 s.c t.c, a32 s.d t.d, a32 s.e t.e, a32 s.f t.f, a32 s.g t.g, a32 s.h t.h⟩
/-- A block stirred in. -/
def comp (K : List Int) (s : S8) (bs : List Int) (o : Nat) : S8 := add8 s (rd K (sch bs o 64) s 64)
theorem p2_32 {n : Nat} (h : n ≤ 32) : (2 : Int) ^ min n IntKind.u32.bits = 2 ^ n := by rw [show IntKind.u32.bits = 32 from rfl, Nat.min_eq_left h]
theorem turn_c (x : Int) (n : Nat) (m : AMem) (h : 1 ≤ n ∧ n ≤ 31) : Ctr Try.prog 33 [.one (.int .u32 x), .one (.int .u64 (n : Int))] m (.one (.int .u32 (rotR x n))) m := by
  refine Ctr.enter Try.func33 rfl (by decide) (rs := [.tmp 4]) (nt := 13) rfl rfl fun hwf Q hQ => ?_
  have e1 : IntKind.u64.wrap (32 - (n : Int)) = ((32 - n : Nat) : Int) := by rw [IntKind.wrap_u64]; omega
  have q1 := p2_32 (n := n) (by omega)
  have q2 := p2_32 (n := 32 - n) (by omega)
  have c1 : ¬ (n : Int) < 0 := by omega
  have c2 : ¬ ((32 - n : Nat) : Int) < 0 := by omega
  iterate 2
    refine AW.seq_k fun K hK => ?_
    refine AW.region (by decide) ?_
    simp only [push_cast, simprocAttr, e1, q1, q2, c1, c2]
    refine Thn_n ?_
    refine hK _ _ ?_
    clear hK K
  refine AW.ret ?_
  refine hQ _ _ _ ?_
  first | refine RetP.drop0 (Or.inr rfl) ?_ ?_ hwf | refine RetP.drop (Or.inr rfl) ?_ ?_ hwf
  · simp only [resA, resOne, resTv, AV.tv, push_cast, simprocAttr, e1, q1, q2, c1, c2, rotR]
  · rfl
theorem rot_c (x : Int) (n : Nat) (m : AMem) (h : 1 ≤ n ∧ n ≤ 31) : Ctr Try.prog 42 [.one (.int .u32 x), .one (.int .i64 (-(n : Int)))] m (.one (.int .u32 (rotR x n))) m := by
  refine Ctr.enter Try.func42 rfl (by decide) (rs := [.tmp 4]) (nt := 17) rfl rfl fun hwf Q hQ => ?_
  have e0 := and31' h
  have e3 : 32 - (n : Int) = ((32 - n : Nat) : Int) := by omega
  rw [e3] at e0
  have e1 : IntKind.u64.wrap (32 - ((32 - n : Nat) : Int)) = (n : Int) := by rw [IntKind.wrap_u64]; omega
  have q1 := p2_32 (n := n) (by omega)
  have q2 := p2_32 (n := 32 - n) (by omega)
  have c1 : ¬ (n : Int) < 0 := by omega
  have c2 : ¬ ((32 - n : Nat) : Int) < 0 := by omega
  have oc := or_comm (x.fdiv (2 ^ n)) (IntKind.u32.wrap (x * 2 ^ (32 - n)))
  iterate 3
    refine AW.seq_k fun K hK => ?_
    refine AW.region (by decide) ?_
    simp only [push_cast, simprocAttr, e0, e1, q1, q2, c1, c2]
    refine Thn_n ?_
    refine hK _ _ ?_
    clear hK K
  refine AW.ret ?_
  refine hQ _ _ _ ?_
  first | refine RetP.drop0 (Or.inr rfl) ?_ ?_ hwf | refine RetP.drop (Or.inr rfl) ?_ ?_ hwf
  · simp only [resA, resOne, resTv, AV.tv, push_cast, simprocAttr, e0, e1, q1, q2, c1, c2, rotR, oc]
  · rfl
end Go.Proofs.Ytmjbbnfmhgcfaaa

set_option linter.unusedSimpArgs false
set_option linter.unusedVariables false
set_option maxRecDepth 100000
set_option maxHeartbeats 4000000
namespace Go.Proofs.Ytmjbbnfmhgcfaaa
open Go Go.Eng

def KW : List Int := [1116352408, 1899447441, 3049323471, 3921009573, 961987163, 1508970993, 2453635748, 2870763221, 3624381080, 310598401, 607225278, 1426881987, 1925078388, 2162078206, 2614888103, 3248222580, 3835390401, 4022224774, 264347078, 604807628, 770255983, 1249150122, 1555081692, 1996064986, 2554220882, 2821834349, 2952996808, 3210313671, 3336571891, 3584528711, 113926993, 338241895, 666307205, 773529912, 1294757372, 1396182291, 1695183700, 1986661051, 2177026350, 2456956037, 2730485921, 2820302411, 3259730800, 3345764771, 3516065817, 3600352804, 4094571909, 275423344, 430227734, 506948616, 659060556, 883997877, 958139571, 1322822218, 1537002063, 1747873779, 1955562222, 2024104815, 2227730452, 2361852424, 2428436474, 2756734187, 3204031479, 3329325298]
def IV : S8 := ⟨1779033703, 3144134277, 1013904242, 2773480762, 1359893119, 2600822924, 528734635, 1541459225⟩
def pS (m : AMem) (rp : Nat) (S : S8) (b : CV) (n : Int) : AMem := m.set rp ⟨.fix, 74, 0, 0, [.int .u32 (S).a, .int .u32 (S).b, .int .u32 (S).c, .int .u32 (S).d, .int .u32 (S).e, .int .u32 (S).f, .int .u32 (S).g, .int .u32 (S).h, b, .int .u64 n]⟩
theorem pS_len (m : AMem) (rp : Nat) (S : S8) (b : CV) (n : Int) : (pS m rp S b n).length = m.length := List.length_set
theorem pS_wf {L : Nat} {m : AMem} (rp : Nat) (S : S8) {b : CV} (n : Int) (hb : b.below L = true) (h : MWf L m) : MWf L (pS m rp S b n) := fun x hx => by
  rcases List.mem_or_eq_of_mem_set hx with h1 | rfl
  · exact h x h1
  · show List.all [.int .u32 (S).a, .int .u32 (S).b, .int .u32 (S).c, .int .u32 (S).d, .int .u32 (S).e, .int .u32 (S).f, .int .u32 (S).g, .int .u32 (S).h, b, .int .u64 n] (CV.below L) = true
    simp only [List.all_cons, List.all_nil]; rw [hb]; rfl
def fourL (n : Int) : List Int := [IntKind.u8.wrap (n.fdiv 16777216), IntKind.u8.wrap (n.fdiv 65536), IntKind.u8.wrap (n.fdiv 256), IntKind.u8.wrap n]
theorem setL_full {α : Type} : ∀ {vs l : List α}, l.length = vs.length → setL l 0 vs = vs := by
  have h : ∀ (vs l pre : List α), l.length = vs.length → setL (pre ++ l) pre.length vs = pre ++ vs := by
    intro vs
    induction vs with
    | nil => intro l pre h; cases l with
      | nil => rfl
      | cons => simp at h
    | cons v vs ih =>
      intro l pre h
      cases l with
      | nil => simp at h
      | cons x l =>
        have := ih l (pre ++ [v]) (by simpa using h)
        simp only [setL]
        rw [List.set_append_right _ _ (Nat.le_refl _), Nat.sub_self, List.set_cons_zero]
        simpa using this
  intro vs l hl
  exact h vs l [] hl
theorem wordV_or {b0 b1 b2 b3 : Int} (h0 : 0 ≤ b0 ∧ b0 ≤ 255) (h1 : 0 ≤ b1 ∧ b1 ≤ 255) (h2 : 0 ≤ b2 ∧ b2 ≤ 255) (h3 : 0 ≤ b3 ∧ b3 ≤ 255) :
    bits .or .u32 (bits .or .u32 (bits .or .u32 (b0 * 16777216) (b1 * 65536)) (b2 * 256)) b3 = b0 * 16777216 + b1 * 65536 + b2 * 256 + b3 := by
  have e1 : bits .or .u32 (b0 * 16777216) (b1 * 65536) = b0 * 16777216 + b1 * 65536 := or_add 24 b0 ⟨by omega, by omega⟩ (by omega) (by omega) h0.1 (by omega) (by decide)
  have e2 : bits .or .u32 (b0 * 16777216 + b1 * 65536) (b2 * 256) = b0 * 16777216 + b1 * 65536 + b2 * 256 := or_add 16 (b0 * 256 + b1) ⟨by omega, by omega⟩ (by omega) (by omega) (by omega) (by omega) (by decide)
  rw [e1, e2]
  exact or_add 8 (b0 * 65536 + b1 * 256 + b2) ⟨by omega, by omega⟩ (by omega) (by omega) (by omega) (by omega) (by decide)
theorem words_c (m : AMem) : Ctr Try.prog 40 [] m (.agg (ul KW)) m := by
  refine Ctr.enter Try.func40 rfl (by decide) (rs := [.cell 0 29]) (nt := 2) rfl rfl fun hwf Q hQ => ?_
  iterate 2
    refine AW.seq_k fun K hK => ?_
    refine AW.region (by decide) ?_
    simp only [push_cast, simprocAttr]
    refine Thn_n ?_
    refine hK _ _ ?_
    clear hK K
  refine AW.ret ?_
  refine hQ _ _ _ ?_
  first | refine RetP.drop0 (Or.inr rfl) ?_ ?_ hwf | refine RetP.drop (Or.inr rfl) ?_ ?_ hwf
  · simp only [resA, resOne, resTv, AV.tv, push_cast, simprocAttr, ul, KW]
  · rfl
theorem new_c (m : AMem) : Ctr Try.prog 22 [] m (.one (.ptr m.length 0 0)) (m ++ [⟨.fix, 74, 0, 0, [.int .u32 (IV).a, .int .u32 (IV).b, .int .u32 (IV).c, .int .u32 (IV).d, .int .u32 (IV).e, .int .u32 (IV).f, .int .u32 (IV).g, .int .u32 (IV).h, .nils, .int .u64 0]⟩]) := by
  refine Ctr.enter Try.func22 rfl (by decide) (rs := [.tmp 0]) (nt := 4) rfl rfl fun hwf Q hQ => ?_
  iterate 2
    refine AW.seq_k fun K hK => ?_
    refine AW.region (by decide) ?_
    simp only [push_cast, simprocAttr]
    refine Thn_n ?_
    refine hK _ _ ?_
    clear hK K
  refine AW.ret ?_
  refine hQ _ _ _ ?_
  refine RetP.pick [(m.length, 0)] (Or.inr rfl) ?_ ?_ ?_ hwf ?_
  · simp only [resA, resOne, resTv, AV.tv, push_cast, simprocAttr]
    simp [renV, renT, renL, renC, renIdx]
  · simp only [picks, push_cast, simprocAttr]; rfl
  · simp [distinctFrom]
  · exact MWf_one rfl
  
theorem four_c (n : Int) (m : AMem) : Ctr Try.prog 32 [.one (.int .u32 n)] m (.one (.sl m.length 0 0 4)) (m ++ [⟨.grow, 5, 0, 1, u8l (fourL n)⟩]) := by
  refine Ctr.enter Try.func32 rfl (by decide) (rs := [.tmp 2]) (nt := 15) rfl rfl fun hwf Q hQ => ?_
  have q1 := p2_32 (n := 24) (by decide)
  have q2 := p2_32 (n := 16) (by decide)
  have q3 := p2_32 (n := 8) (by decide)
  have q4 : (2:Int)^24 = 16777216 := by decide
  have q5 : (2:Int)^16 = 65536 := by decide
  have q6 : (2:Int)^8 = 256 := by decide
  iterate 2
    refine AW.seq_k fun K hK => ?_
    refine AW.region (by decide) ?_
    simp only [push_cast, simprocAttr, q1, q2, q3, q4, q5, q6]
    refine Thn_n ?_
    refine hK _ _ ?_
    clear hK K
  refine AW.ret ?_
  refine hQ _ _ _ ?_
  refine RetP.pick [(m.length, 0)] (Or.inr rfl) ?_ ?_ ?_ hwf ?_
  · simp only [resA, resOne, resTv, AV.tv, push_cast, simprocAttr]
    simp [renV, renT, renL, renC, renIdx]
  · simp only [picks, push_cast, simprocAttr]; rfl
  · simp [distinctFrom]
  · exact MWf_one (u8l_below _ _)
  
theorem word_c (rb v off len : Nat) (bs : List Int) (m : AMem) (hb : ∃ k ez, m[rb]? = some ⟨k, 5, v, ez, u8l bs⟩) (hl : 4 ≤ len) (hf : off + len ≤ bs.length) (hu : ∀ i, 0 ≤ byB bs i ∧ byB bs i ≤ 255) : Ctr Try.prog 41 [.one (.sl rb v off len)] m (.one (.int .u32 (wordV bs off))) m := by
  refine Ctr.enter Try.func41 rfl (by decide) (rs := [.tmp 2]) (nt := 25) rfl rfl fun hwf Q hQ => ?_
  obtain ⟨k0, ez, hb⟩ := hb
  have lb := get_lt hb
  have g0 := u8l_get (bs := bs) (i := off) (by omega)
  have u0 := hu (off)
  have x0 : IntKind.u32.wrap (byB bs (off)) = byB bs (off) := by rw [w32]; omega
  have c0 : (0 : Int) < (len : Int) := by omega
  have g1 := u8l_get (bs := bs) (i := off + 1) (by omega)
  have u1 := hu (off + 1)
  have x1 : IntKind.u32.wrap (byB bs (off + 1)) = byB bs (off + 1) := by rw [w32]; omega
  have c1 : (1 : Int) < (len : Int) := by omega
  have g2 := u8l_get (bs := bs) (i := off + 2) (by omega)
  have u2 := hu (off + 2)
  have x2 : IntKind.u32.wrap (byB bs (off + 2)) = byB bs (off + 2) := by rw [w32]; omega
  have c2 : (2 : Int) < (len : Int) := by omega
  have g3 := u8l_get (bs := bs) (i := off + 3) (by omega)
  have u3 := hu (off + 3)
  have x3 : IntKind.u32.wrap (byB bs (off + 3)) = byB bs (off + 3) := by rw [w32]; omega
  have c3 : (3 : Int) < (len : Int) := by omega
  have q1 := p2_32 (n := 24) (by decide)
  have q2 := p2_32 (n := 16) (by decide)
  have q3 := p2_32 (n := 8) (by decide)
  have q4 : (2:Int)^24 = 16777216 := by decide
  have q5 : (2:Int)^16 = 65536 := by decide
  have q6 : (2:Int)^8 = 256 := by decide
  have y0 : IntKind.u32.wrap (byB bs off * 16777216) = byB bs off * 16777216 := by rw [w32]; omega
  have y1 : IntKind.u32.wrap (byB bs (off + 1) * 65536) = byB bs (off + 1) * 65536 := by rw [w32]; omega
  have y2 : IntKind.u32.wrap (byB bs (off + 2) * 256) = byB bs (off + 2) * 256 := by rw [w32]; omega
  have hw := wordV_or u0 u1 u2 u3
  refine AW.seq_k fun K hK => ?_
  refine AW.region (by decide) ?_
  simp only [push_cast, simprocAttr, hb, lk_old hb, g0, g1, g2, g3, x0, x1, x2, x3, c0, c1, c2, c3, q1, q2, q3, q4, q5, q6, y0, y1, y2]
  refine Thn_n ?_
  refine hK _ _ ?_
  clear hK K
  refine AW.seq_k fun K hK => ?_
  refine AW.draw [.val, .val, .rd 0, .val, .val, .val, .val, .rd 0, .val, .val, .val, .val, .val, .rd 0, .val, .val, .val, .val, .val, .rd 0, .val, .val, .val] fol (by decide) (by kernel_rfl) ?_
  simp only [push_cast, simprocAttr, hb, lk_old hb, g0, g1, g2, g3, x0, x1, x2, x3, c0, c1, c2, c3, q1, q2, q3, q4, q5, q6, y0, y1, y2]
  refine Thn_n ?_
  refine hK _ _ ?_
  clear hK K
  refine AW.ret ?_
  refine hQ _ _ _ ?_
  first | refine RetP.drop0 (Or.inr rfl) ?_ ?_ hwf | refine RetP.drop (Or.inr rfl) ?_ ?_ hwf
  · simp only [resA, resOne, resTv, AV.tv, push_cast, simprocAttr, hb, lk_old hb, g0, g1, g2, g3, x0, x1, x2, x3, c0, c1, c2, c3, q1, q2, q3, q4, q5, q6, y0, y1, y2, wordV, hw]
  · rfl
end Go.Proofs.Ytmjbbnfmhgcfaaa

set_option linter.unusedSimpArgs false
set_option linter.unusedVariables false
set_option maxRecDepth 100000
set_option maxHeartbeats 4000000
namespace Go.Proofs.Ytmjbbnfmhgcfaaa
open Go Go.Eng

def w64 (x : Int) : Int := IntKind.u64.wrap x
def u64l (xs : List Int) : List CV := xs.map (CV.int .u64)
theorem u64l_len (xs : List Int) : (u64l xs).length = xs.length := by simp [u64l]
theorem u64l_get {xs : List Int} {i : Nat} (h : i < xs.length) : (u64l xs)[i]? = some (.int .u64 (xs.getD i 0)) := by
  simp only [u64l, List.getElem?_map, List.getD_eq_getElem?_getD, List.getElem?_eq_getElem h]; rfl
theorem u64l_set (xs : List Int) (i : Nat) (x : Int) : (u64l xs).set i (.int .u64 x) = u64l (xs.set i x) := by simp [u64l, List.map_set]
theorem u64l_below (L : Nat) (xs : List Int) : (u64l xs).all (CV.below L) = true := by
  simp only [u64l, List.all_map, List.all_eq_true]; intro x _; rfl
theorem u64l_snoc (xs : List Int) (x : Int) : u64l xs ++ [.int .u64 x] = u64l (xs ++ [x]) := by simp [u64l]
theorem u64l_zero (n : Nat) : zeros (.int .u64 0) n = u64l (List.replicate n 0) := by
  simp only [zeros, u64l, List.map_replicate, Value.cells]
  apply List.ext_getElem?
  intro i
  simp [Nat.mod_one, cellOf, List.getElem?_replicate, List.getElem?_range']
  split <;> simp_all
def halfI (x n : Int) : Bool :=
  let a := w64 (x.tdiv 4294967296)
  let b := x.tmod 4294967296
  let high := w64 (w64 (a * a) + w64 ((w64 (w64 (2 * a) * b)).tdiv 4294967296))
  let low := w64 ((w64 (w64 (2 * a) * b)).tmod 4294967296 * 4294967296)
  let sum := w64 (low + w64 (b * b))
  let h2 := if sum < low then w64 (high + 1) else high
  if h2 < n then true else if h2 = n then sum == 0 else false
def bitR (b : Int) : Nat → Int
  | 0 => b
  | t + 1 => w64 ((bitR b t).tdiv 2)
def rootX (n : Int) : Nat → Int
  | 0 => 0
  | t + 1 => if halfI (w64 (rootX n t + bitR 68719476736 t)) n then w64 (rootX n t + bitR 68719476736 t) else rootX n t
def rootI (n : Int) : Int := IntKind.u32.wrap ((rootX n 37).tmod 4294967296)
theorem bitR_pos : ∀ k : Fin 37, 0 < bitR 68719476736 k.val := by decide +kernel
theorem bitR_end : bitR 68719476736 37 = 0 := by decide +kernel
theorem bitC_pos : ∀ k : Fin 36, 0 < bitR 34359738368 k.val := by decide +kernel
theorem bitC_end : bitR 34359738368 36 = 0 := by decide +kernel
theorem half_c (x n : Int) (m : AMem) : Ctr Try.prog 27 [.one (.int .u64 x), .one (.int .u64 n)] m (.one (.bool (halfI x n))) m := by
  refine Ctr.enter Try.func27 rfl (by decide) (rs := [.tmp 4]) (nt := 51) rfl rfl fun hwf Q hQ => ?_
  iterate 5
    refine AW.seq_k fun K hK => ?_
    refine AW.region (by decide) ?_
    simp only [push_cast, simprocAttr]
    refine Thn_n ?_
    refine hK _ _ ?_
    clear hK K
  refine AW.seq_k fun K hK => ?_
  refine AW.seq_k fun K hK => ?_
  refine AW.region (by decide) ?_
  simp only [push_cast, simprocAttr]
  refine Thn_n ?_
  refine hK _ _ ?_
  clear hK K
  refine AW.cond rfl (fun h36 => ?_) (fun h36 => ?_)
  · have hs := of_decide_eq_true h36
    rcases Int.lt_trichotomy (IntKind.u64.wrap (IntKind.u64.wrap (IntKind.u64.wrap (IntKind.u64.wrap (x.tdiv 4294967296) * IntKind.u64.wrap (x.tdiv 4294967296)) + IntKind.u64.wrap ((IntKind.u64.wrap (IntKind.u64.wrap (2 * IntKind.u64.wrap (x.tdiv 4294967296)) * x.tmod 4294967296)).tdiv 4294967296)) + 1)) n with hc | hc | hc
    · refine AW.region (by decide) ?_
      simp only [push_cast, simprocAttr, hs, hc]
      refine Thn_n ?_
      refine hK _ _ ?_
      clear hK K
      refine AW.seq_k fun K hK => ?_
      refine AW.region (by decide) ?_
      simp only [push_cast, simprocAttr, hs, hc]
      refine Thn_n ?_
      refine hK _ _ ?_
      clear hK K
      refine AW.ret ?_
      refine hQ _ _ _ ?_
      first | refine RetP.drop0 (Or.inr rfl) ?_ ?_ hwf | refine RetP.drop (Or.inr rfl) ?_ ?_ hwf
      · simp only [resA, resOne, resTv, AV.tv, push_cast, simprocAttr, hs, hc, halfI, w64]
      · rfl
    · have c1 : (n == n) = true := beq_self_eq_true n
      refine AW.region (by decide) ?_
      simp only [push_cast, simprocAttr, hs, hc, c1, Int.lt_irrefl]
      refine Thn_n ?_
      refine hK _ _ ?_
      clear hK K
      refine AW.seq_k fun K hK => ?_
      refine AW.region (by decide) ?_
      simp only [push_cast, simprocAttr, hs, hc, c1, Int.lt_irrefl]
      refine Thn_n ?_
      refine hK _ _ ?_
      clear hK K
      refine AW.ret ?_
      refine hQ _ _ _ ?_
      first | refine RetP.drop0 (Or.inr rfl) ?_ ?_ hwf | refine RetP.drop (Or.inr rfl) ?_ ?_ hwf
      · simp only [resA, resOne, resTv, AV.tv, push_cast, simprocAttr, hs, hc, c1, Int.lt_irrefl, halfI, w64]
      · rfl
    · have c1 : ¬ (IntKind.u64.wrap (IntKind.u64.wrap (IntKind.u64.wrap (IntKind.u64.wrap (x.tdiv 4294967296) * IntKind.u64.wrap (x.tdiv 4294967296)) + IntKind.u64.wrap ((IntKind.u64.wrap (IntKind.u64.wrap (2 * IntKind.u64.wrap (x.tdiv 4294967296)) * x.tmod 4294967296)).tdiv 4294967296)) + 1)) < n := by omega
      have c2 : ((IntKind.u64.wrap (IntKind.u64.wrap (IntKind.u64.wrap (IntKind.u64.wrap (x.tdiv 4294967296) * IntKind.u64.wrap (x.tdiv 4294967296)) + IntKind.u64.wrap ((IntKind.u64.wrap (IntKind.u64.wrap (2 * IntKind.u64.wrap (x.tdiv 4294967296)) * x.tmod 4294967296)).tdiv 4294967296)) + 1)) == n) = false := by simp; omega
      have c3 : ¬ (IntKind.u64.wrap (IntKind.u64.wrap (IntKind.u64.wrap (IntKind.u64.wrap (x.tdiv 4294967296) * IntKind.u64.wrap (x.tdiv 4294967296)) + IntKind.u64.wrap ((IntKind.u64.wrap (IntKind.u64.wrap (2 * IntKind.u64.wrap (x.tdiv 4294967296)) * x.tmod 4294967296)).tdiv 4294967296)) + 1)) = n := by omega
      refine AW.region (by decide) ?_
      simp only [push_cast, simprocAttr, hs, c1, c2, c3]
      refine Thn_n ?_
      refine hK _ _ ?_
      clear hK K
      refine AW.seq_k fun K hK => ?_
      refine AW.region (by decide) ?_
      simp only [push_cast, simprocAttr, hs, c1, c2, c3]
      refine Thn_n ?_
      refine hK _ _ ?_
      clear hK K
      refine AW.ret ?_
      refine hQ _ _ _ ?_
      first | refine RetP.drop0 (Or.inr rfl) ?_ ?_ hwf | refine RetP.drop (Or.inr rfl) ?_ ?_ hwf
      · simp only [resA, resOne, resTv, AV.tv, push_cast, simprocAttr, hs, c1, c2, c3, halfI, w64]
      · rfl
  · have hs := of_decide_eq_false h36
    rcases Int.lt_trichotomy (IntKind.u64.wrap (IntKind.u64.wrap (IntKind.u64.wrap (x.tdiv 4294967296) * IntKind.u64.wrap (x.tdiv 4294967296)) + IntKind.u64.wrap ((IntKind.u64.wrap (IntKind.u64.wrap (2 * IntKind.u64.wrap (x.tdiv 4294967296)) * x.tmod 4294967296)).tdiv 4294967296))) n with hc | hc | hc
    · refine AW.skip ?_
      refine Thn_n ?_
      refine hK _ _ ?_
      clear hK K
      refine AW.seq_k fun K hK => ?_
      refine AW.region (by decide) ?_
      simp only [push_cast, simprocAttr, hs, hc]
      refine Thn_n ?_
      refine hK _ _ ?_
      clear hK K
      refine AW.ret ?_
      refine hQ _ _ _ ?_
      first | refine RetP.drop0 (Or.inr rfl) ?_ ?_ hwf | refine RetP.drop (Or.inr rfl) ?_ ?_ hwf
      · simp only [resA, resOne, resTv, AV.tv, push_cast, simprocAttr, hs, hc, halfI, w64]
      · rfl
    · have c1 : (n == n) = true := beq_self_eq_true n
      refine AW.skip ?_
      refine Thn_n ?_
      refine hK _ _ ?_
      clear hK K
      refine AW.seq_k fun K hK => ?_
      refine AW.region (by decide) ?_
      simp only [push_cast, simprocAttr, hs, hc, c1, Int.lt_irrefl]
      refine Thn_n ?_
      refine hK _ _ ?_
      clear hK K
      refine AW.ret ?_
      refine hQ _ _ _ ?_
      first | refine RetP.drop0 (Or.inr rfl) ?_ ?_ hwf | refine RetP.drop (Or.inr rfl) ?_ ?_ hwf
      · simp only [resA, resOne, resTv, AV.tv, push_cast, simprocAttr, hs, hc, c1, Int.lt_irrefl, halfI, w64]
      · rfl
    · have c1 : ¬ (IntKind.u64.wrap (IntKind.u64.wrap (IntKind.u64.wrap (x.tdiv 4294967296) * IntKind.u64.wrap (x.tdiv 4294967296)) + IntKind.u64.wrap ((IntKind.u64.wrap (IntKind.u64.wrap (2 * IntKind.u64.wrap (x.tdiv 4294967296)) * x.tmod 4294967296)).tdiv 4294967296))) < n := by omega
      have c2 : ((IntKind.u64.wrap (IntKind.u64.wrap (IntKind.u64.wrap (x.tdiv 4294967296) * IntKind.u64.wrap (x.tdiv 4294967296)) + IntKind.u64.wrap ((IntKind.u64.wrap (IntKind.u64.wrap (2 * IntKind.u64.wrap (x.tdiv 4294967296)) * x.tmod 4294967296)).tdiv 4294967296))) == n) = false := by simp; omega
      have c3 : ¬ (IntKind.u64.wrap (IntKind.u64.wrap (IntKind.u64.wrap (x.tdiv 4294967296) * IntKind.u64.wrap (x.tdiv 4294967296)) + IntKind.u64.wrap ((IntKind.u64.wrap (IntKind.u64.wrap (2 * IntKind.u64.wrap (x.tdiv 4294967296)) * x.tmod 4294967296)).tdiv 4294967296))) = n := by omega
      refine AW.skip ?_
      refine Thn_n ?_
      refine hK _ _ ?_
      clear hK K
      refine AW.seq_k fun K hK => ?_
      refine AW.region (by decide) ?_
      simp only [push_cast, simprocAttr, hs, c1, c2, c3]
      refine Thn_n ?_
      refine hK _ _ ?_
      clear hK K
      refine AW.ret ?_
      refine hQ _ _ _ ?_
      first | refine RetP.drop0 (Or.inr rfl) ?_ ?_ hwf | refine RetP.drop (Or.inr rfl) ?_ ?_ hwf
      · simp only [resA, resOne, resTv, AV.tv, push_cast, simprocAttr, hs, c1, c2, c3, halfI, w64]
      · rfl
theorem root_c (n : Int) (m : AMem) : Ctr Try.prog 18 [.one (.int .u64 n)] m (.one (.int .u32 (rootI n))) m := by
  refine Ctr.enter Try.func18 rfl (by decide) (rs := [.tmp 2]) (nt := 20) rfl rfl fun hwf Q hQ => ?_
  iterate 2
    refine AW.seq_k fun K hK => ?_
    refine AW.region (by decide) ?_
    simp only [push_cast, simprocAttr, w64]
    refine Thn_n ?_
    refine hK _ _ ?_
    clear hK K
  refine AW.seq_k fun K hK => ?_
  refine AW.seq_k fun K hK => ?_
  refine AW.region (by decide) ?_
  simp only [push_cast, simprocAttr, w64]
  refine Thn_n ?_
  refine hK _ _ ?_
  clear hK K
  refine AW.block ?_
  refine AW.loopK [0] (fun t => t ≤ (37 : Nat)) (fun t => [(3, .one (.int .u64 (rootX n t))), (4, .one (.int .u64 (bitR 68719476736 t)))]) (fun t => []) (fun t => 37 - t) 0 (by omega) ?_ ?_ fun t hi5 => ?_
  · first | rfl | (simp only [Keeps, Tm.get_cons, Nat.reduceEqDiff, ↓reduceIte, if_true, if_false, ite_true, ite_false, true_and, and_true, and_self, reduceCtorEq, bitR, rootX] <;> rfl)
  · first | rfl | (simp only [setAll, push_cast, simprocAttr, w64, bitR, rootX] <;> rfl)
  have ht : t ≤ 37 := hi5
  try simp only [keepL, setAll, push_cast, simprocAttr, w64]
  refine AW.seq_k fun K hK => ?_
  refine AW.seq_k fun K hK => ?_
  refine AW.region (by decide) ?_
  simp only [push_cast, simprocAttr, w64]
  refine Thn_n ?_
  refine hK _ _ ?_
  clear hK K
  refine AW.cond rfl (fun h6 => ?_) (fun h6 => ?_)
  · have hlt : t < 37 := by
      have h1 := of_decide_eq_true h6
      rcases Nat.lt_or_ge t 37 with h | h
      · exact h
      · obtain rfl : t = 37 := by omega
        rw [bitR_end] at h1; exact absurd h1 (by decide)
    refine AW.skip ?_
    refine Thn_n ?_
    refine hK _ _ ?_
    clear hK K
    refine AW.seq_k fun K hK => ?_
    refine AW.block ?_
    refine AW.seq_k fun K hK => ?_
    refine AW.region (by decide) ?_
    simp only [push_cast, simprocAttr, w64]
    refine CThen.by (half_c _ _ _) ?_
    simp only [push_cast, simprocAttr, w64]
    refine Thn_n ?_
    refine hK _ _ ?_
    clear hK K
    refine AW.cond rfl (fun h13 => ?_) (fun h13 => ?_)
    · have hnx : rootX n (t + 1) = IntKind.u64.wrap (rootX n t + bitR 68719476736 t) := by simp only [rootX, w64]; exact if_pos h13
      refine AW.region (by decide) ?_
      simp only [push_cast, simprocAttr, w64]
      refine InB_n ?_
      refine Thn_n ?_
      refine hK _ _ ?_
      clear hK K
      refine AW.region (by decide) ?_
      simp only [push_cast, simprocAttr, w64]
      refine Thn_n ?_
      refine ⟨t + 1, hlt, by omega, ?_⟩
      try simp only [keepL, setAll, push_cast, simprocAttr, w64, bitR, w64, hnx]
      exact Weak.same (by simp only [Keeps, Tm.get_cons, Nat.reduceEqDiff, ↓reduceIte, if_true, if_false, ite_true, ite_false, true_and, and_true, and_self, reduceCtorEq, bitR, w64, hnx]) (by first | rfl | simp only [Keeps, Tm.get_cons, Nat.reduceEqDiff, ↓reduceIte, if_true, if_false, ite_true, ite_false, true_and, and_true, and_self, reduceCtorEq, bitR, w64, hnx])
    · have hnx : rootX n (t + 1) = rootX n t := by simp only [rootX, w64]; exact if_neg (by rw [h13]; decide)
      refine AW.skip ?_
      refine InB_n ?_
      refine Thn_n ?_
      refine hK _ _ ?_
      clear hK K
      refine AW.region (by decide) ?_
      simp only [push_cast, simprocAttr, w64]
      refine Thn_n ?_
      refine ⟨t + 1, hlt, by omega, ?_⟩
      try simp only [keepL, setAll, push_cast, simprocAttr, w64, bitR, w64, hnx]
      exact Weak.same (by simp only [Keeps, Tm.get_cons, Nat.reduceEqDiff, ↓reduceIte, if_true, if_false, ite_true, ite_false, true_and, and_true, and_self, reduceCtorEq, bitR, w64, hnx]) (by first | rfl | simp only [Keeps, Tm.get_cons, Nat.reduceEqDiff, ↓reduceIte, if_true, if_false, ite_true, ite_false, true_and, and_true, and_self, reduceCtorEq, bitR, w64, hnx])
  · have hte : t = 37 := by
      have h1 := of_decide_eq_false h6
      rcases Nat.lt_or_ge t 37 with h | h
      · exact absurd (bitR_pos ⟨t, h⟩) h1
      · omega
    subst hte
    refine AW.exit ?_
    refine Thn_e ?_
    clear hK K
    refine Thn_e ?_
    refine InB_here ?_
    refine Thn_n ?_
    refine hK _ _ ?_
    clear hK K
    refine AW.seq_k fun K hK => ?_
    refine AW.region (by decide) ?_
    simp only [push_cast, simprocAttr, w64]
    refine Thn_n ?_
    refine hK _ _ ?_
    clear hK K
    refine AW.ret ?_
    refine hQ _ _ _ ?_
    first | refine RetP.drop0 (Or.inr rfl) ?_ ?_ hwf | refine RetP.drop (Or.inr rfl) ?_ ?_ hwf
    · simp only [resA, resOne, resTv, AV.tv, push_cast, simprocAttr, w64, rootI]
    · rfl
def splX (x : Int) : Nat → Int
  | 0 => x
  | i + 1 => w64 ((splX x i).tdiv 65536)
def splL (x : Int) : Nat → List Int
  | 0 => []
  | i + 1 => splL x i ++ [(splX x i).tmod 65536]
theorem splL_len (x : Int) : ∀ i, (splL x i).length = i
  | 0 => rfl
  | i + 1 => by simp [splL, splL_len x i]
def prJ (o a b : List Int) (i : Nat) : Nat → List Int × Int
  | 0 => (o, 0)
  | k + 1 => (((prJ o a b i k).1).set (i + k) ((w64 (w64 (((prJ o a b i k).1).getD (i + k) 0 + w64 (a.getD i 0 * b.getD k 0)) + (prJ o a b i k).2)).tmod 65536),
      w64 ((w64 (w64 (((prJ o a b i k).1).getD (i + k) 0 + w64 (a.getD i 0 * b.getD k 0)) + (prJ o a b i k).2)).tdiv 65536))
def prI (a b : List Int) : Nat → List Int
  | 0 => List.replicate (a.length + b.length) 0
  | i + 1 => ((prJ (prI a b i) a b i b.length).1).set (i + b.length) (w64 (((prJ (prI a b i) a b i b.length).1).getD (i + b.length) 0 + (prJ (prI a b i) a b i b.length).2))
theorem prJ_len (o a b : List Int) (i : Nat) : ∀ k, ((prJ o a b i k).1).length = o.length
  | 0 => rfl
  | k + 1 => by simp only [prJ, List.length_set, prJ_len o a b i k]
theorem prI_len (a b : List Int) : ∀ i, (prI a b i).length = a.length + b.length
  | 0 => by simp [prI]
  | i + 1 => by simp only [prI, List.length_set, prJ_len, prI_len a b i]
def thJ (c w : List Int) : Nat → Bool
  | 0 => true
  | j + 1 => if c.getD j 0 = w.getD j 0 then thJ c w j else decide (c.getD j 0 < w.getD j 0)
def prodI (a b : List Int) : List Int := prI a b a.length
def cubL (x : Int) : List Int := prodI (prodI (splL x 4) (splL x 4)) (splL x 4)
def wantL (n : Int) : List Int := (List.replicate 12 0).set 6 n
def thirdI (x n : Int) : Bool := thJ (cubL x) (wantL n) 12
theorem cubL_len (x : Int) : (cubL x).length = 12 := by simp [cubL, prodI, prI_len, splL_len]
def cubeX (n : Int) : Nat → Int
  | 0 => 0
  | t + 1 => if thirdI (w64 (cubeX n t + bitR 34359738368 t)) n then w64 (cubeX n t + bitR 34359738368 t) else cubeX n t
def cubeI (n : Int) : Int := IntKind.u32.wrap ((cubeX n 36).tmod 4294967296)
theorem split_c (x : Int) (m : AMem) : Ctr Try.prog 35 [.one (.int .u64 x)] m (.one (.sl m.length 0 0 4)) (m ++ [⟨.grow, 57, 0, 1, u64l (splL x 4)⟩]) := by
  refine Ctr.enter Try.func35 rfl (by decide) (rs := [.tmp 2]) (nt := 17) rfl rfl fun hwf Q hQ => ?_
  iterate 2
    refine AW.seq_k fun K hK => ?_
    refine AW.region (by decide) ?_
    simp only [push_cast, simprocAttr, u64l_len]
    refine Thn_n ?_
    refine hK _ _ ?_
    clear hK K
  refine AW.seq_k fun K hK => ?_
  refine AW.seq_k fun K hK => ?_
  refine AW.nilTm 57 1 3 (by simp only [push_cast, simprocAttr]) ?_
  try simp only [push_cast, simprocAttr]
  refine AW.region (by decide) ?_
  simp only [push_cast, simprocAttr, u64l_len]
  refine Thn_n ?_
  refine hK _ _ ?_
  clear hK K
  refine AW.block ?_
  refine AW.loopK [] (fun i => i ≤ (4 : Nat)) (fun i => [(0, .one (.int .u64 (splX x i))), (3, .one (.sl m.length i 0 i)), (4, .one (.int .i64 (i : Int)))]) (fun i => [(m.length, ⟨.grow, 57, i, 1, u64l (splL x i)⟩)]) (fun i => 4 - i) 0 (by omega) ?_ ?_ fun i hi5 => ?_
  · first | rfl | (simp only [Keeps, Tm.get_cons, Nat.reduceEqDiff, ↓reduceIte, if_true, if_false, ite_true, ite_false, true_and, and_true, and_self, reduceCtorEq, splX, splL, u64l, List.map_nil, Int.natCast_zero] <;> rfl)
  · first | rfl | (simp only [setAll, push_cast, simprocAttr, u64l_len, splX, splL, u64l, List.map_nil, Int.natCast_zero] <;> rfl)
  have hi4 : i ≤ 4 := hi5
  have hll := splL_len x i
  have q1 : i + 1 ≤ 140737488355328 := by omega
  have q2 : (i + 1) * 8 ≤ 140737488355328 := by omega
  try simp only [keepL, setAll, push_cast, simprocAttr, u64l_len]
  refine AW.seq_k fun K hK => ?_
  refine AW.seq_k fun K hK => ?_
  refine AW.region (by decide) ?_
  simp only [push_cast, simprocAttr, u64l_len]
  refine Thn_n ?_
  refine hK _ _ ?_
  clear hK K
  refine AW.cond rfl (fun h6 => ?_) (fun h6 => ?_)
  · have hlt : i < 4 := by have := of_decide_eq_true h6; omega
    refine AW.skip ?_
    refine Thn_n ?_
    refine hK _ _ ?_
    clear hK K
    refine AW.seq_k fun K hK => ?_
    refine AW.block ?_
    refine AW.seq_k fun K hK => ?_
    refine AW.region (by decide) ?_
    simp only [push_cast, simprocAttr, u64l_len, hll, q1, q2]
    refine Thn_n ?_
    refine hK _ _ ?_
    clear hK K
    refine AW.region (by decide) ?_
    simp only [push_cast, simprocAttr, u64l_len, hll, q1, q2]
    refine InB_n ?_
    refine Thn_n ?_
    refine hK _ _ ?_
    clear hK K
    refine AW.region (by decide) ?_
    simp only [push_cast, simprocAttr, u64l_len, hll, q1, q2]
    refine Thn_n ?_
    have hwi : IntKind.i64.wrap ((i:Int)+1) = (i:Int)+1 := wi (by omega)
    refine ⟨i + 1, hlt, by omega, ?_⟩
    try simp only [keepL, setAll, push_cast, simprocAttr, u64l_len, hll, q1, q2, hwi, splX, splL, w64, u64l_snoc]
    exact Weak.to (extra := [_]) (by simp only [Keeps, Tm.get_cons, Nat.reduceEqDiff, ↓reduceIte, if_true, if_false, ite_true, ite_false, true_and, and_true, and_self, reduceCtorEq, hwi, splX, splL, w64, u64l_snoc]) (by first | rfl | (simp only [List.append_assoc, List.cons_append, List.nil_append]; rfl)) (by first | rfl | (simp [AV.below, CV.below, u64l_below]; done) | (simp [AV.below, CV.below, u64l_below]; omega)) (by
      first | exact hwf | refine MWf.app (hwf.grow (by simp)) ?_
      repeat (first | exact MWf_nil | (refine MWf_cons ?_ ?_; · first | rfl | (simp [CV.below, u64l_below]; done) | (simp [CV.below, u64l_below]; omega))))
  · have hie : i = 4 := by have := of_decide_eq_false h6; omega
    subst hie
    refine AW.exit ?_
    refine Thn_e ?_
    clear hK K
    refine Thn_e ?_
    refine InB_here ?_
    refine Thn_n ?_
    refine hK _ _ ?_
    clear hK K
    refine AW.seq_k fun K hK => ?_
    refine AW.region (by decide) ?_
    simp only [push_cast, simprocAttr, u64l_len]
    refine Thn_n ?_
    refine hK _ _ ?_
    clear hK K
    refine AW.ret ?_
    refine hQ _ _ _ ?_
    refine RetP.pick [(m.length, 4)] (Or.inr rfl) ?_ ?_ ?_ hwf ?_
    · simp only [resA, resOne, resTv, AV.tv, push_cast, simprocAttr]
      simp [renV, renT, renL, renC, renIdx]
    · simp only [picks, push_cast, simprocAttr] <;> rfl
    · simp [distinctFrom]
    · exact MWf_one (u64l_below _ _)
    
theorem product_c (ra va rb vb : Nat) (a b : List Int) (m : AMem) (ha : (∃ k ez, m[ra]? = some ⟨k, 57, va, ez, u64l a⟩)) (hb : (∃ k ez, m[rb]? = some ⟨k, 57, vb, ez, u64l b⟩)) (la : a.length ≤ 100) (lb : b.length ≤ 100) : Ctr Try.prog 34 [.one (.sl ra va 0 a.length), .one (.sl rb vb 0 b.length)] m (.one (.sl m.length 0 0 (a.length + b.length))) (m ++ [⟨.grow, 57, 0, 1, u64l (prodI a b)⟩]) := by
  refine Ctr.enter Try.func34 rfl (by decide) (rs := [.tmp 4]) (nt := 71) rfl rfl fun hwf Q hQ => ?_
  obtain ⟨k1, e1, ha⟩ := ha
  obtain ⟨k2, e2, hb⟩ := hb
  have lra := get_lt ha
  have lrb := get_lt hb
  have ws : IntKind.i64.wrap ((a.length : Int) + (b.length : Int)) = ((a.length + b.length : Nat) : Int) := by rw [IntKind.wrap_i64]; omega
  have n0 : (0 : Int) ≤ (a.length : Int) + (b.length : Int) := by omega
  have n1 : 8 * ((a.length : Int) + (b.length : Int)) ≤ 281474976710656 := by omega
  have n2 : (a.length : Int) + (b.length : Int) ≤ 281474976710656 := by omega
  have n3 : ((a.length : Int) + (b.length : Int)).toNat = a.length + b.length := by omega
  have hz := u64l_zero (a.length + b.length)
  simp only [push_cast, simprocAttr] at hz ws
  iterate 2
    refine AW.seq_k fun K hK => ?_
    refine AW.region (by decide) ?_
    simp only [push_cast, simprocAttr, ws, n0, n1, n2, n3, hz, ha, lk_old ha, hb, lk_old hb, u64l_len, Int.le_refl, Nat.le_refl, w64, u64l_set]
    refine Thn_n ?_
    refine hK _ _ ?_
    clear hK K
  refine AW.seq_k fun K hK => ?_
  refine AW.seq_k fun K hK => ?_
  refine AW.region (by decide) ?_
  simp only [push_cast, simprocAttr, ws, n0, n1, n2, n3, hz, ha, lk_old ha, hb, lk_old hb, u64l_len, Int.le_refl, Nat.le_refl, w64, u64l_set]
  refine Thn_n ?_
  refine hK _ _ ?_
  clear hK K
  refine AW.block ?_
  refine AW.loopK [0, 1, 5] (fun i => i ≤ a.length) (fun i => [(6, .one (.int .i64 (i : Int)))]) (fun i => [(m.length, ⟨.grow, 57, 0, 1, u64l (prI a b i)⟩)]) (fun i => a.length - i) 0 (by omega) ?_ ?_ fun i hi5 => ?_
  · first | rfl | (simp only [Keeps, Tm.get_cons, Nat.reduceEqDiff, ↓reduceIte, if_true, if_false, ite_true, ite_false, true_and, and_true, and_self, reduceCtorEq, prI, Int.natCast_zero] <;> rfl)
  · first | rfl | (simp only [setAll, push_cast, simprocAttr, ws, n0, n1, n2, n3, hz, ha, lk_old ha, hb, lk_old hb, u64l_len, Int.le_refl, Nat.le_refl, w64, u64l_set, prI, Int.natCast_zero] <;> rfl)
  have hi : i ≤ a.length := hi5
  have hpl := prI_len a b i
  try simp only [keepL, setAll, push_cast, simprocAttr, ws, n0, n1, n2, n3, hz, ha, lk_old ha, hb, lk_old hb, u64l_len, Int.le_refl, Nat.le_refl, w64, u64l_set]
  refine AW.seq_k fun K hK => ?_
  refine AW.seq_k fun K hK => ?_
  refine AW.region (by decide) ?_
  simp only [push_cast, simprocAttr, ws, n0, n1, n2, n3, hz, ha, lk_old ha, hb, lk_old hb, u64l_len, Int.le_refl, Nat.le_refl, w64, u64l_set]
  refine Thn_n ?_
  refine hK _ _ ?_
  clear hK K
  refine AW.cond rfl (fun h19 => ?_) (fun h19 => ?_)
  · have hlt : i < a.length := by have := of_decide_eq_true h19; omega
    have c1 : (0 : Int) ≤ (i : Int) := by omega
    have c2 : (i : Int) < (a.length : Int) := by omega
    have ga := u64l_get hlt
    refine AW.skip ?_
    refine Thn_n ?_
    refine hK _ _ ?_
    clear hK K
    refine AW.seq_k fun K hK => ?_
    refine AW.block ?_
    refine AW.seq_k fun K hK => ?_
    refine AW.region (by decide) ?_
    simp only [push_cast, simprocAttr, ws, n0, n1, n2, n3, hz, ha, lk_old ha, hb, lk_old hb, u64l_len, Int.le_refl, Nat.le_refl, w64, u64l_set, c1, c2, ga]
    refine Thn_n ?_
    refine hK _ _ ?_
    clear hK K
    refine AW.seq_k fun K hK => ?_
    refine AW.seq_k fun K hK => ?_
    refine AW.region (by decide) ?_
    simp only [push_cast, simprocAttr, ws, n0, n1, n2, n3, hz, ha, lk_old ha, hb, lk_old hb, u64l_len, Int.le_refl, Nat.le_refl, w64, u64l_set, c1, c2, ga]
    refine Thn_n ?_
    refine hK _ _ ?_
    clear hK K
    refine AW.block ?_
    refine AW.loopK [0, 1, 5, 6] (fun k => k ≤ b.length) (fun k => [(7, .one (.int .u64 (prJ (prI a b i) a b i k).2)), (8, .one (.int .i64 (k : Int)))]) (fun k => [(m.length, ⟨.grow, 57, 0, 1, u64l (prJ (prI a b i) a b i k).1⟩)]) (fun k => b.length - k) 0 (by omega) ?_ ?_ fun k hi12 => ?_
    · first | rfl | (simp only [Keeps, Tm.get_cons, Nat.reduceEqDiff, ↓reduceIte, if_true, if_false, ite_true, ite_false, true_and, and_true, and_self, reduceCtorEq, prJ, Int.natCast_zero] <;> rfl)
    · first | rfl | (simp only [setAll, push_cast, simprocAttr, ws, n0, n1, n2, n3, hz, ha, lk_old ha, hb, lk_old hb, u64l_len, Int.le_refl, Nat.le_refl, w64, u64l_set, c1, c2, ga, prJ, Int.natCast_zero] <;> rfl)
    have hk : k ≤ b.length := hi12
    have hjl := prJ_len (prI a b i) a b i k
    try simp only [keepL, setAll, push_cast, simprocAttr, ws, n0, n1, n2, n3, hz, ha, lk_old ha, hb, lk_old hb, u64l_len, Int.le_refl, Nat.le_refl, w64, u64l_set, c1, c2, ga]
    refine AW.seq_k fun K hK => ?_
    refine AW.seq_k fun K hK => ?_
    refine AW.region (by decide) ?_
    simp only [push_cast, simprocAttr, ws, n0, n1, n2, n3, hz, ha, lk_old ha, hb, lk_old hb, u64l_len, Int.le_refl, Nat.le_refl, w64, u64l_set, c1, c2, ga]
    refine Thn_n ?_
    refine hK _ _ ?_
    clear hK K
    refine AW.cond rfl (fun h25 => ?_) (fun h25 => ?_)
    · have hltk : k < b.length := by have := of_decide_eq_true h25; omega
      have c3 : (0 : Int) ≤ (k : Int) := by omega
      have c4 : (k : Int) < (b.length : Int) := by omega
      have gb := u64l_get hltk
      have w1 : IntKind.i64.wrap ((i : Int) + (k : Int)) = (i : Int) + (k : Int) := wi (by omega)
      have c5 : (0 : Int) ≤ (i : Int) + (k : Int) := by omega
      have c6 : (i : Int) + (k : Int) < (a.length : Int) + (b.length : Int) := by omega
      have c7 : ((i : Int) + (k : Int)).toNat = i + k := by omega
      have gj := u64l_get (xs := (prJ (prI a b i) a b i k).1) (i := i + k) (by omega)
      have c8 : i + k + 1 ≤ ((prJ (prI a b i) a b i k).1).length := by omega
      simp only [Nat.add_assoc] at c8
      refine AW.skip ?_
      refine Thn_n ?_
      refine hK _ _ ?_
      clear hK K
      refine AW.seq_k fun K hK => ?_
      refine AW.block ?_
      refine AW.seq_k fun K hK => ?_
      refine AW.draw [.val, .val, .val, .val, .val, .rd 0, .val, .val, .val, .rd 0, .val, .val, .val, .rd 0, .val, .val, .val, .val, .val] fol (by decide) (by kernel_rfl) ?_
      simp only [push_cast, simprocAttr, ws, n0, n1, n2, n3, hz, ha, lk_old ha, hb, lk_old hb, u64l_len, Int.le_refl, Nat.le_refl, w64, u64l_set, c1, c2, ga, c3, c4, c5, c6, c7, c8, gb, w1, gj]
      refine Thn_n ?_
      refine hK _ _ ?_
      clear hK K
      refine AW.seq_k fun K hK => ?_
      refine AW.region (by decide) ?_
      simp only [push_cast, simprocAttr, ws, n0, n1, n2, n3, hz, ha, lk_old ha, hb, lk_old hb, u64l_len, Int.le_refl, Nat.le_refl, w64, u64l_set, c1, c2, ga, c3, c4, c5, c6, c7, c8, gb, w1, gj]
      refine Thn_n ?_
      refine hK _ _ ?_
      clear hK K
      refine AW.region (by decide) ?_
      simp only [push_cast, simprocAttr, ws, n0, n1, n2, n3, hz, ha, lk_old ha, hb, lk_old hb, u64l_len, Int.le_refl, Nat.le_refl, w64, u64l_set, c1, c2, ga, c3, c4, c5, c6, c7, c8, gb, w1, gj]
      refine InB_n ?_
      refine Thn_n ?_
      refine hK _ _ ?_
      clear hK K
      refine AW.region (by decide) ?_
      simp only [push_cast, simprocAttr, ws, n0, n1, n2, n3, hz, ha, lk_old ha, hb, lk_old hb, u64l_len, Int.le_refl, Nat.le_refl, w64, u64l_set, c1, c2, ga, c3, c4, c5, c6, c7, c8, gb, w1, gj]
      refine Thn_n ?_
      have hwi : IntKind.i64.wrap ((k:Int)+1) = (k:Int)+1 := wi (by omega)
      have hj1 : (prJ (prI a b i) a b i (k + 1)).1 = ((prJ (prI a b i) a b i k).1).set (i + k) ((w64 (w64 (((prJ (prI a b i) a b i k).1).getD (i + k) 0 + w64 (a.getD i 0 * b.getD k 0)) + (prJ (prI a b i) a b i k).2)).tmod 65536) := rfl
      have hj2 : (prJ (prI a b i) a b i (k + 1)).2 = w64 ((w64 (w64 (((prJ (prI a b i) a b i k).1).getD (i + k) 0 + w64 (a.getD i 0 * b.getD k 0)) + (prJ (prI a b i) a b i k).2)).tdiv 65536) := rfl
      refine ⟨k + 1, hltk, by omega, ?_⟩
      try simp only [keepL, setAll, push_cast, simprocAttr, ws, n0, n1, n2, n3, hz, ha, lk_old ha, hb, lk_old hb, u64l_len, Int.le_refl, Nat.le_refl, w64, u64l_set, c1, c2, ga, c3, c4, c5, c6, c7, c8, gb, w1, gj, hwi, hj1, hj2]
      exact Weak.same (by simp only [Keeps, Tm.get_cons, Nat.reduceEqDiff, ↓reduceIte, if_true, if_false, ite_true, ite_false, true_and, and_true, and_self, reduceCtorEq, hwi, hj1, hj2]) (by first | rfl | simp only [Keeps, Tm.get_cons, Nat.reduceEqDiff, ↓reduceIte, if_true, if_false, ite_true, ite_false, true_and, and_true, and_self, reduceCtorEq, hwi, hj1, hj2])
    · have hke : k = b.length := by have := of_decide_eq_false h25; omega
      subst hke
      have w1 : IntKind.i64.wrap ((i : Int) + (b.length : Int)) = (i : Int) + (b.length : Int) := wi (by omega)
      have c5 : (0 : Int) ≤ (i : Int) + (b.length : Int) := by omega
      have c6 : (i : Int) + (b.length : Int) < (a.length : Int) + (b.length : Int) := by omega
      have c7 : ((i : Int) + (b.length : Int)).toNat = i + b.length := by omega
      have gj := u64l_get (xs := (prJ (prI a b i) a b i b.length).1) (i := i + b.length) (by omega)
      have c8 : i + b.length + 1 ≤ ((prJ (prI a b i) a b i b.length).1).length := by omega
      simp only [Nat.add_assoc] at c8
      refine AW.exit ?_
      refine Thn_e ?_
      clear hK K
      refine Thn_e ?_
      refine InB_here ?_
      refine Thn_n ?_
      refine hK _ _ ?_
      clear hK K
      refine AW.region (by decide) ?_
      simp only [push_cast, simprocAttr, ws, n0, n1, n2, n3, hz, ha, lk_old ha, hb, lk_old hb, u64l_len, Int.le_refl, Nat.le_refl, w64, u64l_set, c1, c2, ga, w1, c5, c6, c7, c8, gj]
      refine InB_n ?_
      refine Thn_n ?_
      refine hK _ _ ?_
      clear hK K
      refine AW.region (by decide) ?_
      simp only [push_cast, simprocAttr, ws, n0, n1, n2, n3, hz, ha, lk_old ha, hb, lk_old hb, u64l_len, Int.le_refl, Nat.le_refl, w64, u64l_set, c1, c2, ga, w1, c5, c6, c7, c8, gj]
      refine Thn_n ?_
      have hwi : IntKind.i64.wrap ((i:Int)+1) = (i:Int)+1 := wi (by omega)
      have hnx : prI a b (i + 1) = ((prJ (prI a b i) a b i b.length).1).set (i + b.length) (w64 (((prJ (prI a b i) a b i b.length).1).getD (i + b.length) 0 + (prJ (prI a b i) a b i b.length).2)) := rfl
      refine ⟨i + 1, hlt, by omega, ?_⟩
      try simp only [keepL, setAll, push_cast, simprocAttr, ws, n0, n1, n2, n3, hz, ha, lk_old ha, hb, lk_old hb, u64l_len, Int.le_refl, Nat.le_refl, w64, u64l_set, c1, c2, ga, w1, c5, c6, c7, c8, gj, hwi, hnx]
      exact Weak.same (by simp only [Keeps, Tm.get_cons, Nat.reduceEqDiff, ↓reduceIte, if_true, if_false, ite_true, ite_false, true_and, and_true, and_self, reduceCtorEq, hwi, hnx]) (by first | rfl | simp only [Keeps, Tm.get_cons, Nat.reduceEqDiff, ↓reduceIte, if_true, if_false, ite_true, ite_false, true_and, and_true, and_self, reduceCtorEq, hwi, hnx])
  · have hie : i = a.length := by have := of_decide_eq_false h19; omega
    subst hie
    refine AW.exit ?_
    refine Thn_e ?_
    clear hK K
    refine Thn_e ?_
    refine InB_here ?_
    refine Thn_n ?_
    refine hK _ _ ?_
    clear hK K
    refine AW.seq_k fun K hK => ?_
    refine AW.region (by decide) ?_
    simp only [push_cast, simprocAttr, ws, n0, n1, n2, n3, hz, ha, lk_old ha, hb, lk_old hb, u64l_len, Int.le_refl, Nat.le_refl, w64, u64l_set]
    refine Thn_n ?_
    refine hK _ _ ?_
    clear hK K
    refine AW.ret ?_
    refine hQ _ _ _ ?_
    refine RetP.pick [(m.length, 0)] (Or.inr rfl) ?_ ?_ ?_ hwf ?_
    · simp only [resA, resOne, resTv, AV.tv, push_cast, simprocAttr]
      simp [renV, renT, renL, renC, renIdx]
    · simp only [picks, push_cast, simprocAttr] <;> rfl
    · simp [distinctFrom]
    · exact MWf_one (u64l_below _ _)
    
end Go.Proofs.Ytmjbbnfmhgcfaaa

set_option linter.unusedSimpArgs false
set_option linter.unusedVariables false
set_option maxRecDepth 100000
set_option maxHeartbeats 4000000
namespace Go.Proofs.Ytmjbbnfmhgcfaaa
open Go Go.Eng

theorem prod44_c (ra va rb vb : Nat) (x : Int) (m : AMem) (ha : (∃ k ez, m[ra]? = some ⟨k, 57, va, ez, u64l (splL x 4)⟩)) (hb : (∃ k ez, m[rb]? = some ⟨k, 57, vb, ez, u64l (splL x 4)⟩)) : Ctr Try.prog 34 [.one (.sl ra va 0 4), .one (.sl rb vb 0 4)] m (.one (.sl m.length 0 0 8)) (m ++ [⟨.grow, 57, 0, 1, u64l (prodI (splL x 4) (splL x 4))⟩]) := by
  have l1 : (prodI (splL x 4) (splL x 4)).length = 8 := by simp [prodI, prI_len, splL_len]
  have h := product_c ra va rb vb (splL x 4) (splL x 4) m ha hb (by first | (rw [splL_len]; decide) | (rw [l1]; decide)) (by rw [splL_len]; decide)
  simpa only [splL_len, l1] using h
theorem prod84_c (ra va rb vb : Nat) (x : Int) (m : AMem) (ha : (∃ k ez, m[ra]? = some ⟨k, 57, va, ez, u64l (prodI (splL x 4) (splL x 4))⟩)) (hb : (∃ k ez, m[rb]? = some ⟨k, 57, vb, ez, u64l (splL x 4)⟩)) : Ctr Try.prog 34 [.one (.sl ra va 0 8), .one (.sl rb vb 0 4)] m (.one (.sl m.length 0 0 12)) (m ++ [⟨.grow, 57, 0, 1, u64l (prodI (prodI (splL x 4) (splL x 4)) (splL x 4))⟩]) := by
  have l1 : (prodI (splL x 4) (splL x 4)).length = 8 := by simp [prodI, prI_len, splL_len]
  have h := product_c ra va rb vb (prodI (splL x 4) (splL x 4)) (splL x 4) m ha hb (by first | (rw [splL_len]; decide) | (rw [l1]; decide)) (by rw [splL_len]; decide)
  simpa only [splL_len, l1] using h
theorem third_c (x n : Int) (m : AMem) : Ctr Try.prog 28 [.one (.int .u64 x), .one (.int .u64 n)] m (.one (.bool (thirdI x n))) m := by
  refine Ctr.enter Try.func28 rfl (by decide) (rs := [.tmp 4]) (nt := 49) rfl rfl fun hwf Q hQ => ?_
  have hs12 : (((12 : Nat) : Nat) : Int) - 1 = 11 := by decide
  have hw : u64l (wantL n) = [.int .u64 0, .int .u64 0, .int .u64 0, .int .u64 0, .int .u64 0, .int .u64 0, .int .u64 n, .int .u64 0, .int .u64 0, .int .u64 0, .int .u64 0, .int .u64 0] := rfl
  have hcl := cubL_len x
  have hwl : (wantL n).length = 12 := rfl
  have hc : prodI (prodI (splL x 4) (splL x 4)) (splL x 4) = cubL x := rfl
  have hth : thirdI x n = thJ (cubL x) (wantL n) 12 := rfl
  refine AW.seq_k fun K hK => ?_
  refine AW.region (by decide) ?_
  simp only [push_cast, simprocAttr, u64l_len, hc]
  refine Thn_n ?_
  refine hK _ _ ?_
  clear hK K
  refine AW.seq_k fun K hK => ?_
  refine AW.region (by decide) ?_
  iterate 2
    simp only [push_cast, simprocAttr, u64l_len, hc]
    refine CThen.by (split_c _ _) ?_
  simp only [push_cast, simprocAttr, u64l_len, hc]
  refine CThen.by (prod44_c m.length 0 (m.length + 1) 0 x _ ⟨.grow, 1, by simp only [push_cast, simprocAttr]⟩ ⟨.grow, 1, by simp only [push_cast, simprocAttr]⟩) ?_
  simp only [push_cast, simprocAttr, u64l_len, hc]
  refine Thn_n ?_
  refine hK _ _ ?_
  clear hK K
  refine AW.seq_k fun K hK => ?_
  refine AW.region (by decide) ?_
  simp only [push_cast, simprocAttr, u64l_len, hc]
  refine CThen.by (split_c _ _) ?_
  simp only [push_cast, simprocAttr, u64l_len, hc]
  refine CThen.by (prod84_c (m.length + 2) 0 (m.length + 3) 0 x _ ⟨.grow, 1, by simp only [push_cast, simprocAttr]⟩ ⟨.grow, 1, by simp only [push_cast, simprocAttr]⟩) ?_
  iterate 2
    simp only [push_cast, simprocAttr, u64l_len, hc]
    refine Thn_n ?_
    refine hK _ _ ?_
    clear hK K
    refine AW.seq_k fun K hK => ?_
    refine AW.region (by decide) ?_
  simp only [push_cast, simprocAttr, u64l_len, hc]
  refine Thn_n ?_
  refine hK _ _ ?_
  clear hK K
  refine AW.seq_k fun K hK => ?_
  refine AW.seq_k fun K hK => ?_
  refine AW.region (by decide) ?_
  simp only [push_cast, simprocAttr, u64l_len, hc]
  refine Thn_n ?_
  refine hK _ _ ?_
  clear hK K
  refine AW.block ?_
  refine AW.loopK [6, 7] (fun i => i ≤ (12 : Nat) ∧ thirdI x n = thJ (cubL x) (wantL n) i) (fun i => [(8, .one (.int .i64 ((i : Int) - 1)))]) (fun i => [(m.length + 5, ⟨.grow, 57, 0, 1, u64l (wantL n)⟩)]) (fun i => i) 12 ⟨by decide, hth⟩ ?_ ?_ fun i hi8 => ?_
  · first | rfl | (simp only [Keeps, Tm.get_cons, Nat.reduceEqDiff, ↓reduceIte, if_true, if_false, ite_true, ite_false, true_and, and_true, and_self, reduceCtorEq, hw, hs12] <;> rfl)
  · first | rfl | (simp only [setAll, push_cast, simprocAttr, u64l_len, hc, hw, hs12] <;> rfl)
  obtain ⟨hi12, hit⟩ := hi8
  try simp only [keepL, setAll, push_cast, simprocAttr, u64l_len, hc]
  refine AW.seq_k fun K hK => ?_
  refine AW.seq_k fun K hK => ?_
  refine AW.region (by decide) ?_
  simp only [push_cast, simprocAttr, u64l_len, hc]
  refine Thn_n ?_
  refine hK _ _ ?_
  clear hK K
  refine AW.cond rfl (fun h28 => ?_) (fun h28 => ?_)
  · obtain ⟨j, rfl⟩ : ∃ j, i = j + 1 := ⟨i - 1, by have := of_decide_eq_true h28; omega⟩
    have hj1 : ((j + 1 : Nat) : Int) - 1 = (j : Int) := by omega
    simp only [push_cast, simprocAttr] at hj1
    have c1 : (0 : Int) ≤ (j : Int) := by omega
    have c2 : (j : Int) < 12 := by omega
    have g1 := u64l_get (xs := cubL x) (i := j) (by omega)
    have g2 := u64l_get (xs := wantL n) (i := j) (by omega)
    refine AW.skip ?_
    refine Thn_n ?_
    refine hK _ _ ?_
    clear hK K
    refine AW.seq_k fun K hK => ?_
    refine AW.block ?_
    refine AW.seq_k fun K hK => ?_
    refine AW.draw [.val, .val, .val, .rd 0, .val, .val, .val, .rd 0, .val] fol (by decide) (by kernel_rfl) ?_
    simp only [push_cast, simprocAttr, u64l_len, hc, hj1, c1, c2, g1, g2]
    refine Thn_n ?_
    refine hK _ _ ?_
    clear hK K
    refine AW.cond rfl (fun h39 => ?_) (fun h39 => ?_)
    · have hne : ¬ (cubL x).getD j 0 = (wantL n).getD j 0 := by simpa using h39
      have hres : thirdI x n = decide ((cubL x).getD j 0 < (wantL n).getD j 0) := by rw [hit]; simp only [thJ, if_neg hne]
      refine AW.seq_k fun K hK => ?_
      refine AW.draw [.val, .val, .val, .rd 0, .val, .val, .val, .rd 0, .val, .val] fol (by decide) (by kernel_rfl) ?_
      simp only [push_cast, simprocAttr, u64l_len, hc, hj1, c1, c2, g1, g2, hres]
      refine Thn_n ?_
      refine hK _ _ ?_
      clear hK K
      refine AW.ret ?_
      refine InB_r ?_
      refine Thn_r ?_
      refine Thn_r ?_
      refine InB_r ?_
      refine Thn_r ?_
      refine hQ _ _ _ ?_
      first | refine RetP.drop0 (Or.inr rfl) ?_ ?_ hwf | refine RetP.drop (Or.inr rfl) ?_ ?_ hwf
      · simp only [resA, resOne, resTv, AV.tv, push_cast, simprocAttr, u64l_len, hc, hj1, c1, c2, g1, g2, hres]
      · rfl
    · have hne : (cubL x).getD j 0 = (wantL n).getD j 0 := by simpa using h39
      have hnx : thirdI x n = thJ (cubL x) (wantL n) j := by rw [hit]; simp only [thJ, if_pos hne]
      refine AW.skip ?_
      refine InB_n ?_
      refine Thn_n ?_
      refine hK _ _ ?_
      clear hK K
      refine AW.region (by decide) ?_
      simp only [push_cast, simprocAttr, u64l_len, hc, hj1, c1, c2, g1, g2]
      refine Thn_n ?_
      have hwi : IntKind.i64.wrap ((j : Int) - 1) = (j : Int) - 1 := by rw [IntKind.wrap_i64]; omega
      refine ⟨j, ⟨by omega, hnx⟩, by omega, ?_⟩
      try simp only [keepL, setAll, push_cast, simprocAttr, u64l_len, hc, hj1, c1, c2, g1, g2, hwi]
      exact Weak.same (by simp only [Keeps, Tm.get_cons, Nat.reduceEqDiff, ↓reduceIte, if_true, if_false, ite_true, ite_false, true_and, and_true, and_self, reduceCtorEq, hwi]) (by first | rfl | simp only [Keeps, Tm.get_cons, Nat.reduceEqDiff, ↓reduceIte, if_true, if_false, ite_true, ite_false, true_and, and_true, and_self, reduceCtorEq, hwi])
  · have hie : i = 0 := by have := of_decide_eq_false h28; omega
    subst hie
    have hres : thirdI x n = true := hit
    refine AW.exit ?_
    refine Thn_e ?_
    clear hK K
    refine Thn_e ?_
    refine InB_here ?_
    refine Thn_n ?_
    refine hK _ _ ?_
    clear hK K
    refine AW.seq_k fun K hK => ?_
    refine AW.region (by decide) ?_
    simp only [push_cast, simprocAttr, u64l_len, hc, hres]
    refine Thn_n ?_
    refine hK _ _ ?_
    clear hK K
    refine AW.ret ?_
    refine hQ _ _ _ ?_
    first | refine RetP.drop0 (Or.inr rfl) ?_ ?_ hwf | refine RetP.drop (Or.inr rfl) ?_ ?_ hwf
    · simp only [resA, resOne, resTv, AV.tv, push_cast, simprocAttr, u64l_len, hc, hres]
    · rfl
theorem cube_c (n : Int) (m : AMem) : Ctr Try.prog 19 [.one (.int .u64 n)] m (.one (.int .u32 (cubeI n))) m := by
  refine Ctr.enter Try.func19 rfl (by decide) (rs := [.tmp 2]) (nt := 20) rfl rfl fun hwf Q hQ => ?_
  iterate 2
    refine AW.seq_k fun K hK => ?_
    refine AW.region (by decide) ?_
    simp only [push_cast, simprocAttr, w64]
    refine Thn_n ?_
    refine hK _ _ ?_
    clear hK K
  refine AW.seq_k fun K hK => ?_
  refine AW.seq_k fun K hK => ?_
  refine AW.region (by decide) ?_
  simp only [push_cast, simprocAttr, w64]
  refine Thn_n ?_
  refine hK _ _ ?_
  clear hK K
  refine AW.block ?_
  refine AW.loopK [0] (fun t => t ≤ (36 : Nat)) (fun t => [(3, .one (.int .u64 (cubeX n t))), (4, .one (.int .u64 (bitR 34359738368 t)))]) (fun t => []) (fun t => 36 - t) 0 (by omega) ?_ ?_ fun t hi5 => ?_
  · first | rfl | (simp only [Keeps, Tm.get_cons, Nat.reduceEqDiff, ↓reduceIte, if_true, if_false, ite_true, ite_false, true_and, and_true, and_self, reduceCtorEq, bitR, cubeX] <;> rfl)
  · first | rfl | (simp only [setAll, push_cast, simprocAttr, w64, bitR, cubeX] <;> rfl)
  have ht : t ≤ 36 := hi5
  try simp only [keepL, setAll, push_cast, simprocAttr, w64]
  refine AW.seq_k fun K hK => ?_
  refine AW.seq_k fun K hK => ?_
  refine AW.region (by decide) ?_
  simp only [push_cast, simprocAttr, w64]
  refine Thn_n ?_
  refine hK _ _ ?_
  clear hK K
  refine AW.cond rfl (fun h6 => ?_) (fun h6 => ?_)
  · have hlt : t < 36 := by
      have h1 := of_decide_eq_true h6
      rcases Nat.lt_or_ge t 36 with h | h
      · exact h
      · obtain rfl : t = 36 := by omega
        rw [bitC_end] at h1; exact absurd h1 (by decide)
    refine AW.skip ?_
    refine Thn_n ?_
    refine hK _ _ ?_
    clear hK K
    refine AW.seq_k fun K hK => ?_
    refine AW.block ?_
    refine AW.seq_k fun K hK => ?_
    refine AW.region (by decide) ?_
    simp only [push_cast, simprocAttr, w64]
    refine CThen.by (third_c _ _ _) ?_
    simp only [push_cast, simprocAttr, w64]
    refine Thn_n ?_
    refine hK _ _ ?_
    clear hK K
    refine AW.cond rfl (fun h13 => ?_) (fun h13 => ?_)
    · have hnx : cubeX n (t + 1) = IntKind.u64.wrap (cubeX n t + bitR 34359738368 t) := by simp only [cubeX, w64]; exact if_pos h13
      refine AW.region (by decide) ?_
      simp only [push_cast, simprocAttr, w64]
      refine InB_n ?_
      refine Thn_n ?_
      refine hK _ _ ?_
      clear hK K
      refine AW.region (by decide) ?_
      simp only [push_cast, simprocAttr, w64]
      refine Thn_n ?_
      refine ⟨t + 1, hlt, by omega, ?_⟩
      try simp only [keepL, setAll, push_cast, simprocAttr, w64, bitR, w64, hnx]
      exact Weak.same (by simp only [Keeps, Tm.get_cons, Nat.reduceEqDiff, ↓reduceIte, if_true, if_false, ite_true, ite_false, true_and, and_true, and_self, reduceCtorEq, bitR, w64, hnx]) (by first | rfl | simp only [Keeps, Tm.get_cons, Nat.reduceEqDiff, ↓reduceIte, if_true, if_false, ite_true, ite_false, true_and, and_true, and_self, reduceCtorEq, bitR, w64, hnx])
    · have hnx : cubeX n (t + 1) = cubeX n t := by simp only [cubeX, w64]; exact if_neg (by rw [h13]; decide)
      refine AW.skip ?_
      refine InB_n ?_
      refine Thn_n ?_
      refine hK _ _ ?_
      clear hK K
      refine AW.region (by decide) ?_
      simp only [push_cast, simprocAttr, w64]
      refine Thn_n ?_
      refine ⟨t + 1, hlt, by omega, ?_⟩
      try simp only [keepL, setAll, push_cast, simprocAttr, w64, bitR, w64, hnx]
      exact Weak.same (by simp only [Keeps, Tm.get_cons, Nat.reduceEqDiff, ↓reduceIte, if_true, if_false, ite_true, ite_false, true_and, and_true, and_self, reduceCtorEq, bitR, w64, hnx]) (by first | rfl | simp only [Keeps, Tm.get_cons, Nat.reduceEqDiff, ↓reduceIte, if_true, if_false, ite_true, ite_false, true_and, and_true, and_self, reduceCtorEq, bitR, w64, hnx])
  · have hte : t = 36 := by
      have h1 := of_decide_eq_false h6
      rcases Nat.lt_or_ge t 36 with h | h
      · exact absurd (bitC_pos ⟨t, h⟩) h1
      · omega
    subst hte
    refine AW.exit ?_
    refine Thn_e ?_
    clear hK K
    refine Thn_e ?_
    refine InB_here ?_
    refine Thn_n ?_
    refine hK _ _ ?_
    clear hK K
    refine AW.seq_k fun K hK => ?_
    refine AW.region (by decide) ?_
    simp only [push_cast, simprocAttr, w64]
    refine Thn_n ?_
    refine hK _ _ ?_
    clear hK K
    refine AW.ret ?_
    refine hQ _ _ _ ?_
    first | refine RetP.drop0 (Or.inr rfl) ?_ ?_ hwf | refine RetP.drop (Or.inr rfl) ?_ ?_ hwf
    · simp only [resA, resOne, resTv, AV.tv, push_cast, simprocAttr, w64, cubeI]
    · rfl
def pfl (L : List Int) (p : Int) : Nat → Bool
  | 0 => true
  | i + 1 => if p.tmod (L.getD i 0) = 0 then false else pfl L p i
def prL : Nat → List Int
  | 0 => []
  | k + 1 => if pfl (prL k) ((k : Int) + 2) (prL k).length then prL k ++ [(k : Int) + 2] else prL k
theorem prL_pos : ∀ k, ∀ x, x ∈ prL k → 2 ≤ x
  | 0, x, h => by cases h
  | k + 1, x, h => by
    simp only [prL] at h
    split at h
    · rcases List.mem_append.1 h with h | h
      · exact prL_pos k x h
      · simp at h; omega
    · exact prL_pos k x h
theorem prL_mono : ∀ (d k : Nat), (prL k).length ≤ (prL (k + d)).length
  | 0, k => Nat.le_refl _
  | d + 1, k => by
    have := prL_mono d k
    rw [show k + (d + 1) = (k + d) + 1 from rfl]
    simp only [prL]
    split
    · rw [List.length_append]; omega
    · exact this
theorem prL_309 : (prL 309).length = 63 := by decide +kernel
theorem prL_310 : (prL 310).length = 64 := by decide +kernel
theorem primes_c (m : AMem) : Ctr Try.prog 17 [.one (.int .i64 64)] m (.one (.sl m.length 0 0 64)) (m ++ [⟨.grow, 57, 0, 1, u64l (prL 310)⟩]) := by
  refine Ctr.enter Try.func17 rfl (by decide) (rs := [.tmp 2]) (nt := 32) rfl rfl fun hwf Q hQ => ?_
  iterate 2
    refine AW.seq_k fun K hK => ?_
    refine AW.region (by decide) ?_
    simp only [push_cast, simprocAttr, u64l_len]
    refine Thn_n ?_
    refine hK _ _ ?_
    clear hK K
  refine AW.seq_k fun K hK => ?_
  refine AW.seq_k fun K hK => ?_
  refine AW.nilTm 57 1 3 (by simp only [push_cast, simprocAttr]) ?_
  try simp only [push_cast, simprocAttr]
  refine AW.region (by decide) ?_
  simp only [push_cast, simprocAttr, u64l_len]
  refine Thn_n ?_
  refine hK _ _ ?_
  clear hK K
  refine AW.block ?_
  refine AW.loopK [0] (fun k => k ≤ (310 : Nat)) (fun k => [(3, .one (.sl m.length (prL k).length 0 (prL k).length)), (4, .one (.int .u64 ((k : Int) + 2)))]) (fun k => [(m.length, ⟨.grow, 57, (prL k).length, 1, u64l (prL k)⟩)]) (fun k => 310 - k) 0 (by omega) ?_ ?_ fun k hi5 => ?_
  · first | rfl | (simp only [Keeps, Tm.get_cons, Nat.reduceEqDiff, ↓reduceIte, if_true, if_false, ite_true, ite_false, true_and, and_true, and_self, reduceCtorEq, prL, u64l, List.map_nil, List.length_nil, Int.natCast_zero, Int.zero_add] <;> rfl)
  · first | rfl | (simp only [setAll, push_cast, simprocAttr, u64l_len, prL, u64l, List.map_nil, List.length_nil, Int.natCast_zero, Int.zero_add] <;> rfl)
  have hk : k ≤ 310 := hi5
  have hmon : k ≤ 309 → (prL k).length ≤ 63 := fun h => by have := prL_mono (309 - k) k; rw [show k + (309 - k) = 309 by omega, prL_309] at this; exact this
  try simp only [keepL, setAll, push_cast, simprocAttr, u64l_len]
  refine AW.seq_k fun K hK => ?_
  refine AW.seq_k fun K hK => ?_
  refine AW.region (by decide) ?_
  simp only [push_cast, simprocAttr, u64l_len]
  refine Thn_n ?_
  refine hK _ _ ?_
  clear hK K
  refine AW.cond rfl (fun h10 => ?_) (fun h10 => ?_)
  · have hlt : k < 310 := by
      have h1 := of_decide_eq_true h10
      rcases Nat.lt_or_ge k 310 with h | h
      · exact h
      · obtain rfl : k = 310 := by omega
        rw [prL_310] at h1; omega
    have h63 := hmon (by omega)
    have hwk : IntKind.u64.wrap ((k : Int) + 2 + 1) = ((k + 1 : Nat) : Int) + 2 := by rw [IntKind.wrap_u64]; omega
    simp only [push_cast, simprocAttr] at hwk
    have q1 : (prL k).length + 1 ≤ 140737488355328 := by omega
    have q2 : ((prL k).length + 1) * 8 ≤ 140737488355328 := by omega
    refine AW.skip ?_
    refine Thn_n ?_
    refine hK _ _ ?_
    clear hK K
    refine AW.seq_k fun K hK => ?_
    refine AW.block ?_
    refine AW.seq_k fun K hK => ?_
    refine AW.region (by decide) ?_
    simp only [push_cast, simprocAttr, u64l_len, q1, q2]
    refine Thn_n ?_
    refine hK _ _ ?_
    clear hK K
    refine AW.seq_k fun K hK => ?_
    refine AW.seq_k fun K hK => ?_
    refine AW.region (by decide) ?_
    simp only [push_cast, simprocAttr, u64l_len, q1, q2]
    refine Thn_n ?_
    refine hK _ _ ?_
    clear hK K
    refine AW.block ?_
    refine AW.loopK [0, 3, 4] (fun i => i ≤ (prL k).length) (fun i => [(5, .one (.bool (pfl (prL k) ((k : Int) + 2) i))), (6, .one (.int .i64 (i : Int)))]) (fun i => []) (fun i => (prL k).length - i) 0 (by omega) ?_ ?_ fun i hi12 => ?_
    · first | rfl | (simp only [Keeps, Tm.get_cons, Nat.reduceEqDiff, ↓reduceIte, if_true, if_false, ite_true, ite_false, true_and, and_true, and_self, reduceCtorEq, pfl, Int.natCast_zero] <;> rfl)
    · first | rfl | (simp only [setAll, push_cast, simprocAttr, u64l_len, q1, q2, pfl, Int.natCast_zero] <;> rfl)
    try simp only [keepL, setAll, push_cast, simprocAttr, u64l_len, q1, q2]
    refine AW.seq_k fun K hK => ?_
    refine AW.seq_k fun K hK => ?_
    refine AW.region (by decide) ?_
    simp only [push_cast, simprocAttr, u64l_len, q1, q2]
    refine Thn_n ?_
    refine hK _ _ ?_
    clear hK K
    refine AW.cond rfl (fun h16 => ?_) (fun h16 => ?_)
    · have hlti : i < (prL k).length := by have := of_decide_eq_true h16; omega
      have c1 : (0 : Int) ≤ (i : Int) := by omega
      have c2 : (i : Int) < ((prL k).length : Int) := by omega
      have g := u64l_get hlti
      have hge : 2 ≤ (prL k).getD i 0 := prL_pos k _ (by rw [List.getD_eq_getElem?_getD, List.getElem?_eq_getElem hlti]; exact List.getElem_mem hlti)
      have c3 : ¬ (prL k).getD i 0 = 0 := by omega
      refine AW.skip ?_
      refine Thn_n ?_
      refine hK _ _ ?_
      clear hK K
      refine AW.seq_k fun K hK => ?_
      refine AW.block ?_
      refine AW.seq_k fun K hK => ?_
      refine AW.region (by decide) ?_
      simp only [push_cast, simprocAttr, u64l_len, q1, q2, c1, c2, c3, g]
      refine Thn_n ?_
      refine hK _ _ ?_
      clear hK K
      refine AW.cond rfl (fun h25 => ?_) (fun h25 => ?_)
      · have hpf : pfl (prL k) ((k : Int) + 2) (i + 1) = false := by simp only [pfl]; exact if_pos (by simpa using h25)
        refine AW.region (by decide) ?_
        simp only [push_cast, simprocAttr, u64l_len, q1, q2, c1, c2, c3, g]
        refine InB_n ?_
        refine Thn_n ?_
        refine hK _ _ ?_
        clear hK K
        refine AW.region (by decide) ?_
        simp only [push_cast, simprocAttr, u64l_len, q1, q2, c1, c2, c3, g]
        refine Thn_n ?_
        have hwi : IntKind.i64.wrap ((i:Int)+1) = (i:Int)+1 := wi (by omega)
        refine ⟨i + 1, hlti, by omega, ?_⟩
        try simp only [keepL, setAll, push_cast, simprocAttr, u64l_len, q1, q2, c1, c2, c3, g, hwi, hpf]
        exact Weak.same (by simp only [Keeps, Tm.get_cons, Nat.reduceEqDiff, ↓reduceIte, if_true, if_false, ite_true, ite_false, true_and, and_true, and_self, reduceCtorEq, hwi, hpf]) (by first | rfl | simp only [Keeps, Tm.get_cons, Nat.reduceEqDiff, ↓reduceIte, if_true, if_false, ite_true, ite_false, true_and, and_true, and_self, reduceCtorEq, hwi, hpf])
      · have hpf : pfl (prL k) ((k : Int) + 2) (i + 1) = pfl (prL k) ((k : Int) + 2) i := by simp only [pfl]; exact if_neg (by simpa using h25)
        refine AW.skip ?_
        refine InB_n ?_
        refine Thn_n ?_
        refine hK _ _ ?_
        clear hK K
        refine AW.region (by decide) ?_
        simp only [push_cast, simprocAttr, u64l_len, q1, q2, c1, c2, c3, g]
        refine Thn_n ?_
        have hwi : IntKind.i64.wrap ((i:Int)+1) = (i:Int)+1 := wi (by omega)
        refine ⟨i + 1, hlti, by omega, ?_⟩
        try simp only [keepL, setAll, push_cast, simprocAttr, u64l_len, q1, q2, c1, c2, c3, g, hwi, hpf]
        exact Weak.same (by simp only [Keeps, Tm.get_cons, Nat.reduceEqDiff, ↓reduceIte, if_true, if_false, ite_true, ite_false, true_and, and_true, and_self, reduceCtorEq, hwi, hpf]) (by first | rfl | simp only [Keeps, Tm.get_cons, Nat.reduceEqDiff, ↓reduceIte, if_true, if_false, ite_true, ite_false, true_and, and_true, and_self, reduceCtorEq, hwi, hpf])
    · have hie : i = (prL k).length := by have := of_decide_eq_false h16; omega
      subst hie
      refine AW.exit ?_
      refine Thn_e ?_
      clear hK K
      refine Thn_e ?_
      refine InB_here ?_
      refine Thn_n ?_
      refine hK _ _ ?_
      clear hK K
      refine AW.seq_k fun K hK => ?_
      refine AW.region (by decide) ?_
      simp only [push_cast, simprocAttr, u64l_len, q1, q2]
      refine Thn_n ?_
      refine hK _ _ ?_
      clear hK K
      refine AW.cond rfl (fun h26 => ?_) (fun h26 => ?_)
      · have hnx : prL (k + 1) = prL k ++ [(k : Int) + 2] := by simp only [prL]; exact if_pos h26
        have hsn := u64l_snoc (prL k) ((k : Int) + 2)
        have hnl : (prL k ++ [(k : Int) + 2]).length = (prL k).length + 1 := by rw [List.length_append]; rfl
        refine AW.region (by decide) ?_
        simp only [push_cast, simprocAttr, u64l_len, q1, q2, hsn, hnl]
        refine InB_n ?_
        refine Thn_n ?_
        refine hK _ _ ?_
        clear hK K
        refine AW.region (by decide) ?_
        simp only [push_cast, simprocAttr, u64l_len, q1, q2, hsn, hnl]
        refine Thn_n ?_
        refine ⟨k + 1, hlt, by omega, ?_⟩
        try simp only [keepL, setAll, push_cast, simprocAttr, u64l_len, q1, q2, hsn, hnl, hwk, hnx]
        first
          | exact Weak.same (by simp only [Keeps, Tm.get_cons, Nat.reduceEqDiff, ↓reduceIte, if_true, if_false, ite_true, ite_false, true_and, and_true, and_self, reduceCtorEq, hwk, hnx]) (by first | rfl | simp only [Keeps, Tm.get_cons, Nat.reduceEqDiff, ↓reduceIte, if_true, if_false, ite_true, ite_false, true_and, and_true, and_self, reduceCtorEq, hwk, hnx])
          | exact Weak.to (extra := [_]) (by simp only [Keeps, Tm.get_cons, Nat.reduceEqDiff, ↓reduceIte, if_true, if_false, ite_true, ite_false, true_and, and_true, and_self, reduceCtorEq, hwk, hnx]) (by first | rfl | (simp only [List.append_assoc, List.cons_append, List.nil_append]; rfl)) (by first | rfl | (simp [AV.below, CV.below, u64l_below]; done) | (simp [AV.below, CV.below, u64l_below]; omega)) (by
              first | exact hwf | refine MWf.app (hwf.grow (by simp)) ?_
              repeat (first | exact MWf_nil | (refine MWf_cons ?_ ?_; · first | rfl | (simp [CV.below, u64l_below]; done) | (simp [CV.below, u64l_below]; omega))))
      · have hnx : prL (k + 1) = prL k := by simp only [prL]; exact if_neg (by rw [h26]; decide)
        refine AW.skip ?_
        refine InB_n ?_
        refine Thn_n ?_
        refine hK _ _ ?_
        clear hK K
        refine AW.region (by decide) ?_
        simp only [push_cast, simprocAttr, u64l_len, q1, q2]
        refine Thn_n ?_
        refine ⟨k + 1, hlt, by omega, ?_⟩
        try simp only [keepL, setAll, push_cast, simprocAttr, u64l_len, q1, q2, hwk, hnx]
        first
          | exact Weak.same (by simp only [Keeps, Tm.get_cons, Nat.reduceEqDiff, ↓reduceIte, if_true, if_false, ite_true, ite_false, true_and, and_true, and_self, reduceCtorEq, hwk, hnx]) (by first | rfl | simp only [Keeps, Tm.get_cons, Nat.reduceEqDiff, ↓reduceIte, if_true, if_false, ite_true, ite_false, true_and, and_true, and_self, reduceCtorEq, hwk, hnx])
          | exact Weak.to (extra := [_]) (by simp only [Keeps, Tm.get_cons, Nat.reduceEqDiff, ↓reduceIte, if_true, if_false, ite_true, ite_false, true_and, and_true, and_self, reduceCtorEq, hwk, hnx]) (by first | rfl | (simp only [List.append_assoc, List.cons_append, List.nil_append]; rfl)) (by first | rfl | (simp [AV.below, CV.below, u64l_below]; done) | (simp [AV.below, CV.below, u64l_below]; omega)) (by
              first | exact hwf | refine MWf.app (hwf.grow (by simp)) ?_
              repeat (first | exact MWf_nil | (refine MWf_cons ?_ ?_; · first | rfl | (simp [CV.below, u64l_below]; done) | (simp [CV.below, u64l_below]; omega))))
  · have hke : k = 310 := by
      have h1 := of_decide_eq_false h10
      rcases Nat.lt_or_ge k 310 with h | h
      · have := hmon (by omega); omega
      · omega
    subst hke
    have hl := prL_310
    refine AW.exit ?_
    refine Thn_e ?_
    clear hK K
    refine Thn_e ?_
    refine InB_here ?_
    refine Thn_n ?_
    refine hK _ _ ?_
    clear hK K
    refine AW.seq_k fun K hK => ?_
    refine AW.region (by decide) ?_
    simp only [push_cast, simprocAttr, u64l_len, hl]
    refine Thn_n ?_
    refine hK _ _ ?_
    clear hK K
    refine AW.ret ?_
    refine hQ _ _ _ ?_
    refine RetP.pick [(m.length, 64)] (Or.inr rfl) ?_ ?_ ?_ hwf ?_
    · simp only [resA, resOne, resTv, AV.tv, push_cast, simprocAttr]
      simp [renV, renT, renL, renC, renIdx]
    · simp only [picks, push_cast, simprocAttr] <;> rfl
    · simp [distinctFrom]
    · exact MWf_one (u64l_below _ _)
    
end Go.Proofs.Ytmjbbnfmhgcfaaa

set_option linter.unusedSimpArgs false
set_option linter.unusedVariables false
set_option maxRecDepth 100000
set_option maxHeartbeats 4000000
namespace Go.Proofs.Ytmjbbnfmhgcfaaa
open Go Go.Eng

theorem cub_0 : cubeI 2 = 1116352408 := by decide +kernel
theorem cub_1 : cubeI 3 = 1899447441 := by decide +kernel
theorem cub_2 : cubeI 5 = 3049323471 := by decide +kernel
theorem cub_3 : cubeI 7 = 3921009573 := by decide +kernel
theorem cub_4 : cubeI 11 = 961987163 := by decide +kernel
theorem cub_5 : cubeI 13 = 1508970993 := by decide +kernel
theorem cub_6 : cubeI 17 = 2453635748 := by decide +kernel
theorem cub_7 : cubeI 19 = 2870763221 := by decide +kernel
theorem cub_8 : cubeI 23 = 3624381080 := by decide +kernel
theorem cub_9 : cubeI 29 = 310598401 := by decide +kernel
theorem cub_10 : cubeI 31 = 607225278 := by decide +kernel
theorem cub_11 : cubeI 37 = 1426881987 := by decide +kernel
theorem cub_12 : cubeI 41 = 1925078388 := by decide +kernel
theorem cub_13 : cubeI 43 = 2162078206 := by decide +kernel
theorem cub_14 : cubeI 47 = 2614888103 := by decide +kernel
theorem cub_15 : cubeI 53 = 3248222580 := by decide +kernel
end Go.Proofs.Ytmjbbnfmhgcfaaa

set_option linter.unusedSimpArgs false
set_option linter.unusedVariables false
set_option maxRecDepth 100000
set_option maxHeartbeats 4000000
namespace Go.Proofs.Ytmjbbnfmhgcfaaa
open Go Go.Eng

theorem cub_16 : cubeI 59 = 3835390401 := by decide +kernel
theorem cub_17 : cubeI 61 = 4022224774 := by decide +kernel
theorem cub_18 : cubeI 67 = 264347078 := by decide +kernel
theorem cub_19 : cubeI 71 = 604807628 := by decide +kernel
theorem cub_20 : cubeI 73 = 770255983 := by decide +kernel
theorem cub_21 : cubeI 79 = 1249150122 := by decide +kernel
theorem cub_22 : cubeI 83 = 1555081692 := by decide +kernel
theorem cub_23 : cubeI 89 = 1996064986 := by decide +kernel
theorem cub_24 : cubeI 97 = 2554220882 := by decide +kernel
theorem cub_25 : cubeI 101 = 2821834349 := by decide +kernel
theorem cub_26 : cubeI 103 = 2952996808 := by decide +kernel
theorem cub_27 : cubeI 107 = 3210313671 := by decide +kernel
theorem cub_28 : cubeI 109 = 3336571891 := by decide +kernel
theorem cub_29 : cubeI 113 = 3584528711 := by decide +kernel
theorem cub_30 : cubeI 127 = 113926993 := by decide +kernel
theorem cub_31 : cubeI 131 = 338241895 := by decide +kernel
end Go.Proofs.Ytmjbbnfmhgcfaaa

set_option linter.unusedSimpArgs false
set_option linter.unusedVariables false
set_option maxRecDepth 100000
set_option maxHeartbeats 4000000
namespace Go.Proofs.Ytmjbbnfmhgcfaaa
open Go Go.Eng

theorem cub_32 : cubeI 137 = 666307205 := by decide +kernel
theorem cub_33 : cubeI 139 = 773529912 := by decide +kernel
theorem cub_34 : cubeI 149 = 1294757372 := by decide +kernel
theorem cub_35 : cubeI 151 = 1396182291 := by decide +kernel
theorem cub_36 : cubeI 157 = 1695183700 := by decide +kernel
theorem cub_37 : cubeI 163 = 1986661051 := by decide +kernel
theorem cub_38 : cubeI 167 = 2177026350 := by decide +kernel
theorem cub_39 : cubeI 173 = 2456956037 := by decide +kernel
theorem cub_40 : cubeI 179 = 2730485921 := by decide +kernel
theorem cub_41 : cubeI 181 = 2820302411 := by decide +kernel
theorem cub_42 : cubeI 191 = 3259730800 := by decide +kernel
theorem cub_43 : cubeI 193 = 3345764771 := by decide +kernel
theorem cub_44 : cubeI 197 = 3516065817 := by decide +kernel
theorem cub_45 : cubeI 199 = 3600352804 := by decide +kernel
theorem cub_46 : cubeI 211 = 4094571909 := by decide +kernel
theorem cub_47 : cubeI 223 = 275423344 := by decide +kernel
end Go.Proofs.Ytmjbbnfmhgcfaaa

set_option linter.unusedSimpArgs false
set_option linter.unusedVariables false
set_option maxRecDepth 100000
set_option maxHeartbeats 4000000
namespace Go.Proofs.Ytmjbbnfmhgcfaaa
open Go Go.Eng

theorem cub_48 : cubeI 227 = 430227734 := by decide +kernel
theorem cub_49 : cubeI 229 = 506948616 := by decide +kernel
theorem cub_50 : cubeI 233 = 659060556 := by decide +kernel
theorem cub_51 : cubeI 239 = 883997877 := by decide +kernel
theorem cub_52 : cubeI 241 = 958139571 := by decide +kernel
theorem cub_53 : cubeI 251 = 1322822218 := by decide +kernel
theorem cub_54 : cubeI 257 = 1537002063 := by decide +kernel
theorem cub_55 : cubeI 263 = 1747873779 := by decide +kernel
theorem cub_56 : cubeI 269 = 1955562222 := by decide +kernel
theorem cub_57 : cubeI 271 = 2024104815 := by decide +kernel
theorem cub_58 : cubeI 277 = 2227730452 := by decide +kernel
theorem cub_59 : cubeI 281 = 2361852424 := by decide +kernel
theorem cub_60 : cubeI 283 = 2428436474 := by decide +kernel
theorem cub_61 : cubeI 293 = 2756734187 := by decide +kernel
theorem cub_62 : cubeI 307 = 3204031479 := by decide +kernel
theorem cub_63 : cubeI 311 = 3329325298 := by decide +kernel
end Go.Proofs.Ytmjbbnfmhgcfaaa

set_option linter.unusedSimpArgs false
set_option linter.unusedVariables false
set_option maxRecDepth 100000
set_option maxHeartbeats 4000000
namespace Go.Proofs.Ytmjbbnfmhgcfaaa
open Go Go.Eng

def PR : List Int := [2, 3, 5, 7, 11, 13, 17, 19, 23, 29, 31, 37, 41, 43, 47, 53, 59, 61, 67, 71, 73, 79, 83, 89, 97, 101, 103, 107, 109, 113, 127, 131, 137, 139, 149, 151, 157, 163, 167, 173, 179, 181, 191, 193, 197, 199, 211, 223, 227, 229, 233, 239, 241, 251, 257, 263, 269, 271, 277, 281, 283, 293, 307, 311]
theorem prL_eq : prL 310 = PR := by decide +kernel
theorem tabH : (PR.take 8).map rootI = [1779033703, 3144134277, 1013904242, 2773480762, 1359893119, 2600822924, 528734635, 1541459225] := by decide +kernel
theorem tabK : PR.map cubeI = KW := by
  simp only [PR, KW, List.map_cons, List.map_nil, cub_0, cub_1, cub_2, cub_3, cub_4, cub_5, cub_6, cub_7, cub_8, cub_9, cub_10, cub_11, cub_12, cub_13, cub_14, cub_15, cub_16, cub_17, cub_18, cub_19, cub_20, cub_21, cub_22, cub_23, cub_24, cub_25, cub_26, cub_27, cub_28, cub_29, cub_30, cub_31, cub_32, cub_33, cub_34, cub_35, cub_36, cub_37, cub_38, cub_39, cub_40, cub_41, cub_42, cub_43, cub_44, cub_45, cub_46, cub_47, cub_48, cub_49, cub_50, cub_51, cub_52, cub_53, cub_54, cub_55, cub_56, cub_57, cub_58, cub_59, cub_60, cub_61, cub_62, cub_63]
end Go.Proofs.Ytmjbbnfmhgcfaaa

set_option linter.unusedSimpArgs false
set_option linter.unusedVariables false
set_option maxRecDepth 100000
set_option maxHeartbeats 4000000
namespace Go.Proofs.Ytmjbbnfmhgcfaaa
open Go Go.Eng

theorem stir_c (rp : Nat) (S : S8) (bc : CV) (n : Int) (rb v off len : Nat) (bs : List Int) (m : AMem) (hp : m[rp]? = some ⟨.fix, 74, 0, 0, [.int .u32 (S).a, .int .u32 (S).b, .int .u32 (S).c, .int .u32 (S).d, .int .u32 (S).e, .int .u32 (S).f, .int .u32 (S).g, .int .u32 (S).h, bc, .int .u64 n]⟩) (hbc : bc.below m.length = true) (hb : ∃ k ez, m[rb]? = some ⟨k, 5, v, ez, u8l bs⟩) (hl : 64 ≤ len) (hl2 : len ≤ 1000000000) (hf : off + len ≤ bs.length) (hu : ∀ i, 0 ≤ byB bs i ∧ byB bs i ≤ 255) : Ctr Try.prog 31 [.one (.ptr rp 0 0), .one (.sl rb v off len)] m (.tup []) (pS m rp (comp KW S bs off) bc n) := by
  refine Ctr.enter Try.func31 rfl (by decide) (rs := []) (nt := 204) rfl rfl fun hwf Q hQ => ?_
  obtain ⟨k0, ez, hb⟩ := id hb
  have lp := get_lt hp
  have lb := get_lt hb
  have npb : rb ≠ rp := fun e => by subst e; rw [hp] at hb; simp at hb
  have npb2 : rp ≠ rb := fun e => npb e.symm
  have hKw : setL [CV.int .u32 0, CV.int .u32 0, CV.int .u32 0, CV.int .u32 0, CV.int .u32 0, CV.int .u32 0, CV.int .u32 0, CV.int .u32 0, CV.int .u32 0, CV.int .u32 0, CV.int .u32 0, CV.int .u32 0, CV.int .u32 0, CV.int .u32 0, CV.int .u32 0, CV.int .u32 0, CV.int .u32 0, CV.int .u32 0, CV.int .u32 0, CV.int .u32 0, CV.int .u32 0, CV.int .u32 0, CV.int .u32 0, CV.int .u32 0, CV.int .u32 0, CV.int .u32 0, CV.int .u32 0, CV.int .u32 0, CV.int .u32 0, CV.int .u32 0, CV.int .u32 0, CV.int .u32 0, CV.int .u32 0, CV.int .u32 0, CV.int .u32 0, CV.int .u32 0, CV.int .u32 0, CV.int .u32 0, CV.int .u32 0, CV.int .u32 0, CV.int .u32 0, CV.int .u32 0, CV.int .u32 0, CV.int .u32 0, CV.int .u32 0, CV.int .u32 0, CV.int .u32 0, CV.int .u32 0, CV.int .u32 0, CV.int .u32 0, CV.int .u32 0, CV.int .u32 0, CV.int .u32 0, CV.int .u32 0, CV.int .u32 0, CV.int .u32 0, CV.int .u32 0, CV.int .u32 0, CV.int .u32 0, CV.int .u32 0, CV.int .u32 0, CV.int .u32 0, CV.int .u32 0, CV.int .u32 0] 0 (ul KW) = ul KW := setL_full rfl
  have sa : ∀ (L : AMem) (b : Blk), (m ++ L).set rp b = m.set rp b ++ L := fun L b => List.set_append_left _ _ lp
  have sb : ∀ (L : AMem) (b c : Blk), (m.set rp b ++ L).set rp c = m.set rp c ++ L := fun L b c => by rw [List.set_append_left _ _ (by rw [List.length_set]; exact lp), List.set_set]
  have ga : ∀ (L : AMem) (b : Blk), (m.set rp b ++ L)[rp]? = some b := fun L b => by rw [List.getElem?_append_left (by rw [List.length_set]; exact lp), List.getElem?_set_self lp]
  have lK : (ul KW).length = 64 := rfl
  have lS := fun i => sch_len bs off i
  have q1 := p2_32 (n := 3) (by decide)
  have q2 := p2_32 (n := 10) (by decide)
  have q3 : (2:Int)^3 = 8 := by decide
  have q4 : (2:Int)^10 = 1024 := by decide
  have hmx : (if IntKind.u32.signed = true then (-1 : Int) else IntKind.u32.max) = 4294967295 := by decide
  have g00 := fun b : Blk => List.getElem?_set_self (l := m) (i := rp) (a := b) lp
  have gne := fun b : Blk => List.getElem?_set_ne (l := m) (i := rp) (j := rb) (a := b) npb2
  
  refine AW.seq_k fun K hK => ?_
  refine AW.region (by decide) ?_
  simp only [push_cast, simprocAttr, hb, lk_old hb, hp, lk_old hp, ul_vals, ul_len, lS, lK, hKw, Int.le_refl, sa, sb, ga, q1, q2, q3, q4, hmx, g00, gne, lp, List.set_set]
  refine CThen.by (words_c _) ?_
  simp only [push_cast, simprocAttr, hb, lk_old hb, hp, lk_old hp, ul_vals, ul_len, lS, lK, hKw, Int.le_refl, sa, sb, ga, q1, q2, q3, q4, hmx, g00, gne, lp, List.set_set]
  refine Thn_n ?_
  refine hK _ _ ?_
  clear hK K
  refine AW.seq_k fun K hK => ?_
  refine AW.region (by decide) ?_
  simp only [push_cast, simprocAttr, hb, lk_old hb, hp, lk_old hp, ul_vals, ul_len, lS, lK, hKw, Int.le_refl, sa, sb, ga, q1, q2, q3, q4, hmx, g00, gne, lp, List.set_set]
  refine Thn_n ?_
  refine hK _ _ ?_
  clear hK K
  refine AW.seq_k fun K hK => ?_
  refine AW.seq_k fun K hK => ?_
  refine AW.region (by decide) ?_
  simp only [push_cast, simprocAttr, hb, lk_old hb, hp, lk_old hp, ul_vals, ul_len, lS, lK, hKw, Int.le_refl, sa, sb, ga, q1, q2, q3, q4, hmx, g00, gne, lp, List.set_set]
  refine Thn_n ?_
  refine hK _ _ ?_
  clear hK K
  refine AW.block ?_
  refine AW.loopK [0, 1, 4, 5] (fun i => i ≤ (16 : Nat)) (fun i => [(24, .one (.int .i64 (i : Int)))]) (fun i => [(m.length + 1, ⟨.fix, 29, 0, 0, ul (sch bs off i)⟩)]) (fun i => 16 - i) 0 (by omega) ?_ ?_ fun i hi5 => ?_
  · first | rfl | (simp only [Keeps, Tm.get_cons, Nat.reduceEqDiff, ↓reduceIte, if_true, if_false, ite_true, ite_false, true_and, and_true, and_self, reduceCtorEq] <;> rfl)
  · first | rfl | (simp only [setAll, push_cast, simprocAttr, hb, lk_old hb, hp, lk_old hp, ul_vals, ul_len, lS, lK, hKw, Int.le_refl, sa, sb, ga, q1, q2, q3, q4, hmx, g00, gne, lp, List.set_set] <;> rfl)
  try simp only [keepL, setAll, push_cast, simprocAttr, hb, lk_old hb, hp, lk_old hp, ul_vals, ul_len, lS, lK, hKw, Int.le_refl, sa, sb, ga, q1, q2, q3, q4, hmx, g00, gne, lp, List.set_set]
  refine AW.seq_k fun K hK => ?_
  refine AW.region (by decide) ?_
  simp only [push_cast, simprocAttr, hb, lk_old hb, hp, lk_old hp, ul_vals, ul_len, lS, lK, hKw, Int.le_refl, sa, sb, ga, q1, q2, q3, q4, hmx, g00, gne, lp, List.set_set]
  refine Thn_n ?_
  refine hK _ _ ?_
  clear hK K
  refine AW.seq_k fun K hK => ?_
  refine AW.cond rfl (fun h25 => ?_) (fun h25 => ?_)
  · have hlt : i < 16 := by have := of_decide_eq_true h25; omega
    have c1 : (0 : Int) ≤ 4 * (i : Int) := by omega
    have c2 : 4 * (i : Int) ≤ (len : Int) := by omega
    have w1 : IntKind.i64.wrap (4 * (i : Int)) = 4 * (i : Int) := wi (by omega)
    have w2 : (4 * (i : Int)).toNat = 4 * i := by omega
    have c3 : (0 : Int) ≤ (i : Int) := by omega
    have c4 : (i : Int) < 64 := by omega
    have c5 : i + 1 ≤ 64 := by omega
    have snx : ((ul (sch bs off i)).set i (.int .u32 (wordV bs (off + 4 * i)))) = ul (sch bs off (i + 1)) := by rw [ul_set]; simp only [sch, if_pos hlt]
    refine AW.skip ?_
    refine Thn_n ?_
    refine hK _ _ ?_
    clear hK K
    refine AW.seq_k fun K hK => ?_
    refine AW.block ?_
    refine AW.seq_k fun K hK => ?_
    refine AW.region (by decide) ?_
    simp only [push_cast, simprocAttr, hb, lk_old hb, hp, lk_old hp, ul_vals, ul_len, lS, lK, hKw, Int.le_refl, sa, sb, ga, q1, q2, q3, q4, hmx, g00, gne, lp, List.set_set, c1, c2, w1, w2, c3, c4, c5]
    refine Thn_n ?_
    refine hK _ _ ?_
    clear hK K
    refine AW.region (by decide) ?_
    simp only [push_cast, simprocAttr, hb, lk_old hb, hp, lk_old hp, ul_vals, ul_len, lS, lK, hKw, Int.le_refl, sa, sb, ga, q1, q2, q3, q4, hmx, g00, gne, lp, List.set_set, c1, c2, w1, w2, c3, c4, c5]
    refine CThen.by (word_c rb v (off + 4 * i) (len - 4 * i) bs _ ⟨_, _, lk_old hb _⟩ (by omega) (by omega) hu) ?_
    simp only [push_cast, simprocAttr, hb, lk_old hb, hp, lk_old hp, ul_vals, ul_len, lS, lK, hKw, Int.le_refl, sa, sb, ga, q1, q2, q3, q4, hmx, g00, gne, lp, List.set_set, c1, c2, w1, w2, c3, c4, c5]
    refine InB_n ?_
    refine Thn_n ?_
    refine hK _ _ ?_
    clear hK K
    refine AW.region (by decide) ?_
    simp only [push_cast, simprocAttr, hb, lk_old hb, hp, lk_old hp, ul_vals, ul_len, lS, lK, hKw, Int.le_refl, sa, sb, ga, q1, q2, q3, q4, hmx, g00, gne, lp, List.set_set, c1, c2, w1, w2, c3, c4, c5]
    refine Thn_n ?_
    have hwi : IntKind.i64.wrap ((i:Int)+1) = (i:Int)+1 := wi (by omega)
    refine ⟨i + 1, by omega, by omega, ?_⟩
    try simp only [keepL, setAll, push_cast, simprocAttr, hb, lk_old hb, hp, lk_old hp, ul_vals, ul_len, lS, lK, hKw, Int.le_refl, sa, sb, ga, q1, q2, q3, q4, hmx, g00, gne, lp, List.set_set, c1, c2, w1, w2, c3, c4, c5, hwi, snx]
    exact Weak.same (by simp only [Keeps, Tm.get_cons, Nat.reduceEqDiff, ↓reduceIte, if_true, if_false, ite_true, ite_false, true_and, and_true, and_self, reduceCtorEq, hwi, snx]) (by first | rfl | simp only [Keeps, Tm.get_cons, Nat.reduceEqDiff, ↓reduceIte, if_true, if_false, ite_true, ite_false, true_and, and_true, and_self, reduceCtorEq, hwi, snx])
  · have hin : i = 16 := by have := of_decide_eq_false h25; omega
    subst hin
    refine AW.exit ?_
    refine Thn_e ?_
    clear hK K
    refine Thn_e ?_
    refine InB_here ?_
    refine Thn_n ?_
    refine hK _ _ ?_
    clear hK K
    refine AW.seq_k fun K hK => ?_
    refine AW.seq_k fun K hK => ?_
    refine AW.region (by decide) ?_
    simp only [push_cast, simprocAttr, hb, lk_old hb, hp, lk_old hp, ul_vals, ul_len, lS, lK, hKw, Int.le_refl, sa, sb, ga, q1, q2, q3, q4, hmx, g00, gne, lp, List.set_set]
    refine Thn_n ?_
    refine hK _ _ ?_
    clear hK K
    refine AW.block ?_
    refine AW.loopK [0, 4, 5] (fun i => (16 : Nat) ≤ i ∧ i ≤ (64 : Nat)) (fun i => [(7, .one (.int .i64 (i : Int)))]) (fun i => [(m.length + 1, ⟨.fix, 29, 0, 0, ul (sch bs off i)⟩)]) (fun i => 64 - i) 16 ⟨by omega, by omega⟩ ?_ ?_ fun i hi12 => ?_
    · first | rfl | (simp only [Keeps, Tm.get_cons, Nat.reduceEqDiff, ↓reduceIte, if_true, if_false, ite_true, ite_false, true_and, and_true, and_self, reduceCtorEq] <;> rfl)
    · first | rfl | (simp only [setAll, push_cast, simprocAttr, hb, lk_old hb, hp, lk_old hp, ul_vals, ul_len, lS, lK, hKw, Int.le_refl, sa, sb, ga, q1, q2, q3, q4, hmx, g00, gne, lp, List.set_set] <;> rfl)
    obtain ⟨hi16, hi64⟩ := hi12
    try simp only [keepL, setAll, push_cast, simprocAttr, hb, lk_old hb, hp, lk_old hp, ul_vals, ul_len, lS, lK, hKw, Int.le_refl, sa, sb, ga, q1, q2, q3, q4, hmx, g00, gne, lp, List.set_set]
    refine AW.seq_k fun K hK => ?_
    refine AW.seq_k fun K hK => ?_
    refine AW.region (by decide) ?_
    simp only [push_cast, simprocAttr, hb, lk_old hb, hp, lk_old hp, ul_vals, ul_len, lS, lK, hKw, Int.le_refl, sa, sb, ga, q1, q2, q3, q4, hmx, g00, gne, lp, List.set_set]
    refine Thn_n ?_
    refine hK _ _ ?_
    clear hK K
    refine AW.cond rfl (fun h36 => ?_) (fun h36 => ?_)
    · have hlt : i < 64 := by have := of_decide_eq_true h36; omega
      have c3 : (0 : Int) ≤ (i : Int) := by omega
      have c4 : (i : Int) < 64 := by omega
      have c5 : i + 1 ≤ 64 := by omega
      have g15 := ul_get (xs := sch bs off i) (i := i - 15) (by rw [sch_len]; omega)
      have v15 : IntKind.i64.wrap ((i : Int) - 15) = (i : Int) - 15 := wi (by omega)
      have d15 : (0 : Int) ≤ (i : Int) - 15 := by omega
      have f15 : (i : Int) - 15 < 64 := by omega
      have z15 : ((i : Int) - 15).toNat = i - 15 := by omega
      have g2 := ul_get (xs := sch bs off i) (i := i - 2) (by rw [sch_len]; omega)
      have v2 : IntKind.i64.wrap ((i : Int) - 2) = (i : Int) - 2 := wi (by omega)
      have d2 : (0 : Int) ≤ (i : Int) - 2 := by omega
      have f2 : (i : Int) - 2 < 64 := by omega
      have z2 : ((i : Int) - 2).toNat = i - 2 := by omega
      have g16 := ul_get (xs := sch bs off i) (i := i - 16) (by rw [sch_len]; omega)
      have v16 : IntKind.i64.wrap ((i : Int) - 16) = (i : Int) - 16 := wi (by omega)
      have d16 : (0 : Int) ≤ (i : Int) - 16 := by omega
      have f16 : (i : Int) - 16 < 64 := by omega
      have z16 : ((i : Int) - 16).toNat = i - 16 := by omega
      have g7 := ul_get (xs := sch bs off i) (i := i - 7) (by rw [sch_len]; omega)
      have v7 : IntKind.i64.wrap ((i : Int) - 7) = (i : Int) - 7 := wi (by omega)
      have d7 : (0 : Int) ≤ (i : Int) - 7 := by omega
      have f7 : (i : Int) - 7 < 64 := by omega
      have z7 : ((i : Int) - 7).toNat = i - 7 := by omega
      have snx : ((ul (sch bs off i)).set i (.int .u32 (mixF (sch bs off i) i))) = ul (sch bs off (i + 1)) := by rw [ul_set]; simp only [sch]; rw [if_neg (by omega)]
      simp only [mixF, a32, s0, s1] at snx
      refine AW.skip ?_
      refine Thn_n ?_
      refine hK _ _ ?_
      clear hK K
      refine AW.seq_k fun K hK => ?_
      refine AW.block ?_
      refine AW.seq_k fun K hK => ?_
      refine AW.draw [.val, .val, .val, .rd 0, .val, .val, .val, .rd 0, .val, .val] fol (by decide) (by kernel_rfl) ?_
      simp only [push_cast, simprocAttr, hb, lk_old hb, hp, lk_old hp, ul_vals, ul_len, lS, lK, hKw, Int.le_refl, sa, sb, ga, q1, q2, q3, q4, hmx, g00, gne, lp, List.set_set, c3, c4, c5, g15, v15, d15, f15, z15, g2, v2, d2, f2, z2, g16, v16, d16, f16, z16, g7, v7, d7, f7, z7]
      refine Thn_n ?_
      refine hK _ _ ?_
      clear hK K
      refine AW.draw [.val, .val, .val, .val, .rd 0, .val, .ext, .val, .ext, .val, .val, .val, .val, .val, .val, .val, .val, .rd 0, .val, .val, .ext, .val, .ext, .val, .val, .val, .val, .val, .val, .wr] fol (by decide) (by kernel_rfl) ?_
      simp only [push_cast, simprocAttr, hb, lk_old hb, hp, lk_old hp, ul_vals, ul_len, lS, lK, hKw, Int.le_refl, sa, sb, ga, q1, q2, q3, q4, hmx, g00, gne, lp, List.set_set, c3, c4, c5, g15, v15, d15, f15, z15, g2, v2, d2, f2, z2, g16, v16, d16, f16, z16, g7, v7, d7, f7, z7]
      refine DCall.by0 (rot_c _ 7 _ (by decide)) ?_
      simp only [push_cast, simprocAttr, hb, lk_old hb, hp, lk_old hp, ul_vals, ul_len, lS, lK, hKw, Int.le_refl, sa, sb, ga, q1, q2, q3, q4, hmx, g00, gne, lp, List.set_set, c3, c4, c5, g15, v15, d15, f15, z15, g2, v2, d2, f2, z2, g16, v16, d16, f16, z16, g7, v7, d7, f7, z7]
      refine DCall.by0 (rot_c _ 18 _ (by decide)) ?_
      simp only [push_cast, simprocAttr, hb, lk_old hb, hp, lk_old hp, ul_vals, ul_len, lS, lK, hKw, Int.le_refl, sa, sb, ga, q1, q2, q3, q4, hmx, g00, gne, lp, List.set_set, c3, c4, c5, g15, v15, d15, f15, z15, g2, v2, d2, f2, z2, g16, v16, d16, f16, z16, g7, v7, d7, f7, z7]
      refine DCall.by0 (rot_c _ 17 _ (by decide)) ?_
      simp only [push_cast, simprocAttr, hb, lk_old hb, hp, lk_old hp, ul_vals, ul_len, lS, lK, hKw, Int.le_refl, sa, sb, ga, q1, q2, q3, q4, hmx, g00, gne, lp, List.set_set, c3, c4, c5, g15, v15, d15, f15, z15, g2, v2, d2, f2, z2, g16, v16, d16, f16, z16, g7, v7, d7, f7, z7]
      refine DCall.by0 (rot_c _ 19 _ (by decide)) ?_
      simp only [push_cast, simprocAttr, hb, lk_old hb, hp, lk_old hp, ul_vals, ul_len, lS, lK, hKw, Int.le_refl, sa, sb, ga, q1, q2, q3, q4, hmx, g00, gne, lp, List.set_set, c3, c4, c5, g15, v15, d15, f15, z15, g2, v2, d2, f2, z2, g16, v16, d16, f16, z16, g7, v7, d7, f7, z7]
      refine InB_n ?_
      refine Thn_n ?_
      refine hK _ _ ?_
      clear hK K
      refine AW.region (by decide) ?_
      simp only [push_cast, simprocAttr, hb, lk_old hb, hp, lk_old hp, ul_vals, ul_len, lS, lK, hKw, Int.le_refl, sa, sb, ga, q1, q2, q3, q4, hmx, g00, gne, lp, List.set_set, c3, c4, c5, g15, v15, d15, f15, z15, g2, v2, d2, f2, z2, g16, v16, d16, f16, z16, g7, v7, d7, f7, z7]
      refine Thn_n ?_
      have hwi : IntKind.i64.wrap ((i:Int)+1) = (i:Int)+1 := wi (by omega)
      refine ⟨i + 1, ⟨by omega, by omega⟩, by omega, ?_⟩
      try simp only [keepL, setAll, push_cast, simprocAttr, hb, lk_old hb, hp, lk_old hp, ul_vals, ul_len, lS, lK, hKw, Int.le_refl, sa, sb, ga, q1, q2, q3, q4, hmx, g00, gne, lp, List.set_set, c3, c4, c5, g15, v15, d15, f15, z15, g2, v2, d2, f2, z2, g16, v16, d16, f16, z16, g7, v7, d7, f7, z7, hwi, snx]
      exact Weak.same (by simp only [Keeps, Tm.get_cons, Nat.reduceEqDiff, ↓reduceIte, if_true, if_false, ite_true, ite_false, true_and, and_true, and_self, reduceCtorEq, hwi, snx]) (by first | rfl | simp only [Keeps, Tm.get_cons, Nat.reduceEqDiff, ↓reduceIte, if_true, if_false, ite_true, ite_false, true_and, and_true, and_self, reduceCtorEq, hwi, snx])
    · have hin : i = 64 := by have := of_decide_eq_false h36; omega
      subst hin
      refine AW.exit ?_
      refine Thn_e ?_
      clear hK K
      refine Thn_e ?_
      refine InB_here ?_
      refine Thn_n ?_
      refine hK _ _ ?_
      clear hK K
      refine AW.seq_k fun K hK => ?_
      refine AW.draw [.val, .val, .val, .val, .rd 0, .val, .val, .val, .val, .rd 0, .val, .val, .val, .val, .rd 0, .val, .val, .val, .val, .rd 0, .val, .val, .val, .val, .rd 0, .val, .val, .val, .val, .rd 0, .val, .val, .val, .val, .rd 0, .val, .val, .val, .val, .rd 0, .val, .val, .val, .val, .val, .val, .val, .val] fol (by decide) (by kernel_rfl) ?_
      simp only [push_cast, simprocAttr, hb, lk_old hb, hp, lk_old hp, ul_vals, ul_len, lS, lK, hKw, Int.le_refl, sa, sb, ga, q1, q2, q3, q4, hmx, g00, gne, lp, List.set_set]
      refine Thn_n ?_
      refine hK _ _ ?_
      clear hK K
      refine AW.seq_k fun K hK => ?_
      refine AW.seq_k fun K hK => ?_
      refine AW.region (by decide) ?_
      simp only [push_cast, simprocAttr, hb, lk_old hb, hp, lk_old hp, ul_vals, ul_len, lS, lK, hKw, Int.le_refl, sa, sb, ga, q1, q2, q3, q4, hmx, g00, gne, lp, List.set_set]
      refine Thn_n ?_
      refine hK _ _ ?_
      clear hK K
      refine AW.block ?_
      refine AW.loopK [0, 4, 5] (fun i => i ≤ (64 : Nat)) (fun i => [(10, .one (.int .u32 (rd KW (sch bs off 64) S i).a)), (11, .one (.int .u32 (rd KW (sch bs off 64) S i).b)), (12, .one (.int .u32 (rd KW (sch bs off 64) S i).c)), (13, .one (.int .u32 (rd KW (sch bs off 64) S i).d)), (14, .one (.int .u32 (rd KW (sch bs off 64) S i).e)), (15, .one (.int .u32 (rd KW (sch bs off 64) S i).f)), (16, .one (.int .u32 (rd KW (sch bs off 64) S i).g)), (17, .one (.int .u32 (rd KW (sch bs off 64) S i).h)), (116, .one (.int .i64 (i : Int)))]) (fun i => []) (fun i => 64 - i) 0 (by omega) ?_ ?_ fun i hi20 => ?_
      · first | rfl | (simp only [Keeps, Tm.get_cons, Nat.reduceEqDiff, ↓reduceIte, if_true, if_false, ite_true, ite_false, true_and, and_true, and_self, reduceCtorEq, rd, Int.natCast_zero] <;> rfl)
      · first | rfl | (simp only [setAll, push_cast, simprocAttr, hb, lk_old hb, hp, lk_old hp, ul_vals, ul_len, lS, lK, hKw, Int.le_refl, sa, sb, ga, q1, q2, q3, q4, hmx, g00, gne, lp, List.set_set, rd, Int.natCast_zero] <;> rfl)
      try simp only [keepL, setAll, push_cast, simprocAttr, hb, lk_old hb, hp, lk_old hp, ul_vals, ul_len, lS, lK, hKw, Int.le_refl, sa, sb, ga, q1, q2, q3, q4, hmx, g00, gne, lp, List.set_set]
      refine AW.seq_k fun K hK => ?_
      refine AW.region (by decide) ?_
      simp only [push_cast, simprocAttr, hb, lk_old hb, hp, lk_old hp, ul_vals, ul_len, lS, lK, hKw, Int.le_refl, sa, sb, ga, q1, q2, q3, q4, hmx, g00, gne, lp, List.set_set]
      refine Thn_n ?_
      refine hK _ _ ?_
      clear hK K
      refine AW.seq_k fun K hK => ?_
      refine AW.cond rfl (fun h117 => ?_) (fun h117 => ?_)
      · have hlt : i < 64 := by have := of_decide_eq_true h117; omega
        have c3 : (0 : Int) ≤ (i : Int) := by omega
        have c4 : (i : Int) < 64 := by omega
        have gk := ul_get (xs := KW) (i := i) (by show i < 64; omega)
        have gw := ul_get (xs := sch bs off 64) (i := i) (by rw [sch_len]; omega)
        refine AW.skip ?_
        refine Thn_n ?_
        refine hK _ _ ?_
        clear hK K
        refine AW.seq_k fun K hK => ?_
        refine AW.block ?_
        refine AW.seq_k fun K hK => ?_
        refine AW.region (by decide) ?_
        simp only [push_cast, simprocAttr, hb, lk_old hb, hp, lk_old hp, ul_vals, ul_len, lS, lK, hKw, Int.le_refl, sa, sb, ga, q1, q2, q3, q4, hmx, g00, gne, lp, List.set_set, c3, c4, gk, gw]
        refine Thn_n ?_
        refine hK _ _ ?_
        clear hK K
        refine AW.seq_k fun K hK => ?_
        refine AW.draw [.val, .val, .ext, .val, .ext, .val, .val, .ext, .val, .val, .val, .val, .val, .val, .val, .val, .val, .val, .val, .val, .val, .rd 0, .val, .val, .val, .rd 0, .val, .val] fol (by decide) (by kernel_rfl) ?_
        simp only [push_cast, simprocAttr, hb, lk_old hb, hp, lk_old hp, ul_vals, ul_len, lS, lK, hKw, Int.le_refl, sa, sb, ga, q1, q2, q3, q4, hmx, g00, gne, lp, List.set_set, c3, c4, gk, gw]
        refine DCall.by0 (rot_c _ 6 _ (by decide)) ?_
        simp only [push_cast, simprocAttr, hb, lk_old hb, hp, lk_old hp, ul_vals, ul_len, lS, lK, hKw, Int.le_refl, sa, sb, ga, q1, q2, q3, q4, hmx, g00, gne, lp, List.set_set, c3, c4, gk, gw]
        refine DCall.by0 (rot_c _ 11 _ (by decide)) ?_
        simp only [push_cast, simprocAttr, hb, lk_old hb, hp, lk_old hp, ul_vals, ul_len, lS, lK, hKw, Int.le_refl, sa, sb, ga, q1, q2, q3, q4, hmx, g00, gne, lp, List.set_set, c3, c4, gk, gw]
        refine DCall.by0 (rot_c _ 25 _ (by decide)) ?_
        simp only [push_cast, simprocAttr, hb, lk_old hb, hp, lk_old hp, ul_vals, ul_len, lS, lK, hKw, Int.le_refl, sa, sb, ga, q1, q2, q3, q4, hmx, g00, gne, lp, List.set_set, c3, c4, gk, gw]
        refine Thn_n ?_
        refine hK _ _ ?_
        clear hK K
        refine AW.seq_k fun K hK => ?_
        refine AW.region (by decide) ?_
        simp only [push_cast, simprocAttr, hb, lk_old hb, hp, lk_old hp, ul_vals, ul_len, lS, lK, hKw, Int.le_refl, sa, sb, ga, q1, q2, q3, q4, hmx, g00, gne, lp, List.set_set, c3, c4, gk, gw]
        refine CThen.by (rot_c _ 2 _ (by decide)) ?_
        simp only [push_cast, simprocAttr, hb, lk_old hb, hp, lk_old hp, ul_vals, ul_len, lS, lK, hKw, Int.le_refl, sa, sb, ga, q1, q2, q3, q4, hmx, g00, gne, lp, List.set_set, c3, c4, gk, gw]
        refine CThen.by (rot_c _ 13 _ (by decide)) ?_
        simp only [push_cast, simprocAttr, hb, lk_old hb, hp, lk_old hp, ul_vals, ul_len, lS, lK, hKw, Int.le_refl, sa, sb, ga, q1, q2, q3, q4, hmx, g00, gne, lp, List.set_set, c3, c4, gk, gw]
        refine CThen.by (rot_c _ 22 _ (by decide)) ?_
        simp only [push_cast, simprocAttr, hb, lk_old hb, hp, lk_old hp, ul_vals, ul_len, lS, lK, hKw, Int.le_refl, sa, sb, ga, q1, q2, q3, q4, hmx, g00, gne, lp, List.set_set, c3, c4, gk, gw]
        refine Thn_n ?_
        refine hK _ _ ?_
        clear hK K
        refine AW.region (by decide) ?_
        simp only [push_cast, simprocAttr, hb, lk_old hb, hp, lk_old hp, ul_vals, ul_len, lS, lK, hKw, Int.le_refl, sa, sb, ga, q1, q2, q3, q4, hmx, g00, gne, lp, List.set_set, c3, c4, gk, gw]
        refine InB_n ?_
        refine Thn_n ?_
        refine hK _ _ ?_
        clear hK K
        refine AW.region (by decide) ?_
        simp only [push_cast, simprocAttr, hb, lk_old hb, hp, lk_old hp, ul_vals, ul_len, lS, lK, hKw, Int.le_refl, sa, sb, ga, q1, q2, q3, q4, hmx, g00, gne, lp, List.set_set, c3, c4, gk, gw]
        refine Thn_n ?_
        have hwi : IntKind.i64.wrap ((i:Int)+1) = (i:Int)+1 := wi (by omega)
        refine ⟨i + 1, by omega, by omega, ?_⟩
        try simp only [keepL, setAll, push_cast, simprocAttr, hb, lk_old hb, hp, lk_old hp, ul_vals, ul_len, lS, lK, hKw, Int.le_refl, sa, sb, ga, q1, q2, q3, q4, hmx, g00, gne, lp, List.set_set, c3, c4, gk, gw, hwi, rd, rdF, t1F, a32, S0, S1, chF, maF]
        exact Weak.same (by simp only [Keeps, Tm.get_cons, Nat.reduceEqDiff, ↓reduceIte, if_true, if_false, ite_true, ite_false, true_and, and_true, and_self, reduceCtorEq, hwi, rd, rdF, t1F, a32, S0, S1, chF, maF]) (by first | rfl | simp only [Keeps, Tm.get_cons, Nat.reduceEqDiff, ↓reduceIte, if_true, if_false, ite_true, ite_false, true_and, and_true, and_self, reduceCtorEq, hwi, rd, rdF, t1F, a32, S0, S1, chF, maF])
      · have hin : i = 64 := by have := of_decide_eq_false h117; omega
        subst hin
        refine AW.exit ?_
        refine Thn_e ?_
        clear hK K
        refine Thn_e ?_
        refine InB_here ?_
        refine Thn_n ?_
        refine hK _ _ ?_
        clear hK K
        refine AW.seq_k fun K hK => ?_
        refine AW.region (by decide) ?_
        simp only [push_cast, simprocAttr, hb, lk_old hb, hp, lk_old hp, ul_vals, ul_len, lS, lK, hKw, Int.le_refl, sa, sb, ga, q1, q2, q3, q4, hmx, g00, gne, lp, List.set_set]
        refine Thn_n ?_
        refine hK _ _ ?_
        clear hK K
        refine AW.block ?_
        refine AW.rounds 9 ?_
        iterate 8
          refine ARounds.succ fun K hK => ?_
          refine AW.seq_k fun K hK => ?_
          refine AW.region (by decide) ?_
          simp only [push_cast, simprocAttr, hb, lk_old hb, hp, lk_old hp, ul_vals, ul_len, lS, lK, hKw, Int.le_refl, sa, sb, ga, q1, q2, q3, q4, hmx, g00, gne, lp, List.set_set]
          refine Thn_n ?_
          refine hK _ _ ?_
          clear hK K
          refine AW.seq_k fun K hK => ?_
          refine AW.cond_t rfl ?_
          refine AW.skip ?_
          refine Thn_n ?_
          refine hK _ _ ?_
          clear hK K
          refine AW.seq_k fun K hK => ?_
          refine AW.block ?_
          refine AW.seq_k fun K hK => ?_
          refine AW.region (by decide) ?_
          simp only [push_cast, simprocAttr, hb, lk_old hb, hp, lk_old hp, ul_vals, ul_len, lS, lK, hKw, Int.le_refl, sa, sb, ga, q1, q2, q3, q4, hmx, g00, gne, lp, List.set_set]
          refine Thn_n ?_
          refine hK _ _ ?_
          clear hK K
          refine AW.draw [.val, .val, .val, .val, .val, .rd 0, .val, .val, .val, .val, .val, .wr] fol (by decide) (by kernel_rfl) ?_
          simp only [push_cast, simprocAttr, hb, lk_old hb, hp, lk_old hp, ul_vals, ul_len, lS, lK, hKw, Int.le_refl, sa, sb, ga, q1, q2, q3, q4, hmx, g00, gne, lp, List.set_set]
          refine InB_n ?_
          refine Thn_n ?_
          refine hK _ _ ?_
          clear hK K
          refine AW.region (by decide) ?_
          simp only [push_cast, simprocAttr, hb, lk_old hb, hp, lk_old hp, ul_vals, ul_len, lS, lK, hKw, Int.le_refl, sa, sb, ga, q1, q2, q3, q4, hmx, g00, gne, lp, List.set_set]
          refine Thn_n ?_
          refine hK _ _ ?_
          clear hK K
        refine ARounds.succ fun K hK => ?_
        refine AW.seq_k fun K hK => ?_
        refine AW.region (by decide) ?_
        simp only [push_cast, simprocAttr, hb, lk_old hb, hp, lk_old hp, ul_vals, ul_len, lS, lK, hKw, Int.le_refl, sa, sb, ga, q1, q2, q3, q4, hmx, g00, gne, lp, List.set_set]
        refine Thn_n ?_
        refine hK _ _ ?_
        clear hK K
        refine AW.seq_k fun K hK => ?_
        refine AW.cond_f rfl ?_
        refine AW.exit ?_
        refine Thn_e ?_
        clear hK K
        refine Thn_e ?_
        clear hK K
        refine InB_here ?_
        refine hQ _ _ _ ?_
        first | refine RetP.dropM0 (pS_len m rp (comp KW S bs off) bc n) (Or.inl rfl) ?_ ?_ (pS_wf rp _ n hbc hwf) | refine RetP.dropM (m1 := pS m rp (comp KW S bs off) bc n) (pS_len m rp (comp KW S bs off) bc n) (Or.inl rfl) ?_ ?_ (pS_wf rp _ n hbc hwf)
        · rfl
        · rfl
        
end Go.Proofs.Ytmjbbnfmhgcfaaa

set_option linter.unusedSimpArgs false
set_option linter.unusedVariables false
set_option maxRecDepth 100000
set_option maxHeartbeats 4000000
namespace Go.Proofs.Ytmjbbnfmhgcfaaa
open Go Go.Eng

def U8ok (l : List Int) : Prop := ∀ x, x ∈ l → 0 ≤ x ∧ x ≤ 255
theorem U8ok.by {l : List Int} (h : U8ok l) (i : Nat) : 0 ≤ byB l i ∧ byB l i ≤ 255 := by
  unfold byB
  rw [List.getD_eq_getElem?_getD]
  cases e : l[i]? with
  | none => simp
  | some x => simpa using h x (List.mem_of_getElem? e)
theorem U8ok.app {a b : List Int} (ha : U8ok a) (hb : U8ok b) : U8ok (a ++ b) := fun x hx => by
  rcases List.mem_append.1 hx with h | h
  · exact ha x h
  · exact hb x h
theorem U8ok.take {a : List Int} (ha : U8ok a) (n : Nat) : U8ok (a.take n) := fun x hx => ha x (List.mem_of_mem_take hx)
theorem U8ok.drop {a : List Int} (ha : U8ok a) (n : Nat) : U8ok (a.drop n) := fun x hx => ha x (List.mem_of_mem_drop hx)
theorem U8ok.nil : U8ok [] := fun x hx => by cases hx
/-- Some blocks stirred in, one behind the other. -/
def compN (S : S8) (bs : List Int) : Nat → S8
  | 0 => S
  | i + 1 => comp KW (compN S bs i) bs (64 * i)
structure PS where
  (S : S8) (r : List Int) (n : Int)
def absS (s : PS) (bs : List Int) : PS :=
  ⟨compN s.S (s.r ++ bs) ((s.r ++ bs).length / 64), (s.r ++ bs).drop (64 * ((s.r ++ bs).length / 64)), IntKind.u64.wrap (s.n + (bs.length : Int))⟩
def accP (s : PS) (bf : Nat → List Int) : Nat → PS
  | 0 => s
  | i + 1 => absS (accP s bf i) (bf i)
theorem absS_r (s : PS) (bs : List Int) : (absS s bs).r.length < 64 := by
  simp only [absS, List.length_drop]; omega
theorem accP_r {s : PS} (h : s.r.length < 64) (bf : Nat → List Int) : ∀ i, (accP s bf i).r.length < 64
  | 0 => h
  | i + 1 => absS_r _ _
theorem accP_ok {s : PS} (h : U8ok s.r) {bf : Nat → List Int} {np : Nat} (hb : ∀ i, i < np → U8ok (bf i)) : ∀ i, i ≤ np → U8ok (accP s bf i).r
  | 0, _ => h
  | i + 1, hi => ((accP_ok h hb i (by omega)).app (hb i (by omega))).drop _
/-- A part: a slice of bytes. -/
def PartAt (m : AMem) (bb : Nat) (c : CV) (bs : List Int) : Prop :=
  (c = .nils ∧ bs = []) ∨ ∃ rb k ty v ez off X, c = .sl rb v off bs.length ∧ rb ≠ bb ∧ m[rb]? = some ⟨k, ty, v, ez, u8l X⟩ ∧ off + bs.length ≤ X.length ∧ (X.drop off).take bs.length = bs
def prB (S : S8) (b : CV) (n : Int) : Blk := ⟨.fix, 74, 0, 0, [.int .u32 (S).a, .int .u32 (S).b, .int .u32 (S).c, .int .u32 (S).d, .int .u32 (S).e, .int .u32 (S).f, .int .u32 (S).g, .int .u32 (S).h, b, .int .u64 n]⟩
def rowB (v : Nat) (bs : List Int) : Blk := ⟨.grow, 5, v, 1, u8l bs⟩
/-- The press and its row, anew. -/
def pwr (m : AMem) (rp bb v : Nat) (s : PS) : AMem := (m.set bb (rowB v s.r)).set rp (prB s.S (.sl bb v 0 s.r.length) s.n)
theorem pwr_len (m : AMem) (rp bb v : Nat) (s : PS) : (pwr m rp bb v s).length = m.length := by simp [pwr]
theorem MWf_set {L : Nat} {m : AMem} {r : Nat} {b : Blk} (h : MWf L m) (hb : b.cells.all (CV.below L) = true) : MWf L (m.set r b) := fun x hx => by
  rcases List.mem_or_eq_of_mem_set hx with h1 | rfl
  · exact h x h1
  · exact hb
theorem pwr_wf {L : Nat} {m : AMem} (rp bb v : Nat) (s : PS) (h : MWf L m) (hb : bb < L) : MWf L (pwr m rp bb v s) := by
  refine MWf_set (MWf_set h (u8l_below _ _)) ?_
  simp only [prB, List.all_cons, List.all_nil, CV.below, decide_eq_true hb, Bool.and_true, Bool.true_and]
theorem mk_lk {m l : AMem} (h : l.length = m.length) (L : AMem) (k : Nat) : (l ++ L)[m.length + k]? = L[k]? := by rw [← h]; exact lk_app l L k
theorem mk_lk0 {m l : AMem} (h : l.length = m.length) (L : AMem) : (l ++ L)[m.length]? = L[0]? := by rw [← h]; exact lk_app0 l L
theorem mk_set {m l : AMem} (h : l.length = m.length) (L : AMem) (k : Nat) (b : Blk) : (l ++ L).set (m.length + k) b = l ++ L.set k b := by rw [← h]; exact set_app l L k b
theorem mk_set0 {m l : AMem} (h : l.length = m.length) (L : AMem) (b : Blk) : (l ++ L).set m.length b = l ++ L.set 0 b := by rw [← h]; exact set_app0 l L b
theorem mk_old {m l : AMem} {r : Nat} (h : l.length = m.length) (hr : r < m.length) (L : AMem) : (l ++ L)[r]? = l[r]? := List.getElem?_append_left (by rw [h]; exact hr)
theorem mk_olds {m l : AMem} {r : Nat} (h : l.length = m.length) (hr : r < m.length) (L : AMem) (b : Blk) : (l ++ L).set r b = l.set r b ++ L := List.set_append_left _ _ (by rw [h]; exact hr)
theorem mk_self {m l : AMem} {r : Nat} (h : l.length = m.length) (hr : r < m.length) (b : Blk) : (l.set r b)[r]? = some b := List.getElem?_set_self (by rw [h]; exact hr)
theorem mk_comm {r s : Nat} (h : r ≠ s) (l : AMem) (a b : Blk) : (l.set r a).set s b = (l.set s b).set r a := List.set_comm _ _ h
end Go.Proofs.Ytmjbbnfmhgcfaaa

set_option linter.unusedSimpArgs false
set_option linter.unusedVariables false
set_option maxRecDepth 100000
set_option maxHeartbeats 4000000
namespace Go.Proofs.Ytmjbbnfmhgcfaaa
open Go Go.Eng

theorem write_c (rp bb vb lb vl lo np : Nat) (s0 : PS) (cf : Nat → CV) (bf : Nat → List Int) (X : List CV) (kl : BK) (el : Nat) (m : AMem) (hp : m[rp]? = some (prB s0.S (.sl bb vb 0 s0.r.length) s0.n)) (hbb : m[bb]? = some (rowB vb s0.r)) (hl : m[lb]? = some ⟨kl, 63, vl, el, X⟩) (nlb : lb ≠ bb) (hX : ∀ i, i < np → X[lo + i]? = some (cf i)) (hP : ∀ i, i < np → PartAt m bb (cf i) (bf i)) (hbl : ∀ i, i < np → (bf i).length ≤ 1000000) (hbo : ∀ i, i < np → U8ok (bf i)) (hr0 : s0.r.length < 64) (ho0 : U8ok s0.r) (hnp : np ≤ 1048576) : Ctr Try.prog 23 [.one (.ptr rp 0 0), .one (.sl lb vl lo np)] m (.tup []) (pwr m rp bb (vb + 2 * np) (accP s0 bf np)) := by
  refine Ctr.enter Try.func23 rfl (by decide) (rs := []) (nt := 64) rfl rfl fun hwf Q hQ => ?_
  have lp := get_lt hp
  have lbb := get_lt hbb
  have llb := get_lt hl
  have npb : rp ≠ bb := fun e => by subst e; rw [hp] at hbb; simp [prB, rowB] at hbb
  have nbp : bb ≠ rp := fun e => npb e.symm
  have nlp : lb ≠ rp := fun e => by subst e; rw [hp] at hl; simp [prB] at hl
  have kP := fun (l : AMem) (B : Blk) (h : l.length = m.length) => mk_self h lp B
  have kB : ∀ (l : AMem) (A B : Blk) (h : l.length = m.length), ((l.set bb A).set rp B)[bb]? = some A := fun l A B h => by rw [List.getElem?_set_ne npb]; exact mk_self h lbb A
  have kO : ∀ (r : Nat) (l : AMem) (A B : Blk), r ≠ bb → r ≠ rp → ((l.set bb A).set rp B)[r]? = l[r]? := fun r l A B h1 h2 => by rw [List.getElem?_set_ne (fun e => h2 e.symm), List.getElem?_set_ne (fun e => h1 e.symm)]
  have kL := fun (l L : AMem) (h : l.length = m.length) => mk_old h lp L
  have kL2 := fun (l L : AMem) (h : l.length = m.length) => mk_old h lbb L
  have kS := fun (l L : AMem) (b : Blk) (h : l.length = m.length) => mk_olds h lp L b
  have kS2 := fun (l L : AMem) (b : Blk) (h : l.length = m.length) => mk_olds h lbb L b
  have kA := fun (l L : AMem) (h : l.length = m.length) => mk_lk0 h L
  have kAs := fun (l L : AMem) (b : Blk) (h : l.length = m.length) => mk_set0 h L b
  have kc := mk_comm npb
  have hl1 := fun (A B : Blk) => (kO lb m A B nlb nlp).trans hl
  
  refine AW.seq_k fun K hK => ?_
  refine AW.seq_k fun K hK => ?_
  refine AW.region (by decide) ?_
  simp only [push_cast, simprocAttr, kP, kB, kL, kL2, kS, kS2, kA, kAs, kc, hl1, List.set_set, List.length_set, prB, rowB, pS, u8l_len, Nat.sub_zero, Int.le_refl]
  refine Thn_n ?_
  refine hK _ _ ?_
  clear hK K
  refine AW.cond_f rfl ?_
  refine AW.skip ?_
  refine Thn_n ?_
  refine hK _ _ ?_
  clear hK K
  refine AW.seq_k fun K hK => ?_
  refine AW.region (by decide) ?_
  simp only [push_cast, simprocAttr, kP, kB, kL, kL2, kS, kS2, kA, kAs, kc, hl1, List.set_set, List.length_set, prB, rowB, pS, u8l_len, Nat.sub_zero, Int.le_refl]
  refine Thn_n ?_
  refine hK _ _ ?_
  clear hK K
  refine AW.block ?_
  refine AW.loopK [0, 8, 9] (fun i => i ≤ np) (fun i => [(10, .one (.int .i64 (i : Int)))]) (fun i => [(bb, rowB (vb + 2 * i) (accP s0 bf i).r), (rp, prB (accP s0 bf i).S (.sl bb (vb + 2 * i) 0 (accP s0 bf i).r.length) (accP s0 bf i).n)]) (fun i => np - i) 0 (by omega) ?_ ?_ fun i hi4 => ?_
  · first | rfl | (simp only [Keeps, Tm.get_cons, Nat.reduceEqDiff, ↓reduceIte, if_true, if_false, ite_true, ite_false, true_and, and_true, and_self, reduceCtorEq, accP, Nat.mul_zero, Nat.add_zero] <;> rfl)
  · simp only [setAll, accP, Nat.mul_zero, Nat.add_zero]; rw [set_self hbb, set_self hp]
  have hnx : accP s0 bf (i + 1) = absS (accP s0 bf i) (bf i) := rfl
  have hrl := accP_r hr0 bf i
  have hok := accP_ok ho0 hbo i hi4
  generalize hst : accP s0 bf i = st at hnx hrl hok ⊢
  obtain ⟨S, r, n⟩ := st
  have hvn : vb + 2 * (i + 1) = vb + 2 * i + 2 := by omega
  generalize hv1 : vb + 2 * i = v1 at hvn ⊢
  dsimp only at hrl hok ⊢
  obtain ⟨al, hal⟩ : ∃ al, r ++ bf i = al := ⟨_, rfl⟩
  try simp only [keepL, setAll, push_cast, simprocAttr, kP, kB, kL, kL2, kS, kS2, kA, kAs, kc, hl1, List.set_set, List.length_set, prB, rowB, pS, u8l_len, Nat.sub_zero, Int.le_refl]
  refine AW.seq_k fun K hK => ?_
  refine AW.region (by decide) ?_
  simp only [push_cast, simprocAttr, kP, kB, kL, kL2, kS, kS2, kA, kAs, kc, hl1, List.set_set, List.length_set, prB, rowB, pS, u8l_len, Nat.sub_zero, Int.le_refl]
  refine Thn_n ?_
  refine hK _ _ ?_
  clear hK K
  refine AW.seq_k fun K hK => ?_
  refine AW.cond rfl (fun h11 => ?_) (fun h11 => ?_)
  · have hlt : i < np := by have := of_decide_eq_true h11; omega
    have c1 : (0 : Int) ≤ (i : Int) := by omega
    have c2 : (i : Int) < (np : Int) := by omega
    have hXi := hX i hlt
    refine AW.skip ?_
    refine Thn_n ?_
    refine hK _ _ ?_
    clear hK K
    refine AW.seq_k fun K hK => ?_
    refine AW.block ?_
    refine AW.seq_k fun K hK => ?_
    refine AW.region (by decide) ?_
    simp only [push_cast, simprocAttr, kP, kB, kL, kL2, kS, kS2, kA, kAs, kc, hl1, List.set_set, List.length_set, prB, rowB, pS, u8l_len, Nat.sub_zero, Int.le_refl, c1, c2, hXi]
    refine Thn_n ?_
    refine hK _ _ ?_
    clear hK K
    refine AW.seq_k fun K hK => ?_
    rcases hP i hlt with ⟨ec, eb⟩ | ⟨rb, k2, ty2, v2, ez2, off2, X2, ec, hrb, hb2, hf2, hx2⟩
    · have happ := hal
      have hal2 := congrArg List.length hal
      rw [List.length_append] at hal2
      obtain ⟨nn, hnn⟩ : ∃ nn, nn = IntKind.u64.wrap (n + ((bf i).length : Int)) := ⟨_, rfl⟩
      have hnn0 := hnn
      have hle := hbl i hlt
      have w1 : IntKind.u64.wrap (((bf i).length : Nat) : Int) = ((bf i).length : Int) := by rw [IntKind.wrap_u64]; omega
      have q1 : r.length + (bf i).length ≤ 140737488355328 := by omega
      have q2 : al.length ≤ 140737488355328 := by omega
      have hokA : U8ok al := by rw [← hal]; exact hok.app (hbo i hlt)
      have nb := hokA.by
      have hnnS := hnn.symm
      simp only [ec]
      rw [eb] at hal hal2 hnn
      rw [List.append_nil] at hal
      have hals := hal.symm
      subst hals
      have hz : IntKind.u64.wrap 0 = 0 := by decide
      have hnnS : IntKind.u64.wrap n = nn := by rw [hnn]; simp
      have q1 : al.length ≤ 140737488355328 := by omega
      have ha1 : u8l al ++ [] = u8l al := List.append_nil _
      
      iterate 2
        refine AW.region (by decide) ?_
        simp only [push_cast, simprocAttr, kP, kB, kL, kL2, kS, kS2, kA, kAs, kc, hl1, List.set_set, List.length_set, prB, rowB, pS, u8l_len, Nat.sub_zero, Int.le_refl, c1, c2, hXi, ha1, hz, hnnS, q1, Int.add_zero]
        refine Thn_n ?_
        refine hK _ _ ?_
        clear hK K
        refine AW.seq_k fun K hK => ?_
      refine AW.block ?_
      refine AW.loopK [0, 8, 9, 10] (fun j => 64 * j ≤ al.length) (fun j => []) (fun j => [(rp, ⟨.fix, 74, 0, 0, [.int .u32 ((compN S al j)).a, .int .u32 ((compN S al j)).b, .int .u32 ((compN S al j)).c, .int .u32 ((compN S al j)).d, .int .u32 ((compN S al j)).e, .int .u32 ((compN S al j)).f, .int .u32 ((compN S al j)).g, .int .u32 ((compN S al j)).h, (.sl bb (v1 + 1) (64 * j) (al.length - 64 * j)), .int .u64 nn]⟩)]) (fun j => al.length - 64 * j) 0 (by omega) ?_ ?_ fun j hi12 => ?_
      · first | rfl | (simp only [Keeps, Tm.get_cons, Nat.reduceEqDiff, ↓reduceIte, if_true, if_false, ite_true, ite_false, true_and, and_true, and_self, reduceCtorEq, compN, Nat.mul_zero, Nat.sub_zero] <;> rfl)
      · first | rfl | (simp only [setAll, push_cast, simprocAttr, kP, kB, kL, kL2, kS, kS2, kA, kAs, kc, hl1, List.set_set, List.length_set, prB, rowB, pS, u8l_len, Nat.sub_zero, Int.le_refl, c1, c2, hXi, ha1, hz, hnnS, q1, Int.add_zero, compN, Nat.mul_zero, Nat.sub_zero] <;> rfl)
      try simp only [keepL, setAll, push_cast, simprocAttr, kP, kB, kL, kL2, kS, kS2, kA, kAs, kc, hl1, List.set_set, List.length_set, prB, rowB, pS, u8l_len, Nat.sub_zero, Int.le_refl, c1, c2, hXi, ha1, hz, hnnS, q1, Int.add_zero]
      refine AW.seq_k fun K hK => ?_
      refine AW.seq_k fun K hK => ?_
      refine AW.region (by decide) ?_
      simp only [push_cast, simprocAttr, kP, kB, kL, kL2, kS, kS2, kA, kAs, kc, hl1, List.set_set, List.length_set, prB, rowB, pS, u8l_len, Nat.sub_zero, Int.le_refl, c1, c2, hXi, ha1, hz, hnnS, q1, Int.add_zero]
      refine Thn_n ?_
      refine hK _ _ ?_
      clear hK K
      refine AW.cond rfl (fun h38 => ?_) (fun h38 => ?_)
      · have hj : 64 ≤ al.length - 64 * j := by have := of_decide_eq_true h38; omega
        have c3 : (0 : Int) ≤ 64 := by omega
        have c4 : (64 : Int) ≤ ((al.length - 64 * j : Nat) : Int) := by omega
        have c5 : (((al.length - 64 * j : Nat) : Int)).toNat - 64 = al.length - 64 * j - 64 := by omega
        refine AW.skip ?_
        refine Thn_n ?_
        refine hK _ _ ?_
        clear hK K
        refine AW.seq_k fun K hK => ?_
        refine AW.block ?_
        refine AW.region (by decide) ?_
        simp only [push_cast, simprocAttr, kP, kB, kL, kL2, kS, kS2, kA, kAs, kc, hl1, List.set_set, List.length_set, prB, rowB, pS, u8l_len, Nat.sub_zero, Int.le_refl, c1, c2, hXi, ha1, hz, hnnS, q1, Int.add_zero, c3, c4, c5]
        refine CThen.by (stir_c rp (compN S al j) (.sl bb (v1 + 1) (64 * j) (al.length - 64 * j)) nn bb (v1 + 1) (64 * j) 64 al _ (kP _ _ (by rw [List.length_set])) (by simp only [CV.below, List.length_set]; exact decide_eq_true lbb) ⟨_, _, kB _ _ _ rfl⟩ (by omega) (by omega) (by omega) nb) ?_
        simp only [push_cast, simprocAttr, kP, kB, kL, kL2, kS, kS2, kA, kAs, kc, hl1, List.set_set, List.length_set, prB, rowB, pS, u8l_len, Nat.sub_zero, Int.le_refl, c1, c2, hXi, ha1, hz, hnnS, q1, Int.add_zero, c3, c4, c5]
        refine InB_n ?_
        refine Thn_n ?_
        refine hK _ _ ?_
        clear hK K
        refine AW.region (by decide) ?_
        simp only [push_cast, simprocAttr, kP, kB, kL, kL2, kS, kS2, kA, kAs, kc, hl1, List.set_set, List.length_set, prB, rowB, pS, u8l_len, Nat.sub_zero, Int.le_refl, c1, c2, hXi, ha1, hz, hnnS, q1, Int.add_zero, c3, c4, c5]
        refine Thn_n ?_
        have e1 : 64 * (j + 1) = 64 * j + 64 := by omega
        have e2 : al.length - (64 * j + 64) = al.length - 64 * j - 64 := by omega
        have e3 : compN S al (j + 1) = comp KW (compN S al j) al (64 * j) := rfl
        refine ⟨j + 1, by omega, by omega, ?_⟩
        try simp only [keepL, setAll, push_cast, simprocAttr, kP, kB, kL, kL2, kS, kS2, kA, kAs, kc, hl1, List.set_set, List.length_set, prB, rowB, pS, u8l_len, Nat.sub_zero, Int.le_refl, c1, c2, hXi, ha1, hz, hnnS, q1, Int.add_zero, c3, c4, c5, e1, e2, e3]
        exact Weak.same (by simp only [Keeps, Tm.get_cons, Nat.reduceEqDiff, ↓reduceIte, if_true, if_false, ite_true, ite_false, true_and, and_true, and_self, reduceCtorEq, e1, e2, e3]) (by first | rfl | simp only [Keeps, Tm.get_cons, Nat.reduceEqDiff, ↓reduceIte, if_true, if_false, ite_true, ite_false, true_and, and_true, and_self, reduceCtorEq, e1, e2, e3])
      · have hj : al.length - 64 * j < 64 := by have := of_decide_eq_false h38; omega
        have hje : j = al.length / 64 := by omega
        have g1 : (u8l al).drop (64 * j) = u8l (al.drop (64 * j)) := u8l_drop _ _
        have g2 : (u8l (al.drop (64 * j))).take (al.length - 64 * j) = u8l (al.drop (64 * j)) := List.take_of_length_le (by rw [u8l_len, List.length_drop]; exact Nat.le_refl _)
        have g3 : 64 * j + (al.length - 64 * j) ≤ al.length := by omega
        have g4 : al.length - 64 * j ≤ 140737488355328 := by omega
        have g5 := u8l_vals (al.drop (64 * j))
        have g6 := u8l_len (al.drop (64 * j))
        refine AW.exit ?_
        refine Thn_e ?_
        clear hK K
        refine Thn_e ?_
        refine InB_here ?_
        refine Thn_n ?_
        refine hK _ _ ?_
        clear hK K
        refine AW.region (by decide) ?_
        simp only [push_cast, simprocAttr, kP, kB, kL, kL2, kS, kS2, kA, kAs, kc, hl1, List.set_set, List.length_set, prB, rowB, pS, u8l_len, Nat.sub_zero, Int.le_refl, c1, c2, hXi, ha1, hz, hnnS, q1, Int.add_zero, g1, g2, g3, g4, g5, g6]
        refine InB_n ?_
        refine Thn_n ?_
        refine hK _ _ ?_
        clear hK K
        refine AW.moveC bb m.length 60 (al.length - 64 * j) rp 8 (b := rowB (v1 + 1) al) (e := ⟨.grow, 5, 1, 1, u8l (al.drop (64 * j))⟩) (by simp only [push_cast, simprocAttr, kP, kB, kL, kL2, kS, kS2, kA, kAs, kc, hl1, List.set_set, List.length_set, rowB]) rfl (by simp only [push_cast, simprocAttr, kP, kB, kL, kL2, kS, kS2, kA, kAs, kc, hl1, List.set_set, List.length_set]) rfl (by omega) (by simp only [push_cast, simprocAttr]) (p := ⟨.fix, 74, 0, 0, [.int .u32 ((compN S al j)).a, .int .u32 ((compN S al j)).b, .int .u32 ((compN S al j)).c, .int .u32 ((compN S al j)).d, .int .u32 ((compN S al j)).e, .int .u32 ((compN S al j)).f, .int .u32 ((compN S al j)).g, .int .u32 ((compN S al j)).h, (.sl m.length 1 0 (al.length - 64 * j)), .int .u64 nn]⟩) (by simp only [push_cast, simprocAttr, kP, kB, kL, kL2, kS, kS2, kA, kAs, kc, hl1, List.set_set, List.length_set]) (by simp) npb (by omega) rfl ?_
        simp only [push_cast, simprocAttr, kP, kB, kL, kL2, kS, kS2, kA, kAs, kc, hl1, List.set_set, List.length_set, rowB]
        refine AW.region (by decide) ?_
        simp only [push_cast, simprocAttr, kP, kB, kL, kL2, kS, kS2, kA, kAs, kc, hl1, List.set_set, List.length_set, prB, rowB, pS, u8l_len, Nat.sub_zero, Int.le_refl, c1, c2, hXi, ha1, hz, hnnS, q1, Int.add_zero, g1, g2, g3, g4, g5, g6]
        refine Thn_n ?_
        have hwi : IntKind.i64.wrap ((i:Int)+1) = (i:Int)+1 := wi (by omega)
        have hres : accP s0 bf (i + 1) = ⟨compN S al j, al.drop (64 * j), nn⟩ := by rw [hnx]; simp only [absS, happ, ← hje, ← hnn0]
        have hdl : (al.drop (64 * j)).length = al.length - 64 * j := List.length_drop
        refine ⟨i + 1, by omega, by omega, ?_⟩
        try simp only [keepL, setAll, push_cast, simprocAttr, kP, kB, kL, kL2, kS, kS2, kA, kAs, kc, hl1, List.set_set, List.length_set, prB, rowB, pS, u8l_len, Nat.sub_zero, Int.le_refl, c1, c2, hXi, ha1, hz, hnnS, q1, Int.add_zero, g1, g2, g3, g4, g5, g6, hwi, hvn, hres, hdl]
        exact Weak.to (extra := [_]) (by simp only [Keeps, Tm.get_cons, Nat.reduceEqDiff, ↓reduceIte, if_true, if_false, ite_true, ite_false, true_and, and_true, and_self, reduceCtorEq, hwi, hvn, hres, hdl]) (by first | rfl | (simp only [List.append_assoc, List.cons_append, List.nil_append]; rfl)) (by first | rfl | (simp [AV.below, CV.below]; done) | (simp [AV.below, CV.below]; omega)) (by simp only [List.length_set]; refine MWf_set (MWf_set hwf (u8l_below _ _)) ?_; simp [CV.below, lbb])
    · have happ := hal
      have hal2 := congrArg List.length hal
      rw [List.length_append] at hal2
      obtain ⟨nn, hnn⟩ : ∃ nn, nn = IntKind.u64.wrap (n + ((bf i).length : Int)) := ⟨_, rfl⟩
      have hnn0 := hnn
      have hle := hbl i hlt
      have w1 : IntKind.u64.wrap (((bf i).length : Nat) : Int) = ((bf i).length : Int) := by rw [IntKind.wrap_u64]; omega
      have q1 : r.length + (bf i).length ≤ 140737488355328 := by omega
      have q2 : al.length ≤ 140737488355328 := by omega
      have hokA : U8ok al := by rw [← hal]; exact hok.app (hbo i hlt)
      have nb := hokA.by
      have hnnS := hnn.symm
      have nrp : rb ≠ rp := fun e => by
        subst e; rw [hp] at hb2; simp only [prB, Option.some.injEq, Blk.mk.injEq] at hb2
        have := hb2.2.2.2.2
        cases X2 with
        | nil => simp [u8l] at this
        | cons x xs => simp [u8l] at this
      simp only [ec]
      have hb3 := fun (A B : Blk) => (kO rb m A B hrb nrp).trans hb2
      have ha1 : u8l r ++ ((u8l X2).drop off2).take (bf i).length = u8l al := by rw [u8l_drop, u8l_take, hx2, u8l_app, hal]
      have ha2 : off2 + (bf i).length ≤ X2.length := hf2
      have ha3 : (((u8l X2).drop off2).take (bf i).length).all CV.isVal = true := by rw [u8l_drop, u8l_take]; exact u8l_vals _
      
      iterate 2
        refine AW.region (by decide) ?_
        simp only [push_cast, simprocAttr, kP, kB, kL, kL2, kS, kS2, kA, kAs, kc, hl1, List.set_set, List.length_set, prB, rowB, pS, u8l_len, Nat.sub_zero, Int.le_refl, c1, c2, hXi, hb3, ha1, ha2, ha3, w1, q1, q2, hnnS, hal2]
        refine Thn_n ?_
        refine hK _ _ ?_
        clear hK K
        refine AW.seq_k fun K hK => ?_
      refine AW.block ?_
      refine AW.loopK [0, 8, 9, 10] (fun j => 64 * j ≤ al.length) (fun j => []) (fun j => [(rp, ⟨.fix, 74, 0, 0, [.int .u32 ((compN S al j)).a, .int .u32 ((compN S al j)).b, .int .u32 ((compN S al j)).c, .int .u32 ((compN S al j)).d, .int .u32 ((compN S al j)).e, .int .u32 ((compN S al j)).f, .int .u32 ((compN S al j)).g, .int .u32 ((compN S al j)).h, (.sl bb (v1 + 1) (64 * j) (al.length - 64 * j)), .int .u64 nn]⟩)]) (fun j => al.length - 64 * j) 0 (by omega) ?_ ?_ fun j hi18 => ?_
      · first | rfl | (simp only [Keeps, Tm.get_cons, Nat.reduceEqDiff, ↓reduceIte, if_true, if_false, ite_true, ite_false, true_and, and_true, and_self, reduceCtorEq, compN, Nat.mul_zero, Nat.sub_zero] <;> rfl)
      · first | rfl | (simp only [setAll, push_cast, simprocAttr, kP, kB, kL, kL2, kS, kS2, kA, kAs, kc, hl1, List.set_set, List.length_set, prB, rowB, pS, u8l_len, Nat.sub_zero, Int.le_refl, c1, c2, hXi, hb3, ha1, ha2, ha3, w1, q1, q2, hnnS, hal2, compN, Nat.mul_zero, Nat.sub_zero] <;> rfl)
      try simp only [keepL, setAll, push_cast, simprocAttr, kP, kB, kL, kL2, kS, kS2, kA, kAs, kc, hl1, List.set_set, List.length_set, prB, rowB, pS, u8l_len, Nat.sub_zero, Int.le_refl, c1, c2, hXi, hb3, ha1, ha2, ha3, w1, q1, q2, hnnS, hal2]
      refine AW.seq_k fun K hK => ?_
      refine AW.seq_k fun K hK => ?_
      refine AW.region (by decide) ?_
      simp only [push_cast, simprocAttr, kP, kB, kL, kL2, kS, kS2, kA, kAs, kc, hl1, List.set_set, List.length_set, prB, rowB, pS, u8l_len, Nat.sub_zero, Int.le_refl, c1, c2, hXi, hb3, ha1, ha2, ha3, w1, q1, q2, hnnS, hal2]
      refine Thn_n ?_
      refine hK _ _ ?_
      clear hK K
      refine AW.cond rfl (fun h38 => ?_) (fun h38 => ?_)
      · have hj : 64 ≤ al.length - 64 * j := by have := of_decide_eq_true h38; omega
        have c3 : (0 : Int) ≤ 64 := by omega
        have c4 : (64 : Int) ≤ ((al.length - 64 * j : Nat) : Int) := by omega
        have c5 : (((al.length - 64 * j : Nat) : Int)).toNat - 64 = al.length - 64 * j - 64 := by omega
        refine AW.skip ?_
        refine Thn_n ?_
        refine hK _ _ ?_
        clear hK K
        refine AW.seq_k fun K hK => ?_
        refine AW.block ?_
        refine AW.region (by decide) ?_
        simp only [push_cast, simprocAttr, kP, kB, kL, kL2, kS, kS2, kA, kAs, kc, hl1, List.set_set, List.length_set, prB, rowB, pS, u8l_len, Nat.sub_zero, Int.le_refl, c1, c2, hXi, hb3, ha1, ha2, ha3, w1, q1, q2, hnnS, hal2, c3, c4, c5]
        refine CThen.by (stir_c rp (compN S al j) (.sl bb (v1 + 1) (64 * j) (al.length - 64 * j)) nn bb (v1 + 1) (64 * j) 64 al _ (kP _ _ (by rw [List.length_set])) (by simp only [CV.below, List.length_set]; exact decide_eq_true lbb) ⟨_, _, kB _ _ _ rfl⟩ (by omega) (by omega) (by omega) nb) ?_
        simp only [push_cast, simprocAttr, kP, kB, kL, kL2, kS, kS2, kA, kAs, kc, hl1, List.set_set, List.length_set, prB, rowB, pS, u8l_len, Nat.sub_zero, Int.le_refl, c1, c2, hXi, hb3, ha1, ha2, ha3, w1, q1, q2, hnnS, hal2, c3, c4, c5]
        refine InB_n ?_
        refine Thn_n ?_
        refine hK _ _ ?_
        clear hK K
        refine AW.region (by decide) ?_
        simp only [push_cast, simprocAttr, kP, kB, kL, kL2, kS, kS2, kA, kAs, kc, hl1, List.set_set, List.length_set, prB, rowB, pS, u8l_len, Nat.sub_zero, Int.le_refl, c1, c2, hXi, hb3, ha1, ha2, ha3, w1, q1, q2, hnnS, hal2, c3, c4, c5]
        refine Thn_n ?_
        have e1 : 64 * (j + 1) = 64 * j + 64 := by omega
        have e2 : al.length - (64 * j + 64) = al.length - 64 * j - 64 := by omega
        have e3 : compN S al (j + 1) = comp KW (compN S al j) al (64 * j) := rfl
        refine ⟨j + 1, by omega, by omega, ?_⟩
        try simp only [keepL, setAll, push_cast, simprocAttr, kP, kB, kL, kL2, kS, kS2, kA, kAs, kc, hl1, List.set_set, List.length_set, prB, rowB, pS, u8l_len, Nat.sub_zero, Int.le_refl, c1, c2, hXi, hb3, ha1, ha2, ha3, w1, q1, q2, hnnS, hal2, c3, c4, c5, e1, e2, e3]
        exact Weak.same (by simp only [Keeps, Tm.get_cons, Nat.reduceEqDiff, ↓reduceIte, if_true, if_false, ite_true, ite_false, true_and, and_true, and_self, reduceCtorEq, e1, e2, e3]) (by first | rfl | simp only [Keeps, Tm.get_cons, Nat.reduceEqDiff, ↓reduceIte, if_true, if_false, ite_true, ite_false, true_and, and_true, and_self, reduceCtorEq, e1, e2, e3])
      · have hj : al.length - 64 * j < 64 := by have := of_decide_eq_false h38; omega
        have hje : j = al.length / 64 := by omega
        have g1 : (u8l al).drop (64 * j) = u8l (al.drop (64 * j)) := u8l_drop _ _
        have g2 : (u8l (al.drop (64 * j))).take (al.length - 64 * j) = u8l (al.drop (64 * j)) := List.take_of_length_le (by rw [u8l_len, List.length_drop]; exact Nat.le_refl _)
        have g3 : 64 * j + (al.length - 64 * j) ≤ al.length := by omega
        have g4 : al.length - 64 * j ≤ 140737488355328 := by omega
        have g5 := u8l_vals (al.drop (64 * j))
        have g6 := u8l_len (al.drop (64 * j))
        refine AW.exit ?_
        refine Thn_e ?_
        clear hK K
        refine Thn_e ?_
        refine InB_here ?_
        refine Thn_n ?_
        refine hK _ _ ?_
        clear hK K
        refine AW.region (by decide) ?_
        simp only [push_cast, simprocAttr, kP, kB, kL, kL2, kS, kS2, kA, kAs, kc, hl1, List.set_set, List.length_set, prB, rowB, pS, u8l_len, Nat.sub_zero, Int.le_refl, c1, c2, hXi, hb3, ha1, ha2, ha3, w1, q1, q2, hnnS, hal2, g1, g2, g3, g4, g5, g6]
        refine InB_n ?_
        refine Thn_n ?_
        refine hK _ _ ?_
        clear hK K
        refine AW.moveC bb m.length 60 (al.length - 64 * j) rp 8 (b := rowB (v1 + 1) al) (e := ⟨.grow, 5, 1, 1, u8l (al.drop (64 * j))⟩) (by simp only [push_cast, simprocAttr, kP, kB, kL, kL2, kS, kS2, kA, kAs, kc, hl1, List.set_set, List.length_set, rowB]) rfl (by simp only [push_cast, simprocAttr, kP, kB, kL, kL2, kS, kS2, kA, kAs, kc, hl1, List.set_set, List.length_set]) rfl (by omega) (by simp only [push_cast, simprocAttr]) (p := ⟨.fix, 74, 0, 0, [.int .u32 ((compN S al j)).a, .int .u32 ((compN S al j)).b, .int .u32 ((compN S al j)).c, .int .u32 ((compN S al j)).d, .int .u32 ((compN S al j)).e, .int .u32 ((compN S al j)).f, .int .u32 ((compN S al j)).g, .int .u32 ((compN S al j)).h, (.sl m.length 1 0 (al.length - 64 * j)), .int .u64 nn]⟩) (by simp only [push_cast, simprocAttr, kP, kB, kL, kL2, kS, kS2, kA, kAs, kc, hl1, List.set_set, List.length_set]) (by simp) npb (by omega) rfl ?_
        simp only [push_cast, simprocAttr, kP, kB, kL, kL2, kS, kS2, kA, kAs, kc, hl1, List.set_set, List.length_set, rowB]
        refine AW.region (by decide) ?_
        simp only [push_cast, simprocAttr, kP, kB, kL, kL2, kS, kS2, kA, kAs, kc, hl1, List.set_set, List.length_set, prB, rowB, pS, u8l_len, Nat.sub_zero, Int.le_refl, c1, c2, hXi, hb3, ha1, ha2, ha3, w1, q1, q2, hnnS, hal2, g1, g2, g3, g4, g5, g6]
        refine Thn_n ?_
        have hwi : IntKind.i64.wrap ((i:Int)+1) = (i:Int)+1 := wi (by omega)
        have hres : accP s0 bf (i + 1) = ⟨compN S al j, al.drop (64 * j), nn⟩ := by rw [hnx]; simp only [absS, happ, ← hje, ← hnn0]
        have hdl : (al.drop (64 * j)).length = al.length - 64 * j := List.length_drop
        refine ⟨i + 1, by omega, by omega, ?_⟩
        try simp only [keepL, setAll, push_cast, simprocAttr, kP, kB, kL, kL2, kS, kS2, kA, kAs, kc, hl1, List.set_set, List.length_set, prB, rowB, pS, u8l_len, Nat.sub_zero, Int.le_refl, c1, c2, hXi, hb3, ha1, ha2, ha3, w1, q1, q2, hnnS, hal2, g1, g2, g3, g4, g5, g6, hwi, hvn, hres, hdl]
        exact Weak.to (extra := [_]) (by simp only [Keeps, Tm.get_cons, Nat.reduceEqDiff, ↓reduceIte, if_true, if_false, ite_true, ite_false, true_and, and_true, and_self, reduceCtorEq, hwi, hvn, hres, hdl]) (by first | rfl | (simp only [List.append_assoc, List.cons_append, List.nil_append]; rfl)) (by first | rfl | (simp [AV.below, CV.below]; done) | (simp [AV.below, CV.below]; omega)) (by simp only [List.length_set]; refine MWf_set (MWf_set hwf (u8l_below _ _)) ?_; simp [CV.below, lbb])
  · have hin : i = np := by have := of_decide_eq_false h11; omega
    subst hin
    refine AW.exit ?_
    refine Thn_e ?_
    clear hK K
    refine Thn_e ?_
    refine InB_here ?_
    refine hQ _ _ _ ?_
    rw [hv1, hst]
    first | refine RetP.dropM0 (pwr_len m rp bb _ _) (Or.inl rfl) ?_ ?_ (pwr_wf rp bb _ _ hwf lbb) | refine RetP.dropM (m1 := pwr m rp bb _ _) (pwr_len m rp bb _ _) (Or.inl rfl) ?_ ?_ (pwr_wf rp bb _ _ hwf lbb)
    · rfl
    · rfl
    
end Go.Proofs.Ytmjbbnfmhgcfaaa

set_option linter.unusedSimpArgs false
set_option linter.unusedVariables false
set_option maxRecDepth 100000
set_option maxHeartbeats 4000000
namespace Go.Proofs.Ytmjbbnfmhgcfaaa
open Go Go.Eng

def padz (n : Nat) : Nat := (119 - n % 64) % 64
theorem padz_ok (n : Nat) : (n + 1 + padz n) % 64 = 56 := by unfold padz; omega
theorem padz_lt {n j : Nat} (h : j < padz n) : (n + 1 + j) % 64 ≠ 56 := by unfold padz at h; omega
theorem padz_eq {n j : Nat} (h : j ≤ padz n) (h2 : (n + 1 + j) % 64 = 56) : j = padz n := by unfold padz at *; omega
theorem padz_le (n : Nat) : padz n < 64 := by unfold padz; omega
def hiW (n : Int) : Int := IntKind.u32.wrap ((IntKind.u64.wrap (8 * n)).fdiv 4294967296)
def loW (n : Int) : Int := IntKind.u32.wrap (IntKind.u64.wrap (8 * n))
def padL (r : List Int) (j : Nat) : List Int := r ++ 128 :: List.replicate j 0
def lastL (s : PS) : List Int := padL s.r (padz s.r.length) ++ fourL (hiW s.n) ++ fourL (loW s.n)
theorem padL_len (r : List Int) (j : Nat) : (padL r j).length = r.length + 1 + j := by simp [padL]; omega
theorem lastL_len (s : PS) : (lastL s).length = s.r.length + 1 + padz s.r.length + 8 := by simp only [lastL, List.length_append, padL_len]; rfl
theorem fourL_ok (n : Int) : U8ok (fourL n) := fun x hx => by
  simp only [fourL, List.mem_cons, List.not_mem_nil, or_false] at hx
  rcases hx with rfl | rfl | rfl | rfl <;> (rw [w8]; omega)
theorem padL_ok {r : List Int} (h : U8ok r) (j : Nat) : U8ok (padL r j) := h.app fun x hx => by
  rcases List.mem_cons.1 hx with rfl | hx
  · omega
  · obtain ⟨_, rfl⟩ := List.mem_replicate.1 hx; omega
theorem lastL_ok {s : PS} (h : U8ok s.r) : U8ok (lastL s) := ((padL_ok h _).app (fourL_ok _)).app (fourL_ok _)
def finS (s : PS) : S8 := compN s.S (lastL s) ((lastL s).length / 64)
def digL (S : S8) : List Int := fourL S.a ++ fourL S.b ++ fourL S.c ++ fourL S.d ++ fourL S.e ++ fourL S.f ++ fourL S.g ++ fourL S.h
def dP (S : S8) (i : Nat) : List Int := (digL S).take (4 * i) ++ List.replicate (32 - 4 * i) 0
def hS (S : S8) : List CV := [.int .u32 S.a, .int .u32 S.b, .int .u32 S.c, .int .u32 S.d, .int .u32 S.e, .int .u32 S.f, .int .u32 S.g, .int .u32 S.h]
def hF (S : S8) : Nat → Int
  | 0 => S.a | 1 => S.b | 2 => S.c | 3 => S.d | 4 => S.e | 5 => S.f | 6 => S.g | _ => S.h
theorem hS_get (S : S8) : ∀ {i : Nat}, i < 8 → (hS S)[i]? = some (.int .u32 (hF S i))
  | 0, _ => rfl | 1, _ => rfl | 2, _ => rfl | 3, _ => rfl | 4, _ => rfl | 5, _ => rfl | 6, _ => rfl | 7, _ => rfl
  | n + 8, h => by omega
theorem dP_succ (S : S8) : ∀ {i : Nat}, i < 8 → setL (u8l (dP S i)) (4 * i) (u8l (fourL (hF S i))) = u8l (dP S (i + 1))
  | 0, _ => rfl | 1, _ => rfl | 2, _ => rfl | 3, _ => rfl | 4, _ => rfl | 5, _ => rfl | 6, _ => rfl | 7, _ => rfl
  | n + 8, h => by omega
theorem dP_len (S : S8) {i : Nat} (h : i ≤ 8) : (dP S i).length = 32 := by
  have : (digL S).length = 32 := rfl
  simp only [dP, List.length_append, List.length_take, List.length_replicate, this]; omega
theorem dP_full (S : S8) : dP S 8 = digL S := rfl
theorem padL_succ (r : List Int) (j : Nat) : u8l (padL r j) ++ [.int .u8 0] = u8l (padL r (j + 1)) := by
  simp [u8l, padL, List.replicate_succ']
theorem padL_zero (r : List Int) : u8l r ++ [.int .u8 128] = u8l (padL r 0) := by simp [u8l, padL]

theorem sum_c (rp bb vb : Nat) (s : PS) (m : AMem) (hp : m[rp]? = some (prB s.S (.sl bb vb 0 s.r.length) s.n)) (hbb : m[bb]? = some (rowB vb s.r)) (hr0 : s.r.length < 64) (ho0 : U8ok s.r) : Ctr Try.prog 24 [.one (.ptr rp 0 0)] m (.agg (u8l (digL (finS s)))) m := by
  refine Ctr.enter Try.func24 rfl (by decide) (rs := [.cell 2 36]) (nt := 73) rfl rfl fun hwf Q hQ => ?_
  obtain ⟨S, r, n⟩ := s
  dsimp only at hp hbb hr0 ho0 ⊢
  have lp := get_lt hp
  have lbb := get_lt hbb
  have ha1 := u8l_len r
  have ha2 := u8l_vals r
  have ha3 : (u8l r).take r.length = u8l r := List.take_of_length_le (by rw [u8l_len]; exact Nat.le_refl _)
  have ha4 : r.length ≤ 140737488355328 := by omega
  have ha5 : r.length + 1 ≤ 140737488355328 := by omega
  have hz0 := padL_zero r
  have q1 : (2:Int) ^ min 32 IntKind.u64.bits = 4294967296 := by decide
  have hll := lastL_len ⟨S, r, n⟩
  have hpz := padz_le r.length
  have hpl0 : (padL r 0).length = r.length + 1 := padL_len r 0
  have hpo := padz_ok r.length
  dsimp only at hll
  obtain ⟨la, hla⟩ : ∃ la, lastL ⟨S, r, n⟩ = la := ⟨_, rfl⟩
  have hok : U8ok la := by rw [← hla]; exact lastL_ok ho0
  have nb := hok.by
  rw [hla] at hll
  have hfin : finS ⟨S, r, n⟩ = compN S la (la.length / 64) := by unfold finS; rw [hla]
  have hlc : u8l (padL r (padz r.length)) ++ u8l (fourL (hiW n)) ++ u8l (fourL (loW n)) = u8l la := by rw [← hla, u8l_app, u8l_app]; rfl
  have hlc2 : u8l (padL r (padz r.length)) ++ (u8l (fourL (hiW n)) ++ u8l (fourL (loW n))) = u8l la := by rw [← List.append_assoc]; exact hlc
  have hhi : IntKind.u32.wrap ((IntKind.u64.wrap (8 * n)).fdiv 4294967296) = hiW n := rfl
  have hlo : IntKind.u32.wrap (IntKind.u64.wrap (8 * n)) = loW n := rfl
  have hfx : ∀ x, u8l (fourL x) = [.int .u8 (IntKind.u8.wrap (x.fdiv 16777216)), .int .u8 (IntKind.u8.wrap (x.fdiv 65536)), .int .u8 (IntKind.u8.wrap (x.fdiv 256)), .int .u8 (IntKind.u8.wrap x)] := fun x => rfl
  have mn4 : min 4 4 = 4 := rfl
  have mn8 : min 4 8 = 4 := rfl
  have mn12 : min 4 12 = 4 := rfl
  have mn16 : min 4 16 = 4 := rfl
  have mn20 : min 4 20 = 4 := rfl
  have mn24 : min 4 24 = 4 := rfl
  have mn28 : min 4 28 = 4 := rfl
  have mn32 : min 4 32 = 4 := rfl
  have f1 : ∀ x, (u8l (fourL x)).take 4 = u8l (fourL x) := fun x => rfl
  have f2 : ∀ x, (u8l (fourL x)).length = 4 := fun x => rfl
  have f3 : ∀ x, (u8l (fourL x)).all CV.isVal = true := fun x => u8l_vals _
  
  refine AW.seq_k fun K hK => ?_
  refine AW.region (by decide) ?_
  simp only [push_cast, simprocAttr, hp, lk_old hp, hbb, lk_old hbb, prB, rowB, pS, u8l_len, Nat.sub_zero, Int.le_refl, ha1, ha2, ha3, ha4, ha5, hz0, q1, hhi, hlo, f1, f2, f3]
  refine Thn_n ?_
  refine hK _ _ ?_
  clear hK K
  refine AW.seq_k fun K hK => ?_
  refine AW.seq_k fun K hK => ?_
  refine AW.region (by decide) ?_
  simp only [push_cast, simprocAttr, hp, lk_old hp, hbb, lk_old hbb, prB, rowB, pS, u8l_len, Nat.sub_zero, Int.le_refl, ha1, ha2, ha3, ha4, ha5, hz0, q1, hhi, hlo, f1, f2, f3]
  refine Thn_n ?_
  refine hK _ _ ?_
  clear hK K
  refine AW.cond_f rfl ?_
  refine AW.skip ?_
  refine Thn_n ?_
  refine hK _ _ ?_
  clear hK K
  refine AW.seq_k fun K hK => ?_
  refine AW.draw [.val, .val, .val, .rd 0, .ext, .val, .val, .val, .rd 0, .up 0, .val, .fl, .wr] fol (by decide) (by kernel_rfl) ?_
  simp only [push_cast, simprocAttr, hp, lk_old hp, hbb, lk_old hbb, prB, rowB, pS, u8l_len, Nat.sub_zero, Int.le_refl, ha1, ha2, ha3, ha4, ha5, hz0, q1, hhi, hlo, f1, f2, f3]
  refine DExt.by (by first | rfl | (simp only [List.append_assoc, List.cons_append, List.nil_append]; rfl)) ?_
  simp only [push_cast, simprocAttr, hp, lk_old hp, hbb, lk_old hbb, prB, rowB, pS, u8l_len, Nat.sub_zero, Int.le_refl, ha1, ha2, ha3, ha4, ha5, hz0, q1, hhi, hlo, f1, f2, f3]
  refine DUp.by (by first | rfl | (simp only [List.append_assoc, List.cons_append, List.nil_append]; rfl)) (by first | rfl | (simp only [List.append_assoc, List.cons_append, List.nil_append]; rfl)) ?_
  simp only [push_cast, simprocAttr, hp, lk_old hp, hbb, lk_old hbb, prB, rowB, pS, u8l_len, Nat.sub_zero, Int.le_refl, ha1, ha2, ha3, ha4, ha5, hz0, q1, hhi, hlo, f1, f2, f3]
  refine Thn_n ?_
  refine hK _ _ ?_
  clear hK K
  refine AW.seq_k fun K hK => ?_
  refine AW.region (by decide) ?_
  simp only [push_cast, simprocAttr, hp, lk_old hp, hbb, lk_old hbb, prB, rowB, pS, u8l_len, Nat.sub_zero, Int.le_refl, ha1, ha2, ha3, ha4, ha5, hz0, q1, hhi, hlo, f1, f2, f3]
  refine Thn_n ?_
  refine hK _ _ ?_
  clear hK K
  refine AW.seq_k fun K hK => ?_
  refine AW.block ?_
  refine AW.loopK [0, 2, 3] (fun j => j ≤ padz r.length) (fun j => [(4, .one (.sl (m.length + 1) (2 + j) 0 (padL r j).length))]) (fun j => [(m.length + 1, ⟨.grow, 5, 2 + j, 1, u8l (padL r j)⟩)]) (fun j => padz r.length - j) 0 (by omega) ?_ ?_ fun j hi7 => ?_
  · first | rfl | (simp only [Keeps, Tm.get_cons, Nat.reduceEqDiff, ↓reduceIte, if_true, if_false, ite_true, ite_false, true_and, and_true, and_self, reduceCtorEq, hpl0] <;> rfl)
  · first | rfl | (simp only [setAll, push_cast, simprocAttr, hp, lk_old hp, hbb, lk_old hbb, prB, rowB, pS, u8l_len, Nat.sub_zero, Int.le_refl, ha1, ha2, ha3, ha4, ha5, hz0, q1, hhi, hlo, f1, f2, f3, hpl0] <;> rfl)
  have hi : j ≤ padz r.length := hi7
  have hpl := padL_len r j
  have hpl2 : (padL r (j + 1)).length = (padL r j).length + 1 := by rw [padL_len, padL_len]; omega
  have hsn := padL_succ r j
  have hpm : (((padL r j).length : Nat) : Int).tmod 64 = (((padL r j).length % 64 : Nat) : Int) := rfl
  have q3 : (padL r j).length ≤ 140737488355328 := by omega
  have q4 : (padL r j).length + 1 ≤ 140737488355328 := by omega
  try simp only [keepL, setAll, push_cast, simprocAttr, hp, lk_old hp, hbb, lk_old hbb, prB, rowB, pS, u8l_len, Nat.sub_zero, Int.le_refl, ha1, ha2, ha3, ha4, ha5, hz0, q1, hhi, hlo, f1, f2, f3]
  refine AW.seq_k fun K hK => ?_
  refine AW.seq_k fun K hK => ?_
  refine AW.region (by decide) ?_
  simp only [push_cast, simprocAttr, hp, lk_old hp, hbb, lk_old hbb, prB, rowB, pS, u8l_len, Nat.sub_zero, Int.le_refl, ha1, ha2, ha3, ha4, ha5, hz0, q1, hhi, hlo, f1, f2, f3]
  refine Thn_n ?_
  refine hK _ _ ?_
  clear hK K
  refine AW.cond rfl (fun h29 => ?_) (fun h29 => ?_)
  · have hlt : j < padz r.length := by
      have h1 : (padL r j).length % 64 ≠ 56 := fun e => by
        rw [hpm, e] at h29; exact absurd h29 (by decide)
      have : j ≠ padz r.length := fun e => by subst e; exact h1 (by rw [hpl]; exact hpo)
      omega
    refine AW.skip ?_
    refine Thn_n ?_
    refine hK _ _ ?_
    clear hK K
    refine AW.block ?_
    refine AW.region (by decide) ?_
    simp only [push_cast, simprocAttr, hp, lk_old hp, hbb, lk_old hbb, prB, rowB, pS, u8l_len, Nat.sub_zero, Int.le_refl, ha1, ha2, ha3, ha4, ha5, hz0, q1, hhi, hlo, f1, f2, f3, hsn, q3, q4]
    refine InB_n ?_
    refine Thn_n ?_
    refine ⟨j + 1, hlt, by omega, ?_⟩
    try simp only [keepL, setAll, push_cast, simprocAttr, hp, lk_old hp, hbb, lk_old hbb, prB, rowB, pS, u8l_len, Nat.sub_zero, Int.le_refl, ha1, ha2, ha3, ha4, ha5, hz0, q1, hhi, hlo, f1, f2, f3, hsn, q3, q4, hpl2]
    exact Weak.to (extra := [_]) (by simp only [Keeps, Tm.get_cons, Nat.reduceEqDiff, ↓reduceIte, if_true, if_false, ite_true, ite_false, true_and, and_true, and_self, reduceCtorEq, hpl2]) (by first | rfl | (simp only [List.append_assoc, List.cons_append, List.nil_append]; rfl)) (by first | rfl | (simp [AV.below, CV.below, u8l_below]; done) | (simp [AV.below, CV.below, u8l_below]; omega)) (by
      first | exact hwf | refine MWf.app (hwf.grow (by simp)) ?_
      repeat (first | exact MWf_nil | (refine MWf_cons ?_ ?_; · first | rfl | (simp [CV.below, u8l_below]; done) | (simp [CV.below, u8l_below]; omega))))
  · have hje : j = padz r.length := by
      refine padz_eq hi (Decidable.byContradiction fun h1 => ?_)
      rw [← hpl] at h1; rw [hpm] at h29
      simp at h29; omega
    subst hje
    have n1 : (padL r (padz r.length)).length + 4 ≤ 140737488355328 := by omega
    have n2 : (padL r (padz r.length)).length + 8 ≤ 140737488355328 := by omega
    have n3 : (padL r (padz r.length)).length + 8 = la.length := by omega
    have n4 : la.length ≤ 140737488355328 := by omega
    refine AW.exit ?_
    refine Thn_e ?_
    clear hK K
    refine Thn_e ?_
    refine InB_here ?_
    refine Thn_n ?_
    refine hK _ _ ?_
    clear hK K
    refine AW.seq_k fun K hK => ?_
    refine AW.draw [.val, .val, .val, .val, .rd 0, .val, .val, .val, .ext, .wr, .val, .val, .val, .rw 0, .val, .val, .ext, .wr, .val] fol (by decide) (by kernel_rfl) ?_
    iterate 2
      simp only [push_cast, simprocAttr, hp, lk_old hp, hbb, lk_old hbb, prB, rowB, pS, u8l_len, Nat.sub_zero, Int.le_refl, ha1, ha2, ha3, ha4, ha5, hz0, q1, hhi, hlo, f1, f2, f3, q3, q4, n1, n2, n3, n4, hlc, hlc2]
      refine DCall.by (four_c _ _) ?_
    simp only [push_cast, simprocAttr, hp, lk_old hp, hbb, lk_old hbb, prB, rowB, pS, u8l_len, Nat.sub_zero, Int.le_refl, ha1, ha2, ha3, ha4, ha5, hz0, q1, hhi, hlo, f1, f2, f3, q3, q4, n1, n2, n3, n4, hlc, hlc2]
    refine AOpsD_end (by simp only [watchS, allAt, push_cast, simprocAttr, hp, lk_old hp, hbb, lk_old hbb, prB, rowB, pS, u8l_len, Nat.sub_zero, Int.le_refl, ha1, ha2, ha3, ha4, ha5, hz0, q1, hhi, hlo, f1, f2, f3, q3, q4, n1, n2, n3, n4, hlc, hlc2]) ?_
    refine Thn_n ?_
    refine hK _ _ ?_
    clear hK K
    refine AW.seq_k fun K hK => ?_
    refine AW.block ?_
    refine AW.loopK [2, 3] (fun j => 64 * j ≤ la.length) (fun j => [(4, .one (.sl (m.length + 1) (2 + (padz r.length + 2)) (64 * j) (la.length - 64 * j)))]) (fun j => [(m.length + 2, ⟨.fix, 74, 0, 0, [.int .u32 ((compN S la j)).a, .int .u32 ((compN S la j)).b, .int .u32 ((compN S la j)).c, .int .u32 ((compN S la j)).d, .int .u32 ((compN S la j)).e, .int .u32 ((compN S la j)).f, .int .u32 ((compN S la j)).g, .int .u32 ((compN S la j)).h, (.sl (m.length + 1) 1 0 r.length), .int .u64 0]⟩)]) (fun j => la.length - 64 * j) 0 (by omega) ?_ ?_ fun j hi12 => ?_
    · first | rfl | (simp only [Keeps, Tm.get_cons, Nat.reduceEqDiff, ↓reduceIte, if_true, if_false, ite_true, ite_false, true_and, and_true, and_self, reduceCtorEq, compN, Nat.mul_zero, Nat.sub_zero] <;> rfl)
    · first | rfl | (simp only [setAll, push_cast, simprocAttr, hp, lk_old hp, hbb, lk_old hbb, prB, rowB, pS, u8l_len, Nat.sub_zero, Int.le_refl, ha1, ha2, ha3, ha4, ha5, hz0, q1, hhi, hlo, f1, f2, f3, q3, q4, n1, n2, n3, n4, hlc, hlc2, compN, Nat.mul_zero, Nat.sub_zero] <;> rfl)
    try simp only [keepL, setAll, push_cast, simprocAttr, hp, lk_old hp, hbb, lk_old hbb, prB, rowB, pS, u8l_len, Nat.sub_zero, Int.le_refl, ha1, ha2, ha3, ha4, ha5, hz0, q1, hhi, hlo, f1, f2, f3, q3, q4, n1, n2, n3, n4, hlc, hlc2]
    refine AW.seq_k fun K hK => ?_
    refine AW.seq_k fun K hK => ?_
    refine AW.region (by decide) ?_
    simp only [push_cast, simprocAttr, hp, lk_old hp, hbb, lk_old hbb, prB, rowB, pS, u8l_len, Nat.sub_zero, Int.le_refl, ha1, ha2, ha3, ha4, ha5, hz0, q1, hhi, hlo, f1, f2, f3, q3, q4, n1, n2, n3, n4, hlc, hlc2]
    refine Thn_n ?_
    refine hK _ _ ?_
    clear hK K
    refine AW.cond rfl (fun h53 => ?_) (fun h53 => ?_)
    · have hj : 64 ≤ la.length - 64 * j := by have := of_decide_eq_true h53; omega
      have c3 : (0 : Int) ≤ 64 := by omega
      have c4 : (64 : Int) ≤ ((la.length - 64 * j : Nat) : Int) := by omega
      have c5 : (((la.length - 64 * j : Nat) : Int)).toNat - 64 = la.length - 64 * j - 64 := by omega
      refine AW.skip ?_
      refine Thn_n ?_
      refine hK _ _ ?_
      clear hK K
      refine AW.seq_k fun K hK => ?_
      refine AW.block ?_
      refine AW.region (by decide) ?_
      simp only [push_cast, simprocAttr, hp, lk_old hp, hbb, lk_old hbb, prB, rowB, pS, u8l_len, Nat.sub_zero, Int.le_refl, ha1, ha2, ha3, ha4, ha5, hz0, q1, hhi, hlo, f1, f2, f3, q3, q4, n1, n2, n3, n4, hlc, hlc2, c3, c4, c5]
      refine CThen.by (stir_c (m.length + 2) (compN S la j) (.sl (m.length + 1) 1 0 r.length) 0 (m.length + 1) (2 + (padz r.length + 2)) (64 * j) 64 la _ (by simp only [push_cast, simprocAttr]) (by simp [CV.below]) ⟨.grow, 1, by simp only [push_cast, simprocAttr]⟩ (by omega) (by omega) (by omega) nb) ?_
      simp only [push_cast, simprocAttr, hp, lk_old hp, hbb, lk_old hbb, prB, rowB, pS, u8l_len, Nat.sub_zero, Int.le_refl, ha1, ha2, ha3, ha4, ha5, hz0, q1, hhi, hlo, f1, f2, f3, q3, q4, n1, n2, n3, n4, hlc, hlc2, c3, c4, c5]
      refine InB_n ?_
      refine Thn_n ?_
      refine hK _ _ ?_
      clear hK K
      refine AW.region (by decide) ?_
      simp only [push_cast, simprocAttr, hp, lk_old hp, hbb, lk_old hbb, prB, rowB, pS, u8l_len, Nat.sub_zero, Int.le_refl, ha1, ha2, ha3, ha4, ha5, hz0, q1, hhi, hlo, f1, f2, f3, q3, q4, n1, n2, n3, n4, hlc, hlc2, c3, c4, c5]
      refine Thn_n ?_
      have e1 : 64 * (j + 1) = 64 * j + 64 := by omega
      have e2 : la.length - (64 * j + 64) = la.length - 64 * j - 64 := by omega
      have e3 : compN S la (j + 1) = comp KW (compN S la j) la (64 * j) := rfl
      refine ⟨j + 1, by omega, by omega, ?_⟩
      try simp only [keepL, setAll, push_cast, simprocAttr, hp, lk_old hp, hbb, lk_old hbb, prB, rowB, pS, u8l_len, Nat.sub_zero, Int.le_refl, ha1, ha2, ha3, ha4, ha5, hz0, q1, hhi, hlo, f1, f2, f3, q3, q4, n1, n2, n3, n4, hlc, hlc2, c3, c4, c5, e1, e2, e3]
      exact Weak.same (by simp only [Keeps, Tm.get_cons, Nat.reduceEqDiff, ↓reduceIte, if_true, if_false, ite_true, ite_false, true_and, and_true, and_self, reduceCtorEq, e1, e2, e3]) (by first | rfl | simp only [Keeps, Tm.get_cons, Nat.reduceEqDiff, ↓reduceIte, if_true, if_false, ite_true, ite_false, true_and, and_true, and_self, reduceCtorEq, e1, e2, e3])
    · have hd0 : u8l (dP (compN S la (la.length / 64)) 0) = [.int .u8 0, .int .u8 0, .int .u8 0, .int .u8 0, .int .u8 0, .int .u8 0, .int .u8 0, .int .u8 0, .int .u8 0, .int .u8 0, .int .u8 0, .int .u8 0, .int .u8 0, .int .u8 0, .int .u8 0, .int .u8 0, .int .u8 0, .int .u8 0, .int .u8 0, .int .u8 0, .int .u8 0, .int .u8 0, .int .u8 0, .int .u8 0, .int .u8 0, .int .u8 0, .int .u8 0, .int .u8 0, .int .u8 0, .int .u8 0, .int .u8 0, .int .u8 0] := rfl
      have hje : j = la.length / 64 := by have := of_decide_eq_false h53; omega
      subst hje
      refine AW.exit ?_
      refine Thn_e ?_
      clear hK K
      refine Thn_e ?_
      refine InB_here ?_
      refine Thn_n ?_
      refine hK _ _ ?_
      clear hK K
      refine AW.seq_k fun K hK => ?_
      refine AW.region (by decide) ?_
      simp only [push_cast, simprocAttr, hp, lk_old hp, hbb, lk_old hbb, prB, rowB, pS, u8l_len, Nat.sub_zero, Int.le_refl, ha1, ha2, ha3, ha4, ha5, hz0, q1, hhi, hlo, f1, f2, f3, q3, q4, n1, n2, n3, n4, hlc, hlc2]
      refine Thn_n ?_
      refine hK _ _ ?_
      clear hK K
      refine AW.seq_k fun K hK => ?_
      refine AW.seq_k fun K hK => ?_
      refine AW.region (by decide) ?_
      simp only [push_cast, simprocAttr, hp, lk_old hp, hbb, lk_old hbb, prB, rowB, pS, u8l_len, Nat.sub_zero, Int.le_refl, ha1, ha2, ha3, ha4, ha5, hz0, q1, hhi, hlo, f1, f2, f3, q3, q4, n1, n2, n3, n4, hlc, hlc2]
      refine Thn_n ?_
      refine hK _ _ ?_
      clear hK K
      refine AW.block ?_
      refine AW.loopK [2, 5, 60] (fun i => i ≤ (8 : Nat)) (fun i => [(61, .one (.int .i64 (i : Int)))]) (fun i => [(m.length + 6, ⟨.fix, 36, 0, 0, u8l (dP (compN S la (la.length / 64)) i)⟩)]) (fun i => 8 - i) 0 (by omega) ?_ ?_ fun i hi19 => ?_
      · first | rfl | (simp only [Keeps, Tm.get_cons, Nat.reduceEqDiff, ↓reduceIte, if_true, if_false, ite_true, ite_false, true_and, and_true, and_self, reduceCtorEq, hd0, Int.natCast_zero] <;> rfl)
      · first | rfl | (simp only [setAll, push_cast, simprocAttr, hp, lk_old hp, hbb, lk_old hbb, prB, rowB, pS, u8l_len, Nat.sub_zero, Int.le_refl, ha1, ha2, ha3, ha4, ha5, hz0, q1, hhi, hlo, f1, f2, f3, q3, q4, n1, n2, n3, n4, hlc, hlc2, hd0, Int.natCast_zero] <;> rfl)
      have hi8 : i ≤ 8 := hi19
      try simp only [keepL, setAll, push_cast, simprocAttr, hp, lk_old hp, hbb, lk_old hbb, prB, rowB, pS, u8l_len, Nat.sub_zero, Int.le_refl, ha1, ha2, ha3, ha4, ha5, hz0, q1, hhi, hlo, f1, f2, f3, q3, q4, n1, n2, n3, n4, hlc, hlc2]
      refine AW.seq_k fun K hK => ?_
      refine AW.region (by decide) ?_
      simp only [push_cast, simprocAttr, hp, lk_old hp, hbb, lk_old hbb, prB, rowB, pS, u8l_len, Nat.sub_zero, Int.le_refl, ha1, ha2, ha3, ha4, ha5, hz0, q1, hhi, hlo, f1, f2, f3, q3, q4, n1, n2, n3, n4, hlc, hlc2]
      refine Thn_n ?_
      refine hK _ _ ?_
      clear hK K
      refine AW.seq_k fun K hK => ?_
      refine AW.cond rfl (fun h62 => ?_) (fun h62 => ?_)
      · have hlt8 : i < 8 := by have := of_decide_eq_true h62; omega
        have c3 : (0 : Int) ≤ (i : Int) := by omega
        have c4 : (i : Int) < 8 := by omega
        have gi := hS_get (compN S la (la.length / 64)) hlt8
        have hsn8 := dP_succ (compN S la (la.length / 64)) hlt8
        have wi4 : IntKind.i64.wrap (4 * (i : Int)) = 4 * (i : Int) := wi (by omega)
        have c5 : (0 : Int) ≤ 4 * (i : Int) := by omega
        have c6 : 4 * (i : Int) ≤ 32 := by omega
        have c7 : (4 * (i : Int)).toNat = 4 * i := by omega
        have c8 : min 4 (32 - 4 * i) = 4 := by omega
        have c9 := dP_len (compN S la (la.length / 64)) hi8
        have c10 : 4 * i + 4 ≤ 32 := by omega
        simp only [hS] at gi
        refine AW.skip ?_
        refine Thn_n ?_
        refine hK _ _ ?_
        clear hK K
        refine AW.seq_k fun K hK => ?_
        refine AW.block ?_
        refine AW.seq_k fun K hK => ?_
        refine AW.region (by decide) ?_
        simp only [push_cast, simprocAttr, hp, lk_old hp, hbb, lk_old hbb, prB, rowB, pS, u8l_len, Nat.sub_zero, Int.le_refl, ha1, ha2, ha3, ha4, ha5, hz0, q1, hhi, hlo, f1, f2, f3, q3, q4, n1, n2, n3, n4, hlc, hlc2, gi, hsn8, wi4, c3, c4, c5, c6, c7, c8, c9, c10]
        refine Thn_n ?_
        refine hK _ _ ?_
        clear hK K
        refine AW.drawX fol (by kernel_rfl) ?_
        refine DX.split 2 4 (by decide) ?_ ?_
        · refine DX.run [0, 1, 2, 3, 4, 5] [.val, .val, .ext, .val, .ext, .wr] (by simp only [permL, reOp, List.idxOf_cons, push_cast, simprocAttr, hp, lk_old hp, hbb, lk_old hbb, prB, rowB, pS, u8l_len, Nat.sub_zero, Int.le_refl, ha1, ha2, ha3, ha4, ha5, hz0, q1, hhi, hlo, f1, f2, f3, q3, q4, n1, n2, n3, n4, hlc, hlc2, gi, hsn8, wi4, c3, c4, c5, c6, c7, c8, c9, c10]; first | done | rfl) (by kernel_rfl) ?_
          simp only [push_cast, simprocAttr, hp, lk_old hp, hbb, lk_old hbb, prB, rowB, pS, u8l_len, Nat.sub_zero, Int.le_refl, ha1, ha2, ha3, ha4, ha5, hz0, q1, hhi, hlo, f1, f2, f3, q3, q4, n1, n2, n3, n4, hlc, hlc2, gi, hsn8, wi4, c3, c4, c5, c6, c7, c8, c9, c10]
          refine DExt.by (by first | rfl | (simp only [List.append_assoc, List.cons_append, List.nil_append]; rfl)) ?_
          simp only [push_cast, simprocAttr, hp, lk_old hp, hbb, lk_old hbb, prB, rowB, pS, u8l_len, Nat.sub_zero, Int.le_refl, ha1, ha2, ha3, ha4, ha5, hz0, q1, hhi, hlo, f1, f2, f3, q3, q4, n1, n2, n3, n4, hlc, hlc2, gi, hsn8, wi4, c3, c4, c5, c6, c7, c8, c9, c10]
          refine DCall.by (four_c _ _) ?_
          simp only [push_cast, simprocAttr, hp, lk_old hp, hbb, lk_old hbb, prB, rowB, pS, u8l_len, Nat.sub_zero, Int.le_refl, ha1, ha2, ha3, ha4, ha5, hz0, q1, hhi, hlo, f1, f2, f3, q3, q4, n1, n2, n3, n4, hlc, hlc2, gi, hsn8, wi4, c3, c4, c5, c6, c7, c8, c9, c10]
          refine InB_n ?_
          refine Thn_n ?_
          refine hK _ _ ?_
          clear hK K
          refine AW.region (by decide) ?_
          simp only [push_cast, simprocAttr, hp, lk_old hp, hbb, lk_old hbb, prB, rowB, pS, u8l_len, Nat.sub_zero, Int.le_refl, ha1, ha2, ha3, ha4, ha5, hz0, q1, hhi, hlo, f1, f2, f3, q3, q4, n1, n2, n3, n4, hlc, hlc2, gi, hsn8, wi4, c3, c4, c5, c6, c7, c8, c9, c10]
          refine Thn_n ?_
          have hwi : IntKind.i64.wrap ((i:Int)+1) = (i:Int)+1 := wi (by omega)
          refine ⟨i + 1, hlt8, by omega, ?_⟩
          try simp only [keepL, setAll, push_cast, simprocAttr, hp, lk_old hp, hbb, lk_old hbb, prB, rowB, pS, u8l_len, Nat.sub_zero, Int.le_refl, ha1, ha2, ha3, ha4, ha5, hz0, q1, hhi, hlo, f1, f2, f3, q3, q4, n1, n2, n3, n4, hlc, hlc2, gi, hsn8, wi4, c3, c4, c5, c6, c7, c8, c9, c10, hwi, hsn8]
          exact Weak.to (extra := [_]) (by simp only [Keeps, Tm.get_cons, Nat.reduceEqDiff, ↓reduceIte, if_true, if_false, ite_true, ite_false, true_and, and_true, and_self, reduceCtorEq, hwi, hsn8]) (by first | rfl | (simp only [List.append_assoc, List.cons_append, List.nil_append]; rfl)) (by first | rfl | (simp [AV.below, CV.below, u8l_below]; done) | (simp [AV.below, CV.below, u8l_below]; omega)) (by
            first | exact hwf | refine MWf.app (hwf.grow (by simp)) ?_
            repeat (first | exact MWf_nil | (refine MWf_cons ?_ ?_; · first | rfl | (simp [CV.below, u8l_below]; done) | (simp [CV.below, u8l_below]; omega))))
        · refine DX.run [0, 1, 3, 4, 2, 5] [.val, .val, .val, .ext, .ext, .wr] (by simp only [permL, reOp, List.idxOf_cons, push_cast, simprocAttr, hp, lk_old hp, hbb, lk_old hbb, prB, rowB, pS, u8l_len, Nat.sub_zero, Int.le_refl, ha1, ha2, ha3, ha4, ha5, hz0, q1, hhi, hlo, f1, f2, f3, q3, q4, n1, n2, n3, n4, hlc, hlc2, gi, hsn8, wi4, c3, c4, c5, c6, c7, c8, c9, c10]; first | done | rfl) (by kernel_rfl) ?_
          simp only [push_cast, simprocAttr, hp, lk_old hp, hbb, lk_old hbb, prB, rowB, pS, u8l_len, Nat.sub_zero, Int.le_refl, ha1, ha2, ha3, ha4, ha5, hz0, q1, hhi, hlo, f1, f2, f3, q3, q4, n1, n2, n3, n4, hlc, hlc2, gi, hsn8, wi4, c3, c4, c5, c6, c7, c8, c9, c10]
          refine DCall.by (four_c _ _) ?_
          simp only [push_cast, simprocAttr, hp, lk_old hp, hbb, lk_old hbb, prB, rowB, pS, u8l_len, Nat.sub_zero, Int.le_refl, ha1, ha2, ha3, ha4, ha5, hz0, q1, hhi, hlo, f1, f2, f3, q3, q4, n1, n2, n3, n4, hlc, hlc2, gi, hsn8, wi4, c3, c4, c5, c6, c7, c8, c9, c10]
          refine DExt.by (by first | rfl | (simp only [List.append_assoc, List.cons_append, List.nil_append]; rfl)) ?_
          simp only [push_cast, simprocAttr, hp, lk_old hp, hbb, lk_old hbb, prB, rowB, pS, u8l_len, Nat.sub_zero, Int.le_refl, ha1, ha2, ha3, ha4, ha5, hz0, q1, hhi, hlo, f1, f2, f3, q3, q4, n1, n2, n3, n4, hlc, hlc2, gi, hsn8, wi4, c3, c4, c5, c6, c7, c8, c9, c10]
          refine InB_n ?_
          refine Thn_n ?_
          refine hK _ _ ?_
          clear hK K
          refine AW.region (by decide) ?_
          simp only [push_cast, simprocAttr, hp, lk_old hp, hbb, lk_old hbb, prB, rowB, pS, u8l_len, Nat.sub_zero, Int.le_refl, ha1, ha2, ha3, ha4, ha5, hz0, q1, hhi, hlo, f1, f2, f3, q3, q4, n1, n2, n3, n4, hlc, hlc2, gi, hsn8, wi4, c3, c4, c5, c6, c7, c8, c9, c10]
          refine Thn_n ?_
          have hwi : IntKind.i64.wrap ((i:Int)+1) = (i:Int)+1 := wi (by omega)
          refine ⟨i + 1, hlt8, by omega, ?_⟩
          try simp only [keepL, setAll, push_cast, simprocAttr, hp, lk_old hp, hbb, lk_old hbb, prB, rowB, pS, u8l_len, Nat.sub_zero, Int.le_refl, ha1, ha2, ha3, ha4, ha5, hz0, q1, hhi, hlo, f1, f2, f3, q3, q4, n1, n2, n3, n4, hlc, hlc2, gi, hsn8, wi4, c3, c4, c5, c6, c7, c8, c9, c10, hwi, hsn8]
          exact Weak.to (extra := [_]) (by simp only [Keeps, Tm.get_cons, Nat.reduceEqDiff, ↓reduceIte, if_true, if_false, ite_true, ite_false, true_and, and_true, and_self, reduceCtorEq, hwi, hsn8]) (by first | rfl | (simp only [List.append_assoc, List.cons_append, List.nil_append]; rfl)) (by first | rfl | (simp [AV.below, CV.below, u8l_below]; done) | (simp [AV.below, CV.below, u8l_below]; omega)) (by
            first | exact hwf | refine MWf.app (hwf.grow (by simp)) ?_
            repeat (first | exact MWf_nil | (refine MWf_cons ?_ ?_; · first | rfl | (simp [CV.below, u8l_below]; done) | (simp [CV.below, u8l_below]; omega))))
      · have hi8e : i = 8 := by have := of_decide_eq_false h62; omega
        subst hi8e
        have hdf : u8l (dP (compN S la (la.length / 64)) 8) = [.int .u8 (IntKind.u8.wrap ((compN S la (la.length / 64)).a.fdiv 16777216)), .int .u8 (IntKind.u8.wrap ((compN S la (la.length / 64)).a.fdiv 65536)), .int .u8 (IntKind.u8.wrap ((compN S la (la.length / 64)).a.fdiv 256)), .int .u8 (IntKind.u8.wrap (compN S la (la.length / 64)).a), .int .u8 (IntKind.u8.wrap ((compN S la (la.length / 64)).b.fdiv 16777216)), .int .u8 (IntKind.u8.wrap ((compN S la (la.length / 64)).b.fdiv 65536)), .int .u8 (IntKind.u8.wrap ((compN S la (la.length / 64)).b.fdiv 256)), .int .u8 (IntKind.u8.wrap (compN S la (la.length / 64)).b), .int .u8 (IntKind.u8.wrap ((compN S la (la.length / 64)).c.fdiv 16777216)), .int .u8 (IntKind.u8.wrap ((compN S la (la.length / 64)).c.fdiv 65536)), .int .u8 (IntKind.u8.wrap ((compN S la (la.length / 64)).c.fdiv 256)), .int .u8 (IntKind.u8.wrap (compN S la (la.length / 64)).c), .int .u8 (IntKind.u8.wrap ((compN S la (la.length / 64)).d.fdiv 16777216)), .int .u8 (IntKind.u8.wrap ((compN S la (la.length / 64)).d.fdiv 65536)), .int .u8 (IntKind.u8.wrap ((compN S la (la.length / 64)).d.fdiv 256)), .int .u8 (IntKind.u8.wrap (compN S la (la.length / 64)).d), .int .u8 (IntKind.u8.wrap ((compN S la (la.length / 64)).e.fdiv 16777216)), .int .u8 (IntKind.u8.wrap ((compN S la (la.length / 64)).e.fdiv 65536)), .int .u8 (IntKind.u8.wrap ((compN S la (la.length / 64)).e.fdiv 256)), .int .u8 (IntKind.u8.wrap (compN S la (la.length / 64)).e), .int .u8 (IntKind.u8.wrap ((compN S la (la.length / 64)).f.fdiv 16777216)), .int .u8 (IntKind.u8.wrap ((compN S la (la.length / 64)).f.fdiv 65536)), .int .u8 (IntKind.u8.wrap ((compN S la (la.length / 64)).f.fdiv 256)), .int .u8 (IntKind.u8.wrap (compN S la (la.length / 64)).f), .int .u8 (IntKind.u8.wrap ((compN S la (la.length / 64)).g.fdiv 16777216)), .int .u8 (IntKind.u8.wrap ((compN S la (la.length / 64)).g.fdiv 65536)), .int .u8 (IntKind.u8.wrap ((compN S la (la.length / 64)).g.fdiv 256)), .int .u8 (IntKind.u8.wrap (compN S la (la.length / 64)).g), .int .u8 (IntKind.u8.wrap ((compN S la (la.length / 64)).h.fdiv 16777216)), .int .u8 (IntKind.u8.wrap ((compN S la (la.length / 64)).h.fdiv 65536)), .int .u8 (IntKind.u8.wrap ((compN S la (la.length / 64)).h.fdiv 256)), .int .u8 (IntKind.u8.wrap (compN S la (la.length / 64)).h)] := rfl
        refine AW.exit ?_
        refine Thn_e ?_
        clear hK K
        refine Thn_e ?_
        refine InB_here ?_
        refine Thn_n ?_
        refine hK _ _ ?_
        clear hK K
        refine AW.seq_k fun K hK => ?_
        refine AW.region (by decide) ?_
        simp only [push_cast, simprocAttr, hp, lk_old hp, hbb, lk_old hbb, prB, rowB, pS, u8l_len, Nat.sub_zero, Int.le_refl, ha1, ha2, ha3, ha4, ha5, hz0, q1, hhi, hlo, f1, f2, f3, q3, q4, n1, n2, n3, n4, hlc, hlc2, hdf]
        refine Thn_n ?_
        refine hK _ _ ?_
        clear hK K
        refine AW.ret ?_
        refine hQ _ _ _ ?_
        refine RetP.drop (Or.inr rfl) ?_ ?_ hwf
        · simp only [resA, resOne, resTv, AV.tv, push_cast, simprocAttr]
          rw [hfin]; rfl
        · rfl
        
end Go.Proofs.Ytmjbbnfmhgcfaaa

set_option linter.unusedSimpArgs false
set_option linter.unusedVariables false
set_option maxRecDepth 100000
set_option maxHeartbeats 4000000
namespace Go.Proofs.Ytmjbbnfmhgcfaaa
open Go Go.Eng

/-- What is stirred in depends on the block's bytes alone. -/
theorem word_congr {a b : List Int} {o p : Nat} (h : ∀ i, i < 64 → byB a (o + i) = byB b (p + i)) {i : Nat} (hi : i < 16) : wordV a (o + 4 * i) = wordV b (p + 4 * i) := by
  have h0 := h (4 * i) (by omega)
  have h1 := h (4 * i + 1) (by omega)
  have h2 := h (4 * i + 2) (by omega)
  have h3 := h (4 * i + 3) (by omega)
  simp only [wordV, Nat.add_assoc] at *
  rw [h0, h1, h2, h3]
theorem sch_congr {a b : List Int} {o p : Nat} (h : ∀ i, i < 64 → byB a (o + i) = byB b (p + i)) : ∀ i, sch a o i = sch b p i
  | 0 => rfl
  | i + 1 => by
    simp only [sch, sch_congr h i]
    by_cases hi : i < 16
    · rw [if_pos hi, if_pos hi, word_congr h hi]
    · rw [if_neg hi, if_neg hi]
theorem comp_congr (S : S8) {a b : List Int} {o p : Nat} (h : ∀ i, i < 64 → byB a (o + i) = byB b (p + i)) : comp KW S a o = comp KW S b p := by
  simp only [comp, sch_congr h]
theorem byB_app {a b : List Int} {i : Nat} (h : i < a.length) : byB (a ++ b) i = byB a i := by
  simp only [byB, List.getD_eq_getElem?_getD, List.getElem?_append_left h]
theorem byB_drop (a : List Int) (n i : Nat) : byB (a.drop n) i = byB a (n + i) := by
  simp only [byB, List.getD_eq_getElem?_getD, List.getElem?_drop]
theorem compN_app (S : S8) (a b : List Int) : ∀ k, 64 * k ≤ a.length → compN S (a ++ b) k = compN S a k
  | 0, _ => rfl
  | k + 1, h => by
    simp only [compN, compN_app S a b k (by omega)]
    exact comp_congr _ fun i hi => byB_app (by omega)
theorem compN_drop (S : S8) (a : List Int) (k : Nat) : ∀ j, compN (compN S a k) (a.drop (64 * k)) j = compN S a (k + j)
  | 0 => rfl
  | j + 1 => by
    rw [show k + (j + 1) = (k + j) + 1 from rfl]
    simp only [compN, compN_drop S a k j]
    exact comp_congr _ fun i hi => by rw [byB_drop]; congr 1; omega
theorem absS_app (s : PS) (a b : List Int) : absS (absS s a) b = absS s (a ++ b) := by
  obtain ⟨S, r, n⟩ := s
  generalize hx : r ++ a = x
  have e1 : r ++ (a ++ b) = x ++ b := by rw [← hx, List.append_assoc]
  have ed : x.drop (64 * (x.length / 64)) ++ b = (x ++ b).drop (64 * (x.length / 64)) := (List.drop_append_of_le_length (by omega)).symm
  have el : ((x ++ b).drop (64 * (x.length / 64))).length / 64 = (x ++ b).length / 64 - x.length / 64 := by rw [List.length_drop]; omega
  have eg : x.length / 64 ≤ (x ++ b).length / 64 := by rw [List.length_append]; omega
  simp only [absS, hx, e1, ed, el, PS.mk.injEq]
  refine ⟨?_, ?_, ?_⟩
  · rw [← compN_app S x b (x.length / 64) (by omega), compN_drop]; congr 1; omega
  · rw [List.drop_drop]; congr 1; omega
  · rw [IntKind.wrap_u64, IntKind.wrap_u64, IntKind.wrap_u64, List.length_append]; omega
def catP (bf : Nat → List Int) : Nat → List Int
  | 0 => []
  | i + 1 => catP bf i ++ bf i
def PSok (s : PS) : Prop := s.r.length < 64 ∧ 0 ≤ s.n ∧ s.n < 18446744073709551616
theorem absS_nil {s : PS} (h : PSok s) : absS s [] = s := by
  obtain ⟨S, r, n⟩ := s
  obtain ⟨h1, h2, h3⟩ := h
  dsimp only at h1 h2 h3
  have e : r.length / 64 = 0 := by omega
  simp only [absS, List.append_nil, e, Nat.mul_zero, List.drop_zero, compN, List.length_nil, PS.mk.injEq, true_and]
  rw [IntKind.wrap_u64]; omega
theorem accP_cat {s : PS} (h : PSok s) (bf : Nat → List Int) : ∀ n, accP s bf n = absS s (catP bf n)
  | 0 => (absS_nil h).symm
  | n + 1 => by simp only [accP, catP, accP_cat h bf n, absS_app]
theorem absS_ok (s : PS) (a : List Int) : PSok (absS s a) := ⟨absS_r s a, by simp only [absS]; rw [IntKind.wrap_u64]; omega, by simp only [absS]; rw [IntKind.wrap_u64]; omega⟩
def P0 : PS := ⟨IV, [], 0⟩
theorem p0_ok : PSok P0 := ⟨by decide, by decide, by decide⟩
/-- The sum of some bytes. -/
def shaL (bs : List Int) : List Int := digL (finS (absS P0 bs))
theorem shaL_len (bs : List Int) : (shaL bs).length = 32 := rfl
theorem shaL_ok (bs : List Int) : U8ok (shaL bs) := ((((((((fourL_ok _).app (fourL_ok _)).app (fourL_ok _)).app (fourL_ok _)).app (fourL_ok _)).app (fourL_ok _)).app (fourL_ok _)).app (fourL_ok _))
/-- A part, as it comes in. -/
def PartIn (m : AMem) (c : CV) (bs : List Int) : Prop :=
  (c = .nils ∧ bs = []) ∨ ∃ rb k ty v ez off X, c = .sl rb v off bs.length ∧ m[rb]? = some ⟨k, ty, v, ez, u8l X⟩ ∧ off + bs.length ≤ X.length ∧ (X.drop off).take bs.length = bs
theorem PartIn.at {m : AMem} {c : CV} {bs : List Int} (h : PartIn m c bs) (L : AMem) {bb : Nat} (hb : m.length ≤ bb) : PartAt (m ++ L) bb c bs := by
  rcases h with h | ⟨rb, k, ty, v, ez, off, X, h1, h2, h3, h4⟩
  · exact .inl h
  · have := get_lt h2
    exact .inr ⟨rb, k, ty, v, ez, off, X, h1, by omega, lk_old h2 L, h3, h4⟩
theorem catP_ok {bf : Nat → List Int} {np : Nat} (h : ∀ i, i < np → U8ok (bf i)) : ∀ n, n ≤ np → U8ok (catP bf n)
  | 0, _ => U8ok.nil
  | n + 1, hn => (catP_ok h n (by omega)).app (h n (by omega))
theorem writen_c (rp : Nat) (m : AMem) : Ctr Try.prog 23 [.one (.ptr rp 0 0), .one .nils] m (.tup []) m := by
  refine Ctr.enter Try.func23 rfl (by decide) (rs := []) (nt := 64) rfl rfl fun hwf Q hQ => ?_
  refine AW.seq_k fun K hK => ?_
  refine AW.seq_k fun K hK => ?_
  refine AW.region (by decide) ?_
  simp only [push_cast, simprocAttr]
  refine Thn_n ?_
  refine hK _ _ ?_
  clear hK K
  refine AW.cond_f rfl ?_
  refine AW.skip ?_
  refine Thn_n ?_
  refine hK _ _ ?_
  clear hK K
  refine AW.seq_k fun K hK => ?_
  refine AW.region (by decide) ?_
  simp only [push_cast, simprocAttr]
  refine Thn_n ?_
  refine hK _ _ ?_
  clear hK K
  refine AW.block ?_
  refine AW.rounds 1 ?_
  refine ARounds.succ fun K hK => ?_
  refine AW.seq_k fun K hK => ?_
  refine AW.region (by decide) ?_
  simp only [push_cast, simprocAttr]
  refine Thn_n ?_
  refine hK _ _ ?_
  clear hK K
  refine AW.seq_k fun K hK => ?_
  refine AW.cond_f rfl ?_
  refine AW.exit ?_
  refine Thn_e ?_
  clear hK K
  refine Thn_e ?_
  clear hK K
  refine InB_here ?_
  refine hQ _ _ _ ?_
  first | refine RetP.drop0 (Or.inl rfl) ?_ ?_ hwf | refine RetP.drop (Or.inl rfl) ?_ ?_ hwf
  · simp only [resA, resOne, resTv, AV.tv, push_cast, simprocAttr]
  · rfl
end Go.Proofs.Ytmjbbnfmhgcfaaa

set_option linter.unusedSimpArgs false
set_option linter.unusedVariables false
set_option maxRecDepth 100000
set_option maxHeartbeats 4000000
namespace Go.Proofs.Ytmjbbnfmhgcfaaa
open Go Go.Eng

def HLL : List Int := [1779033703, 3144134277, 1013904242, 2773480762, 1359893119, 2600822924, 528734635, 1541459225]
theorem setfill {A f : List Int} {n i : Nat} (h : i < f.length) (hn : i < n) : (A ++ (f.take i ++ List.replicate (n - i) 0)).set (A.length + i) (f.getD i 0) = A ++ (f.take (i + 1) ++ List.replicate (n - (i + 1)) 0) := by
  rw [List.set_append_right _ _ (by omega), Nat.add_sub_cancel_left]
  have e1 : (f.take i).length = i := by rw [List.length_take]; omega
  rw [List.set_append_right _ _ (by omega), e1, Nat.sub_self]
  have e2 : n - i = (n - (i + 1)) + 1 := by omega
  rw [e2, List.replicate_succ, List.set_cons_zero, List.take_succ_eq_append_getElem h, List.append_assoc]
  rw [List.getD_eq_getElem?_getD, List.getElem?_eq_getElem h]; rfl
def tbA (A f : List Int) (n i : Nat) : List Int := A ++ (f.take i ++ List.replicate (n - i) 0)
theorem tbA_set {A f : List Int} {n i : Nat} (h : i < f.length) (hn : i < n) : (tbA A f n i).set (A.length + i) (f.getD i 0) = tbA A f n (i + 1) := setfill h hn
theorem tbA_len {A f : List Int} {n i : Nat} (h : i ≤ f.length) (hn : i ≤ n) : (tbA A f n i).length = A.length + n := by
  simp only [tbA, List.length_append, List.length_take, List.length_replicate]; omega
theorem root_at : ∀ k : Fin 8, rootI (PR.getD k.val 0) = HLL.getD k.val 0 := by
  have h : (PR.take 8).map rootI = HLL := tabH
  intro k
  have h2 : ((PR.take 8).map rootI)[k.val]? = HLL[k.val]? := by rw [h]
  have hk := k.isLt
  rw [List.getElem?_map, List.getElem?_take, if_pos hk] at h2
  have hp : k.val < PR.length := by have : PR.length = 64 := rfl; omega
  rw [List.getElem?_eq_getElem hp] at h2
  rw [List.getD_eq_getElem?_getD, List.getD_eq_getElem?_getD, ← h2, List.getElem?_eq_getElem hp]; rfl
theorem cube_at {k : Nat} (hk : k < 64) : cubeI (PR.getD k 0) = KW.getD k 0 := by
  have h2 : (PR.map cubeI)[k]? = KW[k]? := by rw [tabK]
  have hp : k < PR.length := hk
  rw [List.getElem?_map, List.getElem?_eq_getElem hp] at h2
  rw [List.getD_eq_getElem?_getD, List.getD_eq_getElem?_getD, ← h2, List.getElem?_eq_getElem hp]; rfl
theorem make_c (m : AMem) : Ctr Try.prog 7 [] m (.agg (ul (HLL ++ KW))) m := by
  refine Ctr.enter Try.func7 rfl (by decide) (rs := [.cell 0 31]) (nt := 31) rfl rfl fun hwf Q hQ => ?_
  have hz1 : ul (tbA [] HLL 72 0) = [.int .u32 0, .int .u32 0, .int .u32 0, .int .u32 0, .int .u32 0, .int .u32 0, .int .u32 0, .int .u32 0, .int .u32 0, .int .u32 0, .int .u32 0, .int .u32 0, .int .u32 0, .int .u32 0, .int .u32 0, .int .u32 0, .int .u32 0, .int .u32 0, .int .u32 0, .int .u32 0, .int .u32 0, .int .u32 0, .int .u32 0, .int .u32 0, .int .u32 0, .int .u32 0, .int .u32 0, .int .u32 0, .int .u32 0, .int .u32 0, .int .u32 0, .int .u32 0, .int .u32 0, .int .u32 0, .int .u32 0, .int .u32 0, .int .u32 0, .int .u32 0, .int .u32 0, .int .u32 0, .int .u32 0, .int .u32 0, .int .u32 0, .int .u32 0, .int .u32 0, .int .u32 0, .int .u32 0, .int .u32 0, .int .u32 0, .int .u32 0, .int .u32 0, .int .u32 0, .int .u32 0, .int .u32 0, .int .u32 0, .int .u32 0, .int .u32 0, .int .u32 0, .int .u32 0, .int .u32 0, .int .u32 0, .int .u32 0, .int .u32 0, .int .u32 0, .int .u32 0, .int .u32 0, .int .u32 0, .int .u32 0, .int .u32 0, .int .u32 0, .int .u32 0, .int .u32 0] := rfl
  have hpr : u64l (prL 310) = u64l PR := by rw [prL_eq]
  have hpl : PR.length = 64 := rfl
  iterate 2
    refine AW.seq_k fun K hK => ?_
    refine AW.region (by decide) ?_
    simp only [push_cast, simprocAttr, hpr, u64l_len, ul_len, ul_set]
    refine Thn_n ?_
    refine hK _ _ ?_
    clear hK K
  refine AW.seq_k fun K hK => ?_
  refine AW.region (by decide) ?_
  simp only [push_cast, simprocAttr, hpr, u64l_len, ul_len, ul_set]
  refine CThen.by (primes_c _) ?_
  simp only [push_cast, simprocAttr, hpr, u64l_len, ul_len, ul_set]
  refine Thn_n ?_
  refine hK _ _ ?_
  clear hK K
  refine AW.seq_k fun K hK => ?_
  refine AW.seq_k fun K hK => ?_
  refine AW.region (by decide) ?_
  simp only [push_cast, simprocAttr, hpr, u64l_len, ul_len, ul_set]
  refine Thn_n ?_
  refine hK _ _ ?_
  clear hK K
  refine AW.block ?_
  refine AW.loopK [0, 1, 2] (fun i => i ≤ (8 : Nat)) (fun i => [(3, .one (.int .i64 (i : Int)))]) (fun i => [(m.length + 1, ⟨.fix, 31, 0, 0, (ul (tbA [] HLL 72 i))⟩)]) (fun i => 8 - i) 0 (by omega) ?_ ?_ fun i hi6 => ?_
  · first | rfl | (simp only [Keeps, Tm.get_cons, Nat.reduceEqDiff, ↓reduceIte, if_true, if_false, ite_true, ite_false, true_and, and_true, and_self, reduceCtorEq, hz1, Int.natCast_zero] <;> rfl)
  · first | rfl | (simp only [setAll, push_cast, simprocAttr, hpr, u64l_len, ul_len, ul_set, hz1, Int.natCast_zero] <;> rfl)
  have hi8 : i ≤ 8 := hi6
  try simp only [keepL, setAll, push_cast, simprocAttr, hpr, u64l_len, ul_len, ul_set]
  refine AW.seq_k fun K hK => ?_
  refine AW.seq_k fun K hK => ?_
  refine AW.region (by decide) ?_
  simp only [push_cast, simprocAttr, hpr, u64l_len, ul_len, ul_set]
  refine Thn_n ?_
  refine hK _ _ ?_
  clear hK K
  refine AW.cond rfl (fun h7 => ?_) (fun h7 => ?_)
  · have hlt : i < 8 := by have := of_decide_eq_true h7; omega
    have c1 : (0 : Int) ≤ (i : Int) := by omega
    have c2 : (i : Int) < 64 := by omega
    have c3 : (i : Int) < 8 := by omega
    have g := u64l_get (xs := PR) (i := i) (by rw [hpl]; omega)
    have hr := root_at ⟨i, hlt⟩
    have hsf := tbA_set (A := []) (f := HLL) (n := 72) (i := i) hlt (by omega)
    simp only [List.length_nil, Nat.zero_add] at hsf
    simp only at hr
    have c4 := tbA_len (A := []) (f := HLL) (n := 72) (i := i) hi8 (by omega)
    simp only [List.length_nil, Nat.zero_add] at c4
    have c5 : i + 1 ≤ 72 := by omega
    refine AW.skip ?_
    refine Thn_n ?_
    refine hK _ _ ?_
    clear hK K
    refine AW.seq_k fun K hK => ?_
    refine AW.block ?_
    refine AW.region (by decide) ?_
    simp only [push_cast, simprocAttr, hpr, u64l_len, ul_len, ul_set, c1, c2, c3, c4, c5, g, hr, hsf]
    refine CThen.by (root_c _ _) ?_
    simp only [push_cast, simprocAttr, hpr, u64l_len, ul_len, ul_set, c1, c2, c3, c4, c5, g, hr, hsf]
    refine InB_n ?_
    refine Thn_n ?_
    refine hK _ _ ?_
    clear hK K
    refine AW.region (by decide) ?_
    simp only [push_cast, simprocAttr, hpr, u64l_len, ul_len, ul_set, c1, c2, c3, c4, c5, g, hr, hsf]
    refine Thn_n ?_
    have hwi : IntKind.i64.wrap ((i:Int)+1) = (i:Int)+1 := wi (by omega)
    refine ⟨i + 1, hlt, by omega, ?_⟩
    try simp only [keepL, setAll, push_cast, simprocAttr, hpr, u64l_len, ul_len, ul_set, c1, c2, c3, c4, c5, g, hr, hsf, hwi, hsf]
    exact Weak.same (by simp only [Keeps, Tm.get_cons, Nat.reduceEqDiff, ↓reduceIte, if_true, if_false, ite_true, ite_false, true_and, and_true, and_self, reduceCtorEq, hwi, hsf]) (by first | rfl | simp only [Keeps, Tm.get_cons, Nat.reduceEqDiff, ↓reduceIte, if_true, if_false, ite_true, ite_false, true_and, and_true, and_self, reduceCtorEq, hwi, hsf])
  · have hie : i = 8 := by have := of_decide_eq_false h7; omega
    subst hie
    have hc2 : ul (tbA HLL KW 64 0) = ul (tbA [] HLL 72 8) := rfl
    refine AW.exit ?_
    refine Thn_e ?_
    clear hK K
    refine Thn_e ?_
    refine InB_here ?_
    refine Thn_n ?_
    refine hK _ _ ?_
    clear hK K
    refine AW.seq_k fun K hK => ?_
    refine AW.seq_k fun K hK => ?_
    refine AW.region (by decide) ?_
    simp only [push_cast, simprocAttr, hpr, u64l_len, ul_len, ul_set]
    refine Thn_n ?_
    refine hK _ _ ?_
    clear hK K
    refine AW.block ?_
    refine AW.loopK [0, 1, 2] (fun i => i ≤ (64 : Nat)) (fun i => [(4, .one (.int .i64 (i : Int)))]) (fun i => [(m.length + 1, ⟨.fix, 31, 0, 0, (ul (tbA HLL KW 64 i))⟩)]) (fun i => 64 - i) 0 (by omega) ?_ ?_ fun i hi12 => ?_
    · first | rfl | (simp only [Keeps, Tm.get_cons, Nat.reduceEqDiff, ↓reduceIte, if_true, if_false, ite_true, ite_false, true_and, and_true, and_self, reduceCtorEq, hc2, Int.natCast_zero] <;> rfl)
    · first | rfl | (simp only [setAll, push_cast, simprocAttr, hpr, u64l_len, ul_len, ul_set, hc2, Int.natCast_zero] <;> rfl)
    have hi64 : i ≤ 64 := hi12
    try simp only [keepL, setAll, push_cast, simprocAttr, hpr, u64l_len, ul_len, ul_set]
    refine AW.seq_k fun K hK => ?_
    refine AW.seq_k fun K hK => ?_
    refine AW.region (by decide) ?_
    simp only [push_cast, simprocAttr, hpr, u64l_len, ul_len, ul_set]
    refine Thn_n ?_
    refine hK _ _ ?_
    clear hK K
    refine AW.cond rfl (fun h19 => ?_) (fun h19 => ?_)
    · have hlt : i < 64 := by have := of_decide_eq_true h19; omega
      have c1 : (0 : Int) ≤ (i : Int) := by omega
      have c2 : (i : Int) < 64 := by omega
      have g := u64l_get (xs := PR) (i := i) (by rw [hpl]; omega)
      have hr := cube_at hlt
      have hsf := tbA_set (A := HLL) (f := KW) (n := 64) (i := i) hlt hlt
      have h8 : HLL.length = 8 := rfl
      rw [h8] at hsf
      have c4 := tbA_len (A := HLL) (f := KW) (n := 64) (i := i) hi64 hi64
      rw [h8] at c4
      have c5 : 8 + (i + 1) ≤ 72 := by omega
      have c6 : 8 + i + 1 ≤ 72 := by omega
      refine AW.skip ?_
      refine Thn_n ?_
      refine hK _ _ ?_
      clear hK K
      refine AW.seq_k fun K hK => ?_
      refine AW.block ?_
      refine AW.region (by decide) ?_
      simp only [push_cast, simprocAttr, hpr, u64l_len, ul_len, ul_set, c1, c2, c4, c5, c6, g, hr, hsf]
      refine CThen.by (cube_c _ _) ?_
      simp only [push_cast, simprocAttr, hpr, u64l_len, ul_len, ul_set, c1, c2, c4, c5, c6, g, hr, hsf]
      refine InB_n ?_
      refine Thn_n ?_
      refine hK _ _ ?_
      clear hK K
      refine AW.region (by decide) ?_
      simp only [push_cast, simprocAttr, hpr, u64l_len, ul_len, ul_set, c1, c2, c4, c5, c6, g, hr, hsf]
      refine Thn_n ?_
      have hwi : IntKind.i64.wrap ((i:Int)+1) = (i:Int)+1 := wi (by omega)
      refine ⟨i + 1, hlt, by omega, ?_⟩
      try simp only [keepL, setAll, push_cast, simprocAttr, hpr, u64l_len, ul_len, ul_set, c1, c2, c4, c5, c6, g, hr, hsf, hwi, hsf]
      exact Weak.same (by simp only [Keeps, Tm.get_cons, Nat.reduceEqDiff, ↓reduceIte, if_true, if_false, ite_true, ite_false, true_and, and_true, and_self, reduceCtorEq, hwi, hsf]) (by first | rfl | simp only [Keeps, Tm.get_cons, Nat.reduceEqDiff, ↓reduceIte, if_true, if_false, ite_true, ite_false, true_and, and_true, and_self, reduceCtorEq, hwi, hsf])
    · have hie : i = 64 := by have := of_decide_eq_false h19; omega
      subst hie
      have hfin : ul (tbA HLL KW 64 64) = [.int .u32 1779033703, .int .u32 3144134277, .int .u32 1013904242, .int .u32 2773480762, .int .u32 1359893119, .int .u32 2600822924, .int .u32 528734635, .int .u32 1541459225, .int .u32 1116352408, .int .u32 1899447441, .int .u32 3049323471, .int .u32 3921009573, .int .u32 961987163, .int .u32 1508970993, .int .u32 2453635748, .int .u32 2870763221, .int .u32 3624381080, .int .u32 310598401, .int .u32 607225278, .int .u32 1426881987, .int .u32 1925078388, .int .u32 2162078206, .int .u32 2614888103, .int .u32 3248222580, .int .u32 3835390401, .int .u32 4022224774, .int .u32 264347078, .int .u32 604807628, .int .u32 770255983, .int .u32 1249150122, .int .u32 1555081692, .int .u32 1996064986, .int .u32 2554220882, .int .u32 2821834349, .int .u32 2952996808, .int .u32 3210313671, .int .u32 3336571891, .int .u32 3584528711, .int .u32 113926993, .int .u32 338241895, .int .u32 666307205, .int .u32 773529912, .int .u32 1294757372, .int .u32 1396182291, .int .u32 1695183700, .int .u32 1986661051, .int .u32 2177026350, .int .u32 2456956037, .int .u32 2730485921, .int .u32 2820302411, .int .u32 3259730800, .int .u32 3345764771, .int .u32 3516065817, .int .u32 3600352804, .int .u32 4094571909, .int .u32 275423344, .int .u32 430227734, .int .u32 506948616, .int .u32 659060556, .int .u32 883997877, .int .u32 958139571, .int .u32 1322822218, .int .u32 1537002063, .int .u32 1747873779, .int .u32 1955562222, .int .u32 2024104815, .int .u32 2227730452, .int .u32 2361852424, .int .u32 2428436474, .int .u32 2756734187, .int .u32 3204031479, .int .u32 3329325298] := rfl
      refine AW.exit ?_
      refine Thn_e ?_
      clear hK K
      refine Thn_e ?_
      refine InB_here ?_
      refine Thn_n ?_
      refine hK _ _ ?_
      clear hK K
      refine AW.seq_k fun K hK => ?_
      refine AW.region (by decide) ?_
      simp only [push_cast, simprocAttr, hpr, u64l_len, ul_len, ul_set, hfin]
      refine Thn_n ?_
      refine hK _ _ ?_
      clear hK K
      refine AW.ret ?_
      refine hQ _ _ _ ?_
      refine RetP.drop (Or.inr rfl) ?_ ?_ hwf
      · simp only [resA, resOne, resTv, AV.tv, push_cast, simprocAttr]
        rfl
      · rfl
      
end Go.Proofs.Ytmjbbnfmhgcfaaa

set_option linter.unusedSimpArgs false
set_option linter.unusedVariables false
set_option maxRecDepth 100000
set_option maxHeartbeats 4000000
namespace Go.Proofs.Ytmjbbnfmhgcfaaa
open Go Go.Eng

def R8 (S : S8) : Prop := R32 S.a ∧ R32 S.b ∧ R32 S.c ∧ R32 S.d ∧ R32 S.e ∧ R32 S.f ∧ R32 S.g ∧ R32 S.h
theorem a32r (x y : Int) : R32 (a32 x y) := r32w _
theorem rdF_r {K W : List Int} {i : Nat} {s : S8} (h : R8 s) : R8 (rdF K W i s) := ⟨a32r _ _, h.1, h.2.1, h.2.2.1, a32r _ _, h.2.2.2.2.1, h.2.2.2.2.2.1, h.2.2.2.2.2.2.1⟩
theorem rd_r {K W : List Int} {s : S8} (h : R8 s) : ∀ i, R8 (rd K W s i)
  | 0 => h
  | i + 1 => rdF_r (rd_r h i)
theorem add8_r (s t : S8) : R8 (add8 s t) := ⟨a32r _ _, a32r _ _, a32r _ _, a32r _ _, a32r _ _, a32r _ _, a32r _ _, a32r _ _⟩
theorem compN_r {S : S8} (h : R8 S) (bs : List Int) : ∀ k, R8 (compN S bs k)
  | 0 => h
  | k + 1 => add8_r _ _
theorem iv_r : R8 IV := by
  refine ⟨?_, ?_, ?_, ?_, ?_, ?_, ?_, ?_⟩ <;> (constructor <;> decide)
theorem a32_assoc (x y z : Int) : IntKind.u32.wrap (IntKind.u32.wrap (x + y) + z) = IntKind.u32.wrap (x + IntKind.u32.wrap (y + z)) := by
  simp only [w32]; omega
def byK (x : Int) (k : Nat) : Int := IntKind.u8.wrap (x.fdiv (2 ^ (8 * (7 - k))))
def beL (x : Int) : Nat → List Int
  | 0 => []
  | k + 1 => beL x k ++ [byK x k]
theorem beL_8 {x : Int} (h : 0 ≤ x ∧ x < 18446744073709551616) : beL x 8 = fourL (IntKind.u32.wrap (x.fdiv 4294967296)) ++ fourL (IntKind.u32.wrap x) := by
  have f : ∀ (y : Int) (k : Nat), y.fdiv ((2 : Int) ^ k) = y / (2 : Int) ^ k := fun y k => Int.fdiv_eq_ediv_of_nonneg _ (by have : (0:Int) ≤ 2 ^ k := Int.pow_nonneg (by omega); exact this)
  simp only [beL, byK, fourL, List.nil_append, List.append_assoc, List.cons_append, f]
  have g : ∀ (y c : Int), 0 ≤ c → y.fdiv c = y / c := fun y c h => Int.fdiv_eq_ediv_of_nonneg _ h
  simp only [g _ 4294967296 (by omega), g _ 16777216 (by omega), g _ 65536 (by omega), g _ 256 (by omega), w8, w32, List.cons.injEq, and_true]
  have p7 : (2 : Int) ^ (8 * (7 - 0)) = 72057594037927936 := by decide
  have p6 : (2 : Int) ^ (8 * (7 - 1)) = 281474976710656 := by decide
  have p5 : (2 : Int) ^ (8 * (7 - 2)) = 1099511627776 := by decide
  have p4 : (2 : Int) ^ (8 * (7 - 3)) = 4294967296 := by decide
  have p3 : (2 : Int) ^ (8 * (7 - 4)) = 16777216 := by decide
  have p2 : (2 : Int) ^ (8 * (7 - 5)) = 65536 := by decide
  have p1 : (2 : Int) ^ (8 * (7 - 6)) = 256 := by decide
  have p0 : (2 : Int) ^ (8 * (7 - 7)) = 1 := by decide
  rw [p7, p6, p5, p4, p3, p2, p1, p0]
  refine ⟨?_, ?_, ?_, ?_, ?_, ?_, ?_, ?_⟩ <;> omega
/-- The text with its end, and how long it is. -/
def refL (bs : List Int) (k : Nat) : List Int := padL bs (padz bs.length) ++ beL (IntKind.u64.wrap ((bs.length : Int) * 8)) k
theorem beL_len (x : Int) : ∀ k, (beL x k).length = k
  | 0 => rfl
  | k + 1 => by simp [beL, beL_len x k]
theorem refL_len (bs : List Int) (k : Nat) : (refL bs k).length = bs.length + 1 + padz bs.length + k := by simp only [refL, List.length_append, padL_len, beL_len]
theorem refL_succ (bs : List Int) (k : Nat) : u8l (refL bs k) ++ [.int .u8 (byK (IntKind.u64.wrap ((bs.length : Int) * 8)) k)] = u8l (refL bs (k + 1)) := by
  simp only [refL, beL, u8l, List.map_append, List.append_assoc, List.map_cons, List.map_nil]
theorem byK_ok (x : Int) (k : Nat) : 0 ≤ byK x k ∧ byK x k ≤ 255 := by unfold byK; rw [w8]; omega
theorem beL_ok (x : Int) : ∀ k, U8ok (beL x k)
  | 0 => U8ok.nil
  | k + 1 => (beL_ok x k).app fun y hy => by simp only [List.mem_cons, List.not_mem_nil, or_false] at hy; subst hy; exact byK_ok x k
theorem refL_ok {bs : List Int} (h : U8ok bs) (k : Nat) : U8ok (refL bs k) := (padL_ok h _).app (beL_ok _ _)
/-- The document's bytes are the press's. -/
theorem ref_sha (bs : List Int) (hl : bs.length ≤ 1000000) : digL (compN IV (refL bs 8) ((refL bs 8).length / 64)) = shaL bs := by
  have hk : bs.length / 64 * 64 ≤ bs.length := by omega
  have e1 : lastL (absS P0 bs) = (refL bs 8).drop (64 * (bs.length / 64)) := by
    have hp : padz (bs.drop (64 * (bs.length / 64))).length = padz bs.length := by unfold padz; rw [List.length_drop]; omega
    have hb := beL_8 (x := IntKind.u64.wrap ((bs.length : Int) * 8)) (by rw [IntKind.wrap_u64]; omega)
    have hn : (absS P0 bs).n = (bs.length : Int) := by
      show IntKind.u64.wrap (0 + (bs.length : Int)) = _
      rw [IntKind.wrap_u64]; omega
    have hr : (absS P0 bs).r = bs.drop (64 * (bs.length / 64)) := rfl
    have hm : 8 * (bs.length : Int) = (bs.length : Int) * 8 := by omega
    simp only [lastL, hr, hp, hn, refL, hb, hiW, loW, hm, padL, List.append_assoc]
    rw [List.drop_append_of_le_length (by omega)]
  have e2 : (absS P0 bs).S = compN IV (refL bs 8) (bs.length / 64) := by
    show compN IV bs (bs.length / 64) = _
    have : refL bs 8 = bs ++ (128 :: List.replicate (padz bs.length) 0 ++ beL (IntKind.u64.wrap ((bs.length : Int) * 8)) 8) := by simp only [refL, padL, List.append_assoc, List.cons_append]
    rw [this, compN_app IV bs _ _ (by omega)]
  unfold shaL finS
  rw [e1, e2, compN_drop]
  congr 2
  rw [List.length_drop]
  have := refL_len bs 8
  have := padz_ok bs.length
  omega
theorem u8lset (xs : List Int) (i : Nat) (x : Int) : (u8l xs).set i (.int .u8 x) = u8l (xs.set i x) := by simp [u8l, List.map_set]
def dQ (S : S8) (i : Nat) : List Int := (digL S).take i ++ List.replicate (32 - i) 0
theorem dQ_set (S : S8) : ∀ {i : Nat}, i < 32 → (dQ S i).set i (IntKind.u8.wrap ((hF S (i / 4)).fdiv (2 ^ (8 * (3 - i % 4))))) = dQ S (i + 1) := by
  intro i hi
  have h := tbA_set (A := []) (f := digL S) (n := 32) (i := i) hi hi
  simp only [List.length_nil, Nat.zero_add, tbA, List.nil_append] at h
  have hv : ∀ i : Nat, i < 32 → (digL S).getD i 0 = IntKind.u8.wrap ((hF S (i / 4)).fdiv (2 ^ (8 * (3 - i % 4)))) := by
    have f1 : ∀ y : Int, y.fdiv 1 = y := fun y => by rw [Int.fdiv_eq_ediv_of_nonneg _ (by omega)]; omega
    intro i hi
    match i, hi with
    | 0, _ => rfl | 1, _ => rfl | 2, _ => rfl | 3, _ => show IntKind.u8.wrap S.a = IntKind.u8.wrap (S.a.fdiv 1); rw [f1]
    | 4, _ => rfl | 5, _ => rfl | 6, _ => rfl | 7, _ => show IntKind.u8.wrap S.b = IntKind.u8.wrap (S.b.fdiv 1); rw [f1]
    | 8, _ => rfl | 9, _ => rfl | 10, _ => rfl | 11, _ => show IntKind.u8.wrap S.c = IntKind.u8.wrap (S.c.fdiv 1); rw [f1]
    | 12, _ => rfl | 13, _ => rfl | 14, _ => rfl | 15, _ => show IntKind.u8.wrap S.d = IntKind.u8.wrap (S.d.fdiv 1); rw [f1]
    | 16, _ => rfl | 17, _ => rfl | 18, _ => rfl | 19, _ => show IntKind.u8.wrap S.e = IntKind.u8.wrap (S.e.fdiv 1); rw [f1]
    | 20, _ => rfl | 21, _ => rfl | 22, _ => rfl | 23, _ => show IntKind.u8.wrap S.f = IntKind.u8.wrap (S.f.fdiv 1); rw [f1]
    | 24, _ => rfl | 25, _ => rfl | 26, _ => rfl | 27, _ => show IntKind.u8.wrap S.g = IntKind.u8.wrap (S.g.fdiv 1); rw [f1]
    | 28, _ => rfl | 29, _ => rfl | 30, _ => rfl | 31, _ => show IntKind.u8.wrap S.h = IntKind.u8.wrap (S.h.fdiv 1); rw [f1]
    | n + 32, h => omega
  rw [← hv i hi]; exact h
theorem dQ_len (S : S8) {i : Nat} (h : i ≤ 32) : (dQ S i).length = 32 := by
  have : (digL S).length = 32 := rfl
  simp only [dQ, List.length_append, List.length_take, List.length_replicate, this]; omega
end Go.Proofs.Ytmjbbnfmhgcfaaa
