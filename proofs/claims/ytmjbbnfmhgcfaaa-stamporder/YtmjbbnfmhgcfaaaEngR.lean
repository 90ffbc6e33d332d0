/-
  ENGINE, PART R: a scope in which the run jumps back to one label.
-/
import Derived.Test.YtmjbbnfmhgcfaaaEngQ
import Derived.ScopeJumps
set_option linter.unusedVariables false
set_option linter.unusedSimpArgs false
namespace Go.Eng
open Go

theorem least {p : Nat → Prop} : ∀ n, p n → ∃ k, p k ∧ ∀ m, m < k → ¬ p m := by
  intro n
  induction n using Nat.strongRecOn with
  | _ n ih =>
    intro hn
    by_cases h : ∃ m, m < n ∧ p m
    · obtain ⟨m, hm, hp⟩ := h; exact ih m hm hp
    · exact ⟨n, hn, fun m hm hp => h ⟨m, hm, hp⟩⟩

def Jmp (l : Nat) (J : Tm → AMem → Prop) (Q : Exit → Tm → AMem → Prop) : Exit → Tm → AMem → Prop
  | .goto l', tm, mem => l' = l ∧ J tm mem
  | e, tm, mem => Q e tm mem

section
variable {P : Program} {nt : Nat} {tm : Tm} {mem : AMem} {Q : Exit → Tm → AMem → Prop}
theorem AW.label {l : Nat} (h : Q .normal tm mem) : AW P nt (.label l) tm mem Q := fun ρ a w hr => by
  have h1 := AW.skip (P := P) (nt := nt) (tm := tm) (mem := mem) (Q := Q) h ρ a w hr
  intro b k cs
  obtain ⟨e, a', w', q, r⟩ := h1 b k cs
  exact ⟨.normal, a, w, ⟨ρ, tm, mem, hr, Step.refl _ _ _, rfl, h⟩, .one step_label⟩
theorem AW.goto {l : Nat} (h : Q (.goto l) tm mem) : AW P nt (.goto l) tm mem Q := fun ρ a w hr b k cs =>
  ⟨.goto l, a, w, ⟨ρ, tm, mem, hr, Step.refl _ _ _, rfl, h⟩, fun k' hk => .one (step_goto hk)⟩

theorem AW.scope {ι : Type} {c rest : Code} (l : Nat) (hf : findLabel c l = some rest) (T : ι → Tm) (M : ι → AMem) (μ : ι → Nat)
    (pass : ∀ i, AW P nt rest (T i) (M i) (Jmp l (fun tm' mem' => ∃ j, μ j < μ i ∧ Weak nt tm' mem' (T j) (M j) ∧ (M i).length ≤ (M j).length) Q))
    (first : AW P nt c tm mem (Jmp l (fun tm' mem' => ∃ j, Weak nt tm' mem' (T j) (M j) ∧ mem.length ≤ (M j).length) Q)) : AW P nt (.scope c) tm mem Q := by
  intro ρ a w hr
  let JJ : Nat → Act → World → Prop := fun n a' w' => ∃ i ρ', μ i = n ∧ Rep ρ' nt (T i) (M i) a' w' ∧ Step mem ρ w (M i) ρ' w' ∧ a'.defers = a.defers ∧ mem.length ≤ (M i).length
  let J : Act → World → Prop := fun a' w' => ∃ n, JJ n a' w'
  have hle : ∀ a' w', ∃ n, J a' w' → JJ n a' w' ∧ ∀ m, m < n → ¬ JJ m a' w' := fun a' w' => by
    by_cases h : J a' w'
    · obtain ⟨n, hn⟩ := h
      obtain ⟨k, h1, h2⟩ := least (p := fun n => JJ n a' w') n hn
      exact ⟨k, fun _ => ⟨h1, h2⟩⟩
    · exact ⟨0, fun h' => absurd h' h⟩
  let μ' : Act → World → Nat := fun a' w' => Classical.choose (hle a' w')
  have hμ : ∀ a' w', J a' w' → JJ (μ' a' w') a' w' ∧ ∀ m, JJ m a' w' → μ' a' w' ≤ m := fun a' w' h => by
    have := Classical.choose_spec (hle a' w') h
    exact ⟨this.1, fun m hm => Nat.le_of_not_lt fun hlt => this.2 m hlt hm⟩
  refine wp_scope_jumps l J μ' hf (wp_mono (first ρ a w hr) ?_) ?_
  · rintro e a' w' ⟨ρ', tm', mem', hr', hs, hd, hq⟩
    cases e with
    | goto l' =>
      obtain ⟨rfl, j, hw, hl⟩ := hq
      obtain ⟨ρ2, hr2, hs2⟩ := hw ρ' a' w' hr'
      exact ⟨rfl, μ j, j, ρ2, rfl, hr2, hs2 _ _ _ hl hs, hd, hl⟩
    | _ => exact ⟨ρ', tm', mem', hr', hs, hd, hq⟩
  · intro a1 w1 hJ
    obtain ⟨⟨i, ρ1, hi, hr1, hs1, hd1, hl1⟩, hmin⟩ := hμ a1 w1 hJ
    refine wp_mono (pass i ρ1 a1 w1 hr1) ?_
    rintro e a' w' ⟨ρ', tm', mem', hr', hs, hd, hq⟩
    cases e with
    | goto l' =>
      obtain ⟨rfl, j, hlt, hw, hl⟩ := hq
      obtain ⟨ρ2, hr2, hs2⟩ := hw ρ' a' w' hr'
      have hl' : mem.length ≤ (M j).length := Nat.le_trans hl1 hl
      have hJJ : JJ (μ j) a' w' := ⟨j, ρ2, rfl, hr2, hs2 _ _ _ hl' (hs1.trans hs), hd.trans hd1, hl'⟩
      have hJ' : J a' w' := ⟨_, hJJ⟩
      refine ⟨rfl, hJ', ?_⟩
      have := (hμ a' w' hJ').2 _ hJJ
      omega
    | _ => exact ⟨ρ', tm', mem', hr', hs1.trans hs, hd.trans hd1, hq⟩

/-- The fall into the label: what holds of every pass holds of this one. -/
theorem AW.fall {ι : Type} {c : Code} {l : Nat} {T : ι → Tm} {M : ι → AMem} {μ : ι → Nat} {L : Nat} (i : ι) (hw : Weak nt tm mem (T i) (M i)) (hlen : mem.length ≤ (M i).length) (hL : L ≤ (M i).length)
    (h : AW P nt c (T i) (M i) (Jmp l (fun tm' mem' => ∃ j, μ j < μ i ∧ Weak nt tm' mem' (T j) (M j) ∧ (M i).length ≤ (M j).length) Q)) :
    AW P nt c tm mem (Jmp l (fun tm' mem' => ∃ j, Weak nt tm' mem' (T j) (M j) ∧ L ≤ (M j).length) Q) := by
  intro ρ a w hr
  obtain ⟨ρ', hr', hs⟩ := hw ρ a w hr
  refine wp_mono (h ρ' a w hr') ?_
  rintro e a' w' ⟨ρ2, tm2, mem2, hr2, hs2, hd, hq⟩
  refine ⟨ρ2, tm2, mem2, hr2, (hs mem ρ w hlen (Step.refl _ _ _)).trans hs2, hd, ?_⟩
  cases e with
  | goto l' => obtain ⟨rfl, j, _, hw2, hl2⟩ := hq; exact ⟨rfl, j, hw2, Nat.le_trans hL hl2⟩
  | _ => exact hq

theorem AW.scopeI {ι : Type} {c R : Code} (l : Nat) (hf : findLabel c l = some (.seq .skip R)) (I : ι → Prop) (T : ι → Tm) (M : ι → AMem) (μ : ι → Nat)
    (pass : ∀ i, I i → AW P nt R (T i) (M i) (Jmp l (fun tm' mem' => ∃ j, I j ∧ μ j < μ i ∧ Weak nt tm' mem' (T j) (M j) ∧ (M i).length ≤ (M j).length) Q))
    (first : (∀ i, I i → AW P nt R (T i) (M i) (Jmp l (fun tm' mem' => ∃ j, I j ∧ μ j < μ i ∧ Weak nt tm' mem' (T j) (M j) ∧ (M i).length ≤ (M j).length) Q)) →
      ∀ J : Tm → AMem → Prop, (∀ j tm' mem', I j → Weak nt tm' mem' (T j) (M j) → mem.length ≤ (M j).length → J tm' mem') → AW P nt c tm mem (Jmp l J Q)) : AW P nt (.scope c) tm mem Q := by
  refine AW.scope (ι := { i // I i }) l hf (fun i => T i.1) (fun i => M i.1) (fun i => μ i.1) (fun i => ?_) ?_
  · refine AW.seq (AW.skip ?_)
    refine (pass i.1 i.2).mono fun e tm' mem' hq => ?_
    cases e with
    | goto l' => obtain ⟨rfl, j, hj, h1, h2, h3⟩ := hq; exact ⟨rfl, ⟨j, hj⟩, h1, h2, h3⟩
    | _ => exact hq
  · refine (first pass (fun tm' mem' => ∃ j, I j ∧ Weak nt tm' mem' (T j) (M j) ∧ mem.length ≤ (M j).length) fun j _ _ h1 h2 h3 => ⟨j, h1, h2, h3⟩).mono fun e tm' mem' hq => ?_
    cases e with
    | goto l' => obtain ⟨rfl, j, hj, h2, h3⟩ := hq; exact ⟨rfl, ⟨j, hj⟩, h2, h3⟩
    | _ => exact hq
theorem AW.fallI {ι : Type} {R : Code} {l : Nat} {I : ι → Prop} {T : ι → Tm} {M : ι → AMem} {μ : ι → Nat} {L : Nat} {J : Tm → AMem → Prop}
    (pass : ∀ i, I i → AW P nt R (T i) (M i) (Jmp l (fun tm' mem' => ∃ j, I j ∧ μ j < μ i ∧ Weak nt tm' mem' (T j) (M j) ∧ (M i).length ≤ (M j).length) Q))
    (hJ : ∀ j tm' mem', I j → Weak nt tm' mem' (T j) (M j) → L ≤ (M j).length → J tm' mem')
    (i : ι) (hi : I i) (hlen : mem.length ≤ (M i).length) (hL : L ≤ (M i).length) (hw : Weak nt tm mem (T i) (M i)) :
    AW P nt (.seq (.label l) R) tm mem (Jmp l J Q) := by
  refine AW.seq (AW.label ?_)
  intro ρ a w hr
  obtain ⟨ρ', hr', hs⟩ := hw ρ a w hr
  refine wp_mono (pass i hi ρ' a w hr') ?_
  rintro e a' w' ⟨ρ2, tm2, mem2, hr2, hs2, hd, hq⟩
  refine ⟨ρ2, tm2, mem2, hr2, (hs mem ρ w hlen (Step.refl _ _ _)).trans hs2, hd, ?_⟩
  cases e with
  | goto l' => obtain ⟨rfl, j, hj, _, hw2, hl2⟩ := hq; exact ⟨rfl, hJ j _ _ hj hw2 (Nat.le_trans hL hl2)⟩
  | _ => exact hq
theorem Jmp_n {l : Nat} {J : Tm → AMem → Prop} {tm' : Tm} {m' : AMem} (h : Q .normal tm' m') : Jmp l J Q .normal tm' m' := h
theorem Jmp_r {l : Nat} {J : Tm → AMem → Prop} {tm' : Tm} {m' : AMem} (h : Q .ret tm' m') : Jmp l J Q .ret tm' m' := h
theorem Jmp_e {l id : Nat} {J : Tm → AMem → Prop} {tm' : Tm} {m' : AMem} (h : Q (.exit id) tm' m') : Jmp l J Q (.exit id) tm' m' := h
theorem Jmp_g {l : Nat} {J : Tm → AMem → Prop} {tm' : Tm} {m' : AMem} (h : J tm' m') : Jmp l J Q (.goto l) tm' m' := ⟨rfl, h⟩
theorem Thn_g {K : Tm → AMem → Prop} {tm' : Tm} {m' : AMem} {l : Nat} (h : Q (.goto l) tm' m') : Thn K Q (.goto l) tm' m' := h
theorem InB_g {id : Nat} {tm' : Tm} {m' : AMem} {l : Nat} (h : Q (.goto l) tm' m') : InB id Q (.goto l) tm' m' := h
end
end Go.Eng
