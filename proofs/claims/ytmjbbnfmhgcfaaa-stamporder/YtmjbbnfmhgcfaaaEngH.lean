/-
  ENGINE, PART H: forgetting; results; a function's contract out of its body.
-/
import Derived.Test.YtmjbbnfmhgcfaaaEngG
set_option linter.unusedVariables false
set_option linter.unusedSimpArgs false
namespace Go.Eng
open Go

def CV.below (L : Nat) : CV → Bool
  | .ptr r _ _ => decide (r < L)
  | .sl r _ _ _ => decide (r < L)
  | .fn _ cs => cs.all fun c => decide (c.1 < L)
  | _ => true

def AV.below (L : Nat) : AV → Bool
  | .one c => c.below L
  | .agg cs => cs.all (CV.below L)
  | .tup ts => ts.all fun t => t.2.all (CV.below L)

def Blk.below (L : Nat) (b : Blk) : Bool := b.cells.all (CV.below L)
def MWf (L : Nat) (m : AMem) : Prop := ∀ b, b ∈ m → b.below L = true

def Env.upto (L : Nat) (ρ : Env) : Env := fun r v => if r < L then ρ r v else none

theorem VC.upto {ρ : Env} {L : Nat} : ∀ {c : CV} {v : Value}, VC ρ c v → c.below L = true → VC (ρ.upto L) c v
  | .bool _, _, hv, _ => hv
  | .int _ _, _, hv, _ => hv
  | .str _, _, hv, _ => hv
  | .ptr r _ _, _, ⟨a, k, h1, h2⟩, hb => ⟨a, k, by simp [CV.below] at hb; simpa [Env.upto, hb] using h1, h2⟩
  | .nilp, _, hv, _ => hv
  | .sl r _ _ _, _, ⟨A, c0, B, c, h1, h2⟩, hb => ⟨A, c0, B, c, by simp [CV.below] at hb; simpa [Env.upto, hb] using h1, h2⟩
  | .nils, _, hv, _ => hv
  | .fn _ cs, _, ⟨vs, h1, h2⟩, hb => ⟨vs, h1, by
      simp only [CV.below] at hb
      generalize hl : vs.toList = l at h2
      clear h1 hl
      induction cs generalizing l with
      | nil => cases l with
        | nil => trivial
        | cons => exact h2.elim
      | cons c cs ih =>
        cases l with
        | nil => exact h2.elim
        | cons x l =>
          simp only [List.all_cons, Bool.and_eq_true, decide_eq_true_eq] at hb
          obtain ⟨a, k, h3, h4⟩ := h2.1
          exact ⟨⟨a, k, by simpa [Env.upto, hb.1] using h3, h4⟩, ih hb.2 l h2.2⟩⟩
  | .nilf, _, hv, _ => hv
  | .nili, _, hv, _ => hv
  | .und, _, hv, _ => hv
  | .junk, _, _, _ => trivial

theorem All2.upto {ρ : Env} {L : Nat} : ∀ {cs : List CV} {vs : List Value}, All2 (VC ρ) cs vs → cs.all (CV.below L) = true → All2 (VC (ρ.upto L)) cs vs
  | [], [], _, _ => trivial
  | c :: cs, v :: vs, h, hb => by
    simp only [List.all_cons, Bool.and_eq_true] at hb
    exact ⟨h.1.upto hb.1, All2.upto h.2 hb.2⟩
  | [], _ :: _, h, _ => h.elim
  | _ :: _, [], h, _ => h.elim

theorem VR.upto {ρ : Env} {L : Nat} {x : AV} {v : Value} (h : VR ρ x v) (hb : x.below L = true) : VR (ρ.upto L) x v := by
  cases x with
  | one c => exact VC.upto h hb
  | agg cs => obtain ⟨vs, h1, h2⟩ := h; exact ⟨vs, h1, h2.upto hb⟩
  | tup ts =>
    obtain ⟨vs, h1, h2⟩ := h
    refine ⟨vs, h1, ?_⟩
    simp only [AV.below] at hb
    generalize hl : vs.toList = l at h2
    clear h1 hl
    induction ts generalizing l with
    | nil => cases l with
      | nil => trivial
      | cons => exact h2.elim
    | cons t ts ih =>
      cases l with
      | nil => exact h2.elim
      | cons x l =>
        simp only [List.all_cons, Bool.and_eq_true] at hb
        refine ⟨?_, ih hb.2 l h2.2⟩
        obtain ⟨b, cs⟩ := t
        have h3 := h2.1
        cases b with
        | true => obtain ⟨us, h4, h5⟩ := h3; exact ⟨us, h4, h5.upto hb.1⟩
        | false =>
          match cs, h3, hb.1 with
          | [], _, _ => trivial
          | [c], h3, hb => exact VC.upto h3 (by simpa using hb)
          | _ :: _ :: _, _, _ => trivial

theorem VC.below_of {ρ : Env} {L : Nat} (hd : ∀ r v, L ≤ r → ρ r v = none) : ∀ {c : CV} {v : Value}, VC ρ c v → c.below L = true
  | .bool _, _, _ => rfl
  | .int _ _, _, _ => rfl
  | .str _, _, _ => rfl
  | .ptr r _ _, _, ⟨a, k, h1, h2⟩ => by
    simp only [CV.below, decide_eq_true_eq]
    rcases Nat.lt_or_ge r L with h | h
    · exact h
    · rw [hd r _ h] at h1; cases h1
  | .nilp, _, _ => rfl
  | .sl r _ _ _, _, ⟨A, c0, B, c, h1, h2⟩ => by
    simp only [CV.below, decide_eq_true_eq]
    rcases Nat.lt_or_ge r L with h | h
    · exact h
    · rw [hd r _ h] at h1; cases h1
  | .nils, _, _ => rfl
  | .fn _ cs, _, ⟨vs, h1, h2⟩ => by
    simp only [CV.below]
    generalize hl : vs.toList = l at h2
    clear h1 hl
    induction cs generalizing l with
    | nil => rfl
    | cons c cs ih =>
      cases l with
      | nil => exact h2.elim
      | cons x l =>
        simp only [List.all_cons, Bool.and_eq_true, decide_eq_true_eq]
        refine ⟨?_, ih l h2.2⟩
        obtain ⟨a, k, h3, _⟩ := h2.1
        rcases Nat.lt_or_ge c.1 L with h | h
        · exact h
        · rw [hd _ _ h] at h3; cases h3
  | .nilf, _, _ => rfl
  | .nili, _, _ => rfl
  | .und, _, _ => rfl
  | .junk, _, _ => rfl

theorem All2.below_of {ρ : Env} {L : Nat} (hd : ∀ r v, L ≤ r → ρ r v = none) : ∀ {cs : List CV} {vs : List Value}, All2 (VC ρ) cs vs → cs.all (CV.below L) = true
  | [], [], _ => rfl
  | c :: cs, v :: vs, h => by
    simp only [List.all_cons, Bool.and_eq_true]
    exact ⟨h.1.below_of hd, All2.below_of hd h.2⟩
  | [], _ :: _, h => h.elim
  | _ :: _, [], h => h.elim

theorem RepM.wf {ρ : Env} {mem : AMem} {w : World} (h : RepM ρ mem w) : MWf mem.length mem := fun b hb => by
  obtain ⟨r, hr⟩ := List.getElem?_of_mem hb
  have hbk := h.blk r b hr
  obtain ⟨kind, ty, ver, esz, cells⟩ := b
  cases kind with
  | fix => obtain ⟨n, c, k, h1, h2, h3, _⟩ := hbk; exact h3.below_of h.dom
  | grow =>
    rcases hbk with ⟨h1, h2⟩ | ⟨n, c, cap, xs, sp, h1, h2, h3, hcm, h4, h5⟩
    · simp only at h1; subst h1; rfl
    · exact h5.below_of h.dom
  | ro =>
    obtain ⟨A, k, h1, h2⟩ := hbk
    simp only [Blk.below]
    rw [List.all_eq_true]
    intro c hc
    obtain ⟨a, ha, hlt, hcs⟩ := h2 (by rintro rfl; cases hc)
    obtain ⟨i, hi⟩ := List.getElem?_of_mem hc
    obtain ⟨v, hv, hr⟩ := hcs i c hi
    exact hr.below_of h.dom

theorem BlkR.upto {ρ : Env} {L : Nat} {w : World} {r : Nat} {b : Blk} (hb : BlkR ρ w r b) (hr : r < L) (hwf : b.below L = true) : BlkR (ρ.upto L) w r b := by
  have hu : ∀ v, ρ.upto L r v = ρ r v := fun v => by simp [Env.upto, hr]
  obtain ⟨kind, ty, ver, esz, cells⟩ := b
  cases kind with
  | fix => obtain ⟨n, c, k, h1, h2, h3, hk⟩ := hb; exact ⟨n, c, k, by rw [hu]; exact h1, h2, h3.upto hwf, hk⟩
  | grow =>
    rcases hb with ⟨h1, h2⟩ | ⟨n, c, cap, xs, sp, h1, h2, h3, hcm, h4, h5⟩
    · exact .inl ⟨h1, by rw [hu]; exact h2⟩
    · exact .inr ⟨n, c, cap, xs, sp, by rw [hu]; exact h1, h2, h3, hcm, h4, h5.upto hwf⟩
  | ro =>
    obtain ⟨A, k, h1, h2⟩ := hb
    refine ⟨A, k, by rw [hu]; exact h1, fun hne => ?_⟩
    obtain ⟨a, ha, hlt, hc⟩ := h2 hne
    exact ⟨a, ha, hlt, fun i c hi => by
      obtain ⟨v, hv, hr⟩ := hc i c hi
      exact ⟨v, hv, hr.upto (List.all_eq_true.1 hwf c (List.mem_of_getElem? hi))⟩⟩

section
variable {P : Program} {nt : Nat} {tm tm' : Tm} {mem mem' : AMem} {Q : Exit → Tm → AMem → Prop}

theorem Weak.trans {tm'' : Tm} {mem'' : AMem} (h : Weak nt tm mem tm' mem') (g : Weak nt tm' mem' tm'' mem'') (hl : mem''.length ≤ mem'.length) : Weak nt tm mem tm'' mem'' := fun ρ a w hr => by
  obtain ⟨ρ1, hr1, hs1⟩ := h ρ a w hr
  obtain ⟨ρ2, hr2, hs2⟩ := g ρ1 a w hr1
  exact ⟨ρ2, hr2, fun m0 ρ0 w0 hl0 hs => hs2 m0 ρ0 w0 hl0 (hs1 m0 ρ0 w0 (Nat.le_trans hl0 hl) hs)⟩

def Keeps (tm : Tm) : List (Nat × AV) → Prop
  | [] => True
  | (j, v) :: r => Tm.get tm j = v ∧ Keeps tm r

theorem Keeps.get {tm : Tm} : ∀ {tm' : List (Nat × AV)}, Keeps tm tm' → ∀ i, Tm.get tm' i = Tm.get tm i ∨ Tm.get tm' i = .one .junk
  | [], _, i => .inr rfl
  | (j, v) :: r, h, i => by
    by_cases hi : i = j
    · subst hi; simp [Tm.get, h.1]
    · simp only [Tm.get, if_neg hi]; exact Keeps.get h.2 i

theorem Weak.keep (h : Keeps tm tm') : Weak nt tm mem tm' mem := fun ρ a w hr =>
  ⟨ρ, ⟨hr.size, fun i => by
    rcases h.get i with e | e
    · rw [e]; exact hr.tm i
    · rw [e]; trivial, hr.mem⟩, fun _ _ _ _ s => s⟩

def TmBelow (L : Nat) (tm : Tm) : Prop := ∀ p, p ∈ tm → p.2.below L = true
theorem TmBelow.get {L : Nat} : ∀ {tm : List (Nat × AV)}, TmBelow L tm → ∀ i, (Tm.get tm i).below L = true
  | [], _, i => rfl
  | (j, v) :: r, h, i => by
    by_cases hi : i = j
    · subst hi; simp only [Tm.get, if_true]; exact h _ List.mem_cons_self
    · simp only [Tm.get, if_neg hi]; exact TmBelow.get (fun p hp => h p (List.mem_cons_of_mem _ hp)) i

theorem Weak.trunc {m1 extra : AMem} (he : mem = m1 ++ extra) (ht : TmBelow m1.length tm) (hw : MWf m1.length m1) : Weak nt tm mem tm m1 := by
  subst he
  intro ρ a w hr
  have hget : ∀ {r : Nat} {b : Blk}, m1[r]? = some b → r < m1.length ∧ (m1 ++ extra)[r]? = some b := fun {r b} hb => by
    have hl := (List.getElem?_eq_some_iff.1 hb).1
    exact ⟨hl, by rw [List.getElem?_append_left hl]; exact hb⟩
  have hu : ∀ {r : Nat} (v : Nat), r < m1.length → ρ.upto m1.length r v = ρ r v := fun {r} v h => by simp [Env.upto, h]
  refine ⟨ρ.upto m1.length, ⟨hr.size, fun i => (hr.tm i).upto (ht.get i), ⟨?_, ?_, ?_, ?_⟩⟩, ?_⟩
  · intro r b hb
    obtain ⟨h1, h2⟩ := hget hb
    exact (hr.mem.blk r b h2).upto h1 (hw b (List.mem_of_getElem? hb))
  · intro r v h; simp only [Env.upto]; rw [if_neg (by omega)]
  · intro r b v hb hv
    obtain ⟨h1, h2⟩ := hget hb
    rw [hu v h1]; exact hr.mem.domv r b v h2 hv
  · intro r s b c hb hc hrs hk hne x y k l hx hy
    obtain ⟨h1, h2⟩ := hget hb
    obtain ⟨h3, h4⟩ := hget hc
    rw [hu _ h1] at hx; rw [hu _ h3] at hy
    exact hr.mem.sep r s b c h2 h4 hrs hk hne x y k l hx hy
  · intro m0 ρ0 w0 hl hs
    refine ⟨hs.os, hs.tape, hs.output, hs.size, hl, fun r h v x hx => ?_, ?_, fun r b hb hro => hs.ro r b (hget hb).2 hro, hs.frame, ?_⟩
    · rw [hu v (by omega)]; exact hs.ext r h v x hx
    · intro r b b' hb hb'
      exact hs.kind r b b' hb (hget hb').2
    · intro r b x k hb hk hx
      obtain ⟨h1, h2⟩ := hget hb
      rw [hu _ h1] at hx
      exact hs.fresh r b x k h2 hk hx

/-- The result's cells, the rows that are handed back counted anew from L on. -/
def renIdx (r ver : Nat) : List (Nat × Nat) → Option Nat
  | [] => none
  | (k, v) :: ks => if r = k ∧ ver = v then some 0 else (renIdx r ver ks).map (· + 1)

theorem renIdx_get {r ver : Nat} : ∀ {ks : List (Nat × Nat)} {i : Nat}, renIdx r ver ks = some i → ks[i]? = some (r, ver)
  | [], i, h => by simp [renIdx] at h
  | (k, v) :: ks, i, h => by
    simp only [renIdx] at h
    split at h
    · rename_i hc; injection h with h; subst h; simp [hc.1, hc.2]
    · simp only [Option.map_eq_some_iff] at h
      obtain ⟨j, hj, rfl⟩ := h
      simpa using renIdx_get hj

def renC (L : Nat) (ks : List (Nat × Nat)) : CV → Option CV
  | .ptr r ver off => if r < L then some (.ptr r ver off) else (renIdx r ver ks).map fun i => .ptr (L + i) 0 off
  | .sl r ver off n => if r < L then some (.sl r ver off n) else (renIdx r ver ks).map fun i => .sl (L + i) 0 off n
  | .fn f cs => if (cs.all fun c => decide (c.1 < L)) = true then some (.fn f cs) else none
  | c => some c

def renL (L : Nat) (ks : List (Nat × Nat)) : List CV → Option (List CV)
  | [] => some []
  | c :: cs => match renC L ks c, renL L ks cs with
    | some c', some cs' => some (c' :: cs')
    | _, _ => none

def renT (L : Nat) (ks : List (Nat × Nat)) : List (Bool × List CV) → Option (List (Bool × List CV))
  | [] => some []
  | (b, cs) :: ts => match renL L ks cs, renT L ks ts with
    | some cs', some ts' => some ((b, cs') :: ts')
    | _, _ => none

def renV (L : Nat) (ks : List (Nat × Nat)) : AV → Option AV
  | .one c => (renC L ks c).map .one
  | .agg cs => (renL L ks cs).map .agg
  | .tup ts => (renT L ks ts).map .tup

def Env.pick (L : Nat) (ks : List (Nat × Nat)) (ρ : Env) : Env := fun r v => if r < L then ρ r v else if v = 0 then (ks[r - L]?).bind fun k => ρ k.1 k.2 else none

theorem VC.pick {ρ : Env} {L : Nat} {ks : List (Nat × Nat)} {c c' : CV} {v : Value} (h : VC ρ c v) (hc : renC L ks c = some c') : VC (ρ.pick L ks) c' v := by
  have hup : ∀ {r ver : Nat} {x : Option Addr × Nat}, ρ r ver = some x → r < L → ρ.pick L ks r ver = some x := fun {r ver x} h hr => by simp [Env.pick, hr, h]
  have hix : ∀ {r ver i : Nat} {x : Option Addr × Nat}, ρ r ver = some x → renIdx r ver ks = some i → ρ.pick L ks (L + i) 0 = some x := fun {r ver i x} h hr => by
    have hn : ¬ (L + i < L) := by omega
    simp [Env.pick, renIdx_get hr, h, hn]
  cases c with
  | ptr r ver off =>
    obtain ⟨a, k, h1, h2⟩ := h
    simp only [renC] at hc
    split at hc
    · rename_i hr; injection hc with hc; subst hc; exact ⟨a, k, hup h1 hr, h2⟩
    · simp only [Option.map_eq_some_iff] at hc
      obtain ⟨i, hi, rfl⟩ := hc
      exact ⟨a, k, hix h1 hi, h2⟩
  | sl r ver off n =>
    obtain ⟨A, c0, B, c, h1, h2⟩ := h
    simp only [renC] at hc
    split at hc
    · rename_i hr; injection hc with hc; subst hc; exact ⟨A, c0, B, c, hup h1 hr, h2⟩
    · simp only [Option.map_eq_some_iff] at hc
      obtain ⟨i, hi, rfl⟩ := hc
      exact ⟨A, c0, B, c, hix h1 hi, h2⟩
  | fn f cs =>
    simp only [renC] at hc
    split at hc
    · rename_i hb
      injection hc with hc; subst hc
      obtain ⟨vs, h1, h2⟩ := h
      refine ⟨vs, h1, ?_⟩
      generalize hl : vs.toList = l at h2
      clear h1 hl
      induction cs generalizing l with
      | nil => cases l with
        | nil => trivial
        | cons => exact h2.elim
      | cons c cs ih =>
        cases l with
        | nil => exact h2.elim
        | cons x l =>
          simp only [List.all_cons, Bool.and_eq_true, decide_eq_true_eq] at hb
          obtain ⟨a, k, h3, h4⟩ := h2.1
          exact ⟨⟨a, k, hup h3 hb.1, h4⟩, ih hb.2 l h2.2⟩
    · cases hc
  | bool b => simp only [renC] at hc; injection hc with hc; subst hc; exact h
  | int k n => simp only [renC] at hc; injection hc with hc; subst hc; exact h
  | str s => simp only [renC] at hc; injection hc with hc; subst hc; exact h
  | nilp => simp only [renC] at hc; injection hc with hc; subst hc; exact h
  | nils => simp only [renC] at hc; injection hc with hc; subst hc; exact h
  | nilf => simp only [renC] at hc; injection hc with hc; subst hc; exact h
  | nili => simp only [renC] at hc; injection hc with hc; subst hc; exact h
  | und => simp only [renC] at hc; injection hc with hc; subst hc; exact h
  | junk => simp only [renC] at hc; injection hc with hc; subst hc; exact h

theorem All2.pick {ρ : Env} {L : Nat} {ks : List (Nat × Nat)} : ∀ {cs cs' : List CV} {vs : List Value}, All2 (VC ρ) cs vs → renL L ks cs = some cs' → All2 (VC (ρ.pick L ks)) cs' vs
  | [], cs', [], _, h => by simp [renL] at h; subst h; trivial
  | c :: cs, cs', v :: vs, h, hc => by
    simp only [renL] at hc
    split at hc
    · rename_i c1 cs1 h1 h2
      injection hc with hc; subst hc
      exact ⟨h.1.pick h1, All2.pick h.2 h2⟩
    · cases hc
  | [], _, _ :: _, h, _ => h.elim
  | _ :: _, _, [], h, _ => h.elim

theorem renL_single {L : Nat} {ks : List (Nat × Nat)} {c : CV} {cs' : List CV} (h : renL L ks [c] = some cs') : ∃ c', renC L ks c = some c' ∧ cs' = [c'] := by
  simp only [renL] at h
  split at h
  · rename_i c1 cs1 h1 h2
    injection h with h; injection h2 with h2; subst h2
    exact ⟨c1, h1, h.symm⟩
  · cases h

theorem renL_len {L : Nat} {ks : List (Nat × Nat)} : ∀ {cs cs' : List CV}, renL L ks cs = some cs' → cs'.length = cs.length
  | [], cs', h => by simp [renL] at h; subst h; rfl
  | c :: cs, cs', h => by
    simp only [renL] at h
    split at h
    · rename_i c1 cs1 h1 h2
      injection h with h; subst h
      simp [renL_len h2]
    · cases h

theorem VR.pick {ρ : Env} {L : Nat} {ks : List (Nat × Nat)} {x x' : AV} {v : Value} (h : VR ρ x v) (hc : renV L ks x = some x') : VR (ρ.pick L ks) x' v := by
  cases x with
  | one c =>
    simp only [renV, Option.map_eq_some_iff] at hc
    obtain ⟨c', hc', rfl⟩ := hc
    exact VC.pick h hc'
  | agg cs =>
    simp only [renV, Option.map_eq_some_iff] at hc
    obtain ⟨c', hc', rfl⟩ := hc
    obtain ⟨vs, h1, h2⟩ := h
    exact ⟨vs, h1, h2.pick hc'⟩
  | tup ts =>
    simp only [renV, Option.map_eq_some_iff] at hc
    obtain ⟨ts', hc', rfl⟩ := hc
    obtain ⟨vs, h1, h2⟩ := h
    refine ⟨vs, h1, ?_⟩
    generalize hl : vs.toList = l at h2
    clear h1 hl
    induction ts generalizing l ts' with
    | nil => simp [renT] at hc'; subst hc'; cases l with
      | nil => trivial
      | cons => exact h2.elim
    | cons t ts ih =>
      cases l with
      | nil => exact h2.elim
      | cons x l =>
        obtain ⟨b, cs⟩ := t
        simp only [renT] at hc'
        split at hc'
        · rename_i cs1 ts1 h3 h4
          injection hc' with hc'; subst hc'
          refine ⟨?_, ih ts1 h4 l h2.2⟩
          have h5 := h2.1
          cases b with
          | true => obtain ⟨us, h6, h7⟩ := h5; exact ⟨us, h6, h7.pick h3⟩
          | false =>
            match cs, h5, h3 with
            | [], _, h3 => simp [renL] at h3; subst h3; trivial
            | [c], h5, h3 =>
              obtain ⟨c', h6, rfl⟩ := renL_single h3
              exact VC.pick h5 h6
            | c1 :: c2 :: cs, _, h3 =>
              have hl := renL_len h3
              match cs1, hl with
              | d1 :: d2 :: ds, _ => trivial
        · cases hc'

/-- The rows that a call hands back. -/
def picks (m : AMem) : List (Nat × Nat) → Option (List Blk)
  | [] => some []
  | (r, v) :: ks => match m[r]?, picks m ks with
    | some b, some bs => if b.ver = v then some (⟨b.kind, b.ty, 0, b.esz, b.cells⟩ :: bs) else none
    | _, _ => none

theorem picks_get {m : AMem} : ∀ {ks : List (Nat × Nat)} {bs : List Blk}, picks m ks = some bs → ∀ {i : Nat} {b : Blk}, bs[i]? = some b → ∃ r v b0, ks[i]? = some (r, v) ∧ m[r]? = some b0 ∧ b0.ver = v ∧ b = ⟨b0.kind, b0.ty, 0, b0.esz, b0.cells⟩
  | [], bs, h, i, b, hb => by simp [picks] at h; subst h; simp at hb
  | (r, v) :: ks, bs, h, i, b, hb => by
    simp only [picks] at h
    split at h
    · rename_i b1 bs1 h1 h2
      split at h
      · rename_i hv
        injection h with h; subst h
        cases i with
        | zero => simp at hb; exact ⟨r, v, b1, rfl, h1, hv, hb.symm⟩
        | succ i => simp at hb; simpa using picks_get h2 hb
      · cases h
    · cases h
theorem picks_len {m : AMem} : ∀ {ks : List (Nat × Nat)} {bs : List Blk}, picks m ks = some bs → bs.length = ks.length
  | [], bs, h => by simp [picks] at h; subst h; rfl
  | (r, v) :: ks, bs, h => by
    simp only [picks] at h
    split at h
    · rename_i b1 bs1 h1 h2
      split at h
      · injection h with h; subst h; simp [picks_len h2]
      · cases h
    · cases h

/-- All are different, and none below L. -/
def distinctFrom (L : Nat) : List (Nat × Nat) → Prop
  | [] => True
  | (r, _) :: ks => L ≤ r ∧ (∀ p, p ∈ ks → p.1 ≠ r) ∧ distinctFrom L ks
theorem distinct_ne {L : Nat} : ∀ {ks : List (Nat × Nat)}, distinctFrom L ks → ∀ {i j : Nat} {p q : Nat × Nat}, ks[i]? = some p → ks[j]? = some q → i ≠ j → p.1 ≠ q.1
  | [], _, i, j, p, q, hp, _, _ => by simp at hp
  | (r, v) :: ks, h, i, j, p, q, hp, hq, hij => by
    cases i with
    | zero => cases j with
      | zero => exact absurd rfl hij
      | succ j => simp at hp hq; subst hp; exact fun e => h.2.1 q (List.mem_of_getElem? hq) e.symm
    | succ i => cases j with
      | zero => simp at hp hq; subst hq; exact h.2.1 p (List.mem_of_getElem? hp)
      | succ j => simp at hp hq; exact distinct_ne h.2.2 hp hq (by omega)
theorem distinct_ge {L : Nat} : ∀ {ks : List (Nat × Nat)}, distinctFrom L ks → ∀ {i : Nat} {p : Nat × Nat}, ks[i]? = some p → L ≤ p.1
  | [], _, i, p, hp => by simp at hp
  | (r, v) :: ks, h, i, p, hp => by
    cases i with
    | zero => simp at hp; subst hp; exact h.1
    | succ i => simp at hp; exact distinct_ge h.2.2 hp

theorem BlkR.pick {ρ : Env} {L : Nat} {ks : List (Nat × Nat)} {w : World} {r r' : Nat} {b : Blk} {ver' : Nat} (hb : BlkR ρ w r b) (hwf : b.below L = true) (hr : ρ.pick L ks r' ver' = ρ r b.ver) :
    BlkR (ρ.pick L ks) w r' ⟨b.kind, b.ty, ver', b.esz, b.cells⟩ := by
  have hup : ∀ {c : CV} {v : Value}, c.below L = true → VC ρ c v → VC (ρ.pick L ks) c v := fun {c v} hc h => by
    refine h.pick (c' := c) ?_
    cases c <;> simp [CV.below] at hc <;> simp [renC, hc]
    exact fun a b c hm => hc a b c hm
  have hall : ∀ {cs : List CV} {vs : List Value}, All2 (VC ρ) cs vs → cs.all (CV.below L) = true → All2 (VC (ρ.pick L ks)) cs vs := by
    intro cs
    induction cs with
    | nil => intro vs h _; cases vs with
      | nil => trivial
      | cons => exact h.elim
    | cons c cs ih =>
      intro vs h hb
      cases vs with
      | nil => exact h.elim
      | cons v vs =>
        simp only [List.all_cons, Bool.and_eq_true] at hb
        exact ⟨hup hb.1 h.1, ih h.2 hb.2⟩
  obtain ⟨kind, ty, ver, esz, cells⟩ := b
  cases kind with
  | fix => obtain ⟨n, c, k, h1, h2, h3, hk⟩ := hb; exact ⟨n, c, k, by rw [hr]; exact h1, h2, hall h3 hwf, hk⟩
  | grow =>
    rcases hb with ⟨h1, h2⟩ | ⟨n, c, cap, xs, sp, h1, h2, h3, hcm, h4, h5⟩
    · exact .inl ⟨h1, by rw [hr]; exact h2⟩
    · exact .inr ⟨n, c, cap, xs, sp, by rw [hr]; exact h1, h2, h3, hcm, h4, hall h5 hwf⟩
  | ro =>
    obtain ⟨A, k, h1, h2⟩ := hb
    refine ⟨A, k, by rw [hr]; exact h1, fun hne => ?_⟩
    obtain ⟨a, ha, hlt, hc⟩ := h2 hne
    exact ⟨a, ha, hlt, fun i c hi => by
      obtain ⟨v, hv, hr⟩ := hc i c hi
      exact ⟨v, hv, hup (List.all_eq_true.1 hwf c (List.mem_of_getElem? hi)) hr⟩⟩

/-- WHAT A CALL HANDS BACK: the result and the rows that it leads to; all else that the call made is forgotten. -/
def Hands (L : Nat) (x : AV) (mem : AMem) (ret : AV) (mem' : AMem) : Prop :=
  ∀ ρ v w, VR ρ x v → RepM ρ mem w → ∃ ρ', VR ρ' ret v ∧ RepM ρ' mem' w ∧ ∀ m0 ρ0 w0, m0.length ≤ L → Step m0 ρ0 w0 mem ρ w → Step m0 ρ0 w0 mem' ρ' w

theorem Hands.pick {x ret : AV} {m1 extra : AMem} (he : mem = m1 ++ extra) (ks : List (Nat × Nat)) {bs : List Blk} (hbs : picks mem ks = some bs) (hd : distinctFrom m1.length ks) (hx : renV m1.length ks x = some ret)
    (hw : MWf m1.length m1) (hwb : MWf m1.length bs) : Hands m1.length x mem ret (m1 ++ bs) := by
  intro ρ v w hv hm
  have hlen := picks_len hbs
  have hget : ∀ {r : Nat} {b : Blk}, (m1 ++ bs)[r]? = some b → ∃ s b0, mem[s]? = some b0 ∧ b.kind = b0.kind ∧ b.cells = b0.cells ∧ ρ.pick m1.length ks r b.ver = ρ s b0.ver ∧ (r < m1.length → s = r ∧ b = b0) ∧ (m1.length ≤ r → ∃ i, r = m1.length + i ∧ ks[i]? = some (s, b0.ver) ∧ b.ver = 0) ∧
      b = ⟨b0.kind, b0.ty, b.ver, b0.esz, b0.cells⟩ ∧ b0.below m1.length = true := by
    intro r b hb
    rcases Nat.lt_or_ge r m1.length with hr | hr
    · rw [List.getElem?_append_left hr] at hb
      refine ⟨r, b, by rw [he, List.getElem?_append_left hr]; exact hb, rfl, rfl, by simp [Env.pick, hr], fun _ => ⟨rfl, rfl⟩, fun h => by omega, rfl, hw b (List.mem_of_getElem? hb)⟩
    · rw [List.getElem?_append_right hr] at hb
      obtain ⟨s, v, b0, h1, h2, h3, h4⟩ := picks_get hbs hb
      have hwf := hwb b (List.mem_of_getElem? hb)
      subst h4
      refine ⟨s, b0, h2, rfl, rfl, ?_, fun h => by omega, fun _ => ⟨r - m1.length, by omega, by rw [h3]; exact h1, rfl⟩, rfl, hwf⟩
      have hnot : ¬ r < m1.length := by omega
      simp [Env.pick, hnot, h1, h3]
  have hinj : ∀ {r r' s : Nat} {b b' b0 b0' : Blk}, (m1 ++ bs)[r]? = some b → (m1 ++ bs)[r']? = some b' → r ≠ r' → True := fun _ _ _ => trivial
  refine ⟨ρ.pick m1.length ks, hv.pick hx, ⟨?_, ?_, ?_, ?_⟩, ?_⟩
  · intro r b hb
    obtain ⟨s, b0, h1, h2, h3, h4, h5, h6, h7, h8⟩ := hget hb
    rw [h7]
    exact (hm.blk s b0 h1).pick h8 h4
  · intro r v hr
    simp only [List.length_append] at hr
    simp only [Env.pick]
    rw [if_neg (by omega)]
    split
    · rw [List.getElem?_eq_none (by omega)]; rfl
    · rfl
  · intro r b v hb hv
    obtain ⟨s, b0, h1, h2, h3, h4, h5, h6, h7, h8⟩ := hget hb
    rcases Nat.lt_or_ge r m1.length with hr | hr
    · obtain ⟨e1, e2⟩ := h5 hr
      subst e1; subst e2
      simp only [Env.pick]
      rw [if_pos hr]
      exact hm.domv s b v h1 hv
    · obtain ⟨i, h9, h10, h11⟩ := h6 hr
      simp only [Env.pick]
      rw [if_neg (by omega), if_neg (by omega)]
  · intro r r' b b' hb hb' hrr hk hne x y k l hx hy
    obtain ⟨s, b0, h1, h2, h3, h4, h5, h6, h7, h8⟩ := hget hb
    obtain ⟨s', b0', h1', h2', h3', h4', h5', h6', h7', h8'⟩ := hget hb'
    rw [h4] at hx; rw [h4'] at hy
    have hss : s ≠ s' := by
      rcases Nat.lt_or_ge r m1.length with hr | hr <;> rcases Nat.lt_or_ge r' m1.length with hr' | hr'
      · rw [(h5 hr).1, (h5' hr').1]; exact hrr
      · obtain ⟨i, h9, h10, h11⟩ := h6' hr'
        have := distinct_ge hd h10
        have := (h5 hr).1
        simp only at *
        omega
      · obtain ⟨i, h9, h10, h11⟩ := h6 hr
        have := distinct_ge hd h10
        have := (h5' hr').1
        simp only at *
        omega
      · obtain ⟨i, h9, h10, h11⟩ := h6 hr
        obtain ⟨j, h9', h10', h11'⟩ := h6' hr'
        exact distinct_ne hd h10 h10' (fun e => hrr (by rw [h9, h9', e]))
    exact hm.sep s s' b0 b0' h1 h1' hss (by rw [← h2]; exact hk) (fun e => by rw [← h3']; exact hne (h2'.trans e)) x y k l hx hy
  · intro m0 ρ0 w0 hl hs
    refine ⟨hs.os, hs.tape, hs.output, hs.size, by simp only [List.length_append]; omega, fun r h v x hx => ?_, ?_, ?_, hs.frame, ?_⟩
    · have hr := hs.ext r h v x hx
      simp only [Env.pick]; rw [if_pos (by omega)]; exact hr
    · intro r b b' hb hb'
      obtain ⟨s, b0, h1, h2, h3, h4, h5, h6, h7, h8⟩ := hget hb'
      have hr0 := (List.getElem?_eq_some_iff.1 hb).1
      obtain ⟨e1, e2⟩ := h5 (by omega)
      subst e1; subst e2
      exact hs.kind s b b' hb h1
    · intro r b hb hro
      obtain ⟨s, b0, h1, h2, h3, h4, h5, h6, h7, h8⟩ := hget hb
      have h9 := hs.ro s b0 h1 (h2 ▸ hro)
      rcases Nat.lt_or_ge r m1.length with hr | hr
      · obtain ⟨e1, e2⟩ := h5 hr
        subst e1; subst e2
        exact h9
      · exfalso
        obtain ⟨i, _, h10, _⟩ := h6 hr
        have h11 := distinct_ge hd h10
        have h12 := (List.getElem?_eq_some_iff.1 h9).1
        simp only at h11
        omega
    · intro r b x k hb hk hx
      obtain ⟨s, b0, h1, h2, h3, h4, h5, h6, h7, h8⟩ := hget hb
      rw [h4] at hx
      exact hs.fresh s b0 x k h1 (by rw [← h2]; exact hk) hx

/-- Nothing new is handed back. -/
theorem Hands.drop {x : AV} {m1 extra : AMem} (he : mem = m1 ++ extra) (hx : x.below m1.length = true) (hw : MWf m1.length m1) : Hands m1.length x mem x m1 := by
  intro ρ v w hv hm
  have ht : Rep ρ 1 [(0, x)] mem ⟨#[v], []⟩ w := ⟨by simp, fun i => by
    cases i with
    | zero => simpa [Tm.get] using hv
    | succ i => simp [Tm.get]; trivial, hm⟩
  obtain ⟨ρ', h1, h2⟩ := Weak.trunc (nt := 1) (tm := [(0, x)]) he (fun p hp => by simp at hp; subst hp; exact hx) hw ρ _ w ht
  refine ⟨ρ', ?_, h1.mem, h2⟩
  have := h1.tm 0
  simpa [Tm.get] using this

def AV.tv : AV → Option (Bool × List CV)
  | .one c => some (false, [c])
  | .agg cs => some (true, cs)
  | .tup _ => none

variable (P)
def resOne (tm : Tm) (mem : AMem) : ResultVar → Option AV
  | .tmp t => some (Tm.get tm t)
  | .cell t ty => loadA P ty (Tm.get tm t) mem

def resTv (tm : Tm) (mem : AMem) : List ResultVar → Option (List (Bool × List CV))
  | [] => some []
  | r :: rs => match (resOne P tm mem r).bind AV.tv, resTv tm mem rs with
    | some t, some ts => some (t :: ts)
    | _, _ => none

def resA (rs : List ResultVar) (tm : Tm) (mem : AMem) : Option AV :=
  match rs with
  | [r] => resOne P tm mem r
  | rs => (resTv P tm mem rs).map .tup
variable {P}

def resSem (tmps : Array Value) : ResultVar → Sem Value
  | .tmp t => pure (tmps.getD t undef)
  | .cell p t => do loadVar t (← asAddr (tmps.getD p undef))

theorem results_eq (fn : Func) (tmps : Array Value) : results fn tmps = (do
    let vs ← fn.results.mapM (resSem tmps)
    pure (if h : vs.size = 1 then vs[0] else .tuple vs)) := by
  unfold results
  congr 1

theorem run_resOne {ρ : Env} {a : Act} {w : World} (hr : Rep ρ nt tm mem a w) {r : ResultVar} {x : AV} (h : resOne P tm mem r = some x) :
    ∃ v, (resSem a.tmps r).run P w = .ok v w ∧ VR ρ x v := by
  cases r with
  | tmp t => simp only [resOne] at h; injection h with h; subst h; exact ⟨_, rfl, hr.tm t⟩
  | cell p t =>
    simp only [resOne] at h
    obtain ⟨v, hv, hvr⟩ := run_loadA P hr.mem h (hr.tm p)
    refine ⟨v, ?_, hvr⟩
    unfold loadA at h
    split at h
    · rename_i r ver off hp
      have hpv := hr.tm p
      rw [hp] at hpv
      obtain ⟨ad, k, _, e⟩ := hpv
      simp only [resSem]
      rw [e] at hv ⊢
      exact hv
    · cases h

theorem VR_tv {ρ : Env} {x : AV} {v : Value} (h : VR ρ x v) {t : Bool × List CV} (ht : x.tv = some t) : TV ρ t v := by
  cases x with
  | one c => simp only [AV.tv] at ht; injection ht with ht; subst ht; exact h
  | agg cs => simp only [AV.tv] at ht; injection ht with ht; subst ht; exact h
  | tup ts => cases ht

theorem run_resTv {ρ : Env} {a : Act} {w : World} (hr : Rep ρ nt tm mem a w) : ∀ {rs : List ResultVar} {ts : List (Bool × List CV)}, resTv P tm mem rs = some ts →
    ∃ vs, (rs.mapM (resSem a.tmps)).run P w = .ok vs w ∧ All2 (TV ρ) ts vs
  | [], ts, h => by simp [resTv] at h; subst h; exact ⟨[], by simp, trivial⟩
  | r :: rs, ts, h => by
    simp only [resTv] at h
    split at h
    · rename_i t ts' h1 h2
      injection h with h; subst h
      simp only [Option.bind_eq_some_iff] at h1
      obtain ⟨x, hx, ht⟩ := h1
      obtain ⟨v, hv, hvr⟩ := run_resOne hr hx
      obtain ⟨vs, hvs, hall⟩ := run_resTv hr h2
      refine ⟨v :: vs, ?_, VR_tv hvr ht, hall⟩
      simp only [List.mapM_cons, Sem.run_bind, hv, Result.andThen_ok, hvs, Sem.run_pure]
    · cases h

theorem resTv_len : ∀ {rs : List ResultVar} {ts : List (Bool × List CV)}, resTv P tm mem rs = some ts → ts.length = rs.length
  | [], ts, h => by simp [resTv] at h; subst h; rfl
  | r :: rs, ts, h => by
    simp only [resTv] at h
    split at h
    · rename_i t ts' h1 h2
      injection h with h; subst h
      simp [resTv_len h2]
    · cases h

theorem run_resA {ρ : Env} {a : Act} {w : World} (hr : Rep ρ nt tm mem a w) {fn : Func} {x : AV} (h : resA P fn.results.toList tm mem = some x) : ∃ v, (results fn a.tmps).run P w = .ok v w ∧ VR ρ x v := by
  have hm : ∀ vs : List Value, (fn.results.toList.mapM (resSem a.tmps)).run P w = .ok vs w → (results fn a.tmps).run P w = .ok (if h : vs.toArray.size = 1 then vs.toArray[0] else .tuple vs.toArray) w := by
    intro vs hvs
    rw [results_eq]
    generalize hl : fn.results.toList = l at hvs
    have hl' : fn.results = l.toArray := by rw [← hl]
    rw [hl', List.mapM_toArray]
    simp only [Sem.run_bind, Sem.run_map, hvs, Result.andThen_ok, Sem.run_pure]
  unfold resA at h
  split at h
  · rename_i r hrs
    obtain ⟨v, hv, hvr⟩ := run_resOne hr h
    refine ⟨v, ?_, hvr⟩
    have := hm [v] (by rw [hrs]; simp only [List.mapM_cons, List.mapM_nil, Sem.run_bind, hv, Result.andThen_ok, Sem.run_pure])
    rw [this]
    simp
  · rename_i rs hne
    simp only [Option.map_eq_some_iff] at h
    obtain ⟨ts, hts, rfl⟩ := h
    obtain ⟨vs, hvs, hall⟩ := run_resTv hr hts
    refine ⟨.tuple vs.toArray, ?_, vs.toArray, rfl, by simpa using hall⟩
    rw [hm vs hvs, dif_neg]
    intro h2
    simp only [List.size_toArray] at h2
    rw [← hall.length, resTv_len hts] at h2
    obtain ⟨r, hr1⟩ := List.length_eq_one_iff.1 h2
    exact hne r hr1

def enterTm : Nat → List AV → Tm
  | _, [] => []
  | i, x :: xs => (i, x) :: enterTm (i + 1) xs

theorem enterTm_get {ρ : Env} : ∀ (xs : List AV) (vs rest : List Value) (i : Nat), All2 (VR ρ) xs vs → ∀ j, VR ρ (Tm.get (enterTm i xs) (i + j)) ((vs ++ rest)[j]?.getD undef)
  | [], [], rest, i, _, j => trivial
  | x :: xs, v :: vs, rest, i, h, j => by
    cases j with
    | zero => simpa [enterTm, Tm.get] using h.1
    | succ j =>
      have := enterTm_get xs vs rest (i + 1) h.2 j
      simp only [enterTm, Tm.get]
      rw [if_neg (by omega)]
      simpa [Nat.add_assoc, Nat.add_comm 1 j] using this
  | [], _ :: _, _, _, h, _ => h.elim
  | _ :: _, [], _, _, h, _ => h.elim

/-- A FUNCTION's CONTRACT, OUT OF ITS BODY. -/
theorem Ctr.of_body {f : FuncId} {fn : Func} {c : Code} {args : List AV} {ret : AV} (hf : P.funcs[f]? = some fn) (hb : fn.body = some c) (hname : (fn.name == "runtime.NumGoroutine") = false)
    (h : MWf mem.length mem → AW P fn.ntmps c (enterTm 0 args) mem (fun ex tm' m' => (ex = .normal ∨ ex = .ret) ∧ ∃ x, resA P fn.results.toList tm' m' = some x ∧ Hands mem.length x m' ret mem')) : Ctr P f args mem ret mem' := by
  refine fun ρ w vs hm hargs => .inl ⟨⟨fn, hf, hname, by rw [hb]; rfl⟩, ?_⟩
  refine calls_of_wp hf hb ?_
  have hrep : Rep ρ fn.ntmps (enterTm 0 args) mem { tmps := vs.toArray ++ Array.replicate (fn.ntmps - vs.toArray.size) undef, defers := [] } w := by
    refine ⟨by simp; omega, fun i => ?_, hm⟩
    have := enterTm_get args vs (List.replicate (fn.ntmps - vs.length) undef) 0 hargs i
    simp only [Nat.zero_add] at this
    have e : (vs.toArray ++ Array.replicate (fn.ntmps - vs.toArray.size) undef).getD i undef = (vs ++ List.replicate (fn.ntmps - vs.length) undef)[i]?.getD undef := by
      rw [Array.getD_eq_getD_getElem?, ← Array.getElem?_toList]
      simp
    rw [← e] at this
    exact this
  refine wp_mono (h hm.wf ρ _ w hrep) ?_
  rintro ex a' w' ⟨ρ', tm', m', hr', hs, hd, hex, x, hres, hands⟩
  obtain ⟨v, hv, hvr⟩ := run_resA hr' hres
  obtain ⟨ρ2, h1, h2, h3⟩ := hands ρ' v w' hvr hr'.mem
  have hpost : a'.defers = [] ∧ ∃ v, (results fn a'.tmps).run P w' = .ok v w' ∧ ∃ v_1 ρ', Ending.returned v = Ending.returned v_1 ∧ VR ρ' ret v_1 ∧ RepM ρ' mem' w' ∧ Step mem ρ w mem' ρ' w' :=
    ⟨hd, v, hv, v, ρ2, rfl, h1, h2, h3 _ _ _ (Nat.le_refl _) hs⟩
  rcases hex with rfl | rfl
  · exact hpost
  · exact hpost

end
end Go.Eng
