/- Walks and facts of this seat's program over abstract states, printed by programs of mine; no conditions but those that each theorem names. -/
import Derived.Test.YtdeacicnfglhdaaGreatDoorM1
import Derived.StillTail
import Derived.Carry
import Derived.ChangeSame
import Derived.RowKit
set_option linter.unusedVariables false
set_option linter.unusedSimpArgs false
namespace Go.Eng
open Go
def SV.below (L : Nat) : SV → Bool
 | .sl r _ _ _ => decide (r < L)
 | _ => true
def CV.below (L : Nat) : CV → Bool
 | .ptr r _ _ => decide (r < L)
 | .sl r _ _ _ => decide (r < L)
 | .view r _ _ _ => decide (r < L)
 | .fn _ cs => cs.all fun c => decide (c.1 < L)
 | .mp r _ => decide (r < L)
 | .bm _ cs => cs.all (SV.below L)
 | _ => true
def AV.below (L : Nat) : AV → Bool
 | .one c => c.below L
 | .agg cs => cs.all (CV.below L)
 | .tup ts => ts.all fun t => t.2.all (CV.below L)
def BK.below (L : Nat) : BK → Bool
 | .map _ _ _ es => es.all fun e => e.2.1.all (CV.below L) && e.2.2.all (CV.below L)
 | .iter rm _ _ _ => decide (rm < L)
 | _ => true
def Blk.below (L : Nat) (b : Blk) : Bool := b.kind.below L && b.cells.all (CV.below L)
theorem Blk.below_cells {L : Nat} {b : Blk} (h : b.below L = true) : b.cells.all (CV.below L) = true := by
 simp only [Blk.below, Bool.and_eq_true] at h; exact h.2
theorem Blk.below_kind {L : Nat} {b : Blk} (h : b.below L = true) : b.kind.below L = true := by
 simp only [Blk.below, Bool.and_eq_true] at h; exact h.1
def MWf (L : Nat) (m : AMem) : Prop := ∀ b, b ∈ m → b.below L = true
def Env.upto (L : Nat) (ρ : Env) : Env := fun r v => if r < L then ρ r v else none
theorem SVR.to {ρ ρ' : Env} {L : Nat} (hu : ∀ r v x, r < L → ρ r v = some x → ρ' r v = some x) : ∀ {cs : List SV} {vs : List Value}, All2 (SVR ρ) cs vs → cs.all (SV.below L) = true → All2 (SVR ρ') cs vs
 | [], [], _, _ => trivial
 | s :: cs, v :: vs, h, hb => by
  simp only [List.all_cons, Bool.and_eq_true] at hb
  refine ⟨?_, SVR.to hu h.2 hb.2⟩
  have h1 := h.1
  cases s with
  | int k n => exact h1
  | nils => exact h1
  | sl r ver off n =>
   obtain ⟨A, c0, B, c, h1, h2⟩ := h1
   exact ⟨A, c0, B, c, hu _ _ _ (by simpa [SV.below] using hb.1) h1, h2⟩
 | [], _ :: _, h, _ => h.elim
 | _ :: _, [], h, _ => h.elim
theorem SVR.below_of {ρ : Env} {L : Nat} (hd : ∀ r v, L ≤ r → ρ r v = none) : ∀ {cs : List SV} {vs : List Value}, All2 (SVR ρ) cs vs → cs.all (SV.below L) = true
 | [], [], _ => rfl
 | s :: cs, v :: vs, h => by
  simp only [List.all_cons, Bool.and_eq_true]
  refine ⟨?_, SVR.below_of hd h.2⟩
  have h1 := h.1
  cases s with
  | int k n => rfl
  | nils => rfl
  | sl r ver off n =>
   obtain ⟨A, c0, B, c, h1, h2⟩ := h1
   simp only [SV.below, decide_eq_true_eq]
   rcases Nat.lt_or_ge r L with h | h
   ·exact h
   ·rw [hd r _ h] at h1; cases h1
 | [], _ :: _, h => h.elim
 | _ :: _, [], h => h.elim
theorem VC.upto {ρ : Env} {L : Nat} : ∀ {c : CV} {v : Value}, VC ρ c v → c.below L = true → VC (ρ.upto L) c v
 | .bool _, _, hv, _ => hv
 | .int _ _, _, hv, _ => hv
 | .str _, _, hv, _ => hv
 | .ptr r _ _, _, ⟨a, k, h1, h2⟩, hb => ⟨a, k, by simp [CV.below] at hb; simpa [Env.upto, hb] using h1, h2⟩
 | .nilp, _, hv, _ => hv
 | .sl r _ _ _, _, ⟨A, c0, B, c, h1, h2⟩, hb => ⟨A, c0, B, c, by simp [CV.below] at hb; simpa [Env.upto, hb] using h1, h2⟩
 | .view r _ _ _, _, ⟨A, c0, B, c, h1, h2⟩, hb => ⟨A, c0, B, c, by simp [CV.below] at hb; simpa [Env.upto, hb] using h1, h2⟩
 | .nils, _, hv, _ => hv
 | .fn _ cs, _, ⟨vs, h1, h2⟩, hb => ⟨vs, h1, by
   simp only [CV.below] at hb
   generalize hl : vs.toList = l at h2
   clear h1 hl
   induction cs generalizing l with
   | nil => cases l with
    | nil => trivial
    | cons => exact h2.elim
   | cons c cs ih =>
    cases l with
    | nil => exact h2.elim
    | cons x l =>
     simp only [List.all_cons, Bool.and_eq_true, decide_eq_true_eq] at hb
     obtain ⟨a, k, h3, h4⟩ := h2.1
     exact ⟨⟨a, k, by simpa [Env.upto, hb.1] using h3, h4⟩, ih hb.2 l h2.2⟩⟩
 | .nilf, _, hv, _ => hv
 | .nili, _, hv, _ => hv
 | .und, _, hv, _ => hv
 | .junk, _, _, _ => trivial
 | .mp r _, _, ⟨n, k, h1, h2⟩, hb => ⟨n, k, by simp [CV.below] at hb; simpa [Env.upto, hb] using h1, h2⟩
 | .nilm, _, hv, _ => hv
 | .gp _ _, _, hv, _ => hv
 | .ifj _, _, hv, _ => hv
 | .bm _ cs, _, ⟨vs, h1, h2⟩, hb => ⟨vs, h1, SVR.to (fun r v x hr hx => by simpa [Env.upto, hr] using hx) h2 hb⟩
theorem All2.upto {ρ : Env} {L : Nat} : ∀ {cs : List CV} {vs : List Value}, All2 (VC ρ) cs vs → cs.all (CV.below L) = true → All2 (VC (ρ.upto L)) cs vs
 | [], [], _, _ => trivial
 | c :: cs, v :: vs, h, hb => by
  simp only [List.all_cons, Bool.and_eq_true] at hb
  exact ⟨h.1.upto hb.1, All2.upto h.2 hb.2⟩
 | [], _ :: _, h, _ => h.elim
 | _ :: _, [], h, _ => h.elim
theorem VR.upto {ρ : Env} {L : Nat} {x : AV} {v : Value} (h : VR ρ x v) (hb : x.below L = true) : VR (ρ.upto L) x v := by
 cases x with
 | one c => exact VC.upto h hb
 | agg cs => obtain ⟨vs, h1, h2⟩ := h; exact ⟨vs, h1, h2.upto hb⟩
 | tup ts =>
  obtain ⟨vs, h1, h2⟩ := h
  refine ⟨vs, h1, ?_⟩
  simp only [AV.below] at hb
  generalize hl : vs.toList = l at h2
  clear h1 hl
  induction ts generalizing l with
  | nil => cases l with
   | nil => trivial
   | cons => exact h2.elim
  | cons t ts ih =>
   cases l with
   | nil => exact h2.elim
   | cons x l =>
    simp only [List.all_cons, Bool.and_eq_true] at hb
    refine ⟨?_, ih hb.2 l h2.2⟩
    obtain ⟨b, cs⟩ := t
    have h3 := h2.1
    cases b with
    | true => obtain ⟨us, h4, h5⟩ := h3; exact ⟨us, h4, h5.upto hb.1⟩
    | false =>
     match cs, h3, hb.1 with
     | [], _, _ => trivial
     | [c], h3, hb => exact VC.upto h3 (by simpa using hb)
     | _ :: _ :: _, _, _ => trivial
theorem VC.below_of {ρ : Env} {L : Nat} (hd : ∀ r v, L ≤ r → ρ r v = none) : ∀ {c : CV} {v : Value}, VC ρ c v → c.below L = true
 | .bool _, _, _ => rfl
 | .int _ _, _, _ => rfl
 | .str _, _, _ => rfl
 | .ptr r _ _, _, ⟨a, k, h1, h2⟩ => by
  simp only [CV.below, decide_eq_true_eq]
  rcases Nat.lt_or_ge r L with h | h
  ·exact h
  ·rw [hd r _ h] at h1; cases h1
 | .nilp, _, _ => rfl
 | .sl r _ _ _, _, ⟨A, c0, B, c, h1, h2⟩ => by
  simp only [CV.below, decide_eq_true_eq]
  rcases Nat.lt_or_ge r L with h | h
  ·exact h
  ·rw [hd r _ h] at h1; cases h1
 | .view r _ _ _, _, ⟨A, c0, B, c, h1, h2⟩ => by
  simp only [CV.below, decide_eq_true_eq]
  rcases Nat.lt_or_ge r L with h | h
  ·exact h
  ·rw [hd r _ h] at h1; cases h1
 | .nils, _, _ => rfl
 | .fn _ cs, _, ⟨vs, h1, h2⟩ => by
  simp only [CV.below]
  generalize hl : vs.toList = l at h2
  clear h1 hl
  induction cs generalizing l with
  | nil => rfl
  | cons c cs ih =>
   cases l with
   | nil => exact h2.elim
   | cons x l =>
    simp only [List.all_cons, Bool.and_eq_true, decide_eq_true_eq]
    refine ⟨?_, ih l h2.2⟩
    obtain ⟨a, k, h3, _⟩ := h2.1
    rcases Nat.lt_or_ge c.1 L with h | h
    ·exact h
    ·rw [hd _ _ h] at h3; cases h3
 | .nilf, _, _ => rfl
 | .nili, _, _ => rfl
 | .und, _, _ => rfl
 | .junk, _, _ => rfl
 | .mp r _, _, ⟨n, k, h1, h2⟩ => by
  simp only [CV.below, decide_eq_true_eq]
  rcases Nat.lt_or_ge r L with h | h
  ·exact h
  ·rw [hd r _ h] at h1; cases h1
 | .nilm, _, _ => rfl
 | .gp _ _, _, _ => rfl
 | .ifj _, _, _ => rfl
 | .bm _ _, _, ⟨vs, h1, h2⟩ => SVR.below_of hd h2
theorem All2.below_of {ρ : Env} {L : Nat} (hd : ∀ r v, L ≤ r → ρ r v = none) : ∀ {cs : List CV} {vs : List Value}, All2 (VC ρ) cs vs → cs.all (CV.below L) = true
 | [], [], _ => rfl
 | c :: cs, v :: vs, h => by
  simp only [List.all_cons, Bool.and_eq_true]
  exact ⟨h.1.below_of hd, All2.below_of hd h.2⟩
 | [], _ :: _, h => h.elim
 | _ :: _, [], h => h.elim
theorem TV.upto {ρ : Env} {L : Nat} {b : Bool} {cs : List CV} {v : Value} (h : TV ρ (b, cs) v) (hb : cs.all (CV.below L) = true) : TV (ρ.upto L) (b, cs) v := by
 cases b with
 | true => obtain ⟨vs, h1, h2⟩ := h; exact ⟨vs, h1, h2.upto hb⟩
 | false =>
  match cs, h with
  | [], _ => trivial
  | [c], h => simp only [List.all_cons, List.all_nil, Bool.and_true] at hb; exact VC.upto h hb
  | _ :: _ :: _, _ => trivial
theorem TV.below_of {ρ : Env} {L : Nat} (hd : ∀ r v, L ≤ r → ρ r v = none) {b : Bool} {cs : List CV} {v : Value} (h : TV ρ (b, cs) v) (hl : (b || cs.length == 1) = true) : cs.all (CV.below L) = true := by
 cases b with
 | true => obtain ⟨vs, h1, h2⟩ := h; exact h2.below_of hd
 | false =>
  match cs, h, hl with
  | [c], h, _ => simp only [List.all_cons, List.all_nil, Bool.and_true]; exact VC.below_of hd h
  | [], _, hl => simp at hl
  | _ :: _ :: _, _, hl => simp at hl
theorem RepM.wf {ρ : Env} {mem : AMem} {w : World} (h : RepM ρ mem w) : MWf mem.length mem := fun b hb => by
 obtain ⟨r, hr⟩ := List.getElem?_of_mem hb
 have hbk := h.blk r b hr
 obtain ⟨kind, ty, ver, esz, cells⟩ := b
 cases kind with
 | fix => obtain ⟨n, c, k, h1, h2, h3, _⟩ := hbk; exact h3.below_of h.dom
 | grow =>
  rcases hbk with ⟨h1, h2⟩ | ⟨n, c, cap, xs, sp, h1, h2, h3, hcm, h4, h5⟩
  ·simp only at h1; subst h1; rfl
  ·exact h5.below_of h.dom
 | ro =>
  obtain ⟨A, k, h1, h2⟩ := hbk
  simp only [Blk.below, BK.below, Bool.true_and]
  rw [List.all_eq_true]
  intro c hc
  obtain ⟨a, ha, hlt, _, hcs⟩ := h2 (by rintro rfl; cases hc)
  obtain ⟨i, hi⟩ := List.getElem?_of_mem hc
  obtain ⟨v, hv, hr⟩ := hcs i c hi
  exact hr.below_of h.dom
 | map ka va clock es =>
  obtain ⟨n, o, k, h1, h2, h3, h4⟩ := hbk
  simp only at h4
  subst h4
  simp only [Blk.below, BK.below, List.all_nil, Bool.and_true, List.all_eq_true, Bool.and_eq_true]
  intro e he
  obtain ⟨i, hi⟩ := List.getElem?_of_mem he
  obtain ⟨x, hx, _, g2, g3, g4, g5⟩ := h3.get hi
  exact ⟨List.all_eq_true.1 (g2.below_of h.dom g4), List.all_eq_true.1 (g3.below_of h.dom g5)⟩
 | iter rm since seen last =>
  obtain ⟨n, N, k, k', h1, h2, h3, h4⟩ := hbk
  simp only at h4
  subst h4
  simp only [Blk.below, BK.below, List.all_nil, Bool.and_true, decide_eq_true_eq]
  rcases Nat.lt_or_ge rm mem.length with hl | hl
  ·exact hl
  ·rw [h.dom _ _ hl] at h2; cases h2
theorem BlkR.upto {ρ : Env} {L : Nat} {w : World} {r : Nat} {b : Blk} (hb : BlkR ρ w r b) (hr : r < L) (hwf : b.below L = true) : BlkR (ρ.upto L) w r b := by
 have hu : ∀ v, ρ.upto L r v = ρ r v := fun v => by simp [Env.upto, hr]
 obtain ⟨kind, ty, ver, esz, cells⟩ := b
 have hwk := Blk.below_kind hwf
 replace hwf := Blk.below_cells hwf
 simp only at hwf
 cases kind with
 | fix => obtain ⟨n, c, k, h1, h2, h3, hk⟩ := hb; exact ⟨n, c, k, by rw [hu]; exact h1, h2, h3.upto hwf, hk⟩
 | grow =>
  rcases hb with ⟨h1, h2⟩ | ⟨n, c, cap, xs, sp, h1, h2, h3, hcm, h4, h5⟩
  ·exact .inl ⟨h1, by rw [hu]; exact h2⟩
  ·exact .inr ⟨n, c, cap, xs, sp, by rw [hu]; exact h1, h2, h3, hcm, h4, h5.upto hwf⟩
 | ro =>
  obtain ⟨A, k, h1, h2⟩ := hb
  refine ⟨A, k, by rw [hu]; exact h1, fun hne => ?_⟩
  obtain ⟨a, ha, hlt, hgl, hc⟩ := h2 hne
  exact ⟨a, ha, hlt, hgl, fun i c hi => by
   obtain ⟨v, hv, hr⟩ := hc i c hi
   exact ⟨v, hv, hr.upto (List.all_eq_true.1 hwf c (List.mem_of_getElem? hi))⟩⟩
 | map ka va clock es =>
  obtain ⟨n, o, k, h1, h2, h3, h4⟩ := hb
  refine ⟨n, o, k, by rw [hu]; exact h1, h2, ?_, h4⟩
  simp only [BK.below, List.all_eq_true, Bool.and_eq_true] at hwk
  refine All2.of_get h3.length fun i e x he hx => ?_
  obtain ⟨x', hx', g1, g2, g3, g4⟩ := h3.get he
  rw [hx] at hx'; injection hx' with hx'; subst hx'
  have := hwk e (List.mem_of_getElem? he)
  exact ⟨g1, g2.upto (List.all_eq_true.2 this.1), g3.upto (List.all_eq_true.2 this.2), g4⟩
 | iter rm since seen last =>
  obtain ⟨n, N, k, k', h1, h2, h3, h4⟩ := hb
  simp only [BK.below, decide_eq_true_eq] at hwk
  exact ⟨n, N, k, k', by rw [hu]; exact h1, by simpa [Env.upto, hwk] using h2, h3, h4⟩
section
variable {P : Program} {nt : Nat} {tm tm' : Tm} {mem mem' : AMem} {Q : Exit → Tm → AMem → Prop}
theorem Weak.trans {tm'' : Tm} {mem'' : AMem} (h : Weak nt tm mem tm' mem') (g : Weak nt tm' mem' tm'' mem'') (hl : mem''.length ≤ mem'.length) : Weak nt tm mem tm'' mem'' := fun ρ a w hr => by
 obtain ⟨ρ1, hr1, hs1⟩ := h ρ a w hr
 obtain ⟨ρ2, hr2, hs2⟩ := g ρ1 a w hr1
 exact ⟨ρ2, hr2, fun m0 ρ0 w0 hl0 hs => hs2 m0 ρ0 w0 hl0 (hs1 m0 ρ0 w0 (Nat.le_trans hl0 hl) hs)⟩
def Keeps (tm : Tm) : List (Nat × AV) → Prop
 | [] => True
 | (j, v) :: r => Tm.get tm j = v ∧ Keeps tm r
theorem Keeps.get {tm : Tm} : ∀ {tm' : List (Nat × AV)}, Keeps tm tm' → ∀ i, Tm.get tm' i = Tm.get tm i ∨ Tm.get tm' i = .one .junk
 | [], _, i => .inr rfl
 | (j, v) :: r, h, i => by
  by_cases hi : i = j
  ·subst hi; simp [Tm.get, h.1]
  ·simp only [Tm.get, if_neg hi]; exact Keeps.get h.2 i
theorem Weak.keep (h : Keeps tm tm') : Weak nt tm mem tm' mem := fun ρ a w hr =>
 ⟨ρ, ⟨hr.size, fun i => by
  rcases h.get i with e | e
  ·rw [e]; exact hr.tm i
  ·rw [e]; trivial, hr.mem⟩, fun _ _ _ _ s => s⟩
def TmBelow (L : Nat) (tm : Tm) : Prop := ∀ p, p ∈ tm → p.2.below L = true
theorem TmBelow.get {L : Nat} : ∀ {tm : List (Nat × AV)}, TmBelow L tm → ∀ i, (Tm.get tm i).below L = true
 | [], _, i => rfl
 | (j, v) :: r, h, i => by
  by_cases hi : i = j
  ·subst hi; simp only [Tm.get, if_true]; exact h _ List.mem_cons_self
  ·simp only [Tm.get, if_neg hi]; exact TmBelow.get (fun p hp => h p (List.mem_cons_of_mem _ hp)) i
theorem Weak.trunc {m1 extra : AMem} (he : mem = m1 ++ extra) (ht : TmBelow m1.length tm) (hw : MWf m1.length m1) : Weak nt tm mem tm m1 := by
 subst he
 intro ρ a w hr
 have hget : ∀ {r : Nat} {b : Blk}, m1[r]? = some b → r < m1.length ∧ (m1 ++ extra)[r]? = some b := fun {r b} hb => by
  have hl := (List.getElem?_eq_some_iff.1 hb).1
  exact ⟨hl, by rw [List.getElem?_append_left hl]; exact hb⟩
 have hu : ∀ {r : Nat} (v : Nat), r < m1.length → ρ.upto m1.length r v = ρ r v := fun {r} v h => by simp [Env.upto, h]
 refine ⟨ρ.upto m1.length, ⟨hr.size, fun i => (hr.tm i).upto (ht.get i), ⟨?_, ?_, ?_, ?_⟩⟩, ?_⟩
 ·intro r b hb
  obtain ⟨h1, h2⟩ := hget hb
  exact (hr.mem.blk r b h2).upto h1 (hw b (List.mem_of_getElem? hb))
 ·intro r v h; simp only [Env.upto]; rw [if_neg (by omega)]
 ·intro r b v hb hv
  obtain ⟨h1, h2⟩ := hget hb
  rw [hu v h1]; exact hr.mem.domv r b v h2 hv
 ·intro r s b c hb hc hrs hk hne x y k l hx hy
  obtain ⟨h1, h2⟩ := hget hb
  obtain ⟨h3, h4⟩ := hget hc
  rw [hu _ h1] at hx; rw [hu _ h3] at hy
  exact hr.mem.sep r s b c h2 h4 hrs hk hne x y k l hx hy
 ·intro m0 ρ0 w0 hl hs
  refine ⟨hs.os, hs.tape, hs.output, hs.size, hl, fun r h v x hx => ?_, ?_, fun r b hb hro => hs.ro r b (hget hb).2 hro, hs.frame, ?_⟩
  ·rw [hu v (by omega)]; exact hs.ext r h v x hx
  ·intro r b b' hb hb'
   exact hs.kind r b b' hb (hget hb').2
  ·intro r b x k hb hk hx
   obtain ⟨h1, h2⟩ := hget hb
   rw [hu _ h1] at hx
   exact hs.fresh r b x k h2 hk hx
def renIdx (r ver : Nat) : List (Nat × Nat) → Option Nat
 | [] => none
 | (k, v) :: ks => if r = k ∧ ver = v then some 0 else (renIdx r ver ks).map (· + 1)
theorem renIdx_get {r ver : Nat} : ∀ {ks : List (Nat × Nat)} {i : Nat}, renIdx r ver ks = some i → ks[i]? = some (r, ver)
 | [], i, h => by simp [renIdx] at h
 | (k, v) :: ks, i, h => by
  simp only [renIdx] at h
  split at h
  ·rename_i hc; injection h with h; subst h; simp [hc.1, hc.2]
  ·simp only [Option.map_eq_some_iff] at h
   obtain ⟨j, hj, rfl⟩ := h
   simpa using renIdx_get hj
def renC (L : Nat) (ks : List (Nat × Nat)) : CV → Option CV
 | .ptr r ver off => if r < L then some (.ptr r ver off) else (renIdx r ver ks).map fun i => .ptr (L + i) 0 off
 | .sl r ver off n => if r < L then some (.sl r ver off n) else (renIdx r ver ks).map fun i => .sl (L + i) 0 off n
 | .view r ver off n => if r < L then some (.view r ver off n) else (renIdx r ver ks).map fun i => .view (L + i) 0 off n
 | .fn f cs => if (cs.all fun c => decide (c.1 < L)) = true then some (.fn f cs) else none
 | .mp r ver => if r < L then some (.mp r ver) else (renIdx r ver ks).map fun i => .mp (L + i) 0
 | .bm f cs => if cs.all (SV.below L) = true then some (.bm f cs) else none
 | c => some c
def renL (L : Nat) (ks : List (Nat × Nat)) : List CV → Option (List CV)
 | [] => some []
 | c :: cs => match renC L ks c, renL L ks cs with
  | some c', some cs' => some (c' :: cs')
  | _, _ => none
def renT (L : Nat) (ks : List (Nat × Nat)) : List (Bool × List CV) → Option (List (Bool × List CV))
 | [] => some []
 | (b, cs) :: ts => match renL L ks cs, renT L ks ts with
  | some cs', some ts' => some ((b, cs') :: ts')
  | _, _ => none
def renV (L : Nat) (ks : List (Nat × Nat)) : AV → Option AV
 | .one c => (renC L ks c).map .one
 | .agg cs => (renL L ks cs).map .agg
 | .tup ts => (renT L ks ts).map .tup
def Env.pick (L : Nat) (ks : List (Nat × Nat)) (ρ : Env) : Env := fun r v => if r < L then ρ r v else if v = 0 then (ks[r - L]?).bind fun k => ρ k.1 k.2 else none
theorem VC.pick {ρ : Env} {L : Nat} {ks : List (Nat × Nat)} {c c' : CV} {v : Value} (h : VC ρ c v) (hc : renC L ks c = some c') : VC (ρ.pick L ks) c' v := by
 have hup : ∀ {r ver : Nat} {x : Option Addr × Nat}, ρ r ver = some x → r < L → ρ.pick L ks r ver = some x := fun {r ver x} h hr => by simp [Env.pick, hr, h]
 have hix : ∀ {r ver i : Nat} {x : Option Addr × Nat}, ρ r ver = some x → renIdx r ver ks = some i → ρ.pick L ks (L + i) 0 = some x := fun {r ver i x} h hr => by
  have hn : ¬ (L + i < L) := by omega
  simp [Env.pick, renIdx_get hr, h, hn]
 cases c with
 | ptr r ver off =>
  obtain ⟨a, k, h1, h2⟩ := h
  simp only [renC] at hc
  split at hc
  ·rename_i hr; injection hc with hc; subst hc; exact ⟨a, k, hup h1 hr, h2⟩
  ·simp only [Option.map_eq_some_iff] at hc
   obtain ⟨i, hi, rfl⟩ := hc
   exact ⟨a, k, hix h1 hi, h2⟩
 | sl r ver off n =>
  obtain ⟨A, c0, B, c, h1, h2⟩ := h
  simp only [renC] at hc
  split at hc
  ·rename_i hr; injection hc with hc; subst hc; exact ⟨A, c0, B, c, hup h1 hr, h2⟩
  ·simp only [Option.map_eq_some_iff] at hc
   obtain ⟨i, hi, rfl⟩ := hc
   exact ⟨A, c0, B, c, hix h1 hi, h2⟩
 | view r ver off n =>
  obtain ⟨A, c0, B, c, h1, h2⟩ := h
  simp only [renC] at hc
  split at hc
  ·rename_i hr; injection hc with hc; subst hc; exact ⟨A, c0, B, c, hup h1 hr, h2⟩
  ·simp only [Option.map_eq_some_iff] at hc
   obtain ⟨i, hi, rfl⟩ := hc
   exact ⟨A, c0, B, c, hix h1 hi, h2⟩
 | fn f cs =>
  simp only [renC] at hc
  split at hc
  ·rename_i hb
   injection hc with hc; subst hc
   obtain ⟨vs, h1, h2⟩ := h
   refine ⟨vs, h1, ?_⟩
   generalize hl : vs.toList = l at h2
   clear h1 hl
   induction cs generalizing l with
   | nil => cases l with
    | nil => trivial
    | cons => exact h2.elim
   | cons c cs ih =>
    cases l with
    | nil => exact h2.elim
    | cons x l =>
     simp only [List.all_cons, Bool.and_eq_true, decide_eq_true_eq] at hb
     obtain ⟨a, k, h3, h4⟩ := h2.1
     exact ⟨⟨a, k, hup h3 hb.1, h4⟩, ih hb.2 l h2.2⟩
  ·cases hc
 | bm f cs =>
  simp only [renC] at hc
  split at hc
  ·rename_i hb
   injection hc with hc; subst hc
   obtain ⟨vs, h1, h2⟩ := h
   exact ⟨vs, h1, SVR.to (fun r v x hr hx => hup hx hr) h2 hb⟩
  ·cases hc
 | bool b => simp only [renC] at hc; injection hc with hc; subst hc; exact h
 | int k n => simp only [renC] at hc; injection hc with hc; subst hc; exact h
 | str s => simp only [renC] at hc; injection hc with hc; subst hc; exact h
 | nilp => simp only [renC] at hc; injection hc with hc; subst hc; exact h
 | nils => simp only [renC] at hc; injection hc with hc; subst hc; exact h
 | nilf => simp only [renC] at hc; injection hc with hc; subst hc; exact h
 | nili => simp only [renC] at hc; injection hc with hc; subst hc; exact h
 | und => simp only [renC] at hc; injection hc with hc; subst hc; exact h
 | junk => simp only [renC] at hc; injection hc with hc; subst hc; exact h
 | nilm => simp only [renC] at hc; injection hc with hc; subst hc; exact h
 | gp g off => simp only [renC] at hc; injection hc with hc; subst hc; exact h
 | ifj t => simp only [renC] at hc; injection hc with hc; subst hc; exact h
 | mp r ver =>
  obtain ⟨n, k, h1, h2⟩ := h
  simp only [renC] at hc
  split at hc
  ·rename_i hr; injection hc with hc; subst hc; exact ⟨n, k, hup h1 hr, h2⟩
  ·simp only [Option.map_eq_some_iff] at hc
   obtain ⟨i, hi, rfl⟩ := hc
   exact ⟨n, k, hix h1 hi, h2⟩
theorem All2.pick {ρ : Env} {L : Nat} {ks : List (Nat × Nat)} : ∀ {cs cs' : List CV} {vs : List Value}, All2 (VC ρ) cs vs → renL L ks cs = some cs' → All2 (VC (ρ.pick L ks)) cs' vs
 | [], cs', [], _, h => by simp [renL] at h; subst h; trivial
 | c :: cs, cs', v :: vs, h, hc => by
  simp only [renL] at hc
  split at hc
  ·rename_i c1 cs1 h1 h2
   injection hc with hc; subst hc
   exact ⟨h.1.pick h1, All2.pick h.2 h2⟩
  ·cases hc
 | [], _, _ :: _, h, _ => h.elim
 | _ :: _, _, [], h, _ => h.elim
theorem renL_single {L : Nat} {ks : List (Nat × Nat)} {c : CV} {cs' : List CV} (h : renL L ks [c] = some cs') : ∃ c', renC L ks c = some c' ∧ cs' = [c'] := by
 simp only [renL] at h
 split at h
 ·rename_i c1 cs1 h1 h2
  injection h with h; injection h2 with h2; subst h2
  exact ⟨c1, h1, h.symm⟩
 ·cases h
theorem renL_len {L : Nat} {ks : List (Nat × Nat)} : ∀ {cs cs' : List CV}, renL L ks cs = some cs' → cs'.length = cs.length
 | [], cs', h => by simp [renL] at h; subst h; rfl
 | c :: cs, cs', h => by
  simp only [renL] at h
  split at h
  ·rename_i c1 cs1 h1 h2
   injection h with h; subst h
   simp [renL_len h2]
  ·cases h
theorem VR.pick {ρ : Env} {L : Nat} {ks : List (Nat × Nat)} {x x' : AV} {v : Value} (h : VR ρ x v) (hc : renV L ks x = some x') : VR (ρ.pick L ks) x' v := by
 cases x with
 | one c =>
  simp only [renV, Option.map_eq_some_iff] at hc
  obtain ⟨c', hc', rfl⟩ := hc
  exact VC.pick h hc'
 | agg cs =>
  simp only [renV, Option.map_eq_some_iff] at hc
  obtain ⟨c', hc', rfl⟩ := hc
  obtain ⟨vs, h1, h2⟩ := h
  exact ⟨vs, h1, h2.pick hc'⟩
 | tup ts =>
  simp only [renV, Option.map_eq_some_iff] at hc
  obtain ⟨ts', hc', rfl⟩ := hc
  obtain ⟨vs, h1, h2⟩ := h
  refine ⟨vs, h1, ?_⟩
  generalize hl : vs.toList = l at h2
  clear h1 hl
  induction ts generalizing l ts' with
  | nil => simp [renT] at hc'; subst hc'; cases l with
   | nil => trivial
   | cons => exact h2.elim
  | cons t ts ih =>
   cases l with
   | nil => exact h2.elim
   | cons x l =>
    obtain ⟨b, cs⟩ := t
    simp only [renT] at hc'
    split at hc'
    ·rename_i cs1 ts1 h3 h4
     injection hc' with hc'; subst hc'
     refine ⟨?_, ih ts1 h4 l h2.2⟩
     have h5 := h2.1
     cases b with
     | true => obtain ⟨us, h6, h7⟩ := h5; exact ⟨us, h6, h7.pick h3⟩
     | false =>
      match cs, h5, h3 with
      | [], _, h3 => simp [renL] at h3; subst h3; trivial
      | [c], h5, h3 =>
       obtain ⟨c', h6, rfl⟩ := renL_single h3
       exact VC.pick h5 h6
      | c1 :: c2 :: cs, _, h3 =>
       have hl := renL_len h3
       match cs1, hl with
       | d1 :: d2 :: ds, _ => trivial
    ·cases hc'
def picks (m : AMem) : List (Nat × Nat) → Option (List Blk)
 | [] => some []
 | (r, v) :: ks => match m[r]?, picks m ks with
  | some b, some bs => if b.ver = v then some (⟨b.kind, b.ty, 0, b.esz, b.cells⟩ :: bs) else none
  | _, _ => none
theorem picks_get {m : AMem} : ∀ {ks : List (Nat × Nat)} {bs : List Blk}, picks m ks = some bs → ∀ {i : Nat} {b : Blk}, bs[i]? = some b → ∃ r v b0, ks[i]? = some (r, v) ∧ m[r]? = some b0 ∧ b0.ver = v ∧ b = ⟨b0.kind, b0.ty, 0, b0.esz, b0.cells⟩
 | [], bs, h, i, b, hb => by simp [picks] at h; subst h; simp at hb
 | (r, v) :: ks, bs, h, i, b, hb => by
  simp only [picks] at h
  split at h
  ·rename_i b1 bs1 h1 h2
   split at h
   ·rename_i hv
    injection h with h; subst h
    cases i with
    | zero => simp at hb; exact ⟨r, v, b1, rfl, h1, hv, hb.symm⟩
    | succ i => simp at hb; simpa using picks_get h2 hb
   ·cases h
  ·cases h
theorem picks_len {m : AMem} : ∀ {ks : List (Nat × Nat)} {bs : List Blk}, picks m ks = some bs → bs.length = ks.length
 | [], bs, h => by simp [picks] at h; subst h; rfl
 | (r, v) :: ks, bs, h => by
  simp only [picks] at h
  split at h
  ·rename_i b1 bs1 h1 h2
   split at h
   ·injection h with h; subst h; simp [picks_len h2]
   ·cases h
  ·cases h
def distinctFrom (L : Nat) : List (Nat × Nat) → Prop
 | [] => True
 | (r, _) :: ks => L ≤ r ∧ (∀ p, p ∈ ks → p.1 ≠ r) ∧ distinctFrom L ks
theorem distinct_ne {L : Nat} : ∀ {ks : List (Nat × Nat)}, distinctFrom L ks → ∀ {i j : Nat} {p q : Nat × Nat}, ks[i]? = some p → ks[j]? = some q → i ≠ j → p.1 ≠ q.1
 | [], _, i, j, p, q, hp, _, _ => by simp at hp
 | (r, v) :: ks, h, i, j, p, q, hp, hq, hij => by
  cases i with
  | zero => cases j with
   | zero => exact absurd rfl hij
   | succ j => simp at hp hq; subst hp; exact fun e => h.2.1 q (List.mem_of_getElem? hq) e.symm
  | succ i => cases j with
   | zero => simp at hp hq; subst hq; exact h.2.1 p (List.mem_of_getElem? hp)
   | succ j => simp at hp hq; exact distinct_ne h.2.2 hp hq (by omega)
theorem distinct_ge {L : Nat} : ∀ {ks : List (Nat × Nat)}, distinctFrom L ks → ∀ {i : Nat} {p : Nat × Nat}, ks[i]? = some p → L ≤ p.1
 | [], _, i, p, hp => by simp at hp
 | (r, v) :: ks, h, i, p, hp => by
  cases i with
  | zero => simp at hp; subst hp; exact h.1
  | succ i => simp at hp; exact distinct_ge h.2.2 hp
theorem BlkR.pick {ρ : Env} {L : Nat} {ks : List (Nat × Nat)} {w : World} {r r' : Nat} {b : Blk} {ver' : Nat} (hb : BlkR ρ w r b) (hwf : b.below L = true) (hr : ρ.pick L ks r' ver' = ρ r b.ver) (hv0 : b.kind = .ro → ver' = b.ver ∨ ver' = 0) :
  BlkR (ρ.pick L ks) w r' ⟨b.kind, b.ty, ver', b.esz, b.cells⟩ := by
 have hup : ∀ {c : CV} {v : Value}, c.below L = true → VC ρ c v → VC (ρ.pick L ks) c v := fun {c v} hc h => by
  refine h.pick (c' := c) ?_
  cases c <;> simp [CV.below] at hc <;> simp [renC, hc]
  ·exact fun a b c hm => hc a b c hm
  ·exact fun x hx => hc x hx
 have hall : ∀ {cs : List CV} {vs : List Value}, All2 (VC ρ) cs vs → cs.all (CV.below L) = true → All2 (VC (ρ.pick L ks)) cs vs := by
  intro cs
  induction cs with
  | nil => intro vs h _; cases vs with
   | nil => trivial
   | cons => exact h.elim
  | cons c cs ih =>
   intro vs h hb
   cases vs with
   | nil => exact h.elim
   | cons v vs =>
    simp only [List.all_cons, Bool.and_eq_true] at hb
    exact ⟨hup hb.1 h.1, ih h.2 hb.2⟩
 have htv : ∀ {b : Bool} {cs : List CV} {v : Value}, TV ρ (b, cs) v → cs.all (CV.below L) = true → TV (ρ.pick L ks) (b, cs) v := by
  intro b cs v h hb
  cases b with
  | true => obtain ⟨vs, h1, h2⟩ := h; exact ⟨vs, h1, hall h2 hb⟩
  | false =>
   match cs, h with
   | [], _ => trivial
   | [c], h => simp only [List.all_cons, List.all_nil, Bool.and_true] at hb; exact hup hb h
   | _ :: _ :: _, _ => trivial
 obtain ⟨kind, ty, ver, esz, cells⟩ := b
 have hwk := Blk.below_kind hwf
 replace hwf := Blk.below_cells hwf
 simp only at hwf
 cases kind with
 | fix => obtain ⟨n, c, k, h1, h2, h3, hk⟩ := hb; exact ⟨n, c, k, by rw [hr]; exact h1, h2, hall h3 hwf, hk⟩
 | grow =>
  rcases hb with ⟨h1, h2⟩ | ⟨n, c, cap, xs, sp, h1, h2, h3, hcm, h4, h5⟩
  ·exact .inl ⟨h1, by rw [hr]; exact h2⟩
  ·exact .inr ⟨n, c, cap, xs, sp, by rw [hr]; exact h1, h2, h3, hcm, h4, hall h5 hwf⟩
 | ro =>
  obtain ⟨A, k, h1, h2⟩ := hb
  refine ⟨A, k, by rw [hr]; exact h1, fun hne => ?_⟩
  obtain ⟨a, ha, hlt, hgl, hc⟩ := h2 hne
  exact ⟨a, ha, hlt, fun hz => by
   simp only at hz hgl ⊢
   rcases hv0 rfl with hvv | hvv
   ·simp only at hvv; rw [hvv] at hz ⊢; exact hgl hz
   ·omega, fun i c hi => by
   obtain ⟨v, hv, hr⟩ := hc i c hi
   exact ⟨v, hv, hup (List.all_eq_true.1 hwf c (List.mem_of_getElem? hi)) hr⟩⟩
 | map ka va clock es =>
  obtain ⟨n, o, k, h1, h2, h3, h4⟩ := hb
  refine ⟨n, o, k, by rw [hr]; exact h1, h2, ?_, h4⟩
  simp only [BK.below, List.all_eq_true, Bool.and_eq_true] at hwk
  refine All2.of_get h3.length fun i e x he hx => ?_
  obtain ⟨x', hx', g1, g2, g3, g4⟩ := h3.get he
  rw [hx] at hx'; injection hx' with hx'; subst hx'
  have := hwk e (List.mem_of_getElem? he)
  exact ⟨g1, htv g2 (List.all_eq_true.2 this.1), htv g3 (List.all_eq_true.2 this.2), g4⟩
 | iter rm since seen last =>
  obtain ⟨n, N, k, k', h1, h2, h3, h4⟩ := hb
  simp only [BK.below, decide_eq_true_eq] at hwk
  exact ⟨n, N, k, k', by rw [hr]; exact h1, by simp [Env.pick, hwk, h2], h3, h4⟩
def Hands (L : Nat) (x : AV) (mem : AMem) (ret : AV) (mem' : AMem) : Prop :=
 ∀ ρ v w, VR ρ x v → RepM ρ mem w → ∃ ρ', VR ρ' ret v ∧ RepM ρ' mem' w ∧ ∀ m0 ρ0 w0, m0.length ≤ L → Step m0 ρ0 w0 mem ρ w → Step m0 ρ0 w0 mem' ρ' w
theorem Hands.pick {x ret : AV} {m1 extra : AMem} (he : mem = m1 ++ extra) (ks : List (Nat × Nat)) {bs : List Blk} (hbs : picks mem ks = some bs) (hd : distinctFrom m1.length ks) (hx : renV m1.length ks x = some ret)
  (hw : MWf m1.length m1) (hwb : MWf m1.length bs) : Hands m1.length x mem ret (m1 ++ bs) := by
 intro ρ v w hv hm
 have hlen := picks_len hbs
 have hget : ∀ {r : Nat} {b : Blk}, (m1 ++ bs)[r]? = some b → ∃ s b0, mem[s]? = some b0 ∧ b.kind = b0.kind ∧ b.cells = b0.cells ∧ ρ.pick m1.length ks r b.ver = ρ s b0.ver ∧ (r < m1.length → s = r ∧ b = b0) ∧ (m1.length ≤ r → ∃ i, r = m1.length + i ∧ ks[i]? = some (s, b0.ver) ∧ b.ver = 0) ∧
   b = ⟨b0.kind, b0.ty, b.ver, b0.esz, b0.cells⟩ ∧ b0.below m1.length = true := by
  intro r b hb
  rcases Nat.lt_or_ge r m1.length with hr | hr
  ·rw [List.getElem?_append_left hr] at hb
   refine ⟨r, b, by rw [he, List.getElem?_append_left hr]; exact hb, rfl, rfl, by simp [Env.pick, hr], fun _ => ⟨rfl, rfl⟩, fun h => by omega, rfl, hw b (List.mem_of_getElem? hb)⟩
  ·rw [List.getElem?_append_right hr] at hb
   obtain ⟨s, v, b0, h1, h2, h3, h4⟩ := picks_get hbs hb
   have hwf := hwb b (List.mem_of_getElem? hb)
   subst h4
   refine ⟨s, b0, h2, rfl, rfl, ?_, fun h => by omega, fun _ => ⟨r - m1.length, by omega, by rw [h3]; exact h1, rfl⟩, rfl, hwf⟩
   have hnot : ¬ r < m1.length := by omega
   simp [Env.pick, hnot, h1, h3]
 have hinj : ∀ {r r' s : Nat} {b b' b0 b0' : Blk}, (m1 ++ bs)[r]? = some b → (m1 ++ bs)[r']? = some b' → r ≠ r' → True := fun _ _ _ => trivial
 refine ⟨ρ.pick m1.length ks, hv.pick hx, ⟨?_, ?_, ?_, ?_⟩, ?_⟩
 ·intro r b hb
  obtain ⟨s, b0, h1, h2, h3, h4, h5, h6, h7, h8⟩ := hget hb
  rw [h7]
  exact (hm.blk s b0 h1).pick h8 h4 (fun _ => by
   rcases Nat.lt_or_ge r m1.length with hr | hr
   ·exact .inl (by rw [(h5 hr).2])
   ·obtain ⟨_, _, _, h11⟩ := h6 hr; exact .inr h11)
 ·intro r v hr
  simp only [List.length_append] at hr
  simp only [Env.pick]
  rw [if_neg (by omega)]
  split
  ·rw [List.getElem?_eq_none (by omega)]; rfl
  ·rfl
 ·intro r b v hb hv
  obtain ⟨s, b0, h1, h2, h3, h4, h5, h6, h7, h8⟩ := hget hb
  rcases Nat.lt_or_ge r m1.length with hr | hr
  ·obtain ⟨e1, e2⟩ := h5 hr
   subst e1; subst e2
   simp only [Env.pick]
   rw [if_pos hr]
   exact hm.domv s b v h1 hv
  ·obtain ⟨i, h9, h10, h11⟩ := h6 hr
   simp only [Env.pick]
   rw [if_neg (by omega), if_neg (by omega)]
 ·intro r r' b b' hb hb' hrr hk hne x y k l hx hy
  obtain ⟨s, b0, h1, h2, h3, h4, h5, h6, h7, h8⟩ := hget hb
  obtain ⟨s', b0', h1', h2', h3', h4', h5', h6', h7', h8'⟩ := hget hb'
  rw [h4] at hx; rw [h4'] at hy
  have hss : s ≠ s' := by
   rcases Nat.lt_or_ge r m1.length with hr | hr <;> rcases Nat.lt_or_ge r' m1.length with hr' | hr'
   ·rw [(h5 hr).1, (h5' hr').1]; exact hrr
   ·obtain ⟨i, h9, h10, h11⟩ := h6' hr'
    have := distinct_ge hd h10
    have := (h5 hr).1
    simp only at *
    omega
   ·obtain ⟨i, h9, h10, h11⟩ := h6 hr
    have := distinct_ge hd h10
    have := (h5' hr').1
    simp only at *
    omega
   ·obtain ⟨i, h9, h10, h11⟩ := h6 hr
    obtain ⟨j, h9', h10', h11'⟩ := h6' hr'
    exact distinct_ne hd h10 h10' (fun e => hrr (by rw [h9, h9', e]))
  exact hm.sep s s' b0 b0' h1 h1' hss (by rw [← h2]; exact hk) (fun e => by rw [← h3']; exact hne (h2'.trans e)) x y k l hx hy
 ·intro m0 ρ0 w0 hl hs
  refine ⟨hs.os, hs.tape, hs.output, hs.size, by simp only [List.length_append]; omega, fun r h v x hx => ?_, ?_, ?_, hs.frame, ?_⟩
  ·have hr := hs.ext r h v x hx
   simp only [Env.pick]; rw [if_pos (by omega)]; exact hr
  ·intro r b b' hb hb'
   obtain ⟨s, b0, h1, h2, h3, h4, h5, h6, h7, h8⟩ := hget hb'
   have hr0 := (List.getElem?_eq_some_iff.1 hb).1
   obtain ⟨e1, e2⟩ := h5 (by omega)
   subst e1; subst e2
   exact hs.kind s b b' hb h1
  ·intro r b hb hro
   obtain ⟨s, b0, h1, h2, h3, h4, h5, h6, h7, h8⟩ := hget hb
   have h9 := hs.ro s b0 h1 (h2 ▸ hro)
   rcases Nat.lt_or_ge r m1.length with hr | hr
   ·obtain ⟨e1, e2⟩ := h5 hr
    subst e1; subst e2
    exact h9
   ·exfalso
    obtain ⟨i, _, h10, _⟩ := h6 hr
    have h11 := distinct_ge hd h10
    have h12 := (List.getElem?_eq_some_iff.1 h9).1
    simp only at h11
    omega
  ·intro r b x k hb hk hx
   obtain ⟨s, b0, h1, h2, h3, h4, h5, h6, h7, h8⟩ := hget hb
   rw [h4] at hx
   exact hs.fresh s b0 x k h1 (by rw [← h2]; exact hk) hx
theorem Hands.drop {x : AV} {m1 extra : AMem} (he : mem = m1 ++ extra) (hx : x.below m1.length = true) (hw : MWf m1.length m1) : Hands m1.length x mem x m1 := by
 intro ρ v w hv hm
 have ht : Rep ρ 1 [(0, x)] mem ⟨#[v], []⟩ w := ⟨by simp, fun i => by
  cases i with
  | zero => simpa [Tm.get] using hv
  | succ i => simp [Tm.get]; trivial, hm⟩
 obtain ⟨ρ', h1, h2⟩ := Weak.trunc (nt := 1) (tm := [(0, x)]) he (fun p hp => by simp at hp; subst hp; exact hx) hw ρ _ w ht
 refine ⟨ρ', ?_, h1.mem, h2⟩
 have := h1.tm 0
 simpa [Tm.get] using this
def AV.tv : AV → Option (Bool × List CV)
 | .one c => some (false, [c])
 | .agg cs => some (true, cs)
 | .tup _ => none
variable (P)
def resOne (tm : Tm) (mem : AMem) : ResultVar → Option AV
 | .tmp t => some (Tm.get tm t)
 | .cell t ty => loadA P ty (Tm.get tm t) mem
def resTv (tm : Tm) (mem : AMem) : List ResultVar → Option (List (Bool × List CV))
 | [] => some []
 | r :: rs => match (resOne P tm mem r).bind AV.tv, resTv tm mem rs with
  | some t, some ts => some (t :: ts)
  | _, _ => none
def resA (rs : List ResultVar) (tm : Tm) (mem : AMem) : Option AV :=
 match rs with
 | [r] => resOne P tm mem r
 | rs => (resTv P tm mem rs).map .tup
variable {P}
def resSem (tmps : Array Value) : ResultVar → Sem Value
 | .tmp t => pure (tmps.getD t undef)
 | .cell p t => do loadVar t (← asAddr (tmps.getD p undef))
theorem results_eq (fn : Func) (tmps : Array Value) : results fn tmps = (do
  let vs ← fn.results.mapM (resSem tmps)
  pure (if h : vs.size = 1 then vs[0] else .tuple vs)) := by
 unfold results
 congr 1
theorem run_resOne {ρ : Env} {a : Act} {w : World} (hr : Rep ρ nt tm mem a w) {r : ResultVar} {x : AV} (h : resOne P tm mem r = some x) :
  ∃ v, (resSem a.tmps r).run P w = .ok v w ∧ VR ρ x v := by
 cases r with
 | tmp t => simp only [resOne] at h; injection h with h; subst h; exact ⟨_, rfl, hr.tm t⟩
 | cell p t =>
  simp only [resOne] at h
  obtain ⟨v, hv, hvr⟩ := run_loadA P hr.mem h (hr.tm p)
  refine ⟨v, ?_, hvr⟩
  unfold loadA at h
  split at h
  ·rename_i r ver off hp
   have hpv := hr.tm p
   rw [hp] at hpv
   obtain ⟨ad, k, _, e⟩ := hpv
   simp only [resSem]
   rw [e] at hv ⊢
   exact hv
  ·rename_i g off hp
   have hpv := hr.tm p
   rw [hp] at hpv
   have e : a.tmps.getD p undef = _ := hpv
   simp only [resSem]
   rw [e] at hv ⊢
   exact hv
  ·cases h
theorem VR_tv {ρ : Env} {x : AV} {v : Value} (h : VR ρ x v) {t : Bool × List CV} (ht : x.tv = some t) : TV ρ t v := by
 cases x with
 | one c => simp only [AV.tv] at ht; injection ht with ht; subst ht; exact h
 | agg cs => simp only [AV.tv] at ht; injection ht with ht; subst ht; exact h
 | tup ts => cases ht
theorem run_resTv {ρ : Env} {a : Act} {w : World} (hr : Rep ρ nt tm mem a w) : ∀ {rs : List ResultVar} {ts : List (Bool × List CV)}, resTv P tm mem rs = some ts →
  ∃ vs, (rs.mapM (resSem a.tmps)).run P w = .ok vs w ∧ All2 (TV ρ) ts vs
 | [], ts, h => by simp [resTv] at h; subst h; exact ⟨[], by simp, trivial⟩
 | r :: rs, ts, h => by
  simp only [resTv] at h
  split at h
  ·rename_i t ts' h1 h2
   injection h with h; subst h
   simp only [Option.bind_eq_some_iff] at h1
   obtain ⟨x, hx, ht⟩ := h1
   obtain ⟨v, hv, hvr⟩ := run_resOne hr hx
   obtain ⟨vs, hvs, hall⟩ := run_resTv hr h2
   refine ⟨v :: vs, ?_, VR_tv hvr ht, hall⟩
   simp only [List.mapM_cons, Sem.run_bind, hv, Result.andThen_ok, hvs, Sem.run_pure]
  ·cases h
theorem resTv_len : ∀ {rs : List ResultVar} {ts : List (Bool × List CV)}, resTv P tm mem rs = some ts → ts.length = rs.length
 | [], ts, h => by simp [resTv] at h; subst h; rfl
 | r :: rs, ts, h => by
  simp only [resTv] at h
  split at h
  ·rename_i t ts' h1 h2
   injection h with h; subst h
   simp [resTv_len h2]
  ·cases h
theorem run_resA {ρ : Env} {a : Act} {w : World} (hr : Rep ρ nt tm mem a w) {fn : Func} {x : AV} (h : resA P fn.results.toList tm mem = some x) : ∃ v, (results fn a.tmps).run P w = .ok v w ∧ VR ρ x v := by
 have hm : ∀ vs : List Value, (fn.results.toList.mapM (resSem a.tmps)).run P w = .ok vs w → (results fn a.tmps).run P w = .ok (if h : vs.toArray.size = 1 then vs.toArray[0] else .tuple vs.toArray) w := by
  intro vs hvs
  rw [results_eq]
  generalize hl : fn.results.toList = l at hvs
  have hl' : fn.results = l.toArray := by rw [← hl]
  rw [hl', List.mapM_toArray]
  simp only [Sem.run_bind, Sem.run_map, hvs, Result.andThen_ok, Sem.run_pure]
 unfold resA at h
 split at h
 ·rename_i r hrs
  obtain ⟨v, hv, hvr⟩ := run_resOne hr h
  refine ⟨v, ?_, hvr⟩
  have := hm [v] (by rw [hrs]; simp only [List.mapM_cons, List.mapM_nil, Sem.run_bind, hv, Result.andThen_ok, Sem.run_pure])
  rw [this]
  simp
 ·rename_i rs hne
  simp only [Option.map_eq_some_iff] at h
  obtain ⟨ts, hts, rfl⟩ := h
  obtain ⟨vs, hvs, hall⟩ := run_resTv hr hts
  refine ⟨.tuple vs.toArray, ?_, vs.toArray, rfl, by simpa using hall⟩
  rw [hm vs hvs, dif_neg]
  intro h2
  simp only [List.size_toArray] at h2
  rw [← hall.length, resTv_len hts] at h2
  obtain ⟨r, hr1⟩ := List.length_eq_one_iff.1 h2
  exact hne r hr1
def enterTm : Nat → List AV → Tm
 | _, [] => []
 | i, x :: xs => (i, x) :: enterTm (i + 1) xs
theorem enterTm_get {ρ : Env} : ∀ (xs : List AV) (vs rest : List Value) (i : Nat), All2 (VR ρ) xs vs → ∀ j, VR ρ (Tm.get (enterTm i xs) (i + j)) ((vs ++ rest)[j]?.getD undef)
 | [], [], rest, i, _, j => trivial
 | x :: xs, v :: vs, rest, i, h, j => by
  cases j with
  | zero => simpa [enterTm, Tm.get] using h.1
  | succ j =>
   have := enterTm_get xs vs rest (i + 1) h.2 j
   simp only [enterTm, Tm.get]
   rw [if_neg (by omega)]
   simpa [Nat.add_assoc, Nat.add_comm 1 j] using this
 | [], _ :: _, _, _, h, _ => h.elim
 | _ :: _, [], _, _, h, _ => h.elim
theorem Ctr.of_body {f : FuncId} {fn : Func} {c : Code} {args : List AV} {ret : AV} (hf : P.funcs[f]? = some fn) (hb : fn.body = some c) (hname : (fn.name == "runtime.NumGoroutine") = false)
  (h : MWf mem.length mem → AW P fn.ntmps c (enterTm 0 args) mem (fun ex tm' m' => (ex = .normal ∨ ex = .ret) ∧ ∃ x, resA P fn.results.toList tm' m' = some x ∧ Hands mem.length x m' ret mem')) : Ctr P f args mem ret mem' := by
 refine fun ρ w vs hm hargs => .inl ⟨⟨fn, hf, hname, by rw [hb]; rfl⟩, ?_⟩
 refine calls_of_wp hf hb ?_
 have hrep : Rep ρ fn.ntmps (enterTm 0 args) mem { tmps := vs.toArray ++ Array.replicate (fn.ntmps - vs.toArray.size) undef, defers := [] } w := by
  refine ⟨by simp; omega, fun i => ?_, hm⟩
  have := enterTm_get args vs (List.replicate (fn.ntmps - vs.length) undef) 0 hargs i
  simp only [Nat.zero_add] at this
  have e : (vs.toArray ++ Array.replicate (fn.ntmps - vs.toArray.size) undef).getD i undef = (vs ++ List.replicate (fn.ntmps - vs.length) undef)[i]?.getD undef := by
   rw [Array.getD_eq_getD_getElem?, ← Array.getElem?_toList]
   simp
  rw [← e] at this
  exact this
 refine wp_mono (h hm.wf ρ _ w hrep) ?_
 rintro ex a' w' ⟨ρ', tm', m', hr', hs, hd, hex, x, hres, hands⟩
 obtain ⟨v, hv, hvr⟩ := run_resA hr' hres
 obtain ⟨ρ2, h1, h2, h3⟩ := hands ρ' v w' hvr hr'.mem
 have hpost : a'.defers = [] ∧ ∃ v, (results fn a'.tmps).run P w' = .ok v w' ∧ ∃ v_1 ρ', Ending.returned v = Ending.returned v_1 ∧ VR ρ' ret v_1 ∧ RepM ρ' mem' w' ∧ Step mem ρ w mem' ρ' w' :=
  ⟨hd, v, hv, v, ρ2, rfl, h1, h2, h3 _ _ _ (Nat.le_refl _) hs⟩
 rcases hex with rfl | rfl
 ·exact hpost
 ·exact hpost
end
theorem lk_app {α : Type} (m l : List α) (k : Nat) : (m ++ l)[m.length + k]? = l[k]? := by
 rw [List.getElem?_append_right (by omega)]; congr 1; omega
theorem lk_app0 {α : Type} (m l : List α) : (m ++ l)[m.length]? = l[0]? := by
 rw [List.getElem?_append_right (by omega)]; congr 1; omega
theorem set_app {α : Type} (m l : List α) (k : Nat) (b : α) : (m ++ l).set (m.length + k) b = m ++ l.set k b := by
 rw [List.set_append_right _ _ (by omega)]; congr 2; omega
theorem set_app0 {α : Type} (m l : List α) (b : α) : (m ++ l).set m.length b = m ++ l.set 0 b := by
 rw [List.set_append_right _ _ (by omega)]; congr 2; omega
theorem lk_old {α : Type} {m : List α} {r : Nat} {b : α} (h : m[r]? = some b) (l : List α) : (m ++ l)[r]? = some b := by
 rw [List.getElem?_append_left (List.getElem?_eq_some_iff.1 h).1]; exact h
theorem Tm.get_cons (j : Nat) (v : AV) (r : List (Nat × AV)) (i : Nat) : Tm.get ((j, v) :: r) i = if i = j then v else Tm.get r i := rfl
inductive Plan where
 | val
 | rd (lo : Nat)
 | rw (lo : Nat)
 | ext
 | up (q : Nat)
 | fl
 | wr
 deriving Inhabited, DecidableEq
def Plan.chain : Plan → Bool
 | .ext => true
 | .up _ => true
 | .fl => true
 | .wr => true
 | _ => false
def Plan.isFl : Plan → Bool
 | .fl => true
 | _ => false
def Plan.isRd : Plan → Bool
 | .rd _ => true
 | _ => false
def Plan.isWr : Plan → Bool
 | .wr => true
 | _ => false
section
variable {P : Program}
def Does (P : Program) (o : Oper) (e : Operand → AV) (M : AMem) (x : AV) (M' : AMem) : Prop :=
 match o.op with
 | .store t y z => storeA P t (e y) (e z) M = some M' ∧ x = .one .und
 | .call ⟨.value f, args, _⟩ => ∃ g cs, e f = .one (.fn g cs) ∧ Ctr P g (args.toList.map e ++ capsAV cs) M x M'
 | op => evVal P e M op = some (x, M')
theorem does_sound {ρ : Env} {nt : Nat} {tm : Tm} {M M' : AMem} {a : Act} {w : World} {o : Oper} {x : AV} (h : Does P o (opd tm) M x M') (hr : Rep ρ nt tm M a w) {Q : Exit → Act → World → Prop} {K : Act → World → Prop}
  (hK : ∀ ρ' v w', VR ρ' x v → RepM ρ' M' w' → Step M ρ w M' ρ' w' → K (a.put o.dst v) w') : o.wp P a w K Q := by
 unfold Oper.wp
 unfold Does at h
 split at h
 ·rename_i t y z hop
  obtain ⟨hs, rfl⟩ := h
  obtain ⟨w', hrun, hm, hst⟩ := run_storeA P hr.mem hs (hr.opd y) (hr.opd z)
  have he : (execOp a.eval o).run P w = .ok .skip w' := by rw [ex_store hop]; simp only [Sem.run_bind, hrun, Result.andThen_ok, Sem.run_pure]
  rw [he, Oper.upon_skip]
  exact hK ρ undef w' rfl hm hst
 ·rename_i f args ts hop
  obtain ⟨g, cs, hf, hg⟩ := h
  have hfv := hr.opd f
  rw [hf] at hfv
  obtain ⟨vs, hfe, hcaps⟩ := hfv
  have hargs : All2 (VR ρ) (args.toList.map (opd tm)) (args.toList.map a.eval) := All2_map (fun y => hr.opd y) args.toList
  have hc := hg ρ w _ hr.mem (hargs.append (capsAV_sound hcaps))
  have hea : (args.toList.map a.eval ++ vs.toList).toArray = args.map a.eval ++ vs := by
   apply Array.ext'; simp
  rw [hea] at hc
  have he0 : (execOp a.eval o).run P w = (callFunc g (args.map a.eval ++ vs)).run P w := by
   rw [ex_call hop]
   simp only [resolve, hfe, Deferred.ofValue, Sem.run_bind, Sem.run_pure, Result.andThen_ok, invoke, Array.empty_append]
  rcases hc with ⟨⟨fn, hfn, hname, hbody⟩, hc⟩ | ⟨v, w', hrun, v', ρ', he', hv, hm, hst⟩
  ·have he : (execOp a.eval o).run P w = .ok (.enter g (args.map a.eval ++ vs)) w := by
    rw [he0]
    simp only [Sem.run_bind, Sem.run_pure, Result.andThen_ok, callFunc, run_program, hfn, hname, hbody, Bool.false_eq_true, if_false]
   rw [he, Oper.upon_enter]
   refine hc.mono fun e w' ⟨v, ρ', he', hv, hm, hst⟩ => ?_
   subst he'
   exact hK ρ' v w' hv hm hst
  ·injection he' with he'; subst he'
   rw [he0, hrun, Oper.upon_value]
   exact hK ρ' v w' hv hm hst
 ·obtain ⟨v, w', ρ', hrun, hvr, hm, hst⟩ := evVal_sound hr h
  rcases hrun with hrun | ⟨hrun, rfl⟩
  ·rw [hrun, Oper.upon_value]
   exact hK ρ' v w' hvr hm hst
  ·rw [hrun, Oper.upon_skip]
   exact hK ρ' undef w' hvr hm hst
theorem map_parts_congr {e e' : Operand → AV} {ps : Array (Nat × Operand)} (h : ∀ x ∈ (ps.toList.map (·.2)).toArray, e x = e' x) : (ps.toList.map fun p => (p.1, e p.2)) = ps.toList.map fun p => (p.1, e' p.2) :=
 List.map_congr_left fun p hp => by rw [h p.2 (by simpa using ⟨p.1, by simpa using hp⟩)]
theorem evVal_congr {e e' : Operand → AV} {M : AMem} {op : Op} (h : ∀ x ∈ op.operands, e x = e' x) : evVal P e M op = evVal P e' M op := by
 cases op
 case build t ps => simp only [evVal]; rw [map_parts_congr (by simpa only [Op.operands] using h)]
 case buildSlice t n ps => simp only [evVal]; rw [map_parts_congr (by simpa only [Op.operands] using h)]
 case slice t x lo hi mx =>
  simp only [Op.operands] at h
  cases mx with
  | some m => rfl
  | none => cases lo <;> cases hi <;> simp_all [evVal]
 case makeFunc fn first captured =>
  simp only [Op.operands] at h
  cases fn <;> simp only [evVal]
  rw [List.map_congr_left (g := e') (l := captured.toList) fun x hx => h x (by simp at hx; simp [hx]), List.map_congr_left (g := e') (l := first.toList) fun x hx => h x (by simp at hx; simp [hx])]
 case call c =>
  obtain ⟨cal, args, ts⟩ := c
  simp only [Op.operands, Call.operands] at h
  cases cal <;> simp only [evVal]
  rw [List.map_congr_left (g := e') (l := args.toList) fun x hx => h x (by simp at hx; simp [hx])]
 case makeMap t r => cases r <;> rfl
 all_goals (first | rfl | (simp only [Op.operands] at h; simp_all [evVal]; done))
theorem Does.congr {e e' : Operand → AV} {o : Oper} {M M' : AMem} {x : AV} (h : ∀ y ∈ o.op.operands, e y = e' y) (hd : Does P o e M x M') : Does P o e' M x M' := by
 unfold Does at hd ⊢
 split at hd
 ·rename_i t y z hop
  rw [hop] at h
  simp only [Op.operands] at h
  rw [← h y (by simp), ← h z (by simp)]
  exact hd
 ·rename_i f args ts hop
  rw [hop] at h
  simp only [Op.operands, Call.operands] at h
  obtain ⟨g, cs, h1, h2⟩ := hd
  refine ⟨g, cs, by rw [← h f (by simp)]; exact h1, ?_⟩
  rw [← List.map_congr_left (f := e) (l := args.toList) fun x hx => h x (by simp at hx; simp [hx])]
  exact h2
 ·rw [← evVal_congr h]; exact hd
def Watched (Ms : List AMem) (W : List (Nat × Nat)) : Prop := ∀ p, p ∈ W → ∃ b, ∀ M, M ∈ Ms.drop p.1 → M[p.2]? = some b
def AOpsD (P : Program) (ops : Array Oper) : List (Oper × Plan) → Tm → AMem → List AMem → List (Nat × Nat) → (Tm → AMem → Prop) → Prop
 | [], tm, cur, hist, ws, K => Watched hist ws ∧ K tm cur
 | (o, p) :: rest, tm, cur, hist, ws, K =>
  match wantedA ops o tm with
  | some true =>
   match p with
   | .val => match evVal P (opd tm) [] o.op with
    | some (x, []) => AOpsD P ops rest (putO o.dst x tm) cur hist ws K
    | _ => False
   | .rd lo => match o.op with
    | .load t y => match hist[lo]? with
     | some M => match loadA P t (opd tm y) M with
      | some x => AOpsD P ops rest (putO o.dst x tm) cur hist ws K
      | none => False
     | none => False
    | _ => False
   | .rw lo => match o.op with
    | .load t y => match opd tm y, hist[lo]? with
     | .one (.ptr r ver off), some M => match loadA P t (.one (.ptr r ver off)) M with
      | some x => AOpsD P ops rest (putO o.dst x tm) cur hist ((lo, r) :: ws) K
      | none => False
     | _, _ => False
    | _ => False
   | .ext => match o.op with
    | .store _ _ _ => False
    | .call ⟨.value f, args, _⟩ => match opd tm f with
     | .one (.fn g cs) => ∃ ret extra, Ctr P g (args.toList.map (opd tm) ++ capsAV cs) cur ret (cur ++ extra) ∧ AOpsD P ops rest (putO o.dst ret tm) (cur ++ extra) (hist ++ [cur ++ extra]) ws K
     | _ => False
    | op => match evVal P (opd tm) cur op with
     | some (x, mem') => (∃ extra, mem' = cur ++ extra) ∧ AOpsD P ops rest (putO o.dst x tm) mem' (hist ++ [mem']) ws K
     | none => False
   | .up q => match evVal P (opd tm) cur o.op with
    | some (x, mem') => (∃ A x0 y0, hist[q]? = some A ∧ cur = A ++ x0 ∧ mem' = A ++ y0) ∧ AOpsD P ops rest (putO o.dst x tm) mem' (hist ++ [mem']) ws K
    | none => False
   | .fl => match o.op, o.guard with
    | .alloc t, none => match zeroOf P t with
     | some z => AOpsD P ops rest (putO o.dst (.one (.ptr cur.length 0 0)) tm) (cur ++ [⟨.fix, t, 0, 0, z.cells.toList.map cellOf⟩]) (hist ++ [cur ++ [⟨.fix, t, 0, 0, z.cells.toList.map cellOf⟩]]) ws K
     | none => False
    | _, _ => False
   | .wr => match o.op with
    | .store t x y => match storeA P t (opd tm x) (opd tm y) cur with
     | some mem' => AOpsD P ops rest (putO o.dst (.one .und) tm) mem' (hist ++ [mem']) ws K
     | none => False
    | .call ⟨.value f, args, _⟩ => match opd tm f with
     | .one (.fn g cs) => ∃ ret mem', Ctr P g (args.toList.map (opd tm) ++ capsAV cs) cur ret mem' ∧ AOpsD P ops rest (putO o.dst ret tm) mem' (hist ++ [mem']) ws K
     | _ => False
    | op => match evVal P (opd tm) cur op with
     | some (x, mem') => AOpsD P ops rest (putO o.dst x tm) mem' (hist ++ [mem']) ws K
     | none => False
  | some false => AOpsD P ops rest (putO o.dst (.one .und) tm) cur (if p.chain then hist ++ [cur] else hist) ws K
  | none => False
def OpF (P : Program) (ops : Array Oper) (o : Oper) (p : Plan) (tm : Tm) (hist : List AMem) (W : List (Nat × Nat)) (M : AMem) (x : AV) (M' : AMem) : Prop :=
 (wantedA ops o tm = some false ∧ x = .one .und ∧ M' = M) ∨
 (wantedA ops o tm = some true ∧ match p with
  | .val => M' = M ∧ evVal P (opd tm) [] o.op = some (x, [])
  | .rd lo => M' = M ∧ ∃ t y ML, o.op = .load t y ∧ hist[lo]? = some ML ∧ loadA P t (opd tm y) ML = some x
  | .rw lo => M' = M ∧ ∃ t y ML r ver off, o.op = .load t y ∧ hist[lo]? = some ML ∧ opd tm y = .one (.ptr r ver off) ∧ loadA P t (.one (.ptr r ver off)) ML = some x ∧ (lo, r) ∈ W
  | .ext => (∃ extra, M' = M ++ extra) ∧ Does P o (opd tm) M x M'
  | .fl => o.guard = none ∧ ∃ t z, o.op = .alloc t ∧ zeroOf P t = some z ∧ x = .one (.ptr M.length 0 0) ∧ M' = M ++ [⟨.fix, t, 0, 0, z.cells.toList.map cellOf⟩]
  | .up q => (∃ A : AMem, hist[q]? = some A ∧ ∀ r : Nat, r < A.length → M'[r]? = M[r]?) ∧ Does P o (opd tm) M x M'
  | .wr => Does P o (opd tm) M x M')
def Run (P : Program) (ops : Array Oper) (W : List (Nat × Nat)) : List (Oper × Plan) → Tm → AMem → List AMem → List AV → List AMem → Tm → AMem → Prop
 | [], tm, cur, hist, xs, Ms, tm', cur' => xs = [] ∧ Ms = hist ∧ tm' = tm ∧ cur' = cur
 | (o, p) :: rest, tm, cur, hist, xs, Ms, tm', cur' => ∃ x M' xs', xs = x :: xs' ∧ OpF P ops o p tm hist W cur x M' ∧
   Run P ops W rest (putO o.dst x tm) M' (if p.chain then hist ++ [M'] else hist) xs' Ms tm' cur'
theorem run_of_aopsD {ops : Array Oper} : ∀ (l : List (Oper × Plan)) (tm : Tm) (cur : AMem) (hist : List AMem) (ws : List (Nat × Nat)) (K : Tm → AMem → Prop), AOpsD P ops l tm cur hist ws K →
  ∃ W xs Ms tm' cur', (∀ p, p ∈ ws → p ∈ W) ∧ Watched Ms W ∧ Run P ops W l tm cur hist xs Ms tm' cur' ∧ K tm' cur'
 | [], tm, cur, hist, ws, K, h => ⟨ws, [], hist, tm, cur, fun _ h => h, h.1, ⟨rfl, rfl, rfl, rfl⟩, h.2⟩
 | (o, p) :: rest, tm, cur, hist, ws, K, h => by
  simp only [AOpsD] at h
  have gow : ∀ x M' ws', (∀ p, p ∈ ws → p ∈ ws') → (∀ W, (∀ p, p ∈ ws' → p ∈ W) → OpF P ops o p tm hist W cur x M') → AOpsD P ops rest (putO o.dst x tm) M' (if p.chain then hist ++ [M'] else hist) ws' K → ∃ W xs Ms tm' cur', (∀ p, p ∈ ws → p ∈ W) ∧ Watched Ms W ∧ Run P ops W ((o, p) :: rest) tm cur hist xs Ms tm' cur' ∧ K tm' cur' := by
   intro x M' ws' hsub h1 h2
   obtain ⟨W, xs, Ms, tm', cur', h5, h6, h3, h4⟩ := run_of_aopsD rest _ _ _ _ K h2
   exact ⟨W, x :: xs, Ms, tm', cur', fun p hp => h5 p (hsub p hp), h6, ⟨x, M', xs, rfl, h1 W h5, h3⟩, h4⟩
  have go : ∀ x M', (∀ W, OpF P ops o p tm hist W cur x M') → AOpsD P ops rest (putO o.dst x tm) M' (if p.chain then hist ++ [M'] else hist) ws K → ∃ W xs Ms tm' cur', (∀ p, p ∈ ws → p ∈ W) ∧ Watched Ms W ∧ Run P ops W ((o, p) :: rest) tm cur hist xs Ms tm' cur' ∧ K tm' cur' :=
   fun x M' h1 h2 => gow x M' ws (fun _ h => h) (fun W _ => h1 W) h2
  split at h
  ·rename_i hw
   split at h
   ·split at h
    ·rename_i x he
     exact go x cur (fun W => .inr ⟨hw, rfl, he⟩) h
    ·exact h.elim
   ·rename_i lo
    split at h
    ·rename_i t y hop
     split at h
     ·rename_i M hM
      split at h
      ·rename_i x hx
       exact go x cur (fun W => .inr ⟨hw, rfl, t, y, M, hop, hM, hx⟩) h
      ·exact h.elim
     ·exact h.elim
    ·exact h.elim
   ·rename_i lo
    split at h
    ·rename_i t y hop
     split at h
     ·rename_i r ver off M hy hM
      split at h
      ·rename_i x hx
       exact gow x cur ((lo, r) :: ws) (fun p hp => List.mem_cons_of_mem _ hp) (fun W hW => .inr ⟨hw, rfl, t, y, M, r, ver, off, hop, hM, hy, hx, hW _ (by simp)⟩) h
      ·exact h.elim
     ·exact h.elim
    ·exact h.elim
   ·split at h
    ·exact h.elim
    ·rename_i f args ts hop
     split at h
     ·rename_i g cs hf
      obtain ⟨ret, extra, hc, h⟩ := h
      refine go ret (cur ++ extra) (fun W => .inr ⟨hw, ⟨extra, rfl⟩, ?_⟩) h
      unfold Does; rw [hop]; exact ⟨g, cs, hf, hc⟩
     ·exact h.elim
    ·rename_i hop1 hop2
     split at h
     ·rename_i x mem' he
      refine go x mem' (fun W => .inr ⟨hw, h.1, ?_⟩) h.2
      unfold Does
      split
      ·rename_i t y z hop; exact absurd hop (hop1 t y z)
      ·rename_i f args ts hop; exact absurd hop (hop2 f args ts)
      ·exact he
     ·exact h.elim
   ·rename_i q
    split at h
    ·rename_i x mem' he
     obtain ⟨⟨A, x0, y0, hA, hc, hm⟩, h⟩ := h
     refine go x mem' (fun W => .inr ⟨hw, ⟨A, hA, fun r hr => by rw [hm, hc, List.getElem?_append_left hr, List.getElem?_append_left hr]⟩, ?_⟩) h
     unfold Does
     split
     ·rename_i hop; rw [hop] at he; simp [evVal] at he
     ·rename_i hop; rw [hop] at he; simp [evVal] at he
     ·exact he
    ·exact h.elim
   ·split at h
    ·rename_i t hop hg
     split at h
     ·rename_i z hz
      exact go _ _ (fun W => .inr ⟨hw, hg, t, z, hop, hz, rfl, rfl⟩) h
     ·exact h.elim
    ·exact h.elim
   ·split at h
    ·rename_i t y z hop
     split at h
     ·rename_i mem' hs
      refine go (.one .und) mem' (fun W => .inr ⟨hw, ?_⟩) h
      show Does P o (opd tm) cur (.one .und) mem'
      unfold Does; rw [hop]; exact ⟨hs, rfl⟩
     ·exact h.elim
    ·rename_i f args ts hop
     split at h
     ·rename_i g cs hf
      obtain ⟨ret, mem', hc, h⟩ := h
      refine go ret mem' (fun W => .inr ⟨hw, ?_⟩) h
      show Does P o (opd tm) cur ret mem'
      unfold Does; rw [hop]; exact ⟨g, cs, hf, hc⟩
     ·exact h.elim
    ·rename_i hop1 hop2
     split at h
     ·rename_i x mem' he
      refine go x mem' (fun W => .inr ⟨hw, ?_⟩) h
      show Does P o (opd tm) cur x mem'
      unfold Does
      split
      ·rename_i t y z hop; exact absurd hop (hop1 t y z)
      ·rename_i f args ts hop; exact absurd hop (hop2 f args ts)
      ·exact he
     ·exact h.elim
  ·rename_i hw
   exact go (.one .und) cur (fun W => .inl ⟨hw, rfl, rfl⟩) h
  ·exact h.elim
def tmSel (l : List (Oper × Plan)) (xs : List AV) (sel : Nat → Bool) (tm : Tm) : Nat → Tm
 | 0 => tm
 | j + 1 => match l[j]?, xs[j]? with
  | some (o, _), some x => if sel j then putO o.dst x (tmSel l xs sel tm j) else tmSel l xs sel tm j
  | _, _ => tmSel l xs sel tm j
def chBefore (l : List (Oper × Plan)) : Nat → Nat
 | 0 => 0
 | j + 1 => match l[j]? with
  | some (_, p) => if p.chain then chBefore l j + 1 else chBefore l j
  | none => chBefore l j
theorem tmSel_cons {o : Oper} {p : Plan} {l : List (Oper × Plan)} {x : AV} {xs : List AV} {tm : Tm} : ∀ n, tmSel ((o, p) :: l) (x :: xs) (fun _ => true) tm (n + 1) = tmSel l xs (fun _ => true) (putO o.dst x tm) n
 | 0 => by simp [tmSel]
 | n + 1 => by
  rw [tmSel, tmSel_cons n, tmSel]
  simp only [List.getElem?_cons_succ]
theorem chBefore_cons {o : Oper} {p : Plan} {l : List (Oper × Plan)} : ∀ n, chBefore ((o, p) :: l) (n + 1) = chBefore l n + (if p.chain then 1 else 0)
 | 0 => by simp [chBefore]
 | n + 1 => by
  rw [chBefore, chBefore_cons n, chBefore]
  simp only [List.getElem?_cons_succ]
  split
  ·split <;> omega
  ·rfl
theorem run_prefix {ops : Array Oper} {W : List (Nat × Nat)} : ∀ {l : List (Oper × Plan)} {tm : Tm} {cur : AMem} {hist : List AMem} {xs : List AV} {Ms : List AMem} {tm' : Tm} {cur' : AMem}, Run P ops W l tm cur hist xs Ms tm' cur' → ∃ t, Ms = hist ++ t
 | [], _, _, hist, _, _, _, _, h => ⟨[], by rw [h.2.1]; simp⟩
 | (o, p) :: rest, _, _, hist, _, _, _, _, ⟨x, M', xs', h1, h2, h3⟩ => by
  obtain ⟨t, ht⟩ := run_prefix h3
  split at ht
  ·exact ⟨[M'] ++ t, by rw [ht, List.append_assoc]⟩
  ·exact ⟨t, ht⟩
theorem run_facts {ops : Array Oper} {W : List (Nat × Nat)} : ∀ {l : List (Oper × Plan)} {tm : Tm} {cur : AMem} {hist : List AMem} {xs : List AV} {Ms : List AMem} {tm' : Tm} {cur' : AMem}, Run P ops W l tm cur hist xs Ms tm' cur' →
  ∀ h0 : Nat, hist.length = h0 + 1 → hist[h0]? = some cur →
  Ms.length = h0 + 1 + chBefore l l.length ∧ tm' = tmSel l xs (fun _ => true) tm l.length ∧ Ms[h0 + chBefore l l.length]? = some cur' ∧
  ∀ i o p, l[i]? = some (o, p) → ∃ x M M', xs[i]? = some x ∧ Ms[h0 + chBefore l i]? = some M ∧ Ms[h0 + chBefore l (i + 1)]? = some M' ∧ OpF P ops o p (tmSel l xs (fun _ => true) tm i) Ms W M x M'
 | [], tm, cur, hist, xs, Ms, tm', cur', ⟨e1, e2, e3, e4⟩, h0, hl, hc => by
  subst e1; subst e2; subst e3; subst e4
  exact ⟨by simp [chBefore, hl], rfl, by simpa [chBefore] using hc, fun i o p h => by simp at h⟩
 | (o, p) :: rest, tm, cur, hist, xs, Ms, tm', cur', ⟨x, M', xs', e1, hop, hrun⟩, h0, hl, hc => by
  subst e1
  obtain ⟨t, ht⟩ := run_prefix hrun
  have hpre : ∀ {k : Nat} {M : AMem}, hist[k]? = some M → Ms[k]? = some M := by
   intro k M hk
   have hkl := (List.getElem?_eq_some_iff.1 hk).1
   split at ht
   ·rw [ht, List.append_assoc, List.getElem?_append_left hkl]; exact hk
   ·rw [ht, List.getElem?_append_left hkl]; exact hk
  have hop' : OpF P ops o p tm Ms W cur x M' := by
   rcases hop with h | ⟨h1, h2⟩
   ·exact .inl h
   ·refine .inr ⟨h1, ?_⟩
    cases p with
    | rd lo => obtain ⟨e, t, y, ML, q1, q2, q3⟩ := h2; exact ⟨e, t, y, ML, q1, hpre q2, q3⟩
    | rw lo => obtain ⟨e, t, y, ML, r, ver, off, q1, q2, q3⟩ := h2; exact ⟨e, t, y, ML, r, ver, off, q1, hpre q2, q3⟩
    | up q => obtain ⟨⟨A, q1, q2⟩, q3⟩ := h2; exact ⟨⟨A, hpre q1, q2⟩, q3⟩
    | val => exact h2
    | ext => exact h2
    | fl => exact h2
    | wr => exact h2
  have hnc : p.chain = false → M' = cur := by
   intro hp
   rcases hop with h | ⟨h1, h2⟩
   ·exact h.2.2
   ·cases p with
    | val => exact h2.1
    | rd lo => exact h2.1
    | rw lo => exact h2.1
    | ext => cases hp
    | up q => cases hp
    | fl => cases hp
    | wr => cases hp
  cases hp : p.chain with
  | true =>
   rw [hp] at hrun
   simp only [if_true] at hrun
   obtain ⟨g1, g2, g3, g4⟩ := run_facts hrun (h0 + 1) (by simp [hl]) (by rw [← hl, List.getElem?_append_right (Nat.le_refl _)]; simp)
   refine ⟨by rw [List.length_cons, chBefore_cons, hp]; simp only [if_true]; omega, ?_, ?_, ?_⟩
   ·rw [List.length_cons, tmSel_cons]; exact g2
   ·rw [List.length_cons, chBefore_cons, hp]; simp only [if_true]; rw [← g3]; congr 1; omega
   ·intro i o' p' hi
    cases i with
    | zero =>
     simp at hi
     obtain ⟨rfl, rfl⟩ := hi
     refine ⟨x, cur, M', rfl, by simpa [chBefore] using hpre hc, ?_, hop'⟩
     rw [chBefore_cons, hp]
     simp only [if_true, chBefore, Nat.zero_add]
     split at ht
     ·rw [ht, List.append_assoc, ← hl, List.getElem?_append_right (Nat.le_refl _)]; simp
     ·rename_i hh; exact absurd hp hh
    | succ i =>
     simp only [List.getElem?_cons_succ] at hi
     obtain ⟨x', M1, M2, q1, q2, q3, q4⟩ := g4 i o' p' hi
     refine ⟨x', M1, M2, by simpa using q1, ?_, ?_, ?_⟩
     ·rw [chBefore_cons, hp]; simp only [if_true]; rw [← q2]; congr 1; omega
     ·rw [chBefore_cons, hp]; simp only [if_true]; rw [← q3]; congr 1; omega
     ·rw [tmSel_cons]; exact q4
  | false =>
   rw [hp] at hrun
   simp only [Bool.false_eq_true, if_false] at hrun
   have hM := hnc hp
   subst hM
   obtain ⟨g1, g2, g3, g4⟩ := run_facts hrun h0 hl hc
   refine ⟨by rw [List.length_cons, chBefore_cons, hp]; simpa using g1, ?_, ?_, ?_⟩
   ·rw [List.length_cons, tmSel_cons]; exact g2
   ·rw [List.length_cons, chBefore_cons, hp]; simpa using g3
   ·intro i o' p' hi
    cases i with
    | zero =>
     simp at hi
     obtain ⟨rfl, rfl⟩ := hi
     refine ⟨x, M', M', rfl, by simpa [chBefore] using hpre hc, ?_, hop'⟩
     rw [chBefore_cons, hp]
     simpa [chBefore] using hpre hc
    | succ i =>
     simp only [List.getElem?_cons_succ] at hi
     obtain ⟨x', M1, M2, q1, q2, q3, q4⟩ := g4 i o' p' hi
     refine ⟨x', M1, M2, by simpa using q1, ?_, ?_, ?_⟩
     ·rw [chBefore_cons, hp]; simpa using q2
     ·rw [chBefore_cons, hp]; simpa using q3
     ·rw [tmSel_cons]; exact q4
end
abbrev Pl := List (Oper × Plan)
def opsOf (l : Pl) : Array Oper := (l.map (·.1)).toArray
def ancB (b : Array Nat) (j i : Nat) : Bool := (b.getD j 0).testBit i
def namesOf (ops : Array Oper) (o : Oper) : List Tmp := o.dst.toList ++ o.looksAt ops
def hasDst (o : Oper) (ns : List Tmp) : Bool :=
 match o.dst with
 | some d => ns.contains d
 | none => false
def chkE (l : Pl) : Bool := (List.range l.length).all fun j => match l[j]? with
 | some (o, _) => o.after.all fun e => !Region.binds .any e || decide (e.on < j)
 | none => true
def chkA (l : Pl) (b : Array Nat) : Bool := (List.range l.length).all fun j => match l[j]? with
 | some (o, _) => (List.range l.length).all fun i => !ancB b j i || o.after.any fun e => Region.binds .any e && (e.on == i || ancB b e.on i)
 | none => true
def pairs (l : Pl) (f : Nat → Oper × Plan → Nat → Oper × Plan → Bool) : Bool := (List.range l.length).all fun j => match l[j]? with
 | some oj => (List.range j).all fun i => match l[i]? with
  | some oi => f i oi j oj
  | none => true
 | none => true
def chkN (l : Pl) (b : Array Nat) : Bool := pairs l fun i oi j oj => !(hasDst oi.1 (namesOf (opsOf l) oj.1) || hasDst oj.1 (namesOf (opsOf l) oi.1)) || ancB b j i
def chkC (l : Pl) (b : Array Nat) : Bool := pairs l fun i oi j oj => !(oi.2.chain && oj.2.chain && !oj.2.isFl || oi.2.isWr && oj.2.isRd || oi.2.isRd && oj.2.isWr) || ancB b j i
def chkL (l : Pl) (b : Array Nat) : Bool := (List.range l.length).all fun i => match l[i]? with
 | some (_, .rd lo) => (List.range l.length).all fun c => match l[c]? with
  | some (_, p) => (!(p.chain && decide (chBefore l c < lo)) || ancB b i c) && (!(p.isWr && decide (c < i)) || decide (chBefore l c < lo)) && (match p with
   | .up q => decide (q ≤ chBefore l c) && (decide (chBefore l c < lo) || decide (i < c) && ancB b c i || decide (lo ≤ q))
   | _ => true)
  | none => true
 | _ => true
def chkR (l : Pl) (b : Array Nat) : Bool := (List.range l.length).all fun i => match l[i]? with
 | some (_, .rw lo) => (List.range l.length).all fun c => match l[c]? with
  | some (_, p) => !(p.chain && decide (chBefore l c < lo)) || ancB b i c
  | none => true
 | _ => true
def chkF (l : Pl) : Bool := (List.range l.length).all fun i => match l[i]? with
 | some (o, .fl) => (o.dst.isSome && o.guard.isNone) && (List.range l.length).all fun j => match l[j]? with
  | some (o', p) => decide (j = i) || !hasDst o (namesOf (opsOf l) o') || (p.chain && !p.isFl)
  | none => true
 | _ => true
def planOk (nt : Nat) (l : Pl) : Bool := chkE l && chkA l (Region.before (opsOf l)) && chkN l (Region.before (opsOf l)) && chkC l (Region.before (opsOf l)) && chkL l (Region.before (opsOf l)) && chkF l && chkR l (Region.before (opsOf l)) && l.all (fun o => dstOk nt o.1)
theorem pairs_get {l : Pl} {f : Nat → Oper × Plan → Nat → Oper × Plan → Bool} (h : pairs l f = true) {i j : Nat} {oi oj : Oper × Plan} (hi : l[i]? = some oi) (hj : l[j]? = some oj) (hij : i < j) : f i oi j oj = true := by
 unfold pairs at h
 have hjl := (List.getElem?_eq_some_iff.1 hj).1
 have h1 := List.all_eq_true.1 h j (List.mem_range.2 hjl)
 rw [hj] at h1
 have h2 := List.all_eq_true.1 h1 i (List.mem_range.2 hij)
 rw [hi] at h2
 exact h2
section
variable {P : Program} {l : Pl}
theorem chBefore_le (l : Pl) : ∀ {i j : Nat}, i ≤ j → chBefore l i ≤ chBefore l j := by
  intro i j h
  induction j with
  | zero => have : i = 0 := by omega
            subst this; exact Nat.le_refl _
  | succ j ih =>
    rcases Nat.lt_or_ge i (j + 1) with h1 | h1
    · have := ih (by omega)
      simp only [chBefore]
      split
      · split <;> omega
      · omega
    · have : i = j + 1 := by omega
      subst this; exact Nat.le_refl _
theorem chBefore_lt {i j : Nat} {o : Oper} {p : Plan} (hi : l[i]? = some (o, p)) (hp : p.chain = true) (h : i < j) : chBefore l i < chBefore l j := by
 have h1 := chBefore_le l (show i + 1 ≤ j from h)
 have h2 : chBefore l (i + 1) = chBefore l i + 1 := by simp only [chBefore, hi, hp, if_true]
 omega
theorem ch_at (l : Pl) : ∀ (n q : Nat), q < chBefore l n → ∃ c o p, c < n ∧ l[c]? = some (o, p) ∧ p.chain = true ∧ chBefore l c = q
 | 0, q, h => by simp [chBefore] at h
 | n + 1, q, h => by
  simp only [chBefore] at h
  split at h
  ·rename_i o p hl
   split at h
   ·rename_i hp
    by_cases hq : q = chBefore l n
    ·exact ⟨n, o, p, by omega, hl, hp, hq.symm⟩
    ·obtain ⟨c, o, p, h1, h2⟩ := ch_at l n q (by omega)
     exact ⟨c, o, p, by omega, h2⟩
   ·obtain ⟨c, o, p, h1, h2⟩ := ch_at l n q h
    exact ⟨c, o, p, by omega, h2⟩
  ·obtain ⟨c, o, p, h1, h2⟩ := ch_at l n q h
   exact ⟨c, o, p, by omega, h2⟩
theorem get_putO (o : Oper) (x : AV) (tm : Tm) (t : Nat) : Tm.get (putO o.dst x tm) t = if o.dst = some t then x else Tm.get tm t := by
 unfold putO
 cases o.dst with
 | none => simp
 | some d =>
  simp only [Tm.get, Option.some.injEq]
  by_cases h : t = d
  ·subst h; simp
  ·rw [if_neg h, if_neg (fun e => h e.symm)]
theorem get_step {xs : List AV} {sel : Nat → Bool} {tm : Tm} {t n : Nat} : Tm.get (tmSel l xs sel tm (n + 1)) t = match l[n]?, xs[n]? with
  | some (o, _), some x => if sel n = true ∧ o.dst = some t then x else Tm.get (tmSel l xs sel tm n) t
  | _, _ => Tm.get (tmSel l xs sel tm n) t := by
 simp only [tmSel]
 cases l[n]? with
 | none => rfl
 | some op =>
  obtain ⟨o, p⟩ := op
  cases xs[n]? with
  | none => rfl
  | some x =>
   simp only
   by_cases hs : sel n = true
   ·rw [if_pos hs, get_putO]
    by_cases hd : o.dst = some t
    ·rw [if_pos hd, if_pos ⟨hs, hd⟩]
    ·rw [if_neg hd, if_neg (fun h => hd h.2)]
   ·rw [if_neg hs, if_neg (fun h => hs h.1)]
theorem get_agree2 {xs xs' : List AV} {sel sel' : Nat → Bool} {tm : Tm} {t : Nat} : ∀ n, (∀ j o p, j < n → l[j]? = some (o, p) → o.dst = some t → sel j = sel' j ∧ (sel j = true → xs[j]? = xs'[j]?)) →
  (∀ j, j < n → xs[j]?.isSome = true ∧ xs'[j]?.isSome = true) → Tm.get (tmSel l xs sel tm n) t = Tm.get (tmSel l xs' sel' tm n) t
 | 0, _, _ => rfl
 | n + 1, h, hx => by
  have ih := get_agree2 (xs := xs) (xs' := xs') (tm := tm) n (fun j o p hj => h j o p (by omega)) (fun j hj => hx j (by omega))
  rw [get_step, get_step, ih]
  obtain ⟨x, hx1⟩ := Option.isSome_iff_exists.1 (hx n (by omega)).1
  obtain ⟨x', hx2⟩ := Option.isSome_iff_exists.1 (hx n (by omega)).2
  rw [hx1, hx2]
  cases hl : l[n]? with
  | none => rfl
  | some op =>
   obtain ⟨o, p⟩ := op
   simp only
   by_cases hd : o.dst = some t
   ·obtain ⟨h1, h2⟩ := h n o p (by omega) hl hd
    rw [← h1]
    by_cases hs : sel n = true
    ·have := h2 hs
     rw [hx1, hx2] at this
     injection this with this
     rw [if_pos ⟨hs, hd⟩, if_pos ⟨hs, hd⟩, this]
    ·rw [if_neg (fun h => hs h.1), if_neg (fun h => hs h.1)]
   ·rw [if_neg (fun h => hd h.2), if_neg (fun h => hd h.2)]
def earlyB (l : Pl) (listed : Array Bool) (k j : Nat) : Bool := listed.getD j false && (match l[j]? with
 | some (_, p) => p.chain && decide (k ≤ chBefore l j)
 | none => false)
def xsJ (l : Pl) (xs : List AV) (listed : Array Bool) (k : Nat) : List AV := (List.range l.length).map fun j => if earlyB l listed k j then .one .junk else (xs[j]?).getD (.one .junk)
theorem xsJ_get {xs : List AV} {listed : Array Bool} {k j : Nat} (hj : j < l.length) : (xsJ l xs listed k)[j]? = some (if earlyB l listed k j then .one .junk else (xs[j]?).getD (.one .junk)) := by
 simp [xsJ, hj]
theorem RepM.claim {ρ : Env} {mem : AMem} {w : World} (h : RepM ρ mem w) {n : Nat} {ty : TypeId} {cells : List CV} {c : Array Value} (hheap : w.heap[n]? = some (.cells c ty (0, 0))) (hall : All2 (VC ρ) cells c.toList)
  (hne : ∀ (r : Nat) (b : Blk) (x : Addr) (κ : Nat), mem[r]? = some b → (b.kind = .ro → b.cells ≠ []) → ρ r b.ver = some (some x, κ) → x.block ≠ n) :
  RepM (ρ.set mem.length 0 (some ⟨n, 0, none⟩, c.size)) (mem ++ [⟨.fix, ty, 0, 0, cells⟩]) w := by
 have hle : ρ.le (ρ.set mem.length 0 (some ⟨n, 0, none⟩, c.size)) := Env.le_set (h.dom _ _ (Nat.le_refl _))
 have hgt : ∀ {r : Nat} {c : Blk}, (mem ++ [⟨.fix, ty, 0, 0, cells⟩])[r]? = some c → (r < mem.length ∧ mem[r]? = some c) ∨ (r = mem.length ∧ c = ⟨.fix, ty, 0, 0, cells⟩) := by
  intro r c hc
  rcases Nat.lt_trichotomy r mem.length with hr | hr | hr
  ·exact .inl ⟨hr, by rwa [List.getElem?_append_left hr] at hc⟩
  ·subst hr; simp at hc; exact .inr ⟨rfl, hc.symm⟩
  ·rw [List.getElem?_append_right (by omega)] at hc
   rw [List.getElem?_eq_none (by simp; omega)] at hc
   cases hc
 have hold : ∀ {r v : Nat}, r < mem.length → ρ.set mem.length 0 (some ⟨n, 0, none⟩, c.size) r v = ρ r v := fun {r v} hr => Env.set_other ρ _ (by omega)
 refine ⟨?_, ?_, ?_, ?_⟩
 ·intro r c' hc
  rcases hgt hc with ⟨hr, hc1⟩ | ⟨e1, e2⟩
  ·exact (h.blk r c' hc1).mono hle
  ·subst e1; subst e2
   exact ⟨n, c, c.size, Env.set_same _ _ _ _, hheap, hall.mono fun _ _ => VC.mono hle, rfl⟩
 ·intro r v hr
  simp at hr
  rw [Env.set_other ρ _ (by omega)]
  exact h.dom r v (by omega)
 ·intro r c' v hc hv
  rcases hgt hc with ⟨hr, hc1⟩ | ⟨e1, e2⟩
  ·rw [hold hr]; exact h.domv r c' v hc1 hv
  ·subst e1; subst e2
   rw [Env.set_other ρ _ (by simp only at hv; omega)]; exact h.dom _ _ (Nat.le_refl _)
 ·intro r s c' d hc hd hrs hk hne' x y k l hx hy
  rcases hgt hc with ⟨hr, hc1⟩ | ⟨e1, e2⟩ <;> rcases hgt hd with ⟨hs, hd1⟩ | ⟨e3, e4⟩
  ·rw [hold hr] at hx; rw [hold hs] at hy
   exact h.sep r s c' d hc1 hd1 hrs hk hne' x y k l hx hy
  ·subst e3; subst e4; rw [hold hr] at hx; rw [Env.set_same] at hy
   injection hy with hy; injection hy with hy _; injection hy with hy; subst hy
   exact hne r c' x k hc1 (fun e => absurd e hk) hx
  ·subst e1; subst e2; rw [hold hs] at hy; rw [Env.set_same] at hx
   injection hx with hx; injection hx with hx _; injection hx with hx; subst hx
   exact fun e => hne s d y l hd1 hne' hy e.symm
  ·exact absurd (e1.trans e3.symm) hrs
theorem Step.claim {m0 mem : AMem} {ρ0 ρ : Env} {w0 w : World} (hs : Step m0 ρ0 w0 mem ρ w) (hm : RepM ρ mem w) {n : Nat} (hge : w0.heap.size ≤ n) (ty : TypeId) (cells : List CV) (kk : Nat) :
  Step m0 ρ0 w0 (mem ++ [⟨.fix, ty, 0, 0, cells⟩]) (ρ.set mem.length 0 (some ⟨n, 0, none⟩, kk)) w := by
 have hle : ρ.le (ρ.set mem.length 0 (some ⟨n, 0, none⟩, kk)) := Env.le_set (hm.dom _ _ (Nat.le_refl _))
 have hgt : ∀ {r : Nat} {c : Blk}, (mem ++ [⟨.fix, ty, 0, 0, cells⟩])[r]? = some c → (r < mem.length ∧ mem[r]? = some c) ∨ (r = mem.length ∧ c = ⟨.fix, ty, 0, 0, cells⟩) := by
  intro r c hc
  rcases Nat.lt_trichotomy r mem.length with hr | hr | hr
  ·exact .inl ⟨hr, by rwa [List.getElem?_append_left hr] at hc⟩
  ·subst hr; simp at hc; exact .inr ⟨rfl, hc.symm⟩
  ·rw [List.getElem?_append_right (by omega)] at hc
   rw [List.getElem?_eq_none (by simp; omega)] at hc
   cases hc
 refine ⟨hs.os, hs.tape, hs.output, hs.size, by simp only [List.length_append]; have := hs.len; omega, fun r hr v x hx => hle _ _ _ (hs.ext r hr v x hx), ?_, ?_, hs.frame, ?_⟩
 ·intro r b b' hb hb'
  have hr := (List.getElem?_eq_some_iff.1 hb).1
  have := hs.len
  rcases hgt hb' with ⟨_, h1⟩ | ⟨e1, _⟩
  ·exact hs.kind r b b' hb h1
  ·omega
 ·intro r b hb hro
  rcases hgt hb with ⟨_, h1⟩ | ⟨_, e2⟩
  ·exact hs.ro r b h1 hro
  ·subst e2; cases hro
 ·intro r b x k hb hk hx
  rcases hgt hb with ⟨hr, h1⟩ | ⟨e1, e2⟩
  ·rw [Env.set_other ρ _ (by omega)] at hx
   exact hs.fresh r b x k h1 hk hx
  ·subst e1; subst e2
   rw [Env.set_same] at hx
   injection hx with hx; injection hx with hx _; injection hx with hx; subst hx
   exact .inl hge
theorem RepM.garbage {ρ : Env} {mem : AMem} {w : World} (h : RepM ρ mem w) (o : Obj) : RepM ρ mem (w.alloc o) ∧ Step mem ρ w mem ρ (w.alloc o) :=
  ⟨⟨fun r b hb => (h.blk r b hb).heap (by simp) fun x k _ _ hl => halloc_old w o _ hl, h.dom, h.domv, h.sep⟩,
   ⟨rfl, rfl, rfl, by simp, Nat.le_refl _, fun _ _ _ _ h => h, (fun r b b' h1 h2 => by rw [h1] at h2; injection h2 with e; rw [e]), fun _ _ h _ => h, fun n hn _ => halloc_old w o n hn, fun r b x k h1 h2 h3 => .inr ⟨r, b, x, k, h1, h2, h3, rfl⟩⟩⟩
theorem tmSel_lt {xs : List AV} {tm : Tm} {i : Nat} : ∀ n, i ≤ n → tmSel l xs (fun j => decide (j < i)) tm n = tmSel l xs (fun _ => true) tm i := by
  have low : ∀ k, k ≤ i → tmSel l xs (fun j => decide (j < i)) tm k = tmSel l xs (fun _ => true) tm k := by
    intro k
    induction k with
    | zero => intro _; rfl
    | succ k ih =>
      intro hk
      simp only [tmSel]
      rw [ih (by omega)]
      split
      · rw [if_pos (by simp; omega)]; simp
      · rfl
  intro n hn
  induction n with
  | zero => have : i = 0 := by omega
            subst this; rfl
  | succ n ih =>
    by_cases h : i = n + 1
    · subst h; exact low _ (Nat.le_refl _)
    · rw [← ih (by omega)]
      simp only [tmSel]
      split
      · rw [if_neg (by simp; omega)]
      · rfl
theorem get_last {xs : List AV} {sel : Nat → Bool} {tm : Tm} {t i : Nat} {o : Oper} {p : Plan} {x : AV} (hi : l[i]? = some (o, p)) (hd : o.dst = some t) (hx : xs[i]? = some x) (hs : sel i = true) :
  ∀ n, i < n → (∀ j o p, i < j → j < n → l[j]? = some (o, p) → o.dst = some t → sel j = false) → Tm.get (tmSel l xs sel tm n) t = x
 | 0, h, _ => by omega
 | n + 1, h, hlater => by
  simp only [tmSel]
  by_cases hin : i = n
  ·subst hin
   rw [hi, hx]
   simp only [hs, if_true]
   rw [get_putO, if_pos hd]
  ·have ih := get_last (tm := tm) hi hd hx hs n (by omega) (fun j o p h1 h2 => hlater j o p h1 (by omega))
   split
   ·rename_i o' p' x' hl hx'
    by_cases hd' : o'.dst = some t
    ·rw [hlater n o' p' (by omega) (by omega) hl hd']; simpa using ih
    ·split
     ·rw [get_putO, if_neg hd']; exact ih
     ·exact ih
   ·exact ih
theorem evVal_nil {e : Operand → AV} {op : Op} {x : AV} (h : evVal P e [] op = some (x, [])) (M : AMem) : evVal P e M op = some (x, M) := by
 have mp : ∀ {y : Option AV}, (y.map fun z => (z, ([] : AMem))) = some (x, []) → (y.map fun z => (z, M)) = some (x, M) := by
  intro y h
  simp only [Option.map_eq_some_iff, Prod.mk.injEq] at h ⊢
  obtain ⟨a, h1, h2⟩ := h
  exact ⟨a, h1, h2.1, trivial⟩
 have hne : ∀ {y : AV} {b : Blk}, some (y, ([] : AMem) ++ [b]) = some (x, []) → False := by
  intro y b h; simp at h
 unfold evVal at h ⊢
 split at h
 ·injection h with h; injection h with h; subst h; rfl
 ·injection h with h; injection h with h; subst h; rfl
 ·split at h
  ·rename_i hc; injection h with h; injection h with h; subst h; simp only [hc]
  ·cases h
 ·unfold allocA at h; split at h
  ·exact (hne h).elim
  ·cases h
 ·unfold boxA at h; split at h
  ·exact (hne h).elim
  ·cases h
 ·exact mp h
 ·unfold buildSliceA at h
  split at h
  ·split at h
   ·split at h
    ·split at h
     ·exact (hne h).elim
     ·cases h
    ·cases h
   ·cases h
  ·cases h
 ·rename_i t y
  simp only [Option.map_eq_some_iff] at h
  obtain ⟨a, h1, _⟩ := h
  unfold loadA at h1
  split at h1
  ·simp at h1
  ·simp [gB] at h1
  ·cases h1
 ·split at h
  ·rename_i r v o hc; injection h with h; injection h with h; subst h; simp only [hc]
  ·rename_i f cs hc; injection h with h; injection h with h; subst h; simp only [hc]
  ·rename_i g o hc; injection h with h; injection h with h; subst h; simp only [hc]
  ·cases h
 ·exact mp h
 ·exact mp h
 ·exact convS_nil P h
 ·simp only [Option.map_eq_some_iff, Prod.mk.injEq] at h ⊢
  obtain ⟨a, h1, h2⟩ := h
  exact ⟨a, sliceM_nil P h1, h2.1, trivial⟩
 ·exact mp h
 ·exact mp h
 ·exact mp h
 ·exact mp h
 ·exact mp h
 ·exact mp h
 ·split at h
  ·rename_i h0
   rw [if_pos h0]
   simp only [Option.map_eq_some_iff, Prod.mk.injEq] at h ⊢
   obtain ⟨a, h1, h2⟩ := h
   exact ⟨a, h1, h2.1, trivial⟩
  ·rename_i h0
   rw [if_neg h0]
   split at h
   ·rename_i h1
    rw [if_pos h1]
    exact mp h
   ·cases h
 ·unfold makeA at h
  split at h
  ·split at h
   ·split at h
    ·exact (hne h).elim
    ·cases h
   ·cases h
  ·cases h
 ·unfold builtinA at h ⊢
  split at h
  ·simp only [Option.map_eq_some_iff, Prod.mk.injEq] at h ⊢
   obtain ⟨a, h1, h2⟩ := h
   exact ⟨a, lenV_nil h1 M, h2.1, trivial⟩
  ·split at h
   ·unfold appendA at h
    split at h
    ·split at h
     ·split at h
      ·split at h
       ·split at h
        ·split at h
         ·split at h
          ·exact (hne h).elim
          ·cases h
         ·simp at h
         ·cases h
        ·cases h
       ·cases h
      ·cases h
     ·cases h
    ·cases h
   ·cases h
  ·unfold copyA at h
   split at h
   ·split at h
    ·rename_i hb _; simp at hb
    ·cases h
   ·cases h
  ·exact mp h
  ·unfold usA at h ⊢
   split at h
   ·split at h
    ·rename_i h0
     rw [if_pos h0]
     injection h with h; injection h with h1 h2; subst h1; rfl
    ·cases h
   ·simp at h
   ·cases h
  ·exact mp h
  ·exact mp h
  ·unfold clearA at h ⊢
   split at h
   ·rw [mapAt_nil] at h; cases h
   ·injection h with h; injection h with h; subst h; rfl
   ·cases h
  ·unfold deleteA at h
   split at h
   ·rw [mapAt_nil] at h; cases h
   ·cases h
  ·cases h
 ·unfold makeMapA at h
  split at h
  ·split at h
   ·exact (hne h).elim
   ·cases h
  ·cases h
 ·simp only [Option.map_eq_some_iff] at h
  obtain ⟨a, h1, _⟩ := h
  unfold lookupA at h1
  split at h1
  ·rw [mapAt_nil] at h1; cases h1
  ·cases h1
 ·simp only [Option.map_eq_some_iff] at h
  obtain ⟨a, h1, _⟩ := h
  unfold mapUpA at h1
  split at h1
  ·rw [mapAt_nil] at h1; cases h1
  ·cases h1
 ·unfold mapEntryA at h
  split at h
  ·rw [mapAt_nil] at h; cases h
  ·cases h
 ·simp only [Option.map_eq_some_iff] at h
  obtain ⟨a, h1, _⟩ := h
  unfold entryStoreA at h1
  split at h1
  ·rw [mapAt_nil] at h1; cases h1
  ·cases h1
 ·unfold rangeA at h
  split at h
  ·rw [mapAt_nil] at h; cases h
  ·cases h
 ·simp only [Option.map_eq_some_iff] at h
  obtain ⟨a, h1, _⟩ := h
  unfold entryA at h1
  split at h1
  ·simp at h1
  ·cases h1
 ·cases h
theorem does_of_evVal {o : Oper} {e : Operand → AV} {M M' : AMem} {x : AV} (h : evVal P e M o.op = some (x, M')) : Does P o e M x M' := by
 unfold Does
 split
 ·rename_i hop; rw [hop] at h; simp [evVal] at h
 ·rename_i hop; rw [hop] at h; simp [evVal] at h
 ·exact h
theorem loadA_mono {t : TypeId} {x y : AV} {M M' : AMem} (h : loadA P t x M = some y) (hm : ∀ (r : Nat) (b : Blk), M[r]? = some b → M'[r]? = some b) : loadA P t x M' = some y := by
 unfold loadA at h ⊢
 split at h
 ·rename_i r ver off
  split at h
  ·rename_i b hb
   rw [hm r b hb]; exact h
  ·cases h
 ·rename_i g off
  have he : M' = M ++ M'.drop M.length := by
   refine List.ext_getElem? fun i => ?_
   rcases Nat.lt_or_ge i M.length with hi | hi
   ·rw [List.getElem?_append_left hi, List.getElem?_eq_getElem hi]
    exact hm i _ (List.getElem?_eq_getElem hi)
   ·rw [List.getElem?_append_right hi, List.getElem?_drop]
    congr 1; omega
  split at h
  ·rename_i cs hcs
   have : gB M' g = some cs := by
    rw [he]; unfold gB at hcs ⊢
    rw [List.find?_append]
    cases hf : M.find? fun b => b.kind.tag == 2 && b.ver == g + 1 && !b.cells.isEmpty with
    | none => rw [hf] at hcs; cases hcs
    | some b => rw [hf] at hcs; simpa using hcs
   rw [this]; exact h
  ·cases h
 ·cases h
theorem wantedA_congr {ops : Array Oper} {o : Oper} {tm tm' : Tm} (h : ∀ t, t ∈ o.looksAt ops → Tm.get tm t = Tm.get tm' t) : wantedA ops o tm = wantedA ops o tm' := by
 unfold wantedA
 cases hg : o.guard with
 | none => rfl
 | some jw =>
  obtain ⟨j, want⟩ := jw
  simp only
  cases hd : (ops[j]?).bind (·.dst) with
  | none => rfl
  | some t =>
   simp only
   rw [h t (by unfold Oper.looksAt; simp [hg, hd])]
theorem opd_congr {ops : Array Oper} {o : Oper} {tm tm' : Tm} (h : ∀ t, t ∈ o.looksAt ops → Tm.get tm t = Tm.get tm' t) : ∀ y ∈ o.op.operands, opd tm y = opd tm' y := by
 intro y hy
 cases y with
 | tmp t => exact h t (by unfold Oper.looksAt; exact List.mem_append_left _ (List.mem_filterMap.2 ⟨.tmp t, by simpa using hy, rfl⟩))
 | _ => rfl
theorem countP_lt {α : Type} {p q : α → Bool} : ∀ {l : List α}, (∀ x, x ∈ l → q x = true → p x = true) → ∀ x, x ∈ l → p x = true → q x = false → l.countP q < l.countP p
 | [], _, x, hx, _, _ => by cases hx
 | y :: l, h, x, hx, hp, hq => by
  have hle : l.countP q ≤ l.countP p := List.countP_mono_left fun z hz => h z (List.mem_cons_of_mem _ hz)
  rcases List.mem_cons.1 hx with rfl | hx
  ·rw [List.countP_cons_of_pos hp, List.countP_cons_of_neg (by simp [hq])]; omega
  ·have ih := countP_lt (fun z hz => h z (List.mem_cons_of_mem _ hz)) x hx hp hq
   by_cases hy : q y = true
   ·rw [List.countP_cons_of_pos hy, List.countP_cons_of_pos (h y List.mem_cons_self hy)]; omega
   ·rw [List.countP_cons_of_neg hy]
    by_cases hy' : p y = true
    ·rw [List.countP_cons_of_pos hy']; omega
    ·rw [List.countP_cons_of_neg hy']; exact ih
theorem aopsD_sound {nt : Nat} (hok : planOk nt l = true) {tm : Tm} {mem : AMem} {K : Tm → AMem → Prop} (h : AOpsD P (opsOf l) l tm mem [mem] [] K) {ρ0 : Env} {a0 : Act} {w0 : World} {Q : Exit → Act → World → Prop}
  (hr0 : Rep ρ0 nt tm mem a0 w0) (hQ : ∀ ρ' tm' mem' a' w', Rep ρ' nt tm' mem' a' w' → Step mem ρ0 w0 mem' ρ' w' → a'.defers = a0.defers → K tm' mem' → Q .normal a' w') :
  wpAny P .any (opsOf l) Q (opsOf l).size (Array.replicate (opsOf l).size false) a0 w0 := by
 obtain ⟨Wt, xs, Ms, tmF, memF, _, hWt, hrun, hK⟩ := run_of_aopsD l tm mem [mem] [] K h
 obtain ⟨hxl, htmF, hmemF, hfacts⟩ := run_facts hrun 0 rfl rfl
 simp only [Nat.zero_add] at hmemF hfacts
 simp only [planOk, Bool.and_eq_true] at hok
 obtain ⟨⟨⟨⟨⟨⟨⟨hE, hA⟩, hN⟩, hC⟩, hL⟩, hF⟩, hR⟩, hD⟩ := hok
 generalize hb : Region.before (opsOf l) = b at hA hN hC hL hR
 have hsz : (opsOf l).size = l.length := by simp [opsOf]
 have hat : ∀ i, i < l.length → ∃ o p, l[i]? = some (o, p) := fun i hi => ⟨(l[i]'hi).1, (l[i]'hi).2, by rw [List.getElem?_eq_getElem hi]⟩
 have hxsome : ∀ i, i < l.length → xs[i]?.isSome = true := fun i hi => by
  obtain ⟨o, p, hi'⟩ := hat i hi
  obtain ⟨x, _, _, hx, _⟩ := hfacts i o p hi'
  rw [hx]; rfl
 have hxJsome : ∀ listed k i, i < l.length → (xsJ l xs listed k)[i]?.isSome = true := fun listed k i hi => by rw [xsJ_get hi]; rfl
 have hMl : ∀ {k : Nat} {M : AMem}, Ms[k]? = some M → k ≤ chBefore l l.length := fun {k M} hk => by
  have := (List.getElem?_eq_some_iff.1 hk).1
  omega
 have hops : ∀ {i : Nat} {o : Oper}, (opsOf l)[i]? = some o → ∃ p, l[i]? = some (o, p) := by
  intro i o ho
  simp only [opsOf, List.getElem?_toArray, List.getElem?_map, Option.map_eq_some_iff] at ho
  obtain ⟨⟨o', p⟩, h1, rfl⟩ := ho
  exact ⟨p, h1⟩
 have hops' : ∀ {i : Nat} {o : Oper} {p : Plan}, l[i]? = some (o, p) → (opsOf l)[i]? = some o := by
  intro i o p h
  simp [opsOf, h]
 have hEdge : ∀ {j : Nat} {o : Oper} {p : Plan}, l[j]? = some (o, p) → ∀ e ∈ o.after, Region.binds .any e = true → e.on < j := by
  intro j o p hj e he hbd
  have h1 := List.all_eq_true.1 hE j (List.mem_range.2 (List.getElem?_eq_some_iff.1 hj).1)
  rw [hj] at h1
  have h2 := Array.all_eq_true_iff_forall_mem.1 h1 e he
  simpa [hbd] using h2
 have hAnc : ∀ {j : Nat} {o : Oper} {p : Plan}, l[j]? = some (o, p) → ∀ i, i < l.length → ancB b j i = true → ∃ e ∈ o.after, Region.binds .any e = true ∧ (e.on = i ∨ ancB b e.on i = true) := by
  intro j o p hj i hi hb
  have h1 := List.all_eq_true.1 hA j (List.mem_range.2 (List.getElem?_eq_some_iff.1 hj).1)
  rw [hj] at h1
  have h2 := List.all_eq_true.1 h1 i (List.mem_range.2 hi)
  rw [hb] at h2
  simp only [Bool.not_true, Bool.false_or] at h2
  obtain ⟨e, he, h3⟩ := Array.any_eq_true'.1 h2
  simp only [Bool.and_eq_true, Bool.or_eq_true, beq_iff_eq] at h3
  exact ⟨e, he, h3.1, h3.2⟩
 have hFg : ∀ {i : Nat} {o : Oper}, l[i]? = some (o, Plan.fl) → o.guard = none := by
  intro i o hi
  have h1 := List.all_eq_true.1 hF i (List.mem_range.2 (List.getElem?_eq_some_iff.1 hi).1)
  rw [hi] at h1
  simp only [Bool.and_eq_true] at h1
  exact Option.isNone_iff_eq_none.1 h1.1.2
 have hFl : ∀ {i : Nat} {o : Oper}, l[i]? = some (o, Plan.fl) → (∃ d, o.dst = some d) ∧ ∀ j o' p', l[j]? = some (o', p') → j ≠ i → ∀ d, o.dst = some d → d ∈ namesOf (opsOf l) o' → p'.chain = true ∧ p'.isFl = false := by
  intro i o hi
  have h1 := List.all_eq_true.1 hF i (List.mem_range.2 (List.getElem?_eq_some_iff.1 hi).1)
  rw [hi] at h1
  simp only [Bool.and_eq_true] at h1
  refine ⟨Option.isSome_iff_exists.1 h1.1.1, fun j o' p' hj hji d hd hmem => ?_⟩
  have h2 := List.all_eq_true.1 h1.2 j (List.mem_range.2 (List.getElem?_eq_some_iff.1 hj).1)
  rw [hj] at h2
  have h3 : hasDst o (namesOf (opsOf l) o') = true := by simp [hasDst, hd, hmem]
  simp only [h3, Bool.not_true, Bool.or_false, Bool.or_eq_true, decide_eq_true_eq, Bool.and_eq_true, Bool.not_eq_true'] at h2
  rcases h2 with h2 | h2
  ·exact absurd h2 hji
  ·exact h2
 have hisFl : ∀ {p : Plan}, p.isFl = true → p = .fl := fun {p} h => by cases p <;> simp [Plan.isFl] at h; rfl
 have hflf : ∀ {c : Nat} {o : Oper}, l[c]? = some (o, Plan.fl) → ∃ t z M1, o.op = .alloc t ∧ zeroOf P t = some z ∧ xs[c]? = some (.one (.ptr M1.length 0 0)) ∧ Ms[chBefore l c]? = some M1 ∧ Ms[chBefore l c + 1]? = some (M1 ++ [⟨.fix, t, 0, 0, z.cells.toList.map cellOf⟩]) ∧ o.guard = none := by
  intro c o hc
  obtain ⟨x, M1, M2, hx, hM1, hM2, hop⟩ := hfacts c o _ hc
  have hc1 : chBefore l (c + 1) = chBefore l c + 1 := by simp only [chBefore, hc, Plan.chain, if_true]
  rw [hc1] at hM2
  have hop' : o.guard = none ∧ ∃ t z, o.op = .alloc t ∧ zeroOf P t = some z ∧ x = .one (.ptr M1.length 0 0) ∧ M2 = M1 ++ [⟨.fix, t, 0, 0, z.cells.toList.map cellOf⟩] := by
   rcases hop with ⟨hw, _⟩ | ⟨_, hop⟩
   ·exfalso
    simp [wantedA, hFg hc] at hw
   ·exact hop
  obtain ⟨hg, t, z, h1, h2, h3, h4⟩ := hop'
  subst h3; subst h4
  exact ⟨t, z, M1, h1, h2, hx, hM1, hM2, hg⟩
 let Jn : Array Bool → Prop := fun listed => listed.size = l.length ∧ ∀ j o p, l[j]? = some (o, p) → listed.getD j false = true → ∀ e ∈ o.after, Region.binds .any e = true → listed.getD e.on false = true
 have hclosed : ∀ {listed : Array Bool}, Jn listed → ∀ (j : Nat) (o : Oper) (p : Plan), l[j]? = some (o, p) → listed.getD j false = true → ∀ i, i < l.length → ancB b j i = true → listed.getD i false = true := by
  intro listed hJ j
  induction j using Nat.strongRecOn with
  | _ j ih =>
   intro o p hj hl i hi hanc
   obtain ⟨e, he, hbd, hor⟩ := hAnc hj i hi hanc
   have hel := hJ.2 j o p hj hl e he hbd
   rcases hor with rfl | hor
   ·exact hel
   ·have hlt := hEdge hj e he hbd
    have hjl := (List.getElem?_eq_some_iff.1 hj).1
    obtain ⟨oe, pe, hoe⟩ := hat e.on (by omega)
    exact ih e.on hlt oe pe hoe hel i hi hor
 let St : Array Bool → Nat → Act → World → Prop := fun listed k a w => ∃ (ρ : Env) (M : AMem) (N : Nat → Nat), Ms[k]? = some M ∧
  (∀ c o p, l[c]? = some (o, p) → p.chain = true → chBefore l c < k → listed.getD c false = true) ∧
  (∀ c o p, l[c]? = some (o, p) → p.chain = true → listed.getD c false = true → k ≤ chBefore l c → p = .fl) ∧
  Rep ρ nt (tmSel l (xsJ l xs listed k) (fun j => listed.getD j false) tm l.length) M a w ∧ Step mem ρ0 w0 M ρ w ∧ a.defers = a0.defers ∧
  (∀ c o, l[c]? = some (o, Plan.fl) → listed.getD c false = true → k ≤ chBefore l c → ∃ t z d, o.op = .alloc t ∧ zeroOf P t = some z ∧ o.dst = some d ∧ a.tmps.getD d undef = .pointer (some ⟨N c, 0, none⟩) ∧
   w.heap[N c]? = some (.cells z.cells t (0, 0)) ∧ w0.heap.size ≤ N c ∧ ∀ (r : Nat) (b : Blk) (x : Addr) (κ : Nat), M[r]? = some b → (b.kind = .ro → b.cells ≠ []) → ρ r b.ver = some (some x, κ) → x.block ≠ N c) ∧
  (∀ c c' o o', l[c]? = some (o, Plan.fl) → l[c']? = some (o', Plan.fl) → listed.getD c false = true → listed.getD c' false = true → k ≤ chBefore l c → k ≤ chBefore l c' → c ≠ c' → N c ≠ N c')
 have hearly : ∀ {listed : Array Bool} {k j : Nat} {o : Oper} {p : Plan}, l[j]? = some (o, p) → (earlyB l listed k j = true ↔ listed.getD j false = true ∧ p.chain = true ∧ k ≤ chBefore l j) := by
  intro listed k j o p hj
  simp [earlyB, hj]
 have huniq : ∀ {c c' : Nat} {o o' : Oper} {p p' : Plan}, l[c]? = some (o, p) → l[c']? = some (o', p') → p.chain = true → p'.chain = true → chBefore l c = chBefore l c' → c = c' := by
  intro c c' o o' p p' hc hc' hp hp' he
  rcases Nat.lt_trichotomy c c' with h | h | h
  ·have := chBefore_lt hc hp h; omega
  ·exact h
  ·have := chBefore_lt hc' hp' h; omega
 have absorb : ∀ (m : Nat) (listed : Array Bool) (k : Nat) (a : Act) (w : World), Jn listed → chBefore l l.length - k ≤ m → St listed k a w →
   ∃ k', St listed k' a w ∧ ∀ c o p, l[c]? = some (o, p) → p.chain = true → chBefore l c = k' → listed.getD c false = false := by
  intro m
  induction m with
  | zero =>
   intro listed k a w hJ hm hS
   refine ⟨k, hS, fun c o p hc hp hk => ?_⟩
   obtain ⟨ρ, M, N, hM, _⟩ := hS
   have := hMl hM
   have := chBefore_lt hc hp (List.getElem?_eq_some_iff.1 hc).1
   omega
  | succ m ih =>
   intro listed k a w hJ hm hS
   by_cases hex : ∃ c o p, l[c]? = some (o, p) ∧ p.chain = true ∧ chBefore l c = k ∧ listed.getD c false = true
   ·obtain ⟨c, o, p, hc, hp, hck, hlc⟩ := hex
    have hclt := chBefore_lt hc hp (List.getElem?_eq_some_iff.1 hc).1
    refine ih listed (k + 1) a w hJ (by omega) ?_
    obtain ⟨ρ, M, N, hM, hlow, hfl, hrep, hst, hdef, hpend, hdist⟩ := hS
    have hpf := hfl c o p hc hp hlc (by omega)
    subst hpf
    obtain ⟨t, z, d, h1, h2, h3, h4, h5, h6, h7⟩ := hpend c o hc hlc (by omega)
    obtain ⟨t', z', M1, g1, g2, g3, g4, g5, _⟩ := hflf hc
    rw [h1] at g1; injection g1 with g1; subst g1
    rw [h2] at g2; injection g2 with g2; subst g2
    rw [hck, hM] at g4; injection g4 with g4; subst g4
    rw [hck] at g5
    have hle : ρ.le (ρ.set M.length 0 (some ⟨N c, 0, none⟩, z.cells.size)) := Env.le_set (hrep.mem.dom _ _ (Nat.le_refl _))
    refine ⟨ρ.set M.length 0 (some ⟨N c, 0, none⟩, z.cells.size), _, N, g5, ?_, ?_, ⟨hrep.size, fun s => ?_, hrep.mem.claim h5 (All2_cellOf ρ _) h7⟩, hst.claim hrep.mem h6 _ _ _, hdef, ?_, ?_⟩
    ·intro c' o' p' hc' hp' hlt
     by_cases he : chBefore l c' = k
     ·rw [huniq hc' hc hp' rfl (he.trans hck.symm)]; exact hlc
     ·exact hlow c' o' p' hc' hp' (by omega)
    ·intro c' o' p' hc' hp' hl' hge; exact hfl c' o' p' hc' hp' hl' (by omega)
    ·by_cases hs : o.dst = some s
     ·have hds : d = s := by rw [h3] at hs; injection hs
      subst hds
      have hlast : Tm.get (tmSel l (xsJ l xs listed (k + 1)) (fun j => listed.getD j false) tm l.length) d = .one (.ptr M.length 0 0) := by
       refine get_last hc h3 ?_ hlc _ (List.getElem?_eq_some_iff.1 hc).1 fun j o' p' hcj hj hl' hd' => ?_
       ·rw [xsJ_get (List.getElem?_eq_some_iff.1 hc).1, g3, if_neg]
        ·rfl
        ·rw [hearly hc]; omega
       ·obtain ⟨q1, q2⟩ := (hFl hc).2 j o' p' hl' (by omega) d h3 (by simp [namesOf, hd'])
        cases hlj : listed.getD j false with
        | false => rfl
        | true =>
         exfalso
         have h8 := chBefore_lt hc rfl hcj
         have := hfl j o' p' hl' q1 hlj (by omega)
         subst this
         cases q2
      rw [hlast, h4]
      exact ⟨_, _, Env.set_same _ _ _ _, by simp [Addr.add]⟩
     ·have := (hrep.tm s).mono hle
      rw [get_agree2 (xs' := xsJ l xs listed (k + 1)) (sel' := fun j => listed.getD j false) l.length (fun j o' p' hj hl' hd' => ⟨rfl, fun hlj => ?_⟩) (fun j hj => ⟨hxJsome _ _ j hj, hxJsome _ _ j hj⟩)] at this
      ·exact this
      ·have hjc : j ≠ c := by rintro rfl; rw [hc] at hl'; injection hl' with hl'; injection hl' with e1 _; subst e1; exact hs hd'
       rw [xsJ_get hj, xsJ_get hj]
       have : earlyB l listed k j = earlyB l listed (k + 1) j := by
        rw [Bool.eq_iff_iff, hearly hl', hearly hl']
        constructor
        ·rintro ⟨q1, q2, q3⟩
         refine ⟨q1, q2, ?_⟩
         rcases Nat.lt_or_ge k (chBefore l j) with h | h
         ·omega
         ·exact absurd (huniq hl' hc q2 rfl (by omega)) hjc
        ·rintro ⟨q1, q2, q3⟩; exact ⟨q1, q2, by omega⟩
       rw [this]
    ·intro c' o' hc' hl' hge
     obtain ⟨t', z', d', q1, q2, q3, q4, q5, q6, q7⟩ := hpend c' o' hc' hl' (by omega)
     refine ⟨t', z', d', q1, q2, q3, q4, q5, q6, fun r bb x κ hb hne hx => ?_⟩
     rcases Nat.lt_trichotomy r M.length with hr | hr | hr
     ·rw [List.getElem?_append_left hr] at hb
      rw [Env.set_other ρ _ (by omega)] at hx
      exact q7 r bb x κ hb hne hx
     ·subst hr
      have hbb : bb.ver = 0 := by simp at hb; rw [← hb]
      rw [hbb, Env.set_same] at hx
      injection hx with hx; injection hx with hx _; injection hx with hx; subst hx
      exact hdist c c' o o' hc hc' hlc hl' (by omega) (by omega) (by rintro rfl; omega)
     ·rw [List.getElem?_eq_none (by simp; omega)] at hb; cases hb
    ·intro c1 c2 o1 o2 q1 q2 q3 q4 q5 q6 q7; exact hdist c1 c2 o1 o2 q1 q2 q3 q4 (by omega) (by omega) q7
   ·refine ⟨k, hS, fun c o p hc hp hk => ?_⟩
    cases hl : listed.getD c false with
    | false => rfl
    | true => exact absurd ⟨c, o, p, hc, hp, hk, hl⟩ hex
 have key : ∀ (fuel : Nat) (listed : Array Bool) (a : Act) (w : World), Jn listed → (List.range l.length).countP (fun i => !listed.getD i false) ≤ fuel →
   (∃ k, St listed k a w ∧ ∀ c o p, l[c]? = some (o, p) → p.chain = true → chBefore l c = k → listed.getD c false = false) →
   wpAny P .any (opsOf l) Q fuel listed a w := by
  intro fuel
  have hdone : ∀ (listed : Array Bool) (a : Act) (w : World), Jn listed → (∀ i, i < l.length → listed.getD i false = true) →
    (∃ k, St listed k a w ∧ ∀ c o p, l[c]? = some (o, p) → p.chain = true → chBefore l c = k → listed.getD c false = false) → Q .normal a w := by
   rintro listed a w hJ hall ⟨k, ⟨ρ, M, N, hM, hlow, hfl, hrep, hst, hdef, hpend, hdist⟩, hnorm⟩
   have hk2 : k ≤ chBefore l l.length := hMl hM
   have hk : k = chBefore l l.length := by
    rcases Nat.lt_or_ge k (chBefore l l.length) with hlt | hge
    ·obtain ⟨c, o, p, h1, h2, h3, h4⟩ := ch_at l _ k hlt
     have := hnorm c o p h2 h3 h4
     rw [hall c h1] at this; cases this
    ·omega
   subst hk
   rw [hM] at hmemF
   injection hmemF with hmemF
   subst hmemF
   refine hQ ρ tmF M a w ⟨hrep.size, fun t => ?_, hrep.mem⟩ hst hdef hK
   have := hrep.tm t
   rw [get_agree2 (xs' := xs) (sel' := fun _ => true) l.length (fun j o p hj hl' hd' => ⟨hall j hj, fun _ => ?_⟩) (fun j hj => ⟨hxJsome _ _ j hj, hxsome j hj⟩)] at this
   ·rw [htmF]; exact this
   ·obtain ⟨x, hx⟩ := Option.isSome_iff_exists.1 (hxsome j hj)
    rw [xsJ_get hj, hx, if_neg]
    ·rfl
    ·rw [hearly hl']
     rintro ⟨_, q2, q3⟩
     have := chBefore_lt hl' q2 hj
     omega
  have hready : ∀ (listed : Array Bool), Jn listed → Region.ready .any (opsOf l) listed = [] → ∀ i, i < l.length → listed.getD i false = true := by
   intro listed hJ hnil i
   induction i using Nat.strongRecOn with
   | _ i ih =>
    intro hi
    cases hl : listed.getD i false with
    | true => rfl
    | false =>
     exfalso
     have hmem : i ∈ Region.ready .any (opsOf l) listed := by
      obtain ⟨o, p, hoi⟩ := hat i hi
      refine mem_ready.2 ⟨getD_in (by rw [hJ.1]; exact hi) hl, o, hops' hoi, fun e he hbd => ?_⟩
      have := hEdge hoi e he hbd
      exact ih e.on this (by omega)
     rw [hnil] at hmem
     cases hmem
  induction fuel with
  | zero =>
   intro listed a w hJ hcnt hst
   have hall : ∀ i, i < l.length → listed.getD i false = true := by
    intro i hi
    have h0 : (List.range l.length).countP (fun i => !listed.getD i false) = 0 := by omega
    have := (List.countP_eq_zero.1 h0) i (List.mem_range.2 hi)
    simpa using this
   refine ⟨?_, hdone listed a w hJ hall hst⟩
   apply List.eq_nil_iff_forall_not_mem.2
   intro i hi
   obtain ⟨h1, oi, h2, _⟩ := mem_ready.1 hi
   obtain ⟨p, hp⟩ := hops h2
   have := hall i (List.getElem?_eq_some_iff.1 hp).1
   rw [getD_both h1] at this
   cases this
  | succ fuel ih =>
   intro listed a w hJ hcnt hst
   refine ⟨fun hnil => hdone listed a w hJ (hready listed hJ hnil) hst, fun i hi => ?_⟩
   obtain ⟨hun, oi, hoi, hpre⟩ := mem_ready.1 hi
   obtain ⟨pi, hli⟩ := hops hoi
   have hil := (List.getElem?_eq_some_iff.1 hli).1
   have hunF : listed.getD i false = false := getD_both hun
   have hset : ∀ j, (listed.setIfInBounds i true).getD j false = if j = i then true else listed.getD j false := by
    intro j
    by_cases hj : j = i
    ·subst hj
     simp [Array.getD_eq_getD_getElem?, (by rw [hJ.1]; exact hil : j < listed.size)]
    ·rw [if_neg hj]
     simp [Array.getD_eq_getD_getElem?, Array.getElem?_setIfInBounds_ne (fun e => hj e.symm)]
   have hJ' : Jn (listed.setIfInBounds i true) := by
    refine ⟨by simp [hJ.1], fun j o p hj hl e he hbd => ?_⟩
    rw [hset]
    split
    ·rfl
    ·rw [hset] at hl
     by_cases hji : j = i
     ·subst hji
      rw [hli] at hj; injection hj with hj; injection hj with hj _; subst hj
      exact hpre e he hbd
     ·rw [if_neg hji] at hl
      exact hJ.2 j o p hj hl e he hbd
   have hcnt' : (List.range l.length).countP (fun j => !(listed.setIfInBounds i true).getD j false) ≤ fuel := by
    have : (List.range l.length).countP (fun j => !(listed.setIfInBounds i true).getD j false) < (List.range l.length).countP (fun j => !listed.getD j false) := by
     refine countP_lt (fun j _ hj => ?_) i (List.mem_range.2 hil) (by simp [hunF]) (by rw [hset]; simp)
     rw [hset] at hj
     split at hj
     ·simp at hj
     ·exact hj
    omega
   obtain ⟨k, ⟨ρ, M, N, hM, hlow, hfl, hrep, hstp, hdef, hpend, hdist⟩, hnorm⟩ := hst
   have hnext : ∀ (k' : Nat) (a' : Act) (w' : World), St (listed.setIfInBounds i true) k' a' w' → wpAny P .any (opsOf l) Q fuel (listed.setIfInBounds i true) a' w' := by
    intro k' a' w' hS
    obtain ⟨k2, h1, h2⟩ := absorb _ _ k' a' w' hJ' (Nat.le_refl _) hS
    exact ih _ _ _ hJ' hcnt' ⟨k2, h1, h2⟩
   obtain ⟨x, M1, M2, hx, hM1, hM2, hop⟩ := hfacts i oi pi hli
   have hafter : ∀ j o p, l[j]? = some (o, p) → ancB b j i = true → listed.getD j false = false := by
    intro j o p hj hanc
    cases hl : listed.getD j false with
    | false => rfl
    | true => have := hclosed hJ j o p hj hl i hil hanc; rw [hunF] at this; cases this
   have hbefore : ∀ j, j < l.length → ancB b i j = true → listed.getD j false = true := by
    intro j hj hanc
    obtain ⟨e, he, hbd, hor⟩ := hAnc hli j hj hanc
    have hel := hpre e he hbd
    rcases hor with rfl | hor
    ·exact hel
    ·have hlt := hEdge hli e he hbd
     obtain ⟨oe, pe, hoe⟩ := hat e.on (by omega)
     exact hclosed hJ e.on oe pe hoe hel j hj hor
   have hnames : ∀ t, t ∈ namesOf (opsOf l) oi → ∀ j o p, l[j]? = some (o, p) → o.dst = some t → j ≠ i → listed.getD j false = decide (j < i) := by
    intro t ht j o p hj hd hji
    have hjl := (List.getElem?_eq_some_iff.1 hj).1
    rcases Nat.lt_or_gt_of_ne hji with hlt | hgt
    ·have hn := pairs_get hN hj hli hlt
     have : hasDst o (namesOf (opsOf l) oi) = true := by simp [hasDst, hd, ht]
     simp only [this, Bool.true_or, Bool.not_true, Bool.false_or] at hn
     rw [hbefore j hjl hn]; simp [hlt]
    ·have hn := pairs_get hN hli hj hgt
     have : hasDst o (namesOf (opsOf l) oi) = true := by simp [hasDst, hd, ht]
     simp only [this, Bool.or_true, Bool.not_true, Bool.false_or] at hn
     rw [hafter j o p hj hn]; simp; omega
   have hk_chain : pi.chain = true → pi.isFl = false → k = chBefore l i := by
    intro hp hnf
    have h1 : k ≤ chBefore l i := by
     rcases Nat.lt_or_ge (chBefore l i) k with hlt | hge
     ·have := hlow i oi pi hli hp hlt; rw [hunF] at this; cases this
     ·exact hge
    rcases Nat.lt_or_ge k (chBefore l i) with hlt | hge
    ·obtain ⟨c, o, p, h2, h3, h4, h5⟩ := ch_at l i k hlt
     have hc := pairs_get hC h3 hli h2
     simp only [h4, hp, hnf, Bool.and_self, Bool.not_false, Bool.and_true, Bool.true_or, Bool.not_true, Bool.false_or] at hc
     have h6 := hbefore c (by omega) hc
     rw [hnorm c o p h3 h4 h5] at h6; cases h6
    ·omega
   have hnoearly : ∀ t, t ∈ namesOf (opsOf l) oi → ∀ j o p, l[j]? = some (o, p) → o.dst = some t → j ≠ i → earlyB l listed k j = false := by
    intro t ht j o p hj hd hji
    cases he : earlyB l listed k j with
    | false => rfl
    | true =>
     exfalso
     obtain ⟨q1, q2, q3⟩ := (hearly hj).1 he
     have hpf := hfl j o p hj q2 q1 q3
     subst hpf
     obtain ⟨r1, r2⟩ := (hFl hj).2 i oi pi hli (fun e => hji e.symm) t hd ht
     have hkc := hk_chain r1 r2
     have := hnames t ht j o _ hj hd hji
     rw [q1] at this
     have hlt : j < i := by simpa using this.symm
     have := chBefore_lt hj rfl hlt
     omega
   have hlook : ∀ t, t ∈ oi.looksAt (opsOf l) → Tm.get (tmSel l xs (fun _ => true) tm i) t = Tm.get (tmSel l (xsJ l xs listed k) (fun j => listed.getD j false) tm l.length) t := by
    intro t ht
    rw [← tmSel_lt l.length (by omega)]
    refine get_agree2 _ (fun j o p hj hl hd => ?_) (fun j hj => ⟨hxsome j hj, hxJsome _ _ j hj⟩)
    by_cases hji : j = i
    ·subst hji; exact ⟨by simp [hunF], fun h => by simp at h⟩
    ·refine ⟨(hnames t (List.mem_append_right _ ht) j o p hl hd hji).symm, fun _ => ?_⟩
     obtain ⟨xj, hxj⟩ := Option.isSome_iff_exists.1 (hxsome j hj)
     rw [xsJ_get hj, hnoearly t (List.mem_append_right _ ht) j o p hl hd hji, hxj]
     rfl
   have hch1 : chBefore l (i + 1) = chBefore l i + (if pi.chain = true then 1 else 0) := by
    simp only [chBefore, hli]; split <;> simp
   have hfin : pi.isFl = false → ∀ (ρ' : Env) (k' : Nat) (M' : AMem) (v : Value) (w' : World), Ms[k']? = some M' → (k' = if pi.chain = true then k + 1 else k) → VR ρ' x v → RepM ρ' M' w' → Step M ρ w M' ρ' w' →
     wpAny P .any (opsOf l) Q fuel (listed.setIfInBounds i true) (a.put oi.dst v) w' := by
    intro hnf ρ' k' M' v w' hM' hk' hv hm hs
    have hkk : k ≤ k' := by rw [hk']; split <;> omega
    have hearly_i : earlyB l (listed.setIfInBounds i true) k' i = false := by
     cases he : earlyB l (listed.setIfInBounds i true) k' i with
     | false => rfl
     | true =>
      exfalso
      obtain ⟨_, q2, q3⟩ := (hearly hli).1 he
      have := hk_chain q2 hnf
      rw [hk', if_pos q2] at q3
      omega
    refine hnext k' _ _ ⟨ρ', M', N, hM', ?_, ?_, ?_, hstp.trans hs, ?_, ?_, ?_⟩
    ·intro c o p hc hp hlt
     rw [hset]
     split
     ·rfl
     ·rename_i hci
      split at hk'
      ·rename_i hpi
       have hkc := hk_chain hpi hnf
       by_cases he : chBefore l c = k
       ·exact absurd (huniq hc hli hp hpi (by omega)) hci
       ·exact hlow c o p hc hp (by omega)
      ·exact hlow c o p hc hp (by omega)
    ·intro c o p hc hp hlc hge
     rw [hset] at hlc
     split at hlc
     ·rename_i hci
      subst hci
      rw [hli] at hc; injection hc with hc; injection hc with _ hc; subst hc
      rw [if_pos hp] at hk'
      have := hk_chain hp hnf
      omega
     ·exact hfl c o p hc hp hlc (by omega)
    ·have hrep' : Rep ρ' nt (putO oi.dst x (tmSel l (xsJ l xs listed k) (fun j => listed.getD j false) tm l.length)) M' (a.put oi.dst v) w' :=
      (hrep.step hs hm).putO (List.all_eq_true.1 hD (oi, pi) (List.mem_of_getElem? hli)) hv
     refine ⟨hrep'.size, fun t => ?_, hm⟩
     have := hrep'.tm t
     rw [get_putO] at this
     have e : Tm.get (tmSel l (xsJ l xs (listed.setIfInBounds i true) k') (fun j => (listed.setIfInBounds i true).getD j false) tm l.length) t = if oi.dst = some t then x else Tm.get (tmSel l (xsJ l xs listed k) (fun j => listed.getD j false) tm l.length) t := by
      split
      ·rename_i hd
       refine get_last hli hd (by rw [xsJ_get hil, hearly_i, hx]; rfl) (by rw [hset]; simp) _ hil fun j o p hij hj hl hdj => ?_
       rw [hset, if_neg (by omega), hnames t (by simp [namesOf, hd]) j o p hl hdj (by omega)]
       simp; omega
      ·rename_i hd
       refine get_agree2 _ (fun j o p hj hl hdj => ?_) (fun j hj => ⟨hxJsome _ _ j hj, hxJsome _ _ j hj⟩)
       have hji : j ≠ i := by rintro rfl; rw [hli] at hl; injection hl with hl; injection hl with hl _; subst hl; exact hd hdj
       rw [hset, if_neg hji]
       refine ⟨rfl, fun hlj => ?_⟩
       rw [xsJ_get hj, xsJ_get hj]
       have : earlyB l (listed.setIfInBounds i true) k' j = earlyB l listed k j := by
        rw [Bool.eq_iff_iff, hearly hl, hearly hl, hset, if_neg hji]
        constructor
        ·rintro ⟨q1, q2, q3⟩; exact ⟨q1, q2, by omega⟩
        ·rintro ⟨q1, q2, q3⟩
         refine ⟨q1, q2, ?_⟩
         rw [hk']
         split
         ·rcases Nat.lt_or_ge k (chBefore l j) with h | h
          ·omega
          ·have := hnorm j o p hl q2 (by omega)
           rw [q1] at this; cases this
         ·exact q3
       rw [this]
     rw [e]; exact this
    ·rw [← hdef]; cases oi.dst <;> rfl
    ·intro c o hc hlc hge
     rw [hset] at hlc
     have hci : c ≠ i := by rintro rfl; rw [hli] at hc; injection hc with hc; injection hc with _ hc; rw [hc] at hnf; cases hnf
     rw [if_neg hci] at hlc
     obtain ⟨t, z, d, q1, q2, q3, q4, q5, q6, q7⟩ := hpend c o hc hlc (by omega)
     have hNlt : N c < w.heap.size := (Array.getElem?_eq_some_iff.1 q5).1
     refine ⟨t, z, d, q1, q2, q3, ?_, ?_, q6, ?_⟩
     ·have hne : oi.dst ≠ some d := by
       intro hd
       have := hnoearly d (by simp [namesOf, hd]) c o _ hc q3 hci
       have h8 := (hearly (listed := listed) (k := k) hc).2 ⟨hlc, rfl, by omega⟩
       rw [this] at h8; cases h8
      rw [← q4]
      cases hdd : oi.dst with
      | none => rfl
      | some d' =>
       have : d' ≠ d := fun e => hne (by rw [hdd, e])
       simp [Act.put, Array.getD_eq_getD_getElem?, Array.getElem?_setIfInBounds_ne this]
     ·rw [hs.frame (N c) hNlt]
      ·exact q5
      ·intro r bb x κ hb hk hx
       exact q7 r bb x κ hb (fun e => absurd e hk) hx
     ·intro r bb x' κ hb hne hx'
      by_cases hro : bb.kind = .ro
      ·have h8 := hs.ro r bb hb hro
       obtain ⟨A, k0, h9, _⟩ : ∃ A k0, ρ r bb.ver = some (A, k0) ∧ True := by
        have := hrep.mem.blk r bb h8
        unfold BlkR at this
        rw [hro] at this
        obtain ⟨A, k0, h, _⟩ := this
        exact ⟨A, k0, h, trivial⟩
       have h10 := hs.ext r (List.getElem?_eq_some_iff.1 h8).1 _ _ h9
       rw [h10] at hx'
       exact q7 r bb x' κ h8 hne (by rw [h9]; exact hx')
      ·rcases hs.fresh r bb x' κ hb hro hx' with h8 | ⟨s, b0, y, l0, h8, h9, h10, h11⟩
       ·omega
       ·rw [← h11]; exact q7 s b0 y l0 h8 (fun e => absurd e h9) h10
    ·intro c1 c2 o1 o2 q1 q2 q3 q4 q5 q6 q7
     have n1 : c1 ≠ i := by rintro rfl; rw [hli] at q1; injection q1 with q1; injection q1 with _ q1; rw [q1] at hnf; cases hnf
     have n2 : c2 ≠ i := by rintro rfl; rw [hli] at q2; injection q2 with q2; injection q2 with _ q2; rw [q2] at hnf; cases hnf
     rw [hset, if_neg n1] at q3
     rw [hset, if_neg n2] at q4
     exact hdist c1 c2 o1 o2 q1 q2 q3 q4 (by omega) (by omega) q7
   unfold wpOp
   rw [hoi]
   simp only
   have hwant := wantedA_congr (ops := opsOf l) (o := oi) hlook
   cases hisf : pi.isFl with
   | true =>
    have hpf := hisFl hisf
    subst hpf
    obtain ⟨t, z, M1', g1, g2, g3, g4, g5, g6⟩ := hflf hli
    have hw : Region.wanted oi (yielded (opsOf l) a.tmps) = true := by simp [Region.wanted, g6]
    rw [if_pos hw]
    refine .inl ?_
    have hexec : (execOp a.eval oi).run P w = .ok (.value (.pointer (some ⟨w.heap.size, 0, none⟩))) (w.alloc (.cells z.cells t)) := by
     rw [ex_alloc g1]
     simp only [Instr.alloc, Sem.run_bind, run_zeroValue P g2, Result.andThen_ok, newVar, newRow, run_newObj, Sem.run_pure]
     rfl
    unfold Oper.wp
    rw [hexec, Oper.upon_value]
    obtain ⟨d, hd⟩ := (hFl hli).1
    have hdlt : d < nt := by
     have := List.all_eq_true.1 hD (oi, .fl) (List.mem_of_getElem? hli)
     simpa [dstOk, hd] using this
    obtain ⟨hm', hs'⟩ := hrep.mem.garbage (.cells z.cells t)
    have hki : k ≤ chBefore l i := by
     rcases Nat.lt_or_ge (chBefore l i) k with hlt | hge
     ·have := hlow i oi _ hli rfl hlt; rw [hunF] at this; cases this
     ·exact hge
    have hNlt : ∀ c o, l[c]? = some (o, Plan.fl) → listed.getD c false = true → k ≤ chBefore l c → N c < w.heap.size := by
     intro c o hc hlc hge
     obtain ⟨_, _, _, _, _, _, _, q5, _⟩ := hpend c o hc hlc hge
     exact (Array.getElem?_eq_some_iff.1 q5).1
    refine hnext k _ _ ⟨ρ, M, fun c => if c = i then w.heap.size else N c, hM, ?_, ?_, ?_, hstp.trans hs', ?_, ?_, ?_⟩
    ·intro c o p hc hp hlt
     rw [hset]
     split
     ·rfl
     ·exact hlow c o p hc hp hlt
    ·intro c o p hc hp hlc hge
     rw [hset] at hlc
     split at hlc
     ·rename_i hci; subst hci; rw [hli] at hc; injection hc with hc; injection hc with _ hc; exact hc.symm
     ·exact hfl c o p hc hp hlc hge
    ·have hrep' : Rep ρ nt (putO oi.dst (.one .junk) (tmSel l (xsJ l xs listed k) (fun j => listed.getD j false) tm l.length)) M (a.put oi.dst (.pointer (some ⟨w.heap.size, 0, none⟩))) (w.alloc (.cells z.cells t)) :=
      (hrep.step hs' hm').putO (List.all_eq_true.1 hD (oi, .fl) (List.mem_of_getElem? hli)) trivial
     refine ⟨hrep'.size, fun t' => ?_, hm'⟩
     have := hrep'.tm t'
     rw [get_putO] at this
     have e : Tm.get (tmSel l (xsJ l xs (listed.setIfInBounds i true) k) (fun j => (listed.setIfInBounds i true).getD j false) tm l.length) t' = if oi.dst = some t' then .one .junk else Tm.get (tmSel l (xsJ l xs listed k) (fun j => listed.getD j false) tm l.length) t' := by
      split
      ·rename_i hd'
       refine get_last hli hd' (by rw [xsJ_get hil, if_pos]; rw [hearly hli, hset]; simp [Plan.chain, hki]) (by rw [hset]; simp) _ hil fun j o p hij hj hl hdj => ?_
       rw [hset, if_neg (by omega), hnames t' (by simp [namesOf, hd']) j o p hl hdj (by omega)]
       simp; omega
      ·rename_i hd'
       refine get_agree2 _ (fun j o p hj hl hdj => ?_) (fun j hj => ⟨hxJsome _ _ j hj, hxJsome _ _ j hj⟩)
       have hji : j ≠ i := by rintro rfl; rw [hli] at hl; injection hl with hl; injection hl with hl _; subst hl; exact hd' hdj
       rw [hset, if_neg hji]
       refine ⟨rfl, fun hlj => ?_⟩
       rw [xsJ_get hj, xsJ_get hj]
       have : earlyB l (listed.setIfInBounds i true) k j = earlyB l listed k j := by
        rw [Bool.eq_iff_iff, hearly hl, hearly hl, hset, if_neg hji]
       rw [this]
     rw [e]; exact this
    ·rw [← hdef]; cases oi.dst <;> rfl
    ·intro c o hc hlc hge
     rw [hset] at hlc
     by_cases hci : c = i
     ·subst hci
      rw [hli] at hc; injection hc with hc; injection hc with hc _; subst hc
      refine ⟨t, z, d, g1, g2, hd, ?_, ?_, ?_, ?_⟩
      ·simp only [if_true]
       rw [hd]
       have hda : d < a.tmps.size := Nat.lt_of_lt_of_le hdlt hrep.size
       simp [Act.put, Array.getD_eq_getD_getElem?, hda]
      ·simp only [if_true]; exact heap_alloc_new w _
      ·simp only [if_true]; exact hstp.size
      ·simp only [if_true]
       intro r bb x' κ hb hne hx'
       have := (hrep.mem.blk r bb hb).lt hx' hne
       omega
     ·rw [if_neg hci] at hlc
      obtain ⟨t', z', d', q1, q2, q3, q4, q5, q6, q7⟩ := hpend c o hc hlc hge
      refine ⟨t', z', d', q1, q2, q3, ?_, ?_, ?_, ?_⟩
      ·simp only [if_neg hci]
       have hne : d ≠ d' := by
        rintro rfl
        obtain ⟨_, r2⟩ := (hFl hli).2 c o _ hc hci d hd (by simp [namesOf, q3])
        cases r2
       rw [hd, ← q4]
       simp [Act.put, Array.getD_eq_getD_getElem?, Array.getElem?_setIfInBounds_ne hne]
      ·simp only [if_neg hci]
       rw [halloc_old w _ _ (Array.getElem?_eq_some_iff.1 q5).1]; exact q5
      ·simp only [if_neg hci]; exact q6
      ·simp only [if_neg hci]; exact q7
    ·intro c1 c2 o1 o2 q1 q2 q3 q4 q5 q6 q7
     rw [hset] at q3 q4
     by_cases n1 : c1 = i
     ·have n2 : c2 ≠ i := fun e => q7 (n1.trans e.symm)
      rw [if_neg n2] at q4
      have := hNlt c2 o2 q2 q4 q6
      simp only [if_pos n1, if_neg n2]; omega
     ·by_cases n2 : c2 = i
      ·rw [if_neg n1] at q3
       have := hNlt c1 o1 q1 q3 q5
       simp only [if_neg n1, if_pos n2]; omega
      ·rw [if_neg n1] at q3; rw [if_neg n2] at q4
       simp only [if_neg n1, if_neg n2]
       exact hdist c1 c2 o1 o2 q1 q2 q3 q4 q5 q6 q7
   | false =>
   rcases hop with ⟨hw, hx0, hMM⟩ | ⟨hw, hop⟩
   ·rw [hwant] at hw
    rw [if_neg (by rw [wantedA_sound hrep hw]; simp)]
    subst hx0; subst hMM
    by_cases hp : pi.chain = true
    ·have hkc := hk_chain hp hisf
     rw [hkc] at hM
     rw [hM1] at hM; injection hM with hM; subst hM
     refine hfin hisf ρ (k + 1) M2 undef w ?_ (by rw [if_pos hp]) rfl hrep.mem (Step.refl _ _ _)
     rw [hch1, if_pos hp, ← hkc] at hM2; exact hM2
    ·exact hfin hisf ρ k M undef w hM (by rw [if_neg hp]) rfl hrep.mem (Step.refl _ _ _)
   ·rw [hwant] at hw
    rw [if_pos (wantedA_sound hrep hw)]
    refine .inl ?_
    have hoc := opd_congr (ops := opsOf l) (o := oi) hlook
    have hdoes : ∃ k' M', Ms[k']? = some M' ∧ (k' = if pi.chain = true then k + 1 else k) ∧ Does P oi (opd (tmSel l xs (fun _ => true) tm i)) M x M' := by
     cases hp : pi with
     | val =>
      rw [hp] at hop
      exact ⟨k, M, hM, rfl, does_of_evVal (evVal_nil hop.2 M)⟩
     | rd lo =>
      rw [hp] at hop
      obtain ⟨_, t, y, ML, hopl, hlo, hload⟩ := hop
      have hLi := List.all_eq_true.1 hL i (List.mem_range.2 hil)
      rw [hli, hp] at hLi
      simp only at hLi
      have hLc : ∀ c o p, l[c]? = some (o, p) → (p.chain = true → chBefore l c < lo → ancB b i c = true) ∧ (p.isWr = true → c < i → chBefore l c < lo) ∧ (∀ q, p = .up q → q ≤ chBefore l c ∧ (chBefore l c < lo ∨ (i < c ∧ ancB b c i = true) ∨ lo ≤ q)) := by
       intro c o p hc
       have := List.all_eq_true.1 hLi c (List.mem_range.2 (List.getElem?_eq_some_iff.1 hc).1)
       rw [hc] at this
       rw [Bool.and_eq_true] at this
       obtain ⟨this, hup⟩ := this
       simp only [Bool.and_eq_true, Bool.or_eq_true, Bool.not_eq_true', Bool.and_eq_false_iff, decide_eq_false_iff_not, decide_eq_true_eq] at this
       refine ⟨fun h1 h2 => ?_, fun h1 h2 => ?_, fun q hq => ?_⟩
       ·rcases this.1 with (h | h) | h
        ·rw [h1] at h; cases h
        ·exact absurd h2 h
        ·exact h
       ·rcases this.2 with (h | h) | h
        ·rw [h1] at h; cases h
        ·exact absurd h2 h
        ·exact h
       ·subst hq
        simp only [Bool.and_eq_true, Bool.or_eq_true, decide_eq_true_eq] at hup
        refine ⟨hup.1, ?_⟩
        rcases hup.2 with (h | h) | h
        ·exact .inl h
        ·exact .inr (.inl h)
        ·exact .inr (.inr h)
      have hext : ∀ q, lo ≤ q → q ≤ k → ∀ Mq, Ms[q]? = some Mq → ∀ (r : Nat) (b : Blk), ML[r]? = some b → Mq[r]? = some b := by
       intro q
       induction q using Nat.strongRecOn with
       | _ q ihq =>
        intro hlq hqk Mq hMq r bb hbb
        by_cases hql : q = lo
        ·subst hql; rw [hlo] at hMq; injection hMq with e; rw [← e]; exact hbb
        ·obtain ⟨q', rfl⟩ : ∃ q', q = q' + 1 := ⟨q - 1, by omega⟩
         have hlt : q' < chBefore l l.length := by have := hMl hMq; omega
         obtain ⟨c, o, p, h1, h2, h3, h4⟩ := ch_at l _ q' hlt
         obtain ⟨x', Mc, Mc', g1, g2, g3, g4⟩ := hfacts c o p h2
         have hc1 : chBefore l (c + 1) = chBefore l c + 1 := by simp only [chBefore, h2, h3, if_true]
         rw [hc1, h4, hMq] at g3
         injection g3 with g3; subst g3
         rw [h4] at g2
         have hold := ihq q' (by omega) (by omega) (by omega) Mc g2 r bb hbb
         have hlc : listed.getD c false = true := hlow c o p h2 h3 (by omega)
         have hnw : p.isWr = false := by
          cases hw' : p.isWr with
          | false => rfl
          | true =>
           exfalso
           have hci : c ≠ i := by rintro rfl; rw [hli] at h2; injection h2 with h2; injection h2 with _ h2; rw [← h2, hp] at hw'; cases hw'
           rcases Nat.lt_or_gt_of_ne hci with hlt' | hgt'
           ·have := (hLc c o p h2).2.1 hw' hlt'; omega
           ·have hc := pairs_get hC hli h2 hgt'
            simp only [hp, Plan.isRd, hw', Bool.and_self, Bool.or_true, Bool.not_true, Bool.false_or] at hc
            have := hafter c o p h2 hc
            rw [hlc] at this; cases this
         rcases g4 with ⟨_, _, e⟩ | ⟨_, g4⟩
         ·subst e; exact hold
         ·cases p with
          | val => cases h3
          | rd lo => cases h3
          | rw lo => cases h3
          | wr => cases hnw
          | ext => obtain ⟨⟨ex', e⟩, _⟩ := g4; rw [e]; exact lk_old hold ex'
          | fl => obtain ⟨_, _, _, _, _, _, e⟩ := g4; rw [e]; exact lk_old hold _
          | up q0 =>
           obtain ⟨⟨A, hA, hAr⟩, _⟩ := g4
           obtain ⟨hq0, hor⟩ := (hLc c o _ h2).2.2 q0 rfl
           have hloq : lo ≤ q0 := by
            rcases hor with h | h | h
            ·omega
            ·have := hafter c o _ h2 h.2
             rw [hlc] at this; cases this
            ·exact h
           have hAb := ihq q0 (by omega) hloq (by omega) A hA r bb hbb
           rw [hAr r (List.getElem?_eq_some_iff.1 hAb).1]
           exact hold
      have hlok : lo ≤ k := by
       rcases Nat.lt_or_ge k lo with hlt | hge
       ·exfalso
        have hlt' : k < chBefore l l.length := by have := hMl hlo; omega
        obtain ⟨c, o, p, h1, h2, h3, h4⟩ := ch_at l _ k hlt'
        have h6 := hbefore c h1 ((hLc c o p h2).1 h3 (by omega))
        rw [hnorm c o p h2 h3 h4] at h6; cases h6
       ·exact hge
      refine ⟨k, _, hM, rfl, does_of_evVal ?_⟩
      rw [hopl]
      simp only [evVal, loadA_mono hload (hext k hlok (Nat.le_refl _) M hM), Option.map_some]
     | rw lo =>
      rw [hp] at hop
      obtain ⟨_, t, y, ML, r, ver, off, hopl, hlo, hy, hload, hin⟩ := hop
      have hRi := List.all_eq_true.1 hR i (List.mem_range.2 hil)
      rw [hli, hp] at hRi
      simp only at hRi
      have hLc : ∀ c o p, l[c]? = some (o, p) → p.chain = true → chBefore l c < lo → ancB b i c = true := by
       intro c o p hc h1 h2
       have := List.all_eq_true.1 hRi c (List.mem_range.2 (List.getElem?_eq_some_iff.1 hc).1)
       rw [hc] at this
       simp only [Bool.or_eq_true, Bool.not_eq_true', Bool.and_eq_false_iff, decide_eq_false_iff_not] at this
       rcases this with (h | h) | h
       ·rw [h1] at h; cases h
       ·exact absurd h2 h
       ·exact h
      have hlok : lo ≤ k := by
       rcases Nat.lt_or_ge k lo with hlt | hge
       ·exfalso
        have hlt' : k < chBefore l l.length := by have := hMl hlo; omega
        obtain ⟨c, o, p, h1, h2, h3, h4⟩ := ch_at l _ k hlt'
        have h6 := hbefore c h1 (hLc c o p h2 h3 (by omega))
        rw [hnorm c o p h2 h3 h4] at h6; cases h6
       ·exact hge
      obtain ⟨bb, hbb⟩ := hWt _ hin
      have e1 : ML[r]? = some bb := hbb ML (List.mem_of_getElem? (i := 0) (by rw [List.getElem?_drop]; simpa using hlo))
      have e2 : M[r]? = some bb := hbb M (List.mem_of_getElem? (i := k - lo) (by rw [List.getElem?_drop]; simpa [Nat.add_sub_cancel' hlok] using hM))
      refine ⟨k, _, hM, rfl, does_of_evVal ?_⟩
      rw [hopl]
      have e3 : loadA P t (opd (tmSel l xs (fun _ => true) tm i) y) M = some x := by
       rw [hy]; rw [← hload]; simp only [loadA, e1, e2]
      simp only [evVal, e3, Option.map_some]
     | fl => rw [hp] at hisf; cases hisf
     | ext =>
      have hkc := hk_chain (by rw [hp]; rfl) hisf
      rw [hp] at hop hch1
      rw [hkc] at hM
      rw [hM1] at hM; injection hM with hM; subst hM
      refine ⟨k + 1, M2, ?_, rfl, hop.2⟩
      simp only [Plan.chain, if_true] at hch1
      rw [hch1, ← hkc] at hM2; exact hM2
     | up q =>
      have hkc := hk_chain (by rw [hp]; rfl) hisf
      rw [hp] at hop hch1
      rw [hkc] at hM
      rw [hM1] at hM; injection hM with hM; subst hM
      refine ⟨k + 1, M2, ?_, rfl, hop.2⟩
      simp only [Plan.chain, if_true] at hch1
      rw [hch1, ← hkc] at hM2; exact hM2
     | wr =>
      have hkc := hk_chain (by rw [hp]; rfl) hisf
      rw [hp] at hop hch1
      rw [hkc] at hM
      rw [hM1] at hM; injection hM with hM; subst hM
      refine ⟨k + 1, M2, ?_, rfl, hop⟩
      simp only [Plan.chain, if_true] at hch1
      rw [hch1, ← hkc] at hM2; exact hM2
    obtain ⟨k', M', hMk', hk', hdo⟩ := hdoes
    exact does_sound (hdo.congr hoc) hrep fun ρ' v w' hv hm hs => hfin hisf ρ' k' M' v w' hMk' hk' hv hm hs
 refine key _ _ _ _ ⟨by simp [hsz], fun j o p hj hl => ?_⟩ ?_ ⟨0, ⟨ρ0, mem, fun _ => 0, ?_, ?_, ?_, ?_, Step.refl _ _ _, rfl, ?_, ?_⟩, ?_⟩
 ·rw [getD_replicate_false] at hl; cases hl
 ·rw [hsz]
  exact Nat.le_trans List.countP_le_length (by simp)
 ·obtain ⟨t, ht⟩ := run_prefix hrun
  rw [ht]; rfl
 ·intro c o p hc hp hlt; omega
 ·intro c o p hc hp hl; rw [getD_replicate_false] at hl; cases hl
 ·refine ⟨hr0.size, fun t => ?_, hr0.mem⟩
  have : ∀ (ys : List AV) n, tmSel l ys (fun j => (Array.replicate (opsOf l).size false).getD j false) tm n = tm := by
   intro ys n
   induction n with
   | zero => rfl
   | succ n ih =>
    simp only [tmSel, getD_replicate_false]
    simp only [getD_replicate_false] at ih
    split
    ·simpa using ih
    ·exact ih
  rw [this]; exact hr0.tm t
 ·intro c o hc hl; rw [getD_replicate_false] at hl; cases hl
 ·intro c c' o o' _ _ hl; rw [getD_replicate_false] at hl; cases hl
 ·intro c o p _ _ _; exact getD_replicate_false _ _
theorem Rep.drew {ρ : Env} {nt : Nat} {tm : Tm} {mem : AMem} {a : Act} {w : World} (h : Rep ρ nt tm mem a w) : Rep ρ nt tm mem a { w with drawn := w.drawn + 1 } :=
 ⟨h.size, h.tm, ⟨fun r b hb => (h.mem.blk r b hb).heap (Nat.le_refl _) fun _ _ _ _ _ => rfl, h.mem.dom, h.mem.domv, h.mem.sep⟩⟩
theorem AW.draw {nt id : Nat} {l : List Oper} {tm : Tm} {mem : AMem} {Q : Exit → Tm → AMem → Prop} (pl : List Plan) (hf : P.follows .mixedOrders = true) (hl : pl.length = l.length) (hp : planOk nt (l.zip pl) = true)
  (h : AOpsD P l.toArray (l.zip pl) tm mem [mem] [] (Q .normal)) : AW P nt (.region id l.toArray true) tm mem Q := by
 intro ρ a w hr
 have he : l.toArray = opsOf (l.zip pl) := by
  unfold opsOf
  rw [show (fun x : Oper × Plan => x.1) = Prod.fst from rfl, List.map_fst_zip (by omega)]
 rw [he] at h ⊢
 refine wp_region_any hf ?_
 refine aopsD_sound hp h hr.drew fun ρ' tm' mem' a' w' r s d k => ⟨ρ', tm', mem', r, ⟨s.os, s.tape, s.output, s.size, s.len, s.ext, s.kind, s.ro, s.frame, s.fresh⟩, d, k⟩
end
theorem eqV_s {P : Program} {d : Nat} {t : TypeId} {x y : AV} : eqV P (d + 1) t x y = match P.underlying t, x, y with
  | some .bool, .one (.bool a), .one (.bool b) => some (a == b)
  | some (.int _), .one (.int k a), .one (.int k' b) => if k = k' then some (a == b) else none
  | some .string, .one (.str a), .one (.str b) => some (a.toList == b.toList)
  | some (.struct fs), .agg xs, .agg ys =>
   if P.stoodInHeld t = false ∧ (fs.toList.all fun f => f.name != "_") = true then eqParts P (eqV P d) xs ys (fs.toList.map fun f => (f.type, f.offset)) else none
  | some (.array n e), .agg xs, .agg ys => match szOf P e with
   | some k => eqParts P (eqV P d) xs ys ((List.range' 0 n).map fun i => (e, i * k))
   | none => none
  | _, _, _ => none := by rfl
theorem chain3 (p1 p2 p3 : Prop) : (p1 ∧ p2 ∧ p3) ∨ (p1 ∧ p2 ∧ ¬p3) ∨ (p1 ∧ ¬p2 ∧ True) ∨ (¬p1 ∧ True ∧ True) := by
 rcases Classical.em p1 with h | h <;> rcases Classical.em p2 with h' | h' <;> rcases Classical.em p3 with h'' | h'' <;> simp [h, h', h'']
theorem chain4 (p1 p2 p3 p4 : Prop) : (p1 ∧ p2 ∧ p3 ∧ p4) ∨ (p1 ∧ p2 ∧ p3 ∧ ¬p4) ∨ (p1 ∧ p2 ∧ ¬p3 ∧ True) ∨ (p1 ∧ ¬p2 ∧ True ∧ True) ∨ (¬p1 ∧ True ∧ True ∧ True) := by
 rcases Classical.em p1 with h | h <;> rcases chain3 p2 p3 p4 with h' | h' | h' | h' <;> simp [h, h']
theorem chain5 (p1 p2 p3 p4 p5 : Prop) : (p1 ∧ p2 ∧ p3 ∧ p4 ∧ p5) ∨ (p1 ∧ p2 ∧ p3 ∧ p4 ∧ ¬p5) ∨ (p1 ∧ p2 ∧ p3 ∧ ¬p4 ∧ True) ∨ (p1 ∧ p2 ∧ ¬p3 ∧ True ∧ True) ∨ (p1 ∧ ¬p2 ∧ True ∧ True ∧ True) ∨ (¬p1 ∧ True ∧ True ∧ True ∧ True) := by
 rcases Classical.em p1 with h | h <;> rcases chain4 p2 p3 p4 p5 with h' | h' | h' | h' | h' <;> simp [h, h']
section
variable {P : Program}
def VThen (P : Program) (ops : Array Oper) (rest : List Oper) (d : Option Tmp) (tm : Tm) (K : Tm → AMem → Prop) (r : Option (AV × AMem)) : Prop :=
 match r with
 | some (x, mem') => AOps P ops rest (putO d x tm) mem' K
 | none => False
def SThen (P : Program) (ops : Array Oper) (rest : List Oper) (d : Option Tmp) (tm : Tm) (K : Tm → AMem → Prop) (r : Option AMem) : Prop :=
 match r with
 | some mem' => AOps P ops rest (putO d (.one .und) tm) mem' K
 | none => False
def CThen (P : Program) (ops : Array Oper) (rest : List Oper) (d : Option Tmp) (tm : Tm) (K : Tm → AMem → Prop) (g : FuncId) (args : List AV) (mem : AMem) : Prop :=
 ∃ ret mem', Ctr P g args mem ret mem' ∧ AOps P ops rest (putO d ret tm) mem' K
def FThen (P : Program) (ops : Array Oper) (rest : List Oper) (d : Option Tmp) (tm : Tm) (K : Tm → AMem → Prop) (f : AV) (args : List AV) (mem : AMem) : Prop :=
 match f with
 | .one (.fn g cs) => CThen P ops rest d tm K g (args ++ capsAV cs) mem
 | .one (.bm g cs) => CThen P ops rest d tm K g (.agg (cs.map SV.cv) :: args) mem
 | _ => False
def GThen (P : Program) (ops : Array Oper) (rest : List Oper) (o : Oper) (tm : Tm) (mem : AMem) (K : Tm → AMem → Prop) (g : Option Bool) : Prop :=
 match g with
 | some true => AOps P ops ({ o with guard := none } :: rest) tm mem K
 | some false => AOps P ops rest (putO o.dst (.one .und) tm) mem K
 | none => False
def OThen (P : Program) (ops : Array Oper) (rest : List Oper) (d : Option Tmp) (tm : Tm) (mem : AMem) (K : Tm → AMem → Prop) (op : Op) : Prop :=
 match op with
 | .store t x y => SThen P ops rest d tm K (storeA P t (opd tm x) (opd tm y) mem)
 | .call ⟨.value f, args, _⟩ => FThen P ops rest d tm K (opd tm f) (args.toList.map (opd tm)) mem
 | op => VThen P ops rest d tm K (evVal P (opd tm) mem op)
theorem AOps_nil {ops : Array Oper} {tm : Tm} {mem : AMem} {K : Tm → AMem → Prop} : AOps P ops [] tm mem K = K tm mem := rfl
theorem AOps_run {ops : Array Oper} {rest : List Oper} {d : Option Tmp} {op : Op} {t : TypeId} {pos : String} {af : Array Edge} {tm : Tm} {mem : AMem} {K : Tm → AMem → Prop} :
  AOps P ops (⟨d, op, t, pos, af, none⟩ :: rest) tm mem K = OThen P ops rest d tm mem K op := by
 simp only [AOps, wantedA, OThen]
 split
 ·simp only [SThen] <;> rfl
 ·simp only [FThen, CThen] <;> rfl
 ·simp only [VThen] <;> split <;> simp_all
theorem AOps_grd {ops : Array Oper} {rest : List Oper} {d : Option Tmp} {op : Op} {t : TypeId} {pos : String} {af : Array Edge} {g : Nat × Bool} {tm : Tm} {mem : AMem} {K : Tm → AMem → Prop} :
  AOps P ops (⟨d, op, t, pos, af, some g⟩ :: rest) tm mem K = GThen P ops rest ⟨d, op, t, pos, af, some g⟩ tm mem K (wantedA ops ⟨d, op, t, pos, af, some g⟩ tm) := by
 simp only [GThen]
 generalize hw : wantedA ops ⟨d, op, t, pos, af, some g⟩ tm = w
 rw [AOps]
 rw [hw]
 cases w with
 | none => rfl
 | some b => cases b <;> rfl
theorem VThen_some {ops : Array Oper} {rest : List Oper} {d : Option Tmp} {tm : Tm} {K : Tm → AMem → Prop} {x : AV} {mem' : AMem} : VThen P ops rest d tm K (some (x, mem')) = AOps P ops rest (putO d x tm) mem' K := rfl
theorem SThen_some {ops : Array Oper} {rest : List Oper} {d : Option Tmp} {tm : Tm} {K : Tm → AMem → Prop} {mem' : AMem} : SThen P ops rest d tm K (some mem') = AOps P ops rest (putO d (.one .und) tm) mem' K := rfl
theorem FThen_fn {ops : Array Oper} {rest : List Oper} {d : Option Tmp} {tm : Tm} {K : Tm → AMem → Prop} {g : FuncId} {cs : List (Nat × Nat × Nat)} {args : List AV} {mem : AMem} :
  FThen P ops rest d tm K (.one (.fn g cs)) args mem = CThen P ops rest d tm K g (args ++ capsAV cs) mem := rfl
theorem FThen_bm {ops : Array Oper} {rest : List Oper} {d : Option Tmp} {tm : Tm} {K : Tm → AMem → Prop} {g : FuncId} {cs : List SV} {args : List AV} {mem : AMem} :
  FThen P ops rest d tm K (.one (.bm g cs)) args mem = CThen P ops rest d tm K g (.agg (cs.map SV.cv) :: args) mem := rfl
theorem GThen_true {ops : Array Oper} {rest : List Oper} {d : Option Tmp} {op : Op} {t : TypeId} {pos : String} {af : Array Edge} {g : Option (Nat × Bool)} {tm : Tm} {mem : AMem} {K : Tm → AMem → Prop} :
  GThen P ops rest ⟨d, op, t, pos, af, g⟩ tm mem K (some true) = OThen P ops rest d tm mem K op := AOps_run
theorem GThen_false {ops : Array Oper} {rest : List Oper} {d : Option Tmp} {op : Op} {t : TypeId} {pos : String} {af : Array Edge} {g : Option (Nat × Bool)} {tm : Tm} {mem : AMem} {K : Tm → AMem → Prop} :
  GThen P ops rest ⟨d, op, t, pos, af, g⟩ tm mem K (some false) = AOps P ops rest (putO d (.one .und) tm) mem K := rfl
theorem GThen.split {ops : Array Oper} {rest : List Oper} {o : Oper} {tm : Tm} {mem : AMem} {K : Tm → AMem → Prop} {b : Bool} (h1 : b = true → GThen P ops rest o tm mem K (some true)) (h2 : b = false → GThen P ops rest o tm mem K (some false)) :
  GThen P ops rest o tm mem K (some b) := by cases b; exact h2 rfl; exact h1 rfl
theorem CThen.by {ops : Array Oper} {rest : List Oper} {d : Option Tmp} {tm : Tm} {K : Tm → AMem → Prop} {g : FuncId} {args : List AV} {mem mem' : AMem} {ret : AV} (h : Ctr P g args mem ret mem')
  (h2 : AOps P ops rest (putO d ret tm) mem' K) : CThen P ops rest d tm K g args mem := ⟨ret, mem', h, h2⟩
def DVal (P : Program) (ops : Array Oper) (rest : Pl) (d : Option Tmp) (tm : Tm) (cur : AMem) (hist : List AMem) (ws : List (Nat × Nat)) (K : Tm → AMem → Prop) (r : Option (AV × AMem)) : Prop :=
 match r with
 | some (x, []) => AOpsD P ops rest (putO d x tm) cur hist ws K
 | _ => False
def DLoad (P : Program) (ops : Array Oper) (rest : Pl) (d : Option Tmp) (tm : Tm) (cur : AMem) (hist : List AMem) (ws : List (Nat × Nat)) (K : Tm → AMem → Prop) (r : Option AV) : Prop :=
 match r with
 | some x => AOpsD P ops rest (putO d x tm) cur hist ws K
 | none => False
def DExt (P : Program) (ops : Array Oper) (rest : Pl) (d : Option Tmp) (tm : Tm) (cur : AMem) (hist : List AMem) (ws : List (Nat × Nat)) (K : Tm → AMem → Prop) (r : Option (AV × AMem)) : Prop :=
 match r with
 | some (x, mem') => (∃ extra, mem' = cur ++ extra) ∧ AOpsD P ops rest (putO d x tm) mem' (hist ++ [mem']) ws K
 | none => False
def DWr (P : Program) (ops : Array Oper) (rest : Pl) (d : Option Tmp) (tm : Tm) (hist : List AMem) (ws : List (Nat × Nat)) (K : Tm → AMem → Prop) (r : Option (AV × AMem)) : Prop :=
 match r with
 | some (x, mem') => AOpsD P ops rest (putO d x tm) mem' (hist ++ [mem']) ws K
 | none => False
def DUp (P : Program) (ops : Array Oper) (rest : Pl) (d : Option Tmp) (tm : Tm) (cur : AMem) (hist : List AMem) (ws : List (Nat × Nat)) (K : Tm → AMem → Prop) (A : Option AMem) (r : Option (AV × AMem)) : Prop :=
 match r with
 | some (x, mem') => (∃ B x0 y0, A = some B ∧ cur = B ++ x0 ∧ mem' = B ++ y0) ∧ AOpsD P ops rest (putO d x tm) mem' (hist ++ [mem']) ws K
 | none => False
def DCall (P : Program) (ops : Array Oper) (rest : Pl) (d : Option Tmp) (tm : Tm) (cur : AMem) (hist : List AMem) (ws : List (Nat × Nat)) (K : Tm → AMem → Prop) (g : FuncId) (args : List AV) : Prop :=
 ∃ ret extra, Ctr P g args cur ret (cur ++ extra) ∧ AOpsD P ops rest (putO d ret tm) (cur ++ extra) (hist ++ [cur ++ extra]) ws K
def DCallW (P : Program) (ops : Array Oper) (rest : Pl) (d : Option Tmp) (tm : Tm) (cur : AMem) (hist : List AMem) (ws : List (Nat × Nat)) (K : Tm → AMem → Prop) (g : FuncId) (args : List AV) : Prop :=
 ∃ ret mem', Ctr P g args cur ret mem' ∧ AOpsD P ops rest (putO d ret tm) mem' (hist ++ [mem']) ws K
def DFn (P : Program) (ops : Array Oper) (rest : Pl) (d : Option Tmp) (tm : Tm) (cur : AMem) (hist : List AMem) (ws : List (Nat × Nat)) (K : Tm → AMem → Prop) (w : Bool) (f : AV) (args : List AV) : Prop :=
 match f with
 | .one (.fn g cs) => if w then DCallW P ops rest d tm cur hist ws K g (args ++ capsAV cs) else DCall P ops rest d tm cur hist ws K g (args ++ capsAV cs)
 | _ => False
def DFl (P : Program) (ops : Array Oper) (rest : Pl) (d : Option Tmp) (tm : Tm) (cur : AMem) (hist : List AMem) (ws : List (Nat × Nat)) (K : Tm → AMem → Prop) (t : TypeId) (r : Option Value) : Prop :=
 match r with
 | some z => AOpsD P ops rest (putO d (.one (.ptr cur.length 0 0)) tm) (cur ++ [⟨.fix, t, 0, 0, z.cells.toList.map cellOf⟩]) (hist ++ [cur ++ [⟨.fix, t, 0, 0, z.cells.toList.map cellOf⟩]]) ws K
 | none => False
def DLoadW (P : Program) (ops : Array Oper) (rest : Pl) (d : Option Tmp) (tm : Tm) (cur : AMem) (hist : List AMem) (ws : List (Nat × Nat)) (K : Tm → AMem → Prop) (lo : Nat) (a : AV) (r : Option AV) : Prop :=
 match a, r with
 | .one (.ptr k _ _), some x => AOpsD P ops rest (putO d x tm) cur hist ((lo, k) :: ws) K
 | _, _ => False
def DOp (P : Program) (ops : Array Oper) (rest : Pl) (d : Option Tmp) (tm : Tm) (cur : AMem) (hist : List AMem) (ws : List (Nat × Nat)) (K : Tm → AMem → Prop) (op : Op) (g : Option (Nat × Bool)) (p : Plan) : Prop :=
 match p with
 | .val => DVal P ops rest d tm cur hist ws K (evVal P (opd tm) [] op)
 | .rd lo => match op with
  | .load t y => DLoad P ops rest d tm cur hist ws K ((hist[lo]?).bind fun M => loadA P t (opd tm y) M)
  | _ => False
 | .rw lo => match op with
  | .load t y => DLoadW P ops rest d tm cur hist ws K lo (opd tm y) ((hist[lo]?).bind fun M => loadA P t (opd tm y) M)
  | _ => False
 | .ext => match op with
  | .store _ _ _ => False
  | .call ⟨.value f, args, _⟩ => DFn P ops rest d tm cur hist ws K false (opd tm f) (args.toList.map (opd tm))
  | op => DExt P ops rest d tm cur hist ws K (evVal P (opd tm) cur op)
 | .up q => DUp P ops rest d tm cur hist ws K (hist[q]?) (evVal P (opd tm) cur op)
 | .fl => match op, g with
  | .alloc t, none => DFl P ops rest d tm cur hist ws K t (zeroOf P t)
  | _, _ => False
 | .wr => match op with
  | .store t x y => DWr P ops rest d tm hist ws K ((storeA P t (opd tm x) (opd tm y) cur).map fun m => (.one .und, m))
  | .call ⟨.value f, args, _⟩ => DFn P ops rest d tm cur hist ws K true (opd tm f) (args.toList.map (opd tm))
  | op => DWr P ops rest d tm hist ws K (evVal P (opd tm) cur op)
def DGrd (P : Program) (ops : Array Oper) (rest : Pl) (d : Option Tmp) (tm : Tm) (cur : AMem) (hist : List AMem) (ws : List (Nat × Nat)) (K : Tm → AMem → Prop) (op : Op) (og : Option (Nat × Bool)) (p : Plan) (g : Option Bool) : Prop :=
 match g with
 | some true => DOp P ops rest d tm cur hist ws K op og p
 | some false => AOpsD P ops rest (putO d (.one .und) tm) cur (if p.chain then hist ++ [cur] else hist) ws K
 | none => False
section
variable {ops : Array Oper} {rest : Pl} {d : Option Tmp} {op : Op} {t : TypeId} {pos : String} {af : Array Edge} {tm : Tm} {cur : AMem} {hist : List AMem} {ws : List (Nat × Nat)} {K : Tm → AMem → Prop} {p : Plan} {og : Option (Nat × Bool)}
theorem watched_nil {Ms : List AMem} : Watched Ms [] := fun p hp => by cases hp
theorem AOpsD_nil : AOpsD P ops [] tm cur hist [] K = K tm cur := by simp only [AOpsD, eq_iff_iff, and_iff_right_iff_imp]; exact fun _ => watched_nil
def allAt (r : Nat) (b : Blk) : List AMem → Prop
 | [] => True
 | M :: Ms => M[r]? = some b ∧ allAt r b Ms
theorem allAt_mem {r : Nat} {b : Blk} : ∀ {Ms : List AMem}, allAt r b Ms → ∀ M, M ∈ Ms → M[r]? = some b
 | M' :: Ms, h, M, hM => by
  rcases List.mem_cons.1 hM with rfl | hM
  ·exact h.1
  ·exact allAt_mem h.2 M hM
theorem Watched.add {Ms : List AMem} {W : List (Nat × Nat)} {lo r : Nat} {b : Blk} {Ms' : List AMem} (he : Ms.drop lo = Ms') (h : allAt r b Ms') (h2 : Watched Ms W) : Watched Ms ((lo, r) :: W) := fun p hp => by
 rcases List.mem_cons.1 hp with rfl | hp
 ·exact ⟨b, fun M hM => allAt_mem (he ▸ h) M hM⟩
 ·exact h2 p hp
def watchS (Ms : List AMem) : List (Nat × Nat) → Prop
 | [] => True
 | (lo, r) :: W => (match Ms.drop lo with
  | [] => True
  | M :: Ms' => match M[r]? with
   | some b => allAt r b Ms'
   | none => False) ∧ watchS Ms W
theorem watchS_ok {Ms : List AMem} : ∀ {W : List (Nat × Nat)}, watchS Ms W → Watched Ms W
 | [], _ => watched_nil
 | (lo, r) :: W, h => by
  have h1 := h.1
  generalize hd : Ms.drop lo = L at h1
  cases L with
  | nil => exact Watched.add (b := ⟨.fix, 0, 0, 0, []⟩) hd trivial (watchS_ok h.2)
  | cons M L =>
   cases hm : M[r]? with
   | none => simp only [hm] at h1
   | some b => simp only [hm] at h1; exact Watched.add (b := b) hd ⟨hm, h1⟩ (watchS_ok h.2)
theorem AOpsD_gen {o : Oper} : AOpsD P ops ((o, p) :: rest) tm cur hist ws K = DGrd P ops rest o.dst tm cur hist ws K o.op o.guard p (wantedA ops o tm) := by
 obtain ⟨d, op, t, pos, af, g⟩ := o
 simp only [AOpsD, DGrd, DOp]
 generalize wantedA ops ⟨d, op, t, pos, af, g⟩ tm = w
 cases w with
 | none => rfl
 | some b =>
  cases b with
  | false => rfl
  | true =>
   simp only
   cases p with
   | val => rfl
   | rd lo =>
    cases op
    case load t y =>
     simp only [DLoad]
     cases hist[lo]? with
     | none => rfl
     | some M => rfl
    all_goals rfl
   | rw lo =>
    cases op
    case load t y =>
     simp only [DLoadW]
     generalize opd tm y = a
     cases hist[lo]? with
     | none =>
      cases a with
      | one c => cases c <;> rfl
      | _ => rfl
     | some M =>
      cases a with
      | one c =>
       cases c
       case ptr r v o => simp only [Option.bind_some] <;> (generalize loadA P t (.one (.ptr r v o)) M = z; cases z <;> rfl)
       all_goals rfl
      | _ => rfl
    all_goals rfl
   | ext =>
    cases op
    case call c =>
     obtain ⟨cal, args, ts⟩ := c
     cases cal with
     | value f =>
      simp only [DFn, DCall]
      generalize opd tm f = fv
      cases fv with
      | one c => cases c <;> rfl
      | _ => rfl
     | _ => rfl
    all_goals rfl
   | up q => rfl
   | fl =>
    cases op
    case alloc t =>
     cases g with
     | none => simp only [DFl] <;> (generalize zeroOf P t = z; cases z <;> rfl)
     | some g => rfl
    all_goals rfl
   | wr =>
    cases op
    case store t x y =>
     simp only [DWr]
     generalize storeA P t (opd tm x) (opd tm y) cur = s
     cases s <;> rfl
    case call c =>
     obtain ⟨cal, args, ts⟩ := c
     cases cal with
     | value f =>
      simp only [DFn, DCallW]
      generalize opd tm f = fv
      cases fv with
      | one c => cases c <;> rfl
      | _ => rfl
     | _ => rfl
    all_goals rfl
theorem AOpsD_run : AOpsD P ops ((⟨d, op, t, pos, af, none⟩, p) :: rest) tm cur hist ws K = DOp P ops rest d tm cur hist ws K op none p := by
 rw [AOpsD_gen]; rfl
theorem AOpsD_grd {g : Nat × Bool} : AOpsD P ops ((⟨d, op, t, pos, af, some g⟩, p) :: rest) tm cur hist ws K = DGrd P ops rest d tm cur hist ws K op (some g) p (wantedA ops ⟨d, op, t, pos, af, some g⟩ tm) := AOpsD_gen
theorem DGrd_true : DGrd P ops rest d tm cur hist ws K op og p (some true) = DOp P ops rest d tm cur hist ws K op og p := rfl
theorem DGrd_false : DGrd P ops rest d tm cur hist ws K op og p (some false) = AOpsD P ops rest (putO d (.one .und) tm) cur (if p.chain then hist ++ [cur] else hist) ws K := rfl
theorem DFl_some {z : Value} : DFl P ops rest d tm cur hist ws K t (some z) = AOpsD P ops rest (putO d (.one (.ptr cur.length 0 0)) tm) (cur ++ [⟨.fix, t, 0, 0, z.cells.toList.map cellOf⟩]) (hist ++ [cur ++ [⟨.fix, t, 0, 0, z.cells.toList.map cellOf⟩]]) ws K := rfl
theorem DGrd.split {b : Bool} (h1 : b = true → DGrd P ops rest d tm cur hist ws K op og p (some true)) (h2 : b = false → DGrd P ops rest d tm cur hist ws K op og p (some false)) : DGrd P ops rest d tm cur hist ws K op og p (some b) := by
 cases b; exact h2 rfl; exact h1 rfl
theorem DVal_some {x : AV} : DVal P ops rest d tm cur hist ws K (some (x, [])) = AOpsD P ops rest (putO d x tm) cur hist ws K := rfl
theorem DLoadW_some {x : AV} {lo r v o : Nat} : DLoadW P ops rest d tm cur hist ws K lo (.one (.ptr r v o)) (some x) = AOpsD P ops rest (putO d x tm) cur hist ((lo, r) :: ws) K := rfl
theorem DLoad_some {x : AV} : DLoad P ops rest d tm cur hist ws K (some x) = AOpsD P ops rest (putO d x tm) cur hist ws K := rfl
theorem DExt.by {x : AV} {mem' extra : AMem} (he : mem' = cur ++ extra) (h : AOpsD P ops rest (putO d x tm) mem' (hist ++ [mem']) ws K) : DExt P ops rest d tm cur hist ws K (some (x, mem')) := ⟨⟨extra, he⟩, h⟩
theorem DUp.by {x : AV} {mem' B x0 y0 : AMem} (hc : cur = B ++ x0) (hm : mem' = B ++ y0) (h : AOpsD P ops rest (putO d x tm) mem' (hist ++ [mem']) ws K) : DUp P ops rest d tm cur hist ws K (some B) (some (x, mem')) := ⟨⟨B, x0, y0, rfl, hc, hm⟩, h⟩
theorem DWr_some {x : AV} {mem' : AMem} : DWr P ops rest d tm hist ws K (some (x, mem')) = AOpsD P ops rest (putO d x tm) mem' (hist ++ [mem']) ws K := rfl
theorem DFn_ext {g : FuncId} {cs : List (Nat × Nat × Nat)} {args : List AV} : DFn P ops rest d tm cur hist ws K false (.one (.fn g cs)) args = DCall P ops rest d tm cur hist ws K g (args ++ capsAV cs) := rfl
theorem DFn_wr {g : FuncId} {cs : List (Nat × Nat × Nat)} {args : List AV} : DFn P ops rest d tm cur hist ws K true (.one (.fn g cs)) args = DCallW P ops rest d tm cur hist ws K g (args ++ capsAV cs) := rfl
theorem DCall.by {g : FuncId} {args : List AV} {ret : AV} {extra : AMem} (h : Ctr P g args cur ret (cur ++ extra)) (h2 : AOpsD P ops rest (putO d ret tm) (cur ++ extra) (hist ++ [cur ++ extra]) ws K) : DCall P ops rest d tm cur hist ws K g args := ⟨ret, extra, h, h2⟩
theorem DCall.by0 {g : FuncId} {args : List AV} {ret : AV} (h : Ctr P g args cur ret cur) (h2 : AOpsD P ops rest (putO d ret tm) cur (hist ++ [cur]) ws K) : DCall P ops rest d tm cur hist ws K g args := ⟨ret, [], by simpa using h, by simpa using h2⟩
theorem DCallW.by {g : FuncId} {args : List AV} {ret : AV} {mem' : AMem} (h : Ctr P g args cur ret mem') (h2 : AOpsD P ops rest (putO d ret tm) mem' (hist ++ [mem']) ws K) : DCallW P ops rest d tm cur hist ws K g args := ⟨ret, mem', h, h2⟩
end
def RetP (P : Program) (rs : List ResultVar) (L : Nat) (ret : AV) (mem' : AMem) (ex : Exit) (tm : Tm) (m : AMem) : Prop :=
 (ex = .normal ∨ ex = .ret) ∧ ∃ x, resA P rs tm m = some x ∧ Hands L x m ret mem'
variable {nt : Nat} {tm : Tm} {mem : AMem} {Q : Exit → Tm → AMem → Prop}
theorem Ctr.enter {f : FuncId} {fn : Func} {c : Code} {args : List AV} {ret : AV} {mem' : AMem} {rs : List ResultVar} {nt : Nat} (hf : P.funcs[f]? = some fn) (hb : fn.body = some c) (hname : (fn.name == "runtime.NumGoroutine") = false) (hrs : fn.results.toList = rs) (hnt : fn.ntmps = nt)
  (h : MWf mem.length mem → ∀ Q : Exit → Tm → AMem → Prop, (∀ ex tm m, RetP P rs mem.length ret mem' ex tm m → Q ex tm m) → AW P nt c (enterTm 0 args) mem Q) : Ctr P f args mem ret mem' := by
 subst hrs; subst hnt
 exact Ctr.of_body hf hb hname fun hw => h hw _ fun _ _ _ h => h
theorem AW.seq_k {x y : Code} (h : ∀ K : Tm → AMem → Prop, (∀ tm' mem', AW P nt y tm' mem' Q → K tm' mem') → AW P nt x tm mem (Thn K Q)) : AW P nt (.seq x y) tm mem Q :=
 AW.seq (h _ fun _ _ h => h)
theorem AOps.mono {ops : Array Oper} {K K' : Tm → AMem → Prop} (hk : ∀ tm m, K tm m → K' tm m) : ∀ (l : List Oper) (tm : Tm) (mem : AMem), AOps P ops l tm mem K → AOps P ops l tm mem K'
 | [], tm, mem, h => hk tm mem h
 | ⟨d, op, t, pos, af, none⟩ :: rest, tm, mem, h => by
  rw [AOps_run] at h ⊢
  have kv : ∀ r, VThen P ops rest d tm K r → VThen P ops rest d tm K' r := fun r h => by
   cases r with
   | none => exact h
   | some x => exact AOps.mono hk rest _ _ h
  have ks : ∀ r, SThen P ops rest d tm K r → SThen P ops rest d tm K' r := fun r h => by
   cases r with
   | none => exact h
   | some x => exact AOps.mono hk rest _ _ h
  have kf : ∀ f args, FThen P ops rest d tm K f args mem → FThen P ops rest d tm K' f args mem := fun f args h => by
   unfold FThen at h ⊢
   split at h
   ·obtain ⟨ret, mem', h1, h2⟩ := h
    exact ⟨ret, mem', h1, AOps.mono hk rest _ _ h2⟩
   ·obtain ⟨ret, mem', h1, h2⟩ := h
    exact ⟨ret, mem', h1, AOps.mono hk rest _ _ h2⟩
   ·exact h.elim
  cases op with
  | store t x y => exact ks _ h
  | call c =>
   obtain ⟨callee, args, ats⟩ := c
   cases callee with
   | value f => exact kf _ _ h
   | _ => simp only [OThen] at h ⊢; exact kv _ h
  | _ => simp only [OThen] at h ⊢; exact kv _ h
 | ⟨d, op, t, pos, af, some g⟩ :: rest, tm, mem, h => by
  rw [AOps_grd] at h ⊢
  generalize wantedA ops ⟨d, op, t, pos, af, some g⟩ tm = w at h ⊢
  match w, h with
  | none, h => exact h
  | some false, h => exact AOps.mono hk rest _ _ h
  | some true, h => exact AOps.mono hk (⟨d, op, t, pos, af, none⟩ :: rest) _ _ h
termination_by l => (l.length, (match l with | ⟨_, _, _, _, _, some _⟩ :: _ => 1 | _ => 0))
decreasing_by all_goals simp_wf; all_goals first | (apply Prod.Lex.left; simp; done) | (apply Prod.Lex.right; simp; done)
def RL : List ((Tm → AMem → Prop) → Tm → AMem → Prop) → (Tm → AMem → Prop) → Tm → AMem → Prop
 | [], K => K
 | f :: r, K => f (RL r K)
theorem RL_nil {K : Tm → AMem → Prop} : RL [] K tm mem = K tm mem := propext Iff.rfl
theorem RL_cons {f : (Tm → AMem → Prop) → Tm → AMem → Prop} {r : List ((Tm → AMem → Prop) → Tm → AMem → Prop)} {K : Tm → AMem → Prop} : RL (f :: r) K tm mem = f (RL r K) tm mem := propext Iff.rfl
def cutR : Nat → Code → Option (List (Array Oper) × Code)
 | 0, c => some ([], c)
 | n + 1, .seq (.region _ a false) y => match cutR n y with
  | some (ls, z) => some (a :: ls, z)
  | none => none
 | _, _ => none
theorem AW.cutR_ok : ∀ {n : Nat} {c y : Code} {ls : List (Array Oper)} {tm : Tm} {mem : AMem}, cutR n c = some (ls, y) → ls.all (fun a => a.toList.all (dstOk nt)) = true → RL (ls.map fun a K tm mem => AOps P a a.toList tm mem K) (fun tm' mem' => AW P nt y tm' mem' Q) tm mem → AW P nt c tm mem Q
 | 0, c, y, ls, tm, mem, h, _, hr => by
  simp only [cutR, Option.some.injEq, Prod.mk.injEq] at h
  obtain ⟨rfl, rfl⟩ := h
  exact hr
 | n + 1, c, y, ls, tm, mem, h, hd, hr => by
  unfold cutR at h
  split at h
  ·rename_i e; exact absurd e (by omega)
  ·rename_i id a y' e
   split at h
   ·rename_i ls' z hz
    injection h with h; injection h with h1 h2
    subst h1; subst h2
    rw [List.all_cons, Bool.and_eq_true] at hd
    rw [List.map_cons, RL_cons] at hr
    have ha : AW P nt (.region id a.toList.toArray false) tm mem (Thn (fun tm' mem' => AW P nt y' tm' mem' Q) Q) := AW.region hd.1 (by
     rw [Array.toArray_toList]
     exact AOps.mono (fun tm' mem' h => AW.cutR_ok hz hd.2 h) _ _ _ hr)
    rw [Array.toArray_toList] at ha
    exact AW.seq ha
   ·cases h
  ·cases h
theorem AW.sr {c y : Code} {ls : List (Array Oper)} (n : Nat) (hk : ∀ K : Tm → AMem → Prop, (∀ tm' mem', AW P nt y tm' mem' Q → K tm' mem') → RL (ls.map fun a K tm mem => AOps P a a.toList tm mem K) K tm mem) (h : cutR n c = some (ls, y) := by rfl) (hd : ls.all (fun a => a.toList.all (dstOk nt)) = true := by decide) : AW P nt c tm mem Q :=
 AW.cutR_ok h hd (hk _ fun _ _ h => h)
theorem AW.rg {id : Nat} {l : List Oper} (h : AOps P l.toArray l tm mem (Q .normal)) (hd : l.all (dstOk nt) = true := by decide) : AW P nt (.region id l.toArray false) tm mem Q := AW.region hd h
theorem AW.ifT {c : Operand} {x y : Code} (hc : opd tm c = .one (.bool true)) (h : AW P nt y tm mem Q) : AW P nt (.seq (.cond c .skip x) y) tm mem Q := AW.seq (AW.cond hc (fun _ => AW.skip h) (fun h => by cases h))
theorem AW.cond_t {c : Operand} {x y : Code} (hc : opd tm c = .one (.bool true)) (h : AW P nt x tm mem Q) : AW P nt (.cond c x y) tm mem Q := AW.cond hc (fun _ => h) (fun h => by cases h)
theorem AW.cond_f {c : Operand} {x y : Code} (hc : opd tm c = .one (.bool false)) (h : AW P nt y tm mem Q) : AW P nt (.cond c x y) tm mem Q := AW.cond hc (fun h => by cases h) (fun _ => h)
theorem Thn_n {K : Tm → AMem → Prop} {tm' : Tm} {m' : AMem} (h : K tm' m') : Thn K Q .normal tm' m' := h
theorem Thn_r {K : Tm → AMem → Prop} {tm' : Tm} {m' : AMem} (h : Q .ret tm' m') : Thn K Q .ret tm' m' := h
theorem Thn_e {K : Tm → AMem → Prop} {tm' : Tm} {m' : AMem} {id : Nat} (h : Q (.exit id) tm' m') : Thn K Q (.exit id) tm' m' := h
theorem InB_n {id : Nat} {tm' : Tm} {m' : AMem} (h : Q .normal tm' m') : InB id Q .normal tm' m' := h
theorem InB_r {id : Nat} {tm' : Tm} {m' : AMem} (h : Q .ret tm' m') : InB id Q .ret tm' m' := h
theorem InB_here {id : Nat} {tm' : Tm} {m' : AMem} (h : Q .normal tm' m') : InB id Q (.exit id) tm' m' := by simp only [InB, if_true]; exact h
theorem InB_far {id id' : Nat} {tm' : Tm} {m' : AMem} (hne : id' ≠ id) (h : Q (.exit id') tm' m') : InB id Q (.exit id') tm' m' := by simp only [InB, if_neg hne]; exact h
theorem RetP.drop {rs : List ResultVar} {ret : AV} {extra : AMem} {ex : Exit} (hex : ex = .normal ∨ ex = .ret) (hres : resA P rs tm (mem ++ extra) = some ret) (hb : ret.below mem.length = true) (hw : MWf mem.length mem) :
  RetP P rs mem.length ret mem ex tm (mem ++ extra) := ⟨hex, ret, hres, Hands.drop rfl hb hw⟩
theorem RetP.drop0 {rs : List ResultVar} {ret : AV} {ex : Exit} (hex : ex = .normal ∨ ex = .ret) (hres : resA P rs tm mem = some ret) (hb : ret.below mem.length = true) (hw : MWf mem.length mem) :
  RetP P rs mem.length ret mem ex tm mem := ⟨hex, ret, hres, Hands.drop (extra := []) (by simp) hb hw⟩
theorem RetP.pick {rs : List ResultVar} {ret : AV} {extra bs : AMem} {ex : Exit} (ks : List (Nat × Nat)) (hex : ex = .normal ∨ ex = .ret) (hx : (resA P rs tm (mem ++ extra)).bind (renV mem.length ks) = some ret) (hbs : picks (mem ++ extra) ks = some bs)
  (hd : distinctFrom mem.length ks) (hw : MWf mem.length mem) (hwb : MWf mem.length bs) :
  RetP P rs mem.length ret (mem ++ bs) ex tm (mem ++ extra) := by
 obtain ⟨x, hres, hx⟩ := Option.bind_eq_some_iff.1 hx
 exact ⟨hex, x, hres, Hands.pick rfl ks hbs hd hx hw hwb⟩
def ARounds (P : Program) (nt : Nat) (c : Code) (Q : Exit → Tm → AMem → Prop) : Nat → Tm → AMem → Prop
 | 0, _, _ => False
 | n + 1, tm, mem => AW P nt c tm mem (Thn (ARounds P nt c Q n) Q)
theorem ARounds.succ {c : Code} {n : Nat} (h : ∀ K : Tm → AMem → Prop, (∀ tm' mem', ARounds P nt c Q n tm' mem' → K tm' mem') → AW P nt c tm mem (Thn K Q)) : ARounds P nt c Q (n + 1) tm mem := h _ fun _ _ h => h
theorem rounds_mono {c : Code} : ∀ (n : Nat) (Q1 Q2 : Exit → Act → World → Prop), (∀ e a w, Q1 e a w → Q2 e a w) → ∀ a w, Code.rounds P c Q1 n a w → Code.rounds P c Q2 n a w := by
 intro n Q1 Q2 hQ
 induction n with
 | zero => intro a w h; exact h
 | succ n ihn =>
  intro a w h
  refine wp_mono h ?_
  intro e a w h
  cases e with
  | normal => exact ihn a w h
  | _ => exact hQ _ _ _ h
theorem AW.rounds {c : Code} (n : Nat) (h : ARounds P nt c Q n tm mem) : AW P nt (.loop c) tm mem Q := by
 intro ρ a w hr
 refine wp_loop_rounds n ?_
 induction n generalizing tm mem ρ a w with
 | zero => exact h.elim
 | succ n ih =>
  refine wp_mono (h ρ a w hr) ?_
  rintro e a' w' ⟨ρ', tm', mem', hr', hs, hd, hq⟩
  cases e with
  | normal =>
   refine rounds_mono _ _ _ ?_ a' w' (ih hq ρ' a' w' hr')
   rintro e a'' w'' ⟨ρ'', tm'', mem'', hr'', hs', hd', hq'⟩
   exact ⟨ρ'', tm'', mem'', hr'', hs.trans hs', hd'.trans hd, hq'⟩
  | _ => exact ⟨ρ', tm', mem', hr', hs, hd, hq⟩
theorem AW.weak {c : Code} {tm' : Tm} (h : Keeps tm tm') (g : AW P nt c tm' mem Q) : AW P nt c tm mem Q := by
 intro ρ a w hr
 obtain ⟨ρ', hr', hs⟩ := Weak.keep (nt := nt) (mem := mem) h ρ a w hr
 refine wp_mono (g ρ' a w hr') ?_
 rintro e a' w' ⟨ρ2, tm2, mem2, hr2, hs2, hd, hq⟩
 exact ⟨ρ2, tm2, mem2, hr2, (hs mem ρ w (Nat.le_refl _) (Step.refl _ _ _)).trans hs2, hd, hq⟩
theorem below_mono {L L' : Nat} (h : L ≤ L') : ∀ {c : CV}, c.below L = true → c.below L' = true
 | .ptr r _ _, hc => by simp only [CV.below, decide_eq_true_eq] at hc ⊢; omega
 | .sl r _ _ _, hc => by simp only [CV.below, decide_eq_true_eq] at hc ⊢; omega
 | .view r _ _ _, hc => by simp only [CV.below, decide_eq_true_eq] at hc ⊢; omega
 | .fn _ cs, hc => by
  simp only [CV.below, List.all_eq_true, decide_eq_true_eq] at hc ⊢
  exact fun c hcs => Nat.lt_of_lt_of_le (hc c hcs) h
 | .bm _ cs, hc => by
  simp only [CV.below, List.all_eq_true] at hc ⊢
  intro s hs
  have := hc s hs
  cases s <;> simp only [SV.below, decide_eq_true_eq] at this ⊢
  omega
 | .bool _, _ => rfl
 | .int _ _, _ => rfl
 | .str _, _ => rfl
 | .nilp, _ => rfl
 | .nils, _ => rfl
 | .nilf, _ => rfl
 | .nili, _ => rfl
 | .und, _ => rfl
 | .junk, _ => rfl
 | .mp r _, hc => by simp only [CV.below, decide_eq_true_eq] at hc ⊢; omega
 | .nilm, _ => rfl
 | .gp _ _, _ => rfl
 | .ifj _, _ => rfl
theorem all_below_mono {L L' : Nat} (h : L ≤ L') {cs : List CV} (hc : cs.all (CV.below L) = true) : cs.all (CV.below L') = true :=
 List.all_eq_true.2 fun c hcs => below_mono h (List.all_eq_true.1 hc c hcs)
theorem kind_below_mono {L L' : Nat} (h : L ≤ L') {k : BK} (hk : k.below L = true) : k.below L' = true := by
 cases k with
 | map ka va clock es =>
  simp only [BK.below, List.all_eq_true, Bool.and_eq_true] at hk ⊢
  exact fun e he => ⟨fun c hc => below_mono h ((hk e he).1 c hc), fun c hc => below_mono h ((hk e he).2 c hc)⟩
 | iter rm since seen last => simp only [BK.below, decide_eq_true_eq] at hk ⊢; omega
 | _ => rfl
theorem blk_below_mono {L L' : Nat} (h : L ≤ L') {b : Blk} (hb : b.below L = true) : b.below L' = true := by
 simp only [Blk.below, Bool.and_eq_true] at hb ⊢
 exact ⟨kind_below_mono h hb.1, all_below_mono h hb.2⟩
theorem blk_below {L : Nat} {b : Blk} (hk : b.kind.below L = true) (h : b.cells.all (CV.below L) = true) : b.below L = true := by
 simp only [Blk.below, Bool.and_eq_true]; exact ⟨hk, h⟩
theorem MWf_one {L : Nat} {b : Blk} (h : b.cells.all (CV.below 0) = true) (hk : b.kind.below 0 = true := by rfl) : MWf L [b] := fun b' hb => by
 rw [List.mem_singleton.1 hb]; exact blk_below_mono (Nat.zero_le _) (blk_below hk h)
theorem MWf_nil {L : Nat} : MWf L [] := fun b hb => by cases hb
theorem MWf_cons {L : Nat} {b : Blk} {m : AMem} (h : b.cells.all (CV.below L) = true) (hm : MWf L m) (hk : b.kind.below L = true := by rfl) : MWf L (b :: m) := fun b' hb => by
 rcases List.mem_cons.1 hb with rfl | hb
 ·exact blk_below hk h
 ·exact hm b' hb
theorem MWf.grow {L L' : Nat} {m : AMem} (h : MWf L m) (hl : L ≤ L') : MWf L' m := fun b hb => blk_below_mono hl (h b hb)
theorem MWf.app {L : Nat} {m l : AMem} (h : MWf L m) (hl : MWf L l) : MWf L (m ++ l) := fun b hb => by
 rcases List.mem_append.1 hb with hb | hb
 ·exact h b hb
 ·exact hl b hb
theorem get_lt {m : AMem} {r : Nat} {b : Blk} (h : m[r]? = some b) : r < m.length := (List.getElem?_eq_some_iff.1 h).1
def keepL (tm : Tm) (ks : List Nat) : Tm := ks.map fun k => (k, Tm.get tm k)
def setAll (m : AMem) : List (Nat × Blk) → AMem
 | [] => m
 | (k, b) :: r => setAll (m.set k b) r
theorem setAll_len : ∀ (u : List (Nat × Blk)) (m : AMem), (setAll m u).length = m.length
 | [], m => rfl
 | (k, b) :: u, m => by rw [setAll, setAll_len u]; simp
theorem KS : (∀ tm : Tm, Keeps tm [] = True) ∧ (∀ (tm : Tm) (j : Nat) (v : AV) (r : List (Nat × AV)), Keeps tm ((j, v) :: r) = (Tm.get tm j = v ∧ Keeps tm r)) ∧ (∀ (j : Nat) (v : AV) (r : List (Nat × AV)) (i : Nat), Tm.get ((j, v) :: r) i = if i = j then v else Tm.get r i) ∧ (∀ p : Prop, (True ∧ p) = p) ∧ (∀ p : Prop, (p ∧ True) = p) ∧ ∀ p : Prop, (p ∧ p) = p :=
 ⟨fun _ => rfl, fun _ _ _ _ => rfl, fun _ _ _ _ => rfl, true_and, and_true, and_self⟩
theorem keeps_keepL (tm : Tm) : ∀ ks : List Nat, Keeps tm (keepL tm ks)
 | [] => trivial
 | k :: ks => ⟨rfl, keeps_keepL tm ks⟩
theorem Keeps.append {tm : Tm} : ∀ {a b : Tm}, Keeps tm a → Keeps tm b → Keeps tm (a ++ b)
 | [], b, _, h => h
 | (j, v) :: a, b, h, g => ⟨h.1, Keeps.append h.2 g⟩
theorem Weak.to {tm' : Tm} {m1 extra : AMem} (hk : Keeps tm tm') (he : mem = m1 ++ extra) (ht : tm'.all (fun p => p.2.below m1.length) = true) (hw : MWf m1.length m1) : Weak nt tm mem tm' m1 :=
 Weak.trans (Weak.keep hk) (Weak.trunc he (fun p hp => List.all_eq_true.1 ht p hp) hw) (by rw [he]; simp)
theorem Weak.same {tm' : Tm} {m1 : AMem} (hk : Keeps tm tm') (he : mem = m1) : Weak nt tm mem tm' m1 := by subst he; exact Weak.keep hk
theorem AW.loopK {ι : Type} {c : Code} (keep : List Nat) (I : ι → Prop) (V : ι → Tm) (U : ι → List (Nat × Blk)) (μ : ι → Nat) (i : ι) (hi : I i) (hv : Keeps tm (V i)) (hm : setAll mem (U i) = mem)
  (h : ∀ i, I i → AW P nt c (V i ++ keepL tm keep) (setAll mem (U i)) (Thn (fun tm' mem' => ∃ j, I j ∧ μ j < μ i ∧ Weak nt tm' mem' (V j ++ keepL tm keep) (setAll mem (U j))) Q)) : AW P nt (.loop c) tm mem Q := by
 refine AW.weak (tm' := V i ++ keepL tm keep) (Keeps.append hv (keeps_keepL _ _)) ?_
 refine AW.loop (ι := { i // I i }) (fun j => V j.1 ++ keepL tm keep) (fun j => setAll mem (U j.1)) (fun j => μ j.1) ⟨i, hi⟩ rfl hm fun ⟨j, hj⟩ => ?_
 refine (h j hj).mono fun e tm' mem' hq => ?_
 cases e with
 | normal =>
  obtain ⟨k, hk, hlt, hw⟩ := hq
  exact ⟨⟨k, hk⟩, hlt, hw, by simp only [setAll_len]; exact Nat.le_refl _⟩
 | _ => exact hq
def AL (P : Program) (nt : Nat) (c : Code) (Q : Exit → Tm → AMem → Prop) (m0 : AMem) (n : Nat) (tm : Tm) (mem : AMem) : Prop :=
 ∀ ρ0 w0 ρ a w, Rep ρ nt tm mem a w → Step m0 ρ0 w0 mem ρ w → Code.rounds P c (fun ex a' w' => ∃ ρ' tm' mem', Rep ρ' nt tm' mem' a' w' ∧ Step m0 ρ0 w0 mem' ρ' w' ∧ a'.defers = a.defers ∧ Q ex tm' mem') n a w
theorem AL.loop {c : Code} {n : Nat} (h : AL P nt c Q mem n tm mem) : AW P nt (.loop c) tm mem Q := fun ρ a w hr => wp_loop_rounds n (h ρ w ρ a w hr (Step.refl _ _ _))
theorem AL.succ {c : Code} {m0 : AMem} {n : Nat} (h : AW P nt c tm mem (Thn (fun tm' m' => ∃ T M, Weak nt tm' m' T M ∧ m0.length ≤ M.length ∧ AL P nt c Q m0 n T M) Q)) : AL P nt c Q m0 (n + 1) tm mem := by
 intro ρ0 w0 ρ a w hr hs
 refine wp_mono (h ρ a w hr) ?_
 rintro e a' w' ⟨ρ', tm', mem', hr', hs', hd, hq⟩
 have hst := hs.trans hs'
 cases e with
 | normal =>
  obtain ⟨T, M, hw, hl, hal⟩ := hq
  obtain ⟨ρ2, hr2, hs2⟩ := hw ρ' a' w' hr'
  refine rounds_mono _ _ _ ?_ a' w' (hal ρ0 w0 ρ2 a' w' hr2 (hs2 _ _ _ hl hst))
  rintro e a'' w'' ⟨ρ'', tm'', mem'', hr'', hs'', hd', hq'⟩
  exact ⟨ρ'', tm'', mem'', hr'', hs'', hd'.trans hd, hq'⟩
 | _ => exact ⟨ρ', tm', mem', hr', hst, hd, hq⟩
theorem iw0 : IntKind.i64.wrap 0 = 0 := rfl
theorem iw1 : IntKind.i64.wrap 1 = 1 := rfl
theorem iw2 : IntKind.i64.wrap 2 = 2 := rfl
theorem iw3 : IntKind.i64.wrap 3 = 3 := rfl
theorem iw4 : IntKind.i64.wrap 4 = 4 := rfl
theorem iw5 : IntKind.i64.wrap 5 = 5 := rfl
theorem iw6 : IntKind.i64.wrap 6 = 6 := rfl
theorem iw7 : IntKind.i64.wrap 7 = 7 := rfl
theorem iw8 : IntKind.i64.wrap 8 = 8 := rfl
theorem iw9 : IntKind.i64.wrap 9 = 9 := rfl
theorem iw10 : IntKind.i64.wrap 10 = 10 := rfl
theorem iw11 : IntKind.i64.wrap 11 = 11 := rfl
theorem iw12 : IntKind.i64.wrap 12 = 12 := rfl
theorem iw13 : IntKind.i64.wrap 13 = 13 := rfl
theorem iw14 : IntKind.i64.wrap 14 = 14 := rfl
theorem iw15 : IntKind.i64.wrap 15 = 15 := rfl
theorem iw16 : IntKind.i64.wrap 16 = 16 := rfl
theorem iw17 : IntKind.i64.wrap 17 = 17 := rfl
theorem iw18 : IntKind.i64.wrap 18 = 18 := rfl
theorem iw19 : IntKind.i64.wrap 19 = 19 := rfl
theorem iw20 : IntKind.i64.wrap 20 = 20 := rfl
theorem iw21 : IntKind.i64.wrap 21 = 21 := rfl
theorem iw22 : IntKind.i64.wrap 22 = 22 := rfl
theorem iw23 : IntKind.i64.wrap 23 = 23 := rfl
theorem iw24 : IntKind.i64.wrap 24 = 24 := rfl
theorem iw25 : IntKind.i64.wrap 25 = 25 := rfl
theorem iw26 : IntKind.i64.wrap 26 = 26 := rfl
theorem iw27 : IntKind.i64.wrap 27 = 27 := rfl
theorem iw28 : IntKind.i64.wrap 28 = 28 := rfl
theorem iw29 : IntKind.i64.wrap 29 = 29 := rfl
theorem iw30 : IntKind.i64.wrap 30 = 30 := rfl
theorem iw31 : IntKind.i64.wrap 31 = 31 := rfl
theorem iw32 : IntKind.i64.wrap 32 = 32 := rfl
theorem iw33 : IntKind.i64.wrap 33 = 33 := rfl
theorem iw34 : IntKind.i64.wrap 34 = 34 := rfl
theorem iw35 : IntKind.i64.wrap 35 = 35 := rfl
theorem iw36 : IntKind.i64.wrap 36 = 36 := rfl
theorem iw37 : IntKind.i64.wrap 37 = 37 := rfl
theorem iw38 : IntKind.i64.wrap 38 = 38 := rfl
theorem iw39 : IntKind.i64.wrap 39 = 39 := rfl
theorem iw40 : IntKind.i64.wrap 40 = 40 := rfl
theorem rg2 : List.range' 0 2 = [0, 1] := rfl
theorem rg3 : List.range' 0 3 = [0, 1, 2] := rfl
theorem rg4 : List.range' 0 4 = [0, 1, 2, 3] := rfl
theorem rg5 : List.range' 0 5 = [0, 1, 2, 3, 4] := rfl
theorem rg6 : List.range' 0 6 = [0, 1, 2, 3, 4, 5] := rfl
theorem rg8 : List.range' 0 8 = [0, 1, 2, 3, 4, 5, 6, 7] := rfl
theorem rg16 : List.range' 0 16 = [0, 1, 2, 3, 4, 5, 6, 7, 8, 9, 10, 11, 12, 13, 14, 15] := rfl
end
open Go Go.RowKit Go.ChangeShapes Go.WideShapes
def AllRo (m : AMem) : Prop := ∀ b, b ∈ m → b.kind = .ro
theorem Step.below {m m' : AMem} {ρ ρ' : Env} {W W' : World} (h : Step m ρ W m' ρ' W') (hro : AllRo m) : Below W.heap.size W W' :=
 ⟨h.os, h.tape, h.output, h.size, fun k hk => h.frame k hk (fun r b x _ hb hne => absurd (hro b (List.mem_of_getElem? hb)) hne)⟩
section
variable {P : Program} {B : Nat}
def good (P : Program) (B : Nat) (m : AMem) : Nat → TypeId → List CV → Prop
 | 0, _, _ => False
 | n + 1, t, cs => match P.underlying t with
  | some .bool => ∃ b, cs = [.bool b]
  | some (.int k) => ∃ x, cs = [.int k x] ∧ k.min ≤ x ∧ x ≤ k.max
  | some .string => ∃ s : ByteArray, cs = [.str s] ∧ s.size ≤ B
  | some (.slice e) => ∃ r len cells, cs = [.sl r 0 0 len] ∧ m[r]? = some ⟨.ro, e, 0, P.cellsOf e, cells⟩ ∧ cells.length = len * P.cellsOf e ∧ len ≤ B ∧
    ∀ i, i < len → good P B m n e ((cells.drop (i * P.cellsOf e)).take (P.cellsOf e))
  | some (.struct fs) => cs.length = P.cellsOf t ∧ ∀ f, f ∈ fs.toList → good P B m n f.type ((cs.drop f.offset).take (P.cellsOf f.type))
  | some (.array k e) => cs.length = P.cellsOf t ∧ ∀ i, i < k → good P B m n e ((cs.drop (i * P.cellsOf e)).take (P.cellsOf e))
  | _ => True
theorem good_mono {m : AMem} (x : AMem) : ∀ (n : Nat) (t : TypeId) (cs : List CV), good P B m n t cs → good P B (m ++ x) n t cs
 | 0, _, _, h => h
 | n + 1, t, cs, h => by
  unfold good at h ⊢
  split at h
  ·exact h
  ·exact h
  ·exact h
  ·obtain ⟨r, len, cells, h1, h2, h3, h4, h5⟩ := h
   exact ⟨r, len, cells, h1, lk_old h2 x, h3, h4, fun i hi => good_mono x n _ _ (h5 i hi)⟩
  ·exact ⟨h.1, fun f hf => good_mono x n _ _ (h.2 f hf)⟩
  ·exact ⟨h.1, fun i hi => good_mono x n _ _ (h.2 i hi)⟩
  ·trivial
theorem mapM_all2 {α β : Type} {f : α → Option β} : ∀ {l : List α} {xs : List β}, l.mapM f = some xs → All2 (fun a x => f a = some x) l xs
 | [], xs, h => by simp at h; subst h; trivial
 | a :: l, xs, h => by
  rw [List.mapM_cons] at h
  cases ha : f a with
  | none => simp [ha] at h
  | some y =>
   cases hl : l.mapM f with
   | none => simp [ha, hl] at h
   | some ys =>
    simp [ha, hl] at h
    subst h
    exact ⟨ha, mapM_all2 hl⟩
theorem All2.mem {α β : Type} {R : α → β → Prop} : ∀ {l : List α} {r : List β}, All2 R l r → ∀ a, a ∈ l → ∃ b, b ∈ r ∧ R a b
 | [], _, _, a, h => by cases h
 | x :: l, [], h, _, _ => h.elim
 | x :: l, y :: r, h, a, ha => by
  rcases List.mem_cons.1 ha with rfl | ha
  ·exact ⟨y, by simp, h.1⟩
  ·obtain ⟨b, hb, hr⟩ := All2.mem h.2 a ha
   exact ⟨b, List.mem_cons_of_mem _ hb, hr⟩
structure IsBulk {H : Type} (bulk : DataW H → Nat) : Prop where
 str : ∀ l : List UInt8, l.length ≤ bulk (.lit (.string l))
 agg : ∀ (l : List (DataW H)) (d : DataW H), d ∈ l → bulk d ≤ bulk (.agg l)
 row : ∀ (l s : List (DataW H)) (d : DataW H), d ∈ l → bulk d ≤ bulk (.slice l s)
 len : ∀ l s : List (DataW H), l.length ≤ bulk (.slice l s)
theorem RepM.roBlkV {ρ : Env} {m : AMem} {W : World} (h : RepM ρ m W) (hro : AllRo m) (ver : Nat) (A : Option Addr) (k ty esz : Nat) (cells : List CV)
  (hc : cells ≠ [] → ∃ a, A = some a ∧ a.block < W.heap.size ∧ (0 < ver → a = ⟨ver - 1, 0, none⟩ ∧ ∃ c t z, W.heap[ver - 1]? = some (.cells c t z) ∧ c.size = cells.length) ∧ ∀ i c, cells[i]? = some c → ∃ v, W.cell? (a.add i) = some v ∧ VC ρ c v) :
  ρ.le (ρ.set m.length ver (A, k)) ∧ RepM (ρ.set m.length ver (A, k)) (m ++ [⟨.ro, ty, ver, esz, cells⟩]) W ∧ AllRo (m ++ [⟨.ro, ty, ver, esz, cells⟩]) := by
 have hle : ρ.le (ρ.set m.length ver (A, k)) := Env.le_set (h.dom _ _ (Nat.le_refl _))
 have hall : AllRo (m ++ [⟨.ro, ty, ver, esz, cells⟩]) := by
  intro b hb
  rcases List.mem_append.1 hb with hb | hb
  ·exact hro b hb
  ·rw [List.mem_singleton.1 hb]
 refine ⟨hle, ⟨?_, ?_, ?_, ?_⟩, hall⟩
 ·intro r b hb
  rcases Nat.lt_trichotomy r m.length with hr | hr | hr
  ·rw [List.getElem?_append_left hr] at hb
   exact (h.blk r b hb).mono hle
  ·subst hr; simp at hb; subst hb
   refine ⟨A, k, Env.set_same _ _ _ _, fun hne => ?_⟩
   obtain ⟨a, ha, hlt, hgl, hv⟩ := hc hne
   exact ⟨a, ha, hlt, hgl, fun i c hi => by obtain ⟨v, h1, h2⟩ := hv i c hi; exact ⟨v, h1, h2.mono hle⟩⟩
  ·rw [List.getElem?_append_right (by omega), List.getElem?_eq_none (by simp; omega)] at hb
   cases hb
 ·intro r v hr
  simp at hr
  rw [Env.set_other ρ _ (by omega)]
  exact h.dom r v (by omega)
 ·intro r b v hb hv
  rcases Nat.lt_trichotomy r m.length with hr | hr | hr
  ·rw [List.getElem?_append_left hr] at hb
   rw [Env.set_other ρ _ (by omega)]; exact h.domv r b v hb hv
  ·subst hr; simp at hb; subst hb
   rw [Env.set_other ρ _ (by simp only at hv; omega)]; exact h.dom _ _ (Nat.le_refl _)
  ·rw [List.getElem?_append_right (by omega), List.getElem?_eq_none (by simp; omega)] at hb
   cases hb
 ·intro r s b c hb _ _ hk
  exact absurd (hall b (List.mem_of_getElem? hb)) hk
theorem RepM.roBlk {ρ : Env} {m : AMem} {W : World} (h : RepM ρ m W) (hro : AllRo m) (A : Option Addr) (k ty esz : Nat) (cells : List CV)
  (hc : cells ≠ [] → ∃ a, A = some a ∧ a.block < W.heap.size ∧ ∀ i c, cells[i]? = some c → ∃ v, W.cell? (a.add i) = some v ∧ VC ρ c v) :
  ρ.le (ρ.set m.length 0 (A, k)) ∧ RepM (ρ.set m.length 0 (A, k)) (m ++ [⟨.ro, ty, 0, esz, cells⟩]) W ∧ AllRo (m ++ [⟨.ro, ty, 0, esz, cells⟩]) :=
 h.roBlkV hro 0 A k ty esz cells fun hne => by
  obtain ⟨a, h1, h2, h3⟩ := hc hne
  exact ⟨a, h1, h2, fun h => absurd h (Nat.lt_irrefl 0), h3⟩
theorem add_add (a : Addr) (m n : Nat) : (a.add m).add n = a.add (m + n) := by
 unfold Addr.add
 by_cases hm : m = 0
 ·subst hm; simp
 ·by_cases hn : n = 0
  ·subst hn; simp
  ·rw [if_neg hn, if_neg hm, if_neg (by omega)]; simp [Nat.add_assoc]
theorem chunk_at {α : Type} {sz : Nat} : ∀ {ls : List (List α)} (hl : ∀ l, l ∈ ls → l.length = sz) {i : Nat} {c : List α}, ls[i]? = some c → (ls.flatten.drop (i * sz)).take sz = c
 | [], _, i, c, h => by simp at h
 | l :: ls, hl, 0, c, h => by
  simp at h; subst h
  simp [List.flatten_cons, List.take_append_of_le_length (Nat.le_of_eq (hl l (by simp)).symm), List.take_of_length_le (Nat.le_of_eq (hl l (by simp)))]
 | l :: ls, hl, i + 1, c, h => by
  simp only [List.getElem?_cons_succ] at h
  have := chunk_at (fun x hx => hl x (List.mem_cons_of_mem _ hx)) h
  rw [List.flatten_cons, show (i + 1) * sz = l.length + i * sz by rw [hl l (by simp), Nat.add_mul]; omega, List.drop_append, List.drop_of_length_le (by omega)]
  simpa using this
theorem flat_len {α : Type} {sz : Nat} : ∀ {ls : List (List α)} (hl : ∀ l, l ∈ ls → l.length = sz), ls.flatten.length = ls.length * sz
 | [], _ => by simp
 | l :: ls, hl => by
  rw [List.flatten_cons, List.length_append, flat_len (fun x hx => hl x (List.mem_cons_of_mem _ hx)), hl l (by simp), List.length_cons, Nat.add_mul]; omega
theorem flat_get {α : Type} {sz : Nat} : ∀ {ls : List (List α)} (hl : ∀ l, l ∈ ls → l.length = sz) {j : Nat} {c : α}, ls.flatten[j]? = some c → ∃ i q l, j = i * sz + q ∧ q < sz ∧ ls[i]? = some l ∧ l[q]? = some c
 | [], _, j, c, h => by simp at h
 | l :: ls, hl, j, c, h => by
  rw [List.flatten_cons] at h
  rcases Nat.lt_or_ge j l.length with hj | hj
  ·rw [List.getElem?_append_left hj] at h
   exact ⟨0, j, l, by simp, by rw [← hl l (by simp)]; exact hj, rfl, h⟩
  ·rw [List.getElem?_append_right hj] at h
   obtain ⟨i, q, l', h1, h2, h3, h4⟩ := flat_get (fun x hx => hl x (List.mem_cons_of_mem _ hx)) h
   refine ⟨i + 1, q, l', ?_, h2, h3, h4⟩
   have := hl l (by simp)
   rw [Nat.add_mul]; omega
variable {H : Type} {enc : TypeId × Value → H} {W : World} {bulk : DataW H → Nat}
def ReadOk (P : Program) (B : Nat) (W : World) (n : Nat) (t : TypeId) (cs : List Value) : Prop :=
 ∀ ρ m, RepM ρ m W → AllRo m → ∃ ρ' ex cv, ρ.le ρ' ∧ RepM ρ' (m ++ ex) W ∧ AllRo (m ++ ex) ∧ All2 (VC ρ') cv cs ∧ good P B (m ++ ex) n t cv
theorem read_items {α : Type} {n : Nat} (tt : α → TypeId) : ∀ (l : List α) (cs : List (List Value)), All2 (fun a c => ReadOk P B W n (tt a) c) l cs →
  ∀ ρ m, RepM ρ m W → AllRo m → ∃ ρ' ex cvs, ρ.le ρ' ∧ RepM ρ' (m ++ ex) W ∧ AllRo (m ++ ex) ∧ All2 (fun cv c => All2 (VC ρ') cv c) cvs cs ∧ All2 (fun a cv => good P B (m ++ ex) n (tt a) cv) l cvs
 | [], [], _, ρ, m, hm, hro => ⟨ρ, [], [], Env.le_refl _, by simpa using hm, by simpa using hro, trivial, trivial⟩
 | a :: l, c :: cs, h, ρ, m, hm, hro => by
  obtain ⟨ρ1, ex1, cv, h1, h2, h3, h4, h5⟩ := h.1 ρ m hm hro
  obtain ⟨ρ2, ex2, cvs, g1, g2, g3, g4, g5⟩ := read_items tt l cs h.2 ρ1 (m ++ ex1) h2 h3
  refine ⟨ρ2, ex1 ++ ex2, cv :: cvs, fun r v x hx => g1 _ _ _ (h1 _ _ _ hx), by rwa [← List.append_assoc], by rwa [← List.append_assoc], ⟨h4.mono fun _ _ => VC.mono g1, g4⟩, ⟨?_, ?_⟩⟩
  ·rw [← List.append_assoc]; exact good_mono _ _ _ _ h5
  ·rwa [← List.append_assoc]
 | [], _ :: _, h, _, _, _, _ => h.elim
 | _ :: _, [], h, _, _, _, _ => h.elim
def laidF (P : Program) : List Field → Nat → Nat → Bool
 | [], off, tot => off == tot
 | f :: fs, off, tot => f.offset == off && laidF P fs (off + P.cellsOf f.type) tot
def laidB (P : Program) : Bool := (List.range P.types.size).all fun t => match P.underlying t with
 | some (.struct fs) => laidF P fs.toList 0 (P.cellsOf t) && fs.toList.all fun f => decide (f.type < P.types.size)
 | some (.array n e) => P.cellsOf t == n * P.cellsOf e && decide (e < P.types.size)
 | some (.slice e) => decide (e < P.types.size)
 | _ => true
theorem laidF_le : ∀ {fs : List Field} {off tot : Nat}, laidF P fs off tot = true → off ≤ tot
 | [], off, tot, h => by simp [laidF] at h; omega
 | f :: fs, off, tot, h => by simp only [laidF, Bool.and_eq_true] at h; have := laidF_le h.2; omega
theorem fields_get {ρ : Env} {m : AMem} {n : Nat} (cs : List Value) : ∀ (fs : List Field) (off tot : Nat) (cvs : List (List CV)), laidF P fs off tot = true → cs.length = tot →
  All2 (fun cv c => All2 (VC ρ) cv c) cvs (fs.map fun f => (cs.drop f.offset).take (P.cellsOf f.type)) → All2 (fun f cv => good P B m n f.type cv) fs cvs →
  All2 (VC ρ) cvs.flatten (cs.drop off) ∧ ∀ f, f ∈ fs → off ≤ f.offset ∧ good P B m n f.type ((cvs.flatten.drop (f.offset - off)).take (P.cellsOf f.type))
 | [], off, tot, [], h, hl, _, _ => by
  simp [laidF] at h
  rw [List.drop_of_length_le (by omega)]
  exact ⟨trivial, fun f hf => by cases hf⟩
 | f :: fs, off, tot, cv :: cvs, h, hl, h1, h2 => by
  simp only [laidF, Bool.and_eq_true, beq_iff_eq] at h
  have hle := laidF_le h.2
  have hlen : cv.length = P.cellsOf f.type := by
   rw [h1.1.length, List.length_take, List.length_drop, h.1]; omega
  obtain ⟨g1, g2⟩ := fields_get cs fs _ tot cvs h.2 hl h1.2 h2.2
  refine ⟨?_, fun f' hf' => ?_⟩
  ·rw [List.flatten_cons]
   have e : cs.drop off = (cs.drop off).take (P.cellsOf f.type) ++ cs.drop (off + P.cellsOf f.type) := by
    rw [← List.drop_drop, List.take_append_drop]
   rw [e]
   have h1' : All2 (VC ρ) cv ((cs.drop f.offset).take (P.cellsOf f.type)) := h1.1
   rw [h.1] at h1'
   exact h1'.append g1
  ·rcases List.mem_cons.1 hf' with rfl | hf'
   ·refine ⟨by omega, ?_⟩
    rw [h.1, Nat.sub_self, List.drop_zero, List.flatten_cons, List.take_append_of_le_length (by omega), List.take_of_length_le (by omega)]
    exact h2.1
   ·obtain ⟨q1, q2⟩ := g2 f' hf'
    refine ⟨by omega, ?_⟩
    rw [List.flatten_cons, show f'.offset - off = cv.length + (f'.offset - (off + P.cellsOf f.type)) by omega, List.drop_append, List.drop_of_length_le (by omega)]
    simpa using q2
 | [], _, _, _ :: _, _, _, _, h => h.elim
 | _ :: _, _, _, [], _, _, _, h => h.elim
theorem All2_map_mk {α β γ : Type} {R : α → γ → Prop} {f : β → γ} : ∀ {l : List α} {r : List β}, All2 (fun a b => R a (f b)) l r → All2 R l (r.map f)
 | [], [], _ => trivial
 | _ :: _, _ :: _, h => ⟨h.1, All2_map_mk h.2⟩
 | [], _ :: _, h => h.elim
 | _ :: _, [], h => h.elim
theorem All2_self {α : Type} {R : α → α → Prop} : ∀ {l : List α}, (∀ a, a ∈ l → R a a) → All2 R l l
 | [], _ => trivial
 | a :: l, h => ⟨h a (by simp), All2_self fun b hb => h b (List.mem_cons_of_mem _ hb)⟩
theorem cells?_get {a : Addr} {base sz : Nat} {cs : List Value} (h : W.cells? base a sz = some cs) : cs.length = sz ∧ ∀ q v, cs[q]? = some v → W.cell? (a.add q) = some v := by
 unfold World.cells? at h
 split at h
 ·have h2 := mapM_all2 h
  refine ⟨by rw [← h2.length, List.length_range], fun q v hq => ?_⟩
  have hql : q < sz := by have := (List.getElem?_eq_some_iff.1 hq).1; rw [← h2.length, List.length_range] at this; exact this
  obtain ⟨b, hb, hr⟩ := h2.get (i := q) (a := q) (by simp [hql])
  rw [hq] at hb; injection hb with hb; subst hb; exact hr
 ·cases h
theorem cell?_lt {a : Addr} {v : Value} (h : W.cell? a = some v) : a.block < W.heap.size := by
 unfold World.cell? at h
 split at h
 ·rename_i hb; exact (Array.getElem?_eq_some_iff.1 hb).1
 ·cases h
theorem laid_struct (hl : laidB P = true) {t : TypeId} {fs : Array Field} (hlt : t < P.types.size) (h : P.underlying t = some (.struct fs)) : laidF P fs.toList 0 (P.cellsOf t) = true ∧ ∀ f, f ∈ fs.toList → f.type < P.types.size := by
 have := List.all_eq_true.1 hl t (List.mem_range.2 hlt)
 rw [h] at this
 simp only [Bool.and_eq_true, List.all_eq_true, decide_eq_true_eq] at this
 exact this
theorem laid_array (hl : laidB P = true) {t e : TypeId} {n : Nat} (hlt : t < P.types.size) (h : P.underlying t = some (.array n e)) : P.cellsOf t = n * P.cellsOf e ∧ e < P.types.size := by
 have := List.all_eq_true.1 hl t (List.mem_range.2 hlt)
 rw [h] at this; simpa using this
theorem laid_slice (hl : laidB P = true) {t e : TypeId} (hlt : t < P.types.size) (h : P.underlying t = some (.slice e)) : e < P.types.size := by
 have := List.all_eq_true.1 hl t (List.mem_range.2 hlt)
 rw [h] at this; simpa using this
theorem junk_all {ρ : Env} : ∀ cs : List Value, All2 (VC ρ) (cs.map fun _ => CV.junk) cs
 | [] => trivial
 | _ :: cs => ⟨trivial, junk_all cs⟩
theorem all2_junk_ok {n : Nat} {t : TypeId} {cs : List Value} (h : ∀ m cv, good P B m (n + 1) t cv) : ReadOk P B W (n + 1) t cs := fun ρ m hm hro =>
 ⟨ρ, [], cs.map fun _ => .junk, Env.le_refl _, by simpa using hm, by simpa using hro, junk_all cs, h _ _⟩
theorem one_ok {n : Nat} {t : TypeId} {c : CV} {v : Value} (hv : ∀ ρ, VC ρ c v) (h : ∀ m, good P B m (n + 1) t [c]) : ReadOk P B W (n + 1) t [v] := fun ρ m hm hro =>
 ⟨ρ, [], [c], Env.le_refl _, by simpa using hm, by simpa using hro, ⟨hv ρ, trivial⟩, h _⟩
theorem chunks_flat {α : Type} {sz : Nat} : ∀ (n : Nat) (cs : List α), cs.length = n * sz → ((List.range n).map fun i => (cs.drop (i * sz)).take sz).flatten = cs
 | 0, cs, h => by simp at h; simp [h]
 | n + 1, cs, h => by
  have ih := chunks_flat n (cs.take (n * sz)) (by rw [List.length_take, h]; exact Nat.min_eq_left (Nat.mul_le_mul_right _ (by omega)))
  rw [List.range_succ, List.map_append, List.flatten_append]
  have e : ((List.range n).map fun i => (cs.drop (i * sz)).take sz) = (List.range n).map fun i => ((cs.take (n * sz)).drop (i * sz)).take sz := by
   refine List.map_congr_left fun i hi => ?_
   have hi' := List.mem_range.1 hi
   have hle : i * sz + sz ≤ n * sz := by rw [← Nat.succ_mul]; exact Nat.mul_le_mul_right _ hi'
   rw [List.drop_take, List.take_take, Nat.min_eq_left (by omega)]
  rw [e, ih]
  simp only [List.map_cons, List.map_nil, List.flatten_cons, List.flatten_nil, List.append_nil]
  rw [List.take_of_length_le (l := cs.drop (n * sz)) (by rw [List.length_drop, h, Nat.succ_mul]; omega), List.take_append_drop]
theorem All2_flatten {ρ : Env} : ∀ {cvs : List (List CV)} {cs : List (List Value)}, All2 (fun cv c => All2 (VC ρ) cv c) cvs cs → All2 (VC ρ) cvs.flatten cs.flatten
 | [], [], _ => trivial
 | _ :: _, _ :: _, h => by rw [List.flatten_cons, List.flatten_cons]; exact h.1.append (All2_flatten h.2)
 | [], _ :: _, h => h.elim
 | _ :: _, [], h => h.elim
theorem All2.right {α β : Type} {R : α → β → Prop} {Q : β → Prop} : ∀ {l : List α} {r : List β}, All2 R l r → (∀ a b, a ∈ l → R a b → Q b) → ∀ b, b ∈ r → Q b
 | [], [], _, _, b, hb => by cases hb
 | x :: l, y :: r, h, hq, b, hb => by
  rcases List.mem_cons.1 hb with rfl | hb
  ·exact hq x _ (by simp) h.1
  ·exact All2.right h.2 (fun a b ha => hq a b (List.mem_cons_of_mem _ ha)) b hb
 | [], _ :: _, h, _, _, _ => h.elim
 | _ :: _, [], h, _, _, _ => h.elim
theorem read_ok (hl : laidB P = true) (hb : IsBulk bulk) {held : Bool} : ∀ (n : Nat) (t : TypeId) (cs : List Value) (x : DataW H × List MemPlace), DataW.trod enc P W 0 (fun _ => true) held n t cs = some x → bulk x.1 ≤ B → t < P.types.size → ReadOk P B W n t cs
 | 0, t, cs, x, h, _, _ => by simp [DataW.trod] at h
 | n + 1, t, cs0, x, h, hB, hlt => by
  unfold DataW.trod at h
  split at h
  ·rename_i b ht
   exact one_ok (c := .bool b) (fun _ => rfl) fun m => by simp only [good, ht]; exact ⟨b, rfl⟩
  ·rename_i k k' a ht
   split at h
   ·rename_i hk
    obtain ⟨rfl, hw⟩ := hk
    simp only [Lit.wf, Bool.and_eq_true, decide_eq_true_eq] at hw
    exact one_ok (c := .int k' a) (fun _ => rfl) fun m => by simp only [good, ht]; exact ⟨a, rfl, hw.1, hw.2⟩
   ·cases h
  ·rename_i ht
   exact all2_junk_ok fun m cv => by simp only [good, ht]
  ·rename_i s ht
   split at h
   ·injection h with h; subst h
    have := hb.str s.data.toList
    have hB' : bulk (.lit (.string s.data.toList)) ≤ B := hB
    have e : s.data.toList.length = s.size := by rw [Array.length_toList]; rfl
    exact one_ok (c := .str s) (fun _ => rfl) fun m => by simp only [good, ht]; exact ⟨s, rfl, by omega⟩
   ·cases h
  ·rename_i ht
   exact all2_junk_ok fun m cv => by simp only [good, ht]
  ·rename_i ht
   exact all2_junk_ok fun m cv => by simp only [good, ht]
  ·rename_i e ht
   intro ρ m hm hro
   obtain ⟨q1, q2, q3⟩ := hm.roBlk hro none 0 e (P.cellsOf e) [] (fun h => absurd rfl h)
   refine ⟨_, [⟨.ro, e, 0, P.cellsOf e, []⟩], [.sl m.length 0 0 0], q1, q2, q3, ⟨⟨none, 0, none, 0, Env.set_same _ _ _ _, rfl, Nat.le_refl _, fun h => absurd h (by omega), fun _ => ⟨rfl, rfl⟩⟩, trivial⟩, ?_⟩
   simp only [good, ht]
   exact ⟨_, 0, [], rfl, by simp, by simp, by omega, fun i hi => by omega⟩
  ·rename_i e a len cap ht
   split at h
   ·rename_i hcap
    obtain ⟨elems, he, h⟩ := Option.bind_eq_some_iff.1 h
    obtain ⟨rest, hr, h⟩ := Option.map_eq_some_iff.1 h
    subst h
    have h2 := mapM_all2 he
    have hex : ∀ (l : List Nat) (el : List (DataW H × List MemPlace)), All2 (fun i y => ((W.cells? 0 (a.add (i * P.cellsOf e)) (P.cellsOf e)).bind (DataW.trod enc P W 0 (fun _ => true) held n e)) = some y) l el → (∀ y, y ∈ el → bulk y.1 ≤ B) →
      ∃ css : List (List Value), All2 (fun i c => W.cells? 0 (a.add (i * P.cellsOf e)) (P.cellsOf e) = some c ∧ ReadOk P B W n e c) l css := by
     intro l
     induction l with
     | nil => intro el _ _; exact ⟨[], trivial⟩
     | cons i l ih =>
      intro el hel hbl
      cases el with
      | nil => exact hel.elim
      | cons y el =>
       obtain ⟨css, hcss⟩ := ih el hel.2 fun y hy => hbl y (List.mem_cons_of_mem _ hy)
       obtain ⟨c, hc1, hc2⟩ := Option.bind_eq_some_iff.1 hel.1
       exact ⟨c :: css, ⟨hc1, read_ok hl hb n e c y hc2 (hbl y (by simp)) (laid_slice hl hlt ht)⟩, hcss⟩
    obtain ⟨css, hcss⟩ := hex _ _ h2 fun y hy => Nat.le_trans (hb.row _ _ y.1 (List.mem_map_of_mem hy)) hB
    have hlen : len ≤ B := by
     have := hb.len (elems.map (·.1)) (rest.map (·.1))
     have hB' : bulk (.slice (elems.map (·.1)) (rest.map (·.1))) ≤ B := hB
     rw [List.length_map, ← h2.length, List.length_range] at this
     omega
    intro ρ m hm hro
    obtain ⟨ρ1, ex, cvs, g1, g2, g3, g4, g5⟩ := read_items (W := W) (fun _ => e) _ css (hcss.mono fun _ _ h => h.2) ρ m hm hro
    have hcl : ∀ c, c ∈ css → c.length = P.cellsOf e := hcss.right fun i c _ hc => (cells?_get hc.1).1
    have hvl : ∀ cv, cv ∈ cvs → cv.length = P.cellsOf e := fun cv hcv => by
     obtain ⟨c, hc, hvc⟩ := g4.mem cv hcv
     rw [hvc.length]; exact hcl c hc
    have hcvl : cvs.length = len := by rw [← g5.length, List.length_range]
    obtain ⟨q1, q2, q3⟩ := g2.roBlk g3 (some a) cap e (P.cellsOf e) cvs.flatten (by
     intro hne
     have hcell : ∀ i c, cvs.flatten[i]? = some c → ∃ v, W.cell? (a.add i) = some v ∧ VC ρ1 c v := by
      intro j c hj
      obtain ⟨i, q, l, e1, e2, e3, e4⟩ := flat_get hvl hj
      obtain ⟨c', hc', hvc⟩ := g4.get e3
      obtain ⟨v, hv, hvv⟩ := hvc.get e4
      have hi : i < len := by have := (List.getElem?_eq_some_iff.1 e3).1; omega
      obtain ⟨c'', hc'', hr'⟩ := hcss.get (i := i) (a := i) (by simp [hi])
      rw [hc'] at hc''; injection hc'' with hc''; subst hc''
      have := (cells?_get hr'.1).2 q v hv
      rw [add_add] at this
      exact ⟨v, by rw [e1]; exact this, hvv⟩
     refine ⟨a, rfl, ?_, hcell⟩
     cases hf : cvs.flatten with
     | nil => exact absurd hf hne
     | cons c r =>
      obtain ⟨v, hv, _⟩ := hcell 0 c (by rw [hf]; rfl)
      have := cell?_lt hv
      simpa [Addr.add] using this)
    refine ⟨_, ex ++ [⟨.ro, e, 0, P.cellsOf e, cvs.flatten⟩], [.sl (m ++ ex).length 0 0 len], fun r v x hx => q1 _ _ _ (g1 _ _ _ hx), by rwa [← List.append_assoc], by rwa [← List.append_assoc], ⟨?_, trivial⟩, ?_⟩
    ·exact ⟨some a, cap, some a, cap, Env.set_same _ _ _ _, rfl, hcap.2.1, fun _ => ⟨a, rfl, by simp [Addr.add]⟩, fun _ => ⟨rfl, rfl⟩⟩
    ·simp only [good, ht]
     refine ⟨_, len, cvs.flatten, rfl, by rw [← List.append_assoc]; simp, by rw [flat_len hvl, hcvl], hlen, fun i hi => ?_⟩
     obtain ⟨cv, hcv, hg⟩ := g5.get (i := i) (a := i) (by simp [hi])
     rw [chunk_at hvl hcv, ← List.append_assoc]
     exact good_mono _ _ _ _ hg
   ·cases h
  ·rename_i cs0 _ _ fs ht
   have hlaid := laid_struct hl hlt ht
   split at h
   ·rename_i hcl
    obtain ⟨xs, hx, h⟩ := Option.map_eq_some_iff.1 h
    subst h
    have h2 := mapM_all2 hx
    intro ρ m hm hro
    have h3 : All2 (fun (f : Field) c => ReadOk P B W n f.type c) fs.toList (fs.toList.map fun f => (cs0.drop f.offset).take (P.cellsOf f.type)) := by
     refine All2_map_mk (All2_self fun f hf => ?_)
     obtain ⟨y, hy, hfy⟩ := h2.mem f hf
     exact read_ok hl hb n _ _ y hfy (Nat.le_trans (hb.agg _ y.1 (List.mem_map_of_mem hy)) hB) (hlaid.2 f hf)
    obtain ⟨ρ1, ex, cvs, g1, g2, g3, g4, g5⟩ := read_items (W := W) (fun f : Field => f.type) _ _ h3 ρ m hm hro
    obtain ⟨r1, r2⟩ := fields_get cs0 fs.toList 0 _ cvs hlaid.1 hcl g4 g5
    refine ⟨ρ1, ex, cvs.flatten, g1, g2, g3, by simpa using r1, ?_⟩
    simp only [good, ht]
    refine ⟨by rw [r1.length, List.drop_zero]; exact hcl, ?_⟩
    exact fun f hf => by have := (r2 f hf).2; rwa [Nat.sub_zero] at this
   ·cases h
  ·rename_i cs0 _ _ k e ht
   split at h
   ·rename_i hcl
    obtain ⟨xs, hx, h⟩ := Option.map_eq_some_iff.1 h
    subst h
    have h2 := mapM_all2 hx
    have hsz := laid_array hl hlt ht
    intro ρ m hm hro
    have h3 : All2 (fun (i : Nat) c => ReadOk P B W n e c) (List.range k) ((List.range k).map fun i => (cs0.drop (i * P.cellsOf e)).take (P.cellsOf e)) := by
     refine All2_map_mk (All2_self fun i hi => ?_)
     obtain ⟨y, hy, hfy⟩ := h2.mem i hi
     exact read_ok hl hb n _ _ y hfy (Nat.le_trans (hb.agg _ y.1 (List.mem_map_of_mem hy)) hB) hsz.2
    obtain ⟨ρ1, ex, cvs, g1, g2, g3, g4, g5⟩ := read_items (W := W) (fun _ : Nat => e) _ _ h3 ρ m hm hro
    have hcl2 : cs0.length = k * P.cellsOf e := by omega
    have hvl : ∀ cv, cv ∈ cvs → cv.length = P.cellsOf e := fun cv hcv => by
     obtain ⟨c, hc, hvc⟩ := g4.mem cv hcv
     rw [hvc.length]
     obtain ⟨i, hi, rfl⟩ := List.mem_map.1 hc
     have hi' := List.mem_range.1 hi
     have hle : i * P.cellsOf e + P.cellsOf e ≤ k * P.cellsOf e := by rw [← Nat.succ_mul]; exact Nat.mul_le_mul_right _ hi'
     rw [List.length_take, List.length_drop]; omega
    have hfl : All2 (VC ρ1) cvs.flatten cs0 := by
     have := All2_flatten g4
     rwa [chunks_flat k cs0 hcl2] at this
    refine ⟨ρ1, ex, cvs.flatten, g1, g2, g3, hfl, ?_⟩
    ·simp only [good, ht]
     refine ⟨by rw [hfl.length]; exact hcl, ?_⟩
     intro i hi
     obtain ⟨cv, hcv, hg⟩ := g5.get (i := i) (a := i) (by simp [hi])
     rw [chunk_at hvl hcv]; exact hg
   ·cases h
  all_goals first | (cases h; done) | exact all2_junk_ok fun m cv => by simp only [good, *]
theorem not_agg {base : Nat} {r : Reach} {t : TypeId} {cs : Array Value} (h : Cell.okWide P W r base t (.agg cs)) : False := by
 unfold Cell.okWide at h
 split at h <;> try (rename_i h1; cases h1; done)
 all_goals (unfold Cell.ok at h; split at h <;> first | exact h | (rename_i h1; cases h1; done) | simp_all)
def goodA (P : Program) (B : Nat) (m : AMem) (t : TypeId) (x : AV) : Prop := ∃ n, match P.underlying t with
 | some (.struct _) => ∃ cs, x = .agg cs ∧ good P B m n t cs
 | some (.array _ _) => ∃ cs, x = .agg cs ∧ good P B m n t cs
 | _ => ∃ c, x = .one c ∧ good P B m n t [c]
theorem goodA_mono {m : AMem} (x : AMem) {t : TypeId} {a : AV} (h : goodA P B m t a) : goodA P B (m ++ x) t a := by
 obtain ⟨n, h⟩ := h
 refine ⟨n, ?_⟩
 split at h
 ·obtain ⟨cs, h1, h2⟩ := h; exact ⟨cs, h1, good_mono x _ _ _ h2⟩
 ·obtain ⟨cs, h1, h2⟩ := h; exact ⟨cs, h1, good_mono x _ _ _ h2⟩
 ·obtain ⟨cs, h1, h2⟩ := h; exact ⟨cs, h1, good_mono x _ _ _ h2⟩
theorem read_args (hl : laidB P = true) (hb : IsBulk bulk) {base : Nat} : ∀ (ts : List TypeId) (vs : List Value) (ds : List (DataW H)) (ps : List MemPlace), DataW.TrodAll enc P W 0 (fun _ => true) true ts vs ds ps →
  (∀ (i : Nat) t v, ts[i]? = some t → vs[i]? = some v → Value.okWide P W .any base t v) → (∀ d, d ∈ ds → bulk d ≤ B) → (∀ t, t ∈ ts → t < P.types.size) → ∀ ρ m, RepM ρ m W → AllRo m →
  ∃ ρ' ex avs, RepM ρ' (m ++ ex) W ∧ AllRo (m ++ ex) ∧ ρ.le ρ' ∧ All2 (VR ρ') avs vs ∧ All2 (fun t a => goodA P B (m ++ ex) t a) ts avs
 | [], vs, ds, ps, h, _, _, _, ρ, m, hm, hro => by
  obtain ⟨rfl, rfl, rfl⟩ := trodAll_nil h
  exact ⟨ρ, [], [], by simpa using hm, by simpa using hro, Env.le_refl _, trivial, trivial⟩
 | t :: ts, vs0, ds0, ps, h, hok, hB, hts, ρ, m, hm, hro => by
  obtain ⟨v, vs, d, ds, p, q, rfl, rfl, rfl, ⟨n, h0⟩, r0⟩ := trodAll_cons h
  obtain ⟨ρ1, ex1, cv, g1, g2, g3, g4, g5⟩ := read_ok hl hb n t _ _ h0 (hB d (by simp)) (hts t (by simp)) ρ m hm hro
  obtain ⟨ρ2, ex2, avs, k1, k2, k3, k4, k5⟩ := read_args hl hb ts vs ds q r0 (fun i t' v' h1 h2 => hok (i + 1) t' v' h1 h2) (fun d' hd => hB d' (List.mem_cons_of_mem _ hd)) (fun t' ht' => hts t' (List.mem_cons_of_mem _ ht')) ρ1 (m ++ ex1) g2 g3
  have hv := hok 0 t v rfl rfl
  have key : ∃ a, VR ρ1 a v ∧ goodA P B (m ++ ex1) t a := by
   unfold Value.okWide at hv
   split at hv
   ·rename_i fs ht
    obtain ⟨cs, rfl, _, _⟩ := hv
    exact ⟨.agg cv, ⟨cs, rfl, g4⟩, n, by rw [ht]; exact ⟨cv, rfl, g5⟩⟩
   ·rename_i k e ht
    obtain ⟨cs, rfl, _, _⟩ := hv
    exact ⟨.agg cv, ⟨cs, rfl, g4⟩, n, by rw [ht]; exact ⟨cv, rfl, g5⟩⟩
   ·rename_i hn1 hn2
    have hc : v.cells.toList = [v] := by
     cases v <;> first | rfl | exact (not_agg hv).elim
    rw [hc] at g4
    match cv, g4, g5 with
    | [c], g4, g5 =>
     refine ⟨.one c, g4.1, n, ?_⟩
     split
     ·rename_i fs ht; exact absurd ht (hn1 fs)
     ·rename_i k e ht; exact absurd ht (hn2 k e)
     ·exact ⟨c, rfl, g5⟩
    | [], g4, _ => exact g4.elim
    | _ :: _ :: _, g4, _ => exact g4.2.elim
  obtain ⟨a, ha, hg⟩ := key
  refine ⟨ρ2, ex1 ++ ex2, a :: avs, by rwa [← List.append_assoc], by rwa [← List.append_assoc], fun r v x hx => k3 _ _ _ (g1 _ _ _ hx), ⟨ha.mono k3, k4⟩, ⟨?_, ?_⟩⟩
  ·rw [← List.append_assoc]; exact goodA_mono _ hg
  ·rwa [← List.append_assoc]
theorem trodAll_stays (hl : laidOutB P = true) {W' : World} {sp : Nat → Bool} : ∀ (ts : List TypeId) (vs : List Value) (ds : List (DataW H)) (ps : List MemPlace), (∀ t, t ∈ ts → P.readableRec t = true ∧ t < P.types.size) →
  DataW.TrodAll enc P W 0 (fun _ => true) true ts vs ds ps → (∀ p, p ∈ ps → W.sameAt W' p) → (∀ p, p ∈ ps → sp p.block = true) → DataW.TrodAll enc P W' 0 sp true ts vs ds ps
 | [], vs, ds, ps, _, h, _, _ => by
  obtain ⟨rfl, rfl, rfl⟩ := trodAll_nil h
  exact rfl
 | t :: ts, vs0, ds0, ps, ht, h, hs, hsp => by
  obtain ⟨v, vs, d, ds, p, q, rfl, rfl, rfl, h0, r0⟩ := trodAll_cons h
  exact ⟨p, q, WideElems.Trod_stays hl (ht t (by simp)).1 (ht t (by simp)).2 h0 (fun x hx => hs x (by simp [hx])) (fun x hx => hsp x (by simp [hx])),
   trodAll_stays hl ts vs ds q (fun t' h' => ht t' (List.mem_cons_of_mem _ h')) r0 (fun x hx => hs x (by simp [hx])) (fun x hx => hsp x (by simp [hx])), rfl⟩
theorem post_true {fn : Func} {s : ChangeSpec} {W' : World} {args : Array Value} {ds gs : List (DataW H)} {before : List MemPlace} {tb : TypeId} (hvars : s.vars = [])
  (hs : ∀ l : List (DataW H), l = ds → s.fn H l = { results := [.lit (.bool true)], args := l }) (hl : laidOutB P = true) (hread : ∀ t, t ∈ fn.params.toList → P.readableRec t = true ∧ t < P.types.size)
  (hres : fn.resultTypes = #[tb]) (htb : P.underlying tb = some .bool) (hW : DataW.Whole enc P fn.params.toList s.vars false W args.toList ds gs before) (hb : Below W.heap.size W W') :
  s.post enc P fn false true false false W args (.bool true) W' := by
 have hlt : ∀ p ∈ before, p.block < W.heap.size := fun p hp => hW.lt p hp
 obtain ⟨p, q, hA, hV, rfl, hz, hn⟩ := id hW
 rw [hvars] at hV
 obtain ⟨rfl, rfl⟩ := trodVars_none hV
 have hargs : ∀ sp : Nat → Bool, (∀ x, x ∈ p → sp x.block = true) → DataW.TrodAll enc P W' 0 sp true fn.params.toList args.toList ds p := fun sp hsp =>
  trodAll_stays hl _ _ _ _ hread hA (fun x hx => hb.same (hlt x (by simp [hx]))) hsp
 have hfn : s.fn H (ds ++ []) = { results := [.lit (.bool true)], args := ds } := by rw [List.append_nil]; exact hs ds rfl
 have hr : ∀ (b : Nat) (sp : Nat → Bool) (hd : Bool), DataW.TrodAll enc P W' b sp hd fn.resultTypes.toList ((Value.bool true).resultList fn.resultTypes.size) [.lit (.bool true)] [] := fun b sp hd => by
  rw [hres]
  exact ⟨[], [], ⟨1, by simp [DataW.trod, htb, Value.cells]⟩, rfl, rfl⟩
 have hok := ok_one (P := P) (W' := W') (v := .bool true) hres rfl (okWide_bool_mk htb true)
 refine ⟨ds, [], p ++ [], [], p, [], hW, ?_, ?_, ?_, World.keptBut_mono (fun x hx => ⟨hx, .inr (by simpa using hx)⟩) (hb.frame (· ∈ p ++ [])), fun _ => ⟨hok, _, [], ([] ++ p) ++ [], ⟨[] ++ p, [], trodAll_append (hargs _ fun _ _ => rfl) (hr _ _ _), ?_, rfl, ?_, ?_⟩, ?_⟩⟩
 ·rw [hfn]; exact hr _ _ _
 ·rw [hfn]; exact hargs _ fun x hx => by simpa using hlt x (by simp [hx])
 ·rw [hfn, hvars]; exact rfl
 ·rw [hvars]; exact rfl
 ·intro b off hp
  rw [hb.frozen (hlt _ (by simpa using hp))]
  exact hz b off (by simpa using hp)
 ·intro ha; cases ha
 ·intro x hx _
  simpa using hx
theorem law_true {f : FuncId} {fn : Func} {s : ChangeSpec} {args : Array Value} {ds gs : List (DataW H)} {before : List MemPlace} {tb : TypeId} {base : Nat} (hvars : s.vars = [])
  (hs : ∀ l : List (DataW H), l = ds → s.fn H l = { results := [.lit (.bool true)], args := l }) (hl : laidOutB P = true) (hlb : laidB P = true) (hread : fn.params.toList.all (fun t => P.readableRec t && decide (t < P.types.size)) = true)
  (hres : fn.resultTypes = #[tb]) (htb : P.underlying tb = some .bool) (hb : IsBulk bulk) (hk : ∀ d, d ∈ ds → bulk d ≤ B)
  (hval : ∀ (j : Nat) t v, fn.params[j]? = some t → args[j]? = some v → Value.okWide P W .any base t v)
  (hW : DataW.Whole enc P fn.params.toList s.vars false W args.toList ds gs before)
  (hlaw : ∀ m avs, AllRo m → All2 (fun t a => goodA P B m t a) fn.params.toList avs → Ctr P f avs m (.one (.bool true)) m) (hbod : Bodied P f := by exact ⟨_, rfl, rfl, rfl⟩) :
  Calls P f args W fun e W' => ∃ v, e = .returned v ∧ s.post enc P fn false true false false W args v W' := by
 have hread' : ∀ t, t ∈ fn.params.toList → P.readableRec t = true ∧ t < P.types.size := fun t ht => by
  have := List.all_eq_true.1 hread t ht
  simpa using this
 obtain ⟨p, q, hA, hV, he, hz, hn⟩ := id hW
 obtain ⟨ρ, ex, avs, k1, k2, k3, k4, k5⟩ := read_args hlb hb (base := base) _ _ _ _ hA (fun i t v h1 h2 => hval i t v (by simpa using h1) (by simpa using h2)) hk (fun t ht => (hread' t ht).2) (fun _ _ => none) []
  ⟨fun r b h => by simp at h, fun _ _ _ => rfl, fun r b v h => by simp at h, fun r s b c h => by simp at h⟩ (fun b h => by cases h)
 have hc := (hlaw _ avs k2 k5 ρ W _ k1 k4).calls hbod
 rw [show args.toList.toArray = args by simp] at hc
 refine hc.mono fun e W' ⟨v, ρ', e1, hv, hm, hst⟩ => ?_
 have hv' : v = .bool true := hv
 subst e1; subst hv'
 exact ⟨_, rfl, post_true hvars hs hl hread' hres htb hW (hst.below k2)⟩
def Good (P : Program) (B : Nat) (m : AMem) (t : TypeId) (cs : List CV) : Prop := ∃ n, good P B m n t cs
theorem Good.bool {m : AMem} {t : TypeId} {cs : List CV} (h : Good P B m t cs) (ht : P.underlying t = some .bool) : ∃ b, cs = [.bool b] := by
 obtain ⟨n, h⟩ := h
 cases n with
 | zero => exact h.elim
 | succ n => simpa only [good, ht] using h
theorem Good.int {m : AMem} {t : TypeId} {cs : List CV} (h : Good P B m t cs) {k : IntKind} (ht : P.underlying t = some (.int k)) : ∃ x, cs = [.int k x] ∧ k.min ≤ x ∧ x ≤ k.max := by
 obtain ⟨n, h⟩ := h
 cases n with
 | zero => exact h.elim
 | succ n => simpa only [good, ht] using h
theorem Good.str {m : AMem} {t : TypeId} {cs : List CV} (h : Good P B m t cs) (ht : P.underlying t = some .string) : ∃ s : ByteArray, cs = [.str s] ∧ s.size ≤ B := by
 obtain ⟨n, h⟩ := h
 cases n with
 | zero => exact h.elim
 | succ n => simpa only [good, ht] using h
theorem Good.row {m : AMem} {t e : TypeId} {cs : List CV} (h : Good P B m t cs) (ht : P.underlying t = some (.slice e)) :
  ∃ r len cells, cs = [.sl r 0 0 len] ∧ m[r]? = some ⟨.ro, e, 0, P.cellsOf e, cells⟩ ∧ cells.length = len * P.cellsOf e ∧ len ≤ B ∧ ∀ i, i < len → Good P B m e ((cells.drop (i * P.cellsOf e)).take (P.cellsOf e)) := by
 obtain ⟨n, h⟩ := h
 cases n with
 | zero => exact h.elim
 | succ n =>
  simp only [good, ht] at h
  obtain ⟨r, len, cells, h1, h2, h3, h4, h5⟩ := h
  exact ⟨r, len, cells, h1, h2, h3, h4, fun i hi => ⟨n, h5 i hi⟩⟩
theorem Good.struct {m : AMem} {t : TypeId} {cs : List CV} (h : Good P B m t cs) {fs : Array Field} (ht : P.underlying t = some (.struct fs)) : cs.length = P.cellsOf t ∧ ∀ f, f ∈ fs.toList → Good P B m f.type ((cs.drop f.offset).take (P.cellsOf f.type)) := by
 obtain ⟨n, h⟩ := h
 cases n with
 | zero => exact h.elim
 | succ n => simp only [good, ht] at h; exact ⟨h.1, fun f hf => ⟨n, h.2 f hf⟩⟩
theorem Good.arr {m : AMem} {t e : TypeId} {cs : List CV} (h : Good P B m t cs) {k : Nat} (ht : P.underlying t = some (.array k e)) : cs.length = P.cellsOf t ∧ ∀ i, i < k → Good P B m e ((cs.drop (i * P.cellsOf e)).take (P.cellsOf e)) := by
 obtain ⟨n, h⟩ := h
 cases n with
 | zero => exact h.elim
 | succ n => simp only [good, ht] at h; exact ⟨h.1, fun i hi => ⟨n, h.2 i hi⟩⟩
theorem goodA.agg {m : AMem} {t : TypeId} {x : AV} (h : goodA P B m t x) (ht : (∃ fs, P.underlying t = some (.struct fs)) ∨ ∃ k e, P.underlying t = some (.array k e)) : ∃ cs, x = .agg cs ∧ Good P B m t cs := by
 obtain ⟨n, h⟩ := h
 rcases ht with ⟨fs, ht⟩ | ⟨k, e, ht⟩
 ·rw [ht] at h; obtain ⟨cs, h1, h2⟩ := h; exact ⟨cs, h1, n, h2⟩
 ·rw [ht] at h; obtain ⟨cs, h1, h2⟩ := h; exact ⟨cs, h1, n, h2⟩
theorem goodA.one {m : AMem} {t : TypeId} {x : AV} (h : goodA P B m t x) (h1 : ∀ fs, P.underlying t ≠ some (.struct fs)) (h2 : ∀ k e, P.underlying t ≠ some (.array k e)) : ∃ c, x = .one c ∧ Good P B m t [c] := by
 obtain ⟨n, h⟩ := h
 split at h
 ·rename_i fs ht; exact absurd ht (h1 fs)
 ·rename_i k e ht; exact absurd ht (h2 k e)
 ·obtain ⟨c, q1, q2⟩ := h; exact ⟨c, q1, n, q2⟩
end
theorem ldCells_if (cells : List CV) (off n : Nat) : ldCells cells off n = if n = 0 then some [] else if off + n ≤ cells.length then some ((cells.drop off).take n) else none := by
 by_cases h0 : n = 0
 ·subst h0; rw [if_pos rfl]; rfl
 ·rw [if_neg h0]
  have key : ∀ (n off : Nat), 0 < n → ldCells cells off n = if off + n ≤ cells.length then some ((cells.drop off).take n) else none := by
   intro n
   induction n with
   | zero => intro off h; omega
   | succ n ih =>
    intro off _
    simp only [ldCells]
    rcases Nat.lt_or_ge off cells.length with hl | hl
    ·rw [List.getElem?_eq_getElem hl]
     simp only
     rcases Nat.eq_zero_or_pos n with hn | hn
     ·subst hn
      rw [if_pos (by omega), List.drop_eq_getElem_cons hl]; rfl
     ·rw [ih (off + 1) hn]
      by_cases hle : off + (n + 1) ≤ cells.length
      ·rw [if_pos hle, if_pos (by omega), List.drop_eq_getElem_cons hl, List.take_succ_cons]; rfl
      ·rw [if_neg hle, if_neg (by omega)]; rfl
    ·rw [List.getElem?_eq_none hl, if_neg (by omega)]
  exact key n off (by omega)
attribute [push_cast] binN lenV lookupA mapAt mapUpA mapEntryA entryStoreA setMap clearA deleteA makeMapA rangeA entryA mkA AV.ent findL keyEqL ceq keyChk scT scI AOps_nil RL_nil RL_cons Value.cells AOps_run AOps_grd VThen_some SThen_some FThen_fn FThen_bm bmA svL svOf SV.cv GThen_true GThen_false OThen AOpsD_nil AOpsD_run AOpsD_grd DGrd_true DGrd_false DOp DVal_some DLoad_some DLoadW_some DWr_some DFl_some DFl DFn_ext DFn_wr Plan.chain List.zip_cons_cons List.zip_nil_left enterTm wantedA evVal builtinA opd ofV cellOf Tm.get_cons putO selA loadA partA ldCells_if storeA setL AV.cells CV.isVal unA convA convS convM usdA usA bytesA sliceM copyA BK.isRo setL fieldAddrA fieldA indexAddrA arrPtrA indexA sliceA bndA extractA lenA mm mmA allocA boxA buildA afill buildSliceA zeros makeA srcA appendA binA intA shA strA isShift eqA eqV_s eqParts capsA capsAV lk_app lk_app0 set_app set_app0 List.append_assoc List.cons_append List.nil_append List.map_cons List.map_nil List.getElem?_cons_zero List.getElem?_cons_succ List.set_cons_zero List.set_cons_succ List.length_cons List.length_nil List.length_append List.length_set List.all_cons List.all_nil List.getElem?_toArray List.toList_toArray List.drop_succ_cons List.drop_zero List.take_succ_cons List.take_zero Option.map_some Option.map_none Option.bind_some Option.bind_none Option.getD_some Option.isSome_some Nat.zero_add Nat.add_zero Nat.zero_mul Nat.one_mul Nat.mul_one Nat.mul_zero Nat.add_assoc Nat.succ_ne_self Int.toNat_natCast Int.cast_ofNat_Int Int.toNat_zero Int.toNat_one Bool.and_true Bool.true_and Bool.and_false Bool.false_and Bool.or_false Bool.or_true Bool.true_or Bool.false_or Bool.not_true Bool.not_false Bool.cond_true Bool.cond_false bne_self_eq_false beq_self_eq_true beq_true beq_false decide_true decide_false if_true if_false ite_true ite_false and_true true_and and_self and_false false_and Nat.le_refl Bool.false_eq_true Bool.true_eq_false not_true_eq_false not_false_eq_true Nat.lt_add_one ne_eq List.size_toArray Array.size_map List.map_toArray Array.range_zero' List.range_zero List.flatMap_nil List.range_succ List.getElem!_toArray List.getElem!_cons_zero List.getElem!_cons_succ iw0 iw1 iw2 iw3 iw4 iw5 iw6 iw7 iw8 iw9 iw10 iw11 iw12 iw13 iw14 iw15 iw16 iw17 iw18 iw19 iw20 iw21 iw22 iw23 iw24 iw25 iw26 iw27 iw28 iw29 iw30 iw31 iw32 iw33 iw34 iw35 iw36 iw37 iw38 iw39 iw40 rg2 rg3 rg4 rg5 rg6 rg8 rg16
end Go.Eng
