/-
  ENGINE, PART P: a nil slice taken as a row of our own with nothing in it; loops whose rounds make blocks.
-/
import Derived.Test.YtmjbbnfmhgcfaaaEngO
set_option linter.unusedVariables false
set_option linter.unusedSimpArgs false
namespace Go.Eng
open Go

theorem set_self {α : Type} : ∀ {l : List α} {j : Nat} {v : α}, l[j]? = some v → l.set j v = l
  | [], _, _, _ => rfl
  | x :: l, 0, v, h => by simp at h; subst h; rfl
  | x :: l, j + 1, v, h => by simp at h; simp [set_self h]
theorem All2.set_left {α β : Type} {R : α → β → Prop} {as : List α} {bs : List β} (h : All2 R as bs) {j : Nat} {a : α} {b : β} (hb : bs[j]? = some b) (hr : R a b) : All2 R (as.set j a) bs := by
  have := h.set (i := j) hr
  rwa [set_self hb] at this

section
variable {P : Program} {nt : Nat} {tm : Tm} {mem : AMem}
theorem nil_row {ρ : Env} {L : Nat} {v : Value} (h : VC ρ .nils v) : VC (ρ.set L 0 (none, 0)) (.sl L 0 0 0) v := by
  have e : v = .slice none 0 0 := h
  subst e
  exact ⟨none, 0, none, 0, Env.set_same _ _ _ _, rfl, Nat.le_refl _, fun h => by omega, fun _ => ⟨rfl, rfl⟩⟩

theorem Rep.nilRow {ρ : Env} {a : Act} {w : World} (hr : Rep ρ nt tm mem a w) (ty esz : Nat) (mem1 : AMem) (hlen : mem1.length = mem.length) (hk : ∀ (r : Nat) (b1 : Blk), mem1[r]? = some b1 → ∃ b, mem[r]? = some b ∧ b1.kind = b.kind ∧ b1.ver = b.ver ∧ (b.kind = .ro → b1 = b))
    (hb : ∀ (r : Nat) (b1 : Blk), mem1[r]? = some b1 → BlkR (ρ.set mem.length 0 (none, 0)) w r b1) (tm1 : Tm) (ht : ∀ i, VR (ρ.set mem.length 0 (none, 0)) (Tm.get tm1 i) (a.tmps.getD i undef)) :
    Rep (ρ.set mem.length 0 (none, 0)) nt tm1 (mem1 ++ [⟨.grow, ty, 0, esz, []⟩]) a w ∧ ∀ m0 ρ0 w0, Step m0 ρ0 w0 mem ρ w → Step m0 ρ0 w0 (mem1 ++ [⟨.grow, ty, 0, esz, []⟩]) (ρ.set mem.length 0 (none, 0)) w := by
  have hle : ρ.le (ρ.set mem.length 0 (none, 0)) := Env.le_set (hr.mem.dom _ _ (Nat.le_refl _))
  have hgt : ∀ {s : Nat} {d : Blk}, (mem1 ++ [⟨.grow, ty, 0, esz, []⟩])[s]? = some d → (s < mem.length ∧ mem1[s]? = some d) ∨ (s = mem.length ∧ d = ⟨.grow, ty, 0, esz, []⟩) := by
    intro s d hd
    rcases Nat.lt_or_ge s mem1.length with h | h
    · rw [List.getElem?_append_left h] at hd; exact .inl ⟨by omega, hd⟩
    · rw [List.getElem?_append_right h] at hd
      have hl := (List.getElem?_eq_some_iff.1 hd).1
      simp at hl
      have : s = mem.length := by omega
      subst this
      simp [hlen] at hd
      exact .inr ⟨rfl, hd.symm⟩
  have hoth : ∀ {s v : Nat}, s < mem.length → ρ.set mem.length 0 (none, 0) s v = ρ s v := fun {s v} h => Env.set_other ρ _ (by omega)
  refine ⟨⟨hr.size, ht, ⟨?_, ?_, ?_, ?_⟩⟩, ?_⟩
  · intro s d hd
    rcases hgt hd with ⟨_, h1⟩ | ⟨rfl, rfl⟩
    · exact hb s d h1
    · exact .inl ⟨rfl, Env.set_same _ _ _ _⟩
  · intro s v hs
    simp at hs
    rw [Env.set_other ρ _ (by omega)]
    exact hr.mem.dom s v (by omega)
  · intro s d v hd hv
    rcases hgt hd with ⟨hl, h1⟩ | ⟨rfl, rfl⟩
    · obtain ⟨b, h2, _, h3, _⟩ := hk s d h1
      rw [hoth hl]; exact hr.mem.domv s b v h2 (by omega)
    · simp only at hv
      rw [Env.set_other ρ _ (by omega)]
      exact hr.mem.dom _ _ (Nat.le_refl _)
  · intro s t d e hd he hst hkd hne x y k1 k2 hx hy
    rcases hgt hd with ⟨hl, h1⟩ | ⟨rfl, rfl⟩
    · rcases hgt he with ⟨hl', h1'⟩ | ⟨rfl, rfl⟩
      · obtain ⟨b, h2, h3, h4, h5⟩ := hk s d h1
        obtain ⟨b', h2', h3', h4', h5'⟩ := hk t e h1'
        rw [hoth hl, h4] at hx
        rw [hoth hl', h4'] at hy
        exact hr.mem.sep s t b b' h2 h2' hst (by rw [← h3]; exact hkd) (fun h => by rw [← h5' h]; exact hne (by rw [h3']; exact h)) x y k1 k2 hx hy
      · simp only [Env.set_same] at hy
        injection hy with hy; injection hy with hy _; cases hy
    · simp only [Env.set_same] at hx
      injection hx with hx; injection hx with hx _; cases hx
  · intro m0 ρ0 w0 hs
    refine ⟨hs.os, hs.tape, hs.output, hs.size, ?_, fun r hr v x hx => hle _ _ _ (hs.ext r hr v x hx), ?_, ?_, ?_, ?_⟩
    · have := hs.len; simp; omega
    · intro r b b' hb0 hb'
      have hl0 := (List.getElem?_eq_some_iff.1 hb0).1
      have := hs.len
      rcases hgt hb' with ⟨hl, h1⟩ | ⟨rfl, rfl⟩
      · obtain ⟨b2, h2, h3, _, _⟩ := hk r b' h1
        rw [h3]; exact hs.kind r b b2 hb0 h2
      · omega
    · intro r b' hb' hro
      rcases hgt hb' with ⟨hl, h1⟩ | ⟨rfl, rfl⟩
      · obtain ⟨b2, h2, h3, _, h5⟩ := hk r b' h1
        have e := h5 (by rw [← h3]; exact hro)
        subst e
        exact hs.ro r b' h2 hro
      · cases hro
    · exact hs.frame
    · intro r b' x k hb' hkd hx
      rcases hgt hb' with ⟨hl, h1⟩ | ⟨rfl, rfl⟩
      · obtain ⟨b2, h2, h3, h4, h5⟩ := hk r b' h1
        rw [hoth hl, h4] at hx
        exact hs.fresh r b2 x k h2 (by rw [← h3]; exact hkd) hx
      · simp only [Env.set_same] at hx
        injection hx with hx; injection hx with hx _; cases hx

theorem BlkR.nilCell {ρ ρ' : Env} (hle : ρ.le ρ') {w : World} {r : Nat} {b : Blk} (hb : BlkR ρ w r b) (hk : b.kind ≠ .ro) {j : Nat} (hj : b.cells[j]? = some .nils) {c : CV} (hc : ∀ v, VC ρ .nils v → VC ρ' c v) : BlkR ρ' w r { b with cells := b.cells.set j c } := by
  obtain ⟨kind, ty, ver, esz, cells⟩ := b
  cases kind with
  | fix =>
    obtain ⟨n, cs, k, h1, h2, h3, hkk⟩ := hb
    obtain ⟨v, hv, hr⟩ := h3.get hj
    exact ⟨n, cs, k, hle _ _ _ h1, h2, (h3.mono fun _ _ => VC.mono hle).set_left hv (hc v hr), hkk⟩
  | grow =>
    rcases hb with ⟨h1, h2⟩ | ⟨n, cs, cap, xs, sp, h1, h2, h3, hcm, h4, h5⟩
    · simp only at h1; subst h1; simp at hj
    · obtain ⟨v, hv, hr⟩ := h5.get hj
      exact .inr ⟨n, cs, cap, xs, sp, hle _ _ _ h1, h2, h3, hcm, h4, (h5.mono fun _ _ => VC.mono hle).set_left hv (hc v hr)⟩
  | ro => exact absurd rfl hk

/-- A nil slice in a cell of a block of our own, taken as a row with nothing in it. -/
theorem AW.nilCell {c : Code} {Q : Exit → Tm → AMem → Prop} (ty esz : Nat) (r j : Nat) {b : Blk} (hb : mem[r]? = some b) (hk : b.kind ≠ .ro) (hj : b.cells[j]? = some .nils)
    (h : AW P nt c tm (mem.set r { b with cells := b.cells.set j (.sl mem.length 0 0 0) } ++ [⟨.grow, ty, 0, esz, []⟩]) Q) : AW P nt c tm mem Q := by
  intro ρ a w hr
  have hle : ρ.le (ρ.set mem.length 0 (none, 0)) := Env.le_set (hr.mem.dom _ _ (Nat.le_refl _))
  have hrl := (List.getElem?_eq_some_iff.1 hb).1
  have hgt : ∀ {s : Nat} {d : Blk}, (mem.set r { b with cells := b.cells.set j (.sl mem.length 0 0 0) })[s]? = some d → (s ≠ r ∧ mem[s]? = some d) ∨ (s = r ∧ d = { b with cells := b.cells.set j (.sl mem.length 0 0 0) }) := by
    intro s d hd
    by_cases hs : s = r
    · subst hs; rw [List.getElem?_set_self hrl] at hd; injection hd with hd; exact .inr ⟨rfl, hd.symm⟩
    · rw [List.getElem?_set_ne (fun e => hs e.symm)] at hd; exact .inl ⟨hs, hd⟩
  obtain ⟨h1, h2⟩ := hr.nilRow ty esz (mem.set r { b with cells := b.cells.set j (.sl mem.length 0 0 0) }) (by simp) (fun s d hd => by
      rcases hgt hd with ⟨_, h1⟩ | ⟨e1, e2⟩
      · exact ⟨d, h1, rfl, rfl, fun _ => rfl⟩
      · subst e1; subst e2; exact ⟨b, hb, rfl, rfl, fun h => absurd h hk⟩) (fun s d hd => by
      rcases hgt hd with ⟨_, h1⟩ | ⟨e1, e2⟩
      · exact (hr.mem.blk s d h1).mono hle
      · subst e1; subst e2; exact (hr.mem.blk s b hb).nilCell hle hk hj fun v hv => nil_row hv) tm (fun i => (hr.tm i).mono hle)
  refine wp_mono (h _ a w h1) ?_
  rintro e a' w' ⟨ρ2, tm2, mem2, hr2, hs2, hd, hq⟩
  exact ⟨ρ2, tm2, mem2, hr2, (h2 mem ρ w (Step.refl _ _ _)).trans hs2, hd, hq⟩

/-- The same of a temporary. -/
theorem AW.nilTm {c : Code} {Q : Exit → Tm → AMem → Prop} (ty esz : Nat) (d : Nat) (hd : Tm.get tm d = .one .nils)
    (h : AW P nt c ((d, .one (.sl mem.length 0 0 0)) :: tm) (mem ++ [⟨.grow, ty, 0, esz, []⟩]) Q) : AW P nt c tm mem Q := by
  intro ρ a w hr
  have hle : ρ.le (ρ.set mem.length 0 (none, 0)) := Env.le_set (hr.mem.dom _ _ (Nat.le_refl _))
  obtain ⟨h1, h2⟩ := hr.nilRow ty esz mem rfl (fun s d hd => ⟨d, hd, rfl, rfl, fun _ => rfl⟩) (fun s d hd => (hr.mem.blk s d hd).mono hle) ((d, .one (.sl mem.length 0 0 0)) :: tm) (fun i => by
    rw [Tm.get_put]
    by_cases hi : i = d
    · subst hi
      rw [if_pos rfl]
      have := hr.tm i
      rw [hd] at this
      exact nil_row this
    · rw [if_neg hi]; exact (hr.tm i).mono hle)
  refine wp_mono (h _ a w h1) ?_
  rintro e a' w' ⟨ρ2, tm2, mem2, hr2, hs2, hd, hq⟩
  exact ⟨ρ2, tm2, mem2, hr2, (h2 mem ρ w (Step.refl _ _ _)).trans hs2, hd, hq⟩

/-- A loop whose rounds may make blocks. -/
theorem AW.loopE {ι : Type} {c : Code} {Q : Exit → Tm → AMem → Prop} (keep : List Nat) (m0 : AMem) (I : ι → Prop) (V : ι → Tm) (U : ι → List (Nat × Blk)) (E : ι → AMem) (μ : ι → Nat) (i : ι) (hi : I i) (hv : Keeps tm (V i)) (hm : setAll m0 (U i) ++ E i = mem)
    (hE : ∀ i j, I i → I j → μ j < μ i → (E i).length ≤ (E j).length)
    (h : ∀ i, I i → AW P nt c (V i ++ keepL tm keep) (setAll m0 (U i) ++ E i) (Thn (fun tm' mem' => ∃ j, I j ∧ μ j < μ i ∧ Weak nt tm' mem' (V j ++ keepL tm keep) (setAll m0 (U j) ++ E j)) Q)) : AW P nt (.loop c) tm mem Q := by
  refine AW.weak (tm' := V i ++ keepL tm keep) (Keeps.append hv (keeps_keepL _ _)) ?_
  refine AW.loop (ι := { i // I i }) (fun j => V j.1 ++ keepL tm keep) (fun j => setAll m0 (U j.1) ++ E j.1) (fun j => μ j.1) ⟨i, hi⟩ rfl hm fun ⟨j, hj⟩ => ?_
  refine (h j hj).mono fun e tm' mem' hq => ?_
  cases e with
  | normal =>
    obtain ⟨k, hk, hlt, hw⟩ := hq
    exact ⟨⟨k, hk⟩, hlt, hw, by simp only [List.length_append, setAll_len]; have := hE j k hj hk hlt; omega⟩
  | _ => exact hq

def nilC (L : Nat) (c c' : CV) : Prop := c' = c ∨ (c = .nils ∧ c' = .sl L 0 0 0)
def nilV (L : Nat) : AV → AV → Prop
  | .one c, .one c' => nilC L c c'
  | .agg cs, .agg cs' => All2 (nilC L) cs cs'
  | .tup ts, .tup ts' => All2 (fun t t' => t.1 = t'.1 ∧ All2 (nilC L) t.2 t'.2) ts ts'
  | _, _ => False
theorem AW.loopE0 {ι : Type} {c : Code} {Q : Exit → Tm → AMem → Prop} (keep : List Nat) (I : ι → Prop) (V : ι → Tm) (U : ι → List (Nat × Blk)) (E : ι → AMem) (μ : ι → Nat) (i : ι) (hi : I i) (hv : Keeps tm (V i)) (hm : setAll mem (U i) ++ E i = mem)
    (hE : ∀ i j, I i → I j → μ j < μ i → (E i).length ≤ (E j).length)
    (h : ∀ i, I i → AW P nt c (V i ++ keepL tm keep) (setAll mem (U i) ++ E i) (Thn (fun tm' mem' => ∃ j, I j ∧ μ j < μ i ∧ Weak nt tm' mem' (V j ++ keepL tm keep) (setAll mem (U j) ++ E j)) Q)) : AW P nt (.loop c) tm mem Q :=
  AW.loopE keep mem I V U E μ i hi hv hm hE h

theorem nilC_sound {ρ : Env} {L : Nat} (hle : ρ.le (ρ.set L 0 (none, 0))) {c c' : CV} {v : Value} (h : nilC L c c') (hv : VC ρ c v) : VC (ρ.set L 0 (none, 0)) c' v := by
  rcases h with rfl | ⟨rfl, rfl⟩
  · exact hv.mono hle
  · exact nil_row hv
theorem nilL_sound {ρ : Env} {L : Nat} (hle : ρ.le (ρ.set L 0 (none, 0))) : ∀ {cs cs' : List CV} {vs : List Value}, All2 (nilC L) cs cs' → All2 (VC ρ) cs vs → All2 (VC (ρ.set L 0 (none, 0))) cs' vs
  | [], [], [], _, _ => trivial
  | c :: cs, c' :: cs', v :: vs, h, hv => ⟨nilC_sound hle h.1 hv.1, nilL_sound hle h.2 hv.2⟩
  | [], _ :: _, _, h, _ => h.elim
  | _ :: _, [], _, h, _ => h.elim
  | [], [], _ :: _, _, h => h.elim
  | _ :: _, _ :: _, [], _, h => h.elim
theorem nilT_sound {ρ : Env} {L : Nat} (hle : ρ.le (ρ.set L 0 (none, 0))) {t t' : Bool × List CV} {v : Value} (h : t.1 = t'.1 ∧ All2 (nilC L) t.2 t'.2) (hv : TV ρ t v) : TV (ρ.set L 0 (none, 0)) t' v := by
  obtain ⟨b, cs⟩ := t
  obtain ⟨b', cs'⟩ := t'
  obtain ⟨h1, h2⟩ := h
  simp only at h1 h2
  subst h1
  cases b with
  | true => obtain ⟨vs, e, hvs⟩ := hv; exact ⟨vs, e, nilL_sound hle h2 hvs⟩
  | false =>
    match cs, cs', h2, hv with
    | [], [], _, _ => trivial
    | [c], [c'], h2, hv => exact nilC_sound hle h2.1 hv
    | _ :: _ :: _, _ :: _ :: _, _, _ => trivial
    | [], _ :: _, h2, _ => exact h2.elim
    | _ :: _, [], h2, _ => exact h2.elim
    | [_], _ :: _ :: _, h2, _ => exact h2.2.elim
    | _ :: _ :: _, [_], h2, _ => exact h2.2.elim
theorem nilTs_sound {ρ : Env} {L : Nat} (hle : ρ.le (ρ.set L 0 (none, 0))) : ∀ {ts ts' : List (Bool × List CV)} {vs : List Value}, All2 (fun t t' => t.1 = t'.1 ∧ All2 (nilC L) t.2 t'.2) ts ts' → All2 (TV ρ) ts vs → All2 (TV (ρ.set L 0 (none, 0))) ts' vs
  | [], [], [], _, _ => trivial
  | c :: cs, c' :: cs', v :: vs, h, hv => ⟨nilT_sound hle h.1 hv.1, nilTs_sound hle h.2 hv.2⟩
  | [], _ :: _, _, h, _ => h.elim
  | _ :: _, [], _, h, _ => h.elim
  | [], [], _ :: _, _, h => h.elim
  | _ :: _, _ :: _, [], _, h => h.elim
theorem nilV_sound {ρ : Env} {L : Nat} (hle : ρ.le (ρ.set L 0 (none, 0))) {x x' : AV} {v : Value} (h : nilV L x x') (hv : VR ρ x v) : VR (ρ.set L 0 (none, 0)) x' v := by
  match x, x', h, hv with
  | .one c, .one c', h, hv => exact nilC_sound hle h hv
  | .agg cs, .agg cs', h, hv => obtain ⟨vs, e, hvs⟩ := hv; exact ⟨vs, e, nilL_sound hle h hvs⟩
  | .tup ts, .tup ts', h, hv => obtain ⟨vs, e, hvs⟩ := hv; exact ⟨vs, e, nilTs_sound hle h hvs⟩
  | .one _, .agg _, h, _ => exact h.elim
  | .one _, .tup _, h, _ => exact h.elim
  | .agg _, .one _, h, _ => exact h.elim
  | .agg _, .tup _, h, _ => exact h.elim
  | .tup _, .one _, h, _ => exact h.elim
  | .tup _, .agg _, h, _ => exact h.elim

/-- A nil slice that is handed back, taken as a row with nothing in it. -/
theorem Ctr.nil {f : FuncId} {args : List AV} {m m' : AMem} {ret ret' : AV} (h : Ctr P f args m ret m') (ty esz : Nat) (hv : nilV m'.length ret ret') : Ctr P f args m ret' (m' ++ [⟨.grow, ty, 0, esz, []⟩]) := by
  refine fun ρ w vs hm hargs => (h ρ w vs hm hargs).mono ?_
  rintro e w' ⟨v, ρ', rfl, hvr, hm', hs⟩
  have hle : ρ'.le (ρ'.set m'.length 0 (none, 0)) := Env.le_set (hm'.dom _ _ (Nat.le_refl _))
  have hr : Rep ρ' 0 [] m' ⟨#[], []⟩ w' := ⟨by simp, fun i => trivial, hm'⟩
  obtain ⟨h1, h2⟩ := hr.nilRow ty esz m' rfl (fun s d hd => ⟨d, hd, rfl, rfl, fun _ => rfl⟩) (fun s d hd => (hm'.blk s d hd).mono hle) [] (fun i => trivial)
  exact ⟨v, _, rfl, nilV_sound hle hv hvr, h1.mem, h2 _ _ _ hs⟩
end

theorem all2_cons {α β : Type} {R : α → β → Prop} {t : α} {ts : List α} {l : List β} (h : All2 R (t :: ts) l) : ∃ a as, l = a :: as ∧ R t a ∧ All2 R ts as := by
  cases l with
  | nil => exact h.elim
  | cons a as => exact ⟨a, as, rfl, h.1, h.2⟩
theorem all2_nil {α β : Type} {R : α → β → Prop} {l : List β} (h : All2 R ([] : List α) l) : l = [] := by
  cases l with
  | nil => rfl
  | cons a as => exact h.elim
theorem chain6 (p1 p2 p3 p4 p5 p6 : Prop) : (p1 ∧ p2 ∧ p3 ∧ p4 ∧ p5 ∧ p6) ∨ (p1 ∧ p2 ∧ p3 ∧ p4 ∧ p5 ∧ ¬p6) ∨ (p1 ∧ p2 ∧ p3 ∧ p4 ∧ ¬p5 ∧ True) ∨ (p1 ∧ p2 ∧ p3 ∧ ¬p4 ∧ True ∧ True) ∨ (p1 ∧ p2 ∧ ¬p3 ∧ True ∧ True ∧ True) ∨ (p1 ∧ ¬p2 ∧ True ∧ True ∧ True ∧ True) ∨ (¬p1 ∧ True ∧ True ∧ True ∧ True ∧ True) := by
  rcases Classical.em p1 with h | h <;> rcases chain5 p2 p3 p4 p5 p6 with h' | h' | h' | h' | h' | h' <;> simp [h, h']
theorem chain7 (p1 p2 p3 p4 p5 p6 p7 : Prop) : (p1 ∧ p2 ∧ p3 ∧ p4 ∧ p5 ∧ p6 ∧ p7) ∨ (p1 ∧ p2 ∧ p3 ∧ p4 ∧ p5 ∧ p6 ∧ ¬p7) ∨ (p1 ∧ p2 ∧ p3 ∧ p4 ∧ p5 ∧ ¬p6 ∧ True) ∨ (p1 ∧ p2 ∧ p3 ∧ p4 ∧ ¬p5 ∧ True ∧ True) ∨ (p1 ∧ p2 ∧ p3 ∧ ¬p4 ∧ True ∧ True ∧ True) ∨ (p1 ∧ p2 ∧ ¬p3 ∧ True ∧ True ∧ True ∧ True) ∨ (p1 ∧ ¬p2 ∧ True ∧ True ∧ True ∧ True ∧ True) ∨ (¬p1 ∧ True ∧ True ∧ True ∧ True ∧ True ∧ True) := by
  rcases Classical.em p1 with h | h <;> rcases chain6 p2 p3 p4 p5 p6 p7 with h' | h' | h' | h' | h' | h' | h' <;> simp [h, h']
theorem chain8 (p1 p2 p3 p4 p5 p6 p7 p8 : Prop) : (p1 ∧ p2 ∧ p3 ∧ p4 ∧ p5 ∧ p6 ∧ p7 ∧ p8) ∨ (p1 ∧ p2 ∧ p3 ∧ p4 ∧ p5 ∧ p6 ∧ p7 ∧ ¬p8) ∨ (p1 ∧ p2 ∧ p3 ∧ p4 ∧ p5 ∧ p6 ∧ ¬p7 ∧ True) ∨ (p1 ∧ p2 ∧ p3 ∧ p4 ∧ p5 ∧ ¬p6 ∧ True ∧ True) ∨ (p1 ∧ p2 ∧ p3 ∧ p4 ∧ ¬p5 ∧ True ∧ True ∧ True) ∨ (p1 ∧ p2 ∧ p3 ∧ ¬p4 ∧ True ∧ True ∧ True ∧ True) ∨ (p1 ∧ p2 ∧ ¬p3 ∧ True ∧ True ∧ True ∧ True ∧ True) ∨ (p1 ∧ ¬p2 ∧ True ∧ True ∧ True ∧ True ∧ True ∧ True) ∨ (¬p1 ∧ True ∧ True ∧ True ∧ True ∧ True ∧ True ∧ True) := by
  rcases Classical.em p1 with h | h <;> rcases chain7 p2 p3 p4 p5 p6 p7 p8 with h' | h' | h' | h' | h' | h' | h' | h' <;> simp [h, h']
end Go.Eng
