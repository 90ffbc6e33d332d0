/-
  ENGINE, PART W: what a row of our own holds is handed on to another one (which bears a new version then); results beside a memory that was written.
-/
import Derived.Test.YtgbehbaecdepjaaEngV
set_option linter.unusedVariables false
namespace Go.Eng
open Go
variable {P : Program} {nt : Nat} {tm : Tm} {mem : AMem}
theorem RetP.dropM {m1 : AMem} {L : Nat} {rs : List ResultVar} {ret : AV} {extra : AMem} {ex : Exit} (hl : m1.length = L) (hex : ex = .normal ∨ ex = .ret) (hres : resA P rs tm (m1 ++ extra) = some ret) (hb : ret.below L = true) (hw : MWf L m1) :
    RetP P rs L ret m1 ex tm (m1 ++ extra) := by
  subst hl; exact RetP.drop hex hres hb hw
theorem RetP.dropM0 {m1 : AMem} {L : Nat} {rs : List ResultVar} {ret : AV} {ex : Exit} (hl : m1.length = L) (hex : ex = .normal ∨ ex = .ret) (hres : resA P rs tm m1 = some ret) (hb : ret.below L = true) (hw : MWf L m1) :
    RetP P rs L ret m1 ex tm m1 := by
  subst hl; exact RetP.drop0 hex hres hb hw
theorem AW.move {c : Code} {Q : Exit → Tm → AMem → Prop} (old new d n : Nat) {b e : Blk} (hb : mem[old]? = some b) (hbk : b.kind = .grow) (he : mem[new]? = some e) (hek : e.kind = .grow) (hne : old ≠ new) (hd : Tm.get tm d = .one (.sl new e.ver 0 n))
    (h : AW P nt c ((d, .one (.sl old (b.ver + 1) 0 n)) :: tm) ((mem.set old ⟨.grow, e.ty, b.ver + 1, e.esz, e.cells⟩).set new ⟨.grow, e.ty, e.ver + 1, e.esz, []⟩) Q) : AW P nt c tm mem Q := by
  intro ρ a w hr
  have hol := (List.getElem?_eq_some_iff.1 hb).1
  have hnl := (List.getElem?_eq_some_iff.1 he).1
  obtain ⟨x0, hx0⟩ : ∃ x, ρ new e.ver = some x := by
    have h1 := hr.tm d
    rw [hd] at h1
    obtain ⟨A, c0, B, cc, h2, _⟩ := h1
    exact ⟨_, h2⟩
  have hle1 : ρ.le (ρ.set old (b.ver + 1) x0) := Env.le_set (hr.mem.domv old b _ hb (by omega))
  have hle2 : (ρ.set old (b.ver + 1) x0).le ((ρ.set old (b.ver + 1) x0).set new (e.ver + 1) (none, 0)) := Env.le_set (by
    rw [Env.set_other ρ _ (fun hc => hne hc.1.symm)]; exact hr.mem.domv new e _ he (by omega))
  have hle : ρ.le ((ρ.set old (b.ver + 1) x0).set new (e.ver + 1) (none, 0)) := fun r v x hx => hle2 r v x (hle1 r v x hx)
  generalize hρ : (ρ.set old (b.ver + 1) x0).set new (e.ver + 1) (none, 0) = ρ2 at *
  have eo : ρ2 old (b.ver + 1) = some x0 := by rw [← hρ, Env.set_other _ _ (fun hc => hne hc.1), Env.set_same]
  have en : ρ2 new (e.ver + 1) = some (none, 0) := by rw [← hρ, Env.set_same]
  have eq : ∀ r v, r ≠ old → r ≠ new → ρ2 r v = ρ r v := fun r v h1 h2 => by rw [← hρ, Env.set_other _ _ (fun hc => h2 hc.1), Env.set_other _ _ (fun hc => h1 hc.1)]
  have hgt : ∀ {s : Nat} {q : Blk}, ((mem.set old ⟨.grow, e.ty, b.ver + 1, e.esz, e.cells⟩).set new ⟨.grow, e.ty, e.ver + 1, e.esz, []⟩)[s]? = some q →
      (s ≠ old ∧ s ≠ new ∧ mem[s]? = some q) ∨ (s = old ∧ q = ⟨.grow, e.ty, b.ver + 1, e.esz, e.cells⟩) ∨ (s = new ∧ q = ⟨.grow, e.ty, e.ver + 1, e.esz, []⟩) := by
    intro s q hq
    by_cases h1 : s = new
    · subst h1; rw [List.getElem?_set_self (by simpa using hnl)] at hq; injection hq with hq; exact .inr (.inr ⟨rfl, hq.symm⟩)
    · rw [List.getElem?_set_ne (fun h => h1 h.symm)] at hq
      by_cases h2 : s = old
      · subst h2; rw [List.getElem?_set_self hol] at hq; injection hq with hq; exact .inr (.inl ⟨rfl, hq.symm⟩)
      · rw [List.getElem?_set_ne (fun h => h2 h.symm)] at hq; exact .inl ⟨h2, h1, hq⟩
  have hblk : BlkR ρ2 w old ⟨.grow, e.ty, b.ver + 1, e.esz, e.cells⟩ := by
    have h1 := hr.mem.blk new e he
    obtain ⟨kind, ty, ver, esz, cells⟩ := e
    simp only at hek; subst hek
    rcases h1 with ⟨q1, q2⟩ | ⟨q, c1, cap, xs, sp, q1, q2, q3, q4, q5, q6⟩
    · refine .inl ⟨q1, ?_⟩
      rw [eo, ← hx0]; exact q2
    · refine .inr ⟨q, c1, cap, xs, sp, ?_, q2, q3, q4, q5, q6.mono fun _ _ => VC.mono hle⟩
      rw [eo, ← hx0]; exact q1
  have hsrc : ∀ {s : Nat} {q : Blk} {x : Addr} {k : Nat}, ((mem.set old ⟨.grow, e.ty, b.ver + 1, e.esz, e.cells⟩).set new ⟨.grow, e.ty, e.ver + 1, e.esz, []⟩)[s]? = some q → ρ2 s q.ver = some (some x, k) →
      ∃ s0 q0, mem[s0]? = some q0 ∧ ρ s0 q0.ver = some (some x, k) ∧ q0.kind = q.kind ∧ (s0 = s ∧ q0 = q ∨ s = old ∧ s0 = new) ∧ s ≠ new := by
    intro s q x k hq hx
    rcases hgt hq with ⟨h1, h2, h3⟩ | ⟨rfl, rfl⟩ | ⟨rfl, rfl⟩
    · rw [eq s _ h1 h2] at hx; exact ⟨s, q, h3, hx, rfl, .inl ⟨rfl, rfl⟩, h2⟩
    · simp only at hx; rw [eo, ← hx0] at hx; exact ⟨new, e, he, hx, hek, .inr ⟨rfl, rfl⟩, hne⟩
    · simp only at hx; rw [en] at hx; injection hx with hx; injection hx with hx _; cases hx
  have hm : RepM ρ2 ((mem.set old ⟨.grow, e.ty, b.ver + 1, e.esz, e.cells⟩).set new ⟨.grow, e.ty, e.ver + 1, e.esz, []⟩) w := by
    refine ⟨fun s q hq => ?_, fun s v hs => ?_, fun s q v hq hv => ?_, fun s t q u hq hu hst hqk huk x y i j hx hy => ?_⟩
    · rcases hgt hq with ⟨_, _, h3⟩ | ⟨rfl, rfl⟩ | ⟨rfl, rfl⟩
      · exact (hr.mem.blk s q h3).mono hle
      · exact hblk
      · exact .inl ⟨rfl, en⟩
    · simp only [List.length_set] at hs
      rw [eq s v (by omega) (by omega)]; exact hr.mem.dom s v hs
    · rcases hgt hq with ⟨h1, h2, h3⟩ | ⟨rfl, rfl⟩ | ⟨rfl, rfl⟩
      · rw [eq s v h1 h2]; exact hr.mem.domv s q v h3 hv
      · simp only at hv
        rw [← hρ, Env.set_other _ _ (fun hc => hne hc.1), Env.set_other _ _ (fun hc => by omega)]
        exact hr.mem.domv _ b v hb (by omega)
      · simp only at hv
        rw [← hρ, Env.set_other _ _ (fun hc => by omega), Env.set_other _ _ (fun hc => hne hc.1.symm)]
        exact hr.mem.domv _ e v he (by omega)
    · obtain ⟨s0, q0, g1, g2, g3, g4, g5⟩ := hsrc hq hx
      obtain ⟨t0, u0, f1, f2, f3, f4, f5⟩ := hsrc hu hy
      refine hr.mem.sep s0 t0 q0 u0 g1 f1 ?_ (by rw [g3]; exact hqk) (fun hro => ?_) x y i j g2 f2
      · rcases g4 with ⟨rfl, _⟩ | ⟨rfl, rfl⟩ <;> rcases f4 with ⟨rfl, _⟩ | ⟨rfl, rfl⟩
        · exact hst
        · exact g5
        · exact fun h => f5 h.symm
        · exact absurd rfl hst
      · rcases f4 with ⟨_, rfl⟩ | ⟨_, rfl⟩
        · exact huk hro
        · rw [he] at f1; injection f1 with f1; subst f1; rw [hek] at hro; cases hro
  refine wp_mono (h ρ2 a w ⟨hr.size, fun i => ?_, hm⟩) ?_
  · rw [Tm.get_put]
    split
    · rename_i hi
      subst hi
      have h1 := hr.tm i
      rw [hd] at h1
      obtain ⟨A, c0, B, cc, h2, h3, h4, h5, h6⟩ := h1
      exact ⟨A, c0, B, cc, by rw [eo, ← hx0]; exact h2, h3, h4, h5, h6⟩
    · exact (hr.tm i).mono hle
  · rintro ee a' w' ⟨ρ3, tm2, mem2, hr2, hs2, hdd, hq⟩
    refine ⟨ρ3, tm2, mem2, hr2, ?_, hdd, hq⟩
    refine ⟨hs2.os, hs2.tape, hs2.output, hs2.size, by have := hs2.len; simpa using this, fun s hs v x hx => hs2.ext s (by simpa using hs) v x (hle s v x hx), fun s q q' h1 h2 => ?_, fun s q' h1 h2 => ?_, fun n1 hn hn2 => ?_, fun s q' x i h1 h2 h3 => ?_⟩
    · by_cases e1 : s = new
      · subst e1
        rw [he] at h1; injection h1 with h1; subst h1
        rw [hek]; exact hs2.kind s ⟨.grow, e.ty, e.ver + 1, e.esz, []⟩ q' (List.getElem?_set_self (by simpa using hnl)) h2
      · by_cases e2 : s = old
        · subst e2
          rw [hb] at h1; injection h1 with h1; subst h1
          rw [hbk]; exact hs2.kind s ⟨.grow, e.ty, b.ver + 1, e.esz, e.cells⟩ q' (by rw [List.getElem?_set_ne (fun h => e1 h.symm)]; exact List.getElem?_set_self hol) h2
        · exact hs2.kind s q q' (by rw [List.getElem?_set_ne (fun h => e1 h.symm), List.getElem?_set_ne (fun h => e2 h.symm)]; exact h1) h2
    · have := hs2.ro s q' h1 h2
      rcases hgt this with ⟨_, _, h3⟩ | ⟨_, rfl⟩ | ⟨_, rfl⟩
      · exact h3
      · cases h2
      · cases h2
    · refine hs2.frame n1 hn fun s q x i h1 h2 h3 => ?_
      obtain ⟨s0, q0, g1, g2, g3, _, _⟩ := hsrc h1 h3
      exact hn2 s0 q0 x i g1 (by rw [g3]; exact h2) g2
    · rcases hs2.fresh s q' x i h1 h2 h3 with h | ⟨t, q, y, l, g1, g2, g3, g4⟩
      · exact .inl h
      · obtain ⟨s0, q0, f1, f2, f3, _, _⟩ := hsrc g1 g3
        exact .inr ⟨s0, q0, y, l, f1, by rw [f3]; exact g2, f2, g4⟩
end Go.Eng
