/-
  ENGINE, PART T: a row of our own is cut short (what lies behind is spare).
-/
import Derived.Test.YtmjbbnfmhgcfaaaEngS
set_option linter.unusedVariables false
namespace Go.Eng
open Go
variable {P : Program} {nt : Nat} {tm : Tm} {mem : AMem}
theorem All2.take_left {α β : Type} {R : α → β → Prop} : ∀ {as : List α} {bs : List β} (k : Nat), All2 R as bs → ∃ xs sp, bs = xs ++ sp ∧ All2 R (as.take k) xs
  | as, bs, 0, _ => ⟨[], bs, rfl, by rw [List.take_zero]; trivial⟩
  | [], [], _ + 1, _ => ⟨[], [], rfl, trivial⟩
  | a :: as, b :: bs, k + 1, h => by
    obtain ⟨xs, sp, e, h2⟩ := All2.take_left k h.2
    exact ⟨b :: xs, sp, by rw [e]; rfl, h.1, h2⟩
theorem BlkR.cut {ρ : Env} {w : World} {r : Nat} {b : Blk} (hb : BlkR ρ w r b) (hk : b.kind = .grow) (k : Nat) : BlkR ρ w r { b with cells := b.cells.take k } := by
  obtain ⟨kind, ty, ver, esz, cells⟩ := b
  simp only at hk
  subst hk
  rcases hb with ⟨h1, h2⟩ | ⟨n, c, cap, xs, sp, h1, h2, h3, h4, h5, h6⟩
  · simp only at h1; subst h1; exact .inl ⟨by simp, h2⟩
  · obtain ⟨ys, tp, e, h7⟩ := All2.take_left k h6
    exact .inr ⟨n, c, cap, ys, tp ++ sp, h1, h2, h3, h4, by rw [h5, e, List.append_assoc], h7⟩
theorem AW.cut {c : Code} {Q : Exit → Tm → AMem → Prop} (r k : Nat) {b : Blk} (hb : mem[r]? = some b) (hk : b.kind = .grow)
    (h : AW P nt c tm (mem.set r { b with cells := b.cells.take k }) Q) : AW P nt c tm mem Q := by
  intro ρ a w hr
  have hrl := (List.getElem?_eq_some_iff.1 hb).1
  have hgt : ∀ {s : Nat} {d : Blk}, (mem.set r { b with cells := b.cells.take k })[s]? = some d → (s ≠ r ∧ mem[s]? = some d) ∨ (s = r ∧ d = { b with cells := b.cells.take k }) := by
    intro s d hd
    by_cases hs : s = r
    · subst hs; rw [List.getElem?_set_self hrl] at hd; injection hd with hd; exact .inr ⟨rfl, hd.symm⟩
    · rw [List.getElem?_set_ne (fun e => hs e.symm)] at hd; exact .inl ⟨hs, hd⟩
  have hold : ∀ {s : Nat} {d : Blk}, (mem.set r { b with cells := b.cells.take k })[s]? = some d → ∃ d0, mem[s]? = some d0 ∧ d0.kind = d.kind ∧ d0.ver = d.ver ∧ (d.kind = .ro → d0 = d) := by
    intro s d hd
    rcases hgt hd with ⟨_, h1⟩ | ⟨e1, e2⟩
    · exact ⟨d, h1, rfl, rfl, fun _ => rfl⟩
    · subst e1; subst e2; exact ⟨b, hb, rfl, rfl, fun h => by rw [hk] at h; cases h⟩
  have hm : RepM ρ (mem.set r { b with cells := b.cells.take k }) w := by
    refine ⟨fun s d hd => ?_, fun s v hs => hr.mem.dom s v (by simpa using hs), fun s d v hd hv => ?_, fun s t d e hd he hne hkd hke x y i j hx hy => ?_⟩
    · rcases hgt hd with ⟨_, h1⟩ | ⟨e1, e2⟩
      · exact hr.mem.blk s d h1
      · subst e1; subst e2; exact (hr.mem.blk s b hb).cut hk k
    · obtain ⟨d0, h1, _, h3, _⟩ := hold hd
      exact hr.mem.domv s d0 v h1 (by omega)
    · obtain ⟨d0, h1, h2, h3, _⟩ := hold hd
      obtain ⟨e0, g1, g2, g3, g4⟩ := hold he
      refine hr.mem.sep s t d0 e0 h1 g1 hne (by rw [h2]; exact hkd) (fun hro => ?_) x y i j (by rw [h3]; exact hx) (by rw [g3]; exact hy)
      rw [g4 (by rw [← g2]; exact hro)]; exact hke (by rw [← g2]; exact hro)
  refine wp_mono (h ρ a w ⟨hr.size, hr.tm, hm⟩) ?_
  rintro e a' w' ⟨ρ2, tm2, mem2, hr2, hs2, hd, hq⟩
  refine ⟨ρ2, tm2, mem2, hr2, ?_, hd, hq⟩
  refine ⟨hs2.os, hs2.tape, hs2.output, hs2.size, by have := hs2.len; simpa using this, fun s hs v x hx => hs2.ext s (by simpa using hs) v x hx, fun s d d' h1 h2 => ?_, fun s d' h1 h2 => ?_, fun n hn hne => ?_, fun s d' x i h1 h2 h3 => ?_⟩
  · by_cases hs : s = r
    · subst hs
      rw [hb] at h1; injection h1 with h1; subst h1
      exact hs2.kind s { b with cells := b.cells.take k } d' (List.getElem?_set_self hrl) h2
    · exact hs2.kind s d d' (by rw [List.getElem?_set_ne (fun e => hs e.symm)]; exact h1) h2
  · have := hs2.ro s d' h1 h2
    rcases hgt this with ⟨_, h3⟩ | ⟨e1, e2⟩
    · exact h3
    · subst e2; rw [hk] at h2; cases h2
  · refine hs2.frame n hn fun s d x i h1 h2 h3 => ?_
    obtain ⟨d0, g1, g2, g3, _⟩ := hold h1
    exact hne s d0 x i g1 (by rw [g2]; exact h2) (by rw [g3]; exact h3)
  · rcases hs2.fresh s d' x i h1 h2 h3 with h | ⟨t, d, y, l, h1, h2, h3, h4⟩
    · exact .inl h
    · obtain ⟨d0, g1, g2, g3, _⟩ := hold h1
      exact .inr ⟨t, d0, y, l, g1, by rw [g2]; exact h2, by rw [g3]; exact h3, h4⟩
end Go.Eng
