/- Walks and facts of this seat's program over abstract states, printed by programs of mine; no conditions but those that each theorem names. -/
import Derived.Test.YtlhppfdokgeijaaDoorM3
import Derived.Laws.Externs
import Derived.MakeChecks
import Derived.Sort.Row
import Derived.Sort.Grow
import Derived.Lib.SlKeysI
import Derived.WideShapes
import Derived.Maps.Own
import Derived.Stop.LaidErr
import Derived.Lib.LaidTab
import Derived.Lib.ItoaNum
import Derived.Lib.Atoi
import Derived.Lib.AtoiBound
import Derived.Lib.AtoiErrMem
import Derived.Lib.Bytealg
import Derived.Shelf.Bytes.SlIndexAt
import Derived.Shelf.Strconv.Itoa0
import Derived.Shelf.Strconv.Itoa1
import Derived.Shelf.LaysM
import Derived.Shelf.Strconv.Itoa2
import Derived.Shelf.Strconv.Itoa3
import Derived.Shelf.Strconv.Itoa4
import Derived.Shelf.Strconv.Clone
import Derived.Shelf.Strconv.SyntaxError
import Derived.Shelf.LaysC
import Derived.Shelf.Strconv.ToError
import Derived.Shelf.Strconv.Lower
import Derived.Shelf.Strconv.ParseUint10
import Derived.Shelf.Strconv.ParseUint10Empty
import Derived.Shelf.Strconv.RangeError
import Derived.Shelf.Strconv.ParseUintEmpty
import Derived.Shelf.Strconv.ParseUint10b64
import Derived.Shelf.Strconv.ParseUint10b32
import Derived.Shelf.Strconv.ParseUint10b16
import Derived.Shelf.Strconv.ParseUint10b8
import Derived.Ground.MpProg
import Derived.Shelf.Pu.ParseUintPublic10
import Derived.Shelf.Pu.ErrVarParseUint
import Derived.Shelf.Strings.Search1
import Derived.Shelf.Strings.Search2
import Derived.Shelf.Strings.Cut
import Derived.Shelf.Strings.Shaped
import Derived.Shelf.Strings.Prefix
/-
  ENGINE, PART W: what a row of our own holds is handed on to another one (which bears a new version then); results beside a memory that was written.
-/
set_option linter.unusedVariables false
namespace Go.Eng
open Go
variable {P : Program} {nt : Nat} {tm : Tm} {mem : AMem}
theorem RetP.dropM {m1 : AMem} {L : Nat} {rs : List ResultVar} {ret : AV} {extra : AMem} {ex : Exit} (hl : m1.length = L) (hex : ex = .normal ∨ ex = .ret) (hres : resA P rs tm (m1 ++ extra) = some ret) (hb : ret.below L = true) (hw : MWf L m1) :
    RetP P rs L ret m1 ex tm (m1 ++ extra) := by
  subst hl; exact RetP.drop hex hres hb hw
theorem RetP.dropM0 {m1 : AMem} {L : Nat} {rs : List ResultVar} {ret : AV} {ex : Exit} (hl : m1.length = L) (hex : ex = .normal ∨ ex = .ret) (hres : resA P rs tm m1 = some ret) (hb : ret.below L = true) (hw : MWf L m1) :
    RetP P rs L ret m1 ex tm m1 := by
  subst hl; exact RetP.drop0 hex hres hb hw
theorem AW.moveP {c : Code} {Q : Exit → Tm → AMem → Prop} (old new d n : Nat) {b e : Blk} (hb : mem[old]? = some b) (hbk : b.kind = .grow) (he : mem[new]? = some e) (hek : e.kind = .grow) (hne : old ≠ new) (hd : Tm.get tm d = .one (.sl new e.ver 0 n))
    (h : ∀ ρ2 a w, ρ2 old (b.ver + 1) = ρ2 new e.ver → Rep ρ2 nt ((d, .one (.sl old (b.ver + 1) 0 n)) :: tm) ((mem.set old ⟨.grow, e.ty, b.ver + 1, e.esz, e.cells⟩).set new ⟨.grow, e.ty, e.ver + 1, e.esz, []⟩) a w →
      c.wp P (fun ex a' w' => ∃ ρ' tm' mem', Rep ρ' nt tm' mem' a' w' ∧ Step ((mem.set old ⟨.grow, e.ty, b.ver + 1, e.esz, e.cells⟩).set new ⟨.grow, e.ty, e.ver + 1, e.esz, []⟩) ρ2 w mem' ρ' w' ∧ a'.defers = a.defers ∧ Q ex tm' mem') a w) : AW P nt c tm mem Q := by
  intro ρ a w hr
  have hol := (List.getElem?_eq_some_iff.1 hb).1
  have hnl := (List.getElem?_eq_some_iff.1 he).1
  obtain ⟨x0, hx0⟩ : ∃ x, ρ new e.ver = some x := by
    have h1 := hr.tm d
    rw [hd] at h1
    obtain ⟨A, c0, B, cc, h2, _⟩ := h1
    exact ⟨_, h2⟩
  have hle1 : ρ.le (ρ.set old (b.ver + 1) x0) := Env.le_set (hr.mem.domv old b _ hb (by omega))
  have hle2 : (ρ.set old (b.ver + 1) x0).le ((ρ.set old (b.ver + 1) x0).set new (e.ver + 1) (none, 0)) := Env.le_set (by
    rw [Env.set_other ρ _ (fun hc => hne hc.1.symm)]; exact hr.mem.domv new e _ he (by omega))
  have hle : ρ.le ((ρ.set old (b.ver + 1) x0).set new (e.ver + 1) (none, 0)) := fun r v x hx => hle2 r v x (hle1 r v x hx)
  generalize hρ : (ρ.set old (b.ver + 1) x0).set new (e.ver + 1) (none, 0) = ρ2 at *
  have eo : ρ2 old (b.ver + 1) = some x0 := by rw [← hρ, Env.set_other _ _ (fun hc => hne hc.1), Env.set_same]
  have en : ρ2 new (e.ver + 1) = some (none, 0) := by rw [← hρ, Env.set_same]
  have eq : ∀ r v, r ≠ old → r ≠ new → ρ2 r v = ρ r v := fun r v h1 h2 => by rw [← hρ, Env.set_other _ _ (fun hc => h2 hc.1), Env.set_other _ _ (fun hc => h1 hc.1)]
  have hgt : ∀ {s : Nat} {q : Blk}, ((mem.set old ⟨.grow, e.ty, b.ver + 1, e.esz, e.cells⟩).set new ⟨.grow, e.ty, e.ver + 1, e.esz, []⟩)[s]? = some q →
      (s ≠ old ∧ s ≠ new ∧ mem[s]? = some q) ∨ (s = old ∧ q = ⟨.grow, e.ty, b.ver + 1, e.esz, e.cells⟩) ∨ (s = new ∧ q = ⟨.grow, e.ty, e.ver + 1, e.esz, []⟩) := by
    intro s q hq
    by_cases h1 : s = new
    · subst h1; rw [List.getElem?_set_self (by simpa using hnl)] at hq; injection hq with hq; exact .inr (.inr ⟨rfl, hq.symm⟩)
    · rw [List.getElem?_set_ne (fun h => h1 h.symm)] at hq
      by_cases h2 : s = old
      · subst h2; rw [List.getElem?_set_self hol] at hq; injection hq with hq; exact .inr (.inl ⟨rfl, hq.symm⟩)
      · rw [List.getElem?_set_ne (fun h => h2 h.symm)] at hq; exact .inl ⟨h2, h1, hq⟩
  have hblk : BlkR ρ2 w old ⟨.grow, e.ty, b.ver + 1, e.esz, e.cells⟩ := by
    have h1 := hr.mem.blk new e he
    obtain ⟨kind, ty, ver, esz, cells⟩ := e
    simp only at hek; subst hek
    rcases h1 with ⟨q1, q2⟩ | ⟨q, c1, cap, xs, sp, q1, q2, q3, q4, q5, q6⟩
    · refine .inl ⟨q1, ?_⟩
      rw [eo, ← hx0]; exact q2
    · refine .inr ⟨q, c1, cap, xs, sp, ?_, q2, q3, q4, q5, q6.mono fun _ _ => VC.mono hle⟩
      rw [eo, ← hx0]; exact q1
  have hsrc : ∀ {s : Nat} {q : Blk} {x : Addr} {k : Nat}, ((mem.set old ⟨.grow, e.ty, b.ver + 1, e.esz, e.cells⟩).set new ⟨.grow, e.ty, e.ver + 1, e.esz, []⟩)[s]? = some q → ρ2 s q.ver = some (some x, k) →
      ∃ s0 q0, mem[s0]? = some q0 ∧ ρ s0 q0.ver = some (some x, k) ∧ q0.kind = q.kind ∧ (s0 = s ∧ q0 = q ∨ s = old ∧ s0 = new) ∧ s ≠ new := by
    intro s q x k hq hx
    rcases hgt hq with ⟨h1, h2, h3⟩ | ⟨rfl, rfl⟩ | ⟨rfl, rfl⟩
    · rw [eq s _ h1 h2] at hx; exact ⟨s, q, h3, hx, rfl, .inl ⟨rfl, rfl⟩, h2⟩
    · simp only at hx; rw [eo, ← hx0] at hx; exact ⟨new, e, he, hx, hek, .inr ⟨rfl, rfl⟩, hne⟩
    · simp only at hx; rw [en] at hx; injection hx with hx; injection hx with hx _; cases hx
  have hm : RepM ρ2 ((mem.set old ⟨.grow, e.ty, b.ver + 1, e.esz, e.cells⟩).set new ⟨.grow, e.ty, e.ver + 1, e.esz, []⟩) w := by
    refine ⟨fun s q hq => ?_, fun s v hs => ?_, fun s q v hq hv => ?_, fun s t q u hq hu hst hqk huk x y i j hx hy => ?_⟩
    · rcases hgt hq with ⟨_, _, h3⟩ | ⟨rfl, rfl⟩ | ⟨rfl, rfl⟩
      · exact (hr.mem.blk s q h3).mono hle
      · exact hblk
      · exact .inl ⟨rfl, en⟩
    · simp only [List.length_set] at hs
      rw [eq s v (by omega) (by omega)]; exact hr.mem.dom s v hs
    · rcases hgt hq with ⟨h1, h2, h3⟩ | ⟨rfl, rfl⟩ | ⟨rfl, rfl⟩
      · rw [eq s v h1 h2]; exact hr.mem.domv s q v h3 hv
      · simp only at hv
        rw [← hρ, Env.set_other _ _ (fun hc => hne hc.1), Env.set_other _ _ (fun hc => by omega)]
        exact hr.mem.domv _ b v hb (by omega)
      · simp only at hv
        rw [← hρ, Env.set_other _ _ (fun hc => by omega), Env.set_other _ _ (fun hc => hne hc.1.symm)]
        exact hr.mem.domv _ e v he (by omega)
    · obtain ⟨s0, q0, g1, g2, g3, g4, g5⟩ := hsrc hq hx
      obtain ⟨t0, u0, f1, f2, f3, f4, f5⟩ := hsrc hu hy
      refine hr.mem.sep s0 t0 q0 u0 g1 f1 ?_ (by rw [g3]; exact hqk) (fun hro => ?_) x y i j g2 f2
      · rcases g4 with ⟨rfl, _⟩ | ⟨rfl, rfl⟩ <;> rcases f4 with ⟨rfl, _⟩ | ⟨rfl, rfl⟩
        · exact hst
        · exact g5
        · exact fun h => f5 h.symm
        · exact absurd rfl hst
      · rcases f4 with ⟨_, rfl⟩ | ⟨_, rfl⟩
        · exact huk hro
        · rw [he] at f1; injection f1 with f1; subst f1; rw [hek] at hro; cases hro
  refine wp_mono (h ρ2 a w (by rw [eo]; exact (hle new e.ver x0 hx0).symm) ⟨hr.size, fun i => ?_, hm⟩) ?_
  · rw [Tm.get_put]
    split
    · rename_i hi
      subst hi
      have h1 := hr.tm i
      rw [hd] at h1
      obtain ⟨A, c0, B, cc, h2, h3, h4, h5, h6⟩ := h1
      exact ⟨A, c0, B, cc, by rw [eo, ← hx0]; exact h2, h3, h4, h5, h6⟩
    · exact (hr.tm i).mono hle
  · rintro ee a' w' ⟨ρ3, tm2, mem2, hr2, hs2, hdd, hq⟩
    refine ⟨ρ3, tm2, mem2, hr2, ?_, hdd, hq⟩
    refine ⟨hs2.os, hs2.tape, hs2.output, hs2.size, by have := hs2.len; simpa using this, fun s hs v x hx => hs2.ext s (by simpa using hs) v x (hle s v x hx), fun s q q' h1 h2 => ?_, fun s q' h1 h2 => ?_, fun n1 hn hn2 => ?_, fun s q' x i h1 h2 h3 => ?_⟩
    · by_cases e1 : s = new
      · subst e1
        rw [he] at h1; injection h1 with h1; subst h1
        rw [hek]; exact hs2.kind s ⟨.grow, e.ty, e.ver + 1, e.esz, []⟩ q' (List.getElem?_set_self (by simpa using hnl)) h2
      · by_cases e2 : s = old
        · subst e2
          rw [hb] at h1; injection h1 with h1; subst h1
          rw [hbk]; exact hs2.kind s ⟨.grow, e.ty, b.ver + 1, e.esz, e.cells⟩ q' (by rw [List.getElem?_set_ne (fun h => e1 h.symm)]; exact List.getElem?_set_self hol) h2
        · exact hs2.kind s q q' (by rw [List.getElem?_set_ne (fun h => e1 h.symm), List.getElem?_set_ne (fun h => e2 h.symm)]; exact h1) h2
    · have := hs2.ro s q' h1 h2
      rcases hgt this with ⟨_, _, h3⟩ | ⟨_, rfl⟩ | ⟨_, rfl⟩
      · exact h3
      · cases h2
      · cases h2
    · refine hs2.frame n1 hn fun s q x i h1 h2 h3 => ?_
      obtain ⟨s0, q0, g1, g2, g3, _, _⟩ := hsrc h1 h3
      exact hn2 s0 q0 x i g1 (by rw [g3]; exact h2) g2
    · rcases hs2.fresh s q' x i h1 h2 h3 with h | ⟨t, q, y, l, g1, g2, g3, g4⟩
      · exact .inl h
      · obtain ⟨s0, q0, f1, f2, f3, _, _⟩ := hsrc g1 g3
        exact .inr ⟨s0, q0, y, l, f1, by rw [f3]; exact g2, f2, g4⟩
theorem AW.move {c : Code} {Q : Exit → Tm → AMem → Prop} (old new d n : Nat) {b e : Blk} (hb : mem[old]? = some b) (hbk : b.kind = .grow) (he : mem[new]? = some e) (hek : e.kind = .grow) (hne : old ≠ new) (hd : Tm.get tm d = .one (.sl new e.ver 0 n))
    (h : AW P nt c ((d, .one (.sl old (b.ver + 1) 0 n)) :: tm) ((mem.set old ⟨.grow, e.ty, b.ver + 1, e.esz, e.cells⟩).set new ⟨.grow, e.ty, e.ver + 1, e.esz, []⟩) Q) : AW P nt c tm mem Q :=
  AW.moveP old new d n hb hbk he hek hne hd fun ρ2 a w _ hr => h ρ2 a w hr
theorem BlkR.recell {ρ : Env} {w : World} {r : Nat} {b : Blk} (hb : BlkR ρ w r b) (hk : b.kind ≠ .ro) {j : Nat} {c0 c : CV} (hj : b.cells[j]? = some c0) (hc : ∀ v, VC ρ c0 v → VC ρ c v) : BlkR ρ w r { b with cells := b.cells.set j c } := by
  obtain ⟨kind, ty, ver, esz, cells⟩ := b
  cases kind with
  | fix =>
    obtain ⟨n, cs, k, h1, h2, h3, hkk⟩ := hb
    obtain ⟨v, hv, hr⟩ := h3.get hj
    exact ⟨n, cs, k, h1, h2, h3.set_left hv (hc v hr), hkk⟩
  | grow =>
    rcases hb with ⟨h1, h2⟩ | ⟨n, cs, cap, xs, sp, h1, h2, h3, hcm, h4, h5⟩
    · simp only at h1; subst h1; simp at hj
    · obtain ⟨v, hv, hr⟩ := h5.get hj
      exact .inr ⟨n, cs, cap, xs, sp, h1, h2, h3, hcm, h4, h5.set_left hv (hc v hr)⟩
  | ro => exact absurd rfl hk
  | map ka va clock es => obtain ⟨n, o, k, _, _, _, h⟩ := hb; simp only at h; subst h; simp at hj
  | iter rm since seen last => obtain ⟨n, N, k, k', _, _, _, h⟩ := hb; simp only at h; subst h; simp at hj
theorem RepM.recell {ρ : Env} {w : World} (h : RepM ρ mem w) {r j : Nat} {b : Blk} {c0 c : CV} (hb : mem[r]? = some b) (hk : b.kind ≠ .ro) (hj : b.cells[j]? = some c0) (hc : ∀ v, VC ρ c0 v → VC ρ c v) :
    RepM ρ (mem.set r { b with cells := b.cells.set j c }) w ∧ Step mem ρ w (mem.set r { b with cells := b.cells.set j c }) ρ w := by
  have hrl := (List.getElem?_eq_some_iff.1 hb).1
  have hold : ∀ {s : Nat} {d : Blk}, (mem.set r { b with cells := b.cells.set j c })[s]? = some d → ∃ d0, mem[s]? = some d0 ∧ d0.kind = d.kind ∧ d0.ver = d.ver ∧ (d.kind = .ro → d0 = d) ∧ BlkR ρ w s d := by
    intro s d hd
    by_cases hs : s = r
    · subst hs; rw [List.getElem?_set_self hrl] at hd; injection hd with hd; subst hd
      exact ⟨b, hb, rfl, rfl, fun h => absurd h hk, (h.blk s b hb).recell hk hj hc⟩
    · rw [List.getElem?_set_ne (fun e => hs e.symm)] at hd
      exact ⟨d, hd, rfl, rfl, fun _ => rfl, h.blk s d hd⟩
  refine ⟨⟨fun s d hd => ?_, fun s v hs => h.dom s v (by simpa using hs), fun s d v hd hv => ?_, fun s t d e hd he hne hkd hke x y i k hx hy => ?_⟩,
    ⟨rfl, rfl, rfl, Nat.le_refl _, by simp, fun _ _ _ _ h => h, fun s d d' h1 h2 => ?_, fun s d h1 h2 => ?_, fun _ _ _ => rfl, fun s d x k h1 h2 h3 => ?_⟩⟩
  · obtain ⟨_, _, _, _, _, h5⟩ := hold hd; exact h5
  · obtain ⟨d0, h1, _, h3, _⟩ := hold hd; exact h.domv s d0 v h1 (by rw [h3]; exact hv)
  · obtain ⟨d0, h1, h2, h3, _⟩ := hold hd
    obtain ⟨e0, f1, f2, f3, f4, _⟩ := hold he
    exact h.sep s t d0 e0 h1 f1 hne (by rw [h2]; exact hkd) (fun hro => by rw [f4 (by rw [← f2]; exact hro)]; exact hke (by rw [← f2]; exact hro)) x y i k (by rw [h3]; exact hx) (by rw [f3]; exact hy)
  · obtain ⟨d0, h3, h4, _⟩ := hold h2; rw [h1] at h3; injection h3 with h3; rw [h3, h4]
  · obtain ⟨d0, h3, _, _, h5, _⟩ := hold h1; rw [← h5 h2]; exact h3
  · obtain ⟨d0, f1, f2, f3, _⟩ := hold h1; exact .inr ⟨s, d0, x, k, f1, by rw [f2]; exact h2, by rw [f3]; exact h3, rfl⟩
/-- The same where a cell of a block of our own leads to the row, too. -/
theorem AW.moveC {c : Code} {Q : Exit → Tm → AMem → Prop} (old new d n rp j : Nat) {b e p : Blk} (hb : mem[old]? = some b) (hbk : b.kind = .grow) (he : mem[new]? = some e) (hek : e.kind = .grow) (hne : old ≠ new) (hd : Tm.get tm d = .one (.sl new e.ver 0 n))
    (hp : mem[rp]? = some p) (hpk : p.kind ≠ .ro) (hpo : rp ≠ old) (hpn : rp ≠ new) (hpj : p.cells[j]? = some (.sl new e.ver 0 n))
    (h : AW P nt c ((d, .one (.sl old (b.ver + 1) 0 n)) :: tm) (((mem.set old ⟨.grow, e.ty, b.ver + 1, e.esz, e.cells⟩).set new ⟨.grow, e.ty, e.ver + 1, e.esz, []⟩).set rp { p with cells := p.cells.set j (.sl old (b.ver + 1) 0 n) }) Q) : AW P nt c tm mem Q :=
  AW.moveP old new d n hb hbk he hek hne hd fun ρ2 a w heq hr => by
    obtain ⟨g1, g2⟩ := hr.mem.recell (r := rp) (j := j) (c := .sl old (b.ver + 1) 0 n) (b := p) (by rw [List.getElem?_set_ne (fun e => hpn e.symm), List.getElem?_set_ne (fun e => hpo e.symm)]; exact hp) hpk hpj (fun v hv => by
      obtain ⟨A, c0, B, cc, h2, h3⟩ := hv
      exact ⟨A, c0, B, cc, by rw [heq]; exact h2, h3⟩)
    refine wp_mono (h ρ2 a w ⟨hr.size, hr.tm, g1⟩) ?_
    rintro ee a' w' ⟨ρ3, tm2, mem2, hr2, hs2, hdd, hq⟩
    exact ⟨ρ3, tm2, mem2, hr2, g2.trans hs2, hdd, hq⟩
theorem AW.moveQ {c : Code} {Q : Exit → Tm → AMem → Prop} (old new : Nat) {b e : Blk} (hb : mem[old]? = some b) (hbk : b.kind = .grow) (he : mem[new]? = some e) (hek : e.kind = .grow) (hne : old ≠ new)
    (h : ∀ ρ2 a w, ρ2 old (b.ver + 1) = ρ2 new e.ver → Rep ρ2 nt tm ((mem.set old ⟨.grow, e.ty, b.ver + 1, e.esz, e.cells⟩).set new ⟨.grow, e.ty, e.ver + 1, e.esz, []⟩) a w →
      c.wp P (fun ex a' w' => ∃ ρ' tm' mem', Rep ρ' nt tm' mem' a' w' ∧ Step ((mem.set old ⟨.grow, e.ty, b.ver + 1, e.esz, e.cells⟩).set new ⟨.grow, e.ty, e.ver + 1, e.esz, []⟩) ρ2 w mem' ρ' w' ∧ a'.defers = a.defers ∧ Q ex tm' mem') a w) : AW P nt c tm mem Q := by
  intro ρ a w hr
  have hol := (List.getElem?_eq_some_iff.1 hb).1
  have hnl := (List.getElem?_eq_some_iff.1 he).1
  obtain ⟨x0, hx0⟩ : ∃ x, ρ new e.ver = some x := by
    have h1 := hr.mem.blk new e he
    unfold BlkR at h1
    rw [hek] at h1
    simp only at h1
    rcases h1 with ⟨_, h2⟩ | ⟨_, _, _, _, _, h2, _⟩
    · exact ⟨_, h2⟩
    · exact ⟨_, h2⟩
  have hle1 : ρ.le (ρ.set old (b.ver + 1) x0) := Env.le_set (hr.mem.domv old b _ hb (by omega))
  have hle2 : (ρ.set old (b.ver + 1) x0).le ((ρ.set old (b.ver + 1) x0).set new (e.ver + 1) (none, 0)) := Env.le_set (by
    rw [Env.set_other ρ _ (fun hc => hne hc.1.symm)]; exact hr.mem.domv new e _ he (by omega))
  have hle : ρ.le ((ρ.set old (b.ver + 1) x0).set new (e.ver + 1) (none, 0)) := fun r v x hx => hle2 r v x (hle1 r v x hx)
  generalize hρ : (ρ.set old (b.ver + 1) x0).set new (e.ver + 1) (none, 0) = ρ2 at *
  have eo : ρ2 old (b.ver + 1) = some x0 := by rw [← hρ, Env.set_other _ _ (fun hc => hne hc.1), Env.set_same]
  have en : ρ2 new (e.ver + 1) = some (none, 0) := by rw [← hρ, Env.set_same]
  have eq : ∀ r v, r ≠ old → r ≠ new → ρ2 r v = ρ r v := fun r v h1 h2 => by rw [← hρ, Env.set_other _ _ (fun hc => h2 hc.1), Env.set_other _ _ (fun hc => h1 hc.1)]
  have hgt : ∀ {s : Nat} {q : Blk}, ((mem.set old ⟨.grow, e.ty, b.ver + 1, e.esz, e.cells⟩).set new ⟨.grow, e.ty, e.ver + 1, e.esz, []⟩)[s]? = some q →
      (s ≠ old ∧ s ≠ new ∧ mem[s]? = some q) ∨ (s = old ∧ q = ⟨.grow, e.ty, b.ver + 1, e.esz, e.cells⟩) ∨ (s = new ∧ q = ⟨.grow, e.ty, e.ver + 1, e.esz, []⟩) := by
    intro s q hq
    by_cases h1 : s = new
    · subst h1; rw [List.getElem?_set_self (by simpa using hnl)] at hq; injection hq with hq; exact .inr (.inr ⟨rfl, hq.symm⟩)
    · rw [List.getElem?_set_ne (fun h => h1 h.symm)] at hq
      by_cases h2 : s = old
      · subst h2; rw [List.getElem?_set_self hol] at hq; injection hq with hq; exact .inr (.inl ⟨rfl, hq.symm⟩)
      · rw [List.getElem?_set_ne (fun h => h2 h.symm)] at hq; exact .inl ⟨h2, h1, hq⟩
  have hblk : BlkR ρ2 w old ⟨.grow, e.ty, b.ver + 1, e.esz, e.cells⟩ := by
    have h1 := hr.mem.blk new e he
    obtain ⟨kind, ty, ver, esz, cells⟩ := e
    simp only at hek; subst hek
    rcases h1 with ⟨q1, q2⟩ | ⟨q, c1, cap, xs, sp, q1, q2, q3, q4, q5, q6⟩
    · refine .inl ⟨q1, ?_⟩
      rw [eo, ← hx0]; exact q2
    · refine .inr ⟨q, c1, cap, xs, sp, ?_, q2, q3, q4, q5, q6.mono fun _ _ => VC.mono hle⟩
      rw [eo, ← hx0]; exact q1
  have hsrc : ∀ {s : Nat} {q : Blk} {x : Addr} {k : Nat}, ((mem.set old ⟨.grow, e.ty, b.ver + 1, e.esz, e.cells⟩).set new ⟨.grow, e.ty, e.ver + 1, e.esz, []⟩)[s]? = some q → ρ2 s q.ver = some (some x, k) →
      ∃ s0 q0, mem[s0]? = some q0 ∧ ρ s0 q0.ver = some (some x, k) ∧ q0.kind = q.kind ∧ (s0 = s ∧ q0 = q ∨ s = old ∧ s0 = new) ∧ s ≠ new := by
    intro s q x k hq hx
    rcases hgt hq with ⟨h1, h2, h3⟩ | ⟨rfl, rfl⟩ | ⟨rfl, rfl⟩
    · rw [eq s _ h1 h2] at hx; exact ⟨s, q, h3, hx, rfl, .inl ⟨rfl, rfl⟩, h2⟩
    · simp only at hx; rw [eo, ← hx0] at hx; exact ⟨new, e, he, hx, hek, .inr ⟨rfl, rfl⟩, hne⟩
    · simp only at hx; rw [en] at hx; injection hx with hx; injection hx with hx _; cases hx
  have hm : RepM ρ2 ((mem.set old ⟨.grow, e.ty, b.ver + 1, e.esz, e.cells⟩).set new ⟨.grow, e.ty, e.ver + 1, e.esz, []⟩) w := by
    refine ⟨fun s q hq => ?_, fun s v hs => ?_, fun s q v hq hv => ?_, fun s t q u hq hu hst hqk huk x y i j hx hy => ?_⟩
    · rcases hgt hq with ⟨_, _, h3⟩ | ⟨rfl, rfl⟩ | ⟨rfl, rfl⟩
      · exact (hr.mem.blk s q h3).mono hle
      · exact hblk
      · exact .inl ⟨rfl, en⟩
    · simp only [List.length_set] at hs
      rw [eq s v (by omega) (by omega)]; exact hr.mem.dom s v hs
    · rcases hgt hq with ⟨h1, h2, h3⟩ | ⟨rfl, rfl⟩ | ⟨rfl, rfl⟩
      · rw [eq s v h1 h2]; exact hr.mem.domv s q v h3 hv
      · simp only at hv
        rw [← hρ, Env.set_other _ _ (fun hc => hne hc.1), Env.set_other _ _ (fun hc => by omega)]
        exact hr.mem.domv _ b v hb (by omega)
      · simp only at hv
        rw [← hρ, Env.set_other _ _ (fun hc => by omega), Env.set_other _ _ (fun hc => hne hc.1.symm)]
        exact hr.mem.domv _ e v he (by omega)
    · obtain ⟨s0, q0, g1, g2, g3, g4, g5⟩ := hsrc hq hx
      obtain ⟨t0, u0, f1, f2, f3, f4, f5⟩ := hsrc hu hy
      refine hr.mem.sep s0 t0 q0 u0 g1 f1 ?_ (by rw [g3]; exact hqk) (fun hro => ?_) x y i j g2 f2
      · rcases g4 with ⟨rfl, _⟩ | ⟨rfl, rfl⟩ <;> rcases f4 with ⟨rfl, _⟩ | ⟨rfl, rfl⟩
        · exact hst
        · exact g5
        · exact fun h => f5 h.symm
        · exact absurd rfl hst
      · rcases f4 with ⟨_, rfl⟩ | ⟨_, rfl⟩
        · exact huk hro
        · rw [he] at f1; injection f1 with f1; subst f1; rw [hek] at hro; cases hro
  refine wp_mono (h ρ2 a w (by rw [eo]; exact (hle new e.ver x0 hx0).symm) ⟨hr.size, fun i => ?_, hm⟩) ?_
  · exact (hr.tm i).mono hle
  · rintro ee a' w' ⟨ρ3, tm2, mem2, hr2, hs2, hdd, hq⟩
    refine ⟨ρ3, tm2, mem2, hr2, ?_, hdd, hq⟩
    refine ⟨hs2.os, hs2.tape, hs2.output, hs2.size, by have := hs2.len; simpa using this, fun s hs v x hx => hs2.ext s (by simpa using hs) v x (hle s v x hx), fun s q q' h1 h2 => ?_, fun s q' h1 h2 => ?_, fun n1 hn hn2 => ?_, fun s q' x i h1 h2 h3 => ?_⟩
    · by_cases e1 : s = new
      · subst e1
        rw [he] at h1; injection h1 with h1; subst h1
        rw [hek]; exact hs2.kind s ⟨.grow, e.ty, e.ver + 1, e.esz, []⟩ q' (List.getElem?_set_self (by simpa using hnl)) h2
      · by_cases e2 : s = old
        · subst e2
          rw [hb] at h1; injection h1 with h1; subst h1
          rw [hbk]; exact hs2.kind s ⟨.grow, e.ty, b.ver + 1, e.esz, e.cells⟩ q' (by rw [List.getElem?_set_ne (fun h => e1 h.symm)]; exact List.getElem?_set_self hol) h2
        · exact hs2.kind s q q' (by rw [List.getElem?_set_ne (fun h => e1 h.symm), List.getElem?_set_ne (fun h => e2 h.symm)]; exact h1) h2
    · have := hs2.ro s q' h1 h2
      rcases hgt this with ⟨_, _, h3⟩ | ⟨_, rfl⟩ | ⟨_, rfl⟩
      · exact h3
      · cases h2
      · cases h2
    · refine hs2.frame n1 hn fun s q x i h1 h2 h3 => ?_
      obtain ⟨s0, q0, g1, g2, g3, _, _⟩ := hsrc h1 h3
      exact hn2 s0 q0 x i g1 (by rw [g3]; exact h2) g2
    · rcases hs2.fresh s q' x i h1 h2 h3 with h | ⟨t, q, y, l, g1, g2, g3, g4⟩
      · exact .inl h
      · obtain ⟨s0, q0, f1, f2, f3, _, _⟩ := hsrc g1 g3
        exact .inr ⟨s0, q0, y, l, f1, by rw [f3]; exact g2, f2, g4⟩
/-- A row of our own takes over what another one holds, to which a cell of a block of our own leads; no temporary is asked. -/
theorem AW.moveCell {c : Code} {Q : Exit → Tm → AMem → Prop} (old new n rp j : Nat) {b e p : Blk} (hb : mem[old]? = some b) (hbk : b.kind = .grow) (he : mem[new]? = some e) (hek : e.kind = .grow) (hne : old ≠ new)
    (hp : mem[rp]? = some p) (hpk : p.kind ≠ .ro) (hpo : rp ≠ old) (hpn : rp ≠ new) (hpj : p.cells[j]? = some (.sl new e.ver 0 n))
    (h : AW P nt c tm (((mem.set old ⟨.grow, e.ty, b.ver + 1, e.esz, e.cells⟩).set new ⟨.grow, e.ty, e.ver + 1, e.esz, []⟩).set rp { p with cells := p.cells.set j (.sl old (b.ver + 1) 0 n) }) Q) : AW P nt c tm mem Q :=
  AW.moveQ old new hb hbk he hek hne fun ρ2 a w heq hr => by
    obtain ⟨g1, g2⟩ := hr.mem.recell (r := rp) (j := j) (c := .sl old (b.ver + 1) 0 n) (b := p) (by rw [List.getElem?_set_ne (fun e => hpn e.symm), List.getElem?_set_ne (fun e => hpo e.symm)]; exact hp) hpk hpj (fun v hv => by
      obtain ⟨A, c0, B, cc, h2, h3⟩ := hv
      exact ⟨A, c0, B, cc, by rw [heq]; exact h2, h3⟩)
    refine wp_mono (h ρ2 a w ⟨hr.size, hr.tm, g1⟩) ?_
    rintro ee a' w' ⟨ρ3, tm2, mem2, hr2, hs2, hdd, hq⟩
    exact ⟨ρ3, tm2, mem2, hr2, g2.trans hs2, hdd, hq⟩
end Go.Eng

/-
  ENGINE, PART X: functions that the model itself answers: internal/abi.NoEscape, internal/bytealg.IndexByteString.
-/
set_option linter.unusedVariables false
namespace Go.Eng
open Go
variable {P : Program} {m m' : AMem}
theorem Ctr.extern {f : FuncId} {fn : Func} {e : Array Value → Sem Value} {args : List AV} {ret : AV} (hf : P.funcs[f]? = some fn) (hname : (fn.name == "runtime.NumGoroutine") = false)
    (hb : fn.body.isNone = true) (hn : Extern.findNext fn = none) (he : Extern.find fn = some e)
    (h : ∀ ρ w vs, RepM ρ m w → All2 (VR ρ) args vs → ∃ v w' ρ', (e vs.toArray).run P w = .ok v w' ∧ VR ρ' ret v ∧ RepM ρ' m' w' ∧ Step m ρ w m' ρ' w') : Ctr P f args m ret m' := fun ρ w vs hm ha => by
  obtain ⟨v, w', ρ', h1, h2, h3, h4⟩ := h ρ w vs hm ha
  refine .inr ⟨v, w', ?_, v, ρ', rfl, h2, h3, h4⟩
  rw [run_callFunc_extern hf hname hb hn he, h1]; rfl
theorem noEscape_x {f : FuncId} {fn : Func} (hf : P.funcs[f]? = some fn) (hname : (fn.name == "runtime.NumGoroutine") = false) (hb : fn.body.isNone = true) (hn : Extern.findNext fn = none) (he : Extern.find fn = some Extern.AbiNoEscape.same) (x : AV) (m : AMem) : Ctr P f [x] m x m :=
  Ctr.extern hf hname hb hn he fun ρ w vs hm ha => by
    match vs, ha with
    | [v], ha => exact ⟨v, w, ρ, Lib.run_noEscape w v, ha.1, hm, Step.refl _ _ _⟩
theorem indexByteString_x {f : FuncId} {fn : Func} (hf : P.funcs[f]? = some fn) (hname : (fn.name == "runtime.NumGoroutine") = false) (hb : fn.body.isNone = true) (hn : Extern.findNext fn = none) (he : Extern.find fn = some Extern.BytealgIndexByte.indexByte) (s : ByteArray) (c : Int) (m : AMem) :
    Ctr P f [.one (.str s), .one (.int .u8 c)] m (.one (.int .i64 (firstIdx s c.toNat.toUInt8))) m :=
  Ctr.extern hf hname hb hn he fun ρ w vs hm ha => by
    match vs, ha with
    | [u, v], ha =>
      have e1 : u = _ := ha.1
      have e2 : v = _ := ha.2.1
      subst e1; subst e2
      exact ⟨_, w, ρ, run_indexByte_string s c w, rfl, hm, Step.refl _ _ _⟩
end Go.Eng

/-
  ENGINE, PART Y: a step of a loop over a map of our own: whichever entry is left may come next. What a package-level variable holds, where memory grows.
-/
set_option linter.unusedVariables false
set_option linter.unusedSimpArgs false
namespace Go.Eng
open Go
variable {P : Program} {nt : Nat} {tm : Tm} {mem : AMem} {Q : Exit → Tm → AMem → Prop}

theorem AW.wfI {c : Code} (h : MWf mem.length mem → AW P nt c tm mem Q) : AW P nt c tm mem Q := fun ρ a w hr => h hr.mem.wf ρ a w hr

theorem gB_app {m : AMem} {g : Nat} {cs : List CV} (h : gB m g = some cs) (x : AMem) : gB (m ++ x) g = some cs := by
  unfold gB at h ⊢
  rw [List.find?_append]
  cases hf : m.find? fun b => b.kind.tag == 2 && b.ver == g + 1 && !b.cells.isEmpty with
  | none => rw [hf] at h; cases h
  | some b => rw [hf] at h; simpa using h
theorem gB_set {m : AMem} {g : Nat} {cs : List CV} (h : gB m g = some cs) {r : Nat} {b b' : Blk} (hb : m[r]? = some b) (hk : b.kind ≠ .ro) (hk' : b'.kind ≠ .ro) : gB (m.set r b') g = some cs := by
  have key : ∀ (m : AMem) (r : Nat), m[r]? = some b → ((m.set r b').find? fun b => b.kind.tag == 2 && b.ver == g + 1 && !b.cells.isEmpty) = m.find? fun b => b.kind.tag == 2 && b.ver == g + 1 && !b.cells.isEmpty := by
    intro m
    induction m with
    | nil => intro r h; simp at h
    | cons x m ih =>
      intro r h
      have hno : ∀ y : Blk, y.kind ≠ .ro → (y.kind.tag == 2) = false := fun y hy => by
        rw [beq_eq_false_iff_ne]; exact fun e => hy (BK.tag_ro.1 e)
      cases r with
      | zero =>
        simp only [List.getElem?_cons_zero, Option.some.injEq] at h
        subst h
        simp only [List.set_cons_zero, List.find?_cons, hno _ hk, hno _ hk', Bool.false_and]
      | succ r =>
        simp only [List.getElem?_cons_succ] at h
        simp only [List.set_cons_succ, List.find?_cons, ih r h]
  unfold gB at h ⊢
  rw [key m r hb]; exact h

theorem leftOf_mem {ρ : Env} {ka va : Bool} {seen : List Nat} : ∀ {es : List (Nat × List CV × List CV)} {o : List MapEntry}, All2 (entR ρ ka va) es o → ∀ {x : MapEntry}, x ∈ o → x.born ∉ seen → ∃ (j : Nat) (e : Nat × List CV × List CV), es[j]? = some e ∧ e.1 = x.born ∧ e.1 ∉ seen ∧ entR ρ ka va e x
  | [], [], _, x, h, _ => by cases h
  | e :: es, y :: o, ho, x, h, hs => by
    rcases List.mem_cons.1 h with rfl | h
    · exact ⟨0, e, rfl, ho.1.1.symm, by rw [← ho.1.1]; exact hs, ho.1⟩
    · obtain ⟨j, e', h1, h2⟩ := leftOf_mem ho.2 h hs
      exact ⟨j + 1, e', by simpa using h1, h2⟩
  | [], _ :: _, h, _, _, _ => h.elim
  | _ :: _, [], h, _, _, _ => h.elim

/-- A STEP OF A LOOP OVER A MAP. -/
theorem AW.next {id d t : Nat} {ty : TypeId} {pos : String} {af : Array Edge} {l : List Oper} (ri rm since last : Nat) (seen : List Nat) {ity iesz : Nat} {clock : Nat} {ka va : Bool} {es : List (Nat × List CV × List CV)}
    (hd : d < nt) (hl : l.all (dstOk nt) = true) (hit : Tm.get tm t = .one (.ptr ri 0 0)) (hi : mem[ri]? = some ⟨.iter rm since seen last, ity, 0, iesz, []⟩) (hm : mapAt mem rm 0 = some (ka, va, clock, es))
    (hold : ∀ e, e ∈ es → e.1 < since) (hsc : since ≤ last)
    (hMore : ∀ (j : Nat) (e : Nat × List CV × List CV), es[j]? = some e → e.1 ∉ seen → AOps P (⟨some d, .next (.tmp t) false, ty, pos, af, none⟩ :: l).toArray l ((d, .tup [(false, [.bool true]), (ka, e.2.1), (va, e.2.2)]) :: tm) (mem.set ri ⟨.iter rm since (seen ++ [e.1]) clock, ity, 0, iesz, []⟩) (Q .normal))
    (hDone : (∀ e, e ∈ es → e.1 ∈ seen) → AOps P (⟨some d, .next (.tmp t) false, ty, pos, af, none⟩ :: l).toArray l ((d, .tup [(false, [.bool false])]) :: tm) mem (Q .normal)) :
    AW P nt (.region id (⟨some d, .next (.tmp t) false, ty, pos, af, none⟩ :: l).toArray false) tm mem Q := by
  intro ρ a w hr
  refine wp_region_lit ?_
  refine wpList_plain rfl fun K hK => ?_
  unfold Oper.wp
  have hv := hr.tm t
  rw [hit] at hv
  obtain ⟨n, N, k, k', h1, h2, h3, h4, hv'⟩ := iter_sound hr.mem hi hv
  obtain ⟨b, N', kk, o, hb', hver, hkind, hcells, hρ, hvv, hheap, hall⟩ := mapAt_sound hr.mem hm (v := .map (some N)) ⟨N, k', h2, rfl⟩
  injection hvv with hvv; injection hvv with hvv; subst hvv
  have hold' : ∀ x ∈ o.toList, x.born < since := fun x hx => by
    obtain ⟨i, hi'⟩ := List.getElem?_of_mem hx
    have hlen := hall.length
    have hil : i < es.length := by rw [hlen]; exact (List.getElem?_eq_some_iff.1 hi').1
    obtain ⟨x', hx', g⟩ := hall.get (List.getElem?_eq_getElem hil)
    rw [hi'] at hx'; injection hx' with hx'; subst hx'
    rw [g.1]; exact hold _ (List.getElem_mem hil)
  have hex : ∀ r, (Instr.next (.pointer (some ⟨n, 0, none⟩)) false ty).run P w = r → (execOp a.eval ⟨some d, .next (.tmp t) false, ty, pos, af, none⟩).run P w = r.andThen fun v w' => .ok (.value v) w' := by
    intro r hr'
    have e : a.eval (.tmp t) = .pointer (some ⟨n, 0, none⟩) := hv'
    simp only [execOp, e, Sem.run_bind, hr', Sem.run_pure]
  rcases run_next_at (P := P) w ty n N since last seen.toArray o clock h3 hheap hold' hsc with ⟨h0, hrun⟩ | ⟨x, hx, w1, hw1, hrun⟩
  · rw [hex _ hrun, Result.andThen_ok, Oper.upon_value]
    refine hK _ _ ?_
    have hall0 : ∀ e, e ∈ es → e.1 ∈ seen := fun e he => by
      obtain ⟨i, hi'⟩ := List.getElem?_of_mem he
      obtain ⟨x, hx, g⟩ := hall.get hi'
      rcases Classical.em (e.1 ∈ seen) with h | h
      · exact h
      · exfalso
        have : x ∈ (leftOf o seen.toArray).toList := by
          unfold leftOf
          simp only [Array.toList_filter, List.mem_filter, Bool.not_eq_true', List.contains_toArray]
          exact ⟨List.mem_of_getElem? hx, by rw [g.1]; simpa using h⟩
        rw [Array.eq_empty_of_size_eq_zero h0] at this
        cases this
    have hr1 : Rep ρ nt ((d, .tup [(false, [.bool false])]) :: tm) mem (a.put (some d) (.tuple #[.bool false])) w := hr.put hd ⟨_, rfl, rfl, trivial⟩
    exact aops_sound l _ _ _ hl (hDone hall0) ρ _ w _ hr1 fun ρ' tm' mem' a' w' r s dd k => ⟨ρ', tm', mem', r, s, dd, k⟩
  · rw [hex _ hrun, Result.andThen_ok, Oper.upon_value]
    refine hK _ _ ?_
    have hxo : x ∈ o.toList ∧ x.born ∉ seen := by
      unfold leftOf at hx
      simp only [Array.toList_filter, List.mem_filter, Bool.not_eq_true', List.contains_toArray] at hx
      exact ⟨hx.1, by simpa using hx.2⟩
    obtain ⟨j, e, g1, g2, g3, g4⟩ := leftOf_mem hall hxo.1 hxo.2
    have hw : w1.heap = w.heap ∧ w1.os = w.os ∧ w1.tape = w.tape ∧ w1.output = w.output := by rcases hw1 with rfl | rfl <;> exact ⟨rfl, rfl, rfl, rfl⟩
    have hnl : n < w.heap.size := (Array.getElem?_eq_some_iff.1 h3).1
    have hbk : BlkR ρ (ChangeMaps.setBlock w1 n (.mapIter (some N) since (seen.toArray.push x.born) clock)) ri ⟨.iter rm since (seen ++ [e.1]) clock, ity, 0, iesz, []⟩ := by
      refine ⟨n, N, k, k', h1, h2, ?_, rfl⟩
      show (w1.heap.setIfInBounds n _)[n]? = _
      rw [hw.1, Array.getElem?_setIfInBounds_self_of_lt hnl, g2]
      simp
    obtain ⟨q1, q2⟩ := hr.mem.turn (w' := ChangeMaps.setBlock w1 n (.mapIter (some N) since (seen.toArray.push x.born) clock)) hi (by simp) h1 ⟨.iter rm since (seen ++ [e.1]) clock, ity, 0, iesz, []⟩ rfl rfl (by
        intro m hmn
        show (w1.heap.setIfInBounds n _)[m]? = _
        rw [hw.1, Array.getElem?_setIfInBounds_ne (fun e => hmn e.symm)]) (by show (w1.heap.setIfInBounds n _).size = _; rw [hw.1]; simp) hw.2.1 hw.2.2.1 hw.2.2.2 hbk
    have hr1 : Rep ρ nt ((d, .tup [(false, [.bool true]), (ka, e.2.1), (va, e.2.2)]) :: tm) (mem.set ri ⟨.iter rm since (seen ++ [e.1]) clock, ity, 0, iesz, []⟩) (a.put (some d) (.tuple #[.bool true, x.key, x.val])) (ChangeMaps.setBlock w1 n (.mapIter (some N) since (seen.toArray.push x.born) clock)) :=
      (hr.step q2 q1).put hd ⟨_, rfl, rfl, g4.2.1, g4.2.2.1, trivial⟩
    exact aops_sound l _ _ _ hl (hMore j e g1 g3) ρ _ _ _ hr1 fun ρ' tm' mem' a' w' r s dd k => ⟨ρ', tm', mem', r, q2.trans s, dd, k⟩
end Go.Eng

/-
  ENGINE, PART Z: a law whose row lists package-level variables: what they hold is a read-only block ahead of the arguments.
-/
set_option linter.unusedVariables false
set_option linter.unusedSimpArgs false
namespace Go.Eng
open Go Go.RowKit Go.ChangeShapes Go.WideShapes

section
variable {P : Program} {B : Nat} {H : Type} {enc : TypeId × Value → H} {W : World} {bulk : DataW H → Nat}

/-- The cells that a reading tells, where it tells all. -/
def exactCV (P : Program) {H : Type} : Nat → TypeId → DataW H → Option (List CV)
  | 0, _, _ => none
  | n + 1, t, d => match P.underlying t with
    | some .bool => match d with | .lit (.bool b) => some [.bool b] | _ => none
    | some (.int k) => match d with | .lit (.int k' x) => if k' = k then some [.int k x] else none | _ => none
    | some .string => match d with | .lit (.string s) => some [.str ⟨s.toArray⟩] | _ => none
    | some (.array _ e) => match d with | .agg ds => (ds.mapM (exactCV P n e)).map List.flatten | _ => none
    | _ => none

theorem exact_chunks {α : Type} {e : TypeId} {n fuel sz : Nat} {f : TypeId → List Value → Option (DataW α × List MemPlace)} {ρ : Env} :
    ∀ (l : List Nat) (cs : List Value) (xs : List (DataW α × List MemPlace)) (cvs : List (List CV)),
    All2 (fun i x => f e ((cs.drop (i * sz)).take sz) = some x) l xs → All2 (fun d cv => exactCV P n e d = some cv) (xs.map (·.1)) cvs →
    (∀ c d p cv, f e c = some (d, p) → exactCV P n e d = some cv → All2 (VC ρ) cv c) →
    All2 (fun cv c => All2 (VC ρ) cv c) cvs (l.map fun i => (cs.drop (i * sz)).take sz)
  | [], cs, [], [], _, _, _ => trivial
  | i :: l, cs, x :: xs, cv :: cvs, h1, h2, h3 => ⟨h3 _ x.1 x.2 _ h1.1 h2.1, exact_chunks (fuel := fuel) l cs xs cvs h1.2 h2.2 h3⟩
  | [], _, _ :: _, _, h, _, _ => h.elim
  | _ :: _, _, [], _, h, _, _ => h.elim
  | [], _, [], _ :: _, _, h, _ => h.elim
  | _ :: _, _, _ :: _, [], _, h, _ => h.elim

theorem exact_ok (hl : laidB P = true) {ρ : Env} {sp : Nat → Bool} {held : Bool} : ∀ (n fuel : Nat) (t : TypeId) (cs : List Value) (d : DataW H) (p : List MemPlace) (cv : List CV), t < P.types.size →
    DataW.trod enc P W 0 sp held fuel t cs = some (d, p) → exactCV P n t d = some cv → All2 (VC ρ) cv cs
  | 0, _, _, _, _, _, _, _, _, h => by simp [exactCV] at h
  | n + 1, 0, _, _, _, _, _, _, h, _ => by simp [DataW.trod] at h
  | n + 1, fuel + 1, t, cs0, d, p, cv, hlt, h, he => by
    unfold DataW.trod at h
    split at h
    · rename_i b ht
      simp only [Option.some.injEq, Prod.mk.injEq] at h
      obtain ⟨rfl, rfl⟩ := h
      simp only [exactCV, ht, Option.some.injEq] at he
      subst he
      exact ⟨rfl, trivial⟩
    · rename_i k k' a ht
      split at h
      · rename_i hk
        simp only [Option.some.injEq, Prod.mk.injEq] at h
        obtain ⟨rfl, rfl⟩ := h
        simp only [exactCV, ht, if_true, Option.some.injEq] at he
        subst he
        obtain ⟨rfl, _⟩ := hk
        exact ⟨rfl, trivial⟩
      · cases h
    · rename_i ht
      simp only [exactCV, ht] at he
      cases he
    · rename_i s ht
      split at h
      · simp only [Option.some.injEq, Prod.mk.injEq] at h
        obtain ⟨rfl, rfl⟩ := h
        simp only [exactCV, ht, Option.some.injEq] at he
        subst he
        exact ⟨rfl, trivial⟩
      · cases h
    all_goals first
      | (rename_i ht; simp only [exactCV, ht] at he; cases he; done)
      | (rename_i ht _; simp only [exactCV, ht] at he; cases he; done)
      | (rename_i ht _ _; simp only [exactCV, ht] at he; cases he; done)
      | (cases h; done)
      | skip
    · rename_i cs0 _ _ k e ht
      split at h
      · rename_i hcl
        obtain ⟨xs, hx, h⟩ := Option.map_eq_some_iff.1 h
        simp only [Prod.mk.injEq] at h
        obtain ⟨rfl, rfl⟩ := h
        have h2 := mapM_all2 hx
        have hsz := laid_array hl hlt ht
        simp only [exactCV, ht] at he
        obtain ⟨cvs, hc, rfl⟩ := Option.map_eq_some_iff.1 he
        have h3 := mapM_all2 hc
        have hcl2 : cs0.length = k * P.cellsOf e := by omega
        have := All2_flatten (exact_chunks (P := P) (n := n) (fuel := fuel) (f := fun e c => DataW.trod enc P W 0 sp held fuel e c) (ρ := ρ) (e := e) (List.range k) cs0 xs cvs h2 h3
          (fun c d p cv h1 h2 => exact_ok hl n fuel e c d p cv hsz.2 h1 h2))
        rwa [chunks_flat k cs0 hcl2] at this
      · cases h

/-- A LAW THAT ANSWERS TRUE, whose row lists one package-level variable: its cells are a read-only block. -/
theorem law_true_laid {f : FuncId} {fn : Func} {s : ChangeSpec} {args : Array Value} {ds gs : List (DataW H)} {before : List MemPlace} {tb : TypeId} {base : Nat} (hvars : s.vars = [])
    {nm : String} {dv : DataW Unit} {gv : Nat} {tv : TypeId} {cvv : List CV} {fuelv : Nat} (hlaid : laidMetH P [(nm, dv)] W) (hplain : dv.handleName?.isNone = true) (hg : P.globalNamed nm = some gv) (htv : (P.globals[gv]?).map (·.type) = some tv)
    (hcv : exactCV P fuelv tv dv = some cvv) (hne : cvv.isEmpty = false) (htv2 : tv < P.types.size)
    (hs : ∀ l : List (DataW H), l = ds → s.fn H l = { results := [.lit (.bool true)], args := l }) (hl : laidOutB P = true) (hlb : laidB P = true) (hread : fn.params.toList.all (fun t => P.readableRec t && decide (t < P.types.size)) = true)
    (hres : fn.resultTypes = #[tb]) (htb : P.underlying tb = some .bool) (hb : IsBulk bulk) (hk : ∀ d, d ∈ ds → bulk d ≤ B)
    (hval : ∀ (j : Nat) t v, fn.params[j]? = some t → args[j]? = some v → Value.okWide P W .any base t v)
    (hW : DataW.Whole enc P fn.params.toList s.vars false W args.toList ds gs before)
    (hlaw : ∀ m avs, AllRo m → gB m gv = some cvv → All2 (fun t a => goodA P B m t a) fn.params.toList avs → Ctr P f avs m (.one (.bool true)) m) (hbod : Bodied P f := by exact ⟨_, rfl, rfl, rfl⟩) :
    Calls P f args W fun e W' => ∃ v, e = .returned v ∧ s.post enc P fn false true false false W args v W' := by
  have hread' : ∀ t, t ∈ fn.params.toList → P.readableRec t = true ∧ t < P.types.size := fun t ht => by
    have := List.all_eq_true.1 hread t ht
    simpa using this
  obtain ⟨p, q, hA, hV, he, hz, hn⟩ := id hW
  rw [MakeChecks.laidMetH_plain _ _ _ (by simpa using hplain)] at hlaid
  obtain ⟨ps, hlv, _, _⟩ := hlaid
  obtain ⟨g', t', cs, fuel, p', q', e1, e2, e3, e4, _, _⟩ := hlv
  rw [hg] at e1; injection e1 with e1; subst e1
  rw [htv] at e2; injection e2 with e2; subst e2
  have h0 : RepM (fun _ _ => none) [] W := ⟨fun r b h => by simp at h, fun _ _ _ => rfl, fun r b v h => by simp at h, fun r s b c h => by simp at h⟩
  have hex : ∀ ρ : Env, All2 (VC ρ) cvv cs.toList := fun ρ => exact_ok hlb fuelv fuel tv cs.toList dv p' cvv htv2 e4 hcv
  have hheap : ∃ t z, W.heap[gv]? = some (.cells cs t z) := by
    unfold World.var? at e3
    rw [hg] at e3
    simp only [Option.bind_some] at e3
    split at e3
    · rename_i cs' t z hh
      injection e3 with e3; subst e3
      exact ⟨t, z, hh⟩
    · cases e3
  obtain ⟨th, zh, hh⟩ := hheap
  obtain ⟨q1, q2, q3⟩ := h0.roBlkV (fun b h => by cases h) (gv + 1) (some ⟨gv, 0, none⟩) 0 tv 0 cvv (fun _ => by
    refine ⟨⟨gv, 0, none⟩, rfl, (Array.getElem?_eq_some_iff.1 hh).1, fun _ => ⟨rfl, cs, th, zh, hh, by rw [← Array.length_toList]; exact (hex (fun _ _ => none)).length.symm⟩, fun i c hi => ?_⟩
    obtain ⟨v, hv, hvv⟩ := (hex (fun _ _ => none)).get hi
    refine ⟨v, ?_, hvv⟩
    have e : (⟨gv, 0, none⟩ : Addr).add i = ⟨gv, i, none⟩ := by
      unfold Addr.add
      by_cases hi0 : i = 0
      · subst hi0; rfl
      · rw [if_neg hi0]; simp
    rw [e]
    unfold World.cell?
    rw [hh]
    simpa using hv)
  obtain ⟨ρ, ex, avs, k1, k2, k3, k4, k5⟩ := read_args hlb hb (base := base) _ _ _ _ hA (fun i t v h1 h2 => hval i t v (by simpa using h1) (by simpa using h2)) hk (fun t ht => (hread' t ht).2) _ _ q2 q3
  have hgb : gB ([] ++ [(⟨.ro, tv, gv + 1, 0, cvv⟩ : Blk)] ++ ex) gv = some cvv := gB_app (by
    unfold gB
    simp [BK.tag, hne]) ex
  have hc := (hlaw _ avs k2 hgb k5 ρ W _ k1 k4).calls hbod
  rw [show args.toList.toArray = args by simp] at hc
  refine hc.mono fun e W' ⟨v, ρ', e1, hv, hm, hst⟩ => ?_
  have hv' : v = .bool true := hv
  subst e1; subst hv'
  exact ⟨_, rfl, post_true hvars hs hl hread' hres htb hW (hst.below k2)⟩
end
end Go.Eng

/-
  ENGINE, PART Sh: contracts of the library's shelf, as contracts of the engine: a row of our own that is sorted in place.
-/
set_option linter.unusedVariables false
set_option linter.unusedSimpArgs false
namespace Go.Eng
open Go

/-- A world with more blocks, and draws. -/
theorem RepM.ext {ρ : Env} {mem : AMem} {w w' : World} (h : RepM ρ mem w) (hos : w'.os = w.os) (htape : w'.tape = w.tape) (hout : w'.output = w.output) (hsize : w.heap.size ≤ w'.heap.size)
    (hheap : ∀ k, k < w.heap.size → w'.heap[k]? = w.heap[k]?) : RepM ρ mem w' ∧ Step mem ρ w mem ρ w' :=
  ⟨⟨fun r b hb => (h.blk r b hb).heap hsize fun x k _ _ hx => hheap _ hx, h.dom, h.domv, h.sep⟩,
   ⟨hos, htape, hout, hsize, Nat.le_refl _, fun _ _ _ _ h => h, fun r b b' h1 h2 => by rw [h1] at h2; injection h2 with h2; rw [h2], fun r b h1 _ => h1, fun n hn _ => hheap n hn, fun r b x k h1 h2 h3 => .inr ⟨r, b, x, k, h1, h2, h3, rfl⟩⟩⟩

theorem holds_of {ρ : Env} {w : World} {n : Nat} {c : Array Value} {ty : TypeId} {esz : Nat} (h : RowAt w n c ty esz) {xs sp : List Value} (hc : c.toList = xs ++ sp) : Sort.Holds id w n 0 xs.toArray := by
  obtain ⟨fz, hfz, hh⟩ := h
  intro j hj
  have hjl : j < xs.length := by simpa using hj
  have hx : c[j]? = some xs[j] := by
    rw [← Array.getElem?_toList, hc, List.getElem?_append_left hjl, List.getElem?_eq_getElem hjl]
  have hjc : j < c.size := (Array.getElem?_eq_some_iff.1 hx).1
  refine ⟨?_, ?_⟩
  · simp only [World.cell?, hh, Option.isSome_none, Bool.false_eq_true, if_false, Nat.zero_add, hx]
    simp [hjl]
  · simp only [World.frozen?, hh, Nat.zero_add]
    rcases hfz with rfl | rfl
    · simp
    · unfold fzOf; split
      · simp; omega
      · simp
theorem putRow_at {w : World} {n : Nat} {c : Array Value} {ty : TypeId} {esz : Nat} (h : RowAt w n c ty esz) {xs sp ys : List Value} (hc : c.toList = xs ++ sp) (hl : ys.length = xs.length) (k : Nat) (os : Array Obj) :
    ∃ c' : Array Value, RowAt (Sort.grow (Sort.putRow id (Sort.ahead w k) n 0 ys.toArray) os) n c' ty esz ∧ c'.size = c.size ∧ c'.toList = ys ++ sp := by
  obtain ⟨fz, hfz, hh⟩ := h
  have hlt : n < w.heap.size := (Array.getElem?_eq_some_iff.1 hh).1
  refine ⟨Sort.putCells id 0 ys.toArray c, ⟨fz, by simpa [Sort.putCells] using hfz, ?_⟩, by simp [Sort.putCells], ?_⟩
  · rw [Sort.heap_grow_old _ _ (by simpa using hlt)]
    show ((w.heap.modify n _)[n]?) = _
    rw [Array.getElem?_modify, if_pos rfl, hh]
    rfl
  · have hcs : c.size = xs.length + sp.length := by rw [← Array.length_toList, hc, List.length_append]
    refine List.ext_getElem? fun j => ?_
    rw [Array.getElem?_toList]
    simp only [Sort.putCells, Array.getElem?_mapIdx, Nat.zero_le, true_and, Nat.zero_add, Nat.sub_zero, List.size_toArray]
    rcases Nat.lt_or_ge j ys.length with hj | hj
    · have hjc : j < c.size := by omega
      rw [Array.getElem?_eq_getElem hjc, List.getElem?_append_left hj]
      simp [hj]
    · rw [List.getElem?_append_right hj]
      have : c[j]? = (xs ++ sp)[j]? := by rw [← hc, Array.getElem?_toList]
      rw [this, List.getElem?_append_right (by omega), hl]
      cases sp[j - xs.length]? with
      | none => rfl
      | some v => rw [Option.map_some, if_neg (by omega)]

/-- A row of our own whose cells turn in place, in a world with more blocks, and draws. -/
theorem RepM.rowIn {ρ : Env} {mem : AMem} {w : World} (hm : RepM ρ mem w) {r ty ver esz cap n : Nat} {cs cs' : List CV} (hb : mem[r]? = some ⟨.grow, ty, ver, esz, cs⟩) (hρ : ρ r ver = some (some ⟨n, 0, none⟩, cap)) {c : Array Value} {xs sp ys : List Value}
    (hrow : RowAt w n c ty esz) (hsz : c.size = cap * unitOf esz) (hcm : cap ≤ maxLen) (hc : c.toList = xs ++ sp) (hl : ys.length = xs.length) (hys : All2 (VC ρ) cs' ys) (k : Nat) (os : Array Obj) :
    RepM ρ (mem.set r ⟨.grow, ty, ver, esz, cs'⟩) (Sort.grow (Sort.putRow id (Sort.ahead w k) n 0 ys.toArray) os) ∧ Step mem ρ w (mem.set r ⟨.grow, ty, ver, esz, cs'⟩) ρ (Sort.grow (Sort.putRow id (Sort.ahead w k) n 0 ys.toArray) os) := by
  obtain ⟨c1, g1, g2, g3⟩ := putRow_at hrow hc hl k #[]
  rw [Sort.grow_empty] at g1
  obtain ⟨a1, a2⟩ := hm.turn (w' := Sort.putRow id (Sort.ahead w k) n 0 ys.toArray) hb (by simp) hρ ⟨.grow, ty, ver, esz, cs'⟩ rfl rfl (fun m hmn => by
      show ((w.heap.modify n _)[m]?) = _
      rw [Array.getElem?_modify, if_neg (fun e => hmn e.symm)]) (by simp) rfl rfl rfl
    (.inr ⟨n, c1, cap, ys, sp, hρ, g1, by rw [g2]; exact hsz, hcm, g3, hys⟩)
  obtain ⟨b1, b2⟩ := a1.ext (w' := Sort.grow (Sort.putRow id (Sort.ahead w k) n 0 ys.toArray) os) rfl rfl rfl (by simp [Sort.grow]) (fun k hk => Sort.heap_grow_old _ _ hk)
  exact ⟨b1, a2.trans b2⟩

theorem holds_map {w : World} {b o : Nat} {zs : List Int} (h : Sort.Holds id w b o (zs.map (Value.int .i64)).toArray) : Sort.Holds (Value.int .i64) w b o zs.toArray := fun j hj => by
  have hj' : j < zs.length := by simpa using hj
  have := h j (by simpa using hj')
  simpa [hj'] using this
theorem putCells_map (d : List Int) (c : Array Value) : Sort.putCells (Value.int .i64) 0 d.toArray c = Sort.putCells id 0 (d.map (Value.int .i64)).toArray c := by
  unfold Sort.putCells
  congr 1
  funext k x
  simp only [Nat.zero_le, true_and, Nat.zero_add, Nat.sub_zero, List.size_toArray, List.length_map]
  by_cases h : k < d.length
  · rw [if_pos h, if_pos h]; simp [h]
  · rw [if_neg h, if_neg h]
theorem all2_ints {ρ : Env} : ∀ {zs : List Int} {xs : List Value}, All2 (VC ρ) (zs.map (CV.int .i64)) xs → xs = zs.map (Value.int .i64)
  | [], [], _ => rfl
  | z :: zs, x :: xs, h => by
    have h1 : x = .int .i64 z := h.1
    rw [List.map_cons, h1, all2_ints h.2]
  | [], _ :: _, h => h.elim
  | _ :: _, [], h => h.elim
theorem all2_ints' {ρ : Env} : ∀ {zs : List Int}, All2 (VC ρ) (zs.map (CV.int .i64)) (zs.map (Value.int .i64))
  | [] => trivial
  | z :: zs => ⟨rfl, all2_ints'⟩
abbrev SortsInts (P : Program) (f : FuncId) : Prop := ∀ (blk off cap : Nat) (zs : List Int) (w : World), Sort.Holds (Value.int .i64) w blk off zs.toArray → blk < w.heap.size → zs.length < 4611686018427387904 →
    Calls P f #[.slice (some ⟨blk, off, none⟩) zs.length cap] w fun e w' =>
      e = .returned (.tuple #[]) ∧ ∃ n os, w' = Sort.grow (Sort.putRow (Value.int .i64) (Sort.ahead w n) blk off (zs.mergeSort fun x y => decide (x ≤ y)).toArray) os
abbrev SortsNone (P : Program) (f : FuncId) : Prop := ∀ (p : Option Addr) (cap : Nat) (w : World), Calls P f #[.slice p 0 cap] w fun e w' => e = .returned (.tuple #[]) ∧ w' = w
def srt (zs : List Int) : List Int := zs.mergeSort fun x y => decide (x ≤ y)
/-- slices.Sort of ints, at a row of our own. -/
theorem Ctr.sortInts {P : Program} {f : FuncId} (hb : Bodied P f) (h1 : SortsInts P f) (h0 : SortsNone P f) {mem : AMem} {r ty ver : Nat} {zs : List Int} (hr : mem[r]? = some ⟨.grow, ty, ver, 1, zs.map (CV.int .i64)⟩) (hlen : zs.length ≤ 140737488355328) (n : Nat) (hn : n = zs.length) :
    Ctr P f [.one (.sl r ver 0 n)] mem (.tup []) (mem.set r ⟨.grow, ty, ver, 1, (srt zs).map (CV.int .i64)⟩) := by
  subst hn
  intro ρ w vs hm ha
  obtain ⟨A, c0, B, c, hρ, rfl, hlc, hB, h00⟩ : ∃ A c0 B c, ρ r ver = some (A, c0) ∧ vs = [.slice B zs.length c] ∧ zs.length ≤ c ∧ (0 < zs.length → ∃ a, A = some a ∧ B = some (a.add 0)) ∧ (0 = 0 → B = A ∧ c = c0) := by
    match vs, ha with
    | [v], ha =>
      obtain ⟨A, c0, B, c, q1, rfl, q2, q3, q4⟩ := ha.1
      exact ⟨A, c0, B, c, q1, rfl, q2, q3, q4⟩
  obtain ⟨rfl, rfl⟩ := h00 rfl
  have hbk := hm.blk r _ hr
  simp only [BlkR] at hbk
  refine .inl ⟨hb, ?_⟩
  by_cases hz : zs.length = 0
  · have hzs : zs = [] := List.eq_nil_of_length_eq_zero hz
    subst hzs
    have hsame : mem.set r ⟨.grow, ty, ver, 1, (srt []).map (CV.int .i64)⟩ = mem := set_self (by simpa [srt] using hr)
    rw [hsame]
    refine (h0 B c w).mono ?_
    rintro e w' ⟨rfl, rfl⟩
    exact ⟨_, ρ, rfl, ⟨#[], rfl, trivial⟩, hm, Step.refl _ _ _⟩
  · obtain ⟨a, rfl, _⟩ := hB (by omega)
    rcases hbk with ⟨q1, q2⟩ | ⟨g, cc, cap, xs, sp, q1, q2, q3, q4, q5, q6⟩
    · rw [q2] at hρ; injection hρ with hρ; injection hρ with hρ _; cases hρ
    · rw [q1] at hρ; injection hρ with hρ; injection hρ with e1 e2
      injection e1 with e1
      subst e1; subst e2
      have hxs := all2_ints q6
      subst hxs
      have hH := holds_map (holds_of q2 (ρ := ρ) q5)
      refine (h1 g 0 cap zs w hH q2.lt (by omega)).mono ?_
      rintro e w' ⟨rfl, n, os, rfl⟩
      have hpl : (srt zs).length = zs.length := by unfold srt; rw [List.length_mergeSort]
      have hw : Sort.putRow (Value.int .i64) (Sort.ahead w n) g 0 (zs.mergeSort fun x y => decide (x ≤ y)).toArray = Sort.putRow id (Sort.ahead w n) g 0 ((srt zs).map (Value.int .i64)).toArray := by
        unfold Sort.putRow
        congr 1
        funext c
        exact putCells_map _ c
      rw [hw]
      obtain ⟨g1, g2⟩ := hm.rowIn hr q1 q2 q3 q4 q5 (by simp [hpl]) (all2_ints' (zs := srt zs)) n os
      exact ⟨_, ρ, rfl, ⟨#[], rfl, trivial⟩, g1, g2⟩

/-- slices.Sorted of a map's keys, as the shelf says it. -/
abbrev SortedKeys (P : Program) (f g : FuncId) (kt et : TypeId) : Prop := ∀ (Bm b nn : Nat) (D0 : DataW Nat) (w : World), Bm < w.heap.size → w.cell? ⟨Bm, 0, none⟩ = some (.map (some b)) → w.ownsMap P kt (fun _ => some (.nil, [])) b nn D0 →
    Maps.size D0 ≤ maxLen → Maps.size D0 * 8 ≤ 140737488355328 → Calls P f #[.func (.func g) #[] #[.pointer (some ⟨Bm, 0, none⟩)]] w fun e w' => ∃ (v : Value) (ss : List Int), e = .returned v ∧ ss.Perm (intKeys D0) ∧
      w'.ownsRow w.heap.size et 1 v ss.length ((ss.mergeSort fun x y => decide (x ≤ y)).map encZ) ∧ RowKit.Below w.heap.size w w'
theorem Ctr.sortedKeys {P : Program} {f g : FuncId} {kt et : TypeId} (hb : Bodied P f) (hs : SortedKeys P f g kt et) (hkt : P.underlying kt = some (.int .i64)) {mem : AMem} {rb tb eb rm clock : Nat} {va : Bool} {es : List (Nat × List CV × List CV)}
    (hbx : mem[rb]? = some ⟨.fix, tb, 0, eb, [.mp rm 0]⟩) (hmp : mapAt mem rm 0 = some (false, va, clock, es)) (ks : List Int) (hks : es.map (·.2.1) = ks.map fun k => [CV.int .i64 k]) (hbnd : ∀ k, k ∈ ks → -9223372036854775808 ≤ k ∧ k ≤ 9223372036854775807) (hnk : ks.Nodup)
    (hold : ∀ e, e ∈ es → e.1 < clock) (hnb : (es.map (·.1)).Nodup) (hlen : ks.length ≤ 17592186044416) (n : Nat) (hn : n = ks.length) :
    Ctr P f [.one (.fn g [(rb, 0, 0)])] mem (.one (.sl mem.length 0 0 n)) (mem ++ [⟨.grow, et, 0, 1, (srt ks).map (CV.int .i64)⟩]) := by
  subst hn
  intro ρ w vs hm ha
  obtain ⟨a, kk, hρ, rfl⟩ : ∃ a kk, ρ rb 0 = some (some a, kk) ∧ vs = [.func (.func g) #[] #[.pointer (some (a.add 0))]] := by
    match vs, ha with
    | [v], ha =>
      obtain ⟨us, rfl, hu⟩ := ha.1
      obtain ⟨l⟩ := us
      match l, hu with
      | [x], hu =>
        obtain ⟨a, k, q1, rfl⟩ := hu.1
        exact ⟨a, k, q1, rfl⟩
  have hbk := hm.blk rb _ hbx
  simp only [BlkR] at hbk
  obtain ⟨nb, c, k, q1, q2, q3, q4⟩ := hbk
  rw [q1] at hρ; injection hρ with hρ; injection hρ with e1 e2; injection e1 with e1; subst e1; subst e2
  obtain ⟨l⟩ := c
  match l, q3 with
  | [x], q3 =>
    obtain ⟨N, kN, q5, rfl⟩ := q3.1
    obtain ⟨b, N', kk, o, hb', hver, hkind, hcells, hρ', hvv, hheap, hall⟩ := mapAt_sound hm hmp (v := .map (some N)) ⟨N, kN, q5, rfl⟩
    injection hvv with hvv; injection hvv with hvv; subst hvv
    have hkey : ∀ (j : Nat) (x : MapEntry), o.toList[j]? = some x → ∃ kx, ks[j]? = some kx ∧ x.key = .int .i64 kx ∧ ∃ e, es[j]? = some e ∧ x.born = e.1 := by
      intro j x hx
      have hj : j < es.length := by rw [hall.length]; exact (List.getElem?_eq_some_iff.1 hx).1
      obtain ⟨x', hx', g⟩ := hall.get (List.getElem?_eq_getElem hj)
      rw [hx] at hx'; injection hx' with hx'; subst hx'
      have h1 : (es.map (·.2.1))[j]? = some (es[j].2.1) := by rw [List.getElem?_map, List.getElem?_eq_getElem hj]; rfl
      rw [hks, List.getElem?_map] at h1
      obtain ⟨kx, h2, h3⟩ := Option.map_eq_some_iff.1 h1
      have g2 := g.2.1
      rw [← h3] at g2
      exact ⟨kx, h2, g2, _, List.getElem?_eq_getElem hj, g.1⟩
    have hol : o.toList.length = ks.length := by
      rw [← hall.length]
      have := congrArg List.length hks
      simpa using this
    have hborn : o.toList.map (·.born) = es.map (·.1) := by
      refine List.ext_getElem? fun j => ?_
      simp only [List.getElem?_map]
      cases hx : o.toList[j]? with
      | none =>
        rw [List.getElem?_eq_none_iff] at hx
        rw [List.getElem?_eq_none (by rw [hall.length]; exact hx)]; rfl
      | some x =>
        obtain ⟨kx, _, _, e, h4, h5⟩ := hkey j x hx
        rw [h4]; simp [h5]
    have hkeys : o.toList.map (·.key) = ks.map (Value.int .i64) := by
      refine List.ext_getElem? fun j => ?_
      simp only [List.getElem?_map]
      cases hx : o.toList[j]? with
      | none =>
        rw [List.getElem?_eq_none_iff] at hx
        rw [List.getElem?_eq_none (by omega)]; rfl
      | some x =>
        obtain ⟨kx, h4, h5, _⟩ := hkey j x hx
        rw [h4]; simp [h5]
    have hrd : ∀ x, x ∈ o.toList → ∃ kx, kx ∈ ks ∧ x.key = .int .i64 kx ∧ WideElems.rd P kt (fun _ => some (DataW.nil (H := Nat), [])) x = some (.int .i64 kx, .nil) := by
      intro x hx
      obtain ⟨j, hj⟩ := List.getElem?_of_mem hx
      obtain ⟨kx, h4, h5, _⟩ := hkey j x hj
      have hmem := List.mem_of_getElem? h4
      have := hbnd kx hmem
      refine ⟨kx, hmem, h5, ?_⟩
      have hwf : (Lit.int .i64 kx).wf = true := by simp [Lit.wf, IntKind.min, IntKind.max, IntKind.signed, IntKind.bits]; omega
      simp [WideElems.rd, h5, Maps.keyOf_int_mk hkt hwf]
    have hown : w.ownsMap P kt (fun _ => some (DataW.nil (H := Nat), [])) N o.size (.map ((o.toList.map (WideElems.rg P kt (fun _ => some (DataW.nil, [])))).foldr DataW.insert [])) := by
      refine ⟨o, clock, hheap, ⟨?_, ⟨fun x hx => ?_, ?_, ?_⟩, fun x hx => ?_⟩, Nat.le_refl _, rfl⟩
      · rw [← Array.length_toList, hol]; unfold maxLen; omega
      · have : x.born ∈ es.map (·.1) := by rw [← hborn]; exact List.mem_map_of_mem hx
        obtain ⟨e, he, h1⟩ := List.mem_map.1 this
        rw [← h1]; exact hold e he
      · rw [hborn]; exact hnb
      · rw [hkeys]; exact List.pairwise_map.2 (hnk.imp fun hne e => hne (by injection e))
      · obtain ⟨kx, _, _, h⟩ := hrd x hx; exact ⟨_, h⟩
    have hperm : (intKeys (DataW.map (H := Nat) ((o.toList.map (WideElems.rg P kt (fun _ => some (DataW.nil, [])))).foldr DataW.insert []))).Perm ks := by
      have h1 := (WideShapes.sorted_perm (H := Nat) (o.toList.map (WideElems.rg P kt (fun _ => some (DataW.nil, []))))).map fun p => intOf p.1
      refine h1.trans ?_
      rw [List.map_map]
      have h2 : o.toList.map ((fun p => intOf p.1) ∘ WideElems.rg P kt (fun _ => some (DataW.nil (H := Nat), []))) = ks := by
        refine List.ext_getElem? fun j => ?_
        rw [List.getElem?_map]
        cases hx : o.toList[j]? with
        | none =>
          rw [List.getElem?_eq_none_iff] at hx
          rw [List.getElem?_eq_none (by omega)]; rfl
        | some x =>
          obtain ⟨kx, h4, h5, _⟩ := hkey j x hx
          obtain ⟨ky, _, h6, h7⟩ := hrd x (List.mem_of_getElem? hx)
          rw [h5] at h6; injection h6 with _ h6; subst h6
          rw [h4]
          simp [WideElems.rg, h7, intOf]
      rw [h2]
    have hsz : Maps.size (DataW.map (H := Nat) ((o.toList.map (WideElems.rg P kt (fun _ => some (DataW.nil, [])))).foldr DataW.insert [])) = ks.length := by
      have := (WideShapes.sorted_perm (H := Nat) (o.toList.map (WideElems.rg P kt (fun _ => some (DataW.nil, []))))).length_eq
      rw [List.length_map, hol] at this
      exact this
    refine .inl ⟨hb, (hs nb N o.size _ w (Array.getElem?_eq_some_iff.1 q2).1 (by simp [World.cell?, q2]) hown (by rw [hsz]; unfold maxLen; omega) (by rw [hsz]; omega)).mono ?_⟩
    rintro e w' ⟨v, ss, rfl, hp, hrow, hbel⟩
    have hss : ss.mergeSort (fun x y => decide (x ≤ y)) = srt ks := mergeSort_of_perm_i (hp.trans hperm)
    rw [hss, (hp.trans hperm).length_eq] at hrow
    obtain ⟨A, cap, rfl, hnc, hA, hAb, hbr⟩ := blk_of_owns (r := mem.length) (ver := 0) hrow (by omega) (all2_ints' (ρ := ρ) (zs := srt ks))
    have hle : ρ.le (ρ.set mem.length 0 (A, cap)) := Env.le_set (hm.dom _ _ (Nat.le_refl _))
    have hbase : ∀ x, A = some x → w.heap.size ≤ x.block := by
      rintro x rfl
      rcases hrow.2 with ⟨h, _⟩ | ⟨g', cap', cur, h, hbg, _⟩
      · cases h
      · injection h with h; injection h with h; rw [h]; exact hbg
    obtain ⟨g1, g2⟩ := hm.new' (w' := w') hbel.os hbel.tape hbel.output hbel.size hbel.block ⟨.grow, et, 0, 1, (srt ks).map (CV.int .i64)⟩ A cap hbase (by simp) (hbr _ (fun _ _ => VC.mono hle) (Env.set_same _ _ _ _))
    refine ⟨_, _, rfl, ⟨A, cap, A, cap, Env.set_same _ _ _ _, rfl, hnc, fun hpos => ?_, fun _ => ⟨rfl, rfl⟩⟩, g1, g2⟩
    cases A with
    | none => have := (hA rfl).2; omega
    | some a => exact ⟨a, rfl, by simp [Addr.add]⟩
end Go.Eng

/-
  ENGINE, PART Zb: a law whose row lists two package-level variables that are read; contracts of strconv.Itoa, strconv.Atoi (off the shelf) and of internal/bytealg.IndexByte at rows.
-/
set_option linter.unusedVariables false
set_option linter.unusedSimpArgs false
namespace Go.Eng
open Go Go.RowKit Go.ChangeShapes Go.WideShapes

section
variable {P : Program} {B : Nat} {H : Type} {enc : TypeId × Value → H} {W : World} {bulk : DataW H → Nat}
/-- What a package-level variable holds. -/
structure RoFact (W : World) (g : Nat) (cvv : List CV) : Prop where
  ne : cvv.isEmpty = false
  at_ : ∃ cs t z, W.heap[g]? = some (.cells cs t z) ∧ ∀ ρ : Env, All2 (VC ρ) cvv cs.toList
theorem heap_of_var {nm : String} {cs : Array Value} {g : Nat} (h : W.var? P nm = some cs) (hg : P.globalNamed nm = some g) : ∃ t z, W.heap[g]? = some (.cells cs t z) := by
  unfold World.var? at h
  rw [hg] at h
  simp only [Option.bind_some] at h
  split at h
  · rename_i cs' t z hh
    injection h with h; subst h
    exact ⟨t, z, hh⟩
  · cases h
theorem ro_of_laid {nm : String} {dv : DataW Unit} {r : List (String × DataW Unit)} {gv : Nat} {tv : TypeId} {cvv : List CV} {fuelv : Nat} (hlb : laidB P = true) (hlaid : laidMet P ((nm, dv) :: r) W) (hg : P.globalNamed nm = some gv)
    (htv : (P.globals[gv]?).map (·.type) = some tv) (hcv : exactCV P fuelv tv dv = some cvv) (hne : cvv.isEmpty = false) (htv2 : tv < P.types.size) : RoFact W gv cvv := by
  obtain ⟨ps, hlv, _, _⟩ := hlaid
  obtain ⟨g', t', cs, fuel, p', q', e1, e2, e3, e4, _, _⟩ := hlv
  rw [hg] at e1; injection e1 with e1; subst e1
  rw [htv] at e2; injection e2 with e2; subst e2
  obtain ⟨t, z, hh⟩ := heap_of_var e3 hg
  exact ⟨hne, cs, t, z, hh, fun ρ => exact_ok hlb fuelv fuel tv cs.toList dv p' cvv htv2 e4 hcv⟩
theorem ro_of_sentinel {nm : String} {g tp : Nat} {p : Value} (h : W.var? P nm = some #[.iface tp p]) (hg : P.globalNamed nm = some g) : RoFact W g [.ifj tp] := by
  obtain ⟨t, z, hh⟩ := heap_of_var h hg
  exact ⟨rfl, _, t, z, hh, fun ρ => ⟨⟨p, rfl⟩, trivial⟩⟩
theorem ro_mem {g : Nat} {cvv : List CV} (h : RoFact W g cvv) (ty : TypeId) {ρ : Env} {m : AMem} (hm : RepM ρ m W) (hro : AllRo m) : ∃ ρ' : Env, ρ.le ρ' ∧ RepM ρ' (m ++ [⟨.ro, ty, g + 1, 0, cvv⟩]) W ∧ AllRo (m ++ [⟨.ro, ty, g + 1, 0, cvv⟩]) := by
  obtain ⟨hne, cs, th, zh, hh, hex⟩ := h
  obtain ⟨q1, q2, q3⟩ := hm.roBlkV hro (g + 1) (some ⟨g, 0, none⟩) 0 ty 0 cvv (fun _ => by
    refine ⟨⟨g, 0, none⟩, rfl, (Array.getElem?_eq_some_iff.1 hh).1, fun _ => ⟨rfl, cs, th, zh, hh, by rw [← Array.length_toList]; exact (hex (fun _ _ => none)).length.symm⟩, fun i c hi => ?_⟩
    obtain ⟨v, hv, hvv⟩ := (hex ρ).get hi
    refine ⟨v, ?_, hvv⟩
    have e : (⟨g, 0, none⟩ : Addr).add i = ⟨g, i, none⟩ := by
      unfold Addr.add
      by_cases hi0 : i = 0
      · subst hi0; rfl
      · rw [if_neg hi0]; simp
    rw [e]
    unfold World.cell?
    rw [hh]
    simpa using hv)
  exact ⟨_, q1, q2, q3⟩
/-- A LAW THAT ANSWERS TRUE, two of whose listed variables are read: their cells are read-only blocks. -/
theorem law_true_ro2 {f : FuncId} {fn : Func} {s : ChangeSpec} {args : Array Value} {ds gs : List (DataW H)} {before : List MemPlace} {tb : TypeId} {base : Nat} (hvars : s.vars = [])
    {g1 g2 t1 t2 : Nat} {c1 c2 : List CV} (h1 : RoFact W g1 c1) (h2 : RoFact W g2 c2) (hgg : g1 ≠ g2)
    (hs : ∀ l : List (DataW H), l = ds → s.fn H l = { results := [.lit (.bool true)], args := l }) (hl : laidOutB P = true) (hlb : laidB P = true) (hread : fn.params.toList.all (fun t => P.readableRec t && decide (t < P.types.size)) = true)
    (hres : fn.resultTypes = #[tb]) (htb : P.underlying tb = some .bool) (hb : IsBulk bulk) (hk : ∀ d, d ∈ ds → bulk d ≤ B)
    (hval : ∀ (j : Nat) t v, fn.params[j]? = some t → args[j]? = some v → Value.okWide P W .any base t v)
    (hW : DataW.Whole enc P fn.params.toList s.vars false W args.toList ds gs before)
    (hlaw : ∀ m avs, AllRo m → gB m g1 = some c1 → gB m g2 = some c2 → All2 (fun t a => goodA P B m t a) fn.params.toList avs → Ctr P f avs m (.one (.bool true)) m) (hbod : Bodied P f := by exact ⟨_, rfl, rfl, rfl⟩) :
    Calls P f args W fun e W' => ∃ v, e = .returned v ∧ s.post enc P fn false true false false W args v W' := by
  have hread' : ∀ t, t ∈ fn.params.toList → P.readableRec t = true ∧ t < P.types.size := fun t ht => by
    have := List.all_eq_true.1 hread t ht
    simpa using this
  obtain ⟨p, q, hA, hV, he, hz, hn⟩ := id hW
  have h0 : RepM (fun _ _ => none) [] W := ⟨fun r b h => by simp at h, fun _ _ _ => rfl, fun r b v h => by simp at h, fun r s b c h => by simp at h⟩
  obtain ⟨ρ1, _, q2, q3⟩ := ro_mem h1 t1 h0 (fun b h => by cases h)
  obtain ⟨ρ2, _, q5, q6⟩ := ro_mem h2 t2 q2 q3
  obtain ⟨ρ, ex, avs, k1, k2, k3, k4, k5⟩ := read_args hlb hb (base := base) _ _ _ _ hA (fun i t v h1 h2 => hval i t v (by simpa using h1) (by simpa using h2)) hk (fun t ht => (hread' t ht).2) _ _ q5 q6
  have e1 := h1.ne
  have e2 := h2.ne
  have hgb1 : gB ([] ++ [(⟨.ro, t1, g1 + 1, 0, c1⟩ : Blk)] ++ [(⟨.ro, t2, g2 + 1, 0, c2⟩ : Blk)] ++ ex) g1 = some c1 := gB_app (by
    unfold gB
    simp [BK.tag, e1]) ex
  have hgb2 : gB ([] ++ [(⟨.ro, t1, g1 + 1, 0, c1⟩ : Blk)] ++ [(⟨.ro, t2, g2 + 1, 0, c2⟩ : Blk)] ++ ex) g2 = some c2 := gB_app (by
    unfold gB
    simp [BK.tag, e2, hgg]) ex
  have hc := (hlaw _ avs k2 hgb1 hgb2 k5 ρ W _ k1 k4).calls hbod
  rw [show args.toList.toArray = args by simp] at hc
  refine hc.mono fun e W' ⟨v, ρ', e1, hv, hm, hst⟩ => ?_
  have hv' : v = .bool true := hv
  subst e1; subst hv'
  exact ⟨_, rfl, post_true hvars hs hl hread' hres htb hW (hst.below k2)⟩
/-- A LAW THAT ANSWERS TRUE, three of whose listed variables are read: their cells are read-only blocks. -/
theorem law_true_ro3 {f : FuncId} {fn : Func} {s : ChangeSpec} {args : Array Value} {ds gs : List (DataW H)} {before : List MemPlace} {tb : TypeId} {base : Nat} (hvars : s.vars = [])
    {g1 g2 g3 t1 t2 t3 : Nat} {c1 c2 c3 : List CV} (h1 : RoFact W g1 c1) (h2 : RoFact W g2 c2) (h3 : RoFact W g3 c3) (hgg : g1 ≠ g2) (hgh : g1 ≠ g3) (hgi : g2 ≠ g3)
    (hs : ∀ l : List (DataW H), l = ds → s.fn H l = { results := [.lit (.bool true)], args := l }) (hl : laidOutB P = true) (hlb : laidB P = true) (hread : fn.params.toList.all (fun t => P.readableRec t && decide (t < P.types.size)) = true)
    (hres : fn.resultTypes = #[tb]) (htb : P.underlying tb = some .bool) (hb : IsBulk bulk) (hk : ∀ d, d ∈ ds → bulk d ≤ B)
    (hval : ∀ (j : Nat) t v, fn.params[j]? = some t → args[j]? = some v → Value.okWide P W .any base t v)
    (hW : DataW.Whole enc P fn.params.toList s.vars false W args.toList ds gs before)
    (hlaw : ∀ m avs, AllRo m → gB m g1 = some c1 → gB m g2 = some c2 → gB m g3 = some c3 → All2 (fun t a => goodA P B m t a) fn.params.toList avs → Ctr P f avs m (.one (.bool true)) m) (hbod : Bodied P f := by exact ⟨_, rfl, rfl, rfl⟩) :
    Calls P f args W fun e W' => ∃ v, e = .returned v ∧ s.post enc P fn false true false false W args v W' := by
  have hread' : ∀ t, t ∈ fn.params.toList → P.readableRec t = true ∧ t < P.types.size := fun t ht => by
    have := List.all_eq_true.1 hread t ht
    simpa using this
  obtain ⟨p, q, hA, hV, he, hz, hn⟩ := id hW
  have h0 : RepM (fun _ _ => none) [] W := ⟨fun r b h => by simp at h, fun _ _ _ => rfl, fun r b v h => by simp at h, fun r s b c h => by simp at h⟩
  obtain ⟨ρ1, _, q2, q3⟩ := ro_mem h1 t1 h0 (fun b h => by cases h)
  obtain ⟨ρ2, _, q5, q6⟩ := ro_mem h2 t2 q2 q3
  obtain ⟨ρ3, _, q8, q9⟩ := ro_mem h3 t3 q5 q6
  obtain ⟨ρ, ex, avs, k1, k2, k3, k4, k5⟩ := read_args hlb hb (base := base) _ _ _ _ hA (fun i t v h1 h2 => hval i t v (by simpa using h1) (by simpa using h2)) hk (fun t ht => (hread' t ht).2) _ _ q8 q9
  have e1 := h1.ne
  have e2 := h2.ne
  have e3 := h3.ne
  have hgb1 : gB ([] ++ [(⟨.ro, t1, g1 + 1, 0, c1⟩ : Blk)] ++ [(⟨.ro, t2, g2 + 1, 0, c2⟩ : Blk)] ++ [(⟨.ro, t3, g3 + 1, 0, c3⟩ : Blk)] ++ ex) g1 = some c1 := gB_app (by
    unfold gB
    simp [BK.tag, e1]) ex
  have hgb2 : gB ([] ++ [(⟨.ro, t1, g1 + 1, 0, c1⟩ : Blk)] ++ [(⟨.ro, t2, g2 + 1, 0, c2⟩ : Blk)] ++ [(⟨.ro, t3, g3 + 1, 0, c3⟩ : Blk)] ++ ex) g2 = some c2 := gB_app (by
    unfold gB
    simp [BK.tag, e2, hgg]) ex
  have hgb3 : gB ([] ++ [(⟨.ro, t1, g1 + 1, 0, c1⟩ : Blk)] ++ [(⟨.ro, t2, g2 + 1, 0, c2⟩ : Blk)] ++ [(⟨.ro, t3, g3 + 1, 0, c3⟩ : Blk)] ++ ex) g3 = some c3 := gB_app (by
    unfold gB
    simp [BK.tag, e3, hgh, hgi]) ex
  have hc := (hlaw _ avs k2 hgb1 hgb2 hgb3 k5 ρ W _ k1 k4).calls hbod
  rw [show args.toList.toArray = args by simp] at hc
  refine hc.mono fun e W' ⟨v, ρ', e1, hv, hm, hst⟩ => ?_
  have hv' : v = .bool true := hv
  subst e1; subst hv'
  exact ⟨_, rfl, post_true hvars hs hl hread' hres htb hW (hst.below k2)⟩
end

/-- From a contract that uses what the listed variables hold to a row that bears a condition of its own. -/
theorem returns_row_laid {H : Type} {enc : TypeId × Value → H} {a : Assume} {C : Checked} {os : Os} {f : FuncId} {fn : Func} {s : OpenSpec} {k : (H : Type) → List (DataW H) → Bool} (hk : s.cond = some k) {F : Stop.Interp} {conds : List PathCond} {apart fresh handsOn again : Bool} {laid : List (String × DataW Unit)}
    (own : ownKnob C.prog.godebug = none) (started : os.Started) (noInit : C.prog.inits.idxOf? f = none) (hfn : C.prog.funcs[f]? = some fn)
    (witness : ∃ (w : World) (tape : Tape) (i : Input), w.os = os ∧ (w.forCall tape i).Shaped C.prog ∧ i.vars = [] ∧ Input.okWide C.prog (w.forCall tape i) .any w.heap.size f i ∧
      s.preRow enc C.prog fn conds apart laid (w.forCall tape i).memory i.args ∧ a.holds C.prog (lone (Frame.enter C.prog f i.args .normal) [] (w.forCall tape i)))
    (contract : ∀ (W : World) (base : Nat) (args : Array Value) (ds gs : List (DataW H)) (before : List MemPlace),
      (∀ (j : Nat) t v, fn.params[j]? = some t → args[j]? = some v → Value.okWide C.prog W .any base t v) →
      DataW.Whole enc C.prog fn.params.toList s.vars apart W args.toList ds gs before → k H (ds ++ gs) = true → laidMetH C.prog laid W →
      Calls C.prog f args W fun e W' => ∃ v, e = .returned v ∧ (s.at F).post enc C.prog fn apart fresh handsOn again W args v W') :
    ReturnsInHanded a C os f .any (s.preRow enc C.prog fn conds apart laid) ((s.at F).post enc C.prog fn apart fresh handsOn again) := by
  refine returnsInHanded_of_calls own started noInit witness ?_
  intro w tape i _ _ _ hok hpre hholds
  obtain ⟨_, _, _, fn', hfn', _, _, _, _, hval⟩ := hok
  have e : fn' = fn := Option.some.inj (hfn'.symm.trans hfn)
  subst e
  obtain ⟨ds, gs, before, hw, hc, hkk⟩ := (OpenSpec.pre_some hk conds apart _ _).1 hpre.1.1
  have hw' := DataW.Whole.of_heap (w' := w.forCall tape i) (by rfl) hw
  refine (contract (w.forCall tape i) w.heap.size i.args ds gs before hval hw' hkk (hpre.1.2.of_heap (by rfl))).mono fun e W' ⟨v, he, hp⟩ => ?_
  subst he
  exact ChangeSpec.post_blind hp
section
variable {P : Program} {mem : AMem}
theorem RepM.below {ρ : Env} {w w' : World} (h : RepM ρ mem w) (b : Below w.heap.size w w') : RepM ρ mem w' ∧ Step mem ρ w mem ρ w' := h.ext b.os b.tape b.output b.size b.block
theorem Ctr.itoaS {f : FuncId} (hb : Bodied P f) (h : ∀ i : Nat, i < 100 → ∀ w : World, Calls P f #[.int .i64 i] w fun e w' => e = .returned (.string ⟨(Lib.decDigits i).toArray⟩) ∧ w' = w) {n : Nat} (hn : n < 100) :
    Ctr P f [.one (.int .i64 (n : Int))] mem (.one (.str ⟨(Lib.decDigits n).toArray⟩)) mem := by
  intro ρ w vs hm ha
  refine .inl ⟨hb, ?_⟩
  match vs, ha with
  | [v], ha =>
    have e1 : v = _ := ha.1
    subst e1
    refine (h n hn w).mono ?_
    rintro e w' ⟨rfl, rfl⟩
    exact ⟨_, ρ, rfl, rfl, hm, Step.refl _ _ _⟩
theorem all2_u64 {ρ : Env} : ∀ {zs : List Int} {xs : List Value}, All2 (VC ρ) (zs.map (CV.int .u64)) xs → xs = zs.map (Value.int .u64)
  | [], [], _ => rfl
  | z :: zs, x :: xs, h => by
    have h1 : x = .int .u64 z := h.1
    rw [List.map_cons, h1, all2_u64 h.2]
  | [], _ :: _, h => h.elim
  | _ :: _, [], h => h.elim
theorem tab_of {ρ : Env} {w : World} (hm : RepM ρ mem w) {nm : String} {g : Nat} {zs : List Int} (hg : P.globalNamed nm = some g) (hgb : gB mem g = some (zs.map (CV.int .u64))) : Lib.TabIs P w nm .u64 zs := by
  obtain ⟨c, t, z, hh, ha⟩ := gB_var hm hgb
  have e := all2_u64 ha
  unfold Lib.TabIs World.var?
  rw [hg]
  simp only [Option.bind_some, hh]
  rw [← e]
theorem Ctr.itoaA {f : FuncId} (hb : Bodied P f) {nm : String} {g : Nat} {zs : List Int} (hg : P.globalNamed nm = some g)
    (h : ∀ n : Int, -9223372036854775808 ≤ n → n ≤ 9223372036854775807 → ∀ w : World, Lib.TabIs P w nm .u64 zs → Calls P f #[.int .i64 n] w fun e w' => e = .returned (.string ⟨(Lib.itoa n).toArray⟩) ∧ ∃ k os, w' = Sort.grow (w.drewN k) os)
    (hgb : gB mem g = some (zs.map (CV.int .u64))) {n : Int} (h0 : -9223372036854775808 ≤ n) (h1 : n ≤ 9223372036854775807) :
    Ctr P f [.one (.int .i64 n)] mem (.one (.str ⟨(Lib.itoa n).toArray⟩)) mem := by
  intro ρ w vs hm ha
  refine .inl ⟨hb, ?_⟩
  match vs, ha with
  | [v], ha =>
    have e1 : v = _ := ha.1
    subst e1
    refine (h n h0 h1 w (tab_of hm hg hgb)).mono ?_
    rintro e w' ⟨rfl, k, os, rfl⟩
    obtain ⟨b1, b2⟩ := hm.ext (w' := Sort.grow (w.drewN k) os) rfl rfl rfl (by simp [Sort.grow, World.drewN]) (fun k hk => Sort.heap_grow_old _ _ hk)
    exact ⟨_, ρ, rfl, rfl, b1, b2⟩
theorem Ctr.atoiOk {f bt : FuncId} (hb : Bodied P f) (h : ∀ (s : ByteArray) (n : Int), s.size ≤ 18 → Lib.atoi s.data.toList = some n → ∀ w : World, Calls P f #[.string s] w fun e w' => e = .returned (.tuple #[.int .i64 n, .nilIface]) ∧ ∃ t, w' = Lib.bytesWorld w bt t)
    {s : ByteArray} {n : Int} (hl : s.size ≤ 18) (hn : Lib.atoi s.data.toList = some n) : Ctr P f [.one (.str s)] mem (.tup [(false, [.int .i64 n]), (false, [.nili])]) mem := by
  intro ρ w vs hm ha
  refine .inl ⟨hb, ?_⟩
  match vs, ha with
  | [v], ha =>
    have e1 : v = _ := ha.1
    subst e1
    refine (h s n hl hn w).mono ?_
    rintro e w' ⟨rfl, t, rfl⟩
    obtain ⟨b1, b2⟩ := hm.below (Lib.bytesWorld_below w bt t)
    exact ⟨_, ρ, rfl, ⟨_, rfl, rfl, rfl, trivial⟩, b1, b2⟩
theorem Ctr.atoiErr {f : FuncId} {te tn g tp : Nat} (hb : Bodied P f) (h : ∀ s : ByteArray, s.size ≤ 18 → Lib.atoi s.data.toList = none → ∀ (ev : Value) (w : World), w.cell? ⟨g, 0, none⟩ = some ev → (ev = .nilIface ∨ ∃ te pe, ev = .iface te pe) →
      Calls P f #[.string s] w fun e w' => ∃ N, e = .returned (.tuple #[.int .i64 0, .iface te (.pointer (some ⟨N, 0, none⟩))]) ∧ w.heap.size ≤ N ∧ w'.heap[N]? = some (.cells #[.string ⟨#[65, 116, 111, 105]⟩, .string s, ev] tn (0, 0)) ∧ Below w.heap.size w w')
    (hgb : gB mem g = some [.ifj tp]) {s : ByteArray} (hl : s.size ≤ 18) (hn : Lib.atoi s.data.toList = none) : Ctr P f [.one (.str s)] mem (.tup [(false, [.int .i64 0]), (false, [.ifj te])]) mem := by
  intro ρ w vs hm ha
  refine .inl ⟨hb, ?_⟩
  match vs, ha with
  | [v], ha =>
    have e1 : v = _ := ha.1
    subst e1
    obtain ⟨c, t, z, hh, hc⟩ := gB_var hm hgb
    obtain ⟨ev, hev, x, hx⟩ : ∃ ev, w.cell? ⟨g, 0, none⟩ = some ev ∧ ∃ x, ev = .iface tp x := by
      obtain ⟨v, hv, hr⟩ := hc.get (i := 0) (a := .ifj tp) rfl
      refine ⟨v, ?_, hr⟩
      unfold World.cell?
      rw [hh]
      simpa using hv
    refine (h s hl hn ev w hev (.inr ⟨tp, x, hx⟩)).mono ?_
    rintro e w' ⟨N, rfl, _, _, hbl⟩
    obtain ⟨b1, b2⟩ := hm.below hbl
    exact ⟨_, ρ, rfl, ⟨_, rfl, rfl, ⟨_, rfl⟩, trivial⟩, b1, b2⟩
/-- The first place of a byte. -/
def idxI (xs : List Int) (c : Int) : Int := Lib.indexByte (Lib.bytesOf xs) c.toNat.toUInt8
theorem all2_u8 {ρ : Env} : ∀ {zs : List Int} {xs : List Value}, All2 (VC ρ) (zs.map (CV.int .u8)) xs → xs = zs.map (Value.int .u8)
  | [], [], _ => rfl
  | z :: zs, x :: xs, h => by
    have h1 : x = .int .u8 z := h.1
    rw [List.map_cons, h1, all2_u8 h.2]
  | [], _ :: _, h => h.elim
  | _ :: _, [], h => h.elim
theorem indexByte_x {f : FuncId} {fn : Func} (hf : P.funcs[f]? = some fn) (hname : (fn.name == "runtime.NumGoroutine") = false) (hb : fn.body.isNone = true) (hn : Extern.findNext fn = none) (he : Extern.find fn = some Extern.BytealgIndexByte.indexByte)
    {r v off n : Nat} {xs : List Int} (hs : srcA 1 (.one (.sl r v off n)) mem = some (n, xs.map (CV.int .u8))) (c : Int) :
    Ctr P f [.one (.sl r v off n), .one (.int .u8 c)] mem (.one (.int .i64 (idxI xs c))) mem :=
  Ctr.extern hf hname hb hn he fun ρ w vs hm ha => by
    match vs, ha with
    | [u, y], ha =>
      have e2 : y = _ := ha.2.1
      subst e2
      obtain ⟨A, k, us, rfl, hlc, hus, hlen, hA, hcell⟩ := srcA_sound hm hs ha.1
      have e := all2_u8 hus
      subst e
      cases A with
      | none =>
        have hn0 := hA rfl
        subst hn0
        have hx : xs = [] := List.eq_nil_of_length_eq_zero (by simpa using hlen)
        subst hx
        exact ⟨_, w, ρ, Lib.run_indexByteNil w 0 k c, rfl, hm, Step.refl _ _ _⟩
      | some a =>
        refine ⟨_, w, ρ, Lib.run_indexByteAt w a n k xs (by simpa using hlen) (fun i hi => ?_) c, rfl, hm, Step.refl _ _ _⟩
        refine hcell a rfl i _ ?_
        have hil : i < xs.length := by simp at hlen; omega
        rw [List.getElem?_map, List.getD_eq_getElem?_getD, List.getElem?_eq_getElem hil]
        rfl
end
end Go.Eng

set_option linter.unusedSimpArgs false
set_option linter.unusedVariables false
set_option maxRecDepth 100000
set_option maxHeartbeats 4000000
namespace Go.Proofs.YtlhppfdokgeijaaDoor
open Go Go.Eng

def dgt (d : Nat) : UInt8 := UInt8.ofNat (48 + d)
def rm (n : Nat) : Nat → Nat
  | 0 => n
  | i + 1 => rm n i * 10 % 65536
def frL : Nat → Nat → List UInt8
  | 0, _ => []
  | k + 1, n => if n = 0 then [] else dgt (n * 10 / 65536) :: frL k (n * 10 % 65536)
def dsL (n : Nat) (i : Nat) : List UInt8 := (List.range i).map fun j => dgt (rm n j * 10 / 65536)
def txN (neg : Bool) (n : Nat) : List UInt8 := (if neg = true then [45] else []) ++ (Lib.decDigits (n / 65536) ++ (if n % 65536 = 0 then [] else 46 :: frL 16 (n % 65536)))
def txL (a : Int) : List UInt8 := txN (decide (heldI a < 0)) (heldI a).natAbs
theorem rm_shift (n : Nat) : ∀ i, rm (n * 10 % 65536) i = rm n (i + 1)
  | 0 => rfl
  | i + 1 => by
    show rm (n * 10 % 65536) i * 10 % 65536 = _
    rw [rm_shift n i]; rfl
theorem rm_lt {n : Nat} (h : n < 65536) : ∀ i, rm n i < 65536
  | 0 => h
  | i + 1 => Nat.mod_lt _ (by decide)
theorem rm_dvd (n : Nat) : ∀ i, i ≤ 16 → 2 ^ i ∣ rm n i
  | 0, _ => ⟨rm n 0, by simp⟩
  | i + 1, h => by
    have ih := rm_dvd n i (by omega)
    have h1 : 2 ^ (i + 1) ∣ 65536 := by
      rw [show (65536 : Nat) = 2 ^ 16 by decide]
      exact Nat.pow_dvd_pow 2 h
    show 2 ^ (i + 1) ∣ rm n i * 10 % 65536
    rw [Nat.dvd_mod_iff h1, Nat.pow_succ, show rm n i * 10 = rm n i * (2 * 5) by rfl, ← Nat.mul_assoc]
    exact Nat.dvd_mul_right_of_dvd (Nat.mul_dvd_mul_right ih 2) 5
theorem rm_16 {n : Nat} (h : n < 65536) : rm n 16 = 0 := Nat.eq_zero_of_dvd_of_lt (rm_dvd n 16 (Nat.le_refl _)) (rm_lt h 16)
theorem dsL_s (n i : Nat) : dsL n (i + 1) = dsL n i ++ [dgt (rm n i * 10 / 65536)] := by
  unfold dsL; rw [List.range_succ, List.map_append]; rfl
theorem dsL_len (n i : Nat) : (dsL n i).length = i := by unfold dsL; rw [List.length_map, List.length_range]
theorem dsL_cons (n i : Nat) : dsL n (i + 1) = dgt (n * 10 / 65536) :: dsL (n * 10 % 65536) i := by
  unfold dsL
  rw [List.range_succ_eq_map, List.map_cons, List.map_map]
  congr 1
  refine List.map_congr_left fun j _ => ?_
  show dgt (rm n (j + 1) * 10 / 65536) = dgt (rm (n * 10 % 65536) j * 10 / 65536)
  rw [rm_shift]
theorem frL_ds : ∀ (i k n : Nat), (∀ j, j < i → rm n j ≠ 0) → rm n i = 0 → i ≤ k → frL k n = dsL n i
  | 0, k, n, _, h, _ => by
    have hn : n = 0 := h
    cases k with
    | zero => rfl
    | succ k => show (if n = 0 then [] else _) = _; rw [if_pos hn]; rfl
  | i + 1, k, n, hj, h, hk => by
    have hn : n ≠ 0 := hj 0 (by omega)
    cases k with
    | zero => omega
    | succ k =>
      show (if n = 0 then [] else _) = _
      rw [if_neg hn, dsL_cons, frL_ds i k (n * 10 % 65536) (fun j hji => by rw [rm_shift]; exact hj (j + 1) (by omega)) (by rw [rm_shift]; exact h) (by omega)]
/-- Where the digits end. -/
theorem fr_ex {n : Nat} (h : n < 65536) : ∃ L, L ≤ 16 ∧ (∀ j, j < L → rm n j ≠ 0) ∧ rm n L = 0 := by
  have key : ∀ d : Nat, ∃ L, (L ≤ 16 - d → True) ∧ True := fun d => ⟨0, fun _ => trivial, trivial⟩
  have hex : ∃ L, rm n L = 0 := ⟨16, rm_16 h⟩
  let P : Nat → Prop := fun L => rm n L = 0
  have : ∀ k, (∃ L, L ≤ k ∧ (∀ j, j < L → rm n j ≠ 0) ∧ rm n L = 0) ∨ (∀ j, j ≤ k → rm n j ≠ 0) := by
    intro k
    induction k with
    | zero =>
      by_cases h0 : rm n 0 = 0
      · exact .inl ⟨0, Nat.le_refl _, fun j hj => absurd hj (Nat.not_lt_zero _), h0⟩
      · exact .inr fun j hj => by rw [show j = 0 by omega]; exact h0
    | succ k ih =>
      rcases ih with ⟨L, a, b, c⟩ | ih
      · exact .inl ⟨L, by omega, b, c⟩
      · by_cases h0 : rm n (k + 1) = 0
        · exact .inl ⟨k + 1, Nat.le_refl _, fun j hj => ih j (by omega), h0⟩
        · exact .inr fun j hj => by
            rcases Nat.lt_or_ge j (k + 1) with h1 | h1
            · exact ih j (by omega)
            · rw [show j = k + 1 by omega]; exact h0
  rcases this 16 with h1 | h1
  · exact h1
  · exact absurd (rm_16 h) (h1 16 (Nat.le_refl _))
theorem rm_step (n i : Nat) : rm n (i + 1) + rm n i * 10 / 65536 * 65536 = rm n i * 10 := by
  show rm n i * 10 % 65536 + _ = _
  omega
/-- Digits are digits. -/
def isD (b : UInt8) : Prop := 48 ≤ b.toNat ∧ b.toNat ≤ 57
theorem dgt_val {d : Nat} (h : d < 10) : (dgt d).toNat = 48 + d := by
  unfold dgt; rw [UInt8.toNat_ofNat']; omega
theorem dec_isD : ∀ (u : Nat), ∀ b, b ∈ Lib.decDigits u → isD b := by
  intro u
  induction u using Nat.strongRecOn with
  | ind u ih =>
    intro b hb
    rw [Lib.decDigits] at hb
    split at hb
    · rename_i h
      rw [List.mem_singleton] at hb
      subst hb
      have := dgt_val h
      unfold dgt at this
      unfold isD; omega
    · rename_i h
      rcases List.mem_append.1 hb with hb | hb
      · exact ih (u / 10) (by omega) b hb
      · rw [List.mem_singleton] at hb
        subst hb
        have := dgt_val (d := u % 10) (by omega)
        unfold dgt at this
        unfold isD; omega
theorem decFrom_app : ∀ (l : List UInt8) (acc n : Nat) (b : UInt8) (d : Nat), Lib.decFrom acc l = some n → Lib.digitVal b = some d → Lib.decFrom acc (l ++ [b]) = some (n * 10 + d)
  | [], acc, n, b, d, h, hb => by
    rw [Lib.decFrom] at h; injection h with h; subst h
    show Lib.decFrom acc [b] = _
    simp only [Lib.decFrom, hb]
  | c :: l, acc, n, b, d, h, hb => by
    show Lib.decFrom acc (c :: (l ++ [b])) = _
    rw [Lib.decFrom] at h ⊢
    cases hc : Lib.digitVal c with
    | none => rw [hc] at h; cases h
    | some e => rw [hc] at h; exact decFrom_app l _ n b d h hb
theorem dgt_digit {d : Nat} (h : d < 10) : Lib.digitVal (UInt8.ofNat (48 + d)) = some d := by
  have := dgt_val h
  unfold dgt at this
  unfold Lib.digitVal
  rw [this, if_pos (by omega)]
  congr 1; omega
theorem dec_from : ∀ u : Nat, Lib.decFrom 0 (Lib.decDigits u) = some u := by
  intro u
  induction u using Nat.strongRecOn with
  | ind u ih =>
    rw [Lib.decDigits]
    split
    · rename_i h
      simp only [Lib.decFrom, dgt_digit h]
      congr 1; omega
    · rename_i h
      rw [decFrom_app _ _ _ _ _ (ih (u / 10) (by omega)) (dgt_digit (d := u % 10) (by omega))]
      congr 1; omega
theorem dec_ne (u : Nat) : Lib.decDigits u ≠ [] := by
  intro h
  rw [Lib.decDigits] at h
  split at h
  · cases h
  · exact absurd (congrArg List.length h) (by simp)
end Go.Proofs.YtlhppfdokgeijaaDoor

/- Contracts of Go's library off the kit's shelf, laid at this program by the kit's own command. -/
namespace Go.Proofs
open Go.Shelf
def Tryd.laysM173_ren : Go.Shelf.Ren := ⟨fun | 173 => 45 | 246 => 52 | 283 => 60 | 284 => 61 | 285 => 62 | 286 => 63 | 129 => 72 | 317 => 71 | 318 => 73 | 319 => 74 | 320 => 75 | 337 => 79 | 338 => 80 | n => n, fun | 2 => 2 | 3 => 3 | 9 => 9 | 4 => 4 | 171 => 74 | 0 => 0 | 53 => 56 | 37 => 65 | 5 => 5 | 173 => 77 | 212 => 86 | 51 => 87 | 20 => 20 | 213 => 88 | 46 => 29 | 232 => 98 | 233 => 99 | n => n, fun | 17 => 3 | 18 => 4 | 19 => 5 | n => n⟩

theorem Tryd.laysM173 : Go.Proofs.LaysM.n173 Tryd.prog Tryd.laysM173_ren := {
  mixed := by kernel_rfl
  f129 := Tryd.func72.trans (congrArg some (by kernel_rfl))
  f173 := Tryd.func45.trans (congrArg some (by kernel_rfl))
  f246 := Tryd.func52.trans (congrArg some (by kernel_rfl))
  f283 := Tryd.func60.trans (congrArg some (by kernel_rfl))
  f284 := Tryd.func61.trans (congrArg some (by kernel_rfl))
  f285 := Tryd.func62.trans (congrArg some (by kernel_rfl))
  f286 := Tryd.func63.trans (congrArg some (by kernel_rfl))
  f317 := Tryd.func71.trans (congrArg some (by kernel_rfl))
  f318 := Tryd.func73.trans (congrArg some (by kernel_rfl))
  f319 := Tryd.func74.trans (congrArg some (by kernel_rfl))
  f320 := Tryd.func75.trans (congrArg some (by kernel_rfl))
  f337 := Tryd.func79.trans (congrArg some (by kernel_rfl))
  f338 := Tryd.func80.trans (congrArg some (by kernel_rfl))
  t0 := Tryd.underlying0
  a0 := Tryd.isAgg0
  z0 := Tryd.sizeOf0
  v0 := Tryd.zeroValue0
  t2 := Tryd.underlying2
  a2 := Tryd.isAgg2
  z2 := Tryd.sizeOf2
  v2 := Tryd.zeroValue2
  t3 := Tryd.underlying3
  a3 := Tryd.isAgg3
  z3 := Tryd.sizeOf3
  v3 := Tryd.zeroValue3
  t4 := Tryd.underlying4
  a4 := Tryd.isAgg4
  z4 := Tryd.sizeOf4
  v4 := Tryd.zeroValue4
  t5 := Tryd.underlying5
  a5 := Tryd.isAgg5
  z5 := Tryd.sizeOf5
  v5 := Tryd.zeroValue5
  t9 := Tryd.underlying9
  a9 := Tryd.isAgg9
  z9 := Tryd.sizeOf9
  v9 := Tryd.zeroValue9
  t20 := Tryd.underlying20
  a20 := Tryd.isAgg20
  z20 := Tryd.sizeOf20
  v20 := Tryd.zeroValue20
  t37 := Tryd.underlying65
  a37 := Tryd.isAgg65
  z37 := Tryd.sizeOf65
  v37 := Tryd.zeroValue65
  t46 := Tryd.underlying29
  a46 := Tryd.isAgg29
  z46 := Tryd.sizeOf29
  v46 := Tryd.zeroValue29
  t51 := Tryd.underlying87
  a51 := Tryd.isAgg87
  z51 := Tryd.sizeOf87
  v51 := Tryd.zeroValue87
  t53 := Tryd.underlying56
  a53 := Tryd.isAgg56
  z53 := Tryd.sizeOf56
  v53 := Tryd.zeroValue56
  t171 := Tryd.underlying74
  a171 := Tryd.isAgg74
  z171 := Tryd.sizeOf74
  v171 := Tryd.zeroValue74
  t173 := Tryd.underlying77
  a173 := Tryd.isAgg77
  z173 := Tryd.sizeOf77
  v173 := Tryd.zeroValue77
  t212 := Tryd.underlying86
  a212 := Tryd.isAgg86
  z212 := Tryd.sizeOf86
  v212 := Tryd.zeroValue86
  t213 := Tryd.underlying88
  a213 := Tryd.isAgg88
  z213 := Tryd.sizeOf88
  t232 := Tryd.underlying98
  a232 := Tryd.isAgg98
  z232 := Tryd.sizeOf98
  v232 := Tryd.zeroValue98
  t233 := Tryd.underlying99
  a233 := Tryd.isAgg99
  z233 := Tryd.sizeOf99
  v233 := Tryd.zeroValue99
  g17 := by kernel_rfl
  g18 := by kernel_rfl
  g19 := by kernel_rfl
  i0 := by kernel_rfl
  i2 := by kernel_rfl
  i3 := by kernel_rfl
  i4 := by kernel_rfl
  i5 := by kernel_rfl
  i9 := by kernel_rfl
  i20 := by kernel_rfl
  i37 := by kernel_rfl
  i46 := by kernel_rfl
  i51 := by kernel_rfl
  i53 := by kernel_rfl
  i171 := by kernel_rfl
  i173 := by kernel_rfl
  i212 := by kernel_rfl
  i232 := by kernel_rfl
  i233 := by kernel_rfl
  m17 := by kernel_rfl
  m18 := by kernel_rfl
  m19 := by kernel_rfl }

open Go.RowKit Go.Sort Go.Lib in
theorem Tryd.strconv_FormatInt_10 (n : Int) (h0 : -9223372036854775808 ≤ n) (h1 : n ≤ 9223372036854775807) (w : World) (htab : Lib.TabIs Tryd.prog w "internal/strconv.uint64pow10" .u64 Lib.pow10Tab) :
    Calls Tryd.prog 45 #[.int .i64 n, .int .i64 10] w fun e w' => e = .returned (.string ⟨(Lib.itoa n).toArray⟩) ∧ ∃ k os, w' = grow (w.drewN k) os := Any.strconv_FormatInt_10 Tryd.laysM173 n h0 h1 w htab

end Go.Proofs

set_option linter.unusedSimpArgs false
set_option linter.unusedVariables false
set_option maxRecDepth 100000
set_option maxHeartbeats 4000000
namespace Go.Proofs.YtlhppfdokgeijaaDoor
open Go Go.Eng

theorem str_app (a b : List UInt8) : (⟨a.toArray⟩ : ByteArray) ++ ⟨b.toArray⟩ = ⟨(a ++ b).toArray⟩ := by
  apply ByteArray.ext
  simp
theorem str_size (a : List UInt8) : (⟨a.toArray⟩ : ByteArray).size = a.length := rfl
theorem strB_one (n : Nat) : strB [(n : Int)] = ⟨([UInt8.ofNat n] : List UInt8).toArray⟩ := rfl
theorem dec_len_le (u : Nat) : (Lib.decDigits u).length ≤ u + 1 := by
  induction u using Nat.strongRecOn with
  | ind u ih =>
    rw [Lib.decDigits]
    split
    · simp
    · rename_i h
      have := ih (u / 10) (by omega)
      rw [List.length_append]; show _ + 1 ≤ _; omega
theorem wu64 {x : Int} (h : 0 ≤ x ∧ x ≤ 9223372036854775807) : IntKind.u64.wrap x = x := by
  unfold IntKind.wrap
  simp [IntKind.signed, IntKind.bits]
  omega
theorem wu8 {x : Int} (h : 0 ≤ x ∧ x ≤ 255) : IntKind.u8.wrap x = x := by
  unfold IntKind.wrap
  simp [IntKind.signed, IntKind.bits]
  omega
theorem fmt_c (d : Nat) (hd : d ≤ 1000000) (m : AMem) (hg3 : gB m 3 = some (Lib.pow10Tab.map (CV.int .u64))) : Ctr Tryd.prog 45 [.one (.int .i64 (d : Int)), .one (.int .i64 10)] m (.one (.str ⟨(Lib.decDigits d).toArray⟩)) m := by
  intro ρ w vs hm ha
  refine .inl ⟨⟨_, rfl, rfl, rfl⟩, ?_⟩
  match vs, ha with
  | [v, y], ha =>
    have e1 : v = _ := ha.1
    have e2 : y = _ := ha.2.1
    subst e1; subst e2
    refine (Tryd.strconv_FormatInt_10 (d : Int) (by omega) (by omega) w (tab_of hm (by kernel_rfl) hg3)).mono ?_
    rintro e w' ⟨rfl, k, os, rfl⟩
    obtain ⟨b1, b2⟩ := hm.ext (w' := Sort.grow (w.drewN k) os) rfl rfl rfl (by simp [Sort.grow, World.drewN]) (fun k hk => Sort.heap_grow_old _ _ hk)
    have e : Lib.itoa (d : Int) = Lib.decDigits d := by unfold Lib.itoa; rw [if_neg (by omega), Int.toNat_natCast]
    exact ⟨_, ρ, rfl, by rw [e]; rfl, b1, b2⟩
theorem decimal_c (n : Nat) (hn : n ≤ 1000000) (m : AMem) : Ctr Tryd.prog 46 [.one (.int .u64 (n : Int))] m (.one (.str ⟨(Lib.decDigits n).toArray⟩)) m := by
  refine Ctr.enter Tryd.func46 rfl (by decide) (rs := [.tmp 2]) (nt := 23) rfl rfl fun hwf Q hQ => ?_
  iterate 2
    refine AW.seq_k fun K hK => ?_
    refine AW.region (by decide) ?_
    simp only [push_cast, Nat.reduceAdd, Nat.reduceMul, Nat.reduceSub, Nat.reduceLeDiff, Nat.reduceLT, Nat.reduceEqDiff, Nat.reduceBEq, Nat.reduceBNe, Nat.reduceMod, Nat.reduceDiv, Int.reduceLE, Int.reduceLT, Int.reduceToNat, Int.reduceAdd, Int.reduceSub, Int.reduceMul, Int.reduceNeg, Int.reduceEq, Int.reduceBEq, Int.reduceBNe, ↓reduceIte, reduceCtorEq, String.reduceBNe, String.reduceEq, reduceDIte, Nat.reducePow]
    refine Thn_n ?_
    refine hK _ _ ?_
    clear hK K
  refine AW.seq_k fun K hK => ?_
  refine AW.block ?_
  refine AW.loopK [] (fun (z : Nat × List UInt8) => Lib.decDigits z.1 ++ z.2 = Lib.decDigits n ∧ z.1 ≤ 1000000 ∧ z.2.length ≤ 1000001) (fun (z : Nat × List UInt8) => [(0, .one (.int .u64 (z.1 : Int))), (3, .one (.str ⟨z.2.toArray⟩))]) (fun (z : Nat × List UInt8) => []) (fun (z : Nat × List UInt8) => z.1) (n, ([] : List UInt8)) ⟨List.append_nil _, hn, Nat.zero_le _⟩ ?_ ?_ fun (z : Nat × List UInt8) hi4 => ?_
  · first | rfl | (simp only [Keeps, Tm.get_cons, Nat.reduceEqDiff, ↓reduceIte, if_true, if_false, ite_true, ite_false, true_and, and_true, and_self, reduceCtorEq] <;> rfl)
  · first | rfl | (simp only [setAll, push_cast, Nat.reduceAdd, Nat.reduceMul, Nat.reduceSub, Nat.reduceLeDiff, Nat.reduceLT, Nat.reduceEqDiff, Nat.reduceBEq, Nat.reduceBNe, Nat.reduceMod, Nat.reduceDiv, Int.reduceLE, Int.reduceLT, Int.reduceToNat, Int.reduceAdd, Int.reduceSub, Int.reduceMul, Int.reduceNeg, Int.reduceEq, Int.reduceBEq, Int.reduceBNe, ↓reduceIte, reduceCtorEq, String.reduceBNe, String.reduceEq, reduceDIte, Nat.reducePow] <;> rfl)
  obtain ⟨t0, S⟩ := z
  obtain ⟨hdS, ht0, hS⟩ := hi4
  dsimp only at hdS ht0 hS ⊢
  obtain ⟨b, hb⟩ : ∃ b, b = t0 % 10 := ⟨_, rfl⟩
  obtain ⟨q, hq⟩ : ∃ q, q = t0 / 10 := ⟨_, rfl⟩
  try simp only [keepL, setAll, push_cast, Nat.reduceAdd, Nat.reduceMul, Nat.reduceSub, Nat.reduceLeDiff, Nat.reduceLT, Nat.reduceEqDiff, Nat.reduceBEq, Nat.reduceBNe, Nat.reduceMod, Nat.reduceDiv, Int.reduceLE, Int.reduceLT, Int.reduceToNat, Int.reduceAdd, Int.reduceSub, Int.reduceMul, Int.reduceNeg, Int.reduceEq, Int.reduceBEq, Int.reduceBNe, ↓reduceIte, reduceCtorEq, String.reduceBNe, String.reduceEq, reduceDIte, Nat.reducePow]
  refine AW.seq_k fun K hK => ?_
  refine AW.seq_k fun K hK => ?_
  refine AW.region (by decide) ?_
  simp only [push_cast, Nat.reduceAdd, Nat.reduceMul, Nat.reduceSub, Nat.reduceLeDiff, Nat.reduceLT, Nat.reduceEqDiff, Nat.reduceBEq, Nat.reduceBNe, Nat.reduceMod, Nat.reduceDiv, Int.reduceLE, Int.reduceLT, Int.reduceToNat, Int.reduceAdd, Int.reduceSub, Int.reduceMul, Int.reduceNeg, Int.reduceEq, Int.reduceBEq, Int.reduceBNe, ↓reduceIte, reduceCtorEq, String.reduceBNe, String.reduceEq, reduceDIte, Nat.reducePow]
  refine Thn_n ?_
  refine hK _ _ ?_
  clear hK K
  refine AW.cond rfl (fun h5 => ?_) (fun h5 => ?_)
  · have hgt : 9 < t0 := by have := of_decide_eq_true h5; omega
    have d1 : (t0 : Int).tmod 10 = (b : Int) := by rw [Int.tmod_eq_emod_of_nonneg (by omega), hb]; push_cast; rfl
    have d2 : (t0 : Int).tdiv 10 = (q : Int) := by rw [Int.tdiv_eq_ediv_of_nonneg (by omega), hq]; push_cast; rfl
    have d3 : IntKind.u64.wrap (b : Int) = (b : Int) := wu64 (by omega)
    have d4 : IntKind.u64.wrap (q : Int) = (q : Int) := wu64 (by omega)
    obtain ⟨x, hx⟩ : ∃ x, x = 48 + b := ⟨_, rfl⟩
    have w2 : IntKind.u64.wrap (48 + (b : Int)) = (x : Int) := by rw [wu64 (by omega)]; omega
    have w3 : IntKind.u8.wrap (x : Int) = (x : Int) := wu8 (by omega)
    have s1 := strB_one x
    have s3 : (⟨[UInt8.ofNat x].toArray⟩ : ByteArray) ++ ⟨S.toArray⟩ = ⟨(UInt8.ofNat (48 + b) :: S).toArray⟩ := by rw [hx]; exact str_app [UInt8.ofNat (48 + b)] S
    have s4 : 1 + S.length ≤ 9223372036854775807 := by omega
    have hI1 : Lib.decDigits q ++ (UInt8.ofNat (48 + b) :: S) = Lib.decDigits n := by
      rw [← hdS, hb, hq]
      conv => rhs; rw [Lib.decDigits, dif_neg (show ¬ t0 < 10 by omega)]
      simp
    have hI2 : (UInt8.ofNat (48 + b) :: S).length ≤ 1000001 := by
      have h1 := congrArg List.length hI1
      rw [List.length_append] at h1
      have := dec_len_le n
      omega
    refine AW.skip ?_
    refine Thn_n ?_
    refine hK _ _ ?_
    clear hK K
    refine AW.block ?_
    refine AW.seq_k fun K hK => ?_
    refine AW.region (by decide) ?_
    simp only [push_cast, Nat.reduceAdd, Nat.reduceMul, Nat.reduceSub, Nat.reduceLeDiff, Nat.reduceLT, Nat.reduceEqDiff, Nat.reduceBEq, Nat.reduceBNe, Nat.reduceMod, Nat.reduceDiv, Int.reduceLE, Int.reduceLT, Int.reduceToNat, Int.reduceAdd, Int.reduceSub, Int.reduceMul, Int.reduceNeg, Int.reduceEq, Int.reduceBEq, Int.reduceBNe, ↓reduceIte, reduceCtorEq, String.reduceBNe, String.reduceEq, reduceDIte, Nat.reducePow, d1, d2, d3, d4, w2, w3, s1, s3, s4, str_size]
    refine Thn_n ?_
    refine hK _ _ ?_
    clear hK K
    refine AW.region (by decide) ?_
    simp only [push_cast, Nat.reduceAdd, Nat.reduceMul, Nat.reduceSub, Nat.reduceLeDiff, Nat.reduceLT, Nat.reduceEqDiff, Nat.reduceBEq, Nat.reduceBNe, Nat.reduceMod, Nat.reduceDiv, Int.reduceLE, Int.reduceLT, Int.reduceToNat, Int.reduceAdd, Int.reduceSub, Int.reduceMul, Int.reduceNeg, Int.reduceEq, Int.reduceBEq, Int.reduceBNe, ↓reduceIte, reduceCtorEq, String.reduceBNe, String.reduceEq, reduceDIte, Nat.reducePow, d1, d2, d3, d4, w2, w3, s1, s3, s4, str_size]
    refine InB_n ?_
    refine Thn_n ?_
    refine ⟨(q, UInt8.ofNat (48 + b) :: S), ⟨hI1, by show q ≤ _; omega, hI2⟩, (by show q < t0; omega), ?_⟩
    try simp only [keepL, setAll, push_cast, Nat.reduceAdd, Nat.reduceMul, Nat.reduceSub, Nat.reduceLeDiff, Nat.reduceLT, Nat.reduceEqDiff, Nat.reduceBEq, Nat.reduceBNe, Nat.reduceMod, Nat.reduceDiv, Int.reduceLE, Int.reduceLT, Int.reduceToNat, Int.reduceAdd, Int.reduceSub, Int.reduceMul, Int.reduceNeg, Int.reduceEq, Int.reduceBEq, Int.reduceBNe, ↓reduceIte, reduceCtorEq, String.reduceBNe, String.reduceEq, reduceDIte, Nat.reducePow, d1, d2, d3, d4, w2, w3, s1, s3, s4, str_size]
    exact Weak.to (extra := [_]) (by simp only [Keeps, Tm.get_cons, Nat.reduceEqDiff, ↓reduceIte, if_true, if_false, ite_true, ite_false, true_and, and_true, and_self, reduceCtorEq]) (by first | rfl | (simp only [List.append_assoc, List.cons_append, List.nil_append]; rfl)) (by first | rfl | (simp [AV.below, CV.below]; done) | (simp [AV.below, CV.below]; omega)) (by
      first | exact hwf | refine MWf.app (hwf.grow (by simp)) ?_
      repeat (first | exact MWf_nil | (refine MWf_cons ?_ ?_; · first | rfl | (simp [CV.below]; done) | (simp [CV.below]; omega))))
  · have hle : t0 < 10 := by have := of_decide_eq_false h5; omega
    obtain ⟨x, hx⟩ : ∃ x, x = 48 + t0 := ⟨_, rfl⟩
    have w2 : IntKind.u64.wrap (48 + (t0 : Int)) = (x : Int) := by rw [wu64 (by omega)]; omega
    have w3 : IntKind.u8.wrap (x : Int) = (x : Int) := wu8 (by omega)
    have s1 := strB_one x
    have s4 : 1 + S.length ≤ 9223372036854775807 := by omega
    have s3 : (⟨[UInt8.ofNat x].toArray⟩ : ByteArray) ++ ⟨S.toArray⟩ = ⟨(Lib.decDigits n).toArray⟩ := by
      rw [← hdS, Lib.decDigits, dif_pos hle, hx]; exact str_app [UInt8.ofNat (48 + t0)] S
    refine AW.exit ?_
    refine Thn_e ?_
    clear hK K
    refine Thn_e ?_
    refine InB_here ?_
    refine Thn_n ?_
    refine hK _ _ ?_
    clear hK K
    refine AW.seq_k fun K hK => ?_
    refine AW.region (by decide) ?_
    simp only [push_cast, Nat.reduceAdd, Nat.reduceMul, Nat.reduceSub, Nat.reduceLeDiff, Nat.reduceLT, Nat.reduceEqDiff, Nat.reduceBEq, Nat.reduceBNe, Nat.reduceMod, Nat.reduceDiv, Int.reduceLE, Int.reduceLT, Int.reduceToNat, Int.reduceAdd, Int.reduceSub, Int.reduceMul, Int.reduceNeg, Int.reduceEq, Int.reduceBEq, Int.reduceBNe, ↓reduceIte, reduceCtorEq, String.reduceBNe, String.reduceEq, reduceDIte, Nat.reducePow, w2, w3, s1, s3, s4, str_size]
    refine Thn_n ?_
    refine hK _ _ ?_
    clear hK K
    refine AW.ret ?_
    refine hQ _ _ _ ?_
    first | refine RetP.drop0 (Or.inr rfl) ?_ ?_ hwf | refine RetP.drop (Or.inr rfl) ?_ ?_ hwf
    · simp only [resA, resOne, resTv, AV.tv, push_cast, Nat.reduceAdd, Nat.reduceMul, Nat.reduceSub, Nat.reduceLeDiff, Nat.reduceLT, Nat.reduceEqDiff, Nat.reduceBEq, Nat.reduceBNe, Nat.reduceMod, Nat.reduceDiv, Int.reduceLE, Int.reduceLT, Int.reduceToNat, Int.reduceAdd, Int.reduceSub, Int.reduceMul, Int.reduceNeg, Int.reduceEq, Int.reduceBEq, Int.reduceBNe, ↓reduceIte, reduceCtorEq, String.reduceBNe, String.reduceEq, reduceDIte, Nat.reducePow, w2, w3, s1, s3, s4, str_size]
    · rfl
end Go.Proofs.YtlhppfdokgeijaaDoor

set_option linter.unusedSimpArgs false
set_option linter.unusedVariables false
set_option maxRecDepth 100000
set_option maxHeartbeats 4000000
namespace Go.Proofs.YtlhppfdokgeijaaDoor
open Go Go.Eng

theorem text_nz (a : Int) (n q r : Nat) (P D E : List UInt8) (hP : (⟨#[45]⟩ : ByteArray) = ⟨P.toArray⟩) (hPl : P.length ≤ 1) (hD : Lib.decDigits q = D) (hE : (⟨#[46]⟩ : ByteArray) = ⟨E.toArray⟩) (hEl : E.length = 1) (hh : heldI a = -(n : Int)) (hq : q = n / 65536) (hr : r = n % 65536) (hn : n ≤ 2147483648) (hp : 0 < n) (hz : r = 0) (m : AMem) (hg3 : gB m 3 = some (Lib.pow10Tab.map (CV.int .u64))) : Ctr Tryd.prog 37 [.one (.int .i64 a)] m (.one (.str ⟨((P ++ D)).toArray⟩)) m := by
  refine Ctr.enter Tryd.func37 rfl (by decide) (rs := [.tmp 2]) (nt := 34) rfl rfl fun hwf Q hQ => ?_
  have w0 : IntKind.i64.wrap (0 - -(n : Int)) = (n : Int) := by rw [wi (by omega)]; omega
  have c1 : decide (-(n : Int) < 0) = true := decide_eq_true (by omega)
  have hr6 : r < 65536 := by omega
  have hd6 := dec_len_le q
  have hq6 : q ≤ 32768 := by omega
  have q1 : (n : Int) / 65536 = (q : Int) := by omega
  have q2 : (n : Int) % 65536 = (r : Int) := by omega
  have q3 : (n : Int).tdiv 65536 = (q : Int) := by rw [Int.tdiv_eq_ediv_of_nonneg (by omega), q1]
  have q4 : (n : Int).tmod 65536 = (r : Int) := by rw [Int.tmod_eq_emod_of_nonneg (by omega), q2]
  have wq : IntKind.i64.wrap (q : Int) = (q : Int) := wi (by omega)
  have wqu : IntKind.u64.wrap (q : Int) = (q : Int) := wu64 (by omega)
  have wr : IntKind.i64.wrap (r : Int) = (r : Int) := wi (by omega)
  rw [hD] at hd6
  have l1 : P.length + D.length ≤ 9223372036854775807 := by omega
  have l2 : P.length + (D.length + E.length) ≤ 9223372036854775807 := by omega
  have c2 : decide (0 < (r : Int)) = false := decide_eq_false (by omega)
  refine AW.seq_k fun K hK => ?_
  refine AW.region (by decide) ?_
  simp only [push_cast, Nat.reduceAdd, Nat.reduceMul, Nat.reduceSub, Nat.reduceLeDiff, Nat.reduceLT, Nat.reduceEqDiff, Nat.reduceBEq, Nat.reduceBNe, Nat.reduceMod, Nat.reduceDiv, Int.reduceLE, Int.reduceLT, Int.reduceToNat, Int.reduceAdd, Int.reduceSub, Int.reduceMul, Int.reduceNeg, Int.reduceEq, Int.reduceBEq, Int.reduceBNe, ↓reduceIte, reduceCtorEq, String.reduceBNe, String.reduceEq, reduceDIte, Nat.reducePow, hh, w0, c1, c2, q1, q2, q3, q4, wq, wqu, wr, hP, hD, hE, l1, l2, pow16, shr16, and_part, str_app, str_size]
  refine Thn_n ?_
  refine hK _ _ ?_
  clear hK K
  refine AW.seq_k fun K hK => ?_
  refine AW.region (by decide) ?_
  simp only [push_cast, Nat.reduceAdd, Nat.reduceMul, Nat.reduceSub, Nat.reduceLeDiff, Nat.reduceLT, Nat.reduceEqDiff, Nat.reduceBEq, Nat.reduceBNe, Nat.reduceMod, Nat.reduceDiv, Int.reduceLE, Int.reduceLT, Int.reduceToNat, Int.reduceAdd, Int.reduceSub, Int.reduceMul, Int.reduceNeg, Int.reduceEq, Int.reduceBEq, Int.reduceBNe, ↓reduceIte, reduceCtorEq, String.reduceBNe, String.reduceEq, reduceDIte, Nat.reducePow, hh, w0, c1, c2, q1, q2, q3, q4, wq, wqu, wr, hP, hD, hE, l1, l2, pow16, shr16, and_part, str_app, str_size]
  refine CThen.by (in_c a _) ?_
  simp only [push_cast, Nat.reduceAdd, Nat.reduceMul, Nat.reduceSub, Nat.reduceLeDiff, Nat.reduceLT, Nat.reduceEqDiff, Nat.reduceBEq, Nat.reduceBNe, Nat.reduceMod, Nat.reduceDiv, Int.reduceLE, Int.reduceLT, Int.reduceToNat, Int.reduceAdd, Int.reduceSub, Int.reduceMul, Int.reduceNeg, Int.reduceEq, Int.reduceBEq, Int.reduceBNe, ↓reduceIte, reduceCtorEq, String.reduceBNe, String.reduceEq, reduceDIte, Nat.reducePow, hh, w0, c1, c2, q1, q2, q3, q4, wq, wqu, wr, hP, hD, hE, l1, l2, pow16, shr16, and_part, str_app, str_size]
  refine Thn_n ?_
  refine hK _ _ ?_
  clear hK K
  refine AW.seq_k fun K hK => ?_
  refine AW.seq_k fun K hK => ?_
  refine AW.region (by decide) ?_
  simp only [push_cast, Nat.reduceAdd, Nat.reduceMul, Nat.reduceSub, Nat.reduceLeDiff, Nat.reduceLT, Nat.reduceEqDiff, Nat.reduceBEq, Nat.reduceBNe, Nat.reduceMod, Nat.reduceDiv, Int.reduceLE, Int.reduceLT, Int.reduceToNat, Int.reduceAdd, Int.reduceSub, Int.reduceMul, Int.reduceNeg, Int.reduceEq, Int.reduceBEq, Int.reduceBNe, ↓reduceIte, reduceCtorEq, String.reduceBNe, String.reduceEq, reduceDIte, Nat.reducePow, hh, w0, c1, c2, q1, q2, q3, q4, wq, wqu, wr, hP, hD, hE, l1, l2, pow16, shr16, and_part, str_app, str_size]
  refine Thn_n ?_
  refine hK _ _ ?_
  clear hK K
  refine AW.cond_t rfl ?_
  refine AW.region (by decide) ?_
  simp only [push_cast, Nat.reduceAdd, Nat.reduceMul, Nat.reduceSub, Nat.reduceLeDiff, Nat.reduceLT, Nat.reduceEqDiff, Nat.reduceBEq, Nat.reduceBNe, Nat.reduceMod, Nat.reduceDiv, Int.reduceLE, Int.reduceLT, Int.reduceToNat, Int.reduceAdd, Int.reduceSub, Int.reduceMul, Int.reduceNeg, Int.reduceEq, Int.reduceBEq, Int.reduceBNe, ↓reduceIte, reduceCtorEq, String.reduceBNe, String.reduceEq, reduceDIte, Nat.reducePow, hh, w0, c1, c2, q1, q2, q3, q4, wq, wqu, wr, hP, hD, hE, l1, l2, pow16, shr16, and_part, str_app, str_size]
  refine Thn_n ?_
  refine hK _ _ ?_
  clear hK K
  refine AW.seq_k fun K hK => ?_
  refine AW.region (by decide) ?_
  simp only [push_cast, Nat.reduceAdd, Nat.reduceMul, Nat.reduceSub, Nat.reduceLeDiff, Nat.reduceLT, Nat.reduceEqDiff, Nat.reduceBEq, Nat.reduceBNe, Nat.reduceMod, Nat.reduceDiv, Int.reduceLE, Int.reduceLT, Int.reduceToNat, Int.reduceAdd, Int.reduceSub, Int.reduceMul, Int.reduceNeg, Int.reduceEq, Int.reduceBEq, Int.reduceBNe, ↓reduceIte, reduceCtorEq, String.reduceBNe, String.reduceEq, reduceDIte, Nat.reducePow, hh, w0, c1, c2, q1, q2, q3, q4, wq, wqu, wr, hP, hD, hE, l1, l2, pow16, shr16, and_part, str_app, str_size]
  refine CThen.by (fmt_c q (by omega) _ hg3) ?_
  simp only [push_cast, Nat.reduceAdd, Nat.reduceMul, Nat.reduceSub, Nat.reduceLeDiff, Nat.reduceLT, Nat.reduceEqDiff, Nat.reduceBEq, Nat.reduceBNe, Nat.reduceMod, Nat.reduceDiv, Int.reduceLE, Int.reduceLT, Int.reduceToNat, Int.reduceAdd, Int.reduceSub, Int.reduceMul, Int.reduceNeg, Int.reduceEq, Int.reduceBEq, Int.reduceBNe, ↓reduceIte, reduceCtorEq, String.reduceBNe, String.reduceEq, reduceDIte, Nat.reducePow, hh, w0, c1, c2, q1, q2, q3, q4, wq, wqu, wr, hP, hD, hE, l1, l2, pow16, shr16, and_part, str_app, str_size]
  refine Thn_n ?_
  refine hK _ _ ?_
  clear hK K
  refine AW.seq_k fun K hK => ?_
  iterate 2
    refine AW.seq_k fun K hK => ?_
    refine AW.region (by decide) ?_
    simp only [push_cast, Nat.reduceAdd, Nat.reduceMul, Nat.reduceSub, Nat.reduceLeDiff, Nat.reduceLT, Nat.reduceEqDiff, Nat.reduceBEq, Nat.reduceBNe, Nat.reduceMod, Nat.reduceDiv, Int.reduceLE, Int.reduceLT, Int.reduceToNat, Int.reduceAdd, Int.reduceSub, Int.reduceMul, Int.reduceNeg, Int.reduceEq, Int.reduceBEq, Int.reduceBNe, ↓reduceIte, reduceCtorEq, String.reduceBNe, String.reduceEq, reduceDIte, Nat.reducePow, hh, w0, c1, c2, q1, q2, q3, q4, wq, wqu, wr, hP, hD, hE, l1, l2, pow16, shr16, and_part, str_app, str_size]
    refine Thn_n ?_
    refine hK _ _ ?_
    clear hK K
  refine AW.cond_f rfl ?_
  refine AW.skip ?_
  refine Thn_n ?_
  refine hK _ _ ?_
  clear hK K
  refine AW.seq_k fun K hK => ?_
  refine AW.block ?_
  refine AW.rounds 1 ?_
  refine ARounds.succ fun K hK => ?_
  refine AW.seq_k fun K hK => ?_
  refine AW.seq_k fun K hK => ?_
  refine AW.region (by decide) ?_
  simp only [push_cast, Nat.reduceAdd, Nat.reduceMul, Nat.reduceSub, Nat.reduceLeDiff, Nat.reduceLT, Nat.reduceEqDiff, Nat.reduceBEq, Nat.reduceBNe, Nat.reduceMod, Nat.reduceDiv, Int.reduceLE, Int.reduceLT, Int.reduceToNat, Int.reduceAdd, Int.reduceSub, Int.reduceMul, Int.reduceNeg, Int.reduceEq, Int.reduceBEq, Int.reduceBNe, ↓reduceIte, reduceCtorEq, String.reduceBNe, String.reduceEq, reduceDIte, Nat.reducePow, hh, w0, c1, c2, q1, q2, q3, q4, wq, wqu, wr, hP, hD, hE, l1, l2, pow16, shr16, and_part, str_app, str_size]
  refine Thn_n ?_
  refine hK _ _ ?_
  clear hK K
  refine AW.cond_f rfl ?_
  refine AW.exit ?_
  refine Thn_e ?_
  clear hK K
  refine Thn_e ?_
  clear hK K
  refine InB_here ?_
  refine Thn_n ?_
  refine hK _ _ ?_
  clear hK K
  refine AW.seq_k fun K hK => ?_
  refine AW.region (by decide) ?_
  simp only [push_cast, Nat.reduceAdd, Nat.reduceMul, Nat.reduceSub, Nat.reduceLeDiff, Nat.reduceLT, Nat.reduceEqDiff, Nat.reduceBEq, Nat.reduceBNe, Nat.reduceMod, Nat.reduceDiv, Int.reduceLE, Int.reduceLT, Int.reduceToNat, Int.reduceAdd, Int.reduceSub, Int.reduceMul, Int.reduceNeg, Int.reduceEq, Int.reduceBEq, Int.reduceBNe, ↓reduceIte, reduceCtorEq, String.reduceBNe, String.reduceEq, reduceDIte, Nat.reducePow, hh, w0, c1, c2, q1, q2, q3, q4, wq, wqu, wr, hP, hD, hE, l1, l2, pow16, shr16, and_part, str_app, str_size]
  refine Thn_n ?_
  refine hK _ _ ?_
  clear hK K
  refine AW.ret ?_
  refine hQ _ _ _ ?_
  first | refine RetP.drop0 (Or.inr rfl) ?_ ?_ hwf | refine RetP.drop (Or.inr rfl) ?_ ?_ hwf
  · simp only [resA, resOne, resTv, AV.tv, push_cast, Nat.reduceAdd, Nat.reduceMul, Nat.reduceSub, Nat.reduceLeDiff, Nat.reduceLT, Nat.reduceEqDiff, Nat.reduceBEq, Nat.reduceBNe, Nat.reduceMod, Nat.reduceDiv, Int.reduceLE, Int.reduceLT, Int.reduceToNat, Int.reduceAdd, Int.reduceSub, Int.reduceMul, Int.reduceNeg, Int.reduceEq, Int.reduceBEq, Int.reduceBNe, ↓reduceIte, reduceCtorEq, String.reduceBNe, String.reduceEq, reduceDIte, Nat.reducePow, hh, w0, c1, c2, q1, q2, q3, q4, wq, wqu, wr, hP, hD, hE, l1, l2, pow16, shr16, and_part, str_app, str_size]
  · rfl
theorem text_nf (a : Int) (n q r : Nat) (P D E : List UInt8) (hP : (⟨#[45]⟩ : ByteArray) = ⟨P.toArray⟩) (hPl : P.length ≤ 1) (hD : Lib.decDigits q = D) (hE : (⟨#[46]⟩ : ByteArray) = ⟨E.toArray⟩) (hEl : E.length = 1) (hh : heldI a = -(n : Int)) (hq : q = n / 65536) (hr : r = n % 65536) (hn : n ≤ 2147483648) (hp : 0 < n) (hz : r ≠ 0) (L : Nat) (hL16 : L ≤ 16) (hL : ∀ j, j < L → rm r j ≠ 0) (hL0 : rm r L = 0) (m : AMem) (hg3 : gB m 3 = some (Lib.pow10Tab.map (CV.int .u64))) : Ctr Tryd.prog 37 [.one (.int .i64 a)] m (.one (.str ⟨((P ++ (D ++ (E ++ dsL r L)))).toArray⟩)) m := by
  refine Ctr.enter Tryd.func37 rfl (by decide) (rs := [.tmp 2]) (nt := 34) rfl rfl fun hwf Q hQ => ?_
  have w0 : IntKind.i64.wrap (0 - -(n : Int)) = (n : Int) := by rw [wi (by omega)]; omega
  have c1 : decide (-(n : Int) < 0) = true := decide_eq_true (by omega)
  have hr6 : r < 65536 := by omega
  have hd6 := dec_len_le q
  have hq6 : q ≤ 32768 := by omega
  have q1 : (n : Int) / 65536 = (q : Int) := by omega
  have q2 : (n : Int) % 65536 = (r : Int) := by omega
  have q3 : (n : Int).tdiv 65536 = (q : Int) := by rw [Int.tdiv_eq_ediv_of_nonneg (by omega), q1]
  have q4 : (n : Int).tmod 65536 = (r : Int) := by rw [Int.tmod_eq_emod_of_nonneg (by omega), q2]
  have wq : IntKind.i64.wrap (q : Int) = (q : Int) := wi (by omega)
  have wqu : IntKind.u64.wrap (q : Int) = (q : Int) := wu64 (by omega)
  have wr : IntKind.i64.wrap (r : Int) = (r : Int) := wi (by omega)
  rw [hD] at hd6
  have l1 : P.length + D.length ≤ 9223372036854775807 := by omega
  have l2 : P.length + (D.length + E.length) ≤ 9223372036854775807 := by omega
  have c2 : decide (0 < (r : Int)) = true := decide_eq_true (by omega)
  have hS0 : E ++ dsL r 0 = E := List.append_nil _
  refine AW.seq_k fun K hK => ?_
  refine AW.region (by decide) ?_
  simp only [push_cast, Nat.reduceAdd, Nat.reduceMul, Nat.reduceSub, Nat.reduceLeDiff, Nat.reduceLT, Nat.reduceEqDiff, Nat.reduceBEq, Nat.reduceBNe, Nat.reduceMod, Nat.reduceDiv, Int.reduceLE, Int.reduceLT, Int.reduceToNat, Int.reduceAdd, Int.reduceSub, Int.reduceMul, Int.reduceNeg, Int.reduceEq, Int.reduceBEq, Int.reduceBNe, ↓reduceIte, reduceCtorEq, String.reduceBNe, String.reduceEq, reduceDIte, Nat.reducePow, hh, w0, c1, c2, q1, q2, q3, q4, wq, wqu, wr, hP, hD, hE, l1, l2, pow16, shr16, and_part, str_app, str_size]
  refine Thn_n ?_
  refine hK _ _ ?_
  clear hK K
  refine AW.seq_k fun K hK => ?_
  refine AW.region (by decide) ?_
  simp only [push_cast, Nat.reduceAdd, Nat.reduceMul, Nat.reduceSub, Nat.reduceLeDiff, Nat.reduceLT, Nat.reduceEqDiff, Nat.reduceBEq, Nat.reduceBNe, Nat.reduceMod, Nat.reduceDiv, Int.reduceLE, Int.reduceLT, Int.reduceToNat, Int.reduceAdd, Int.reduceSub, Int.reduceMul, Int.reduceNeg, Int.reduceEq, Int.reduceBEq, Int.reduceBNe, ↓reduceIte, reduceCtorEq, String.reduceBNe, String.reduceEq, reduceDIte, Nat.reducePow, hh, w0, c1, c2, q1, q2, q3, q4, wq, wqu, wr, hP, hD, hE, l1, l2, pow16, shr16, and_part, str_app, str_size]
  refine CThen.by (in_c a _) ?_
  simp only [push_cast, Nat.reduceAdd, Nat.reduceMul, Nat.reduceSub, Nat.reduceLeDiff, Nat.reduceLT, Nat.reduceEqDiff, Nat.reduceBEq, Nat.reduceBNe, Nat.reduceMod, Nat.reduceDiv, Int.reduceLE, Int.reduceLT, Int.reduceToNat, Int.reduceAdd, Int.reduceSub, Int.reduceMul, Int.reduceNeg, Int.reduceEq, Int.reduceBEq, Int.reduceBNe, ↓reduceIte, reduceCtorEq, String.reduceBNe, String.reduceEq, reduceDIte, Nat.reducePow, hh, w0, c1, c2, q1, q2, q3, q4, wq, wqu, wr, hP, hD, hE, l1, l2, pow16, shr16, and_part, str_app, str_size]
  refine Thn_n ?_
  refine hK _ _ ?_
  clear hK K
  refine AW.seq_k fun K hK => ?_
  refine AW.seq_k fun K hK => ?_
  refine AW.region (by decide) ?_
  simp only [push_cast, Nat.reduceAdd, Nat.reduceMul, Nat.reduceSub, Nat.reduceLeDiff, Nat.reduceLT, Nat.reduceEqDiff, Nat.reduceBEq, Nat.reduceBNe, Nat.reduceMod, Nat.reduceDiv, Int.reduceLE, Int.reduceLT, Int.reduceToNat, Int.reduceAdd, Int.reduceSub, Int.reduceMul, Int.reduceNeg, Int.reduceEq, Int.reduceBEq, Int.reduceBNe, ↓reduceIte, reduceCtorEq, String.reduceBNe, String.reduceEq, reduceDIte, Nat.reducePow, hh, w0, c1, c2, q1, q2, q3, q4, wq, wqu, wr, hP, hD, hE, l1, l2, pow16, shr16, and_part, str_app, str_size]
  refine Thn_n ?_
  refine hK _ _ ?_
  clear hK K
  refine AW.cond_t rfl ?_
  refine AW.region (by decide) ?_
  simp only [push_cast, Nat.reduceAdd, Nat.reduceMul, Nat.reduceSub, Nat.reduceLeDiff, Nat.reduceLT, Nat.reduceEqDiff, Nat.reduceBEq, Nat.reduceBNe, Nat.reduceMod, Nat.reduceDiv, Int.reduceLE, Int.reduceLT, Int.reduceToNat, Int.reduceAdd, Int.reduceSub, Int.reduceMul, Int.reduceNeg, Int.reduceEq, Int.reduceBEq, Int.reduceBNe, ↓reduceIte, reduceCtorEq, String.reduceBNe, String.reduceEq, reduceDIte, Nat.reducePow, hh, w0, c1, c2, q1, q2, q3, q4, wq, wqu, wr, hP, hD, hE, l1, l2, pow16, shr16, and_part, str_app, str_size]
  refine Thn_n ?_
  refine hK _ _ ?_
  clear hK K
  refine AW.seq_k fun K hK => ?_
  refine AW.region (by decide) ?_
  simp only [push_cast, Nat.reduceAdd, Nat.reduceMul, Nat.reduceSub, Nat.reduceLeDiff, Nat.reduceLT, Nat.reduceEqDiff, Nat.reduceBEq, Nat.reduceBNe, Nat.reduceMod, Nat.reduceDiv, Int.reduceLE, Int.reduceLT, Int.reduceToNat, Int.reduceAdd, Int.reduceSub, Int.reduceMul, Int.reduceNeg, Int.reduceEq, Int.reduceBEq, Int.reduceBNe, ↓reduceIte, reduceCtorEq, String.reduceBNe, String.reduceEq, reduceDIte, Nat.reducePow, hh, w0, c1, c2, q1, q2, q3, q4, wq, wqu, wr, hP, hD, hE, l1, l2, pow16, shr16, and_part, str_app, str_size]
  refine CThen.by (fmt_c q (by omega) _ hg3) ?_
  simp only [push_cast, Nat.reduceAdd, Nat.reduceMul, Nat.reduceSub, Nat.reduceLeDiff, Nat.reduceLT, Nat.reduceEqDiff, Nat.reduceBEq, Nat.reduceBNe, Nat.reduceMod, Nat.reduceDiv, Int.reduceLE, Int.reduceLT, Int.reduceToNat, Int.reduceAdd, Int.reduceSub, Int.reduceMul, Int.reduceNeg, Int.reduceEq, Int.reduceBEq, Int.reduceBNe, ↓reduceIte, reduceCtorEq, String.reduceBNe, String.reduceEq, reduceDIte, Nat.reducePow, hh, w0, c1, c2, q1, q2, q3, q4, wq, wqu, wr, hP, hD, hE, l1, l2, pow16, shr16, and_part, str_app, str_size]
  refine Thn_n ?_
  refine hK _ _ ?_
  clear hK K
  refine AW.seq_k fun K hK => ?_
  iterate 2
    refine AW.seq_k fun K hK => ?_
    refine AW.region (by decide) ?_
    simp only [push_cast, Nat.reduceAdd, Nat.reduceMul, Nat.reduceSub, Nat.reduceLeDiff, Nat.reduceLT, Nat.reduceEqDiff, Nat.reduceBEq, Nat.reduceBNe, Nat.reduceMod, Nat.reduceDiv, Int.reduceLE, Int.reduceLT, Int.reduceToNat, Int.reduceAdd, Int.reduceSub, Int.reduceMul, Int.reduceNeg, Int.reduceEq, Int.reduceBEq, Int.reduceBNe, ↓reduceIte, reduceCtorEq, String.reduceBNe, String.reduceEq, reduceDIte, Nat.reducePow, hh, w0, c1, c2, q1, q2, q3, q4, wq, wqu, wr, hP, hD, hE, l1, l2, pow16, shr16, and_part, str_app, str_size]
    refine Thn_n ?_
    refine hK _ _ ?_
    clear hK K
  refine AW.cond_t rfl ?_
  refine AW.region (by decide) ?_
  simp only [push_cast, Nat.reduceAdd, Nat.reduceMul, Nat.reduceSub, Nat.reduceLeDiff, Nat.reduceLT, Nat.reduceEqDiff, Nat.reduceBEq, Nat.reduceBNe, Nat.reduceMod, Nat.reduceDiv, Int.reduceLE, Int.reduceLT, Int.reduceToNat, Int.reduceAdd, Int.reduceSub, Int.reduceMul, Int.reduceNeg, Int.reduceEq, Int.reduceBEq, Int.reduceBNe, ↓reduceIte, reduceCtorEq, String.reduceBNe, String.reduceEq, reduceDIte, Nat.reducePow, hh, w0, c1, c2, q1, q2, q3, q4, wq, wqu, wr, hP, hD, hE, l1, l2, pow16, shr16, and_part, str_app, str_size]
  refine Thn_n ?_
  refine hK _ _ ?_
  clear hK K
  refine AW.seq_k fun K hK => ?_
  refine AW.block ?_
  refine AW.loopK [] (fun i => i ≤ L) (fun i => [(3, .one (.int .i64 (rm r i : Int))), (4, .one (.str ⟨(P ++ (D ++ (E ++ dsL r i))).toArray⟩))]) (fun i => []) (fun i => L - i) 0 (Nat.zero_le _) ?_ ?_ fun i hi10 => ?_
  · first | rfl | (simp only [Keeps, Tm.get_cons, Nat.reduceEqDiff, ↓reduceIte, if_true, if_false, ite_true, ite_false, true_and, and_true, and_self, reduceCtorEq, hS0] <;> rfl)
  · first | rfl | (simp only [setAll, push_cast, Nat.reduceAdd, Nat.reduceMul, Nat.reduceSub, Nat.reduceLeDiff, Nat.reduceLT, Nat.reduceEqDiff, Nat.reduceBEq, Nat.reduceBNe, Nat.reduceMod, Nat.reduceDiv, Int.reduceLE, Int.reduceLT, Int.reduceToNat, Int.reduceAdd, Int.reduceSub, Int.reduceMul, Int.reduceNeg, Int.reduceEq, Int.reduceBEq, Int.reduceBNe, ↓reduceIte, reduceCtorEq, String.reduceBNe, String.reduceEq, reduceDIte, Nat.reducePow, hh, w0, c1, c2, q1, q2, q3, q4, wq, wqu, wr, hP, hD, hE, l1, l2, pow16, shr16, and_part, str_app, str_size] <;> rfl)
  have hiL := hi10
  have hi6 := rm_lt hr6 i
  obtain ⟨x0, hx0⟩ : ∃ x0, x0 = rm r i := ⟨_, rfl⟩
  rw [← hx0]
  rw [← hx0] at hi6
  obtain ⟨d, hd⟩ : ∃ d, d = x0 * 10 / 65536 := ⟨_, rfl⟩
  obtain ⟨r', hr'⟩ : ∃ r', r' = x0 * 10 % 65536 := ⟨_, rfl⟩
  have hr2 : rm r (i + 1) = r' := by rw [hr', hx0]; rfl
  try simp only [keepL, setAll, push_cast, Nat.reduceAdd, Nat.reduceMul, Nat.reduceSub, Nat.reduceLeDiff, Nat.reduceLT, Nat.reduceEqDiff, Nat.reduceBEq, Nat.reduceBNe, Nat.reduceMod, Nat.reduceDiv, Int.reduceLE, Int.reduceLT, Int.reduceToNat, Int.reduceAdd, Int.reduceSub, Int.reduceMul, Int.reduceNeg, Int.reduceEq, Int.reduceBEq, Int.reduceBNe, ↓reduceIte, reduceCtorEq, String.reduceBNe, String.reduceEq, reduceDIte, Nat.reducePow, hh, w0, c1, c2, q1, q2, q3, q4, wq, wqu, wr, hP, hD, hE, l1, l2, pow16, shr16, and_part, str_app, str_size]
  refine AW.seq_k fun K hK => ?_
  refine AW.seq_k fun K hK => ?_
  refine AW.region (by decide) ?_
  simp only [push_cast, Nat.reduceAdd, Nat.reduceMul, Nat.reduceSub, Nat.reduceLeDiff, Nat.reduceLT, Nat.reduceEqDiff, Nat.reduceBEq, Nat.reduceBNe, Nat.reduceMod, Nat.reduceDiv, Int.reduceLE, Int.reduceLT, Int.reduceToNat, Int.reduceAdd, Int.reduceSub, Int.reduceMul, Int.reduceNeg, Int.reduceEq, Int.reduceBEq, Int.reduceBNe, ↓reduceIte, reduceCtorEq, String.reduceBNe, String.reduceEq, reduceDIte, Nat.reducePow, hh, w0, c1, c2, q1, q2, q3, q4, wq, wqu, wr, hP, hD, hE, l1, l2, pow16, shr16, and_part, str_app, str_size]
  refine Thn_n ?_
  refine hK _ _ ?_
  clear hK K
  refine AW.cond rfl (fun h23 => ?_) (fun h23 => ?_)
  · have hx : 0 < x0 := by have := of_decide_eq_true h23; omega
    have hiLt : i < L := by
      rcases Nat.lt_or_ge i L with h | h
      · exact h
      · have e : i = L := by omega
        rw [e, hL0] at hx0; omega
    have v1 : IntKind.i64.wrap ((x0 : Int) * 10) = (x0 : Int) * 10 := wi (by omega)
    have v2 : ((x0 : Int) * 10) / 65536 = (d : Int) := by omega
    have v3 : ((x0 : Int) * 10) % 65536 = (r' : Int) := by omega
    have v4 : ((x0 : Int) * 10).tdiv 65536 = (d : Int) := by rw [Int.tdiv_eq_ediv_of_nonneg (by omega), v2]
    have v5 : ((x0 : Int) * 10).tmod 65536 = (r' : Int) := by rw [Int.tmod_eq_emod_of_nonneg (by omega), v3]
    have hd10 : d < 10 := by omega
    have v6 : IntKind.i64.wrap (d : Int) = (d : Int) := wi (by omega)
    have v6u : IntKind.u64.wrap (d : Int) = (d : Int) := wu64 (by omega)
    have v7 : IntKind.i64.wrap (r' : Int) = (r' : Int) := wi (by omega)
    obtain ⟨T, hT⟩ : ∃ T, T = [dgt d] := ⟨_, rfl⟩
    have ed : Lib.decDigits d = T := by rw [Lib.decDigits, dif_pos hd10, hT]; rfl
    have edS : dsL r i ++ T = dsL r (i + 1) := by rw [hT, dsL_s, ← hx0, ← hd]
    have l3 : P.length + (D.length + (E.length + ((dsL r i).length + T.length))) ≤ 9223372036854775807 := by
      rw [dsL_len, hT]; show _ + (_ + (_ + (_ + 1))) ≤ _; omega
    refine AW.skip ?_
    refine Thn_n ?_
    refine hK _ _ ?_
    clear hK K
    refine AW.block ?_
    refine AW.seq_k fun K hK => ?_
    refine AW.region (by decide) ?_
    simp only [push_cast, Nat.reduceAdd, Nat.reduceMul, Nat.reduceSub, Nat.reduceLeDiff, Nat.reduceLT, Nat.reduceEqDiff, Nat.reduceBEq, Nat.reduceBNe, Nat.reduceMod, Nat.reduceDiv, Int.reduceLE, Int.reduceLT, Int.reduceToNat, Int.reduceAdd, Int.reduceSub, Int.reduceMul, Int.reduceNeg, Int.reduceEq, Int.reduceBEq, Int.reduceBNe, ↓reduceIte, reduceCtorEq, String.reduceBNe, String.reduceEq, reduceDIte, Nat.reducePow, hh, w0, c1, c2, q1, q2, q3, q4, wq, wqu, wr, hP, hD, hE, l1, l2, pow16, shr16, and_part, str_app, str_size, v1, v2, v3, v4, v5, v6, v6u, v7, ed, edS, l3, hr2]
    refine Thn_n ?_
    refine hK _ _ ?_
    clear hK K
    refine AW.seq_k fun K hK => ?_
    refine AW.region (by decide) ?_
    simp only [push_cast, Nat.reduceAdd, Nat.reduceMul, Nat.reduceSub, Nat.reduceLeDiff, Nat.reduceLT, Nat.reduceEqDiff, Nat.reduceBEq, Nat.reduceBNe, Nat.reduceMod, Nat.reduceDiv, Int.reduceLE, Int.reduceLT, Int.reduceToNat, Int.reduceAdd, Int.reduceSub, Int.reduceMul, Int.reduceNeg, Int.reduceEq, Int.reduceBEq, Int.reduceBNe, ↓reduceIte, reduceCtorEq, String.reduceBNe, String.reduceEq, reduceDIte, Nat.reducePow, hh, w0, c1, c2, q1, q2, q3, q4, wq, wqu, wr, hP, hD, hE, l1, l2, pow16, shr16, and_part, str_app, str_size, v1, v2, v3, v4, v5, v6, v6u, v7, ed, edS, l3, hr2]
    refine CThen.by (fmt_c d (by omega) _ hg3) ?_
    simp only [push_cast, Nat.reduceAdd, Nat.reduceMul, Nat.reduceSub, Nat.reduceLeDiff, Nat.reduceLT, Nat.reduceEqDiff, Nat.reduceBEq, Nat.reduceBNe, Nat.reduceMod, Nat.reduceDiv, Int.reduceLE, Int.reduceLT, Int.reduceToNat, Int.reduceAdd, Int.reduceSub, Int.reduceMul, Int.reduceNeg, Int.reduceEq, Int.reduceBEq, Int.reduceBNe, ↓reduceIte, reduceCtorEq, String.reduceBNe, String.reduceEq, reduceDIte, Nat.reducePow, hh, w0, c1, c2, q1, q2, q3, q4, wq, wqu, wr, hP, hD, hE, l1, l2, pow16, shr16, and_part, str_app, str_size, v1, v2, v3, v4, v5, v6, v6u, v7, ed, edS, l3, hr2]
    refine Thn_n ?_
    refine hK _ _ ?_
    clear hK K
    refine AW.region (by decide) ?_
    simp only [push_cast, Nat.reduceAdd, Nat.reduceMul, Nat.reduceSub, Nat.reduceLeDiff, Nat.reduceLT, Nat.reduceEqDiff, Nat.reduceBEq, Nat.reduceBNe, Nat.reduceMod, Nat.reduceDiv, Int.reduceLE, Int.reduceLT, Int.reduceToNat, Int.reduceAdd, Int.reduceSub, Int.reduceMul, Int.reduceNeg, Int.reduceEq, Int.reduceBEq, Int.reduceBNe, ↓reduceIte, reduceCtorEq, String.reduceBNe, String.reduceEq, reduceDIte, Nat.reducePow, hh, w0, c1, c2, q1, q2, q3, q4, wq, wqu, wr, hP, hD, hE, l1, l2, pow16, shr16, and_part, str_app, str_size, v1, v2, v3, v4, v5, v6, v6u, v7, ed, edS, l3, hr2]
    refine InB_n ?_
    refine Thn_n ?_
    refine ⟨i + 1, (by show i + 1 ≤ L; omega), (by show L - (i + 1) < L - i; omega), ?_⟩
    try simp only [keepL, setAll, push_cast, Nat.reduceAdd, Nat.reduceMul, Nat.reduceSub, Nat.reduceLeDiff, Nat.reduceLT, Nat.reduceEqDiff, Nat.reduceBEq, Nat.reduceBNe, Nat.reduceMod, Nat.reduceDiv, Int.reduceLE, Int.reduceLT, Int.reduceToNat, Int.reduceAdd, Int.reduceSub, Int.reduceMul, Int.reduceNeg, Int.reduceEq, Int.reduceBEq, Int.reduceBNe, ↓reduceIte, reduceCtorEq, String.reduceBNe, String.reduceEq, reduceDIte, Nat.reducePow, hh, w0, c1, c2, q1, q2, q3, q4, wq, wqu, wr, hP, hD, hE, l1, l2, pow16, shr16, and_part, str_app, str_size, v1, v2, v3, v4, v5, v6, v6u, v7, ed, edS, l3, hr2]
    exact Weak.same (by simp only [Keeps, Tm.get_cons, Nat.reduceEqDiff, ↓reduceIte, if_true, if_false, ite_true, ite_false, true_and, and_true, and_self, reduceCtorEq]) (by first | rfl | simp only [Keeps, Tm.get_cons, Nat.reduceEqDiff, ↓reduceIte, if_true, if_false, ite_true, ite_false, true_and, and_true, and_self, reduceCtorEq])
  · have hx : x0 = 0 := by have := of_decide_eq_false h23; omega
    have hi' : i = L := by
      rcases Nat.lt_or_ge i L with h | h
      · exact absurd (hx0.symm.trans hx) (hL i h)
      · omega
    subst hi'
    refine AW.exit ?_
    refine Thn_e ?_
    clear hK K
    refine Thn_e ?_
    refine InB_here ?_
    refine Thn_n ?_
    refine hK _ _ ?_
    clear hK K
    refine AW.seq_k fun K hK => ?_
    refine AW.region (by decide) ?_
    simp only [push_cast, Nat.reduceAdd, Nat.reduceMul, Nat.reduceSub, Nat.reduceLeDiff, Nat.reduceLT, Nat.reduceEqDiff, Nat.reduceBEq, Nat.reduceBNe, Nat.reduceMod, Nat.reduceDiv, Int.reduceLE, Int.reduceLT, Int.reduceToNat, Int.reduceAdd, Int.reduceSub, Int.reduceMul, Int.reduceNeg, Int.reduceEq, Int.reduceBEq, Int.reduceBNe, ↓reduceIte, reduceCtorEq, String.reduceBNe, String.reduceEq, reduceDIte, Nat.reducePow, hh, w0, c1, c2, q1, q2, q3, q4, wq, wqu, wr, hP, hD, hE, l1, l2, pow16, shr16, and_part, str_app, str_size]
    refine Thn_n ?_
    refine hK _ _ ?_
    clear hK K
    refine AW.ret ?_
    refine hQ _ _ _ ?_
    first | refine RetP.drop0 (Or.inr rfl) ?_ ?_ hwf | refine RetP.drop (Or.inr rfl) ?_ ?_ hwf
    · simp only [resA, resOne, resTv, AV.tv, push_cast, Nat.reduceAdd, Nat.reduceMul, Nat.reduceSub, Nat.reduceLeDiff, Nat.reduceLT, Nat.reduceEqDiff, Nat.reduceBEq, Nat.reduceBNe, Nat.reduceMod, Nat.reduceDiv, Int.reduceLE, Int.reduceLT, Int.reduceToNat, Int.reduceAdd, Int.reduceSub, Int.reduceMul, Int.reduceNeg, Int.reduceEq, Int.reduceBEq, Int.reduceBNe, ↓reduceIte, reduceCtorEq, String.reduceBNe, String.reduceEq, reduceDIte, Nat.reducePow, hh, w0, c1, c2, q1, q2, q3, q4, wq, wqu, wr, hP, hD, hE, l1, l2, pow16, shr16, and_part, str_app, str_size]
    · rfl
theorem text_pz (a : Int) (n q r : Nat) (P D E : List UInt8) (hP : (⟨#[]⟩ : ByteArray) = ⟨P.toArray⟩) (hPl : P.length ≤ 1) (hD : Lib.decDigits q = D) (hE : (⟨#[46]⟩ : ByteArray) = ⟨E.toArray⟩) (hEl : E.length = 1) (hh : heldI a = (n : Int)) (hq : q = n / 65536) (hr : r = n % 65536) (hn : n ≤ 2147483648) (hz : r = 0) (m : AMem) (hg3 : gB m 3 = some (Lib.pow10Tab.map (CV.int .u64))) : Ctr Tryd.prog 37 [.one (.int .i64 a)] m (.one (.str ⟨((P ++ D)).toArray⟩)) m := by
  refine Ctr.enter Tryd.func37 rfl (by decide) (rs := [.tmp 2]) (nt := 34) rfl rfl fun hwf Q hQ => ?_
  have w0 : IntKind.i64.wrap (n : Int) = (n : Int) := wi (by omega)
  have c1 : decide ((n : Int) < 0) = false := decide_eq_false (by omega)
  have hr6 : r < 65536 := by omega
  have hd6 := dec_len_le q
  have hq6 : q ≤ 32768 := by omega
  have q1 : (n : Int) / 65536 = (q : Int) := by omega
  have q2 : (n : Int) % 65536 = (r : Int) := by omega
  have q3 : (n : Int).tdiv 65536 = (q : Int) := by rw [Int.tdiv_eq_ediv_of_nonneg (by omega), q1]
  have q4 : (n : Int).tmod 65536 = (r : Int) := by rw [Int.tmod_eq_emod_of_nonneg (by omega), q2]
  have wq : IntKind.i64.wrap (q : Int) = (q : Int) := wi (by omega)
  have wqu : IntKind.u64.wrap (q : Int) = (q : Int) := wu64 (by omega)
  have wr : IntKind.i64.wrap (r : Int) = (r : Int) := wi (by omega)
  rw [hD] at hd6
  have l1 : P.length + D.length ≤ 9223372036854775807 := by omega
  have l2 : P.length + (D.length + E.length) ≤ 9223372036854775807 := by omega
  have c2 : decide (0 < (r : Int)) = false := decide_eq_false (by omega)
  refine AW.seq_k fun K hK => ?_
  refine AW.region (by decide) ?_
  simp only [push_cast, Nat.reduceAdd, Nat.reduceMul, Nat.reduceSub, Nat.reduceLeDiff, Nat.reduceLT, Nat.reduceEqDiff, Nat.reduceBEq, Nat.reduceBNe, Nat.reduceMod, Nat.reduceDiv, Int.reduceLE, Int.reduceLT, Int.reduceToNat, Int.reduceAdd, Int.reduceSub, Int.reduceMul, Int.reduceNeg, Int.reduceEq, Int.reduceBEq, Int.reduceBNe, ↓reduceIte, reduceCtorEq, String.reduceBNe, String.reduceEq, reduceDIte, Nat.reducePow, hh, w0, c1, c2, q1, q2, q3, q4, wq, wqu, wr, hP, hD, hE, l1, l2, pow16, shr16, and_part, str_app, str_size]
  refine Thn_n ?_
  refine hK _ _ ?_
  clear hK K
  refine AW.seq_k fun K hK => ?_
  refine AW.region (by decide) ?_
  simp only [push_cast, Nat.reduceAdd, Nat.reduceMul, Nat.reduceSub, Nat.reduceLeDiff, Nat.reduceLT, Nat.reduceEqDiff, Nat.reduceBEq, Nat.reduceBNe, Nat.reduceMod, Nat.reduceDiv, Int.reduceLE, Int.reduceLT, Int.reduceToNat, Int.reduceAdd, Int.reduceSub, Int.reduceMul, Int.reduceNeg, Int.reduceEq, Int.reduceBEq, Int.reduceBNe, ↓reduceIte, reduceCtorEq, String.reduceBNe, String.reduceEq, reduceDIte, Nat.reducePow, hh, w0, c1, c2, q1, q2, q3, q4, wq, wqu, wr, hP, hD, hE, l1, l2, pow16, shr16, and_part, str_app, str_size]
  refine CThen.by (in_c a _) ?_
  simp only [push_cast, Nat.reduceAdd, Nat.reduceMul, Nat.reduceSub, Nat.reduceLeDiff, Nat.reduceLT, Nat.reduceEqDiff, Nat.reduceBEq, Nat.reduceBNe, Nat.reduceMod, Nat.reduceDiv, Int.reduceLE, Int.reduceLT, Int.reduceToNat, Int.reduceAdd, Int.reduceSub, Int.reduceMul, Int.reduceNeg, Int.reduceEq, Int.reduceBEq, Int.reduceBNe, ↓reduceIte, reduceCtorEq, String.reduceBNe, String.reduceEq, reduceDIte, Nat.reducePow, hh, w0, c1, c2, q1, q2, q3, q4, wq, wqu, wr, hP, hD, hE, l1, l2, pow16, shr16, and_part, str_app, str_size]
  refine Thn_n ?_
  refine hK _ _ ?_
  clear hK K
  refine AW.seq_k fun K hK => ?_
  refine AW.seq_k fun K hK => ?_
  refine AW.region (by decide) ?_
  simp only [push_cast, Nat.reduceAdd, Nat.reduceMul, Nat.reduceSub, Nat.reduceLeDiff, Nat.reduceLT, Nat.reduceEqDiff, Nat.reduceBEq, Nat.reduceBNe, Nat.reduceMod, Nat.reduceDiv, Int.reduceLE, Int.reduceLT, Int.reduceToNat, Int.reduceAdd, Int.reduceSub, Int.reduceMul, Int.reduceNeg, Int.reduceEq, Int.reduceBEq, Int.reduceBNe, ↓reduceIte, reduceCtorEq, String.reduceBNe, String.reduceEq, reduceDIte, Nat.reducePow, hh, w0, c1, c2, q1, q2, q3, q4, wq, wqu, wr, hP, hD, hE, l1, l2, pow16, shr16, and_part, str_app, str_size]
  refine Thn_n ?_
  refine hK _ _ ?_
  clear hK K
  refine AW.cond_f rfl ?_
  refine AW.skip ?_
  refine Thn_n ?_
  refine hK _ _ ?_
  clear hK K
  refine AW.seq_k fun K hK => ?_
  refine AW.region (by decide) ?_
  simp only [push_cast, Nat.reduceAdd, Nat.reduceMul, Nat.reduceSub, Nat.reduceLeDiff, Nat.reduceLT, Nat.reduceEqDiff, Nat.reduceBEq, Nat.reduceBNe, Nat.reduceMod, Nat.reduceDiv, Int.reduceLE, Int.reduceLT, Int.reduceToNat, Int.reduceAdd, Int.reduceSub, Int.reduceMul, Int.reduceNeg, Int.reduceEq, Int.reduceBEq, Int.reduceBNe, ↓reduceIte, reduceCtorEq, String.reduceBNe, String.reduceEq, reduceDIte, Nat.reducePow, hh, w0, c1, c2, q1, q2, q3, q4, wq, wqu, wr, hP, hD, hE, l1, l2, pow16, shr16, and_part, str_app, str_size]
  refine CThen.by (fmt_c q (by omega) _ hg3) ?_
  simp only [push_cast, Nat.reduceAdd, Nat.reduceMul, Nat.reduceSub, Nat.reduceLeDiff, Nat.reduceLT, Nat.reduceEqDiff, Nat.reduceBEq, Nat.reduceBNe, Nat.reduceMod, Nat.reduceDiv, Int.reduceLE, Int.reduceLT, Int.reduceToNat, Int.reduceAdd, Int.reduceSub, Int.reduceMul, Int.reduceNeg, Int.reduceEq, Int.reduceBEq, Int.reduceBNe, ↓reduceIte, reduceCtorEq, String.reduceBNe, String.reduceEq, reduceDIte, Nat.reducePow, hh, w0, c1, c2, q1, q2, q3, q4, wq, wqu, wr, hP, hD, hE, l1, l2, pow16, shr16, and_part, str_app, str_size]
  refine Thn_n ?_
  refine hK _ _ ?_
  clear hK K
  refine AW.seq_k fun K hK => ?_
  iterate 2
    refine AW.seq_k fun K hK => ?_
    refine AW.region (by decide) ?_
    simp only [push_cast, Nat.reduceAdd, Nat.reduceMul, Nat.reduceSub, Nat.reduceLeDiff, Nat.reduceLT, Nat.reduceEqDiff, Nat.reduceBEq, Nat.reduceBNe, Nat.reduceMod, Nat.reduceDiv, Int.reduceLE, Int.reduceLT, Int.reduceToNat, Int.reduceAdd, Int.reduceSub, Int.reduceMul, Int.reduceNeg, Int.reduceEq, Int.reduceBEq, Int.reduceBNe, ↓reduceIte, reduceCtorEq, String.reduceBNe, String.reduceEq, reduceDIte, Nat.reducePow, hh, w0, c1, c2, q1, q2, q3, q4, wq, wqu, wr, hP, hD, hE, l1, l2, pow16, shr16, and_part, str_app, str_size]
    refine Thn_n ?_
    refine hK _ _ ?_
    clear hK K
  refine AW.cond_f rfl ?_
  refine AW.skip ?_
  refine Thn_n ?_
  refine hK _ _ ?_
  clear hK K
  refine AW.seq_k fun K hK => ?_
  refine AW.block ?_
  refine AW.rounds 1 ?_
  refine ARounds.succ fun K hK => ?_
  refine AW.seq_k fun K hK => ?_
  refine AW.seq_k fun K hK => ?_
  refine AW.region (by decide) ?_
  simp only [push_cast, Nat.reduceAdd, Nat.reduceMul, Nat.reduceSub, Nat.reduceLeDiff, Nat.reduceLT, Nat.reduceEqDiff, Nat.reduceBEq, Nat.reduceBNe, Nat.reduceMod, Nat.reduceDiv, Int.reduceLE, Int.reduceLT, Int.reduceToNat, Int.reduceAdd, Int.reduceSub, Int.reduceMul, Int.reduceNeg, Int.reduceEq, Int.reduceBEq, Int.reduceBNe, ↓reduceIte, reduceCtorEq, String.reduceBNe, String.reduceEq, reduceDIte, Nat.reducePow, hh, w0, c1, c2, q1, q2, q3, q4, wq, wqu, wr, hP, hD, hE, l1, l2, pow16, shr16, and_part, str_app, str_size]
  refine Thn_n ?_
  refine hK _ _ ?_
  clear hK K
  refine AW.cond_f rfl ?_
  refine AW.exit ?_
  refine Thn_e ?_
  clear hK K
  refine Thn_e ?_
  clear hK K
  refine InB_here ?_
  refine Thn_n ?_
  refine hK _ _ ?_
  clear hK K
  refine AW.seq_k fun K hK => ?_
  refine AW.region (by decide) ?_
  simp only [push_cast, Nat.reduceAdd, Nat.reduceMul, Nat.reduceSub, Nat.reduceLeDiff, Nat.reduceLT, Nat.reduceEqDiff, Nat.reduceBEq, Nat.reduceBNe, Nat.reduceMod, Nat.reduceDiv, Int.reduceLE, Int.reduceLT, Int.reduceToNat, Int.reduceAdd, Int.reduceSub, Int.reduceMul, Int.reduceNeg, Int.reduceEq, Int.reduceBEq, Int.reduceBNe, ↓reduceIte, reduceCtorEq, String.reduceBNe, String.reduceEq, reduceDIte, Nat.reducePow, hh, w0, c1, c2, q1, q2, q3, q4, wq, wqu, wr, hP, hD, hE, l1, l2, pow16, shr16, and_part, str_app, str_size]
  refine Thn_n ?_
  refine hK _ _ ?_
  clear hK K
  refine AW.ret ?_
  refine hQ _ _ _ ?_
  first | refine RetP.drop0 (Or.inr rfl) ?_ ?_ hwf | refine RetP.drop (Or.inr rfl) ?_ ?_ hwf
  · simp only [resA, resOne, resTv, AV.tv, push_cast, Nat.reduceAdd, Nat.reduceMul, Nat.reduceSub, Nat.reduceLeDiff, Nat.reduceLT, Nat.reduceEqDiff, Nat.reduceBEq, Nat.reduceBNe, Nat.reduceMod, Nat.reduceDiv, Int.reduceLE, Int.reduceLT, Int.reduceToNat, Int.reduceAdd, Int.reduceSub, Int.reduceMul, Int.reduceNeg, Int.reduceEq, Int.reduceBEq, Int.reduceBNe, ↓reduceIte, reduceCtorEq, String.reduceBNe, String.reduceEq, reduceDIte, Nat.reducePow, hh, w0, c1, c2, q1, q2, q3, q4, wq, wqu, wr, hP, hD, hE, l1, l2, pow16, shr16, and_part, str_app, str_size]
  · rfl
theorem text_pf (a : Int) (n q r : Nat) (P D E : List UInt8) (hP : (⟨#[]⟩ : ByteArray) = ⟨P.toArray⟩) (hPl : P.length ≤ 1) (hD : Lib.decDigits q = D) (hE : (⟨#[46]⟩ : ByteArray) = ⟨E.toArray⟩) (hEl : E.length = 1) (hh : heldI a = (n : Int)) (hq : q = n / 65536) (hr : r = n % 65536) (hn : n ≤ 2147483648) (hz : r ≠ 0) (L : Nat) (hL16 : L ≤ 16) (hL : ∀ j, j < L → rm r j ≠ 0) (hL0 : rm r L = 0) (m : AMem) (hg3 : gB m 3 = some (Lib.pow10Tab.map (CV.int .u64))) : Ctr Tryd.prog 37 [.one (.int .i64 a)] m (.one (.str ⟨((P ++ (D ++ (E ++ dsL r L)))).toArray⟩)) m := by
  refine Ctr.enter Tryd.func37 rfl (by decide) (rs := [.tmp 2]) (nt := 34) rfl rfl fun hwf Q hQ => ?_
  have w0 : IntKind.i64.wrap (n : Int) = (n : Int) := wi (by omega)
  have c1 : decide ((n : Int) < 0) = false := decide_eq_false (by omega)
  have hr6 : r < 65536 := by omega
  have hd6 := dec_len_le q
  have hq6 : q ≤ 32768 := by omega
  have q1 : (n : Int) / 65536 = (q : Int) := by omega
  have q2 : (n : Int) % 65536 = (r : Int) := by omega
  have q3 : (n : Int).tdiv 65536 = (q : Int) := by rw [Int.tdiv_eq_ediv_of_nonneg (by omega), q1]
  have q4 : (n : Int).tmod 65536 = (r : Int) := by rw [Int.tmod_eq_emod_of_nonneg (by omega), q2]
  have wq : IntKind.i64.wrap (q : Int) = (q : Int) := wi (by omega)
  have wqu : IntKind.u64.wrap (q : Int) = (q : Int) := wu64 (by omega)
  have wr : IntKind.i64.wrap (r : Int) = (r : Int) := wi (by omega)
  rw [hD] at hd6
  have l1 : P.length + D.length ≤ 9223372036854775807 := by omega
  have l2 : P.length + (D.length + E.length) ≤ 9223372036854775807 := by omega
  have c2 : decide (0 < (r : Int)) = true := decide_eq_true (by omega)
  have hS0 : E ++ dsL r 0 = E := List.append_nil _
  refine AW.seq_k fun K hK => ?_
  refine AW.region (by decide) ?_
  simp only [push_cast, Nat.reduceAdd, Nat.reduceMul, Nat.reduceSub, Nat.reduceLeDiff, Nat.reduceLT, Nat.reduceEqDiff, Nat.reduceBEq, Nat.reduceBNe, Nat.reduceMod, Nat.reduceDiv, Int.reduceLE, Int.reduceLT, Int.reduceToNat, Int.reduceAdd, Int.reduceSub, Int.reduceMul, Int.reduceNeg, Int.reduceEq, Int.reduceBEq, Int.reduceBNe, ↓reduceIte, reduceCtorEq, String.reduceBNe, String.reduceEq, reduceDIte, Nat.reducePow, hh, w0, c1, c2, q1, q2, q3, q4, wq, wqu, wr, hP, hD, hE, l1, l2, pow16, shr16, and_part, str_app, str_size]
  refine Thn_n ?_
  refine hK _ _ ?_
  clear hK K
  refine AW.seq_k fun K hK => ?_
  refine AW.region (by decide) ?_
  simp only [push_cast, Nat.reduceAdd, Nat.reduceMul, Nat.reduceSub, Nat.reduceLeDiff, Nat.reduceLT, Nat.reduceEqDiff, Nat.reduceBEq, Nat.reduceBNe, Nat.reduceMod, Nat.reduceDiv, Int.reduceLE, Int.reduceLT, Int.reduceToNat, Int.reduceAdd, Int.reduceSub, Int.reduceMul, Int.reduceNeg, Int.reduceEq, Int.reduceBEq, Int.reduceBNe, ↓reduceIte, reduceCtorEq, String.reduceBNe, String.reduceEq, reduceDIte, Nat.reducePow, hh, w0, c1, c2, q1, q2, q3, q4, wq, wqu, wr, hP, hD, hE, l1, l2, pow16, shr16, and_part, str_app, str_size]
  refine CThen.by (in_c a _) ?_
  simp only [push_cast, Nat.reduceAdd, Nat.reduceMul, Nat.reduceSub, Nat.reduceLeDiff, Nat.reduceLT, Nat.reduceEqDiff, Nat.reduceBEq, Nat.reduceBNe, Nat.reduceMod, Nat.reduceDiv, Int.reduceLE, Int.reduceLT, Int.reduceToNat, Int.reduceAdd, Int.reduceSub, Int.reduceMul, Int.reduceNeg, Int.reduceEq, Int.reduceBEq, Int.reduceBNe, ↓reduceIte, reduceCtorEq, String.reduceBNe, String.reduceEq, reduceDIte, Nat.reducePow, hh, w0, c1, c2, q1, q2, q3, q4, wq, wqu, wr, hP, hD, hE, l1, l2, pow16, shr16, and_part, str_app, str_size]
  refine Thn_n ?_
  refine hK _ _ ?_
  clear hK K
  refine AW.seq_k fun K hK => ?_
  refine AW.seq_k fun K hK => ?_
  refine AW.region (by decide) ?_
  simp only [push_cast, Nat.reduceAdd, Nat.reduceMul, Nat.reduceSub, Nat.reduceLeDiff, Nat.reduceLT, Nat.reduceEqDiff, Nat.reduceBEq, Nat.reduceBNe, Nat.reduceMod, Nat.reduceDiv, Int.reduceLE, Int.reduceLT, Int.reduceToNat, Int.reduceAdd, Int.reduceSub, Int.reduceMul, Int.reduceNeg, Int.reduceEq, Int.reduceBEq, Int.reduceBNe, ↓reduceIte, reduceCtorEq, String.reduceBNe, String.reduceEq, reduceDIte, Nat.reducePow, hh, w0, c1, c2, q1, q2, q3, q4, wq, wqu, wr, hP, hD, hE, l1, l2, pow16, shr16, and_part, str_app, str_size]
  refine Thn_n ?_
  refine hK _ _ ?_
  clear hK K
  refine AW.cond_f rfl ?_
  refine AW.skip ?_
  refine Thn_n ?_
  refine hK _ _ ?_
  clear hK K
  refine AW.seq_k fun K hK => ?_
  refine AW.region (by decide) ?_
  simp only [push_cast, Nat.reduceAdd, Nat.reduceMul, Nat.reduceSub, Nat.reduceLeDiff, Nat.reduceLT, Nat.reduceEqDiff, Nat.reduceBEq, Nat.reduceBNe, Nat.reduceMod, Nat.reduceDiv, Int.reduceLE, Int.reduceLT, Int.reduceToNat, Int.reduceAdd, Int.reduceSub, Int.reduceMul, Int.reduceNeg, Int.reduceEq, Int.reduceBEq, Int.reduceBNe, ↓reduceIte, reduceCtorEq, String.reduceBNe, String.reduceEq, reduceDIte, Nat.reducePow, hh, w0, c1, c2, q1, q2, q3, q4, wq, wqu, wr, hP, hD, hE, l1, l2, pow16, shr16, and_part, str_app, str_size]
  refine CThen.by (fmt_c q (by omega) _ hg3) ?_
  simp only [push_cast, Nat.reduceAdd, Nat.reduceMul, Nat.reduceSub, Nat.reduceLeDiff, Nat.reduceLT, Nat.reduceEqDiff, Nat.reduceBEq, Nat.reduceBNe, Nat.reduceMod, Nat.reduceDiv, Int.reduceLE, Int.reduceLT, Int.reduceToNat, Int.reduceAdd, Int.reduceSub, Int.reduceMul, Int.reduceNeg, Int.reduceEq, Int.reduceBEq, Int.reduceBNe, ↓reduceIte, reduceCtorEq, String.reduceBNe, String.reduceEq, reduceDIte, Nat.reducePow, hh, w0, c1, c2, q1, q2, q3, q4, wq, wqu, wr, hP, hD, hE, l1, l2, pow16, shr16, and_part, str_app, str_size]
  refine Thn_n ?_
  refine hK _ _ ?_
  clear hK K
  refine AW.seq_k fun K hK => ?_
  iterate 2
    refine AW.seq_k fun K hK => ?_
    refine AW.region (by decide) ?_
    simp only [push_cast, Nat.reduceAdd, Nat.reduceMul, Nat.reduceSub, Nat.reduceLeDiff, Nat.reduceLT, Nat.reduceEqDiff, Nat.reduceBEq, Nat.reduceBNe, Nat.reduceMod, Nat.reduceDiv, Int.reduceLE, Int.reduceLT, Int.reduceToNat, Int.reduceAdd, Int.reduceSub, Int.reduceMul, Int.reduceNeg, Int.reduceEq, Int.reduceBEq, Int.reduceBNe, ↓reduceIte, reduceCtorEq, String.reduceBNe, String.reduceEq, reduceDIte, Nat.reducePow, hh, w0, c1, c2, q1, q2, q3, q4, wq, wqu, wr, hP, hD, hE, l1, l2, pow16, shr16, and_part, str_app, str_size]
    refine Thn_n ?_
    refine hK _ _ ?_
    clear hK K
  refine AW.cond_t rfl ?_
  refine AW.region (by decide) ?_
  simp only [push_cast, Nat.reduceAdd, Nat.reduceMul, Nat.reduceSub, Nat.reduceLeDiff, Nat.reduceLT, Nat.reduceEqDiff, Nat.reduceBEq, Nat.reduceBNe, Nat.reduceMod, Nat.reduceDiv, Int.reduceLE, Int.reduceLT, Int.reduceToNat, Int.reduceAdd, Int.reduceSub, Int.reduceMul, Int.reduceNeg, Int.reduceEq, Int.reduceBEq, Int.reduceBNe, ↓reduceIte, reduceCtorEq, String.reduceBNe, String.reduceEq, reduceDIte, Nat.reducePow, hh, w0, c1, c2, q1, q2, q3, q4, wq, wqu, wr, hP, hD, hE, l1, l2, pow16, shr16, and_part, str_app, str_size]
  refine Thn_n ?_
  refine hK _ _ ?_
  clear hK K
  refine AW.seq_k fun K hK => ?_
  refine AW.block ?_
  refine AW.loopK [] (fun i => i ≤ L) (fun i => [(3, .one (.int .i64 (rm r i : Int))), (4, .one (.str ⟨(P ++ (D ++ (E ++ dsL r i))).toArray⟩))]) (fun i => []) (fun i => L - i) 0 (Nat.zero_le _) ?_ ?_ fun i hi10 => ?_
  · first | rfl | (simp only [Keeps, Tm.get_cons, Nat.reduceEqDiff, ↓reduceIte, if_true, if_false, ite_true, ite_false, true_and, and_true, and_self, reduceCtorEq, hS0] <;> rfl)
  · first | rfl | (simp only [setAll, push_cast, Nat.reduceAdd, Nat.reduceMul, Nat.reduceSub, Nat.reduceLeDiff, Nat.reduceLT, Nat.reduceEqDiff, Nat.reduceBEq, Nat.reduceBNe, Nat.reduceMod, Nat.reduceDiv, Int.reduceLE, Int.reduceLT, Int.reduceToNat, Int.reduceAdd, Int.reduceSub, Int.reduceMul, Int.reduceNeg, Int.reduceEq, Int.reduceBEq, Int.reduceBNe, ↓reduceIte, reduceCtorEq, String.reduceBNe, String.reduceEq, reduceDIte, Nat.reducePow, hh, w0, c1, c2, q1, q2, q3, q4, wq, wqu, wr, hP, hD, hE, l1, l2, pow16, shr16, and_part, str_app, str_size] <;> rfl)
  have hiL := hi10
  have hi6 := rm_lt hr6 i
  obtain ⟨x0, hx0⟩ : ∃ x0, x0 = rm r i := ⟨_, rfl⟩
  rw [← hx0]
  rw [← hx0] at hi6
  obtain ⟨d, hd⟩ : ∃ d, d = x0 * 10 / 65536 := ⟨_, rfl⟩
  obtain ⟨r', hr'⟩ : ∃ r', r' = x0 * 10 % 65536 := ⟨_, rfl⟩
  have hr2 : rm r (i + 1) = r' := by rw [hr', hx0]; rfl
  try simp only [keepL, setAll, push_cast, Nat.reduceAdd, Nat.reduceMul, Nat.reduceSub, Nat.reduceLeDiff, Nat.reduceLT, Nat.reduceEqDiff, Nat.reduceBEq, Nat.reduceBNe, Nat.reduceMod, Nat.reduceDiv, Int.reduceLE, Int.reduceLT, Int.reduceToNat, Int.reduceAdd, Int.reduceSub, Int.reduceMul, Int.reduceNeg, Int.reduceEq, Int.reduceBEq, Int.reduceBNe, ↓reduceIte, reduceCtorEq, String.reduceBNe, String.reduceEq, reduceDIte, Nat.reducePow, hh, w0, c1, c2, q1, q2, q3, q4, wq, wqu, wr, hP, hD, hE, l1, l2, pow16, shr16, and_part, str_app, str_size]
  refine AW.seq_k fun K hK => ?_
  refine AW.seq_k fun K hK => ?_
  refine AW.region (by decide) ?_
  simp only [push_cast, Nat.reduceAdd, Nat.reduceMul, Nat.reduceSub, Nat.reduceLeDiff, Nat.reduceLT, Nat.reduceEqDiff, Nat.reduceBEq, Nat.reduceBNe, Nat.reduceMod, Nat.reduceDiv, Int.reduceLE, Int.reduceLT, Int.reduceToNat, Int.reduceAdd, Int.reduceSub, Int.reduceMul, Int.reduceNeg, Int.reduceEq, Int.reduceBEq, Int.reduceBNe, ↓reduceIte, reduceCtorEq, String.reduceBNe, String.reduceEq, reduceDIte, Nat.reducePow, hh, w0, c1, c2, q1, q2, q3, q4, wq, wqu, wr, hP, hD, hE, l1, l2, pow16, shr16, and_part, str_app, str_size]
  refine Thn_n ?_
  refine hK _ _ ?_
  clear hK K
  refine AW.cond rfl (fun h23 => ?_) (fun h23 => ?_)
  · have hx : 0 < x0 := by have := of_decide_eq_true h23; omega
    have hiLt : i < L := by
      rcases Nat.lt_or_ge i L with h | h
      · exact h
      · have e : i = L := by omega
        rw [e, hL0] at hx0; omega
    have v1 : IntKind.i64.wrap ((x0 : Int) * 10) = (x0 : Int) * 10 := wi (by omega)
    have v2 : ((x0 : Int) * 10) / 65536 = (d : Int) := by omega
    have v3 : ((x0 : Int) * 10) % 65536 = (r' : Int) := by omega
    have v4 : ((x0 : Int) * 10).tdiv 65536 = (d : Int) := by rw [Int.tdiv_eq_ediv_of_nonneg (by omega), v2]
    have v5 : ((x0 : Int) * 10).tmod 65536 = (r' : Int) := by rw [Int.tmod_eq_emod_of_nonneg (by omega), v3]
    have hd10 : d < 10 := by omega
    have v6 : IntKind.i64.wrap (d : Int) = (d : Int) := wi (by omega)
    have v6u : IntKind.u64.wrap (d : Int) = (d : Int) := wu64 (by omega)
    have v7 : IntKind.i64.wrap (r' : Int) = (r' : Int) := wi (by omega)
    obtain ⟨T, hT⟩ : ∃ T, T = [dgt d] := ⟨_, rfl⟩
    have ed : Lib.decDigits d = T := by rw [Lib.decDigits, dif_pos hd10, hT]; rfl
    have edS : dsL r i ++ T = dsL r (i + 1) := by rw [hT, dsL_s, ← hx0, ← hd]
    have l3 : P.length + (D.length + (E.length + ((dsL r i).length + T.length))) ≤ 9223372036854775807 := by
      rw [dsL_len, hT]; show _ + (_ + (_ + (_ + 1))) ≤ _; omega
    refine AW.skip ?_
    refine Thn_n ?_
    refine hK _ _ ?_
    clear hK K
    refine AW.block ?_
    refine AW.seq_k fun K hK => ?_
    refine AW.region (by decide) ?_
    simp only [push_cast, Nat.reduceAdd, Nat.reduceMul, Nat.reduceSub, Nat.reduceLeDiff, Nat.reduceLT, Nat.reduceEqDiff, Nat.reduceBEq, Nat.reduceBNe, Nat.reduceMod, Nat.reduceDiv, Int.reduceLE, Int.reduceLT, Int.reduceToNat, Int.reduceAdd, Int.reduceSub, Int.reduceMul, Int.reduceNeg, Int.reduceEq, Int.reduceBEq, Int.reduceBNe, ↓reduceIte, reduceCtorEq, String.reduceBNe, String.reduceEq, reduceDIte, Nat.reducePow, hh, w0, c1, c2, q1, q2, q3, q4, wq, wqu, wr, hP, hD, hE, l1, l2, pow16, shr16, and_part, str_app, str_size, v1, v2, v3, v4, v5, v6, v6u, v7, ed, edS, l3, hr2]
    refine Thn_n ?_
    refine hK _ _ ?_
    clear hK K
    refine AW.seq_k fun K hK => ?_
    refine AW.region (by decide) ?_
    simp only [push_cast, Nat.reduceAdd, Nat.reduceMul, Nat.reduceSub, Nat.reduceLeDiff, Nat.reduceLT, Nat.reduceEqDiff, Nat.reduceBEq, Nat.reduceBNe, Nat.reduceMod, Nat.reduceDiv, Int.reduceLE, Int.reduceLT, Int.reduceToNat, Int.reduceAdd, Int.reduceSub, Int.reduceMul, Int.reduceNeg, Int.reduceEq, Int.reduceBEq, Int.reduceBNe, ↓reduceIte, reduceCtorEq, String.reduceBNe, String.reduceEq, reduceDIte, Nat.reducePow, hh, w0, c1, c2, q1, q2, q3, q4, wq, wqu, wr, hP, hD, hE, l1, l2, pow16, shr16, and_part, str_app, str_size, v1, v2, v3, v4, v5, v6, v6u, v7, ed, edS, l3, hr2]
    refine CThen.by (fmt_c d (by omega) _ hg3) ?_
    simp only [push_cast, Nat.reduceAdd, Nat.reduceMul, Nat.reduceSub, Nat.reduceLeDiff, Nat.reduceLT, Nat.reduceEqDiff, Nat.reduceBEq, Nat.reduceBNe, Nat.reduceMod, Nat.reduceDiv, Int.reduceLE, Int.reduceLT, Int.reduceToNat, Int.reduceAdd, Int.reduceSub, Int.reduceMul, Int.reduceNeg, Int.reduceEq, Int.reduceBEq, Int.reduceBNe, ↓reduceIte, reduceCtorEq, String.reduceBNe, String.reduceEq, reduceDIte, Nat.reducePow, hh, w0, c1, c2, q1, q2, q3, q4, wq, wqu, wr, hP, hD, hE, l1, l2, pow16, shr16, and_part, str_app, str_size, v1, v2, v3, v4, v5, v6, v6u, v7, ed, edS, l3, hr2]
    refine Thn_n ?_
    refine hK _ _ ?_
    clear hK K
    refine AW.region (by decide) ?_
    simp only [push_cast, Nat.reduceAdd, Nat.reduceMul, Nat.reduceSub, Nat.reduceLeDiff, Nat.reduceLT, Nat.reduceEqDiff, Nat.reduceBEq, Nat.reduceBNe, Nat.reduceMod, Nat.reduceDiv, Int.reduceLE, Int.reduceLT, Int.reduceToNat, Int.reduceAdd, Int.reduceSub, Int.reduceMul, Int.reduceNeg, Int.reduceEq, Int.reduceBEq, Int.reduceBNe, ↓reduceIte, reduceCtorEq, String.reduceBNe, String.reduceEq, reduceDIte, Nat.reducePow, hh, w0, c1, c2, q1, q2, q3, q4, wq, wqu, wr, hP, hD, hE, l1, l2, pow16, shr16, and_part, str_app, str_size, v1, v2, v3, v4, v5, v6, v6u, v7, ed, edS, l3, hr2]
    refine InB_n ?_
    refine Thn_n ?_
    refine ⟨i + 1, (by show i + 1 ≤ L; omega), (by show L - (i + 1) < L - i; omega), ?_⟩
    try simp only [keepL, setAll, push_cast, Nat.reduceAdd, Nat.reduceMul, Nat.reduceSub, Nat.reduceLeDiff, Nat.reduceLT, Nat.reduceEqDiff, Nat.reduceBEq, Nat.reduceBNe, Nat.reduceMod, Nat.reduceDiv, Int.reduceLE, Int.reduceLT, Int.reduceToNat, Int.reduceAdd, Int.reduceSub, Int.reduceMul, Int.reduceNeg, Int.reduceEq, Int.reduceBEq, Int.reduceBNe, ↓reduceIte, reduceCtorEq, String.reduceBNe, String.reduceEq, reduceDIte, Nat.reducePow, hh, w0, c1, c2, q1, q2, q3, q4, wq, wqu, wr, hP, hD, hE, l1, l2, pow16, shr16, and_part, str_app, str_size, v1, v2, v3, v4, v5, v6, v6u, v7, ed, edS, l3, hr2]
    exact Weak.same (by simp only [Keeps, Tm.get_cons, Nat.reduceEqDiff, ↓reduceIte, if_true, if_false, ite_true, ite_false, true_and, and_true, and_self, reduceCtorEq]) (by first | rfl | simp only [Keeps, Tm.get_cons, Nat.reduceEqDiff, ↓reduceIte, if_true, if_false, ite_true, ite_false, true_and, and_true, and_self, reduceCtorEq])
  · have hx : x0 = 0 := by have := of_decide_eq_false h23; omega
    have hi' : i = L := by
      rcases Nat.lt_or_ge i L with h | h
      · exact absurd (hx0.symm.trans hx) (hL i h)
      · omega
    subst hi'
    refine AW.exit ?_
    refine Thn_e ?_
    clear hK K
    refine Thn_e ?_
    refine InB_here ?_
    refine Thn_n ?_
    refine hK _ _ ?_
    clear hK K
    refine AW.seq_k fun K hK => ?_
    refine AW.region (by decide) ?_
    simp only [push_cast, Nat.reduceAdd, Nat.reduceMul, Nat.reduceSub, Nat.reduceLeDiff, Nat.reduceLT, Nat.reduceEqDiff, Nat.reduceBEq, Nat.reduceBNe, Nat.reduceMod, Nat.reduceDiv, Int.reduceLE, Int.reduceLT, Int.reduceToNat, Int.reduceAdd, Int.reduceSub, Int.reduceMul, Int.reduceNeg, Int.reduceEq, Int.reduceBEq, Int.reduceBNe, ↓reduceIte, reduceCtorEq, String.reduceBNe, String.reduceEq, reduceDIte, Nat.reducePow, hh, w0, c1, c2, q1, q2, q3, q4, wq, wqu, wr, hP, hD, hE, l1, l2, pow16, shr16, and_part, str_app, str_size]
    refine Thn_n ?_
    refine hK _ _ ?_
    clear hK K
    refine AW.ret ?_
    refine hQ _ _ _ ?_
    first | refine RetP.drop0 (Or.inr rfl) ?_ ?_ hwf | refine RetP.drop (Or.inr rfl) ?_ ?_ hwf
    · simp only [resA, resOne, resTv, AV.tv, push_cast, Nat.reduceAdd, Nat.reduceMul, Nat.reduceSub, Nat.reduceLeDiff, Nat.reduceLT, Nat.reduceEqDiff, Nat.reduceBEq, Nat.reduceBNe, Nat.reduceMod, Nat.reduceDiv, Int.reduceLE, Int.reduceLT, Int.reduceToNat, Int.reduceAdd, Int.reduceSub, Int.reduceMul, Int.reduceNeg, Int.reduceEq, Int.reduceBEq, Int.reduceBNe, ↓reduceIte, reduceCtorEq, String.reduceBNe, String.reduceEq, reduceDIte, Nat.reducePow, hh, w0, c1, c2, q1, q2, q3, q4, wq, wqu, wr, hP, hD, hE, l1, l2, pow16, shr16, and_part, str_app, str_size]
    · rfl
theorem rtext_nz (a : Int) (n q r : Nat) (P D E : List UInt8) (hP : (⟨#[45]⟩ : ByteArray) = ⟨P.toArray⟩) (hPl : P.length ≤ 1) (hD : Lib.decDigits q = D) (hE : (⟨#[46]⟩ : ByteArray) = ⟨E.toArray⟩) (hEl : E.length = 1) (hh : heldI a = -(n : Int)) (hq : q = n / 65536) (hr : r = n % 65536) (hn : n ≤ 2147483648) (hp : 0 < n) (hz : r = 0) (m : AMem) : Ctr Tryd.prog 38 [.one (.int .i64 a)] m (.one (.str ⟨((P ++ D)).toArray⟩)) m := by
  refine Ctr.enter Tryd.func38 rfl (by decide) (rs := [.tmp 2]) (nt := 37) rfl rfl fun hwf Q hQ => ?_
  have w0 : IntKind.i64.wrap (0 - -(n : Int)) = (n : Int) := by rw [wi (by omega)]; omega
  have c1 : decide (-(n : Int) < 0) = true := decide_eq_true (by omega)
  have hr6 : r < 65536 := by omega
  have hd6 := dec_len_le q
  have hq6 : q ≤ 32768 := by omega
  have q1 : (n : Int) / 65536 = (q : Int) := by omega
  have q2 : (n : Int) % 65536 = (r : Int) := by omega
  have q3 : (n : Int).tdiv 65536 = (q : Int) := by rw [Int.tdiv_eq_ediv_of_nonneg (by omega), q1]
  have q4 : (n : Int).tmod 65536 = (r : Int) := by rw [Int.tmod_eq_emod_of_nonneg (by omega), q2]
  have wq : IntKind.i64.wrap (q : Int) = (q : Int) := wi (by omega)
  have wqu : IntKind.u64.wrap (q : Int) = (q : Int) := wu64 (by omega)
  have wr : IntKind.i64.wrap (r : Int) = (r : Int) := wi (by omega)
  rw [hD] at hd6
  have l1 : P.length + D.length ≤ 9223372036854775807 := by omega
  have l2 : P.length + (D.length + E.length) ≤ 9223372036854775807 := by omega
  have c2 : ((r : Int) == 0) = true := by rw [hz]; rfl
  refine AW.seq_k fun K hK => ?_
  refine AW.region (by decide) ?_
  simp only [push_cast, Nat.reduceAdd, Nat.reduceMul, Nat.reduceSub, Nat.reduceLeDiff, Nat.reduceLT, Nat.reduceEqDiff, Nat.reduceBEq, Nat.reduceBNe, Nat.reduceMod, Nat.reduceDiv, Int.reduceLE, Int.reduceLT, Int.reduceToNat, Int.reduceAdd, Int.reduceSub, Int.reduceMul, Int.reduceNeg, Int.reduceEq, Int.reduceBEq, Int.reduceBNe, ↓reduceIte, reduceCtorEq, String.reduceBNe, String.reduceEq, reduceDIte, Nat.reducePow, hh, w0, c1, c2, q1, q2, q3, q4, wq, wqu, wr, hP, hD, hE, l1, l2, pow16, shr16, and_part, str_app, str_size]
  refine Thn_n ?_
  refine hK _ _ ?_
  clear hK K
  refine AW.seq_k fun K hK => ?_
  refine AW.region (by decide) ?_
  simp only [push_cast, Nat.reduceAdd, Nat.reduceMul, Nat.reduceSub, Nat.reduceLeDiff, Nat.reduceLT, Nat.reduceEqDiff, Nat.reduceBEq, Nat.reduceBNe, Nat.reduceMod, Nat.reduceDiv, Int.reduceLE, Int.reduceLT, Int.reduceToNat, Int.reduceAdd, Int.reduceSub, Int.reduceMul, Int.reduceNeg, Int.reduceEq, Int.reduceBEq, Int.reduceBNe, ↓reduceIte, reduceCtorEq, String.reduceBNe, String.reduceEq, reduceDIte, Nat.reducePow, hh, w0, c1, c2, q1, q2, q3, q4, wq, wqu, wr, hP, hD, hE, l1, l2, pow16, shr16, and_part, str_app, str_size]
  refine CThen.by (held_c a _) ?_
  simp only [push_cast, Nat.reduceAdd, Nat.reduceMul, Nat.reduceSub, Nat.reduceLeDiff, Nat.reduceLT, Nat.reduceEqDiff, Nat.reduceBEq, Nat.reduceBNe, Nat.reduceMod, Nat.reduceDiv, Int.reduceLE, Int.reduceLT, Int.reduceToNat, Int.reduceAdd, Int.reduceSub, Int.reduceMul, Int.reduceNeg, Int.reduceEq, Int.reduceBEq, Int.reduceBNe, ↓reduceIte, reduceCtorEq, String.reduceBNe, String.reduceEq, reduceDIte, Nat.reducePow, hh, w0, c1, c2, q1, q2, q3, q4, wq, wqu, wr, hP, hD, hE, l1, l2, pow16, shr16, and_part, str_app, str_size]
  refine Thn_n ?_
  refine hK _ _ ?_
  clear hK K
  refine AW.seq_k fun K hK => ?_
  refine AW.region (by decide) ?_
  simp only [push_cast, Nat.reduceAdd, Nat.reduceMul, Nat.reduceSub, Nat.reduceLeDiff, Nat.reduceLT, Nat.reduceEqDiff, Nat.reduceBEq, Nat.reduceBNe, Nat.reduceMod, Nat.reduceDiv, Int.reduceLE, Int.reduceLT, Int.reduceToNat, Int.reduceAdd, Int.reduceSub, Int.reduceMul, Int.reduceNeg, Int.reduceEq, Int.reduceBEq, Int.reduceBNe, ↓reduceIte, reduceCtorEq, String.reduceBNe, String.reduceEq, reduceDIte, Nat.reducePow, hh, w0, c1, c2, q1, q2, q3, q4, wq, wqu, wr, hP, hD, hE, l1, l2, pow16, shr16, and_part, str_app, str_size]
  refine Thn_n ?_
  refine hK _ _ ?_
  clear hK K
  refine AW.seq_k fun K hK => ?_
  refine AW.seq_k fun K hK => ?_
  refine AW.region (by decide) ?_
  simp only [push_cast, Nat.reduceAdd, Nat.reduceMul, Nat.reduceSub, Nat.reduceLeDiff, Nat.reduceLT, Nat.reduceEqDiff, Nat.reduceBEq, Nat.reduceBNe, Nat.reduceMod, Nat.reduceDiv, Int.reduceLE, Int.reduceLT, Int.reduceToNat, Int.reduceAdd, Int.reduceSub, Int.reduceMul, Int.reduceNeg, Int.reduceEq, Int.reduceBEq, Int.reduceBNe, ↓reduceIte, reduceCtorEq, String.reduceBNe, String.reduceEq, reduceDIte, Nat.reducePow, hh, w0, c1, c2, q1, q2, q3, q4, wq, wqu, wr, hP, hD, hE, l1, l2, pow16, shr16, and_part, str_app, str_size]
  refine Thn_n ?_
  refine hK _ _ ?_
  clear hK K
  refine AW.cond_t rfl ?_
  refine AW.seq_k fun K hK => ?_
  iterate 2
    refine AW.region (by decide) ?_
    simp only [push_cast, Nat.reduceAdd, Nat.reduceMul, Nat.reduceSub, Nat.reduceLeDiff, Nat.reduceLT, Nat.reduceEqDiff, Nat.reduceBEq, Nat.reduceBNe, Nat.reduceMod, Nat.reduceDiv, Int.reduceLE, Int.reduceLT, Int.reduceToNat, Int.reduceAdd, Int.reduceSub, Int.reduceMul, Int.reduceNeg, Int.reduceEq, Int.reduceBEq, Int.reduceBNe, ↓reduceIte, reduceCtorEq, String.reduceBNe, String.reduceEq, reduceDIte, Nat.reducePow, hh, w0, c1, c2, q1, q2, q3, q4, wq, wqu, wr, hP, hD, hE, l1, l2, pow16, shr16, and_part, str_app, str_size]
    refine Thn_n ?_
    refine hK _ _ ?_
    clear hK K
  refine AW.seq_k fun K hK => ?_
  refine AW.region (by decide) ?_
  simp only [push_cast, Nat.reduceAdd, Nat.reduceMul, Nat.reduceSub, Nat.reduceLeDiff, Nat.reduceLT, Nat.reduceEqDiff, Nat.reduceBEq, Nat.reduceBNe, Nat.reduceMod, Nat.reduceDiv, Int.reduceLE, Int.reduceLT, Int.reduceToNat, Int.reduceAdd, Int.reduceSub, Int.reduceMul, Int.reduceNeg, Int.reduceEq, Int.reduceBEq, Int.reduceBNe, ↓reduceIte, reduceCtorEq, String.reduceBNe, String.reduceEq, reduceDIte, Nat.reducePow, hh, w0, c1, c2, q1, q2, q3, q4, wq, wqu, wr, hP, hD, hE, l1, l2, pow16, shr16, and_part, str_app, str_size]
  refine CThen.by (decimal_c q (by omega) _) ?_
  simp only [push_cast, Nat.reduceAdd, Nat.reduceMul, Nat.reduceSub, Nat.reduceLeDiff, Nat.reduceLT, Nat.reduceEqDiff, Nat.reduceBEq, Nat.reduceBNe, Nat.reduceMod, Nat.reduceDiv, Int.reduceLE, Int.reduceLT, Int.reduceToNat, Int.reduceAdd, Int.reduceSub, Int.reduceMul, Int.reduceNeg, Int.reduceEq, Int.reduceBEq, Int.reduceBNe, ↓reduceIte, reduceCtorEq, String.reduceBNe, String.reduceEq, reduceDIte, Nat.reducePow, hh, w0, c1, c2, q1, q2, q3, q4, wq, wqu, wr, hP, hD, hE, l1, l2, pow16, shr16, and_part, str_app, str_size]
  refine Thn_n ?_
  refine hK _ _ ?_
  clear hK K
  refine AW.seq_k fun K hK => ?_
  refine AW.region (by decide) ?_
  simp only [push_cast, Nat.reduceAdd, Nat.reduceMul, Nat.reduceSub, Nat.reduceLeDiff, Nat.reduceLT, Nat.reduceEqDiff, Nat.reduceBEq, Nat.reduceBNe, Nat.reduceMod, Nat.reduceDiv, Int.reduceLE, Int.reduceLT, Int.reduceToNat, Int.reduceAdd, Int.reduceSub, Int.reduceMul, Int.reduceNeg, Int.reduceEq, Int.reduceBEq, Int.reduceBNe, ↓reduceIte, reduceCtorEq, String.reduceBNe, String.reduceEq, reduceDIte, Nat.reducePow, hh, w0, c1, c2, q1, q2, q3, q4, wq, wqu, wr, hP, hD, hE, l1, l2, pow16, shr16, and_part, str_app, str_size]
  refine Thn_n ?_
  refine hK _ _ ?_
  clear hK K
  refine AW.seq_k fun K hK => ?_
  refine AW.seq_k fun K hK => ?_
  refine AW.region (by decide) ?_
  simp only [push_cast, Nat.reduceAdd, Nat.reduceMul, Nat.reduceSub, Nat.reduceLeDiff, Nat.reduceLT, Nat.reduceEqDiff, Nat.reduceBEq, Nat.reduceBNe, Nat.reduceMod, Nat.reduceDiv, Int.reduceLE, Int.reduceLT, Int.reduceToNat, Int.reduceAdd, Int.reduceSub, Int.reduceMul, Int.reduceNeg, Int.reduceEq, Int.reduceBEq, Int.reduceBNe, ↓reduceIte, reduceCtorEq, String.reduceBNe, String.reduceEq, reduceDIte, Nat.reducePow, hh, w0, c1, c2, q1, q2, q3, q4, wq, wqu, wr, hP, hD, hE, l1, l2, pow16, shr16, and_part, str_app, str_size]
  refine Thn_n ?_
  refine hK _ _ ?_
  clear hK K
  refine AW.cond_t rfl ?_
  refine AW.seq_k fun K hK => ?_
  refine AW.region (by decide) ?_
  simp only [push_cast, Nat.reduceAdd, Nat.reduceMul, Nat.reduceSub, Nat.reduceLeDiff, Nat.reduceLT, Nat.reduceEqDiff, Nat.reduceBEq, Nat.reduceBNe, Nat.reduceMod, Nat.reduceDiv, Int.reduceLE, Int.reduceLT, Int.reduceToNat, Int.reduceAdd, Int.reduceSub, Int.reduceMul, Int.reduceNeg, Int.reduceEq, Int.reduceBEq, Int.reduceBNe, ↓reduceIte, reduceCtorEq, String.reduceBNe, String.reduceEq, reduceDIte, Nat.reducePow, hh, w0, c1, c2, q1, q2, q3, q4, wq, wqu, wr, hP, hD, hE, l1, l2, pow16, shr16, and_part, str_app, str_size]
  refine Thn_n ?_
  refine hK _ _ ?_
  clear hK K
  refine AW.ret ?_
  refine Thn_r ?_
  refine hQ _ _ _ ?_
  first | refine RetP.drop0 (Or.inr rfl) ?_ ?_ hwf | refine RetP.drop (Or.inr rfl) ?_ ?_ hwf
  · simp only [resA, resOne, resTv, AV.tv, push_cast, Nat.reduceAdd, Nat.reduceMul, Nat.reduceSub, Nat.reduceLeDiff, Nat.reduceLT, Nat.reduceEqDiff, Nat.reduceBEq, Nat.reduceBNe, Nat.reduceMod, Nat.reduceDiv, Int.reduceLE, Int.reduceLT, Int.reduceToNat, Int.reduceAdd, Int.reduceSub, Int.reduceMul, Int.reduceNeg, Int.reduceEq, Int.reduceBEq, Int.reduceBNe, ↓reduceIte, reduceCtorEq, String.reduceBNe, String.reduceEq, reduceDIte, Nat.reducePow, hh, w0, c1, c2, q1, q2, q3, q4, wq, wqu, wr, hP, hD, hE, l1, l2, pow16, shr16, and_part, str_app, str_size]
  · rfl
theorem rtext_nf (a : Int) (n q r : Nat) (P D E : List UInt8) (hP : (⟨#[45]⟩ : ByteArray) = ⟨P.toArray⟩) (hPl : P.length ≤ 1) (hD : Lib.decDigits q = D) (hE : (⟨#[46]⟩ : ByteArray) = ⟨E.toArray⟩) (hEl : E.length = 1) (hh : heldI a = -(n : Int)) (hq : q = n / 65536) (hr : r = n % 65536) (hn : n ≤ 2147483648) (hp : 0 < n) (hz : r ≠ 0) (L : Nat) (hL16 : L ≤ 16) (hL : ∀ j, j < L → rm r j ≠ 0) (hL0 : rm r L = 0) (m : AMem) : Ctr Tryd.prog 38 [.one (.int .i64 a)] m (.one (.str ⟨((P ++ (D ++ (E ++ dsL r L)))).toArray⟩)) m := by
  refine Ctr.enter Tryd.func38 rfl (by decide) (rs := [.tmp 2]) (nt := 37) rfl rfl fun hwf Q hQ => ?_
  have w0 : IntKind.i64.wrap (0 - -(n : Int)) = (n : Int) := by rw [wi (by omega)]; omega
  have c1 : decide (-(n : Int) < 0) = true := decide_eq_true (by omega)
  have hr6 : r < 65536 := by omega
  have hd6 := dec_len_le q
  have hq6 : q ≤ 32768 := by omega
  have q1 : (n : Int) / 65536 = (q : Int) := by omega
  have q2 : (n : Int) % 65536 = (r : Int) := by omega
  have q3 : (n : Int).tdiv 65536 = (q : Int) := by rw [Int.tdiv_eq_ediv_of_nonneg (by omega), q1]
  have q4 : (n : Int).tmod 65536 = (r : Int) := by rw [Int.tmod_eq_emod_of_nonneg (by omega), q2]
  have wq : IntKind.i64.wrap (q : Int) = (q : Int) := wi (by omega)
  have wqu : IntKind.u64.wrap (q : Int) = (q : Int) := wu64 (by omega)
  have wr : IntKind.i64.wrap (r : Int) = (r : Int) := wi (by omega)
  rw [hD] at hd6
  have l1 : P.length + D.length ≤ 9223372036854775807 := by omega
  have l2 : P.length + (D.length + E.length) ≤ 9223372036854775807 := by omega
  have c2 : ((r : Int) == 0) = false := by exact beq_false_of_ne (by omega)
  have hS0 : E ++ dsL r 0 = E := List.append_nil _
  refine AW.seq_k fun K hK => ?_
  refine AW.region (by decide) ?_
  simp only [push_cast, Nat.reduceAdd, Nat.reduceMul, Nat.reduceSub, Nat.reduceLeDiff, Nat.reduceLT, Nat.reduceEqDiff, Nat.reduceBEq, Nat.reduceBNe, Nat.reduceMod, Nat.reduceDiv, Int.reduceLE, Int.reduceLT, Int.reduceToNat, Int.reduceAdd, Int.reduceSub, Int.reduceMul, Int.reduceNeg, Int.reduceEq, Int.reduceBEq, Int.reduceBNe, ↓reduceIte, reduceCtorEq, String.reduceBNe, String.reduceEq, reduceDIte, Nat.reducePow, hh, w0, c1, c2, q1, q2, q3, q4, wq, wqu, wr, hP, hD, hE, l1, l2, pow16, shr16, and_part, str_app, str_size]
  refine Thn_n ?_
  refine hK _ _ ?_
  clear hK K
  refine AW.seq_k fun K hK => ?_
  refine AW.region (by decide) ?_
  simp only [push_cast, Nat.reduceAdd, Nat.reduceMul, Nat.reduceSub, Nat.reduceLeDiff, Nat.reduceLT, Nat.reduceEqDiff, Nat.reduceBEq, Nat.reduceBNe, Nat.reduceMod, Nat.reduceDiv, Int.reduceLE, Int.reduceLT, Int.reduceToNat, Int.reduceAdd, Int.reduceSub, Int.reduceMul, Int.reduceNeg, Int.reduceEq, Int.reduceBEq, Int.reduceBNe, ↓reduceIte, reduceCtorEq, String.reduceBNe, String.reduceEq, reduceDIte, Nat.reducePow, hh, w0, c1, c2, q1, q2, q3, q4, wq, wqu, wr, hP, hD, hE, l1, l2, pow16, shr16, and_part, str_app, str_size]
  refine CThen.by (held_c a _) ?_
  simp only [push_cast, Nat.reduceAdd, Nat.reduceMul, Nat.reduceSub, Nat.reduceLeDiff, Nat.reduceLT, Nat.reduceEqDiff, Nat.reduceBEq, Nat.reduceBNe, Nat.reduceMod, Nat.reduceDiv, Int.reduceLE, Int.reduceLT, Int.reduceToNat, Int.reduceAdd, Int.reduceSub, Int.reduceMul, Int.reduceNeg, Int.reduceEq, Int.reduceBEq, Int.reduceBNe, ↓reduceIte, reduceCtorEq, String.reduceBNe, String.reduceEq, reduceDIte, Nat.reducePow, hh, w0, c1, c2, q1, q2, q3, q4, wq, wqu, wr, hP, hD, hE, l1, l2, pow16, shr16, and_part, str_app, str_size]
  refine Thn_n ?_
  refine hK _ _ ?_
  clear hK K
  refine AW.seq_k fun K hK => ?_
  refine AW.region (by decide) ?_
  simp only [push_cast, Nat.reduceAdd, Nat.reduceMul, Nat.reduceSub, Nat.reduceLeDiff, Nat.reduceLT, Nat.reduceEqDiff, Nat.reduceBEq, Nat.reduceBNe, Nat.reduceMod, Nat.reduceDiv, Int.reduceLE, Int.reduceLT, Int.reduceToNat, Int.reduceAdd, Int.reduceSub, Int.reduceMul, Int.reduceNeg, Int.reduceEq, Int.reduceBEq, Int.reduceBNe, ↓reduceIte, reduceCtorEq, String.reduceBNe, String.reduceEq, reduceDIte, Nat.reducePow, hh, w0, c1, c2, q1, q2, q3, q4, wq, wqu, wr, hP, hD, hE, l1, l2, pow16, shr16, and_part, str_app, str_size]
  refine Thn_n ?_
  refine hK _ _ ?_
  clear hK K
  refine AW.seq_k fun K hK => ?_
  refine AW.seq_k fun K hK => ?_
  refine AW.region (by decide) ?_
  simp only [push_cast, Nat.reduceAdd, Nat.reduceMul, Nat.reduceSub, Nat.reduceLeDiff, Nat.reduceLT, Nat.reduceEqDiff, Nat.reduceBEq, Nat.reduceBNe, Nat.reduceMod, Nat.reduceDiv, Int.reduceLE, Int.reduceLT, Int.reduceToNat, Int.reduceAdd, Int.reduceSub, Int.reduceMul, Int.reduceNeg, Int.reduceEq, Int.reduceBEq, Int.reduceBNe, ↓reduceIte, reduceCtorEq, String.reduceBNe, String.reduceEq, reduceDIte, Nat.reducePow, hh, w0, c1, c2, q1, q2, q3, q4, wq, wqu, wr, hP, hD, hE, l1, l2, pow16, shr16, and_part, str_app, str_size]
  refine Thn_n ?_
  refine hK _ _ ?_
  clear hK K
  refine AW.cond_t rfl ?_
  refine AW.seq_k fun K hK => ?_
  iterate 2
    refine AW.region (by decide) ?_
    simp only [push_cast, Nat.reduceAdd, Nat.reduceMul, Nat.reduceSub, Nat.reduceLeDiff, Nat.reduceLT, Nat.reduceEqDiff, Nat.reduceBEq, Nat.reduceBNe, Nat.reduceMod, Nat.reduceDiv, Int.reduceLE, Int.reduceLT, Int.reduceToNat, Int.reduceAdd, Int.reduceSub, Int.reduceMul, Int.reduceNeg, Int.reduceEq, Int.reduceBEq, Int.reduceBNe, ↓reduceIte, reduceCtorEq, String.reduceBNe, String.reduceEq, reduceDIte, Nat.reducePow, hh, w0, c1, c2, q1, q2, q3, q4, wq, wqu, wr, hP, hD, hE, l1, l2, pow16, shr16, and_part, str_app, str_size]
    refine Thn_n ?_
    refine hK _ _ ?_
    clear hK K
  refine AW.seq_k fun K hK => ?_
  refine AW.region (by decide) ?_
  simp only [push_cast, Nat.reduceAdd, Nat.reduceMul, Nat.reduceSub, Nat.reduceLeDiff, Nat.reduceLT, Nat.reduceEqDiff, Nat.reduceBEq, Nat.reduceBNe, Nat.reduceMod, Nat.reduceDiv, Int.reduceLE, Int.reduceLT, Int.reduceToNat, Int.reduceAdd, Int.reduceSub, Int.reduceMul, Int.reduceNeg, Int.reduceEq, Int.reduceBEq, Int.reduceBNe, ↓reduceIte, reduceCtorEq, String.reduceBNe, String.reduceEq, reduceDIte, Nat.reducePow, hh, w0, c1, c2, q1, q2, q3, q4, wq, wqu, wr, hP, hD, hE, l1, l2, pow16, shr16, and_part, str_app, str_size]
  refine CThen.by (decimal_c q (by omega) _) ?_
  simp only [push_cast, Nat.reduceAdd, Nat.reduceMul, Nat.reduceSub, Nat.reduceLeDiff, Nat.reduceLT, Nat.reduceEqDiff, Nat.reduceBEq, Nat.reduceBNe, Nat.reduceMod, Nat.reduceDiv, Int.reduceLE, Int.reduceLT, Int.reduceToNat, Int.reduceAdd, Int.reduceSub, Int.reduceMul, Int.reduceNeg, Int.reduceEq, Int.reduceBEq, Int.reduceBNe, ↓reduceIte, reduceCtorEq, String.reduceBNe, String.reduceEq, reduceDIte, Nat.reducePow, hh, w0, c1, c2, q1, q2, q3, q4, wq, wqu, wr, hP, hD, hE, l1, l2, pow16, shr16, and_part, str_app, str_size]
  refine Thn_n ?_
  refine hK _ _ ?_
  clear hK K
  refine AW.seq_k fun K hK => ?_
  refine AW.region (by decide) ?_
  simp only [push_cast, Nat.reduceAdd, Nat.reduceMul, Nat.reduceSub, Nat.reduceLeDiff, Nat.reduceLT, Nat.reduceEqDiff, Nat.reduceBEq, Nat.reduceBNe, Nat.reduceMod, Nat.reduceDiv, Int.reduceLE, Int.reduceLT, Int.reduceToNat, Int.reduceAdd, Int.reduceSub, Int.reduceMul, Int.reduceNeg, Int.reduceEq, Int.reduceBEq, Int.reduceBNe, ↓reduceIte, reduceCtorEq, String.reduceBNe, String.reduceEq, reduceDIte, Nat.reducePow, hh, w0, c1, c2, q1, q2, q3, q4, wq, wqu, wr, hP, hD, hE, l1, l2, pow16, shr16, and_part, str_app, str_size]
  refine Thn_n ?_
  refine hK _ _ ?_
  clear hK K
  refine AW.seq_k fun K hK => ?_
  refine AW.seq_k fun K hK => ?_
  refine AW.region (by decide) ?_
  simp only [push_cast, Nat.reduceAdd, Nat.reduceMul, Nat.reduceSub, Nat.reduceLeDiff, Nat.reduceLT, Nat.reduceEqDiff, Nat.reduceBEq, Nat.reduceBNe, Nat.reduceMod, Nat.reduceDiv, Int.reduceLE, Int.reduceLT, Int.reduceToNat, Int.reduceAdd, Int.reduceSub, Int.reduceMul, Int.reduceNeg, Int.reduceEq, Int.reduceBEq, Int.reduceBNe, ↓reduceIte, reduceCtorEq, String.reduceBNe, String.reduceEq, reduceDIte, Nat.reducePow, hh, w0, c1, c2, q1, q2, q3, q4, wq, wqu, wr, hP, hD, hE, l1, l2, pow16, shr16, and_part, str_app, str_size]
  refine Thn_n ?_
  refine hK _ _ ?_
  clear hK K
  refine AW.cond_f rfl ?_
  refine AW.skip ?_
  refine Thn_n ?_
  refine hK _ _ ?_
  clear hK K
  refine AW.seq_k fun K hK => ?_
  refine AW.region (by decide) ?_
  simp only [push_cast, Nat.reduceAdd, Nat.reduceMul, Nat.reduceSub, Nat.reduceLeDiff, Nat.reduceLT, Nat.reduceEqDiff, Nat.reduceBEq, Nat.reduceBNe, Nat.reduceMod, Nat.reduceDiv, Int.reduceLE, Int.reduceLT, Int.reduceToNat, Int.reduceAdd, Int.reduceSub, Int.reduceMul, Int.reduceNeg, Int.reduceEq, Int.reduceBEq, Int.reduceBNe, ↓reduceIte, reduceCtorEq, String.reduceBNe, String.reduceEq, reduceDIte, Nat.reducePow, hh, w0, c1, c2, q1, q2, q3, q4, wq, wqu, wr, hP, hD, hE, l1, l2, pow16, shr16, and_part, str_app, str_size]
  refine Thn_n ?_
  refine hK _ _ ?_
  clear hK K
  refine AW.seq_k fun K hK => ?_
  refine AW.block ?_
  refine AW.loopK [] (fun i => i ≤ L) (fun i => [(3, .one (.str ⟨(P ++ (D ++ (E ++ dsL r i))).toArray⟩)), (4, .one (.int .i64 (rm r i : Int)))]) (fun i => []) (fun i => L - i) 0 (Nat.zero_le _) ?_ ?_ fun i hi13 => ?_
  · first | rfl | (simp only [Keeps, Tm.get_cons, Nat.reduceEqDiff, ↓reduceIte, if_true, if_false, ite_true, ite_false, true_and, and_true, and_self, reduceCtorEq, hS0] <;> rfl)
  · first | rfl | (simp only [setAll, push_cast, Nat.reduceAdd, Nat.reduceMul, Nat.reduceSub, Nat.reduceLeDiff, Nat.reduceLT, Nat.reduceEqDiff, Nat.reduceBEq, Nat.reduceBNe, Nat.reduceMod, Nat.reduceDiv, Int.reduceLE, Int.reduceLT, Int.reduceToNat, Int.reduceAdd, Int.reduceSub, Int.reduceMul, Int.reduceNeg, Int.reduceEq, Int.reduceBEq, Int.reduceBNe, ↓reduceIte, reduceCtorEq, String.reduceBNe, String.reduceEq, reduceDIte, Nat.reducePow, hh, w0, c1, c2, q1, q2, q3, q4, wq, wqu, wr, hP, hD, hE, l1, l2, pow16, shr16, and_part, str_app, str_size] <;> rfl)
  have hiL := hi13
  have hi6 := rm_lt hr6 i
  obtain ⟨x0, hx0⟩ : ∃ x0, x0 = rm r i := ⟨_, rfl⟩
  rw [← hx0]
  rw [← hx0] at hi6
  obtain ⟨d, hd⟩ : ∃ d, d = x0 * 10 / 65536 := ⟨_, rfl⟩
  obtain ⟨r', hr'⟩ : ∃ r', r' = x0 * 10 % 65536 := ⟨_, rfl⟩
  have hr2 : rm r (i + 1) = r' := by rw [hr', hx0]; rfl
  try simp only [keepL, setAll, push_cast, Nat.reduceAdd, Nat.reduceMul, Nat.reduceSub, Nat.reduceLeDiff, Nat.reduceLT, Nat.reduceEqDiff, Nat.reduceBEq, Nat.reduceBNe, Nat.reduceMod, Nat.reduceDiv, Int.reduceLE, Int.reduceLT, Int.reduceToNat, Int.reduceAdd, Int.reduceSub, Int.reduceMul, Int.reduceNeg, Int.reduceEq, Int.reduceBEq, Int.reduceBNe, ↓reduceIte, reduceCtorEq, String.reduceBNe, String.reduceEq, reduceDIte, Nat.reducePow, hh, w0, c1, c2, q1, q2, q3, q4, wq, wqu, wr, hP, hD, hE, l1, l2, pow16, shr16, and_part, str_app, str_size]
  refine AW.seq_k fun K hK => ?_
  refine AW.seq_k fun K hK => ?_
  refine AW.region (by decide) ?_
  simp only [push_cast, Nat.reduceAdd, Nat.reduceMul, Nat.reduceSub, Nat.reduceLeDiff, Nat.reduceLT, Nat.reduceEqDiff, Nat.reduceBEq, Nat.reduceBNe, Nat.reduceMod, Nat.reduceDiv, Int.reduceLE, Int.reduceLT, Int.reduceToNat, Int.reduceAdd, Int.reduceSub, Int.reduceMul, Int.reduceNeg, Int.reduceEq, Int.reduceBEq, Int.reduceBNe, ↓reduceIte, reduceCtorEq, String.reduceBNe, String.reduceEq, reduceDIte, Nat.reducePow, hh, w0, c1, c2, q1, q2, q3, q4, wq, wqu, wr, hP, hD, hE, l1, l2, pow16, shr16, and_part, str_app, str_size]
  refine Thn_n ?_
  refine hK _ _ ?_
  clear hK K
  refine AW.cond rfl (fun h25 => ?_) (fun h25 => ?_)
  · have hx : 0 < x0 := by have := of_decide_eq_true h25; omega
    have hiLt : i < L := by
      rcases Nat.lt_or_ge i L with h | h
      · exact h
      · have e : i = L := by omega
        rw [e, hL0] at hx0; omega
    have v1 : IntKind.i64.wrap ((x0 : Int) * 10) = (x0 : Int) * 10 := wi (by omega)
    have v2 : ((x0 : Int) * 10) / 65536 = (d : Int) := by omega
    have v3 : ((x0 : Int) * 10) % 65536 = (r' : Int) := by omega
    have v4 : ((x0 : Int) * 10).tdiv 65536 = (d : Int) := by rw [Int.tdiv_eq_ediv_of_nonneg (by omega), v2]
    have v5 : ((x0 : Int) * 10).tmod 65536 = (r' : Int) := by rw [Int.tmod_eq_emod_of_nonneg (by omega), v3]
    have hd10 : d < 10 := by omega
    have v6 : IntKind.i64.wrap (d : Int) = (d : Int) := wi (by omega)
    have v6u : IntKind.u64.wrap (d : Int) = (d : Int) := wu64 (by omega)
    have v7 : IntKind.i64.wrap (r' : Int) = (r' : Int) := wi (by omega)
    obtain ⟨T, hT⟩ : ∃ T, T = [dgt d] := ⟨_, rfl⟩
    have ed : Lib.decDigits d = T := by rw [Lib.decDigits, dif_pos hd10, hT]; rfl
    have edS : dsL r i ++ T = dsL r (i + 1) := by rw [hT, dsL_s, ← hx0, ← hd]
    have l3 : P.length + (D.length + (E.length + ((dsL r i).length + T.length))) ≤ 9223372036854775807 := by
      rw [dsL_len, hT]; show _ + (_ + (_ + (_ + 1))) ≤ _; omega
    refine AW.skip ?_
    refine Thn_n ?_
    refine hK _ _ ?_
    clear hK K
    refine AW.block ?_
    refine AW.seq_k fun K hK => ?_
    refine AW.region (by decide) ?_
    simp only [push_cast, Nat.reduceAdd, Nat.reduceMul, Nat.reduceSub, Nat.reduceLeDiff, Nat.reduceLT, Nat.reduceEqDiff, Nat.reduceBEq, Nat.reduceBNe, Nat.reduceMod, Nat.reduceDiv, Int.reduceLE, Int.reduceLT, Int.reduceToNat, Int.reduceAdd, Int.reduceSub, Int.reduceMul, Int.reduceNeg, Int.reduceEq, Int.reduceBEq, Int.reduceBNe, ↓reduceIte, reduceCtorEq, String.reduceBNe, String.reduceEq, reduceDIte, Nat.reducePow, hh, w0, c1, c2, q1, q2, q3, q4, wq, wqu, wr, hP, hD, hE, l1, l2, pow16, shr16, and_part, str_app, str_size, v1, v2, v3, v4, v5, v6, v6u, v7, ed, edS, l3, hr2]
    refine Thn_n ?_
    refine hK _ _ ?_
    clear hK K
    refine AW.seq_k fun K hK => ?_
    refine AW.region (by decide) ?_
    simp only [push_cast, Nat.reduceAdd, Nat.reduceMul, Nat.reduceSub, Nat.reduceLeDiff, Nat.reduceLT, Nat.reduceEqDiff, Nat.reduceBEq, Nat.reduceBNe, Nat.reduceMod, Nat.reduceDiv, Int.reduceLE, Int.reduceLT, Int.reduceToNat, Int.reduceAdd, Int.reduceSub, Int.reduceMul, Int.reduceNeg, Int.reduceEq, Int.reduceBEq, Int.reduceBNe, ↓reduceIte, reduceCtorEq, String.reduceBNe, String.reduceEq, reduceDIte, Nat.reducePow, hh, w0, c1, c2, q1, q2, q3, q4, wq, wqu, wr, hP, hD, hE, l1, l2, pow16, shr16, and_part, str_app, str_size, v1, v2, v3, v4, v5, v6, v6u, v7, ed, edS, l3, hr2]
    refine CThen.by (decimal_c d (by omega) _) ?_
    simp only [push_cast, Nat.reduceAdd, Nat.reduceMul, Nat.reduceSub, Nat.reduceLeDiff, Nat.reduceLT, Nat.reduceEqDiff, Nat.reduceBEq, Nat.reduceBNe, Nat.reduceMod, Nat.reduceDiv, Int.reduceLE, Int.reduceLT, Int.reduceToNat, Int.reduceAdd, Int.reduceSub, Int.reduceMul, Int.reduceNeg, Int.reduceEq, Int.reduceBEq, Int.reduceBNe, ↓reduceIte, reduceCtorEq, String.reduceBNe, String.reduceEq, reduceDIte, Nat.reducePow, hh, w0, c1, c2, q1, q2, q3, q4, wq, wqu, wr, hP, hD, hE, l1, l2, pow16, shr16, and_part, str_app, str_size, v1, v2, v3, v4, v5, v6, v6u, v7, ed, edS, l3, hr2]
    refine Thn_n ?_
    refine hK _ _ ?_
    clear hK K
    refine AW.region (by decide) ?_
    simp only [push_cast, Nat.reduceAdd, Nat.reduceMul, Nat.reduceSub, Nat.reduceLeDiff, Nat.reduceLT, Nat.reduceEqDiff, Nat.reduceBEq, Nat.reduceBNe, Nat.reduceMod, Nat.reduceDiv, Int.reduceLE, Int.reduceLT, Int.reduceToNat, Int.reduceAdd, Int.reduceSub, Int.reduceMul, Int.reduceNeg, Int.reduceEq, Int.reduceBEq, Int.reduceBNe, ↓reduceIte, reduceCtorEq, String.reduceBNe, String.reduceEq, reduceDIte, Nat.reducePow, hh, w0, c1, c2, q1, q2, q3, q4, wq, wqu, wr, hP, hD, hE, l1, l2, pow16, shr16, and_part, str_app, str_size, v1, v2, v3, v4, v5, v6, v6u, v7, ed, edS, l3, hr2]
    refine InB_n ?_
    refine Thn_n ?_
    refine ⟨i + 1, (by show i + 1 ≤ L; omega), (by show L - (i + 1) < L - i; omega), ?_⟩
    try simp only [keepL, setAll, push_cast, Nat.reduceAdd, Nat.reduceMul, Nat.reduceSub, Nat.reduceLeDiff, Nat.reduceLT, Nat.reduceEqDiff, Nat.reduceBEq, Nat.reduceBNe, Nat.reduceMod, Nat.reduceDiv, Int.reduceLE, Int.reduceLT, Int.reduceToNat, Int.reduceAdd, Int.reduceSub, Int.reduceMul, Int.reduceNeg, Int.reduceEq, Int.reduceBEq, Int.reduceBNe, ↓reduceIte, reduceCtorEq, String.reduceBNe, String.reduceEq, reduceDIte, Nat.reducePow, hh, w0, c1, c2, q1, q2, q3, q4, wq, wqu, wr, hP, hD, hE, l1, l2, pow16, shr16, and_part, str_app, str_size, v1, v2, v3, v4, v5, v6, v6u, v7, ed, edS, l3, hr2]
    exact Weak.same (by simp only [Keeps, Tm.get_cons, Nat.reduceEqDiff, ↓reduceIte, if_true, if_false, ite_true, ite_false, true_and, and_true, and_self, reduceCtorEq]) (by first | rfl | simp only [Keeps, Tm.get_cons, Nat.reduceEqDiff, ↓reduceIte, if_true, if_false, ite_true, ite_false, true_and, and_true, and_self, reduceCtorEq])
  · have hx : x0 = 0 := by have := of_decide_eq_false h25; omega
    have hi' : i = L := by
      rcases Nat.lt_or_ge i L with h | h
      · exact absurd (hx0.symm.trans hx) (hL i h)
      · omega
    subst hi'
    refine AW.exit ?_
    refine Thn_e ?_
    clear hK K
    refine Thn_e ?_
    refine InB_here ?_
    refine Thn_n ?_
    refine hK _ _ ?_
    clear hK K
    refine AW.seq_k fun K hK => ?_
    refine AW.region (by decide) ?_
    simp only [push_cast, Nat.reduceAdd, Nat.reduceMul, Nat.reduceSub, Nat.reduceLeDiff, Nat.reduceLT, Nat.reduceEqDiff, Nat.reduceBEq, Nat.reduceBNe, Nat.reduceMod, Nat.reduceDiv, Int.reduceLE, Int.reduceLT, Int.reduceToNat, Int.reduceAdd, Int.reduceSub, Int.reduceMul, Int.reduceNeg, Int.reduceEq, Int.reduceBEq, Int.reduceBNe, ↓reduceIte, reduceCtorEq, String.reduceBNe, String.reduceEq, reduceDIte, Nat.reducePow, hh, w0, c1, c2, q1, q2, q3, q4, wq, wqu, wr, hP, hD, hE, l1, l2, pow16, shr16, and_part, str_app, str_size]
    refine Thn_n ?_
    refine hK _ _ ?_
    clear hK K
    refine AW.ret ?_
    refine hQ _ _ _ ?_
    first | refine RetP.drop0 (Or.inr rfl) ?_ ?_ hwf | refine RetP.drop (Or.inr rfl) ?_ ?_ hwf
    · simp only [resA, resOne, resTv, AV.tv, push_cast, Nat.reduceAdd, Nat.reduceMul, Nat.reduceSub, Nat.reduceLeDiff, Nat.reduceLT, Nat.reduceEqDiff, Nat.reduceBEq, Nat.reduceBNe, Nat.reduceMod, Nat.reduceDiv, Int.reduceLE, Int.reduceLT, Int.reduceToNat, Int.reduceAdd, Int.reduceSub, Int.reduceMul, Int.reduceNeg, Int.reduceEq, Int.reduceBEq, Int.reduceBNe, ↓reduceIte, reduceCtorEq, String.reduceBNe, String.reduceEq, reduceDIte, Nat.reducePow, hh, w0, c1, c2, q1, q2, q3, q4, wq, wqu, wr, hP, hD, hE, l1, l2, pow16, shr16, and_part, str_app, str_size]
    · rfl
theorem rtext_pz (a : Int) (n q r : Nat) (P D E : List UInt8) (hP : (⟨#[]⟩ : ByteArray) = ⟨P.toArray⟩) (hPl : P.length ≤ 1) (hD : Lib.decDigits q = D) (hE : (⟨#[46]⟩ : ByteArray) = ⟨E.toArray⟩) (hEl : E.length = 1) (hh : heldI a = (n : Int)) (hq : q = n / 65536) (hr : r = n % 65536) (hn : n ≤ 2147483648) (hz : r = 0) (m : AMem) : Ctr Tryd.prog 38 [.one (.int .i64 a)] m (.one (.str ⟨((P ++ D)).toArray⟩)) m := by
  refine Ctr.enter Tryd.func38 rfl (by decide) (rs := [.tmp 2]) (nt := 37) rfl rfl fun hwf Q hQ => ?_
  have w0 : IntKind.i64.wrap (n : Int) = (n : Int) := wi (by omega)
  have c1 : decide ((n : Int) < 0) = false := decide_eq_false (by omega)
  have hr6 : r < 65536 := by omega
  have hd6 := dec_len_le q
  have hq6 : q ≤ 32768 := by omega
  have q1 : (n : Int) / 65536 = (q : Int) := by omega
  have q2 : (n : Int) % 65536 = (r : Int) := by omega
  have q3 : (n : Int).tdiv 65536 = (q : Int) := by rw [Int.tdiv_eq_ediv_of_nonneg (by omega), q1]
  have q4 : (n : Int).tmod 65536 = (r : Int) := by rw [Int.tmod_eq_emod_of_nonneg (by omega), q2]
  have wq : IntKind.i64.wrap (q : Int) = (q : Int) := wi (by omega)
  have wqu : IntKind.u64.wrap (q : Int) = (q : Int) := wu64 (by omega)
  have wr : IntKind.i64.wrap (r : Int) = (r : Int) := wi (by omega)
  rw [hD] at hd6
  have l1 : P.length + D.length ≤ 9223372036854775807 := by omega
  have l2 : P.length + (D.length + E.length) ≤ 9223372036854775807 := by omega
  have c2 : ((r : Int) == 0) = true := by rw [hz]; rfl
  refine AW.seq_k fun K hK => ?_
  refine AW.region (by decide) ?_
  simp only [push_cast, Nat.reduceAdd, Nat.reduceMul, Nat.reduceSub, Nat.reduceLeDiff, Nat.reduceLT, Nat.reduceEqDiff, Nat.reduceBEq, Nat.reduceBNe, Nat.reduceMod, Nat.reduceDiv, Int.reduceLE, Int.reduceLT, Int.reduceToNat, Int.reduceAdd, Int.reduceSub, Int.reduceMul, Int.reduceNeg, Int.reduceEq, Int.reduceBEq, Int.reduceBNe, ↓reduceIte, reduceCtorEq, String.reduceBNe, String.reduceEq, reduceDIte, Nat.reducePow, hh, w0, c1, c2, q1, q2, q3, q4, wq, wqu, wr, hP, hD, hE, l1, l2, pow16, shr16, and_part, str_app, str_size]
  refine Thn_n ?_
  refine hK _ _ ?_
  clear hK K
  refine AW.seq_k fun K hK => ?_
  refine AW.region (by decide) ?_
  simp only [push_cast, Nat.reduceAdd, Nat.reduceMul, Nat.reduceSub, Nat.reduceLeDiff, Nat.reduceLT, Nat.reduceEqDiff, Nat.reduceBEq, Nat.reduceBNe, Nat.reduceMod, Nat.reduceDiv, Int.reduceLE, Int.reduceLT, Int.reduceToNat, Int.reduceAdd, Int.reduceSub, Int.reduceMul, Int.reduceNeg, Int.reduceEq, Int.reduceBEq, Int.reduceBNe, ↓reduceIte, reduceCtorEq, String.reduceBNe, String.reduceEq, reduceDIte, Nat.reducePow, hh, w0, c1, c2, q1, q2, q3, q4, wq, wqu, wr, hP, hD, hE, l1, l2, pow16, shr16, and_part, str_app, str_size]
  refine CThen.by (held_c a _) ?_
  simp only [push_cast, Nat.reduceAdd, Nat.reduceMul, Nat.reduceSub, Nat.reduceLeDiff, Nat.reduceLT, Nat.reduceEqDiff, Nat.reduceBEq, Nat.reduceBNe, Nat.reduceMod, Nat.reduceDiv, Int.reduceLE, Int.reduceLT, Int.reduceToNat, Int.reduceAdd, Int.reduceSub, Int.reduceMul, Int.reduceNeg, Int.reduceEq, Int.reduceBEq, Int.reduceBNe, ↓reduceIte, reduceCtorEq, String.reduceBNe, String.reduceEq, reduceDIte, Nat.reducePow, hh, w0, c1, c2, q1, q2, q3, q4, wq, wqu, wr, hP, hD, hE, l1, l2, pow16, shr16, and_part, str_app, str_size]
  refine Thn_n ?_
  refine hK _ _ ?_
  clear hK K
  refine AW.seq_k fun K hK => ?_
  refine AW.region (by decide) ?_
  simp only [push_cast, Nat.reduceAdd, Nat.reduceMul, Nat.reduceSub, Nat.reduceLeDiff, Nat.reduceLT, Nat.reduceEqDiff, Nat.reduceBEq, Nat.reduceBNe, Nat.reduceMod, Nat.reduceDiv, Int.reduceLE, Int.reduceLT, Int.reduceToNat, Int.reduceAdd, Int.reduceSub, Int.reduceMul, Int.reduceNeg, Int.reduceEq, Int.reduceBEq, Int.reduceBNe, ↓reduceIte, reduceCtorEq, String.reduceBNe, String.reduceEq, reduceDIte, Nat.reducePow, hh, w0, c1, c2, q1, q2, q3, q4, wq, wqu, wr, hP, hD, hE, l1, l2, pow16, shr16, and_part, str_app, str_size]
  refine Thn_n ?_
  refine hK _ _ ?_
  clear hK K
  refine AW.seq_k fun K hK => ?_
  refine AW.seq_k fun K hK => ?_
  refine AW.region (by decide) ?_
  simp only [push_cast, Nat.reduceAdd, Nat.reduceMul, Nat.reduceSub, Nat.reduceLeDiff, Nat.reduceLT, Nat.reduceEqDiff, Nat.reduceBEq, Nat.reduceBNe, Nat.reduceMod, Nat.reduceDiv, Int.reduceLE, Int.reduceLT, Int.reduceToNat, Int.reduceAdd, Int.reduceSub, Int.reduceMul, Int.reduceNeg, Int.reduceEq, Int.reduceBEq, Int.reduceBNe, ↓reduceIte, reduceCtorEq, String.reduceBNe, String.reduceEq, reduceDIte, Nat.reducePow, hh, w0, c1, c2, q1, q2, q3, q4, wq, wqu, wr, hP, hD, hE, l1, l2, pow16, shr16, and_part, str_app, str_size]
  refine Thn_n ?_
  refine hK _ _ ?_
  clear hK K
  refine AW.cond_f rfl ?_
  refine AW.skip ?_
  refine Thn_n ?_
  refine hK _ _ ?_
  clear hK K
  refine AW.seq_k fun K hK => ?_
  refine AW.region (by decide) ?_
  simp only [push_cast, Nat.reduceAdd, Nat.reduceMul, Nat.reduceSub, Nat.reduceLeDiff, Nat.reduceLT, Nat.reduceEqDiff, Nat.reduceBEq, Nat.reduceBNe, Nat.reduceMod, Nat.reduceDiv, Int.reduceLE, Int.reduceLT, Int.reduceToNat, Int.reduceAdd, Int.reduceSub, Int.reduceMul, Int.reduceNeg, Int.reduceEq, Int.reduceBEq, Int.reduceBNe, ↓reduceIte, reduceCtorEq, String.reduceBNe, String.reduceEq, reduceDIte, Nat.reducePow, hh, w0, c1, c2, q1, q2, q3, q4, wq, wqu, wr, hP, hD, hE, l1, l2, pow16, shr16, and_part, str_app, str_size]
  refine CThen.by (decimal_c q (by omega) _) ?_
  simp only [push_cast, Nat.reduceAdd, Nat.reduceMul, Nat.reduceSub, Nat.reduceLeDiff, Nat.reduceLT, Nat.reduceEqDiff, Nat.reduceBEq, Nat.reduceBNe, Nat.reduceMod, Nat.reduceDiv, Int.reduceLE, Int.reduceLT, Int.reduceToNat, Int.reduceAdd, Int.reduceSub, Int.reduceMul, Int.reduceNeg, Int.reduceEq, Int.reduceBEq, Int.reduceBNe, ↓reduceIte, reduceCtorEq, String.reduceBNe, String.reduceEq, reduceDIte, Nat.reducePow, hh, w0, c1, c2, q1, q2, q3, q4, wq, wqu, wr, hP, hD, hE, l1, l2, pow16, shr16, and_part, str_app, str_size]
  refine Thn_n ?_
  refine hK _ _ ?_
  clear hK K
  refine AW.seq_k fun K hK => ?_
  refine AW.region (by decide) ?_
  simp only [push_cast, Nat.reduceAdd, Nat.reduceMul, Nat.reduceSub, Nat.reduceLeDiff, Nat.reduceLT, Nat.reduceEqDiff, Nat.reduceBEq, Nat.reduceBNe, Nat.reduceMod, Nat.reduceDiv, Int.reduceLE, Int.reduceLT, Int.reduceToNat, Int.reduceAdd, Int.reduceSub, Int.reduceMul, Int.reduceNeg, Int.reduceEq, Int.reduceBEq, Int.reduceBNe, ↓reduceIte, reduceCtorEq, String.reduceBNe, String.reduceEq, reduceDIte, Nat.reducePow, hh, w0, c1, c2, q1, q2, q3, q4, wq, wqu, wr, hP, hD, hE, l1, l2, pow16, shr16, and_part, str_app, str_size]
  refine Thn_n ?_
  refine hK _ _ ?_
  clear hK K
  refine AW.seq_k fun K hK => ?_
  refine AW.seq_k fun K hK => ?_
  refine AW.region (by decide) ?_
  simp only [push_cast, Nat.reduceAdd, Nat.reduceMul, Nat.reduceSub, Nat.reduceLeDiff, Nat.reduceLT, Nat.reduceEqDiff, Nat.reduceBEq, Nat.reduceBNe, Nat.reduceMod, Nat.reduceDiv, Int.reduceLE, Int.reduceLT, Int.reduceToNat, Int.reduceAdd, Int.reduceSub, Int.reduceMul, Int.reduceNeg, Int.reduceEq, Int.reduceBEq, Int.reduceBNe, ↓reduceIte, reduceCtorEq, String.reduceBNe, String.reduceEq, reduceDIte, Nat.reducePow, hh, w0, c1, c2, q1, q2, q3, q4, wq, wqu, wr, hP, hD, hE, l1, l2, pow16, shr16, and_part, str_app, str_size]
  refine Thn_n ?_
  refine hK _ _ ?_
  clear hK K
  refine AW.cond_t rfl ?_
  refine AW.seq_k fun K hK => ?_
  refine AW.region (by decide) ?_
  simp only [push_cast, Nat.reduceAdd, Nat.reduceMul, Nat.reduceSub, Nat.reduceLeDiff, Nat.reduceLT, Nat.reduceEqDiff, Nat.reduceBEq, Nat.reduceBNe, Nat.reduceMod, Nat.reduceDiv, Int.reduceLE, Int.reduceLT, Int.reduceToNat, Int.reduceAdd, Int.reduceSub, Int.reduceMul, Int.reduceNeg, Int.reduceEq, Int.reduceBEq, Int.reduceBNe, ↓reduceIte, reduceCtorEq, String.reduceBNe, String.reduceEq, reduceDIte, Nat.reducePow, hh, w0, c1, c2, q1, q2, q3, q4, wq, wqu, wr, hP, hD, hE, l1, l2, pow16, shr16, and_part, str_app, str_size]
  refine Thn_n ?_
  refine hK _ _ ?_
  clear hK K
  refine AW.ret ?_
  refine Thn_r ?_
  refine hQ _ _ _ ?_
  first | refine RetP.drop0 (Or.inr rfl) ?_ ?_ hwf | refine RetP.drop (Or.inr rfl) ?_ ?_ hwf
  · simp only [resA, resOne, resTv, AV.tv, push_cast, Nat.reduceAdd, Nat.reduceMul, Nat.reduceSub, Nat.reduceLeDiff, Nat.reduceLT, Nat.reduceEqDiff, Nat.reduceBEq, Nat.reduceBNe, Nat.reduceMod, Nat.reduceDiv, Int.reduceLE, Int.reduceLT, Int.reduceToNat, Int.reduceAdd, Int.reduceSub, Int.reduceMul, Int.reduceNeg, Int.reduceEq, Int.reduceBEq, Int.reduceBNe, ↓reduceIte, reduceCtorEq, String.reduceBNe, String.reduceEq, reduceDIte, Nat.reducePow, hh, w0, c1, c2, q1, q2, q3, q4, wq, wqu, wr, hP, hD, hE, l1, l2, pow16, shr16, and_part, str_app, str_size]
  · rfl
theorem rtext_pf (a : Int) (n q r : Nat) (P D E : List UInt8) (hP : (⟨#[]⟩ : ByteArray) = ⟨P.toArray⟩) (hPl : P.length ≤ 1) (hD : Lib.decDigits q = D) (hE : (⟨#[46]⟩ : ByteArray) = ⟨E.toArray⟩) (hEl : E.length = 1) (hh : heldI a = (n : Int)) (hq : q = n / 65536) (hr : r = n % 65536) (hn : n ≤ 2147483648) (hz : r ≠ 0) (L : Nat) (hL16 : L ≤ 16) (hL : ∀ j, j < L → rm r j ≠ 0) (hL0 : rm r L = 0) (m : AMem) : Ctr Tryd.prog 38 [.one (.int .i64 a)] m (.one (.str ⟨((P ++ (D ++ (E ++ dsL r L)))).toArray⟩)) m := by
  refine Ctr.enter Tryd.func38 rfl (by decide) (rs := [.tmp 2]) (nt := 37) rfl rfl fun hwf Q hQ => ?_
  have w0 : IntKind.i64.wrap (n : Int) = (n : Int) := wi (by omega)
  have c1 : decide ((n : Int) < 0) = false := decide_eq_false (by omega)
  have hr6 : r < 65536 := by omega
  have hd6 := dec_len_le q
  have hq6 : q ≤ 32768 := by omega
  have q1 : (n : Int) / 65536 = (q : Int) := by omega
  have q2 : (n : Int) % 65536 = (r : Int) := by omega
  have q3 : (n : Int).tdiv 65536 = (q : Int) := by rw [Int.tdiv_eq_ediv_of_nonneg (by omega), q1]
  have q4 : (n : Int).tmod 65536 = (r : Int) := by rw [Int.tmod_eq_emod_of_nonneg (by omega), q2]
  have wq : IntKind.i64.wrap (q : Int) = (q : Int) := wi (by omega)
  have wqu : IntKind.u64.wrap (q : Int) = (q : Int) := wu64 (by omega)
  have wr : IntKind.i64.wrap (r : Int) = (r : Int) := wi (by omega)
  rw [hD] at hd6
  have l1 : P.length + D.length ≤ 9223372036854775807 := by omega
  have l2 : P.length + (D.length + E.length) ≤ 9223372036854775807 := by omega
  have c2 : ((r : Int) == 0) = false := by exact beq_false_of_ne (by omega)
  have hS0 : E ++ dsL r 0 = E := List.append_nil _
  refine AW.seq_k fun K hK => ?_
  refine AW.region (by decide) ?_
  simp only [push_cast, Nat.reduceAdd, Nat.reduceMul, Nat.reduceSub, Nat.reduceLeDiff, Nat.reduceLT, Nat.reduceEqDiff, Nat.reduceBEq, Nat.reduceBNe, Nat.reduceMod, Nat.reduceDiv, Int.reduceLE, Int.reduceLT, Int.reduceToNat, Int.reduceAdd, Int.reduceSub, Int.reduceMul, Int.reduceNeg, Int.reduceEq, Int.reduceBEq, Int.reduceBNe, ↓reduceIte, reduceCtorEq, String.reduceBNe, String.reduceEq, reduceDIte, Nat.reducePow, hh, w0, c1, c2, q1, q2, q3, q4, wq, wqu, wr, hP, hD, hE, l1, l2, pow16, shr16, and_part, str_app, str_size]
  refine Thn_n ?_
  refine hK _ _ ?_
  clear hK K
  refine AW.seq_k fun K hK => ?_
  refine AW.region (by decide) ?_
  simp only [push_cast, Nat.reduceAdd, Nat.reduceMul, Nat.reduceSub, Nat.reduceLeDiff, Nat.reduceLT, Nat.reduceEqDiff, Nat.reduceBEq, Nat.reduceBNe, Nat.reduceMod, Nat.reduceDiv, Int.reduceLE, Int.reduceLT, Int.reduceToNat, Int.reduceAdd, Int.reduceSub, Int.reduceMul, Int.reduceNeg, Int.reduceEq, Int.reduceBEq, Int.reduceBNe, ↓reduceIte, reduceCtorEq, String.reduceBNe, String.reduceEq, reduceDIte, Nat.reducePow, hh, w0, c1, c2, q1, q2, q3, q4, wq, wqu, wr, hP, hD, hE, l1, l2, pow16, shr16, and_part, str_app, str_size]
  refine CThen.by (held_c a _) ?_
  simp only [push_cast, Nat.reduceAdd, Nat.reduceMul, Nat.reduceSub, Nat.reduceLeDiff, Nat.reduceLT, Nat.reduceEqDiff, Nat.reduceBEq, Nat.reduceBNe, Nat.reduceMod, Nat.reduceDiv, Int.reduceLE, Int.reduceLT, Int.reduceToNat, Int.reduceAdd, Int.reduceSub, Int.reduceMul, Int.reduceNeg, Int.reduceEq, Int.reduceBEq, Int.reduceBNe, ↓reduceIte, reduceCtorEq, String.reduceBNe, String.reduceEq, reduceDIte, Nat.reducePow, hh, w0, c1, c2, q1, q2, q3, q4, wq, wqu, wr, hP, hD, hE, l1, l2, pow16, shr16, and_part, str_app, str_size]
  refine Thn_n ?_
  refine hK _ _ ?_
  clear hK K
  refine AW.seq_k fun K hK => ?_
  refine AW.region (by decide) ?_
  simp only [push_cast, Nat.reduceAdd, Nat.reduceMul, Nat.reduceSub, Nat.reduceLeDiff, Nat.reduceLT, Nat.reduceEqDiff, Nat.reduceBEq, Nat.reduceBNe, Nat.reduceMod, Nat.reduceDiv, Int.reduceLE, Int.reduceLT, Int.reduceToNat, Int.reduceAdd, Int.reduceSub, Int.reduceMul, Int.reduceNeg, Int.reduceEq, Int.reduceBEq, Int.reduceBNe, ↓reduceIte, reduceCtorEq, String.reduceBNe, String.reduceEq, reduceDIte, Nat.reducePow, hh, w0, c1, c2, q1, q2, q3, q4, wq, wqu, wr, hP, hD, hE, l1, l2, pow16, shr16, and_part, str_app, str_size]
  refine Thn_n ?_
  refine hK _ _ ?_
  clear hK K
  refine AW.seq_k fun K hK => ?_
  refine AW.seq_k fun K hK => ?_
  refine AW.region (by decide) ?_
  simp only [push_cast, Nat.reduceAdd, Nat.reduceMul, Nat.reduceSub, Nat.reduceLeDiff, Nat.reduceLT, Nat.reduceEqDiff, Nat.reduceBEq, Nat.reduceBNe, Nat.reduceMod, Nat.reduceDiv, Int.reduceLE, Int.reduceLT, Int.reduceToNat, Int.reduceAdd, Int.reduceSub, Int.reduceMul, Int.reduceNeg, Int.reduceEq, Int.reduceBEq, Int.reduceBNe, ↓reduceIte, reduceCtorEq, String.reduceBNe, String.reduceEq, reduceDIte, Nat.reducePow, hh, w0, c1, c2, q1, q2, q3, q4, wq, wqu, wr, hP, hD, hE, l1, l2, pow16, shr16, and_part, str_app, str_size]
  refine Thn_n ?_
  refine hK _ _ ?_
  clear hK K
  refine AW.cond_f rfl ?_
  refine AW.skip ?_
  refine Thn_n ?_
  refine hK _ _ ?_
  clear hK K
  refine AW.seq_k fun K hK => ?_
  refine AW.region (by decide) ?_
  simp only [push_cast, Nat.reduceAdd, Nat.reduceMul, Nat.reduceSub, Nat.reduceLeDiff, Nat.reduceLT, Nat.reduceEqDiff, Nat.reduceBEq, Nat.reduceBNe, Nat.reduceMod, Nat.reduceDiv, Int.reduceLE, Int.reduceLT, Int.reduceToNat, Int.reduceAdd, Int.reduceSub, Int.reduceMul, Int.reduceNeg, Int.reduceEq, Int.reduceBEq, Int.reduceBNe, ↓reduceIte, reduceCtorEq, String.reduceBNe, String.reduceEq, reduceDIte, Nat.reducePow, hh, w0, c1, c2, q1, q2, q3, q4, wq, wqu, wr, hP, hD, hE, l1, l2, pow16, shr16, and_part, str_app, str_size]
  refine CThen.by (decimal_c q (by omega) _) ?_
  simp only [push_cast, Nat.reduceAdd, Nat.reduceMul, Nat.reduceSub, Nat.reduceLeDiff, Nat.reduceLT, Nat.reduceEqDiff, Nat.reduceBEq, Nat.reduceBNe, Nat.reduceMod, Nat.reduceDiv, Int.reduceLE, Int.reduceLT, Int.reduceToNat, Int.reduceAdd, Int.reduceSub, Int.reduceMul, Int.reduceNeg, Int.reduceEq, Int.reduceBEq, Int.reduceBNe, ↓reduceIte, reduceCtorEq, String.reduceBNe, String.reduceEq, reduceDIte, Nat.reducePow, hh, w0, c1, c2, q1, q2, q3, q4, wq, wqu, wr, hP, hD, hE, l1, l2, pow16, shr16, and_part, str_app, str_size]
  refine Thn_n ?_
  refine hK _ _ ?_
  clear hK K
  refine AW.seq_k fun K hK => ?_
  refine AW.region (by decide) ?_
  simp only [push_cast, Nat.reduceAdd, Nat.reduceMul, Nat.reduceSub, Nat.reduceLeDiff, Nat.reduceLT, Nat.reduceEqDiff, Nat.reduceBEq, Nat.reduceBNe, Nat.reduceMod, Nat.reduceDiv, Int.reduceLE, Int.reduceLT, Int.reduceToNat, Int.reduceAdd, Int.reduceSub, Int.reduceMul, Int.reduceNeg, Int.reduceEq, Int.reduceBEq, Int.reduceBNe, ↓reduceIte, reduceCtorEq, String.reduceBNe, String.reduceEq, reduceDIte, Nat.reducePow, hh, w0, c1, c2, q1, q2, q3, q4, wq, wqu, wr, hP, hD, hE, l1, l2, pow16, shr16, and_part, str_app, str_size]
  refine Thn_n ?_
  refine hK _ _ ?_
  clear hK K
  refine AW.seq_k fun K hK => ?_
  refine AW.seq_k fun K hK => ?_
  refine AW.region (by decide) ?_
  simp only [push_cast, Nat.reduceAdd, Nat.reduceMul, Nat.reduceSub, Nat.reduceLeDiff, Nat.reduceLT, Nat.reduceEqDiff, Nat.reduceBEq, Nat.reduceBNe, Nat.reduceMod, Nat.reduceDiv, Int.reduceLE, Int.reduceLT, Int.reduceToNat, Int.reduceAdd, Int.reduceSub, Int.reduceMul, Int.reduceNeg, Int.reduceEq, Int.reduceBEq, Int.reduceBNe, ↓reduceIte, reduceCtorEq, String.reduceBNe, String.reduceEq, reduceDIte, Nat.reducePow, hh, w0, c1, c2, q1, q2, q3, q4, wq, wqu, wr, hP, hD, hE, l1, l2, pow16, shr16, and_part, str_app, str_size]
  refine Thn_n ?_
  refine hK _ _ ?_
  clear hK K
  refine AW.cond_f rfl ?_
  refine AW.skip ?_
  refine Thn_n ?_
  refine hK _ _ ?_
  clear hK K
  refine AW.seq_k fun K hK => ?_
  refine AW.region (by decide) ?_
  simp only [push_cast, Nat.reduceAdd, Nat.reduceMul, Nat.reduceSub, Nat.reduceLeDiff, Nat.reduceLT, Nat.reduceEqDiff, Nat.reduceBEq, Nat.reduceBNe, Nat.reduceMod, Nat.reduceDiv, Int.reduceLE, Int.reduceLT, Int.reduceToNat, Int.reduceAdd, Int.reduceSub, Int.reduceMul, Int.reduceNeg, Int.reduceEq, Int.reduceBEq, Int.reduceBNe, ↓reduceIte, reduceCtorEq, String.reduceBNe, String.reduceEq, reduceDIte, Nat.reducePow, hh, w0, c1, c2, q1, q2, q3, q4, wq, wqu, wr, hP, hD, hE, l1, l2, pow16, shr16, and_part, str_app, str_size]
  refine Thn_n ?_
  refine hK _ _ ?_
  clear hK K
  refine AW.seq_k fun K hK => ?_
  refine AW.block ?_
  refine AW.loopK [] (fun i => i ≤ L) (fun i => [(3, .one (.str ⟨(P ++ (D ++ (E ++ dsL r i))).toArray⟩)), (4, .one (.int .i64 (rm r i : Int)))]) (fun i => []) (fun i => L - i) 0 (Nat.zero_le _) ?_ ?_ fun i hi12 => ?_
  · first | rfl | (simp only [Keeps, Tm.get_cons, Nat.reduceEqDiff, ↓reduceIte, if_true, if_false, ite_true, ite_false, true_and, and_true, and_self, reduceCtorEq, hS0] <;> rfl)
  · first | rfl | (simp only [setAll, push_cast, Nat.reduceAdd, Nat.reduceMul, Nat.reduceSub, Nat.reduceLeDiff, Nat.reduceLT, Nat.reduceEqDiff, Nat.reduceBEq, Nat.reduceBNe, Nat.reduceMod, Nat.reduceDiv, Int.reduceLE, Int.reduceLT, Int.reduceToNat, Int.reduceAdd, Int.reduceSub, Int.reduceMul, Int.reduceNeg, Int.reduceEq, Int.reduceBEq, Int.reduceBNe, ↓reduceIte, reduceCtorEq, String.reduceBNe, String.reduceEq, reduceDIte, Nat.reducePow, hh, w0, c1, c2, q1, q2, q3, q4, wq, wqu, wr, hP, hD, hE, l1, l2, pow16, shr16, and_part, str_app, str_size] <;> rfl)
  have hiL := hi12
  have hi6 := rm_lt hr6 i
  obtain ⟨x0, hx0⟩ : ∃ x0, x0 = rm r i := ⟨_, rfl⟩
  rw [← hx0]
  rw [← hx0] at hi6
  obtain ⟨d, hd⟩ : ∃ d, d = x0 * 10 / 65536 := ⟨_, rfl⟩
  obtain ⟨r', hr'⟩ : ∃ r', r' = x0 * 10 % 65536 := ⟨_, rfl⟩
  have hr2 : rm r (i + 1) = r' := by rw [hr', hx0]; rfl
  try simp only [keepL, setAll, push_cast, Nat.reduceAdd, Nat.reduceMul, Nat.reduceSub, Nat.reduceLeDiff, Nat.reduceLT, Nat.reduceEqDiff, Nat.reduceBEq, Nat.reduceBNe, Nat.reduceMod, Nat.reduceDiv, Int.reduceLE, Int.reduceLT, Int.reduceToNat, Int.reduceAdd, Int.reduceSub, Int.reduceMul, Int.reduceNeg, Int.reduceEq, Int.reduceBEq, Int.reduceBNe, ↓reduceIte, reduceCtorEq, String.reduceBNe, String.reduceEq, reduceDIte, Nat.reducePow, hh, w0, c1, c2, q1, q2, q3, q4, wq, wqu, wr, hP, hD, hE, l1, l2, pow16, shr16, and_part, str_app, str_size]
  refine AW.seq_k fun K hK => ?_
  refine AW.seq_k fun K hK => ?_
  refine AW.region (by decide) ?_
  simp only [push_cast, Nat.reduceAdd, Nat.reduceMul, Nat.reduceSub, Nat.reduceLeDiff, Nat.reduceLT, Nat.reduceEqDiff, Nat.reduceBEq, Nat.reduceBNe, Nat.reduceMod, Nat.reduceDiv, Int.reduceLE, Int.reduceLT, Int.reduceToNat, Int.reduceAdd, Int.reduceSub, Int.reduceMul, Int.reduceNeg, Int.reduceEq, Int.reduceBEq, Int.reduceBNe, ↓reduceIte, reduceCtorEq, String.reduceBNe, String.reduceEq, reduceDIte, Nat.reducePow, hh, w0, c1, c2, q1, q2, q3, q4, wq, wqu, wr, hP, hD, hE, l1, l2, pow16, shr16, and_part, str_app, str_size]
  refine Thn_n ?_
  refine hK _ _ ?_
  clear hK K
  refine AW.cond rfl (fun h25 => ?_) (fun h25 => ?_)
  · have hx : 0 < x0 := by have := of_decide_eq_true h25; omega
    have hiLt : i < L := by
      rcases Nat.lt_or_ge i L with h | h
      · exact h
      · have e : i = L := by omega
        rw [e, hL0] at hx0; omega
    have v1 : IntKind.i64.wrap ((x0 : Int) * 10) = (x0 : Int) * 10 := wi (by omega)
    have v2 : ((x0 : Int) * 10) / 65536 = (d : Int) := by omega
    have v3 : ((x0 : Int) * 10) % 65536 = (r' : Int) := by omega
    have v4 : ((x0 : Int) * 10).tdiv 65536 = (d : Int) := by rw [Int.tdiv_eq_ediv_of_nonneg (by omega), v2]
    have v5 : ((x0 : Int) * 10).tmod 65536 = (r' : Int) := by rw [Int.tmod_eq_emod_of_nonneg (by omega), v3]
    have hd10 : d < 10 := by omega
    have v6 : IntKind.i64.wrap (d : Int) = (d : Int) := wi (by omega)
    have v6u : IntKind.u64.wrap (d : Int) = (d : Int) := wu64 (by omega)
    have v7 : IntKind.i64.wrap (r' : Int) = (r' : Int) := wi (by omega)
    obtain ⟨T, hT⟩ : ∃ T, T = [dgt d] := ⟨_, rfl⟩
    have ed : Lib.decDigits d = T := by rw [Lib.decDigits, dif_pos hd10, hT]; rfl
    have edS : dsL r i ++ T = dsL r (i + 1) := by rw [hT, dsL_s, ← hx0, ← hd]
    have l3 : P.length + (D.length + (E.length + ((dsL r i).length + T.length))) ≤ 9223372036854775807 := by
      rw [dsL_len, hT]; show _ + (_ + (_ + (_ + 1))) ≤ _; omega
    refine AW.skip ?_
    refine Thn_n ?_
    refine hK _ _ ?_
    clear hK K
    refine AW.block ?_
    refine AW.seq_k fun K hK => ?_
    refine AW.region (by decide) ?_
    simp only [push_cast, Nat.reduceAdd, Nat.reduceMul, Nat.reduceSub, Nat.reduceLeDiff, Nat.reduceLT, Nat.reduceEqDiff, Nat.reduceBEq, Nat.reduceBNe, Nat.reduceMod, Nat.reduceDiv, Int.reduceLE, Int.reduceLT, Int.reduceToNat, Int.reduceAdd, Int.reduceSub, Int.reduceMul, Int.reduceNeg, Int.reduceEq, Int.reduceBEq, Int.reduceBNe, ↓reduceIte, reduceCtorEq, String.reduceBNe, String.reduceEq, reduceDIte, Nat.reducePow, hh, w0, c1, c2, q1, q2, q3, q4, wq, wqu, wr, hP, hD, hE, l1, l2, pow16, shr16, and_part, str_app, str_size, v1, v2, v3, v4, v5, v6, v6u, v7, ed, edS, l3, hr2]
    refine Thn_n ?_
    refine hK _ _ ?_
    clear hK K
    refine AW.seq_k fun K hK => ?_
    refine AW.region (by decide) ?_
    simp only [push_cast, Nat.reduceAdd, Nat.reduceMul, Nat.reduceSub, Nat.reduceLeDiff, Nat.reduceLT, Nat.reduceEqDiff, Nat.reduceBEq, Nat.reduceBNe, Nat.reduceMod, Nat.reduceDiv, Int.reduceLE, Int.reduceLT, Int.reduceToNat, Int.reduceAdd, Int.reduceSub, Int.reduceMul, Int.reduceNeg, Int.reduceEq, Int.reduceBEq, Int.reduceBNe, ↓reduceIte, reduceCtorEq, String.reduceBNe, String.reduceEq, reduceDIte, Nat.reducePow, hh, w0, c1, c2, q1, q2, q3, q4, wq, wqu, wr, hP, hD, hE, l1, l2, pow16, shr16, and_part, str_app, str_size, v1, v2, v3, v4, v5, v6, v6u, v7, ed, edS, l3, hr2]
    refine CThen.by (decimal_c d (by omega) _) ?_
    simp only [push_cast, Nat.reduceAdd, Nat.reduceMul, Nat.reduceSub, Nat.reduceLeDiff, Nat.reduceLT, Nat.reduceEqDiff, Nat.reduceBEq, Nat.reduceBNe, Nat.reduceMod, Nat.reduceDiv, Int.reduceLE, Int.reduceLT, Int.reduceToNat, Int.reduceAdd, Int.reduceSub, Int.reduceMul, Int.reduceNeg, Int.reduceEq, Int.reduceBEq, Int.reduceBNe, ↓reduceIte, reduceCtorEq, String.reduceBNe, String.reduceEq, reduceDIte, Nat.reducePow, hh, w0, c1, c2, q1, q2, q3, q4, wq, wqu, wr, hP, hD, hE, l1, l2, pow16, shr16, and_part, str_app, str_size, v1, v2, v3, v4, v5, v6, v6u, v7, ed, edS, l3, hr2]
    refine Thn_n ?_
    refine hK _ _ ?_
    clear hK K
    refine AW.region (by decide) ?_
    simp only [push_cast, Nat.reduceAdd, Nat.reduceMul, Nat.reduceSub, Nat.reduceLeDiff, Nat.reduceLT, Nat.reduceEqDiff, Nat.reduceBEq, Nat.reduceBNe, Nat.reduceMod, Nat.reduceDiv, Int.reduceLE, Int.reduceLT, Int.reduceToNat, Int.reduceAdd, Int.reduceSub, Int.reduceMul, Int.reduceNeg, Int.reduceEq, Int.reduceBEq, Int.reduceBNe, ↓reduceIte, reduceCtorEq, String.reduceBNe, String.reduceEq, reduceDIte, Nat.reducePow, hh, w0, c1, c2, q1, q2, q3, q4, wq, wqu, wr, hP, hD, hE, l1, l2, pow16, shr16, and_part, str_app, str_size, v1, v2, v3, v4, v5, v6, v6u, v7, ed, edS, l3, hr2]
    refine InB_n ?_
    refine Thn_n ?_
    refine ⟨i + 1, (by show i + 1 ≤ L; omega), (by show L - (i + 1) < L - i; omega), ?_⟩
    try simp only [keepL, setAll, push_cast, Nat.reduceAdd, Nat.reduceMul, Nat.reduceSub, Nat.reduceLeDiff, Nat.reduceLT, Nat.reduceEqDiff, Nat.reduceBEq, Nat.reduceBNe, Nat.reduceMod, Nat.reduceDiv, Int.reduceLE, Int.reduceLT, Int.reduceToNat, Int.reduceAdd, Int.reduceSub, Int.reduceMul, Int.reduceNeg, Int.reduceEq, Int.reduceBEq, Int.reduceBNe, ↓reduceIte, reduceCtorEq, String.reduceBNe, String.reduceEq, reduceDIte, Nat.reducePow, hh, w0, c1, c2, q1, q2, q3, q4, wq, wqu, wr, hP, hD, hE, l1, l2, pow16, shr16, and_part, str_app, str_size, v1, v2, v3, v4, v5, v6, v6u, v7, ed, edS, l3, hr2]
    exact Weak.same (by simp only [Keeps, Tm.get_cons, Nat.reduceEqDiff, ↓reduceIte, if_true, if_false, ite_true, ite_false, true_and, and_true, and_self, reduceCtorEq]) (by first | rfl | simp only [Keeps, Tm.get_cons, Nat.reduceEqDiff, ↓reduceIte, if_true, if_false, ite_true, ite_false, true_and, and_true, and_self, reduceCtorEq])
  · have hx : x0 = 0 := by have := of_decide_eq_false h25; omega
    have hi' : i = L := by
      rcases Nat.lt_or_ge i L with h | h
      · exact absurd (hx0.symm.trans hx) (hL i h)
      · omega
    subst hi'
    refine AW.exit ?_
    refine Thn_e ?_
    clear hK K
    refine Thn_e ?_
    refine InB_here ?_
    refine Thn_n ?_
    refine hK _ _ ?_
    clear hK K
    refine AW.seq_k fun K hK => ?_
    refine AW.region (by decide) ?_
    simp only [push_cast, Nat.reduceAdd, Nat.reduceMul, Nat.reduceSub, Nat.reduceLeDiff, Nat.reduceLT, Nat.reduceEqDiff, Nat.reduceBEq, Nat.reduceBNe, Nat.reduceMod, Nat.reduceDiv, Int.reduceLE, Int.reduceLT, Int.reduceToNat, Int.reduceAdd, Int.reduceSub, Int.reduceMul, Int.reduceNeg, Int.reduceEq, Int.reduceBEq, Int.reduceBNe, ↓reduceIte, reduceCtorEq, String.reduceBNe, String.reduceEq, reduceDIte, Nat.reducePow, hh, w0, c1, c2, q1, q2, q3, q4, wq, wqu, wr, hP, hD, hE, l1, l2, pow16, shr16, and_part, str_app, str_size]
    refine Thn_n ?_
    refine hK _ _ ?_
    clear hK K
    refine AW.ret ?_
    refine hQ _ _ _ ?_
    first | refine RetP.drop0 (Or.inr rfl) ?_ ?_ hwf | refine RetP.drop (Or.inr rfl) ?_ ?_ hwf
    · simp only [resA, resOne, resTv, AV.tv, push_cast, Nat.reduceAdd, Nat.reduceMul, Nat.reduceSub, Nat.reduceLeDiff, Nat.reduceLT, Nat.reduceEqDiff, Nat.reduceBEq, Nat.reduceBNe, Nat.reduceMod, Nat.reduceDiv, Int.reduceLE, Int.reduceLT, Int.reduceToNat, Int.reduceAdd, Int.reduceSub, Int.reduceMul, Int.reduceNeg, Int.reduceEq, Int.reduceBEq, Int.reduceBNe, ↓reduceIte, reduceCtorEq, String.reduceBNe, String.reduceEq, reduceDIte, Nat.reducePow, hh, w0, c1, c2, q1, q2, q3, q4, wq, wqu, wr, hP, hD, hE, l1, l2, pow16, shr16, and_part, str_app, str_size]
    · rfl
theorem text_c (a : Int) (m : AMem) (hg3 : gB m 3 = some (Lib.pow10Tab.map (CV.int .u64))) : Ctr Tryd.prog 37 [.one (.int .i64 a)] m (.one (.str ⟨(txL a).toArray⟩)) m := by
  have hb := held_b a
  obtain ⟨n, hn⟩ : ∃ n, n = (heldI a).natAbs := ⟨_, rfl⟩
  obtain ⟨q, hq⟩ : ∃ q, q = n / 65536 := ⟨_, rfl⟩
  obtain ⟨r, hr⟩ : ∃ r, r = n % 65536 := ⟨_, rfl⟩
  obtain ⟨L, h16, hL, hL0⟩ := fr_ex (n := r) (by omega)
  have e1 : txL a = (if decide (heldI a < 0) = true then [45] else []) ++ (Lib.decDigits q ++ (if r = 0 then [] else 46 :: dsL r L)) := by
    unfold txL txN
    rw [← hn, ← hq, ← hr]
    by_cases hz : r = 0
    · rw [if_pos hz, if_pos hz]
    · rw [if_neg hz, if_neg hz, frL_ds L 16 r hL hL0 h16]
  rw [e1]
  by_cases hs : heldI a < 0
  · rw [if_pos (decide_eq_true hs)]
    by_cases hz : r = 0
    · rw [if_pos hz, List.append_nil]
      exact text_nz a n q r [45] _ [46] rfl (Nat.le_refl _) rfl rfl rfl (by omega) hq hr (by omega) (by omega) hz m hg3
    · rw [if_neg hz, show ([45] ++ (Lib.decDigits q ++ 46 :: dsL r L) : List UInt8) = [45] ++ (Lib.decDigits q ++ ([46] ++ dsL r L)) from rfl]
      exact text_nf a n q r [45] _ [46] rfl (Nat.le_refl _) rfl rfl rfl (by omega) hq hr (by omega) (by omega) hz L h16 hL hL0 m hg3
  · rw [if_neg (by rw [decide_eq_false hs]; exact Bool.false_ne_true)]
    by_cases hz : r = 0
    · rw [if_pos hz, List.append_nil]
      exact text_pz a n q r [] _ [46] rfl (Nat.zero_le _) rfl rfl rfl (by omega) hq hr (by omega) hz m hg3
    · rw [if_neg hz, show ([] ++ (Lib.decDigits q ++ 46 :: dsL r L) : List UInt8) = [] ++ (Lib.decDigits q ++ ([46] ++ dsL r L)) from rfl]
      exact text_pf a n q r [] _ [46] rfl (Nat.zero_le _) rfl rfl rfl (by omega) hq hr (by omega) hz L h16 hL hL0 m hg3
theorem rtext_c (a : Int) (m : AMem) : Ctr Tryd.prog 38 [.one (.int .i64 a)] m (.one (.str ⟨(txL a).toArray⟩)) m := by
  have hb := held_b a
  obtain ⟨n, hn⟩ : ∃ n, n = (heldI a).natAbs := ⟨_, rfl⟩
  obtain ⟨q, hq⟩ : ∃ q, q = n / 65536 := ⟨_, rfl⟩
  obtain ⟨r, hr⟩ : ∃ r, r = n % 65536 := ⟨_, rfl⟩
  obtain ⟨L, h16, hL, hL0⟩ := fr_ex (n := r) (by omega)
  have e1 : txL a = (if decide (heldI a < 0) = true then [45] else []) ++ (Lib.decDigits q ++ (if r = 0 then [] else 46 :: dsL r L)) := by
    unfold txL txN
    rw [← hn, ← hq, ← hr]
    by_cases hz : r = 0
    · rw [if_pos hz, if_pos hz]
    · rw [if_neg hz, if_neg hz, frL_ds L 16 r hL hL0 h16]
  rw [e1]
  by_cases hs : heldI a < 0
  · rw [if_pos (decide_eq_true hs)]
    by_cases hz : r = 0
    · rw [if_pos hz, List.append_nil]
      exact rtext_nz a n q r [45] _ [46] rfl (Nat.le_refl _) rfl rfl rfl (by omega) hq hr (by omega) (by omega) hz m
    · rw [if_neg hz, show ([45] ++ (Lib.decDigits q ++ 46 :: dsL r L) : List UInt8) = [45] ++ (Lib.decDigits q ++ ([46] ++ dsL r L)) from rfl]
      exact rtext_nf a n q r [45] _ [46] rfl (Nat.le_refl _) rfl rfl rfl (by omega) hq hr (by omega) (by omega) hz L h16 hL hL0 m
  · rw [if_neg (by rw [decide_eq_false hs]; exact Bool.false_ne_true)]
    by_cases hz : r = 0
    · rw [if_pos hz, List.append_nil]
      exact rtext_pz a n q r [] _ [46] rfl (Nat.zero_le _) rfl rfl rfl (by omega) hq hr (by omega) hz m
    · rw [if_neg hz, show ([] ++ (Lib.decDigits q ++ 46 :: dsL r L) : List UInt8) = [] ++ (Lib.decDigits q ++ ([46] ++ dsL r L)) from rfl]
      exact rtext_pf a n q r [] _ [46] rfl (Nat.zero_le _) rfl rfl rfl (by omega) hq hr (by omega) hz L h16 hL hL0 m
end Go.Proofs.YtlhppfdokgeijaaDoor
