/- Walks and facts of this seat's program over abstract states, printed by a program of mine; no conditions but those that each theorem names. -/
import Derived.Test.YtmjbbnfmhgcfaaaSeal7
set_option linter.unusedSimpArgs false
set_option linter.unusedVariables false
set_option maxRecDepth 100000
set_option maxHeartbeats 4000000
namespace Go.Proofs.Ytmjbbnfmhgcfaaa
open Go Go.Eng

theorem PartIn.row {m : AMem} {rb v off n : Nat} {bs X : List Int} {k : BK} {ty ez : Nat} (hb : m[rb]? = some ⟨k, ty, v, ez, u8l X⟩) (hn : n = bs.length) (hf : off + bs.length ≤ X.length) (hx : (X.drop off).take bs.length = bs) : PartIn m (.sl rb v off n) bs :=
  .inr ⟨rb, k, ty, v, ez, off, X, by rw [hn], hb, hf, hx⟩
theorem PartIn.all {m : AMem} {rb v n : Nat} {bs : List Int} {k : BK} {ty ez : Nat} (hb : m[rb]? = some ⟨k, ty, v, ez, u8l bs⟩) (hn : n = bs.length) : PartIn m (.sl rb v 0 n) bs :=
  .row hb hn (by omega) (by rw [List.drop_zero, List.take_length])
theorem write1_c (rp bb vb lb vl lo : Nat) (s : PS) (c : CV) (bs : List Int) (X : List CV) (kl : BK) (el : Nat) (m : AMem) (hp : m[rp]? = some (prB s.S (.sl bb vb 0 s.r.length) s.n)) (hbb : m[bb]? = some (rowB vb s.r)) (hl : m[lb]? = some ⟨kl, 63, vl, el, X⟩) (nlb : lb ≠ bb)
    (h0 : X[lo]? = some c) (hc : PartAt m bb c bs) (hb : bs.length ≤ 1000000) (ho : U8ok bs) (hr0 : s.r.length < 64) (ho0 : U8ok s.r) : Ctr Try.prog 23 [.one (.ptr rp 0 0), .one (.sl lb vl lo 1)] m (.tup []) (pwr m rp bb (vb + 2) (absS s bs)) :=
  write_c rp bb vb lb vl lo 1 s (fun _ => c) (fun _ => bs) X kl el m hp hbb hl nlb (fun i hi => (show i = 0 by have h : i < 1 := hi; omega) ▸ h0) (fun i _ => hc) (fun i _ => hb) (fun i _ => ho) hr0 ho0 (by decide)
theorem PartAt.all {m : AMem} {bb rb v n : Nat} {bs : List Int} {k : BK} {ty ez : Nat} (hb : m[rb]? = some ⟨k, ty, v, ez, u8l bs⟩) (hn : n = bs.length) (hne : rb ≠ bb) : PartAt m bb (.sl rb v 0 n) bs :=
  .inr ⟨rb, k, ty, v, ez, 0, bs, by rw [hn], hne, hb, by omega, by rw [List.drop_zero, List.take_length]⟩
theorem write2_c (rp bb vb lb vl lo : Nat) (s : PS) (c c2 : CV) (bs bs2 : List Int) (X : List CV) (kl : BK) (el : Nat) (m : AMem) (hp : m[rp]? = some (prB s.S (.sl bb vb 0 s.r.length) s.n)) (hbb : m[bb]? = some (rowB vb s.r)) (hl : m[lb]? = some ⟨kl, 63, vl, el, X⟩) (nlb : lb ≠ bb)
    (h0 : X[lo]? = some c) (h1 : X[lo + 1]? = some c2) (hc : PartAt m bb c bs) (hc2 : PartAt m bb c2 bs2) (hb : bs.length ≤ 1000000) (hb2 : bs2.length ≤ 1000000) (ho : U8ok bs) (ho2 : U8ok bs2) (hr0 : PSok s) (ho0 : U8ok s.r) : Ctr Try.prog 23 [.one (.ptr rp 0 0), .one (.sl lb vl lo 2)] m (.tup []) (pwr m rp bb (vb + 4) (absS s (bs ++ bs2))) := by
  have h := write_c rp bb vb lb vl lo 2 s (fun i => if i = 0 then c else c2) (fun i => if i = 0 then bs else bs2) X kl el m hp hbb hl nlb (fun i hi => by
      have hcs : i = 0 ∨ i = 1 := by omega
      rcases hcs with rfl | rfl
      · exact h0
      · exact h1) (fun i _ => by split <;> assumption) (fun i _ => by split <;> assumption) (fun i _ => by split <;> assumption) hr0.1 ho0 (by decide)
  have e := accP_cat hr0 (fun i => if i = 0 then bs else bs2) 2
  simp only [catP, List.nil_append, if_true, Nat.succ_ne_self, if_false, Nat.zero_add, Nat.one_ne_zero, ↓reduceIte] at e
  rw [e] at h
  exact h
theorem eqp_u8 (d : Nat) (xs : List Int) : ∀ l : List Nat, (∀ i, i ∈ l → i < xs.length) → eqParts Try.prog (eqV Try.prog (d + 1)) (u8l xs) (u8l xs) (l.map fun i => (5, i)) = some true
  | [], _ => rfl
  | i :: l, h => by
    have hi := h i List.mem_cons_self
    have ih := eqp_u8 d xs l fun j hj => h j (List.mem_cons_of_mem _ hj)
    have hg := u8l_get hi
    simp only [List.map_cons, eqParts, ih]
    simp only [push_cast, simprocAttr, hg, Option.map_some]
theorem eqp32 {xs : List Int} (h : xs.length = 32) : eqParts Try.prog (eqV Try.prog 9999) (u8l xs) (u8l xs) (List.map (fun i => (5, i)) (List.range' 0 32)) = some true :=
  eqp_u8 9998 xs _ fun i hi => by rw [h]; simp [List.mem_range'] at hi; omega
end Go.Proofs.Ytmjbbnfmhgcfaaa
