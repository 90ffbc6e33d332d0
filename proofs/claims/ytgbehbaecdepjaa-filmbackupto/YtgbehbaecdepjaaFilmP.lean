/- Walks and facts of this seat's program over abstract states, printed by a program of mine; no conditions but those that each theorem names. -/
import Derived.Test.YtgbehbaecdepjaaFilmO
set_option linter.unusedSimpArgs false
set_option linter.unusedVariables false
set_option maxRecDepth 100000
set_option maxHeartbeats 4000000
namespace Go.Proofs.Ytgbehbaecdepjaa
open Go Go.Eng

/-- A film taken off bytes. -/
def it (f : Nat × Int → Nat × Int) (s : Nat × Int) : Nat → Nat × Int
  | 0 => s
  | i + 1 => f (it f s i)
theorem it_err {f : Nat × Int → Nat × Int} (hf : ∀ s : Nat × Int, ¬ s.2 = 0 → f s = s) {s : Nat × Int} {i : Nat} (h : ¬ (it f s i).2 = 0) : ∀ d, it f s (i + d) = it f s i
  | 0 => rfl
  | d + 1 => by
    have ih := it_err hf h d
    show f (it f s (i + d)) = _
    rw [ih]; exact hf _ h
theorem it_to {f : Nat × Int → Nat × Int} (hf : ∀ s : Nat × Int, ¬ s.2 = 0 → f s = s) {s : Nat × Int} {i n : Nat} (hi : i ≤ n) (h : ¬ (it f s i).2 = 0) : it f s i = it f s n := by
  have := it_err hf h (n - i); rw [show i + (n - i) = n by omega] at this; exact this.symm
theorem it_ok {f : Nat × Int → Nat × Int} (hf : ∀ s : Nat × Int, ¬ s.2 = 0 → f s = s) {s : Nat × Int} {i n : Nat} (hi : i ≤ n) (h : (it f s n).2 = 0) : (it f s i).2 = 0 := by
  rcases Classical.em ((it f s i).2 = 0) with h1 | h1
  · exact h1
  · rw [it_to hf hi h1]; exact h
theorem it_le {n : Nat} {f : Nat × Int → Nat × Int} (hf : ∀ s : Nat × Int, s.1 ≤ n → (f s).1 ≤ n) {s : Nat × Int} (h : s.1 ≤ n) : ∀ i, (it f s i).1 ≤ n
  | 0 => h
  | i + 1 => hf _ (it_le hf h i)
def D1 (bs : List Int) : Nat × Int := it (fixS bs) (hsS bs (0, 0) (npS bs (0, 0))) (npS bs (0, 0))
def D2 (bs : List Int) : Nat × Int := it (v3S bs) (D1 bs) (npS bs (0, 0))
def D3 (bs : List Int) : Nat × Int := it (v3S bs) (D2 bs) (npS bs (0, 0))
def D4 (bs : List Int) : Nat × Int := it (rdS bs.length 2) (D3 bs) (npS bs (0, 0))
def D5 (bs : List Int) : Nat × Int := it (rdS bs.length 2) (D4 bs) (npS bs (0, 0))
def xD (bs : List Int) (i : Nat) : Int := fixV bs (it (fixS bs) (hsS bs (0, 0) (npS bs (0, 0))) i)
def xN (bs : List Int) (i k : Nat) : Int := v3V bs (it (v3S bs) (D1 bs) i) k
def xB (bs : List Int) (i k : Nat) : Int := v3V bs (it (v3S bs) (D2 bs) i) k
def xS (bs : List Int) (i : Nat) : Int := sg2 (rdV bs 2 (it (rdS bs.length 2) (D3 bs) i))
def xF (bs : List Int) (i : Nat) : Int := sg2 (rdV bs 2 (it (rdS bs.length 2) (D4 bs) i))
theorem fe {bs : List Int} : ∀ s : Nat × Int, ¬ s.2 = 0 → fixS bs s = s := fun s h => fixS_err h
theorem ve {bs : List Int} : ∀ s : Nat × Int, ¬ s.2 = 0 → v3S bs s = s := fun s h => v3S_err h
theorem re {n : Nat} : ∀ s : Nat × Int, ¬ s.2 = 0 → rdS n 2 s = s := fun s h => rdS_err h
theorem Dle {bs : List Int} : (hsS bs (0, 0) (npS bs (0, 0))).1 ≤ bs.length ∧ (D1 bs).1 ≤ bs.length ∧ (D2 bs).1 ≤ bs.length ∧ (D3 bs).1 ≤ bs.length ∧ (D4 bs).1 ≤ bs.length ∧ (D5 bs).1 ≤ bs.length := by
  have h0 : (hsS bs (0, 0) (npS bs (0, 0))).1 ≤ bs.length := hsS_le (Nat.zero_le _) _
  have h1 : (D1 bs).1 ≤ bs.length := it_le (fun _ h => fixS_le h) h0 _
  have h2 : (D2 bs).1 ≤ bs.length := it_le (fun _ h => v3S_le h) h1 _
  have h3 : (D3 bs).1 ≤ bs.length := it_le (fun _ h => v3S_le h) h2 _
  have h4 : (D4 bs).1 ≤ bs.length := it_le (fun _ h => rdS_le h) h3 _
  exact ⟨h0, h1, h2, h3, h4, it_le (fun _ h => rdS_le h) h4 _⟩
theorem Dok {bs : List Int} (h : (D5 bs).2 = 0) : (D4 bs).2 = 0 ∧ (D3 bs).2 = 0 ∧ (D2 bs).2 = 0 ∧ (D1 bs).2 = 0 ∧ (hsS bs (0, 0) (npS bs (0, 0))).2 = 0 := by
  have h4 : (D4 bs).2 = 0 := it_ok (f := rdS bs.length 2) (s := D4 bs) (i := 0) (n := npS bs (0, 0)) re (Nat.zero_le _) h
  have h3 : (D3 bs).2 = 0 := it_ok (f := rdS bs.length 2) (s := D3 bs) (i := 0) (n := npS bs (0, 0)) re (Nat.zero_le _) h4
  have h2 : (D2 bs).2 = 0 := it_ok (f := v3S bs) (s := D2 bs) (i := 0) (n := npS bs (0, 0)) ve (Nat.zero_le _) h3
  have h1 : (D1 bs).2 = 0 := it_ok (f := v3S bs) (s := D1 bs) (i := 0) (n := npS bs (0, 0)) ve (Nat.zero_le _) h2
  exact ⟨h4, h3, h2, h1, it_ok (f := fixS bs) (i := 0) (n := npS bs (0, 0)) fe (Nat.zero_le _) h1⟩
def rgB (bs : List Int) : Bool := filmR (rdV bs 2 (0, 0)) (rdV bs 2 (rdS bs.length 2 (0, 0))) (npS bs (0, 0)) (npS bs (0, 0)) (npS bs (0, 0)) (npS bs (0, 0)) (npS bs (0, 0)) (npS bs (0, 0)) (xS bs) (xF bs)
def okB (bs : List Int) : Bool := decide ((D5 bs).2 = 0) && (decide (¬ (D5 bs).1 < bs.length) && rgB bs)
def erV (bs : List Int) : Int := if (D5 bs).2 = 0 then 10 else (D5 bs).2
theorem cP_all {L rb v n : Nat} {s : Nat × Int} {e : Int} (h : rb < L) : List.all [cP rb v n s, .int .i64 e] (CV.below L) = true := by
  unfold cP; split <;> simp [CV.below, h]
theorem dec_B (r0 : Nat) (bs : List Int) (m : AMem) (hp : ∃ k ez, m[r0]? = some ⟨k, 5, 0, ez, u8l bs⟩) (hn : bs.length ≤ 1073741824) (hu : ∀ i, 0 ≤ byB bs i ∧ byB bs i ≤ 255) (hall : ∀ k, k < (npS bs (0, 0)) → (hsS bs (0, 0) k).2 = 0) (hN20 : (npS bs (0, 0)) ≤ 1048576) : Ctr Try.prog 22 [.one (.sl r0 0 0 bs.length)] m (if okB bs then (.tup [(true, [.int .i64 (rdV bs 2 (0, 0)), .int .i64 (rdV bs 2 (rdS bs.length 2 (0, 0))), .sl m.length 0 0 (npS bs (0, 0)), .sl (m.length + 1) 0 0 (npS bs (0, 0)), .sl (m.length + 2) 0 0 (npS bs (0, 0)), .sl (m.length + 3) 0 0 (npS bs (0, 0)), .sl (m.length + 4) 0 0 (npS bs (0, 0)), .sl (m.length + 5) 0 0 (npS bs (0, 0))]), (false, [.int .i64 0])]) else (.tup [(true, [.int .i64 0, .int .i64 0, .nils, .nils, .nils, .nils, .nils, .nils]), (false, [.int .i64 (erV bs)])])) (if okB bs then (m ++ [⟨.grow, 68, 0, 3, dl (npS bs (0, 0)) (GH bs (0, 0))⟩, ⟨.grow, 66, 0, 1, il (npS bs (0, 0)) (xD bs)⟩, ⟨.grow, 73, 0, 3, dl (npS bs (0, 0)) (xN bs)⟩, ⟨.grow, 68, 0, 3, dl (npS bs (0, 0)) (xB bs)⟩, ⟨.grow, 3, 0, 1, il (npS bs (0, 0)) (xS bs)⟩, ⟨.grow, 3, 0, 1, il (npS bs (0, 0)) (xF bs)⟩]) else m) := by
  refine Ctr.enter Try.func22 rfl (by decide) (rs := [.cell 2 39, .tmp 3]) (nt := 129) rfl rfl fun hwf Q hQ => ?_
  have hlt0 : ∀ k, ¬ m.length + k < m.length := fun k => by omega
  obtain ⟨k0, ez0, hb0⟩ := id hp
  have l0 := get_lt hb0
  obtain ⟨hd0, hd1, hd2, hd3, hd4, hd5⟩ := @Dle bs
  have npw := @np_w bs (0, 0) hu
  have npl := @np_le bs (0, 0) hu
  have hM : ∀ (a b c : Blk) L (t : Nat × Int), pM (m ++ a :: b :: c :: L) (m.length + 2) (m.length + 1) 1 bs t = m ++ a :: b :: ⟨.fix, 110, 0, 0, [cP (m.length + 1) 1 bs.length t, .int .i64 t.2]⟩ :: L := fun a b c L t => by unfold pM; rw [set_app]; rfl
  have c00 : cP (m.length + 1) 1 bs.length (0, 0) = .sl (m.length + 1) 1 0 bs.length := rfl
  have hR0 : ∀ (a : Blk), RP (m ++ [a, ⟨.grow, 5, 1, 1, u8l bs⟩, ⟨.fix, 110, 0, 0, [.sl (m.length + 1) 1 0 bs.length, .int .i64 0]⟩]) (m.length + 2) (m.length + 1) 1 bs (0, 0) := fun a => ⟨by rw [lk_app]; rfl, ⟨.grow, 1, by rw [lk_app]; rfl⟩, by omega, Nat.zero_le _, hu, hn⟩
  have hRt : ∀ (a : Blk) L (t : Nat × Int), t.1 ≤ bs.length → RP (m ++ a :: ⟨.grow, 5, 1, 1, u8l bs⟩ :: ⟨.fix, 110, 0, 0, [cP (m.length + 1) 1 bs.length t, .int .i64 t.2]⟩ :: L) (m.length + 2) (m.length + 1) 1 bs t := fun a L t ht => ⟨by rw [lk_app]; rfl, ⟨.grow, 1, by rw [lk_app]; rfl⟩, by omega, ht, hu, hn⟩
  have hrg : filmR (rdV bs 2 (0, 0)) (rdV bs 2 (rdS bs.length 2 (0, 0))) (npS bs (0, 0)) (npS bs (0, 0)) (npS bs (0, 0)) (npS bs (0, 0)) (npS bs (0, 0)) (npS bs (0, 0)) (xS bs) (xF bs) = rgB bs := rfl
  refine AW.seq_k fun K hK => ?_
  refine AW.region (by decide) ?_
  simp only [push_cast, simprocAttr, hM, c00, npw]
  refine Thn_n ?_
  refine hK _ _ ?_
  clear hK K
  refine AW.seq_k fun K hK => ?_
  refine AW.region (by decide) ?_
  simp only [push_cast, simprocAttr, hM, c00, npw]
  refine CThen.by (read_c r0 bs _ ⟨_, _, lk_old hb0 _⟩ hn) ?_
  simp only [push_cast, simprocAttr, hM, c00, npw]
  refine Thn_n ?_
  refine hK _ _ ?_
  clear hK K
  refine AW.seq_k fun K hK => ?_
  refine AW.region (by decide) ?_
  simp only [push_cast, simprocAttr, hM, c00, npw]
  refine CThen.by (takeB_c (m.length + 2) (m.length + 1) 1 bs (0, 0) _ (hR0 _) hall) ?_
  simp only [push_cast, simprocAttr, hM, c00, npw]
  refine Thn_n ?_
  refine hK _ _ ?_
  clear hK K
  refine AW.seq_k fun K hK => ?_
  refine AW.region (by decide) ?_
  simp only [push_cast, simprocAttr, hM, c00, npw]
  refine CThen.by (pixels_c _ _ _) ?_
  simp only [push_cast, simprocAttr, hM, c00, npw]
  refine Thn_n ?_
  refine hK _ _ ?_
  clear hK K
  refine AW.seq_k fun K hK => ?_
  have hJ5 : ∀ a1, a1 ≤ (npS bs (0, 0)) ∧ (a1 = (npS bs (0, 0)) ∨ ¬ (it (fixS bs) (hsS bs (0, 0) (npS bs (0, 0))) a1).2 = 0) → ∀ tm', Keeps tm' [(2, .one (.ptr m.length 0 0)), (4, .one (.ptr (m.length + 2) 0 0)), (5, .one (.ptr (m.length + 6) 0 0)), (6, .one (.int .i64 ((npS bs (0, 0)) : Int)))] → K tm' (m ++ [⟨.fix, 39, 0, 0, [.int .i64 0, .int .i64 0, .nils, .nils, .nils, .nils, .nils, .nils]⟩, ⟨.grow, 5, 1, 1, u8l bs⟩, ⟨.fix, 110, 0, 0, [cP (m.length + 1) 1 bs.length (D1 bs), .int .i64 (D1 bs).2]⟩, ⟨.fix, 35, 0, 0, [.int .i64 (rdV bs 2 (0, 0)), .int .i64 (rdV bs 2 (rdS bs.length 2 (0, 0))), .sl (m.length + 5) (npS bs (0, 0)) 0 (npS bs (0, 0))]⟩, ⟨.fix, 35, 0, 0, [.int .i64 (rdV bs 2 (0, 0)), .int .i64 (rdV bs 2 (rdS bs.length 2 (0, 0))), .sl (m.length + 5) (npS bs (0, 0)) 0 (npS bs (0, 0))]⟩, ⟨.grow, 68, (npS bs (0, 0)), 3, dl (npS bs (0, 0)) (GH bs (0, 0))⟩, ⟨.fix, 39, 0, 0, [.int .i64 (rdV bs 2 (0, 0)), .int .i64 (rdV bs 2 (rdS bs.length 2 (0, 0))), .sl (m.length + 5) (npS bs (0, 0)) 0 (npS bs (0, 0)), .sl (m.length + 7) a1 0 a1, .nils, .nils, .nils, .nils]⟩, ⟨.grow, 66, a1, 1, il a1 (xD bs)⟩]) := by
    intro a1 hI tm' hk
    refine hK _ _ (AW.weak hk ?_)
    clear hk tm' hK K
    obtain ⟨la1, oa1⟩ := hI
    refine AW.seq_k fun K hK => ?_
    have hJ6 : ∀ a2, a2 ≤ (npS bs (0, 0)) ∧ (a2 = (npS bs (0, 0)) ∨ ¬ (it (v3S bs) (D1 bs) a2).2 = 0) → ∀ tm', Keeps tm' [(2, .one (.ptr m.length 0 0)), (4, .one (.ptr (m.length + 2) 0 0)), (5, .one (.ptr (m.length + 6) 0 0)), (6, .one (.int .i64 ((npS bs (0, 0)) : Int)))] → K tm' (m ++ [⟨.fix, 39, 0, 0, [.int .i64 0, .int .i64 0, .nils, .nils, .nils, .nils, .nils, .nils]⟩, ⟨.grow, 5, 1, 1, u8l bs⟩, ⟨.fix, 110, 0, 0, [cP (m.length + 1) 1 bs.length (D2 bs), .int .i64 (D2 bs).2]⟩, ⟨.fix, 35, 0, 0, [.int .i64 (rdV bs 2 (0, 0)), .int .i64 (rdV bs 2 (rdS bs.length 2 (0, 0))), .sl (m.length + 5) (npS bs (0, 0)) 0 (npS bs (0, 0))]⟩, ⟨.fix, 35, 0, 0, [.int .i64 (rdV bs 2 (0, 0)), .int .i64 (rdV bs 2 (rdS bs.length 2 (0, 0))), .sl (m.length + 5) (npS bs (0, 0)) 0 (npS bs (0, 0))]⟩, ⟨.grow, 68, (npS bs (0, 0)), 3, dl (npS bs (0, 0)) (GH bs (0, 0))⟩, ⟨.fix, 39, 0, 0, [.int .i64 (rdV bs 2 (0, 0)), .int .i64 (rdV bs 2 (rdS bs.length 2 (0, 0))), .sl (m.length + 5) (npS bs (0, 0)) 0 (npS bs (0, 0)), .sl (m.length + 7) a1 0 a1, .sl (m.length + 8) a2 0 a2, .nils, .nils, .nils]⟩, ⟨.grow, 66, a1, 1, il a1 (xD bs)⟩, ⟨.grow, 73, a2, 3, dl a2 (xN bs)⟩]) := by
      intro a2 hI tm' hk
      refine hK _ _ (AW.weak hk ?_)
      clear hk tm' hK K
      obtain ⟨la2, oa2⟩ := hI
      refine AW.seq_k fun K hK => ?_
      have hJ7 : ∀ a3, a3 ≤ (npS bs (0, 0)) ∧ (a3 = (npS bs (0, 0)) ∨ ¬ (it (v3S bs) (D2 bs) a3).2 = 0) → ∀ tm', Keeps tm' [(2, .one (.ptr m.length 0 0)), (4, .one (.ptr (m.length + 2) 0 0)), (5, .one (.ptr (m.length + 6) 0 0)), (6, .one (.int .i64 ((npS bs (0, 0)) : Int)))] → K tm' (m ++ [⟨.fix, 39, 0, 0, [.int .i64 0, .int .i64 0, .nils, .nils, .nils, .nils, .nils, .nils]⟩, ⟨.grow, 5, 1, 1, u8l bs⟩, ⟨.fix, 110, 0, 0, [cP (m.length + 1) 1 bs.length (D3 bs), .int .i64 (D3 bs).2]⟩, ⟨.fix, 35, 0, 0, [.int .i64 (rdV bs 2 (0, 0)), .int .i64 (rdV bs 2 (rdS bs.length 2 (0, 0))), .sl (m.length + 5) (npS bs (0, 0)) 0 (npS bs (0, 0))]⟩, ⟨.fix, 35, 0, 0, [.int .i64 (rdV bs 2 (0, 0)), .int .i64 (rdV bs 2 (rdS bs.length 2 (0, 0))), .sl (m.length + 5) (npS bs (0, 0)) 0 (npS bs (0, 0))]⟩, ⟨.grow, 68, (npS bs (0, 0)), 3, dl (npS bs (0, 0)) (GH bs (0, 0))⟩, ⟨.fix, 39, 0, 0, [.int .i64 (rdV bs 2 (0, 0)), .int .i64 (rdV bs 2 (rdS bs.length 2 (0, 0))), .sl (m.length + 5) (npS bs (0, 0)) 0 (npS bs (0, 0)), .sl (m.length + 7) a1 0 a1, .sl (m.length + 8) a2 0 a2, .sl (m.length + 9) a3 0 a3, .nils, .nils]⟩, ⟨.grow, 66, a1, 1, il a1 (xD bs)⟩, ⟨.grow, 73, a2, 3, dl a2 (xN bs)⟩, ⟨.grow, 68, a3, 3, dl a3 (xB bs)⟩]) := by
        intro a3 hI tm' hk
        refine hK _ _ (AW.weak hk ?_)
        clear hk tm' hK K
        obtain ⟨la3, oa3⟩ := hI
        refine AW.seq_k fun K hK => ?_
        have hJ8 : ∀ a4, a4 ≤ (npS bs (0, 0)) ∧ (a4 = (npS bs (0, 0)) ∨ ¬ (it (rdS bs.length 2) (D3 bs) a4).2 = 0) → ∀ tm', Keeps tm' [(2, .one (.ptr m.length 0 0)), (4, .one (.ptr (m.length + 2) 0 0)), (5, .one (.ptr (m.length + 6) 0 0)), (6, .one (.int .i64 ((npS bs (0, 0)) : Int)))] → K tm' (m ++ [⟨.fix, 39, 0, 0, [.int .i64 0, .int .i64 0, .nils, .nils, .nils, .nils, .nils, .nils]⟩, ⟨.grow, 5, 1, 1, u8l bs⟩, ⟨.fix, 110, 0, 0, [cP (m.length + 1) 1 bs.length (D4 bs), .int .i64 (D4 bs).2]⟩, ⟨.fix, 35, 0, 0, [.int .i64 (rdV bs 2 (0, 0)), .int .i64 (rdV bs 2 (rdS bs.length 2 (0, 0))), .sl (m.length + 5) (npS bs (0, 0)) 0 (npS bs (0, 0))]⟩, ⟨.fix, 35, 0, 0, [.int .i64 (rdV bs 2 (0, 0)), .int .i64 (rdV bs 2 (rdS bs.length 2 (0, 0))), .sl (m.length + 5) (npS bs (0, 0)) 0 (npS bs (0, 0))]⟩, ⟨.grow, 68, (npS bs (0, 0)), 3, dl (npS bs (0, 0)) (GH bs (0, 0))⟩, ⟨.fix, 39, 0, 0, [.int .i64 (rdV bs 2 (0, 0)), .int .i64 (rdV bs 2 (rdS bs.length 2 (0, 0))), .sl (m.length + 5) (npS bs (0, 0)) 0 (npS bs (0, 0)), .sl (m.length + 7) a1 0 a1, .sl (m.length + 8) a2 0 a2, .sl (m.length + 9) a3 0 a3, .sl (m.length + 10) a4 0 a4, .nils]⟩, ⟨.grow, 66, a1, 1, il a1 (xD bs)⟩, ⟨.grow, 73, a2, 3, dl a2 (xN bs)⟩, ⟨.grow, 68, a3, 3, dl a3 (xB bs)⟩, ⟨.grow, 3, a4, 1, il a4 (xS bs)⟩]) := by
          intro a4 hI tm' hk
          refine hK _ _ (AW.weak hk ?_)
          clear hk tm' hK K
          obtain ⟨la4, oa4⟩ := hI
          refine AW.seq_k fun K hK => ?_
          have hJ9 : ∀ a5, a5 ≤ (npS bs (0, 0)) ∧ (a5 = (npS bs (0, 0)) ∨ ¬ (it (rdS bs.length 2) (D4 bs) a5).2 = 0) → ∀ tm', Keeps tm' [(2, .one (.ptr m.length 0 0)), (4, .one (.ptr (m.length + 2) 0 0)), (5, .one (.ptr (m.length + 6) 0 0)), (6, .one (.int .i64 ((npS bs (0, 0)) : Int)))] → K tm' (m ++ [⟨.fix, 39, 0, 0, [.int .i64 0, .int .i64 0, .nils, .nils, .nils, .nils, .nils, .nils]⟩, ⟨.grow, 5, 1, 1, u8l bs⟩, ⟨.fix, 110, 0, 0, [cP (m.length + 1) 1 bs.length (D5 bs), .int .i64 (D5 bs).2]⟩, ⟨.fix, 35, 0, 0, [.int .i64 (rdV bs 2 (0, 0)), .int .i64 (rdV bs 2 (rdS bs.length 2 (0, 0))), .sl (m.length + 5) (npS bs (0, 0)) 0 (npS bs (0, 0))]⟩, ⟨.fix, 35, 0, 0, [.int .i64 (rdV bs 2 (0, 0)), .int .i64 (rdV bs 2 (rdS bs.length 2 (0, 0))), .sl (m.length + 5) (npS bs (0, 0)) 0 (npS bs (0, 0))]⟩, ⟨.grow, 68, (npS bs (0, 0)), 3, dl (npS bs (0, 0)) (GH bs (0, 0))⟩, ⟨.fix, 39, 0, 0, [.int .i64 (rdV bs 2 (0, 0)), .int .i64 (rdV bs 2 (rdS bs.length 2 (0, 0))), .sl (m.length + 5) (npS bs (0, 0)) 0 (npS bs (0, 0)), .sl (m.length + 7) a1 0 a1, .sl (m.length + 8) a2 0 a2, .sl (m.length + 9) a3 0 a3, .sl (m.length + 10) a4 0 a4, .sl (m.length + 11) a5 0 a5]⟩, ⟨.grow, 66, a1, 1, il a1 (xD bs)⟩, ⟨.grow, 73, a2, 3, dl a2 (xN bs)⟩, ⟨.grow, 68, a3, 3, dl a3 (xB bs)⟩, ⟨.grow, 3, a4, 1, il a4 (xS bs)⟩, ⟨.grow, 3, a5, 1, il a5 (xF bs)⟩]) := by
            intro a5 hI tm' hk
            refine hK _ _ (AW.weak hk ?_)
            clear hk tm' hK K
            obtain ⟨la5, oa5⟩ := hI
            refine AW.seq_k fun K hK => ?_
            refine AW.seq_k fun K hK => ?_
            rcases chain3 ((D5 bs).2 = 0) (¬ (D5 bs).1 < bs.length) (rgB bs = true) with ⟨h5, hl, hz⟩ | ⟨h5, hl, hz⟩ | ⟨h5, hl, _⟩ | ⟨h5, _⟩
            · obtain ⟨z4, z3, z2, z1, z0⟩ := Dok h5
              have ea1 : a1 = (npS bs (0, 0)) := oa1.resolve_right fun hc => hc (it_ok fe la1 z1)
              subst ea1
              have ea2 : a2 = (npS bs (0, 0)) := oa2.resolve_right fun hc => hc (it_ok ve la2 z2)
              subst ea2
              have ea3 : a3 = (npS bs (0, 0)) := oa3.resolve_right fun hc => hc (it_ok ve la3 z3)
              subst ea3
              have ea4 : a4 = (npS bs (0, 0)) := oa4.resolve_right fun hc => hc (it_ok re la4 z4)
              subst ea4
              have ea5 : a5 = (npS bs (0, 0)) := oa5.resolve_right fun hc => hc (it_ok re la5 h5)
              subst ea5
              have hok : okB bs = true := by unfold okB; rw [decide_eq_true h5, decide_eq_true hl, hz]; rfl
              rw [if_pos hok, if_pos hok] at hQ
              have hlv : leftV bs.length (D5 bs) = 0 := by unfold leftV; rw [if_pos h5]; omega
              have he2 : ((D5 bs).2 == 0) = true := by simpa using h5
              have hen : endS bs.length (D5 bs) = D5 bs := by unfold endS; rw [if_neg (fun hc => hl hc.2)]
              have hne : ((D5 bs).2 != 0) = false := by simpa using h5
              refine AW.region (by decide) ?_
              simp only [push_cast, simprocAttr, hM, c00, npw, hlv, he2, hen, hne, hrg, hz]
              refine CThen.by (left_c (m.length + 2) (m.length + 1) 1 bs (D5 bs) _ (hRt _ _ _ hd5)) ?_
              simp only [push_cast, simprocAttr, hM, c00, npw, hlv, he2, hen, hne, hrg, hz]
              refine CThen.by (err_c (m.length + 2) (m.length + 1) 1 bs (D5 bs) _ (hRt _ _ _ hd5)) ?_
              simp only [push_cast, simprocAttr, hM, c00, npw, hlv, he2, hen, hne, hrg, hz]
              refine CThen.by (filmRight_v (rdV bs 2 (0, 0)) (rdV bs 2 (rdS bs.length 2 (0, 0))) (m.length + 5) (npS bs (0, 0)) (m.length + 7) (npS bs (0, 0)) (m.length + 8) (npS bs (0, 0)) (m.length + 9) (npS bs (0, 0)) (m.length + 10) (npS bs (0, 0)) (m.length + 11) (npS bs (0, 0)) (npS bs (0, 0)) (npS bs (0, 0)) (npS bs (0, 0)) (npS bs (0, 0)) (npS bs (0, 0)) (npS bs (0, 0)) (xS bs) (xF bs) _ ⟨.grow, 1, by simp only [push_cast, simprocAttr]⟩ ⟨.grow, 1, by simp only [push_cast, simprocAttr]⟩ (by exact hN20)) ?_
              simp only [push_cast, simprocAttr, hM, c00, npw, hlv, he2, hen, hne, hrg, hz]
              refine Thn_n ?_
              refine hK _ _ ?_
              clear hK K
              refine AW.cond_f rfl ?_
              refine AW.skip ?_
              refine Thn_n ?_
              refine hK _ _ ?_
              clear hK K
              refine AW.seq_k fun K hK => ?_
              refine AW.seq_k fun K hK => ?_
              refine AW.region (by decide) ?_
              simp only [push_cast, simprocAttr, hM, c00, npw, hlv, he2, hen, hne, hrg, hz]
              refine CThen.by (end_c (m.length + 2) (m.length + 1) 1 bs (D5 bs) _ (hRt _ _ _ hd5)) ?_
              simp only [push_cast, simprocAttr, hM, c00, npw, hlv, he2, hen, hne, hrg, hz]
              refine Thn_n ?_
              refine hK _ _ ?_
              clear hK K
              refine AW.seq_k fun K hK => ?_
              refine AW.region (by decide) ?_
              simp only [push_cast, simprocAttr, hM, c00, npw, hlv, he2, hen, hne, hrg, hz]
              refine Thn_n ?_
              refine hK _ _ ?_
              clear hK K
              refine AW.cond_f rfl ?_
              refine AW.skip ?_
              refine Thn_n ?_
              refine hK _ _ ?_
              clear hK K
              refine AW.seq_k fun K hK => ?_
              refine AW.region (by decide) ?_
              simp only [push_cast, simprocAttr, hM, c00, npw, hlv, he2, hen, hne, hrg, hz]
              refine Thn_n ?_
              refine hK _ _ ?_
              clear hK K
              refine AW.ret ?_
              refine hQ _ _ _ ?_
              refine RetP.pick [(m.length + 5, (npS bs (0, 0))), (m.length + 7, (npS bs (0, 0))), (m.length + 8, (npS bs (0, 0))), (m.length + 9, (npS bs (0, 0))), (m.length + 10, (npS bs (0, 0))), (m.length + 11, (npS bs (0, 0)))] (Or.inr rfl) ?_ ?_ ?_ hwf ?_
              · simp only [resA, resOne, resTv, AV.tv, push_cast, simprocAttr]
                simp [renV, renT, renL, renC, renIdx, hlt0]
              · simp only [picks, push_cast, simprocAttr]
              · simp [distinctFrom]
              · repeat (first | exact MWf_nil | (refine MWf_cons ?_ ?_; · first | exact dl_below _ _ _ | exact il_below _ _ _))
              
            · obtain ⟨z4, z3, z2, z1, z0⟩ := Dok h5
              have ea1 : a1 = (npS bs (0, 0)) := oa1.resolve_right fun hc => hc (it_ok fe la1 z1)
              subst ea1
              have ea2 : a2 = (npS bs (0, 0)) := oa2.resolve_right fun hc => hc (it_ok ve la2 z2)
              subst ea2
              have ea3 : a3 = (npS bs (0, 0)) := oa3.resolve_right fun hc => hc (it_ok ve la3 z3)
              subst ea3
              have ea4 : a4 = (npS bs (0, 0)) := oa4.resolve_right fun hc => hc (it_ok re la4 z4)
              subst ea4
              have ea5 : a5 = (npS bs (0, 0)) := oa5.resolve_right fun hc => hc (it_ok re la5 h5)
              subst ea5
              have hnk : ¬ okB bs = true := by unfold okB; rw [show rgB bs = false by simpa using hz]; simp
              rw [if_neg hnk, if_neg hnk] at hQ
              have hev : erV bs = 10 := by unfold erV; rw [if_pos h5]
              rw [hev] at hQ
              have hz' : rgB bs = false := by simpa using hz
              have hlv : leftV bs.length (D5 bs) = 0 := by unfold leftV; rw [if_pos h5]; omega
              have he2 : ((D5 bs).2 == 0) = true := by simpa using h5
              have hfl : flS 10 (D5 bs) = ((D5 bs).1, 10) := by unfold flS; rw [if_pos h5]
              have hen : endS bs.length ((D5 bs).1, 10) = ((D5 bs).1, 10) := by unfold endS; rw [if_neg (fun hc => by have := hc.1; simp at this)]
              refine AW.region (by decide) ?_
              simp only [push_cast, simprocAttr, hM, c00, npw, hlv, he2, hfl, hen, hrg, hz']
              refine CThen.by (left_c (m.length + 2) (m.length + 1) 1 bs (D5 bs) _ (hRt _ _ _ hd5)) ?_
              simp only [push_cast, simprocAttr, hM, c00, npw, hlv, he2, hfl, hen, hrg, hz']
              refine CThen.by (err_c (m.length + 2) (m.length + 1) 1 bs (D5 bs) _ (hRt _ _ _ hd5)) ?_
              simp only [push_cast, simprocAttr, hM, c00, npw, hlv, he2, hfl, hen, hrg, hz']
              refine CThen.by (filmRight_v (rdV bs 2 (0, 0)) (rdV bs 2 (rdS bs.length 2 (0, 0))) (m.length + 5) (npS bs (0, 0)) (m.length + 7) (npS bs (0, 0)) (m.length + 8) (npS bs (0, 0)) (m.length + 9) (npS bs (0, 0)) (m.length + 10) (npS bs (0, 0)) (m.length + 11) (npS bs (0, 0)) (npS bs (0, 0)) (npS bs (0, 0)) (npS bs (0, 0)) (npS bs (0, 0)) (npS bs (0, 0)) (npS bs (0, 0)) (xS bs) (xF bs) _ ⟨.grow, 1, by simp only [push_cast, simprocAttr]⟩ ⟨.grow, 1, by simp only [push_cast, simprocAttr]⟩ (by exact hN20)) ?_
              simp only [push_cast, simprocAttr, hM, c00, npw, hlv, he2, hfl, hen, hrg, hz']
              refine Thn_n ?_
              refine hK _ _ ?_
              clear hK K
              refine AW.cond_t rfl ?_
              refine AW.region (by decide) ?_
              simp only [push_cast, simprocAttr, hM, c00, npw, hlv, he2, hfl, hen, hrg, hz']
              refine CThen.by (fail_c (m.length + 2) (m.length + 1) 1 bs (D5 bs) 10 _ (hRt _ _ _ hd5) (by decide)) ?_
              simp only [push_cast, simprocAttr, hM, c00, npw, hlv, he2, hfl, hen, hrg, hz']
              refine Thn_n ?_
              refine hK _ _ ?_
              clear hK K
              refine AW.seq_k fun K hK => ?_
              refine AW.seq_k fun K hK => ?_
              refine AW.region (by decide) ?_
              simp only [push_cast, simprocAttr, hM, c00, npw, hlv, he2, hfl, hen, hrg, hz']
              refine CThen.by (end_c (m.length + 2) (m.length + 1) 1 bs ((D5 bs).1, 10) _ (hRt _ _ _ hd5)) ?_
              simp only [push_cast, simprocAttr, hM, c00, npw, hlv, he2, hfl, hen, hrg, hz']
              refine Thn_n ?_
              refine hK _ _ ?_
              clear hK K
              refine AW.seq_k fun K hK => ?_
              refine AW.region (by decide) ?_
              simp only [push_cast, simprocAttr, hM, c00, npw, hlv, he2, hfl, hen, hrg, hz']
              refine Thn_n ?_
              refine hK _ _ ?_
              clear hK K
              refine AW.cond_t rfl ?_
              refine AW.seq_k fun K hK => ?_
              refine AW.region (by decide) ?_
              simp only [push_cast, simprocAttr, hM, c00, npw, hlv, he2, hfl, hen, hrg, hz']
              refine Thn_n ?_
              refine hK _ _ ?_
              clear hK K
              refine AW.ret ?_
              refine Thn_r ?_
              refine hQ _ _ _ ?_
              first | refine RetP.drop0 (Or.inr rfl) ?_ ?_ hwf | refine RetP.drop (Or.inr rfl) ?_ ?_ hwf
              · simp only [resA, resOne, resTv, AV.tv, push_cast, simprocAttr, hM, c00, npw, hlv, he2, hfl, hen, hrg, hz']
              · rfl
            · have hnk : ¬ okB bs = true := by unfold okB; rw [decide_eq_false hl]; simp
              rw [if_neg hnk, if_neg hnk] at hQ
              have hll : (D5 bs).1 < bs.length := Classical.not_not.1 hl
              have hev : erV bs = 10 := by unfold erV; rw [if_pos h5]
              rw [hev] at hQ
              have hlv : (leftV bs.length (D5 bs) == 0) = false := by
                have : leftV bs.length (D5 bs) ≠ 0 := by unfold leftV; rw [if_pos h5]; omega
                simpa using this
              have hen : endS bs.length (D5 bs) = ((D5 bs).1, 10) := by unfold endS; rw [if_pos ⟨h5, hll⟩]
              refine AW.region (by decide) ?_
              simp only [push_cast, simprocAttr, hM, c00, npw, hlv, hen]
              refine CThen.by (left_c (m.length + 2) (m.length + 1) 1 bs (D5 bs) _ (hRt _ _ _ hd5)) ?_
              simp only [push_cast, simprocAttr, hM, c00, npw, hlv, hen]
              refine Thn_n ?_
              refine hK _ _ ?_
              clear hK K
              refine AW.cond_f rfl ?_
              refine AW.skip ?_
              refine Thn_n ?_
              refine hK _ _ ?_
              clear hK K
              refine AW.seq_k fun K hK => ?_
              refine AW.seq_k fun K hK => ?_
              refine AW.region (by decide) ?_
              simp only [push_cast, simprocAttr, hM, c00, npw, hlv, hen]
              refine CThen.by (end_c (m.length + 2) (m.length + 1) 1 bs (D5 bs) _ (hRt _ _ _ hd5)) ?_
              simp only [push_cast, simprocAttr, hM, c00, npw, hlv, hen]
              refine Thn_n ?_
              refine hK _ _ ?_
              clear hK K
              refine AW.seq_k fun K hK => ?_
              refine AW.region (by decide) ?_
              simp only [push_cast, simprocAttr, hM, c00, npw, hlv, hen]
              refine Thn_n ?_
              refine hK _ _ ?_
              clear hK K
              refine AW.cond_t rfl ?_
              refine AW.seq_k fun K hK => ?_
              refine AW.region (by decide) ?_
              simp only [push_cast, simprocAttr, hM, c00, npw, hlv, hen]
              refine Thn_n ?_
              refine hK _ _ ?_
              clear hK K
              refine AW.ret ?_
              refine Thn_r ?_
              refine hQ _ _ _ ?_
              first | refine RetP.drop0 (Or.inr rfl) ?_ ?_ hwf | refine RetP.drop (Or.inr rfl) ?_ ?_ hwf
              · simp only [resA, resOne, resTv, AV.tv, push_cast, simprocAttr, hM, c00, npw, hlv, hen]
              · rfl
            · have hnk : ¬ okB bs = true := by unfold okB; rw [decide_eq_false h5]; simp
              rw [if_neg hnk, if_neg hnk] at hQ
              have hev : erV bs = (D5 bs).2 := by unfold erV; rw [if_neg h5]
              rw [hev] at hQ
              have hlv : leftV bs.length (D5 bs) = 0 := by unfold leftV; rw [if_neg h5]
              have he2 : ((D5 bs).2 == 0) = false := by simpa using h5
              have hen : endS bs.length (D5 bs) = D5 bs := by unfold endS; rw [if_neg (fun hc => h5 hc.1)]
              have hne : ((D5 bs).2 != 0) = true := by simpa using h5
              refine AW.region (by decide) ?_
              simp only [push_cast, simprocAttr, hM, c00, npw, hlv, he2, hen, hne]
              refine CThen.by (left_c (m.length + 2) (m.length + 1) 1 bs (D5 bs) _ (hRt _ _ _ hd5)) ?_
              simp only [push_cast, simprocAttr, hM, c00, npw, hlv, he2, hen, hne]
              refine CThen.by (err_c (m.length + 2) (m.length + 1) 1 bs (D5 bs) _ (hRt _ _ _ hd5)) ?_
              simp only [push_cast, simprocAttr, hM, c00, npw, hlv, he2, hen, hne]
              refine Thn_n ?_
              refine hK _ _ ?_
              clear hK K
              refine AW.cond_f rfl ?_
              refine AW.skip ?_
              refine Thn_n ?_
              refine hK _ _ ?_
              clear hK K
              refine AW.seq_k fun K hK => ?_
              refine AW.seq_k fun K hK => ?_
              refine AW.region (by decide) ?_
              simp only [push_cast, simprocAttr, hM, c00, npw, hlv, he2, hen, hne]
              refine CThen.by (end_c (m.length + 2) (m.length + 1) 1 bs (D5 bs) _ (hRt _ _ _ hd5)) ?_
              simp only [push_cast, simprocAttr, hM, c00, npw, hlv, he2, hen, hne]
              refine Thn_n ?_
              refine hK _ _ ?_
              clear hK K
              refine AW.seq_k fun K hK => ?_
              refine AW.region (by decide) ?_
              simp only [push_cast, simprocAttr, hM, c00, npw, hlv, he2, hen, hne]
              refine Thn_n ?_
              refine hK _ _ ?_
              clear hK K
              refine AW.cond_t rfl ?_
              refine AW.seq_k fun K hK => ?_
              refine AW.region (by decide) ?_
              simp only [push_cast, simprocAttr, hM, c00, npw, hlv, he2, hen, hne]
              refine Thn_n ?_
              refine hK _ _ ?_
              clear hK K
              refine AW.ret ?_
              refine Thn_r ?_
              refine hQ _ _ _ ?_
              first | refine RetP.drop0 (Or.inr rfl) ?_ ?_ hwf | refine RetP.drop (Or.inr rfl) ?_ ?_ hwf
              · simp only [resA, resOne, resTv, AV.tv, push_cast, simprocAttr, hM, c00, npw, hlv, he2, hen, hne]
              · rfl
          refine AW.seq_k fun K hK => ?_
          refine AW.region (by decide) ?_
          simp only [push_cast, simprocAttr, hM, c00, npw]
          refine Thn_n ?_
          refine hK _ _ ?_
          clear hK K
          refine AW.block ?_
          refine AW.nilCell 3 1 (m.length + 6) 7 (by simp only [push_cast, simprocAttr, hM, c00, npw]; first | done | rfl) (by intro e; cases e) rfl ?_
          try simp only [push_cast, simprocAttr, hM, c00, npw]
          refine AW.loopK [2, 4, 5, 6] (fun i => i ≤ (npS bs (0, 0))) (fun i => [(11, .one (.int .i64 (i : Int)))]) (fun i => [(m.length + 2, ⟨.fix, 110, 0, 0, [cP (m.length + 1) 1 bs.length (it (rdS bs.length 2) (D4 bs) i), .int .i64 (it (rdS bs.length 2) (D4 bs) i).2]⟩), (m.length + 6, ⟨.fix, 39, 0, 0, [.int .i64 (rdV bs 2 (0, 0)), .int .i64 (rdV bs 2 (rdS bs.length 2 (0, 0))), .sl (m.length + 5) (npS bs (0, 0)) 0 (npS bs (0, 0)), .sl (m.length + 7) a1 0 a1, .sl (m.length + 8) a2 0 a2, .sl (m.length + 9) a3 0 a3, .sl (m.length + 10) a4 0 a4, .sl (m.length + 11) i 0 i]⟩), (m.length + 11, ⟨.grow, 3, i, 1, il i (xF bs)⟩)]) (fun i => (npS bs (0, 0)) - i) 0 (by omega) ?_ ?_ fun i hi29 => ?_
          · first | rfl | (simp only [Keeps, Tm.get_cons, Nat.reduceEqDiff, ↓reduceIte, if_true, if_false, ite_true, ite_false, true_and, and_true, and_self, reduceCtorEq, dl, il, it, Int.natCast_zero] <;> rfl)
          · first | rfl | (simp only [setAll, push_cast, simprocAttr, hM, c00, npw, dl, il, it, Int.natCast_zero] <;> rfl)
          try simp only [keepL, setAll, push_cast, simprocAttr, hM, c00, npw]
          refine AW.seq_k fun K hK => ?_
          refine AW.seq_k fun K hK => ?_
          rcases Nat.lt_or_ge i (npS bs (0, 0)) with hc | hc
          · have hle : i ≤ (npS bs (0, 0)) := by omega
            have c0 : (i : Int) < ((npS bs (0, 0)) : Int) := by omega
            have hpx : (it (rdS bs.length 2) (D4 bs) i).1 ≤ bs.length := it_le (fun _ h => rdS_le h) hd4 i
            refine AW.region (by decide) ?_
            simp only [push_cast, simprocAttr, hM, c00, npw, c0]
            refine CThen.by (err_c (m.length + 2) (m.length + 1) 1 bs (it (rdS bs.length 2) (D4 bs) i) _ (hRt _ _ _ hpx)) ?_
            simp only [push_cast, simprocAttr, hM, c00, npw, c0]
            refine Thn_n ?_
            refine hK _ _ ?_
            clear hK K
            refine AW.cond rfl (fun h97 => ?_) (fun h97 => ?_)
            · have gi := il_len i (xF bs)
              have q1 : i + 1 ≤ 140737488355328 := by omega
              have q2 : (i + 1) * 8 ≤ 140737488355328 := by omega
              have snx : il i (xF bs) ++ [.int .i64 (sg2 (rdV bs 2 (it (rdS bs.length 2) (D4 bs) i)))] = il (i + 1) (xF bs) := rfl
              have stx : rdS bs.length 2 (it (rdS bs.length 2) (D4 bs) i) = (it (rdS bs.length 2) (D4 bs) (i + 1)) := rfl
              refine AW.skip ?_
              refine Thn_n ?_
              refine hK _ _ ?_
              clear hK K
              refine AW.seq_k fun K hK => ?_
              refine AW.block ?_
              refine AW.drawX fol (by kernel_rfl) ?_
              refine DX.split 1 3 (by decide) ?_ ?_
              focus
                refine DX.run [0, 1, 2, 3, 4, 5, 6, 7] [.val, .rd 0, .val, .wr, .ext, .wr, .val, .wr] (by simp only [permL, reOp, List.idxOf_cons, push_cast, simprocAttr, hM, c00, npw, c0, gi, q1, q2]; first | done | rfl) (by kernel_rfl) ?_
                simp only [push_cast, simprocAttr, hM, c00, npw, c0, gi, q1, q2]
                refine DCallW.by (small_c (m.length + 2) (m.length + 1) 1 bs (it (rdS bs.length 2) (D4 bs) i) _ (hRt _ _ _ hpx)) ?_
                simp only [push_cast, simprocAttr, hM, c00, npw, c0, gi, q1, q2]
                refine DExt.by (by first | rfl | (simp only [List.append_assoc, List.cons_append, List.nil_append]; rfl)) ?_
                simp only [push_cast, simprocAttr, hM, c00, npw, c0, gi, q1, q2]
                skip
              rotate_left 1
              focus
                refine DX.run [0, 2, 3, 1, 4, 5, 6, 7] [.val, .val, .wr, .rd 1, .ext, .wr, .val, .wr] (by simp only [permL, reOp, List.idxOf_cons, push_cast, simprocAttr, hM, c00, npw, c0, gi, q1, q2]; first | done | rfl) (by kernel_rfl) ?_
                simp only [push_cast, simprocAttr, hM, c00, npw, c0, gi, q1, q2]
                refine DCallW.by (small_c (m.length + 2) (m.length + 1) 1 bs (it (rdS bs.length 2) (D4 bs) i) _ (hRt _ _ _ hpx)) ?_
                simp only [push_cast, simprocAttr, hM, c00, npw, c0, gi, q1, q2]
                refine DExt.by (by first | rfl | (simp only [List.append_assoc, List.cons_append, List.nil_append]; rfl)) ?_
                simp only [push_cast, simprocAttr, hM, c00, npw, c0, gi, q1, q2]
                skip
              rotate_left 1
              all_goals (
              refine InB_n ?_
              refine Thn_n ?_
              refine hK _ _ ?_
              clear hK K
              refine AW.region (by decide) ?_
              simp only [push_cast, simprocAttr, hM, c00, npw, c0, gi, q1, q2]
              refine Thn_n ?_
              have hwi : IntKind.i64.wrap ((i:Int)+1) = (i:Int)+1 := wi (by omega)
              refine ⟨i + 1, by omega, by omega, ?_⟩
              try simp only [keepL, setAll, push_cast, simprocAttr, hM, c00, npw, c0, gi, q1, q2, hwi, snx, stx]
              exact Weak.to (extra := [_]) (by simp only [Keeps, Tm.get_cons, Nat.reduceEqDiff, ↓reduceIte, if_true, if_false, ite_true, ite_false, true_and, and_true, and_self, reduceCtorEq, hwi, snx, stx]) (by first | rfl | (simp only [List.append_assoc, List.cons_append, List.nil_append]; rfl)) (by first | rfl | (simp [AV.below, CV.below, dl_below, il_below]; done) | (simp [AV.below, CV.below, dl_below, il_below]; omega)) (by refine MWf.app (hwf.grow (by simp)) ?_; repeat (first | exact MWf_nil | (refine MWf_cons ?_ ?_; · first | rfl | exact dl_below _ _ _ | exact il_below _ _ _ | exact u8l_below _ _ | exact cP_all (by simp) | exact cP_all (by simp; omega) | (simp [CV.below]; done) | (simp [CV.below]; omega))))
              )
            · have herr : ¬ (it (rdS bs.length 2) (D4 bs) i).2 = 0 := by simpa using h97
              have hor : i = (npS bs (0, 0)) ∨ ¬ (it (rdS bs.length 2) (D4 bs) i).2 = 0 := .inr herr
              have hxi : (it (rdS bs.length 2) (D4 bs) i) = (D5 bs) := it_to re hle herr
              refine AW.exit ?_
              refine Thn_e ?_
              clear hK K
              refine Thn_e ?_
              refine InB_here ?_
              refine Thn_n ?_
              try simp only [hxi]
              exact hJ9 i ⟨hle, hor⟩ _ (by simp only [Keeps, Tm.get_cons, Nat.reduceEqDiff, ↓reduceIte, if_true, if_false, ite_true, ite_false, true_and, and_true, and_self, reduceCtorEq])
          · have hle : i ≤ (npS bs (0, 0)) := by omega
            have hin : i = (npS bs (0, 0)) := by omega
            have c0 : ¬ (i : Int) < ((npS bs (0, 0)) : Int) := by omega
            have hor : i = (npS bs (0, 0)) ∨ ¬ (it (rdS bs.length 2) (D4 bs) i).2 = 0 := .inl hin
            have hxi : (it (rdS bs.length 2) (D4 bs) i) = (D5 bs) := by rw [hin]; rfl
            refine AW.region (by decide) ?_
            simp only [push_cast, simprocAttr, hM, c00, npw, c0]
            refine Thn_n ?_
            refine hK _ _ ?_
            clear hK K
            refine AW.cond_f rfl ?_
            refine AW.exit ?_
            refine Thn_e ?_
            clear hK K
            refine Thn_e ?_
            refine InB_here ?_
            refine Thn_n ?_
            try simp only [hxi]
            exact hJ9 i ⟨hle, hor⟩ _ (by simp only [Keeps, Tm.get_cons, Nat.reduceEqDiff, ↓reduceIte, if_true, if_false, ite_true, ite_false, true_and, and_true, and_self, reduceCtorEq])
        refine AW.seq_k fun K hK => ?_
        refine AW.region (by decide) ?_
        simp only [push_cast, simprocAttr, hM, c00, npw]
        refine Thn_n ?_
        refine hK _ _ ?_
        clear hK K
        refine AW.block ?_
        refine AW.nilCell 3 1 (m.length + 6) 6 (by simp only [push_cast, simprocAttr, hM, c00, npw]; first | done | rfl) (by intro e; cases e) rfl ?_
        try simp only [push_cast, simprocAttr, hM, c00, npw]
        refine AW.loopK [2, 4, 5, 6] (fun i => i ≤ (npS bs (0, 0))) (fun i => [(10, .one (.int .i64 (i : Int)))]) (fun i => [(m.length + 2, ⟨.fix, 110, 0, 0, [cP (m.length + 1) 1 bs.length (it (rdS bs.length 2) (D3 bs) i), .int .i64 (it (rdS bs.length 2) (D3 bs) i).2]⟩), (m.length + 6, ⟨.fix, 39, 0, 0, [.int .i64 (rdV bs 2 (0, 0)), .int .i64 (rdV bs 2 (rdS bs.length 2 (0, 0))), .sl (m.length + 5) (npS bs (0, 0)) 0 (npS bs (0, 0)), .sl (m.length + 7) a1 0 a1, .sl (m.length + 8) a2 0 a2, .sl (m.length + 9) a3 0 a3, .sl (m.length + 10) i 0 i, .nils]⟩), (m.length + 10, ⟨.grow, 3, i, 1, il i (xS bs)⟩)]) (fun i => (npS bs (0, 0)) - i) 0 (by omega) ?_ ?_ fun i hi34 => ?_
        · first | rfl | (simp only [Keeps, Tm.get_cons, Nat.reduceEqDiff, ↓reduceIte, if_true, if_false, ite_true, ite_false, true_and, and_true, and_self, reduceCtorEq, dl, il, it, Int.natCast_zero] <;> rfl)
        · first | rfl | (simp only [setAll, push_cast, simprocAttr, hM, c00, npw, dl, il, it, Int.natCast_zero] <;> rfl)
        try simp only [keepL, setAll, push_cast, simprocAttr, hM, c00, npw]
        refine AW.seq_k fun K hK => ?_
        refine AW.seq_k fun K hK => ?_
        rcases Nat.lt_or_ge i (npS bs (0, 0)) with hc | hc
        · have hle : i ≤ (npS bs (0, 0)) := by omega
          have c0 : (i : Int) < ((npS bs (0, 0)) : Int) := by omega
          have hpx : (it (rdS bs.length 2) (D3 bs) i).1 ≤ bs.length := it_le (fun _ h => rdS_le h) hd3 i
          refine AW.region (by decide) ?_
          simp only [push_cast, simprocAttr, hM, c00, npw, c0]
          refine CThen.by (err_c (m.length + 2) (m.length + 1) 1 bs (it (rdS bs.length 2) (D3 bs) i) _ (hRt _ _ _ hpx)) ?_
          simp only [push_cast, simprocAttr, hM, c00, npw, c0]
          refine Thn_n ?_
          refine hK _ _ ?_
          clear hK K
          refine AW.cond rfl (fun h80 => ?_) (fun h80 => ?_)
          · have gi := il_len i (xS bs)
            have q1 : i + 1 ≤ 140737488355328 := by omega
            have q2 : (i + 1) * 8 ≤ 140737488355328 := by omega
            have snx : il i (xS bs) ++ [.int .i64 (sg2 (rdV bs 2 (it (rdS bs.length 2) (D3 bs) i)))] = il (i + 1) (xS bs) := rfl
            have stx : rdS bs.length 2 (it (rdS bs.length 2) (D3 bs) i) = (it (rdS bs.length 2) (D3 bs) (i + 1)) := rfl
            refine AW.skip ?_
            refine Thn_n ?_
            refine hK _ _ ?_
            clear hK K
            refine AW.seq_k fun K hK => ?_
            refine AW.block ?_
            refine AW.drawX fol (by kernel_rfl) ?_
            refine DX.split 1 3 (by decide) ?_ ?_
            focus
              refine DX.run [0, 1, 2, 3, 4, 5, 6, 7] [.val, .rd 0, .val, .wr, .ext, .wr, .val, .wr] (by simp only [permL, reOp, List.idxOf_cons, push_cast, simprocAttr, hM, c00, npw, c0, gi, q1, q2]; first | done | rfl) (by kernel_rfl) ?_
              simp only [push_cast, simprocAttr, hM, c00, npw, c0, gi, q1, q2]
              refine DCallW.by (small_c (m.length + 2) (m.length + 1) 1 bs (it (rdS bs.length 2) (D3 bs) i) _ (hRt _ _ _ hpx)) ?_
              simp only [push_cast, simprocAttr, hM, c00, npw, c0, gi, q1, q2]
              refine DExt.by (by first | rfl | (simp only [List.append_assoc, List.cons_append, List.nil_append]; rfl)) ?_
              simp only [push_cast, simprocAttr, hM, c00, npw, c0, gi, q1, q2]
              skip
            rotate_left 1
            focus
              refine DX.run [0, 2, 3, 1, 4, 5, 6, 7] [.val, .val, .wr, .rd 1, .ext, .wr, .val, .wr] (by simp only [permL, reOp, List.idxOf_cons, push_cast, simprocAttr, hM, c00, npw, c0, gi, q1, q2]; first | done | rfl) (by kernel_rfl) ?_
              simp only [push_cast, simprocAttr, hM, c00, npw, c0, gi, q1, q2]
              refine DCallW.by (small_c (m.length + 2) (m.length + 1) 1 bs (it (rdS bs.length 2) (D3 bs) i) _ (hRt _ _ _ hpx)) ?_
              simp only [push_cast, simprocAttr, hM, c00, npw, c0, gi, q1, q2]
              refine DExt.by (by first | rfl | (simp only [List.append_assoc, List.cons_append, List.nil_append]; rfl)) ?_
              simp only [push_cast, simprocAttr, hM, c00, npw, c0, gi, q1, q2]
              skip
            rotate_left 1
            all_goals (
            refine InB_n ?_
            refine Thn_n ?_
            refine hK _ _ ?_
            clear hK K
            refine AW.region (by decide) ?_
            simp only [push_cast, simprocAttr, hM, c00, npw, c0, gi, q1, q2]
            refine Thn_n ?_
            have hwi : IntKind.i64.wrap ((i:Int)+1) = (i:Int)+1 := wi (by omega)
            refine ⟨i + 1, by omega, by omega, ?_⟩
            try simp only [keepL, setAll, push_cast, simprocAttr, hM, c00, npw, c0, gi, q1, q2, hwi, snx, stx]
            exact Weak.to (extra := [_]) (by simp only [Keeps, Tm.get_cons, Nat.reduceEqDiff, ↓reduceIte, if_true, if_false, ite_true, ite_false, true_and, and_true, and_self, reduceCtorEq, hwi, snx, stx]) (by first | rfl | (simp only [List.append_assoc, List.cons_append, List.nil_append]; rfl)) (by first | rfl | (simp [AV.below, CV.below, dl_below, il_below]; done) | (simp [AV.below, CV.below, dl_below, il_below]; omega)) (by refine MWf.app (hwf.grow (by simp)) ?_; repeat (first | exact MWf_nil | (refine MWf_cons ?_ ?_; · first | rfl | exact dl_below _ _ _ | exact il_below _ _ _ | exact u8l_below _ _ | exact cP_all (by simp) | exact cP_all (by simp; omega) | (simp [CV.below]; done) | (simp [CV.below]; omega))))
            )
          · have herr : ¬ (it (rdS bs.length 2) (D3 bs) i).2 = 0 := by simpa using h80
            have hor : i = (npS bs (0, 0)) ∨ ¬ (it (rdS bs.length 2) (D3 bs) i).2 = 0 := .inr herr
            have hxi : (it (rdS bs.length 2) (D3 bs) i) = (D4 bs) := it_to re hle herr
            refine AW.exit ?_
            refine Thn_e ?_
            clear hK K
            refine Thn_e ?_
            refine InB_here ?_
            refine Thn_n ?_
            try simp only [hxi]
            exact hJ8 i ⟨hle, hor⟩ _ (by simp only [Keeps, Tm.get_cons, Nat.reduceEqDiff, ↓reduceIte, if_true, if_false, ite_true, ite_false, true_and, and_true, and_self, reduceCtorEq])
        · have hle : i ≤ (npS bs (0, 0)) := by omega
          have hin : i = (npS bs (0, 0)) := by omega
          have c0 : ¬ (i : Int) < ((npS bs (0, 0)) : Int) := by omega
          have hor : i = (npS bs (0, 0)) ∨ ¬ (it (rdS bs.length 2) (D3 bs) i).2 = 0 := .inl hin
          have hxi : (it (rdS bs.length 2) (D3 bs) i) = (D4 bs) := by rw [hin]; rfl
          refine AW.region (by decide) ?_
          simp only [push_cast, simprocAttr, hM, c00, npw, c0]
          refine Thn_n ?_
          refine hK _ _ ?_
          clear hK K
          refine AW.cond_f rfl ?_
          refine AW.exit ?_
          refine Thn_e ?_
          clear hK K
          refine Thn_e ?_
          refine InB_here ?_
          refine Thn_n ?_
          try simp only [hxi]
          exact hJ8 i ⟨hle, hor⟩ _ (by simp only [Keeps, Tm.get_cons, Nat.reduceEqDiff, ↓reduceIte, if_true, if_false, ite_true, ite_false, true_and, and_true, and_self, reduceCtorEq])
      refine AW.seq_k fun K hK => ?_
      refine AW.region (by decide) ?_
      simp only [push_cast, simprocAttr, hM, c00, npw]
      refine Thn_n ?_
      refine hK _ _ ?_
      clear hK K
      refine AW.block ?_
      refine AW.nilCell 68 3 (m.length + 6) 5 (by simp only [push_cast, simprocAttr, hM, c00, npw]; first | done | rfl) (by intro e; cases e) rfl ?_
      try simp only [push_cast, simprocAttr, hM, c00, npw]
      refine AW.loopK [2, 4, 5, 6] (fun i => i ≤ (npS bs (0, 0))) (fun i => [(9, .one (.int .i64 (i : Int)))]) (fun i => [(m.length + 2, ⟨.fix, 110, 0, 0, [cP (m.length + 1) 1 bs.length (it (v3S bs) (D2 bs) i), .int .i64 (it (v3S bs) (D2 bs) i).2]⟩), (m.length + 6, ⟨.fix, 39, 0, 0, [.int .i64 (rdV bs 2 (0, 0)), .int .i64 (rdV bs 2 (rdS bs.length 2 (0, 0))), .sl (m.length + 5) (npS bs (0, 0)) 0 (npS bs (0, 0)), .sl (m.length + 7) a1 0 a1, .sl (m.length + 8) a2 0 a2, .sl (m.length + 9) i 0 i, .nils, .nils]⟩), (m.length + 9, ⟨.grow, 68, i, 3, dl i (xB bs)⟩)]) (fun i => (npS bs (0, 0)) - i) 0 (by omega) ?_ ?_ fun i hi39 => ?_
      · first | rfl | (simp only [Keeps, Tm.get_cons, Nat.reduceEqDiff, ↓reduceIte, if_true, if_false, ite_true, ite_false, true_and, and_true, and_self, reduceCtorEq, dl, il, it, Int.natCast_zero] <;> rfl)
      · first | rfl | (simp only [setAll, push_cast, simprocAttr, hM, c00, npw, dl, il, it, Int.natCast_zero] <;> rfl)
      try simp only [keepL, setAll, push_cast, simprocAttr, hM, c00, npw]
      refine AW.seq_k fun K hK => ?_
      refine AW.seq_k fun K hK => ?_
      rcases Nat.lt_or_ge i (npS bs (0, 0)) with hc | hc
      · have hle : i ≤ (npS bs (0, 0)) := by omega
        have c0 : (i : Int) < ((npS bs (0, 0)) : Int) := by omega
        have hpx : (it (v3S bs) (D2 bs) i).1 ≤ bs.length := it_le (fun _ h => v3S_le h) hd2 i
        refine AW.region (by decide) ?_
        simp only [push_cast, simprocAttr, hM, c00, npw, c0]
        refine CThen.by (err_c (m.length + 2) (m.length + 1) 1 bs (it (v3S bs) (D2 bs) i) _ (hRt _ _ _ hpx)) ?_
        simp only [push_cast, simprocAttr, hM, c00, npw, c0]
        refine Thn_n ?_
        refine hK _ _ ?_
        clear hK K
        refine AW.cond rfl (fun h63 => ?_) (fun h63 => ?_)
        · have gi := dl_len i (xB bs)
          have q1 : i + 1 ≤ 140737488355328 := by omega
          have q2 : (i + 1) * 24 ≤ 140737488355328 := by omega
          have snx : dl i (xB bs) ++ [.int .i64 (v3V bs (it (v3S bs) (D2 bs) i) 0), .int .i64 (v3V bs (it (v3S bs) (D2 bs) i) 1), .int .i64 (v3V bs (it (v3S bs) (D2 bs) i) 2)] = dl (i + 1) (xB bs) := rfl
          have stx : v3S bs (it (v3S bs) (D2 bs) i) = (it (v3S bs) (D2 bs) (i + 1)) := rfl
          refine AW.skip ?_
          refine Thn_n ?_
          refine hK _ _ ?_
          clear hK K
          refine AW.seq_k fun K hK => ?_
          refine AW.block ?_
          refine AW.drawX fol (by kernel_rfl) ?_
          refine DX.split 1 3 (by decide) ?_ ?_
          focus
            refine DX.run [0, 1, 2, 3, 4, 5, 6, 7] [.val, .rd 0, .val, .wr, .ext, .wr, .val, .wr] (by simp only [permL, reOp, List.idxOf_cons, push_cast, simprocAttr, hM, c00, npw, c0, gi, q1, q2]; first | done | rfl) (by kernel_rfl) ?_
            simp only [push_cast, simprocAttr, hM, c00, npw, c0, gi, q1, q2]
            refine DCallW.by (rdhue_c (m.length + 2) (m.length + 1) 1 bs (it (v3S bs) (D2 bs) i) _ (hRt _ _ _ hpx)) ?_
            simp only [push_cast, simprocAttr, hM, c00, npw, c0, gi, q1, q2]
            refine DExt.by (by first | rfl | (simp only [List.append_assoc, List.cons_append, List.nil_append]; rfl)) ?_
            simp only [push_cast, simprocAttr, hM, c00, npw, c0, gi, q1, q2]
            skip
          rotate_left 1
          focus
            refine DX.run [0, 2, 3, 1, 4, 5, 6, 7] [.val, .val, .wr, .rd 1, .ext, .wr, .val, .wr] (by simp only [permL, reOp, List.idxOf_cons, push_cast, simprocAttr, hM, c00, npw, c0, gi, q1, q2]; first | done | rfl) (by kernel_rfl) ?_
            simp only [push_cast, simprocAttr, hM, c00, npw, c0, gi, q1, q2]
            refine DCallW.by (rdhue_c (m.length + 2) (m.length + 1) 1 bs (it (v3S bs) (D2 bs) i) _ (hRt _ _ _ hpx)) ?_
            simp only [push_cast, simprocAttr, hM, c00, npw, c0, gi, q1, q2]
            refine DExt.by (by first | rfl | (simp only [List.append_assoc, List.cons_append, List.nil_append]; rfl)) ?_
            simp only [push_cast, simprocAttr, hM, c00, npw, c0, gi, q1, q2]
            skip
          rotate_left 1
          all_goals (
          refine InB_n ?_
          refine Thn_n ?_
          refine hK _ _ ?_
          clear hK K
          refine AW.region (by decide) ?_
          simp only [push_cast, simprocAttr, hM, c00, npw, c0, gi, q1, q2]
          refine Thn_n ?_
          have hwi : IntKind.i64.wrap ((i:Int)+1) = (i:Int)+1 := wi (by omega)
          refine ⟨i + 1, by omega, by omega, ?_⟩
          try simp only [keepL, setAll, push_cast, simprocAttr, hM, c00, npw, c0, gi, q1, q2, hwi, snx, stx]
          exact Weak.to (extra := [_]) (by simp only [Keeps, Tm.get_cons, Nat.reduceEqDiff, ↓reduceIte, if_true, if_false, ite_true, ite_false, true_and, and_true, and_self, reduceCtorEq, hwi, snx, stx]) (by first | rfl | (simp only [List.append_assoc, List.cons_append, List.nil_append]; rfl)) (by first | rfl | (simp [AV.below, CV.below, dl_below, il_below]; done) | (simp [AV.below, CV.below, dl_below, il_below]; omega)) (by refine MWf.app (hwf.grow (by simp)) ?_; repeat (first | exact MWf_nil | (refine MWf_cons ?_ ?_; · first | rfl | exact dl_below _ _ _ | exact il_below _ _ _ | exact u8l_below _ _ | exact cP_all (by simp) | exact cP_all (by simp; omega) | (simp [CV.below]; done) | (simp [CV.below]; omega))))
          )
        · have herr : ¬ (it (v3S bs) (D2 bs) i).2 = 0 := by simpa using h63
          have hor : i = (npS bs (0, 0)) ∨ ¬ (it (v3S bs) (D2 bs) i).2 = 0 := .inr herr
          have hxi : (it (v3S bs) (D2 bs) i) = (D3 bs) := it_to ve hle herr
          refine AW.exit ?_
          refine Thn_e ?_
          clear hK K
          refine Thn_e ?_
          refine InB_here ?_
          refine Thn_n ?_
          try simp only [hxi]
          exact hJ7 i ⟨hle, hor⟩ _ (by simp only [Keeps, Tm.get_cons, Nat.reduceEqDiff, ↓reduceIte, if_true, if_false, ite_true, ite_false, true_and, and_true, and_self, reduceCtorEq])
      · have hle : i ≤ (npS bs (0, 0)) := by omega
        have hin : i = (npS bs (0, 0)) := by omega
        have c0 : ¬ (i : Int) < ((npS bs (0, 0)) : Int) := by omega
        have hor : i = (npS bs (0, 0)) ∨ ¬ (it (v3S bs) (D2 bs) i).2 = 0 := .inl hin
        have hxi : (it (v3S bs) (D2 bs) i) = (D3 bs) := by rw [hin]; rfl
        refine AW.region (by decide) ?_
        simp only [push_cast, simprocAttr, hM, c00, npw, c0]
        refine Thn_n ?_
        refine hK _ _ ?_
        clear hK K
        refine AW.cond_f rfl ?_
        refine AW.exit ?_
        refine Thn_e ?_
        clear hK K
        refine Thn_e ?_
        refine InB_here ?_
        refine Thn_n ?_
        try simp only [hxi]
        exact hJ7 i ⟨hle, hor⟩ _ (by simp only [Keeps, Tm.get_cons, Nat.reduceEqDiff, ↓reduceIte, if_true, if_false, ite_true, ite_false, true_and, and_true, and_self, reduceCtorEq])
    refine AW.seq_k fun K hK => ?_
    refine AW.region (by decide) ?_
    simp only [push_cast, simprocAttr, hM, c00, npw]
    refine Thn_n ?_
    refine hK _ _ ?_
    clear hK K
    refine AW.block ?_
    refine AW.nilCell 73 3 (m.length + 6) 4 (by simp only [push_cast, simprocAttr, hM, c00, npw]; first | done | rfl) (by intro e; cases e) rfl ?_
    try simp only [push_cast, simprocAttr, hM, c00, npw]
    refine AW.loopK [2, 4, 5, 6] (fun i => i ≤ (npS bs (0, 0))) (fun i => [(8, .one (.int .i64 (i : Int)))]) (fun i => [(m.length + 2, ⟨.fix, 110, 0, 0, [cP (m.length + 1) 1 bs.length (it (v3S bs) (D1 bs) i), .int .i64 (it (v3S bs) (D1 bs) i).2]⟩), (m.length + 6, ⟨.fix, 39, 0, 0, [.int .i64 (rdV bs 2 (0, 0)), .int .i64 (rdV bs 2 (rdS bs.length 2 (0, 0))), .sl (m.length + 5) (npS bs (0, 0)) 0 (npS bs (0, 0)), .sl (m.length + 7) a1 0 a1, .sl (m.length + 8) i 0 i, .nils, .nils, .nils]⟩), (m.length + 8, ⟨.grow, 73, i, 3, dl i (xN bs)⟩)]) (fun i => (npS bs (0, 0)) - i) 0 (by omega) ?_ ?_ fun i hi44 => ?_
    · first | rfl | (simp only [Keeps, Tm.get_cons, Nat.reduceEqDiff, ↓reduceIte, if_true, if_false, ite_true, ite_false, true_and, and_true, and_self, reduceCtorEq, dl, il, it, Int.natCast_zero] <;> rfl)
    · first | rfl | (simp only [setAll, push_cast, simprocAttr, hM, c00, npw, dl, il, it, Int.natCast_zero] <;> rfl)
    try simp only [keepL, setAll, push_cast, simprocAttr, hM, c00, npw]
    refine AW.seq_k fun K hK => ?_
    refine AW.seq_k fun K hK => ?_
    rcases Nat.lt_or_ge i (npS bs (0, 0)) with hc | hc
    · have hle : i ≤ (npS bs (0, 0)) := by omega
      have c0 : (i : Int) < ((npS bs (0, 0)) : Int) := by omega
      have hpx : (it (v3S bs) (D1 bs) i).1 ≤ bs.length := it_le (fun _ h => v3S_le h) hd1 i
      refine AW.region (by decide) ?_
      simp only [push_cast, simprocAttr, hM, c00, npw, c0]
      refine CThen.by (err_c (m.length + 2) (m.length + 1) 1 bs (it (v3S bs) (D1 bs) i) _ (hRt _ _ _ hpx)) ?_
      simp only [push_cast, simprocAttr, hM, c00, npw, c0]
      refine Thn_n ?_
      refine hK _ _ ?_
      clear hK K
      refine AW.cond rfl (fun h46 => ?_) (fun h46 => ?_)
      · have gi := dl_len i (xN bs)
        have q1 : i + 1 ≤ 140737488355328 := by omega
        have q2 : (i + 1) * 24 ≤ 140737488355328 := by omega
        have snx : dl i (xN bs) ++ [.int .i64 (v3V bs (it (v3S bs) (D1 bs) i) 0), .int .i64 (v3V bs (it (v3S bs) (D1 bs) i) 1), .int .i64 (v3V bs (it (v3S bs) (D1 bs) i) 2)] = dl (i + 1) (xN bs) := rfl
        have stx : v3S bs (it (v3S bs) (D1 bs) i) = (it (v3S bs) (D1 bs) (i + 1)) := rfl
        refine AW.skip ?_
        refine Thn_n ?_
        refine hK _ _ ?_
        clear hK K
        refine AW.seq_k fun K hK => ?_
        refine AW.block ?_
        refine AW.drawX fol (by kernel_rfl) ?_
        refine DX.split 1 3 (by decide) ?_ ?_
        focus
          refine DX.run [0, 1, 2, 3, 4, 5, 6, 7] [.val, .rd 0, .val, .wr, .ext, .wr, .val, .wr] (by simp only [permL, reOp, List.idxOf_cons, push_cast, simprocAttr, hM, c00, npw, c0, gi, q1, q2]; first | done | rfl) (by kernel_rfl) ?_
          simp only [push_cast, simprocAttr, hM, c00, npw, c0, gi, q1, q2]
          refine DCallW.by (rdvec_c (m.length + 2) (m.length + 1) 1 bs (it (v3S bs) (D1 bs) i) _ (hRt _ _ _ hpx)) ?_
          simp only [push_cast, simprocAttr, hM, c00, npw, c0, gi, q1, q2]
          refine DExt.by (by first | rfl | (simp only [List.append_assoc, List.cons_append, List.nil_append]; rfl)) ?_
          simp only [push_cast, simprocAttr, hM, c00, npw, c0, gi, q1, q2]
          skip
        rotate_left 1
        focus
          refine DX.run [0, 2, 3, 1, 4, 5, 6, 7] [.val, .val, .wr, .rd 1, .ext, .wr, .val, .wr] (by simp only [permL, reOp, List.idxOf_cons, push_cast, simprocAttr, hM, c00, npw, c0, gi, q1, q2]; first | done | rfl) (by kernel_rfl) ?_
          simp only [push_cast, simprocAttr, hM, c00, npw, c0, gi, q1, q2]
          refine DCallW.by (rdvec_c (m.length + 2) (m.length + 1) 1 bs (it (v3S bs) (D1 bs) i) _ (hRt _ _ _ hpx)) ?_
          simp only [push_cast, simprocAttr, hM, c00, npw, c0, gi, q1, q2]
          refine DExt.by (by first | rfl | (simp only [List.append_assoc, List.cons_append, List.nil_append]; rfl)) ?_
          simp only [push_cast, simprocAttr, hM, c00, npw, c0, gi, q1, q2]
          skip
        rotate_left 1
        all_goals (
        refine InB_n ?_
        refine Thn_n ?_
        refine hK _ _ ?_
        clear hK K
        refine AW.region (by decide) ?_
        simp only [push_cast, simprocAttr, hM, c00, npw, c0, gi, q1, q2]
        refine Thn_n ?_
        have hwi : IntKind.i64.wrap ((i:Int)+1) = (i:Int)+1 := wi (by omega)
        refine ⟨i + 1, by omega, by omega, ?_⟩
        try simp only [keepL, setAll, push_cast, simprocAttr, hM, c00, npw, c0, gi, q1, q2, hwi, snx, stx]
        exact Weak.to (extra := [_]) (by simp only [Keeps, Tm.get_cons, Nat.reduceEqDiff, ↓reduceIte, if_true, if_false, ite_true, ite_false, true_and, and_true, and_self, reduceCtorEq, hwi, snx, stx]) (by first | rfl | (simp only [List.append_assoc, List.cons_append, List.nil_append]; rfl)) (by first | rfl | (simp [AV.below, CV.below, dl_below, il_below]; done) | (simp [AV.below, CV.below, dl_below, il_below]; omega)) (by refine MWf.app (hwf.grow (by simp)) ?_; repeat (first | exact MWf_nil | (refine MWf_cons ?_ ?_; · first | rfl | exact dl_below _ _ _ | exact il_below _ _ _ | exact u8l_below _ _ | exact cP_all (by simp) | exact cP_all (by simp; omega) | (simp [CV.below]; done) | (simp [CV.below]; omega))))
        )
      · have herr : ¬ (it (v3S bs) (D1 bs) i).2 = 0 := by simpa using h46
        have hor : i = (npS bs (0, 0)) ∨ ¬ (it (v3S bs) (D1 bs) i).2 = 0 := .inr herr
        have hxi : (it (v3S bs) (D1 bs) i) = (D2 bs) := it_to ve hle herr
        refine AW.exit ?_
        refine Thn_e ?_
        clear hK K
        refine Thn_e ?_
        refine InB_here ?_
        refine Thn_n ?_
        try simp only [hxi]
        exact hJ6 i ⟨hle, hor⟩ _ (by simp only [Keeps, Tm.get_cons, Nat.reduceEqDiff, ↓reduceIte, if_true, if_false, ite_true, ite_false, true_and, and_true, and_self, reduceCtorEq])
    · have hle : i ≤ (npS bs (0, 0)) := by omega
      have hin : i = (npS bs (0, 0)) := by omega
      have c0 : ¬ (i : Int) < ((npS bs (0, 0)) : Int) := by omega
      have hor : i = (npS bs (0, 0)) ∨ ¬ (it (v3S bs) (D1 bs) i).2 = 0 := .inl hin
      have hxi : (it (v3S bs) (D1 bs) i) = (D2 bs) := by rw [hin]; rfl
      refine AW.region (by decide) ?_
      simp only [push_cast, simprocAttr, hM, c00, npw, c0]
      refine Thn_n ?_
      refine hK _ _ ?_
      clear hK K
      refine AW.cond_f rfl ?_
      refine AW.exit ?_
      refine Thn_e ?_
      clear hK K
      refine Thn_e ?_
      refine InB_here ?_
      refine Thn_n ?_
      try simp only [hxi]
      exact hJ6 i ⟨hle, hor⟩ _ (by simp only [Keeps, Tm.get_cons, Nat.reduceEqDiff, ↓reduceIte, if_true, if_false, ite_true, ite_false, true_and, and_true, and_self, reduceCtorEq])
  refine AW.seq_k fun K hK => ?_
  refine AW.region (by decide) ?_
  simp only [push_cast, simprocAttr, hM, c00, npw]
  refine Thn_n ?_
  refine hK _ _ ?_
  clear hK K
  refine AW.block ?_
  refine AW.nilCell 66 1 (m.length + 6) 3 (by simp only [push_cast, simprocAttr, hM, c00, npw]; first | done | rfl) (by intro e; cases e) rfl ?_
  try simp only [push_cast, simprocAttr, hM, c00, npw]
  refine AW.loopK [2, 4, 5, 6] (fun i => i ≤ (npS bs (0, 0))) (fun i => [(7, .one (.int .i64 (i : Int)))]) (fun i => [(m.length + 2, ⟨.fix, 110, 0, 0, [cP (m.length + 1) 1 bs.length (it (fixS bs) (hsS bs (0, 0) (npS bs (0, 0))) i), .int .i64 (it (fixS bs) (hsS bs (0, 0) (npS bs (0, 0))) i).2]⟩), (m.length + 6, ⟨.fix, 39, 0, 0, [.int .i64 (rdV bs 2 (0, 0)), .int .i64 (rdV bs 2 (rdS bs.length 2 (0, 0))), .sl (m.length + 5) (npS bs (0, 0)) 0 (npS bs (0, 0)), .sl (m.length + 7) i 0 i, .nils, .nils, .nils, .nils]⟩), (m.length + 7, ⟨.grow, 66, i, 1, il i (xD bs)⟩)]) (fun i => (npS bs (0, 0)) - i) 0 (by omega) ?_ ?_ fun i hi49 => ?_
  · first | rfl | (simp only [Keeps, Tm.get_cons, Nat.reduceEqDiff, ↓reduceIte, if_true, if_false, ite_true, ite_false, true_and, and_true, and_self, reduceCtorEq, dl, il, it, Int.natCast_zero] <;> rfl)
  · first | rfl | (simp only [setAll, push_cast, simprocAttr, hM, c00, npw, dl, il, it, Int.natCast_zero] <;> rfl)
  try simp only [keepL, setAll, push_cast, simprocAttr, hM, c00, npw]
  refine AW.seq_k fun K hK => ?_
  refine AW.seq_k fun K hK => ?_
  rcases Nat.lt_or_ge i (npS bs (0, 0)) with hc | hc
  · have hle : i ≤ (npS bs (0, 0)) := by omega
    have c0 : (i : Int) < ((npS bs (0, 0)) : Int) := by omega
    have hpx : (it (fixS bs) (hsS bs (0, 0) (npS bs (0, 0))) i).1 ≤ bs.length := it_le (fun _ h => fixS_le h) hd0 i
    refine AW.region (by decide) ?_
    simp only [push_cast, simprocAttr, hM, c00, npw, c0]
    refine CThen.by (err_c (m.length + 2) (m.length + 1) 1 bs (it (fixS bs) (hsS bs (0, 0) (npS bs (0, 0))) i) _ (hRt _ _ _ hpx)) ?_
    simp only [push_cast, simprocAttr, hM, c00, npw, c0]
    refine Thn_n ?_
    refine hK _ _ ?_
    clear hK K
    refine AW.cond rfl (fun h29 => ?_) (fun h29 => ?_)
    · have gi := il_len i (xD bs)
      have q1 : i + 1 ≤ 140737488355328 := by omega
      have q2 : (i + 1) * 8 ≤ 140737488355328 := by omega
      have snx : il i (xD bs) ++ [.int .i64 (fixV bs (it (fixS bs) (hsS bs (0, 0) (npS bs (0, 0))) i))] = il (i + 1) (xD bs) := rfl
      have stx : fixS bs (it (fixS bs) (hsS bs (0, 0) (npS bs (0, 0))) i) = (it (fixS bs) (hsS bs (0, 0) (npS bs (0, 0))) (i + 1)) := rfl
      refine AW.skip ?_
      refine Thn_n ?_
      refine hK _ _ ?_
      clear hK K
      refine AW.seq_k fun K hK => ?_
      refine AW.block ?_
      refine AW.drawX fol (by kernel_rfl) ?_
      refine DX.split 1 3 (by decide) ?_ ?_
      focus
        refine DX.run [0, 1, 2, 3, 4, 5, 6, 7] [.val, .rd 0, .val, .wr, .ext, .wr, .val, .wr] (by simp only [permL, reOp, List.idxOf_cons, push_cast, simprocAttr, hM, c00, npw, c0, gi, q1, q2]; first | done | rfl) (by kernel_rfl) ?_
        simp only [push_cast, simprocAttr, hM, c00, npw, c0, gi, q1, q2]
        refine DCallW.by (fix_c (m.length + 2) (m.length + 1) 1 bs (it (fixS bs) (hsS bs (0, 0) (npS bs (0, 0))) i) _ (hRt _ _ _ hpx)) ?_
        simp only [push_cast, simprocAttr, hM, c00, npw, c0, gi, q1, q2]
        refine DExt.by (by first | rfl | (simp only [List.append_assoc, List.cons_append, List.nil_append]; rfl)) ?_
        simp only [push_cast, simprocAttr, hM, c00, npw, c0, gi, q1, q2]
        skip
      rotate_left 1
      focus
        refine DX.run [0, 2, 3, 1, 4, 5, 6, 7] [.val, .val, .wr, .rd 1, .ext, .wr, .val, .wr] (by simp only [permL, reOp, List.idxOf_cons, push_cast, simprocAttr, hM, c00, npw, c0, gi, q1, q2]; first | done | rfl) (by kernel_rfl) ?_
        simp only [push_cast, simprocAttr, hM, c00, npw, c0, gi, q1, q2]
        refine DCallW.by (fix_c (m.length + 2) (m.length + 1) 1 bs (it (fixS bs) (hsS bs (0, 0) (npS bs (0, 0))) i) _ (hRt _ _ _ hpx)) ?_
        simp only [push_cast, simprocAttr, hM, c00, npw, c0, gi, q1, q2]
        refine DExt.by (by first | rfl | (simp only [List.append_assoc, List.cons_append, List.nil_append]; rfl)) ?_
        simp only [push_cast, simprocAttr, hM, c00, npw, c0, gi, q1, q2]
        skip
      rotate_left 1
      all_goals (
      refine InB_n ?_
      refine Thn_n ?_
      refine hK _ _ ?_
      clear hK K
      refine AW.region (by decide) ?_
      simp only [push_cast, simprocAttr, hM, c00, npw, c0, gi, q1, q2]
      refine Thn_n ?_
      have hwi : IntKind.i64.wrap ((i:Int)+1) = (i:Int)+1 := wi (by omega)
      refine ⟨i + 1, by omega, by omega, ?_⟩
      try simp only [keepL, setAll, push_cast, simprocAttr, hM, c00, npw, c0, gi, q1, q2, hwi, snx, stx]
      exact Weak.to (extra := [_]) (by simp only [Keeps, Tm.get_cons, Nat.reduceEqDiff, ↓reduceIte, if_true, if_false, ite_true, ite_false, true_and, and_true, and_self, reduceCtorEq, hwi, snx, stx]) (by first | rfl | (simp only [List.append_assoc, List.cons_append, List.nil_append]; rfl)) (by first | rfl | (simp [AV.below, CV.below, dl_below, il_below]; done) | (simp [AV.below, CV.below, dl_below, il_below]; omega)) (by refine MWf.app (hwf.grow (by simp)) ?_; repeat (first | exact MWf_nil | (refine MWf_cons ?_ ?_; · first | rfl | exact dl_below _ _ _ | exact il_below _ _ _ | exact u8l_below _ _ | exact cP_all (by simp) | exact cP_all (by simp; omega) | (simp [CV.below]; done) | (simp [CV.below]; omega))))
      )
    · have herr : ¬ (it (fixS bs) (hsS bs (0, 0) (npS bs (0, 0))) i).2 = 0 := by simpa using h29
      have hor : i = (npS bs (0, 0)) ∨ ¬ (it (fixS bs) (hsS bs (0, 0) (npS bs (0, 0))) i).2 = 0 := .inr herr
      have hxi : (it (fixS bs) (hsS bs (0, 0) (npS bs (0, 0))) i) = (D1 bs) := it_to fe hle herr
      refine AW.exit ?_
      refine Thn_e ?_
      clear hK K
      refine Thn_e ?_
      refine InB_here ?_
      refine Thn_n ?_
      try simp only [hxi]
      exact hJ5 i ⟨hle, hor⟩ _ (by simp only [Keeps, Tm.get_cons, Nat.reduceEqDiff, ↓reduceIte, if_true, if_false, ite_true, ite_false, true_and, and_true, and_self, reduceCtorEq])
  · have hle : i ≤ (npS bs (0, 0)) := by omega
    have hin : i = (npS bs (0, 0)) := by omega
    have c0 : ¬ (i : Int) < ((npS bs (0, 0)) : Int) := by omega
    have hor : i = (npS bs (0, 0)) ∨ ¬ (it (fixS bs) (hsS bs (0, 0) (npS bs (0, 0))) i).2 = 0 := .inl hin
    have hxi : (it (fixS bs) (hsS bs (0, 0) (npS bs (0, 0))) i) = (D1 bs) := by rw [hin]; rfl
    refine AW.region (by decide) ?_
    simp only [push_cast, simprocAttr, hM, c00, npw, c0]
    refine Thn_n ?_
    refine hK _ _ ?_
    clear hK K
    refine AW.cond_f rfl ?_
    refine AW.exit ?_
    refine Thn_e ?_
    clear hK K
    refine Thn_e ?_
    refine InB_here ?_
    refine Thn_n ?_
    try simp only [hxi]
    exact hJ5 i ⟨hle, hor⟩ _ (by simp only [Keeps, Tm.get_cons, Nat.reduceEqDiff, ↓reduceIte, if_true, if_false, ite_true, ite_false, true_and, and_true, and_self, reduceCtorEq])
end Go.Proofs.Ytgbehbaecdepjaa
