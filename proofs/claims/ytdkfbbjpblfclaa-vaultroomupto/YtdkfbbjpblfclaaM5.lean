/- Walks and facts of this seat's program over abstract states, printed by programs of mine; no conditions but those that each theorem names. -/
import Derived.Test.YtdkfbbjpblfclaaM4
set_option linter.unusedSimpArgs false
set_option linter.unusedVariables false
set_option maxRecDepth 100000
set_option maxHeartbeats 4000000
namespace Go.Proofs.Ytdkfbbjpblfclaa
open Go Go.Eng

theorem insS_ok {f : Nat → SL} (h : ∀ i, OkS (f i)) (a k : Nat) : ∀ i, OkS (insS SL.fr a k f i) := perm_ok h (insS_perm SL.fr a f k)
theorem sink_go {f : Nat → SL} {a y : Nat} (h1 : a < y + 1) (h2 : (f (y + 1)).fr < (f y).fr) : sink SL.fr a y (swF f (y + 1) y) = sink SL.fr a (y + 1) f := by
  show _ = (if a < y + 1 ∧ (f (y + 1)).fr < (f y).fr then _ else _)
  rw [if_pos ⟨h1, h2⟩]
theorem sink_end {f : Nat → SL} {a y : Nat} (h2 : ¬ (f (y + 1)).fr < (f y).fr) : sink SL.fr a (y + 1) f = f := by
  show (if a < y + 1 ∧ (f (y + 1)).fr < (f y).fr then _ else _) = _
  rw [if_neg fun h => h2 h.2]
theorem sink_stop {f : Nat → SL} {a : Nat} : ∀ {j : Nat}, j ≤ a → sink SL.fr a j f = f
  | 0, _ => rfl
  | j + 1, h => by
    show (if a < j + 1 ∧ (f (j + 1)).fr < (f j).fr then _ else _) = _
    rw [if_neg fun h2 => by omega]
theorem ins_c (rs v n : Nat) (f : Nat → SL) (m : AMem) (hr : m[rs]? = some (rS v n f)) (hf : ∀ i, OkS (f i)) (hn : n ≤ 1048576) (A B : Nat) (hB : B ≤ n) (hA : A ≤ n) : Ctr Try.prog 88 [.one (.sl rs v 0 n), .one (.int .i64 (A : Int)), .one (.int .i64 (B : Int)), .one (.fn 63 [])] m (.tup []) (m.set rs (rS v n (insS SL.fr A (B - A - 1) f))) := by
  refine Ctr.enter Try.func88 rfl (by decide) (rs := []) (nt := 53) rfl rfl fun hwf Q hQ => ?_
  have lr := get_lt hr
  have gS := fun (l : AMem) (b : Blk) (e : l.length = m.length) => mk_self (m := m) (l := l) (r := rs) e lr b
  have sS := fun (l L : AMem) (e : l.length = m.length) => mk_olds (m := m) (l := l) (r := rs) e lr L
  have kS := fun (l L : AMem) (e : l.length = m.length) => mk_old (m := m) (l := l) (r := rs) e lr L
  have hr2 : m.set rs (rS v n f) = m := set_self hr
  have hwfM := fun g => rS_wf (m := m) (rs := rs) (v := v) (n := n) hwf g
  obtain ⟨a1, ha1⟩ : ∃ z : Nat, z = A + 1 := ⟨_, rfl⟩
  have wa1 : IntKind.i64.wrap ((A : Int) + 1) = (a1 : Int) := by rw [wi (by omega)]; omega
  have hst0 : m.set rs (rS v n (insS SL.fr A (a1 - A - 1) f)) = m := by rw [show a1 - A - 1 = 0 by omega]; exact hr2
  refine AW.seq_k fun K hK => ?_
  refine AW.region (by decide) ?_
  simp only [push_cast, simprocAttr, gS, sS, kS, rS, List.set_set, List.length_set, slC_vals, wa1]
  refine Thn_n ?_
  refine hK _ _ ?_
  clear hK K
  refine AW.block ?_
  refine AW.loopK [0, 1, 2, 3] (fun i => A + 1 ≤ i ∧ (i ≤ B ∨ i = A + 1)) (fun i => [(8, .one (.int .i64 (i : Int)))]) (fun i => [(rs, rS v n (insS SL.fr A (i - A - 1) f))]) (fun i => B - i) a1 (by omega) ?_ ?_ fun i hi2 => ?_
  · first | rfl | (simp only [Keeps, Tm.get_cons, Nat.reduceEqDiff, ↓reduceIte, if_true, if_false, ite_true, ite_false, true_and, and_true, and_self, reduceCtorEq, wa1] <;> repeat' (first | rfl | apply And.intro))
  · exact hst0
  try simp only [keepL, setAll, push_cast, simprocAttr, gS, sS, kS, rS, List.set_set, List.length_set, slC_vals, wa1]
  refine AW.seq_k fun K hK => ?_
  refine AW.seq_k fun K hK => ?_
  refine AW.region (by decide) ?_
  simp only [push_cast, simprocAttr, gS, sS, kS, rS, List.set_set, List.length_set, slC_vals, wa1]
  refine Thn_n ?_
  refine hK _ _ ?_
  clear hK K
  refine AW.cond rfl (fun h14 => ?_) (fun h14 => ?_)
  · have hlt : i < B := by have := of_decide_eq_true h14; omega
    refine AW.skip ?_
    refine Thn_n ?_
    refine hK _ _ ?_
    clear hK K
    refine AW.seq_k fun K hK => ?_
    refine AW.block ?_
    refine AW.seq_k fun K hK => ?_
    refine AW.region (by decide) ?_
    simp only [push_cast, simprocAttr, gS, sS, kS, rS, List.set_set, List.length_set, slC_vals, wa1]
    refine Thn_n ?_
    refine hK _ _ ?_
    clear hK K
    refine AW.block ?_
    refine AW.loopK [0, 1, 2, 3, 8] (fun q => A ≤ q.1 ∧ q.1 ≤ i ∧ sink SL.fr A q.1 q.2 = insS SL.fr A (i - A) f ∧ ∀ x, OkS (q.2 x)) (fun q => [(9, .one (.int .i64 (q.1 : Int)))]) (fun q => [(rs, rS v n q.2)]) (fun q => q.1) (i, insS SL.fr A (i - A - 1) f) ⟨by show A ≤ i; omega, Nat.le_refl _, by show sink SL.fr A i _ = _; rw [show i - A = (i - A - 1) + 1 by omega, insS, show A + (i - A - 1) + 1 = i by omega]; rfl, insS_ok hf _ _⟩ ?_ ?_ fun q hi7 => ?_
    · first | rfl | (simp only [Keeps, Tm.get_cons, Nat.reduceEqDiff, ↓reduceIte, if_true, if_false, ite_true, ite_false, true_and, and_true, and_self, reduceCtorEq] <;> repeat' (first | rfl | apply And.intro))
    · first | rfl | (simp only [setAll, push_cast, simprocAttr, gS, sS, kS, rS, List.set_set, List.length_set, slC_vals, wa1] <;> rfl)
    obtain ⟨j, g⟩ := q
    obtain ⟨i1, i2, i3, i4⟩ := hi7
    simp only at i1 i2 i3 i4
    try simp only [keepL, setAll, push_cast, simprocAttr, gS, sS, kS, rS, List.set_set, List.length_set, slC_vals, wa1]
    refine AW.seq_k fun K hK => ?_
    refine AW.seq_k fun K hK => ?_
    rcases Nat.lt_or_ge A j with hj | hj
    · have cj : (A : Int) < (j : Int) := by omega
      obtain ⟨y, hy⟩ : ∃ z : Nat, z = j - 1 := ⟨_, rfl⟩
      have wy : IntKind.i64.wrap ((j : Int) - 1) = (y : Int) := by rw [wi (by omega)]; omega
      have lxx := cC_at (n := n) (k := j) (f := g) i4 (by omega)
      have llx := slC_len (i4 j).w
      have c0x : (0 : Int) ≤ (j : Int) := by omega
      have c1x : (j : Int) < (n : Int) := by omega
      have c2x : j * 67 + 67 ≤ n * 67 := by omega
      have lxy := cC_at (n := n) (k := y) (f := g) i4 (by omega)
      have lly := slC_len (i4 y).w
      have c0y : (0 : Int) ≤ (y : Int) := by omega
      have c1y : (y : Int) < (n : Int) := by omega
      have c2y : y * 67 + 67 ≤ n * 67 := by omega
      have gl : (cC n (g)).length = n * 67 := cC_len i4 n
      have st1 := cC_set (n := n) (k := j) (f := g) i4 (by omega) (i4 y)
      have gl1 : (cC n (upF (g) j ((g) y))).length = n * 67 := cC_len (upF_ok i4 (i4 y) j) n
      have st2 := cC_set (n := n) (k := y) (f := upF (g) j ((g) y)) (upF_ok i4 (i4 y) j) (by omega) (i4 j)
      
      refine AW.draw [.val, .val, .val, .val, .val, .val, .val, .val, .rd 0, .val, .val, .val, .val, .rd 0, .ext, .val, .val] fol (by decide) (by kernel_rfl) ?_
      simp only [push_cast, simprocAttr, gS, sS, kS, rS, List.set_set, List.length_set, slC_vals, wa1, cj, wy, lxx, llx, c0x, c1x, c2x, lxy, lly, c0y, c1y, c2y, gl, st1, gl1, st2]
      refine DCall.by0 (cmp_c (g j) (g y) _ (i4 j) (i4 y)) ?_
      simp only [push_cast, simprocAttr, gS, sS, kS, rS, List.set_set, List.length_set, slC_vals, wa1, cj, wy, lxx, llx, c0x, c1x, c2x, lxy, lly, c0y, c1y, c2y, gl, st1, gl1, st2]
      refine Thn_n ?_
      refine hK _ _ ?_
      clear hK K
      refine AW.cond rfl (fun h34 => ?_) (fun h34 => ?_)
      · have hk : (g j).fr < (g y).fr := by have := of_decide_eq_true h34; omega
        have hjy : j = y + 1 := by omega
        have hsw : upF (upF g j (g y)) y (g j) = swF g j y := two_up' g j y
        obtain ⟨nx, hnx, hnI, hnmu⟩ : ∃ nx : Nat × (Nat → SL), nx = (y, swF g j y) ∧ (A ≤ nx.1 ∧ nx.1 ≤ i ∧ sink SL.fr A nx.1 nx.2 = insS SL.fr A (i - A) f ∧ ∀ x, OkS (nx.2 x)) ∧ nx.1 < j := ⟨_, rfl, ⟨by show A ≤ y; omega, by show y ≤ i; omega, by show sink SL.fr A y (swF g j y) = _; rw [hjy] at i3 hk ⊢; rw [sink_go (by omega) hk]; exact i3, swF_ok i4 _ _⟩, by show y < j; omega⟩
        refine AW.skip ?_
        refine Thn_n ?_
        refine hK _ _ ?_
        clear hK K
        refine AW.seq_k fun K hK => ?_
        refine AW.block ?_
        refine AW.draw [.val, .val, .val, .val, .val, .val, .val, .val, .val, .rd 0, .val, .val, .val, .rd 0, .val, .wr, .val, .wr] fol (by decide) (by kernel_rfl) ?_
        simp only [push_cast, simprocAttr, gS, sS, kS, rS, List.set_set, List.length_set, slC_vals, wa1, cj, wy, lxx, llx, c0x, c1x, c2x, lxy, lly, c0y, c1y, c2y, gl, st1, gl1, st2, hsw]
        refine InB_n ?_
        refine Thn_n ?_
        refine hK _ _ ?_
        clear hK K
        refine AW.region (by decide) ?_
        simp only [push_cast, simprocAttr, gS, sS, kS, rS, List.set_set, List.length_set, slC_vals, wa1, cj, wy, lxx, llx, c0x, c1x, c2x, lxy, lly, c0y, c1y, c2y, gl, st1, gl1, st2, hsw]
        refine Thn_n ?_
        refine ⟨nx, hnI, hnmu, ?_⟩
        try simp only [keepL, setAll, push_cast, simprocAttr, gS, sS, kS, rS, List.set_set, List.length_set, slC_vals, wa1, cj, wy, lxx, llx, c0x, c1x, c2x, lxy, lly, c0y, c1y, c2y, gl, st1, gl1, st2, hsw, hnx]
        exact Weak.same (by simp only [Keeps, Tm.get_cons, Nat.reduceEqDiff, ↓reduceIte, if_true, if_false, ite_true, ite_false, true_and, and_true, and_self, reduceCtorEq, hnx]) (by first | rfl | simp only [Keeps, Tm.get_cons, Nat.reduceEqDiff, ↓reduceIte, if_true, if_false, ite_true, ite_false, true_and, and_true, and_self, reduceCtorEq, hnx])
      · have hk : ¬ (g j).fr < (g y).fr := by have := of_decide_eq_false h34; omega
        have hjy : j = y + 1 := by omega
        have hE : sink SL.fr A j g = g := by rw [hjy] at hk ⊢; exact sink_end hk
        refine AW.exit ?_
        refine Thn_e ?_
        clear hK K
        refine Thn_e ?_
        refine InB_here ?_
        refine InB_n ?_
        refine Thn_n ?_
        refine hK _ _ ?_
        clear hK K
        refine AW.region (by decide) ?_
        simp only [push_cast, simprocAttr, gS, sS, kS, rS, List.set_set, List.length_set, slC_vals, wa1, cj, wy, lxx, llx, c0x, c1x, c2x, lxy, lly, c0y, c1y, c2y, gl, st1, gl1, st2]
        refine Thn_n ?_
        obtain ⟨i1, hi1⟩ : ∃ z : Nat, z = i + 1 := ⟨_, rfl⟩
        have wi1 : IntKind.i64.wrap ((i : Int) + 1) = (i1 : Int) := by rw [wi (by omega)]; omega
        have hnx : insS SL.fr A (i1 - A - 1) f = g := by rw [show i1 - A - 1 = i - A by omega, ← i3, hE]
        refine ⟨i1, by omega, by omega, ?_⟩
        try simp only [keepL, setAll, push_cast, simprocAttr, gS, sS, kS, rS, List.set_set, List.length_set, slC_vals, wa1, cj, wy, lxx, llx, c0x, c1x, c2x, lxy, lly, c0y, c1y, c2y, gl, st1, gl1, st2, wi1, hnx]
        exact Weak.same (by simp only [Keeps, Tm.get_cons, Nat.reduceEqDiff, ↓reduceIte, if_true, if_false, ite_true, ite_false, true_and, and_true, and_self, reduceCtorEq, wi1, hnx]) (by first | rfl | simp only [Keeps, Tm.get_cons, Nat.reduceEqDiff, ↓reduceIte, if_true, if_false, ite_true, ite_false, true_and, and_true, and_self, reduceCtorEq, wi1, hnx])
    · have cj : ¬ (A : Int) < (j : Int) := by omega
      have hE : sink SL.fr A j g = g := sink_stop (by omega)
      refine AW.draw [.val, .val, .val, .val, .val, .val, .val, .val, .rd 0, .val, .val, .val, .val, .rd 0, .ext, .val, .val] fol (by decide) (by kernel_rfl) ?_
      simp only [push_cast, simprocAttr, gS, sS, kS, rS, List.set_set, List.length_set, slC_vals, wa1, cj]
      refine Thn_n ?_
      refine hK _ _ ?_
      clear hK K
      refine AW.cond_f rfl ?_
      refine AW.exit ?_
      refine Thn_e ?_
      clear hK K
      refine Thn_e ?_
      refine InB_here ?_
      refine InB_n ?_
      refine Thn_n ?_
      refine hK _ _ ?_
      clear hK K
      refine AW.region (by decide) ?_
      simp only [push_cast, simprocAttr, gS, sS, kS, rS, List.set_set, List.length_set, slC_vals, wa1, cj]
      refine Thn_n ?_
      obtain ⟨i1, hi1⟩ : ∃ z : Nat, z = i + 1 := ⟨_, rfl⟩
      have wi1 : IntKind.i64.wrap ((i : Int) + 1) = (i1 : Int) := by rw [wi (by omega)]; omega
      have hnx : insS SL.fr A (i1 - A - 1) f = g := by rw [show i1 - A - 1 = i - A by omega, ← i3, hE]
      refine ⟨i1, by omega, by omega, ?_⟩
      try simp only [keepL, setAll, push_cast, simprocAttr, gS, sS, kS, rS, List.set_set, List.length_set, slC_vals, wa1, cj, wi1, hnx]
      exact Weak.same (by simp only [Keeps, Tm.get_cons, Nat.reduceEqDiff, ↓reduceIte, if_true, if_false, ite_true, ite_false, true_and, and_true, and_self, reduceCtorEq, wi1, hnx]) (by first | rfl | simp only [Keeps, Tm.get_cons, Nat.reduceEqDiff, ↓reduceIte, if_true, if_false, ite_true, ite_false, true_and, and_true, and_self, reduceCtorEq, wi1, hnx])
  · have hge : B ≤ i := by have := of_decide_eq_false h14; omega
    have hfin : insS SL.fr A (i - A - 1) f = insS SL.fr A (B - A - 1) f := by rw [show i - A - 1 = B - A - 1 by omega]
    refine AW.exit ?_
    refine Thn_e ?_
    clear hK K
    refine Thn_e ?_
    refine InB_here ?_
    refine hQ _ _ _ ?_
    rw [hfin]
    first | refine RetP.dropM0 (by rw [List.length_set]) (by first | exact Or.inr rfl | exact Or.inl rfl) ?_ ?_ (hwfM _) | refine RetP.dropM (by rw [List.length_set]) (by first | exact Or.inr rfl | exact Or.inl rfl) ?_ ?_ (hwfM _)
    · rfl
    · rfl
    
end Go.Proofs.Ytdkfbbjpblfclaa

/-
  ENGINE, PART Zc: some code whose ways come together in one state (regions with guards that hang on what isn't known).
-/
set_option linter.unusedVariables false
set_option linter.unusedSimpArgs false
namespace Go.Eng
open Go
section
variable {P : Program} {nt : Nat} {tm : Tm} {mem : AMem} {Q : Exit → Tm → AMem → Prop}
theorem AW.viaJ {c : Code} (keep : List Nat) (V : Tm) (U : List (Nat × Blk))
    (hz : AW P nt c tm mem (Thn (fun tm' m' => Weak nt tm' m' (V ++ keepL tm keep) (setAll mem U)) Q))
    (h : Q .normal (V ++ keepL tm keep) (setAll mem U)) : AW P nt c tm mem Q := by
  intro ρ a w hr
  refine wp_mono (hz ρ a w hr) ?_
  rintro e a' w' ⟨ρ', tm', mem', hr', hs, hd, hq⟩
  cases e with
  | normal =>
    obtain ⟨ρ2, hr2, hs2⟩ := hq ρ' a' w' hr'
    exact ⟨ρ2, _, _, hr2, hs2 _ _ _ (by rw [setAll_len]; exact Nat.le_refl _) hs, hd, h⟩
  | _ => exact ⟨ρ', tm', mem', hr', hs, hd, hq⟩
end
end Go.Eng

set_option linter.unusedSimpArgs false
set_option linter.unusedVariables false
set_option maxRecDepth 100000
set_option maxHeartbeats 4000000
namespace Go.Proofs.Ytdkfbbjpblfclaa
open Go Go.Eng

theorem sym_l (rs v n : Nat) (f : Nat → SL) (m : AMem) (hr : m[rs]? = some (rS v n f)) (hf : ∀ i, OkS (f i)) (hn : n ≤ 1048576) (A M B R : Nat) (hM : M = A + 1) (h1 : M ≤ R) (h2 : R ≤ B) (hB : B ≤ n) (h3 : ∀ x, M ≤ x → x < R → (f x).fr < (f A).fr) (h4 : ∀ x, R ≤ x → x < B → ¬ (f x).fr < (f A).fr) : Ctr Try.prog 89 [.one (.sl rs v 0 n), .one (.int .i64 (A : Int)), .one (.int .i64 (M : Int)), .one (.int .i64 (B : Int)), .one (.fn 63 [])] m (.tup []) (m.set rs (rS v n (rotL f A (R - 1)))) := by
  refine Ctr.enter Try.func89 rfl (by decide) (rs := []) (nt := 220) rfl rfl fun hwf Q hQ => ?_
  have lr := get_lt hr
  have gS := fun (l : AMem) (b : Blk) (e : l.length = m.length) => mk_self (m := m) (l := l) (r := rs) e lr b
  have sS := fun (l L : AMem) (e : l.length = m.length) => mk_olds (m := m) (l := l) (r := rs) e lr L
  have kS := fun (l L : AMem) (e : l.length = m.length) => mk_old (m := m) (l := l) (r := rs) e lr L
  have hr2 : m.set rs (rS v n f) = m := set_self hr
  have hwfM := fun g => rS_wf (m := m) (rs := rs) (v := v) (n := n) hwf g
  have p1 : (2 : Int) ^ min 1 IntKind.u64.bits = 2 := by decide
  have gl0 : (cC n f).length = n * 67 := cC_len hf n
  have w1 : IntKind.i64.wrap ((M : Int) - (A : Int)) = 1 := by rw [wi (by omega)]; omega
  obtain ⟨r1, hr1⟩ : ∃ z : Nat, z = R - 1 := ⟨_, rfl⟩
  have wr1 : IntKind.i64.wrap ((R : Int) - 1) = (r1 : Int) := by rw [wi (by omega)]; omega
  have hst0 : m.set rs (rS v n (rotL f A A)) = m := by rw [rotL_zero]; exact hr2
  refine AW.seq_k fun K hK => ?_
  refine AW.seq_k fun K hK => ?_
  refine AW.region (by decide) ?_
  simp only [push_cast, simprocAttr, gS, sS, kS, rS, List.set_set, List.length_set, slC_vals, hr, gl0, w1, p1]
  refine Thn_n ?_
  refine hK _ _ ?_
  clear hK K
  refine AW.cond_t rfl ?_
  iterate 2
    refine AW.seq_k fun K hK => ?_
    refine AW.region (by decide) ?_
    simp only [push_cast, simprocAttr, gS, sS, kS, rS, List.set_set, List.length_set, slC_vals, hr, gl0, w1, p1]
    refine Thn_n ?_
    refine hK _ _ ?_
    clear hK K
  refine AW.seq_k fun K hK => ?_
  refine AW.block ?_
  refine AW.loopK [0, 1, 4] (fun q => M ≤ q.1 ∧ q.1 ≤ R ∧ R ≤ q.2 ∧ q.2 ≤ B) (fun q => [(10, .one (.int .i64 (q.1 : Int))), (11, .one (.int .i64 (q.2 : Int)))]) (fun q => []) (fun q => q.2 - q.1) (M, B) ⟨Nat.le_refl _, h1, h2, Nat.le_refl _⟩ ?_ ?_ fun q hi6 => ?_
  · first | rfl | (simp only [Keeps, Tm.get_cons, Nat.reduceEqDiff, ↓reduceIte, if_true, if_false, ite_true, ite_false, true_and, and_true, and_self, reduceCtorEq] <;> repeat' (first | rfl | apply And.intro))
  · first | rfl | (simp only [setAll, push_cast, simprocAttr, gS, sS, kS, rS, List.set_set, List.length_set, slC_vals, hr, gl0, w1, p1] <;> rfl)
  obtain ⟨i, j⟩ := q
  obtain ⟨i1, i2, i3, i4⟩ := hi6
  simp only at i1 i2 i3 i4
  try simp only [keepL, setAll, push_cast, simprocAttr, gS, sS, kS, rS, List.set_set, List.length_set, slC_vals, hr, gl0, w1, p1]
  refine AW.seq_k fun K hK => ?_
  refine AW.seq_k fun K hK => ?_
  refine AW.region (by decide) ?_
  simp only [push_cast, simprocAttr, gS, sS, kS, rS, List.set_set, List.length_set, slC_vals, hr, gl0, w1, p1]
  refine Thn_n ?_
  refine hK _ _ ?_
  clear hK K
  refine AW.cond rfl (fun h33 => ?_) (fun h33 => ?_)
  · have hlt : i < j := by have := of_decide_eq_true h33; omega
    obtain ⟨z, hz⟩ : ∃ z : Nat, z = i + j := ⟨_, rfl⟩
    have wz : IntKind.i64.wrap ((i : Int) + (j : Int)) = (z : Int) := by rw [wi (by omega)]; omega
    obtain ⟨h, hh⟩ : ∃ q : Nat, q = z / 2 := ⟨_, rfl⟩
    have uz : IntKind.u64.wrap (z : Int) = (z : Int) := by rw [IntKind.wrap_u64]; omega
    have fdz : (z : Int).fdiv 2 = (h : Int) := by rw [Int.fdiv_eq_ediv_of_nonneg _ (by decide)]; omega
    have vh : IntKind.i64.wrap (h : Int) = (h : Int) := wi (by omega)
    have lxh := cC_at (n := n) (k := h) (f := f) hf (by omega)
    have llh := slC_len (hf h).w
    have c0h : (0 : Int) ≤ (h : Int) := by omega
    have c1h : (h : Int) < (n : Int) := by omega
    have c2h : h * 67 + 67 ≤ n * 67 := by omega
    have lxa := cC_at (n := n) (k := A) (f := f) hf (by omega)
    have lla := slC_len (hf A).w
    have c0a : (0 : Int) ≤ (A : Int) := by omega
    have c1a : (A : Int) < (n : Int) := by omega
    have c2a : A * 67 + 67 ≤ n * 67 := by omega
    
    refine AW.skip ?_
    refine Thn_n ?_
    refine hK _ _ ?_
    clear hK K
    refine AW.block ?_
    refine AW.seq_k fun K hK => ?_
    refine AW.region (by decide) ?_
    simp only [push_cast, simprocAttr, gS, sS, kS, rS, List.set_set, List.length_set, slC_vals, hr, gl0, w1, p1, wz, uz, fdz, vh, lxh, llh, c0h, c1h, c2h, lxa, lla, c0a, c1a, c2a]
    refine Thn_n ?_
    refine hK _ _ ?_
    clear hK K
    refine AW.seq_k fun K hK => ?_
    refine AW.draw [.val, .val, .val, .val, .rd 0, .val, .val, .val, .rd 0, .ext, .val] fol (by decide) (by kernel_rfl) ?_
    simp only [push_cast, simprocAttr, gS, sS, kS, rS, List.set_set, List.length_set, slC_vals, hr, gl0, w1, p1, wz, uz, fdz, vh, lxh, llh, c0h, c1h, c2h, lxa, lla, c0a, c1a, c2a]
    refine DCall.by0 (cmp_c (f h) (f A) _ (hf h) (hf A)) ?_
    simp only [push_cast, simprocAttr, gS, sS, kS, rS, List.set_set, List.length_set, slC_vals, hr, gl0, w1, p1, wz, uz, fdz, vh, lxh, llh, c0h, c1h, c2h, lxa, lla, c0a, c1a, c2a]
    refine Thn_n ?_
    refine hK _ _ ?_
    clear hK K
    refine AW.cond rfl (fun h50 => ?_) (fun h50 => ?_)
    · have hk : (f h).fr < (f A).fr := by have := of_decide_eq_true h50; omega
      have hhR : h < R := Classical.byContradiction fun hc => h4 h (by omega) (by omega) hk
      obtain ⟨h1x, hh1x⟩ : ∃ z : Nat, z = h + 1 := ⟨_, rfl⟩
      have wh1x : IntKind.i64.wrap ((h : Int) + 1) = (h1x : Int) := by rw [wi (by omega)]; omega
      obtain ⟨nx, hnx, hnI, hnmu⟩ : ∃ nx : Nat × Nat, nx = (h1x, j) ∧ (M ≤ nx.1 ∧ nx.1 ≤ R ∧ R ≤ nx.2 ∧ nx.2 ≤ B) ∧ nx.2 - nx.1 < j - i := ⟨_, rfl, ⟨by show M ≤ h1x; omega, by show h1x ≤ R; omega, i3, i4⟩, by show j - h1x < j - i; omega⟩
      refine AW.region (by decide) ?_
      simp only [push_cast, simprocAttr, gS, sS, kS, rS, List.set_set, List.length_set, slC_vals, hr, gl0, w1, p1, wz, uz, fdz, vh, lxh, llh, c0h, c1h, c2h, lxa, lla, c0a, c1a, c2a, wh1x]
      refine InB_n ?_
      refine Thn_n ?_
      refine ⟨nx, hnI, hnmu, ?_⟩
      try simp only [keepL, setAll, push_cast, simprocAttr, gS, sS, kS, rS, List.set_set, List.length_set, slC_vals, hr, gl0, w1, p1, wz, uz, fdz, vh, lxh, llh, c0h, c1h, c2h, lxa, lla, c0a, c1a, c2a, wh1x, hnx]
      exact Weak.same (by simp only [Keeps, Tm.get_cons, Nat.reduceEqDiff, ↓reduceIte, if_true, if_false, ite_true, ite_false, true_and, and_true, and_self, reduceCtorEq, hnx]) (by first | rfl | simp only [Keeps, Tm.get_cons, Nat.reduceEqDiff, ↓reduceIte, if_true, if_false, ite_true, ite_false, true_and, and_true, and_self, reduceCtorEq, hnx])
    · have hk : ¬ (f h).fr < (f A).fr := by have := of_decide_eq_false h50; omega
      have hhR : R ≤ h := Classical.byContradiction fun hc => hk (h3 h (by omega) (by omega))
      obtain ⟨nx, hnx, hnI, hnmu⟩ : ∃ nx : Nat × Nat, nx = (i, h) ∧ (M ≤ nx.1 ∧ nx.1 ≤ R ∧ R ≤ nx.2 ∧ nx.2 ≤ B) ∧ nx.2 - nx.1 < j - i := ⟨_, rfl, ⟨i1, i2, hhR, by show h ≤ B; omega⟩, by show h - i < j - i; omega⟩
      refine AW.region (by decide) ?_
      simp only [push_cast, simprocAttr, gS, sS, kS, rS, List.set_set, List.length_set, slC_vals, hr, gl0, w1, p1, wz, uz, fdz, vh, lxh, llh, c0h, c1h, c2h, lxa, lla, c0a, c1a, c2a]
      refine InB_n ?_
      refine Thn_n ?_
      refine ⟨nx, hnI, hnmu, ?_⟩
      try simp only [keepL, setAll, push_cast, simprocAttr, gS, sS, kS, rS, List.set_set, List.length_set, slC_vals, hr, gl0, w1, p1, wz, uz, fdz, vh, lxh, llh, c0h, c1h, c2h, lxa, lla, c0a, c1a, c2a, hnx]
      exact Weak.same (by simp only [Keeps, Tm.get_cons, Nat.reduceEqDiff, ↓reduceIte, if_true, if_false, ite_true, ite_false, true_and, and_true, and_self, reduceCtorEq, hnx]) (by first | rfl | simp only [Keeps, Tm.get_cons, Nat.reduceEqDiff, ↓reduceIte, if_true, if_false, ite_true, ite_false, true_and, and_true, and_self, reduceCtorEq, hnx])
  · have hij : i = R := by have := of_decide_eq_false h33; omega
    subst hij
    refine AW.exit ?_
    refine Thn_e ?_
    clear hK K
    refine Thn_e ?_
    refine InB_here ?_
    refine Thn_n ?_
    refine hK _ _ ?_
    clear hK K
    refine AW.seq_k fun K hK => ?_
    refine AW.seq_k fun K hK => ?_
    refine AW.region (by decide) ?_
    simp only [push_cast, simprocAttr, gS, sS, kS, rS, List.set_set, List.length_set, slC_vals, hr, gl0, w1, p1, wr1]
    refine Thn_n ?_
    refine hK _ _ ?_
    clear hK K
    refine AW.block ?_
    refine AW.loopK [0, 10] (fun k => A ≤ k ∧ k ≤ r1) (fun k => [(13, .one (.int .i64 (k : Int)))]) (fun k => [(rs, rS v n (rotL f A k))]) (fun k => r1 - k) A (by omega) ?_ ?_ fun k hi13 => ?_
    · first | rfl | (simp only [Keeps, Tm.get_cons, Nat.reduceEqDiff, ↓reduceIte, if_true, if_false, ite_true, ite_false, true_and, and_true, and_self, reduceCtorEq] <;> repeat' (first | rfl | apply And.intro))
    · exact hst0
    try simp only [keepL, setAll, push_cast, simprocAttr, gS, sS, kS, rS, List.set_set, List.length_set, slC_vals, hr, gl0, w1, p1, wr1]
    refine AW.seq_k fun K hK => ?_
    refine AW.seq_k fun K hK => ?_
    refine AW.region (by decide) ?_
    simp only [push_cast, simprocAttr, gS, sS, kS, rS, List.set_set, List.length_set, slC_vals, hr, gl0, w1, p1, wr1]
    refine Thn_n ?_
    refine hK _ _ ?_
    clear hK K
    refine AW.cond rfl (fun h58 => ?_) (fun h58 => ?_)
    · have hlt : k < r1 := by have := of_decide_eq_true h58; omega
      have ok := fun i => rotL_ok hf A k i
      obtain ⟨x, hx⟩ : ∃ z : Nat, z = k + 1 := ⟨_, rfl⟩
      have wx : IntKind.i64.wrap ((k : Int) + 1) = (x : Int) := by rw [wi (by omega)]; omega
      have lxxs := cC_at (n := n) (k := k) (f := rotL f A k) ok (by omega)
      have llxs := slC_len (ok k).w
      have c0xs : (0 : Int) ≤ (k : Int) := by omega
      have c1xs : (k : Int) < (n : Int) := by omega
      have c2xs : k * 67 + 67 ≤ n * 67 := by omega
      have lxys := cC_at (n := n) (k := x) (f := rotL f A k) ok (by omega)
      have llys := slC_len (ok x).w
      have c0ys : (0 : Int) ≤ (x : Int) := by omega
      have c1ys : (x : Int) < (n : Int) := by omega
      have c2ys : x * 67 + 67 ≤ n * 67 := by omega
      have gls : (cC n (rotL f A k)).length = n * 67 := cC_len ok n
      have st1s := cC_set (n := n) (k := k) (f := rotL f A k) ok (by omega) (ok x)
      have gl1s : (cC n (upF (rotL f A k) k ((rotL f A k) x))).length = n * 67 := cC_len (upF_ok ok (ok x) k) n
      have st2s := cC_set (n := n) (k := x) (f := upF (rotL f A k) k ((rotL f A k) x)) (upF_ok ok (ok x) k) (by omega) (ok k)
      have hnx : upF (upF (rotL f A k) k ((rotL f A k) x)) x ((rotL f A k) k) = rotL f A x := by rw [two_up' _ k x, hx]; exact rotL_step f (by omega)
      refine AW.skip ?_
      refine Thn_n ?_
      refine hK _ _ ?_
      clear hK K
      refine AW.seq_k fun K hK => ?_
      refine AW.block ?_
      refine AW.draw [.val, .val, .val, .val, .val, .val, .val, .val, .val, .rd 0, .val, .val, .val, .rd 0, .val, .wr, .val, .wr] fol (by decide) (by kernel_rfl) ?_
      simp only [push_cast, simprocAttr, gS, sS, kS, rS, List.set_set, List.length_set, slC_vals, hr, gl0, w1, p1, wr1, wx, lxxs, llxs, c0xs, c1xs, c2xs, lxys, llys, c0ys, c1ys, c2ys, gls, st1s, gl1s, st2s]
      refine InB_n ?_
      refine Thn_n ?_
      refine hK _ _ ?_
      clear hK K
      refine AW.region (by decide) ?_
      simp only [push_cast, simprocAttr, gS, sS, kS, rS, List.set_set, List.length_set, slC_vals, hr, gl0, w1, p1, wr1, wx, lxxs, llxs, c0xs, c1xs, c2xs, lxys, llys, c0ys, c1ys, c2ys, gls, st1s, gl1s, st2s]
      refine Thn_n ?_
      refine ⟨x, by omega, by omega, ?_⟩
      try simp only [keepL, setAll, push_cast, simprocAttr, gS, sS, kS, rS, List.set_set, List.length_set, slC_vals, hr, gl0, w1, p1, wr1, wx, lxxs, llxs, c0xs, c1xs, c2xs, lxys, llys, c0ys, c1ys, c2ys, gls, st1s, gl1s, st2s, hnx]
      exact Weak.same (by simp only [Keeps, Tm.get_cons, Nat.reduceEqDiff, ↓reduceIte, if_true, if_false, ite_true, ite_false, true_and, and_true, and_self, reduceCtorEq, hnx]) (by first | rfl | simp only [Keeps, Tm.get_cons, Nat.reduceEqDiff, ↓reduceIte, if_true, if_false, ite_true, ite_false, true_and, and_true, and_self, reduceCtorEq, hnx])
    · have hin : k = r1 := by have := of_decide_eq_false h58; omega
      subst hin
      refine AW.exit ?_
      refine Thn_e ?_
      clear hK K
      refine Thn_e ?_
      refine InB_here ?_
      refine Thn_n ?_
      refine hK _ _ ?_
      clear hK K
      refine AW.ret ?_
      refine Thn_r ?_
      refine hQ _ _ _ ?_
      rw [← hr1]
      first | refine RetP.dropM0 (by rw [List.length_set]) (by first | exact Or.inr rfl | exact Or.inl rfl) ?_ ?_ (hwfM _) | refine RetP.dropM (by rw [List.length_set]) (by first | exact Or.inr rfl | exact Or.inl rfl) ?_ ?_ (hwfM _)
      · rfl
      · rfl
      
theorem sym_r (rs v n : Nat) (f : Nat → SL) (m : AMem) (hr : m[rs]? = some (rS v n f)) (hf : ∀ i, OkS (f i)) (hn : n ≤ 1048576) (A M B R : Nat) (hB1 : B = M + 1) (hA : A + 2 ≤ M) (h1 : A ≤ R) (h2 : R ≤ M) (hB : B ≤ n) (h3 : ∀ x, A ≤ x → x < R → ¬ (f M).fr < (f x).fr) (h4 : ∀ x, R ≤ x → x < M → (f M).fr < (f x).fr) : Ctr Try.prog 89 [.one (.sl rs v 0 n), .one (.int .i64 (A : Int)), .one (.int .i64 (M : Int)), .one (.int .i64 (B : Int)), .one (.fn 63 [])] m (.tup []) (m.set rs (rS v n (Eng.rotR f R M))) := by
  refine Ctr.enter Try.func89 rfl (by decide) (rs := []) (nt := 220) rfl rfl fun hwf Q hQ => ?_
  have lr := get_lt hr
  have gS := fun (l : AMem) (b : Blk) (e : l.length = m.length) => mk_self (m := m) (l := l) (r := rs) e lr b
  have sS := fun (l L : AMem) (e : l.length = m.length) => mk_olds (m := m) (l := l) (r := rs) e lr L
  have kS := fun (l L : AMem) (e : l.length = m.length) => mk_old (m := m) (l := l) (r := rs) e lr L
  have hr2 : m.set rs (rS v n f) = m := set_self hr
  have hwfM := fun g => rS_wf (m := m) (rs := rs) (v := v) (n := n) hwf g
  have p1 : (2 : Int) ^ min 1 IntKind.u64.bits = 2 := by decide
  have gl0 : (cC n f).length = n * 67 := cC_len hf n
  obtain ⟨dA, hdA⟩ : ∃ z : Nat, z = M - A := ⟨_, rfl⟩
  have wdA : IntKind.i64.wrap ((M : Int) - (A : Int)) = (dA : Int) := by rw [wi (by omega)]; omega
  have d1 : ((dA : Int) == 1) = false := by simp; omega
  have w2 : IntKind.i64.wrap ((B : Int) - (M : Int)) = 1 := by rw [wi (by omega)]; omega
  have hst0 : m.set rs (rS v n (Eng.rotR f M M)) = m := by rw [rotR_zero]; exact hr2
  refine AW.seq_k fun K hK => ?_
  refine AW.seq_k fun K hK => ?_
  refine AW.region (by decide) ?_
  simp only [push_cast, simprocAttr, gS, sS, kS, rS, List.set_set, List.length_set, slC_vals, hr, gl0, wdA, d1, w2, p1]
  refine Thn_n ?_
  refine hK _ _ ?_
  clear hK K
  refine AW.cond_f rfl ?_
  refine AW.skip ?_
  refine Thn_n ?_
  refine hK _ _ ?_
  clear hK K
  refine AW.seq_k fun K hK => ?_
  refine AW.seq_k fun K hK => ?_
  refine AW.region (by decide) ?_
  simp only [push_cast, simprocAttr, gS, sS, kS, rS, List.set_set, List.length_set, slC_vals, hr, gl0, wdA, d1, w2, p1]
  refine Thn_n ?_
  refine hK _ _ ?_
  clear hK K
  refine AW.cond_t rfl ?_
  iterate 2
    refine AW.seq_k fun K hK => ?_
    refine AW.region (by decide) ?_
    simp only [push_cast, simprocAttr, gS, sS, kS, rS, List.set_set, List.length_set, slC_vals, hr, gl0, wdA, d1, w2, p1]
    refine Thn_n ?_
    refine hK _ _ ?_
    clear hK K
  refine AW.seq_k fun K hK => ?_
  refine AW.block ?_
  refine AW.loopK [0, 2, 4] (fun q => A ≤ q.1 ∧ q.1 ≤ R ∧ R ≤ q.2 ∧ q.2 ≤ M) (fun q => [(14, .one (.int .i64 (q.1 : Int))), (15, .one (.int .i64 (q.2 : Int)))]) (fun q => []) (fun q => q.2 - q.1) (A, M) ⟨Nat.le_refl _, h1, h2, Nat.le_refl _⟩ ?_ ?_ fun q hi8 => ?_
  · first | rfl | (simp only [Keeps, Tm.get_cons, Nat.reduceEqDiff, ↓reduceIte, if_true, if_false, ite_true, ite_false, true_and, and_true, and_self, reduceCtorEq] <;> repeat' (first | rfl | apply And.intro))
  · first | rfl | (simp only [setAll, push_cast, simprocAttr, gS, sS, kS, rS, List.set_set, List.length_set, slC_vals, hr, gl0, wdA, d1, w2, p1] <;> rfl)
  obtain ⟨i, j⟩ := q
  obtain ⟨i1, i2, i3, i4⟩ := hi8
  simp only at i1 i2 i3 i4
  try simp only [keepL, setAll, push_cast, simprocAttr, gS, sS, kS, rS, List.set_set, List.length_set, slC_vals, hr, gl0, wdA, d1, w2, p1]
  refine AW.seq_k fun K hK => ?_
  refine AW.seq_k fun K hK => ?_
  refine AW.region (by decide) ?_
  simp only [push_cast, simprocAttr, gS, sS, kS, rS, List.set_set, List.length_set, slC_vals, hr, gl0, wdA, d1, w2, p1]
  refine Thn_n ?_
  refine hK _ _ ?_
  clear hK K
  refine AW.cond rfl (fun h85 => ?_) (fun h85 => ?_)
  · have hlt : i < j := by have := of_decide_eq_true h85; omega
    obtain ⟨z, hz⟩ : ∃ z : Nat, z = i + j := ⟨_, rfl⟩
    have wz : IntKind.i64.wrap ((i : Int) + (j : Int)) = (z : Int) := by rw [wi (by omega)]; omega
    obtain ⟨h, hh⟩ : ∃ q : Nat, q = z / 2 := ⟨_, rfl⟩
    have uz : IntKind.u64.wrap (z : Int) = (z : Int) := by rw [IntKind.wrap_u64]; omega
    have fdz : (z : Int).fdiv 2 = (h : Int) := by rw [Int.fdiv_eq_ediv_of_nonneg _ (by decide)]; omega
    have vh : IntKind.i64.wrap (h : Int) = (h : Int) := wi (by omega)
    have lxh := cC_at (n := n) (k := M) (f := f) hf (by omega)
    have llh := slC_len (hf M).w
    have c0h : (0 : Int) ≤ (M : Int) := by omega
    have c1h : (M : Int) < (n : Int) := by omega
    have c2h : M * 67 + 67 ≤ n * 67 := by omega
    have lxa := cC_at (n := n) (k := h) (f := f) hf (by omega)
    have lla := slC_len (hf h).w
    have c0a : (0 : Int) ≤ (h : Int) := by omega
    have c1a : (h : Int) < (n : Int) := by omega
    have c2a : h * 67 + 67 ≤ n * 67 := by omega
    
    refine AW.skip ?_
    refine Thn_n ?_
    refine hK _ _ ?_
    clear hK K
    refine AW.block ?_
    refine AW.seq_k fun K hK => ?_
    refine AW.region (by decide) ?_
    simp only [push_cast, simprocAttr, gS, sS, kS, rS, List.set_set, List.length_set, slC_vals, hr, gl0, wdA, d1, w2, p1, wz, uz, fdz, vh, lxh, llh, c0h, c1h, c2h, lxa, lla, c0a, c1a, c2a]
    refine Thn_n ?_
    refine hK _ _ ?_
    clear hK K
    refine AW.seq_k fun K hK => ?_
    refine AW.draw [.val, .val, .val, .val, .rd 0, .val, .val, .val, .rd 0, .ext, .val, .val] fol (by decide) (by kernel_rfl) ?_
    simp only [push_cast, simprocAttr, gS, sS, kS, rS, List.set_set, List.length_set, slC_vals, hr, gl0, wdA, d1, w2, p1, wz, uz, fdz, vh, lxh, llh, c0h, c1h, c2h, lxa, lla, c0a, c1a, c2a]
    refine DCall.by0 (cmp_c (f M) (f h) _ (hf M) (hf h)) ?_
    simp only [push_cast, simprocAttr, gS, sS, kS, rS, List.set_set, List.length_set, slC_vals, hr, gl0, wdA, d1, w2, p1, wz, uz, fdz, vh, lxh, llh, c0h, c1h, c2h, lxa, lla, c0a, c1a, c2a]
    refine Thn_n ?_
    refine hK _ _ ?_
    clear hK K
    refine AW.cond rfl (fun h103 => ?_) (fun h103 => ?_)
    · have hk : ¬ (f M).fr < (f h).fr := by simp at h103; omega
      have hhR : h < R := Classical.byContradiction fun hc => hk (h4 h (by omega) (by omega))
      obtain ⟨h1x, hh1x⟩ : ∃ z : Nat, z = h + 1 := ⟨_, rfl⟩
      have wh1x : IntKind.i64.wrap ((h : Int) + 1) = (h1x : Int) := by rw [wi (by omega)]; omega
      obtain ⟨nx, hnx, hnI, hnmu⟩ : ∃ nx : Nat × Nat, nx = (h1x, j) ∧ (A ≤ nx.1 ∧ nx.1 ≤ R ∧ R ≤ nx.2 ∧ nx.2 ≤ M) ∧ nx.2 - nx.1 < j - i := ⟨_, rfl, ⟨by show A ≤ h1x; omega, by show h1x ≤ R; omega, i3, i4⟩, by show j - h1x < j - i; omega⟩
      refine AW.region (by decide) ?_
      simp only [push_cast, simprocAttr, gS, sS, kS, rS, List.set_set, List.length_set, slC_vals, hr, gl0, wdA, d1, w2, p1, wz, uz, fdz, vh, lxh, llh, c0h, c1h, c2h, lxa, lla, c0a, c1a, c2a, wh1x]
      refine InB_n ?_
      refine Thn_n ?_
      refine ⟨nx, hnI, hnmu, ?_⟩
      try simp only [keepL, setAll, push_cast, simprocAttr, gS, sS, kS, rS, List.set_set, List.length_set, slC_vals, hr, gl0, wdA, d1, w2, p1, wz, uz, fdz, vh, lxh, llh, c0h, c1h, c2h, lxa, lla, c0a, c1a, c2a, wh1x, hnx]
      exact Weak.same (by simp only [Keeps, Tm.get_cons, Nat.reduceEqDiff, ↓reduceIte, if_true, if_false, ite_true, ite_false, true_and, and_true, and_self, reduceCtorEq, hnx]) (by first | rfl | simp only [Keeps, Tm.get_cons, Nat.reduceEqDiff, ↓reduceIte, if_true, if_false, ite_true, ite_false, true_and, and_true, and_self, reduceCtorEq, hnx])
    · have hk : (f M).fr < (f h).fr := by simp at h103; omega
      have hhR : R ≤ h := Classical.byContradiction fun hc => h3 h (by omega) (by omega) hk
      obtain ⟨nx, hnx, hnI, hnmu⟩ : ∃ nx : Nat × Nat, nx = (i, h) ∧ (A ≤ nx.1 ∧ nx.1 ≤ R ∧ R ≤ nx.2 ∧ nx.2 ≤ M) ∧ nx.2 - nx.1 < j - i := ⟨_, rfl, ⟨i1, i2, hhR, by show h ≤ M; omega⟩, by show h - i < j - i; omega⟩
      refine AW.region (by decide) ?_
      simp only [push_cast, simprocAttr, gS, sS, kS, rS, List.set_set, List.length_set, slC_vals, hr, gl0, wdA, d1, w2, p1, wz, uz, fdz, vh, lxh, llh, c0h, c1h, c2h, lxa, lla, c0a, c1a, c2a]
      refine InB_n ?_
      refine Thn_n ?_
      refine ⟨nx, hnI, hnmu, ?_⟩
      try simp only [keepL, setAll, push_cast, simprocAttr, gS, sS, kS, rS, List.set_set, List.length_set, slC_vals, hr, gl0, wdA, d1, w2, p1, wz, uz, fdz, vh, lxh, llh, c0h, c1h, c2h, lxa, lla, c0a, c1a, c2a, hnx]
      exact Weak.same (by simp only [Keeps, Tm.get_cons, Nat.reduceEqDiff, ↓reduceIte, if_true, if_false, ite_true, ite_false, true_and, and_true, and_self, reduceCtorEq, hnx]) (by first | rfl | simp only [Keeps, Tm.get_cons, Nat.reduceEqDiff, ↓reduceIte, if_true, if_false, ite_true, ite_false, true_and, and_true, and_self, reduceCtorEq, hnx])
  · have hij : R = i := by have := of_decide_eq_false h85; omega
    subst hij
    refine AW.exit ?_
    refine Thn_e ?_
    clear hK K
    refine Thn_e ?_
    refine InB_here ?_
    refine Thn_n ?_
    refine hK _ _ ?_
    clear hK K
    refine AW.seq_k fun K hK => ?_
    refine AW.seq_k fun K hK => ?_
    refine AW.region (by decide) ?_
    simp only [push_cast, simprocAttr, gS, sS, kS, rS, List.set_set, List.length_set, slC_vals, hr, gl0, wdA, d1, w2, p1]
    refine Thn_n ?_
    refine hK _ _ ?_
    clear hK K
    refine AW.block ?_
    refine AW.loopK [0, 14] (fun k => R ≤ k ∧ k ≤ M) (fun k => [(17, .one (.int .i64 (k : Int)))]) (fun k => [(rs, rS v n (Eng.rotR f k M))]) (fun k => k) M (by omega) ?_ ?_ fun k hi15 => ?_
    · first | rfl | (simp only [Keeps, Tm.get_cons, Nat.reduceEqDiff, ↓reduceIte, if_true, if_false, ite_true, ite_false, true_and, and_true, and_self, reduceCtorEq] <;> repeat' (first | rfl | apply And.intro))
    · exact hst0
    try simp only [keepL, setAll, push_cast, simprocAttr, gS, sS, kS, rS, List.set_set, List.length_set, slC_vals, hr, gl0, wdA, d1, w2, p1]
    refine AW.seq_k fun K hK => ?_
    refine AW.seq_k fun K hK => ?_
    refine AW.region (by decide) ?_
    simp only [push_cast, simprocAttr, gS, sS, kS, rS, List.set_set, List.length_set, slC_vals, hr, gl0, wdA, d1, w2, p1]
    refine Thn_n ?_
    refine hK _ _ ?_
    clear hK K
    refine AW.cond rfl (fun h110 => ?_) (fun h110 => ?_)
    · have hlt : R < k := by have := of_decide_eq_true h110; omega
      have ok := fun x => rotR_ok hf k M x
      obtain ⟨y, hy⟩ : ∃ z : Nat, z = k - 1 := ⟨_, rfl⟩
      have wy : IntKind.i64.wrap ((k : Int) - 1) = (y : Int) := by rw [wi (by omega)]; omega
      have lxxs := cC_at (n := n) (k := k) (f := Eng.rotR f k M) ok (by omega)
      have llxs := slC_len (ok k).w
      have c0xs : (0 : Int) ≤ (k : Int) := by omega
      have c1xs : (k : Int) < (n : Int) := by omega
      have c2xs : k * 67 + 67 ≤ n * 67 := by omega
      have lxys := cC_at (n := n) (k := y) (f := Eng.rotR f k M) ok (by omega)
      have llys := slC_len (ok y).w
      have c0ys : (0 : Int) ≤ (y : Int) := by omega
      have c1ys : (y : Int) < (n : Int) := by omega
      have c2ys : y * 67 + 67 ≤ n * 67 := by omega
      have gls : (cC n (Eng.rotR f k M)).length = n * 67 := cC_len ok n
      have st1s := cC_set (n := n) (k := k) (f := Eng.rotR f k M) ok (by omega) (ok y)
      have gl1s : (cC n (upF (Eng.rotR f k M) k ((Eng.rotR f k M) y))).length = n * 67 := cC_len (upF_ok ok (ok y) k) n
      have st2s := cC_set (n := n) (k := y) (f := upF (Eng.rotR f k M) k ((Eng.rotR f k M) y)) (upF_ok ok (ok y) k) (by omega) (ok k)
      have hnx : upF (upF (Eng.rotR f k M) k ((Eng.rotR f k M) y)) y ((Eng.rotR f k M) k) = Eng.rotR f y M := by rw [two_up' _ k y, show k = y + 1 by omega]; exact rotR_step f (by omega)
      refine AW.skip ?_
      refine Thn_n ?_
      refine hK _ _ ?_
      clear hK K
      refine AW.seq_k fun K hK => ?_
      refine AW.block ?_
      refine AW.draw [.val, .val, .val, .val, .val, .val, .val, .val, .val, .rd 0, .val, .val, .val, .rd 0, .val, .wr, .val, .wr] fol (by decide) (by kernel_rfl) ?_
      simp only [push_cast, simprocAttr, gS, sS, kS, rS, List.set_set, List.length_set, slC_vals, hr, gl0, wdA, d1, w2, p1, wy, lxxs, llxs, c0xs, c1xs, c2xs, lxys, llys, c0ys, c1ys, c2ys, gls, st1s, gl1s, st2s]
      refine InB_n ?_
      refine Thn_n ?_
      refine hK _ _ ?_
      clear hK K
      refine AW.region (by decide) ?_
      simp only [push_cast, simprocAttr, gS, sS, kS, rS, List.set_set, List.length_set, slC_vals, hr, gl0, wdA, d1, w2, p1, wy, lxxs, llxs, c0xs, c1xs, c2xs, lxys, llys, c0ys, c1ys, c2ys, gls, st1s, gl1s, st2s]
      refine Thn_n ?_
      refine ⟨y, by omega, by omega, ?_⟩
      try simp only [keepL, setAll, push_cast, simprocAttr, gS, sS, kS, rS, List.set_set, List.length_set, slC_vals, hr, gl0, wdA, d1, w2, p1, wy, lxxs, llxs, c0xs, c1xs, c2xs, lxys, llys, c0ys, c1ys, c2ys, gls, st1s, gl1s, st2s, hnx]
      exact Weak.same (by simp only [Keeps, Tm.get_cons, Nat.reduceEqDiff, ↓reduceIte, if_true, if_false, ite_true, ite_false, true_and, and_true, and_self, reduceCtorEq, hnx]) (by first | rfl | simp only [Keeps, Tm.get_cons, Nat.reduceEqDiff, ↓reduceIte, if_true, if_false, ite_true, ite_false, true_and, and_true, and_self, reduceCtorEq, hnx])
    · have hin : R = k := by have := of_decide_eq_false h110; omega
      subst hin
      refine AW.exit ?_
      refine Thn_e ?_
      clear hK K
      refine Thn_e ?_
      refine InB_here ?_
      refine Thn_n ?_
      refine hK _ _ ?_
      clear hK K
      refine AW.ret ?_
      refine Thn_r ?_
      refine hQ _ _ _ ?_
      first | refine RetP.dropM0 (by rw [List.length_set]) (by first | exact Or.inr rfl | exact Or.inl rfl) ?_ ?_ (hwfM _) | refine RetP.dropM (by rw [List.length_set]) (by first | exact Or.inr rfl | exact Or.inl rfl) ?_ ?_ (hwfM _)
      · rfl
      · rfl
      
end Go.Proofs.Ytdkfbbjpblfclaa

set_option linter.unusedSimpArgs false
set_option linter.unusedVariables false
set_option maxRecDepth 100000
set_option maxHeartbeats 4000000
namespace Go.Proofs.Ytdkfbbjpblfclaa
open Go Go.Eng

def SymS (A M B mid nn s0 r0 : Nat) : Prop := (mid < M ∧ s0 = nn - B ∧ r0 = mid) ∨ (M ≤ mid ∧ s0 = A ∧ r0 = M)
theorem SymS.lin {A M B mid nn s0 r0 : Nat} (hs : SymS A M B mid nn s0 r0) (h1 : A + 2 ≤ M) (h2 : M + 2 ≤ B) (hm1 : 2 * mid ≤ A + B) (hm2 : A + B ≤ 2 * mid + 1) (hnn : nn = mid + M) : nn ≤ s0 + B ∧ A ≤ s0 ∧ r0 ≤ mid ∧ r0 ≤ M ∧ s0 ≤ r0 := by
  rcases hs with ⟨a, b, c⟩ | ⟨a, b, c⟩ <;> omega
theorem lt3 (a b c d : Nat) : (a < b ∧ c < d) ∨ (a < b ∧ ¬ c < d) ∨ ¬ a < b := by omega
theorem sym_m (rs v n : Nat) (f g1 g2 : Nat → SL) (m : AMem) (hrs : rs < m.length) (hf : ∀ i, OkS (f i)) (hn : n ≤ 1048576) (A M B mid nn st s0 r0 e : Nat) (h1 : A + 2 ≤ M) (h2 : M + 2 ≤ B) (hB : B ≤ n) (hm1 : 2 * mid ≤ A + B) (hm2 : A + B ≤ 2 * mid + 1) (hnn : nn = mid + M) (hs : SymS A M B mid nn s0 r0) (b1 : s0 ≤ st) (b2 : st ≤ r0) (he : e = nn - st) (h3 : ∀ c, s0 ≤ c → c < st → ¬ (f (nn - 1 - c)).fr < (f c).fr) (h4 : ∀ c, st ≤ c → c < r0 → (f (nn - 1 - c)).fr < (f c).fr) (c1 : A < st → st < mid → Ctr Try.prog 89 [.one (.sl rs v 0 n), .one (.int .i64 (A : Int)), .one (.int .i64 (st : Int)), .one (.int .i64 (mid : Int)), .one (.fn 63 [])] (m.set rs (rS v n (rot f st M e))) (.tup []) (m.set rs (rS v n (g1)))) (e1 : ¬ (A < st ∧ st < mid) → g1 = rot f st M e) (c2 : mid < e → e < B → Ctr Try.prog 89 [.one (.sl rs v 0 n), .one (.int .i64 (mid : Int)), .one (.int .i64 (e : Int)), .one (.int .i64 (B : Int)), .one (.fn 63 [])] (m.set rs (rS v n (g1))) (.tup []) (m.set rs (rS v n (g2)))) (e2 : ¬ (mid < e ∧ e < B) → g2 = g1) : Ctr Try.prog 89 [.one (.sl rs v 0 n), .one (.int .i64 (A : Int)), .one (.int .i64 (M : Int)), .one (.int .i64 (B : Int)), .one (.fn 63 [])] (m.set rs (rS v n (f))) (.tup []) (m.set rs (rS v n (g2))) := by
  refine Ctr.enter Try.func89 rfl (by decide) (rs := []) (nt := 220) rfl rfl fun hwf Q hQ => ?_
  have lr := hrs
  have gS := fun (l : AMem) (b : Blk) (e : l.length = m.length) => mk_self (m := m) (l := l) (r := rs) e lr b
  have sS := fun (l L : AMem) (e : l.length = m.length) => mk_olds (m := m) (l := l) (r := rs) e lr L
  have kS := fun (l L : AMem) (e : l.length = m.length) => mk_old (m := m) (l := l) (r := rs) e lr L
  have hwfM : ∀ g, MWf m.length (m.set rs (rS v n g)) := fun g => by
    have h := rS_wf (rs := rs) (v := v) (n := n) hwf g
    rwa [List.set_set, List.length_set] at h
  have p1 : (2 : Int) ^ min 1 IntKind.u64.bits = 2 := by decide
  obtain ⟨l1, l2, l3, l4, l5⟩ := hs.lin h1 h2 hm1 hm2 hnn
  have gl0 : (cC n f).length = n * 67 := cC_len hf n
  obtain ⟨dA, hdA⟩ : ∃ z : Nat, z = M - A := ⟨_, rfl⟩
  have wdA : IntKind.i64.wrap ((M : Int) - (A : Int)) = (dA : Int) := by rw [wi (by omega)]; omega
  obtain ⟨dB, hdB⟩ : ∃ z : Nat, z = B - M := ⟨_, rfl⟩
  have wdB : IntKind.i64.wrap ((B : Int) - (M : Int)) = (dB : Int) := by rw [wi (by omega)]; omega
  have d1 : ((dA : Int) == 1) = false := by simp; omega
  have d2 : ((dB : Int) == 1) = false := by simp; omega
  obtain ⟨z0, hz0⟩ : ∃ q : Nat, q = A + B := ⟨_, rfl⟩
  have wz0 : IntKind.i64.wrap ((A : Int) + (B : Int)) = (z0 : Int) := by rw [wi (by omega)]; omega
  have uz0 : IntKind.u64.wrap (z0 : Int) = (z0 : Int) := by rw [IntKind.wrap_u64]; omega
  have fdz0 : (z0 : Int).fdiv 2 = (mid : Int) := by rw [Int.fdiv_eq_ediv_of_nonneg _ (by decide)]; omega
  have vmid : IntKind.i64.wrap (mid : Int) = (mid : Int) := wi (by omega)
  have wnn : IntKind.i64.wrap ((mid : Int) + (M : Int)) = (nn : Int) := by rw [wi (by omega)]; omega
  obtain ⟨pp, hpp⟩ : ∃ z : Nat, z = nn - 1 := ⟨_, rfl⟩
  have wpp : IntKind.i64.wrap ((nn : Int) - 1) = (pp : Int) := by rw [wi (by omega)]; omega
  have we : IntKind.i64.wrap ((nn : Int) - (st : Int)) = (e : Int) := by rw [wi (by omega)]; omega
  iterate 2
    refine AW.seq_k fun K hK => ?_
    refine AW.seq_k fun K hK => ?_
    refine AW.region (by decide) ?_
    simp only [push_cast, simprocAttr, gS, sS, kS, rS, List.set_set, List.length_set, slC_vals, gl0, wdA, wdB, d1, d2, p1, wz0, uz0, fdz0, vmid, wnn, wpp, we]
    refine Thn_n ?_
    refine hK _ _ ?_
    clear hK K
    refine AW.cond_f rfl ?_
    refine AW.skip ?_
    refine Thn_n ?_
    refine hK _ _ ?_
    clear hK K
  iterate 3
    refine AW.seq_k fun K hK => ?_
    refine AW.region (by decide) ?_
    simp only [push_cast, simprocAttr, gS, sS, kS, rS, List.set_set, List.length_set, slC_vals, gl0, wdA, wdB, d1, d2, p1, wz0, uz0, fdz0, vmid, wnn, wpp, we]
    refine Thn_n ?_
    refine hK _ _ ?_
    clear hK K
  refine AW.seq_k fun K hK => ?_
  refine AW.seq_k fun K hK => ?_
  refine AW.region (by decide) ?_
  simp only [push_cast, simprocAttr, gS, sS, kS, rS, List.set_set, List.length_set, slC_vals, gl0, wdA, wdB, d1, d2, p1, wz0, uz0, fdz0, vmid, wnn, wpp, we]
  refine Thn_n ?_
  refine hK _ _ ?_
  clear hK K
  refine AW.condJ rfl [0, 1, 2, 3, 4, 18, 19] [(20, .one (.int .i64 (s0 : Int))), (21, .one (.int .i64 (r0 : Int)))] [] (fun h140 => ?_) (fun h140 => ?_) ?_
  · have hq : mid < M := by have := of_decide_eq_true h140; omega
    have hs0 : s0 = nn - B := by rcases hs with h | h <;> omega
    have hr0 : r0 = mid := by rcases hs with h | h <;> omega
    have ws : IntKind.i64.wrap ((nn : Int) - (B : Int)) = (s0 : Int) := by rw [wi (by omega)]; omega
    refine AW.seq_k fun K hK => ?_
    refine AW.region (by decide) ?_
    simp only [push_cast, simprocAttr, gS, sS, kS, rS, List.set_set, List.length_set, slC_vals, gl0, wdA, wdB, d1, d2, p1, wz0, uz0, fdz0, vmid, wnn, wpp, we]
    refine Thn_n ?_
    refine hK _ _ ?_
    clear hK K
    refine AW.region (by decide) ?_
    simp only [push_cast, simprocAttr, gS, sS, kS, rS, List.set_set, List.length_set, slC_vals, gl0, wdA, wdB, d1, d2, p1, wz0, uz0, fdz0, vmid, wnn, wpp, we]
    refine Thn_n ?_
    try simp only [keepL, setAll, push_cast, simprocAttr, gS, sS, kS, rS, List.set_set, List.length_set, slC_vals, gl0, wdA, wdB, d1, d2, p1, wz0, uz0, fdz0, vmid, wnn, wpp, we, ws, hr0]
    exact Weak.same (by simp only [Keeps, Tm.get_cons, Nat.reduceEqDiff, ↓reduceIte, if_true, if_false, ite_true, ite_false, true_and, and_true, and_self, reduceCtorEq, ws, hr0]) (by first | rfl | simp only [Keeps, Tm.get_cons, Nat.reduceEqDiff, ↓reduceIte, if_true, if_false, ite_true, ite_false, true_and, and_true, and_self, reduceCtorEq, ws, hr0])
  · have hq : ¬ mid < M := by have := of_decide_eq_false h140; omega
    have hs0 : s0 = A := by rcases hs with h | h <;> omega
    have hr0 : r0 = M := by rcases hs with h | h <;> omega
    have ws := hs0
    refine AW.seq_k fun K hK => ?_
    refine AW.region (by decide) ?_
    simp only [push_cast, simprocAttr, gS, sS, kS, rS, List.set_set, List.length_set, slC_vals, gl0, wdA, wdB, d1, d2, p1, wz0, uz0, fdz0, vmid, wnn, wpp, we]
    refine Thn_n ?_
    refine hK _ _ ?_
    clear hK K
    refine AW.region (by decide) ?_
    simp only [push_cast, simprocAttr, gS, sS, kS, rS, List.set_set, List.length_set, slC_vals, gl0, wdA, wdB, d1, d2, p1, wz0, uz0, fdz0, vmid, wnn, wpp, we]
    refine Thn_n ?_
    try simp only [keepL, setAll, push_cast, simprocAttr, gS, sS, kS, rS, List.set_set, List.length_set, slC_vals, gl0, wdA, wdB, d1, d2, p1, wz0, uz0, fdz0, vmid, wnn, wpp, we, ws, hr0]
    exact Weak.same (by simp only [Keeps, Tm.get_cons, Nat.reduceEqDiff, ↓reduceIte, if_true, if_false, ite_true, ite_false, true_and, and_true, and_self, reduceCtorEq, ws, hr0]) (by first | rfl | simp only [Keeps, Tm.get_cons, Nat.reduceEqDiff, ↓reduceIte, if_true, if_false, ite_true, ite_false, true_and, and_true, and_self, reduceCtorEq, ws, hr0])
  try simp only [keepL, setAll, push_cast, simprocAttr, gS, sS, kS, rS, List.set_set, List.length_set, slC_vals, gl0, wdA, wdB, d1, d2, p1, wz0, uz0, fdz0, vmid, wnn, wpp, we]
  refine Thn_n ?_
  refine hK _ _ ?_
  clear hK K
  refine AW.seq_k fun K hK => ?_
  refine AW.region (by decide) ?_
  simp only [push_cast, simprocAttr, gS, sS, kS, rS, List.set_set, List.length_set, slC_vals, gl0, wdA, wdB, d1, d2, p1, wz0, uz0, fdz0, vmid, wnn, wpp, we]
  refine Thn_n ?_
  refine hK _ _ ?_
  clear hK K
  refine AW.seq_k fun K hK => ?_
  refine AW.block ?_
  refine AW.loopK [0, 1, 2, 3, 4, 18, 19, 22] (fun q => s0 ≤ q.1 ∧ q.1 ≤ st ∧ st ≤ q.2 ∧ q.2 ≤ r0) (fun q => [(20, .one (.int .i64 (q.1 : Int))), (21, .one (.int .i64 (q.2 : Int)))]) (fun q => []) (fun q => q.2 - q.1) (s0, r0) ⟨Nat.le_refl _, b1, b2, Nat.le_refl _⟩ ?_ ?_ fun q hi15 => ?_
  · first | rfl | (simp only [Keeps, Tm.get_cons, Nat.reduceEqDiff, ↓reduceIte, if_true, if_false, ite_true, ite_false, true_and, and_true, and_self, reduceCtorEq] <;> repeat' (first | rfl | apply And.intro))
  · first | rfl | (simp only [setAll, push_cast, simprocAttr, gS, sS, kS, rS, List.set_set, List.length_set, slC_vals, gl0, wdA, wdB, d1, d2, p1, wz0, uz0, fdz0, vmid, wnn, wpp, we] <;> rfl)
  obtain ⟨i, j⟩ := q
  obtain ⟨i1, i2, i3, i4⟩ := hi15
  simp only at i1 i2 i3 i4
  try simp only [keepL, setAll, push_cast, simprocAttr, gS, sS, kS, rS, List.set_set, List.length_set, slC_vals, gl0, wdA, wdB, d1, d2, p1, wz0, uz0, fdz0, vmid, wnn, wpp, we]
  refine AW.seq_k fun K hK => ?_
  refine AW.seq_k fun K hK => ?_
  refine AW.region (by decide) ?_
  simp only [push_cast, simprocAttr, gS, sS, kS, rS, List.set_set, List.length_set, slC_vals, gl0, wdA, wdB, d1, d2, p1, wz0, uz0, fdz0, vmid, wnn, wpp, we]
  refine Thn_n ?_
  refine hK _ _ ?_
  clear hK K
  refine AW.cond rfl (fun h151 => ?_) (fun h151 => ?_)
  · have hlt : i < j := by have := of_decide_eq_true h151; omega
    obtain ⟨z, hz⟩ : ∃ z : Nat, z = i + j := ⟨_, rfl⟩
    have wz : IntKind.i64.wrap ((i : Int) + (j : Int)) = (z : Int) := by rw [wi (by omega)]; omega
    obtain ⟨h, hh⟩ : ∃ q : Nat, q = z / 2 := ⟨_, rfl⟩
    have uz : IntKind.u64.wrap (z : Int) = (z : Int) := by rw [IntKind.wrap_u64]; omega
    have fdz : (z : Int).fdiv 2 = (h : Int) := by rw [Int.fdiv_eq_ediv_of_nonneg _ (by decide)]; omega
    have vh : IntKind.i64.wrap (h : Int) = (h : Int) := wi (by omega)
    obtain ⟨y, hy⟩ : ∃ z : Nat, z = nn - 1 - h := ⟨_, rfl⟩
    have wy : IntKind.i64.wrap ((pp : Int) - (h : Int)) = (y : Int) := by rw [wi (by omega)]; omega
    have lxh := cC_at (n := n) (k := y) (f := f) hf (by omega)
    have llh := slC_len (hf y).w
    have c0h : (0 : Int) ≤ (y : Int) := by omega
    have c1h : (y : Int) < (n : Int) := by omega
    have c2h : y * 67 + 67 ≤ n * 67 := by omega
    have lxa := cC_at (n := n) (k := h) (f := f) hf (by omega)
    have lla := slC_len (hf h).w
    have c0a : (0 : Int) ≤ (h : Int) := by omega
    have c1a : (h : Int) < (n : Int) := by omega
    have c2a : h * 67 + 67 ≤ n * 67 := by omega
    
    refine AW.skip ?_
    refine Thn_n ?_
    refine hK _ _ ?_
    clear hK K
    refine AW.block ?_
    refine AW.seq_k fun K hK => ?_
    refine AW.region (by decide) ?_
    simp only [push_cast, simprocAttr, gS, sS, kS, rS, List.set_set, List.length_set, slC_vals, gl0, wdA, wdB, d1, d2, p1, wz0, uz0, fdz0, vmid, wnn, wpp, we, wz, uz, fdz, vh, wy, lxh, llh, c0h, c1h, c2h, lxa, lla, c0a, c1a, c2a]
    refine Thn_n ?_
    refine hK _ _ ?_
    clear hK K
    refine AW.seq_k fun K hK => ?_
    refine AW.draw [.val, .val, .val, .val, .val, .val, .rd 0, .val, .val, .val, .rd 0, .ext, .val, .val] fol (by decide) (by kernel_rfl) ?_
    simp only [push_cast, simprocAttr, gS, sS, kS, rS, List.set_set, List.length_set, slC_vals, gl0, wdA, wdB, d1, d2, p1, wz0, uz0, fdz0, vmid, wnn, wpp, we, wz, uz, fdz, vh, wy, lxh, llh, c0h, c1h, c2h, lxa, lla, c0a, c1a, c2a]
    refine DCall.by0 (cmp_c (f y) (f h) _ (hf y) (hf h)) ?_
    simp only [push_cast, simprocAttr, gS, sS, kS, rS, List.set_set, List.length_set, slC_vals, gl0, wdA, wdB, d1, d2, p1, wz0, uz0, fdz0, vmid, wnn, wpp, we, wz, uz, fdz, vh, wy, lxh, llh, c0h, c1h, c2h, lxa, lla, c0a, c1a, c2a]
    refine Thn_n ?_
    refine hK _ _ ?_
    clear hK K
    refine AW.cond rfl (fun h171 => ?_) (fun h171 => ?_)
    · have hk : ¬ (f y).fr < (f h).fr := by simp at h171; omega
      have hhR : h < st := Classical.byContradiction fun hc => hk (by rw [hy]; exact h4 h (by omega) (by omega))
      obtain ⟨h1x, hh1x⟩ : ∃ z : Nat, z = h + 1 := ⟨_, rfl⟩
      have wh1x : IntKind.i64.wrap ((h : Int) + 1) = (h1x : Int) := by rw [wi (by omega)]; omega
      obtain ⟨nx, hnx, hnI, hnmu⟩ : ∃ nx : Nat × Nat, nx = (h1x, j) ∧ (s0 ≤ nx.1 ∧ nx.1 ≤ st ∧ st ≤ nx.2 ∧ nx.2 ≤ r0) ∧ nx.2 - nx.1 < j - i := ⟨_, rfl, ⟨by show s0 ≤ h1x; omega, by show h1x ≤ st; omega, i3, i4⟩, by show j - h1x < j - i; omega⟩
      refine AW.region (by decide) ?_
      simp only [push_cast, simprocAttr, gS, sS, kS, rS, List.set_set, List.length_set, slC_vals, gl0, wdA, wdB, d1, d2, p1, wz0, uz0, fdz0, vmid, wnn, wpp, we, wz, uz, fdz, vh, wy, lxh, llh, c0h, c1h, c2h, lxa, lla, c0a, c1a, c2a, wh1x]
      refine InB_n ?_
      refine Thn_n ?_
      refine ⟨nx, hnI, hnmu, ?_⟩
      try simp only [keepL, setAll, push_cast, simprocAttr, gS, sS, kS, rS, List.set_set, List.length_set, slC_vals, gl0, wdA, wdB, d1, d2, p1, wz0, uz0, fdz0, vmid, wnn, wpp, we, wz, uz, fdz, vh, wy, lxh, llh, c0h, c1h, c2h, lxa, lla, c0a, c1a, c2a, wh1x, hnx]
      exact Weak.same (by simp only [Keeps, Tm.get_cons, Nat.reduceEqDiff, ↓reduceIte, if_true, if_false, ite_true, ite_false, true_and, and_true, and_self, reduceCtorEq, hnx]) (by first | rfl | simp only [Keeps, Tm.get_cons, Nat.reduceEqDiff, ↓reduceIte, if_true, if_false, ite_true, ite_false, true_and, and_true, and_self, reduceCtorEq, hnx])
    · have hk : (f y).fr < (f h).fr := by simp at h171; omega
      have hhR : st ≤ h := Classical.byContradiction fun hc => h3 h (by omega) (by omega) (by rw [← hy]; exact hk)
      obtain ⟨nx, hnx, hnI, hnmu⟩ : ∃ nx : Nat × Nat, nx = (i, h) ∧ (s0 ≤ nx.1 ∧ nx.1 ≤ st ∧ st ≤ nx.2 ∧ nx.2 ≤ r0) ∧ nx.2 - nx.1 < j - i := ⟨_, rfl, ⟨i1, i2, hhR, by show h ≤ r0; omega⟩, by show h - i < j - i; omega⟩
      refine AW.region (by decide) ?_
      simp only [push_cast, simprocAttr, gS, sS, kS, rS, List.set_set, List.length_set, slC_vals, gl0, wdA, wdB, d1, d2, p1, wz0, uz0, fdz0, vmid, wnn, wpp, we, wz, uz, fdz, vh, wy, lxh, llh, c0h, c1h, c2h, lxa, lla, c0a, c1a, c2a]
      refine InB_n ?_
      refine Thn_n ?_
      refine ⟨nx, hnI, hnmu, ?_⟩
      try simp only [keepL, setAll, push_cast, simprocAttr, gS, sS, kS, rS, List.set_set, List.length_set, slC_vals, gl0, wdA, wdB, d1, d2, p1, wz0, uz0, fdz0, vmid, wnn, wpp, we, wz, uz, fdz, vh, wy, lxh, llh, c0h, c1h, c2h, lxa, lla, c0a, c1a, c2a, hnx]
      exact Weak.same (by simp only [Keeps, Tm.get_cons, Nat.reduceEqDiff, ↓reduceIte, if_true, if_false, ite_true, ite_false, true_and, and_true, and_self, reduceCtorEq, hnx]) (by first | rfl | simp only [Keeps, Tm.get_cons, Nat.reduceEqDiff, ↓reduceIte, if_true, if_false, ite_true, ite_false, true_and, and_true, and_self, reduceCtorEq, hnx])
  · have hij : st = i := by have := of_decide_eq_false h151; omega
    subst hij
    refine AW.exit ?_
    refine Thn_e ?_
    clear hK K
    refine Thn_e ?_
    refine InB_here ?_
    refine Thn_n ?_
    refine hK _ _ ?_
    clear hK K
    refine AW.seq_k fun K hK => ?_
    refine AW.region (by decide) ?_
    simp only [push_cast, simprocAttr, gS, sS, kS, rS, List.set_set, List.length_set, slC_vals, gl0, wdA, wdB, d1, d2, p1, wz0, uz0, fdz0, vmid, wnn, wpp, we]
    refine Thn_n ?_
    refine hK _ _ ?_
    clear hK K
    refine AW.seq_k fun K hK => ?_
    refine AW.seq_k fun K hK => ?_
    refine AW.viaJ [0, 1, 2, 3, 4, 18, 20, 24] [(185, .one (.bool (decide (st < M) && decide (M < e))))] [] ?_ ?_
    · rcases lt3 st M M e with ⟨k1, k2⟩ | ⟨k1, k2⟩ | k1
      · have k1z : (st : Int) < (M : Int) := by omega
        have k2z : (M : Int) < (e : Int) := by omega
        have d1 : decide (st < M) = true := decide_eq_true k1
        have d2 : decide (M < e) = true := decide_eq_true k2
        refine AW.region (by decide) ?_
        simp only [push_cast, simprocAttr, gS, sS, kS, rS, List.set_set, List.length_set, slC_vals, gl0, wdA, wdB, d1, d2, p1, wz0, uz0, fdz0, vmid, wnn, wpp, we, k1z, k2z, d1, d2]
        refine Thn_n ?_
        try simp only [keepL, setAll, push_cast, simprocAttr, gS, sS, kS, rS, List.set_set, List.length_set, slC_vals, gl0, wdA, wdB, d1, d2, p1, wz0, uz0, fdz0, vmid, wnn, wpp, we, k1z, k2z, d1, d2, d1]
        exact Weak.same (by simp only [Keeps, Tm.get_cons, Nat.reduceEqDiff, ↓reduceIte, if_true, if_false, ite_true, ite_false, true_and, and_true, and_self, reduceCtorEq, d1]) (by first | rfl | simp only [Keeps, Tm.get_cons, Nat.reduceEqDiff, ↓reduceIte, if_true, if_false, ite_true, ite_false, true_and, and_true, and_self, reduceCtorEq, d1])
      · have k1z : (st : Int) < (M : Int) := by omega
        have k2z : ¬ (M : Int) < (e : Int) := by omega
        have d1 : decide (st < M) = true := decide_eq_true k1
        have d2 : decide (M < e) = false := decide_eq_false k2
        refine AW.region (by decide) ?_
        simp only [push_cast, simprocAttr, gS, sS, kS, rS, List.set_set, List.length_set, slC_vals, gl0, wdA, wdB, d1, d2, p1, wz0, uz0, fdz0, vmid, wnn, wpp, we, k1z, k2z, d1, d2]
        refine Thn_n ?_
        try simp only [keepL, setAll, push_cast, simprocAttr, gS, sS, kS, rS, List.set_set, List.length_set, slC_vals, gl0, wdA, wdB, d1, d2, p1, wz0, uz0, fdz0, vmid, wnn, wpp, we, k1z, k2z, d1, d2, d1]
        exact Weak.same (by simp only [Keeps, Tm.get_cons, Nat.reduceEqDiff, ↓reduceIte, if_true, if_false, ite_true, ite_false, true_and, and_true, and_self, reduceCtorEq, d1]) (by first | rfl | simp only [Keeps, Tm.get_cons, Nat.reduceEqDiff, ↓reduceIte, if_true, if_false, ite_true, ite_false, true_and, and_true, and_self, reduceCtorEq, d1])
      · have k1z : ¬ (st : Int) < (M : Int) := by omega
        have d1 : decide (st < M) = false := decide_eq_false k1
        refine AW.region (by decide) ?_
        simp only [push_cast, simprocAttr, gS, sS, kS, rS, List.set_set, List.length_set, slC_vals, gl0, wdA, wdB, d1, d2, p1, wz0, uz0, fdz0, vmid, wnn, wpp, we, k1z, d1]
        refine Thn_n ?_
        try simp only [keepL, setAll, push_cast, simprocAttr, gS, sS, kS, rS, List.set_set, List.length_set, slC_vals, gl0, wdA, wdB, d1, d2, p1, wz0, uz0, fdz0, vmid, wnn, wpp, we, k1z, d1, d1]
        exact Weak.same (by simp only [Keeps, Tm.get_cons, Nat.reduceEqDiff, ↓reduceIte, if_true, if_false, ite_true, ite_false, true_and, and_true, and_self, reduceCtorEq, d1]) (by first | rfl | simp only [Keeps, Tm.get_cons, Nat.reduceEqDiff, ↓reduceIte, if_true, if_false, ite_true, ite_false, true_and, and_true, and_self, reduceCtorEq, d1])
    try simp only [keepL, setAll, push_cast, simprocAttr, gS, sS, kS, rS, List.set_set, List.length_set, slC_vals, gl0, wdA, wdB, d1, d2, p1, wz0, uz0, fdz0, vmid, wnn, wpp, we]
    refine Thn_n ?_
    refine hK _ _ ?_
    clear hK K
    refine AW.condJ rfl [0, 1, 3, 4, 18, 20, 24] [] [(rs, rS v n (rot f st M e))] (fun h185 => ?_) (fun h185 => ?_) ?_
    · have hq : st < M ∧ M < e := by simpa using h185
      refine AW.region (by decide) ?_
      simp only [push_cast, simprocAttr, gS, sS, kS, rS, List.set_set, List.length_set, slC_vals, gl0, wdA, wdB, d1, d2, p1, wz0, uz0, fdz0, vmid, wnn, wpp, we]
      refine CThen.by (srot_c rs v n f _ (mk_self rfl lr _) hf hn st M e hq.1 hq.2 (by omega)) ?_
      simp only [push_cast, simprocAttr, gS, sS, kS, rS, List.set_set, List.length_set, slC_vals, gl0, wdA, wdB, d1, d2, p1, wz0, uz0, fdz0, vmid, wnn, wpp, we]
      refine Thn_n ?_
      try simp only [keepL, setAll, push_cast, simprocAttr, gS, sS, kS, rS, List.set_set, List.length_set, slC_vals, gl0, wdA, wdB, d1, d2, p1, wz0, uz0, fdz0, vmid, wnn, wpp, we, hq]
      exact Weak.same (by simp only [Keeps, Tm.get_cons, Nat.reduceEqDiff, ↓reduceIte, if_true, if_false, ite_true, ite_false, true_and, and_true, and_self, reduceCtorEq, hq]) (by first | rfl | simp only [Keeps, Tm.get_cons, Nat.reduceEqDiff, ↓reduceIte, if_true, if_false, ite_true, ite_false, true_and, and_true, and_self, reduceCtorEq, hq])
    · have hq : rot f st M e = f := by
        have h : ¬ (st < M ∧ M < e) := by simpa using h185
        rcases Nat.lt_or_ge st M with k1 | k1
        · rw [show e = M by omega]; exact rot_id1 f st M
        · rw [show st = M by omega]; exact rot_id2 f M e
      refine AW.skip ?_
      refine Thn_n ?_
      try simp only [keepL, setAll, push_cast, simprocAttr, gS, sS, kS, rS, List.set_set, List.length_set, slC_vals, gl0, wdA, wdB, d1, d2, p1, wz0, uz0, fdz0, vmid, wnn, wpp, we, hq]
      exact Weak.same (by simp only [Keeps, Tm.get_cons, Nat.reduceEqDiff, ↓reduceIte, if_true, if_false, ite_true, ite_false, true_and, and_true, and_self, reduceCtorEq, hq]) (by first | rfl | simp only [Keeps, Tm.get_cons, Nat.reduceEqDiff, ↓reduceIte, if_true, if_false, ite_true, ite_false, true_and, and_true, and_self, reduceCtorEq, hq])
    try simp only [keepL, setAll, push_cast, simprocAttr, gS, sS, kS, rS, List.set_set, List.length_set, slC_vals, gl0, wdA, wdB, d1, d2, p1, wz0, uz0, fdz0, vmid, wnn, wpp, we]
    refine Thn_n ?_
    refine hK _ _ ?_
    clear hK K
    refine AW.seq_k fun K hK => ?_
    refine AW.seq_k fun K hK => ?_
    refine AW.viaJ [0, 1, 3, 4, 18, 20, 24] [(199, .one (.bool (decide (A < st) && decide (st < mid))))] [] ?_ ?_
    · rcases lt3 A st st mid with ⟨k1, k2⟩ | ⟨k1, k2⟩ | k1
      · have k1z : (A : Int) < (st : Int) := by omega
        have k2z : (st : Int) < (mid : Int) := by omega
        have d1 : decide (A < st) = true := decide_eq_true k1
        have d2 : decide (st < mid) = true := decide_eq_true k2
        refine AW.region (by decide) ?_
        simp only [push_cast, simprocAttr, gS, sS, kS, rS, List.set_set, List.length_set, slC_vals, gl0, wdA, wdB, d1, d2, p1, wz0, uz0, fdz0, vmid, wnn, wpp, we, k1z, k2z, d1, d2]
        refine Thn_n ?_
        try simp only [keepL, setAll, push_cast, simprocAttr, gS, sS, kS, rS, List.set_set, List.length_set, slC_vals, gl0, wdA, wdB, d1, d2, p1, wz0, uz0, fdz0, vmid, wnn, wpp, we, k1z, k2z, d1, d2, d1]
        exact Weak.same (by simp only [Keeps, Tm.get_cons, Nat.reduceEqDiff, ↓reduceIte, if_true, if_false, ite_true, ite_false, true_and, and_true, and_self, reduceCtorEq, d1]) (by first | rfl | simp only [Keeps, Tm.get_cons, Nat.reduceEqDiff, ↓reduceIte, if_true, if_false, ite_true, ite_false, true_and, and_true, and_self, reduceCtorEq, d1])
      · have k1z : (A : Int) < (st : Int) := by omega
        have k2z : ¬ (st : Int) < (mid : Int) := by omega
        have d1 : decide (A < st) = true := decide_eq_true k1
        have d2 : decide (st < mid) = false := decide_eq_false k2
        refine AW.region (by decide) ?_
        simp only [push_cast, simprocAttr, gS, sS, kS, rS, List.set_set, List.length_set, slC_vals, gl0, wdA, wdB, d1, d2, p1, wz0, uz0, fdz0, vmid, wnn, wpp, we, k1z, k2z, d1, d2]
        refine Thn_n ?_
        try simp only [keepL, setAll, push_cast, simprocAttr, gS, sS, kS, rS, List.set_set, List.length_set, slC_vals, gl0, wdA, wdB, d1, d2, p1, wz0, uz0, fdz0, vmid, wnn, wpp, we, k1z, k2z, d1, d2, d1]
        exact Weak.same (by simp only [Keeps, Tm.get_cons, Nat.reduceEqDiff, ↓reduceIte, if_true, if_false, ite_true, ite_false, true_and, and_true, and_self, reduceCtorEq, d1]) (by first | rfl | simp only [Keeps, Tm.get_cons, Nat.reduceEqDiff, ↓reduceIte, if_true, if_false, ite_true, ite_false, true_and, and_true, and_self, reduceCtorEq, d1])
      · have k1z : ¬ (A : Int) < (st : Int) := by omega
        have d1 : decide (A < st) = false := decide_eq_false k1
        refine AW.region (by decide) ?_
        simp only [push_cast, simprocAttr, gS, sS, kS, rS, List.set_set, List.length_set, slC_vals, gl0, wdA, wdB, d1, d2, p1, wz0, uz0, fdz0, vmid, wnn, wpp, we, k1z, d1]
        refine Thn_n ?_
        try simp only [keepL, setAll, push_cast, simprocAttr, gS, sS, kS, rS, List.set_set, List.length_set, slC_vals, gl0, wdA, wdB, d1, d2, p1, wz0, uz0, fdz0, vmid, wnn, wpp, we, k1z, d1, d1]
        exact Weak.same (by simp only [Keeps, Tm.get_cons, Nat.reduceEqDiff, ↓reduceIte, if_true, if_false, ite_true, ite_false, true_and, and_true, and_self, reduceCtorEq, d1]) (by first | rfl | simp only [Keeps, Tm.get_cons, Nat.reduceEqDiff, ↓reduceIte, if_true, if_false, ite_true, ite_false, true_and, and_true, and_self, reduceCtorEq, d1])
    try simp only [keepL, setAll, push_cast, simprocAttr, gS, sS, kS, rS, List.set_set, List.length_set, slC_vals, gl0, wdA, wdB, d1, d2, p1, wz0, uz0, fdz0, vmid, wnn, wpp, we]
    refine Thn_n ?_
    refine hK _ _ ?_
    clear hK K
    refine AW.condJ rfl [0, 3, 4, 18, 24] [] [(rs, rS v n g1)] (fun h199 => ?_) (fun h199 => ?_) ?_
    · have hq : A < st ∧ st < mid := by simpa using h199
      refine AW.region (by decide) ?_
      simp only [push_cast, simprocAttr, gS, sS, kS, rS, List.set_set, List.length_set, slC_vals, gl0, wdA, wdB, d1, d2, p1, wz0, uz0, fdz0, vmid, wnn, wpp, we]
      refine CThen.by (c1 hq.1 hq.2) ?_
      simp only [push_cast, simprocAttr, gS, sS, kS, rS, List.set_set, List.length_set, slC_vals, gl0, wdA, wdB, d1, d2, p1, wz0, uz0, fdz0, vmid, wnn, wpp, we]
      refine Thn_n ?_
      try simp only [keepL, setAll, push_cast, simprocAttr, gS, sS, kS, rS, List.set_set, List.length_set, slC_vals, gl0, wdA, wdB, d1, d2, p1, wz0, uz0, fdz0, vmid, wnn, wpp, we, hq]
      exact Weak.same (by simp only [Keeps, Tm.get_cons, Nat.reduceEqDiff, ↓reduceIte, if_true, if_false, ite_true, ite_false, true_and, and_true, and_self, reduceCtorEq, hq]) (by first | rfl | simp only [Keeps, Tm.get_cons, Nat.reduceEqDiff, ↓reduceIte, if_true, if_false, ite_true, ite_false, true_and, and_true, and_self, reduceCtorEq, hq])
    · have hq : g1 = rot f st M e := e1 (by simpa using h199)
      refine AW.skip ?_
      refine Thn_n ?_
      try simp only [keepL, setAll, push_cast, simprocAttr, gS, sS, kS, rS, List.set_set, List.length_set, slC_vals, gl0, wdA, wdB, d1, d2, p1, wz0, uz0, fdz0, vmid, wnn, wpp, we, hq]
      exact Weak.same (by simp only [Keeps, Tm.get_cons, Nat.reduceEqDiff, ↓reduceIte, if_true, if_false, ite_true, ite_false, true_and, and_true, and_self, reduceCtorEq, hq]) (by first | rfl | simp only [Keeps, Tm.get_cons, Nat.reduceEqDiff, ↓reduceIte, if_true, if_false, ite_true, ite_false, true_and, and_true, and_self, reduceCtorEq, hq])
    try simp only [keepL, setAll, push_cast, simprocAttr, gS, sS, kS, rS, List.set_set, List.length_set, slC_vals, gl0, wdA, wdB, d1, d2, p1, wz0, uz0, fdz0, vmid, wnn, wpp, we]
    refine Thn_n ?_
    refine hK _ _ ?_
    clear hK K
    refine AW.seq_k fun K hK => ?_
    refine AW.viaJ [0, 3, 4, 18, 24] [(213, .one (.bool (decide (mid < e) && decide (e < B))))] [] ?_ ?_
    · rcases lt3 mid e e B with ⟨k1, k2⟩ | ⟨k1, k2⟩ | k1
      · have k1z : (mid : Int) < (e : Int) := by omega
        have k2z : (e : Int) < (B : Int) := by omega
        have d1 : decide (mid < e) = true := decide_eq_true k1
        have d2 : decide (e < B) = true := decide_eq_true k2
        refine AW.region (by decide) ?_
        simp only [push_cast, simprocAttr, gS, sS, kS, rS, List.set_set, List.length_set, slC_vals, gl0, wdA, wdB, d1, d2, p1, wz0, uz0, fdz0, vmid, wnn, wpp, we, k1z, k2z, d1, d2]
        refine Thn_n ?_
        try simp only [keepL, setAll, push_cast, simprocAttr, gS, sS, kS, rS, List.set_set, List.length_set, slC_vals, gl0, wdA, wdB, d1, d2, p1, wz0, uz0, fdz0, vmid, wnn, wpp, we, k1z, k2z, d1, d2, d1]
        exact Weak.same (by simp only [Keeps, Tm.get_cons, Nat.reduceEqDiff, ↓reduceIte, if_true, if_false, ite_true, ite_false, true_and, and_true, and_self, reduceCtorEq, d1]) (by first | rfl | simp only [Keeps, Tm.get_cons, Nat.reduceEqDiff, ↓reduceIte, if_true, if_false, ite_true, ite_false, true_and, and_true, and_self, reduceCtorEq, d1])
      · have k1z : (mid : Int) < (e : Int) := by omega
        have k2z : ¬ (e : Int) < (B : Int) := by omega
        have d1 : decide (mid < e) = true := decide_eq_true k1
        have d2 : decide (e < B) = false := decide_eq_false k2
        refine AW.region (by decide) ?_
        simp only [push_cast, simprocAttr, gS, sS, kS, rS, List.set_set, List.length_set, slC_vals, gl0, wdA, wdB, d1, d2, p1, wz0, uz0, fdz0, vmid, wnn, wpp, we, k1z, k2z, d1, d2]
        refine Thn_n ?_
        try simp only [keepL, setAll, push_cast, simprocAttr, gS, sS, kS, rS, List.set_set, List.length_set, slC_vals, gl0, wdA, wdB, d1, d2, p1, wz0, uz0, fdz0, vmid, wnn, wpp, we, k1z, k2z, d1, d2, d1]
        exact Weak.same (by simp only [Keeps, Tm.get_cons, Nat.reduceEqDiff, ↓reduceIte, if_true, if_false, ite_true, ite_false, true_and, and_true, and_self, reduceCtorEq, d1]) (by first | rfl | simp only [Keeps, Tm.get_cons, Nat.reduceEqDiff, ↓reduceIte, if_true, if_false, ite_true, ite_false, true_and, and_true, and_self, reduceCtorEq, d1])
      · have k1z : ¬ (mid : Int) < (e : Int) := by omega
        have d1 : decide (mid < e) = false := decide_eq_false k1
        refine AW.region (by decide) ?_
        simp only [push_cast, simprocAttr, gS, sS, kS, rS, List.set_set, List.length_set, slC_vals, gl0, wdA, wdB, d1, d2, p1, wz0, uz0, fdz0, vmid, wnn, wpp, we, k1z, d1]
        refine Thn_n ?_
        try simp only [keepL, setAll, push_cast, simprocAttr, gS, sS, kS, rS, List.set_set, List.length_set, slC_vals, gl0, wdA, wdB, d1, d2, p1, wz0, uz0, fdz0, vmid, wnn, wpp, we, k1z, d1, d1]
        exact Weak.same (by simp only [Keeps, Tm.get_cons, Nat.reduceEqDiff, ↓reduceIte, if_true, if_false, ite_true, ite_false, true_and, and_true, and_self, reduceCtorEq, d1]) (by first | rfl | simp only [Keeps, Tm.get_cons, Nat.reduceEqDiff, ↓reduceIte, if_true, if_false, ite_true, ite_false, true_and, and_true, and_self, reduceCtorEq, d1])
    try simp only [keepL, setAll, push_cast, simprocAttr, gS, sS, kS, rS, List.set_set, List.length_set, slC_vals, gl0, wdA, wdB, d1, d2, p1, wz0, uz0, fdz0, vmid, wnn, wpp, we]
    refine Thn_n ?_
    refine hK _ _ ?_
    clear hK K
    refine AW.condJ rfl [] [] [(rs, rS v n g2)] (fun h213 => ?_) (fun h213 => ?_) ?_
    · have hq : mid < e ∧ e < B := by simpa using h213
      refine AW.region (by decide) ?_
      simp only [push_cast, simprocAttr, gS, sS, kS, rS, List.set_set, List.length_set, slC_vals, gl0, wdA, wdB, d1, d2, p1, wz0, uz0, fdz0, vmid, wnn, wpp, we]
      refine CThen.by (c2 hq.1 hq.2) ?_
      simp only [push_cast, simprocAttr, gS, sS, kS, rS, List.set_set, List.length_set, slC_vals, gl0, wdA, wdB, d1, d2, p1, wz0, uz0, fdz0, vmid, wnn, wpp, we]
      refine Thn_n ?_
      try simp only [keepL, setAll, push_cast, simprocAttr, gS, sS, kS, rS, List.set_set, List.length_set, slC_vals, gl0, wdA, wdB, d1, d2, p1, wz0, uz0, fdz0, vmid, wnn, wpp, we, hq]
      exact Weak.same (by simp only [Keeps, Tm.get_cons, Nat.reduceEqDiff, ↓reduceIte, if_true, if_false, ite_true, ite_false, true_and, and_true, and_self, reduceCtorEq, hq]) (by first | rfl | simp only [Keeps, Tm.get_cons, Nat.reduceEqDiff, ↓reduceIte, if_true, if_false, ite_true, ite_false, true_and, and_true, and_self, reduceCtorEq, hq])
    · have hq : g2 = g1 := e2 (by simpa using h213)
      refine AW.skip ?_
      refine Thn_n ?_
      try simp only [keepL, setAll, push_cast, simprocAttr, gS, sS, kS, rS, List.set_set, List.length_set, slC_vals, gl0, wdA, wdB, d1, d2, p1, wz0, uz0, fdz0, vmid, wnn, wpp, we, hq]
      exact Weak.same (by simp only [Keeps, Tm.get_cons, Nat.reduceEqDiff, ↓reduceIte, if_true, if_false, ite_true, ite_false, true_and, and_true, and_self, reduceCtorEq, hq]) (by first | rfl | simp only [Keeps, Tm.get_cons, Nat.reduceEqDiff, ↓reduceIte, if_true, if_false, ite_true, ite_false, true_and, and_true, and_self, reduceCtorEq, hq])
    try simp only [keepL, setAll, push_cast, simprocAttr, gS, sS, kS, rS, List.set_set, List.length_set, slC_vals, gl0, wdA, wdB, d1, d2, p1, wz0, uz0, fdz0, vmid, wnn, wpp, we]
    refine hQ _ _ _ ?_
    rw [show (m.set rs (rS v n f)).length = m.length from List.length_set]
    first | refine RetP.dropM0 (by rw [List.length_set]) (by first | exact Or.inr rfl | exact Or.inl rfl) ?_ ?_ (hwfM _) | refine RetP.dropM (by rw [List.length_set]) (by first | exact Or.inr rfl | exact Or.inl rfl) ?_ ?_ (hwfM _)
    · rfl
    · rfl
    
theorem sym_c (n : Nat) (hn : n ≤ 1048576) : ∀ (N A M B : Nat) (f : Nat → SL), (∀ i, OkS (f i)) → B - A ≤ N → A < M → M < B → B ≤ n → KSrt SL.fr f A M → KSrt SL.fr f M B → ∃ g, KSrt SL.fr g A B ∧ PermOn A B f g ∧ ∀ (rs v : Nat) (m : AMem), rs < m.length → Ctr Try.prog 89 [.one (.sl rs v 0 n), .one (.int .i64 (A : Int)), .one (.int .i64 (M : Int)), .one (.int .i64 (B : Int)), .one (.fn 63 [])] (m.set rs (rS v n (f))) (.tup []) (m.set rs (rS v n (g)))
  | 0, A, M, B, f, hf, h, h1, h2, h3, s1, s2 => by omega
  | N + 1, A, M, B, f, hf, h, h1, h2, h3, s1, s2 => by
    have hset : ∀ (rs v : Nat) (m : AMem) (g g' : Nat → SL), (m.set rs (rS v n g)).set rs (rS v n g') = m.set rs (rS v n g') := fun rs v m g g' => List.set_set ..
    by_cases c1 : M = A + 1
    · obtain ⟨R, r1, r2, r3, r4⟩ := edge_ex (fun x => (f x).fr < (f A).fr) M (B - M) fun x y a b c d => by
        have := s2 x y a b (by omega); omega
      rw [show M + (B - M) = B by omega] at r2 r4
      refine ⟨rotL f A (R - 1), symL SL.fr s2 c1 r1 r2 r3 r4, rotL_perm (by omega) (by omega), fun rs v m hm => ?_⟩
      have := sym_l rs v n f (m.set rs (rS v n f)) (List.getElem?_set_self hm) hf hn A M B R c1 r1 r2 h3 r3 r4
      rwa [hset] at this
    · by_cases c2 : B = M + 1
      · obtain ⟨R, r1, r2, r3, r4⟩ := edge_ex (fun x => ¬ (f M).fr < (f x).fr) A (M - A) fun x y a b c d => by
          have := s1 x y a b (by omega); omega
        rw [show A + (M - A) = M by omega] at r2 r4
        refine ⟨Eng.rotR f R M, symR SL.fr s1 c2 r1 r2 r3 (fun x a b => Classical.not_not.1 (r4 x a b)), rotR_perm r1 r2 (by omega), fun rs v m hm => ?_⟩
        have := sym_r rs v n f (m.set rs (rS v n f)) (List.getElem?_set_self hm) hf hn A M B R c2 (by omega) r1 r2 h3 r3 (fun x a b => Classical.not_not.1 (r4 x a b))
        rwa [hset] at this
      · obtain ⟨mid, hmid⟩ : ∃ q, q = (A + B) / 2 := ⟨_, rfl⟩
        obtain ⟨nn, hnn⟩ : ∃ q, q = mid + M := ⟨_, rfl⟩
        obtain ⟨s0, r0, hs⟩ : ∃ s0 r0, SymS A M B mid nn s0 r0 := by
          rcases Nat.lt_or_ge mid M with k | k
          · exact ⟨nn - B, mid, .inl ⟨k, rfl, rfl⟩⟩
          · exact ⟨A, M, .inr ⟨k, rfl, rfl⟩⟩
        obtain ⟨l1, l2, l3, l4, l5⟩ := hs.lin (by omega) (by omega) (by omega) (by omega) hnn
        obtain ⟨st, r1, r2, r3, r4⟩ := edge_ex (fun c => ¬ (f (nn - 1 - c)).fr < (f c).fr) s0 (r0 - s0) fun x y a b c d => by
          have e1 := s1 x y (by omega) b (by omega)
          have e2 := s2 (nn - 1 - y) (nn - 1 - x) (by omega) (by omega) (by omega)
          omega
        rw [show s0 + (r0 - s0) = r0 by omega] at r2 r4
        have r4' : ∀ c, st ≤ c → c < r0 → (f (nn - 1 - c)).fr < (f c).fr := fun c a b => Classical.not_not.1 (r4 c a b)
        obtain ⟨e, he⟩ : ∃ q, q = nn - st := ⟨_, rfl⟩
        obtain ⟨q1, q2, q3, q4, q5, q6, q7, q8, q9, q10, q11⟩ := symM SL.fr s1 s2 h1 h2 hmid hnn hs r1 r2 r3 r4'
        rw [← he] at q1 q2 q3 q4 q5 q8 q9 q11
        have hfr := rot_ok hf st M e
        have hp0 : PermOn A B f (rot f st M e) := (rot_perm q10 q11).wide q6 q9
        obtain ⟨g1, p1, k1, c1', e1'⟩ : ∃ g1, PermOn A mid (rot f st M e) g1 ∧ KSrt SL.fr g1 A mid ∧ (A < st → st < mid → ∀ (rs v : Nat) (m : AMem), rs < m.length → Ctr Try.prog 89 [.one (.sl rs v 0 n), .one (.int .i64 (A : Int)), .one (.int .i64 (st : Int)), .one (.int .i64 (mid : Int)), .one (.fn 63 [])] (m.set rs (rS v n (rot f st M e))) (.tup []) (m.set rs (rS v n (g1)))) ∧ (¬ (A < st ∧ st < mid) → g1 = rot f st M e) := by
          by_cases hc : A < st ∧ st < mid
          · obtain ⟨g, x1, x2, x3⟩ := sym_c n hn N A st mid (rot f st M e) hfr (by omega) hc.1 hc.2 (by omega) q1 q2
            exact ⟨g, x2, x1, fun _ _ => x3, fun h => absurd hc h⟩
          · refine ⟨rot f st M e, PermOn.refl _ _ _, ?_, fun a b => absurd ⟨a, b⟩ hc, fun _ => rfl⟩
            rcases Nat.lt_or_ge A st with k | k
            · exact q1.sub SL.fr (Nat.le_refl _) (by omega)
            · exact q2.sub SL.fr (by omega) (Nat.le_refl _)
        have hg1 := perm_ok hfr p1
        have q3' : KSrt SL.fr g1 mid e := q3.congr SL.fr fun x a b => p1.out (by omega)
        have q4' : KSrt SL.fr g1 e B := q4.congr SL.fr fun x a b => p1.out (by omega)
        obtain ⟨g2, p2, k2, c2', e2'⟩ : ∃ g2, PermOn mid B g1 g2 ∧ KSrt SL.fr g2 mid B ∧ (mid < e → e < B → ∀ (rs v : Nat) (m : AMem), rs < m.length → Ctr Try.prog 89 [.one (.sl rs v 0 n), .one (.int .i64 (mid : Int)), .one (.int .i64 (e : Int)), .one (.int .i64 (B : Int)), .one (.fn 63 [])] (m.set rs (rS v n (g1))) (.tup []) (m.set rs (rS v n (g2)))) ∧ (¬ (mid < e ∧ e < B) → g2 = g1) := by
          by_cases hc : mid < e ∧ e < B
          · obtain ⟨g, x1, x2, x3⟩ := sym_c n hn N mid e B g1 hg1 (by omega) hc.1 hc.2 (by omega) q3' q4'
            exact ⟨g, x2, x1, fun _ _ => x3, fun h => absurd hc h⟩
          · refine ⟨g1, PermOn.refl _ _ _, ?_, fun a b => absurd ⟨a, b⟩ hc, fun _ => rfl⟩
            rcases Nat.lt_or_ge mid e with k | k
            · exact q3'.sub SL.fr (Nat.le_refl _) (by omega)
            · exact q4'.sub SL.fr (by omega) (Nat.le_refl _)
        obtain ⟨y1, y2⟩ := symE SL.fr q5 p1 k1 p2 k2 (by omega) (by omega)
        exact ⟨g2, y1, hp0.trans y2, fun rs v m hm => sym_m rs v n f g1 g2 m hm hf hn A M B mid nn st s0 r0 e (by omega) (by omega) h3 (by omega) (by omega) hnn hs r1 r2 he r3 r4' (fun a b => c1' a b rs v m hm) e1' (fun a b => c2' a b rs v m hm) e2'⟩
end Go.Proofs.Ytdkfbbjpblfclaa

set_option linter.unusedSimpArgs false
set_option linter.unusedVariables false
set_option maxRecDepth 100000
set_option maxHeartbeats 4000000
namespace Go.Proofs.Ytdkfbbjpblfclaa
open Go Go.Eng

structure SymOk (n A M B : Nat) (f : Nat → SL) : Prop where
  hn : n ≤ 1048576
  hf : ∀ i, OkS (f i)
  ha : A < M
  hm : M < B
  hb : B ≤ n
  hs : KSrt SL.fr f A M
  ht : KSrt SL.fr f M B
theorem SymOk.ex {n A M B : Nat} {f : Nat → SL} (h : SymOk n A M B f) : ∃ g, KSrt SL.fr g A B ∧ PermOn A B f g ∧ ∀ (rs v : Nat) (m : AMem), rs < m.length → Ctr Try.prog 89 [.one (.sl rs v 0 n), .one (.int .i64 (A : Int)), .one (.int .i64 (M : Int)), .one (.int .i64 (B : Int)), .one (.fn 63 [])] (m.set rs (rS v n (f))) (.tup []) (m.set rs (rS v n (g))) :=
  sym_c n h.hn (B - A) A M B f h.hf (Nat.le_refl _) h.ha h.hm h.hb h.hs h.ht
open Classical in
/-- What the merge makes. -/
noncomputable def symG (n A M B : Nat) (f : Nat → SL) : Nat → SL := if h : SymOk n A M B f then Classical.choose h.ex else f
theorem symG_spec {n A M B : Nat} {f : Nat → SL} (h : SymOk n A M B f) : KSrt SL.fr (symG n A M B f) A B ∧ PermOn A B f (symG n A M B f) ∧ ∀ (rs v : Nat) (m : AMem), rs < m.length → Ctr Try.prog 89 [.one (.sl rs v 0 n), .one (.int .i64 (A : Int)), .one (.int .i64 (M : Int)), .one (.int .i64 (B : Int)), .one (.fn 63 [])] (m.set rs (rS v n (f))) (.tup []) (m.set rs (rS v n ((symG n A M B f)))) := by
  unfold symG; rw [dif_pos h]; exact Classical.choose_spec h.ex
/-- Twenty at a time; then the rest. -/
def blkI : Nat → (Nat → SL) → (Nat → SL)
  | 0, f => f
  | k + 1, f => insS SL.fr (k * 20) 19 (blkI k f)
theorem ins_end {a n : Nat} (g : Nat → SL) (h : a ≤ n) : PermOn a n g (insS SL.fr a (n - a - 1) g) ∧ KSrt SL.fr (insS SL.fr a (n - a - 1) g) a n := by
  rcases Nat.lt_or_ge a n with h1 | h1
  · have p := insS_perm SL.fr a g (n - a - 1)
    have s := insS_srt SL.fr a g (n - a - 1)
    rw [show a + (n - a - 1) + 1 = n by omega] at p s
    exact ⟨p, s⟩
  · rw [show n - a - 1 = 0 by omega]
    exact ⟨PermOn.refl _ _ _, fun i j a b c => by omega⟩
theorem blkI_spec {n : Nat} (f : Nat → SL) : ∀ k, k * 20 ≤ n → KBlk SL.fr (blkI k f) 20 0 (k * 20) ∧ PermOn 0 n f (blkI k f)
  | 0, _ => ⟨fun i j a b c => by omega, PermOn.refl _ _ _⟩
  | k + 1, h => by
    obtain ⟨h1, h2⟩ := blkI_spec (n := n) f k (by omega)
    have p := insS_perm SL.fr (k * 20) (blkI k f) 19
    have s := insS_srt SL.fr (k * 20) (blkI k f) 19
    rw [show k * 20 + 19 + 1 = (k + 1) * 20 by omega] at p s
    exact ⟨KBlk.snoc (n := 0) SL.fr h1 p s rfl (by decide) (by omega), h2.trans (p.wide (by omega) (by omega))⟩
def insA (n : Nat) (f : Nat → SL) : Nat → SL := insS SL.fr (n / 20 * 20) (n - n / 20 * 20 - 1) (blkI (n / 20) f)
theorem insA_spec (n : Nat) (f : Nat → SL) : KBlk SL.fr (insA n f) 20 0 n ∧ PermOn 0 n f (insA n f) := by
  obtain ⟨h1, h2⟩ := blkI_spec (n := n) f (n / 20) (by omega)
  obtain ⟨p, s⟩ := ins_end (a := n / 20 * 20) (n := n) (blkI (n / 20) f) (by omega)
  exact ⟨KBlk.snoc (n := 0) SL.fr h1 p s rfl (by decide) (by omega), h2.trans (p.wide (by omega) (Nat.le_refl _))⟩
/-- A pass of merges of one width. -/
noncomputable def pasM (n w : Nat) : Nat → (Nat → SL) → (Nat → SL)
  | 0, f => f
  | k + 1, f => symG n (k * (2 * w)) (k * (2 * w) + w) (k * (2 * w) + 2 * w) (pasM n w k f)
structure PasOk (n w k : Nat) (f g : Nat → SL) : Prop where
  s : KBlk SL.fr g (2 * w) 0 (k * (2 * w))
  r : KBlk SL.fr g w (k * (2 * w)) n
  p : PermOn 0 n f g
theorem PasOk.sym {n w k : Nat} {f g : Nat → SL} (h : PasOk n w k f g) (hn : n ≤ 1048576) (hf : ∀ i, OkS (f i)) (hw : 0 < w) {b : Nat} (h1 : k * (2 * w) + w < b) (h2 : b ≤ k * (2 * w) + 2 * w) (h3 : b ≤ n) : SymOk n (k * (2 * w)) (k * (2 * w) + w) b g := by
  have e : k * (2 * w) = (2 * k) * w := by rw [← Nat.mul_assoc, Nat.mul_comm k 2]
  have e2 : k * (2 * w) + w = (2 * k + 1) * w := by rw [e, Nat.add_mul, Nat.one_mul]
  exact ⟨hn, perm_ok hf h.p, by omega, h1, h3, h.r.at SL.fr hw (Nat.le_refl _) e (by omega) (by omega), h.r.at SL.fr hw (by omega) e2 (by omega) h3⟩
theorem pasM_spec {n w : Nat} {f g : Nat → SL} (hn : n ≤ 1048576) (hf : ∀ i, OkS (f i)) (hw : 0 < w) (hb : KBlk SL.fr g w 0 n) (hp : PermOn 0 n f g) : ∀ k, k * (2 * w) ≤ n → PasOk n w k f (pasM n w k g)
  | 0, _ => ⟨fun i j a b c => by omega, by rw [Nat.zero_mul]; exact hb, hp⟩
  | k + 1, h => by
    rw [Nat.succ_mul k (2 * w)] at h
    have ih := pasM_spec hn hf hw hb hp k (by omega)
    obtain ⟨s, p, _⟩ := symG_spec (ih.sym hn hf hw (b := k * (2 * w) + 2 * w) (by omega) (Nat.le_refl _) h)
    refine ⟨?_, ?_, ?_⟩
    · rw [Nat.succ_mul k (2 * w)]; exact KBlk.snoc (n := 0) SL.fr ih.s p s rfl (by omega) (Nat.le_refl _)
    · rw [Nat.succ_mul k (2 * w)]; exact KBlk.rest (k := 0) SL.fr ih.r p (by omega)
    · exact ih.p.trans (p.wide (by omega) h)
noncomputable def pasE (n w : Nat) (f : Nat → SL) : Nat → SL :=
  if n / (2 * w) * (2 * w) + w < n then symG n (n / (2 * w) * (2 * w)) (n / (2 * w) * (2 * w) + w) n (pasM n w (n / (2 * w)) f) else pasM n w (n / (2 * w)) f
theorem pasE_spec {n w : Nat} {f g : Nat → SL} (hn : n ≤ 1048576) (hf : ∀ i, OkS (f i)) (hw : 0 < w) (hb : KBlk SL.fr g w 0 n) (hp : PermOn 0 n f g) : KBlk SL.fr (pasE n w g) (2 * w) 0 n ∧ PermOn 0 n f (pasE n w g) := by
  have hk : n / (2 * w) * (2 * w) ≤ n := Nat.div_mul_le_self _ _
  have hk2 : n < n / (2 * w) * (2 * w) + 2 * w := by have := Nat.lt_div_mul_add (a := n) (b := 2 * w) (by omega); omega
  have ih := pasM_spec hn hf hw hb hp (n / (2 * w)) hk
  unfold pasE
  split
  · rename_i hc
    obtain ⟨s, p, _⟩ := symG_spec (ih.sym hn hf hw (b := n) hc (by omega) (Nat.le_refl _))
    exact ⟨KBlk.snoc (n := 0) SL.fr ih.s p s rfl (by omega) (by omega), ih.p.trans (p.wide (by omega) (Nat.le_refl _))⟩
  · rename_i hc
    have e : n / (2 * w) * (2 * w) = (2 * (n / (2 * w))) * w := by rw [← Nat.mul_assoc, Nat.mul_comm _ 2]
    exact ⟨KBlk.snoc (n := 0) SL.fr ih.s (PermOn.refl _ _ _) (ih.r.at SL.fr hw (Nat.le_refl _) e (by omega) (Nat.le_refl _)) rfl (by omega) (by omega), ih.p⟩
/-- Pass behind pass, each of twice the width. -/
noncomputable def outG (n : Nat) (f : Nat → SL) : Nat → (Nat → SL)
  | 0 => insA n f
  | t + 1 => pasE n (20 * 2 ^ t) (outG n f t)
theorem outG_spec {n : Nat} {f : Nat → SL} (hn : n ≤ 1048576) (hf : ∀ i, OkS (f i)) : ∀ t, KBlk SL.fr (outG n f t) (20 * 2 ^ t) 0 n ∧ PermOn 0 n f (outG n f t)
  | 0 => insA_spec n f
  | t + 1 => by
    obtain ⟨h1, h2⟩ := outG_spec hn hf t
    have hw : 0 < 20 * 2 ^ t := by have := Nat.two_pow_pos t; omega
    have := pasE_spec hn hf hw h1 h2
    rw [show 20 * 2 ^ (t + 1) = 2 * (20 * 2 ^ t) by rw [Nat.pow_succ]; omega]
    exact this
theorem stT_ex (n : Nat) : ∃ T, n ≤ 20 * 2 ^ T ∧ ∀ t, t < T → 20 * 2 ^ t < n := by
  have h : ∃ T, n ≤ 20 * 2 ^ T := ⟨n, by have : n < 2 ^ n := Nat.lt_two_pow_self; omega⟩
  have go : ∀ k, n ≤ 20 * 2 ^ k → ∃ T, n ≤ 20 * 2 ^ T ∧ ∀ t, t < T → 20 * 2 ^ t < n := by
    intro k
    induction k with
    | zero => exact fun h => ⟨0, h, fun t ht => by omega⟩
    | succ k ih =>
      intro h
      rcases Nat.lt_or_ge (20 * 2 ^ k) n with h1 | h1
      · refine ⟨k + 1, h, fun t ht => ?_⟩
        have : 2 ^ t ≤ 2 ^ k := Nat.pow_le_pow_right (by decide) (by omega)
        omega
      · exact ih h1
  exact go h.choose h.choose_spec
noncomputable def stT (n : Nat) : Nat := (stT_ex n).choose
/-- What the stable sort makes. -/
noncomputable def stG (n : Nat) (f : Nat → SL) : Nat → SL := outG n f (stT n)
theorem stG_spec {n : Nat} {f : Nat → SL} (hn : n ≤ 1048576) (hf : ∀ i, OkS (f i)) : KSrt SL.fr (stG n f) 0 n ∧ PermOn 0 n f (stG n f) := by
  obtain ⟨h1, h2⟩ := outG_spec hn hf (stT n)
  exact ⟨KBlk.all SL.fr h1 (stT_ex n).choose_spec.1, h2⟩
theorem div_lt {k w n K : Nat} (hK : K = n / w) (hw : 0 < w) (h : k * w + w ≤ n) : k < K := by
  rw [hK, Nat.lt_iff_add_one_le, Nat.le_div_iff_mul_le hw, Nat.succ_mul]; exact h
theorem div_ge {k w n K : Nat} (hK : K = n / w) (hw : 0 < w) (h : n < k * w + w) : K ≤ k := by
  rw [hK, Nat.div_le_iff_le_mul_add_pred hw]
  have := Nat.mul_comm w k
  omega
theorem sym_at (rs v n w k a c b : Nat) (f g : Nat → SL) (h : PasOk n w k f g) (hn : n ≤ 1048576) (hf : ∀ i, OkS (f i)) (hw : 0 < w) (ha : a = k * (2 * w)) (hc : c = a + w) (h1 : c < b) (h2 : b ≤ a + 2 * w) (h3 : b ≤ n) (m : AMem) (hm : rs < m.length) : Ctr Try.prog 89 [.one (.sl rs v 0 n), .one (.int .i64 (a : Int)), .one (.int .i64 (c : Int)), .one (.int .i64 (b : Int)), .one (.fn 63 [])] (m.set rs (rS v n (g))) (.tup []) (m.set rs (rS v n ((symG n a c b g)))) := by
  subst ha; subst hc
  exact (symG_spec (h.sym hn hf hw h1 h2 h3)).2.2 rs v m hm
theorem stable_c (rs v n : Nat) (f : Nat → SL) (m : AMem) (hr : m[rs]? = some (rS v n f)) (hf : ∀ i, OkS (f i)) (hn : n ≤ 1048576) : Ctr Try.prog 73 [.one (.sl rs v 0 n), .one (.int .i64 (n : Int)), .one (.fn 63 [])] m (.tup []) (m.set rs (rS v n (stG n f))) := by
  refine Ctr.enter Try.func73 rfl (by decide) (rs := []) (nt := 63) rfl rfl fun hwf Q hQ => ?_
  have lr := get_lt hr
  have gS := fun (l : AMem) (b : Blk) (e : l.length = m.length) => mk_self (m := m) (l := l) (r := rs) e lr b
  have sS := fun (l L : AMem) (e : l.length = m.length) => mk_olds (m := m) (l := l) (r := rs) e lr L
  have kS := fun (l L : AMem) (e : l.length = m.length) => mk_old (m := m) (l := l) (r := rs) e lr L
  have hr2 : m.set rs (rS v n f) = m := set_self hr
  have hwfM := fun g => rS_wf (m := m) (rs := rs) (v := v) (n := n) hwf g
  have okI := fun k => perm_ok hf (blkI_spec (n := k * 20) f k (Nat.le_refl _)).2
  have hset : ∀ g g' : Nat → SL, (m.set rs (rS v n g)).set rs (rS v n g') = m.set rs (rS v n g') := fun g g' => List.set_set ..
  obtain ⟨T, hT⟩ : ∃ T, T = stT n := ⟨_, rfl⟩
  have hT1 : n ≤ 20 * 2 ^ T := by rw [hT]; exact (stT_ex n).choose_spec.1
  have hT2 : ∀ t, t < T → 20 * 2 ^ t < n := by rw [hT]; exact (stT_ex n).choose_spec.2
  have hfin : stG n f = outG n f T := by rw [hT]; rfl
  obtain ⟨K0, hK0⟩ : ∃ K, K = n / 20 := ⟨_, rfl⟩
  obtain ⟨a0, ha0⟩ : ∃ K, K = K0 * 20 := ⟨_, rfl⟩
  have hst0 : m.set rs (rS v n (blkI 0 f)) = m := hr2
  have hA : outG n f 0 = insS SL.fr a0 (n - a0 - 1) (blkI K0 f) := by rw [ha0, hK0]; rfl
  
  iterate 2
    refine AW.seq_k fun K hK => ?_
    refine AW.region (by decide) ?_
    simp only [push_cast, simprocAttr, gS, sS, kS, rS, List.set_set, List.length_set, slC_vals]
    refine Thn_n ?_
    refine hK _ _ ?_
    clear hK K
  refine AW.seq_k fun K hK => ?_
  refine AW.block ?_
  refine AW.loopK [0, 1, 2, 6] (fun (q : Nat × Nat × Nat) => q.2.1 = q.1 * 20 ∧ q.2.2 = q.2.1 + 20 ∧ q.1 ≤ K0) (fun (q : Nat × Nat × Nat) => [(7, .one (.int .i64 (q.2.1 : Int))), (8, .one (.int .i64 (q.2.2 : Int)))]) (fun (q : Nat × Nat × Nat) => [(rs, rS v n (blkI q.1 f))]) (fun (q : Nat × Nat × Nat) => K0 - q.1) (0, 0, 20) ⟨rfl, rfl, Nat.zero_le _⟩ ?_ ?_ fun (q : Nat × Nat × Nat) hi4 => ?_
  · simp only [Keeps, Tm.get_cons, Nat.reduceEqDiff, ↓reduceIte, if_true, if_false, ite_true, ite_false, true_and, and_true, and_self, reduceCtorEq]; exact ⟨rfl, rfl⟩
  · exact hst0
  obtain ⟨k, a, b⟩ := q
  obtain ⟨i1, i2, i3⟩ := hi4
  simp only at i1 i2 i3
  try simp only [keepL, setAll, push_cast, simprocAttr, gS, sS, kS, rS, List.set_set, List.length_set, slC_vals]
  refine AW.seq_k fun K hK => ?_
  refine AW.seq_k fun K hK => ?_
  refine AW.region (by decide) ?_
  simp only [push_cast, simprocAttr, gS, sS, kS, rS, List.set_set, List.length_set, slC_vals]
  refine Thn_n ?_
  refine hK _ _ ?_
  clear hK K
  refine AW.cond rfl (fun h13 => ?_) (fun h13 => ?_)
  · have hle : b ≤ n := by have := of_decide_eq_true h13; omega
    have hkK : k < K0 := by omega
    obtain ⟨b2, hb2⟩ : ∃ z : Nat, z = b + 20 := ⟨_, rfl⟩
    have wb2 : IntKind.i64.wrap ((b : Int) + 20) = (b2 : Int) := by rw [wi (by omega)]; omega
    have hq : insS SL.fr a (b - a - 1) (blkI k f) = blkI (k + 1) f := by rw [show b - a - 1 = 19 by omega, i1]; rfl
    obtain ⟨nx, hnx, hnI, hnmu⟩ : ∃ nx : Nat × Nat × Nat, nx = (k + 1, b, b2) ∧ (nx.2.1 = nx.1 * 20 ∧ nx.2.2 = nx.2.1 + 20 ∧ nx.1 ≤ K0) ∧ K0 - nx.1 < K0 - k := ⟨_, rfl, ⟨by show b = (k + 1) * 20; omega, hb2, by show k + 1 ≤ K0; omega⟩, by show K0 - (k + 1) < K0 - k; omega⟩
    refine AW.skip ?_
    refine Thn_n ?_
    refine hK _ _ ?_
    clear hK K
    refine AW.block ?_
    refine AW.seq_k fun K hK => ?_
    refine AW.region (by decide) ?_
    simp only [push_cast, simprocAttr, gS, sS, kS, rS, List.set_set, List.length_set, slC_vals, wb2]
    refine CThen.by (ins_c rs v n (blkI k f) _ (mk_self rfl lr _) (okI k) hn a b hle (by omega)) ?_
    simp only [push_cast, simprocAttr, gS, sS, kS, rS, List.set_set, List.length_set, slC_vals, wb2]
    refine Thn_n ?_
    refine hK _ _ ?_
    clear hK K
    refine AW.seq_k fun K hK => ?_
    refine AW.region (by decide) ?_
    simp only [push_cast, simprocAttr, gS, sS, kS, rS, List.set_set, List.length_set, slC_vals, wb2]
    refine Thn_n ?_
    refine hK _ _ ?_
    clear hK K
    refine AW.region (by decide) ?_
    simp only [push_cast, simprocAttr, gS, sS, kS, rS, List.set_set, List.length_set, slC_vals, wb2]
    refine InB_n ?_
    refine Thn_n ?_
    refine ⟨nx, hnI, hnmu, ?_⟩
    try simp only [keepL, setAll, push_cast, simprocAttr, gS, sS, kS, rS, List.set_set, List.length_set, slC_vals, wb2, hnx, hq]
    exact Weak.same (by simp only [Keeps, Tm.get_cons, Nat.reduceEqDiff, ↓reduceIte, if_true, if_false, ite_true, ite_false, true_and, and_true, and_self, reduceCtorEq, hnx, hq]) (by first | rfl | simp only [Keeps, Tm.get_cons, Nat.reduceEqDiff, ↓reduceIte, if_true, if_false, ite_true, ite_false, true_and, and_true, and_self, reduceCtorEq, hnx, hq])
  · have hgt : n < b := by have := of_decide_eq_false h13; omega
    have hkK : K0 = k := by omega
    have haa : a0 = a := by omega
    subst hkK
    subst haa
    refine AW.exit ?_
    refine Thn_e ?_
    clear hK K
    refine Thn_e ?_
    refine InB_here ?_
    refine Thn_n ?_
    refine hK _ _ ?_
    clear hK K
    refine AW.seq_k fun K hK => ?_
    refine AW.region (by decide) ?_
    simp only [push_cast, simprocAttr, gS, sS, kS, rS, List.set_set, List.length_set, slC_vals]
    refine CThen.by (ins_c rs v n (blkI K0 f) _ (mk_self rfl lr _) (okI K0) hn a0 n (Nat.le_refl _) (by omega)) ?_
    simp only [push_cast, simprocAttr, gS, sS, kS, rS, List.set_set, List.length_set, slC_vals]
    refine Thn_n ?_
    refine hK _ _ ?_
    clear hK K
    refine AW.block ?_
    refine AW.loopK [0, 1, 2] (fun (q : Nat × Nat) => q.2 = 20 * 2 ^ q.1 ∧ q.1 ≤ T) (fun (q : Nat × Nat) => [(6, .one (.int .i64 (q.2 : Int)))]) (fun (q : Nat × Nat) => [(rs, rS v n (outG n f q.1))]) (fun (q : Nat × Nat) => T - q.1) (0, 20) ⟨rfl, Nat.zero_le _⟩ ?_ ?_ fun (q : Nat × Nat) hi10 => ?_
    · first | rfl | (simp only [Keeps, Tm.get_cons, Nat.reduceEqDiff, ↓reduceIte, if_true, if_false, ite_true, ite_false, true_and, and_true, and_self, reduceCtorEq, hA] <;> repeat' (first | rfl | apply And.intro))
    · first | rfl | (simp only [setAll, push_cast, simprocAttr, gS, sS, kS, rS, List.set_set, List.length_set, slC_vals, hA] <;> rfl)
    obtain ⟨t, w⟩ := q
    obtain ⟨i1, i2⟩ := hi10
    simp only at i1 i2
    have hw0 : 0 < 20 * 2 ^ t := by have := Nat.two_pow_pos t; omega
    have hw1 : 0 < w := by omega
    try simp only [keepL, setAll, push_cast, simprocAttr, gS, sS, kS, rS, List.set_set, List.length_set, slC_vals]
    refine AW.seq_k fun K hK => ?_
    refine AW.seq_k fun K hK => ?_
    refine AW.region (by decide) ?_
    simp only [push_cast, simprocAttr, gS, sS, kS, rS, List.set_set, List.length_set, slC_vals]
    refine Thn_n ?_
    refine hK _ _ ?_
    clear hK K
    refine AW.cond rfl (fun h30 => ?_) (fun h30 => ?_)
    · have hlt : w < n := by have := of_decide_eq_true h30; omega
      have htT : t < T := Classical.byContradiction fun hc => by
        have e : t = T := by omega
        rw [e] at i1; omega
      obtain ⟨w2, hw2⟩ : ∃ z : Nat, z = 2 * w := ⟨_, rfl⟩
      have ww2 : IntKind.i64.wrap (2 * (w : Int)) = (w2 : Int) := by rw [wi (by omega)]; omega
      have w2b : IntKind.i64.wrap ((w : Int) * 2) = (w2 : Int) := by rw [wi (by omega)]; omega
      obtain ⟨Kn, hKn⟩ : ∃ K, K = n / w2 := ⟨_, rfl⟩
      have hw20 : 0 < w2 := by omega
      have hP := pasM_spec hn hf hw0 (outG_spec hn hf t).1 (outG_spec hn hf t).2
      rw [← i1] at hP
      
      refine AW.skip ?_
      refine Thn_n ?_
      refine hK _ _ ?_
      clear hK K
      refine AW.block ?_
      refine AW.seq_k fun K hK => ?_
      refine AW.region (by decide) ?_
      simp only [push_cast, simprocAttr, gS, sS, kS, rS, List.set_set, List.length_set, slC_vals, ww2, w2b]
      refine Thn_n ?_
      refine hK _ _ ?_
      clear hK K
      refine AW.seq_k fun K hK => ?_
      refine AW.block ?_
      refine AW.loopK [0, 1, 2, 6] (fun (q : Nat × Nat × Nat) => q.2.1 = q.1 * w2 ∧ q.2.2 = q.2.1 + w2 ∧ q.1 ≤ Kn) (fun (q : Nat × Nat × Nat) => [(7, .one (.int .i64 (q.2.1 : Int))), (8, .one (.int .i64 (q.2.2 : Int)))]) (fun (q : Nat × Nat × Nat) => [(rs, rS v n (pasM n w q.1 (outG n f t)))]) (fun (q : Nat × Nat × Nat) => Kn - q.1) (0, 0, w2) ⟨by show 0 = 0 * w2; omega, by show w2 = 0 + w2; omega, Nat.zero_le _⟩ ?_ ?_ fun (q : Nat × Nat × Nat) hi15 => ?_
      · first | rfl | (simp only [Keeps, Tm.get_cons, Nat.reduceEqDiff, ↓reduceIte, if_true, if_false, ite_true, ite_false, true_and, and_true, and_self, reduceCtorEq, pasM] <;> repeat' (first | rfl | apply And.intro))
      · first | rfl | (simp only [setAll, push_cast, simprocAttr, gS, sS, kS, rS, List.set_set, List.length_set, slC_vals, ww2, w2b, pasM] <;> rfl)
      obtain ⟨k, a, b⟩ := q
      obtain ⟨j1, j2, j3⟩ := hi15
      simp only at j1 j2 j3
      have ea : a = k * (2 * w) := by rw [j1, hw2]
      have kb : k * w2 ≤ n := Nat.le_trans (Nat.mul_le_mul_right _ j3) (by rw [hKn]; exact Nat.div_mul_le_self n w2)
      have hPk := hP k (by rw [← hw2]; exact kb)
      obtain ⟨c, hc⟩ : ∃ z : Nat, z = a + w := ⟨_, rfl⟩
      have wc : IntKind.i64.wrap ((a : Int) + (w : Int)) = (c : Int) := by rw [wi (by omega)]; omega
      
      try simp only [keepL, setAll, push_cast, simprocAttr, gS, sS, kS, rS, List.set_set, List.length_set, slC_vals, ww2, w2b]
      refine AW.seq_k fun K hK => ?_
      refine AW.seq_k fun K hK => ?_
      refine AW.region (by decide) ?_
      simp only [push_cast, simprocAttr, gS, sS, kS, rS, List.set_set, List.length_set, slC_vals, ww2, w2b]
      refine Thn_n ?_
      refine hK _ _ ?_
      clear hK K
      refine AW.cond rfl (fun h35 => ?_) (fun h35 => ?_)
      · have hle : b ≤ n := by have := of_decide_eq_true h35; omega
        have hkK : k < Kn := div_lt hKn hw20 (by omega)
        obtain ⟨b2, hb2⟩ : ∃ z : Nat, z = b + w2 := ⟨_, rfl⟩
        have wb2 : IntKind.i64.wrap ((b : Int) + (w2 : Int)) = (b2 : Int) := by rw [wi (by omega)]; omega
        have hq : symG n a c b (pasM n w k (outG n f t)) = pasM n w (k + 1) (outG n f t) := by
          rw [hc, j2, ea, hw2]; rfl
        obtain ⟨nx, hnx, hnI, hnmu⟩ : ∃ nx : Nat × Nat × Nat, nx = (k + 1, b, b2) ∧ (nx.2.1 = nx.1 * w2 ∧ nx.2.2 = nx.2.1 + w2 ∧ nx.1 ≤ Kn) ∧ Kn - nx.1 < Kn - k := ⟨_, rfl, ⟨by show b = (k + 1) * w2; rw [Nat.succ_mul]; omega, hb2, by show k + 1 ≤ Kn; omega⟩, by show Kn - (k + 1) < Kn - k; omega⟩
        refine AW.skip ?_
        refine Thn_n ?_
        refine hK _ _ ?_
        clear hK K
        refine AW.block ?_
        refine AW.seq_k fun K hK => ?_
        refine AW.region (by decide) ?_
        simp only [push_cast, simprocAttr, gS, sS, kS, rS, List.set_set, List.length_set, slC_vals, ww2, w2b, wc, wb2]
        refine CThen.by ((by have h := sym_at rs v n w k a c b f _ hPk hn hf hw1 ea hc (by omega) (by omega) hle m lr; exact h)) ?_
        simp only [push_cast, simprocAttr, gS, sS, kS, rS, List.set_set, List.length_set, slC_vals, ww2, w2b, wc, wb2]
        refine Thn_n ?_
        refine hK _ _ ?_
        clear hK K
        refine AW.seq_k fun K hK => ?_
        refine AW.region (by decide) ?_
        simp only [push_cast, simprocAttr, gS, sS, kS, rS, List.set_set, List.length_set, slC_vals, ww2, w2b, wc, wb2]
        refine Thn_n ?_
        refine hK _ _ ?_
        clear hK K
        refine AW.region (by decide) ?_
        simp only [push_cast, simprocAttr, gS, sS, kS, rS, List.set_set, List.length_set, slC_vals, ww2, w2b, wc, wb2]
        refine InB_n ?_
        refine Thn_n ?_
        refine ⟨nx, hnI, hnmu, ?_⟩
        try simp only [keepL, setAll, push_cast, simprocAttr, gS, sS, kS, rS, List.set_set, List.length_set, slC_vals, ww2, w2b, wc, wb2, hnx, hq]
        exact Weak.same (by simp only [Keeps, Tm.get_cons, Nat.reduceEqDiff, ↓reduceIte, if_true, if_false, ite_true, ite_false, true_and, and_true, and_self, reduceCtorEq, hnx, hq]) (by first | rfl | simp only [Keeps, Tm.get_cons, Nat.reduceEqDiff, ↓reduceIte, if_true, if_false, ite_true, ite_false, true_and, and_true, and_self, reduceCtorEq, hnx, hq])
      · have hgt : n < b := by have := of_decide_eq_false h35; omega
        have hkK : Kn = k := Nat.le_antisymm (div_ge hKn hw20 (by omega)) j3
        have ekK : k = n / (2 * w) := by rw [← hkK, hKn, hw2]
        obtain ⟨nx, hnx, hnI, hnmu⟩ : ∃ nx : Nat × Nat, nx = (t + 1, w2) ∧ (nx.2 = 20 * 2 ^ nx.1 ∧ nx.1 ≤ T) ∧ T - nx.1 < T - t := ⟨_, rfl, ⟨by show w2 = 20 * 2 ^ (t + 1); rw [Nat.pow_succ]; omega, by show t + 1 ≤ T; omega⟩, by show T - (t + 1) < T - t; omega⟩
        refine AW.exit ?_
        refine Thn_e ?_
        clear hK K
        refine Thn_e ?_
        refine InB_here ?_
        refine Thn_n ?_
        refine hK _ _ ?_
        clear hK K
        refine AW.seq_k fun K hK => ?_
        iterate 2
          refine AW.seq_k fun K hK => ?_
          refine AW.region (by decide) ?_
          simp only [push_cast, simprocAttr, gS, sS, kS, rS, List.set_set, List.length_set, slC_vals, ww2, w2b, wc]
          refine Thn_n ?_
          refine hK _ _ ?_
          clear hK K
        refine AW.cond rfl (fun h54 => ?_) (fun h54 => ?_)
        · have hlt2 : c < n := by have := of_decide_eq_true h54; omega
          have hq : symG n a c n (pasM n w k (outG n f t)) = outG n f (t + 1) := by
            show _ = pasE n (20 * 2 ^ t) _
            unfold pasE
            rw [← i1, ← ekK, ← ea, ← hc, if_pos hlt2]
          refine AW.region (by decide) ?_
          simp only [push_cast, simprocAttr, gS, sS, kS, rS, List.set_set, List.length_set, slC_vals, ww2, w2b, wc]
          refine CThen.by ((by have h := sym_at rs v n w k a c n f _ hPk hn hf hw1 ea hc hlt2 (by omega) (Nat.le_refl _) m lr; exact h)) ?_
          simp only [push_cast, simprocAttr, gS, sS, kS, rS, List.set_set, List.length_set, slC_vals, ww2, w2b, wc]
          refine Thn_n ?_
          refine hK _ _ ?_
          clear hK K
          refine AW.region (by decide) ?_
          simp only [push_cast, simprocAttr, gS, sS, kS, rS, List.set_set, List.length_set, slC_vals, ww2, w2b, wc]
          refine InB_n ?_
          refine Thn_n ?_
          refine ⟨nx, hnI, hnmu, ?_⟩
          try simp only [keepL, setAll, push_cast, simprocAttr, gS, sS, kS, rS, List.set_set, List.length_set, slC_vals, ww2, w2b, wc, hnx, hq]
          exact Weak.same (by simp only [Keeps, Tm.get_cons, Nat.reduceEqDiff, ↓reduceIte, if_true, if_false, ite_true, ite_false, true_and, and_true, and_self, reduceCtorEq, hnx, hq]) (by first | rfl | simp only [Keeps, Tm.get_cons, Nat.reduceEqDiff, ↓reduceIte, if_true, if_false, ite_true, ite_false, true_and, and_true, and_self, reduceCtorEq, hnx, hq])
        · have hge2 : ¬ c < n := by have := of_decide_eq_false h54; omega
          have hq : pasM n w k (outG n f t) = outG n f (t + 1) := by
            show _ = pasE n (20 * 2 ^ t) _
            unfold pasE
            rw [← i1, ← ekK, ← ea, ← hc, if_neg hge2]
          refine AW.skip ?_
          refine Thn_n ?_
          refine hK _ _ ?_
          clear hK K
          refine AW.region (by decide) ?_
          simp only [push_cast, simprocAttr, gS, sS, kS, rS, List.set_set, List.length_set, slC_vals, ww2, w2b, wc]
          refine InB_n ?_
          refine Thn_n ?_
          refine ⟨nx, hnI, hnmu, ?_⟩
          try simp only [keepL, setAll, push_cast, simprocAttr, gS, sS, kS, rS, List.set_set, List.length_set, slC_vals, ww2, w2b, wc, hnx, hq]
          exact Weak.same (by simp only [Keeps, Tm.get_cons, Nat.reduceEqDiff, ↓reduceIte, if_true, if_false, ite_true, ite_false, true_and, and_true, and_self, reduceCtorEq, hnx, hq]) (by first | rfl | simp only [Keeps, Tm.get_cons, Nat.reduceEqDiff, ↓reduceIte, if_true, if_false, ite_true, ite_false, true_and, and_true, and_self, reduceCtorEq, hnx, hq])
    · have hge : n ≤ w := by have := of_decide_eq_false h30; omega
      have htT : T = t := Classical.byContradiction fun hc => by
        have := hT2 t (by omega)
        omega
      subst htT
      refine AW.exit ?_
      refine Thn_e ?_
      clear hK K
      refine Thn_e ?_
      refine InB_here ?_
      refine hQ _ _ _ ?_
      rw [hfin]
      first | refine RetP.dropM0 (by rw [List.length_set]) (by first | exact Or.inr rfl | exact Or.inl rfl) ?_ ?_ (hwfM _) | refine RetP.dropM (by rw [List.length_set]) (by first | exact Or.inr rfl | exact Or.inl rfl) ?_ ?_ (hwfM _)
      · rfl
      · rfl
      
theorem ssort_c (rs v n : Nat) (f : Nat → SL) (m : AMem) (hr : m[rs]? = some (rS v n f)) (hf : ∀ i, OkS (f i)) (hn : n ≤ 1048576) : Ctr Try.prog 62 [.one (.sl rs v 0 n), .one (.fn 63 [])] m (.tup []) (m.set rs (rS v n (stG n f))) := by
  refine Ctr.enter Try.func62 rfl (by decide) (rs := []) (nt := 9) rfl rfl fun hwf Q hQ => ?_
  have lr := get_lt hr
  have gS := fun (l : AMem) (b : Blk) (e : l.length = m.length) => mk_self (m := m) (l := l) (r := rs) e lr b
  have sS := fun (l L : AMem) (e : l.length = m.length) => mk_olds (m := m) (l := l) (r := rs) e lr L
  have kS := fun (l L : AMem) (e : l.length = m.length) => mk_old (m := m) (l := l) (r := rs) e lr L
  have hr2 : m.set rs (rS v n f) = m := set_self hr
  have hwfM := fun g => rS_wf (m := m) (rs := rs) (v := v) (n := n) hwf g
  
  refine AW.region (by decide) ?_
  simp only [push_cast, simprocAttr, gS, sS, kS, rS, List.set_set, List.length_set, slC_vals]
  refine CThen.by (stable_c rs v n f _ hr hf hn) ?_
  simp only [push_cast, simprocAttr, gS, sS, kS, rS, List.set_set, List.length_set, slC_vals]
  refine hQ _ _ _ ?_
  first | refine RetP.dropM0 (by rw [List.length_set]) (by first | exact Or.inr rfl | exact Or.inl rfl) ?_ ?_ (hwfM _) | refine RetP.dropM (by rw [List.length_set]) (by first | exact Or.inr rfl | exact Or.inl rfl) ?_ ?_ (hwfM _)
  · rfl
  · rfl
  
end Go.Proofs.Ytdkfbbjpblfclaa

set_option linter.unusedSimpArgs false
set_option linter.unusedVariables false
set_option maxRecDepth 100000
set_option maxHeartbeats 4000000
namespace Go.Proofs.Ytdkfbbjpblfclaa
open Go Go.Eng

/-- A vault: its slots, where its data begins, why it is dead. -/
structure VS where
  k : Nat
  f : Nat → SL
  data : Int
  dead : Int
def vtB (rd rl : Nat) (V : VS) : Blk := ⟨.fix, 77, 0, 0, [.ptr rd 0 0, .sl rl 0 0 V.k, .int .i64 V.data, .int .i64 V.dead]⟩
structure HasV (m : AMem) (rv rl rd : Nat) (V : VS) : Prop where
  v : m[rv]? = some (vtB rd rl V)
  l : m[rl]? = some (rS 0 V.k V.f)
theorem HasV.ne {m : AMem} {rv rl rd : Nat} {V : VS} (h : HasV m rv rl rd V) : rv ≠ rl := fun e => by
  have h1 := h.v; rw [e, h.l] at h1; simp [vtB, rS] at h1
theorem HasV.mono {m : AMem} {rv rl rd : Nat} {V : VS} (h : HasV m rv rl rd V) (x : AMem) : HasV (m ++ x) rv rl rd V := ⟨lk_old h.v x, lk_old h.l x⟩
def setV (m : AMem) (rv rl rd : Nat) (V : VS) : AMem := (m.set rv (vtB rd rl V)).set rl (rS 0 V.k V.f)
def needZ (x : Int) : Int := (max x 0 + 127) / 128
def slotsZ (x : Int) : Int := if x < 4 then 0 else min (x / 4) 512
theorem slotsZ_eq (x : Int) (h1 : -9223372036854775808 ≤ x) (h2 : x ≤ 9223372036854775807) : maxI 0 (minI (IntKind.i64.wrap (x.tdiv 4)) 512) = slotsZ x := by
  have hd : x.tdiv 4 = if x < 0 then -((-x) / 4) else x / 4 := by
    split
    · have e : (-(-x)).tdiv 4 = -((-x) / 4) := by rw [Int.neg_tdiv, Int.tdiv_eq_ediv_of_nonneg (by omega)]
      rwa [Int.neg_neg] at e
    · exact Int.tdiv_eq_ediv_of_nonneg (by omega)
  have h3 : IntKind.i64.wrap (x.tdiv 4) = x.tdiv 4 := wi (by rw [hd]; split <;> omega)
  rw [h3]
  unfold slotsZ maxI minI
  rw [hd]; (repeat' split) <;> omega
theorem needZ_eq (x : Int) (h : x ≤ 1099511627776) : IntKind.i64.wrap ((IntKind.i64.wrap (IntKind.i64.wrap (maxI x 0 + 128) - 1)).tdiv 128) = needZ x := by
  have e : maxI x 0 = max x 0 := by unfold maxI; (repeat' split) <;> omega
  rw [e, wi (x := max x 0 + 128) (by omega), wi (x := max x 0 + 128 - 1) (by omega), Int.tdiv_eq_ediv_of_nonneg (by omega), wi (by omega)]
  unfold needZ; omega
theorem slots_c (x : Int) (m : AMem) (h1 : -9223372036854775808 ≤ x) (h2 : x ≤ 9223372036854775807) : Ctr Try.prog 11 [.one (.int .i64 x)] m (.one (.int .i64 (slotsZ x))) m := by
  refine Ctr.enter Try.func11 rfl (by decide) (rs := [.tmp 2]) (nt := 7) rfl rfl fun hwf Q hQ => ?_
  have e := slotsZ_eq x h1 h2
  iterate 2
    refine AW.seq_k fun K hK => ?_
    refine AW.region (by decide) ?_
    simp only [push_cast, simprocAttr, e]
    refine Thn_n ?_
    refine hK _ _ ?_
    clear hK K
  refine AW.ret ?_
  refine hQ _ _ _ ?_
  first | refine RetP.drop0 (Or.inr rfl) ?_ ?_ hwf | refine RetP.drop (Or.inr rfl) ?_ ?_ hwf
  · simp only [resA, resOne, resTv, AV.tv, push_cast, simprocAttr, e]
  · rfl
theorem need_c (x : Int) (m : AMem) (hx : x ≤ 1099511627776) : Ctr Try.prog 12 [.one (.int .i64 x)] m (.one (.int .i64 (needZ x))) m := by
  refine Ctr.enter Try.func12 rfl (by decide) (rs := [.tmp 2]) (nt := 8) rfl rfl fun hwf Q hQ => ?_
  have e := needZ_eq x hx
  iterate 2
    refine AW.seq_k fun K hK => ?_
    refine AW.region (by decide) ?_
    simp only [push_cast, simprocAttr, e]
    refine Thn_n ?_
    refine hK _ _ ?_
    clear hK K
  refine AW.ret ?_
  refine hQ _ _ _ ?_
  first | refine RetP.drop0 (Or.inr rfl) ?_ ?_ hwf | refine RetP.drop (Or.inr rfl) ?_ ?_ hwf
  · simp only [resA, resOne, resTv, AV.tv, push_cast, simprocAttr, e]
  · rfl
theorem vup_c (rv rl rd : Nat) (V : VS) (m : AMem) (h : m[rv]? = some (vtB rd rl V)) : Ctr Try.prog 31 [.one (.ptr rv 0 0)] m (.one (.int .i64 V.dead)) m := by
  refine Ctr.enter Try.func31 rfl (by decide) (rs := [.tmp 2]) (nt := 9) rfl rfl fun hwf Q hQ => ?_
  refine AW.seq_k fun K hK => ?_
  refine AW.region (by decide) ?_
  simp only [push_cast, simprocAttr, h, vtB]
  refine Thn_n ?_
  refine hK _ _ ?_
  clear hK K
  refine AW.seq_k fun K hK => ?_
  refine AW.seq_k fun K hK => ?_
  refine AW.region (by decide) ?_
  simp only [push_cast, simprocAttr, h, vtB]
  refine Thn_n ?_
  refine hK _ _ ?_
  clear hK K
  refine AW.cond_f rfl ?_
  refine AW.skip ?_
  refine Thn_n ?_
  refine hK _ _ ?_
  clear hK K
  refine AW.seq_k fun K hK => ?_
  refine AW.region (by decide) ?_
  simp only [push_cast, simprocAttr, h, vtB]
  refine Thn_n ?_
  refine hK _ _ ?_
  clear hK K
  refine AW.ret ?_
  refine hQ _ _ _ ?_
  first | refine RetP.drop0 (Or.inr rfl) ?_ ?_ hwf | refine RetP.drop (Or.inr rfl) ?_ ?_ hwf
  · simp only [resA, resOne, resTv, AV.tv, push_cast, simprocAttr, h, vtB]
  · rfl
theorem vfail_c (rv rl rd : Nat) (V : VS) (e : Int) (m : AMem) (h : m[rv]? = some (vtB rd rl V)) (he : (e != 0) = true) : Ctr Try.prog 36 [.one (.ptr rv 0 0), .one (.int .i64 e)] m (.one (.int .i64 e)) (m.set rv (vtB rd rl { V with dead := e })) := by
  refine Ctr.enter Try.func36 rfl (by decide) (rs := [.tmp 4]) (nt := 12) rfl rfl fun hwf Q hQ => ?_
  have lv := get_lt h
  have sV := fun (l L : AMem) (e : l.length = m.length) => mk_olds (m := m) (l := l) (r := rv) e lv L
  have hw2 : MWf m.length (m.set rv (vtB rd rl { V with dead := e })) := MWf_setB hwf (by have := hwf _ (List.mem_of_getElem? h); simpa [vtB, Blk.below, CV.below, BK.below] using this) rfl
  refine AW.seq_k fun K hK => ?_
  refine AW.region (by decide) ?_
  simp only [push_cast, simprocAttr, h, vtB, sV, he]
  refine Thn_n ?_
  refine hK _ _ ?_
  clear hK K
  refine AW.seq_k fun K hK => ?_
  refine AW.seq_k fun K hK => ?_
  refine AW.region (by decide) ?_
  simp only [push_cast, simprocAttr, h, vtB, sV, he]
  refine Thn_n ?_
  refine hK _ _ ?_
  clear hK K
  refine AW.cond_t rfl ?_
  refine AW.region (by decide) ?_
  simp only [push_cast, simprocAttr, h, vtB, sV, he]
  refine Thn_n ?_
  refine hK _ _ ?_
  clear hK K
  refine AW.seq_k fun K hK => ?_
  refine AW.region (by decide) ?_
  simp only [push_cast, simprocAttr, h, vtB, sV, he]
  refine Thn_n ?_
  refine hK _ _ ?_
  clear hK K
  refine AW.ret ?_
  refine hQ _ _ _ ?_
  first | refine RetP.dropM0 (by rw [List.length_set]) (by first | exact Or.inr rfl | exact Or.inl rfl) ?_ ?_ hw2 | refine RetP.dropM (by rw [List.length_set]) (by first | exact Or.inr rfl | exact Or.inl rfl) ?_ ?_ hw2
  · rfl
  · rfl
theorem f1_no (s : SL) (key : List Int) (rk : Nat) (m : AMem) (hs : WfS s) (hk : key.length = 32) (hb : ∃ k ty ez, m[rk]? = some ⟨k, ty, 0, ez, u8l key⟩) (h : ¬ s.kind = 0) : Ctr Try.prog 51 [.agg (slC s), .one (.ptr rk 0 0)] m (.one (.bool (decide (s.key = key)))) m := by
  refine Ctr.enter Try.func51 rfl (by decide) (rs := [.tmp 3]) (nt := 13) rfl rfl fun hwf Q hQ => ?_
  obtain ⟨k, ty, ez, hb⟩ := hb
  have sl := slC_len hs
  have f0 := slC_0 s
  have f1 := slC_1 hs
  have hq := eqpn hs.k hk
  have kl : (u8l key).length = 32 := by rw [u8l_len]; exact hk
  have kt : (u8l key).take 32 = u8l key := List.take_of_length_le (by omega)
  have q0 : (s.kind != 0) = true := by simp [h]
  iterate 2
    refine AW.seq_k fun K hK => ?_
    refine AW.region (by decide) ?_
    simp only [push_cast, simprocAttr, hb, lk_old hb, sl, f0, f1, hq, kl, kt, q0]
    refine Thn_n ?_
    refine hK _ _ ?_
    clear hK K
  refine AW.ret ?_
  refine hQ _ _ _ ?_
  first | refine RetP.drop0 (Or.inr rfl) ?_ ?_ hwf | refine RetP.drop (Or.inr rfl) ?_ ?_ hwf
  · simp only [resA, resOne, resTv, AV.tv, push_cast, simprocAttr, hb, lk_old hb, sl, f0, f1, hq, kl, kt, q0]
  · rfl
theorem f1_z (s : SL) (key : List Int) (rk : Nat) (m : AMem) (hs : WfS s) (hk : key.length = 32) (hb : ∃ k ty ez, m[rk]? = some ⟨k, ty, 0, ez, u8l key⟩) (h : s.kind = 0) : Ctr Try.prog 51 [.agg (slC s), .one (.ptr rk 0 0)] m (.one (.bool false)) m := by
  refine Ctr.enter Try.func51 rfl (by decide) (rs := [.tmp 3]) (nt := 13) rfl rfl fun hwf Q hQ => ?_
  obtain ⟨k, ty, ez, hb⟩ := hb
  have sl := slC_len hs
  have f0 := slC_0 s
  have f1 := slC_1 hs
  have hq := eqpn hs.k hk
  have kl : (u8l key).length = 32 := by rw [u8l_len]; exact hk
  have kt : (u8l key).take 32 = u8l key := List.take_of_length_le (by omega)
  have q0 : (s.kind != 0) = false := by simp [h]
  iterate 2
    refine AW.seq_k fun K hK => ?_
    refine AW.region (by decide) ?_
    simp only [push_cast, simprocAttr, hb, lk_old hb, sl, f0, f1, hq, kl, kt, q0]
    refine Thn_n ?_
    refine hK _ _ ?_
    clear hK K
  refine AW.ret ?_
  refine hQ _ _ _ ?_
  first | refine RetP.drop0 (Or.inr rfl) ?_ ?_ hwf | refine RetP.drop (Or.inr rfl) ?_ ?_ hwf
  · simp only [resA, resOne, resTv, AV.tv, push_cast, simprocAttr, hb, lk_old hb, sl, f0, f1, hq, kl, kt, q0]
  · rfl
def fdB (key : List Int) (s : SL) : Bool := decide (¬ s.kind = 0) && decide (s.key = key)
theorem f1_c (s : SL) (key : List Int) (rk : Nat) (m : AMem) (hs : WfS s) (hk : key.length = 32) (hb : ∃ k ty ez, m[rk]? = some ⟨k, ty, 0, ez, u8l key⟩) : Ctr Try.prog 51 [.agg (slC s), .one (.ptr rk 0 0)] m (.one (.bool (fdB key s))) m := by
  unfold fdB
  by_cases h : s.kind = 0
  · rw [show decide (¬ s.kind = 0) = false by simp [h]]; exact f1_z s key rk m hs hk hb h
  · rw [show decide (¬ s.kind = 0) = true by simp [h], Bool.true_and]; exact f1_no s key rk m hs hk hb h
theorem p1_c (s : SL) (m : AMem) (hs : WfS s) : Ctr Try.prog 33 [.agg (slC s)] m (.one (.bool (s.kind == 0))) m := by
  refine Ctr.enter Try.func33 rfl (by decide) (rs := [.tmp 2]) (nt := 6) rfl rfl fun hwf Q hQ => ?_
  have sl := slC_len hs
  have f0 := slC_0 s
  iterate 2
    refine AW.seq_k fun K hK => ?_
    refine AW.region (by decide) ?_
    simp only [push_cast, simprocAttr, sl, f0]
    refine Thn_n ?_
    refine hK _ _ ?_
    clear hK K
  refine AW.ret ?_
  refine hQ _ _ _ ?_
  first | refine RetP.drop0 (Or.inr rfl) ?_ ?_ hwf | refine RetP.drop (Or.inr rfl) ?_ ?_ hwf
  · simp only [resA, resOne, resTv, AV.tv, push_cast, simprocAttr, sl, f0]
  · rfl
def fnd (p : SL → Bool) (f : Nat → SL) : Nat → Int
  | 0 => -1
  | k + 1 => if 0 ≤ fnd p f k then fnd p f k else if p (f k) = true then (k : Int) else -1
theorem fnd_stay {p : SL → Bool} {f : Nat → SL} {i : Nat} (h : 0 ≤ fnd p f i) : ∀ j, fnd p f (i + j) = fnd p f i
  | 0 => rfl
  | j + 1 => by
    have ih := fnd_stay h j
    show (if 0 ≤ fnd p f (i + j) then fnd p f (i + j) else _) = _
    rw [if_pos (by rw [ih]; exact h), ih]
theorem fnd_hit {p : SL → Bool} {f : Nat → SL} {i k : Nat} (h : fnd p f i < 0) (hp : p (f i) = true) (hk : i < k) : fnd p f k = (i : Int) := by
  have h1 : fnd p f (i + 1) = (i : Int) := by
    show (if 0 ≤ fnd p f i then _ else if p (f i) = true then (i : Int) else -1) = _
    rw [if_neg (by omega), if_pos hp]
  have := fnd_stay (p := p) (f := f) (i := i + 1) (by omega) (k - (i + 1))
  rwa [show i + 1 + (k - (i + 1)) = k by omega, h1] at this
theorem fnd_miss {p : SL → Bool} {f : Nat → SL} {i : Nat} (h : fnd p f i < 0) (hp : p (f i) = false) : fnd p f (i + 1) < 0 := by
  show (if 0 ≤ fnd p f i then fnd p f i else if p (f i) = true then (i : Int) else -1) < 0
  rw [if_neg (by omega), if_neg (by rw [hp]; decide)]; decide
theorem fnd_neg {p : SL → Bool} {f : Nat → SL} : ∀ {k : Nat}, fnd p f k < 0 → fnd p f k = -1 ∧ ∀ i, i < k → p (f i) = false
  | 0, _ => ⟨rfl, fun i h => by omega⟩
  | k + 1, h => by
    have e : fnd p f (k + 1) = (if 0 ≤ fnd p f k then fnd p f k else if p (f k) = true then (k : Int) else -1) := rfl
    rw [e] at h ⊢
    split at h
    · omega
    · rename_i h1
      obtain ⟨_, h3⟩ := fnd_neg (p := p) (f := f) (k := k) (by omega)
      split at h
      · omega
      · rename_i h2
        rw [if_neg h1, if_neg h2]
        exact ⟨rfl, fun i hi => by
          rcases Nat.lt_or_ge i k with c | c
          · exact h3 i c
          · rw [show i = k by omega]; simpa using h2⟩
theorem fnd_pos {p : SL → Bool} {f : Nat → SL} : ∀ {k : Nat}, 0 ≤ fnd p f k → ∃ i : Nat, i < k ∧ fnd p f k = (i : Int) ∧ p (f i) = true ∧ ∀ j, j < i → p (f j) = false
  | 0, h => by have : fnd p f 0 = -1 := rfl
               omega
  | k + 1, h => by
    have e : fnd p f (k + 1) = (if 0 ≤ fnd p f k then fnd p f k else if p (f k) = true then (k : Int) else -1) := rfl
    by_cases h1 : 0 ≤ fnd p f k
    · obtain ⟨i, a, b, c, d⟩ := fnd_pos h1
      exact ⟨i, by omega, by rw [e, if_pos h1, b], c, d⟩
    · rw [e, if_neg h1] at h ⊢
      by_cases h2 : p (f k) = true
      · exact ⟨k, by omega, by rw [if_pos h2], h2, (fnd_neg (by omega)).2⟩
      · rw [if_neg h2] at h; omega
theorem ixk_c (rl v k : Nat) (f : Nat → SL) (m : AMem) (hr : m[rl]? = some (rS v k f)) (hf : ∀ i, OkS (f i)) (hk : k ≤ 1048576) (key : List Int) (rk : Nat) (hkey : key.length = 32) (hb : ∃ k ty ez, m[rk]? = some ⟨k, ty, 0, ez, u8l key⟩) : Ctr Try.prog 32 [.one (.sl rl v 0 k), .one (.fn 51 [(rk, 0, 0)])] m (.one (.int .i64 (fnd (fdB key) f k))) m := by
  refine Ctr.enter Try.func32 rfl (by decide) (rs := [.tmp 4]) (nt := 19) rfl rfl fun hwf Q hQ => ?_
  have lr := get_lt hr
  have gl : (cC k f).length = k * 67 := cC_len hf k
  obtain ⟨p, hp⟩ : ∃ p : SL → Bool, p = (fdB key) := ⟨_, rfl⟩
  rw [← hp] at hQ
  refine AW.seq_k fun K hK => ?_
  refine AW.region (by decide) ?_
  simp only [push_cast, simprocAttr, hr, rS, gl]
  refine Thn_n ?_
  refine hK _ _ ?_
  clear hK K
  refine AW.seq_k fun K hK => ?_
  refine AW.seq_k fun K hK => ?_
  refine AW.region (by decide) ?_
  simp only [push_cast, simprocAttr, hr, rS, gl]
  refine Thn_n ?_
  refine hK _ _ ?_
  clear hK K
  refine AW.block ?_
  refine AW.loopK [0, 1, 7] (fun i => i ≤ k ∧ fnd p f i < 0) (fun i => [(8, .one (.int .i64 (i : Int)))]) (fun i => []) (fun i => k - i) 0 ⟨Nat.zero_le _, by show (-1 : Int) < 0; decide⟩ ?_ ?_ fun i hi4 => ?_
  · first | rfl | (simp only [Keeps, Tm.get_cons, Nat.reduceEqDiff, ↓reduceIte, if_true, if_false, ite_true, ite_false, true_and, and_true, and_self, reduceCtorEq] <;> repeat' (first | rfl | apply And.intro))
  · first | rfl | (simp only [setAll, push_cast, simprocAttr, hr, rS, gl] <;> rfl)
  obtain ⟨i1, i2⟩ := hi4
  try simp only [keepL, setAll, push_cast, simprocAttr, hr, rS, gl]
  refine AW.seq_k fun K hK => ?_
  refine AW.region (by decide) ?_
  simp only [push_cast, simprocAttr, hr, rS, gl]
  refine Thn_n ?_
  refine hK _ _ ?_
  clear hK K
  refine AW.seq_k fun K hK => ?_
  refine AW.cond rfl (fun h9 => ?_) (fun h9 => ?_)
  · have hlt : i < k := by have := of_decide_eq_true h9; omega
    have lxe := cC_at (n := k) (k := i) (f := f) hf hlt
    have lle := slC_len (hf i).w
    have c0e : (0 : Int) ≤ (i : Int) := by omega
    have c1e : (i : Int) < (k : Int) := by omega
    have c2e : i * 67 + 67 ≤ k * 67 := by omega
    
    refine AW.skip ?_
    refine Thn_n ?_
    refine hK _ _ ?_
    clear hK K
    refine AW.seq_k fun K hK => ?_
    refine AW.block ?_
    refine AW.seq_k fun K hK => ?_
    refine AW.region (by decide) ?_
    simp only [push_cast, simprocAttr, hr, rS, gl, lxe, lle, c0e, c1e, c2e]
    refine Thn_n ?_
    refine hK _ _ ?_
    clear hK K
    refine AW.seq_k fun K hK => ?_
    refine AW.region (by decide) ?_
    simp only [push_cast, simprocAttr, hr, rS, gl, lxe, lle, c0e, c1e, c2e]
    refine CThen.by (f1_c (f i) key rk _ (hf i).w hkey hb) ?_
    simp only [push_cast, simprocAttr, hr, rS, gl, lxe, lle, c0e, c1e, c2e]
    refine Thn_n ?_
    refine hK _ _ ?_
    clear hK K
    refine AW.cond rfl (fun h16 => ?_) (fun h16 => ?_)
    · have hit : p (f i) = true := by rw [hp]; exact h16
      have hres := fnd_hit i2 hit hlt
      refine AW.seq_k fun K hK => ?_
      refine AW.region (by decide) ?_
      simp only [push_cast, simprocAttr, hr, rS, gl, lxe, lle, c0e, c1e, c2e, hres]
      refine Thn_n ?_
      refine hK _ _ ?_
      clear hK K
      refine AW.ret ?_
      refine InB_r ?_
      refine Thn_r ?_
      refine Thn_r ?_
      refine InB_r ?_
      refine Thn_r ?_
      refine hQ _ _ _ ?_
      first | refine RetP.drop0 (Or.inr rfl) ?_ ?_ hwf | refine RetP.drop (Or.inr rfl) ?_ ?_ hwf
      · simp only [resA, resOne, resTv, AV.tv, push_cast, simprocAttr, hr, rS, gl, lxe, lle, c0e, c1e, c2e, hres]
      · rfl
    · have hm : p (f i) = false := by rw [hp]; exact h16
      refine AW.skip ?_
      refine InB_n ?_
      refine Thn_n ?_
      refine hK _ _ ?_
      clear hK K
      refine AW.region (by decide) ?_
      simp only [push_cast, simprocAttr, hr, rS, gl, lxe, lle, c0e, c1e, c2e]
      refine Thn_n ?_
      have hwi : IntKind.i64.wrap ((i:Int)+1) = (i:Int)+1 := wi (by omega)
      refine ⟨i + 1, ⟨by omega, fnd_miss i2 hm⟩, by omega, ?_⟩
      try simp only [keepL, setAll, push_cast, simprocAttr, hr, rS, gl, lxe, lle, c0e, c1e, c2e, hwi]
      exact Weak.same (by simp only [Keeps, Tm.get_cons, Nat.reduceEqDiff, ↓reduceIte, if_true, if_false, ite_true, ite_false, true_and, and_true, and_self, reduceCtorEq, hwi]) (by first | rfl | simp only [Keeps, Tm.get_cons, Nat.reduceEqDiff, ↓reduceIte, if_true, if_false, ite_true, ite_false, true_and, and_true, and_self, reduceCtorEq, hwi])
  · have hin : i = k := by have := of_decide_eq_false h9; omega
    subst hin
    have hend := (fnd_neg i2).1
    refine AW.exit ?_
    refine Thn_e ?_
    clear hK K
    refine Thn_e ?_
    refine InB_here ?_
    refine Thn_n ?_
    refine hK _ _ ?_
    clear hK K
    refine AW.seq_k fun K hK => ?_
    refine AW.region (by decide) ?_
    simp only [push_cast, simprocAttr, hr, rS, gl, hend]
    refine Thn_n ?_
    refine hK _ _ ?_
    clear hK K
    refine AW.ret ?_
    refine hQ _ _ _ ?_
    first | refine RetP.drop0 (Or.inr rfl) ?_ ?_ hwf | refine RetP.drop (Or.inr rfl) ?_ ?_ hwf
    · simp only [resA, resOne, resTv, AV.tv, push_cast, simprocAttr, hr, rS, gl, hend]
    · rfl
theorem ixz_c (rl v k : Nat) (f : Nat → SL) (m : AMem) (hr : m[rl]? = some (rS v k f)) (hf : ∀ i, OkS (f i)) (hk : k ≤ 1048576) : Ctr Try.prog 32 [.one (.sl rl v 0 k), .one (.fn 33 [])] m (.one (.int .i64 (fnd (fun s => s.kind == 0) f k))) m := by
  refine Ctr.enter Try.func32 rfl (by decide) (rs := [.tmp 4]) (nt := 19) rfl rfl fun hwf Q hQ => ?_
  have lr := get_lt hr
  have gl : (cC k f).length = k * 67 := cC_len hf k
  obtain ⟨p, hp⟩ : ∃ p : SL → Bool, p = (fun s => s.kind == 0) := ⟨_, rfl⟩
  rw [← hp] at hQ
  refine AW.seq_k fun K hK => ?_
  refine AW.region (by decide) ?_
  simp only [push_cast, simprocAttr, hr, rS, gl]
  refine Thn_n ?_
  refine hK _ _ ?_
  clear hK K
  refine AW.seq_k fun K hK => ?_
  refine AW.seq_k fun K hK => ?_
  refine AW.region (by decide) ?_
  simp only [push_cast, simprocAttr, hr, rS, gl]
  refine Thn_n ?_
  refine hK _ _ ?_
  clear hK K
  refine AW.block ?_
  refine AW.loopK [0, 1, 7] (fun i => i ≤ k ∧ fnd p f i < 0) (fun i => [(8, .one (.int .i64 (i : Int)))]) (fun i => []) (fun i => k - i) 0 ⟨Nat.zero_le _, by show (-1 : Int) < 0; decide⟩ ?_ ?_ fun i hi4 => ?_
  · first | rfl | (simp only [Keeps, Tm.get_cons, Nat.reduceEqDiff, ↓reduceIte, if_true, if_false, ite_true, ite_false, true_and, and_true, and_self, reduceCtorEq] <;> repeat' (first | rfl | apply And.intro))
  · first | rfl | (simp only [setAll, push_cast, simprocAttr, hr, rS, gl] <;> rfl)
  obtain ⟨i1, i2⟩ := hi4
  try simp only [keepL, setAll, push_cast, simprocAttr, hr, rS, gl]
  refine AW.seq_k fun K hK => ?_
  refine AW.region (by decide) ?_
  simp only [push_cast, simprocAttr, hr, rS, gl]
  refine Thn_n ?_
  refine hK _ _ ?_
  clear hK K
  refine AW.seq_k fun K hK => ?_
  refine AW.cond rfl (fun h9 => ?_) (fun h9 => ?_)
  · have hlt : i < k := by have := of_decide_eq_true h9; omega
    have lxe := cC_at (n := k) (k := i) (f := f) hf hlt
    have lle := slC_len (hf i).w
    have c0e : (0 : Int) ≤ (i : Int) := by omega
    have c1e : (i : Int) < (k : Int) := by omega
    have c2e : i * 67 + 67 ≤ k * 67 := by omega
    
    refine AW.skip ?_
    refine Thn_n ?_
    refine hK _ _ ?_
    clear hK K
    refine AW.seq_k fun K hK => ?_
    refine AW.block ?_
    refine AW.seq_k fun K hK => ?_
    refine AW.region (by decide) ?_
    simp only [push_cast, simprocAttr, hr, rS, gl, lxe, lle, c0e, c1e, c2e]
    refine Thn_n ?_
    refine hK _ _ ?_
    clear hK K
    refine AW.seq_k fun K hK => ?_
    refine AW.region (by decide) ?_
    simp only [push_cast, simprocAttr, hr, rS, gl, lxe, lle, c0e, c1e, c2e]
    refine CThen.by (p1_c (f i) _ (hf i).w) ?_
    simp only [push_cast, simprocAttr, hr, rS, gl, lxe, lle, c0e, c1e, c2e]
    refine Thn_n ?_
    refine hK _ _ ?_
    clear hK K
    refine AW.cond rfl (fun h16 => ?_) (fun h16 => ?_)
    · have hit : p (f i) = true := by rw [hp]; exact h16
      have hres := fnd_hit i2 hit hlt
      refine AW.seq_k fun K hK => ?_
      refine AW.region (by decide) ?_
      simp only [push_cast, simprocAttr, hr, rS, gl, lxe, lle, c0e, c1e, c2e, hres]
      refine Thn_n ?_
      refine hK _ _ ?_
      clear hK K
      refine AW.ret ?_
      refine InB_r ?_
      refine Thn_r ?_
      refine Thn_r ?_
      refine InB_r ?_
      refine Thn_r ?_
      refine hQ _ _ _ ?_
      first | refine RetP.drop0 (Or.inr rfl) ?_ ?_ hwf | refine RetP.drop (Or.inr rfl) ?_ ?_ hwf
      · simp only [resA, resOne, resTv, AV.tv, push_cast, simprocAttr, hr, rS, gl, lxe, lle, c0e, c1e, c2e, hres]
      · rfl
    · have hm : p (f i) = false := by rw [hp]; exact h16
      refine AW.skip ?_
      refine InB_n ?_
      refine Thn_n ?_
      refine hK _ _ ?_
      clear hK K
      refine AW.region (by decide) ?_
      simp only [push_cast, simprocAttr, hr, rS, gl, lxe, lle, c0e, c1e, c2e]
      refine Thn_n ?_
      have hwi : IntKind.i64.wrap ((i:Int)+1) = (i:Int)+1 := wi (by omega)
      refine ⟨i + 1, ⟨by omega, fnd_miss i2 hm⟩, by omega, ?_⟩
      try simp only [keepL, setAll, push_cast, simprocAttr, hr, rS, gl, lxe, lle, c0e, c1e, c2e, hwi]
      exact Weak.same (by simp only [Keeps, Tm.get_cons, Nat.reduceEqDiff, ↓reduceIte, if_true, if_false, ite_true, ite_false, true_and, and_true, and_self, reduceCtorEq, hwi]) (by first | rfl | simp only [Keeps, Tm.get_cons, Nat.reduceEqDiff, ↓reduceIte, if_true, if_false, ite_true, ite_false, true_and, and_true, and_self, reduceCtorEq, hwi])
  · have hin : i = k := by have := of_decide_eq_false h9; omega
    subst hin
    have hend := (fnd_neg i2).1
    refine AW.exit ?_
    refine Thn_e ?_
    clear hK K
    refine Thn_e ?_
    refine InB_here ?_
    refine Thn_n ?_
    refine hK _ _ ?_
    clear hK K
    refine AW.seq_k fun K hK => ?_
    refine AW.region (by decide) ?_
    simp only [push_cast, simprocAttr, hr, rS, gl, hend]
    refine Thn_n ?_
    refine hK _ _ ?_
    clear hK K
    refine AW.ret ?_
    refine hQ _ _ _ ?_
    first | refine RetP.drop0 (Or.inr rfl) ?_ ?_ hwf | refine RetP.drop (Or.inr rfl) ?_ ?_ hwf
    · simp only [resA, resOne, resTv, AV.tv, push_cast, simprocAttr, hr, rS, gl, hend]
    · rfl
end Go.Proofs.Ytdkfbbjpblfclaa

set_option linter.unusedSimpArgs false
set_option linter.unusedVariables false
set_option maxRecDepth 100000
set_option maxHeartbeats 4000000
namespace Go.Proofs.Ytdkfbbjpblfclaa
open Go Go.Eng

theorem find_c (rv rl rd : Nat) (V : VS) (m : AMem) (h : HasV m rv rl rd V) (hf : ∀ i, OkS (V.f i)) (hk : V.k ≤ 512) (key : List Int) (hkey : key.length = 32) : Ctr Try.prog 28 [.one (.ptr rv 0 0), .agg (u8l key)] m (.one (.int .i64 (fnd (fdB key) V.f V.k))) m := by
  refine Ctr.enter Try.func28 rfl (by decide) (rs := [.tmp 4]) (nt := 11) rfl rfl fun hwf Q hQ => ?_
  have hv := h.v
  have hl := h.l
  have lv := get_lt hv
  have ll := get_lt hl
  have gl : (cC V.k V.f).length = V.k * 67 := cC_len hf V.k
  
  refine AW.seq_k fun K hK => ?_
  refine AW.region (by decide) ?_
  simp only [push_cast, simprocAttr, hv, hl, lk_old hv, lk_old hl, vtB, rS, gl]
  refine Thn_n ?_
  refine hK _ _ ?_
  clear hK K
  refine AW.seq_k fun K hK => ?_
  refine AW.region (by decide) ?_
  simp only [push_cast, simprocAttr, hv, hl, lk_old hv, lk_old hl, vtB, rS, gl]
  refine CThen.by (ixk_c rl 0 V.k V.f _ (lk_old hl _) hf (by omega) key m.length hkey ⟨.fix, _, 0, by rw [lk_app0]; rfl⟩) ?_
  simp only [push_cast, simprocAttr, hv, hl, lk_old hv, lk_old hl, vtB, rS, gl]
  refine Thn_n ?_
  refine hK _ _ ?_
  clear hK K
  refine AW.ret ?_
  refine hQ _ _ _ ?_
  first | refine RetP.drop0 (Or.inr rfl) ?_ ?_ hwf | refine RetP.drop (Or.inr rfl) ?_ ?_ hwf
  · simp only [resA, resOne, resTv, AV.tv, push_cast, simprocAttr, hv, hl, lk_old hv, lk_old hl, vtB, rS, gl]
  · rfl
def tkP (s : SL) : Bool := decide (¬ s.kind = 0) && decide (0 < s.size)
def tkL (f : Nat → SL) : Nat → List SL
  | 0 => []
  | i + 1 => if tkP (f i) = true then tkL f i ++ [f i] else tkL f i
def gL (l : List SL) : Nat → SL := fun x => l.getD x zS
theorem zS_ok : OkS zS := ⟨zS_wf, by decide, by decide, by decide, by decide⟩
theorem gL_ok {l : List SL} (h : ∀ s, s ∈ l → OkS s) : ∀ i, OkS (gL l i) := fun i => by
  unfold gL
  rw [List.getD_eq_getElem?_getD]
  cases e : l[i]? with
  | none => exact zS_ok
  | some s => exact h s (List.mem_of_getElem? e)
theorem gL_snoc (l : List SL) (s : SL) : cC l.length (gL l) ++ slC s = cC (l.length + 1) (gL (l ++ [s])) := by
  unfold cC
  rw [catC_snoc]
  refine catC_congr fun i hi => ?_
  show (if i = l.length then slC s else slC (gL l i)) = slC (gL (l ++ [s]) i)
  unfold gL
  rw [List.getD_eq_getElem?_getD, List.getD_eq_getElem?_getD]
  split
  · rename_i e; subst e; rw [List.getElem?_append_right (Nat.le_refl _), Nat.sub_self]; rfl
  · rw [List.getElem?_append_left (by omega)]
theorem tkL_mem {f : Nat → SL} {s : SL} : ∀ {n : Nat}, s ∈ tkL f n ↔ ∃ i, i < n ∧ f i = s ∧ tkP s = true
  | 0 => ⟨fun h => (by cases h), fun ⟨i, h, _⟩ => (by omega)⟩
  | n + 1 => by
    have ih := tkL_mem (f := f) (s := s) (n := n)
    unfold tkL
    constructor
    · intro h
      split at h
      · rename_i hp
        rcases List.mem_append.1 h with h | h
        · obtain ⟨i, a, b, c⟩ := ih.1 h
          exact ⟨i, by omega, b, c⟩
        · obtain rfl := List.mem_singleton.1 h
          exact ⟨n, by omega, rfl, hp⟩
      · obtain ⟨i, a, b, c⟩ := ih.1 h
        exact ⟨i, by omega, b, c⟩
    · rintro ⟨i, a, b, c⟩
      rcases Nat.lt_or_ge i n with h1 | h1
      · have := ih.2 ⟨i, h1, b, c⟩
        split
        · exact List.mem_append_left _ this
        · exact this
      · rw [show i = n by omega] at b
        rw [if_pos (by rw [b]; exact c), b]
        exact List.mem_append_right _ (List.mem_singleton_self _)
theorem tkL_len (f : Nat → SL) : ∀ n, (tkL f n).length ≤ n
  | 0 => Nat.le_refl _
  | n + 1 => by
    have := tkL_len f n
    unfold tkL
    split
    · rw [List.length_append, List.length_singleton]; omega
    · omega
def VS.tk (V : VS) : List SL := tkL V.f V.k
/-- The slots whose bytes take blocks, by where they begin. -/
noncomputable def VS.tg (V : VS) : Nat → SL := stG V.tk.length (gL V.tk)
theorem tkL_ok {f : Nat → SL} (h : ∀ i, OkS (f i)) (n : Nat) : ∀ s, s ∈ tkL f n → OkS s := fun s hs => by
  obtain ⟨i, _, rfl, _⟩ := tkL_mem.1 hs
  exact h i
theorem tkP_z {s : SL} (h : s.kind = 0) : tkP s = false := by simp [tkP, h]
theorem tkP_n {s : SL} (h : ¬ s.kind = 0) : tkP s = decide (0 < s.size) := by simp [tkP, h]
theorem taken_c (rv rl rd : Nat) (V : VS) (m : AMem) (h : HasV m rv rl rd V) (hf : ∀ i, OkS (V.f i)) (hk : V.k ≤ 512) : Ctr Try.prog 40 [.one (.ptr rv 0 0)] m (.one (.sl m.length 0 0 V.tk.length)) (m ++ [rS 0 V.tk.length V.tg]) := by
  refine Ctr.enter Try.func40 rfl (by decide) (rs := [.tmp 2]) (nt := 31) rfl rfl fun hwf Q hQ => ?_
  have hv := h.v
  have hl := h.l
  have lv := get_lt hv
  have ll := get_lt hl
  have gl : (cC V.k V.f).length = V.k * 67 := cC_len hf V.k
  have hlt0 : ∀ k, ¬ m.length + k < m.length := fun k => by omega
  have sl := fun i => slC_len (hf i).w
  have f0 := fun i => slC_0 (V.f i)
  have zb := fun i => zb0 (sl i)
  have t67 := fun i => slC_take (hf i).w
  have f3 := fun i => slC_3 (hf i).w
  have tL := tkL_len V.f
  
  iterate 2
    refine AW.seq_k fun K hK => ?_
    refine AW.region (by decide) ?_
    simp only [push_cast, simprocAttr, hv, hl, lk_old hv, lk_old hl, vtB, rS, gl, sl, f0, f3, zb, t67, slC_vals]
    refine Thn_n ?_
    refine hK _ _ ?_
    clear hK K
  refine AW.seq_k fun K hK => ?_
  refine AW.seq_k fun K hK => ?_
  refine AW.region (by decide) ?_
  simp only [push_cast, simprocAttr, hv, hl, lk_old hv, lk_old hl, vtB, rS, gl, sl, f0, f3, zb, t67, slC_vals]
  refine Thn_n ?_
  refine hK _ _ ?_
  clear hK K
  refine AW.block ?_
  refine AW.nilTm 82 67 3 rfl ?_
  try simp only [push_cast, simprocAttr, hv, hl, lk_old hv, lk_old hl, vtB, rS, gl, sl, f0, f3, zb, t67, slC_vals]
  refine AW.loopK [9, 10] (fun i => i ≤ V.k) (fun i => [(3, .one (.sl m.length (tkL V.f i).length 0 (tkL V.f i).length)), (11, .one (.int .i64 (i : Int)))]) (fun i => [(m.length, rS (tkL V.f i).length (tkL V.f i).length (gL (tkL V.f i)))]) (fun i => V.k - i) 0 (by omega) ?_ ?_ fun i hi5 => ?_
  · first | rfl | (simp only [Keeps, Tm.get_cons, Nat.reduceEqDiff, ↓reduceIte, if_true, if_false, ite_true, ite_false, true_and, and_true, and_self, reduceCtorEq, tkL] <;> repeat' (first | rfl | apply And.intro))
  · first | rfl | (simp only [setAll, push_cast, simprocAttr, hv, hl, lk_old hv, lk_old hl, vtB, rS, gl, sl, f0, f3, zb, t67, slC_vals, tkL] <;> rfl)
  try simp only [keepL, setAll, push_cast, simprocAttr, hv, hl, lk_old hv, lk_old hl, vtB, rS, gl, sl, f0, f3, zb, t67, slC_vals]
  refine AW.seq_k fun K hK => ?_
  refine AW.region (by decide) ?_
  simp only [push_cast, simprocAttr, hv, hl, lk_old hv, lk_old hl, vtB, rS, gl, sl, f0, f3, zb, t67, slC_vals]
  refine Thn_n ?_
  refine hK _ _ ?_
  clear hK K
  refine AW.seq_k fun K hK => ?_
  refine AW.cond rfl (fun h12 => ?_) (fun h12 => ?_)
  · have hlt : i < V.k := by have := of_decide_eq_true h12; omega
    have lx := cC_at (n := V.k) (f := V.f) hf hlt
    have c0 : (0 : Int) ≤ (i : Int) := by omega
    have c1 : (i : Int) < (V.k : Int) := by omega
    have c2 : i * 67 + 67 ≤ V.k * 67 := by omega
    refine AW.skip ?_
    refine Thn_n ?_
    refine hK _ _ ?_
    clear hK K
    refine AW.seq_k fun K hK => ?_
    refine AW.block ?_
    refine AW.seq_k fun K hK => ?_
    refine AW.region (by decide) ?_
    simp only [push_cast, simprocAttr, hv, hl, lk_old hv, lk_old hl, vtB, rS, gl, sl, f0, f3, zb, t67, slC_vals, lx, c0, c1, c2]
    refine Thn_n ?_
    refine hK _ _ ?_
    clear hK K
    refine AW.seq_k fun K hK => ?_
    refine AW.viaJ [3, 5, 9, 10, 11] [(22, .one (.bool (tkP (V.f i))))] [] ?_ ?_
    · rcases Classical.em ((V.f i).kind = 0) with kz | kz
      · have q0 : ((V.f i).kind != 0) = false := by simp [kz]
        have ht := tkP_z kz
        refine AW.region (by decide) ?_
        simp only [push_cast, simprocAttr, hv, hl, lk_old hv, lk_old hl, vtB, rS, gl, sl, f0, f3, zb, t67, slC_vals, lx, c0, c1, c2, q0]
        refine Thn_n ?_
        try simp only [keepL, setAll, push_cast, simprocAttr, hv, hl, lk_old hv, lk_old hl, vtB, rS, gl, sl, f0, f3, zb, t67, slC_vals, lx, c0, c1, c2, q0, ht]
        exact Weak.same (by simp only [Keeps, Tm.get_cons, Nat.reduceEqDiff, ↓reduceIte, if_true, if_false, ite_true, ite_false, true_and, and_true, and_self, reduceCtorEq, ht]) (by first | rfl | simp only [Keeps, Tm.get_cons, Nat.reduceEqDiff, ↓reduceIte, if_true, if_false, ite_true, ite_false, true_and, and_true, and_self, reduceCtorEq, ht])
      · have q0 : ((V.f i).kind != 0) = true := by simp [kz]
        have ht := tkP_n kz
        refine AW.region (by decide) ?_
        simp only [push_cast, simprocAttr, hv, hl, lk_old hv, lk_old hl, vtB, rS, gl, sl, f0, f3, zb, t67, slC_vals, lx, c0, c1, c2, q0]
        refine Thn_n ?_
        try simp only [keepL, setAll, push_cast, simprocAttr, hv, hl, lk_old hv, lk_old hl, vtB, rS, gl, sl, f0, f3, zb, t67, slC_vals, lx, c0, c1, c2, q0, ht]
        exact Weak.same (by simp only [Keeps, Tm.get_cons, Nat.reduceEqDiff, ↓reduceIte, if_true, if_false, ite_true, ite_false, true_and, and_true, and_self, reduceCtorEq, ht]) (by first | rfl | simp only [Keeps, Tm.get_cons, Nat.reduceEqDiff, ↓reduceIte, if_true, if_false, ite_true, ite_false, true_and, and_true, and_self, reduceCtorEq, ht])
    try simp only [keepL, setAll, push_cast, simprocAttr, hv, hl, lk_old hv, lk_old hl, vtB, rS, gl, sl, f0, f3, zb, t67, slC_vals, lx, c0, c1, c2]
    refine Thn_n ?_
    refine hK _ _ ?_
    clear hK K
    refine AW.cond rfl (fun h22 => ?_) (fun h22 => ?_)
    · have hnx : tkL V.f (i + 1) = tkL V.f i ++ [V.f i] := by rw [tkL, if_pos h22]
      have hap := gL_snoc (tkL V.f i) (V.f i)
      have tl := tL i
      have glL : (cC (tkL V.f i).length (gL (tkL V.f i))).length = (tkL V.f i).length * 67 := cC_len (gL_ok (tkL_ok hf i)) _
      have q1 : (tkL V.f i).length ≤ 140737488355327 := by omega
      have q2 : ((tkL V.f i).length + 1) * 88 ≤ 140737488355328 := by omega
      refine AW.region (by decide) ?_
      simp only [push_cast, simprocAttr, hv, hl, lk_old hv, lk_old hl, vtB, rS, gl, sl, f0, f3, zb, t67, slC_vals, lx, c0, c1, c2, q1, q2, glL]
      refine InB_n ?_
      refine Thn_n ?_
      refine hK _ _ ?_
      clear hK K
      refine AW.region (by decide) ?_
      simp only [push_cast, simprocAttr, hv, hl, lk_old hv, lk_old hl, vtB, rS, gl, sl, f0, f3, zb, t67, slC_vals, lx, c0, c1, c2, q1, q2, glL]
      refine Thn_n ?_
      have hwi : IntKind.i64.wrap ((i:Int)+1) = (i:Int)+1 := wi (by omega)
      refine ⟨i + 1, by omega, by omega, ?_⟩
      try simp only [keepL, setAll, push_cast, simprocAttr, hv, hl, lk_old hv, lk_old hl, vtB, rS, gl, sl, f0, f3, zb, t67, slC_vals, lx, c0, c1, c2, q1, q2, glL, hwi, hnx, hap]
      first
        | exact Weak.to (extra := [_, _]) (by simp only [Keeps, Tm.get_cons, Nat.reduceEqDiff, ↓reduceIte, if_true, if_false, ite_true, ite_false, true_and, and_true, and_self, reduceCtorEq, hwi, hnx, hap]) (by first | rfl | (simp only [List.append_assoc, List.cons_append, List.nil_append]; rfl)) (by first | rfl | (simp [AV.below, CV.below]; done) | (simp [AV.below, CV.below]; omega)) (by first | exact hwf | exact MWf.app (hwf.grow (by simp)) (MWf_one (cC_below _ _ _)))
        | exact Weak.to (extra := [_]) (by simp only [Keeps, Tm.get_cons, Nat.reduceEqDiff, ↓reduceIte, if_true, if_false, ite_true, ite_false, true_and, and_true, and_self, reduceCtorEq, hwi, hnx, hap]) (by first | rfl | (simp only [List.append_assoc, List.cons_append, List.nil_append]; rfl)) (by first | rfl | (simp [AV.below, CV.below]; done) | (simp [AV.below, CV.below]; omega)) (by first | exact hwf | exact MWf.app (hwf.grow (by simp)) (MWf_one (cC_below _ _ _)))
    · have hnx : tkL V.f (i + 1) = tkL V.f i := by rw [tkL, if_neg (by rw [h22]; decide)]
      have hap := True.intro
      refine AW.skip ?_
      refine InB_n ?_
      refine Thn_n ?_
      refine hK _ _ ?_
      clear hK K
      refine AW.region (by decide) ?_
      simp only [push_cast, simprocAttr, hv, hl, lk_old hv, lk_old hl, vtB, rS, gl, sl, f0, f3, zb, t67, slC_vals, lx, c0, c1, c2]
      refine Thn_n ?_
      have hwi : IntKind.i64.wrap ((i:Int)+1) = (i:Int)+1 := wi (by omega)
      refine ⟨i + 1, by omega, by omega, ?_⟩
      try simp only [keepL, setAll, push_cast, simprocAttr, hv, hl, lk_old hv, lk_old hl, vtB, rS, gl, sl, f0, f3, zb, t67, slC_vals, lx, c0, c1, c2, hwi, hnx, hap]
      first
        | exact Weak.to (extra := [_, _]) (by simp only [Keeps, Tm.get_cons, Nat.reduceEqDiff, ↓reduceIte, if_true, if_false, ite_true, ite_false, true_and, and_true, and_self, reduceCtorEq, hwi, hnx, hap]) (by first | rfl | (simp only [List.append_assoc, List.cons_append, List.nil_append]; rfl)) (by first | rfl | (simp [AV.below, CV.below]; done) | (simp [AV.below, CV.below]; omega)) (by first | exact hwf | exact MWf.app (hwf.grow (by simp)) (MWf_one (cC_below _ _ _)))
        | exact Weak.to (extra := [_]) (by simp only [Keeps, Tm.get_cons, Nat.reduceEqDiff, ↓reduceIte, if_true, if_false, ite_true, ite_false, true_and, and_true, and_self, reduceCtorEq, hwi, hnx, hap]) (by first | rfl | (simp only [List.append_assoc, List.cons_append, List.nil_append]; rfl)) (by first | rfl | (simp [AV.below, CV.below]; done) | (simp [AV.below, CV.below]; omega)) (by first | exact hwf | exact MWf.app (hwf.grow (by simp)) (MWf_one (cC_below _ _ _)))
  · have hin : i = V.k := by have := of_decide_eq_false h12; omega
    subst hin
    refine AW.exit ?_
    refine Thn_e ?_
    clear hK K
    refine Thn_e ?_
    refine InB_here ?_
    refine Thn_n ?_
    refine hK _ _ ?_
    clear hK K
    refine AW.seq_k fun K hK => ?_
    refine AW.region (by decide) ?_
    simp only [push_cast, simprocAttr, hv, hl, lk_old hv, lk_old hl, vtB, rS, gl, sl, f0, f3, zb, t67, slC_vals]
    refine CThen.by (ssort_c m.length V.tk.length V.tk.length (gL V.tk) _ (by rw [lk_app0]; rfl) (gL_ok (tkL_ok hf V.k)) (by have := tL V.k; show (tkL V.f V.k).length ≤ _; omega)) ?_
    simp only [push_cast, simprocAttr, hv, hl, lk_old hv, lk_old hl, vtB, rS, gl, sl, f0, f3, zb, t67, slC_vals]
    refine Thn_n ?_
    refine hK _ _ ?_
    clear hK K
    refine AW.seq_k fun K hK => ?_
    refine AW.region (by decide) ?_
    simp only [push_cast, simprocAttr, hv, hl, lk_old hv, lk_old hl, vtB, rS, gl, sl, f0, f3, zb, t67, slC_vals]
    refine Thn_n ?_
    refine hK _ _ ?_
    clear hK K
    refine AW.ret ?_
    refine hQ _ _ _ ?_
    have etk : tkL V.f V.k = V.tk := rfl
    have etg : stG V.tk.length (gL V.tk) = V.tg := rfl
    refine RetP.pick [(m.length, V.tk.length)] (Or.inr rfl) ?_ ?_ ?_ hwf ?_
    · simp only [resA, resOne, resTv, AV.tv, push_cast, simprocAttr, etk]
      simp [renV, renT, renL, renC, renIdx, hlt0]
    · simp only [picks, push_cast, simprocAttr, etk, etg, rS]
    · simp [distinctFrom]
    · exact MWf_one (cC_below _ _ _)
    
end Go.Proofs.Ytdkfbbjpblfclaa

set_option linter.unusedSimpArgs false
set_option linter.unusedVariables false
set_option maxRecDepth 100000
set_option maxHeartbeats 4000000
namespace Go.Proofs.Ytdkfbbjpblfclaa
open Go Go.Eng

theorem needZ_nat {x : Int} {N : Nat} (h : (N : Int) = needZ x) (h0 : 0 ≤ x) : x ≤ (N : Int) * 128 ∧ (N : Int) * 128 < x + 128 := by
  unfold needZ at h; omega
def datL (D : DS) (k : Nat) (N : Nat) : List Int := catB N fun i => vis D.S D.E (k + i)
theorem visD_len {n : Nat} {D : DS} (h : WfD n D) (k : Nat) : (vis D.S D.E k).length = 128 := vis_len h.s h.e k
theorem datL_len {n : Nat} {D : DS} (h : WfD n D) (k N : Nat) : (datL D k N).length = N * 128 := catB_len (fun i => visD_len h _) N
theorem load_c (rv rl rd : Nat) (V : VS) (s : SL) (k N : Nat) (m : AMem) (h : m[rv]? = some (vtB rd rl V)) (rs rm n : Nat) (D : DS) (hd : HasD m rd rs rm n D) (hwd : WfD n D) (hdn : D.down = false) (hn : n ≤ 8192) (hs : WfS s) (hk : s.fr = (k : Int)) (h0 : 0 ≤ s.size) (h1 : s.size ≤ 262144) (hN : (N : Int) = needZ s.size) (hkN : k + N ≤ n) : Ctr Try.prog 29 [.one (.ptr rv 0 0), .agg (slC s)] m (.tup [(false, [.sl m.length 0 0 s.size.toNat]), (false, [.int .i64 0])]) (m ++ [⟨.grow, 5, 0, 1, u8l (datL D k N)⟩]) := by
  refine Ctr.enter Try.func29 rfl (by decide) (rs := [.tmp 4, .tmp 5]) (nt := 40) rfl rfl fun hwf Q hQ => ?_
  have lv := get_lt h
  obtain ⟨z, hz⟩ := Int.eq_ofNat_of_zero_le h0
  have hlt0 : ∀ k, ¬ m.length + k < m.length := fun k => by omega
  obtain ⟨b1, b2⟩ := needZ_nat hN h0
  have sl := slC_len hs
  have f3 : (slC s)[65]? = some (.int .i64 (z : Int)) := by rw [← hz]; exact slC_3 hs
  have f4 : (slC s)[66]? = some (.int .i64 (k : Int)) := by rw [← hk]; exact slC_4 hs
  have nd : needZ (z : Int) = (N : Int) := by rw [← hz]; exact hN.symm
  rw [hz] at h0 h1 b1 b2 hN
  have hzt : s.size.toNat = z := by rw [hz]; rfl
  rw [hzt] at hQ
  have vl := fun k => visD_len hwd k
  have lu : ∀ k, (u8l (vis D.S D.E k)).length = 128 := fun k => by rw [u8l_len]; exact vl k
  have tk := fun k => List.take_of_length_le (Nat.le_of_eq (lu k))
  have vv := fun k => u8l_vals (vis D.S D.E k)
  have dl := datL_len hwd k
  have ap : ∀ i, u8l (datL D k i) ++ u8l (vis D.S D.E (k + i)) = u8l (datL D k (i + 1)) := fun i => u8l_app _ _
  have z1 : (0 : Int) ≤ (z : Int) := by omega
  have z2 : (z : Int) ≤ (N : Int) * 128 := by omega
  
  iterate 2
    refine AW.seq_k fun K hK => ?_
    refine AW.region (by decide) ?_
    simp only [push_cast, simprocAttr, h, lk_old h, vtB, sl, f3, f4, nd, lu, tk, vv, ap, u8l_len, dl, slC_vals, setL_full, imp_self, z1, z2, Nat.sub_zero]
    refine Thn_n ?_
    refine hK _ _ ?_
    clear hK K
  refine AW.seq_k fun K hK => ?_
  refine AW.seq_k fun K hK => ?_
  refine AW.region (by decide) ?_
  simp only [push_cast, simprocAttr, h, lk_old h, vtB, sl, f3, f4, nd, lu, tk, vv, ap, u8l_len, dl, slC_vals, setL_full, imp_self, z1, z2, Nat.sub_zero]
  refine CThen.by (need_c (z : Int) _ (by omega)) ?_
  simp only [push_cast, simprocAttr, h, lk_old h, vtB, sl, f3, f4, nd, lu, tk, vv, ap, u8l_len, dl, slC_vals, setL_full, imp_self, z1, z2, Nat.sub_zero]
  refine Thn_n ?_
  refine hK _ _ ?_
  clear hK K
  refine AW.block ?_
  refine AW.loopK [0, 3, 13] (fun i => i ≤ N) (fun i => [(6, .one (.sl (m.length + 1) i 0 (i * 128))), (14, .one (.int .i64 (i : Int)))]) (fun i => [(m.length + 1, ⟨.grow, 5, i, 1, u8l (datL D k i)⟩)]) (fun i => N - i) 0 (by omega) ?_ ?_ fun i hi5 => ?_
  · first | rfl | (simp only [Keeps, Tm.get_cons, Nat.reduceEqDiff, ↓reduceIte, if_true, if_false, ite_true, ite_false, true_and, and_true, and_self, reduceCtorEq, datL, catB, u8l, List.map_nil] <;> repeat' (first | rfl | apply And.intro))
  · first | rfl | (simp only [setAll, push_cast, simprocAttr, h, lk_old h, vtB, sl, f3, f4, nd, lu, tk, vv, ap, u8l_len, dl, slC_vals, setL_full, imp_self, z1, z2, Nat.sub_zero, datL, catB, u8l, List.map_nil] <;> rfl)
  try simp only [keepL, setAll, push_cast, simprocAttr, h, lk_old h, vtB, sl, f3, f4, nd, lu, tk, vv, ap, u8l_len, dl, slC_vals, setL_full, imp_self, z1, z2, Nat.sub_zero]
  refine AW.seq_k fun K hK => ?_
  refine AW.region (by decide) ?_
  simp only [push_cast, simprocAttr, h, lk_old h, vtB, sl, f3, f4, nd, lu, tk, vv, ap, u8l_len, dl, slC_vals, setL_full, imp_self, z1, z2, Nat.sub_zero]
  refine Thn_n ?_
  refine hK _ _ ?_
  clear hK K
  refine AW.seq_k fun K hK => ?_
  refine AW.cond rfl (fun h15 => ?_) (fun h15 => ?_)
  · have hlt : i < N := by have := of_decide_eq_true h15; omega
    obtain ⟨x, hx⟩ : ∃ q : Nat, q = k + i := ⟨_, rfl⟩
    have wx : IntKind.i64.wrap ((k : Int) + (i : Int)) = (x : Int) := by rw [wi (by omega)]; omega
    have ap2 := ap i
    rw [← hx] at ap2
    have q1 : i * 128 + 128 ≤ 140737488355328 := by omega
    refine AW.skip ?_
    refine Thn_n ?_
    refine hK _ _ ?_
    clear hK K
    refine AW.seq_k fun K hK => ?_
    refine AW.block ?_
    refine AW.seq_k fun K hK => ?_
    refine AW.region (by decide) ?_
    simp only [push_cast, simprocAttr, h, lk_old h, vtB, sl, f3, f4, nd, lu, tk, vv, ap, u8l_len, dl, slC_vals, setL_full, imp_self, z1, z2, Nat.sub_zero, wx, ap2, q1]
    refine Thn_n ?_
    refine hK _ _ ?_
    clear hK K
    refine AW.seq_k fun K hK => ?_
    refine AW.draw [.val, .val, .val, .rd 0, .val, .rd 0, .val, .val, .ext, .val, .val, .val, .fl, .wr, .val] fol (by decide) (by kernel_rfl) ?_
    simp only [push_cast, simprocAttr, h, lk_old h, vtB, sl, f3, f4, nd, lu, tk, vv, ap, u8l_len, dl, slC_vals, setL_full, imp_self, z1, z2, Nat.sub_zero, wx, ap2, q1]
    refine DCall.by0 (rd_ok rd rs rm n x D _ (hd.mono _) hwd hdn (by omega)) ?_
    simp only [push_cast, simprocAttr, h, lk_old h, vtB, sl, f3, f4, nd, lu, tk, vv, ap, u8l_len, dl, slC_vals, setL_full, imp_self, z1, z2, Nat.sub_zero, wx, ap2, q1]
    refine Thn_n ?_
    refine hK _ _ ?_
    clear hK K
    refine AW.seq_k fun K hK => ?_
    refine AW.seq_k fun K hK => ?_
    refine AW.region (by decide) ?_
    simp only [push_cast, simprocAttr, h, lk_old h, vtB, sl, f3, f4, nd, lu, tk, vv, ap, u8l_len, dl, slC_vals, setL_full, imp_self, z1, z2, Nat.sub_zero, wx, ap2, q1]
    refine Thn_n ?_
    refine hK _ _ ?_
    clear hK K
    refine AW.cond_f rfl ?_
    refine AW.skip ?_
    refine Thn_n ?_
    refine hK _ _ ?_
    clear hK K
    refine AW.region (by decide) ?_
    simp only [push_cast, simprocAttr, h, lk_old h, vtB, sl, f3, f4, nd, lu, tk, vv, ap, u8l_len, dl, slC_vals, setL_full, imp_self, z1, z2, Nat.sub_zero, wx, ap2, q1]
    refine InB_n ?_
    refine Thn_n ?_
    refine hK _ _ ?_
    clear hK K
    refine AW.region (by decide) ?_
    simp only [push_cast, simprocAttr, h, lk_old h, vtB, sl, f3, f4, nd, lu, tk, vv, ap, u8l_len, dl, slC_vals, setL_full, imp_self, z1, z2, Nat.sub_zero, wx, ap2, q1]
    refine Thn_n ?_
    have hwi : IntKind.i64.wrap ((i:Int)+1) = (i:Int)+1 := wi (by omega)
    refine ⟨i + 1, by omega, by omega, ?_⟩
    try simp only [keepL, setAll, push_cast, simprocAttr, h, lk_old h, vtB, sl, f3, f4, nd, lu, tk, vv, ap, u8l_len, dl, slC_vals, setL_full, imp_self, z1, z2, Nat.sub_zero, wx, ap2, q1, hwi, Nat.succ_mul]
    exact Weak.to (extra := [_]) (by simp only [Keeps, Tm.get_cons, Nat.reduceEqDiff, ↓reduceIte, if_true, if_false, ite_true, ite_false, true_and, and_true, and_self, reduceCtorEq, hwi, Nat.succ_mul]) (by first | rfl | (simp only [List.append_assoc, List.cons_append, List.nil_append]; rfl)) (by first | rfl | (simp [AV.below, CV.below]; done) | (simp [AV.below, CV.below]; omega)) (by first | exact hwf | exact MWf.app (hwf.grow (by simp)) (MWf_cons (slC_below _ _) (MWf_one (u8l_below _ _))))
  · have hin : i = N := by have := of_decide_eq_false h15; omega
    subst hin
    refine AW.exit ?_
    refine Thn_e ?_
    clear hK K
    refine Thn_e ?_
    refine InB_here ?_
    refine Thn_n ?_
    refine hK _ _ ?_
    clear hK K
    refine AW.seq_k fun K hK => ?_
    refine AW.region (by decide) ?_
    simp only [push_cast, simprocAttr, h, lk_old h, vtB, sl, f3, f4, nd, lu, tk, vv, ap, u8l_len, dl, slC_vals, setL_full, imp_self, z1, z2, Nat.sub_zero]
    refine Thn_n ?_
    refine hK _ _ ?_
    clear hK K
    refine AW.ret ?_
    refine hQ _ _ _ ?_
    refine RetP.pick [(m.length + 1, i)] (Or.inr rfl) ?_ ?_ ?_ hwf ?_
    · simp only [resA, resOne, resTv, AV.tv, push_cast, simprocAttr]
      simp [renV, renT, renL, renC, renIdx, hlt0]
    · simp only [picks, push_cast, simprocAttr]
    · simp [distinctFrom]
    · exact MWf_one (u8l_below _ _)
    
end Go.Proofs.Ytdkfbbjpblfclaa

set_option linter.unusedSimpArgs false
set_option linter.unusedVariables false
set_option maxRecDepth 100000
set_option maxHeartbeats 4000000
namespace Go.Proofs.Ytdkfbbjpblfclaa
open Go Go.Eng

theorem blocks_c (rd rs rm n : Nat) (D : DS) (m : AMem) (hrd : m[rd]? = some (drB rs rm n D)) : Ctr Try.prog 25 [.one (.ptr rd 0 0)] m (.one (.int .i64 (n : Int))) m := by
  refine Ctr.enter Try.func25 rfl (by decide) (rs := [.tmp 2]) (nt := 10) rfl rfl fun hwf Q hQ => ?_
  refine AW.seq_k fun K hK => ?_
  refine AW.region (by decide) ?_
  simp only [push_cast, simprocAttr, hrd, drB]
  refine Thn_n ?_
  refine hK _ _ ?_
  clear hK K
  refine AW.seq_k fun K hK => ?_
  refine AW.seq_k fun K hK => ?_
  refine AW.region (by decide) ?_
  simp only [push_cast, simprocAttr, hrd, drB]
  refine Thn_n ?_
  refine hK _ _ ?_
  clear hK K
  refine AW.cond_f rfl ?_
  refine AW.skip ?_
  refine Thn_n ?_
  refine hK _ _ ?_
  clear hK K
  refine AW.seq_k fun K hK => ?_
  refine AW.region (by decide) ?_
  simp only [push_cast, simprocAttr, hrd, drB]
  refine Thn_n ?_
  refine hK _ _ ?_
  clear hK K
  refine AW.ret ?_
  refine hQ _ _ _ ?_
  first | refine RetP.drop0 (Or.inr rfl) ?_ ?_ hwf | refine RetP.drop (Or.inr rfl) ?_ ?_ hwf
  · simp only [resA, resOne, resTv, AV.tv, push_cast, simprocAttr, hrd, drB]
  · rfl
/-- The first place with so much room: what is taken, from a place on. -/
def rmGo (g : Nat → SL) (nd n : Int) : Nat → Nat → Int → Int
  | 0, _, p => if n - p < nd then -1 else p
  | k + 1, i, p => if (g i).fr - p < nd then rmGo g nd n k (i + 1) (maxI p ((g i).fr + needZ (g i).size)) else p
theorem tg_spec {V : VS} (hf : ∀ i, OkS (V.f i)) (hk : V.k ≤ 512) : KSrt SL.fr V.tg 0 V.tk.length ∧ PermOn 0 V.tk.length (gL V.tk) V.tg :=
  stG_spec (by have := tkL_len V.f V.k; show (tkL V.f V.k).length ≤ _; omega) (gL_ok (tkL_ok hf V.k))
theorem tg_ok {V : VS} (hf : ∀ i, OkS (V.f i)) (hk : V.k ≤ 512) : ∀ i, OkS (V.tg i) := perm_ok (gL_ok (tkL_ok hf V.k)) (tg_spec hf hk).2
theorem needZ_b {x : Int} (h0 : 0 ≤ x) (h1 : x ≤ 4294967295) : 0 ≤ needZ x ∧ needZ x ≤ 33554432 := by unfold needZ; omega
theorem maxI_b {a b c : Int} (h1 : a ≤ c) (h2 : b ≤ c) : maxI a b ≤ c := by unfold maxI; split <;> assumption
theorem maxI_0 {a b : Int} (h1 : 0 ≤ a) : 0 ≤ maxI a b := by unfold maxI; split <;> omega
theorem room_c (rv rl rd : Nat) (V : VS) (m : AMem) (h : HasV m rv rl rd V) (hf : ∀ i, OkS (V.f i)) (hk : V.k ≤ 512) (rs rm n : Nat) (D : DS) (hd : m[rd]? = some (drB rs rm n D)) (hn : n ≤ 8192) (nd : Int) (hn0 : 0 ≤ nd) (hn1 : nd ≤ 4294967295) (hd0 : 0 ≤ V.data) (hd1 : V.data ≤ 512) : Ctr Try.prog 55 [.one (.ptr rv 0 0), .one (.int .i64 nd)] m (.one (.int .i64 (rmGo V.tg nd (n : Int) V.tk.length 0 V.data))) m := by
  refine Ctr.enter Try.func55 rfl (by decide) (rs := [.tmp 4]) (nt := 45) rfl rfl fun hwf Q hQ => ?_
  have hv := h.v
  have hl := h.l
  have lv := get_lt hv
  have ll := get_lt hl
  have gl : (cC V.k V.f).length = V.k * 67 := cC_len hf V.k
  have gok := tg_ok hf hk
  have sl := fun i => slC_len (gok i).w
  have f3 := fun i => slC_3 (gok i).w
  have f4 := fun i => slC_4 (gok i).w
  have zb := fun i => zb0 (sl i)
  have cl : (cC V.tk.length V.tg).length = V.tk.length * 67 := cC_len gok _
  obtain ⟨c, hc⟩ : ∃ q : Nat, q = V.tk.length := ⟨_, rfl⟩
  rw [← hc] at cl hQ
  have hck : c ≤ 512 := by rw [hc]; exact Nat.le_trans (tkL_len V.f V.k) hk
  have hc2 := hc.symm
  
  iterate 2
    refine AW.seq_k fun K hK => ?_
    refine AW.region (by decide) ?_
    simp only [push_cast, simprocAttr, hv, hl, lk_old hv, lk_old hl, vtB, rS, gl, sl, f3, f4, zb, slC_vals, cl, hc2]
    refine Thn_n ?_
    refine hK _ _ ?_
    clear hK K
  refine AW.seq_k fun K hK => ?_
  refine AW.seq_k fun K hK => ?_
  refine AW.region (by decide) ?_
  simp only [push_cast, simprocAttr, hv, hl, lk_old hv, lk_old hl, vtB, rS, gl, sl, f3, f4, zb, slC_vals, cl, hc2]
  refine CThen.by (taken_c rv rl rd V _ h hf hk) ?_
  simp only [push_cast, simprocAttr, hv, hl, lk_old hv, lk_old hl, vtB, rS, gl, sl, f3, f4, zb, slC_vals, cl, hc2]
  refine Thn_n ?_
  refine hK _ _ ?_
  clear hK K
  refine AW.block ?_
  refine AW.loopK [0, 1, 13, 14] (fun (q : Nat × Int) => q.1 ≤ c ∧ 0 ≤ q.2 ∧ q.2 ≤ 4400000000 ∧ rmGo V.tg nd (n : Int) (c - q.1) q.1 q.2 = rmGo V.tg nd (n : Int) c 0 V.data) (fun (q : Nat × Int) => [(5, .one (.int .i64 q.2)), (15, .one (.int .i64 (q.1 : Int)))]) (fun (q : Nat × Int) => []) (fun (q : Nat × Int) => c - q.1) (0, V.data) ⟨Nat.zero_le _, hd0, by show V.data ≤ _; omega, rfl⟩ ?_ ?_ fun (q : Nat × Int) hi5 => ?_
  · first | rfl | (simp only [Keeps, Tm.get_cons, Nat.reduceEqDiff, ↓reduceIte, if_true, if_false, ite_true, ite_false, true_and, and_true, and_self, reduceCtorEq] <;> repeat' (first | rfl | apply And.intro))
  · first | rfl | (simp only [setAll, push_cast, simprocAttr, hv, hl, lk_old hv, lk_old hl, vtB, rS, gl, sl, f3, f4, zb, slC_vals, cl, hc2] <;> rfl)
  obtain ⟨i, p⟩ := q
  obtain ⟨i1, i2, i3, i4⟩ := hi5
  simp only at i1 i2 i3 i4
  try simp only [keepL, setAll, push_cast, simprocAttr, hv, hl, lk_old hv, lk_old hl, vtB, rS, gl, sl, f3, f4, zb, slC_vals, cl, hc2]
  refine AW.seq_k fun K hK => ?_
  refine AW.region (by decide) ?_
  simp only [push_cast, simprocAttr, hv, hl, lk_old hv, lk_old hl, vtB, rS, gl, sl, f3, f4, zb, slC_vals, cl, hc2]
  refine Thn_n ?_
  refine hK _ _ ?_
  clear hK K
  refine AW.seq_k fun K hK => ?_
  refine AW.cond rfl (fun h16 => ?_) (fun h16 => ?_)
  · have hlt : i < c := by have := of_decide_eq_true h16; omega
    have o := gok i
    have o0 := o.f0
    have o1 := o.f1
    have z0 := o.s0
    have z1 := o.s1
    obtain ⟨b0, b1⟩ := needZ_b z0 z1
    have lx := cC_at (n := c) (f := V.tg) gok hlt
    have c0 : (0 : Int) ≤ (i : Int) := by omega
    have c1 : (i : Int) < (c : Int) := by omega
    have c2 : i * 67 + 67 ≤ c * 67 := by omega
    have w1 : IntKind.i64.wrap ((V.tg i).fr - p) = (V.tg i).fr - p := wi (by omega)
    have w2 : IntKind.i64.wrap ((V.tg i).fr + needZ (V.tg i).size) = (V.tg i).fr + needZ (V.tg i).size := wi (by omega)
    have st : rmGo V.tg nd (n : Int) (c - i) i p = if (V.tg i).fr - p < nd then rmGo V.tg nd (n : Int) (c - (i + 1)) (i + 1) (maxI p ((V.tg i).fr + needZ (V.tg i).size)) else p := by rw [show c - i = (c - (i + 1)) + 1 by omega]; rfl
    rw [i4] at st
    refine AW.skip ?_
    refine Thn_n ?_
    refine hK _ _ ?_
    clear hK K
    refine AW.seq_k fun K hK => ?_
    refine AW.block ?_
    refine AW.seq_k fun K hK => ?_
    refine AW.region (by decide) ?_
    simp only [push_cast, simprocAttr, hv, hl, lk_old hv, lk_old hl, vtB, rS, gl, sl, f3, f4, zb, slC_vals, cl, hc2, lx, c0, c1, c2, w1, w2]
    refine Thn_n ?_
    refine hK _ _ ?_
    clear hK K
    refine AW.seq_k fun K hK => ?_
    refine AW.seq_k fun K hK => ?_
    refine AW.region (by decide) ?_
    simp only [push_cast, simprocAttr, hv, hl, lk_old hv, lk_old hl, vtB, rS, gl, sl, f3, f4, zb, slC_vals, cl, hc2, lx, c0, c1, c2, w1, w2]
    refine Thn_n ?_
    refine hK _ _ ?_
    clear hK K
    refine AW.cond rfl (fun h24 => ?_) (fun h24 => ?_)
    · have hk2 : ¬ (V.tg i).fr - p < nd := by have := of_decide_eq_true h24; omega
      rw [if_neg hk2] at st
      refine AW.seq_k fun K hK => ?_
      refine AW.region (by decide) ?_
      simp only [push_cast, simprocAttr, hv, hl, lk_old hv, lk_old hl, vtB, rS, gl, sl, f3, f4, zb, slC_vals, cl, hc2, lx, c0, c1, c2, w1, w2, st]
      refine Thn_n ?_
      refine hK _ _ ?_
      clear hK K
      refine AW.ret ?_
      refine Thn_r ?_
      refine InB_r ?_
      refine Thn_r ?_
      refine Thn_r ?_
      refine InB_r ?_
      refine Thn_r ?_
      refine hQ _ _ _ ?_
      first | refine RetP.drop0 (Or.inr rfl) ?_ ?_ hwf | refine RetP.drop (Or.inr rfl) ?_ ?_ hwf
      · simp only [resA, resOne, resTv, AV.tv, push_cast, simprocAttr, hv, hl, lk_old hv, lk_old hl, vtB, rS, gl, sl, f3, f4, zb, slC_vals, cl, hc2, lx, c0, c1, c2, w1, w2, st]
      · rfl
    · have hk2 : (V.tg i).fr - p < nd := by have := of_decide_eq_false h24; omega
      rw [if_pos hk2] at st
      obtain ⟨nx, hnx, hnI, hnmu⟩ : ∃ nx : Nat × Int, nx = (i + 1, maxI p ((V.tg i).fr + needZ (V.tg i).size)) ∧ (nx.1 ≤ c ∧ 0 ≤ nx.2 ∧ nx.2 ≤ 4400000000 ∧ rmGo V.tg nd (n : Int) (c - nx.1) nx.1 nx.2 = rmGo V.tg nd (n : Int) c 0 V.data) ∧ c - nx.1 < c - i := ⟨_, rfl, ⟨by show i + 1 ≤ c; omega, maxI_0 i2, maxI_b i3 (by omega), st.symm⟩, by show c - (i + 1) < c - i; omega⟩
      refine AW.skip ?_
      refine Thn_n ?_
      refine hK _ _ ?_
      clear hK K
      refine AW.draw [.val, .val, .rd 0, .val, .rd 0, .ext, .val, .val, .val] fol (by decide) (by kernel_rfl) ?_
      simp only [push_cast, simprocAttr, hv, hl, lk_old hv, lk_old hl, vtB, rS, gl, sl, f3, f4, zb, slC_vals, cl, hc2, lx, c0, c1, c2, w1, w2]
      refine DCall.by0 (need_c (V.tg i).size _ (by omega)) ?_
      simp only [push_cast, simprocAttr, hv, hl, lk_old hv, lk_old hl, vtB, rS, gl, sl, f3, f4, zb, slC_vals, cl, hc2, lx, c0, c1, c2, w1, w2]
      refine InB_n ?_
      refine Thn_n ?_
      refine hK _ _ ?_
      clear hK K
      refine AW.region (by decide) ?_
      simp only [push_cast, simprocAttr, hv, hl, lk_old hv, lk_old hl, vtB, rS, gl, sl, f3, f4, zb, slC_vals, cl, hc2, lx, c0, c1, c2, w1, w2]
      refine Thn_n ?_
      have hwi : IntKind.i64.wrap ((i:Int)+1) = (i:Int)+1 := wi (by omega)
      refine ⟨nx, hnI, hnmu, ?_⟩
      try simp only [keepL, setAll, push_cast, simprocAttr, hv, hl, lk_old hv, lk_old hl, vtB, rS, gl, sl, f3, f4, zb, slC_vals, cl, hc2, lx, c0, c1, c2, w1, w2, hnx, hwi]
      exact Weak.to (extra := [_]) (by simp only [Keeps, Tm.get_cons, Nat.reduceEqDiff, ↓reduceIte, if_true, if_false, ite_true, ite_false, true_and, and_true, and_self, reduceCtorEq, hnx, hwi]) (by first | rfl | (simp only [List.append_assoc, List.cons_append, List.nil_append]; rfl)) (by first | rfl | (simp [AV.below, CV.below]; done) | (simp [AV.below, CV.below]; omega)) (by first | exact hwf | exact MWf.app (hwf.grow (by simp)) (MWf_one (cC_below _ _ _)))
  · have hin : c = i := by have := of_decide_eq_false h16; omega
    rw [hin, Nat.sub_self] at i4
    have w3 : IntKind.i64.wrap ((n : Int) - p) = (n : Int) - p := wi (by omega)
    have st : rmGo V.tg nd (n : Int) i i p = rmGo V.tg nd (n : Int) i i p := rfl
    refine AW.exit ?_
    refine Thn_e ?_
    clear hK K
    refine Thn_e ?_
    refine InB_here ?_
    refine Thn_n ?_
    refine hK _ _ ?_
    clear hK K
    refine AW.seq_k fun K hK => ?_
    refine AW.seq_k fun K hK => ?_
    refine AW.region (by decide) ?_
    simp only [push_cast, simprocAttr, hv, hl, lk_old hv, lk_old hl, vtB, rS, gl, sl, f3, f4, zb, slC_vals, cl, hc2, w3]
    refine CThen.by (blocks_c rd rs rm n D _ (lk_old hd _)) ?_
    simp only [push_cast, simprocAttr, hv, hl, lk_old hv, lk_old hl, vtB, rS, gl, sl, f3, f4, zb, slC_vals, cl, hc2, w3]
    refine Thn_n ?_
    refine hK _ _ ?_
    clear hK K
    refine AW.cond rfl (fun h43 => ?_) (fun h43 => ?_)
    · have hk3 : ¬ (n : Int) - p < nd := by have := of_decide_eq_true h43; omega
      have hfin : rmGo V.tg nd (n : Int) c 0 V.data = p := by rw [hin, ← i4]; show (if (n : Int) - p < nd then -1 else p) = p; rw [if_neg hk3]
      refine AW.seq_k fun K hK => ?_
      refine AW.region (by decide) ?_
      simp only [push_cast, simprocAttr, hv, hl, lk_old hv, lk_old hl, vtB, rS, gl, sl, f3, f4, zb, slC_vals, cl, hc2, w3, hfin]
      refine Thn_n ?_
      refine hK _ _ ?_
      clear hK K
      refine AW.ret ?_
      refine Thn_r ?_
      refine hQ _ _ _ ?_
      first | refine RetP.drop0 (Or.inr rfl) ?_ ?_ hwf | refine RetP.drop (Or.inr rfl) ?_ ?_ hwf
      · simp only [resA, resOne, resTv, AV.tv, push_cast, simprocAttr, hv, hl, lk_old hv, lk_old hl, vtB, rS, gl, sl, f3, f4, zb, slC_vals, cl, hc2, w3, hfin]
      · rfl
    · have hk3 : (n : Int) - p < nd := by have := of_decide_eq_false h43; omega
      have hfin : rmGo V.tg nd (n : Int) c 0 V.data = -1 := by rw [hin, ← i4]; show (if (n : Int) - p < nd then -1 else p) = -1; rw [if_pos hk3]
      refine AW.skip ?_
      refine Thn_n ?_
      refine hK _ _ ?_
      clear hK K
      refine AW.seq_k fun K hK => ?_
      refine AW.region (by decide) ?_
      simp only [push_cast, simprocAttr, hv, hl, lk_old hv, lk_old hl, vtB, rS, gl, sl, f3, f4, zb, slC_vals, cl, hc2, w3, hfin]
      refine Thn_n ?_
      refine hK _ _ ?_
      clear hK K
      refine AW.ret ?_
      refine hQ _ _ _ ?_
      first | refine RetP.drop0 (Or.inr rfl) ?_ ?_ hwf | refine RetP.drop (Or.inr rfl) ?_ ?_ hwf
      · simp only [resA, resOne, resTv, AV.tv, push_cast, simprocAttr, hv, hl, lk_old hv, lk_old hl, vtB, rS, gl, sl, f3, f4, zb, slC_vals, cl, hc2, w3, hfin]
      · rfl
end Go.Proofs.Ytdkfbbjpblfclaa

set_option linter.unusedSimpArgs false
set_option linter.unusedVariables false
set_option maxRecDepth 100000
set_option maxHeartbeats 4000000
namespace Go.Proofs.Ytdkfbbjpblfclaa
open Go Go.Eng

def pcB (sum : List Int) (size : Int) (s : SL) : Bool := decide (¬ s.kind = 0) && (decide (s.sum = sum) && decide (s.size = size))
/-- Where bytes are, or may be laid; whether they are there already. -/
noncomputable def plZ (V : VS) (n : Nat) (sum : List Int) (size : Int) : Int := if 0 ≤ fnd (pcB sum size) V.f V.k then (V.f (fnd (pcB sum size) V.f V.k).toNat).fr else rmGo V.tg (needZ size) (n : Int) V.tk.length 0 V.data
def plB (V : VS) (sum : List Int) (size : Int) : Bool := decide (0 ≤ fnd (pcB sum size) V.f V.k)
theorem place_c (rv rl rd : Nat) (V : VS) (m : AMem) (h : HasV m rv rl rd V) (hf : ∀ i, OkS (V.f i)) (hk : V.k ≤ 512) (rs rm n : Nat) (D : DS) (hd : m[rd]? = some (drB rs rm n D)) (hn : n ≤ 8192) (hd0 : 0 ≤ V.data) (hd1 : V.data ≤ 512) (sum : List Int) (size : Int) (hsum : sum.length = 32) (hs0 : 0 ≤ size) (hs1 : size ≤ 262144) : Ctr Try.prog 34 [.one (.ptr rv 0 0), .agg (u8l sum), .one (.int .i64 size)] m (.tup [(false, [.int .i64 (plZ V n sum size)]), (false, [.bool (plB V sum size)])]) m := by
  refine Ctr.enter Try.func34 rfl (by decide) (rs := [.tmp 6, .tmp 7]) (nt := 41) rfl rfl fun hwf Q hQ => ?_
  have hv := h.v
  have hl := h.l
  have lv := get_lt hv
  have ll := get_lt hl
  have gl : (cC V.k V.f).length = V.k * 67 := cC_len hf V.k
  have sl := fun i => slC_len (hf i).w
  have f0 := fun i => slC_0 (V.f i)
  have f2 := fun i => slC_2 (hf i).w
  have f3 := fun i => slC_3 (hf i).w
  have f4 := fun i => slC_4 (hf i).w
  have zb := fun i => zb0 (sl i)
  have kl : (u8l sum).length = 32 := by rw [u8l_len]; exact hsum
  have kt : (u8l sum).take 32 = u8l sum := List.take_of_length_le (by omega)
  have eq := fun i => eqpn (hf i).w.s hsum
  obtain ⟨b0, b1⟩ := needZ_b hs0 (by omega)
  
  refine AW.seq_k fun K hK => ?_
  refine AW.region (by decide) ?_
  simp only [push_cast, simprocAttr, hv, hl, lk_old hv, lk_old hl, vtB, rS, gl, sl, f0, f2, f3, f4, zb, kl, kt, eq, slC_vals]
  refine Thn_n ?_
  refine hK _ _ ?_
  clear hK K
  refine AW.seq_k fun K hK => ?_
  refine AW.seq_k fun K hK => ?_
  refine AW.region (by decide) ?_
  simp only [push_cast, simprocAttr, hv, hl, lk_old hv, lk_old hl, vtB, rS, gl, sl, f0, f2, f3, f4, zb, kl, kt, eq, slC_vals]
  refine Thn_n ?_
  refine hK _ _ ?_
  clear hK K
  refine AW.block ?_
  refine AW.loopK [0, 2, 4, 13, 14] (fun i => i ≤ V.k ∧ fnd (pcB sum size) V.f i < 0) (fun i => [(15, .one (.int .i64 (i : Int)))]) (fun i => []) (fun i => V.k - i) 0 ⟨Nat.zero_le _, by show (-1 : Int) < 0; decide⟩ ?_ ?_ fun i hi4 => ?_
  · first | rfl | (simp only [Keeps, Tm.get_cons, Nat.reduceEqDiff, ↓reduceIte, if_true, if_false, ite_true, ite_false, true_and, and_true, and_self, reduceCtorEq] <;> repeat' (first | rfl | apply And.intro))
  · first | rfl | (simp only [setAll, push_cast, simprocAttr, hv, hl, lk_old hv, lk_old hl, vtB, rS, gl, sl, f0, f2, f3, f4, zb, kl, kt, eq, slC_vals] <;> rfl)
  obtain ⟨i1, i2⟩ := hi4
  try simp only [keepL, setAll, push_cast, simprocAttr, hv, hl, lk_old hv, lk_old hl, vtB, rS, gl, sl, f0, f2, f3, f4, zb, kl, kt, eq, slC_vals]
  refine AW.seq_k fun K hK => ?_
  refine AW.region (by decide) ?_
  simp only [push_cast, simprocAttr, hv, hl, lk_old hv, lk_old hl, vtB, rS, gl, sl, f0, f2, f3, f4, zb, kl, kt, eq, slC_vals]
  refine Thn_n ?_
  refine hK _ _ ?_
  clear hK K
  refine AW.seq_k fun K hK => ?_
  refine AW.cond rfl (fun h16 => ?_) (fun h16 => ?_)
  · have hlt : i < V.k := by have := of_decide_eq_true h16; omega
    have lx := cC_at (n := V.k) (f := V.f) hf hlt
    have c0 : (0 : Int) ≤ (i : Int) := by omega
    have c1 : (i : Int) < (V.k : Int) := by omega
    have c2 : i * 67 + 67 ≤ V.k * 67 := by omega
    refine AW.skip ?_
    refine Thn_n ?_
    refine hK _ _ ?_
    clear hK K
    refine AW.seq_k fun K hK => ?_
    refine AW.block ?_
    refine AW.seq_k fun K hK => ?_
    refine AW.region (by decide) ?_
    simp only [push_cast, simprocAttr, hv, hl, lk_old hv, lk_old hl, vtB, rS, gl, sl, f0, f2, f3, f4, zb, kl, kt, eq, slC_vals, lx, c0, c1, c2]
    refine Thn_n ?_
    refine hK _ _ ?_
    clear hK K
    refine AW.seq_k fun K hK => ?_
    refine AW.viaJ [0, 2, 4, 9, 13, 14, 15] [(33, .one (.bool (pcB sum size (V.f i))))] [] ?_ ?_
    · rcases Classical.em ((V.f i).kind = 0) with kz | kz
      rotate_left 1
      rcases Classical.em ((V.f i).sum = sum) with ks | ks
      rotate_left 2
      · have q0 : ((V.f i).kind != 0) = false := by simp [kz]
        have ht : pcB sum size (V.f i) = false := by simp [pcB, kz]
        refine AW.region (by decide) ?_
        simp only [push_cast, simprocAttr, hv, hl, lk_old hv, lk_old hl, vtB, rS, gl, sl, f0, f2, f3, f4, zb, kl, kt, eq, slC_vals, lx, c0, c1, c2, q0]
        refine Thn_n ?_
        try simp only [keepL, setAll, push_cast, simprocAttr, hv, hl, lk_old hv, lk_old hl, vtB, rS, gl, sl, f0, f2, f3, f4, zb, kl, kt, eq, slC_vals, lx, c0, c1, c2, q0, ht]
        exact Weak.same (by simp only [Keeps, Tm.get_cons, Nat.reduceEqDiff, ↓reduceIte, if_true, if_false, ite_true, ite_false, true_and, and_true, and_self, reduceCtorEq, ht]) (by first | rfl | simp only [Keeps, Tm.get_cons, Nat.reduceEqDiff, ↓reduceIte, if_true, if_false, ite_true, ite_false, true_and, and_true, and_self, reduceCtorEq, ht])
      · have q0 : ((V.f i).kind != 0) = true := by simp [kz]
        have eq2 := (eq i).trans (congrArg some (decide_eq_true ks))
        rw [ks] at eq2
        have ht : pcB sum size (V.f i) = ((V.f i).size == size) := by simp only [pcB, kz, ks, decide_true, not_false_eq_true, Bool.true_and]; rw [Bool.eq_iff_iff]; simp
        refine AW.region (by decide) ?_
        simp only [push_cast, simprocAttr, hv, hl, lk_old hv, lk_old hl, vtB, rS, gl, sl, f0, f2, f3, f4, zb, kl, kt, eq, slC_vals, lx, c0, c1, c2, q0, ks, eq2]
        refine Thn_n ?_
        try simp only [keepL, setAll, push_cast, simprocAttr, hv, hl, lk_old hv, lk_old hl, vtB, rS, gl, sl, f0, f2, f3, f4, zb, kl, kt, eq, slC_vals, lx, c0, c1, c2, q0, ks, eq2, ht]
        exact Weak.same (by simp only [Keeps, Tm.get_cons, Nat.reduceEqDiff, ↓reduceIte, if_true, if_false, ite_true, ite_false, true_and, and_true, and_self, reduceCtorEq, ht]) (by first | rfl | simp only [Keeps, Tm.get_cons, Nat.reduceEqDiff, ↓reduceIte, if_true, if_false, ite_true, ite_false, true_and, and_true, and_self, reduceCtorEq, ht])
      · have q0 : ((V.f i).kind != 0) = true := by simp [kz]
        have ht : pcB sum size (V.f i) = false := by simp [pcB, ks]
        refine AW.region (by decide) ?_
        simp only [push_cast, simprocAttr, hv, hl, lk_old hv, lk_old hl, vtB, rS, gl, sl, f0, f2, f3, f4, zb, kl, kt, eq, slC_vals, lx, c0, c1, c2, q0, ks]
        refine Thn_n ?_
        try simp only [keepL, setAll, push_cast, simprocAttr, hv, hl, lk_old hv, lk_old hl, vtB, rS, gl, sl, f0, f2, f3, f4, zb, kl, kt, eq, slC_vals, lx, c0, c1, c2, q0, ks, ht]
        exact Weak.same (by simp only [Keeps, Tm.get_cons, Nat.reduceEqDiff, ↓reduceIte, if_true, if_false, ite_true, ite_false, true_and, and_true, and_self, reduceCtorEq, ht]) (by first | rfl | simp only [Keeps, Tm.get_cons, Nat.reduceEqDiff, ↓reduceIte, if_true, if_false, ite_true, ite_false, true_and, and_true, and_self, reduceCtorEq, ht])
    try simp only [keepL, setAll, push_cast, simprocAttr, hv, hl, lk_old hv, lk_old hl, vtB, rS, gl, sl, f0, f2, f3, f4, zb, kl, kt, eq, slC_vals, lx, c0, c1, c2]
    refine Thn_n ?_
    refine hK _ _ ?_
    clear hK K
    refine AW.cond rfl (fun h33 => ?_) (fun h33 => ?_)
    · have hit := fnd_hit i2 h33 hlt
      have hp1 : plZ V n sum size = (V.f i).fr := by unfold plZ; rw [hit, if_pos (by omega)]; rfl
      have hp2 : plB V sum size = true := by unfold plB; rw [hit]; exact decide_eq_true (by omega)
      refine AW.seq_k fun K hK => ?_
      refine AW.region (by decide) ?_
      simp only [push_cast, simprocAttr, hv, hl, lk_old hv, lk_old hl, vtB, rS, gl, sl, f0, f2, f3, f4, zb, kl, kt, eq, slC_vals, lx, c0, c1, c2, hp1, hp2]
      refine Thn_n ?_
      refine hK _ _ ?_
      clear hK K
      refine AW.ret ?_
      refine InB_r ?_
      refine Thn_r ?_
      refine Thn_r ?_
      refine InB_r ?_
      refine Thn_r ?_
      refine hQ _ _ _ ?_
      first | refine RetP.drop0 (Or.inr rfl) ?_ ?_ hwf | refine RetP.drop (Or.inr rfl) ?_ ?_ hwf
      · simp only [resA, resOne, resTv, AV.tv, push_cast, simprocAttr, hv, hl, lk_old hv, lk_old hl, vtB, rS, gl, sl, f0, f2, f3, f4, zb, kl, kt, eq, slC_vals, lx, c0, c1, c2, hp1, hp2]
      · rfl
    · refine AW.skip ?_
      refine InB_n ?_
      refine Thn_n ?_
      refine hK _ _ ?_
      clear hK K
      refine AW.region (by decide) ?_
      simp only [push_cast, simprocAttr, hv, hl, lk_old hv, lk_old hl, vtB, rS, gl, sl, f0, f2, f3, f4, zb, kl, kt, eq, slC_vals, lx, c0, c1, c2]
      refine Thn_n ?_
      have hwi : IntKind.i64.wrap ((i:Int)+1) = (i:Int)+1 := wi (by omega)
      refine ⟨i + 1, ⟨by omega, fnd_miss i2 h33⟩, by omega, ?_⟩
      try simp only [keepL, setAll, push_cast, simprocAttr, hv, hl, lk_old hv, lk_old hl, vtB, rS, gl, sl, f0, f2, f3, f4, zb, kl, kt, eq, slC_vals, lx, c0, c1, c2, hwi]
      exact Weak.to (extra := [_]) (by simp only [Keeps, Tm.get_cons, Nat.reduceEqDiff, ↓reduceIte, if_true, if_false, ite_true, ite_false, true_and, and_true, and_self, reduceCtorEq, hwi]) (by first | rfl | (simp only [List.append_assoc, List.cons_append, List.nil_append]; rfl)) (by first | rfl | (simp [AV.below, CV.below]; done) | (simp [AV.below, CV.below]; omega)) (by first | exact hwf | exact MWf.app (hwf.grow (by simp)) (MWf_one (u8l_below _ _)))
  · have hin : i = V.k := by have := of_decide_eq_false h16; omega
    subst hin
    have hng : ¬ 0 ≤ fnd (pcB sum size) V.f V.k := by omega
    have hp1 : plZ V n sum size = rmGo V.tg (needZ size) (n : Int) V.tk.length 0 V.data := by unfold plZ; rw [if_neg hng]
    have hp2 : plB V sum size = false := decide_eq_false hng
    refine AW.exit ?_
    refine Thn_e ?_
    clear hK K
    refine Thn_e ?_
    refine InB_here ?_
    refine Thn_n ?_
    refine hK _ _ ?_
    clear hK K
    refine AW.seq_k fun K hK => ?_
    refine AW.region (by decide) ?_
    simp only [push_cast, simprocAttr, hv, hl, lk_old hv, lk_old hl, vtB, rS, gl, sl, f0, f2, f3, f4, zb, kl, kt, eq, slC_vals, hp1, hp2]
    refine CThen.by (need_c size _ (by omega)) ?_
    simp only [push_cast, simprocAttr, hv, hl, lk_old hv, lk_old hl, vtB, rS, gl, sl, f0, f2, f3, f4, zb, kl, kt, eq, slC_vals, hp1, hp2]
    refine CThen.by (room_c rv rl rd V _ (h.mono _) hf hk rs rm n D (lk_old hd _) hn (needZ size) b0 (by omega) hd0 hd1) ?_
    simp only [push_cast, simprocAttr, hv, hl, lk_old hv, lk_old hl, vtB, rS, gl, sl, f0, f2, f3, f4, zb, kl, kt, eq, slC_vals, hp1, hp2]
    refine Thn_n ?_
    refine hK _ _ ?_
    clear hK K
    refine AW.ret ?_
    refine hQ _ _ _ ?_
    first | refine RetP.drop0 (Or.inr rfl) ?_ ?_ hwf | refine RetP.drop (Or.inr rfl) ?_ ?_ hwf
    · simp only [resA, resOne, resTv, AV.tv, push_cast, simprocAttr, hv, hl, lk_old hv, lk_old hl, vtB, rS, gl, sl, f0, f2, f3, f4, zb, kl, kt, eq, slC_vals, hp1, hp2]
    · rfl
end Go.Proofs.Ytdkfbbjpblfclaa

set_option linter.unusedSimpArgs false
set_option linter.unusedVariables false
set_option maxRecDepth 100000
set_option maxHeartbeats 4000000
namespace Go.Proofs.Ytdkfbbjpblfclaa
open Go Go.Eng

/-- A write, a sync, of a device that has power. -/
def wrS (D : DS) (k : Nat) (v : List Int) : DS × Int := if D.fuse = 0 then (spD D, 5) else (wrD D (k : Int) v, 0)
def syS (D : DS) : DS × Int := if D.fuse = 0 then (spD D, 5) else (syD D, 0)
/-- Blocks, one behind the other; then a sync. -/
def layS (k : Nat) (bl : Nat → List Int) : Nat → Nat → DS → DS × Int
  | 0, _, D => syS D
  | r + 1, i, D => if D.fuse = 0 then (spD D, 5) else layS k bl r (i + 1) (wrD D ((k + i : Nat) : Int) (bl i))
def padB (l : List Int) : List Int := l.take 128 ++ List.replicate (128 - l.length) 0
theorem padB_len (l : List Int) : (padB l).length = 128 := by simp only [padB, List.length_append, List.length_take, List.length_replicate]; omega
def chB (bs : List Int) (i : Nat) : List Int := padB (bs.drop (i * 128))
theorem z128_pad (l : List Int) : setL [CV.int .u8 0, CV.int .u8 0, CV.int .u8 0, CV.int .u8 0, CV.int .u8 0, CV.int .u8 0, CV.int .u8 0, CV.int .u8 0, CV.int .u8 0, CV.int .u8 0, CV.int .u8 0, CV.int .u8 0, CV.int .u8 0, CV.int .u8 0, CV.int .u8 0, CV.int .u8 0, CV.int .u8 0, CV.int .u8 0, CV.int .u8 0, CV.int .u8 0, CV.int .u8 0, CV.int .u8 0, CV.int .u8 0, CV.int .u8 0, CV.int .u8 0, CV.int .u8 0, CV.int .u8 0, CV.int .u8 0, CV.int .u8 0, CV.int .u8 0, CV.int .u8 0, CV.int .u8 0, CV.int .u8 0, CV.int .u8 0, CV.int .u8 0, CV.int .u8 0, CV.int .u8 0, CV.int .u8 0, CV.int .u8 0, CV.int .u8 0, CV.int .u8 0, CV.int .u8 0, CV.int .u8 0, CV.int .u8 0, CV.int .u8 0, CV.int .u8 0, CV.int .u8 0, CV.int .u8 0, CV.int .u8 0, CV.int .u8 0, CV.int .u8 0, CV.int .u8 0, CV.int .u8 0, CV.int .u8 0, CV.int .u8 0, CV.int .u8 0, CV.int .u8 0, CV.int .u8 0, CV.int .u8 0, CV.int .u8 0, CV.int .u8 0, CV.int .u8 0, CV.int .u8 0, CV.int .u8 0, CV.int .u8 0, CV.int .u8 0, CV.int .u8 0, CV.int .u8 0, CV.int .u8 0, CV.int .u8 0, CV.int .u8 0, CV.int .u8 0, CV.int .u8 0, CV.int .u8 0, CV.int .u8 0, CV.int .u8 0, CV.int .u8 0, CV.int .u8 0, CV.int .u8 0, CV.int .u8 0, CV.int .u8 0, CV.int .u8 0, CV.int .u8 0, CV.int .u8 0, CV.int .u8 0, CV.int .u8 0, CV.int .u8 0, CV.int .u8 0, CV.int .u8 0, CV.int .u8 0, CV.int .u8 0, CV.int .u8 0, CV.int .u8 0, CV.int .u8 0, CV.int .u8 0, CV.int .u8 0, CV.int .u8 0, CV.int .u8 0, CV.int .u8 0, CV.int .u8 0, CV.int .u8 0, CV.int .u8 0, CV.int .u8 0, CV.int .u8 0, CV.int .u8 0, CV.int .u8 0, CV.int .u8 0, CV.int .u8 0, CV.int .u8 0, CV.int .u8 0, CV.int .u8 0, CV.int .u8 0, CV.int .u8 0, CV.int .u8 0, CV.int .u8 0, CV.int .u8 0, CV.int .u8 0, CV.int .u8 0, CV.int .u8 0, CV.int .u8 0, CV.int .u8 0, CV.int .u8 0, CV.int .u8 0, CV.int .u8 0, CV.int .u8 0, CV.int .u8 0, CV.int .u8 0, CV.int .u8 0] 0 ((u8l l).take (min l.length 128)) = u8l (padB l) := by
  have h1 := setL_in (u8l (l.take 128)) (List.replicate (min l.length 128) (CV.int .u8 0)) (List.replicate (128 - l.length) (CV.int .u8 0)) (by rw [List.length_replicate, u8l_len, List.length_take, Nat.min_comm]) []
  rw [List.nil_append, List.nil_append, List.replicate_append_replicate, show min l.length 128 + (128 - l.length) = 128 by omega] at h1
  have e : (u8l l).take (min l.length 128) = u8l (l.take 128) := by
    rw [u8l_take]; congr 1
    rcases Nat.lt_or_ge l.length 128 with h | h
    · rw [Nat.min_eq_left (by omega), List.take_of_length_le (Nat.le_refl _), List.take_of_length_le (by omega)]
    · rw [Nat.min_eq_right h]
  rw [e]
  unfold padB
  rw [← u8l_app, show u8l (List.replicate (128 - l.length) 0) = List.replicate (128 - l.length) (CV.int .u8 0) by simp [u8l]]
  exact h1
theorem wr_any (rd rs rm n k : Nat) (D : DS) (v : List Int) (m : AMem) (hv : v.length = 128) (h : HasD m rd rs rm n D) (hd : D.down = false) (hk : k < n) : Ctr Try.prog 37 [.one (.ptr rd 0 0), .one (.int .i64 (k : Int)), .agg (u8l v)] m (.one (.int .i64 (wrS D k v).2)) (setD m rd rs rm n (wrS D k v).1) := by
  unfold wrS
  split
  · rename_i hz; exact wr_no rd rs rm n D k v m hv h hd (by omega) (by omega) hz
  · rename_i hz; exact wr_ok rd rs rm n D k v m hv h hd (by omega) (by omega) hz
theorem sy_any (rd rs rm n : Nat) (D : DS) (m : AMem) (h : HasD m rd rs rm n D) (hd : D.down = false) (hw : WfD n D) : Ctr Try.prog 39 [.one (.ptr rd 0 0)] m (.one (.int .i64 (syS D).2)) (setD m rd rs rm n (syS D).1) := by
  unfold syS
  split
  · rename_i hz; exact sy_no rd rs rm n D m h hd hz
  · rename_i hz; exact sy_ok rd rs rm n D m h hd hw hz
theorem wrD_down (D : DS) (k : Int) (v : List Int) (h : ¬ D.fuse = 0) : (wrD D k v).down = D.down := by unfold wrD spD; rw [if_neg h]
theorem layS_go {k N i : Nat} {bl : Nat → List Int} {D : DS} (h : i < N) (hz : ¬ D.fuse = 0) : layS k bl (N - i) i D = layS k bl (N - (i + 1)) (i + 1) (wrD D ((k + i : Nat) : Int) (bl i)) := by
  rw [show N - i = (N - (i + 1)) + 1 by omega]
  show (if D.fuse = 0 then _ else _) = _
  rw [if_neg hz]
theorem layS_no {k N i : Nat} {bl : Nat → List Int} {D : DS} (h : i < N) (hz : D.fuse = 0) : layS k bl (N - i) i D = (spD D, 5) := by
  rw [show N - i = (N - (i + 1)) + 1 by omega]
  show (if D.fuse = 0 then _ else _) = _
  rw [if_pos hz]
theorem lay_c (rv rl rd : Nat) (V : VS) (m : AMem) (h : HasV m rv rl rd V) (rs rm n : Nat) (D : DS) (hd : HasD m rd rs rm n D) (hwd : WfD n D) (hdn : D.down = false) (hn : n ≤ 8192) (k N rp vp len : Nat) (bs : List Int) (hp : ∃ kk ez, m[rp]? = some ⟨kk, 5, vp, ez, u8l bs⟩) (hlen : bs.length = len) (hl2 : len ≤ 262144) (hN : (N : Int) = needZ (len : Int)) (hkN : k + N ≤ n) : Ctr Try.prog 35 [.one (.ptr rv 0 0), .one (.int .i64 (k : Int)), .one (.sl rp vp 0 len)] m (.one (.int .i64 (layS k (chB bs) N 0 D).2)) (setD m rd rs rm n (layS k (chB bs) N 0 D).1) := by
  refine Ctr.enter Try.func35 rfl (by decide) (rs := [.tmp 6]) (nt := 40) rfl rfl fun hwf Q hQ => ?_
  obtain ⟨kk, ez, hp⟩ := hp
  have hv := h.v
  have lv := get_lt hv
  have lpp := get_lt hp
  have hrd := hd.d
  have ld := get_lt hd.d
  have lr := get_lt hd.r
  have lm := get_lt hd.m
  have sdl := fun D' => setD_len m rd rs rm n D'
  have sdh := fun D' => hd.set D'
  have sda : ∀ D1 D2 X, setD (setD m rd rs rm n D1 ++ X) rd rs rm n D2 = setD m rd rs rm n D2 ++ X := fun D1 D2 X => by rw [setD_app (hd.set D1), setD_twice hd]
  have sd0 : ∀ D2 X, setD (m ++ X) rd rs rm n D2 = setD m rd rs rm n D2 ++ X := fun D2 X => setD_app hd D2 X
  have sdt : ∀ D1 D2, setD (setD m rd rs rm n D1) rd rs rm n D2 = setD m rd rs rm n D2 := fun D1 D2 => setD_twice hd D1 D2
  have sdf : ∀ D', ((m.set rd (drB rs rm n D')).set rs (rowD n D')).set rm (mapD D') = setD m rd rs rm n D' := fun _ => rfl
  have sdd : ∀ D', (setD m rd rs rm n D')[rd]? = some (drB rs rm n D') := fun D' => (hd.set D').d
  have gS := fun (D' : DS) (L : AMem) => mk_lk0 (m := m) (l := setD m rd rs rm n D') (setD_len m rd rs rm n D') L
  have kS := fun (D' : DS) (L : AMem) (k : Nat) => mk_lk (m := m) (l := setD m rd rs rm n D') (setD_len m rd rs rm n D') L k
  have tS := fun (D' : DS) (L : AMem) (k : Nat) (b : Blk) => mk_set (m := m) (l := setD m rd rs rm n D') (setD_len m rd rs rm n D') L k b
  have t0S := fun (D' : DS) (L : AMem) (b : Blk) => mk_set0 (m := m) (l := setD m rd rs rm n D') (setD_len m rd rs rm n D') L b
  have hwfD := fun D' => setD_wf (rd := rd) (n := n) hwf lr lm D'
  have ov := fun D' => setD_other (rs := rs) (rm := rm) (rd := rd) (n := n) (D := D') hv (by rintro rfl; rw [hd.d] at hv; simp [vtB, rS, drB] at hv) (by rintro rfl; rw [hd.r] at hv; simp [vtB, rS, rowD] at hv) (by rintro rfl; rw [hd.m] at hv; simp [vtB, rS, mapD] at hv)
  have op := fun D' => setD_other (rs := rs) (rm := rm) (rd := rd) (n := n) (D := D') hp (by rintro rfl; rw [hd.d] at hp; simp [vtB, rS, drB] at hp) (by rintro rfl; rw [hd.r] at hp; simp [vtB, rS, rowD] at hp) (by rintro rfl; rw [hd.m] at hp; simp [vtB, rS, mapD] at hp)
  obtain ⟨b1, b2⟩ := needZ_nat hN (by omega)
  have ul : (u8l bs).length = len := by rw [u8l_len]; exact hlen
  have hset0 : setD m rd rs rm n D = m := hd.same
  have hnd : needZ (len : Int) = (N : Int) := hN.symm
  
  refine AW.seq_k fun K hK => ?_
  refine AW.region (by decide) ?_
  simp only [push_cast, simprocAttr, sdl, sda, sd0, sdt, sdf, gS, kS, tS, t0S, hp, lk_old hp, hv, lk_old hv, vtB, hnd, ul, u8l_len, List.length_set]
  refine Thn_n ?_
  refine hK _ _ ?_
  clear hK K
  refine AW.seq_k fun K hK => ?_
  refine AW.seq_k fun K hK => ?_
  refine AW.region (by decide) ?_
  simp only [push_cast, simprocAttr, sdl, sda, sd0, sdt, sdf, gS, kS, tS, t0S, hp, lk_old hp, hv, lk_old hv, vtB, hnd, ul, u8l_len, List.length_set]
  refine CThen.by (need_c (len : Int) _ (by omega)) ?_
  simp only [push_cast, simprocAttr, sdl, sda, sd0, sdt, sdf, gS, kS, tS, t0S, hp, lk_old hp, hv, lk_old hv, vtB, hnd, ul, u8l_len, List.length_set]
  refine Thn_n ?_
  refine hK _ _ ?_
  clear hK K
  refine AW.block ?_
  refine AW.loopK [0, 1, 2, 12] (fun (q : Nat × DS) => q.1 ≤ N ∧ q.2.down = false ∧ WfD n q.2 ∧ layS k (chB bs) (N - q.1) q.1 q.2 = layS k (chB bs) N 0 D) (fun (q : Nat × DS) => [(13, .one (.int .i64 (q.1 : Int)))]) (fun (q : Nat × DS) => [(rd, drB rs rm n q.2), (rs, rowD n q.2), (rm, mapD q.2)]) (fun (q : Nat × DS) => N - q.1) (0, D) ⟨Nat.zero_le _, hdn, hwd, rfl⟩ ?_ ?_ fun (q : Nat × DS) hi4 => ?_
  · first | rfl | (simp only [Keeps, Tm.get_cons, Nat.reduceEqDiff, ↓reduceIte, if_true, if_false, ite_true, ite_false, true_and, and_true, and_self, reduceCtorEq] <;> repeat' (first | rfl | apply And.intro))
  · exact hset0
  obtain ⟨i, D2⟩ := q
  obtain ⟨j1, j2, j3, j4⟩ := hi4
  simp only at j1 j2 j3 j4
  try simp only [keepL, setAll, push_cast, simprocAttr, sdl, sda, sd0, sdt, sdf, gS, kS, tS, t0S, hp, lk_old hp, hv, lk_old hv, vtB, hnd, ul, u8l_len, List.length_set]
  refine AW.seq_k fun K hK => ?_
  refine AW.region (by decide) ?_
  simp only [push_cast, simprocAttr, sdl, sda, sd0, sdt, sdf, gS, kS, tS, t0S, hp, lk_old hp, hv, lk_old hv, vtB, hnd, ul, u8l_len, List.length_set]
  refine Thn_n ?_
  refine hK _ _ ?_
  clear hK K
  refine AW.seq_k fun K hK => ?_
  refine AW.cond rfl (fun h14 => ?_) (fun h14 => ?_)
  · have hlt : i < N := by have := of_decide_eq_true h14; omega
    obtain ⟨x, hx⟩ : ∃ q : Nat, q = k + i := ⟨_, rfl⟩
    have wx : IntKind.i64.wrap ((k : Int) + (i : Int)) = (x : Int) := by rw [wi (by omega)]; omega
    have hvD := ov D2
    have hpD := op D2
    obtain ⟨y, hy⟩ : ∃ q : Nat, q = i * 128 := ⟨_, rfl⟩
    have wy : IntKind.i64.wrap ((i : Int) * 128) = (y : Int) := by rw [wi (by omega)]; omega
    have y0 : (0 : Int) ≤ (y : Int) := by omega
    have y1 : (y : Int) ≤ (len : Int) := by omega
    obtain ⟨z, hz0⟩ : ∃ q : Nat, q = len - y := ⟨_, rfl⟩
    have wz := hz0.symm
    have yz : y + z ≤ len := by omega
    have dz : ((u8l bs).drop y).take z = u8l (bs.drop y) := by rw [u8l_drop, u8l_take, List.take_of_length_le (by rw [List.length_drop]; omega)]
    have lz : (u8l (bs.drop y)).length = z := by rw [u8l_len, List.length_drop]; omega
    have lz2 : (bs.drop y).length = z := by rw [List.length_drop]; omega
    have zp := z128_pad (bs.drop y)
    rw [lz2] at zp
    have ech : padB (bs.drop y) = chB bs i := by rw [hy]; rfl
    have lc : (u8l (chB bs i)).length = 128 := by rw [u8l_len]; exact padB_len _
    have tc : (u8l (chB bs i)).take 128 = u8l (chB bs i) := List.take_of_length_le (by omega)
    have vz := u8l_vals (bs.drop y)
    have vc := u8l_vals (chB bs i)
    have zpos : 0 < z := by omega
    have mz : min z 128 ≤ 128 := Nat.min_le_right _ _
    have mz0 : 0 < min z 128 := by omega
    refine AW.skip ?_
    refine Thn_n ?_
    refine hK _ _ ?_
    clear hK K
    refine AW.seq_k fun K hK => ?_
    refine AW.block ?_
    iterate 2
      refine AW.seq_k fun K hK => ?_
      refine AW.region (by decide) ?_
      simp only [push_cast, simprocAttr, sdl, sda, sd0, sdt, sdf, gS, kS, tS, t0S, hp, lk_old hp, hv, lk_old hv, vtB, hnd, ul, u8l_len, List.length_set, wx, hvD, hpD, lk_old hvD, lk_old hpD, wy, y0, y1, yz, wz, dz, lz, lz2, zp, ech, lc, tc, vz, vc, mz, mz0, Nat.le_refl, Int.le_refl]
      refine Thn_n ?_
      refine hK _ _ ?_
      clear hK K
    refine AW.seq_k fun K hK => ?_
    refine AW.draw [.ext, .val, .val, .val, .val, .wr] fol (by decide) (by kernel_rfl) ?_
    simp only [push_cast, simprocAttr, sdl, sda, sd0, sdt, sdf, gS, kS, tS, t0S, hp, lk_old hp, hv, lk_old hv, vtB, hnd, ul, u8l_len, List.length_set, wx, hvD, hpD, lk_old hvD, lk_old hpD, wy, y0, y1, yz, wz, dz, lz, lz2, zp, ech, lc, tc, vz, vc, mz, mz0, Nat.le_refl, Int.le_refl]
    refine DExt.by (by first | rfl | exact (List.append_nil _).symm | (simp only [List.append_assoc, List.cons_append, List.nil_append]; rfl)) ?_
    simp only [push_cast, simprocAttr, sdl, sda, sd0, sdt, sdf, gS, kS, tS, t0S, hp, lk_old hp, hv, lk_old hv, vtB, hnd, ul, u8l_len, List.length_set, wx, hvD, hpD, lk_old hvD, lk_old hpD, wy, y0, y1, yz, wz, dz, lz, lz2, zp, ech, lc, tc, vz, vc, mz, mz0, Nat.le_refl, Int.le_refl]
    refine Thn_n ?_
    refine hK _ _ ?_
    clear hK K
    refine AW.seq_k fun K hK => ?_
    refine AW.draw [.val, .val, .val, .rd 0, .val, .val, .val, .rd 0, .wr, .val] fol (by decide) (by kernel_rfl) ?_
    simp only [push_cast, simprocAttr, sdl, sda, sd0, sdt, sdf, gS, kS, tS, t0S, hp, lk_old hp, hv, lk_old hv, vtB, hnd, ul, u8l_len, List.length_set, wx, hvD, hpD, lk_old hvD, lk_old hpD, wy, y0, y1, yz, wz, dz, lz, lz2, zp, ech, lc, tc, vz, vc, mz, mz0, Nat.le_refl, Int.le_refl]
    refine DCallW.by (wr_any rd rs rm n x D2 (chB bs i) _ (padB_len _) ((sdh D2).mono _) j2 (by omega)) ?_
    simp only [push_cast, simprocAttr, sdl, sda, sd0, sdt, sdf, gS, kS, tS, t0S, hp, lk_old hp, hv, lk_old hv, vtB, hnd, ul, u8l_len, List.length_set, wx, hvD, hpD, lk_old hvD, lk_old hpD, wy, y0, y1, yz, wz, dz, lz, lz2, zp, ech, lc, tc, vz, vc, mz, mz0, Nat.le_refl, Int.le_refl]
    refine Thn_n ?_
    refine hK _ _ ?_
    clear hK K
    refine AW.seq_k fun K hK => ?_
    refine AW.region (by decide) ?_
    simp only [push_cast, simprocAttr, sdl, sda, sd0, sdt, sdf, gS, kS, tS, t0S, hp, lk_old hp, hv, lk_old hv, vtB, hnd, ul, u8l_len, List.length_set, wx, hvD, hpD, lk_old hvD, lk_old hpD, wy, y0, y1, yz, wz, dz, lz, lz2, zp, ech, lc, tc, vz, vc, mz, mz0, Nat.le_refl, Int.le_refl]
    refine Thn_n ?_
    refine hK _ _ ?_
    clear hK K
    refine AW.cond rfl (fun h32 => ?_) (fun h32 => ?_)
    · have hz : D2.fuse = 0 := Classical.byContradiction fun hc => by
        unfold wrS at h32; rw [if_neg hc] at h32; simp at h32
      have e1 : wrS D2 x (chB bs i) = (spD D2, 5) := if_pos hz
      have hfin : layS k (chB bs) N 0 D = (spD D2, 5) := by rw [← j4]; exact layS_no hlt hz
      refine AW.seq_k fun K hK => ?_
      refine AW.region (by decide) ?_
      simp only [push_cast, simprocAttr, sdl, sda, sd0, sdt, sdf, gS, kS, tS, t0S, hp, lk_old hp, hv, lk_old hv, vtB, hnd, ul, u8l_len, List.length_set, wx, hvD, hpD, lk_old hvD, lk_old hpD, wy, y0, y1, yz, wz, dz, lz, lz2, zp, ech, lc, tc, vz, vc, mz, mz0, Nat.le_refl, Int.le_refl, e1, hfin]
      refine Thn_n ?_
      refine hK _ _ ?_
      clear hK K
      refine AW.ret ?_
      refine InB_r ?_
      refine Thn_r ?_
      refine Thn_r ?_
      refine InB_r ?_
      refine Thn_r ?_
      refine hQ _ _ _ ?_
      rw [hfin]
      first | refine RetP.dropM0 (setD_len _ _ _ _ _ _) (by first | exact Or.inr rfl | exact Or.inl rfl) ?_ ?_ (hwfD _) | refine RetP.dropM (setD_len _ _ _ _ _ _) (by first | exact Or.inr rfl | exact Or.inl rfl) ?_ ?_ (hwfD _)
      · simp only [resA, resOne, resTv, AV.tv, push_cast, simprocAttr]
      · rfl
    · have hz : ¬ D2.fuse = 0 := fun hc => by
        unfold wrS at h32; rw [if_pos hc] at h32; simp at h32
      have e1 : wrS D2 x (chB bs i) = (wrD D2 (x : Int) (chB bs i), 0) := if_neg hz
      obtain ⟨nx, hnx, hnI, hnmu⟩ : ∃ nx : Nat × DS, nx = (i + 1, wrD D2 (x : Int) (chB bs i)) ∧ (nx.1 ≤ N ∧ nx.2.down = false ∧ WfD n nx.2 ∧ layS k (chB bs) (N - nx.1) nx.1 nx.2 = layS k (chB bs) N 0 D) ∧ N - nx.1 < N - i := ⟨_, rfl, ⟨by show i + 1 ≤ N; omega, by show (wrD D2 _ _).down = false; rw [wrD_down _ _ _ hz]; exact j2, wrD_wf j3 (by omega) (by omega) (padB_len _), by rw [← j4, layS_go hlt hz, hx]⟩, by show N - (i + 1) < N - i; omega⟩
      refine AW.skip ?_
      refine InB_n ?_
      refine Thn_n ?_
      refine hK _ _ ?_
      clear hK K
      refine AW.region (by decide) ?_
      simp only [push_cast, simprocAttr, sdl, sda, sd0, sdt, sdf, gS, kS, tS, t0S, hp, lk_old hp, hv, lk_old hv, vtB, hnd, ul, u8l_len, List.length_set, wx, hvD, hpD, lk_old hvD, lk_old hpD, wy, y0, y1, yz, wz, dz, lz, lz2, zp, ech, lc, tc, vz, vc, mz, mz0, Nat.le_refl, Int.le_refl, e1]
      refine Thn_n ?_
      have hwi : IntKind.i64.wrap ((i:Int)+1) = (i:Int)+1 := wi (by omega)
      refine ⟨nx, hnI, hnmu, ?_⟩
      try simp only [keepL, setAll, push_cast, simprocAttr, sdl, sda, sd0, sdt, sdf, gS, kS, tS, t0S, hp, lk_old hp, hv, lk_old hv, vtB, hnd, ul, u8l_len, List.length_set, wx, hvD, hpD, lk_old hvD, lk_old hpD, wy, y0, y1, yz, wz, dz, lz, lz2, zp, ech, lc, tc, vz, vc, mz, mz0, Nat.le_refl, Int.le_refl, e1, hnx, hwi]
      exact Weak.to (extra := [_]) (by simp only [Keeps, Tm.get_cons, Nat.reduceEqDiff, ↓reduceIte, if_true, if_false, ite_true, ite_false, true_and, and_true, and_self, reduceCtorEq, hnx, hwi]) (by first | rfl | (simp only [List.append_assoc, List.cons_append, List.nil_append]; rfl)) (by first | rfl | (simp [AV.below, CV.below, sdl]; done) | (simp [AV.below, CV.below, sdl]; omega)) (by first | exact hwf | (rw [show (setAll m [(rd, drB rs rm n (wrD D2 (x : Int) (chB bs i))), (rs, rowD n (wrD D2 (x : Int) (chB bs i))), (rm, mapD (wrD D2 (x : Int) (chB bs i)))]).length = m.length from sdl _]; exact hwfD _) | (simp only [sdl]; exact hwfD _) | (show MWf (setD m rd rs rm n (wrD D2 (x : Int) (chB bs i))).length (setD m rd rs rm n (wrD D2 (x : Int) (chB bs i))); rw [sdl]; exact hwfD _))
  · have hin : i = N := by have := of_decide_eq_false h14; omega
    subst hin
    have hvD := ov D2
    rw [Nat.sub_self] at j4
    have hfin : layS k (chB bs) i 0 D = syS D2 := j4.symm
    refine AW.exit ?_
    refine Thn_e ?_
    clear hK K
    refine Thn_e ?_
    refine InB_here ?_
    refine Thn_n ?_
    refine hK _ _ ?_
    clear hK K
    refine AW.seq_k fun K hK => ?_
    refine AW.region (by decide) ?_
    simp only [push_cast, simprocAttr, sdl, sda, sd0, sdt, sdf, gS, kS, tS, t0S, hp, lk_old hp, hv, lk_old hv, vtB, hnd, ul, u8l_len, List.length_set, hvD, lk_old hvD, hfin]
    refine CThen.by (sy_any rd rs rm n D2 _ (by first | exact (sdh D2).mono _ | exact sdh D2) j2 j3) ?_
    simp only [push_cast, simprocAttr, sdl, sda, sd0, sdt, sdf, gS, kS, tS, t0S, hp, lk_old hp, hv, lk_old hv, vtB, hnd, ul, u8l_len, List.length_set, hvD, lk_old hvD, hfin]
    refine Thn_n ?_
    refine hK _ _ ?_
    clear hK K
    refine AW.ret ?_
    refine hQ _ _ _ ?_
    rw [hfin]
    first | refine RetP.dropM0 (setD_len _ _ _ _ _ _) (by first | exact Or.inr rfl | exact Or.inl rfl) ?_ ?_ (hwfD _) | refine RetP.dropM (setD_len _ _ _ _ _ _) (by first | exact Or.inr rfl | exact Or.inl rfl) ?_ ?_ (hwfD _)
    · simp only [resA, resOne, resTv, AV.tv, push_cast, simprocAttr]
    · rfl
end Go.Proofs.Ytdkfbbjpblfclaa

set_option linter.unusedSimpArgs false
set_option linter.unusedVariables false
set_option maxRecDepth 100000
set_option maxHeartbeats 4000000
namespace Go.Proofs.Ytdkfbbjpblfclaa
open Go Go.Eng

/-- A vault over its device. -/
structure HasB (m : AMem) (rv rl rd rs rm n : Nat) (V : VS) (D : DS) : Prop where
  v : HasV m rv rl rd V
  d : HasD m rd rs rm n D
def setB (m : AMem) (rv rl rd rs rm n : Nat) (V : VS) (D : DS) : AMem := setD (setV m rv rl rd V) rd rs rm n D
section
variable {m : AMem} {rv rl rd rs rm n : Nat} {V : VS} {D : DS}
theorem HasB.vd (h : HasB m rv rl rd rs rm n V D) : rv ≠ rd := fun e => by
  have h1 := h.v.v; rw [e, h.d.d] at h1; simp [vtB, drB] at h1
theorem HasB.vs (h : HasB m rv rl rd rs rm n V D) : rv ≠ rs := fun e => by
  have h1 := h.v.v; rw [e, h.d.r] at h1; simp [vtB, rowD] at h1
theorem HasB.vm (h : HasB m rv rl rd rs rm n V D) : rv ≠ rm := fun e => by
  have h1 := h.v.v; rw [e, h.d.m] at h1; simp [vtB, mapD] at h1
theorem HasB.ld (h : HasB m rv rl rd rs rm n V D) : rl ≠ rd := fun e => by
  have h1 := h.v.l; rw [e, h.d.d] at h1; simp [rS, drB] at h1
theorem HasB.ls (h : HasB m rv rl rd rs rm n V D) : rl ≠ rs := fun e => by
  have h1 := h.v.l; rw [e, h.d.r] at h1; simp [rS, rowD] at h1
theorem HasB.lm (h : HasB m rv rl rd rs rm n V D) : rl ≠ rm := fun e => by
  have h1 := h.v.l; rw [e, h.d.m] at h1; simp [rS, mapD] at h1
theorem HasB.mono (h : HasB m rv rl rd rs rm n V D) (x : AMem) : HasB (m ++ x) rv rl rd rs rm n V D := ⟨h.v.mono x, h.d.mono x⟩
theorem HasB.setD (h : HasB m rv rl rd rs rm n V D) (D' : DS) : HasB (setD m rd rs rm n D') rv rl rd rs rm n V D' :=
  ⟨⟨setD_other h.v.v h.vd h.vs h.vm, setD_other h.v.l h.ld h.ls h.lm⟩, h.d.set D'⟩
theorem setV_len (m : AMem) (rv rl rd : Nat) (V : VS) : (setV m rv rl rd V).length = m.length := by simp [setV]
theorem setB_len (m : AMem) (rv rl rd rs rm n : Nat) (V : VS) (D : DS) : (setB m rv rl rd rs rm n V D).length = m.length := by rw [setB, setD_len, setV_len]
theorem HasV.same (h : HasV m rv rl rd V) : setV m rv rl rd V = m := by unfold setV; rw [set_self h.v, set_self h.l]
theorem HasB.same (h : HasB m rv rl rd rs rm n V D) : setB m rv rl rd rs rm n V D = m := by unfold setB; rw [h.v.same, h.d.same]
theorem HasB.setV (h : HasB m rv rl rd rs rm n V D) (V' : VS) : HasB (setV m rv rl rd V') rv rl rd rs rm n V' D := by
  have lv := get_lt h.v.v
  have ll := get_lt h.v.l
  have nvl := h.v.ne
  have ov : ∀ {r : Nat} {b : Blk}, m[r]? = some b → rv ≠ r → rl ≠ r → (Go.Proofs.Ytdkfbbjpblfclaa.setV m rv rl rd V')[r]? = some b := fun hr h1 h2 => by
    unfold Go.Proofs.Ytdkfbbjpblfclaa.setV; rw [List.getElem?_set_ne h2, List.getElem?_set_ne h1]; exact hr
  refine ⟨⟨?_, ?_⟩, ⟨ov h.d.d h.vd h.ld, ov h.d.r h.vs h.ls, ov h.d.m h.vm h.lm⟩⟩
  · unfold Go.Proofs.Ytdkfbbjpblfclaa.setV; rw [List.getElem?_set_ne nvl.symm, List.getElem?_set_self lv]
  · unfold Go.Proofs.Ytdkfbbjpblfclaa.setV; rw [List.getElem?_set_self (by simpa using ll)]
theorem HasB.set (h : HasB m rv rl rd rs rm n V D) (V' : VS) (D' : DS) : HasB (setB m rv rl rd rs rm n V' D') rv rl rd rs rm n V' D' := (h.setV V').setD D'
theorem setB_dead (h : HasB m rv rl rd rs rm n V D) (D' : DS) (e : Int) : (Go.Proofs.Ytdkfbbjpblfclaa.setD m rd rs rm n D').set rv (vtB rd rl { V with dead := e }) = setB m rv rl rd rs rm n { V with dead := e } D' := by
  unfold setB Go.Proofs.Ytdkfbbjpblfclaa.setV
  rw [show rS 0 ({ V with dead := e } : VS).k ({ V with dead := e } : VS).f = rS 0 V.k V.f from rfl, set_self (l := m.set rv _) (by rw [List.getElem?_set_ne h.v.ne]; exact h.v.l)]
  unfold Go.Proofs.Ytdkfbbjpblfclaa.setD
  rw [List.set_comm _ _ h.vm.symm, List.set_comm _ _ h.vs.symm, List.set_comm _ _ h.vd.symm]
theorem setB_f (h : HasB m rv rl rd rs rm n V D) (D' : DS) (f : Nat → SL) : (Go.Proofs.Ytdkfbbjpblfclaa.setD m rd rs rm n D').set rl (rS 0 V.k f) = setB m rv rl rd rs rm n { V with f := f } D' := by
  unfold setB Go.Proofs.Ytdkfbbjpblfclaa.setV
  rw [show vtB rd rl ({ V with f := f } : VS) = vtB rd rl V from rfl, set_self h.v.v]
  unfold Go.Proofs.Ytdkfbbjpblfclaa.setD
  rw [List.set_comm _ _ h.lm.symm, List.set_comm _ _ h.ls.symm, List.set_comm _ _ h.ld.symm]
theorem vtB_below {L : Nat} (hd : rd < L) (hl : rl < L) (V : VS) : (vtB rd rl V).cells.all (CV.below L) = true := by
  simp [vtB, CV.below, hd, hl]
theorem setB_wf {L : Nat} (hw : MWf L m) (hl : rl < L) (hd : rd < L) (hs : rs < L) (hm : rm < L) (V' : VS) (D' : DS) : MWf L (setB m rv rl rd rs rm n V' D') :=
  setD_wf (MWf_setB (MWf_setB hw (vtB_below hd hl V') rfl) (cC_below _ _ _) rfl) hs hm D'
theorem HasB.wf (h : HasB m rv rl rd rs rm n V D) (hw : MWf m.length m) (V' : VS) (D' : DS) : MWf m.length (setB m rv rl rd rs rm n V' D') :=
  setB_wf hw (get_lt h.v.l) (get_lt h.d.d) (get_lt h.d.r) (get_lt h.d.m) V' D'
end
end Go.Proofs.Ytdkfbbjpblfclaa

set_option linter.unusedSimpArgs false
set_option linter.unusedVariables false
set_option maxRecDepth 100000
set_option maxHeartbeats 4000000
namespace Go.Proofs.Ytdkfbbjpblfclaa
open Go Go.Eng

end Go.Proofs.Ytdkfbbjpblfclaa

set_option linter.unusedSimpArgs false
set_option linter.unusedVariables false
set_option maxRecDepth 100000
set_option maxHeartbeats 4000000
namespace Go.Proofs.Ytdkfbbjpblfclaa
open Go Go.Eng

/-- The slot's own block, once its bytes are there. -/
def wsS (V : VS) (D : DS) (fr : Nat) (s : SL) : VS × DS × Int :=
  if ((wrS D fr (encB s)).2 != 0) = true then ({ V with dead := (wrS D fr (encB s)).2 }, (wrS D fr (encB s)).1, (wrS D fr (encB s)).2)
  else if ((syS (wrS D fr (encB s)).1).2 != 0) = true then ({ V with dead := (syS (wrS D fr (encB s)).1).2 }, (syS (wrS D fr (encB s)).1).1, (syS (wrS D fr (encB s)).1).2)
  else ({ V with f := upF V.f fr s }, (syS (wrS D fr (encB s)).1).1, 0)
theorem wrS_ok {D : DS} {k n : Nat} {v : List Int} (h : ((wrS D k v).2 != 0) = false) (hd : D.down = false) (hw : WfD n D) (hk : k < n) (hv : v.length = 128) : (wrS D k v).1.down = false ∧ WfD n (wrS D k v).1 := by
  unfold wrS at h ⊢
  split at h
  · simp at h
  · rename_i hz
    rw [if_neg hz]
    exact ⟨by show (wrD D _ _).down = false; rw [wrD_down _ _ _ hz]; exact hd, wrD_wf hw (by omega) (by omega) hv⟩
theorem syD_down (D : DS) (hz : ¬ D.fuse = 0) : (syD D).down = D.down := by unfold syD spD; rw [if_neg hz]
theorem syS_ok {D : DS} {n : Nat} (h : ((syS D).2 != 0) = false) (hd : D.down = false) (hw : WfD n D) : (syS D).1.down = false ∧ WfD n (syS D).1 := by
  unfold syS at h ⊢
  split at h
  · simp at h
  · rename_i hz
    rw [if_neg hz]
    exact ⟨by rw [syD_down _ hz]; exact hd, syD_wf hw⟩
theorem layS_ok {k n N : Nat} {bl : Nat → List Int} (hb : ∀ i, (bl i).length = 128) : ∀ (r i : Nat) (D : DS), ((layS k bl r i D).2 != 0) = false → D.down = false → WfD n D → k + i + r ≤ n → (layS k bl r i D).1.down = false ∧ WfD n (layS k bl r i D).1
  | 0, i, D, h, hd, hw, _ => syS_ok h hd hw
  | r + 1, i, D, h, hd, hw, hk => by
    unfold layS at h ⊢
    split at h
    · simp at h
    · rename_i hz
      rw [if_neg hz]
      exact layS_ok (N := N) hb r (i + 1) _ h (by rw [wrD_down _ _ _ hz]; exact hd) (wrD_wf hw (by omega) (by omega) (hb i)) (by omega)
theorem put_full1 (rv rl rd rs rm n : Nat) (V : VS) (D : DS) (m : AMem) (hB : HasB m rv rl rd rs rm n V D) (hf : ∀ i, OkS (V.f i)) (hk : V.k ≤ 512) (h0 : V.dead = 0) (kind : Int) (hkd : kind = 1 ∨ kind = 2) (key : List Int) (hkey : key.length = 32) (rp vp len : Nat) (bs : List Int) (hp : ∃ kk ez, m[rp]? = some ⟨kk, 5, vp, ez, u8l bs⟩) (hlen : bs.length = len) (hl2 : len ≤ 262144) (ho : U8ok bs) (hwd : WfD n D) (hdn : D.down = false) (hn : n ≤ 8192) (hd0 : 0 ≤ V.data) (hd1 : V.data ≤ 512) (hmiss : fnd (fdB key) V.f V.k < 0) (hfr : fnd (fun s => s.kind == 0) V.f V.k < 0) : Ctr Try.prog 10 [.one (.ptr rv 0 0), .one (.int .i64 kind), .agg (u8l key), .one (.sl rp vp 0 len)] m (.one (.int .i64 4)) m := by
  refine Ctr.enter Try.func10 rfl (by decide) (rs := [.tmp 8]) (nt := 138) rfl rfl fun hwf Q hQ => ?_
  obtain ⟨kk, ez, hp⟩ := hp
  have h := hB.v
  have hv := h.v
  have hl := h.l
  have lv := get_lt hv
  have ll := get_lt hl
  have lpp := get_lt hp
  have gl : (cC V.k V.f).length = V.k * 67 := cC_len hf V.k
  have hup : ∀ X : AMem, Ctr Try.prog 31 [.one (.ptr rv 0 0)] (m ++ X) (.one (.int .i64 0)) (m ++ X) := fun X => by
    have := vup_c rv rl rd V (m ++ X) (lk_old hv X)
    rwa [h0] at this
  have kl : (u8l key).length = 32 := by rw [u8l_len]; exact hkey
  have kt : (u8l key).take 32 = u8l key := List.take_of_length_le (by omega)
  have kv := u8l_vals key
  have ksl : (u8l (shaL bs)).length = 32 := by rw [u8l_len]; exact shaL_len bs
  have kst : (u8l (shaL bs)).take 32 = u8l (shaL bs) := List.take_of_length_le (by omega)
  have ksv := u8l_vals (shaL bs)
  have kz : setL [CV.int .u8 0, CV.int .u8 0, CV.int .u8 0, CV.int .u8 0, CV.int .u8 0, CV.int .u8 0, CV.int .u8 0, CV.int .u8 0, CV.int .u8 0, CV.int .u8 0, CV.int .u8 0, CV.int .u8 0, CV.int .u8 0, CV.int .u8 0, CV.int .u8 0, CV.int .u8 0, CV.int .u8 0, CV.int .u8 0, CV.int .u8 0, CV.int .u8 0, CV.int .u8 0, CV.int .u8 0, CV.int .u8 0, CV.int .u8 0, CV.int .u8 0, CV.int .u8 0, CV.int .u8 0, CV.int .u8 0, CV.int .u8 0, CV.int .u8 0, CV.int .u8 0, CV.int .u8 0] 0 (u8l (shaL bs)) = u8l (shaL bs) := setL_full (by rw [ksl]; rfl)
  have ul : (u8l bs).length = len := by rw [u8l_len]; exact hlen
  have lng : ¬ (262144 : Int) < (len : Int) := by omega
  have sl := fun i => slC_len (hf i).w
  have f0 := fun i => slC_0 (V.f i)
  have f2 := fun i => slC_2 (hf i).w
  have hm1 := (fnd_neg hmiss).1
  have hf1 := (fnd_neg hfr).1
  obtain ⟨pz, hpz⟩ : ∃ z, z = plZ V n (shaL bs) (len : Int) := ⟨_, rfl⟩
  refine AW.seq_k fun K hK => ?_
  refine AW.region (by decide) ?_
  simp only [push_cast, simprocAttr, hv, hl, lk_old hv, lk_old hl, hp, lk_old hp, vtB, rS, gl, kl, kt, kv, ksl, kst, ksv, kz, ul, lng, u8l_len, slC_vals, hm1, hf1]
  refine Thn_n ?_
  refine hK _ _ ?_
  clear hK K
  refine AW.seq_k fun K hK => ?_
  refine AW.seq_k fun K hK => ?_
  refine AW.region (by decide) ?_
  simp only [push_cast, simprocAttr, hv, hl, lk_old hv, lk_old hl, hp, lk_old hp, vtB, rS, gl, kl, kt, kv, ksl, kst, ksv, kz, ul, lng, u8l_len, slC_vals, hm1, hf1]
  refine CThen.by (hup _) ?_
  simp only [push_cast, simprocAttr, hv, hl, lk_old hv, lk_old hl, hp, lk_old hp, vtB, rS, gl, kl, kt, kv, ksl, kst, ksv, kz, ul, lng, u8l_len, slC_vals, hm1, hf1]
  refine Thn_n ?_
  refine hK _ _ ?_
  clear hK K
  refine AW.seq_k fun K hK => ?_
  refine AW.region (by decide) ?_
  simp only [push_cast, simprocAttr, hv, hl, lk_old hv, lk_old hl, hp, lk_old hp, vtB, rS, gl, kl, kt, kv, ksl, kst, ksv, kz, ul, lng, u8l_len, slC_vals, hm1, hf1]
  refine Thn_n ?_
  refine hK _ _ ?_
  clear hK K
  refine AW.cond_f rfl ?_
  refine AW.skip ?_
  refine Thn_n ?_
  refine hK _ _ ?_
  clear hK K
  refine AW.seq_k fun K hK => ?_
  refine AW.region (by decide) ?_
  simp only [push_cast, simprocAttr, hv, hl, lk_old hv, lk_old hl, hp, lk_old hp, vtB, rS, gl, kl, kt, kv, ksl, kst, ksv, kz, ul, lng, u8l_len, slC_vals, hm1, hf1]
  refine CThen.by (of1_c (m.length + 1) 0 0 (.sl rp vp 0 len) bs [.sl rp vp 0 len] .grow 1 _ (by rw [lk_app]; rfl) rfl (.all (lk_old hp _) hlen.symm) (by omega) ho) ?_
  simp only [push_cast, simprocAttr, hv, hl, lk_old hv, lk_old hl, hp, lk_old hp, vtB, rS, gl, kl, kt, kv, ksl, kst, ksv, kz, ul, lng, u8l_len, slC_vals, hm1, hf1]
  refine Thn_n ?_
  refine hK _ _ ?_
  clear hK K
  refine AW.seq_k fun K hK => ?_
  refine AW.region (by decide) ?_
  simp only [push_cast, simprocAttr, hv, hl, lk_old hv, lk_old hl, hp, lk_old hp, vtB, rS, gl, kl, kt, kv, ksl, kst, ksv, kz, ul, lng, u8l_len, slC_vals, hm1, hf1]
  refine CThen.by (find_c rv rl rd V _ (h.mono _) hf hk key hkey) ?_
  simp only [push_cast, simprocAttr, hv, hl, lk_old hv, lk_old hl, hp, lk_old hp, vtB, rS, gl, kl, kt, kv, ksl, kst, ksv, kz, ul, lng, u8l_len, slC_vals, hm1, hf1]
  refine Thn_n ?_
  refine hK _ _ ?_
  clear hK K
  refine AW.seq_k fun K hK => ?_
  refine AW.block ?_
  refine AW.seq_k fun K hK => ?_
  refine AW.viaJ [0, 1, 3, 6, 10, 11] [(30, .one (.bool false))] [] ?_ ?_
  · rcases hkd with hk1 | hk1
    · have q1 : (kind != 1) = false := by simp [hk1]
      refine AW.region (by decide) ?_
      simp only [push_cast, simprocAttr, hv, hl, lk_old hv, lk_old hl, hp, lk_old hp, vtB, rS, gl, kl, kt, kv, ksl, kst, ksv, kz, ul, lng, u8l_len, slC_vals, hm1, hf1, q1]
      refine Thn_n ?_
      try simp only [keepL, setAll, push_cast, simprocAttr, hv, hl, lk_old hv, lk_old hl, hp, lk_old hp, vtB, rS, gl, kl, kt, kv, ksl, kst, ksv, kz, ul, lng, u8l_len, slC_vals, hm1, hf1, q1, and_self]
      exact Weak.same (by simp only [Keeps, Tm.get_cons, Nat.reduceEqDiff, ↓reduceIte, if_true, if_false, ite_true, ite_false, true_and, and_true, and_self, reduceCtorEq, and_self]) (by first | rfl | simp only [Keeps, Tm.get_cons, Nat.reduceEqDiff, ↓reduceIte, if_true, if_false, ite_true, ite_false, true_and, and_true, and_self, reduceCtorEq, and_self])
    · have q1 : (kind != 1) = true := by rw [hk1]; rfl
      have q2 : (kind != 2) = false := by simp [hk1]
      refine AW.region (by decide) ?_
      simp only [push_cast, simprocAttr, hv, hl, lk_old hv, lk_old hl, hp, lk_old hp, vtB, rS, gl, kl, kt, kv, ksl, kst, ksv, kz, ul, lng, u8l_len, slC_vals, hm1, hf1, q1, q2]
      refine Thn_n ?_
      try simp only [keepL, setAll, push_cast, simprocAttr, hv, hl, lk_old hv, lk_old hl, hp, lk_old hp, vtB, rS, gl, kl, kt, kv, ksl, kst, ksv, kz, ul, lng, u8l_len, slC_vals, hm1, hf1, q1, q2, and_self]
      exact Weak.same (by simp only [Keeps, Tm.get_cons, Nat.reduceEqDiff, ↓reduceIte, if_true, if_false, ite_true, ite_false, true_and, and_true, and_self, reduceCtorEq, and_self]) (by first | rfl | simp only [Keeps, Tm.get_cons, Nat.reduceEqDiff, ↓reduceIte, if_true, if_false, ite_true, ite_false, true_and, and_true, and_self, reduceCtorEq, and_self])
  try simp only [keepL, setAll, push_cast, simprocAttr, hv, hl, lk_old hv, lk_old hl, hp, lk_old hp, vtB, rS, gl, kl, kt, kv, ksl, kst, ksv, kz, ul, lng, u8l_len, slC_vals, hm1, hf1]
  refine Thn_n ?_
  refine hK _ _ ?_
  clear hK K
  refine AW.cond_f rfl ?_
  refine AW.seq_k fun K hK => ?_
  refine AW.region (by decide) ?_
  simp only [push_cast, simprocAttr, hv, hl, lk_old hv, lk_old hl, hp, lk_old hp, vtB, rS, gl, kl, kt, kv, ksl, kst, ksv, kz, ul, lng, u8l_len, slC_vals, hm1, hf1]
  refine Thn_n ?_
  refine hK _ _ ?_
  clear hK K
  refine AW.cond_f rfl ?_
  refine AW.seq_k fun K hK => ?_
  refine AW.draw [.val, .val, .val, .val, .val, .val, .rd 0, .val, .val, .val, .rd 0, .val, .val, .val, .val, .val, .val, .val, .rd 0, .val, .val, .val, .rd 0, .rd 0, .val, .val, .val] fol (by decide) (by kernel_rfl) ?_
  simp only [push_cast, simprocAttr, hv, hl, lk_old hv, lk_old hl, hp, lk_old hp, vtB, rS, gl, kl, kt, kv, ksl, kst, ksv, kz, ul, lng, u8l_len, slC_vals, hm1, hf1]
  refine Thn_n ?_
  refine hK _ _ ?_
  clear hK K
  refine AW.cond_f rfl ?_
  refine AW.seq_k fun K hK => ?_
  refine AW.region (by decide) ?_
  simp only [push_cast, simprocAttr, hv, hl, lk_old hv, lk_old hl, hp, lk_old hp, vtB, rS, gl, kl, kt, kv, ksl, kst, ksv, kz, ul, lng, u8l_len, slC_vals, hm1, hf1]
  refine Thn_n ?_
  refine hK _ _ ?_
  clear hK K
  refine AW.cond_f rfl ?_
  refine AW.skip ?_
  refine InB_n ?_
  refine Thn_n ?_
  refine hK _ _ ?_
  clear hK K
  refine AW.seq_k fun K hK => ?_
  refine AW.region (by decide) ?_
  simp only [push_cast, simprocAttr, hv, hl, lk_old hv, lk_old hl, hp, lk_old hp, vtB, rS, gl, kl, kt, kv, ksl, kst, ksv, kz, ul, lng, u8l_len, slC_vals, hm1, hf1]
  refine CThen.by (ixz_c rl 0 V.k V.f _ (lk_old hl _) hf (by omega)) ?_
  simp only [push_cast, simprocAttr, hv, hl, lk_old hv, lk_old hl, hp, lk_old hp, vtB, rS, gl, kl, kt, kv, ksl, kst, ksv, kz, ul, lng, u8l_len, slC_vals, hm1, hf1]
  refine Thn_n ?_
  refine hK _ _ ?_
  clear hK K
  refine AW.seq_k fun K hK => ?_
  refine AW.region (by decide) ?_
  simp only [push_cast, simprocAttr, hv, hl, lk_old hv, lk_old hl, hp, lk_old hp, vtB, rS, gl, kl, kt, kv, ksl, kst, ksv, kz, ul, lng, u8l_len, slC_vals, hm1, hf1]
  refine CThen.by (place_c rv rl rd V _ (h.mono _) hf hk rs rm n D (lk_old hB.d.d _) hn hd0 hd1 (shaL bs) (len : Int) (shaL_len bs) (by omega) (by omega)) ?_
  simp only [push_cast, simprocAttr, hv, hl, lk_old hv, lk_old hl, hp, lk_old hp, vtB, rS, gl, kl, kt, kv, ksl, kst, ksv, kz, ul, lng, u8l_len, slC_vals, hm1, hf1]
  refine Thn_n ?_
  refine hK _ _ ?_
  clear hK K
  refine AW.seq_k fun K hK => ?_
  refine AW.seq_k fun K hK => ?_
  refine AW.region (by decide) ?_
  simp only [push_cast, simprocAttr, hv, hl, lk_old hv, lk_old hl, hp, lk_old hp, vtB, rS, gl, kl, kt, kv, ksl, kst, ksv, kz, ul, lng, u8l_len, slC_vals, hm1, hf1]
  refine Thn_n ?_
  refine hK _ _ ?_
  clear hK K
  refine AW.cond_t rfl ?_
  refine AW.seq_k fun K hK => ?_
  refine AW.region (by decide) ?_
  simp only [push_cast, simprocAttr, hv, hl, lk_old hv, lk_old hl, hp, lk_old hp, vtB, rS, gl, kl, kt, kv, ksl, kst, ksv, kz, ul, lng, u8l_len, slC_vals, hm1, hf1]
  refine Thn_n ?_
  refine hK _ _ ?_
  clear hK K
  refine AW.ret ?_
  refine Thn_r ?_
  refine hQ _ _ _ ?_
  first | refine RetP.drop0 (Or.inr rfl) ?_ ?_ hwf | refine RetP.drop (Or.inr rfl) ?_ ?_ hwf
  · simp only [resA, resOne, resTv, AV.tv, push_cast, simprocAttr, hv, hl, lk_old hv, lk_old hl, hp, lk_old hp, vtB, rS, gl, kl, kt, kv, ksl, kst, ksv, kz, ul, lng, u8l_len, slC_vals, hm1, hf1]
  · rfl
theorem put_full2 (rv rl rd rs rm n : Nat) (V : VS) (D : DS) (m : AMem) (hB : HasB m rv rl rd rs rm n V D) (hf : ∀ i, OkS (V.f i)) (hk : V.k ≤ 512) (h0 : V.dead = 0) (kind : Int) (hkd : kind = 1 ∨ kind = 2) (key : List Int) (hkey : key.length = 32) (rp vp len : Nat) (bs : List Int) (hp : ∃ kk ez, m[rp]? = some ⟨kk, 5, vp, ez, u8l bs⟩) (hlen : bs.length = len) (hl2 : len ≤ 262144) (ho : U8ok bs) (hwd : WfD n D) (hdn : D.down = false) (hn : n ≤ 8192) (hd0 : 0 ≤ V.data) (hd1 : V.data ≤ 512) (hmiss : fnd (fdB key) V.f V.k < 0) (fr : Nat) (hfr : fnd (fun s => s.kind == 0) V.f V.k = (fr : Int)) (hpl : plZ V n (shaL bs) (len : Int) < 0) : Ctr Try.prog 10 [.one (.ptr rv 0 0), .one (.int .i64 kind), .agg (u8l key), .one (.sl rp vp 0 len)] m (.one (.int .i64 4)) m := by
  refine Ctr.enter Try.func10 rfl (by decide) (rs := [.tmp 8]) (nt := 138) rfl rfl fun hwf Q hQ => ?_
  obtain ⟨kk, ez, hp⟩ := hp
  have h := hB.v
  have hv := h.v
  have hl := h.l
  have lv := get_lt hv
  have ll := get_lt hl
  have lpp := get_lt hp
  have gl : (cC V.k V.f).length = V.k * 67 := cC_len hf V.k
  have hup : ∀ X : AMem, Ctr Try.prog 31 [.one (.ptr rv 0 0)] (m ++ X) (.one (.int .i64 0)) (m ++ X) := fun X => by
    have := vup_c rv rl rd V (m ++ X) (lk_old hv X)
    rwa [h0] at this
  have kl : (u8l key).length = 32 := by rw [u8l_len]; exact hkey
  have kt : (u8l key).take 32 = u8l key := List.take_of_length_le (by omega)
  have kv := u8l_vals key
  have ksl : (u8l (shaL bs)).length = 32 := by rw [u8l_len]; exact shaL_len bs
  have kst : (u8l (shaL bs)).take 32 = u8l (shaL bs) := List.take_of_length_le (by omega)
  have ksv := u8l_vals (shaL bs)
  have kz : setL [CV.int .u8 0, CV.int .u8 0, CV.int .u8 0, CV.int .u8 0, CV.int .u8 0, CV.int .u8 0, CV.int .u8 0, CV.int .u8 0, CV.int .u8 0, CV.int .u8 0, CV.int .u8 0, CV.int .u8 0, CV.int .u8 0, CV.int .u8 0, CV.int .u8 0, CV.int .u8 0, CV.int .u8 0, CV.int .u8 0, CV.int .u8 0, CV.int .u8 0, CV.int .u8 0, CV.int .u8 0, CV.int .u8 0, CV.int .u8 0, CV.int .u8 0, CV.int .u8 0, CV.int .u8 0, CV.int .u8 0, CV.int .u8 0, CV.int .u8 0, CV.int .u8 0, CV.int .u8 0] 0 (u8l (shaL bs)) = u8l (shaL bs) := setL_full (by rw [ksl]; rfl)
  have ul : (u8l bs).length = len := by rw [u8l_len]; exact hlen
  have lng : ¬ (262144 : Int) < (len : Int) := by omega
  have sl := fun i => slC_len (hf i).w
  have f0 := fun i => slC_0 (V.f i)
  have f2 := fun i => slC_2 (hf i).w
  have hm1 := (fnd_neg hmiss).1
  have hfz : ¬ (fr : Int) < 0 := by omega
  refine AW.seq_k fun K hK => ?_
  refine AW.region (by decide) ?_
  simp only [push_cast, simprocAttr, hv, hl, lk_old hv, lk_old hl, hp, lk_old hp, vtB, rS, gl, kl, kt, kv, ksl, kst, ksv, kz, ul, lng, u8l_len, slC_vals, hm1, hfr, hfz, hpl]
  refine Thn_n ?_
  refine hK _ _ ?_
  clear hK K
  refine AW.seq_k fun K hK => ?_
  refine AW.seq_k fun K hK => ?_
  refine AW.region (by decide) ?_
  simp only [push_cast, simprocAttr, hv, hl, lk_old hv, lk_old hl, hp, lk_old hp, vtB, rS, gl, kl, kt, kv, ksl, kst, ksv, kz, ul, lng, u8l_len, slC_vals, hm1, hfr, hfz, hpl]
  refine CThen.by (hup _) ?_
  simp only [push_cast, simprocAttr, hv, hl, lk_old hv, lk_old hl, hp, lk_old hp, vtB, rS, gl, kl, kt, kv, ksl, kst, ksv, kz, ul, lng, u8l_len, slC_vals, hm1, hfr, hfz, hpl]
  refine Thn_n ?_
  refine hK _ _ ?_
  clear hK K
  refine AW.seq_k fun K hK => ?_
  refine AW.region (by decide) ?_
  simp only [push_cast, simprocAttr, hv, hl, lk_old hv, lk_old hl, hp, lk_old hp, vtB, rS, gl, kl, kt, kv, ksl, kst, ksv, kz, ul, lng, u8l_len, slC_vals, hm1, hfr, hfz, hpl]
  refine Thn_n ?_
  refine hK _ _ ?_
  clear hK K
  refine AW.cond_f rfl ?_
  refine AW.skip ?_
  refine Thn_n ?_
  refine hK _ _ ?_
  clear hK K
  refine AW.seq_k fun K hK => ?_
  refine AW.region (by decide) ?_
  simp only [push_cast, simprocAttr, hv, hl, lk_old hv, lk_old hl, hp, lk_old hp, vtB, rS, gl, kl, kt, kv, ksl, kst, ksv, kz, ul, lng, u8l_len, slC_vals, hm1, hfr, hfz, hpl]
  refine CThen.by (of1_c (m.length + 1) 0 0 (.sl rp vp 0 len) bs [.sl rp vp 0 len] .grow 1 _ (by rw [lk_app]; rfl) rfl (.all (lk_old hp _) hlen.symm) (by omega) ho) ?_
  simp only [push_cast, simprocAttr, hv, hl, lk_old hv, lk_old hl, hp, lk_old hp, vtB, rS, gl, kl, kt, kv, ksl, kst, ksv, kz, ul, lng, u8l_len, slC_vals, hm1, hfr, hfz, hpl]
  refine Thn_n ?_
  refine hK _ _ ?_
  clear hK K
  refine AW.seq_k fun K hK => ?_
  refine AW.region (by decide) ?_
  simp only [push_cast, simprocAttr, hv, hl, lk_old hv, lk_old hl, hp, lk_old hp, vtB, rS, gl, kl, kt, kv, ksl, kst, ksv, kz, ul, lng, u8l_len, slC_vals, hm1, hfr, hfz, hpl]
  refine CThen.by (find_c rv rl rd V _ (h.mono _) hf hk key hkey) ?_
  simp only [push_cast, simprocAttr, hv, hl, lk_old hv, lk_old hl, hp, lk_old hp, vtB, rS, gl, kl, kt, kv, ksl, kst, ksv, kz, ul, lng, u8l_len, slC_vals, hm1, hfr, hfz, hpl]
  refine Thn_n ?_
  refine hK _ _ ?_
  clear hK K
  refine AW.seq_k fun K hK => ?_
  refine AW.block ?_
  refine AW.seq_k fun K hK => ?_
  refine AW.viaJ [0, 1, 3, 6, 10, 11] [(30, .one (.bool false))] [] ?_ ?_
  · rcases hkd with hk1 | hk1
    · have q1 : (kind != 1) = false := by simp [hk1]
      refine AW.region (by decide) ?_
      simp only [push_cast, simprocAttr, hv, hl, lk_old hv, lk_old hl, hp, lk_old hp, vtB, rS, gl, kl, kt, kv, ksl, kst, ksv, kz, ul, lng, u8l_len, slC_vals, hm1, hfr, hfz, hpl, q1]
      refine Thn_n ?_
      try simp only [keepL, setAll, push_cast, simprocAttr, hv, hl, lk_old hv, lk_old hl, hp, lk_old hp, vtB, rS, gl, kl, kt, kv, ksl, kst, ksv, kz, ul, lng, u8l_len, slC_vals, hm1, hfr, hfz, hpl, q1, and_self]
      exact Weak.same (by simp only [Keeps, Tm.get_cons, Nat.reduceEqDiff, ↓reduceIte, if_true, if_false, ite_true, ite_false, true_and, and_true, and_self, reduceCtorEq, and_self]) (by first | rfl | simp only [Keeps, Tm.get_cons, Nat.reduceEqDiff, ↓reduceIte, if_true, if_false, ite_true, ite_false, true_and, and_true, and_self, reduceCtorEq, and_self])
    · have q1 : (kind != 1) = true := by rw [hk1]; rfl
      have q2 : (kind != 2) = false := by simp [hk1]
      refine AW.region (by decide) ?_
      simp only [push_cast, simprocAttr, hv, hl, lk_old hv, lk_old hl, hp, lk_old hp, vtB, rS, gl, kl, kt, kv, ksl, kst, ksv, kz, ul, lng, u8l_len, slC_vals, hm1, hfr, hfz, hpl, q1, q2]
      refine Thn_n ?_
      try simp only [keepL, setAll, push_cast, simprocAttr, hv, hl, lk_old hv, lk_old hl, hp, lk_old hp, vtB, rS, gl, kl, kt, kv, ksl, kst, ksv, kz, ul, lng, u8l_len, slC_vals, hm1, hfr, hfz, hpl, q1, q2, and_self]
      exact Weak.same (by simp only [Keeps, Tm.get_cons, Nat.reduceEqDiff, ↓reduceIte, if_true, if_false, ite_true, ite_false, true_and, and_true, and_self, reduceCtorEq, and_self]) (by first | rfl | simp only [Keeps, Tm.get_cons, Nat.reduceEqDiff, ↓reduceIte, if_true, if_false, ite_true, ite_false, true_and, and_true, and_self, reduceCtorEq, and_self])
  try simp only [keepL, setAll, push_cast, simprocAttr, hv, hl, lk_old hv, lk_old hl, hp, lk_old hp, vtB, rS, gl, kl, kt, kv, ksl, kst, ksv, kz, ul, lng, u8l_len, slC_vals, hm1, hfr, hfz, hpl]
  refine Thn_n ?_
  refine hK _ _ ?_
  clear hK K
  refine AW.cond_f rfl ?_
  refine AW.seq_k fun K hK => ?_
  refine AW.region (by decide) ?_
  simp only [push_cast, simprocAttr, hv, hl, lk_old hv, lk_old hl, hp, lk_old hp, vtB, rS, gl, kl, kt, kv, ksl, kst, ksv, kz, ul, lng, u8l_len, slC_vals, hm1, hfr, hfz, hpl]
  refine Thn_n ?_
  refine hK _ _ ?_
  clear hK K
  refine AW.cond_f rfl ?_
  refine AW.seq_k fun K hK => ?_
  refine AW.draw [.val, .val, .val, .val, .val, .val, .rd 0, .val, .val, .val, .rd 0, .val, .val, .val, .val, .val, .val, .val, .rd 0, .val, .val, .val, .rd 0, .rd 0, .val, .val, .val] fol (by decide) (by kernel_rfl) ?_
  simp only [push_cast, simprocAttr, hv, hl, lk_old hv, lk_old hl, hp, lk_old hp, vtB, rS, gl, kl, kt, kv, ksl, kst, ksv, kz, ul, lng, u8l_len, slC_vals, hm1, hfr, hfz, hpl]
  refine Thn_n ?_
  refine hK _ _ ?_
  clear hK K
  refine AW.cond_f rfl ?_
  refine AW.seq_k fun K hK => ?_
  refine AW.region (by decide) ?_
  simp only [push_cast, simprocAttr, hv, hl, lk_old hv, lk_old hl, hp, lk_old hp, vtB, rS, gl, kl, kt, kv, ksl, kst, ksv, kz, ul, lng, u8l_len, slC_vals, hm1, hfr, hfz, hpl]
  refine Thn_n ?_
  refine hK _ _ ?_
  clear hK K
  refine AW.cond_f rfl ?_
  refine AW.skip ?_
  refine InB_n ?_
  refine Thn_n ?_
  refine hK _ _ ?_
  clear hK K
  refine AW.seq_k fun K hK => ?_
  refine AW.region (by decide) ?_
  simp only [push_cast, simprocAttr, hv, hl, lk_old hv, lk_old hl, hp, lk_old hp, vtB, rS, gl, kl, kt, kv, ksl, kst, ksv, kz, ul, lng, u8l_len, slC_vals, hm1, hfr, hfz, hpl]
  refine CThen.by (ixz_c rl 0 V.k V.f _ (lk_old hl _) hf (by omega)) ?_
  simp only [push_cast, simprocAttr, hv, hl, lk_old hv, lk_old hl, hp, lk_old hp, vtB, rS, gl, kl, kt, kv, ksl, kst, ksv, kz, ul, lng, u8l_len, slC_vals, hm1, hfr, hfz, hpl]
  refine Thn_n ?_
  refine hK _ _ ?_
  clear hK K
  refine AW.seq_k fun K hK => ?_
  refine AW.region (by decide) ?_
  simp only [push_cast, simprocAttr, hv, hl, lk_old hv, lk_old hl, hp, lk_old hp, vtB, rS, gl, kl, kt, kv, ksl, kst, ksv, kz, ul, lng, u8l_len, slC_vals, hm1, hfr, hfz, hpl]
  refine CThen.by (place_c rv rl rd V _ (h.mono _) hf hk rs rm n D (lk_old hB.d.d _) hn hd0 hd1 (shaL bs) (len : Int) (shaL_len bs) (by omega) (by omega)) ?_
  simp only [push_cast, simprocAttr, hv, hl, lk_old hv, lk_old hl, hp, lk_old hp, vtB, rS, gl, kl, kt, kv, ksl, kst, ksv, kz, ul, lng, u8l_len, slC_vals, hm1, hfr, hfz, hpl]
  refine Thn_n ?_
  refine hK _ _ ?_
  clear hK K
  refine AW.seq_k fun K hK => ?_
  refine AW.seq_k fun K hK => ?_
  refine AW.region (by decide) ?_
  simp only [push_cast, simprocAttr, hv, hl, lk_old hv, lk_old hl, hp, lk_old hp, vtB, rS, gl, kl, kt, kv, ksl, kst, ksv, kz, ul, lng, u8l_len, slC_vals, hm1, hfr, hfz, hpl]
  refine Thn_n ?_
  refine hK _ _ ?_
  clear hK K
  refine AW.cond_t rfl ?_
  refine AW.seq_k fun K hK => ?_
  refine AW.region (by decide) ?_
  simp only [push_cast, simprocAttr, hv, hl, lk_old hv, lk_old hl, hp, lk_old hp, vtB, rS, gl, kl, kt, kv, ksl, kst, ksv, kz, ul, lng, u8l_len, slC_vals, hm1, hfr, hfz, hpl]
  refine Thn_n ?_
  refine hK _ _ ?_
  clear hK K
  refine AW.ret ?_
  refine Thn_r ?_
  refine hQ _ _ _ ?_
  first | refine RetP.drop0 (Or.inr rfl) ?_ ?_ hwf | refine RetP.drop (Or.inr rfl) ?_ ?_ hwf
  · simp only [resA, resOne, resTv, AV.tv, push_cast, simprocAttr, hv, hl, lk_old hv, lk_old hl, hp, lk_old hp, vtB, rS, gl, kl, kt, kv, ksl, kst, ksv, kz, ul, lng, u8l_len, slC_vals, hm1, hfr, hfz, hpl]
  · rfl
end Go.Proofs.Ytdkfbbjpblfclaa
