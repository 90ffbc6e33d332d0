/- Walks and facts of this seat's program over abstract states, printed by a program of mine; no conditions but those that each theorem names. -/
import Derived.Test.YtmjbbnfmhgcfaaaInts
set_option linter.unusedSimpArgs false
set_option linter.unusedVariables false
set_option maxRecDepth 100000
set_option maxHeartbeats 4000000
namespace Go.Proofs.Ytmjbbnfmhgcfaaa
open Go Go.Eng

-- left out: in_t
-- left out: in_f
-- left out: theorem in_c (r v n 
theorem index_t (r v n : Nat) (f : Nat → Int) (x : Int) (m : AMem) {nn : Nat} (hp : IntsAt m r v nn f) (hnn : n ≤ nn) (hn : n ≤ 9000000000000) (j : Nat) (hj : j < n) (hje : f j = x) (hjf : ∀ i, i < j → ¬ f i = x) : Ctr Try.prog 36 [.one (.sl r v 0 n), .one (.int .i64 x)] m (.one (.int .i64 (j : Int))) m := by
  refine Ctr.enter Try.func36 rfl (by decide) (rs := [.tmp 4]) (nt := 19) rfl rfl fun hwf Q hQ => ?_
  obtain ⟨k0, ez, hb⟩ := hp.hb
  have hr := get_lt hb
  
  refine AW.seq_k fun K hK => ?_
  refine AW.region (by decide) ?_
  simp only [push_cast, simprocAttr, hb, lk_old hb]
  refine Thn_n ?_
  refine hK _ _ ?_
  clear hK K
  refine AW.seq_k fun K hK => ?_
  refine AW.seq_k fun K hK => ?_
  refine AW.region (by decide) ?_
  simp only [push_cast, simprocAttr, hb, lk_old hb]
  refine Thn_n ?_
  refine hK _ _ ?_
  clear hK K
  refine AW.block ?_
  refine AW.loopK [0, 1, 7] (fun i => i ≤ j) (fun i => [(8, .one (.int .i64 (i : Int)))]) (fun i => []) (fun i => n - i) 0 (by omega) ?_ ?_ fun i hi4 => ?_
  · first | rfl | (simp only [Keeps, Tm.get_cons, Nat.reduceEqDiff, ↓reduceIte, if_true, if_false, ite_true, ite_false, true_and, and_true, and_self, reduceCtorEq] <;> rfl)
  · first | rfl | (simp only [setAll, push_cast, simprocAttr, hb, lk_old hb] <;> rfl)
  try simp only [keepL, setAll, push_cast, simprocAttr, hb, lk_old hb]
  refine AW.seq_k fun K hK => ?_
  refine AW.region (by decide) ?_
  simp only [push_cast, simprocAttr, hb, lk_old hb]
  refine Thn_n ?_
  refine hK _ _ ?_
  clear hK K
  refine AW.seq_k fun K hK => ?_
  refine AW.cond rfl (fun h9 => ?_) (fun h9 => ?_)
  · have hlt : i < n := by have := of_decide_eq_true h9; omega
    have c1 : (0 : Int) ≤ (i : Int) := by omega
    have c2 : (i : Int) < (n : Int) := by omega
    have g := il_get (f := f) (Nat.lt_of_lt_of_le hlt hnn)
    refine AW.skip ?_
    refine Thn_n ?_
    refine hK _ _ ?_
    clear hK K
    refine AW.seq_k fun K hK => ?_
    refine AW.block ?_
    iterate 2
      refine AW.seq_k fun K hK => ?_
      refine AW.region (by decide) ?_
      simp only [push_cast, simprocAttr, hb, lk_old hb, c1, c2, g]
      refine Thn_n ?_
      refine hK _ _ ?_
      clear hK K
    refine AW.cond rfl (fun h16 => ?_) (fun h16 => ?_)
    · have hij : i = j := by
        have he : x = f i := by simpa using h16
        rcases Nat.lt_or_ge i j with h | h
        · exact absurd he.symm (hjf i h)
        · omega
      refine AW.seq_k fun K hK => ?_
      refine AW.region (by decide) ?_
      simp only [push_cast, simprocAttr, hb, lk_old hb, c1, c2, g]
      refine Thn_n ?_
      refine hK _ _ ?_
      clear hK K
      refine AW.ret ?_
      refine InB_r ?_
      refine Thn_r ?_
      refine Thn_r ?_
      refine InB_r ?_
      refine Thn_r ?_
      refine hQ _ _ _ ?_
      first | refine RetP.drop0 (Or.inr rfl) ?_ ?_ hwf | refine RetP.drop (Or.inr rfl) ?_ ?_ hwf
      · simp only [resA, resOne, resTv, AV.tv, push_cast, simprocAttr, hb, lk_old hb, c1, c2, g, hij]
      · rfl
    · have hne : ¬ x = f i := by simpa using h16
      have hij : i < j := by
        rcases Nat.lt_or_ge i j with h | h
        · exact h
        · exact absurd hje.symm (by rw [show j = i by omega]; exact hne)
      refine AW.skip ?_
      refine InB_n ?_
      refine Thn_n ?_
      refine hK _ _ ?_
      clear hK K
      refine AW.region (by decide) ?_
      simp only [push_cast, simprocAttr, hb, lk_old hb, c1, c2, g]
      refine Thn_n ?_
      have hwi : IntKind.i64.wrap ((i:Int)+1) = (i:Int)+1 := by rw [IntKind.wrap_i64]; omega
      refine ⟨i + 1, by omega, by omega, ?_⟩
      try simp only [keepL, setAll, push_cast, simprocAttr, hb, lk_old hb, c1, c2, g, hwi]
      exact Weak.same (by simp only [Keeps, Tm.get_cons, Nat.reduceEqDiff, ↓reduceIte, if_true, if_false, ite_true, ite_false, true_and, and_true, and_self, reduceCtorEq, hwi]) (by first | rfl | simp only [Keeps, Tm.get_cons, Nat.reduceEqDiff, ↓reduceIte, if_true, if_false, ite_true, ite_false, true_and, and_true, and_self, reduceCtorEq, hwi])
  · exfalso
    have := of_decide_eq_false h9; omega
theorem index_f (r v n : Nat) (f : Nat → Int) (x : Int) (m : AMem) {nn : Nat} (hp : IntsAt m r v nn f) (hnn : n ≤ nn) (hn : n ≤ 9000000000000) (hx : inL n f x = false) : Ctr Try.prog 36 [.one (.sl r v 0 n), .one (.int .i64 x)] m (.one (.int .i64 (-1))) m := by
  refine Ctr.enter Try.func36 rfl (by decide) (rs := [.tmp 4]) (nt := 19) rfl rfl fun hwf Q hQ => ?_
  obtain ⟨k0, ez, hb⟩ := hp.hb
  have hr := get_lt hb
  
  refine AW.seq_k fun K hK => ?_
  refine AW.region (by decide) ?_
  simp only [push_cast, simprocAttr, hb, lk_old hb]
  refine Thn_n ?_
  refine hK _ _ ?_
  clear hK K
  refine AW.seq_k fun K hK => ?_
  refine AW.seq_k fun K hK => ?_
  refine AW.region (by decide) ?_
  simp only [push_cast, simprocAttr, hb, lk_old hb]
  refine Thn_n ?_
  refine hK _ _ ?_
  clear hK K
  refine AW.block ?_
  refine AW.loopK [0, 1, 7] (fun i => i ≤ n) (fun i => [(8, .one (.int .i64 (i : Int)))]) (fun i => []) (fun i => n - i) 0 (by omega) ?_ ?_ fun i hi4 => ?_
  · first | rfl | (simp only [Keeps, Tm.get_cons, Nat.reduceEqDiff, ↓reduceIte, if_true, if_false, ite_true, ite_false, true_and, and_true, and_self, reduceCtorEq] <;> rfl)
  · first | rfl | (simp only [setAll, push_cast, simprocAttr, hb, lk_old hb] <;> rfl)
  try simp only [keepL, setAll, push_cast, simprocAttr, hb, lk_old hb]
  refine AW.seq_k fun K hK => ?_
  refine AW.region (by decide) ?_
  simp only [push_cast, simprocAttr, hb, lk_old hb]
  refine Thn_n ?_
  refine hK _ _ ?_
  clear hK K
  refine AW.seq_k fun K hK => ?_
  refine AW.cond rfl (fun h9 => ?_) (fun h9 => ?_)
  · have hlt : i < n := by have := of_decide_eq_true h9; omega
    have c1 : (0 : Int) ≤ (i : Int) := by omega
    have c2 : (i : Int) < (n : Int) := by omega
    have g := il_get (f := f) (Nat.lt_of_lt_of_le hlt hnn)
    obtain ⟨e1, e2⟩ := inL_no hx hlt
    refine AW.skip ?_
    refine Thn_n ?_
    refine hK _ _ ?_
    clear hK K
    refine AW.seq_k fun K hK => ?_
    refine AW.block ?_
    iterate 2
      refine AW.seq_k fun K hK => ?_
      refine AW.region (by decide) ?_
      simp only [push_cast, simprocAttr, hb, lk_old hb, c1, c2, g, e1, e2]
      refine Thn_n ?_
      refine hK _ _ ?_
      clear hK K
    refine AW.cond_f rfl ?_
    refine AW.skip ?_
    refine InB_n ?_
    refine Thn_n ?_
    refine hK _ _ ?_
    clear hK K
    refine AW.region (by decide) ?_
    simp only [push_cast, simprocAttr, hb, lk_old hb, c1, c2, g, e1, e2]
    refine Thn_n ?_
    have hwi : IntKind.i64.wrap ((i:Int)+1) = (i:Int)+1 := by rw [IntKind.wrap_i64]; omega
    refine ⟨i + 1, by omega, by omega, ?_⟩
    try simp only [keepL, setAll, push_cast, simprocAttr, hb, lk_old hb, c1, c2, g, e1, e2, hwi]
    exact Weak.same (by simp only [Keeps, Tm.get_cons, Nat.reduceEqDiff, ↓reduceIte, if_true, if_false, ite_true, ite_false, true_and, and_true, and_self, reduceCtorEq, hwi]) (by first | rfl | simp only [Keeps, Tm.get_cons, Nat.reduceEqDiff, ↓reduceIte, if_true, if_false, ite_true, ite_false, true_and, and_true, and_self, reduceCtorEq, hwi])
  · refine AW.exit ?_
    refine Thn_e ?_
    clear hK K
    refine Thn_e ?_
    refine InB_here ?_
    refine Thn_n ?_
    refine hK _ _ ?_
    clear hK K
    refine AW.seq_k fun K hK => ?_
    refine AW.region (by decide) ?_
    simp only [push_cast, simprocAttr, hb, lk_old hb]
    refine Thn_n ?_
    refine hK _ _ ?_
    clear hK K
    refine AW.ret ?_
    refine hQ _ _ _ ?_
    first | refine RetP.drop0 (Or.inr rfl) ?_ ?_ hwf | refine RetP.drop (Or.inr rfl) ?_ ?_ hwf
    · simp only [resA, resOne, resTv, AV.tv, push_cast, simprocAttr, hb, lk_old hb]
    · rfl
theorem contains_t (r v n : Nat) (f : Nat → Int) (x : Int) (m : AMem) {nn : Nat} (hp : IntsAt m r v nn f) (hnn : n ≤ nn) (hn : n ≤ 9000000000000) (hx : inL n f x = true) (j : Nat) (hj : j < n) (hje : f j = x) (hjf : ∀ i, i < j → ¬ f i = x) : Ctr Try.prog 29 [.one (.sl r v 0 n), .one (.int .i64 x)] m (.one (.bool true)) m := by
  refine Ctr.enter Try.func29 rfl (by decide) (rs := [.tmp 4]) (nt := 9) rfl rfl fun hwf Q hQ => ?_
  have c1 : (0 : Int) ≤ (j : Int) := by omega
  refine AW.seq_k fun K hK => ?_
  refine AW.region (by decide) ?_
  simp only [push_cast, simprocAttr, c1]
  refine Thn_n ?_
  refine hK _ _ ?_
  clear hK K
  refine AW.seq_k fun K hK => ?_
  refine AW.region (by decide) ?_
  simp only [push_cast, simprocAttr, c1]
  refine CThen.by (index_t r v n f x _ hp hnn hn j hj hje hjf) ?_
  simp only [push_cast, simprocAttr, c1]
  refine Thn_n ?_
  refine hK _ _ ?_
  clear hK K
  refine AW.ret ?_
  refine hQ _ _ _ ?_
  first | refine RetP.drop0 (Or.inr rfl) ?_ ?_ hwf | refine RetP.drop (Or.inr rfl) ?_ ?_ hwf
  · simp only [resA, resOne, resTv, AV.tv, push_cast, simprocAttr, c1]
  · rfl
theorem contains_f (r v n : Nat) (f : Nat → Int) (x : Int) (m : AMem) {nn : Nat} (hp : IntsAt m r v nn f) (hnn : n ≤ nn) (hn : n ≤ 9000000000000) (hx : inL n f x = false) : Ctr Try.prog 29 [.one (.sl r v 0 n), .one (.int .i64 x)] m (.one (.bool false)) m := by
  refine Ctr.enter Try.func29 rfl (by decide) (rs := [.tmp 4]) (nt := 9) rfl rfl fun hwf Q hQ => ?_
  refine AW.seq_k fun K hK => ?_
  refine AW.region (by decide) ?_
  simp only [push_cast, simprocAttr]
  refine Thn_n ?_
  refine hK _ _ ?_
  clear hK K
  refine AW.seq_k fun K hK => ?_
  refine AW.region (by decide) ?_
  simp only [push_cast, simprocAttr]
  refine CThen.by (index_f r v n f x _ hp hnn hn hx) ?_
  simp only [push_cast, simprocAttr]
  refine Thn_n ?_
  refine hK _ _ ?_
  clear hK K
  refine AW.ret ?_
  refine hQ _ _ _ ?_
  first | refine RetP.drop0 (Or.inr rfl) ?_ ?_ hwf | refine RetP.drop (Or.inr rfl) ?_ ?_ hwf
  · simp only [resA, resOne, resTv, AV.tv, push_cast, simprocAttr]
  · rfl
theorem contains_c (r v n : Nat) (f : Nat → Int) (x : Int) (m : AMem) {nn : Nat} (hp : IntsAt m r v nn f) (hnn : n ≤ nn) (hn : n ≤ 9000000000000) : Ctr Try.prog 29 [.one (.sl r v 0 n), .one (.int .i64 x)] m (.one (.bool (inL n f x))) m := by
  cases hx : inL n f x
  · exact contains_f r v n f x m hp hnn hn hx
  · obtain ⟨j, hj, hje, hjf⟩ := inL_first hx
    exact contains_t r v n f x m hp hnn hn hx j hj hje hjf
def anyL (n : Nat) (b : Nat → Bool) : Bool := (List.range n).any b
theorem anyL_iff {n : Nat} {b : Nat → Bool} : anyL n b = true ↔ ∃ i, i < n ∧ b i = true := by simp [anyL]
theorem anyL_no {n : Nat} {b : Nat → Bool} (h : anyL n b = false) {i : Nat} (hi : i < n) : b i = false := by
  cases e : b i
  · rfl
  · rw [anyL_iff.2 ⟨i, hi, e⟩] at h; cases h
theorem anyL_first {n : Nat} {b : Nat → Bool} (h : anyL n b = true) : ∃ j, j < n ∧ b j = true ∧ ∀ i, i < j → b i = false := by
  obtain ⟨i, hi, e⟩ := anyL_iff.1 h
  obtain ⟨k, h1, h2⟩ := least (p := fun i => i < n ∧ b i = true) i ⟨hi, e⟩
  refine ⟨k, h1.1, h1.2, fun i hi => ?_⟩
  cases e : b i
  · rfl
  · exact absurd ⟨by omega, e⟩ (h2 i hi)
theorem indexF_t (r v n : Nat) (f : Nat → Int) (g : Nat) (cs : List (Nat × Nat × Nat)) (b : Nat → Bool) (m : AMem) (hp : IntsAt m r v n f) (hn : n ≤ 9000000000000) (hg : ∀ i, i < n → Ctr Try.prog g ([.one (.int .i64 (f i))] ++ capsAV cs) m (.one (.bool (b i))) m) (j : Nat) (hj : j < n) (hje : b j = true) (hjf : ∀ i, i < j → b i = false) : Ctr Try.prog 43 [.one (.sl r v 0 n), .one (.fn g cs)] m (.one (.int .i64 (j : Int))) m := by
  refine Ctr.enter Try.func43 rfl (by decide) (rs := [.tmp 4]) (nt := 19) rfl rfl fun hwf Q hQ => ?_
  obtain ⟨k0, ez, hb⟩ := hp.hb
  have hr := get_lt hb
  
  refine AW.seq_k fun K hK => ?_
  refine AW.region (by decide) ?_
  simp only [push_cast, simprocAttr, hb, lk_old hb]
  refine Thn_n ?_
  refine hK _ _ ?_
  clear hK K
  refine AW.seq_k fun K hK => ?_
  refine AW.seq_k fun K hK => ?_
  refine AW.region (by decide) ?_
  simp only [push_cast, simprocAttr, hb, lk_old hb]
  refine Thn_n ?_
  refine hK _ _ ?_
  clear hK K
  refine AW.block ?_
  refine AW.loopK [0, 1, 7] (fun i => i ≤ j) (fun i => [(8, .one (.int .i64 (i : Int)))]) (fun i => []) (fun i => n - i) 0 (by omega) ?_ ?_ fun i hi4 => ?_
  · first | rfl | (simp only [Keeps, Tm.get_cons, Nat.reduceEqDiff, ↓reduceIte, if_true, if_false, ite_true, ite_false, true_and, and_true, and_self, reduceCtorEq] <;> rfl)
  · first | rfl | (simp only [setAll, push_cast, simprocAttr, hb, lk_old hb] <;> rfl)
  try simp only [keepL, setAll, push_cast, simprocAttr, hb, lk_old hb]
  refine AW.seq_k fun K hK => ?_
  refine AW.region (by decide) ?_
  simp only [push_cast, simprocAttr, hb, lk_old hb]
  refine Thn_n ?_
  refine hK _ _ ?_
  clear hK K
  refine AW.seq_k fun K hK => ?_
  refine AW.cond rfl (fun h9 => ?_) (fun h9 => ?_)
  · have hlt : i < n := by have := of_decide_eq_true h9; omega
    have c1 : (0 : Int) ≤ (i : Int) := by omega
    have c2 : (i : Int) < (n : Int) := by omega
    have g := il_get (f := f) hlt
    refine AW.skip ?_
    refine Thn_n ?_
    refine hK _ _ ?_
    clear hK K
    refine AW.seq_k fun K hK => ?_
    refine AW.block ?_
    refine AW.seq_k fun K hK => ?_
    refine AW.region (by decide) ?_
    simp only [push_cast, simprocAttr, hb, lk_old hb, c1, c2, g]
    refine Thn_n ?_
    refine hK _ _ ?_
    clear hK K
    refine AW.seq_k fun K hK => ?_
    refine AW.region (by decide) ?_
    simp only [push_cast, simprocAttr, hb, lk_old hb, c1, c2, g]
    refine CThen.by (hg i hlt) ?_
    simp only [push_cast, simprocAttr, hb, lk_old hb, c1, c2, g]
    refine Thn_n ?_
    refine hK _ _ ?_
    clear hK K
    refine AW.cond rfl (fun h16 => ?_) (fun h16 => ?_)
    · have hij : i = j := by
        rcases Nat.lt_or_ge i j with h | h
        · rw [hjf i h] at h16; cases h16
        · omega
      refine AW.seq_k fun K hK => ?_
      refine AW.region (by decide) ?_
      simp only [push_cast, simprocAttr, hb, lk_old hb, c1, c2, g]
      refine Thn_n ?_
      refine hK _ _ ?_
      clear hK K
      refine AW.ret ?_
      refine InB_r ?_
      refine Thn_r ?_
      refine Thn_r ?_
      refine InB_r ?_
      refine Thn_r ?_
      refine hQ _ _ _ ?_
      first | refine RetP.drop0 (Or.inr rfl) ?_ ?_ hwf | refine RetP.drop (Or.inr rfl) ?_ ?_ hwf
      · simp only [resA, resOne, resTv, AV.tv, push_cast, simprocAttr, hb, lk_old hb, c1, c2, g, hij]
      · rfl
    · have hij : i < j := by
        rcases Nat.lt_or_ge i j with h | h
        · exact h
        · rw [show i = j by omega, hje] at h16; cases h16
      refine AW.skip ?_
      refine InB_n ?_
      refine Thn_n ?_
      refine hK _ _ ?_
      clear hK K
      refine AW.region (by decide) ?_
      simp only [push_cast, simprocAttr, hb, lk_old hb, c1, c2, g]
      refine Thn_n ?_
      have hwi : IntKind.i64.wrap ((i:Int)+1) = (i:Int)+1 := by rw [IntKind.wrap_i64]; omega
      refine ⟨i + 1, by omega, by omega, ?_⟩
      try simp only [keepL, setAll, push_cast, simprocAttr, hb, lk_old hb, c1, c2, g, hwi]
      exact Weak.same (by simp only [Keeps, Tm.get_cons, Nat.reduceEqDiff, ↓reduceIte, if_true, if_false, ite_true, ite_false, true_and, and_true, and_self, reduceCtorEq, hwi]) (by first | rfl | simp only [Keeps, Tm.get_cons, Nat.reduceEqDiff, ↓reduceIte, if_true, if_false, ite_true, ite_false, true_and, and_true, and_self, reduceCtorEq, hwi])
  · exfalso
    have := of_decide_eq_false h9; omega
theorem indexF_f (r v n : Nat) (f : Nat → Int) (g : Nat) (cs : List (Nat × Nat × Nat)) (b : Nat → Bool) (m : AMem) (hp : IntsAt m r v n f) (hn : n ≤ 9000000000000) (hg : ∀ i, i < n → Ctr Try.prog g ([.one (.int .i64 (f i))] ++ capsAV cs) m (.one (.bool (b i))) m) (hx : anyL n b = false) : Ctr Try.prog 43 [.one (.sl r v 0 n), .one (.fn g cs)] m (.one (.int .i64 (-1))) m := by
  refine Ctr.enter Try.func43 rfl (by decide) (rs := [.tmp 4]) (nt := 19) rfl rfl fun hwf Q hQ => ?_
  obtain ⟨k0, ez, hb⟩ := hp.hb
  have hr := get_lt hb
  
  refine AW.seq_k fun K hK => ?_
  refine AW.region (by decide) ?_
  simp only [push_cast, simprocAttr, hb, lk_old hb]
  refine Thn_n ?_
  refine hK _ _ ?_
  clear hK K
  refine AW.seq_k fun K hK => ?_
  refine AW.seq_k fun K hK => ?_
  refine AW.region (by decide) ?_
  simp only [push_cast, simprocAttr, hb, lk_old hb]
  refine Thn_n ?_
  refine hK _ _ ?_
  clear hK K
  refine AW.block ?_
  refine AW.loopK [0, 1, 7] (fun i => i ≤ n) (fun i => [(8, .one (.int .i64 (i : Int)))]) (fun i => []) (fun i => n - i) 0 (by omega) ?_ ?_ fun i hi4 => ?_
  · first | rfl | (simp only [Keeps, Tm.get_cons, Nat.reduceEqDiff, ↓reduceIte, if_true, if_false, ite_true, ite_false, true_and, and_true, and_self, reduceCtorEq] <;> rfl)
  · first | rfl | (simp only [setAll, push_cast, simprocAttr, hb, lk_old hb] <;> rfl)
  try simp only [keepL, setAll, push_cast, simprocAttr, hb, lk_old hb]
  refine AW.seq_k fun K hK => ?_
  refine AW.region (by decide) ?_
  simp only [push_cast, simprocAttr, hb, lk_old hb]
  refine Thn_n ?_
  refine hK _ _ ?_
  clear hK K
  refine AW.seq_k fun K hK => ?_
  refine AW.cond rfl (fun h9 => ?_) (fun h9 => ?_)
  · have hlt : i < n := by have := of_decide_eq_true h9; omega
    have c1 : (0 : Int) ≤ (i : Int) := by omega
    have c2 : (i : Int) < (n : Int) := by omega
    have g := il_get (f := f) hlt
    have e1 := anyL_no hx hlt
    refine AW.skip ?_
    refine Thn_n ?_
    refine hK _ _ ?_
    clear hK K
    refine AW.seq_k fun K hK => ?_
    refine AW.block ?_
    refine AW.seq_k fun K hK => ?_
    refine AW.region (by decide) ?_
    simp only [push_cast, simprocAttr, hb, lk_old hb, c1, c2, g, e1]
    refine Thn_n ?_
    refine hK _ _ ?_
    clear hK K
    refine AW.seq_k fun K hK => ?_
    refine AW.region (by decide) ?_
    simp only [push_cast, simprocAttr, hb, lk_old hb, c1, c2, g, e1]
    refine CThen.by (hg i hlt) ?_
    simp only [push_cast, simprocAttr, hb, lk_old hb, c1, c2, g, e1]
    refine Thn_n ?_
    refine hK _ _ ?_
    clear hK K
    refine AW.cond_f rfl ?_
    refine AW.skip ?_
    refine InB_n ?_
    refine Thn_n ?_
    refine hK _ _ ?_
    clear hK K
    refine AW.region (by decide) ?_
    simp only [push_cast, simprocAttr, hb, lk_old hb, c1, c2, g, e1]
    refine Thn_n ?_
    have hwi : IntKind.i64.wrap ((i:Int)+1) = (i:Int)+1 := by rw [IntKind.wrap_i64]; omega
    refine ⟨i + 1, by omega, by omega, ?_⟩
    try simp only [keepL, setAll, push_cast, simprocAttr, hb, lk_old hb, c1, c2, g, e1, hwi]
    exact Weak.same (by simp only [Keeps, Tm.get_cons, Nat.reduceEqDiff, ↓reduceIte, if_true, if_false, ite_true, ite_false, true_and, and_true, and_self, reduceCtorEq, hwi]) (by first | rfl | simp only [Keeps, Tm.get_cons, Nat.reduceEqDiff, ↓reduceIte, if_true, if_false, ite_true, ite_false, true_and, and_true, and_self, reduceCtorEq, hwi])
  · refine AW.exit ?_
    refine Thn_e ?_
    clear hK K
    refine Thn_e ?_
    refine InB_here ?_
    refine Thn_n ?_
    refine hK _ _ ?_
    clear hK K
    refine AW.seq_k fun K hK => ?_
    refine AW.region (by decide) ?_
    simp only [push_cast, simprocAttr, hb, lk_old hb]
    refine Thn_n ?_
    refine hK _ _ ?_
    clear hK K
    refine AW.ret ?_
    refine hQ _ _ _ ?_
    first | refine RetP.drop0 (Or.inr rfl) ?_ ?_ hwf | refine RetP.drop (Or.inr rfl) ?_ ?_ hwf
    · simp only [resA, resOne, resTv, AV.tv, push_cast, simprocAttr, hb, lk_old hb]
    · rfl
theorem containsF_t (r v n : Nat) (f : Nat → Int) (g : Nat) (cs : List (Nat × Nat × Nat)) (b : Nat → Bool) (m : AMem) (hp : IntsAt m r v n f) (hn : n ≤ 9000000000000) (hg : ∀ i, i < n → Ctr Try.prog g ([.one (.int .i64 (f i))] ++ capsAV cs) m (.one (.bool (b i))) m) (j : Nat) (hj : j < n) (hje : b j = true) (hjf : ∀ i, i < j → b i = false) : Ctr Try.prog 37 [.one (.sl r v 0 n), .one (.fn g cs)] m (.one (.bool true)) m := by
  refine Ctr.enter Try.func37 rfl (by decide) (rs := [.tmp 4]) (nt := 9) rfl rfl fun hwf Q hQ => ?_
  have c1 : (0 : Int) ≤ (j : Int) := by omega
  refine AW.seq_k fun K hK => ?_
  refine AW.region (by decide) ?_
  simp only [push_cast, simprocAttr, c1]
  refine Thn_n ?_
  refine hK _ _ ?_
  clear hK K
  refine AW.seq_k fun K hK => ?_
  refine AW.region (by decide) ?_
  simp only [push_cast, simprocAttr, c1]
  refine CThen.by (indexF_t r v n f g cs b _ hp hn hg j hj hje hjf) ?_
  simp only [push_cast, simprocAttr, c1]
  refine Thn_n ?_
  refine hK _ _ ?_
  clear hK K
  refine AW.ret ?_
  refine hQ _ _ _ ?_
  first | refine RetP.drop0 (Or.inr rfl) ?_ ?_ hwf | refine RetP.drop (Or.inr rfl) ?_ ?_ hwf
  · simp only [resA, resOne, resTv, AV.tv, push_cast, simprocAttr, c1]
  · rfl
theorem containsF_f (r v n : Nat) (f : Nat → Int) (g : Nat) (cs : List (Nat × Nat × Nat)) (b : Nat → Bool) (m : AMem) (hp : IntsAt m r v n f) (hn : n ≤ 9000000000000) (hg : ∀ i, i < n → Ctr Try.prog g ([.one (.int .i64 (f i))] ++ capsAV cs) m (.one (.bool (b i))) m) (hx : anyL n b = false) : Ctr Try.prog 37 [.one (.sl r v 0 n), .one (.fn g cs)] m (.one (.bool false)) m := by
  refine Ctr.enter Try.func37 rfl (by decide) (rs := [.tmp 4]) (nt := 9) rfl rfl fun hwf Q hQ => ?_
  refine AW.seq_k fun K hK => ?_
  refine AW.region (by decide) ?_
  simp only [push_cast, simprocAttr]
  refine Thn_n ?_
  refine hK _ _ ?_
  clear hK K
  refine AW.seq_k fun K hK => ?_
  refine AW.region (by decide) ?_
  simp only [push_cast, simprocAttr]
  refine CThen.by (indexF_f r v n f g cs b _ hp hn hg hx) ?_
  simp only [push_cast, simprocAttr]
  refine Thn_n ?_
  refine hK _ _ ?_
  clear hK K
  refine AW.ret ?_
  refine hQ _ _ _ ?_
  first | refine RetP.drop0 (Or.inr rfl) ?_ ?_ hwf | refine RetP.drop (Or.inr rfl) ?_ ?_ hwf
  · simp only [resA, resOne, resTv, AV.tv, push_cast, simprocAttr]
  · rfl
theorem containsF_c (r v n : Nat) (f : Nat → Int) (g : Nat) (cs : List (Nat × Nat × Nat)) (b : Nat → Bool) (m : AMem) (hp : IntsAt m r v n f) (hn : n ≤ 9000000000000) (hg : ∀ i, i < n → Ctr Try.prog g ([.one (.int .i64 (f i))] ++ capsAV cs) m (.one (.bool (b i))) m) : Ctr Try.prog 37 [.one (.sl r v 0 n), .one (.fn g cs)] m (.one (.bool (anyL n b))) m := by
  cases hx : anyL n b
  · exact containsF_f r v n f g cs b m hp hn hg hx
  · obtain ⟨j, hj, hje, hjf⟩ := anyL_first hx
    exact containsF_t r v n f g cs b m hp hn hg j hj hje hjf
def hasB (n : Nat) (s : Nat → Bool) (x : Int) : Bool := decide (0 ≤ x) && (decide (x < (n : Int)) && s x.toNat)
theorem has_n (r v n : Nat) (s : Nat → Bool) (x : Int) (m : AMem) (hp : BoolsAt m r v n s) (h : ¬ (0 ≤ x ∧ x < (n : Int))) : Ctr Try.prog 39 [.one (.sl r v 0 n), .one (.int .i64 x)] m (.one (.bool false)) m := by
  refine Ctr.enter Try.func39 rfl (by decide) (rs := [.tmp 4]) (nt := 19) rfl rfl fun hwf Q hQ => ?_
  obtain ⟨k0, ez, hb⟩ := hp.hb
  have hr := get_lt hb
  
  rcases chain2 (0 ≤ x) (x < (n : Int)) with ⟨h1, h2⟩ | ⟨h1, h2⟩ | ⟨h1, h2⟩
  · exact absurd ⟨h1, h2⟩ h
  all_goals (
  iterate 2
    refine AW.seq_k fun K hK => ?_
    refine AW.region (by decide) ?_
    simp only [push_cast, simprocAttr, h1, h2]
    refine Thn_n ?_
    refine hK _ _ ?_
    clear hK K
  refine AW.ret ?_
  refine hQ _ _ _ ?_
  first | refine RetP.drop0 (Or.inr rfl) ?_ ?_ hwf | refine RetP.drop (Or.inr rfl) ?_ ?_ hwf
  · simp only [resA, resOne, resTv, AV.tv, push_cast, simprocAttr, h1, h2]
  · rfl
  )
theorem has_y (r v n : Nat) (s : Nat → Bool) (x : Int) (m : AMem) (hp : BoolsAt m r v n s) (h1 : 0 ≤ x) (h2 : x < (n : Int)) : Ctr Try.prog 39 [.one (.sl r v 0 n), .one (.int .i64 x)] m (.one (.bool (s x.toNat))) m := by
  refine Ctr.enter Try.func39 rfl (by decide) (rs := [.tmp 4]) (nt := 19) rfl rfl fun hwf Q hQ => ?_
  obtain ⟨k0, ez, hb⟩ := hp.hb
  have hr := get_lt hb
  have g := bl_get (f := s) (show x.toNat < n by omega)
  iterate 2
    refine AW.seq_k fun K hK => ?_
    refine AW.region (by decide) ?_
    simp only [push_cast, simprocAttr, hb, lk_old hb, h1, h2, g]
    refine Thn_n ?_
    refine hK _ _ ?_
    clear hK K
  refine AW.ret ?_
  refine hQ _ _ _ ?_
  first | refine RetP.drop0 (Or.inr rfl) ?_ ?_ hwf | refine RetP.drop (Or.inr rfl) ?_ ?_ hwf
  · simp only [resA, resOne, resTv, AV.tv, push_cast, simprocAttr, hb, lk_old hb, h1, h2, g]
  · rfl
theorem has_c (r v n : Nat) (s : Nat → Bool) (x : Int) (m : AMem) (hp : BoolsAt m r v n s) : Ctr Try.prog 39 [.one (.sl r v 0 n), .one (.int .i64 x)] m (.one (.bool (hasB n s x))) m := by
  by_cases h : 0 ≤ x ∧ x < (n : Int)
  · rw [hasB, decide_eq_true h.1, decide_eq_true h.2, Bool.true_and, Bool.true_and]; exact has_y r v n s x m hp h.1 h.2
  · have e : hasB n s x = false := by
      rw [hasB]
      by_cases h1 : 0 ≤ x
      · rw [decide_eq_false (fun h2 => h ⟨h1, h2⟩), Bool.false_and, Bool.and_false]
      · rw [decide_eq_false h1, Bool.false_and]
    rw [e]; exact has_n r v n s x m hp h
end Go.Proofs.Ytmjbbnfmhgcfaaa
