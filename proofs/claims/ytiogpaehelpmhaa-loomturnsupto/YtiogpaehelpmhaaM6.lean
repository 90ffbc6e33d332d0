/- Walks and facts of this seat's program over abstract states, printed by programs of mine; no conditions but those that each theorem names. -/
import Derived.Test.YtiogpaehelpmhaaM5
set_option linter.unusedSimpArgs false
set_option linter.unusedVariables false
set_option maxRecDepth 100000
set_option maxHeartbeats 4000000
namespace Go.Proofs.Ytiogpaehelpmhaa
open Go Go.Eng

theorem nmE_get : ∀ {s : Nat} {l : List EK} {j : Nat} {k : EK} {c : Int}, (nmE s l)[j]? = some (k, c) → l[j]? = some k ∧ c = ((s + j : Nat) : Int)
  | s, x :: l, 0, k, c, h => by
    have : (x, (s : Int)) = (k, c) := by simpa [nmE] using h
    injection this with h1 h2
    subst h1; subst h2
    exact ⟨rfl, by simp⟩
  | s, x :: l, j + 1, k, c, h => by
    have h1 : (nmE (s + 1) l)[j]? = some (k, c) := by simpa [nmE] using h
    obtain ⟨h2, h3⟩ := nmE_get h1
    exact ⟨by simpa using h2, by rw [h3]; congr 1; omega⟩
  | s, [], j, k, c, h => by simp [nmE] at h
theorem edI_at {n : Nat} {ks : List EK} {k : EK} (h : k ∈ ks) : ∃ j, ks[j]? = some k ∧ edI n ks k = ((n + j : Nat) : Int) := by
  obtain ⟨j, c, h1, h2, h3⟩ := idx_mem (E := nmE n ks) (k := k) (by rw [nmE_fst]; exact h)
  obtain ⟨h4, h5⟩ := nmE_get h1
  exact ⟨j, h4, by unfold edI; rw [h3, h5]⟩
theorem key_ne {n : Nat} {t : T3} (h : okF n t) : fKey t 0 ≠ fKey t 1 ∧ fKey t 1 ≠ fKey t 2 ∧ fKey t 0 ≠ fKey t 2 := by
  unfold okF at h
  have e : ∀ {a b c d : Int}, eKey a b = eKey c d ↔ (Eng.minI a b = Eng.minI c d ∧ Eng.maxI a b = Eng.maxI c d) := by
    intro a b c d; unfold eKey; rw [Prod.mk.injEq]
  have k0 : fKey t 0 = eKey t.1 t.2.1 := rfl
  have k1 : fKey t 1 = eKey t.2.1 t.2.2 := rfl
  have k2 : fKey t 2 = eKey t.2.2 t.1 := rfl
  rw [k0, k1, k2]
  generalize t.1 = x at *
  generalize t.2.1 = y at *
  generalize t.2.2 = z at *
  have m1 : (Eng.minI x y = x ∧ Eng.maxI x y = y ∧ x < y) ∨ (Eng.minI x y = y ∧ Eng.maxI x y = x ∧ y < x) := by unfold Eng.minI Eng.maxI; split <;> split <;> omega
  have m2 : (Eng.minI y z = y ∧ Eng.maxI y z = z ∧ y < z) ∨ (Eng.minI y z = z ∧ Eng.maxI y z = y ∧ z < y) := by unfold Eng.minI Eng.maxI; split <;> split <;> omega
  have m3 : (Eng.minI z x = z ∧ Eng.maxI z x = x ∧ z < x) ∨ (Eng.minI z x = x ∧ Eng.maxI z x = z ∧ x < z) := by unfold Eng.minI Eng.maxI; split <;> split <;> omega
  refine ⟨fun h => ?_, fun h => ?_, fun h => ?_⟩ <;> (have := e.1 h; omega)
theorem fin_chk {P Fs : List T3} (hc : chk P.length Fs = 0) (h1 : P.length ≤ 40) (h2 : Fs.length ≤ 60) : chk (fnP P Fs).length (fnF P.length Fs) = 0 := by
  have hT := tally_len Fs Fs.length
  have hl1 : (fnP P Fs).length = P.length + (tally Fs Fs.length).length := fnP_len P Fs
  have hl2 := fnF_len P.length Fs
  have hkl := ksE_len (tally Fs Fs.length)
  refine chk_0 (by omega) fun u hu => ?_
  rw [hl1]
  unfold fnF at hu
  obtain ⟨t, ht, hm⟩ := List.mem_flatMap.1 hu
  have ho := chk_ok hc t ht
  obtain ⟨j, hj⟩ := List.getElem?_of_mem ht
  obtain ⟨n1, n2, n3⟩ := key_ne ho
  obtain ⟨j0, p0, q0⟩ := edI_at (n := P.length) (ks_has hj (show 0 < 3 by omega))
  obtain ⟨j1, p1, q1⟩ := edI_at (n := P.length) (ks_has hj (show 1 < 3 by omega))
  obtain ⟨j2, p2, q2⟩ := edI_at (n := P.length) (ks_has hj (show 2 < 3 by omega))
  have l0 := (List.getElem?_eq_some_iff.1 p0).1
  have l1 := (List.getElem?_eq_some_iff.1 p1).1
  have l2 := (List.getElem?_eq_some_iff.1 p2).1
  have d1 : j0 ≠ j1 := fun e => n1 (by rw [e, p1] at p0; injection p0 with p0; exact p0.symm)
  have d2 : j1 ≠ j2 := fun e => n2 (by rw [e, p2] at p1; injection p1 with p1; exact p1.symm)
  have d3 : j0 ≠ j2 := fun e => n3 (by rw [e, p2] at p0; injection p0 with p0; exact p0.symm)
  unfold finF at hm
  rw [q0, q1, q2] at hm
  unfold okF at ho ⊢
  simp only [List.mem_cons, List.not_mem_nil, or_false] at hm
  rcases hm with rfl | rfl | rfl | rfl <;> (dsimp only; push_cast; omega)
def fiR (P Fs : List T3) : List T3 × List T3 × Int := if chk P.length Fs = 0 then (fnP P Fs, fnF P.length Fs, 0) else ([], [], chk P.length Fs)
/-- What a search has found so far. -/
def mI (N j n : Nat) : Int := if j < n then ((N + j : Nat) : Int) else 0
theorem mI_0 (N j : Nat) : mI N j 0 = 0 := if_neg (Nat.not_lt_zero _)
theorem mI_hit (N j : Nat) : mI N j (j + 1) = ((N + j : Nat) : Int) := if_pos (by omega)
theorem mI_miss {N j n : Nat} (h : n ≠ j) : mI N j (n + 1) = mI N j n := by
  unfold mI
  by_cases h1 : j < n
  · rw [if_pos h1, if_pos (by omega)]
  · rw [if_neg h1, if_neg (by omega)]
theorem mI_all {N j n : Nat} (h : j < n) : mI N j n = ((N + j : Nat) : Int) := if_pos h
theorem pL_get0 {l : List EK} {i : Nat} {t : EK} (h : l[i]? = some t) : (pL l)[i * 2]? = some (.int .i64 t.1) := by
  have := congrArg (fun c => c[0]?) (pL_at h)
  simpa [List.getElem?_take, List.getElem?_drop] using this
theorem pL_get1 {l : List EK} {i : Nat} {t : EK} (h : l[i]? = some t) : (pL l)[i * 2 + 1]? = some (.int .i64 t.2) := by
  have := congrArg (fun c => c[1]?) (pL_at h)
  simpa [List.getElem?_take, List.getElem?_drop] using this
theorem key_cases {k : EK} (h : k.1 < k.2) (a b : Int) : (k = eKey a b ∧ k.1 = a ∧ k.2 = b) ∨ (k = eKey a b ∧ k.1 = b ∧ k.2 = a ∧ ¬ (k.1 = a ∧ k.2 = b)) ∨ (k ≠ eKey a b ∧ ¬ (k.1 = a ∧ k.2 = b) ∧ ¬ (k.1 = b ∧ k.2 = a)) := by
  have e : k = eKey a b ↔ (k.1 = Eng.minI a b ∧ k.2 = Eng.maxI a b) := by unfold eKey; rw [Prod.ext_iff]
  rw [Ne, e]
  have m1 : (Eng.minI a b = a ∧ Eng.maxI a b = b ∧ a ≤ b) ∨ (Eng.minI a b = b ∧ Eng.maxI a b = a ∧ b ≤ a) := by unfold Eng.minI Eng.maxI; split <;> split <;> omega
  omega
theorem finer_no (rp vp rf vf : Nat) (P Fs : List T3) (m : AMem) (hp : rp < m.length) (hpt : TRow m 49 rp vp P) (hf : TRow m 54 rf vf Fs) (hP : P.length ≤ 40) (hF : Fs.length ≤ 60) (hc : ¬ chk P.length Fs = 0) : Ctr Try.prog 12 [.agg [.sl rp vp 0 P.length, .sl rf vf 0 Fs.length]] m (.tup [(true, [.nils, .nils]), (false, [.int .i64 (chk P.length Fs)])]) m := by
  refine Ctr.enter Try.func12 rfl (by decide) (rs := [.cell 2 37, .tmp 3]) (nt := 122) rfl rfl fun hwf Q hQ => ?_
  have hb0 : (chk P.length Fs != 0) = true := by simp [hc]
  refine AW.seq_k fun K hK => ?_
  refine AW.region (by decide) ?_
  simp only [push_cast, simprocAttr, hb0]
  refine Thn_n ?_
  refine hK _ _ ?_
  clear hK K
  refine AW.seq_k fun K hK => ?_
  refine AW.seq_k fun K hK => ?_
  refine AW.region (by decide) ?_
  simp only [push_cast, simprocAttr, hb0]
  refine CThen.by (check_c rp vp rf vf P Fs _ (by simp; omega) (hf.mono _)) ?_
  simp only [push_cast, simprocAttr, hb0]
  refine Thn_n ?_
  refine hK _ _ ?_
  clear hK K
  refine AW.seq_k fun K hK => ?_
  refine AW.region (by decide) ?_
  simp only [push_cast, simprocAttr, hb0]
  refine Thn_n ?_
  refine hK _ _ ?_
  clear hK K
  refine AW.cond_t rfl ?_
  refine AW.seq_k fun K hK => ?_
  refine AW.region (by decide) ?_
  simp only [push_cast, simprocAttr, hb0]
  refine Thn_n ?_
  refine hK _ _ ?_
  clear hK K
  refine AW.ret ?_
  refine Thn_r ?_
  refine hQ _ _ _ ?_
  first | refine RetP.drop0 (Or.inr rfl) ?_ ?_ hwf | refine RetP.drop (Or.inr rfl) ?_ ?_ hwf
  · simp only [resA, resOne, resTv, AV.tv, push_cast, simprocAttr, hb0]
  · rfl
theorem nil2x (L : Nat) (c : CV) : nilV L (.tup [(true, [.nils, .nils]), (false, [c])]) (.tup [(true, [.sl L 0 0 0, .nils]), (false, [c])]) := by
  simp [nilV, All2, nilC]
theorem nil3x (L r : Nat) (c : CV) : nilV L (.tup [(true, [.sl r 0 0 0, .nils]), (false, [c])]) (.tup [(true, [.sl r 0 0 0, .sl L 0 0 0]), (false, [c])]) := by
  simp [nilV, All2, nilC]
theorem finer_c (rp vp rf vf : Nat) (P Fs : List T3) (m : AMem) (hp : rp < m.length) (hpt : TRow m 49 rp vp P) (hf : TRow m 54 rf vf Fs) (hP : P.length ≤ 40) (hF : Fs.length ≤ 60) : Ctr Try.prog 12 [.agg [.sl rp vp 0 P.length, .sl rf vf 0 Fs.length]] m (.tup [(true, [.sl m.length 0 0 (fiR P Fs).1.length, .sl (m.length + 1) 0 0 (fiR P Fs).2.1.length]), (false, [.int .i64 (fiR P Fs).2.2])]) (m ++ [⟨.grow, 49, 0, 3, tL (fiR P Fs).1⟩, ⟨.grow, 54, 0, 3, tL (fiR P Fs).2.1⟩]) := by
  by_cases hc : chk P.length Fs = 0
  · unfold fiR
    rw [if_pos hc]
    exact finer_ok rp vp rf vf P Fs m hp hpt hf (by omega) (by omega) hc (fin_chk hc hP hF)
  · unfold fiR
    rw [if_neg hc]
    have h2 := ((finer_no rp vp rf vf P Fs m hp hpt hf hP hF hc).nil 49 3 (nil2x _ _)).nil 54 3 (nil3x _ _ _)
    simp only [List.append_assoc, List.cons_append, List.nil_append, List.length_append, List.length_cons, List.length_nil, Nat.zero_add] at h2
    exact h2
theorem rfiner_no (rp vp rf vf : Nat) (P Fs : List T3) (m : AMem) (hp : rp < m.length) (hpt : TRow m 24 rp vp P) (hf : TRow m 54 rf vf Fs) (hP : P.length ≤ 40) (hF : Fs.length ≤ 60) (hc : ¬ chk P.length Fs = 0) : Ctr Try.prog 13 [.agg [.sl rp vp 0 P.length, .sl rf vf 0 Fs.length]] m (.tup [(true, [.nils, .nils]), (false, [.int .i64 (chk P.length Fs)])]) m := by
  refine Ctr.enter Try.func13 rfl (by decide) (rs := [.cell 2 34, .tmp 3]) (nt := 159) rfl rfl fun hwf Q hQ => ?_
  have hb0 : (chk P.length Fs != 0) = true := by simp [hc]
  refine AW.seq_k fun K hK => ?_
  refine AW.region (by decide) ?_
  simp only [push_cast, simprocAttr, hb0]
  refine Thn_n ?_
  refine hK _ _ ?_
  clear hK K
  refine AW.seq_k fun K hK => ?_
  refine AW.region (by decide) ?_
  simp only [push_cast, simprocAttr, hb0]
  refine CThen.by (rcheck_c rp vp rf vf P Fs _ (by simp; omega) (hf.mono _)) ?_
  simp only [push_cast, simprocAttr, hb0]
  refine Thn_n ?_
  refine hK _ _ ?_
  clear hK K
  refine AW.seq_k fun K hK => ?_
  refine AW.seq_k fun K hK => ?_
  refine AW.region (by decide) ?_
  simp only [push_cast, simprocAttr, hb0]
  refine Thn_n ?_
  refine hK _ _ ?_
  clear hK K
  refine AW.cond_t rfl ?_
  refine AW.seq_k fun K hK => ?_
  refine AW.region (by decide) ?_
  simp only [push_cast, simprocAttr, hb0]
  refine Thn_n ?_
  refine hK _ _ ?_
  clear hK K
  refine AW.ret ?_
  refine Thn_r ?_
  refine hQ _ _ _ ?_
  first | refine RetP.drop0 (Or.inr rfl) ?_ ?_ hwf | refine RetP.drop (Or.inr rfl) ?_ ?_ hwf
  · simp only [resA, resOne, resTv, AV.tv, push_cast, simprocAttr, hb0]
  · rfl
theorem rfiner_ok (rp vp rf vf : Nat) (P Fs : List T3) (m : AMem) (hp : rp < m.length) (hpt : TRow m 24 rp vp P) (hf : TRow m 54 rf vf Fs) (hP : P.length ≤ 40) (hF : Fs.length ≤ 60) (hc : chk P.length Fs = 0) : Ctr Try.prog 13 [.agg [.sl rp vp 0 P.length, .sl rf vf 0 Fs.length]] m (.tup [(true, [.sl m.length 0 0 (fnP P Fs).length, .sl (m.length + 1) 0 0 (fnF P.length Fs).length]), (false, [.int .i64 0])]) (m ++ [⟨.grow, 24, 0, 3, tL (fnP P Fs)⟩, ⟨.grow, 54, 0, 3, tL (fnF P.length Fs)⟩]) := by
  refine Ctr.enter Try.func13 rfl (by decide) (rs := [.cell 2 34, .tmp 3]) (nt := 159) rfl rfl fun hwf Q hQ => ?_
  obtain ⟨k0, ez0, hb0⟩ := hpt.hb
  obtain ⟨k1, ez1, hb⟩ := hf.hb
  have hr0 := get_lt hb
  have hlt0 : ∀ k, ¬ m.length + k < m.length := fun k => by omega
  have hc2 := fin_chk hc hP hF
  obtain ⟨T, hT⟩ : ∃ T, T = tally Fs Fs.length := ⟨_, rfl⟩
  obtain ⟨ke, hke⟩ : ∃ ke, ke = ksE T := ⟨_, rfl⟩
  obtain ⟨N, hN⟩ : ∃ N, N = T.length := ⟨_, rfl⟩
  obtain ⟨e1, e2⟩ := edges_eq hc
  rw [← hT] at e1 e2
  rw [← hke] at e1
  have hKN : ke.length = N := by rw [hke, hN]; exact ksE_len T
  have hKn : ke.Nodup := by rw [hke, hT]; exact ks_nd Fs
  have hKi : ∀ x, x ∈ ke → EIn P.length x := by rw [hke, hT]; exact ks_in hc
  have hKlt : ∀ x, x ∈ ke → x.1 < x.2 := by
    rw [hke, hT]; intro x hx
    exact tally_lt (chk_ok hc) ((srtE_perm _).mem_iff.1 hx)
  have hKh : ∀ {t : T3} {j k : Nat}, Fs[j]? = some t → k < 3 → fKey t k ∈ ke := by rw [hke, hT]; exact ks_has
  have hInj : ∀ {i j : Nat} {x : EK}, ke[i]? = some x → ke[j]? = some x → i = j := fun {i j x} h1 h2 => by
    obtain ⟨l1, g1⟩ := List.getElem?_eq_some_iff.1 h1
    obtain ⟨l2, g2⟩ := List.getElem?_eq_some_iff.1 h2
    rcases Nat.lt_trichotomy i j with h | h | h
    · exact absurd (g1.trans g2.symm) (List.pairwise_iff_getElem.1 hKn i j l1 l2 h)
    · exact h
    · exact absurd (g2.trans g1.symm) (List.pairwise_iff_getElem.1 hKn j i l2 l1 h)
  have hfp : fnP P Fs = P ++ ke.map (midP P) := by rw [hke, hT]; rfl
  have hff : fnF P.length Fs = Fs.flatMap (finF P.length ke) := by rw [hke, hT]; rfl
  have hfpl : (P ++ ke.map (midP P)).length = P.length + N := by simp [hKN]
  have hffl := fl_len P.length ke Fs
  rw [hfp, hff] at hc2 hQ
  rw [hfpl] at hc2 hQ
  rw [hffl] at hQ
  have hTl : N ≤ 3072 := by rw [hN, hT]; have := tally_len Fs Fs.length; omega
  have hgl : (pL ke).length = N * 2 := by rw [pL_len, hKN]
  have tv := tL_vals P
  have tt := tL_take P
  have tl := tL_len P
  have n1 : P.length ≤ 140737488355328 := by omega
  have n2 : P.length * 24 ≤ 140737488355328 := by omega
  have tm1 : Int.tmod 1 3 = 1 := rfl
  have tm2 : Int.tmod 2 3 = 2 := rfl
  have tm3 : Int.tmod 3 3 = 0 := rfl
  have hre : ∀ m2 : AMem, rp < m2.length → TRow m2 54 rf vf Fs → Ctr Try.prog 29 [.agg [.sl rp vp 0 P.length, .sl rf vf 0 Fs.length]] m2 (.tup [(false, [.sl m2.length 0 0 N]), (false, [.sl (m2.length + 1) 0 0 N])]) (m2 ++ [⟨.grow, 75, 0, 2, pL ke⟩, ⟨.grow, 3, 0, 1, (csE T).map (CV.int .i64)⟩]) := fun m2 q1 q2 => by
    have := redges_c rp vp rf vf P Fs m2 q1 q2 (by omega) (by omega)
    rw [e2, e1, hKN] at this
    exact this
  have b0 : (chk P.length Fs != 0) = false := by simp [hc]
  have b1 : (chk (P.length + N) (Fs.flatMap (finF P.length ke)) != 0) = false := by simp [hc2]
  refine AW.seq_k fun K hK => ?_
  refine AW.region (by decide) ?_
  simp only [push_cast, simprocAttr, hb, lk_old hb, hb0, lk_old hb0, b0, b1, tm1, tm2, tm3, tv, tt, tl, n1, n2, Nat.zero_add, List.nil_append]
  refine Thn_n ?_
  refine hK _ _ ?_
  clear hK K
  refine AW.seq_k fun K hK => ?_
  refine AW.region (by decide) ?_
  simp only [push_cast, simprocAttr, hb, lk_old hb, hb0, lk_old hb0, b0, b1, tm1, tm2, tm3, tv, tt, tl, n1, n2, Nat.zero_add, List.nil_append]
  refine CThen.by (rcheck_c rp vp rf vf P Fs _ (by simp; omega) (hf.mono _)) ?_
  simp only [push_cast, simprocAttr, hb, lk_old hb, hb0, lk_old hb0, b0, b1, tm1, tm2, tm3, tv, tt, tl, n1, n2, Nat.zero_add, List.nil_append]
  refine Thn_n ?_
  refine hK _ _ ?_
  clear hK K
  refine AW.seq_k fun K hK => ?_
  refine AW.seq_k fun K hK => ?_
  refine AW.region (by decide) ?_
  simp only [push_cast, simprocAttr, hb, lk_old hb, hb0, lk_old hb0, b0, b1, tm1, tm2, tm3, tv, tt, tl, n1, n2, Nat.zero_add, List.nil_append]
  refine Thn_n ?_
  refine hK _ _ ?_
  clear hK K
  refine AW.cond_f rfl ?_
  refine AW.skip ?_
  refine Thn_n ?_
  refine hK _ _ ?_
  clear hK K
  refine AW.seq_k fun K hK => ?_
  refine AW.region (by decide) ?_
  simp only [push_cast, simprocAttr, hb, lk_old hb, hb0, lk_old hb0, b0, b1, tm1, tm2, tm3, tv, tt, tl, n1, n2, Nat.zero_add, List.nil_append]
  refine CThen.by (hre _ (by simp; omega) (hf.mono _)) ?_
  simp only [push_cast, simprocAttr, hb, lk_old hb, hb0, lk_old hb0, b0, b1, tm1, tm2, tm3, tv, tt, tl, n1, n2, Nat.zero_add, List.nil_append]
  refine Thn_n ?_
  refine hK _ _ ?_
  clear hK K
  refine AW.seq_k fun K hK => ?_
  refine AW.region (by decide) ?_
  simp only [push_cast, simprocAttr, hb, lk_old hb, hb0, lk_old hb0, b0, b1, tm1, tm2, tm3, tv, tt, tl, n1, n2, Nat.zero_add, List.nil_append]
  refine Thn_n ?_
  refine hK _ _ ?_
  clear hK K
  refine AW.seq_k fun K hK => ?_
  refine AW.seq_k fun K hK => ?_
  refine AW.region (by decide) ?_
  simp only [push_cast, simprocAttr, hb, lk_old hb, hb0, lk_old hb0, b0, b1, tm1, tm2, tm3, tv, tt, tl, n1, n2, Nat.zero_add, List.nil_append]
  refine Thn_n ?_
  refine hK _ _ ?_
  clear hK K
  refine AW.block ?_
  refine AW.loopK [1, 2, 5, 7] (fun i => i ≤ N) (fun i => [(8, .one (.int .i64 (i : Int)))]) (fun i => [(m.length + 4, ⟨.grow, 24, i + 1, 3, tL (P ++ (ke.take i).map (midP P))⟩), (m.length + 5, ⟨.fix, 34, 0, 0, [.sl (m.length + 4) (i + 1) 0 (P.length + i), .nils]⟩)]) (fun i => N - i) 0 (by omega) ?_ ?_ fun i hi9 => ?_
  · first | rfl | (simp only [Keeps, Tm.get_cons, Nat.reduceEqDiff, ↓reduceIte, if_true, if_false, ite_true, ite_false, true_and, and_true, and_self, reduceCtorEq, Int.natCast_zero, List.take_zero, List.map_nil, List.append_nil, Nat.add_zero, Nat.zero_add] <;> rfl)
  · first | rfl | (simp only [setAll, push_cast, simprocAttr, hb, lk_old hb, hb0, lk_old hb0, b0, b1, tm1, tm2, tm3, tv, tt, tl, n1, n2, Nat.zero_add, List.nil_append, Int.natCast_zero, List.take_zero, List.map_nil, List.append_nil, Nat.add_zero, Nat.zero_add] <;> rfl)
  try simp only [keepL, setAll, push_cast, simprocAttr, hb, lk_old hb, hb0, lk_old hb0, b0, b1, tm1, tm2, tm3, tv, tt, tl, n1, n2, Nat.zero_add, List.nil_append]
  refine AW.seq_k fun K hK => ?_
  refine AW.seq_k fun K hK => ?_
  refine AW.region (by decide) ?_
  simp only [push_cast, simprocAttr, hb, lk_old hb, hb0, lk_old hb0, b0, b1, tm1, tm2, tm3, tv, tt, tl, n1, n2, Nat.zero_add, List.nil_append]
  refine Thn_n ?_
  refine hK _ _ ?_
  clear hK K
  refine AW.cond rfl (fun h35 => ?_) (fun h35 => ?_)
  · have hlt : i < N := by have := of_decide_eq_true h35; omega
    have c1 : (0 : Int) ≤ (i : Int) := by omega
    have c2 : (i : Int) < (N : Nat) := by omega
    have c3 : i * 2 + 2 ≤ N * 2 := by omega
    obtain ⟨k, hk⟩ : ∃ k, ke[i]? = some k := ⟨_, List.getElem?_eq_getElem (by omega)⟩
    have g0 := pL_get0 hk
    have g1 := pL_get1 hk
    have hin := hKi k (List.mem_of_getElem? hk)
    obtain ⟨e1, e2, e3, e4⟩ := hin
    obtain ⟨ka, kb⟩ := k
    obtain ⟨a, rfl⟩ := Int.eq_ofNat_of_zero_le e1
    obtain ⟨b, rfl⟩ := Int.eq_ofNat_of_zero_le e3
    dsimp only at e1 e2 e3 e4 g0 g1
    have ha : a < P.length := by omega
    have hb' : b < P.length := by omega
    obtain ⟨p, hpa⟩ : ∃ p, P[a]? = some p := ⟨_, List.getElem?_eq_getElem ha⟩
    obtain ⟨q, hqb⟩ : ∃ q, P[b]? = some q := ⟨_, List.getElem?_eq_getElem hb'⟩
    have gp := tL_at hpa
    have gq := tL_at hqb
    have c4 : a * 3 + 3 ≤ P.length * 3 := by omega
    have c5 : b * 3 + 3 ≤ P.length * 3 := by omega
    have hst0 := md_step (P := P) hk
    have hmid : midP P ((a : Int), (b : Int)) = midT p q := by unfold midP; rw [atP_at hpa, atP_at hqb]
    rw [hmid] at hst0
    have hst : tL (P ++ (ke.take i).map (midP P)) ++ [.int .i64 (lerpI p.1 q.1 32768), .int .i64 (lerpI p.2.1 q.2.1 32768), .int .i64 (lerpI p.2.2 q.2.2 32768)] = tL (P ++ (ke.take (i + 1)).map (midP P)) := hst0
    have htk : (tL (P ++ (ke.take i).map (midP P))).length = (P.length + i) * 3 := by rw [tL_len, List.length_append, List.length_map, List.length_take]; congr 1; omega
    have m1 : P.length + (i + 1) ≤ 140737488355328 := by omega
    have m2 : (P.length + (i + 1)) * 24 ≤ 140737488355328 := by omega
    refine AW.skip ?_
    refine Thn_n ?_
    refine hK _ _ ?_
    clear hK K
    refine AW.seq_k fun K hK => ?_
    refine AW.block ?_
    refine AW.draw [.val, .rd 0, .val, .rd 0, .val, .val, .val, .val, .rd 0, .val, .rd 0, .val, .rd 0, .val, .val, .val, .val, .rd 0, .val, .rd 0, .ext, .ext, .wr, .val, .wr] fol (by decide) (by kernel_rfl) ?_
    simp only [push_cast, simprocAttr, hb, lk_old hb, hb0, lk_old hb0, b0, b1, tm1, tm2, tm3, tv, tt, tl, n1, n2, Nat.zero_add, List.nil_append, c1, c2, c3, g0, g1, hgl, e1, e2, e3, e4, gp, gq, c4, c5, htk, m1, m2]
    refine DCall.by0 (rvmix_c _ _ _ _ _ _ _ _) ?_
    simp only [push_cast, simprocAttr, hb, lk_old hb, hb0, lk_old hb0, b0, b1, tm1, tm2, tm3, tv, tt, tl, n1, n2, Nat.zero_add, List.nil_append, c1, c2, c3, g0, g1, hgl, e1, e2, e3, e4, gp, gq, c4, c5, htk, m1, m2]
    refine DExt.by (by first | rfl | (simp only [List.append_assoc, List.cons_append, List.nil_append]; rfl)) ?_
    simp only [push_cast, simprocAttr, hb, lk_old hb, hb0, lk_old hb0, b0, b1, tm1, tm2, tm3, tv, tt, tl, n1, n2, Nat.zero_add, List.nil_append, c1, c2, c3, g0, g1, hgl, e1, e2, e3, e4, gp, gq, c4, c5, htk, m1, m2]
    refine InB_n ?_
    refine Thn_n ?_
    refine hK _ _ ?_
    clear hK K
    refine AW.region (by decide) ?_
    simp only [push_cast, simprocAttr, hb, lk_old hb, hb0, lk_old hb0, b0, b1, tm1, tm2, tm3, tv, tt, tl, n1, n2, Nat.zero_add, List.nil_append, c1, c2, c3, g0, g1, hgl, e1, e2, e3, e4, gp, gq, c4, c5, htk, m1, m2]
    refine Thn_n ?_
    have hwi : IntKind.i64.wrap ((i:Int)+1) = (i:Int)+1 := wi (by omega)
    refine ⟨i + 1, by omega, by omega, ?_⟩
    try simp only [keepL, setAll, push_cast, simprocAttr, hb, lk_old hb, hb0, lk_old hb0, b0, b1, tm1, tm2, tm3, tv, tt, tl, n1, n2, Nat.zero_add, List.nil_append, c1, c2, c3, g0, g1, hgl, e1, e2, e3, e4, gp, gq, c4, c5, htk, m1, m2, hwi, hst]
    exact Weak.to (extra := [_]) (by simp only [Keeps, Tm.get_cons, Nat.reduceEqDiff, ↓reduceIte, if_true, if_false, ite_true, ite_false, true_and, and_true, and_self, reduceCtorEq, hwi, hst]) (by first | rfl | (simp only [List.append_assoc, List.cons_append, List.nil_append]; rfl)) (by first | rfl | (simp [AV.below, CV.below, tL_below, pL_below, ic_below]; done) | (simp [AV.below, CV.below, tL_below, pL_below, ic_below]; omega)) (by
      first | exact hwf | refine MWf.app (hwf.grow (by simp)) ?_
      repeat (first | exact MWf_nil | (refine MWf_cons ?_ ?_; · first | rfl | (simp [CV.below, tL_below, pL_below, ic_below]; done) | (simp [CV.below, tL_below, pL_below, ic_below]; omega))))
  · have hin : i = N := by have := of_decide_eq_false h35; omega
    have hin2 := hin.symm
    subst hin2
    have hKt : ke.take N = ke := List.take_of_length_le (by omega)
    refine AW.exit ?_
    refine Thn_e ?_
    clear hK K
    refine Thn_e ?_
    refine InB_here ?_
    refine Thn_n ?_
    refine hK _ _ ?_
    clear hK K
    refine AW.seq_k fun K hK => ?_
    refine AW.seq_k fun K hK => ?_
    refine AW.nilCell 54 3 (m.length + 5) 1 (by simp only [push_cast, simprocAttr]; first | done | rfl) (by intro e; cases e) rfl ?_
    try simp only [push_cast, simprocAttr]
    refine AW.region (by decide) ?_
    simp only [push_cast, simprocAttr, hb, lk_old hb, hb0, lk_old hb0, b0, b1, tm1, tm2, tm3, tv, tt, tl, n1, n2, Nat.zero_add, List.nil_append, hKt]
    refine Thn_n ?_
    refine hK _ _ ?_
    clear hK K
    refine AW.block ?_
    refine AW.loopK [1, 2, 5, 7] (fun i => i ≤ Fs.length) (fun i => [(9, .one (.int .i64 (i : Int)))]) (fun i => [(m.length + 5, ⟨.fix, 34, 0, 0, [.sl (m.length + 4) (N + 1) 0 (P.length + N), .sl (m.length + 6) i 0 (4 * i)]⟩), (m.length + 6, ⟨.grow, 54, i, 3, tL ((Fs.take i).flatMap (finF P.length ke))⟩)]) (fun i => Fs.length - i) 0 (by omega) ?_ ?_ fun i hi15 => ?_
    · first | rfl | (simp only [Keeps, Tm.get_cons, Nat.reduceEqDiff, ↓reduceIte, if_true, if_false, ite_true, ite_false, true_and, and_true, and_self, reduceCtorEq, Int.natCast_zero, List.take_zero, tL, List.flatMap_nil, Nat.mul_zero] <;> rfl)
    · first | rfl | (simp only [setAll, push_cast, simprocAttr, hb, lk_old hb, hb0, lk_old hb0, b0, b1, tm1, tm2, tm3, tv, tt, tl, n1, n2, Nat.zero_add, List.nil_append, hKt, Int.natCast_zero, List.take_zero, tL, List.flatMap_nil, Nat.mul_zero] <;> rfl)
    try simp only [keepL, setAll, push_cast, simprocAttr, hb, lk_old hb, hb0, lk_old hb0, b0, b1, tm1, tm2, tm3, tv, tt, tl, n1, n2, Nat.zero_add, List.nil_append, hKt]
    refine AW.seq_k fun K hK => ?_
    refine AW.seq_k fun K hK => ?_
    refine AW.region (by decide) ?_
    simp only [push_cast, simprocAttr, hb, lk_old hb, hb0, lk_old hb0, b0, b1, tm1, tm2, tm3, tv, tt, tl, n1, n2, Nat.zero_add, List.nil_append, hKt]
    refine Thn_n ?_
    refine hK _ _ ?_
    clear hK K
    refine AW.cond rfl (fun h66 => ?_) (fun h66 => ?_)
    · have hlt : i < Fs.length := by have := of_decide_eq_true h66; omega
      have c1 : (0 : Int) ≤ (i : Int) := by omega
      have c2 : (i : Int) < (Fs.length : Nat) := by omega
      have c3 : i * 3 + 3 ≤ Fs.length * 3 := by omega
      obtain ⟨t, ht⟩ : ∃ t, Fs[i]? = some t := ⟨_, List.getElem?_eq_getElem hlt⟩
      have g0 := tL_get0 ht
      have g1 := tL_get1 ht
      have g2 := tL_get2 ht
      have g3 := tL_at ht
      have gl := tL_len Fs
      obtain ⟨j0, p0, z0⟩ := edI_at (n := P.length) (hKh ht (show 0 < 3 by omega))
      obtain ⟨j1, p1, z1⟩ := edI_at (n := P.length) (hKh ht (show 1 < 3 by omega))
      obtain ⟨j2, p2, z2⟩ := edI_at (n := P.length) (hKh ht (show 2 < 3 by omega))
      replace p0 : ke[j0]? = some (eKey t.1 t.2.1) := p0
      replace p1 : ke[j1]? = some (eKey t.2.1 t.2.2) := p1
      replace p2 : ke[j2]? = some (eKey t.2.2 t.1) := p2
      have l0 : j0 < N := by have := (List.getElem?_eq_some_iff.1 p0).1; omega
      have l1 : j1 < N := by have := (List.getElem?_eq_some_iff.1 p1).1; omega
      have l2 : j2 < N := by have := (List.getElem?_eq_some_iff.1 p2).1; omega
      rw [← mI_all l0] at z0
      rw [← mI_all l1] at z1
      rw [← mI_all l2] at z2
      have hst1 := fl_step (n := P.length) (ks := ke) ht
      have hff1 : tL (finF P.length ke t) = [.int .i64 (t.1), .int .i64 (mI P.length j0 N), .int .i64 (mI P.length j2 N), .int .i64 (mI P.length j0 N), .int .i64 (t.2.1), .int .i64 (mI P.length j1 N), .int .i64 (mI P.length j2 N), .int .i64 (mI P.length j1 N), .int .i64 (t.2.2), .int .i64 (mI P.length j0 N), .int .i64 (mI P.length j1 N), .int .i64 (mI P.length j2 N)] := by unfold finF; rw [z0, z1, z2]; rfl
      rw [hff1] at hst1
      have hst : tL ((Fs.take i).flatMap (finF P.length ke)) ++ [.int .i64 (t.1), .int .i64 (mI P.length j0 N), .int .i64 (mI P.length j2 N), .int .i64 (mI P.length j0 N), .int .i64 (t.2.1), .int .i64 (mI P.length j1 N), .int .i64 (mI P.length j2 N), .int .i64 (mI P.length j1 N), .int .i64 (t.2.2), .int .i64 (mI P.length j0 N), .int .i64 (mI P.length j1 N), .int .i64 (mI P.length j2 N)] = tL ((Fs.take (i + 1)).flatMap (finF P.length ke)) := hst1
      have htk : (tL ((Fs.take i).flatMap (finF P.length ke))).length = 4 * i * 3 := by rw [tL_len, fl_len, List.length_take]; congr 2; omega
      have h4 : 4 * (i + 1) = 4 * i + 4 := by omega
      have m1 : 4 * i + 4 ≤ 140737488355328 := by omega
      have m2 : (4 * i + 4) * 24 ≤ 140737488355328 := by omega
      refine AW.skip ?_
      refine Thn_n ?_
      refine hK _ _ ?_
      clear hK K
      refine AW.seq_k fun K hK => ?_
      refine AW.block ?_
      refine AW.seq_k fun K hK => ?_
      refine AW.region (by decide) ?_
      simp only [push_cast, simprocAttr, hb, lk_old hb, hb0, lk_old hb0, b0, b1, tm1, tm2, tm3, tv, tt, tl, n1, n2, Nat.zero_add, List.nil_append, hKt, c1, c2, c3, g0, g1, g2, g3, gl, htk, m1, m2]
      refine Thn_n ?_
      refine hK _ _ ?_
      clear hK K
      refine AW.seq_k fun K hK => ?_
      refine AW.seq_k fun K hK => ?_
      refine AW.region (by decide) ?_
      simp only [push_cast, simprocAttr, hb, lk_old hb, hb0, lk_old hb0, b0, b1, tm1, tm2, tm3, tv, tt, tl, n1, n2, Nat.zero_add, List.nil_append, hKt, c1, c2, c3, g0, g1, g2, g3, gl, htk, m1, m2]
      refine Thn_n ?_
      refine hK _ _ ?_
      clear hK K
      refine AW.block ?_
      refine AW.rounds 4 ?_
      refine ARounds.succ fun K hK => ?_
      refine AW.seq_k fun K hK => ?_
      refine AW.seq_k fun K hK => ?_
      refine AW.region (by decide) ?_
      simp only [push_cast, simprocAttr, hb, lk_old hb, hb0, lk_old hb0, b0, b1, tm1, tm2, tm3, tv, tt, tl, n1, n2, Nat.zero_add, List.nil_append, hKt, c1, c2, c3, g0, g1, g2, g3, gl, htk, m1, m2]
      refine Thn_n ?_
      refine hK _ _ ?_
      clear hK K
      refine AW.cond_t rfl ?_
      refine AW.skip ?_
      refine Thn_n ?_
      refine hK _ _ ?_
      clear hK K
      refine AW.seq_k fun K hK => ?_
      refine AW.block ?_
      refine AW.seq_k fun K hK => ?_
      refine AW.draw [.val, .rd 0, .val, .val, .val, .val, .rd 0, .val, .rd 0, .val, .val, .val, .val, .val, .val, .rd 0, .val, .val] fol (by decide) (by kernel_rfl) ?_
      simp only [push_cast, simprocAttr, hb, lk_old hb, hb0, lk_old hb0, b0, b1, tm1, tm2, tm3, tv, tt, tl, n1, n2, Nat.zero_add, List.nil_append, hKt, c1, c2, c3, g0, g1, g2, g3, gl, htk, m1, m2]
      refine Thn_n ?_
      refine hK _ _ ?_
      clear hK K
      refine AW.seq_k fun K hK => ?_
      refine AW.region (by decide) ?_
      simp only [push_cast, simprocAttr, hb, lk_old hb, hb0, lk_old hb0, b0, b1, tm1, tm2, tm3, tv, tt, tl, n1, n2, Nat.zero_add, List.nil_append, hKt, c1, c2, c3, g0, g1, g2, g3, gl, htk, m1, m2]
      refine Thn_n ?_
      refine hK _ _ ?_
      clear hK K
      refine AW.block ?_
      refine AW.loopK [1, 2, 5, 7, 9, 10, 11, 12, 13] (fun n => n ≤ N) (fun n => [(14, .one (.int .i64 (n : Int)))]) (fun n => [(m.length + 7, ⟨.fix, 54, 0, 0, [.int .i64 (mI P.length j0 n), .int .i64 (0), .int .i64 (0)]⟩)]) (fun n => N - n) 0 (by omega) ?_ ?_ fun n hi28 => ?_
      · first | rfl | (simp only [Keeps, Tm.get_cons, Nat.reduceEqDiff, ↓reduceIte, if_true, if_false, ite_true, ite_false, true_and, and_true, and_self, reduceCtorEq, Int.natCast_zero, mI_0] <;> rfl)
      · first | rfl | (simp only [setAll, push_cast, simprocAttr, hb, lk_old hb, hb0, lk_old hb0, b0, b1, tm1, tm2, tm3, tv, tt, tl, n1, n2, Nat.zero_add, List.nil_append, hKt, c1, c2, c3, g0, g1, g2, g3, gl, htk, m1, m2, Int.natCast_zero, mI_0] <;> rfl)
      have hnx : n ≤ N := hi28
      try simp only [keepL, setAll, push_cast, simprocAttr, hb, lk_old hb, hb0, lk_old hb0, b0, b1, tm1, tm2, tm3, tv, tt, tl, n1, n2, Nat.zero_add, List.nil_append, hKt, c1, c2, c3, g0, g1, g2, g3, gl, htk, m1, m2]
      refine AW.seq_k fun K hK => ?_
      refine AW.seq_k fun K hK => ?_
      refine AW.region (by decide) ?_
      simp only [push_cast, simprocAttr, hb, lk_old hb, hb0, lk_old hb0, b0, b1, tm1, tm2, tm3, tv, tt, tl, n1, n2, Nat.zero_add, List.nil_append, hKt, c1, c2, c3, g0, g1, g2, g3, gl, htk, m1, m2]
      refine Thn_n ?_
      refine hK _ _ ?_
      clear hK K
      refine AW.cond rfl (fun h92 => ?_) (fun h92 => ?_)
      · have hn : n < N := by have := of_decide_eq_true h92; omega
        have e1 : (0 : Int) ≤ (n : Int) := by omega
        have e2 : (n : Int) < (N : Nat) := by omega
        have e3 : n * 2 + 2 ≤ N * 2 := by omega
        obtain ⟨ky, hky⟩ : ∃ ky, ke[n]? = some ky := ⟨_, List.getElem?_eq_getElem (by omega)⟩
        have f0 := pL_at hky
        have hkl := hKlt ky (List.mem_of_getElem? hky)
        refine AW.skip ?_
        refine Thn_n ?_
        refine hK _ _ ?_
        clear hK K
        refine AW.seq_k fun K hK => ?_
        refine AW.block ?_
        refine AW.seq_k fun K hK => ?_
        rcases key_cases hkl (t.1) (t.2.1) with ⟨r0, r1, r2⟩ | ⟨r0, r1, r2, r3⟩ | ⟨r0, r1, r2⟩
        · have hnj : n = j0 := hInj hky (r0 ▸ p0)
          have y1 : (ky.1 == t.1 && ky.2 == t.2.1) = true := by simp [r1, r2]
          have hwv : IntKind.i64.wrap ((P.length : Int) + (n : Int)) = (P.length : Int) + (n : Int) := wi (by omega)
          have hmi : mI P.length j0 (n + 1) = (P.length : Int) + (n : Int) := by rw [hnj, mI_hit]; push_cast; rfl
          refine AW.region (by decide) ?_
          simp only [push_cast, simprocAttr, hb, lk_old hb, hb0, lk_old hb0, b0, b1, tm1, tm2, tm3, tv, tt, tl, n1, n2, Nat.zero_add, List.nil_append, hKt, c1, c2, c3, g0, g1, g2, g3, gl, htk, m1, m2, e1, e2, e3, f0, hgl, y1, hwv]
          refine Thn_n ?_
          refine hK _ _ ?_
          clear hK K
          refine AW.cond_t rfl ?_
          refine AW.region (by decide) ?_
          simp only [push_cast, simprocAttr, hb, lk_old hb, hb0, lk_old hb0, b0, b1, tm1, tm2, tm3, tv, tt, tl, n1, n2, Nat.zero_add, List.nil_append, hKt, c1, c2, c3, g0, g1, g2, g3, gl, htk, m1, m2, e1, e2, e3, f0, hgl, y1, hwv]
          refine InB_n ?_
          refine Thn_n ?_
          refine hK _ _ ?_
          clear hK K
          refine AW.region (by decide) ?_
          simp only [push_cast, simprocAttr, hb, lk_old hb, hb0, lk_old hb0, b0, b1, tm1, tm2, tm3, tv, tt, tl, n1, n2, Nat.zero_add, List.nil_append, hKt, c1, c2, c3, g0, g1, g2, g3, gl, htk, m1, m2, e1, e2, e3, f0, hgl, y1, hwv]
          refine Thn_n ?_
          have hwn : IntKind.i64.wrap ((n:Int)+1) = (n:Int)+1 := wi (by omega)
          refine ⟨n + 1, by omega, by omega, ?_⟩
          try simp only [keepL, setAll, push_cast, simprocAttr, hb, lk_old hb, hb0, lk_old hb0, b0, b1, tm1, tm2, tm3, tv, tt, tl, n1, n2, Nat.zero_add, List.nil_append, hKt, c1, c2, c3, g0, g1, g2, g3, gl, htk, m1, m2, e1, e2, e3, f0, hgl, y1, hwv, hwn, hmi]
          exact Weak.same (by simp only [Keeps, Tm.get_cons, Nat.reduceEqDiff, ↓reduceIte, if_true, if_false, ite_true, ite_false, true_and, and_true, and_self, reduceCtorEq, hwn, hmi]) (by first | rfl | simp only [Keeps, Tm.get_cons, Nat.reduceEqDiff, ↓reduceIte, if_true, if_false, ite_true, ite_false, true_and, and_true, and_self, reduceCtorEq, hwn, hmi])
        · have hnj : n = j0 := hInj hky (r0 ▸ p0)
          have y1 : (ky.1 == t.1 && ky.2 == t.2.1) = false := by rw [Bool.eq_false_iff]; intro h; simp only [Bool.and_eq_true, beq_iff_eq] at h; exact r3 h
          have y2 : (ky.1 == t.2.1 && ky.2 == t.1) = true := by simp [r1, r2]
          have hwv : IntKind.i64.wrap ((P.length : Int) + (n : Int)) = (P.length : Int) + (n : Int) := wi (by omega)
          have hmi : mI P.length j0 (n + 1) = (P.length : Int) + (n : Int) := by rw [hnj, mI_hit]; push_cast; rfl
          refine AW.region (by decide) ?_
          simp only [push_cast, simprocAttr, hb, lk_old hb, hb0, lk_old hb0, b0, b1, tm1, tm2, tm3, tv, tt, tl, n1, n2, Nat.zero_add, List.nil_append, hKt, c1, c2, c3, g0, g1, g2, g3, gl, htk, m1, m2, e1, e2, e3, f0, hgl, y1, y2, hwv]
          refine Thn_n ?_
          refine hK _ _ ?_
          clear hK K
          refine AW.cond_t rfl ?_
          refine AW.region (by decide) ?_
          simp only [push_cast, simprocAttr, hb, lk_old hb, hb0, lk_old hb0, b0, b1, tm1, tm2, tm3, tv, tt, tl, n1, n2, Nat.zero_add, List.nil_append, hKt, c1, c2, c3, g0, g1, g2, g3, gl, htk, m1, m2, e1, e2, e3, f0, hgl, y1, y2, hwv]
          refine InB_n ?_
          refine Thn_n ?_
          refine hK _ _ ?_
          clear hK K
          refine AW.region (by decide) ?_
          simp only [push_cast, simprocAttr, hb, lk_old hb, hb0, lk_old hb0, b0, b1, tm1, tm2, tm3, tv, tt, tl, n1, n2, Nat.zero_add, List.nil_append, hKt, c1, c2, c3, g0, g1, g2, g3, gl, htk, m1, m2, e1, e2, e3, f0, hgl, y1, y2, hwv]
          refine Thn_n ?_
          have hwn : IntKind.i64.wrap ((n:Int)+1) = (n:Int)+1 := wi (by omega)
          refine ⟨n + 1, by omega, by omega, ?_⟩
          try simp only [keepL, setAll, push_cast, simprocAttr, hb, lk_old hb, hb0, lk_old hb0, b0, b1, tm1, tm2, tm3, tv, tt, tl, n1, n2, Nat.zero_add, List.nil_append, hKt, c1, c2, c3, g0, g1, g2, g3, gl, htk, m1, m2, e1, e2, e3, f0, hgl, y1, y2, hwv, hwn, hmi]
          exact Weak.same (by simp only [Keeps, Tm.get_cons, Nat.reduceEqDiff, ↓reduceIte, if_true, if_false, ite_true, ite_false, true_and, and_true, and_self, reduceCtorEq, hwn, hmi]) (by first | rfl | simp only [Keeps, Tm.get_cons, Nat.reduceEqDiff, ↓reduceIte, if_true, if_false, ite_true, ite_false, true_and, and_true, and_self, reduceCtorEq, hwn, hmi])
        · have hnj : n ≠ j0 := fun e => r0 (by rw [e, p0] at hky; injection hky with hky; exact hky.symm)
          have y1 : (ky.1 == t.1 && ky.2 == t.2.1) = false := by rw [Bool.eq_false_iff]; intro h; simp only [Bool.and_eq_true, beq_iff_eq] at h; exact r1 h
          have y2 : (ky.1 == t.2.1 && ky.2 == t.1) = false := by rw [Bool.eq_false_iff]; intro h; simp only [Bool.and_eq_true, beq_iff_eq] at h; exact r2 h
          have hmi : mI P.length j0 (n + 1) = mI P.length j0 n := mI_miss hnj
          refine AW.region (by decide) ?_
          simp only [push_cast, simprocAttr, hb, lk_old hb, hb0, lk_old hb0, b0, b1, tm1, tm2, tm3, tv, tt, tl, n1, n2, Nat.zero_add, List.nil_append, hKt, c1, c2, c3, g0, g1, g2, g3, gl, htk, m1, m2, e1, e2, e3, f0, hgl, y1, y2]
          refine Thn_n ?_
          refine hK _ _ ?_
          clear hK K
          refine AW.cond_f rfl ?_
          refine AW.skip ?_
          refine InB_n ?_
          refine Thn_n ?_
          refine hK _ _ ?_
          clear hK K
          refine AW.region (by decide) ?_
          simp only [push_cast, simprocAttr, hb, lk_old hb, hb0, lk_old hb0, b0, b1, tm1, tm2, tm3, tv, tt, tl, n1, n2, Nat.zero_add, List.nil_append, hKt, c1, c2, c3, g0, g1, g2, g3, gl, htk, m1, m2, e1, e2, e3, f0, hgl, y1, y2]
          refine Thn_n ?_
          have hwn : IntKind.i64.wrap ((n:Int)+1) = (n:Int)+1 := wi (by omega)
          refine ⟨n + 1, by omega, by omega, ?_⟩
          try simp only [keepL, setAll, push_cast, simprocAttr, hb, lk_old hb, hb0, lk_old hb0, b0, b1, tm1, tm2, tm3, tv, tt, tl, n1, n2, Nat.zero_add, List.nil_append, hKt, c1, c2, c3, g0, g1, g2, g3, gl, htk, m1, m2, e1, e2, e3, f0, hgl, y1, y2, hwn, hmi]
          exact Weak.same (by simp only [Keeps, Tm.get_cons, Nat.reduceEqDiff, ↓reduceIte, if_true, if_false, ite_true, ite_false, true_and, and_true, and_self, reduceCtorEq, hwn, hmi]) (by first | rfl | simp only [Keeps, Tm.get_cons, Nat.reduceEqDiff, ↓reduceIte, if_true, if_false, ite_true, ite_false, true_and, and_true, and_self, reduceCtorEq, hwn, hmi])
      · have hn0 : n = N := by have := of_decide_eq_false h92; omega
        have hn1 := hn0.symm
        subst hn1
        refine AW.exit ?_
        refine Thn_e ?_
        clear hK K
        refine Thn_e ?_
        refine InB_here ?_
        refine InB_n ?_
        refine Thn_n ?_
        refine hK _ _ ?_
        clear hK K
        refine AW.region (by decide) ?_
        simp only [push_cast, simprocAttr, hb, lk_old hb, hb0, lk_old hb0, b0, b1, tm1, tm2, tm3, tv, tt, tl, n1, n2, Nat.zero_add, List.nil_append, hKt, c1, c2, c3, g0, g1, g2, g3, gl, htk, m1, m2]
        refine Thn_n ?_
        refine hK _ _ ?_
        clear hK K
        refine ARounds.succ fun K hK => ?_
        refine AW.seq_k fun K hK => ?_
        refine AW.seq_k fun K hK => ?_
        refine AW.region (by decide) ?_
        simp only [push_cast, simprocAttr, hb, lk_old hb, hb0, lk_old hb0, b0, b1, tm1, tm2, tm3, tv, tt, tl, n1, n2, Nat.zero_add, List.nil_append, hKt, c1, c2, c3, g0, g1, g2, g3, gl, htk, m1, m2]
        refine Thn_n ?_
        refine hK _ _ ?_
        clear hK K
        refine AW.cond_t rfl ?_
        refine AW.skip ?_
        refine Thn_n ?_
        refine hK _ _ ?_
        clear hK K
        refine AW.seq_k fun K hK => ?_
        refine AW.block ?_
        refine AW.seq_k fun K hK => ?_
        refine AW.draw [.val, .rd 0, .val, .val, .val, .val, .rd 0, .val, .rd 0, .val, .val, .val, .val, .val, .val, .rd 0, .val, .val] fol (by decide) (by kernel_rfl) ?_
        simp only [push_cast, simprocAttr, hb, lk_old hb, hb0, lk_old hb0, b0, b1, tm1, tm2, tm3, tv, tt, tl, n1, n2, Nat.zero_add, List.nil_append, hKt, c1, c2, c3, g0, g1, g2, g3, gl, htk, m1, m2]
        refine Thn_n ?_
        refine hK _ _ ?_
        clear hK K
        refine AW.seq_k fun K hK => ?_
        refine AW.region (by decide) ?_
        simp only [push_cast, simprocAttr, hb, lk_old hb, hb0, lk_old hb0, b0, b1, tm1, tm2, tm3, tv, tt, tl, n1, n2, Nat.zero_add, List.nil_append, hKt, c1, c2, c3, g0, g1, g2, g3, gl, htk, m1, m2]
        refine Thn_n ?_
        refine hK _ _ ?_
        clear hK K
        refine AW.block ?_
        refine AW.loopK [1, 2, 5, 7, 9, 10, 11, 12, 13] (fun n => n ≤ N) (fun n => [(14, .one (.int .i64 (n : Int)))]) (fun n => [(m.length + 7, ⟨.fix, 54, 0, 0, [.int .i64 (mI P.length j0 N), .int .i64 (mI P.length j1 n), .int .i64 (0)]⟩)]) (fun n => N - n) 0 (by omega) ?_ ?_ fun n hi39 => ?_
        · first | rfl | (simp only [Keeps, Tm.get_cons, Nat.reduceEqDiff, ↓reduceIte, if_true, if_false, ite_true, ite_false, true_and, and_true, and_self, reduceCtorEq, Int.natCast_zero, mI_0] <;> rfl)
        · first | rfl | (simp only [setAll, push_cast, simprocAttr, hb, lk_old hb, hb0, lk_old hb0, b0, b1, tm1, tm2, tm3, tv, tt, tl, n1, n2, Nat.zero_add, List.nil_append, hKt, c1, c2, c3, g0, g1, g2, g3, gl, htk, m1, m2, Int.natCast_zero, mI_0] <;> rfl)
        have hnx : n ≤ N := hi39
        try simp only [keepL, setAll, push_cast, simprocAttr, hb, lk_old hb, hb0, lk_old hb0, b0, b1, tm1, tm2, tm3, tv, tt, tl, n1, n2, Nat.zero_add, List.nil_append, hKt, c1, c2, c3, g0, g1, g2, g3, gl, htk, m1, m2]
        refine AW.seq_k fun K hK => ?_
        refine AW.seq_k fun K hK => ?_
        refine AW.region (by decide) ?_
        simp only [push_cast, simprocAttr, hb, lk_old hb, hb0, lk_old hb0, b0, b1, tm1, tm2, tm3, tv, tt, tl, n1, n2, Nat.zero_add, List.nil_append, hKt, c1, c2, c3, g0, g1, g2, g3, gl, htk, m1, m2]
        refine Thn_n ?_
        refine hK _ _ ?_
        clear hK K
        refine AW.cond rfl (fun h92 => ?_) (fun h92 => ?_)
        · have hn : n < N := by have := of_decide_eq_true h92; omega
          have e1 : (0 : Int) ≤ (n : Int) := by omega
          have e2 : (n : Int) < (N : Nat) := by omega
          have e3 : n * 2 + 2 ≤ N * 2 := by omega
          obtain ⟨ky, hky⟩ : ∃ ky, ke[n]? = some ky := ⟨_, List.getElem?_eq_getElem (by omega)⟩
          have f0 := pL_at hky
          have hkl := hKlt ky (List.mem_of_getElem? hky)
          refine AW.skip ?_
          refine Thn_n ?_
          refine hK _ _ ?_
          clear hK K
          refine AW.seq_k fun K hK => ?_
          refine AW.block ?_
          refine AW.seq_k fun K hK => ?_
          rcases key_cases hkl (t.2.1) (t.2.2) with ⟨r0, r1, r2⟩ | ⟨r0, r1, r2, r3⟩ | ⟨r0, r1, r2⟩
          · have hnj : n = j1 := hInj hky (r0 ▸ p1)
            have y1 : (ky.1 == t.2.1 && ky.2 == t.2.2) = true := by simp [r1, r2]
            have hwv : IntKind.i64.wrap ((P.length : Int) + (n : Int)) = (P.length : Int) + (n : Int) := wi (by omega)
            have hmi : mI P.length j1 (n + 1) = (P.length : Int) + (n : Int) := by rw [hnj, mI_hit]; push_cast; rfl
            refine AW.region (by decide) ?_
            simp only [push_cast, simprocAttr, hb, lk_old hb, hb0, lk_old hb0, b0, b1, tm1, tm2, tm3, tv, tt, tl, n1, n2, Nat.zero_add, List.nil_append, hKt, c1, c2, c3, g0, g1, g2, g3, gl, htk, m1, m2, e1, e2, e3, f0, hgl, y1, hwv]
            refine Thn_n ?_
            refine hK _ _ ?_
            clear hK K
            refine AW.cond_t rfl ?_
            refine AW.region (by decide) ?_
            simp only [push_cast, simprocAttr, hb, lk_old hb, hb0, lk_old hb0, b0, b1, tm1, tm2, tm3, tv, tt, tl, n1, n2, Nat.zero_add, List.nil_append, hKt, c1, c2, c3, g0, g1, g2, g3, gl, htk, m1, m2, e1, e2, e3, f0, hgl, y1, hwv]
            refine InB_n ?_
            refine Thn_n ?_
            refine hK _ _ ?_
            clear hK K
            refine AW.region (by decide) ?_
            simp only [push_cast, simprocAttr, hb, lk_old hb, hb0, lk_old hb0, b0, b1, tm1, tm2, tm3, tv, tt, tl, n1, n2, Nat.zero_add, List.nil_append, hKt, c1, c2, c3, g0, g1, g2, g3, gl, htk, m1, m2, e1, e2, e3, f0, hgl, y1, hwv]
            refine Thn_n ?_
            have hwn : IntKind.i64.wrap ((n:Int)+1) = (n:Int)+1 := wi (by omega)
            refine ⟨n + 1, by omega, by omega, ?_⟩
            try simp only [keepL, setAll, push_cast, simprocAttr, hb, lk_old hb, hb0, lk_old hb0, b0, b1, tm1, tm2, tm3, tv, tt, tl, n1, n2, Nat.zero_add, List.nil_append, hKt, c1, c2, c3, g0, g1, g2, g3, gl, htk, m1, m2, e1, e2, e3, f0, hgl, y1, hwv, hwn, hmi]
            exact Weak.same (by simp only [Keeps, Tm.get_cons, Nat.reduceEqDiff, ↓reduceIte, if_true, if_false, ite_true, ite_false, true_and, and_true, and_self, reduceCtorEq, hwn, hmi]) (by first | rfl | simp only [Keeps, Tm.get_cons, Nat.reduceEqDiff, ↓reduceIte, if_true, if_false, ite_true, ite_false, true_and, and_true, and_self, reduceCtorEq, hwn, hmi])
          · have hnj : n = j1 := hInj hky (r0 ▸ p1)
            have y1 : (ky.1 == t.2.1 && ky.2 == t.2.2) = false := by rw [Bool.eq_false_iff]; intro h; simp only [Bool.and_eq_true, beq_iff_eq] at h; exact r3 h
            have y2 : (ky.1 == t.2.2 && ky.2 == t.2.1) = true := by simp [r1, r2]
            have hwv : IntKind.i64.wrap ((P.length : Int) + (n : Int)) = (P.length : Int) + (n : Int) := wi (by omega)
            have hmi : mI P.length j1 (n + 1) = (P.length : Int) + (n : Int) := by rw [hnj, mI_hit]; push_cast; rfl
            refine AW.region (by decide) ?_
            simp only [push_cast, simprocAttr, hb, lk_old hb, hb0, lk_old hb0, b0, b1, tm1, tm2, tm3, tv, tt, tl, n1, n2, Nat.zero_add, List.nil_append, hKt, c1, c2, c3, g0, g1, g2, g3, gl, htk, m1, m2, e1, e2, e3, f0, hgl, y1, y2, hwv]
            refine Thn_n ?_
            refine hK _ _ ?_
            clear hK K
            refine AW.cond_t rfl ?_
            refine AW.region (by decide) ?_
            simp only [push_cast, simprocAttr, hb, lk_old hb, hb0, lk_old hb0, b0, b1, tm1, tm2, tm3, tv, tt, tl, n1, n2, Nat.zero_add, List.nil_append, hKt, c1, c2, c3, g0, g1, g2, g3, gl, htk, m1, m2, e1, e2, e3, f0, hgl, y1, y2, hwv]
            refine InB_n ?_
            refine Thn_n ?_
            refine hK _ _ ?_
            clear hK K
            refine AW.region (by decide) ?_
            simp only [push_cast, simprocAttr, hb, lk_old hb, hb0, lk_old hb0, b0, b1, tm1, tm2, tm3, tv, tt, tl, n1, n2, Nat.zero_add, List.nil_append, hKt, c1, c2, c3, g0, g1, g2, g3, gl, htk, m1, m2, e1, e2, e3, f0, hgl, y1, y2, hwv]
            refine Thn_n ?_
            have hwn : IntKind.i64.wrap ((n:Int)+1) = (n:Int)+1 := wi (by omega)
            refine ⟨n + 1, by omega, by omega, ?_⟩
            try simp only [keepL, setAll, push_cast, simprocAttr, hb, lk_old hb, hb0, lk_old hb0, b0, b1, tm1, tm2, tm3, tv, tt, tl, n1, n2, Nat.zero_add, List.nil_append, hKt, c1, c2, c3, g0, g1, g2, g3, gl, htk, m1, m2, e1, e2, e3, f0, hgl, y1, y2, hwv, hwn, hmi]
            exact Weak.same (by simp only [Keeps, Tm.get_cons, Nat.reduceEqDiff, ↓reduceIte, if_true, if_false, ite_true, ite_false, true_and, and_true, and_self, reduceCtorEq, hwn, hmi]) (by first | rfl | simp only [Keeps, Tm.get_cons, Nat.reduceEqDiff, ↓reduceIte, if_true, if_false, ite_true, ite_false, true_and, and_true, and_self, reduceCtorEq, hwn, hmi])
          · have hnj : n ≠ j1 := fun e => r0 (by rw [e, p1] at hky; injection hky with hky; exact hky.symm)
            have y1 : (ky.1 == t.2.1 && ky.2 == t.2.2) = false := by rw [Bool.eq_false_iff]; intro h; simp only [Bool.and_eq_true, beq_iff_eq] at h; exact r1 h
            have y2 : (ky.1 == t.2.2 && ky.2 == t.2.1) = false := by rw [Bool.eq_false_iff]; intro h; simp only [Bool.and_eq_true, beq_iff_eq] at h; exact r2 h
            have hmi : mI P.length j1 (n + 1) = mI P.length j1 n := mI_miss hnj
            refine AW.region (by decide) ?_
            simp only [push_cast, simprocAttr, hb, lk_old hb, hb0, lk_old hb0, b0, b1, tm1, tm2, tm3, tv, tt, tl, n1, n2, Nat.zero_add, List.nil_append, hKt, c1, c2, c3, g0, g1, g2, g3, gl, htk, m1, m2, e1, e2, e3, f0, hgl, y1, y2]
            refine Thn_n ?_
            refine hK _ _ ?_
            clear hK K
            refine AW.cond_f rfl ?_
            refine AW.skip ?_
            refine InB_n ?_
            refine Thn_n ?_
            refine hK _ _ ?_
            clear hK K
            refine AW.region (by decide) ?_
            simp only [push_cast, simprocAttr, hb, lk_old hb, hb0, lk_old hb0, b0, b1, tm1, tm2, tm3, tv, tt, tl, n1, n2, Nat.zero_add, List.nil_append, hKt, c1, c2, c3, g0, g1, g2, g3, gl, htk, m1, m2, e1, e2, e3, f0, hgl, y1, y2]
            refine Thn_n ?_
            have hwn : IntKind.i64.wrap ((n:Int)+1) = (n:Int)+1 := wi (by omega)
            refine ⟨n + 1, by omega, by omega, ?_⟩
            try simp only [keepL, setAll, push_cast, simprocAttr, hb, lk_old hb, hb0, lk_old hb0, b0, b1, tm1, tm2, tm3, tv, tt, tl, n1, n2, Nat.zero_add, List.nil_append, hKt, c1, c2, c3, g0, g1, g2, g3, gl, htk, m1, m2, e1, e2, e3, f0, hgl, y1, y2, hwn, hmi]
            exact Weak.same (by simp only [Keeps, Tm.get_cons, Nat.reduceEqDiff, ↓reduceIte, if_true, if_false, ite_true, ite_false, true_and, and_true, and_self, reduceCtorEq, hwn, hmi]) (by first | rfl | simp only [Keeps, Tm.get_cons, Nat.reduceEqDiff, ↓reduceIte, if_true, if_false, ite_true, ite_false, true_and, and_true, and_self, reduceCtorEq, hwn, hmi])
        · have hn0 : n = N := by have := of_decide_eq_false h92; omega
          have hn1 := hn0.symm
          subst hn1
          refine AW.exit ?_
          refine Thn_e ?_
          clear hK K
          refine Thn_e ?_
          refine InB_here ?_
          refine InB_n ?_
          refine Thn_n ?_
          refine hK _ _ ?_
          clear hK K
          refine AW.region (by decide) ?_
          simp only [push_cast, simprocAttr, hb, lk_old hb, hb0, lk_old hb0, b0, b1, tm1, tm2, tm3, tv, tt, tl, n1, n2, Nat.zero_add, List.nil_append, hKt, c1, c2, c3, g0, g1, g2, g3, gl, htk, m1, m2]
          refine Thn_n ?_
          refine hK _ _ ?_
          clear hK K
          refine ARounds.succ fun K hK => ?_
          refine AW.seq_k fun K hK => ?_
          refine AW.seq_k fun K hK => ?_
          refine AW.region (by decide) ?_
          simp only [push_cast, simprocAttr, hb, lk_old hb, hb0, lk_old hb0, b0, b1, tm1, tm2, tm3, tv, tt, tl, n1, n2, Nat.zero_add, List.nil_append, hKt, c1, c2, c3, g0, g1, g2, g3, gl, htk, m1, m2]
          refine Thn_n ?_
          refine hK _ _ ?_
          clear hK K
          refine AW.cond_t rfl ?_
          refine AW.skip ?_
          refine Thn_n ?_
          refine hK _ _ ?_
          clear hK K
          refine AW.seq_k fun K hK => ?_
          refine AW.block ?_
          refine AW.seq_k fun K hK => ?_
          refine AW.draw [.val, .rd 0, .val, .val, .val, .val, .rd 0, .val, .rd 0, .val, .val, .val, .val, .val, .val, .rd 0, .val, .val] fol (by decide) (by kernel_rfl) ?_
          simp only [push_cast, simprocAttr, hb, lk_old hb, hb0, lk_old hb0, b0, b1, tm1, tm2, tm3, tv, tt, tl, n1, n2, Nat.zero_add, List.nil_append, hKt, c1, c2, c3, g0, g1, g2, g3, gl, htk, m1, m2]
          refine Thn_n ?_
          refine hK _ _ ?_
          clear hK K
          refine AW.seq_k fun K hK => ?_
          refine AW.region (by decide) ?_
          simp only [push_cast, simprocAttr, hb, lk_old hb, hb0, lk_old hb0, b0, b1, tm1, tm2, tm3, tv, tt, tl, n1, n2, Nat.zero_add, List.nil_append, hKt, c1, c2, c3, g0, g1, g2, g3, gl, htk, m1, m2]
          refine Thn_n ?_
          refine hK _ _ ?_
          clear hK K
          refine AW.block ?_
          refine AW.loopK [1, 2, 5, 7, 9, 10, 11, 12, 13] (fun n => n ≤ N) (fun n => [(14, .one (.int .i64 (n : Int)))]) (fun n => [(m.length + 7, ⟨.fix, 54, 0, 0, [.int .i64 (mI P.length j0 N), .int .i64 (mI P.length j1 N), .int .i64 (mI P.length j2 n)]⟩)]) (fun n => N - n) 0 (by omega) ?_ ?_ fun n hi50 => ?_
          · first | rfl | (simp only [Keeps, Tm.get_cons, Nat.reduceEqDiff, ↓reduceIte, if_true, if_false, ite_true, ite_false, true_and, and_true, and_self, reduceCtorEq, Int.natCast_zero, mI_0] <;> rfl)
          · first | rfl | (simp only [setAll, push_cast, simprocAttr, hb, lk_old hb, hb0, lk_old hb0, b0, b1, tm1, tm2, tm3, tv, tt, tl, n1, n2, Nat.zero_add, List.nil_append, hKt, c1, c2, c3, g0, g1, g2, g3, gl, htk, m1, m2, Int.natCast_zero, mI_0] <;> rfl)
          have hnx : n ≤ N := hi50
          try simp only [keepL, setAll, push_cast, simprocAttr, hb, lk_old hb, hb0, lk_old hb0, b0, b1, tm1, tm2, tm3, tv, tt, tl, n1, n2, Nat.zero_add, List.nil_append, hKt, c1, c2, c3, g0, g1, g2, g3, gl, htk, m1, m2]
          refine AW.seq_k fun K hK => ?_
          refine AW.seq_k fun K hK => ?_
          refine AW.region (by decide) ?_
          simp only [push_cast, simprocAttr, hb, lk_old hb, hb0, lk_old hb0, b0, b1, tm1, tm2, tm3, tv, tt, tl, n1, n2, Nat.zero_add, List.nil_append, hKt, c1, c2, c3, g0, g1, g2, g3, gl, htk, m1, m2]
          refine Thn_n ?_
          refine hK _ _ ?_
          clear hK K
          refine AW.cond rfl (fun h92 => ?_) (fun h92 => ?_)
          · have hn : n < N := by have := of_decide_eq_true h92; omega
            have e1 : (0 : Int) ≤ (n : Int) := by omega
            have e2 : (n : Int) < (N : Nat) := by omega
            have e3 : n * 2 + 2 ≤ N * 2 := by omega
            obtain ⟨ky, hky⟩ : ∃ ky, ke[n]? = some ky := ⟨_, List.getElem?_eq_getElem (by omega)⟩
            have f0 := pL_at hky
            have hkl := hKlt ky (List.mem_of_getElem? hky)
            refine AW.skip ?_
            refine Thn_n ?_
            refine hK _ _ ?_
            clear hK K
            refine AW.seq_k fun K hK => ?_
            refine AW.block ?_
            refine AW.seq_k fun K hK => ?_
            rcases key_cases hkl (t.2.2) (t.1) with ⟨r0, r1, r2⟩ | ⟨r0, r1, r2, r3⟩ | ⟨r0, r1, r2⟩
            · have hnj : n = j2 := hInj hky (r0 ▸ p2)
              have y1 : (ky.1 == t.2.2 && ky.2 == t.1) = true := by simp [r1, r2]
              have hwv : IntKind.i64.wrap ((P.length : Int) + (n : Int)) = (P.length : Int) + (n : Int) := wi (by omega)
              have hmi : mI P.length j2 (n + 1) = (P.length : Int) + (n : Int) := by rw [hnj, mI_hit]; push_cast; rfl
              refine AW.region (by decide) ?_
              simp only [push_cast, simprocAttr, hb, lk_old hb, hb0, lk_old hb0, b0, b1, tm1, tm2, tm3, tv, tt, tl, n1, n2, Nat.zero_add, List.nil_append, hKt, c1, c2, c3, g0, g1, g2, g3, gl, htk, m1, m2, e1, e2, e3, f0, hgl, y1, hwv]
              refine Thn_n ?_
              refine hK _ _ ?_
              clear hK K
              refine AW.cond_t rfl ?_
              refine AW.region (by decide) ?_
              simp only [push_cast, simprocAttr, hb, lk_old hb, hb0, lk_old hb0, b0, b1, tm1, tm2, tm3, tv, tt, tl, n1, n2, Nat.zero_add, List.nil_append, hKt, c1, c2, c3, g0, g1, g2, g3, gl, htk, m1, m2, e1, e2, e3, f0, hgl, y1, hwv]
              refine InB_n ?_
              refine Thn_n ?_
              refine hK _ _ ?_
              clear hK K
              refine AW.region (by decide) ?_
              simp only [push_cast, simprocAttr, hb, lk_old hb, hb0, lk_old hb0, b0, b1, tm1, tm2, tm3, tv, tt, tl, n1, n2, Nat.zero_add, List.nil_append, hKt, c1, c2, c3, g0, g1, g2, g3, gl, htk, m1, m2, e1, e2, e3, f0, hgl, y1, hwv]
              refine Thn_n ?_
              have hwn : IntKind.i64.wrap ((n:Int)+1) = (n:Int)+1 := wi (by omega)
              refine ⟨n + 1, by omega, by omega, ?_⟩
              try simp only [keepL, setAll, push_cast, simprocAttr, hb, lk_old hb, hb0, lk_old hb0, b0, b1, tm1, tm2, tm3, tv, tt, tl, n1, n2, Nat.zero_add, List.nil_append, hKt, c1, c2, c3, g0, g1, g2, g3, gl, htk, m1, m2, e1, e2, e3, f0, hgl, y1, hwv, hwn, hmi]
              exact Weak.same (by simp only [Keeps, Tm.get_cons, Nat.reduceEqDiff, ↓reduceIte, if_true, if_false, ite_true, ite_false, true_and, and_true, and_self, reduceCtorEq, hwn, hmi]) (by first | rfl | simp only [Keeps, Tm.get_cons, Nat.reduceEqDiff, ↓reduceIte, if_true, if_false, ite_true, ite_false, true_and, and_true, and_self, reduceCtorEq, hwn, hmi])
            · have hnj : n = j2 := hInj hky (r0 ▸ p2)
              have y1 : (ky.1 == t.2.2 && ky.2 == t.1) = false := by rw [Bool.eq_false_iff]; intro h; simp only [Bool.and_eq_true, beq_iff_eq] at h; exact r3 h
              have y2 : (ky.1 == t.1 && ky.2 == t.2.2) = true := by simp [r1, r2]
              have hwv : IntKind.i64.wrap ((P.length : Int) + (n : Int)) = (P.length : Int) + (n : Int) := wi (by omega)
              have hmi : mI P.length j2 (n + 1) = (P.length : Int) + (n : Int) := by rw [hnj, mI_hit]; push_cast; rfl
              refine AW.region (by decide) ?_
              simp only [push_cast, simprocAttr, hb, lk_old hb, hb0, lk_old hb0, b0, b1, tm1, tm2, tm3, tv, tt, tl, n1, n2, Nat.zero_add, List.nil_append, hKt, c1, c2, c3, g0, g1, g2, g3, gl, htk, m1, m2, e1, e2, e3, f0, hgl, y1, y2, hwv]
              refine Thn_n ?_
              refine hK _ _ ?_
              clear hK K
              refine AW.cond_t rfl ?_
              refine AW.region (by decide) ?_
              simp only [push_cast, simprocAttr, hb, lk_old hb, hb0, lk_old hb0, b0, b1, tm1, tm2, tm3, tv, tt, tl, n1, n2, Nat.zero_add, List.nil_append, hKt, c1, c2, c3, g0, g1, g2, g3, gl, htk, m1, m2, e1, e2, e3, f0, hgl, y1, y2, hwv]
              refine InB_n ?_
              refine Thn_n ?_
              refine hK _ _ ?_
              clear hK K
              refine AW.region (by decide) ?_
              simp only [push_cast, simprocAttr, hb, lk_old hb, hb0, lk_old hb0, b0, b1, tm1, tm2, tm3, tv, tt, tl, n1, n2, Nat.zero_add, List.nil_append, hKt, c1, c2, c3, g0, g1, g2, g3, gl, htk, m1, m2, e1, e2, e3, f0, hgl, y1, y2, hwv]
              refine Thn_n ?_
              have hwn : IntKind.i64.wrap ((n:Int)+1) = (n:Int)+1 := wi (by omega)
              refine ⟨n + 1, by omega, by omega, ?_⟩
              try simp only [keepL, setAll, push_cast, simprocAttr, hb, lk_old hb, hb0, lk_old hb0, b0, b1, tm1, tm2, tm3, tv, tt, tl, n1, n2, Nat.zero_add, List.nil_append, hKt, c1, c2, c3, g0, g1, g2, g3, gl, htk, m1, m2, e1, e2, e3, f0, hgl, y1, y2, hwv, hwn, hmi]
              exact Weak.same (by simp only [Keeps, Tm.get_cons, Nat.reduceEqDiff, ↓reduceIte, if_true, if_false, ite_true, ite_false, true_and, and_true, and_self, reduceCtorEq, hwn, hmi]) (by first | rfl | simp only [Keeps, Tm.get_cons, Nat.reduceEqDiff, ↓reduceIte, if_true, if_false, ite_true, ite_false, true_and, and_true, and_self, reduceCtorEq, hwn, hmi])
            · have hnj : n ≠ j2 := fun e => r0 (by rw [e, p2] at hky; injection hky with hky; exact hky.symm)
              have y1 : (ky.1 == t.2.2 && ky.2 == t.1) = false := by rw [Bool.eq_false_iff]; intro h; simp only [Bool.and_eq_true, beq_iff_eq] at h; exact r1 h
              have y2 : (ky.1 == t.1 && ky.2 == t.2.2) = false := by rw [Bool.eq_false_iff]; intro h; simp only [Bool.and_eq_true, beq_iff_eq] at h; exact r2 h
              have hmi : mI P.length j2 (n + 1) = mI P.length j2 n := mI_miss hnj
              refine AW.region (by decide) ?_
              simp only [push_cast, simprocAttr, hb, lk_old hb, hb0, lk_old hb0, b0, b1, tm1, tm2, tm3, tv, tt, tl, n1, n2, Nat.zero_add, List.nil_append, hKt, c1, c2, c3, g0, g1, g2, g3, gl, htk, m1, m2, e1, e2, e3, f0, hgl, y1, y2]
              refine Thn_n ?_
              refine hK _ _ ?_
              clear hK K
              refine AW.cond_f rfl ?_
              refine AW.skip ?_
              refine InB_n ?_
              refine Thn_n ?_
              refine hK _ _ ?_
              clear hK K
              refine AW.region (by decide) ?_
              simp only [push_cast, simprocAttr, hb, lk_old hb, hb0, lk_old hb0, b0, b1, tm1, tm2, tm3, tv, tt, tl, n1, n2, Nat.zero_add, List.nil_append, hKt, c1, c2, c3, g0, g1, g2, g3, gl, htk, m1, m2, e1, e2, e3, f0, hgl, y1, y2]
              refine Thn_n ?_
              have hwn : IntKind.i64.wrap ((n:Int)+1) = (n:Int)+1 := wi (by omega)
              refine ⟨n + 1, by omega, by omega, ?_⟩
              try simp only [keepL, setAll, push_cast, simprocAttr, hb, lk_old hb, hb0, lk_old hb0, b0, b1, tm1, tm2, tm3, tv, tt, tl, n1, n2, Nat.zero_add, List.nil_append, hKt, c1, c2, c3, g0, g1, g2, g3, gl, htk, m1, m2, e1, e2, e3, f0, hgl, y1, y2, hwn, hmi]
              exact Weak.same (by simp only [Keeps, Tm.get_cons, Nat.reduceEqDiff, ↓reduceIte, if_true, if_false, ite_true, ite_false, true_and, and_true, and_self, reduceCtorEq, hwn, hmi]) (by first | rfl | simp only [Keeps, Tm.get_cons, Nat.reduceEqDiff, ↓reduceIte, if_true, if_false, ite_true, ite_false, true_and, and_true, and_self, reduceCtorEq, hwn, hmi])
          · have hn0 : n = N := by have := of_decide_eq_false h92; omega
            have hn1 := hn0.symm
            subst hn1
            refine AW.exit ?_
            refine Thn_e ?_
            clear hK K
            refine Thn_e ?_
            refine InB_here ?_
            refine InB_n ?_
            refine Thn_n ?_
            refine hK _ _ ?_
            clear hK K
            refine AW.region (by decide) ?_
            simp only [push_cast, simprocAttr, hb, lk_old hb, hb0, lk_old hb0, b0, b1, tm1, tm2, tm3, tv, tt, tl, n1, n2, Nat.zero_add, List.nil_append, hKt, c1, c2, c3, g0, g1, g2, g3, gl, htk, m1, m2]
            refine Thn_n ?_
            refine hK _ _ ?_
            clear hK K
            refine ARounds.succ fun K hK => ?_
            refine AW.seq_k fun K hK => ?_
            refine AW.seq_k fun K hK => ?_
            refine AW.region (by decide) ?_
            simp only [push_cast, simprocAttr, hb, lk_old hb, hb0, lk_old hb0, b0, b1, tm1, tm2, tm3, tv, tt, tl, n1, n2, Nat.zero_add, List.nil_append, hKt, c1, c2, c3, g0, g1, g2, g3, gl, htk, m1, m2]
            refine Thn_n ?_
            refine hK _ _ ?_
            clear hK K
            refine AW.cond_f rfl ?_
            refine AW.exit ?_
            refine Thn_e ?_
            clear hK K
            refine Thn_e ?_
            clear hK K
            refine InB_here ?_
            refine Thn_n ?_
            refine hK _ _ ?_
            clear hK K
            refine AW.seq_k fun K hK => ?_
            refine AW.region (by decide) ?_
            simp only [push_cast, simprocAttr, hb, lk_old hb, hb0, lk_old hb0, b0, b1, tm1, tm2, tm3, tv, tt, tl, n1, n2, Nat.zero_add, List.nil_append, hKt, c1, c2, c3, g0, g1, g2, g3, gl, htk, m1, m2]
            refine Thn_n ?_
            refine hK _ _ ?_
            clear hK K
            refine AW.region (by decide) ?_
            simp only [push_cast, simprocAttr, hb, lk_old hb, hb0, lk_old hb0, b0, b1, tm1, tm2, tm3, tv, tt, tl, n1, n2, Nat.zero_add, List.nil_append, hKt, c1, c2, c3, g0, g1, g2, g3, gl, htk, m1, m2]
            refine InB_n ?_
            refine Thn_n ?_
            refine hK _ _ ?_
            clear hK K
            refine AW.region (by decide) ?_
            simp only [push_cast, simprocAttr, hb, lk_old hb, hb0, lk_old hb0, b0, b1, tm1, tm2, tm3, tv, tt, tl, n1, n2, Nat.zero_add, List.nil_append, hKt, c1, c2, c3, g0, g1, g2, g3, gl, htk, m1, m2]
            refine Thn_n ?_
            have hwi : IntKind.i64.wrap ((i:Int)+1) = (i:Int)+1 := wi (by omega)
            refine ⟨i + 1, by omega, by omega, ?_⟩
            try simp only [keepL, setAll, push_cast, simprocAttr, hb, lk_old hb, hb0, lk_old hb0, b0, b1, tm1, tm2, tm3, tv, tt, tl, n1, n2, Nat.zero_add, List.nil_append, hKt, c1, c2, c3, g0, g1, g2, g3, gl, htk, m1, m2, hwi, hst, h4]
            exact Weak.to (extra := [_, _, _]) (by simp only [Keeps, Tm.get_cons, Nat.reduceEqDiff, ↓reduceIte, if_true, if_false, ite_true, ite_false, true_and, and_true, and_self, reduceCtorEq, hwi, hst, h4]) (by first | rfl | (simp only [List.append_assoc, List.cons_append, List.nil_append]; rfl)) (by first | rfl | (simp [AV.below, CV.below, tL_below, pL_below, ic_below]; done) | (simp [AV.below, CV.below, tL_below, pL_below, ic_below]; omega)) (by
              first | exact hwf | refine MWf.app (hwf.grow (by simp)) ?_
              repeat (first | exact MWf_nil | (refine MWf_cons ?_ ?_; · first | rfl | (simp [CV.below, tL_below, pL_below, ic_below]; done) | (simp [CV.below, tL_below, pL_below, ic_below]; omega))))
    · have hin : i = Fs.length := by have := of_decide_eq_false h66; omega
      subst hin
      have hFt : Fs.take Fs.length = Fs := List.take_of_length_le (Nat.le_refl _)
      refine AW.exit ?_
      refine Thn_e ?_
      clear hK K
      refine Thn_e ?_
      refine InB_here ?_
      refine Thn_n ?_
      refine hK _ _ ?_
      clear hK K
      refine AW.seq_k fun K hK => ?_
      refine AW.region (by decide) ?_
      simp only [push_cast, simprocAttr, hb, lk_old hb, hb0, lk_old hb0, b0, b1, tm1, tm2, tm3, tv, tt, tl, n1, n2, Nat.zero_add, List.nil_append, hKt, hFt]
      refine CThen.by (by
        have h := fun m2 => rcheck_c (m.length + 4) (N + 1) (m.length + 6) Fs.length (P ++ ke.map (midP P)) (Fs.flatMap (finF P.length ke)) m2
        simp only [hfpl, hffl] at h
        exact h _ (by simp) ⟨.grow, 3, by simp only [push_cast, simprocAttr]⟩) ?_
      simp only [push_cast, simprocAttr, hb, lk_old hb, hb0, lk_old hb0, b0, b1, tm1, tm2, tm3, tv, tt, tl, n1, n2, Nat.zero_add, List.nil_append, hKt, hFt]
      refine Thn_n ?_
      refine hK _ _ ?_
      clear hK K
      refine AW.seq_k fun K hK => ?_
      refine AW.seq_k fun K hK => ?_
      refine AW.region (by decide) ?_
      simp only [push_cast, simprocAttr, hb, lk_old hb, hb0, lk_old hb0, b0, b1, tm1, tm2, tm3, tv, tt, tl, n1, n2, Nat.zero_add, List.nil_append, hKt, hFt]
      refine Thn_n ?_
      refine hK _ _ ?_
      clear hK K
      refine AW.cond_f rfl ?_
      refine AW.skip ?_
      refine Thn_n ?_
      refine hK _ _ ?_
      clear hK K
      refine AW.seq_k fun K hK => ?_
      refine AW.region (by decide) ?_
      simp only [push_cast, simprocAttr, hb, lk_old hb, hb0, lk_old hb0, b0, b1, tm1, tm2, tm3, tv, tt, tl, n1, n2, Nat.zero_add, List.nil_append, hKt, hFt]
      refine Thn_n ?_
      refine hK _ _ ?_
      clear hK K
      refine AW.ret ?_
      refine hQ _ _ _ ?_
      refine RetP.pick [(m.length + 4, N + 1), (m.length + 6, Fs.length)] (Or.inr rfl) ?_ ?_ ?_ hwf ?_
      · simp only [resA, resOne, resTv, AV.tv, push_cast, simprocAttr]
        simp [renV, renT, renL, renC, renIdx, hlt0]
      · simp only [picks, push_cast, simprocAttr]
      · simp [distinctFrom]
      · exact MWf_cons (tL_below _ _) (MWf_one (tL_below _ _))
theorem rfiner_c (rp vp rf vf : Nat) (P Fs : List T3) (m : AMem) (hp : rp < m.length) (hpt : TRow m 24 rp vp P) (hf : TRow m 54 rf vf Fs) (hP : P.length ≤ 40) (hF : Fs.length ≤ 60) : Ctr Try.prog 13 [.agg [.sl rp vp 0 P.length, .sl rf vf 0 Fs.length]] m (.tup [(true, [.sl m.length 0 0 (fiR P Fs).1.length, .sl (m.length + 1) 0 0 (fiR P Fs).2.1.length]), (false, [.int .i64 (fiR P Fs).2.2])]) (m ++ [⟨.grow, 24, 0, 3, tL (fiR P Fs).1⟩, ⟨.grow, 54, 0, 3, tL (fiR P Fs).2.1⟩]) := by
  by_cases hc : chk P.length Fs = 0
  · unfold fiR
    rw [if_pos hc]
    exact rfiner_ok rp vp rf vf P Fs m hp hpt hf hP hF hc
  · unfold fiR
    rw [if_neg hc]
    have h2 := ((rfiner_no rp vp rf vf P Fs m hp hpt hf hP hF hc).nil 24 3 (nil2x _ _)).nil 54 3 (nil3x _ _ _)
    simp only [List.append_assoc, List.cons_append, List.nil_append, List.length_append, List.length_cons, List.length_nil, Nat.zero_add] at h2
    exact h2
end Go.Proofs.Ytiogpaehelpmhaa

set_option linter.unusedSimpArgs false
set_option linter.unusedVariables false
set_option maxRecDepth 100000
set_option maxHeartbeats 4000000
namespace Go.Proofs.Ytiogpaehelpmhaa
open Go Go.Eng

theorem jP_eq {l k : List MI} (hl : k.length = l.length) (h : ∀ (i : Nat) (x y : MI), l[i]? = some x → k[i]? = some y → y.P = x.P ∧ y.F = x.F) : ∀ i, i ≤ l.length → jP k i = jP l i ∧ jF k i = jF l i ∧ jnE k i = jnE l i
  | 0, _ => ⟨rfl, rfl, rfl⟩
  | i + 1, hi => by
    obtain ⟨h1, h2, h3⟩ := jP_eq hl h i (by omega)
    obtain ⟨x, hx⟩ : ∃ x, l[i]? = some x := ⟨_, List.getElem?_eq_getElem (by omega)⟩
    obtain ⟨y, hy⟩ : ∃ y, k[i]? = some y := ⟨_, List.getElem?_eq_getElem (by omega)⟩
    obtain ⟨e1, e2⟩ := h i x y hx hy
    have q1 : jP k (i + 1) = jP l (i + 1) := by rw [jP_s hx, jP_s hy, h1, e1]
    have q2 : jF k (i + 1) = jF l (i + 1) := by rw [jF_s hx, jF_s hy, h1, h2, e2]
    refine ⟨q1, q2, ?_⟩
    show (if jnE k i ≠ 0 then jnE k i else match k[i]? with | some x => (if chk x.P.length x.F ≠ 0 then chk x.P.length x.F else chk (jP k (i + 1)).length (jF k (i + 1))) | none => 0) = (if jnE l i ≠ 0 then jnE l i else match l[i]? with | some x => (if chk x.P.length x.F ≠ 0 then chk x.P.length x.F else chk (jP l (i + 1)).length (jF l (i + 1))) | none => 0)
    rw [hx, hy, h3, q1, q2]
    dsimp only
    rw [e1, e2]
theorem jnR_eq {l k : List MI} (hl : k.length = l.length) (h : ∀ (i : Nat) (x y : MI), l[i]? = some x → k[i]? = some y → y.P = x.P ∧ y.F = x.F) : jnR k = jnR l := by
  obtain ⟨h1, h2, h3⟩ := jP_eq hl h l.length (Nat.le_refl _)
  unfold jnR
  rw [hl, h1, h2, h3]
structure JX where
  i : Nat
  M : AMem
  ins : List MI
/-- Behind some rounds of the copying: the copies' rows. -/
structure XI (m : AMem) (l : List MI) (box : Blk) (j : JX) : Prop where
  hi : j.i ≤ l.length
  ext : ∀ q, q < m.length → j.M[q]? = m[q]?
  len : m.length + 2 ≤ j.M.length
  hbx : j.M[m.length]? = some box
  hin : j.M[m.length + 1]? = some ⟨.grow, 37, j.i, 2, mL j.ins⟩
  hil : j.ins.length = j.i
  same : ∀ (k : Nat) (x y : MI), l[k]? = some x → j.ins[k]? = some y → y.P = x.P ∧ y.F = x.F
  rows : ∀ y, y ∈ j.ins → (m.length + 1 < y.rp ∧ m.length + 1 < y.rf ∧ y.rp ≠ y.rf) ∧ (y.vp = 0 ∧ y.vf = 0) ∧ j.M[y.rp]? = some ⟨.grow, 49, 0, 3, tL y.P⟩ ∧ j.M[y.rf]? = some ⟨.grow, 54, 0, 3, tL y.F⟩
theorem XI.put {m : AMem} {l : List MI} {box : Blk} {j : JX} (h : XI m l box j) {x : MI} (hx : l[j.i]? = some x) (b7 : Blk) (Z : AMem) :
    XI m l box ⟨j.i + 1, j.M.set (m.length + 1) ⟨.grow, 37, j.i + 1, 2, mL (j.ins ++ [⟨j.M.length + 1, 0, j.M.length + 2, 0, x.P, x.F⟩])⟩ ++ (b7 :: ⟨.grow, 49, 0, 3, tL x.P⟩ :: ⟨.grow, 54, 0, 3, tL x.F⟩ :: Z), j.ins ++ [⟨j.M.length + 1, 0, j.M.length + 2, 0, x.P, x.F⟩]⟩ := by
  have hlt := (List.getElem?_eq_some_iff.1 hx).1
  have hlen := h.len
  have hls : ∀ B : Blk, (j.M.set (m.length + 1) B).length = j.M.length := fun B => List.length_set
  refine ⟨hlt, fun q hq => ?_, ?_, ?_, ?_, ?_, ?_, ?_⟩
  · rw [List.getElem?_append_left (by rw [hls]; omega), List.getElem?_set_ne (by omega)]; exact h.ext q hq
  · rw [List.length_append, hls]; omega
  · rw [List.getElem?_append_left (by rw [hls]; omega), List.getElem?_set_ne (by omega)]; exact h.hbx
  · rw [List.getElem?_append_left (by rw [hls]; omega), List.getElem?_set_self (by omega)]
  · rw [List.length_append, h.hil]; rfl
  · intro k a b ha hb
    rcases Nat.lt_or_ge k j.ins.length with hk | hk
    · rw [List.getElem?_append_left hk] at hb; exact h.same k a b ha hb
    · rw [List.getElem?_append_right hk] at hb
      have : k = j.i := by
        have := (List.getElem?_eq_some_iff.1 hb).1
        have := h.hil
        simp at *; omega
      subst this
      rw [h.hil, Nat.sub_self] at hb
      rw [hx] at ha
      injection ha with ha; injection hb with hb
      subst ha; subst hb
      exact ⟨rfl, rfl⟩
  · intro y hy
    rcases List.mem_append.1 hy with hy | hy
    · obtain ⟨h1, h2, h3, h4⟩ := h.rows y hy
      have l3 := get_lt h3
      have l4 := get_lt h4
      refine ⟨h1, h2, ?_, ?_⟩
      · rw [List.getElem?_append_left (by rw [hls]; exact l3), List.getElem?_set_ne (by omega)]; exact h3
      · rw [List.getElem?_append_left (by rw [hls]; exact l4), List.getElem?_set_ne (by omega)]; exact h4
    · rw [List.mem_singleton] at hy
      subst hy
      refine ⟨⟨by dsimp only; omega, by dsimp only; omega, by dsimp only; omega⟩, ⟨rfl, rfl⟩, ?_, ?_⟩
      · rw [List.getElem?_append_right (by rw [hls]; dsimp only; omega), hls]; dsimp only; rw [Nat.add_sub_cancel_left]; rfl
      · rw [List.getElem?_append_right (by rw [hls]; dsimp only; omega), hls]; dsimp only; rw [Nat.add_sub_cancel_left]; rfl
/-- What the law holds ahead of the wiping: all results. -/
structure LS (m : AMem) (L : Nat) (box bin : Blk) (y : MI) (G1 G2 f1 f2 mv tn P0 F0 : List T3) (M : AMem) : Prop where
  ext : ∀ q, q < m.length → M[q]? = m[q]?
  len : L + 18 ≤ M.length
  hbx : M[m.length]? = some box
  hin : M[m.length + 1]? = some bin
  d0 : M[L]? = some ⟨.grow, 49, 0, 3, tL (G1)⟩
  d1 : M[L + 1]? = some ⟨.grow, 54, 0, 3, tL (G2)⟩
  d2 : M[L + 2]? = some ⟨.fix, 37, 0, 0, [.sl (L) 0 0 G1.length, .sl (L + 1) 0 0 G2.length]⟩
  d3 : M[L + 3]? = some ⟨.grow, 24, 0, 3, tL (G1)⟩
  d4 : M[L + 4]? = some ⟨.grow, 54, 0, 3, tL (G2)⟩
  d5 : M[L + 5]? = some ⟨.fix, 34, 0, 0, [.sl (L + 3) 0 0 G1.length, .sl (L + 4) 0 0 G2.length]⟩
  d6 : M[L + 6]? = some ⟨.grow, 49, 0, 3, tL (f1)⟩
  d7 : M[L + 7]? = some ⟨.grow, 54, 0, 3, tL (f2)⟩
  d8 : M[L + 8]? = some ⟨.fix, 37, 0, 0, [.sl (L + 6) 0 0 f1.length, .sl (L + 7) 0 0 f2.length]⟩
  d9 : M[L + 9]? = some ⟨.grow, 24, 0, 3, tL (f1)⟩
  d10 : M[L + 10]? = some ⟨.grow, 54, 0, 3, tL (f2)⟩
  d11 : M[L + 11]? = some ⟨.fix, 34, 0, 0, [.sl (L + 9) 0 0 f1.length, .sl (L + 10) 0 0 f2.length]⟩
  d12 : M[L + 12]? = some ⟨.grow, 49, 0, 3, tL (mv)⟩
  d13 : M[L + 13]? = some ⟨.grow, 54, 0, 3, tL (F0)⟩
  d14 : M[L + 14]? = some ⟨.grow, 49, 0, 3, tL (P0)⟩
  d15 : M[L + 15]? = some ⟨.grow, 54, 0, 3, tL (tn)⟩
  d16 : M[L + 16]? = some ⟨.fix, 37, 0, 0, [.sl (L + 12) 0 0 P0.length, .sl (L + 13) 0 0 F0.length]⟩
  d17 : M[L + 17]? = some ⟨.fix, 37, 0, 0, [.sl (L + 14) 0 0 P0.length, .sl (L + 15) 0 0 F0.length]⟩
structure JZ where
  i : Nat
  M : AMem
/-- Rows being wiped: all else stays. -/
structure KX (M1 : AMem) (a b na nb : Nat) (M : AMem) : Prop where
  len : M.length = M1.length
  old : ∀ q, q ≠ a → q ≠ b → M[q]? = M1[q]?
  ra : ∃ c, M[a]? = some ⟨.grow, 49, 0, 3, c⟩ ∧ c.length = na * 3
  rb : ∃ c, M[b]? = some ⟨.grow, 54, 0, 3, c⟩ ∧ c.length = nb * 3
theorem KX.seta {M1 : AMem} {a b na nb : Nat} {M : AMem} (h : KX M1 a b na nb M) (hab : a ≠ b) {c : List CV} (hc : c.length = na * 3) : KX M1 a b na nb (M.set a ⟨.grow, 49, 0, 3, c⟩) := by
  obtain ⟨c0, h1, h2⟩ := h.ra
  refine ⟨by rw [List.length_set]; exact h.len, fun q q1 q2 => by rw [List.getElem?_set_ne q1.symm]; exact h.old q q1 q2, ⟨c, by rw [List.getElem?_set_self (get_lt h1)], hc⟩, ?_⟩
  obtain ⟨c1, h3, h4⟩ := h.rb
  exact ⟨c1, by rw [List.getElem?_set_ne hab]; exact h3, h4⟩
theorem KX.setb {M1 : AMem} {a b na nb : Nat} {M : AMem} (h : KX M1 a b na nb M) (hab : a ≠ b) {c : List CV} (hc : c.length = nb * 3) : KX M1 a b na nb (M.set b ⟨.grow, 54, 0, 3, c⟩) := by
  obtain ⟨c0, h1, h2⟩ := h.rb
  obtain ⟨c1, h3, h4⟩ := h.ra
  exact ⟨by rw [List.length_set]; exact h.len, fun q q1 q2 => by rw [List.getElem?_set_ne q2.symm]; exact h.old q q1 q2, ⟨c1, by rw [List.getElem?_set_ne hab.symm]; exact h3, h4⟩, ⟨c, by rw [List.getElem?_set_self (get_lt h1)], hc⟩⟩
theorem ext_of {m M : AMem} (h : ∀ q, q < m.length → M[q]? = m[q]?) (hl : m.length ≤ M.length) : ∃ X, M = m ++ X := by
  refine ⟨M.drop m.length, List.ext_getElem? fun q => ?_⟩
  rcases Nat.lt_or_ge q m.length with hq | hq
  · rw [List.getElem?_append_left hq]; exact h q hq
  · rw [List.getElem?_append_right hq, List.getElem?_drop]
    congr 1; omega
theorem ltB_of {l : List MI} (h : ltB l = true) : l.length ≤ 10 ∧ ∀ x, x ∈ l → x.P.length ≤ 40 ∧ x.F.length ≤ 60 := by
  unfold ltB at h
  rw [Bool.and_eq_true, List.all_eq_true] at h
  refine ⟨by simpa using h.2, fun x hx => ?_⟩
  have := h.1 x hx
  simpa using this
theorem turns_a (r v : Nat) (l : List MI) (x0 x1 x2 y0 y1 y2 z0 z1 z2 t0 t1 t2 : Int) (m : AMem) (hrow : ∃ k e, m[r]? = some ⟨k, 34, v, e, mL l⟩) (hl : ∀ x, x ∈ l → MAt m 24 x) (hn : l.length ≤ 1048576) (h1 : ltB l = false) : Ctr Try.prog 3 [.one (.sl r v 0 l.length), .agg [.int .i64 (x0), .int .i64 (x1), .int .i64 (x2), .int .i64 (y0), .int .i64 (y1), .int .i64 (y2), .int .i64 (z0), .int .i64 (z1), .int .i64 (z2), .int .i64 (t0), .int .i64 (t1), .int .i64 (t2)]] m (.one (.bool true)) m := by
  refine Ctr.enter Try.func3 rfl (by decide) (rs := [.tmp 4]) (nt := 161) rfl rfl fun hwf Q hQ => ?_
  obtain ⟨k0, e0, hb⟩ := hrow
  have hrl := get_lt hb
  
  refine AW.seq_k fun K hK => ?_
  refine AW.region (by decide) ?_
  simp only [push_cast, simprocAttr, hb, lk_old hb, h1]
  refine Thn_n ?_
  refine hK _ _ ?_
  clear hK K
  refine AW.seq_k fun K hK => ?_
  refine AW.seq_k fun K hK => ?_
  refine AW.region (by decide) ?_
  simp only [push_cast, simprocAttr, hb, lk_old hb, h1]
  refine CThen.by (light_c r v l _ ⟨_, _, lk_old hb _⟩ hn) ?_
  simp only [push_cast, simprocAttr, hb, lk_old hb, h1]
  refine Thn_n ?_
  refine hK _ _ ?_
  clear hK K
  refine AW.cond_t rfl ?_
  refine AW.seq_k fun K hK => ?_
  refine AW.region (by decide) ?_
  simp only [push_cast, simprocAttr, hb, lk_old hb, h1]
  refine CThen.by (awakeL_c _) ?_
  simp only [push_cast, simprocAttr, hb, lk_old hb, h1]
  refine Thn_n ?_
  refine hK _ _ ?_
  clear hK K
  refine AW.ret ?_
  refine Thn_r ?_
  refine hQ _ _ _ ?_
  first | refine RetP.drop0 (Or.inr rfl) ?_ ?_ hwf | refine RetP.drop (Or.inr rfl) ?_ ?_ hwf
  · simp only [resA, resOne, resTv, AV.tv, push_cast, simprocAttr, hb, lk_old hb, h1]
  · rfl
theorem turns_b (r v : Nat) (l : List MI) (x0 x1 x2 y0 y1 y2 z0 z1 z2 t0 t1 t2 : Int) (m : AMem) (hrow : ∃ k e, m[r]? = some ⟨k, 34, v, e, mL l⟩) (hl : ∀ x, x ∈ l → MAt m 24 x) (hn : l.length ≤ 1048576) (h1 : ltB l = true) (h2 : l.length = 0) : Ctr Try.prog 3 [.one (.sl r v 0 l.length), .agg [.int .i64 (x0), .int .i64 (x1), .int .i64 (x2), .int .i64 (y0), .int .i64 (y1), .int .i64 (y2), .int .i64 (z0), .int .i64 (z1), .int .i64 (z2), .int .i64 (t0), .int .i64 (t1), .int .i64 (t2)]] m (.one (.bool true)) m := by
  refine Ctr.enter Try.func3 rfl (by decide) (rs := [.tmp 4]) (nt := 161) rfl rfl fun hwf Q hQ => ?_
  obtain ⟨k0, e0, hb⟩ := hrow
  have hrl := get_lt hb
  have h3 : ((l.length : Nat) : Int) = 0 := by omega
  refine AW.seq_k fun K hK => ?_
  refine AW.region (by decide) ?_
  simp only [push_cast, simprocAttr, hb, lk_old hb, h1, h3]
  refine Thn_n ?_
  refine hK _ _ ?_
  clear hK K
  refine AW.seq_k fun K hK => ?_
  refine AW.seq_k fun K hK => ?_
  refine AW.region (by decide) ?_
  simp only [push_cast, simprocAttr, hb, lk_old hb, h1, h3]
  refine CThen.by (light_c r v l _ ⟨_, _, lk_old hb _⟩ hn) ?_
  simp only [push_cast, simprocAttr, hb, lk_old hb, h1, h3]
  refine Thn_n ?_
  refine hK _ _ ?_
  clear hK K
  refine AW.cond_t rfl ?_
  refine AW.seq_k fun K hK => ?_
  refine AW.region (by decide) ?_
  simp only [push_cast, simprocAttr, hb, lk_old hb, h1, h3]
  refine CThen.by (awakeL_c _) ?_
  simp only [push_cast, simprocAttr, hb, lk_old hb, h1, h3]
  refine Thn_n ?_
  refine hK _ _ ?_
  clear hK K
  refine AW.ret ?_
  refine Thn_r ?_
  refine hQ _ _ _ ?_
  first | refine RetP.drop0 (Or.inr rfl) ?_ ?_ hwf | refine RetP.drop (Or.inr rfl) ?_ ?_ hwf
  · simp only [resA, resOne, resTv, AV.tv, push_cast, simprocAttr, hb, lk_old hb, h1, h3]
  · rfl
theorem turns_c0 (r v : Nat) (l : List MI) (x0 x1 x2 y0 y1 y2 z0 z1 z2 t0 t1 t2 : Int) (m : AMem) (hrow : ∃ k e, m[r]? = some ⟨k, 34, v, e, mL l⟩) (hl : ∀ x, x ∈ l → MAt m 24 x) (hn : l.length ≤ 1048576) (h1 : ltB l = true) (h2 : 0 < l.length) : Ctr Try.prog 3 [.one (.sl r v 0 l.length), .agg [.int .i64 (x0), .int .i64 (x1), .int .i64 (x2), .int .i64 (y0), .int .i64 (y1), .int .i64 (y2), .int .i64 (z0), .int .i64 (z1), .int .i64 (z2), .int .i64 (t0), .int .i64 (t1), .int .i64 (t2)]] m (.one (.bool true)) m := by
  refine Ctr.enter Try.func3 rfl (by decide) (rs := [.tmp 4]) (nt := 161) rfl rfl fun hwf Q hQ => ?_
  obtain ⟨k0, e0, hb⟩ := hrow
  have hrl := get_lt hb
  obtain ⟨hl10, hsm⟩ := ltB_of h1
  have h3 : ((l.length : Nat) : Int) ≠ 0 := by omega
  have h4 : (((l.length : Nat) : Int) == 0) = false := by rw [beq_eq_false_iff_ne]; exact h3
  have hlt0 : ∀ k, ¬ m.length + k < m.length := fun k => by omega
  
  refine AW.seq_k fun K hK => ?_
  refine AW.region (by decide) ?_
  simp only [push_cast, simprocAttr, hb, lk_old hb, h1, h4]
  refine Thn_n ?_
  refine hK _ _ ?_
  clear hK K
  refine AW.seq_k fun K hK => ?_
  refine AW.seq_k fun K hK => ?_
  refine AW.region (by decide) ?_
  simp only [push_cast, simprocAttr, hb, lk_old hb, h1, h4]
  refine CThen.by (light_c r v l _ ⟨_, _, lk_old hb _⟩ hn) ?_
  simp only [push_cast, simprocAttr, hb, lk_old hb, h1, h4]
  refine Thn_n ?_
  refine hK _ _ ?_
  clear hK K
  refine AW.cond_f rfl ?_
  refine AW.skip ?_
  refine Thn_n ?_
  refine hK _ _ ?_
  clear hK K
  refine AW.seq_k fun K hK => ?_
  refine AW.region (by decide) ?_
  simp only [push_cast, simprocAttr, hb, lk_old hb, h1, h4]
  refine Thn_n ?_
  refine hK _ _ ?_
  clear hK K
  refine AW.seq_k fun K hK => ?_
  refine AW.seq_k fun K hK => ?_
  refine AW.region (by decide) ?_
  simp only [push_cast, simprocAttr, hb, lk_old hb, h1, h4]
  refine Thn_n ?_
  refine hK _ _ ?_
  clear hK K
  refine AW.block ?_
  refine AW.nilTm 37 2 5 rfl ?_
  try simp only [push_cast, simprocAttr, hb, lk_old hb, h1, h4]
  refine AW.loopX [0, 3, 29, 30] (fun (j : JX) => XI m l ⟨.fix, 27, 0, 0, [.int .i64 x0, .int .i64 x1, .int .i64 x2, .int .i64 y0, .int .i64 y1, .int .i64 y2, .int .i64 z0, .int .i64 z1, .int .i64 z2, .int .i64 t0, .int .i64 t1, .int .i64 t2]⟩ j) (fun (j : JX) => [(5, .one (.sl (m.length + 1) j.i 0 j.i)), (31, .one (.int .i64 (j.i : Int)))]) (fun (j : JX) => j.M) (fun (j : JX) => l.length - j.i) ⟨0, m ++ [⟨.fix, 27, 0, 0, [.int .i64 x0, .int .i64 x1, .int .i64 x2, .int .i64 y0, .int .i64 y1, .int .i64 y2, .int .i64 z0, .int .i64 z1, .int .i64 z2, .int .i64 t0, .int .i64 t1, .int .i64 t2]⟩, ⟨.grow, 37, 0, 2, mL []⟩], []⟩ (⟨Nat.zero_le _, fun q hq => List.getElem?_append_left hq, by simp, by simp, by simp, rfl, fun k x y _ h => by simp at h, fun y h => by simp at h⟩) ?_ ?_ (fun j hj => by have := hj.len; simp; omega) fun j hi7 => ?_
  · first | rfl | (simp only [Keeps, Tm.get_cons, Nat.reduceEqDiff, ↓reduceIte, if_true, if_false, ite_true, ite_false, true_and, and_true, and_self, reduceCtorEq, Int.natCast_zero] <;> rfl)
  · rfl
  obtain ⟨ji, M, ins⟩ := j
  have hj := hi7
  have hin := hj.hin
  have hbx := hj.hbx
  have hjl := hj.len
  have hji := hj.hi
  have hjil := hj.hil
  dsimp only at hin hbx hjl hji hjil ⊢
  have hrM : M[r]? = some ⟨k0, 34, v, e0, mL l⟩ := (hj.ext r hrl).trans hb
  try simp only [keepL, setAll, push_cast, simprocAttr, hb, lk_old hb, h1, h4, hin, lk_old hin, hbx, lk_old hbx, hrM, lk_old hrM]
  refine AW.seq_k fun K hK => ?_
  refine AW.region (by decide) ?_
  simp only [push_cast, simprocAttr, hb, lk_old hb, h1, h4, hin, lk_old hin, hbx, lk_old hbx, hrM, lk_old hrM]
  refine Thn_n ?_
  refine hK _ _ ?_
  clear hK K
  refine AW.seq_k fun K hK => ?_
  refine AW.cond rfl (fun h32 => ?_) (fun h32 => ?_)
  · have hlt : ji < l.length := by have := of_decide_eq_true h32; omega
    have c1 : (0 : Int) ≤ (ji : Int) := by omega
    have c2 : (ji : Int) < (l.length : Nat) := by omega
    have c3 : ji * 2 + 2 ≤ l.length * 2 := by omega
    have hwi : IntKind.i64.wrap ((ji : Int) + 1) = (ji : Int) + 1 := wi (by omega)
    obtain ⟨x, hx⟩ : ∃ x, l[ji]? = some x := ⟨_, List.getElem?_eq_getElem hlt⟩
    have g0 := mL_at hx
    have gl := mL_len l
    have gil := mL_len ins
    rw [hjil] at gil
    obtain ⟨hx1, hx2, hx3, hx4⟩ := hl x (List.mem_of_getElem? hx)
    obtain ⟨hx5, hx6⟩ := hsm x (List.mem_of_getElem? hx)
    obtain ⟨kp, ep, hbp⟩ := hx3.hb
    obtain ⟨kf, ef, hbf⟩ := hx4.hb
    have q3 : TRow M 24 x.rp x.vp x.P := ⟨kp, ep, (hj.ext _ hx1).trans hbp⟩
    have q4 : TRow M 54 x.rf x.vf x.F := ⟨kf, ef, (hj.ext _ hx2).trans hbf⟩
    have n1 : ji ≤ 140737488355327 := by omega
    have n2 : (ji + 1) * 48 ≤ 140737488355328 := by omega
    have hs2 : ∀ (z : AMem) (b : Blk), (M ++ z).set (m.length + 1) b = M.set (m.length + 1) b ++ z := fun z b => List.set_append_left _ _ (by omega)
    refine AW.skip ?_
    refine Thn_n ?_
    refine hK _ _ ?_
    clear hK K
    refine AW.seq_k fun K hK => ?_
    refine AW.block ?_
    refine AW.seq_k fun K hK => ?_
    refine AW.region (by decide) ?_
    simp only [push_cast, simprocAttr, hb, lk_old hb, h1, h4, hin, lk_old hin, hbx, lk_old hbx, hrM, lk_old hrM, c1, c2, c3, g0, gl, gil, n1, n2, hs2, List.nil_append]
    refine Thn_n ?_
    refine hK _ _ ?_
    clear hK K
    refine AW.region (by decide) ?_
    simp only [push_cast, simprocAttr, hb, lk_old hb, h1, h4, hin, lk_old hin, hbx, lk_old hbx, hrM, lk_old hrM, c1, c2, c3, g0, gl, gil, n1, n2, hs2, List.nil_append]
    refine CThen.by (to33_c _ _ _ _ x.P x.F _ (by first | omega | (simp; omega)) (q3.mono _) (q4.mono _) (by omega) (by omega)) ?_
    simp only [push_cast, simprocAttr, hb, lk_old hb, h1, h4, hin, lk_old hin, hbx, lk_old hbx, hrM, lk_old hrM, c1, c2, c3, g0, gl, gil, n1, n2, hs2, List.nil_append]
    refine InB_n ?_
    refine Thn_n ?_
    refine hK _ _ ?_
    clear hK K
    refine AW.region (by decide) ?_
    simp only [push_cast, simprocAttr, hb, lk_old hb, h1, h4, hin, lk_old hin, hbx, lk_old hbx, hrM, lk_old hrM, c1, c2, c3, g0, gl, gil, n1, n2, hs2, List.nil_append]
    refine Thn_n ?_
    try simp only [keepL, setAll, push_cast, simprocAttr, hb, lk_old hb, h1, h4, hin, lk_old hin, hbx, lk_old hbx, hrM, lk_old hrM, c1, c2, c3, g0, gl, gil, n1, n2, hs2, List.nil_append]
    have hs := hj.put hx (⟨.fix, 34, 0, 0, [.sl x.rp x.vp 0 x.P.length, .sl x.rf x.vf 0 x.F.length]⟩) [⟨.grow, 37, 0, 2, [.sl (M.length + 1) 0 0 x.P.length, .sl (M.length + 2) 0 0 x.F.length]⟩]
    refine ⟨_, hs, (by show l.length - (ji + 1) < l.length - ji; omega), Weak.same (by simp only [Keeps, Tm.get_cons, Nat.reduceEqDiff, ↓reduceIte, if_true, if_false, ite_true, ite_false, true_and, and_true, and_self, reduceCtorEq, Int.natCast_add, Int.cast_ofNat_Int, Int.natCast_one, hwi]) ?_⟩
    rw [← mL_snoc]
  · have hin0 : ji = l.length := by have := of_decide_eq_false h32; omega
    subst hin0
    obtain ⟨s0, hx0⟩ : ∃ x, l[0]? = some x := ⟨_, List.getElem?_eq_getElem (by omega)⟩
    obtain ⟨y, hy⟩ : ∃ y, ins[0]? = some y := ⟨_, List.getElem?_eq_getElem (by omega)⟩
    obtain ⟨hyP, hyF⟩ := hj.same 0 s0 y hx0 hy
    obtain ⟨⟨hy1, hy2, hyne⟩, ⟨hy3, hy4⟩, hya0, hyb0⟩ := hj.rows y (List.mem_of_getElem? hy)
    dsimp only at hya0 hyb0
    have hyl1 := get_lt hya0
    have hyl2 := get_lt hyb0
    obtain ⟨b1, b2⟩ := hsm s0 (List.mem_of_getElem? hx0)
    obtain ⟨hx1, hx2, hx3, hx4⟩ := hl s0 (List.mem_of_getElem? hx0)
    obtain ⟨kp, ep, hbp⟩ := hx3.hb
    obtain ⟨kf, ef, hbf⟩ := hx4.hb
    have g0 := mL_at hx0
    have g00 := mL_at hy
    have gl := mL_len l
    have gil := mL_len ins
    rw [hjil] at gil
    rw [hy3, hy4] at g00
    rw [Nat.zero_mul, List.drop_zero] at g0 g00
    have ggy0 := mL_get0 hy
    have ggy1 := mL_get1 hy
    rw [hy3] at ggy0
    rw [hy4] at ggy1
    rw [Nat.zero_mul] at ggy0
    rw [Nat.zero_mul, Nat.zero_add] at ggy1
    have c0 : (0 : Int) < (l.length : Nat) := by omega
    have c3 : 2 ≤ l.length * 2 := by omega
    have hMat : ∀ w, w ∈ ins → MAt M 49 w := fun w hw => by
      obtain ⟨_, ⟨h3, h4⟩, h5, h6⟩ := hj.rows w hw
      exact ⟨get_lt h5, get_lt h6, ⟨.grow, 3, by rw [h3]; exact h5⟩, ⟨.grow, 3, by rw [h4]; exact h6⟩⟩
    have hMl : ∀ w, w ∈ l → MAt M 24 w := fun w hw => by
      obtain ⟨h1, h2, ⟨⟨k1, e1, h3⟩⟩, ⟨⟨k2, e2, h4⟩⟩⟩ := hl w hw
      exact ⟨by omega, by omega, ⟨k1, e1, (hj.ext _ h1).trans h3⟩, ⟨k2, e2, (hj.ext _ h2).trans h4⟩⟩
    have hjn : jnR ins = jnR l := jnR_eq hjil hj.same
    obtain ⟨G, hG⟩ : ∃ G, G = jnR l := ⟨_, rfl⟩
    obtain ⟨G1, G2, ge⟩ := G
    obtain ⟨f, hf⟩ : ∃ f, f = fiR y.P y.F := ⟨_, rfl⟩
    obtain ⟨f1, f2, fe⟩ := f
    have hff : fiR s0.P s0.F = (f1, f2, fe) := by rw [hf, hyP, hyF]
    have k1 : ∀ M' : AMem, (∃ k e, M'[m.length + 1]? = some ⟨k, 37, l.length, e, mL ins⟩) → (∀ w, w ∈ ins → MAt M' 49 w) → Ctr Try.prog 10 [.one (.sl (m.length + 1) l.length 0 l.length)] M' (.tup [(true, [.sl M'.length 0 0 G1.length, .sl (M'.length + 1) 0 0 G2.length]), (false, [.int .i64 ge])]) (M' ++ [⟨.grow, 49, 0, 3, tL (G1)⟩, ⟨.grow, 54, 0, 3, tL (G2)⟩]) := fun M' q1 q2 => by
      have := join_c (m.length + 1) l.length ins M' q1 q2 (by omega)
      rw [hjn, ← hG, hjil] at this; exact this
    have k2 : ∀ M' : AMem, (∃ k e, M'[r]? = some ⟨k, 34, v, e, mL l⟩) → (∀ w, w ∈ l → MAt M' 24 w) → Ctr Try.prog 11 [.one (.sl r v 0 l.length)] M' (.tup [(true, [.sl M'.length 0 0 G1.length, .sl (M'.length + 1) 0 0 G2.length]), (false, [.int .i64 ge])]) (M' ++ [⟨.grow, 24, 0, 3, tL (G1)⟩, ⟨.grow, 54, 0, 3, tL (G2)⟩]) := fun M' q1 q2 => by
      have := rjoin_c r v l M' q1 q2 (by omega)
      rw [← hG] at this; exact this
    have k3 : ∀ M' : AMem, y.rp < M'.length → TRow M' 49 y.rp 0 y.P → TRow M' 54 y.rf 0 y.F → Ctr Try.prog 12 [.agg [.sl y.rp 0 0 y.P.length, .sl y.rf 0 0 y.F.length]] M' (.tup [(true, [.sl M'.length 0 0 f1.length, .sl (M'.length + 1) 0 0 f2.length]), (false, [.int .i64 fe])]) (M' ++ [⟨.grow, 49, 0, 3, tL (f1)⟩, ⟨.grow, 54, 0, 3, tL (f2)⟩]) := fun M' q1 q2 q3 => by
      have := finer_c y.rp 0 y.rf 0 y.P y.F M' q1 q2 q3 (by rw [hyP]; omega) (by rw [hyF]; omega)
      rw [← hf] at this; exact this
    have k4 : ∀ M' : AMem, s0.rp < M'.length → TRow M' 24 s0.rp s0.vp s0.P → TRow M' 54 s0.rf s0.vf s0.F → Ctr Try.prog 13 [.agg [.sl s0.rp s0.vp 0 s0.P.length, .sl s0.rf s0.vf 0 s0.F.length]] M' (.tup [(true, [.sl M'.length 0 0 f1.length, .sl (M'.length + 1) 0 0 f2.length]), (false, [.int .i64 fe])]) (M' ++ [⟨.grow, 24, 0, 3, tL (f1)⟩, ⟨.grow, 54, 0, 3, tL (f2)⟩]) := fun M' q1 q2 q3 => by
      have := rfiner_c s0.rp s0.vp s0.rf s0.vf s0.P s0.F M' q1 q2 q3 (by omega) (by omega)
      rw [hff] at this; exact this
    have zz3 : TRow M 49 y.rp 0 y.P := ⟨.grow, 3, hya0⟩
    have zz4 : TRow M 54 y.rf 0 y.F := ⟨.grow, 3, hyb0⟩
    have zz1 : TRow M 24 s0.rp s0.vp s0.P := ⟨kp, ep, (hj.ext _ hx1).trans hbp⟩
    have zz2 : TRow M 54 s0.rf s0.vf s0.F := ⟨kf, ef, (hj.ext _ hx2).trans hbf⟩
    have cG := jn_chk (l := l)
    rw [← hG] at cG
    dsimp only at cG
    have cG2 := chk_len cG
    have cf2 : f1.length ≤ 4096 ∧ f2.length ≤ 4096 := by
      unfold fiR at hff
      split at hff
      · injection hff with q1 q2; injection q2 with q2 q3
        rw [← q1, ← q2, fnP_len, fnF_len]
        have := tally_len s0.F s0.F.length
        unfold tlF
        omega
      · injection hff with q1 q2; injection q2 with q2 q3
        rw [← q1, ← q2]; simp
    refine AW.exit ?_
    refine Thn_e ?_
    clear hK K
    refine Thn_e ?_
    refine InB_here ?_
    refine Thn_n ?_
    refine hK _ _ ?_
    clear hK K
    refine AW.seq_k fun K hK => ?_
    refine AW.region (by decide) ?_
    simp only [push_cast, simprocAttr, hb, lk_old hb, h1, h4, hin, lk_old hin, hbx, lk_old hbx, hrM, lk_old hrM, g0, g00, ggy0, ggy1, gl, gil, c0, c3, Int.le_refl]
    refine CThen.by (k1 _ ⟨_, _, by first | exact hin | exact lk_old hin _⟩ (fun w hw => by first | exact hMat w hw | exact (hMat w hw).mono _)) ?_
    simp only [push_cast, simprocAttr, hb, lk_old hb, h1, h4, hin, lk_old hin, hbx, lk_old hbx, hrM, lk_old hrM, g0, g00, ggy0, ggy1, gl, gil, c0, c3, Int.le_refl]
    refine Thn_n ?_
    refine hK _ _ ?_
    clear hK K
    refine AW.seq_k fun K hK => ?_
    refine AW.region (by decide) ?_
    simp only [push_cast, simprocAttr, hb, lk_old hb, h1, h4, hin, lk_old hin, hbx, lk_old hbx, hrM, lk_old hrM, g0, g00, ggy0, ggy1, gl, gil, c0, c3, Int.le_refl]
    refine CThen.by (k2 _ ⟨_, _, by first | exact hrM | exact lk_old hrM _⟩ (fun w hw => (hMl w hw).mono _)) ?_
    simp only [push_cast, simprocAttr, hb, lk_old hb, h1, h4, hin, lk_old hin, hbx, lk_old hbx, hrM, lk_old hrM, g0, g00, ggy0, ggy1, gl, gil, c0, c3, Int.le_refl]
    refine Thn_n ?_
    refine hK _ _ ?_
    clear hK K
    refine AW.seq_k fun K hK => ?_
    refine AW.region (by decide) ?_
    simp only [push_cast, simprocAttr, hb, lk_old hb, h1, h4, hin, lk_old hin, hbx, lk_old hbx, hrM, lk_old hrM, g0, g00, ggy0, ggy1, gl, gil, c0, c3, Int.le_refl]
    refine CThen.by (k3 _ (by first | omega | (simp; omega)) (zz3.mono _) (zz4.mono _)) ?_
    simp only [push_cast, simprocAttr, hb, lk_old hb, h1, h4, hin, lk_old hin, hbx, lk_old hbx, hrM, lk_old hrM, g0, g00, ggy0, ggy1, gl, gil, c0, c3, Int.le_refl]
    refine Thn_n ?_
    refine hK _ _ ?_
    clear hK K
    refine AW.seq_k fun K hK => ?_
    refine AW.region (by decide) ?_
    simp only [push_cast, simprocAttr, hb, lk_old hb, h1, h4, hin, lk_old hin, hbx, lk_old hbx, hrM, lk_old hrM, g0, g00, ggy0, ggy1, gl, gil, c0, c3, Int.le_refl]
    refine CThen.by (k4 _ (by first | omega | (simp; omega)) (zz1.mono _) (zz2.mono _)) ?_
    simp only [push_cast, simprocAttr, hb, lk_old hb, h1, h4, hin, lk_old hin, hbx, lk_old hbx, hrM, lk_old hrM, g0, g00, ggy0, ggy1, gl, gil, c0, c3, Int.le_refl]
    refine Thn_n ?_
    refine hK _ _ ?_
    clear hK K
    refine AW.seq_k fun K hK => ?_
    refine AW.draw [.val, .val, .rd 0, .rd 0, .ext, .ext, .val, .val, .rd 0, .ext, .fl, .fl, .wr, .wr] fol (by decide) (by kernel_rfl) ?_
    simp only [push_cast, simprocAttr, hb, lk_old hb, h1, h4, hin, lk_old hin, hbx, lk_old hbx, hrM, lk_old hrM, g0, g00, ggy0, ggy1, gl, gil, c0, c3, Int.le_refl]
    refine DCall.by0 (toMat_c _ _ _ _ _ _ _ _ _ _ _ _ _ ) ?_
    simp only [push_cast, simprocAttr, hb, lk_old hb, h1, h4, hin, lk_old hin, hbx, lk_old hbx, hrM, lk_old hrM, g0, g00, ggy0, ggy1, gl, gil, c0, c3, Int.le_refl]
    refine DCall.by (moved_c y.rp 0 y.rf 0 y.P y.F x0 x1 x2 y0 y1 y2 z0 z1 z2 t0 t1 t2 _ (by first | omega | (simp; omega)) (zz3.mono _) (zz4.mono _) (by rw [hyP]; omega) (by rw [hyF]; omega)) ?_
    simp only [push_cast, simprocAttr, hb, lk_old hb, h1, h4, hin, lk_old hin, hbx, lk_old hbx, hrM, lk_old hrM, g0, g00, ggy0, ggy1, gl, gil, c0, c3, Int.le_refl]
    refine DCall.by (turned_c y.rp 0 y.rf 0 y.P y.F _ (by first | omega | (simp; omega)) (zz3.mono _) (zz4.mono _) (by rw [hyP]; omega) (by rw [hyF]; omega)) ?_
    simp only [push_cast, simprocAttr, hb, lk_old hb, h1, h4, hin, lk_old hin, hbx, lk_old hbx, hrM, lk_old hrM, g0, g00, ggy0, ggy1, gl, gil, c0, c3, Int.le_refl]
    refine Thn_n ?_
    refine hK _ _ ?_
    clear hK K
    refine AW.seq_k fun K hK => ?_
    refine AW.seq_k fun K hK => ?_
    refine AW.anyMem (fun M1 => LS m M.length ⟨.fix, 27, 0, 0, [.int .i64 x0, .int .i64 x1, .int .i64 x2, .int .i64 y0, .int .i64 y1, .int .i64 y2, .int .i64 z0, .int .i64 z1, .int .i64 z2, .int .i64 t0, .int .i64 t1, .int .i64 t2]⟩ ⟨.grow, 37, l.length, 2, mL ins⟩ y G1 G2 f1 f2 (y.P.map (ptM x0 x1 x2 y0 y1 y2 z0 z1 z2 t0 t1 t2)) (y.F.map trF) y.P y.F M1 ∧ M1[y.rp]? = some ⟨.grow, 49, 0, 3, tL (y.P)⟩ ∧ M1[y.rf]? = some ⟨.grow, 54, 0, 3, tL (y.F)⟩) ⟨⟨fun q hq => ?_, by simp, by first | exact lk_old hbx _, by first | exact lk_old hin _, by simp, by simp, by simp, by simp, by simp, by simp, by simp, by simp, by simp, by simp, by simp, by simp, by simp, by simp, by simp, by simp, by simp, by simp⟩, lk_old hya0 _, lk_old hyb0 _⟩ (fun M1 hM1 => ?_)
    · rw [List.getElem?_append_left (by omega)]; exact hj.ext q hq
    obtain ⟨hS, hya, hyb⟩ := hM1
    have hin1 := hS.hin
    have hbx1 := hS.hbx
    have hl1 := hS.len
    refine AW.region (by decide) ?_
    skip
    simp only [push_cast, simprocAttr, hb, lk_old hb, h1, h4, hin, lk_old hin, hbx, lk_old hbx, hrM, lk_old hrM, g0, g00, ggy0, ggy1, gl, gil, c0, c3, Int.le_refl, hin1, hbx1]
    refine Thn_n ?_
    refine hK _ _ ?_
    clear hK K
    refine AW.block ?_
    refine AW.loopX [0, 3, 5, 8, 9, 10, 11, 12, 13, 14, 15, 16, 17, 79] (fun (z : JZ) => z.i ≤ y.P.length ∧ KX M1 y.rp y.rf y.P.length y.F.length z.M) (fun (z : JZ) => [(80, .one (.int .i64 (z.i : Int)))]) (fun (z : JZ) => z.M) (fun (z : JZ) => y.P.length - z.i) ⟨0, M1⟩ ⟨Nat.zero_le _, rfl, fun q _ _ => rfl, ⟨_, hya, by rw [tL_len]⟩, ⟨_, hyb, by rw [tL_len]⟩⟩ ?_ ?_ (fun z hz => by have := hz.2.len; omega) fun z hi19 => ?_
    · first | rfl | (simp only [Keeps, Tm.get_cons, Nat.reduceEqDiff, ↓reduceIte, if_true, if_false, ite_true, ite_false, true_and, and_true, and_self, reduceCtorEq, Int.natCast_zero] <;> rfl)
    · rfl
    obtain ⟨zi, Mz⟩ := z
    obtain ⟨hzi, hz⟩ := hi19
    dsimp only at hzi hz ⊢
    have zin := (hz.old (m.length + 1) (by omega) (by omega)).trans hin1
    obtain ⟨cz, zra, zrl⟩ := hz.ra
    try simp only [keepL, setAll, push_cast, simprocAttr, hb, lk_old hb, h1, h4, hin, lk_old hin, hbx, lk_old hbx, hrM, lk_old hrM, g0, g00, ggy0, ggy1, gl, gil, c0, c3, Int.le_refl, hin1, hbx1, zin, zra, zrl]
    refine AW.seq_k fun K hK => ?_
    refine AW.region (by decide) ?_
    simp only [push_cast, simprocAttr, hb, lk_old hb, h1, h4, hin, lk_old hin, hbx, lk_old hbx, hrM, lk_old hrM, g0, g00, ggy0, ggy1, gl, gil, c0, c3, Int.le_refl, hin1, hbx1, zin, zra, zrl]
    refine Thn_n ?_
    refine hK _ _ ?_
    clear hK K
    refine AW.seq_k fun K hK => ?_
    refine AW.cond rfl (fun h81 => ?_) (fun h81 => ?_)
    · have hzl : zi < y.P.length := by have := of_decide_eq_true h81; omega
      have e1 : (0 : Int) ≤ (zi : Int) := by omega
      have e2 : (zi : Int) < (y.P.length : Nat) := by omega
      have e3 : zi * 3 + 3 ≤ y.P.length * 3 := by omega
      have hwz : IntKind.i64.wrap ((zi : Int) + 1) = (zi : Int) + 1 := wi (by rw [hyP] at hzl; omega)
      refine AW.skip ?_
      refine Thn_n ?_
      refine hK _ _ ?_
      clear hK K
      refine AW.seq_k fun K hK => ?_
      refine AW.block ?_
      refine AW.seq_k fun K hK => ?_
      refine AW.region (by decide) ?_
      simp only [push_cast, simprocAttr, hb, lk_old hb, h1, h4, hin, lk_old hin, hbx, lk_old hbx, hrM, lk_old hrM, g0, g00, ggy0, ggy1, gl, gil, c0, c3, Int.le_refl, hin1, hbx1, zin, zra, zrl, e1, e2, e3]
      refine Thn_n ?_
      refine hK _ _ ?_
      clear hK K
      refine AW.region (by decide) ?_
      simp only [push_cast, simprocAttr, hb, lk_old hb, h1, h4, hin, lk_old hin, hbx, lk_old hbx, hrM, lk_old hrM, g0, g00, ggy0, ggy1, gl, gil, c0, c3, Int.le_refl, hin1, hbx1, zin, zra, zrl, e1, e2, e3]
      refine InB_n ?_
      refine Thn_n ?_
      refine hK _ _ ?_
      clear hK K
      refine AW.region (by decide) ?_
      simp only [push_cast, simprocAttr, hb, lk_old hb, h1, h4, hin, lk_old hin, hbx, lk_old hbx, hrM, lk_old hrM, g0, g00, ggy0, ggy1, gl, gil, c0, c3, Int.le_refl, hin1, hbx1, zin, zra, zrl, e1, e2, e3]
      refine Thn_n ?_
      try simp only [keepL, setAll, push_cast, simprocAttr, hb, lk_old hb, h1, h4, hin, lk_old hin, hbx, lk_old hbx, hrM, lk_old hrM, g0, g00, ggy0, ggy1, gl, gil, c0, c3, Int.le_refl, hin1, hbx1, zin, zra, zrl, e1, e2, e3]
      refine ⟨⟨zi + 1, _⟩, ⟨by show zi + 1 ≤ _; omega, hz.seta hyne (by simp only [setL, List.length_set]; exact zrl)⟩, by show y.P.length - (zi + 1) < y.P.length - zi; omega, Weak.same (by simp only [Keeps, Tm.get_cons, Nat.reduceEqDiff, ↓reduceIte, if_true, if_false, ite_true, ite_false, true_and, and_true, and_self, reduceCtorEq, Int.natCast_add, Int.cast_ofNat_Int, Int.natCast_one, hwz]) rfl⟩
    · refine AW.exit ?_
      refine Thn_e ?_
      clear hK K
      refine Thn_e ?_
      refine InB_here ?_
      refine Thn_n ?_
      refine hK _ _ ?_
      clear hK K
      refine AW.seq_k fun K hK => ?_
      refine AW.seq_k fun K hK => ?_
      refine AW.region (by decide) ?_
      simp only [push_cast, simprocAttr, hb, lk_old hb, h1, h4, hin, lk_old hin, hbx, lk_old hbx, hrM, lk_old hrM, g0, g00, ggy0, ggy1, gl, gil, c0, c3, Int.le_refl, hin1, hbx1, zin, zra, zrl]
      refine Thn_n ?_
      refine hK _ _ ?_
      clear hK K
      refine AW.block ?_
      refine AW.loopX [0, 3, 5, 8, 9, 10, 11, 12, 13, 14, 15, 16, 17, 95] (fun (u : JZ) => u.i ≤ y.F.length ∧ KX M1 y.rp y.rf y.P.length y.F.length u.M) (fun (u : JZ) => [(96, .one (.int .i64 (u.i : Int)))]) (fun (u : JZ) => u.M) (fun (u : JZ) => y.F.length - u.i) ⟨0, Mz⟩ ⟨Nat.zero_le _, hz⟩ ?_ ?_ (fun u hu => by have := hu.2.len; have := hz.len; omega) fun u hi26 => ?_
      · first | rfl | (simp only [Keeps, Tm.get_cons, Nat.reduceEqDiff, ↓reduceIte, if_true, if_false, ite_true, ite_false, true_and, and_true, and_self, reduceCtorEq, Int.natCast_zero] <;> rfl)
      · rfl
      obtain ⟨ui, M2⟩ := u
      obtain ⟨hui, hu⟩ := hi26
      dsimp only at hui hu ⊢
      have uin := (hu.old (m.length + 1) (by omega) (by omega)).trans hin1
      obtain ⟨cu, urb, url⟩ := hu.rb
      try simp only [keepL, setAll, push_cast, simprocAttr, hb, lk_old hb, h1, h4, hin, lk_old hin, hbx, lk_old hbx, hrM, lk_old hrM, g0, g00, ggy0, ggy1, gl, gil, c0, c3, Int.le_refl, hin1, hbx1, zin, zra, zrl, uin, urb, url]
      refine AW.seq_k fun K hK => ?_
      refine AW.region (by decide) ?_
      simp only [push_cast, simprocAttr, hb, lk_old hb, h1, h4, hin, lk_old hin, hbx, lk_old hbx, hrM, lk_old hrM, g0, g00, ggy0, ggy1, gl, gil, c0, c3, Int.le_refl, hin1, hbx1, zin, zra, zrl, uin, urb, url]
      refine Thn_n ?_
      refine hK _ _ ?_
      clear hK K
      refine AW.seq_k fun K hK => ?_
      refine AW.cond rfl (fun h97 => ?_) (fun h97 => ?_)
      · have hul : ui < y.F.length := by have := of_decide_eq_true h97; omega
        have e1 : (0 : Int) ≤ (ui : Int) := by omega
        have e2 : (ui : Int) < (y.F.length : Nat) := by omega
        have e3 : ui * 3 + 3 ≤ y.F.length * 3 := by omega
        have hwu : IntKind.i64.wrap ((ui : Int) + 1) = (ui : Int) + 1 := wi (by rw [hyF] at hul; omega)
        refine AW.skip ?_
        refine Thn_n ?_
        refine hK _ _ ?_
        clear hK K
        refine AW.seq_k fun K hK => ?_
        refine AW.block ?_
        refine AW.seq_k fun K hK => ?_
        refine AW.region (by decide) ?_
        simp only [push_cast, simprocAttr, hb, lk_old hb, h1, h4, hin, lk_old hin, hbx, lk_old hbx, hrM, lk_old hrM, g0, g00, ggy0, ggy1, gl, gil, c0, c3, Int.le_refl, hin1, hbx1, zin, zra, zrl, uin, urb, url, e1, e2, e3]
        refine Thn_n ?_
        refine hK _ _ ?_
        clear hK K
        refine AW.region (by decide) ?_
        simp only [push_cast, simprocAttr, hb, lk_old hb, h1, h4, hin, lk_old hin, hbx, lk_old hbx, hrM, lk_old hrM, g0, g00, ggy0, ggy1, gl, gil, c0, c3, Int.le_refl, hin1, hbx1, zin, zra, zrl, uin, urb, url, e1, e2, e3]
        refine InB_n ?_
        refine Thn_n ?_
        refine hK _ _ ?_
        clear hK K
        refine AW.region (by decide) ?_
        simp only [push_cast, simprocAttr, hb, lk_old hb, h1, h4, hin, lk_old hin, hbx, lk_old hbx, hrM, lk_old hrM, g0, g00, ggy0, ggy1, gl, gil, c0, c3, Int.le_refl, hin1, hbx1, zin, zra, zrl, uin, urb, url, e1, e2, e3]
        refine Thn_n ?_
        try simp only [keepL, setAll, push_cast, simprocAttr, hb, lk_old hb, h1, h4, hin, lk_old hin, hbx, lk_old hbx, hrM, lk_old hrM, g0, g00, ggy0, ggy1, gl, gil, c0, c3, Int.le_refl, hin1, hbx1, zin, zra, zrl, uin, urb, url, e1, e2, e3]
        refine ⟨⟨ui + 1, _⟩, ⟨by show ui + 1 ≤ _; omega, hu.setb hyne (by simp only [setL, List.length_set]; exact url)⟩, by show y.F.length - (ui + 1) < y.F.length - ui; omega, Weak.same (by simp only [Keeps, Tm.get_cons, Nat.reduceEqDiff, ↓reduceIte, if_true, if_false, ite_true, ite_false, true_and, and_true, and_self, reduceCtorEq, Int.natCast_add, Int.cast_ofNat_Int, Int.natCast_one, hwu]) rfl⟩
      · have D0 := (hu.old (M.length) (by omega) (by omega)).trans hS.d0
        have D1 := (hu.old (M.length + 1) (by omega) (by omega)).trans hS.d1
        have D2 := (hu.old (M.length + 2) (by omega) (by omega)).trans hS.d2
        have D3 := (hu.old (M.length + 3) (by omega) (by omega)).trans hS.d3
        have D4 := (hu.old (M.length + 4) (by omega) (by omega)).trans hS.d4
        have D5 := (hu.old (M.length + 5) (by omega) (by omega)).trans hS.d5
        have D6 := (hu.old (M.length + 6) (by omega) (by omega)).trans hS.d6
        have D7 := (hu.old (M.length + 7) (by omega) (by omega)).trans hS.d7
        have D8 := (hu.old (M.length + 8) (by omega) (by omega)).trans hS.d8
        have D9 := (hu.old (M.length + 9) (by omega) (by omega)).trans hS.d9
        have D10 := (hu.old (M.length + 10) (by omega) (by omega)).trans hS.d10
        have D11 := (hu.old (M.length + 11) (by omega) (by omega)).trans hS.d11
        have D12 := (hu.old (M.length + 12) (by omega) (by omega)).trans hS.d12
        have D13 := (hu.old (M.length + 13) (by omega) (by omega)).trans hS.d13
        have D14 := (hu.old (M.length + 14) (by omega) (by omega)).trans hS.d14
        have D15 := (hu.old (M.length + 15) (by omega) (by omega)).trans hS.d15
        have D16 := (hu.old (M.length + 16) (by omega) (by omega)).trans hS.d16
        have D17 := (hu.old (M.length + 17) (by omega) (by omega)).trans hS.d17
        simp only [hyP, hyF] at D12 D13 D14 D15 D16 D17
        have Dbx := (hu.old m.length (by omega) (by omega)).trans hS.hbx
        have hpre : ∀ q, q < m.length → M2[q]? = m[q]? := fun q hq => (hu.old q (by omega) (by omega)).trans (hS.ext q hq)
        have hll2 := hu.len
        have hll3 := hS.len
        have hr2 : M2[r]? = some ⟨k0, 34, v, e0, mL l⟩ := (hpre r hrl).trans hb
        have w1 : TRow M2 24 s0.rp s0.vp s0.P := ⟨kp, ep, (hpre _ hx1).trans hbp⟩
        have w2 : TRow M2 54 s0.rf s0.vf s0.F := ⟨kf, ef, (hpre _ hx2).trans hbf⟩
        have lmv : (s0.P.map (ptM x0 x1 x2 y0 y1 y2 z0 z1 z2 t0 t1 t2)).length = s0.P.length := List.length_map _
        have ltn : (s0.F.map trF).length = s0.F.length := List.length_map _
        refine AW.exit ?_
        refine Thn_e ?_
        clear hK K
        refine Thn_e ?_
        refine InB_here ?_
        refine Thn_n ?_
        refine hK _ _ ?_
        clear hK K
        refine AW.seq_k fun K hK => ?_
        refine AW.seq_k fun K hK => ?_
        refine AW.draw [.val, .val, .val, .val, .rd 0, .ext, .rd 0, .ext, .val, .val, .val, .val, .val, .val, .val, .val, .rd 2, .ext, .rd 2, .ext, .val, .val, .val, .val, .val, .rd 4, .ext, .ext, .val, .val, .rd 4, .ext, .val, .val] fol (by decide) (by kernel_rfl) ?_
        simp only [push_cast, simprocAttr, hb, lk_old hb, h1, h4, hin, lk_old hin, hbx, lk_old hbx, hrM, lk_old hrM, g0, g00, ggy0, ggy1, gl, gil, c0, c3, Int.le_refl, hin1, hbx1, zin, zra, zrl, uin, urb, url, hr2, lk_old hr2, Dbx, lk_old Dbx, bne_self_eq_false, D2, lk_old D2, D5, lk_old D5, D8, lk_old D8, D11, lk_old D11, D16, lk_old D16, D17, lk_old D17]
        refine DCall.by (from33_c M.length 0 (M.length + 1) 0 G1 G2 _ (by first | omega | (simp; omega)) ⟨_, _, by first | exact D0 | exact lk_old D0 _⟩ (by omega)) ?_
        simp only [push_cast, simprocAttr, hb, lk_old hb, h1, h4, hin, lk_old hin, hbx, lk_old hbx, hrM, lk_old hrM, g0, g00, ggy0, ggy1, gl, gil, c0, c3, Int.le_refl, hin1, hbx1, zin, zra, zrl, uin, urb, url, hr2, lk_old hr2, Dbx, lk_old Dbx, bne_self_eq_false, D2, lk_old D2, D5, lk_old D5, D8, lk_old D8, D11, lk_old D11, D16, lk_old D16, D17, lk_old D17]
        refine DCall.by0 (same33_c M2.length 0 (M.length + 3) 0 (M.length + 1) 0 (M.length + 4) 0 G1 G2 _ (⟨.grow, 3, by simp only [push_cast, simprocAttr]⟩) (⟨_, _, lk_old D3 _⟩) (⟨_, _, lk_old D1 _⟩) (⟨_, _, lk_old D4 _⟩) (by omega) (by omega)) ?_
        simp only [push_cast, simprocAttr, hb, lk_old hb, h1, h4, hin, lk_old hin, hbx, lk_old hbx, hrM, lk_old hrM, g0, g00, ggy0, ggy1, gl, gil, c0, c3, Int.le_refl, hin1, hbx1, zin, zra, zrl, uin, urb, url, hr2, lk_old hr2, Dbx, lk_old Dbx, bne_self_eq_false, D2, lk_old D2, D5, lk_old D5, D8, lk_old D8, D11, lk_old D11, D16, lk_old D16, D17, lk_old D17]
        refine DCall.by (from33_c (M.length + 6) 0 (M.length + 7) 0 f1 f2 _ (by first | omega | (simp; omega)) ⟨_, _, lk_old D6 _⟩ (by omega)) ?_
        simp only [push_cast, simprocAttr, hb, lk_old hb, h1, h4, hin, lk_old hin, hbx, lk_old hbx, hrM, lk_old hrM, g0, g00, ggy0, ggy1, gl, gil, c0, c3, Int.le_refl, hin1, hbx1, zin, zra, zrl, uin, urb, url, hr2, lk_old hr2, Dbx, lk_old Dbx, bne_self_eq_false, D2, lk_old D2, D5, lk_old D5, D8, lk_old D8, D11, lk_old D11, D16, lk_old D16, D17, lk_old D17]
        refine DCall.by0 (same33_c (M2.length + 1) 0 (M.length + 9) 0 (M.length + 7) 0 (M.length + 10) 0 f1 f2 _ (⟨.grow, 3, by simp only [push_cast, simprocAttr]⟩) ⟨_, _, lk_old D9 _⟩ ⟨_, _, lk_old D7 _⟩ ⟨_, _, lk_old D10 _⟩ (by omega) (by omega)) ?_
        simp only [push_cast, simprocAttr, hb, lk_old hb, h1, h4, hin, lk_old hin, hbx, lk_old hbx, hrM, lk_old hrM, g0, g00, ggy0, ggy1, gl, gil, c0, c3, Int.le_refl, hin1, hbx1, zin, zra, zrl, uin, urb, url, hr2, lk_old hr2, Dbx, lk_old Dbx, bne_self_eq_false, D2, lk_old D2, D5, lk_old D5, D8, lk_old D8, D11, lk_old D11, D16, lk_old D16, D17, lk_old D17]
        refine DCall.by (to33_c s0.rp s0.vp s0.rf s0.vf s0.P s0.F _ (by first | omega | (simp; omega)) (w1.mono _) (w2.mono _) (by omega) (by omega)) ?_
        simp only [push_cast, simprocAttr, hb, lk_old hb, h1, h4, hin, lk_old hin, hbx, lk_old hbx, hrM, lk_old hrM, g0, g00, ggy0, ggy1, gl, gil, c0, c3, Int.le_refl, hin1, hbx1, zin, zra, zrl, uin, urb, url, hr2, lk_old hr2, Dbx, lk_old Dbx, bne_self_eq_false, D2, lk_old D2, D5, lk_old D5, D8, lk_old D8, D11, lk_old D11, D16, lk_old D16, D17, lk_old D17]
        refine DCall.by0 (check_c (M2.length + 2) 0 (M2.length + 3) 0 s0.P s0.F _ (by simp) (⟨.grow, 3, by simp only [push_cast, simprocAttr]⟩)) ?_
        simp only [push_cast, simprocAttr, hb, lk_old hb, h1, h4, hin, lk_old hin, hbx, lk_old hbx, hrM, lk_old hrM, g0, g00, ggy0, ggy1, gl, gil, c0, c3, Int.le_refl, hin1, hbx1, zin, zra, zrl, uin, urb, url, hr2, lk_old hr2, Dbx, lk_old Dbx, bne_self_eq_false, D2, lk_old D2, D5, lk_old D5, D8, lk_old D8, D11, lk_old D11, D16, lk_old D16, D17, lk_old D17]
        refine DCall.by0 (rcheck_c s0.rp s0.vp s0.rf s0.vf s0.P s0.F _ (by first | omega | (simp; omega)) (w2.mono _)) ?_
        simp only [push_cast, simprocAttr, hb, lk_old hb, h1, h4, hin, lk_old hin, hbx, lk_old hbx, hrM, lk_old hrM, g0, g00, ggy0, ggy1, gl, gil, c0, c3, Int.le_refl, hin1, hbx1, zin, zra, zrl, uin, urb, url, hr2, lk_old hr2, Dbx, lk_old Dbx, bne_self_eq_false, D2, lk_old D2, D5, lk_old D5, D8, lk_old D8, D11, lk_old D11, D16, lk_old D16, D17, lk_old D17]
        refine Thn_n ?_
        refine hK _ _ ?_
        clear hK K
        refine AW.cond_f rfl ?_
        refine AW.skip ?_
        refine Thn_n ?_
        refine hK _ _ ?_
        clear hK K
        refine AW.seq_k fun K hK => ?_
        refine AW.draw [.ext, .val, .rd 1, .ext, .val, .val, .rd 1, .rd 1, .ext, .ext, .val, .val, .rd 4, .ext, .val, .val, .rd 4, .ext, .ext, .val, .val] fol (by decide) (by kernel_rfl) ?_
        simp only [push_cast, simprocAttr, hb, lk_old hb, h1, h4, hin, lk_old hin, hbx, lk_old hbx, hrM, lk_old hrM, g0, g00, ggy0, ggy1, gl, gil, c0, c3, Int.le_refl, hin1, hbx1, zin, zra, zrl, uin, urb, url, hr2, lk_old hr2, Dbx, lk_old Dbx, bne_self_eq_false, D2, lk_old D2, D5, lk_old D5, D8, lk_old D8, D11, lk_old D11, D16, lk_old D16, D17, lk_old D17]
        refine DCall.by0 (awakeL_c _) ?_
        simp only [push_cast, simprocAttr, hb, lk_old hb, h1, h4, hin, lk_old hin, hbx, lk_old hbx, hrM, lk_old hrM, g0, g00, ggy0, ggy1, gl, gil, c0, c3, Int.le_refl, hin1, hbx1, zin, zra, zrl, uin, urb, url, hr2, lk_old hr2, Dbx, lk_old Dbx, bne_self_eq_false, D2, lk_old D2, D5, lk_old D5, D8, lk_old D8, D11, lk_old D11, D16, lk_old D16, D17, lk_old D17]
        refine DCall.by (by
          have h := fun M3 => from33_c (M.length + 12) 0 (M.length + 13) 0 (s0.P.map (ptM x0 x1 x2 y0 y1 y2 z0 z1 z2 t0 t1 t2)) s0.F M3
          simp only [lmv] at h
          exact h _ (by first | omega | (simp; omega)) ⟨_, _, lk_old D12 _⟩ (by omega)) ?_
        simp only [push_cast, simprocAttr, hb, lk_old hb, h1, h4, hin, lk_old hin, hbx, lk_old hbx, hrM, lk_old hrM, g0, g00, ggy0, ggy1, gl, gil, c0, c3, Int.le_refl, hin1, hbx1, zin, zra, zrl, uin, urb, url, hr2, lk_old hr2, Dbx, lk_old Dbx, bne_self_eq_false, D2, lk_old D2, D5, lk_old D5, D8, lk_old D8, D11, lk_old D11, D16, lk_old D16, D17, lk_old D17]
        refine DCall.by (rmoved_c s0.rp s0.vp s0.rf s0.vf s0.P s0.F x0 x1 x2 y0 y1 y2 z0 z1 z2 t0 t1 t2 _ (by first | omega | (simp; omega)) (by first | omega | (simp; omega)) (w1.mono _) (w2.mono _) (by omega) (by omega)) ?_
        simp only [push_cast, simprocAttr, hb, lk_old hb, h1, h4, hin, lk_old hin, hbx, lk_old hbx, hrM, lk_old hrM, g0, g00, ggy0, ggy1, gl, gil, c0, c3, Int.le_refl, hin1, hbx1, zin, zra, zrl, uin, urb, url, hr2, lk_old hr2, Dbx, lk_old Dbx, bne_self_eq_false, D2, lk_old D2, D5, lk_old D5, D8, lk_old D8, D11, lk_old D11, D16, lk_old D16, D17, lk_old D17]
        refine DCall.by0 (by
          have h := fun M3 => same33_c (M2.length + 4) 0 (M2.length + 5) 0 (M.length + 13) 0 s0.rf s0.vf (s0.P.map (ptM x0 x1 x2 y0 y1 y2 z0 z1 z2 t0 t1 t2)) s0.F M3
          simp only [lmv] at h
          exact h _ (⟨.grow, 3, by simp only [push_cast, simprocAttr]⟩) (⟨.grow, 3, by simp only [push_cast, simprocAttr]⟩) ⟨_, _, lk_old D13 _⟩ (w2.mono _) (by omega) (by omega)) ?_
        simp only [push_cast, simprocAttr, hb, lk_old hb, h1, h4, hin, lk_old hin, hbx, lk_old hbx, hrM, lk_old hrM, g0, g00, ggy0, ggy1, gl, gil, c0, c3, Int.le_refl, hin1, hbx1, zin, zra, zrl, uin, urb, url, hr2, lk_old hr2, Dbx, lk_old Dbx, bne_self_eq_false, D2, lk_old D2, D5, lk_old D5, D8, lk_old D8, D11, lk_old D11, D16, lk_old D16, D17, lk_old D17]
        refine DCall.by (by
          have h := fun M3 => from33_c (M.length + 14) 0 (M.length + 15) 0 s0.P (s0.F.map trF) M3
          simp only [ltn] at h
          exact h _ (by first | omega | (simp; omega)) ⟨_, _, lk_old D14 _⟩ (by omega)) ?_
        simp only [push_cast, simprocAttr, hb, lk_old hb, h1, h4, hin, lk_old hin, hbx, lk_old hbx, hrM, lk_old hrM, g0, g00, ggy0, ggy1, gl, gil, c0, c3, Int.le_refl, hin1, hbx1, zin, zra, zrl, uin, urb, url, hr2, lk_old hr2, Dbx, lk_old Dbx, bne_self_eq_false, D2, lk_old D2, D5, lk_old D5, D8, lk_old D8, D11, lk_old D11, D16, lk_old D16, D17, lk_old D17]
        refine DCall.by (rturned_c s0.rp s0.vp s0.rf s0.vf s0.P s0.F _ (by first | omega | (simp; omega)) (by first | omega | (simp; omega)) (w1.mono _) (w2.mono _) (by omega) (by omega)) ?_
        simp only [push_cast, simprocAttr, hb, lk_old hb, h1, h4, hin, lk_old hin, hbx, lk_old hbx, hrM, lk_old hrM, g0, g00, ggy0, ggy1, gl, gil, c0, c3, Int.le_refl, hin1, hbx1, zin, zra, zrl, uin, urb, url, hr2, lk_old hr2, Dbx, lk_old Dbx, bne_self_eq_false, D2, lk_old D2, D5, lk_old D5, D8, lk_old D8, D11, lk_old D11, D16, lk_old D16, D17, lk_old D17]
        refine DCall.by0 (by
          have h := fun M3 => same33_c (M2.length + 6) 0 s0.rp s0.vp (M.length + 15) 0 (M2.length + 7) 0 s0.P (s0.F.map trF) M3
          simp only [ltn] at h
          exact h _ (⟨.grow, 3, by simp only [push_cast, simprocAttr]⟩) (w1.mono _) ⟨_, _, lk_old D15 _⟩ (⟨.grow, 3, by simp only [push_cast, simprocAttr]⟩) (by omega) (by omega)) ?_
        simp only [push_cast, simprocAttr, hb, lk_old hb, h1, h4, hin, lk_old hin, hbx, lk_old hbx, hrM, lk_old hrM, g0, g00, ggy0, ggy1, gl, gil, c0, c3, Int.le_refl, hin1, hbx1, zin, zra, zrl, uin, urb, url, hr2, lk_old hr2, Dbx, lk_old Dbx, bne_self_eq_false, D2, lk_old D2, D5, lk_old D5, D8, lk_old D8, D11, lk_old D11, D16, lk_old D16, D17, lk_old D17]
        refine Thn_n ?_
        refine hK _ _ ?_
        clear hK K
        refine AW.ret ?_
        refine hQ _ _ _ ?_
        obtain ⟨X2, hX2⟩ := ext_of hpre (by omega)
        rw [hX2, List.append_assoc]
        refine RetP.drop (by first | exact Or.inr rfl | exact Or.inl rfl) ?_ ?_ hwf
        · simp only [resA, resOne, resTv, AV.tv, push_cast, simprocAttr]
        · rfl
theorem turns_c (r v : Nat) (l : List MI) (x0 x1 x2 y0 y1 y2 z0 z1 z2 t0 t1 t2 : Int) (m : AMem) (hrow : ∃ k e, m[r]? = some ⟨k, 34, v, e, mL l⟩) (hl : ∀ x, x ∈ l → MAt m 24 x) (hn : l.length ≤ 1048576) : Ctr Try.prog 3 [.one (.sl r v 0 l.length), .agg [.int .i64 (x0), .int .i64 (x1), .int .i64 (x2), .int .i64 (y0), .int .i64 (y1), .int .i64 (y2), .int .i64 (z0), .int .i64 (z1), .int .i64 (z2), .int .i64 (t0), .int .i64 (t1), .int .i64 (t2)]] m (.one (.bool true)) m := by
  cases h1 : ltB l
  · exact turns_a r v l x0 x1 x2 y0 y1 y2 z0 z1 z2 t0 t1 t2 m hrow hl hn h1
  · rcases Nat.eq_zero_or_pos l.length with h2 | h2
    · exact turns_b r v l x0 x1 x2 y0 y1 y2 z0 z1 z2 t0 t1 t2 m hrow hl hn h1 h2
    · exact turns_c0 r v l x0 x1 x2 y0 y1 y2 z0 z1 z2 t0 t1 t2 m hrow hl hn h1 h2
end Go.Proofs.Ytiogpaehelpmhaa
