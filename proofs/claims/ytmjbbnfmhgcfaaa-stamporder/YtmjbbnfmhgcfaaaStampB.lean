/- Walks and facts of this seat's program over abstract states, printed by a program of mine; no conditions but those that each theorem names. -/
import Derived.Test.YtmjbbnfmhgcfaaaStampA
set_option linter.unusedSimpArgs false
set_option linter.unusedVariables false
set_option maxRecDepth 100000
set_option maxHeartbeats 4000000
namespace Go.Proofs.Ytmjbbnfmhgcfaaa
open Go Go.Eng

/-- Which works a work needs, by their numbers. -/
def ndL (i : Nat) : List Nat := if i % 4 = 0 then [] else if i % 4 = 1 then (if i / 4 = 0 then [i - 1] else [i - 1, i - 5, i - 4]) else if i % 4 = 2 then [i - 2, i - 1] else [i - 1]
def nl (xs : List Nat) : List CV := xs.map fun x : Nat => CV.int .i64 ((x : Nat) : Int)
theorem nl_len (xs : List Nat) : (nl xs).length = xs.length := by simp [nl]
theorem nl_below (L : Nat) (xs : List Nat) : (nl xs).all (CV.below L) = true := by
  simp only [nl, List.all_map, List.all_eq_true]; intro x _; rfl
theorem nl_vals (xs : List Nat) : (nl xs).all CV.isVal = true := by
  simp only [nl, List.all_map, List.all_eq_true]; intro x _; rfl
def ofB (J : List Int) (ks : List (List Int)) (i : Nat) : List Int := if i % 4 = 0 then J else (ndL i).flatMap fun j => ks.getD j []
def ksL (J : List Int) : Nat → List (List Int)
  | 0 => []
  | n + 1 => ksL J n ++ [shaL (hdL ((n % 4 : Nat) : Int) ((n / 4 : Nat) : Int) ++ ofB J (ksL J n) n)]
theorem ksL_len (J : List Int) : ∀ n, (ksL J n).length = n
  | 0 => rfl
  | n + 1 => by simp [ksL, ksL_len J n]
/-- A work's key. -/
def ky (J : List Int) (i : Nat) : List Int := (ksL J (i + 1)).getD i []
theorem ky_eq (J : List Int) (n : Nat) : ky J n = shaL (hdL ((n % 4 : Nat) : Int) ((n / 4 : Nat) : Int) ++ ofB J (ksL J n) n) := by
  have := ksL_len J n
  simp only [ky, ksL, List.getD_eq_getElem?_getD]
  rw [List.getElem?_append_right (by omega), this, Nat.sub_self]; rfl
theorem ksL_get (J : List Int) : ∀ (n j : Nat), j < n → (ksL J n).getD j [] = ky J j
  | 0, _, h => by omega
  | n + 1, j, h => by
    rcases Nat.lt_or_ge j n with hj | hj
    · have := ksL_len J n
      simp only [ksL]
      rw [List.getD_eq_getElem?_getD, List.getElem?_append_left (by omega), ← List.getD_eq_getElem?_getD]
      exact ksL_get J n j hj
    · obtain rfl : j = n := by omega
      rfl
theorem ky_len (J : List Int) (i : Nat) : (ky J i).length = 32 := by rw [ky_eq]; rfl
theorem ky_ok (J : List Int) (i : Nat) : U8ok (ky J i) := by rw [ky_eq]; exact shaL_ok _
theorem ndL_lt (i : Nat) : ∀ j, j ∈ ndL i → j < i := fun j hj => by
  unfold ndL at hj
  split at hj
  · cases hj
  · split at hj
    · split at hj <;> simp at hj <;> omega
    · split at hj <;> simp at hj <;> omega
theorem ofB_eq (J : List Int) (n : Nat) : ofB J (ksL J n) n = if n % 4 = 0 then J else (ndL n).flatMap fun j => ky J j := by
  unfold ofB
  split
  · rfl
  · have : ∀ l : List Nat, (∀ j, j ∈ l → j < n) → (l.flatMap fun j => (ksL J n).getD j []) = l.flatMap fun j => ky J j := by
      intro l
      induction l with
      | nil => intro _; rfl
      | cons a l ih =>
        intro h
        simp only [List.flatMap_cons]
        rw [ih fun j hj => h j (List.mem_cons_of_mem _ hj), ksL_get J n a (h a List.mem_cons_self)]
    exact this _ (ndL_lt n)
/-- How many lists of needs stand ahead of a work's. -/
def rwN (i : Nat) : Nat := 3 * (i / 4) + (i % 4 - 1)
def ndC (b i : Nat) : CV := if i % 4 = 0 then .nils else .sl (b + rwN i) 0 0 (ndL i).length
def wC (J : List Int) (b i : Nat) : List CV := .int .i64 ((i % 4 : Nat) : Int) :: .int .i64 ((i / 4 : Nat) : Int) :: (u8l (ky J i) ++ [ndC b i])
theorem wC_len (J : List Int) (b i : Nat) : (wC J b i).length = 35 := by simp [wC, u8l_len, ky_len]
theorem wC_vals (J : List Int) (b i : Nat) : (wC J b i).all CV.isVal = true := by
  have h1 := u8l_vals (ky J i)
  have h2 : (ndC b i).isVal = true := by unfold ndC; split <;> rfl
  simp only [wC, List.all_cons, List.all_append, h1, h2, List.all_nil]; rfl
def wR (J : List Int) (b : Nat) : Nat → List CV
  | 0 => []
  | n + 1 => wR J b n ++ wC J b n
theorem wR_len (J : List Int) (b : Nat) : ∀ n, (wR J b n).length = 35 * n
  | 0 => rfl
  | n + 1 => by simp only [wR, List.length_append, wR_len J b n, wC_len]; omega
theorem wR_at (J : List Int) (b : Nat) : ∀ (n j : Nat), j < n → ((wR J b n).drop (35 * j)).take 35 = wC J b j
  | 0, _, h => by omega
  | n + 1, j, h => by
    have hl := wR_len J b n
    simp only [wR]
    rcases Nat.lt_or_ge j n with hj | hj
    · rw [List.drop_append_of_le_length (by omega), List.take_append_of_le_length (by rw [List.length_drop]; omega)]
      exact wR_at J b n j hj
    · obtain rfl : j = n := by omega
      rw [show 35 * j = (wR J b j).length from hl.symm, List.drop_left]
      exact List.take_of_length_le (by rw [wC_len]; exact Nat.le_refl _)
theorem wR_cell (J : List Int) (b n j c : Nat) (hj : j < n) (hc : c < 35) : (wR J b n)[35 * j + c]? = (wC J b j)[c]? := by
  have h := wR_at J b n j hj
  rw [← h, List.getElem?_take, if_pos hc, List.getElem?_drop]
theorem wR_key (J : List Int) (b n j : Nat) (hj : j < n) : ((wR J b n).drop (35 * j + 2)).take 32 = u8l (ky J j) := by
  have h := wR_at J b n j hj
  have e : ((wR J b n).drop (35 * j + 2)).take 32 = ((((wR J b n).drop (35 * j)).take 35).drop 2).take 32 := by
    rw [List.drop_take, List.drop_drop, List.take_take]; rfl
  rw [e, h]
  simp only [wC, List.drop_succ_cons, List.drop_zero]
  have hl : (u8l (ky J j)).length = 32 := by rw [u8l_len, ky_len]
  rw [List.take_append_of_le_length (by omega), ← hl, List.take_length]
/-- The lists of needs of a frame's first works; of some frames. -/
def rwF (f : Nat) : Nat → AMem
  | 0 => []
  | k + 1 => rwF f k ++ (if k = 0 then [] else [⟨.grow, 3, 0, 1, nl (ndL (4 * f + k))⟩])
def rwG : Nat → AMem
  | 0 => []
  | f + 1 => rwG f ++ rwF f 4
theorem rwF_len (f : Nat) : ∀ k, (rwF f k).length = k - 1
  | 0 => rfl
  | 1 => rfl
  | k + 2 => by
    have := rwF_len f (k + 1)
    have e : rwF f (k + 2) = rwF f (k + 1) ++ [⟨.grow, 3, 0, 1, nl (ndL (4 * f + (k + 1)))⟩] := rfl
    rw [e, List.length_append, this]; rfl
theorem rwG_len : ∀ f, (rwG f).length = 3 * f
  | 0 => rfl
  | f + 1 => by simp only [rwG, List.length_append, rwG_len f, rwF_len]; omega
/-- Where a work's list of needs stands. -/
theorem rw_get {f k F : Nat} (hf : f < F) (h1 : 1 ≤ k) (h2 : k < 4) : (rwG F)[3 * f + (k - 1)]? = some ⟨.grow, 3, 0, 1, nl (ndL (4 * f + k))⟩ := by
  have hF : ∀ F, f < F → (rwG F)[3 * f + (k - 1)]? = (rwF f 4)[k - 1]? := by
    intro F
    induction F with
    | zero => intro h; omega
    | succ F ih =>
      intro h
      have hl := rwG_len F
      simp only [rwG]
      rcases Nat.lt_or_ge f F with hf | hf
      · rw [List.getElem?_append_left (by omega)]; exact ih hf
      · obtain rfl : f = F := by omega
        rw [List.getElem?_append_right (by omega), hl]; congr 1; omega
  rw [hF F hf]
  have hk : k = 1 ∨ k = 2 ∨ k = 3 := by omega
  rcases hk with rfl | rfl | rfl <;> rfl
theorem at_c (k f : Nat) (m : AMem) (hk : k < 4) (hf : f ≤ 1000) : Ctr Try.prog 10 [.one (.int .i64 (k : Int)), .one (.int .i64 (f : Int))] m (.one (.int .i64 ((4 * f + k : Nat) : Int))) m := by
  refine Ctr.enter Try.func10 rfl (by decide) (rs := [.tmp 4]) (nt := 9) rfl rfl fun hwf Q hQ => ?_
  have w1 : IntKind.i64.wrap (4 * (f : Int)) = 4 * (f : Int) := wi (by omega)
  have w2 : IntKind.i64.wrap (4 * (f : Int) + (k : Int)) = 4 * (f : Int) + (k : Int) := wi (by omega)
  iterate 2
    refine AW.seq_k fun K hK => ?_
    refine AW.region (by decide) ?_
    simp only [push_cast, simprocAttr, w1, w2]
    refine Thn_n ?_
    refine hK _ _ ?_
    clear hK K
  refine AW.ret ?_
  refine hQ _ _ _ ?_
  first | refine RetP.drop0 (Or.inr rfl) ?_ ?_ hwf | refine RetP.drop (Or.inr rfl) ?_ ?_ hwf
  · simp only [resA, resOne, resTv, AV.tv, push_cast, simprocAttr, w1, w2]
  · rfl
end Go.Proofs.Ytmjbbnfmhgcfaaa
