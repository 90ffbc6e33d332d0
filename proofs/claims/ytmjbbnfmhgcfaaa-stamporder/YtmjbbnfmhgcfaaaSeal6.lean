/- Walks and facts of this seat's program over abstract states, printed by a program of mine; no conditions but those that each theorem names. -/
import Derived.Test.YtmjbbnfmhgcfaaaSeal5
set_option linter.unusedSimpArgs false
set_option linter.unusedVariables false
set_option maxRecDepth 100000
set_option maxHeartbeats 4000000
namespace Go.Proofs.Ytmjbbnfmhgcfaaa
open Go Go.Eng

def padz (n : Nat) : Nat := (119 - n % 64) % 64
theorem padz_ok (n : Nat) : (n + 1 + padz n) % 64 = 56 := by unfold padz; omega
theorem padz_lt {n j : Nat} (h : j < padz n) : (n + 1 + j) % 64 ≠ 56 := by unfold padz at h; omega
theorem padz_eq {n j : Nat} (h : j ≤ padz n) (h2 : (n + 1 + j) % 64 = 56) : j = padz n := by unfold padz at *; omega
theorem padz_le (n : Nat) : padz n < 64 := by unfold padz; omega
def hiW (n : Int) : Int := IntKind.u32.wrap ((IntKind.u64.wrap (8 * n)).fdiv 4294967296)
def loW (n : Int) : Int := IntKind.u32.wrap (IntKind.u64.wrap (8 * n))
def padL (r : List Int) (j : Nat) : List Int := r ++ 128 :: List.replicate j 0
def lastL (s : PS) : List Int := padL s.r (padz s.r.length) ++ fourL (hiW s.n) ++ fourL (loW s.n)
theorem padL_len (r : List Int) (j : Nat) : (padL r j).length = r.length + 1 + j := by simp [padL]; omega
theorem lastL_len (s : PS) : (lastL s).length = s.r.length + 1 + padz s.r.length + 8 := by simp only [lastL, List.length_append, padL_len]; rfl
theorem fourL_ok (n : Int) : U8ok (fourL n) := fun x hx => by
  simp only [fourL, List.mem_cons, List.not_mem_nil, or_false] at hx
  rcases hx with rfl | rfl | rfl | rfl <;> (rw [w8]; omega)
theorem padL_ok {r : List Int} (h : U8ok r) (j : Nat) : U8ok (padL r j) := h.app fun x hx => by
  rcases List.mem_cons.1 hx with rfl | hx
  · omega
  · obtain ⟨_, rfl⟩ := List.mem_replicate.1 hx; omega
theorem lastL_ok {s : PS} (h : U8ok s.r) : U8ok (lastL s) := ((padL_ok h _).app (fourL_ok _)).app (fourL_ok _)
def finS (s : PS) : S8 := compN s.S (lastL s) ((lastL s).length / 64)
def digL (S : S8) : List Int := fourL S.a ++ fourL S.b ++ fourL S.c ++ fourL S.d ++ fourL S.e ++ fourL S.f ++ fourL S.g ++ fourL S.h
def dP (S : S8) (i : Nat) : List Int := (digL S).take (4 * i) ++ List.replicate (32 - 4 * i) 0
def hS (S : S8) : List CV := [.int .u32 S.a, .int .u32 S.b, .int .u32 S.c, .int .u32 S.d, .int .u32 S.e, .int .u32 S.f, .int .u32 S.g, .int .u32 S.h]
def hF (S : S8) : Nat → Int
  | 0 => S.a | 1 => S.b | 2 => S.c | 3 => S.d | 4 => S.e | 5 => S.f | 6 => S.g | _ => S.h
theorem hS_get (S : S8) : ∀ {i : Nat}, i < 8 → (hS S)[i]? = some (.int .u32 (hF S i))
  | 0, _ => rfl | 1, _ => rfl | 2, _ => rfl | 3, _ => rfl | 4, _ => rfl | 5, _ => rfl | 6, _ => rfl | 7, _ => rfl
  | n + 8, h => by omega
theorem dP_succ (S : S8) : ∀ {i : Nat}, i < 8 → setL (u8l (dP S i)) (4 * i) (u8l (fourL (hF S i))) = u8l (dP S (i + 1))
  | 0, _ => rfl | 1, _ => rfl | 2, _ => rfl | 3, _ => rfl | 4, _ => rfl | 5, _ => rfl | 6, _ => rfl | 7, _ => rfl
  | n + 8, h => by omega
theorem dP_len (S : S8) {i : Nat} (h : i ≤ 8) : (dP S i).length = 32 := by
  have : (digL S).length = 32 := rfl
  simp only [dP, List.length_append, List.length_take, List.length_replicate, this]; omega
theorem dP_full (S : S8) : dP S 8 = digL S := rfl
theorem padL_succ (r : List Int) (j : Nat) : u8l (padL r j) ++ [.int .u8 0] = u8l (padL r (j + 1)) := by
  simp [u8l, padL, List.replicate_succ']
theorem padL_zero (r : List Int) : u8l r ++ [.int .u8 128] = u8l (padL r 0) := by simp [u8l, padL]

theorem sum_c (rp bb vb : Nat) (s : PS) (m : AMem) (hp : m[rp]? = some (prB s.S (.sl bb vb 0 s.r.length) s.n)) (hbb : m[bb]? = some (rowB vb s.r)) (hr0 : s.r.length < 64) (ho0 : U8ok s.r) : Ctr Try.prog 24 [.one (.ptr rp 0 0)] m (.agg (u8l (digL (finS s)))) m := by
  refine Ctr.enter Try.func24 rfl (by decide) (rs := [.cell 2 36]) (nt := 73) rfl rfl fun hwf Q hQ => ?_
  obtain ⟨S, r, n⟩ := s
  dsimp only at hp hbb hr0 ho0 ⊢
  have lp := get_lt hp
  have lbb := get_lt hbb
  have ha1 := u8l_len r
  have ha2 := u8l_vals r
  have ha3 : (u8l r).take r.length = u8l r := List.take_of_length_le (by rw [u8l_len]; exact Nat.le_refl _)
  have ha4 : r.length ≤ 140737488355328 := by omega
  have ha5 : r.length + 1 ≤ 140737488355328 := by omega
  have hz0 := padL_zero r
  have q1 : (2:Int) ^ min 32 IntKind.u64.bits = 4294967296 := by decide
  have hll := lastL_len ⟨S, r, n⟩
  have hpz := padz_le r.length
  have hpl0 : (padL r 0).length = r.length + 1 := padL_len r 0
  have hpo := padz_ok r.length
  dsimp only at hll
  obtain ⟨la, hla⟩ : ∃ la, lastL ⟨S, r, n⟩ = la := ⟨_, rfl⟩
  have hok : U8ok la := by rw [← hla]; exact lastL_ok ho0
  have nb := hok.by
  rw [hla] at hll
  have hfin : finS ⟨S, r, n⟩ = compN S la (la.length / 64) := by unfold finS; rw [hla]
  have hlc : u8l (padL r (padz r.length)) ++ u8l (fourL (hiW n)) ++ u8l (fourL (loW n)) = u8l la := by rw [← hla, u8l_app, u8l_app]; rfl
  have hlc2 : u8l (padL r (padz r.length)) ++ (u8l (fourL (hiW n)) ++ u8l (fourL (loW n))) = u8l la := by rw [← List.append_assoc]; exact hlc
  have hhi : IntKind.u32.wrap ((IntKind.u64.wrap (8 * n)).fdiv 4294967296) = hiW n := rfl
  have hlo : IntKind.u32.wrap (IntKind.u64.wrap (8 * n)) = loW n := rfl
  have hfx : ∀ x, u8l (fourL x) = [.int .u8 (IntKind.u8.wrap (x.fdiv 16777216)), .int .u8 (IntKind.u8.wrap (x.fdiv 65536)), .int .u8 (IntKind.u8.wrap (x.fdiv 256)), .int .u8 (IntKind.u8.wrap x)] := fun x => rfl
  have mn4 : min 4 4 = 4 := rfl
  have mn8 : min 4 8 = 4 := rfl
  have mn12 : min 4 12 = 4 := rfl
  have mn16 : min 4 16 = 4 := rfl
  have mn20 : min 4 20 = 4 := rfl
  have mn24 : min 4 24 = 4 := rfl
  have mn28 : min 4 28 = 4 := rfl
  have mn32 : min 4 32 = 4 := rfl
  have f1 : ∀ x, (u8l (fourL x)).take 4 = u8l (fourL x) := fun x => rfl
  have f2 : ∀ x, (u8l (fourL x)).length = 4 := fun x => rfl
  have f3 : ∀ x, (u8l (fourL x)).all CV.isVal = true := fun x => u8l_vals _
  
  refine AW.seq_k fun K hK => ?_
  refine AW.region (by decide) ?_
  simp only [push_cast, simprocAttr, hp, lk_old hp, hbb, lk_old hbb, prB, rowB, pS, u8l_len, Nat.sub_zero, Int.le_refl, ha1, ha2, ha3, ha4, ha5, hz0, q1, hhi, hlo, f1, f2, f3]
  refine Thn_n ?_
  refine hK _ _ ?_
  clear hK K
  refine AW.seq_k fun K hK => ?_
  refine AW.seq_k fun K hK => ?_
  refine AW.region (by decide) ?_
  simp only [push_cast, simprocAttr, hp, lk_old hp, hbb, lk_old hbb, prB, rowB, pS, u8l_len, Nat.sub_zero, Int.le_refl, ha1, ha2, ha3, ha4, ha5, hz0, q1, hhi, hlo, f1, f2, f3]
  refine Thn_n ?_
  refine hK _ _ ?_
  clear hK K
  refine AW.cond_f rfl ?_
  refine AW.skip ?_
  refine Thn_n ?_
  refine hK _ _ ?_
  clear hK K
  refine AW.seq_k fun K hK => ?_
  refine AW.draw [.val, .val, .val, .rd 0, .ext, .val, .val, .val, .rd 0, .up 0, .val, .fl, .wr] fol (by decide) (by kernel_rfl) ?_
  simp only [push_cast, simprocAttr, hp, lk_old hp, hbb, lk_old hbb, prB, rowB, pS, u8l_len, Nat.sub_zero, Int.le_refl, ha1, ha2, ha3, ha4, ha5, hz0, q1, hhi, hlo, f1, f2, f3]
  refine DExt.by (by first | rfl | (simp only [List.append_assoc, List.cons_append, List.nil_append]; rfl)) ?_
  simp only [push_cast, simprocAttr, hp, lk_old hp, hbb, lk_old hbb, prB, rowB, pS, u8l_len, Nat.sub_zero, Int.le_refl, ha1, ha2, ha3, ha4, ha5, hz0, q1, hhi, hlo, f1, f2, f3]
  refine DUp.by (by first | rfl | (simp only [List.append_assoc, List.cons_append, List.nil_append]; rfl)) (by first | rfl | (simp only [List.append_assoc, List.cons_append, List.nil_append]; rfl)) ?_
  simp only [push_cast, simprocAttr, hp, lk_old hp, hbb, lk_old hbb, prB, rowB, pS, u8l_len, Nat.sub_zero, Int.le_refl, ha1, ha2, ha3, ha4, ha5, hz0, q1, hhi, hlo, f1, f2, f3]
  refine Thn_n ?_
  refine hK _ _ ?_
  clear hK K
  refine AW.seq_k fun K hK => ?_
  refine AW.region (by decide) ?_
  simp only [push_cast, simprocAttr, hp, lk_old hp, hbb, lk_old hbb, prB, rowB, pS, u8l_len, Nat.sub_zero, Int.le_refl, ha1, ha2, ha3, ha4, ha5, hz0, q1, hhi, hlo, f1, f2, f3]
  refine Thn_n ?_
  refine hK _ _ ?_
  clear hK K
  refine AW.seq_k fun K hK => ?_
  refine AW.block ?_
  refine AW.loopK [0, 2, 3] (fun j => j ≤ padz r.length) (fun j => [(4, .one (.sl (m.length + 1) (2 + j) 0 (padL r j).length))]) (fun j => [(m.length + 1, ⟨.grow, 5, 2 + j, 1, u8l (padL r j)⟩)]) (fun j => padz r.length - j) 0 (by omega) ?_ ?_ fun j hi7 => ?_
  · first | rfl | (simp only [Keeps, Tm.get_cons, Nat.reduceEqDiff, ↓reduceIte, if_true, if_false, ite_true, ite_false, true_and, and_true, and_self, reduceCtorEq, hpl0] <;> rfl)
  · first | rfl | (simp only [setAll, push_cast, simprocAttr, hp, lk_old hp, hbb, lk_old hbb, prB, rowB, pS, u8l_len, Nat.sub_zero, Int.le_refl, ha1, ha2, ha3, ha4, ha5, hz0, q1, hhi, hlo, f1, f2, f3, hpl0] <;> rfl)
  have hi : j ≤ padz r.length := hi7
  have hpl := padL_len r j
  have hpl2 : (padL r (j + 1)).length = (padL r j).length + 1 := by rw [padL_len, padL_len]; omega
  have hsn := padL_succ r j
  have hpm : (((padL r j).length : Nat) : Int).tmod 64 = (((padL r j).length % 64 : Nat) : Int) := rfl
  have q3 : (padL r j).length ≤ 140737488355328 := by omega
  have q4 : (padL r j).length + 1 ≤ 140737488355328 := by omega
  try simp only [keepL, setAll, push_cast, simprocAttr, hp, lk_old hp, hbb, lk_old hbb, prB, rowB, pS, u8l_len, Nat.sub_zero, Int.le_refl, ha1, ha2, ha3, ha4, ha5, hz0, q1, hhi, hlo, f1, f2, f3]
  refine AW.seq_k fun K hK => ?_
  refine AW.seq_k fun K hK => ?_
  refine AW.region (by decide) ?_
  simp only [push_cast, simprocAttr, hp, lk_old hp, hbb, lk_old hbb, prB, rowB, pS, u8l_len, Nat.sub_zero, Int.le_refl, ha1, ha2, ha3, ha4, ha5, hz0, q1, hhi, hlo, f1, f2, f3]
  refine Thn_n ?_
  refine hK _ _ ?_
  clear hK K
  refine AW.cond rfl (fun h29 => ?_) (fun h29 => ?_)
  · have hlt : j < padz r.length := by
      have h1 : (padL r j).length % 64 ≠ 56 := fun e => by
        rw [hpm, e] at h29; exact absurd h29 (by decide)
      have : j ≠ padz r.length := fun e => by subst e; exact h1 (by rw [hpl]; exact hpo)
      omega
    refine AW.skip ?_
    refine Thn_n ?_
    refine hK _ _ ?_
    clear hK K
    refine AW.block ?_
    refine AW.region (by decide) ?_
    simp only [push_cast, simprocAttr, hp, lk_old hp, hbb, lk_old hbb, prB, rowB, pS, u8l_len, Nat.sub_zero, Int.le_refl, ha1, ha2, ha3, ha4, ha5, hz0, q1, hhi, hlo, f1, f2, f3, hsn, q3, q4]
    refine InB_n ?_
    refine Thn_n ?_
    refine ⟨j + 1, hlt, by omega, ?_⟩
    try simp only [keepL, setAll, push_cast, simprocAttr, hp, lk_old hp, hbb, lk_old hbb, prB, rowB, pS, u8l_len, Nat.sub_zero, Int.le_refl, ha1, ha2, ha3, ha4, ha5, hz0, q1, hhi, hlo, f1, f2, f3, hsn, q3, q4, hpl2]
    exact Weak.to (extra := [_]) (by simp only [Keeps, Tm.get_cons, Nat.reduceEqDiff, ↓reduceIte, if_true, if_false, ite_true, ite_false, true_and, and_true, and_self, reduceCtorEq, hpl2]) (by first | rfl | (simp only [List.append_assoc, List.cons_append, List.nil_append]; rfl)) (by first | rfl | (simp [AV.below, CV.below, u8l_below]; done) | (simp [AV.below, CV.below, u8l_below]; omega)) (by
      first | exact hwf | refine MWf.app (hwf.grow (by simp)) ?_
      repeat (first | exact MWf_nil | (refine MWf_cons ?_ ?_; · first | rfl | (simp [CV.below, u8l_below]; done) | (simp [CV.below, u8l_below]; omega))))
  · have hje : j = padz r.length := by
      refine padz_eq hi (Decidable.byContradiction fun h1 => ?_)
      rw [← hpl] at h1; rw [hpm] at h29
      simp at h29; omega
    subst hje
    have n1 : (padL r (padz r.length)).length + 4 ≤ 140737488355328 := by omega
    have n2 : (padL r (padz r.length)).length + 8 ≤ 140737488355328 := by omega
    have n3 : (padL r (padz r.length)).length + 8 = la.length := by omega
    have n4 : la.length ≤ 140737488355328 := by omega
    refine AW.exit ?_
    refine Thn_e ?_
    clear hK K
    refine Thn_e ?_
    refine InB_here ?_
    refine Thn_n ?_
    refine hK _ _ ?_
    clear hK K
    refine AW.seq_k fun K hK => ?_
    refine AW.draw [.val, .val, .val, .val, .rd 0, .val, .val, .val, .ext, .wr, .val, .val, .val, .rw 0, .val, .val, .ext, .wr, .val] fol (by decide) (by kernel_rfl) ?_
    iterate 2
      simp only [push_cast, simprocAttr, hp, lk_old hp, hbb, lk_old hbb, prB, rowB, pS, u8l_len, Nat.sub_zero, Int.le_refl, ha1, ha2, ha3, ha4, ha5, hz0, q1, hhi, hlo, f1, f2, f3, q3, q4, n1, n2, n3, n4, hlc, hlc2]
      refine DCall.by (four_c _ _) ?_
    simp only [push_cast, simprocAttr, hp, lk_old hp, hbb, lk_old hbb, prB, rowB, pS, u8l_len, Nat.sub_zero, Int.le_refl, ha1, ha2, ha3, ha4, ha5, hz0, q1, hhi, hlo, f1, f2, f3, q3, q4, n1, n2, n3, n4, hlc, hlc2]
    refine AOpsD_end (by simp only [watchS, allAt, push_cast, simprocAttr, hp, lk_old hp, hbb, lk_old hbb, prB, rowB, pS, u8l_len, Nat.sub_zero, Int.le_refl, ha1, ha2, ha3, ha4, ha5, hz0, q1, hhi, hlo, f1, f2, f3, q3, q4, n1, n2, n3, n4, hlc, hlc2]) ?_
    refine Thn_n ?_
    refine hK _ _ ?_
    clear hK K
    refine AW.seq_k fun K hK => ?_
    refine AW.block ?_
    refine AW.loopK [2, 3] (fun j => 64 * j ≤ la.length) (fun j => [(4, .one (.sl (m.length + 1) (2 + (padz r.length + 2)) (64 * j) (la.length - 64 * j)))]) (fun j => [(m.length + 2, ⟨.fix, 74, 0, 0, [.int .u32 ((compN S la j)).a, .int .u32 ((compN S la j)).b, .int .u32 ((compN S la j)).c, .int .u32 ((compN S la j)).d, .int .u32 ((compN S la j)).e, .int .u32 ((compN S la j)).f, .int .u32 ((compN S la j)).g, .int .u32 ((compN S la j)).h, (.sl (m.length + 1) 1 0 r.length), .int .u64 0]⟩)]) (fun j => la.length - 64 * j) 0 (by omega) ?_ ?_ fun j hi12 => ?_
    · first | rfl | (simp only [Keeps, Tm.get_cons, Nat.reduceEqDiff, ↓reduceIte, if_true, if_false, ite_true, ite_false, true_and, and_true, and_self, reduceCtorEq, compN, Nat.mul_zero, Nat.sub_zero] <;> rfl)
    · first | rfl | (simp only [setAll, push_cast, simprocAttr, hp, lk_old hp, hbb, lk_old hbb, prB, rowB, pS, u8l_len, Nat.sub_zero, Int.le_refl, ha1, ha2, ha3, ha4, ha5, hz0, q1, hhi, hlo, f1, f2, f3, q3, q4, n1, n2, n3, n4, hlc, hlc2, compN, Nat.mul_zero, Nat.sub_zero] <;> rfl)
    try simp only [keepL, setAll, push_cast, simprocAttr, hp, lk_old hp, hbb, lk_old hbb, prB, rowB, pS, u8l_len, Nat.sub_zero, Int.le_refl, ha1, ha2, ha3, ha4, ha5, hz0, q1, hhi, hlo, f1, f2, f3, q3, q4, n1, n2, n3, n4, hlc, hlc2]
    refine AW.seq_k fun K hK => ?_
    refine AW.seq_k fun K hK => ?_
    refine AW.region (by decide) ?_
    simp only [push_cast, simprocAttr, hp, lk_old hp, hbb, lk_old hbb, prB, rowB, pS, u8l_len, Nat.sub_zero, Int.le_refl, ha1, ha2, ha3, ha4, ha5, hz0, q1, hhi, hlo, f1, f2, f3, q3, q4, n1, n2, n3, n4, hlc, hlc2]
    refine Thn_n ?_
    refine hK _ _ ?_
    clear hK K
    refine AW.cond rfl (fun h53 => ?_) (fun h53 => ?_)
    · have hj : 64 ≤ la.length - 64 * j := by have := of_decide_eq_true h53; omega
      have c3 : (0 : Int) ≤ 64 := by omega
      have c4 : (64 : Int) ≤ ((la.length - 64 * j : Nat) : Int) := by omega
      have c5 : (((la.length - 64 * j : Nat) : Int)).toNat - 64 = la.length - 64 * j - 64 := by omega
      refine AW.skip ?_
      refine Thn_n ?_
      refine hK _ _ ?_
      clear hK K
      refine AW.seq_k fun K hK => ?_
      refine AW.block ?_
      refine AW.region (by decide) ?_
      simp only [push_cast, simprocAttr, hp, lk_old hp, hbb, lk_old hbb, prB, rowB, pS, u8l_len, Nat.sub_zero, Int.le_refl, ha1, ha2, ha3, ha4, ha5, hz0, q1, hhi, hlo, f1, f2, f3, q3, q4, n1, n2, n3, n4, hlc, hlc2, c3, c4, c5]
      refine CThen.by (stir_c (m.length + 2) (compN S la j) (.sl (m.length + 1) 1 0 r.length) 0 (m.length + 1) (2 + (padz r.length + 2)) (64 * j) 64 la _ (by simp only [push_cast, simprocAttr]) (by simp [CV.below]) ⟨.grow, 1, by simp only [push_cast, simprocAttr]⟩ (by omega) (by omega) (by omega) nb) ?_
      simp only [push_cast, simprocAttr, hp, lk_old hp, hbb, lk_old hbb, prB, rowB, pS, u8l_len, Nat.sub_zero, Int.le_refl, ha1, ha2, ha3, ha4, ha5, hz0, q1, hhi, hlo, f1, f2, f3, q3, q4, n1, n2, n3, n4, hlc, hlc2, c3, c4, c5]
      refine InB_n ?_
      refine Thn_n ?_
      refine hK _ _ ?_
      clear hK K
      refine AW.region (by decide) ?_
      simp only [push_cast, simprocAttr, hp, lk_old hp, hbb, lk_old hbb, prB, rowB, pS, u8l_len, Nat.sub_zero, Int.le_refl, ha1, ha2, ha3, ha4, ha5, hz0, q1, hhi, hlo, f1, f2, f3, q3, q4, n1, n2, n3, n4, hlc, hlc2, c3, c4, c5]
      refine Thn_n ?_
      have e1 : 64 * (j + 1) = 64 * j + 64 := by omega
      have e2 : la.length - (64 * j + 64) = la.length - 64 * j - 64 := by omega
      have e3 : compN S la (j + 1) = comp KW (compN S la j) la (64 * j) := rfl
      refine ⟨j + 1, by omega, by omega, ?_⟩
      try simp only [keepL, setAll, push_cast, simprocAttr, hp, lk_old hp, hbb, lk_old hbb, prB, rowB, pS, u8l_len, Nat.sub_zero, Int.le_refl, ha1, ha2, ha3, ha4, ha5, hz0, q1, hhi, hlo, f1, f2, f3, q3, q4, n1, n2, n3, n4, hlc, hlc2, c3, c4, c5, e1, e2, e3]
      exact Weak.same (by simp only [Keeps, Tm.get_cons, Nat.reduceEqDiff, ↓reduceIte, if_true, if_false, ite_true, ite_false, true_and, and_true, and_self, reduceCtorEq, e1, e2, e3]) (by first | rfl | simp only [Keeps, Tm.get_cons, Nat.reduceEqDiff, ↓reduceIte, if_true, if_false, ite_true, ite_false, true_and, and_true, and_self, reduceCtorEq, e1, e2, e3])
    · have hd0 : u8l (dP (compN S la (la.length / 64)) 0) = [.int .u8 0, .int .u8 0, .int .u8 0, .int .u8 0, .int .u8 0, .int .u8 0, .int .u8 0, .int .u8 0, .int .u8 0, .int .u8 0, .int .u8 0, .int .u8 0, .int .u8 0, .int .u8 0, .int .u8 0, .int .u8 0, .int .u8 0, .int .u8 0, .int .u8 0, .int .u8 0, .int .u8 0, .int .u8 0, .int .u8 0, .int .u8 0, .int .u8 0, .int .u8 0, .int .u8 0, .int .u8 0, .int .u8 0, .int .u8 0, .int .u8 0, .int .u8 0] := rfl
      have hje : j = la.length / 64 := by have := of_decide_eq_false h53; omega
      subst hje
      refine AW.exit ?_
      refine Thn_e ?_
      clear hK K
      refine Thn_e ?_
      refine InB_here ?_
      refine Thn_n ?_
      refine hK _ _ ?_
      clear hK K
      refine AW.seq_k fun K hK => ?_
      refine AW.region (by decide) ?_
      simp only [push_cast, simprocAttr, hp, lk_old hp, hbb, lk_old hbb, prB, rowB, pS, u8l_len, Nat.sub_zero, Int.le_refl, ha1, ha2, ha3, ha4, ha5, hz0, q1, hhi, hlo, f1, f2, f3, q3, q4, n1, n2, n3, n4, hlc, hlc2]
      refine Thn_n ?_
      refine hK _ _ ?_
      clear hK K
      refine AW.seq_k fun K hK => ?_
      refine AW.seq_k fun K hK => ?_
      refine AW.region (by decide) ?_
      simp only [push_cast, simprocAttr, hp, lk_old hp, hbb, lk_old hbb, prB, rowB, pS, u8l_len, Nat.sub_zero, Int.le_refl, ha1, ha2, ha3, ha4, ha5, hz0, q1, hhi, hlo, f1, f2, f3, q3, q4, n1, n2, n3, n4, hlc, hlc2]
      refine Thn_n ?_
      refine hK _ _ ?_
      clear hK K
      refine AW.block ?_
      refine AW.loopK [2, 5, 60] (fun i => i ≤ (8 : Nat)) (fun i => [(61, .one (.int .i64 (i : Int)))]) (fun i => [(m.length + 6, ⟨.fix, 36, 0, 0, u8l (dP (compN S la (la.length / 64)) i)⟩)]) (fun i => 8 - i) 0 (by omega) ?_ ?_ fun i hi19 => ?_
      · first | rfl | (simp only [Keeps, Tm.get_cons, Nat.reduceEqDiff, ↓reduceIte, if_true, if_false, ite_true, ite_false, true_and, and_true, and_self, reduceCtorEq, hd0, Int.natCast_zero] <;> rfl)
      · first | rfl | (simp only [setAll, push_cast, simprocAttr, hp, lk_old hp, hbb, lk_old hbb, prB, rowB, pS, u8l_len, Nat.sub_zero, Int.le_refl, ha1, ha2, ha3, ha4, ha5, hz0, q1, hhi, hlo, f1, f2, f3, q3, q4, n1, n2, n3, n4, hlc, hlc2, hd0, Int.natCast_zero] <;> rfl)
      have hi8 : i ≤ 8 := hi19
      try simp only [keepL, setAll, push_cast, simprocAttr, hp, lk_old hp, hbb, lk_old hbb, prB, rowB, pS, u8l_len, Nat.sub_zero, Int.le_refl, ha1, ha2, ha3, ha4, ha5, hz0, q1, hhi, hlo, f1, f2, f3, q3, q4, n1, n2, n3, n4, hlc, hlc2]
      refine AW.seq_k fun K hK => ?_
      refine AW.region (by decide) ?_
      simp only [push_cast, simprocAttr, hp, lk_old hp, hbb, lk_old hbb, prB, rowB, pS, u8l_len, Nat.sub_zero, Int.le_refl, ha1, ha2, ha3, ha4, ha5, hz0, q1, hhi, hlo, f1, f2, f3, q3, q4, n1, n2, n3, n4, hlc, hlc2]
      refine Thn_n ?_
      refine hK _ _ ?_
      clear hK K
      refine AW.seq_k fun K hK => ?_
      refine AW.cond rfl (fun h62 => ?_) (fun h62 => ?_)
      · have hlt8 : i < 8 := by have := of_decide_eq_true h62; omega
        have c3 : (0 : Int) ≤ (i : Int) := by omega
        have c4 : (i : Int) < 8 := by omega
        have gi := hS_get (compN S la (la.length / 64)) hlt8
        have hsn8 := dP_succ (compN S la (la.length / 64)) hlt8
        have wi4 : IntKind.i64.wrap (4 * (i : Int)) = 4 * (i : Int) := wi (by omega)
        have c5 : (0 : Int) ≤ 4 * (i : Int) := by omega
        have c6 : 4 * (i : Int) ≤ 32 := by omega
        have c7 : (4 * (i : Int)).toNat = 4 * i := by omega
        have c8 : min 4 (32 - 4 * i) = 4 := by omega
        have c9 := dP_len (compN S la (la.length / 64)) hi8
        have c10 : 4 * i + 4 ≤ 32 := by omega
        simp only [hS] at gi
        refine AW.skip ?_
        refine Thn_n ?_
        refine hK _ _ ?_
        clear hK K
        refine AW.seq_k fun K hK => ?_
        refine AW.block ?_
        refine AW.seq_k fun K hK => ?_
        refine AW.region (by decide) ?_
        simp only [push_cast, simprocAttr, hp, lk_old hp, hbb, lk_old hbb, prB, rowB, pS, u8l_len, Nat.sub_zero, Int.le_refl, ha1, ha2, ha3, ha4, ha5, hz0, q1, hhi, hlo, f1, f2, f3, q3, q4, n1, n2, n3, n4, hlc, hlc2, gi, hsn8, wi4, c3, c4, c5, c6, c7, c8, c9, c10]
        refine Thn_n ?_
        refine hK _ _ ?_
        clear hK K
        refine AW.drawX fol (by kernel_rfl) ?_
        refine DX.split 2 4 (by decide) ?_ ?_
        · refine DX.run [0, 1, 2, 3, 4, 5] [.val, .val, .ext, .val, .ext, .wr] (by simp only [permL, reOp, List.idxOf_cons, push_cast, simprocAttr, hp, lk_old hp, hbb, lk_old hbb, prB, rowB, pS, u8l_len, Nat.sub_zero, Int.le_refl, ha1, ha2, ha3, ha4, ha5, hz0, q1, hhi, hlo, f1, f2, f3, q3, q4, n1, n2, n3, n4, hlc, hlc2, gi, hsn8, wi4, c3, c4, c5, c6, c7, c8, c9, c10]; first | done | rfl) (by kernel_rfl) ?_
          simp only [push_cast, simprocAttr, hp, lk_old hp, hbb, lk_old hbb, prB, rowB, pS, u8l_len, Nat.sub_zero, Int.le_refl, ha1, ha2, ha3, ha4, ha5, hz0, q1, hhi, hlo, f1, f2, f3, q3, q4, n1, n2, n3, n4, hlc, hlc2, gi, hsn8, wi4, c3, c4, c5, c6, c7, c8, c9, c10]
          refine DExt.by (by first | rfl | (simp only [List.append_assoc, List.cons_append, List.nil_append]; rfl)) ?_
          simp only [push_cast, simprocAttr, hp, lk_old hp, hbb, lk_old hbb, prB, rowB, pS, u8l_len, Nat.sub_zero, Int.le_refl, ha1, ha2, ha3, ha4, ha5, hz0, q1, hhi, hlo, f1, f2, f3, q3, q4, n1, n2, n3, n4, hlc, hlc2, gi, hsn8, wi4, c3, c4, c5, c6, c7, c8, c9, c10]
          refine DCall.by (four_c _ _) ?_
          simp only [push_cast, simprocAttr, hp, lk_old hp, hbb, lk_old hbb, prB, rowB, pS, u8l_len, Nat.sub_zero, Int.le_refl, ha1, ha2, ha3, ha4, ha5, hz0, q1, hhi, hlo, f1, f2, f3, q3, q4, n1, n2, n3, n4, hlc, hlc2, gi, hsn8, wi4, c3, c4, c5, c6, c7, c8, c9, c10]
          refine InB_n ?_
          refine Thn_n ?_
          refine hK _ _ ?_
          clear hK K
          refine AW.region (by decide) ?_
          simp only [push_cast, simprocAttr, hp, lk_old hp, hbb, lk_old hbb, prB, rowB, pS, u8l_len, Nat.sub_zero, Int.le_refl, ha1, ha2, ha3, ha4, ha5, hz0, q1, hhi, hlo, f1, f2, f3, q3, q4, n1, n2, n3, n4, hlc, hlc2, gi, hsn8, wi4, c3, c4, c5, c6, c7, c8, c9, c10]
          refine Thn_n ?_
          have hwi : IntKind.i64.wrap ((i:Int)+1) = (i:Int)+1 := wi (by omega)
          refine ⟨i + 1, hlt8, by omega, ?_⟩
          try simp only [keepL, setAll, push_cast, simprocAttr, hp, lk_old hp, hbb, lk_old hbb, prB, rowB, pS, u8l_len, Nat.sub_zero, Int.le_refl, ha1, ha2, ha3, ha4, ha5, hz0, q1, hhi, hlo, f1, f2, f3, q3, q4, n1, n2, n3, n4, hlc, hlc2, gi, hsn8, wi4, c3, c4, c5, c6, c7, c8, c9, c10, hwi, hsn8]
          exact Weak.to (extra := [_]) (by simp only [Keeps, Tm.get_cons, Nat.reduceEqDiff, ↓reduceIte, if_true, if_false, ite_true, ite_false, true_and, and_true, and_self, reduceCtorEq, hwi, hsn8]) (by first | rfl | (simp only [List.append_assoc, List.cons_append, List.nil_append]; rfl)) (by first | rfl | (simp [AV.below, CV.below, u8l_below]; done) | (simp [AV.below, CV.below, u8l_below]; omega)) (by
            first | exact hwf | refine MWf.app (hwf.grow (by simp)) ?_
            repeat (first | exact MWf_nil | (refine MWf_cons ?_ ?_; · first | rfl | (simp [CV.below, u8l_below]; done) | (simp [CV.below, u8l_below]; omega))))
        · refine DX.run [0, 1, 3, 4, 2, 5] [.val, .val, .val, .ext, .ext, .wr] (by simp only [permL, reOp, List.idxOf_cons, push_cast, simprocAttr, hp, lk_old hp, hbb, lk_old hbb, prB, rowB, pS, u8l_len, Nat.sub_zero, Int.le_refl, ha1, ha2, ha3, ha4, ha5, hz0, q1, hhi, hlo, f1, f2, f3, q3, q4, n1, n2, n3, n4, hlc, hlc2, gi, hsn8, wi4, c3, c4, c5, c6, c7, c8, c9, c10]; first | done | rfl) (by kernel_rfl) ?_
          simp only [push_cast, simprocAttr, hp, lk_old hp, hbb, lk_old hbb, prB, rowB, pS, u8l_len, Nat.sub_zero, Int.le_refl, ha1, ha2, ha3, ha4, ha5, hz0, q1, hhi, hlo, f1, f2, f3, q3, q4, n1, n2, n3, n4, hlc, hlc2, gi, hsn8, wi4, c3, c4, c5, c6, c7, c8, c9, c10]
          refine DCall.by (four_c _ _) ?_
          simp only [push_cast, simprocAttr, hp, lk_old hp, hbb, lk_old hbb, prB, rowB, pS, u8l_len, Nat.sub_zero, Int.le_refl, ha1, ha2, ha3, ha4, ha5, hz0, q1, hhi, hlo, f1, f2, f3, q3, q4, n1, n2, n3, n4, hlc, hlc2, gi, hsn8, wi4, c3, c4, c5, c6, c7, c8, c9, c10]
          refine DExt.by (by first | rfl | (simp only [List.append_assoc, List.cons_append, List.nil_append]; rfl)) ?_
          simp only [push_cast, simprocAttr, hp, lk_old hp, hbb, lk_old hbb, prB, rowB, pS, u8l_len, Nat.sub_zero, Int.le_refl, ha1, ha2, ha3, ha4, ha5, hz0, q1, hhi, hlo, f1, f2, f3, q3, q4, n1, n2, n3, n4, hlc, hlc2, gi, hsn8, wi4, c3, c4, c5, c6, c7, c8, c9, c10]
          refine InB_n ?_
          refine Thn_n ?_
          refine hK _ _ ?_
          clear hK K
          refine AW.region (by decide) ?_
          simp only [push_cast, simprocAttr, hp, lk_old hp, hbb, lk_old hbb, prB, rowB, pS, u8l_len, Nat.sub_zero, Int.le_refl, ha1, ha2, ha3, ha4, ha5, hz0, q1, hhi, hlo, f1, f2, f3, q3, q4, n1, n2, n3, n4, hlc, hlc2, gi, hsn8, wi4, c3, c4, c5, c6, c7, c8, c9, c10]
          refine Thn_n ?_
          have hwi : IntKind.i64.wrap ((i:Int)+1) = (i:Int)+1 := wi (by omega)
          refine ⟨i + 1, hlt8, by omega, ?_⟩
          try simp only [keepL, setAll, push_cast, simprocAttr, hp, lk_old hp, hbb, lk_old hbb, prB, rowB, pS, u8l_len, Nat.sub_zero, Int.le_refl, ha1, ha2, ha3, ha4, ha5, hz0, q1, hhi, hlo, f1, f2, f3, q3, q4, n1, n2, n3, n4, hlc, hlc2, gi, hsn8, wi4, c3, c4, c5, c6, c7, c8, c9, c10, hwi, hsn8]
          exact Weak.to (extra := [_]) (by simp only [Keeps, Tm.get_cons, Nat.reduceEqDiff, ↓reduceIte, if_true, if_false, ite_true, ite_false, true_and, and_true, and_self, reduceCtorEq, hwi, hsn8]) (by first | rfl | (simp only [List.append_assoc, List.cons_append, List.nil_append]; rfl)) (by first | rfl | (simp [AV.below, CV.below, u8l_below]; done) | (simp [AV.below, CV.below, u8l_below]; omega)) (by
            first | exact hwf | refine MWf.app (hwf.grow (by simp)) ?_
            repeat (first | exact MWf_nil | (refine MWf_cons ?_ ?_; · first | rfl | (simp [CV.below, u8l_below]; done) | (simp [CV.below, u8l_below]; omega))))
      · have hi8e : i = 8 := by have := of_decide_eq_false h62; omega
        subst hi8e
        have hdf : u8l (dP (compN S la (la.length / 64)) 8) = [.int .u8 (IntKind.u8.wrap ((compN S la (la.length / 64)).a.fdiv 16777216)), .int .u8 (IntKind.u8.wrap ((compN S la (la.length / 64)).a.fdiv 65536)), .int .u8 (IntKind.u8.wrap ((compN S la (la.length / 64)).a.fdiv 256)), .int .u8 (IntKind.u8.wrap (compN S la (la.length / 64)).a), .int .u8 (IntKind.u8.wrap ((compN S la (la.length / 64)).b.fdiv 16777216)), .int .u8 (IntKind.u8.wrap ((compN S la (la.length / 64)).b.fdiv 65536)), .int .u8 (IntKind.u8.wrap ((compN S la (la.length / 64)).b.fdiv 256)), .int .u8 (IntKind.u8.wrap (compN S la (la.length / 64)).b), .int .u8 (IntKind.u8.wrap ((compN S la (la.length / 64)).c.fdiv 16777216)), .int .u8 (IntKind.u8.wrap ((compN S la (la.length / 64)).c.fdiv 65536)), .int .u8 (IntKind.u8.wrap ((compN S la (la.length / 64)).c.fdiv 256)), .int .u8 (IntKind.u8.wrap (compN S la (la.length / 64)).c), .int .u8 (IntKind.u8.wrap ((compN S la (la.length / 64)).d.fdiv 16777216)), .int .u8 (IntKind.u8.wrap ((compN S la (la.length / 64)).d.fdiv 65536)), .int .u8 (IntKind.u8.wrap ((compN S la (la.length / 64)).d.fdiv 256)), .int .u8 (IntKind.u8.wrap (compN S la (la.length / 64)).d), .int .u8 (IntKind.u8.wrap ((compN S la (la.length / 64)).e.fdiv 16777216)), .int .u8 (IntKind.u8.wrap ((compN S la (la.length / 64)).e.fdiv 65536)), .int .u8 (IntKind.u8.wrap ((compN S la (la.length / 64)).e.fdiv 256)), .int .u8 (IntKind.u8.wrap (compN S la (la.length / 64)).e), .int .u8 (IntKind.u8.wrap ((compN S la (la.length / 64)).f.fdiv 16777216)), .int .u8 (IntKind.u8.wrap ((compN S la (la.length / 64)).f.fdiv 65536)), .int .u8 (IntKind.u8.wrap ((compN S la (la.length / 64)).f.fdiv 256)), .int .u8 (IntKind.u8.wrap (compN S la (la.length / 64)).f), .int .u8 (IntKind.u8.wrap ((compN S la (la.length / 64)).g.fdiv 16777216)), .int .u8 (IntKind.u8.wrap ((compN S la (la.length / 64)).g.fdiv 65536)), .int .u8 (IntKind.u8.wrap ((compN S la (la.length / 64)).g.fdiv 256)), .int .u8 (IntKind.u8.wrap (compN S la (la.length / 64)).g), .int .u8 (IntKind.u8.wrap ((compN S la (la.length / 64)).h.fdiv 16777216)), .int .u8 (IntKind.u8.wrap ((compN S la (la.length / 64)).h.fdiv 65536)), .int .u8 (IntKind.u8.wrap ((compN S la (la.length / 64)).h.fdiv 256)), .int .u8 (IntKind.u8.wrap (compN S la (la.length / 64)).h)] := rfl
        refine AW.exit ?_
        refine Thn_e ?_
        clear hK K
        refine Thn_e ?_
        refine InB_here ?_
        refine Thn_n ?_
        refine hK _ _ ?_
        clear hK K
        refine AW.seq_k fun K hK => ?_
        refine AW.region (by decide) ?_
        simp only [push_cast, simprocAttr, hp, lk_old hp, hbb, lk_old hbb, prB, rowB, pS, u8l_len, Nat.sub_zero, Int.le_refl, ha1, ha2, ha3, ha4, ha5, hz0, q1, hhi, hlo, f1, f2, f3, q3, q4, n1, n2, n3, n4, hlc, hlc2, hdf]
        refine Thn_n ?_
        refine hK _ _ ?_
        clear hK K
        refine AW.ret ?_
        refine hQ _ _ _ ?_
        refine RetP.drop (Or.inr rfl) ?_ ?_ hwf
        · simp only [resA, resOne, resTv, AV.tv, push_cast, simprocAttr]
          rw [hfin]; rfl
        · rfl
        
end Go.Proofs.Ytmjbbnfmhgcfaaa
