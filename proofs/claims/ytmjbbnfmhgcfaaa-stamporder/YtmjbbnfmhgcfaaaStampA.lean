/- Walks and facts of this seat's program over abstract states, printed by a program of mine; no conditions but those that each theorem names. -/
import Derived.Test.YtmjbbnfmhgcfaaaSealO
set_option linter.unusedSimpArgs false
set_option linter.unusedVariables false
set_option maxRecDepth 100000
set_option maxHeartbeats 4000000
namespace Go.Proofs.Ytmjbbnfmhgcfaaa
open Go Go.Eng

/-- The head of a work's key: its kind, its frame. -/
def hdA (k : Int) : List Int := [87, IntKind.u8.wrap k]
def hdB (f : Int) : List Int := [IntKind.u8.wrap f, IntKind.u8.wrap (f.fdiv 256), IntKind.u8.wrap (f.fdiv 65536), IntKind.u8.wrap (f.fdiv 16777216)]
def hdL (k f : Int) : List Int := hdA k ++ hdB f
theorem hdA_ok (k : Int) : U8ok (hdA k) := fun x hx => by
  simp only [hdA, List.mem_cons, List.not_mem_nil, or_false] at hx
  rcases hx with rfl | rfl
  · omega
  · rw [w8]; omega
theorem hdB_ok (f : Int) : U8ok (hdB f) := fun x hx => by
  simp only [hdB, List.mem_cons, List.not_mem_nil, or_false] at hx
  rcases hx with rfl | rfl | rfl | rfl <;> (rw [w8]; omega)
theorem hdL_ok (k f : Int) : U8ok (hdL k f) := (hdA_ok k).app (hdB_ok f)
def keyI (k f : Int) (D : List Int) (i : Nat) : PS := absS P0 (hdL k f ++ D.take (32 * i))
theorem keyI_succ (k f : Int) (D : List Int) (i : Nat) : absS (keyI k f D i) ((D.drop (32 * i)).take 32) = keyI k f D (i + 1) := by
  unfold keyI
  rw [absS_app, List.append_assoc]
  congr 2
  rw [show 32 * (i + 1) = 32 * i + 32 by omega, List.take_add]
theorem key_c (k f : Int) (lo vo np : Nat) (D : List Int) (ko : BK) (eo : Nat) (m : AMem) (hD : m[lo]? = some ⟨ko, 36, vo, eo, u8l D⟩) (hl : D.length = 32 * np) (hu : U8ok D) (hnp : np ≤ 30) : Ctr Try.prog 14 [.one (.int .i64 k), .one (.int .i64 f), .one (.sl lo vo 0 np)] m (.agg (u8l (shaL (hdL k f ++ D)))) m := by
  refine Ctr.enter Try.func14 rfl (by decide) (rs := [.cell 6 36]) (nt := 42) rfl rfl fun hwf Q hQ => ?_
  have llo := get_lt hD
  have q8 : (2:Int) ^ min 8 IntKind.i64.bits = 256 := by decide
  have q16 : (2:Int) ^ min 16 IntKind.i64.bits = 65536 := by decide
  have q24 : (2:Int) ^ min 24 IntKind.i64.bits = 16777216 := by decide
  have hA : [CV.int .u8 87, .int .u8 (IntKind.u8.wrap k)] = u8l (hdA k) := rfl
  have hB : [CV.int .u8 (IntKind.u8.wrap f), .int .u8 (IntKind.u8.wrap (f.fdiv 256)), .int .u8 (IntKind.u8.wrap (f.fdiv 65536)), .int .u8 (IntKind.u8.wrap (f.fdiv 16777216))] = u8l (hdB f) := rfl
  have hac : absS P0 (hdA k ++ hdB f) = keyI k f D 0 := by simp [keyI, hdL]
  have hst : ∀ i, (keyI k f D i).r.length < 64 := fun i => absS_r _ _
  have hso : ∀ i, U8ok (keyI k f D i).r := fun i => by
    have h := accP_ok (s := P0) U8ok.nil (np := 1) (bf := fun _ => hdL k f ++ D.take (32 * i)) (fun _ _ => (hdL_ok k f).app (hu.take _)) 1 (Nat.le_refl _)
    exact h
  have hfn : keyI k f D np = absS P0 (hdL k f ++ D) := by unfold keyI; rw [← hl, List.take_length]
  have hs1 : setL [.int .u8 0, .int .u8 0, .int .u8 0, .int .u8 0, .int .u8 0, .int .u8 0, .int .u8 0, .int .u8 0, .int .u8 0, .int .u8 0, .int .u8 0, .int .u8 0, .int .u8 0, .int .u8 0, .int .u8 0, .int .u8 0, .int .u8 0, .int .u8 0, .int .u8 0, .int .u8 0, .int .u8 0, .int .u8 0, .int .u8 0, .int .u8 0, .int .u8 0, .int .u8 0, .int .u8 0, .int .u8 0, .int .u8 0, .int .u8 0, .int .u8 0, .int .u8 0] 0 (u8l (shaL (hdL k f ++ D))) = u8l (shaL (hdL k f ++ D)) := setL_full rfl
  have hs2 := shaL_len (hdL k f ++ D)
  have hsh : digL (finS (absS P0 (hdL k f ++ D))) = shaL (hdL k f ++ D) := rfl
  have hs3 := u8l_vals (shaL (hdL k f ++ D))
  have hs4 : (u8l (shaL (hdL k f ++ D))).take 32 = u8l (shaL (hdL k f ++ D)) := List.take_of_length_le (by rw [u8l_len, hs2]; exact Nat.le_refl _)
  refine AW.seq_k fun K hK => ?_
  refine AW.region (by decide) ?_
  simp only [push_cast, simprocAttr, imp_self, hD, lk_old hD, q8, q16, q24, hA, hB, hac, u8l_len, pwr, rowB, prB, Int.le_refl, Nat.le_refl]
  refine Thn_n ?_
  refine hK _ _ ?_
  clear hK K
  refine AW.seq_k fun K hK => ?_
  refine AW.region (by decide) ?_
  simp only [push_cast, simprocAttr, imp_self, hD, lk_old hD, q8, q16, q24, hA, hB, hac, u8l_len, pwr, rowB, prB, Int.le_refl, Nat.le_refl]
  refine CThen.by (new_c _) ?_
  simp only [push_cast, simprocAttr, imp_self, hD, lk_old hD, q8, q16, q24, hA, hB, hac, u8l_len, pwr, rowB, prB, Int.le_refl, Nat.le_refl]
  refine Thn_n ?_
  refine hK _ _ ?_
  clear hK K
  refine AW.seq_k fun K hK => ?_
  refine AW.nilCell 5 1 (m.length + 1) 8 (b := ⟨.fix, 74, 0, 0, [.int .u32 (IV).a, .int .u32 (IV).b, .int .u32 (IV).c, .int .u32 (IV).d, .int .u32 (IV).e, .int .u32 (IV).f, .int .u32 (IV).g, .int .u32 (IV).h, .nils, .int .u64 0]⟩) (by simp only [push_cast, simprocAttr]) (by simp) rfl ?_
  simp only [push_cast, simprocAttr]
  refine AW.region (by decide) ?_
  simp only [push_cast, simprocAttr, imp_self, hD, lk_old hD, q8, q16, q24, hA, hB, hac, u8l_len, pwr, rowB, prB, Int.le_refl, Nat.le_refl]
  refine CThen.by (write2_c (m.length + 1) (m.length + 2) 0 (m.length + 5) 0 0 P0 (.sl (m.length + 3) 0 0 2) (.sl (m.length + 4) 0 0 4) (hdA k) (hdB f) [.sl (m.length + 3) 0 0 2, .sl (m.length + 4) 0 0 4] .grow 1 _ (by simp only [push_cast, simprocAttr]; rfl) (by simp only [push_cast, simprocAttr]; rfl) (by simp only [push_cast, simprocAttr]) (by omega) rfl rfl (.all (k := .grow) (ty := 5) (ez := 1) (by simp only [push_cast, simprocAttr, hA]) rfl (by omega)) (.all (k := .grow) (ty := 5) (ez := 1) (by simp only [push_cast, simprocAttr, hB]) rfl (by omega)) (by show 2 ≤ 1000000; decide) (by show 4 ≤ 1000000; decide) (hdA_ok k) (hdB_ok f) p0_ok U8ok.nil) ?_
  simp only [push_cast, simprocAttr, imp_self, hD, lk_old hD, q8, q16, q24, hA, hB, hac, u8l_len, pwr, rowB, prB, Int.le_refl, Nat.le_refl]
  refine Thn_n ?_
  refine hK _ _ ?_
  clear hK K
  refine AW.seq_k fun K hK => ?_
  refine AW.seq_k fun K hK => ?_
  refine AW.region (by decide) ?_
  simp only [push_cast, simprocAttr, imp_self, hD, lk_old hD, q8, q16, q24, hA, hB, hac, u8l_len, pwr, rowB, prB, Int.le_refl, Nat.le_refl]
  refine Thn_n ?_
  refine hK _ _ ?_
  clear hK K
  refine AW.block ?_
  refine AW.loopK [6, 7, 29, 30] (fun i => i ≤ np) (fun i => [(31, .one (.int .i64 (i : Int)))]) (fun i => [(m.length + 1, prB (keyI k f D i).S (.sl (m.length + 2) (4 + 2 * i) 0 (keyI k f D i).r.length) (keyI k f D i).n), (m.length + 2, rowB (4 + 2 * i) (keyI k f D i).r)]) (fun i => np - i) 0 (by omega) ?_ ?_ fun i hi6 => ?_
  · first | rfl | (simp only [Keeps, Tm.get_cons, Nat.reduceEqDiff, ↓reduceIte, if_true, if_false, ite_true, ite_false, true_and, and_true, and_self, reduceCtorEq, Int.natCast_zero, Nat.mul_zero, Nat.add_zero] <;> rfl)
  · first | rfl | (simp only [setAll, push_cast, simprocAttr, imp_self, hD, lk_old hD, q8, q16, q24, hA, hB, hac, u8l_len, pwr, rowB, prB, Int.le_refl, Nat.le_refl, Int.natCast_zero, Nat.mul_zero, Nat.add_zero] <;> rfl)
  have hi : i ≤ np := hi6
  try simp only [keepL, setAll, push_cast, simprocAttr, imp_self, hD, lk_old hD, q8, q16, q24, hA, hB, hac, u8l_len, pwr, rowB, prB, Int.le_refl, Nat.le_refl]
  refine AW.seq_k fun K hK => ?_
  refine AW.region (by decide) ?_
  simp only [push_cast, simprocAttr, imp_self, hD, lk_old hD, q8, q16, q24, hA, hB, hac, u8l_len, pwr, rowB, prB, Int.le_refl, Nat.le_refl]
  refine Thn_n ?_
  refine hK _ _ ?_
  clear hK K
  refine AW.seq_k fun K hK => ?_
  refine AW.cond rfl (fun h32 => ?_) (fun h32 => ?_)
  · have hlt : i < np := by have := of_decide_eq_true h32; omega
    have c1 : (0 : Int) ≤ (i : Int) := by omega
    have c2 : (i : Int) < (np : Int) := by omega
    have c3 : i * 32 + 32 ≤ D.length := by omega
    have hdl : ((D.drop (32 * i)).take 32).length = 32 := by rw [List.length_take, List.length_drop]; omega
    have e32 : i * 32 = 32 * i := by omega
    have hd1 : ((u8l D).drop (i * 32)).take 32 = u8l ((D.drop (32 * i)).take 32) := by rw [u8l_drop, u8l_take, e32]
    have hd2 : setL [.int .u8 0, .int .u8 0, .int .u8 0, .int .u8 0, .int .u8 0, .int .u8 0, .int .u8 0, .int .u8 0, .int .u8 0, .int .u8 0, .int .u8 0, .int .u8 0, .int .u8 0, .int .u8 0, .int .u8 0, .int .u8 0, .int .u8 0, .int .u8 0, .int .u8 0, .int .u8 0, .int .u8 0, .int .u8 0, .int .u8 0, .int .u8 0, .int .u8 0, .int .u8 0, .int .u8 0, .int .u8 0, .int .u8 0, .int .u8 0, .int .u8 0, .int .u8 0] 0 (u8l ((D.drop (32 * i)).take 32)) = u8l ((D.drop (32 * i)).take 32) := setL_full (by rw [u8l_len, hdl]; rfl)
    have hd3 := u8l_vals ((D.drop (32 * i)).take 32)
    refine AW.skip ?_
    refine Thn_n ?_
    refine hK _ _ ?_
    clear hK K
    refine AW.seq_k fun K hK => ?_
    refine AW.block ?_
    refine AW.seq_k fun K hK => ?_
    refine AW.region (by decide) ?_
    simp only [push_cast, simprocAttr, imp_self, hD, lk_old hD, q8, q16, q24, hA, hB, hac, u8l_len, pwr, rowB, prB, Int.le_refl, Nat.le_refl, c1, c2, c3, hd1, hd2, hd3, hdl]
    refine Thn_n ?_
    refine hK _ _ ?_
    clear hK K
    refine AW.region (by decide) ?_
    simp only [push_cast, simprocAttr, imp_self, hD, lk_old hD, q8, q16, q24, hA, hB, hac, u8l_len, pwr, rowB, prB, Int.le_refl, Nat.le_refl, c1, c2, c3, hd1, hd2, hd3, hdl]
    refine CThen.by (write1_c (m.length + 1) (m.length + 2) (4 + 2 * i) (m.length + 7) 0 0 (keyI k f D i) (.sl (m.length + 6) 0 0 32) ((D.drop (32 * i)).take 32) [.sl (m.length + 6) 0 0 32] .grow 1 _ (by simp only [push_cast, simprocAttr, prB]) (by simp only [push_cast, simprocAttr, rowB]) (by simp only [push_cast, simprocAttr]) (by omega) rfl (.all (k := .fix) (ty := 36) (ez := 0) (by simp only [push_cast, simprocAttr, hd1, hd2]) hdl.symm (by omega)) (by omega) ((hu.drop _).take _) (hst i) (hso i)) ?_
    simp only [push_cast, simprocAttr, imp_self, hD, lk_old hD, q8, q16, q24, hA, hB, hac, u8l_len, pwr, rowB, prB, Int.le_refl, Nat.le_refl, c1, c2, c3, hd1, hd2, hd3, hdl]
    refine InB_n ?_
    refine Thn_n ?_
    refine hK _ _ ?_
    clear hK K
    refine AW.region (by decide) ?_
    simp only [push_cast, simprocAttr, imp_self, hD, lk_old hD, q8, q16, q24, hA, hB, hac, u8l_len, pwr, rowB, prB, Int.le_refl, Nat.le_refl, c1, c2, c3, hd1, hd2, hd3, hdl]
    refine Thn_n ?_
    have hwi : IntKind.i64.wrap ((i:Int)+1) = (i:Int)+1 := wi (by omega)
    have e9 : 4 + 2 * (i + 1) = 4 + (2 * i + 2) := by omega
    have hks := keyI_succ k f D i
    refine ⟨i + 1, hlt, by omega, ?_⟩
    try simp only [keepL, setAll, push_cast, simprocAttr, imp_self, hD, lk_old hD, q8, q16, q24, hA, hB, hac, u8l_len, pwr, rowB, prB, Int.le_refl, Nat.le_refl, c1, c2, c3, hd1, hd2, hd3, hdl, hwi, e9, hks]
    exact Weak.to (extra := [_, _]) (by simp only [Keeps, Tm.get_cons, Nat.reduceEqDiff, ↓reduceIte, if_true, if_false, ite_true, ite_false, true_and, and_true, and_self, reduceCtorEq, hwi, e9, hks]) (by first | rfl | (simp only [List.append_assoc, List.cons_append, List.nil_append]; rfl)) (by first | rfl | (simp [AV.below, CV.below, u8l_below]; done) | (simp [AV.below, CV.below, u8l_below]; omega)) (by
      first | exact hwf | refine MWf.app (hwf.grow (by simp)) ?_
      repeat (first | exact MWf_nil | (refine MWf_cons ?_ ?_; · first | rfl | (simp [CV.below, u8l_below]; done) | (simp [CV.below, u8l_below]; omega))))
  · have hie : i = np := by have := of_decide_eq_false h32; omega
    subst hie
    refine AW.exit ?_
    refine Thn_e ?_
    clear hK K
    refine Thn_e ?_
    refine InB_here ?_
    refine Thn_n ?_
    refine hK _ _ ?_
    clear hK K
    refine AW.seq_k fun K hK => ?_
    refine AW.region (by decide) ?_
    simp only [push_cast, simprocAttr, imp_self, hD, lk_old hD, q8, q16, q24, hA, hB, hac, u8l_len, pwr, rowB, prB, Int.le_refl, Nat.le_refl, hs1, hs2, hs3, hfn, hsh]
    refine CThen.by (sum_c (m.length + 1) (m.length + 2) (4 + 2 * i) (absS P0 (hdL k f ++ D)) _ (by simp only [push_cast, simprocAttr, prB]) (by simp only [push_cast, simprocAttr, rowB]) (absS_r _ _) (hfn ▸ hso i)) ?_
    simp only [push_cast, simprocAttr, imp_self, hD, lk_old hD, q8, q16, q24, hA, hB, hac, u8l_len, pwr, rowB, prB, Int.le_refl, Nat.le_refl, hs1, hs2, hs3, hfn, hsh]
    refine Thn_n ?_
    refine hK _ _ ?_
    clear hK K
    refine AW.ret ?_
    refine hQ _ _ _ ?_
    refine RetP.drop (Or.inr rfl) ?_ ?_ hwf
    · simp only [resA, resOne, resTv, AV.tv, push_cast, simprocAttr, hs1, hs2, hs3, hs4, u8l_len]
    · rfl
    
end Go.Proofs.Ytmjbbnfmhgcfaaa
