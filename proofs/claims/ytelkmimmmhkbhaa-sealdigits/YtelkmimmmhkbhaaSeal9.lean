/- Walks and facts of this seat's program over abstract states, printed by a program of mine; no conditions but those that each theorem names. -/
import Derived.Test.YtelkmimmmhkbhaaSeal8
set_option linter.unusedSimpArgs false
set_option linter.unusedVariables false
set_option maxRecDepth 100000
set_option maxHeartbeats 4000000
namespace Go.Proofs.Ytelkmimmmhkbhaa
open Go Go.Eng

def hexU (d : Int) : UInt8 := if d < 10 then UInt8.ofNat (48 + d.toNat) else UInt8.ofNat (87 + d.toNat)
def hexD (d : Int) : Int := ((hexU d).toNat : Int)
theorem hexD_ok (d : Int) : 0 ≤ hexD d ∧ hexD d ≤ 255 := by
  have := (hexU d).toNat_lt
  unfold hexD; omega
def DS : ByteArray := { data := #[48, 49, 50, 51, 52, 53, 54, 55, 56, 57, 97, 98, 99, 100, 101, 102] }
theorem ds_fin : ∀ k : Fin 16, DS[k.val]? = some (hexU ((k.val : Nat) : Int)) := by decide +kernel
theorem ds_get {d : Int} (h0 : 0 ≤ d) (h1 : d ≤ 15) : DS[d.toNat]? = some (hexU d) := by
  have := ds_fin ⟨d.toNat, by omega⟩
  simp only at this
  rw [this, Int.toNat_of_nonneg h0]
theorem and15_fin : ∀ k : Fin 256, bits .and .u8 ((k.val : Nat) : Int) 15 = ((k.val % 16 : Nat) : Int) := by decide +kernel
theorem and15 {x : Int} (h : 0 ≤ x ∧ x ≤ 255) : bits .and .u8 x 15 = x % 16 := by
  have := and15_fin ⟨x.toNat, by omega⟩
  simp only [Int.toNat_of_nonneg h.1] at this
  rw [this]; omega
def hexP (bs : List Int) : Nat → List Int
  | 0 => []
  | i + 1 => hexP bs i ++ [hexD ((byB bs i).fdiv 16), hexD (byB bs i % 16)]
theorem hexP_len (bs : List Int) : ∀ i, (hexP bs i).length = 2 * i
  | 0 => rfl
  | i + 1 => by simp only [hexP, List.length_append, hexP_len bs i]; simp; omega
theorem hexP_ok (bs : List Int) : ∀ i, U8ok (hexP bs i)
  | 0 => U8ok.nil
  | i + 1 => (hexP_ok bs i).app fun x hx => by
    simp only [List.mem_cons, List.not_mem_nil, or_false] at hx
    rcases hx with rfl | rfl <;> exact hexD_ok _
def aI (r i : Nat) : CV := if i = 0 then .nilp else .ptr r 0 0
theorem aI_or (r i : Nat) : aI r i = .nilp ∨ aI r i = .ptr r 0 0 := by unfold aI; split <;> simp
theorem aI_succ (r i : Nat) : aI r (i + 1) = .ptr r 0 0 := by simp [aI]
/-- The text of some bytes' digits. -/
def hexS (bs : List Int) : ByteArray := strB (hexP bs bs.length)
theorem hex0_c (rb v off : Nat) (m : AMem) : Ctr Try.prog 16 [.one (.sl rb v off 0)] m (.one (.str ByteArray.empty)) m := by
  refine Ctr.enter Try.func16 rfl (by decide) (rs := [.tmp 2]) (nt := 22) rfl rfl fun hwf Q hQ => ?_
  iterate 2
    refine AW.seq_k fun K hK => ?_
    refine AW.region (by decide) ?_
    simp only [push_cast, simprocAttr]
    refine Thn_n ?_
    refine hK _ _ ?_
    clear hK K
  refine AW.seq_k fun K hK => ?_
  refine AW.seq_k fun K hK => ?_
  refine AW.region (by decide) ?_
  simp only [push_cast, simprocAttr]
  refine Thn_n ?_
  refine hK _ _ ?_
  clear hK K
  refine AW.block ?_
  refine AW.rounds 1 ?_
  refine ARounds.succ fun K hK => ?_
  refine AW.seq_k fun K hK => ?_
  refine AW.region (by decide) ?_
  simp only [push_cast, simprocAttr]
  refine Thn_n ?_
  refine hK _ _ ?_
  clear hK K
  refine AW.seq_k fun K hK => ?_
  refine AW.cond_f rfl ?_
  refine AW.exit ?_
  refine Thn_e ?_
  clear hK K
  refine Thn_e ?_
  clear hK K
  refine InB_here ?_
  refine Thn_n ?_
  refine hK _ _ ?_
  clear hK K
  refine AW.seq_k fun K hK => ?_
  refine AW.region (by decide) ?_
  simp only [push_cast, simprocAttr]
  refine CThen.by (bs0_c m.length .nilp _ (by simp only [push_cast, simprocAttr])) ?_
  simp only [push_cast, simprocAttr]
  refine Thn_n ?_
  refine hK _ _ ?_
  clear hK K
  refine AW.ret ?_
  refine hQ _ _ _ ?_
  first | refine RetP.drop0 (Or.inr rfl) ?_ ?_ hwf | refine RetP.drop (Or.inr rfl) ?_ ?_ hwf
  · simp only [resA, resOne, resTv, AV.tv, push_cast, simprocAttr]
  · rfl
theorem hex_c (rb v off : Nat) (bs X : List Int) (m : AMem) (hb : ∃ k ty ez, m[rb]? = some ⟨k, ty, v, ez, u8l X⟩) (hf : off + bs.length ≤ X.length) (hx : (X.drop off).take bs.length = bs) (hu : U8ok bs) (h0 : 0 < bs.length) (hl : bs.length ≤ 100000) : Ctr Try.prog 16 [.one (.sl rb v off bs.length)] m (.one (.str (hexS bs))) m := by
  refine Ctr.enter Try.func16 rfl (by decide) (rs := [.tmp 2]) (nt := 22) rfl rfl fun hwf Q hQ => ?_
  obtain ⟨k0, ty0, ez, hb⟩ := hb
  have lb := get_lt hb
  have q1 : (2:Int) ^ min 4 IntKind.u8.bits = 16 := by decide
  have hds : DS = { data := #[48, 49, 50, 51, 52, 53, 54, 55, 56, 57, 97, 98, 99, 100, 101, 102] } := rfl
  iterate 2
    refine AW.seq_k fun K hK => ?_
    refine AW.region (by decide) ?_
    simp only [push_cast, simprocAttr, hb, lk_old hb, q1, u8l_len, hds.symm]
    refine Thn_n ?_
    refine hK _ _ ?_
    clear hK K
  refine AW.seq_k fun K hK => ?_
  refine AW.seq_k fun K hK => ?_
  refine AW.nilCell 5 1 m.length 1 (b := ⟨.fix, 62, 0, 0, [.nilp, .nils]⟩) (by simp only [push_cast, simprocAttr]) (by simp) rfl ?_
  simp only [push_cast, simprocAttr]
  refine AW.region (by decide) ?_
  simp only [push_cast, simprocAttr, hb, lk_old hb, q1, u8l_len, hds.symm]
  refine Thn_n ?_
  refine hK _ _ ?_
  clear hK K
  refine AW.block ?_
  refine AW.loopK [3, 6, 7] (fun i => i ≤ bs.length) (fun i => [(8, .one (.int .i64 (i : Int)))]) (fun i => [(m.length, ⟨.fix, 62, 0, 0, [aI m.length i, .sl (m.length + 1) (2 * i) 0 (hexP bs i).length]⟩), (m.length + 1, ⟨.grow, 5, 2 * i, 1, u8l (hexP bs i)⟩)]) (fun i => bs.length - i) 0 (by omega) ?_ ?_ fun i hi5 => ?_
  · first | rfl | (simp only [Keeps, Tm.get_cons, Nat.reduceEqDiff, ↓reduceIte, if_true, if_false, ite_true, ite_false, true_and, and_true, and_self, reduceCtorEq, Nat.mul_zero, hexP, u8l, List.map_nil, aI] <;> rfl)
  · first | rfl | (simp only [setAll, push_cast, simprocAttr, hb, lk_old hb, q1, u8l_len, hds.symm, Nat.mul_zero, hexP, u8l, List.map_nil, aI] <;> rfl)
  try simp only [keepL, setAll, push_cast, simprocAttr, hb, lk_old hb, q1, u8l_len, hds.symm]
  refine AW.seq_k fun K hK => ?_
  refine AW.region (by decide) ?_
  simp only [push_cast, simprocAttr, hb, lk_old hb, q1, u8l_len, hds.symm]
  refine Thn_n ?_
  refine hK _ _ ?_
  clear hK K
  refine AW.seq_k fun K hK => ?_
  refine AW.cond rfl (fun h9 => ?_) (fun h9 => ?_)
  · have hlt : i < bs.length := by have := of_decide_eq_true h9; omega
    have c1 : (0 : Int) ≤ (i : Int) := by omega
    have c2 : (i : Int) < (bs.length : Int) := by omega
    have hg : (u8l X)[off + i]? = some (.int .u8 (byB bs i)) := by
      rw [u8l_get (by omega)]
      congr 2
      have : byB bs i = byB ((X.drop off).take bs.length) i := by rw [hx]
      rw [this]; unfold byB
      rw [List.getD_eq_getElem?_getD, List.getD_eq_getElem?_getD, List.getElem?_take, if_pos hlt, List.getElem?_drop]
    have hr := hu.by i
    have hfd : (byB bs i).fdiv 16 = byB bs i / 16 := Int.fdiv_eq_ediv_of_nonneg _ (by omega)
    have a1 : (0 : Int) ≤ (byB bs i).fdiv 16 := by rw [hfd]; omega
    have a2 := ds_get a1 (by rw [hfd]; omega)
    have a3 := and15 hr
    have a4 : (0 : Int) ≤ byB bs i % 16 := by omega
    have a5 := ds_get a4 (by omega)
    have hd1 : (((hexU ((byB bs i).fdiv 16)).toNat : Nat) : Int) = hexD ((byB bs i).fdiv 16) := rfl
    have hd2 : (((hexU (byB bs i % 16)).toNat : Nat) : Int) = hexD (byB bs i % 16) := rfl
    have hpl := hexP_len bs i
    have hpa : (hexP bs i ++ [hexD ((byB bs i).fdiv 16)]).length = (hexP bs i).length + 1 := by rw [List.length_append]; rfl
    refine AW.skip ?_
    refine Thn_n ?_
    refine hK _ _ ?_
    clear hK K
    refine AW.seq_k fun K hK => ?_
    refine AW.block ?_
    refine AW.seq_k fun K hK => ?_
    refine AW.region (by decide) ?_
    simp only [push_cast, simprocAttr, hb, lk_old hb, q1, u8l_len, hds.symm, c1, c2, hg, a1, a2, a3, a4, a5, hd1, hd2]
    refine Thn_n ?_
    refine hK _ _ ?_
    clear hK K
    refine AW.seq_k fun K hK => ?_
    refine AW.region (by decide) ?_
    simp only [push_cast, simprocAttr, hb, lk_old hb, q1, u8l_len, hds.symm, c1, c2, hg, a1, a2, a3, a4, a5, hd1, hd2]
    refine CThen.by (wb_c m.length (m.length + 1) (2 * i) (aI m.length i) (hexP bs i) (hexD ((byB bs i).fdiv 16)) _ (by simp only [push_cast, simprocAttr]) (by simp only [push_cast, simprocAttr]) (aI_or _ _) (by omega)) ?_
    simp only [push_cast, simprocAttr, hb, lk_old hb, q1, u8l_len, hds.symm, c1, c2, hg, a1, a2, a3, a4, a5, hd1, hd2]
    refine Thn_n ?_
    refine hK _ _ ?_
    clear hK K
    refine AW.region (by decide) ?_
    simp only [push_cast, simprocAttr, hb, lk_old hb, q1, u8l_len, hds.symm, c1, c2, hg, a1, a2, a3, a4, a5, hd1, hd2]
    refine CThen.by (wb_c m.length (m.length + 1) (2 * i + 1) (.ptr m.length 0 0) ((hexP bs i) ++ [(hexD ((byB bs i).fdiv 16))]) (hexD (byB bs i % 16)) _ (by simp only [push_cast, simprocAttr, hpa]) (by simp only [push_cast, simprocAttr]) (Or.inr rfl) (by omega)) ?_
    simp only [push_cast, simprocAttr, hb, lk_old hb, q1, u8l_len, hds.symm, c1, c2, hg, a1, a2, a3, a4, a5, hd1, hd2]
    refine InB_n ?_
    refine Thn_n ?_
    refine hK _ _ ?_
    clear hK K
    refine AW.region (by decide) ?_
    simp only [push_cast, simprocAttr, hb, lk_old hb, q1, u8l_len, hds.symm, c1, c2, hg, a1, a2, a3, a4, a5, hd1, hd2]
    refine Thn_n ?_
    have hwi : IntKind.i64.wrap ((i:Int)+1) = (i:Int)+1 := wi (by omega)
    have e1 : 2 * (i + 1) = 2 * i + 2 := by omega
    have e2 := aI_succ m.length i
    have e3 : (hexP bs (i + 1)).length = (hexP bs i).length + 2 := by rw [hexP_len, hexP_len]; omega
    have e4 : hexP bs (i + 1) = (hexP bs i) ++ [(hexD ((byB bs i).fdiv 16)), (hexD (byB bs i % 16))] := rfl
    refine ⟨i + 1, by omega, by omega, ?_⟩
    try simp only [keepL, setAll, push_cast, simprocAttr, hb, lk_old hb, q1, u8l_len, hds.symm, c1, c2, hg, a1, a2, a3, a4, a5, hd1, hd2, hwi, e1, e2, e3, e4]
    exact Weak.same (by simp only [Keeps, Tm.get_cons, Nat.reduceEqDiff, ↓reduceIte, if_true, if_false, ite_true, ite_false, true_and, and_true, and_self, reduceCtorEq, hwi, e1, e2, e3, e4]) (by first | rfl | simp only [Keeps, Tm.get_cons, Nat.reduceEqDiff, ↓reduceIte, if_true, if_false, ite_true, ite_false, true_and, and_true, and_self, reduceCtorEq, hwi, e1, e2, e3, e4])
  · have hin : i = bs.length := by have := of_decide_eq_false h9; omega
    subst hin
    have hpl := hexP_len bs bs.length
    refine AW.exit ?_
    refine Thn_e ?_
    clear hK K
    refine Thn_e ?_
    refine InB_here ?_
    refine Thn_n ?_
    refine hK _ _ ?_
    clear hK K
    refine AW.seq_k fun K hK => ?_
    refine AW.region (by decide) ?_
    simp only [push_cast, simprocAttr, hb, lk_old hb, q1, u8l_len, hds.symm]
    refine CThen.by (bs_c m.length (m.length + 1) (2 * bs.length) (aI m.length bs.length) (hexP bs bs.length) _ (by simp only [push_cast, simprocAttr]) (by simp only [push_cast, simprocAttr]) (by omega) (hexP_ok _ _)) ?_
    simp only [push_cast, simprocAttr, hb, lk_old hb, q1, u8l_len, hds.symm]
    refine Thn_n ?_
    refine hK _ _ ?_
    clear hK K
    refine AW.ret ?_
    refine hQ _ _ _ ?_
    first | refine RetP.drop0 (Or.inr rfl) ?_ ?_ hwf | refine RetP.drop (Or.inr rfl) ?_ ?_ hwf
    · simp only [resA, resOne, resTv, AV.tv, push_cast, simprocAttr, hb, lk_old hb, q1, u8l_len, hds.symm, hexS]
    · rfl
end Go.Proofs.Ytelkmimmmhkbhaa
