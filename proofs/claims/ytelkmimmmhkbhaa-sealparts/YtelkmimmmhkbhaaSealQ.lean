/- Walks and facts of this seat's program over abstract states, printed by a program of mine; no conditions but those that each theorem names. -/
import Derived.Test.YtelkmimmmhkbhaaAwakeSe
set_option linter.unusedSimpArgs false
set_option linter.unusedVariables false
set_option maxRecDepth 100000
set_option maxHeartbeats 4000000
namespace Go.Proofs.Ytelkmimmmhkbhaa
open Go Go.Eng

theorem dig_lit (S : S8) : u8l (digL S) = [.int .u8 (IntKind.u8.wrap (S.a.fdiv 16777216)), .int .u8 (IntKind.u8.wrap (S.a.fdiv 65536)), .int .u8 (IntKind.u8.wrap (S.a.fdiv 256)), .int .u8 (IntKind.u8.wrap S.a), .int .u8 (IntKind.u8.wrap (S.b.fdiv 16777216)), .int .u8 (IntKind.u8.wrap (S.b.fdiv 65536)), .int .u8 (IntKind.u8.wrap (S.b.fdiv 256)), .int .u8 (IntKind.u8.wrap S.b), .int .u8 (IntKind.u8.wrap (S.c.fdiv 16777216)), .int .u8 (IntKind.u8.wrap (S.c.fdiv 65536)), .int .u8 (IntKind.u8.wrap (S.c.fdiv 256)), .int .u8 (IntKind.u8.wrap S.c), .int .u8 (IntKind.u8.wrap (S.d.fdiv 16777216)), .int .u8 (IntKind.u8.wrap (S.d.fdiv 65536)), .int .u8 (IntKind.u8.wrap (S.d.fdiv 256)), .int .u8 (IntKind.u8.wrap S.d), .int .u8 (IntKind.u8.wrap (S.e.fdiv 16777216)), .int .u8 (IntKind.u8.wrap (S.e.fdiv 65536)), .int .u8 (IntKind.u8.wrap (S.e.fdiv 256)), .int .u8 (IntKind.u8.wrap S.e), .int .u8 (IntKind.u8.wrap (S.f.fdiv 16777216)), .int .u8 (IntKind.u8.wrap (S.f.fdiv 65536)), .int .u8 (IntKind.u8.wrap (S.f.fdiv 256)), .int .u8 (IntKind.u8.wrap S.f), .int .u8 (IntKind.u8.wrap (S.g.fdiv 16777216)), .int .u8 (IntKind.u8.wrap (S.g.fdiv 65536)), .int .u8 (IntKind.u8.wrap (S.g.fdiv 256)), .int .u8 (IntKind.u8.wrap S.g), .int .u8 (IntKind.u8.wrap (S.h.fdiv 16777216)), .int .u8 (IntKind.u8.wrap (S.h.fdiv 65536)), .int .u8 (IntKind.u8.wrap (S.h.fdiv 256)), .int .u8 (IntKind.u8.wrap S.h)] := rfl
theorem writeNil_c (x : AV) (m : AMem) : Ctr Try.prog 12 [.one .nilp, x] m (.tup []) m := by
  refine Ctr.enter Try.func12 rfl (by decide) (rs := []) (nt := 64) rfl rfl fun hwf Q hQ => ?_
  refine AW.seq_k fun K hK => ?_
  refine AW.seq_k fun K hK => ?_
  refine AW.region (by decide) ?_
  simp only [push_cast, simprocAttr]
  refine Thn_n ?_
  refine hK _ _ ?_
  clear hK K
  refine AW.cond_t rfl ?_
  refine AW.ret ?_
  refine Thn_r ?_
  refine hQ _ _ _ ?_
  first | refine RetP.drop0 (Or.inr rfl) ?_ ?_ hwf | refine RetP.drop (Or.inr rfl) ?_ ?_ hwf
  · simp only [resA, resOne, resTv, AV.tv, push_cast, simprocAttr]
  · rfl
theorem sumNil_c (m : AMem) : Ctr Try.prog 13 [.one .nilp] m (.agg [.int .u8 0, .int .u8 0, .int .u8 0, .int .u8 0, .int .u8 0, .int .u8 0, .int .u8 0, .int .u8 0, .int .u8 0, .int .u8 0, .int .u8 0, .int .u8 0, .int .u8 0, .int .u8 0, .int .u8 0, .int .u8 0, .int .u8 0, .int .u8 0, .int .u8 0, .int .u8 0, .int .u8 0, .int .u8 0, .int .u8 0, .int .u8 0, .int .u8 0, .int .u8 0, .int .u8 0, .int .u8 0, .int .u8 0, .int .u8 0, .int .u8 0, .int .u8 0]) m := by
  refine Ctr.enter Try.func13 rfl (by decide) (rs := [.cell 2 25]) (nt := 73) rfl rfl fun hwf Q hQ => ?_
  refine AW.seq_k fun K hK => ?_
  refine AW.region (by decide) ?_
  simp only [push_cast, simprocAttr]
  refine Thn_n ?_
  refine hK _ _ ?_
  clear hK K
  refine AW.seq_k fun K hK => ?_
  refine AW.seq_k fun K hK => ?_
  refine AW.region (by decide) ?_
  simp only [push_cast, simprocAttr]
  refine Thn_n ?_
  refine hK _ _ ?_
  clear hK K
  refine AW.cond_t rfl ?_
  refine AW.seq_k fun K hK => ?_
  refine AW.region (by decide) ?_
  simp only [push_cast, simprocAttr]
  refine Thn_n ?_
  refine hK _ _ ?_
  clear hK K
  refine AW.ret ?_
  refine Thn_r ?_
  refine hQ _ _ _ ?_
  first | refine RetP.drop0 (Or.inr rfl) ?_ ?_ hwf | refine RetP.drop (Or.inr rfl) ?_ ?_ hwf
  · simp only [resA, resOne, resTv, AV.tv, push_cast, simprocAttr]
  · rfl
def xorP (bs : List Int) : Nat → List Int
  | 0 => bs
  | k + 1 => (xorP bs k).set k (bits .xor .u8 (byB (xorP bs k) k) 255)
theorem xorP_len (bs : List Int) : ∀ k, (xorP bs k).length = bs.length
  | 0 => rfl
  | k + 1 => by simp only [xorP, List.length_set, xorP_len bs k]
theorem u8l_set (xs : List Int) (i : Nat) (x : Int) : (u8l xs).set i (.int .u8 x) = u8l (xs.set i x) := by simp [u8l, List.map_set]
theorem catP_len {bf : Nat → List Int} : ∀ i, (∀ j, j < i → (bf j).length ≤ 2000) → (catP bf i).length ≤ 2000 * i
  | 0, _ => by simp [catP]
  | i + 1, h => by
    have := catP_len i fun j hj => h j (by omega)
    have := h i (by omega)
    simp only [catP, List.length_append]; omega
theorem parts_c (rl N : Nat) (rf : Nat → Nat) (bf : Nat → List Int) (X : List CV) (m : AMem) (hl : m[rl]? = some ⟨.ro, 22, 0, 1, X⟩) (hX : ∀ i, i < N → X[i]? = some (.sl (rf i) 0 0 (bf i).length)) (hR : ∀ i, i < N → m[rf i]? = some ⟨.ro, 5, 0, 1, u8l (bf i)⟩) (hO : ∀ i, i < N → U8ok (bf i)) : Ctr Try.prog 4 [.one (.sl rl 0 0 N)] m (.one (.bool true)) m := by
  refine Ctr.enter Try.func4 rfl (by decide) (rs := [.tmp 2]) (nt := 89) rfl rfl fun hwf Q hQ => ?_
  have lrl := get_lt hl
  have hbq : ∀ x : Int, (x == x) = true := fun x => beq_self_eq_true x
  obtain ⟨S0, hS0⟩ : ∃ S0, finS (absS P0 []) = S0 := ⟨_, rfl⟩
  have hz1 := shaL_len []
  have hz2 := eqp32 (shaL_len [])
  refine AW.seq_k fun K hK => ?_
  refine AW.region (by decide) ?_
  simp only [push_cast, simprocAttr, hbq, hz2, List.append_nil, hl, lk_old hl, u8l_len, Int.le_refl, prB, rowB, pwr, Nat.sub_zero]
  refine Thn_n ?_
  refine hK _ _ ?_
  clear hK K
  refine AW.seq_k fun K hK => ?_
  refine AW.region (by decide) ?_
  simp only [push_cast, simprocAttr, hbq, hz2, List.append_nil, hl, lk_old hl, u8l_len, Int.le_refl, prB, rowB, pwr, Nat.sub_zero]
  refine CThen.by (new_c _) ?_
  simp only [push_cast, simprocAttr, hbq, hz2, List.append_nil, hl, lk_old hl, u8l_len, Int.le_refl, prB, rowB, pwr, Nat.sub_zero]
  refine Thn_n ?_
  refine hK _ _ ?_
  clear hK K
  refine AW.seq_k fun K hK => ?_
  refine AW.region (by decide) ?_
  simp only [push_cast, simprocAttr, hbq, hz2, List.append_nil, hl, lk_old hl, u8l_len, Int.le_refl, prB, rowB, pwr, Nat.sub_zero]
  refine Thn_n ?_
  refine hK _ _ ?_
  clear hK K
  refine AW.seq_k fun K hK => ?_
  refine AW.seq_k fun K hK => ?_
  refine AW.nilCell 5 1 m.length 8 (b := ⟨.fix, 56, 0, 0, [.int .u32 (IV).a, .int .u32 (IV).b, .int .u32 (IV).c, .int .u32 (IV).d, .int .u32 (IV).e, .int .u32 (IV).f, .int .u32 (IV).g, .int .u32 (IV).h, .nils, .int .u64 0]⟩) (by simp only [push_cast, simprocAttr]) (by simp) rfl ?_
  refine AW.nilTm 5 1 4 (by simp only [push_cast, simprocAttr]) ?_
  simp only [push_cast, simprocAttr]
  refine AW.region (by decide) ?_
  simp only [push_cast, simprocAttr, hbq, hz2, List.append_nil, hl, lk_old hl, u8l_len, Int.le_refl, prB, rowB, pwr, Nat.sub_zero]
  refine Thn_n ?_
  refine hK _ _ ?_
  clear hK K
  refine AW.block ?_
  refine AW.loopK [3, 11, 12] (fun i => i ≤ N ∧ i ≤ 30 ∧ (∀ j, j < i → (bf j).length ≤ 2000)) (fun i => [(4, .one (.sl (m.length + 2) i 0 (catP bf i).length)), (13, .one (.int .i64 (i : Int)))]) (fun i => [(m.length, prB (accP P0 bf i).S (.sl (m.length + 1) (2 * i) 0 (accP P0 bf i).r.length) (accP P0 bf i).n), (m.length + 1, rowB (2 * i) (accP P0 bf i).r), (m.length + 2, ⟨.grow, 5, i, 1, u8l (catP bf i)⟩)]) (fun i => N - i) 0 ⟨by omega, by omega, fun j hj => by omega⟩ ?_ ?_ fun i hi6 => ?_
  · first | rfl | (simp only [Keeps, Tm.get_cons, Nat.reduceEqDiff, ↓reduceIte, if_true, if_false, ite_true, ite_false, true_and, and_true, and_self, reduceCtorEq, accP, catP, P0, u8l, List.map_nil, Nat.mul_zero, List.length_nil, Int.natCast_zero] <;> rfl)
  · first | rfl | (simp only [setAll, push_cast, simprocAttr, hbq, hz2, List.append_nil, hl, lk_old hl, u8l_len, Int.le_refl, prB, rowB, pwr, Nat.sub_zero, accP, catP, P0, u8l, List.map_nil, Nat.mul_zero, List.length_nil, Int.natCast_zero] <;> rfl)
  obtain ⟨hiN, hi30, hsmall⟩ := hi6
  have hcl := catP_len i hsmall
  have hst := accP_r (s := P0) (by decide) bf i
  have hso := accP_ok (s := P0) U8ok.nil (np := i) (bf := bf) (fun j hj => hO j (by omega)) i (Nat.le_refl _)
  have hco := catP_ok (np := i) (bf := bf) (fun j hj => hO j (by omega)) i (Nat.le_refl _)
  try simp only [keepL, setAll, push_cast, simprocAttr, hbq, hz2, List.append_nil, hl, lk_old hl, u8l_len, Int.le_refl, prB, rowB, pwr, Nat.sub_zero]
  refine AW.seq_k fun K hK => ?_
  refine AW.region (by decide) ?_
  simp only [push_cast, simprocAttr, hbq, hz2, List.append_nil, hl, lk_old hl, u8l_len, Int.le_refl, prB, rowB, pwr, Nat.sub_zero]
  refine Thn_n ?_
  refine hK _ _ ?_
  clear hK K
  refine AW.seq_k fun K hK => ?_
  refine AW.cond rfl (fun h14 => ?_) (fun h14 => ?_)
  · have hlt : i < N := by have := of_decide_eq_true h14; omega
    have c1 : (0 : Int) ≤ (i : Int) := by omega
    have c2 : (i : Int) < (N : Int) := by omega
    have hXi := hX i hlt
    have hRi := hR i hlt
    have lR := get_lt hRi
    have hOi := hO i hlt
    have gl := u8l_len (bf i)
    have gv := u8l_vals (bf i)
    have gt : (u8l (bf i)).take (bf i).length = u8l (bf i) := List.take_of_length_le (by rw [gl]; exact Nat.le_refl _)
    refine AW.skip ?_
    refine Thn_n ?_
    refine hK _ _ ?_
    clear hK K
    refine AW.seq_k fun K hK => ?_
    refine AW.block ?_
    refine AW.seq_k fun K hK => ?_
    refine AW.region (by decide) ?_
    simp only [push_cast, simprocAttr, hbq, hz2, List.append_nil, hl, lk_old hl, u8l_len, Int.le_refl, prB, rowB, pwr, Nat.sub_zero, c1, c2, hXi, hRi, lk_old hRi, gl, gv, gt]
    refine Thn_n ?_
    refine hK _ _ ?_
    clear hK K
    refine AW.seq_k fun K hK => ?_
    refine AW.seq_k fun K hK => ?_
    rcases Nat.lt_or_ge i 30 with hc | hc
    · have c3 : ¬ (30 : Int) ≤ (i : Int) := by omega
      refine AW.region (by decide) ?_
      simp only [push_cast, simprocAttr, hbq, hz2, List.append_nil, hl, lk_old hl, u8l_len, Int.le_refl, prB, rowB, pwr, Nat.sub_zero, c1, c2, hXi, hRi, lk_old hRi, gl, gv, gt, c3]
      refine Thn_n ?_
      refine hK _ _ ?_
      clear hK K
      refine AW.cond rfl (fun h24 => ?_) (fun h24 => ?_)
      · refine AW.exit ?_
        refine Thn_e ?_
        clear hK K
        refine InB_far (by decide) ?_
        refine Thn_e ?_
        clear hK K
        refine Thn_e ?_
        refine InB_here ?_
        iterate 2
          refine Thn_n ?_
          refine hK _ _ ?_
          clear hK K
          refine AW.seq_k fun K hK => ?_
          refine AW.region (by decide) ?_
          simp only [push_cast, simprocAttr, hbq, hz2, List.append_nil, hl, lk_old hl, u8l_len, Int.le_refl, prB, rowB, pwr, Nat.sub_zero, c1, c2, hXi, hRi, lk_old hRi, gl, gv, gt, c3]
        refine CThen.by (writeNil_c _ _) ?_
        simp only [push_cast, simprocAttr, hbq, hz2, List.append_nil, hl, lk_old hl, u8l_len, Int.le_refl, prB, rowB, pwr, Nat.sub_zero, c1, c2, hXi, hRi, lk_old hRi, gl, gv, gt, c3]
        refine Thn_n ?_
        refine hK _ _ ?_
        clear hK K
        refine AW.seq_k fun K hK => ?_
        refine AW.region (by decide) ?_
        simp only [push_cast, simprocAttr, hbq, hz2, List.append_nil, hl, lk_old hl, u8l_len, Int.le_refl, prB, rowB, pwr, Nat.sub_zero, c1, c2, hXi, hRi, lk_old hRi, gl, gv, gt, c3]
        refine CThen.by (awake_c _) ?_
        simp only [push_cast, simprocAttr, hbq, hz2, List.append_nil, hl, lk_old hl, u8l_len, Int.le_refl, prB, rowB, pwr, Nat.sub_zero, c1, c2, hXi, hRi, lk_old hRi, gl, gv, gt, c3]
        refine CThen.by (sumNil_c _) ?_
        simp only [push_cast, simprocAttr, hbq, hz2, List.append_nil, hl, lk_old hl, u8l_len, Int.le_refl, prB, rowB, pwr, Nat.sub_zero, c1, c2, hXi, hRi, lk_old hRi, gl, gv, gt, c3]
        refine CThen.by (of0_c _) ?_
        simp only [push_cast, simprocAttr, hbq, hz2, List.append_nil, hl, lk_old hl, u8l_len, Int.le_refl, prB, rowB, pwr, Nat.sub_zero, c1, c2, hXi, hRi, lk_old hRi, gl, gv, gt, c3]
        refine CThen.by (of2_c (m.length + 6) 0 0 .nils (.sl (m.length + 5) 0 0 0) [] [] [.nils, .sl (m.length + 5) 0 0 0] .grow 1 _ (by simp only [push_cast, simprocAttr]) rfl rfl (.inl ⟨rfl, rfl⟩) (.all (k := .grow) (ty := 5) (ez := 1) (bs := []) (by simp only [push_cast, simprocAttr]; rfl) rfl) (by decide) (by decide) U8ok.nil U8ok.nil) ?_
        simp only [push_cast, simprocAttr, hbq, hz2, List.append_nil, hl, lk_old hl, u8l_len, Int.le_refl, prB, rowB, pwr, Nat.sub_zero, c1, c2, hXi, hRi, lk_old hRi, gl, gv, gt, c3]
        refine Thn_n ?_
        refine hK _ _ ?_
        clear hK K
        refine AW.ret ?_
        refine hQ _ _ _ ?_
        first | refine RetP.drop0 (Or.inr rfl) ?_ ?_ hwf | refine RetP.drop (Or.inr rfl) ?_ ?_ hwf
        · simp only [resA, resOne, resTv, AV.tv, push_cast, simprocAttr, hbq, hz2, List.append_nil, hl, lk_old hl, u8l_len, Int.le_refl, prB, rowB, pwr, Nat.sub_zero, c1, c2, hXi, hRi, lk_old hRi, gl, gv, gt, c3]
        · rfl
      · have hb2 : (bf i).length ≤ 2000 := by have := of_decide_eq_false h24; omega
        have q0 : (bf i).length ≤ 140737488355328 := by omega
        have q1 : (catP bf i).length + (bf i).length ≤ 140737488355328 := by omega
        have e1 : catP bf (i + 1) = catP bf i ++ bf i := rfl
        have e2 : accP P0 bf (i + 1) = absS (accP P0 bf i) (bf i) := rfl
        have e3 := accP_cat p0_ok bf (i + 1)
        have e4 : (catP bf (i + 1)).length = (catP bf i).length + (bf i).length := by rw [e1, List.length_append]
        have hacc1 : accP (accP P0 bf i) (fun _ => bf i) 1 = accP P0 bf (i + 1) := rfl
        have hst2 := accP_r (s := P0) (by decide) bf (i + 1)
        have hso2 := accP_ok (s := P0) U8ok.nil (np := i + 1) (bf := bf) (fun j hj => hO j (by omega)) (i + 1) (Nat.le_refl _)
        have hco2 := catP_ok (np := i + 1) (bf := bf) (fun j hj => hO j (by omega)) (i + 1) (Nat.le_refl _)
        have hfs : finS (accP P0 bf (i + 1)) = finS (absS P0 (catP bf (i + 1))) := by rw [e3]
        refine AW.skip ?_
        iterate 2
          refine Thn_n ?_
          refine hK _ _ ?_
          clear hK K
          refine AW.seq_k fun K hK => ?_
          refine AW.region (by decide) ?_
          simp only [push_cast, simprocAttr, hbq, hz2, List.append_nil, hl, lk_old hl, u8l_len, Int.le_refl, prB, rowB, pwr, Nat.sub_zero, c1, c2, hXi, hRi, lk_old hRi, gl, gv, gt, c3, q0, q1]
        refine CThen.by (write1_c m.length (m.length + 1) (2 * i) (m.length + 4) 0 0 (accP P0 bf i) (.sl (m.length + 3) 1 0 (bf i).length) (bf i) [.sl (m.length + 3) 1 0 (bf i).length] .grow 1 _ (by simp only [push_cast, simprocAttr, prB]) (by simp only [push_cast, simprocAttr, rowB]) (by simp only [push_cast, simprocAttr]) (by omega) rfl (.all (k := .grow) (ty := 5) (ez := 1) (by simp only [push_cast, simprocAttr, gt, List.nil_append]) rfl (by omega)) (by omega) hOi hst hso) ?_
        simp only [push_cast, simprocAttr, hbq, hz2, List.append_nil, hl, lk_old hl, u8l_len, Int.le_refl, prB, rowB, pwr, Nat.sub_zero, c1, c2, hXi, hRi, lk_old hRi, gl, gv, gt, c3, q0, q1]
        refine Thn_n ?_
        refine hK _ _ ?_
        clear hK K
        refine AW.seq_k fun K hK => ?_
        refine AW.seq_k fun K hK => ?_
        refine AW.region (by decide) ?_
        simp only [push_cast, simprocAttr, hbq, hz2, List.append_nil, hl, lk_old hl, u8l_len, Int.le_refl, prB, rowB, pwr, Nat.sub_zero, c1, c2, hXi, hRi, lk_old hRi, gl, gv, gt, c3, q0, q1]
        refine Thn_n ?_
        refine hK _ _ ?_
        clear hK K
        refine AW.block ?_
        refine AW.loopK [3, 4, 6, 7, 11, 12, 13, 33] (fun k => k ≤ (bf i).length) (fun k => [(34, .one (.int .i64 (k : Int)))]) (fun k => [(m.length + 3, ⟨.grow, 5, 1, 1, u8l (xorP (bf i) k)⟩)]) (fun k => (bf i).length - k) 0 (by omega) ?_ ?_ fun k hi20 => ?_
        · first | rfl | (simp only [Keeps, Tm.get_cons, Nat.reduceEqDiff, ↓reduceIte, if_true, if_false, ite_true, ite_false, true_and, and_true, and_self, reduceCtorEq, xorP] <;> rfl)
        · first | rfl | (simp only [setAll, push_cast, simprocAttr, hbq, hz2, List.append_nil, hl, lk_old hl, u8l_len, Int.le_refl, prB, rowB, pwr, Nat.sub_zero, c1, c2, hXi, hRi, lk_old hRi, gl, gv, gt, c3, q0, q1, xorP] <;> rfl)
        try simp only [keepL, setAll, push_cast, simprocAttr, hbq, hz2, List.append_nil, hl, lk_old hl, u8l_len, Int.le_refl, prB, rowB, pwr, Nat.sub_zero, c1, c2, hXi, hRi, lk_old hRi, gl, gv, gt, c3, q0, q1]
        refine AW.seq_k fun K hK => ?_
        refine AW.region (by decide) ?_
        simp only [push_cast, simprocAttr, hbq, hz2, List.append_nil, hl, lk_old hl, u8l_len, Int.le_refl, prB, rowB, pwr, Nat.sub_zero, c1, c2, hXi, hRi, lk_old hRi, gl, gv, gt, c3, q0, q1]
        refine Thn_n ?_
        refine hK _ _ ?_
        clear hK K
        refine AW.seq_k fun K hK => ?_
        refine AW.cond rfl (fun h35 => ?_) (fun h35 => ?_)
        · have hk : k < (bf i).length := by have := of_decide_eq_true h35; omega
          have c6 : (0 : Int) ≤ (k : Int) := by omega
          have c7 : (k : Int) < ((bf i).length : Int) := by omega
          have hxg := u8l_get (bs := xorP (bf i) k) (i := k) (by rw [xorP_len]; exact hk)
          have hxs : xorP (bf i) (k + 1) = (xorP (bf i) k).set k (bits .xor .u8 (byB (xorP (bf i) k) k) 255) := rfl
          have hxl := xorP_len (bf i) k
          have c10 : k + 1 ≤ (xorP (bf i) k).length := by omega
          refine AW.skip ?_
          refine Thn_n ?_
          refine hK _ _ ?_
          clear hK K
          refine AW.seq_k fun K hK => ?_
          refine AW.block ?_
          refine AW.seq_k fun K hK => ?_
          refine AW.region (by decide) ?_
          simp only [push_cast, simprocAttr, hbq, hz2, List.append_nil, hl, lk_old hl, u8l_len, Int.le_refl, prB, rowB, pwr, Nat.sub_zero, c1, c2, hXi, hRi, lk_old hRi, gl, gv, gt, c3, q0, q1, c6, c7, c10, hxg, u8l_set]
          refine Thn_n ?_
          refine hK _ _ ?_
          clear hK K
          refine AW.region (by decide) ?_
          simp only [push_cast, simprocAttr, hbq, hz2, List.append_nil, hl, lk_old hl, u8l_len, Int.le_refl, prB, rowB, pwr, Nat.sub_zero, c1, c2, hXi, hRi, lk_old hRi, gl, gv, gt, c3, q0, q1, c6, c7, c10, hxg, u8l_set]
          refine InB_n ?_
          refine Thn_n ?_
          refine hK _ _ ?_
          clear hK K
          refine AW.region (by decide) ?_
          simp only [push_cast, simprocAttr, hbq, hz2, List.append_nil, hl, lk_old hl, u8l_len, Int.le_refl, prB, rowB, pwr, Nat.sub_zero, c1, c2, hXi, hRi, lk_old hRi, gl, gv, gt, c3, q0, q1, c6, c7, c10, hxg, u8l_set]
          refine Thn_n ?_
          have hwi : IntKind.i64.wrap ((k:Int)+1) = (k:Int)+1 := wi (by omega)
          refine ⟨k + 1, by omega, by omega, ?_⟩
          try simp only [keepL, setAll, push_cast, simprocAttr, hbq, hz2, List.append_nil, hl, lk_old hl, u8l_len, Int.le_refl, prB, rowB, pwr, Nat.sub_zero, c1, c2, hXi, hRi, lk_old hRi, gl, gv, gt, c3, q0, q1, c6, c7, c10, hxg, u8l_set, hwi, hxs]
          exact Weak.same (by simp only [Keeps, Tm.get_cons, Nat.reduceEqDiff, ↓reduceIte, if_true, if_false, ite_true, ite_false, true_and, and_true, and_self, reduceCtorEq, hwi, hxs]) (by first | rfl | simp only [Keeps, Tm.get_cons, Nat.reduceEqDiff, ↓reduceIte, if_true, if_false, ite_true, ite_false, true_and, and_true, and_self, reduceCtorEq, hwi, hxs])
        · have hke : k = (bf i).length := by have := of_decide_eq_false h35; omega
          subst hke
          generalize hal : catP bf (i + 1) = al at e1 e3 e4 hco2 hfs
          have g1 : u8l (catP bf i) ++ u8l (bf i) = u8l al := by rw [u8l_app, ← e1]
          have g2 : (catP bf i).length + (bf i).length = al.length := e4.symm
          have q2 : al.length ≤ 140737488355328 := by omega
          obtain ⟨hf, hhf⟩ : ∃ hf, hf = al.length / 2 := ⟨_, rfl⟩
          have g3 : IntKind.i64.wrap (((al.length : Nat) : Int).tdiv 2) = ((hf : Nat) : Int) := by
            have : ((al.length : Nat) : Int).tdiv 2 = ((al.length / 2 : Nat) : Int) := rfl
            rw [this, ← hhf]; exact wi (by omega)
          have c8 : (0 : Int) ≤ ((hf : Nat) : Int) := by omega
          have c9 : ((hf : Nat) : Int) ≤ ((al.length : Nat) : Int) := by omega
          have g4 : (al.take (hf)).length = hf := by rw [List.length_take]; omega
          have g5 : (al.drop (hf)).length = al.length - hf := List.length_drop
          have hof : shaL (al.take (hf) ++ al.drop (hf)) = shaL al := by rw [List.take_append_drop]
          have hsl : shaL al = digL (finS (absS P0 al)) := rfl
          generalize hS : finS (absS P0 al) = S at hsl hfs
          have hdl := eqp32 (xs := digL S) rfl
          refine AW.exit ?_
          refine Thn_e ?_
          clear hK K
          refine Thn_e ?_
          refine InB_here ?_
          refine Thn_n ?_
          refine hK _ _ ?_
          clear hK K
          refine AW.seq_k fun K hK => ?_
          refine AW.region (by decide) ?_
          simp only [push_cast, simprocAttr, hbq, hz2, List.append_nil, hl, lk_old hl, u8l_len, Int.le_refl, prB, rowB, pwr, Nat.sub_zero, c1, c2, hXi, hRi, lk_old hRi, gl, gv, gt, c3, q0, q1, g1, g2, q2, g3, c8, c9, hof, hsl, hdl, hfs]
          refine Thn_n ?_
          refine hK _ _ ?_
          clear hK K
          refine AW.seq_k fun K hK => ?_
          refine AW.drawX fol (by kernel_rfl) ?_
          refine DX.split 1 3 (by decide) ?_ ?_
          · refine DX.split 8 19 (by decide) ?_ ?_
            · refine DX.run [0, 1, 2, 3, 4, 5, 6, 7, 8, 9, 10, 11, 12, 13, 14, 15, 16, 17, 18, 19, 20, 21, 22] [.val, .ext, .val, .ext, .ext, .val, .val, .val, .ext, .val, .val, .val, .val, .val, .val, .val, .val, .val, .val, .ext, .ext, .val, .val] (by simp only [permL, reOp, List.idxOf_cons, push_cast, simprocAttr, hbq, hz2, List.append_nil, hl, lk_old hl, u8l_len, Int.le_refl, prB, rowB, pwr, Nat.sub_zero, c1, c2, hXi, hRi, lk_old hRi, gl, gv, gt, c3, q0, q1, g1, g2, q2, g3, c8, c9, hof, hsl, hdl, hfs]; first | done | rfl) (by kernel_rfl) ?_
              simp only [push_cast, simprocAttr, hbq, hz2, List.append_nil, hl, lk_old hl, u8l_len, Int.le_refl, prB, rowB, pwr, Nat.sub_zero, c1, c2, hXi, hRi, lk_old hRi, gl, gv, gt, c3, q0, q1, g1, g2, q2, g3, c8, c9, hof, hsl, hdl, hfs]
              refine DCall.by0 (sum_c m.length (m.length + 1) (2 * i + 2) (accP P0 bf (i + 1)) _ (by simp only [push_cast, simprocAttr, prB, e2]) (by simp only [push_cast, simprocAttr, rowB, e2]) hst2 hso2) ?_
              simp only [push_cast, simprocAttr, hbq, hz2, List.append_nil, hl, lk_old hl, u8l_len, Int.le_refl, prB, rowB, pwr, Nat.sub_zero, c1, c2, hXi, hRi, lk_old hRi, gl, gv, gt, c3, q0, q1, g1, g2, q2, g3, c8, c9, hof, hsl, hdl, hfs]
              refine DExt.by (by first | rfl | (simp only [List.append_assoc, List.cons_append, List.nil_append]; rfl)) ?_
              simp only [push_cast, simprocAttr, hbq, hz2, List.append_nil, hl, lk_old hl, u8l_len, Int.le_refl, prB, rowB, pwr, Nat.sub_zero, c1, c2, hXi, hRi, lk_old hRi, gl, gv, gt, c3, q0, q1, g1, g2, q2, g3, c8, c9, hof, hsl, hdl, hfs]
              refine DCall.by0 (of1_c (m.length + 5) 0 0 (.sl (m.length + 2) (i + 1) 0 al.length) al [.sl (m.length + 2) (i + 1) 0 al.length] .grow 1 _ (by simp only [push_cast, simprocAttr, g2]) rfl (.all (k := .grow) (ty := 5) (ez := 1) (by simp only [push_cast, simprocAttr, g1]) rfl) (by omega) hco2) ?_
              simp only [push_cast, simprocAttr, hbq, hz2, List.append_nil, hl, lk_old hl, u8l_len, Int.le_refl, prB, rowB, pwr, Nat.sub_zero, c1, c2, hXi, hRi, lk_old hRi, gl, gv, gt, c3, q0, q1, g1, g2, q2, g3, c8, c9, hof, hsl, hdl, hfs]
              refine DCall.by0 (sum_c m.length (m.length + 1) (2 * i + 2) (accP P0 bf (i + 1)) _ (by simp only [push_cast, simprocAttr, prB, e2]) (by simp only [push_cast, simprocAttr, rowB, e2]) hst2 hso2) ?_
              simp only [push_cast, simprocAttr, hbq, hz2, List.append_nil, hl, lk_old hl, u8l_len, Int.le_refl, prB, rowB, pwr, Nat.sub_zero, c1, c2, hXi, hRi, lk_old hRi, gl, gv, gt, c3, q0, q1, g1, g2, q2, g3, c8, c9, hof, hsl, hdl, hfs]
              refine DExt.by (by first | rfl | (simp only [List.append_assoc, List.cons_append, List.nil_append]; rfl)) ?_
              simp only [push_cast, simprocAttr, hbq, hz2, List.append_nil, hl, lk_old hl, u8l_len, Int.le_refl, prB, rowB, pwr, Nat.sub_zero, c1, c2, hXi, hRi, lk_old hRi, gl, gv, gt, c3, q0, q1, g1, g2, q2, g3, c8, c9, hof, hsl, hdl, hfs]
              refine DCall.by0 (of2_c (m.length + 6) 0 0 (.sl (m.length + 2) (i + 1) 0 (hf)) (.sl (m.length + 2) (i + 1) (hf) (al.length - hf)) (al.take (hf)) (al.drop (hf)) [.sl (m.length + 2) (i + 1) 0 (hf), .sl (m.length + 2) (i + 1) (hf) (al.length - hf)] .grow 1 _ (by simp only [push_cast, simprocAttr]) rfl rfl (.row (k := .grow) (ty := 5) (ez := 1) (X := al) (by simp only [push_cast, simprocAttr, g1]) g4.symm (by rw [g4]; omega) (by rw [g4, List.drop_zero])) (.row (k := .grow) (ty := 5) (ez := 1) (X := al) (by simp only [push_cast, simprocAttr, g1]) g5.symm (by rw [g5]; omega) (by rw [g5]; exact List.take_of_length_le (by rw [g5]; exact Nat.le_refl _))) (by omega) (by omega) (hco2.take _) (hco2.drop _)) ?_
              simp only [push_cast, simprocAttr, hbq, hz2, List.append_nil, hl, lk_old hl, u8l_len, Int.le_refl, prB, rowB, pwr, Nat.sub_zero, c1, c2, hXi, hRi, lk_old hRi, gl, gv, gt, c3, q0, q1, g1, g2, q2, g3, c8, c9, hof, hsl, hdl, hfs]
              refine Thn_n ?_
              refine hK _ _ ?_
              clear hK K
              refine AW.cond_f rfl ?_
              refine AW.skip ?_
              refine InB_n ?_
              refine Thn_n ?_
              refine hK _ _ ?_
              clear hK K
              refine AW.region (by decide) ?_
              simp only [push_cast, simprocAttr, hbq, hz2, List.append_nil, hl, lk_old hl, u8l_len, Int.le_refl, prB, rowB, pwr, Nat.sub_zero, c1, c2, hXi, hRi, lk_old hRi, gl, gv, gt, c3, q0, q1, g1, g2, q2, g3, c8, c9, hof, hsl, hdl, hfs]
              refine Thn_n ?_
              have hwi : IntKind.i64.wrap ((i:Int)+1) = (i:Int)+1 := wi (by omega)
              have e9 : 2 * (i + 1) = 2 * i + 2 := by omega
              refine ⟨i + 1, ⟨hlt, by omega, fun j hj => (Nat.lt_or_ge j i).elim (fun h => hsmall j h) (fun h => (show i = j by omega) ▸ hb2)⟩, by omega, ?_⟩
              try simp only [keepL, setAll, push_cast, simprocAttr, hbq, hz2, List.append_nil, hl, lk_old hl, u8l_len, Int.le_refl, prB, rowB, pwr, Nat.sub_zero, c1, c2, hXi, hRi, lk_old hRi, gl, gv, gt, c3, q0, q1, g1, g2, q2, g3, c8, c9, hof, hsl, hdl, hfs, hwi, e9, hal, e2]
              exact Weak.to (extra := [_, _, _, _]) (by simp only [Keeps, Tm.get_cons, Nat.reduceEqDiff, ↓reduceIte, if_true, if_false, ite_true, ite_false, true_and, and_true, and_self, reduceCtorEq, hwi, e9, hal, e2]) (by first | rfl | (simp only [List.append_assoc, List.cons_append, List.nil_append]; rfl)) (by first | rfl | (simp [AV.below, CV.below, u8l_below]; done) | (simp [AV.below, CV.below, u8l_below]; omega)) (by
                first | exact hwf | refine MWf.app (hwf.grow (by simp)) ?_
                repeat (first | exact MWf_nil | (refine MWf_cons ?_ ?_; · first | rfl | (simp [CV.below, u8l_below]; done) | (simp [CV.below, u8l_below]; omega))))
            · refine DX.run [0, 1, 2, 3, 4, 5, 6, 7, 9, 10, 11, 12, 13, 14, 15, 16, 17, 18, 19, 8, 20, 21, 22] [.val, .ext, .val, .ext, .ext, .val, .val, .val, .val, .val, .val, .val, .val, .val, .val, .val, .val, .val, .ext, .ext, .ext, .val, .val] (by simp only [permL, reOp, List.idxOf_cons, push_cast, simprocAttr, hbq, hz2, List.append_nil, hl, lk_old hl, u8l_len, Int.le_refl, prB, rowB, pwr, Nat.sub_zero, c1, c2, hXi, hRi, lk_old hRi, gl, gv, gt, c3, q0, q1, g1, g2, q2, g3, c8, c9, hof, hsl, hdl, hfs]; first | done | rfl) (by kernel_rfl) ?_
              simp only [push_cast, simprocAttr, hbq, hz2, List.append_nil, hl, lk_old hl, u8l_len, Int.le_refl, prB, rowB, pwr, Nat.sub_zero, c1, c2, hXi, hRi, lk_old hRi, gl, gv, gt, c3, q0, q1, g1, g2, q2, g3, c8, c9, hof, hsl, hdl, hfs]
              refine DCall.by0 (sum_c m.length (m.length + 1) (2 * i + 2) (accP P0 bf (i + 1)) _ (by simp only [push_cast, simprocAttr, prB, e2]) (by simp only [push_cast, simprocAttr, rowB, e2]) hst2 hso2) ?_
              simp only [push_cast, simprocAttr, hbq, hz2, List.append_nil, hl, lk_old hl, u8l_len, Int.le_refl, prB, rowB, pwr, Nat.sub_zero, c1, c2, hXi, hRi, lk_old hRi, gl, gv, gt, c3, q0, q1, g1, g2, q2, g3, c8, c9, hof, hsl, hdl, hfs]
              refine DExt.by (by first | rfl | (simp only [List.append_assoc, List.cons_append, List.nil_append]; rfl)) ?_
              simp only [push_cast, simprocAttr, hbq, hz2, List.append_nil, hl, lk_old hl, u8l_len, Int.le_refl, prB, rowB, pwr, Nat.sub_zero, c1, c2, hXi, hRi, lk_old hRi, gl, gv, gt, c3, q0, q1, g1, g2, q2, g3, c8, c9, hof, hsl, hdl, hfs]
              refine DCall.by0 (of1_c (m.length + 5) 0 0 (.sl (m.length + 2) (i + 1) 0 al.length) al [.sl (m.length + 2) (i + 1) 0 al.length] .grow 1 _ (by simp only [push_cast, simprocAttr, g2]) rfl (.all (k := .grow) (ty := 5) (ez := 1) (by simp only [push_cast, simprocAttr, g1]) rfl) (by omega) hco2) ?_
              simp only [push_cast, simprocAttr, hbq, hz2, List.append_nil, hl, lk_old hl, u8l_len, Int.le_refl, prB, rowB, pwr, Nat.sub_zero, c1, c2, hXi, hRi, lk_old hRi, gl, gv, gt, c3, q0, q1, g1, g2, q2, g3, c8, c9, hof, hsl, hdl, hfs]
              refine DExt.by (by first | rfl | (simp only [List.append_assoc, List.cons_append, List.nil_append]; rfl)) ?_
              simp only [push_cast, simprocAttr, hbq, hz2, List.append_nil, hl, lk_old hl, u8l_len, Int.le_refl, prB, rowB, pwr, Nat.sub_zero, c1, c2, hXi, hRi, lk_old hRi, gl, gv, gt, c3, q0, q1, g1, g2, q2, g3, c8, c9, hof, hsl, hdl, hfs]
              refine DCall.by0 (sum_c m.length (m.length + 1) (2 * i + 2) (accP P0 bf (i + 1)) _ (by simp only [push_cast, simprocAttr, prB, e2]) (by simp only [push_cast, simprocAttr, rowB, e2]) hst2 hso2) ?_
              simp only [push_cast, simprocAttr, hbq, hz2, List.append_nil, hl, lk_old hl, u8l_len, Int.le_refl, prB, rowB, pwr, Nat.sub_zero, c1, c2, hXi, hRi, lk_old hRi, gl, gv, gt, c3, q0, q1, g1, g2, q2, g3, c8, c9, hof, hsl, hdl, hfs]
              refine DCall.by0 (of2_c (m.length + 6) 0 0 (.sl (m.length + 2) (i + 1) 0 (hf)) (.sl (m.length + 2) (i + 1) (hf) (al.length - hf)) (al.take (hf)) (al.drop (hf)) [.sl (m.length + 2) (i + 1) 0 (hf), .sl (m.length + 2) (i + 1) (hf) (al.length - hf)] .grow 1 _ (by simp only [push_cast, simprocAttr]) rfl rfl (.row (k := .grow) (ty := 5) (ez := 1) (X := al) (by simp only [push_cast, simprocAttr, g1]) g4.symm (by rw [g4]; omega) (by rw [g4, List.drop_zero])) (.row (k := .grow) (ty := 5) (ez := 1) (X := al) (by simp only [push_cast, simprocAttr, g1]) g5.symm (by rw [g5]; omega) (by rw [g5]; exact List.take_of_length_le (by rw [g5]; exact Nat.le_refl _))) (by omega) (by omega) (hco2.take _) (hco2.drop _)) ?_
              simp only [push_cast, simprocAttr, hbq, hz2, List.append_nil, hl, lk_old hl, u8l_len, Int.le_refl, prB, rowB, pwr, Nat.sub_zero, c1, c2, hXi, hRi, lk_old hRi, gl, gv, gt, c3, q0, q1, g1, g2, q2, g3, c8, c9, hof, hsl, hdl, hfs]
              refine Thn_n ?_
              refine hK _ _ ?_
              clear hK K
              refine AW.cond_f rfl ?_
              refine AW.skip ?_
              refine InB_n ?_
              refine Thn_n ?_
              refine hK _ _ ?_
              clear hK K
              refine AW.region (by decide) ?_
              simp only [push_cast, simprocAttr, hbq, hz2, List.append_nil, hl, lk_old hl, u8l_len, Int.le_refl, prB, rowB, pwr, Nat.sub_zero, c1, c2, hXi, hRi, lk_old hRi, gl, gv, gt, c3, q0, q1, g1, g2, q2, g3, c8, c9, hof, hsl, hdl, hfs]
              refine Thn_n ?_
              have hwi : IntKind.i64.wrap ((i:Int)+1) = (i:Int)+1 := wi (by omega)
              have e9 : 2 * (i + 1) = 2 * i + 2 := by omega
              refine ⟨i + 1, ⟨hlt, by omega, fun j hj => (Nat.lt_or_ge j i).elim (fun h => hsmall j h) (fun h => (show i = j by omega) ▸ hb2)⟩, by omega, ?_⟩
              try simp only [keepL, setAll, push_cast, simprocAttr, hbq, hz2, List.append_nil, hl, lk_old hl, u8l_len, Int.le_refl, prB, rowB, pwr, Nat.sub_zero, c1, c2, hXi, hRi, lk_old hRi, gl, gv, gt, c3, q0, q1, g1, g2, q2, g3, c8, c9, hof, hsl, hdl, hfs, hwi, e9, hal, e2]
              exact Weak.to (extra := [_, _, _, _]) (by simp only [Keeps, Tm.get_cons, Nat.reduceEqDiff, ↓reduceIte, if_true, if_false, ite_true, ite_false, true_and, and_true, and_self, reduceCtorEq, hwi, e9, hal, e2]) (by first | rfl | (simp only [List.append_assoc, List.cons_append, List.nil_append]; rfl)) (by first | rfl | (simp [AV.below, CV.below, u8l_below]; done) | (simp [AV.below, CV.below, u8l_below]; omega)) (by
                first | exact hwf | refine MWf.app (hwf.grow (by simp)) ?_
                repeat (first | exact MWf_nil | (refine MWf_cons ?_ ?_; · first | rfl | (simp [CV.below, u8l_below]; done) | (simp [CV.below, u8l_below]; omega))))
          · refine DX.split 8 19 (by decide) ?_ ?_
            · refine DX.run [0, 2, 3, 1, 4, 5, 6, 7, 8, 9, 10, 11, 12, 13, 14, 15, 16, 17, 18, 19, 20, 21, 22] [.val, .val, .ext, .ext, .ext, .val, .val, .val, .ext, .val, .val, .val, .val, .val, .val, .val, .val, .val, .val, .ext, .ext, .val, .val] (by simp only [permL, reOp, List.idxOf_cons, push_cast, simprocAttr, hbq, hz2, List.append_nil, hl, lk_old hl, u8l_len, Int.le_refl, prB, rowB, pwr, Nat.sub_zero, c1, c2, hXi, hRi, lk_old hRi, gl, gv, gt, c3, q0, q1, g1, g2, q2, g3, c8, c9, hof, hsl, hdl, hfs]; first | done | rfl) (by kernel_rfl) ?_
              simp only [push_cast, simprocAttr, hbq, hz2, List.append_nil, hl, lk_old hl, u8l_len, Int.le_refl, prB, rowB, pwr, Nat.sub_zero, c1, c2, hXi, hRi, lk_old hRi, gl, gv, gt, c3, q0, q1, g1, g2, q2, g3, c8, c9, hof, hsl, hdl, hfs]
              refine DExt.by (by first | rfl | (simp only [List.append_assoc, List.cons_append, List.nil_append]; rfl)) ?_
              simp only [push_cast, simprocAttr, hbq, hz2, List.append_nil, hl, lk_old hl, u8l_len, Int.le_refl, prB, rowB, pwr, Nat.sub_zero, c1, c2, hXi, hRi, lk_old hRi, gl, gv, gt, c3, q0, q1, g1, g2, q2, g3, c8, c9, hof, hsl, hdl, hfs]
              refine DCall.by0 (sum_c m.length (m.length + 1) (2 * i + 2) (accP P0 bf (i + 1)) _ (by simp only [push_cast, simprocAttr, prB, e2]) (by simp only [push_cast, simprocAttr, rowB, e2]) hst2 hso2) ?_
              simp only [push_cast, simprocAttr, hbq, hz2, List.append_nil, hl, lk_old hl, u8l_len, Int.le_refl, prB, rowB, pwr, Nat.sub_zero, c1, c2, hXi, hRi, lk_old hRi, gl, gv, gt, c3, q0, q1, g1, g2, q2, g3, c8, c9, hof, hsl, hdl, hfs]
              refine DCall.by0 (of1_c (m.length + 5) 0 0 (.sl (m.length + 2) (i + 1) 0 al.length) al [.sl (m.length + 2) (i + 1) 0 al.length] .grow 1 _ (by simp only [push_cast, simprocAttr, g2]) rfl (.all (k := .grow) (ty := 5) (ez := 1) (by simp only [push_cast, simprocAttr, g1]) rfl) (by omega) hco2) ?_
              simp only [push_cast, simprocAttr, hbq, hz2, List.append_nil, hl, lk_old hl, u8l_len, Int.le_refl, prB, rowB, pwr, Nat.sub_zero, c1, c2, hXi, hRi, lk_old hRi, gl, gv, gt, c3, q0, q1, g1, g2, q2, g3, c8, c9, hof, hsl, hdl, hfs]
              refine DCall.by0 (sum_c m.length (m.length + 1) (2 * i + 2) (accP P0 bf (i + 1)) _ (by simp only [push_cast, simprocAttr, prB, e2]) (by simp only [push_cast, simprocAttr, rowB, e2]) hst2 hso2) ?_
              simp only [push_cast, simprocAttr, hbq, hz2, List.append_nil, hl, lk_old hl, u8l_len, Int.le_refl, prB, rowB, pwr, Nat.sub_zero, c1, c2, hXi, hRi, lk_old hRi, gl, gv, gt, c3, q0, q1, g1, g2, q2, g3, c8, c9, hof, hsl, hdl, hfs]
              refine DExt.by (by first | rfl | (simp only [List.append_assoc, List.cons_append, List.nil_append]; rfl)) ?_
              simp only [push_cast, simprocAttr, hbq, hz2, List.append_nil, hl, lk_old hl, u8l_len, Int.le_refl, prB, rowB, pwr, Nat.sub_zero, c1, c2, hXi, hRi, lk_old hRi, gl, gv, gt, c3, q0, q1, g1, g2, q2, g3, c8, c9, hof, hsl, hdl, hfs]
              refine DCall.by0 (of2_c (m.length + 6) 0 0 (.sl (m.length + 2) (i + 1) 0 (hf)) (.sl (m.length + 2) (i + 1) (hf) (al.length - hf)) (al.take (hf)) (al.drop (hf)) [.sl (m.length + 2) (i + 1) 0 (hf), .sl (m.length + 2) (i + 1) (hf) (al.length - hf)] .grow 1 _ (by simp only [push_cast, simprocAttr]) rfl rfl (.row (k := .grow) (ty := 5) (ez := 1) (X := al) (by simp only [push_cast, simprocAttr, g1]) g4.symm (by rw [g4]; omega) (by rw [g4, List.drop_zero])) (.row (k := .grow) (ty := 5) (ez := 1) (X := al) (by simp only [push_cast, simprocAttr, g1]) g5.symm (by rw [g5]; omega) (by rw [g5]; exact List.take_of_length_le (by rw [g5]; exact Nat.le_refl _))) (by omega) (by omega) (hco2.take _) (hco2.drop _)) ?_
              simp only [push_cast, simprocAttr, hbq, hz2, List.append_nil, hl, lk_old hl, u8l_len, Int.le_refl, prB, rowB, pwr, Nat.sub_zero, c1, c2, hXi, hRi, lk_old hRi, gl, gv, gt, c3, q0, q1, g1, g2, q2, g3, c8, c9, hof, hsl, hdl, hfs]
              refine Thn_n ?_
              refine hK _ _ ?_
              clear hK K
              refine AW.cond_f rfl ?_
              refine AW.skip ?_
              refine InB_n ?_
              refine Thn_n ?_
              refine hK _ _ ?_
              clear hK K
              refine AW.region (by decide) ?_
              simp only [push_cast, simprocAttr, hbq, hz2, List.append_nil, hl, lk_old hl, u8l_len, Int.le_refl, prB, rowB, pwr, Nat.sub_zero, c1, c2, hXi, hRi, lk_old hRi, gl, gv, gt, c3, q0, q1, g1, g2, q2, g3, c8, c9, hof, hsl, hdl, hfs]
              refine Thn_n ?_
              have hwi : IntKind.i64.wrap ((i:Int)+1) = (i:Int)+1 := wi (by omega)
              have e9 : 2 * (i + 1) = 2 * i + 2 := by omega
              refine ⟨i + 1, ⟨hlt, by omega, fun j hj => (Nat.lt_or_ge j i).elim (fun h => hsmall j h) (fun h => (show i = j by omega) ▸ hb2)⟩, by omega, ?_⟩
              try simp only [keepL, setAll, push_cast, simprocAttr, hbq, hz2, List.append_nil, hl, lk_old hl, u8l_len, Int.le_refl, prB, rowB, pwr, Nat.sub_zero, c1, c2, hXi, hRi, lk_old hRi, gl, gv, gt, c3, q0, q1, g1, g2, q2, g3, c8, c9, hof, hsl, hdl, hfs, hwi, e9, hal, e2]
              exact Weak.to (extra := [_, _, _, _]) (by simp only [Keeps, Tm.get_cons, Nat.reduceEqDiff, ↓reduceIte, if_true, if_false, ite_true, ite_false, true_and, and_true, and_self, reduceCtorEq, hwi, e9, hal, e2]) (by first | rfl | (simp only [List.append_assoc, List.cons_append, List.nil_append]; rfl)) (by first | rfl | (simp [AV.below, CV.below, u8l_below]; done) | (simp [AV.below, CV.below, u8l_below]; omega)) (by
                first | exact hwf | refine MWf.app (hwf.grow (by simp)) ?_
                repeat (first | exact MWf_nil | (refine MWf_cons ?_ ?_; · first | rfl | (simp [CV.below, u8l_below]; done) | (simp [CV.below, u8l_below]; omega))))
            · refine DX.run [0, 2, 3, 1, 4, 5, 6, 7, 9, 10, 11, 12, 13, 14, 15, 16, 17, 18, 19, 8, 20, 21, 22] [.val, .val, .ext, .ext, .ext, .val, .val, .val, .val, .val, .val, .val, .val, .val, .val, .val, .val, .val, .ext, .ext, .ext, .val, .val] (by simp only [permL, reOp, List.idxOf_cons, push_cast, simprocAttr, hbq, hz2, List.append_nil, hl, lk_old hl, u8l_len, Int.le_refl, prB, rowB, pwr, Nat.sub_zero, c1, c2, hXi, hRi, lk_old hRi, gl, gv, gt, c3, q0, q1, g1, g2, q2, g3, c8, c9, hof, hsl, hdl, hfs]; first | done | rfl) (by kernel_rfl) ?_
              simp only [push_cast, simprocAttr, hbq, hz2, List.append_nil, hl, lk_old hl, u8l_len, Int.le_refl, prB, rowB, pwr, Nat.sub_zero, c1, c2, hXi, hRi, lk_old hRi, gl, gv, gt, c3, q0, q1, g1, g2, q2, g3, c8, c9, hof, hsl, hdl, hfs]
              refine DExt.by (by first | rfl | (simp only [List.append_assoc, List.cons_append, List.nil_append]; rfl)) ?_
              simp only [push_cast, simprocAttr, hbq, hz2, List.append_nil, hl, lk_old hl, u8l_len, Int.le_refl, prB, rowB, pwr, Nat.sub_zero, c1, c2, hXi, hRi, lk_old hRi, gl, gv, gt, c3, q0, q1, g1, g2, q2, g3, c8, c9, hof, hsl, hdl, hfs]
              refine DCall.by0 (sum_c m.length (m.length + 1) (2 * i + 2) (accP P0 bf (i + 1)) _ (by simp only [push_cast, simprocAttr, prB, e2]) (by simp only [push_cast, simprocAttr, rowB, e2]) hst2 hso2) ?_
              simp only [push_cast, simprocAttr, hbq, hz2, List.append_nil, hl, lk_old hl, u8l_len, Int.le_refl, prB, rowB, pwr, Nat.sub_zero, c1, c2, hXi, hRi, lk_old hRi, gl, gv, gt, c3, q0, q1, g1, g2, q2, g3, c8, c9, hof, hsl, hdl, hfs]
              refine DCall.by0 (of1_c (m.length + 5) 0 0 (.sl (m.length + 2) (i + 1) 0 al.length) al [.sl (m.length + 2) (i + 1) 0 al.length] .grow 1 _ (by simp only [push_cast, simprocAttr, g2]) rfl (.all (k := .grow) (ty := 5) (ez := 1) (by simp only [push_cast, simprocAttr, g1]) rfl) (by omega) hco2) ?_
              simp only [push_cast, simprocAttr, hbq, hz2, List.append_nil, hl, lk_old hl, u8l_len, Int.le_refl, prB, rowB, pwr, Nat.sub_zero, c1, c2, hXi, hRi, lk_old hRi, gl, gv, gt, c3, q0, q1, g1, g2, q2, g3, c8, c9, hof, hsl, hdl, hfs]
              refine DExt.by (by first | rfl | (simp only [List.append_assoc, List.cons_append, List.nil_append]; rfl)) ?_
              simp only [push_cast, simprocAttr, hbq, hz2, List.append_nil, hl, lk_old hl, u8l_len, Int.le_refl, prB, rowB, pwr, Nat.sub_zero, c1, c2, hXi, hRi, lk_old hRi, gl, gv, gt, c3, q0, q1, g1, g2, q2, g3, c8, c9, hof, hsl, hdl, hfs]
              refine DCall.by0 (sum_c m.length (m.length + 1) (2 * i + 2) (accP P0 bf (i + 1)) _ (by simp only [push_cast, simprocAttr, prB, e2]) (by simp only [push_cast, simprocAttr, rowB, e2]) hst2 hso2) ?_
              simp only [push_cast, simprocAttr, hbq, hz2, List.append_nil, hl, lk_old hl, u8l_len, Int.le_refl, prB, rowB, pwr, Nat.sub_zero, c1, c2, hXi, hRi, lk_old hRi, gl, gv, gt, c3, q0, q1, g1, g2, q2, g3, c8, c9, hof, hsl, hdl, hfs]
              refine DCall.by0 (of2_c (m.length + 6) 0 0 (.sl (m.length + 2) (i + 1) 0 (hf)) (.sl (m.length + 2) (i + 1) (hf) (al.length - hf)) (al.take (hf)) (al.drop (hf)) [.sl (m.length + 2) (i + 1) 0 (hf), .sl (m.length + 2) (i + 1) (hf) (al.length - hf)] .grow 1 _ (by simp only [push_cast, simprocAttr]) rfl rfl (.row (k := .grow) (ty := 5) (ez := 1) (X := al) (by simp only [push_cast, simprocAttr, g1]) g4.symm (by rw [g4]; omega) (by rw [g4, List.drop_zero])) (.row (k := .grow) (ty := 5) (ez := 1) (X := al) (by simp only [push_cast, simprocAttr, g1]) g5.symm (by rw [g5]; omega) (by rw [g5]; exact List.take_of_length_le (by rw [g5]; exact Nat.le_refl _))) (by omega) (by omega) (hco2.take _) (hco2.drop _)) ?_
              simp only [push_cast, simprocAttr, hbq, hz2, List.append_nil, hl, lk_old hl, u8l_len, Int.le_refl, prB, rowB, pwr, Nat.sub_zero, c1, c2, hXi, hRi, lk_old hRi, gl, gv, gt, c3, q0, q1, g1, g2, q2, g3, c8, c9, hof, hsl, hdl, hfs]
              refine Thn_n ?_
              refine hK _ _ ?_
              clear hK K
              refine AW.cond_f rfl ?_
              refine AW.skip ?_
              refine InB_n ?_
              refine Thn_n ?_
              refine hK _ _ ?_
              clear hK K
              refine AW.region (by decide) ?_
              simp only [push_cast, simprocAttr, hbq, hz2, List.append_nil, hl, lk_old hl, u8l_len, Int.le_refl, prB, rowB, pwr, Nat.sub_zero, c1, c2, hXi, hRi, lk_old hRi, gl, gv, gt, c3, q0, q1, g1, g2, q2, g3, c8, c9, hof, hsl, hdl, hfs]
              refine Thn_n ?_
              have hwi : IntKind.i64.wrap ((i:Int)+1) = (i:Int)+1 := wi (by omega)
              have e9 : 2 * (i + 1) = 2 * i + 2 := by omega
              refine ⟨i + 1, ⟨hlt, by omega, fun j hj => (Nat.lt_or_ge j i).elim (fun h => hsmall j h) (fun h => (show i = j by omega) ▸ hb2)⟩, by omega, ?_⟩
              try simp only [keepL, setAll, push_cast, simprocAttr, hbq, hz2, List.append_nil, hl, lk_old hl, u8l_len, Int.le_refl, prB, rowB, pwr, Nat.sub_zero, c1, c2, hXi, hRi, lk_old hRi, gl, gv, gt, c3, q0, q1, g1, g2, q2, g3, c8, c9, hof, hsl, hdl, hfs, hwi, e9, hal, e2]
              exact Weak.to (extra := [_, _, _, _]) (by simp only [Keeps, Tm.get_cons, Nat.reduceEqDiff, ↓reduceIte, if_true, if_false, ite_true, ite_false, true_and, and_true, and_self, reduceCtorEq, hwi, e9, hal, e2]) (by first | rfl | (simp only [List.append_assoc, List.cons_append, List.nil_append]; rfl)) (by first | rfl | (simp [AV.below, CV.below, u8l_below]; done) | (simp [AV.below, CV.below, u8l_below]; omega)) (by
                first | exact hwf | refine MWf.app (hwf.grow (by simp)) ?_
                repeat (first | exact MWf_nil | (refine MWf_cons ?_ ?_; · first | rfl | (simp [CV.below, u8l_below]; done) | (simp [CV.below, u8l_below]; omega))))
    · have c3 : (30 : Int) ≤ (i : Int) := by omega
      refine AW.region (by decide) ?_
      simp only [push_cast, simprocAttr, hbq, hz2, List.append_nil, hl, lk_old hl, u8l_len, Int.le_refl, prB, rowB, pwr, Nat.sub_zero, c1, c2, hXi, hRi, lk_old hRi, gl, gv, gt, c3]
      refine Thn_n ?_
      refine hK _ _ ?_
      clear hK K
      refine AW.cond_t rfl ?_
      refine AW.exit ?_
      refine Thn_e ?_
      clear hK K
      refine InB_far (by decide) ?_
      refine Thn_e ?_
      clear hK K
      refine Thn_e ?_
      refine InB_here ?_
      iterate 2
        refine Thn_n ?_
        refine hK _ _ ?_
        clear hK K
        refine AW.seq_k fun K hK => ?_
        refine AW.region (by decide) ?_
        simp only [push_cast, simprocAttr, hbq, hz2, List.append_nil, hl, lk_old hl, u8l_len, Int.le_refl, prB, rowB, pwr, Nat.sub_zero, c1, c2, hXi, hRi, lk_old hRi, gl, gv, gt, c3]
      refine CThen.by (writeNil_c _ _) ?_
      simp only [push_cast, simprocAttr, hbq, hz2, List.append_nil, hl, lk_old hl, u8l_len, Int.le_refl, prB, rowB, pwr, Nat.sub_zero, c1, c2, hXi, hRi, lk_old hRi, gl, gv, gt, c3]
      refine Thn_n ?_
      refine hK _ _ ?_
      clear hK K
      refine AW.seq_k fun K hK => ?_
      refine AW.region (by decide) ?_
      simp only [push_cast, simprocAttr, hbq, hz2, List.append_nil, hl, lk_old hl, u8l_len, Int.le_refl, prB, rowB, pwr, Nat.sub_zero, c1, c2, hXi, hRi, lk_old hRi, gl, gv, gt, c3]
      refine CThen.by (awake_c _) ?_
      simp only [push_cast, simprocAttr, hbq, hz2, List.append_nil, hl, lk_old hl, u8l_len, Int.le_refl, prB, rowB, pwr, Nat.sub_zero, c1, c2, hXi, hRi, lk_old hRi, gl, gv, gt, c3]
      refine CThen.by (sumNil_c _) ?_
      simp only [push_cast, simprocAttr, hbq, hz2, List.append_nil, hl, lk_old hl, u8l_len, Int.le_refl, prB, rowB, pwr, Nat.sub_zero, c1, c2, hXi, hRi, lk_old hRi, gl, gv, gt, c3]
      refine CThen.by (of0_c _) ?_
      simp only [push_cast, simprocAttr, hbq, hz2, List.append_nil, hl, lk_old hl, u8l_len, Int.le_refl, prB, rowB, pwr, Nat.sub_zero, c1, c2, hXi, hRi, lk_old hRi, gl, gv, gt, c3]
      refine CThen.by (of2_c (m.length + 6) 0 0 .nils (.sl (m.length + 5) 0 0 0) [] [] [.nils, .sl (m.length + 5) 0 0 0] .grow 1 _ (by simp only [push_cast, simprocAttr]) rfl rfl (.inl ⟨rfl, rfl⟩) (.all (k := .grow) (ty := 5) (ez := 1) (bs := []) (by simp only [push_cast, simprocAttr]; rfl) rfl) (by decide) (by decide) U8ok.nil U8ok.nil) ?_
      simp only [push_cast, simprocAttr, hbq, hz2, List.append_nil, hl, lk_old hl, u8l_len, Int.le_refl, prB, rowB, pwr, Nat.sub_zero, c1, c2, hXi, hRi, lk_old hRi, gl, gv, gt, c3]
      refine Thn_n ?_
      refine hK _ _ ?_
      clear hK K
      refine AW.ret ?_
      refine hQ _ _ _ ?_
      first | refine RetP.drop0 (Or.inr rfl) ?_ ?_ hwf | refine RetP.drop (Or.inr rfl) ?_ ?_ hwf
      · simp only [resA, resOne, resTv, AV.tv, push_cast, simprocAttr, hbq, hz2, List.append_nil, hl, lk_old hl, u8l_len, Int.le_refl, prB, rowB, pwr, Nat.sub_zero, c1, c2, hXi, hRi, lk_old hRi, gl, gv, gt, c3]
      · rfl
  · refine AW.exit ?_
    refine Thn_e ?_
    clear hK K
    refine Thn_e ?_
    refine InB_here ?_
    iterate 2
      refine Thn_n ?_
      refine hK _ _ ?_
      clear hK K
      refine AW.seq_k fun K hK => ?_
      refine AW.region (by decide) ?_
      simp only [push_cast, simprocAttr, hbq, hz2, List.append_nil, hl, lk_old hl, u8l_len, Int.le_refl, prB, rowB, pwr, Nat.sub_zero]
    refine CThen.by (writeNil_c _ _) ?_
    simp only [push_cast, simprocAttr, hbq, hz2, List.append_nil, hl, lk_old hl, u8l_len, Int.le_refl, prB, rowB, pwr, Nat.sub_zero]
    refine Thn_n ?_
    refine hK _ _ ?_
    clear hK K
    refine AW.seq_k fun K hK => ?_
    refine AW.region (by decide) ?_
    simp only [push_cast, simprocAttr, hbq, hz2, List.append_nil, hl, lk_old hl, u8l_len, Int.le_refl, prB, rowB, pwr, Nat.sub_zero]
    refine CThen.by (awake_c _) ?_
    simp only [push_cast, simprocAttr, hbq, hz2, List.append_nil, hl, lk_old hl, u8l_len, Int.le_refl, prB, rowB, pwr, Nat.sub_zero]
    refine CThen.by (sumNil_c _) ?_
    simp only [push_cast, simprocAttr, hbq, hz2, List.append_nil, hl, lk_old hl, u8l_len, Int.le_refl, prB, rowB, pwr, Nat.sub_zero]
    refine CThen.by (of0_c _) ?_
    simp only [push_cast, simprocAttr, hbq, hz2, List.append_nil, hl, lk_old hl, u8l_len, Int.le_refl, prB, rowB, pwr, Nat.sub_zero]
    refine CThen.by (of2_c (m.length + 6) 0 0 .nils (.sl (m.length + 5) 0 0 0) [] [] [.nils, .sl (m.length + 5) 0 0 0] .grow 1 _ (by simp only [push_cast, simprocAttr]) rfl rfl (.inl ⟨rfl, rfl⟩) (.all (k := .grow) (ty := 5) (ez := 1) (bs := []) (by simp only [push_cast, simprocAttr]; rfl) rfl) (by decide) (by decide) U8ok.nil U8ok.nil) ?_
    simp only [push_cast, simprocAttr, hbq, hz2, List.append_nil, hl, lk_old hl, u8l_len, Int.le_refl, prB, rowB, pwr, Nat.sub_zero]
    refine Thn_n ?_
    refine hK _ _ ?_
    clear hK K
    refine AW.ret ?_
    refine hQ _ _ _ ?_
    first | refine RetP.drop0 (Or.inr rfl) ?_ ?_ hwf | refine RetP.drop (Or.inr rfl) ?_ ?_ hwf
    · simp only [resA, resOne, resTv, AV.tv, push_cast, simprocAttr, hbq, hz2, List.append_nil, hl, lk_old hl, u8l_len, Int.le_refl, prB, rowB, pwr, Nat.sub_zero]
    · rfl
end Go.Proofs.Ytelkmimmmhkbhaa
