/- Walks and facts of this seat's program over abstract states, printed by programs of mine; no conditions but those that each theorem names. -/
import Derived.Test.YtcahlnddcjifdaaM4
set_option linter.unusedSimpArgs false
set_option linter.unusedVariables false
set_option maxRecDepth 100000
set_option maxHeartbeats 4000000
namespace Go.Proofs.Ytcahlnddcjifdaa
open Go Go.Eng

theorem lims136 {a i l : Nat} (h : a ≤ i + 1) (hi : i ≤ l) (hl : l ≤ 1048576) : a + 1 ≤ 140737488355328 ∧ a + 1 + 1 ≤ 140737488355328 ∧ (a + 1) * 136 ≤ 140737488355328 ∧ (a + 1 + 1) * 136 ≤ 140737488355328 := ⟨by omega, by omega, by omega, by omega⟩
theorem putR_fc (x e : Int × List Int) (l : RE) : putR x false (e :: l) = if x.1 ≤ e.1 then (if e.1 = x.1 then x :: putR x true l else x :: e :: putR x true l) else e :: putR x false l := rfl
theorem putR_tc (x e : Int × List Int) (l : RE) : putR x true (e :: l) = if e.1 = x.1 then putR x true l else e :: putR x true l := rfl
theorem putR_fn (x : Int × List Int) : putR x false [] = [x] := rfl
theorem putR_tn (x : Int × List Int) : putR x true [] = [] := rfl
theorem put_c (rl vl : Nat) (l : RE) (x : Int × List Int) (m : AMem) (hrl : ∃ k ez, m[rl]? = some ⟨k, 65, vl, ez, rowC l⟩) (hl9 : L9 l) (hx : x.2.length = 128) (hll : l.length ≤ 1048576) : Ctr Try.prog 31 [.one (.sl rl vl 0 l.length), .agg (entC x)] m (.one (.sl m.length 0 0 (putR x false l).length)) (m ++ [⟨.grow, 65, 0, 129, rowC (putR x false l)⟩]) := by
  refine Ctr.enter Try.func31 rfl (by decide) (rs := [.tmp 4]) (nt := 52) rfl rfl fun hwf Q hQ => ?_
  obtain ⟨k0, ez, hb⟩ := hrl
  have hr := get_lt hb
  have hlt0 : ∀ k, ¬ m.length + k < m.length := fun k => by omega
  iterate 3
    refine AW.seq_k fun K hK => ?_
    refine AW.region (by decide) ?_
    simp only [push_cast, Nat.reduceAdd, Nat.reduceMul, Nat.reduceSub, Nat.reduceLeDiff, Nat.reduceLT, Nat.reduceEqDiff, Nat.reduceBEq, Nat.reduceBNe, Nat.reduceMod, Nat.reduceDiv, Int.reduceLE, Int.reduceLT, Int.reduceToNat, Int.reduceAdd, Int.reduceSub, Int.reduceMul, Int.reduceNeg, Int.reduceEq, Int.reduceBEq, Int.reduceBNe, ↓reduceIte, reduceCtorEq, String.reduceBNe, String.reduceEq, reduceDIte, Nat.reducePow, hb, lk_old hb]
    refine Thn_n ?_
    refine hK _ _ ?_
    clear hK K
  refine AW.seq_k fun K hK => ?_
  refine AW.seq_k fun K hK => ?_
  refine AW.region (by decide) ?_
  simp only [push_cast, Nat.reduceAdd, Nat.reduceMul, Nat.reduceSub, Nat.reduceLeDiff, Nat.reduceLT, Nat.reduceEqDiff, Nat.reduceBEq, Nat.reduceBNe, Nat.reduceMod, Nat.reduceDiv, Int.reduceLE, Int.reduceLT, Int.reduceToNat, Int.reduceAdd, Int.reduceSub, Int.reduceMul, Int.reduceNeg, Int.reduceEq, Int.reduceBEq, Int.reduceBNe, ↓reduceIte, reduceCtorEq, String.reduceBNe, String.reduceEq, reduceDIte, Nat.reducePow, hb, lk_old hb]
  refine Thn_n ?_
  refine hK _ _ ?_
  clear hK K
  refine AW.block ?_
  refine AW.nilTm 65 129 5 rfl ?_
  try simp only [push_cast, Nat.reduceAdd, Nat.reduceMul, Nat.reduceSub, Nat.reduceLeDiff, Nat.reduceLT, Nat.reduceEqDiff, Nat.reduceBEq, Nat.reduceBNe, Nat.reduceMod, Nat.reduceDiv, Int.reduceLE, Int.reduceLT, Int.reduceToNat, Int.reduceAdd, Int.reduceSub, Int.reduceMul, Int.reduceNeg, Int.reduceEq, Int.reduceBEq, Int.reduceBNe, ↓reduceIte, reduceCtorEq, String.reduceBNe, String.reduceEq, reduceDIte, Nat.reducePow, hb, lk_old hb]
  refine AW.loopK [0, 3] (fun p => p.1 ≤ l.length ∧ p.2.1 ++ putR x p.2.2 (l.drop p.1) = putR x false l ∧ L9 p.2.1 ∧ p.2.1.length ≤ p.1 + 1 ∧ (p.2.2 = false → p.2.1.length ≤ p.1)) (fun p => [(5, .one (.sl (m.length + 1) p.2.1.length 0 p.2.1.length)), (6, .one (.bool p.2.2)), (7, .one (.int .i64 (p.1 : Int)))]) (fun p => [(m.length + 1, ⟨.grow, 65, p.2.1.length, 129, rowC (p.2.1)⟩)]) (fun p => l.length - p.1) ((0, [], false) : Nat × RE × Bool) ⟨Nat.zero_le _, rfl, (fun y h => by cases h), Nat.zero_le _, fun _ => Nat.zero_le _⟩ ?_ ?_ fun p hi6 => ?_
  · first | rfl | (simp only [Keeps, Tm.get_cons, Nat.reduceEqDiff, ↓reduceIte, if_true, if_false, ite_true, ite_false, true_and, and_true, and_self, reduceCtorEq, rowC, List.flatMap_nil, List.length_nil, Int.natCast_zero] <;> rfl)
  · first | rfl | (simp only [setAll, push_cast, Nat.reduceAdd, Nat.reduceMul, Nat.reduceSub, Nat.reduceLeDiff, Nat.reduceLT, Nat.reduceEqDiff, Nat.reduceBEq, Nat.reduceBNe, Nat.reduceMod, Nat.reduceDiv, Int.reduceLE, Int.reduceLT, Int.reduceToNat, Int.reduceAdd, Int.reduceSub, Int.reduceMul, Int.reduceNeg, Int.reduceEq, Int.reduceBEq, Int.reduceBNe, ↓reduceIte, reduceCtorEq, String.reduceBNe, String.reduceEq, reduceDIte, Nat.reducePow, hb, lk_old hb, rowC, List.flatMap_nil, List.length_nil, Int.natCast_zero] <;> rfl)
  obtain ⟨i, o, d⟩ := p
  obtain ⟨hin, hinv, ho9, hol, hod⟩ := hi6
  dsimp only at hin hinv ho9 hol hod ⊢
  try simp only [keepL, setAll, push_cast, Nat.reduceAdd, Nat.reduceMul, Nat.reduceSub, Nat.reduceLeDiff, Nat.reduceLT, Nat.reduceEqDiff, Nat.reduceBEq, Nat.reduceBNe, Nat.reduceMod, Nat.reduceDiv, Int.reduceLE, Int.reduceLT, Int.reduceToNat, Int.reduceAdd, Int.reduceSub, Int.reduceMul, Int.reduceNeg, Int.reduceEq, Int.reduceBEq, Int.reduceBNe, ↓reduceIte, reduceCtorEq, String.reduceBNe, String.reduceEq, reduceDIte, Nat.reducePow, hb, lk_old hb]
  refine AW.seq_k fun K hK => ?_
  refine AW.seq_k fun K hK => ?_
  refine AW.region (by decide) ?_
  simp only [push_cast, Nat.reduceAdd, Nat.reduceMul, Nat.reduceSub, Nat.reduceLeDiff, Nat.reduceLT, Nat.reduceEqDiff, Nat.reduceBEq, Nat.reduceBNe, Nat.reduceMod, Nat.reduceDiv, Int.reduceLE, Int.reduceLT, Int.reduceToNat, Int.reduceAdd, Int.reduceSub, Int.reduceMul, Int.reduceNeg, Int.reduceEq, Int.reduceBEq, Int.reduceBNe, ↓reduceIte, reduceCtorEq, String.reduceBNe, String.reduceEq, reduceDIte, Nat.reducePow, hb, lk_old hb]
  refine Thn_n ?_
  refine hK _ _ ?_
  clear hK K
  refine AW.cond rfl (fun h11 => ?_) (fun h11 => ?_)
  · have hlt : i < l.length := by have := of_decide_eq_true h11; omega
    have c1 : (0 : Int) ≤ (i : Int) := by omega
    have c2 : (i : Int) < (l.length : Int) := by omega
    have c3 : i * 129 + 129 ≤ l.length * 129 := by omega
    have hcl := rowC_len hl9
    obtain ⟨e, he⟩ : ∃ e, l[i]? = some e := ⟨_, List.getElem?_eq_getElem hlt⟩
    have he9 := hl9 e (List.mem_of_getElem? he)
    have gk := rowC_key hl9 he
    have ga := rowC_at hl9 he
    have gel := entC_len he9
    have gev := entC_vals e
    have gol := rowC_len ho9
    have hxl := entC_len hx
    have hxv := entC_vals x
    have hxk : (entC x)[0]? = some (.int .i64 x.1) := rfl
    have hxt : (entC x).take 129 = entC x := List.take_of_length_le (by omega)
    have het : (entC e).take 129 = entC e := List.take_of_length_le (by omega)
    have hxz : setL [.int .i64 0, .int .u8 0, .int .u8 0, .int .u8 0, .int .u8 0, .int .u8 0, .int .u8 0, .int .u8 0, .int .u8 0, .int .u8 0, .int .u8 0, .int .u8 0, .int .u8 0, .int .u8 0, .int .u8 0, .int .u8 0, .int .u8 0, .int .u8 0, .int .u8 0, .int .u8 0, .int .u8 0, .int .u8 0, .int .u8 0, .int .u8 0, .int .u8 0, .int .u8 0, .int .u8 0, .int .u8 0, .int .u8 0, .int .u8 0, .int .u8 0, .int .u8 0, .int .u8 0, .int .u8 0, .int .u8 0, .int .u8 0, .int .u8 0, .int .u8 0, .int .u8 0, .int .u8 0, .int .u8 0, .int .u8 0, .int .u8 0, .int .u8 0, .int .u8 0, .int .u8 0, .int .u8 0, .int .u8 0, .int .u8 0, .int .u8 0, .int .u8 0, .int .u8 0, .int .u8 0, .int .u8 0, .int .u8 0, .int .u8 0, .int .u8 0, .int .u8 0, .int .u8 0, .int .u8 0, .int .u8 0, .int .u8 0, .int .u8 0, .int .u8 0, .int .u8 0, .int .u8 0, .int .u8 0, .int .u8 0, .int .u8 0, .int .u8 0, .int .u8 0, .int .u8 0, .int .u8 0, .int .u8 0, .int .u8 0, .int .u8 0, .int .u8 0, .int .u8 0, .int .u8 0, .int .u8 0, .int .u8 0, .int .u8 0, .int .u8 0, .int .u8 0, .int .u8 0, .int .u8 0, .int .u8 0, .int .u8 0, .int .u8 0, .int .u8 0, .int .u8 0, .int .u8 0, .int .u8 0, .int .u8 0, .int .u8 0, .int .u8 0, .int .u8 0, .int .u8 0, .int .u8 0, .int .u8 0, .int .u8 0, .int .u8 0, .int .u8 0, .int .u8 0, .int .u8 0, .int .u8 0, .int .u8 0, .int .u8 0, .int .u8 0, .int .u8 0, .int .u8 0, .int .u8 0, .int .u8 0, .int .u8 0, .int .u8 0, .int .u8 0, .int .u8 0, .int .u8 0, .int .u8 0, .int .u8 0, .int .u8 0, .int .u8 0, .int .u8 0, .int .u8 0, .int .u8 0, .int .u8 0, .int .u8 0, .int .u8 0, .int .u8 0] 0 (entC x) = entC x := setL_all (by rw [hxl]; rfl)
    have hez : setL [.int .i64 0, .int .u8 0, .int .u8 0, .int .u8 0, .int .u8 0, .int .u8 0, .int .u8 0, .int .u8 0, .int .u8 0, .int .u8 0, .int .u8 0, .int .u8 0, .int .u8 0, .int .u8 0, .int .u8 0, .int .u8 0, .int .u8 0, .int .u8 0, .int .u8 0, .int .u8 0, .int .u8 0, .int .u8 0, .int .u8 0, .int .u8 0, .int .u8 0, .int .u8 0, .int .u8 0, .int .u8 0, .int .u8 0, .int .u8 0, .int .u8 0, .int .u8 0, .int .u8 0, .int .u8 0, .int .u8 0, .int .u8 0, .int .u8 0, .int .u8 0, .int .u8 0, .int .u8 0, .int .u8 0, .int .u8 0, .int .u8 0, .int .u8 0, .int .u8 0, .int .u8 0, .int .u8 0, .int .u8 0, .int .u8 0, .int .u8 0, .int .u8 0, .int .u8 0, .int .u8 0, .int .u8 0, .int .u8 0, .int .u8 0, .int .u8 0, .int .u8 0, .int .u8 0, .int .u8 0, .int .u8 0, .int .u8 0, .int .u8 0, .int .u8 0, .int .u8 0, .int .u8 0, .int .u8 0, .int .u8 0, .int .u8 0, .int .u8 0, .int .u8 0, .int .u8 0, .int .u8 0, .int .u8 0, .int .u8 0, .int .u8 0, .int .u8 0, .int .u8 0, .int .u8 0, .int .u8 0, .int .u8 0, .int .u8 0, .int .u8 0, .int .u8 0, .int .u8 0, .int .u8 0, .int .u8 0, .int .u8 0, .int .u8 0, .int .u8 0, .int .u8 0, .int .u8 0, .int .u8 0, .int .u8 0, .int .u8 0, .int .u8 0, .int .u8 0, .int .u8 0, .int .u8 0, .int .u8 0, .int .u8 0, .int .u8 0, .int .u8 0, .int .u8 0, .int .u8 0, .int .u8 0, .int .u8 0, .int .u8 0, .int .u8 0, .int .u8 0, .int .u8 0, .int .u8 0, .int .u8 0, .int .u8 0, .int .u8 0, .int .u8 0, .int .u8 0, .int .u8 0, .int .u8 0, .int .u8 0, .int .u8 0, .int .u8 0, .int .u8 0, .int .u8 0, .int .u8 0, .int .u8 0, .int .u8 0, .int .u8 0, .int .u8 0] 0 (entC e) = entC e := setL_all (by rw [gel]; rfl)
    have hdr : l.drop i = e :: l.drop (i + 1) := by
      rw [List.drop_eq_getElem_cons hlt, (List.getElem?_eq_some_iff.1 he).2]
    rw [hdr] at hinv
    obtain ⟨q1, q2, q3, q4⟩ := lims136 hol hin hll
    have hs1 := rowC_snoc o x
    have hs2 := rowC_snoc o e
    have hs3 := rowC_snoc (o ++ [x]) e
    have ho9x : L9 (o ++ [x]) := fun y hy => by rcases List.mem_append.1 hy with h | h; exact ho9 y h; rw [List.mem_singleton.1 h]; exact hx
    have ho9e : L9 (o ++ [e]) := fun y hy => by rcases List.mem_append.1 hy with h | h; exact ho9 y h; rw [List.mem_singleton.1 h]; exact he9
    have ho9xe : L9 (o ++ [x] ++ [e]) := fun y hy => by rcases List.mem_append.1 hy with h | h; exact ho9x y h; rw [List.mem_singleton.1 h]; exact he9
    have gox := rowC_len ho9x
    rw [List.length_append, List.length_singleton] at gox
    have hle1 : (o ++ [x]).length = o.length + 1 := by simp
    have hle2 : (o ++ [e]).length = o.length + 1 := by simp
    have hle3 : (o ++ [x] ++ [e]).length = o.length + 1 + 1 := by simp
    refine AW.skip ?_
    refine Thn_n ?_
    refine hK _ _ ?_
    clear hK K
    refine AW.seq_k fun K hK => ?_
    refine AW.block ?_
    refine AW.seq_k fun K hK => ?_
    refine AW.seq_k fun K hK => ?_
    have hcs : (d = false ∧ x.1 ≤ e.1 ∧ e.1 = x.1) ∨ (d = false ∧ x.1 ≤ e.1 ∧ ¬ e.1 = x.1) ∨ (d = false ∧ ¬ x.1 ≤ e.1) ∨ (d = true ∧ x.1 ≤ e.1 ∧ e.1 = x.1) ∨ (d = true ∧ x.1 ≤ e.1 ∧ ¬ e.1 = x.1) ∨ (d = true ∧ ¬ x.1 ≤ e.1) := by
      cases d <;> simp <;> omega
    rcases hcs with ⟨rfl, s1, s2⟩ | ⟨rfl, s1, s2⟩ | ⟨rfl, s1⟩ | ⟨rfl, s1, s2⟩ | ⟨rfl, s1, s2⟩ | ⟨rfl, s1⟩
    · rw [putR_fc, if_pos s1, if_pos s2] at hinv
      have hod2 := hod rfl
      have b1 : (e.1 != x.1) = false := by simp [s2]
      refine AW.draw [.val, .val, .val, .val, .rd 0, .val, .rd 0, .val, .val, .val, .val, .val] fol (by decide) (by kernel_rfl) ?_
      simp only [push_cast, Nat.reduceAdd, Nat.reduceMul, Nat.reduceSub, Nat.reduceLeDiff, Nat.reduceLT, Nat.reduceEqDiff, Nat.reduceBEq, Nat.reduceBNe, Nat.reduceMod, Nat.reduceDiv, Int.reduceLE, Int.reduceLT, Int.reduceToNat, Int.reduceAdd, Int.reduceSub, Int.reduceMul, Int.reduceNeg, Int.reduceEq, Int.reduceBEq, Int.reduceBNe, ↓reduceIte, reduceCtorEq, String.reduceBNe, String.reduceEq, reduceDIte, Nat.reducePow, hb, lk_old hb, c1, c2, c3, hcl, gk, ga, gel, gev, gol, hxl, hxv, hxk, hxt, het, hxz, hez, q1, q2, q3, q4, gox, hs1, hs2, hs3, Nat.le_refl, s1, b1]
      refine Thn_n ?_
      refine hK _ _ ?_
      clear hK K
      refine AW.cond_t rfl ?_
      refine AW.seq_k fun K hK => ?_
      iterate 2
        refine AW.region (by decide) ?_
        simp only [push_cast, Nat.reduceAdd, Nat.reduceMul, Nat.reduceSub, Nat.reduceLeDiff, Nat.reduceLT, Nat.reduceEqDiff, Nat.reduceBEq, Nat.reduceBNe, Nat.reduceMod, Nat.reduceDiv, Int.reduceLE, Int.reduceLT, Int.reduceToNat, Int.reduceAdd, Int.reduceSub, Int.reduceMul, Int.reduceNeg, Int.reduceEq, Int.reduceBEq, Int.reduceBNe, ↓reduceIte, reduceCtorEq, String.reduceBNe, String.reduceEq, reduceDIte, Nat.reducePow, hb, lk_old hb, c1, c2, c3, hcl, gk, ga, gel, gev, gol, hxl, hxv, hxk, hxt, het, hxz, hez, q1, q2, q3, q4, gox, hs1, hs2, hs3, Nat.le_refl, s1, b1]
        refine Thn_n ?_
        refine hK _ _ ?_
        clear hK K
      refine AW.seq_k fun K hK => ?_
      refine AW.draw [.val, .val, .val, .val, .rd 0, .val, .rd 0, .val] fol (by decide) (by kernel_rfl) ?_
      simp only [push_cast, Nat.reduceAdd, Nat.reduceMul, Nat.reduceSub, Nat.reduceLeDiff, Nat.reduceLT, Nat.reduceEqDiff, Nat.reduceBEq, Nat.reduceBNe, Nat.reduceMod, Nat.reduceDiv, Int.reduceLE, Int.reduceLT, Int.reduceToNat, Int.reduceAdd, Int.reduceSub, Int.reduceMul, Int.reduceNeg, Int.reduceEq, Int.reduceBEq, Int.reduceBNe, ↓reduceIte, reduceCtorEq, String.reduceBNe, String.reduceEq, reduceDIte, Nat.reducePow, hb, lk_old hb, c1, c2, c3, hcl, gk, ga, gel, gev, gol, hxl, hxv, hxk, hxt, het, hxz, hez, q1, q2, q3, q4, gox, hs1, hs2, hs3, Nat.le_refl, s1, b1]
      refine Thn_n ?_
      refine hK _ _ ?_
      clear hK K
      refine AW.cond_f rfl ?_
      refine AW.skip ?_
      refine InB_n ?_
      refine Thn_n ?_
      refine hK _ _ ?_
      clear hK K
      refine AW.region (by decide) ?_
      simp only [push_cast, Nat.reduceAdd, Nat.reduceMul, Nat.reduceSub, Nat.reduceLeDiff, Nat.reduceLT, Nat.reduceEqDiff, Nat.reduceBEq, Nat.reduceBNe, Nat.reduceMod, Nat.reduceDiv, Int.reduceLE, Int.reduceLT, Int.reduceToNat, Int.reduceAdd, Int.reduceSub, Int.reduceMul, Int.reduceNeg, Int.reduceEq, Int.reduceBEq, Int.reduceBNe, ↓reduceIte, reduceCtorEq, String.reduceBNe, String.reduceEq, reduceDIte, Nat.reducePow, hb, lk_old hb, c1, c2, c3, hcl, gk, ga, gel, gev, gol, hxl, hxv, hxk, hxt, het, hxz, hez, q1, q2, q3, q4, gox, hs1, hs2, hs3, Nat.le_refl, s1, b1]
      refine Thn_n ?_
      have hwi : IntKind.i64.wrap ((i:Int)+1) = (i:Int)+1 := wi (by omega)
      refine ⟨((i + 1, o ++ [x], true) : Nat × RE × Bool), ⟨by show i + 1 ≤ l.length; omega, by show o ++ [x] ++ putR x true (l.drop (i + 1)) = putR x false l; simpa using hinv, by show L9 _; assumption, by show List.length _ ≤ i + 1 + 1; simp; omega, by show (true = false → _)  ; exact fun h => by cases h⟩, by show l.length - (i + 1) < l.length - i; omega, ?_⟩
      try simp only [keepL, setAll, push_cast, Nat.reduceAdd, Nat.reduceMul, Nat.reduceSub, Nat.reduceLeDiff, Nat.reduceLT, Nat.reduceEqDiff, Nat.reduceBEq, Nat.reduceBNe, Nat.reduceMod, Nat.reduceDiv, Int.reduceLE, Int.reduceLT, Int.reduceToNat, Int.reduceAdd, Int.reduceSub, Int.reduceMul, Int.reduceNeg, Int.reduceEq, Int.reduceBEq, Int.reduceBNe, ↓reduceIte, reduceCtorEq, String.reduceBNe, String.reduceEq, reduceDIte, Nat.reducePow, hb, lk_old hb, c1, c2, c3, hcl, gk, ga, gel, gev, gol, hxl, hxv, hxk, hxt, het, hxz, hez, q1, q2, q3, q4, gox, hs1, hs2, hs3, Nat.le_refl, s1, b1, hwi, hle1, hle2, hle3]
      first
        | exact Weak.same (by simp only [Keeps, Tm.get_cons, Nat.reduceEqDiff, ↓reduceIte, if_true, if_false, ite_true, ite_false, true_and, and_true, and_self, reduceCtorEq, hwi, hle1, hle2, hle3]) (by first | rfl | simp only [Keeps, Tm.get_cons, Nat.reduceEqDiff, ↓reduceIte, if_true, if_false, ite_true, ite_false, true_and, and_true, and_self, reduceCtorEq, hwi, hle1, hle2, hle3])
        | exact Weak.to (extra := [_]) (by simp only [Keeps, Tm.get_cons, Nat.reduceEqDiff, ↓reduceIte, if_true, if_false, ite_true, ite_false, true_and, and_true, and_self, reduceCtorEq, hwi, hle1, hle2, hle3]) (by first | rfl | (simp only [List.append_assoc, List.cons_append, List.nil_append]; rfl)) (by first | rfl | (simp [AV.below, CV.below, rowC_below, entC_below]; done) | (simp [AV.below, CV.below, rowC_below, entC_below]; omega)) (by
            first | exact hwf | refine MWf.app (hwf.grow (by simp)) ?_
            repeat (first | exact MWf_nil | (refine MWf_cons ?_ ?_; · first | rfl | (simp [CV.below, rowC_below, entC_below]; done) | (simp [CV.below, rowC_below, entC_below]; omega))))
        | exact Weak.to (extra := [_, _]) (by simp only [Keeps, Tm.get_cons, Nat.reduceEqDiff, ↓reduceIte, if_true, if_false, ite_true, ite_false, true_and, and_true, and_self, reduceCtorEq, hwi, hle1, hle2, hle3]) (by first | rfl | (simp only [List.append_assoc, List.cons_append, List.nil_append]; rfl)) (by first | rfl | (simp [AV.below, CV.below, rowC_below, entC_below]; done) | (simp [AV.below, CV.below, rowC_below, entC_below]; omega)) (by
            first | exact hwf | refine MWf.app (hwf.grow (by simp)) ?_
            repeat (first | exact MWf_nil | (refine MWf_cons ?_ ?_; · first | rfl | (simp [CV.below, rowC_below, entC_below]; done) | (simp [CV.below, rowC_below, entC_below]; omega))))
    · rw [putR_fc, if_pos s1, if_neg s2] at hinv
      have hod2 := hod rfl
      have b1 : (e.1 != x.1) = true := by simp [s2]
      refine AW.draw [.val, .val, .val, .val, .rd 0, .val, .rd 0, .val, .val, .val, .val, .val] fol (by decide) (by kernel_rfl) ?_
      simp only [push_cast, Nat.reduceAdd, Nat.reduceMul, Nat.reduceSub, Nat.reduceLeDiff, Nat.reduceLT, Nat.reduceEqDiff, Nat.reduceBEq, Nat.reduceBNe, Nat.reduceMod, Nat.reduceDiv, Int.reduceLE, Int.reduceLT, Int.reduceToNat, Int.reduceAdd, Int.reduceSub, Int.reduceMul, Int.reduceNeg, Int.reduceEq, Int.reduceBEq, Int.reduceBNe, ↓reduceIte, reduceCtorEq, String.reduceBNe, String.reduceEq, reduceDIte, Nat.reducePow, hb, lk_old hb, c1, c2, c3, hcl, gk, ga, gel, gev, gol, hxl, hxv, hxk, hxt, het, hxz, hez, q1, q2, q3, q4, gox, hs1, hs2, hs3, Nat.le_refl, s1, b1]
      refine Thn_n ?_
      refine hK _ _ ?_
      clear hK K
      refine AW.cond_t rfl ?_
      refine AW.seq_k fun K hK => ?_
      iterate 2
        refine AW.region (by decide) ?_
        simp only [push_cast, Nat.reduceAdd, Nat.reduceMul, Nat.reduceSub, Nat.reduceLeDiff, Nat.reduceLT, Nat.reduceEqDiff, Nat.reduceBEq, Nat.reduceBNe, Nat.reduceMod, Nat.reduceDiv, Int.reduceLE, Int.reduceLT, Int.reduceToNat, Int.reduceAdd, Int.reduceSub, Int.reduceMul, Int.reduceNeg, Int.reduceEq, Int.reduceBEq, Int.reduceBNe, ↓reduceIte, reduceCtorEq, String.reduceBNe, String.reduceEq, reduceDIte, Nat.reducePow, hb, lk_old hb, c1, c2, c3, hcl, gk, ga, gel, gev, gol, hxl, hxv, hxk, hxt, het, hxz, hez, q1, q2, q3, q4, gox, hs1, hs2, hs3, Nat.le_refl, s1, b1]
        refine Thn_n ?_
        refine hK _ _ ?_
        clear hK K
      refine AW.seq_k fun K hK => ?_
      refine AW.draw [.val, .val, .val, .val, .rd 0, .val, .rd 0, .val] fol (by decide) (by kernel_rfl) ?_
      simp only [push_cast, Nat.reduceAdd, Nat.reduceMul, Nat.reduceSub, Nat.reduceLeDiff, Nat.reduceLT, Nat.reduceEqDiff, Nat.reduceBEq, Nat.reduceBNe, Nat.reduceMod, Nat.reduceDiv, Int.reduceLE, Int.reduceLT, Int.reduceToNat, Int.reduceAdd, Int.reduceSub, Int.reduceMul, Int.reduceNeg, Int.reduceEq, Int.reduceBEq, Int.reduceBNe, ↓reduceIte, reduceCtorEq, String.reduceBNe, String.reduceEq, reduceDIte, Nat.reducePow, hb, lk_old hb, c1, c2, c3, hcl, gk, ga, gel, gev, gol, hxl, hxv, hxk, hxt, het, hxz, hez, q1, q2, q3, q4, gox, hs1, hs2, hs3, Nat.le_refl, s1, b1]
      refine Thn_n ?_
      refine hK _ _ ?_
      clear hK K
      refine AW.cond_t rfl ?_
      refine AW.region (by decide) ?_
      simp only [push_cast, Nat.reduceAdd, Nat.reduceMul, Nat.reduceSub, Nat.reduceLeDiff, Nat.reduceLT, Nat.reduceEqDiff, Nat.reduceBEq, Nat.reduceBNe, Nat.reduceMod, Nat.reduceDiv, Int.reduceLE, Int.reduceLT, Int.reduceToNat, Int.reduceAdd, Int.reduceSub, Int.reduceMul, Int.reduceNeg, Int.reduceEq, Int.reduceBEq, Int.reduceBNe, ↓reduceIte, reduceCtorEq, String.reduceBNe, String.reduceEq, reduceDIte, Nat.reducePow, hb, lk_old hb, c1, c2, c3, hcl, gk, ga, gel, gev, gol, hxl, hxv, hxk, hxt, het, hxz, hez, q1, q2, q3, q4, gox, hs1, hs2, hs3, Nat.le_refl, s1, b1]
      refine InB_n ?_
      refine Thn_n ?_
      refine hK _ _ ?_
      clear hK K
      refine AW.region (by decide) ?_
      simp only [push_cast, Nat.reduceAdd, Nat.reduceMul, Nat.reduceSub, Nat.reduceLeDiff, Nat.reduceLT, Nat.reduceEqDiff, Nat.reduceBEq, Nat.reduceBNe, Nat.reduceMod, Nat.reduceDiv, Int.reduceLE, Int.reduceLT, Int.reduceToNat, Int.reduceAdd, Int.reduceSub, Int.reduceMul, Int.reduceNeg, Int.reduceEq, Int.reduceBEq, Int.reduceBNe, ↓reduceIte, reduceCtorEq, String.reduceBNe, String.reduceEq, reduceDIte, Nat.reducePow, hb, lk_old hb, c1, c2, c3, hcl, gk, ga, gel, gev, gol, hxl, hxv, hxk, hxt, het, hxz, hez, q1, q2, q3, q4, gox, hs1, hs2, hs3, Nat.le_refl, s1, b1]
      refine Thn_n ?_
      have hwi : IntKind.i64.wrap ((i:Int)+1) = (i:Int)+1 := wi (by omega)
      refine ⟨((i + 1, o ++ [x] ++ [e], true) : Nat × RE × Bool), ⟨by show i + 1 ≤ l.length; omega, by show o ++ [x] ++ [e] ++ putR x true (l.drop (i + 1)) = putR x false l; simpa using hinv, by show L9 _; assumption, by show List.length _ ≤ i + 1 + 1; simp; omega, by show (true = false → _)  ; exact fun h => by cases h⟩, by show l.length - (i + 1) < l.length - i; omega, ?_⟩
      try simp only [keepL, setAll, push_cast, Nat.reduceAdd, Nat.reduceMul, Nat.reduceSub, Nat.reduceLeDiff, Nat.reduceLT, Nat.reduceEqDiff, Nat.reduceBEq, Nat.reduceBNe, Nat.reduceMod, Nat.reduceDiv, Int.reduceLE, Int.reduceLT, Int.reduceToNat, Int.reduceAdd, Int.reduceSub, Int.reduceMul, Int.reduceNeg, Int.reduceEq, Int.reduceBEq, Int.reduceBNe, ↓reduceIte, reduceCtorEq, String.reduceBNe, String.reduceEq, reduceDIte, Nat.reducePow, hb, lk_old hb, c1, c2, c3, hcl, gk, ga, gel, gev, gol, hxl, hxv, hxk, hxt, het, hxz, hez, q1, q2, q3, q4, gox, hs1, hs2, hs3, Nat.le_refl, s1, b1, hwi, hle1, hle2, hle3]
      first
        | exact Weak.same (by simp only [Keeps, Tm.get_cons, Nat.reduceEqDiff, ↓reduceIte, if_true, if_false, ite_true, ite_false, true_and, and_true, and_self, reduceCtorEq, hwi, hle1, hle2, hle3]) (by first | rfl | simp only [Keeps, Tm.get_cons, Nat.reduceEqDiff, ↓reduceIte, if_true, if_false, ite_true, ite_false, true_and, and_true, and_self, reduceCtorEq, hwi, hle1, hle2, hle3])
        | exact Weak.to (extra := [_]) (by simp only [Keeps, Tm.get_cons, Nat.reduceEqDiff, ↓reduceIte, if_true, if_false, ite_true, ite_false, true_and, and_true, and_self, reduceCtorEq, hwi, hle1, hle2, hle3]) (by first | rfl | (simp only [List.append_assoc, List.cons_append, List.nil_append]; rfl)) (by first | rfl | (simp [AV.below, CV.below, rowC_below, entC_below]; done) | (simp [AV.below, CV.below, rowC_below, entC_below]; omega)) (by
            first | exact hwf | refine MWf.app (hwf.grow (by simp)) ?_
            repeat (first | exact MWf_nil | (refine MWf_cons ?_ ?_; · first | rfl | (simp [CV.below, rowC_below, entC_below]; done) | (simp [CV.below, rowC_below, entC_below]; omega))))
        | exact Weak.to (extra := [_, _]) (by simp only [Keeps, Tm.get_cons, Nat.reduceEqDiff, ↓reduceIte, if_true, if_false, ite_true, ite_false, true_and, and_true, and_self, reduceCtorEq, hwi, hle1, hle2, hle3]) (by first | rfl | (simp only [List.append_assoc, List.cons_append, List.nil_append]; rfl)) (by first | rfl | (simp [AV.below, CV.below, rowC_below, entC_below]; done) | (simp [AV.below, CV.below, rowC_below, entC_below]; omega)) (by
            first | exact hwf | refine MWf.app (hwf.grow (by simp)) ?_
            repeat (first | exact MWf_nil | (refine MWf_cons ?_ ?_; · first | rfl | (simp [CV.below, rowC_below, entC_below]; done) | (simp [CV.below, rowC_below, entC_below]; omega))))
    · rw [putR_fc, if_neg s1] at hinv
      have hod2 := hod rfl
      have s2 : ¬ e.1 = x.1 := by omega
      have b1 : (e.1 != x.1) = true := by simp [s2]
      refine AW.draw [.val, .val, .val, .val, .rd 0, .val, .rd 0, .val, .val, .val, .val, .val] fol (by decide) (by kernel_rfl) ?_
      simp only [push_cast, Nat.reduceAdd, Nat.reduceMul, Nat.reduceSub, Nat.reduceLeDiff, Nat.reduceLT, Nat.reduceEqDiff, Nat.reduceBEq, Nat.reduceBNe, Nat.reduceMod, Nat.reduceDiv, Int.reduceLE, Int.reduceLT, Int.reduceToNat, Int.reduceAdd, Int.reduceSub, Int.reduceMul, Int.reduceNeg, Int.reduceEq, Int.reduceBEq, Int.reduceBNe, ↓reduceIte, reduceCtorEq, String.reduceBNe, String.reduceEq, reduceDIte, Nat.reducePow, hb, lk_old hb, c1, c2, c3, hcl, gk, ga, gel, gev, gol, hxl, hxv, hxk, hxt, het, hxz, hez, q1, q2, q3, q4, gox, hs1, hs2, hs3, Nat.le_refl, s1, b1]
      refine Thn_n ?_
      refine hK _ _ ?_
      clear hK K
      refine AW.cond_f rfl ?_
      refine AW.skip ?_
      refine Thn_n ?_
      refine hK _ _ ?_
      clear hK K
      refine AW.seq_k fun K hK => ?_
      refine AW.draw [.val, .val, .val, .val, .rd 0, .val, .rd 0, .val] fol (by decide) (by kernel_rfl) ?_
      simp only [push_cast, Nat.reduceAdd, Nat.reduceMul, Nat.reduceSub, Nat.reduceLeDiff, Nat.reduceLT, Nat.reduceEqDiff, Nat.reduceBEq, Nat.reduceBNe, Nat.reduceMod, Nat.reduceDiv, Int.reduceLE, Int.reduceLT, Int.reduceToNat, Int.reduceAdd, Int.reduceSub, Int.reduceMul, Int.reduceNeg, Int.reduceEq, Int.reduceBEq, Int.reduceBNe, ↓reduceIte, reduceCtorEq, String.reduceBNe, String.reduceEq, reduceDIte, Nat.reducePow, hb, lk_old hb, c1, c2, c3, hcl, gk, ga, gel, gev, gol, hxl, hxv, hxk, hxt, het, hxz, hez, q1, q2, q3, q4, gox, hs1, hs2, hs3, Nat.le_refl, s1, b1]
      refine Thn_n ?_
      refine hK _ _ ?_
      clear hK K
      refine AW.cond_t rfl ?_
      refine AW.region (by decide) ?_
      simp only [push_cast, Nat.reduceAdd, Nat.reduceMul, Nat.reduceSub, Nat.reduceLeDiff, Nat.reduceLT, Nat.reduceEqDiff, Nat.reduceBEq, Nat.reduceBNe, Nat.reduceMod, Nat.reduceDiv, Int.reduceLE, Int.reduceLT, Int.reduceToNat, Int.reduceAdd, Int.reduceSub, Int.reduceMul, Int.reduceNeg, Int.reduceEq, Int.reduceBEq, Int.reduceBNe, ↓reduceIte, reduceCtorEq, String.reduceBNe, String.reduceEq, reduceDIte, Nat.reducePow, hb, lk_old hb, c1, c2, c3, hcl, gk, ga, gel, gev, gol, hxl, hxv, hxk, hxt, het, hxz, hez, q1, q2, q3, q4, gox, hs1, hs2, hs3, Nat.le_refl, s1, b1]
      refine InB_n ?_
      refine Thn_n ?_
      refine hK _ _ ?_
      clear hK K
      refine AW.region (by decide) ?_
      simp only [push_cast, Nat.reduceAdd, Nat.reduceMul, Nat.reduceSub, Nat.reduceLeDiff, Nat.reduceLT, Nat.reduceEqDiff, Nat.reduceBEq, Nat.reduceBNe, Nat.reduceMod, Nat.reduceDiv, Int.reduceLE, Int.reduceLT, Int.reduceToNat, Int.reduceAdd, Int.reduceSub, Int.reduceMul, Int.reduceNeg, Int.reduceEq, Int.reduceBEq, Int.reduceBNe, ↓reduceIte, reduceCtorEq, String.reduceBNe, String.reduceEq, reduceDIte, Nat.reducePow, hb, lk_old hb, c1, c2, c3, hcl, gk, ga, gel, gev, gol, hxl, hxv, hxk, hxt, het, hxz, hez, q1, q2, q3, q4, gox, hs1, hs2, hs3, Nat.le_refl, s1, b1]
      refine Thn_n ?_
      have hwi : IntKind.i64.wrap ((i:Int)+1) = (i:Int)+1 := wi (by omega)
      refine ⟨((i + 1, o ++ [e], false) : Nat × RE × Bool), ⟨by show i + 1 ≤ l.length; omega, by show o ++ [e] ++ putR x false (l.drop (i + 1)) = putR x false l; simpa using hinv, by show L9 _; assumption, by show List.length _ ≤ i + 1 + 1; simp; omega, by show (false = false → _); exact fun _ => by simp; omega⟩, by show l.length - (i + 1) < l.length - i; omega, ?_⟩
      try simp only [keepL, setAll, push_cast, Nat.reduceAdd, Nat.reduceMul, Nat.reduceSub, Nat.reduceLeDiff, Nat.reduceLT, Nat.reduceEqDiff, Nat.reduceBEq, Nat.reduceBNe, Nat.reduceMod, Nat.reduceDiv, Int.reduceLE, Int.reduceLT, Int.reduceToNat, Int.reduceAdd, Int.reduceSub, Int.reduceMul, Int.reduceNeg, Int.reduceEq, Int.reduceBEq, Int.reduceBNe, ↓reduceIte, reduceCtorEq, String.reduceBNe, String.reduceEq, reduceDIte, Nat.reducePow, hb, lk_old hb, c1, c2, c3, hcl, gk, ga, gel, gev, gol, hxl, hxv, hxk, hxt, het, hxz, hez, q1, q2, q3, q4, gox, hs1, hs2, hs3, Nat.le_refl, s1, b1, hwi, hle1, hle2, hle3]
      first
        | exact Weak.same (by simp only [Keeps, Tm.get_cons, Nat.reduceEqDiff, ↓reduceIte, if_true, if_false, ite_true, ite_false, true_and, and_true, and_self, reduceCtorEq, hwi, hle1, hle2, hle3]) (by first | rfl | simp only [Keeps, Tm.get_cons, Nat.reduceEqDiff, ↓reduceIte, if_true, if_false, ite_true, ite_false, true_and, and_true, and_self, reduceCtorEq, hwi, hle1, hle2, hle3])
        | exact Weak.to (extra := [_]) (by simp only [Keeps, Tm.get_cons, Nat.reduceEqDiff, ↓reduceIte, if_true, if_false, ite_true, ite_false, true_and, and_true, and_self, reduceCtorEq, hwi, hle1, hle2, hle3]) (by first | rfl | (simp only [List.append_assoc, List.cons_append, List.nil_append]; rfl)) (by first | rfl | (simp [AV.below, CV.below, rowC_below, entC_below]; done) | (simp [AV.below, CV.below, rowC_below, entC_below]; omega)) (by
            first | exact hwf | refine MWf.app (hwf.grow (by simp)) ?_
            repeat (first | exact MWf_nil | (refine MWf_cons ?_ ?_; · first | rfl | (simp [CV.below, rowC_below, entC_below]; done) | (simp [CV.below, rowC_below, entC_below]; omega))))
        | exact Weak.to (extra := [_, _]) (by simp only [Keeps, Tm.get_cons, Nat.reduceEqDiff, ↓reduceIte, if_true, if_false, ite_true, ite_false, true_and, and_true, and_self, reduceCtorEq, hwi, hle1, hle2, hle3]) (by first | rfl | (simp only [List.append_assoc, List.cons_append, List.nil_append]; rfl)) (by first | rfl | (simp [AV.below, CV.below, rowC_below, entC_below]; done) | (simp [AV.below, CV.below, rowC_below, entC_below]; omega)) (by
            first | exact hwf | refine MWf.app (hwf.grow (by simp)) ?_
            repeat (first | exact MWf_nil | (refine MWf_cons ?_ ?_; · first | rfl | (simp [CV.below, rowC_below, entC_below]; done) | (simp [CV.below, rowC_below, entC_below]; omega))))
    · rw [putR_tc, if_pos s2] at hinv
      have b1 : (e.1 != x.1) = false := by simp [s2]
      refine AW.draw [.val, .val, .val, .val, .rd 0, .val, .rd 0, .val, .val, .val, .val, .val] fol (by decide) (by kernel_rfl) ?_
      simp only [push_cast, Nat.reduceAdd, Nat.reduceMul, Nat.reduceSub, Nat.reduceLeDiff, Nat.reduceLT, Nat.reduceEqDiff, Nat.reduceBEq, Nat.reduceBNe, Nat.reduceMod, Nat.reduceDiv, Int.reduceLE, Int.reduceLT, Int.reduceToNat, Int.reduceAdd, Int.reduceSub, Int.reduceMul, Int.reduceNeg, Int.reduceEq, Int.reduceBEq, Int.reduceBNe, ↓reduceIte, reduceCtorEq, String.reduceBNe, String.reduceEq, reduceDIte, Nat.reducePow, hb, lk_old hb, c1, c2, c3, hcl, gk, ga, gel, gev, gol, hxl, hxv, hxk, hxt, het, hxz, hez, q1, q2, q3, q4, gox, hs1, hs2, hs3, Nat.le_refl, s1, b1]
      refine Thn_n ?_
      refine hK _ _ ?_
      clear hK K
      refine AW.cond_f rfl ?_
      refine AW.skip ?_
      refine Thn_n ?_
      refine hK _ _ ?_
      clear hK K
      refine AW.seq_k fun K hK => ?_
      refine AW.draw [.val, .val, .val, .val, .rd 0, .val, .rd 0, .val] fol (by decide) (by kernel_rfl) ?_
      simp only [push_cast, Nat.reduceAdd, Nat.reduceMul, Nat.reduceSub, Nat.reduceLeDiff, Nat.reduceLT, Nat.reduceEqDiff, Nat.reduceBEq, Nat.reduceBNe, Nat.reduceMod, Nat.reduceDiv, Int.reduceLE, Int.reduceLT, Int.reduceToNat, Int.reduceAdd, Int.reduceSub, Int.reduceMul, Int.reduceNeg, Int.reduceEq, Int.reduceBEq, Int.reduceBNe, ↓reduceIte, reduceCtorEq, String.reduceBNe, String.reduceEq, reduceDIte, Nat.reducePow, hb, lk_old hb, c1, c2, c3, hcl, gk, ga, gel, gev, gol, hxl, hxv, hxk, hxt, het, hxz, hez, q1, q2, q3, q4, gox, hs1, hs2, hs3, Nat.le_refl, s1, b1]
      refine Thn_n ?_
      refine hK _ _ ?_
      clear hK K
      refine AW.cond_f rfl ?_
      refine AW.skip ?_
      refine InB_n ?_
      refine Thn_n ?_
      refine hK _ _ ?_
      clear hK K
      refine AW.region (by decide) ?_
      simp only [push_cast, Nat.reduceAdd, Nat.reduceMul, Nat.reduceSub, Nat.reduceLeDiff, Nat.reduceLT, Nat.reduceEqDiff, Nat.reduceBEq, Nat.reduceBNe, Nat.reduceMod, Nat.reduceDiv, Int.reduceLE, Int.reduceLT, Int.reduceToNat, Int.reduceAdd, Int.reduceSub, Int.reduceMul, Int.reduceNeg, Int.reduceEq, Int.reduceBEq, Int.reduceBNe, ↓reduceIte, reduceCtorEq, String.reduceBNe, String.reduceEq, reduceDIte, Nat.reducePow, hb, lk_old hb, c1, c2, c3, hcl, gk, ga, gel, gev, gol, hxl, hxv, hxk, hxt, het, hxz, hez, q1, q2, q3, q4, gox, hs1, hs2, hs3, Nat.le_refl, s1, b1]
      refine Thn_n ?_
      have hwi : IntKind.i64.wrap ((i:Int)+1) = (i:Int)+1 := wi (by omega)
      refine ⟨((i + 1, o, true) : Nat × RE × Bool), ⟨by show i + 1 ≤ l.length; omega, by show o ++ putR x true (l.drop (i + 1)) = putR x false l; simpa using hinv, by show L9 _; assumption, by show List.length _ ≤ i + 1 + 1; simp; omega, by show (true = false → _)  ; exact fun h => by cases h⟩, by show l.length - (i + 1) < l.length - i; omega, ?_⟩
      try simp only [keepL, setAll, push_cast, Nat.reduceAdd, Nat.reduceMul, Nat.reduceSub, Nat.reduceLeDiff, Nat.reduceLT, Nat.reduceEqDiff, Nat.reduceBEq, Nat.reduceBNe, Nat.reduceMod, Nat.reduceDiv, Int.reduceLE, Int.reduceLT, Int.reduceToNat, Int.reduceAdd, Int.reduceSub, Int.reduceMul, Int.reduceNeg, Int.reduceEq, Int.reduceBEq, Int.reduceBNe, ↓reduceIte, reduceCtorEq, String.reduceBNe, String.reduceEq, reduceDIte, Nat.reducePow, hb, lk_old hb, c1, c2, c3, hcl, gk, ga, gel, gev, gol, hxl, hxv, hxk, hxt, het, hxz, hez, q1, q2, q3, q4, gox, hs1, hs2, hs3, Nat.le_refl, s1, b1, hwi, hle1, hle2, hle3]
      first
        | exact Weak.same (by simp only [Keeps, Tm.get_cons, Nat.reduceEqDiff, ↓reduceIte, if_true, if_false, ite_true, ite_false, true_and, and_true, and_self, reduceCtorEq, hwi, hle1, hle2, hle3]) (by first | rfl | simp only [Keeps, Tm.get_cons, Nat.reduceEqDiff, ↓reduceIte, if_true, if_false, ite_true, ite_false, true_and, and_true, and_self, reduceCtorEq, hwi, hle1, hle2, hle3])
        | exact Weak.to (extra := [_]) (by simp only [Keeps, Tm.get_cons, Nat.reduceEqDiff, ↓reduceIte, if_true, if_false, ite_true, ite_false, true_and, and_true, and_self, reduceCtorEq, hwi, hle1, hle2, hle3]) (by first | rfl | (simp only [List.append_assoc, List.cons_append, List.nil_append]; rfl)) (by first | rfl | (simp [AV.below, CV.below, rowC_below, entC_below]; done) | (simp [AV.below, CV.below, rowC_below, entC_below]; omega)) (by
            first | exact hwf | refine MWf.app (hwf.grow (by simp)) ?_
            repeat (first | exact MWf_nil | (refine MWf_cons ?_ ?_; · first | rfl | (simp [CV.below, rowC_below, entC_below]; done) | (simp [CV.below, rowC_below, entC_below]; omega))))
        | exact Weak.to (extra := [_, _]) (by simp only [Keeps, Tm.get_cons, Nat.reduceEqDiff, ↓reduceIte, if_true, if_false, ite_true, ite_false, true_and, and_true, and_self, reduceCtorEq, hwi, hle1, hle2, hle3]) (by first | rfl | (simp only [List.append_assoc, List.cons_append, List.nil_append]; rfl)) (by first | rfl | (simp [AV.below, CV.below, rowC_below, entC_below]; done) | (simp [AV.below, CV.below, rowC_below, entC_below]; omega)) (by
            first | exact hwf | refine MWf.app (hwf.grow (by simp)) ?_
            repeat (first | exact MWf_nil | (refine MWf_cons ?_ ?_; · first | rfl | (simp [CV.below, rowC_below, entC_below]; done) | (simp [CV.below, rowC_below, entC_below]; omega))))
    · rw [putR_tc, if_neg s2] at hinv
      have b1 : (e.1 != x.1) = true := by simp [s2]
      refine AW.draw [.val, .val, .val, .val, .rd 0, .val, .rd 0, .val, .val, .val, .val, .val] fol (by decide) (by kernel_rfl) ?_
      simp only [push_cast, Nat.reduceAdd, Nat.reduceMul, Nat.reduceSub, Nat.reduceLeDiff, Nat.reduceLT, Nat.reduceEqDiff, Nat.reduceBEq, Nat.reduceBNe, Nat.reduceMod, Nat.reduceDiv, Int.reduceLE, Int.reduceLT, Int.reduceToNat, Int.reduceAdd, Int.reduceSub, Int.reduceMul, Int.reduceNeg, Int.reduceEq, Int.reduceBEq, Int.reduceBNe, ↓reduceIte, reduceCtorEq, String.reduceBNe, String.reduceEq, reduceDIte, Nat.reducePow, hb, lk_old hb, c1, c2, c3, hcl, gk, ga, gel, gev, gol, hxl, hxv, hxk, hxt, het, hxz, hez, q1, q2, q3, q4, gox, hs1, hs2, hs3, Nat.le_refl, s1, b1]
      refine Thn_n ?_
      refine hK _ _ ?_
      clear hK K
      refine AW.cond_f rfl ?_
      refine AW.skip ?_
      refine Thn_n ?_
      refine hK _ _ ?_
      clear hK K
      refine AW.seq_k fun K hK => ?_
      refine AW.draw [.val, .val, .val, .val, .rd 0, .val, .rd 0, .val] fol (by decide) (by kernel_rfl) ?_
      simp only [push_cast, Nat.reduceAdd, Nat.reduceMul, Nat.reduceSub, Nat.reduceLeDiff, Nat.reduceLT, Nat.reduceEqDiff, Nat.reduceBEq, Nat.reduceBNe, Nat.reduceMod, Nat.reduceDiv, Int.reduceLE, Int.reduceLT, Int.reduceToNat, Int.reduceAdd, Int.reduceSub, Int.reduceMul, Int.reduceNeg, Int.reduceEq, Int.reduceBEq, Int.reduceBNe, ↓reduceIte, reduceCtorEq, String.reduceBNe, String.reduceEq, reduceDIte, Nat.reducePow, hb, lk_old hb, c1, c2, c3, hcl, gk, ga, gel, gev, gol, hxl, hxv, hxk, hxt, het, hxz, hez, q1, q2, q3, q4, gox, hs1, hs2, hs3, Nat.le_refl, s1, b1]
      refine Thn_n ?_
      refine hK _ _ ?_
      clear hK K
      refine AW.cond_t rfl ?_
      refine AW.region (by decide) ?_
      simp only [push_cast, Nat.reduceAdd, Nat.reduceMul, Nat.reduceSub, Nat.reduceLeDiff, Nat.reduceLT, Nat.reduceEqDiff, Nat.reduceBEq, Nat.reduceBNe, Nat.reduceMod, Nat.reduceDiv, Int.reduceLE, Int.reduceLT, Int.reduceToNat, Int.reduceAdd, Int.reduceSub, Int.reduceMul, Int.reduceNeg, Int.reduceEq, Int.reduceBEq, Int.reduceBNe, ↓reduceIte, reduceCtorEq, String.reduceBNe, String.reduceEq, reduceDIte, Nat.reducePow, hb, lk_old hb, c1, c2, c3, hcl, gk, ga, gel, gev, gol, hxl, hxv, hxk, hxt, het, hxz, hez, q1, q2, q3, q4, gox, hs1, hs2, hs3, Nat.le_refl, s1, b1]
      refine InB_n ?_
      refine Thn_n ?_
      refine hK _ _ ?_
      clear hK K
      refine AW.region (by decide) ?_
      simp only [push_cast, Nat.reduceAdd, Nat.reduceMul, Nat.reduceSub, Nat.reduceLeDiff, Nat.reduceLT, Nat.reduceEqDiff, Nat.reduceBEq, Nat.reduceBNe, Nat.reduceMod, Nat.reduceDiv, Int.reduceLE, Int.reduceLT, Int.reduceToNat, Int.reduceAdd, Int.reduceSub, Int.reduceMul, Int.reduceNeg, Int.reduceEq, Int.reduceBEq, Int.reduceBNe, ↓reduceIte, reduceCtorEq, String.reduceBNe, String.reduceEq, reduceDIte, Nat.reducePow, hb, lk_old hb, c1, c2, c3, hcl, gk, ga, gel, gev, gol, hxl, hxv, hxk, hxt, het, hxz, hez, q1, q2, q3, q4, gox, hs1, hs2, hs3, Nat.le_refl, s1, b1]
      refine Thn_n ?_
      have hwi : IntKind.i64.wrap ((i:Int)+1) = (i:Int)+1 := wi (by omega)
      refine ⟨((i + 1, o ++ [e], true) : Nat × RE × Bool), ⟨by show i + 1 ≤ l.length; omega, by show o ++ [e] ++ putR x true (l.drop (i + 1)) = putR x false l; simpa using hinv, by show L9 _; assumption, by show List.length _ ≤ i + 1 + 1; simp; omega, by show (true = false → _)  ; exact fun h => by cases h⟩, by show l.length - (i + 1) < l.length - i; omega, ?_⟩
      try simp only [keepL, setAll, push_cast, Nat.reduceAdd, Nat.reduceMul, Nat.reduceSub, Nat.reduceLeDiff, Nat.reduceLT, Nat.reduceEqDiff, Nat.reduceBEq, Nat.reduceBNe, Nat.reduceMod, Nat.reduceDiv, Int.reduceLE, Int.reduceLT, Int.reduceToNat, Int.reduceAdd, Int.reduceSub, Int.reduceMul, Int.reduceNeg, Int.reduceEq, Int.reduceBEq, Int.reduceBNe, ↓reduceIte, reduceCtorEq, String.reduceBNe, String.reduceEq, reduceDIte, Nat.reducePow, hb, lk_old hb, c1, c2, c3, hcl, gk, ga, gel, gev, gol, hxl, hxv, hxk, hxt, het, hxz, hez, q1, q2, q3, q4, gox, hs1, hs2, hs3, Nat.le_refl, s1, b1, hwi, hle1, hle2, hle3]
      first
        | exact Weak.same (by simp only [Keeps, Tm.get_cons, Nat.reduceEqDiff, ↓reduceIte, if_true, if_false, ite_true, ite_false, true_and, and_true, and_self, reduceCtorEq, hwi, hle1, hle2, hle3]) (by first | rfl | simp only [Keeps, Tm.get_cons, Nat.reduceEqDiff, ↓reduceIte, if_true, if_false, ite_true, ite_false, true_and, and_true, and_self, reduceCtorEq, hwi, hle1, hle2, hle3])
        | exact Weak.to (extra := [_]) (by simp only [Keeps, Tm.get_cons, Nat.reduceEqDiff, ↓reduceIte, if_true, if_false, ite_true, ite_false, true_and, and_true, and_self, reduceCtorEq, hwi, hle1, hle2, hle3]) (by first | rfl | (simp only [List.append_assoc, List.cons_append, List.nil_append]; rfl)) (by first | rfl | (simp [AV.below, CV.below, rowC_below, entC_below]; done) | (simp [AV.below, CV.below, rowC_below, entC_below]; omega)) (by
            first | exact hwf | refine MWf.app (hwf.grow (by simp)) ?_
            repeat (first | exact MWf_nil | (refine MWf_cons ?_ ?_; · first | rfl | (simp [CV.below, rowC_below, entC_below]; done) | (simp [CV.below, rowC_below, entC_below]; omega))))
        | exact Weak.to (extra := [_, _]) (by simp only [Keeps, Tm.get_cons, Nat.reduceEqDiff, ↓reduceIte, if_true, if_false, ite_true, ite_false, true_and, and_true, and_self, reduceCtorEq, hwi, hle1, hle2, hle3]) (by first | rfl | (simp only [List.append_assoc, List.cons_append, List.nil_append]; rfl)) (by first | rfl | (simp [AV.below, CV.below, rowC_below, entC_below]; done) | (simp [AV.below, CV.below, rowC_below, entC_below]; omega)) (by
            first | exact hwf | refine MWf.app (hwf.grow (by simp)) ?_
            repeat (first | exact MWf_nil | (refine MWf_cons ?_ ?_; · first | rfl | (simp [CV.below, rowC_below, entC_below]; done) | (simp [CV.below, rowC_below, entC_below]; omega))))
    · have s2 : ¬ e.1 = x.1 := by omega
      rw [putR_tc, if_neg s2] at hinv
      have b1 : (e.1 != x.1) = true := by simp [s2]
      refine AW.draw [.val, .val, .val, .val, .rd 0, .val, .rd 0, .val, .val, .val, .val, .val] fol (by decide) (by kernel_rfl) ?_
      simp only [push_cast, Nat.reduceAdd, Nat.reduceMul, Nat.reduceSub, Nat.reduceLeDiff, Nat.reduceLT, Nat.reduceEqDiff, Nat.reduceBEq, Nat.reduceBNe, Nat.reduceMod, Nat.reduceDiv, Int.reduceLE, Int.reduceLT, Int.reduceToNat, Int.reduceAdd, Int.reduceSub, Int.reduceMul, Int.reduceNeg, Int.reduceEq, Int.reduceBEq, Int.reduceBNe, ↓reduceIte, reduceCtorEq, String.reduceBNe, String.reduceEq, reduceDIte, Nat.reducePow, hb, lk_old hb, c1, c2, c3, hcl, gk, ga, gel, gev, gol, hxl, hxv, hxk, hxt, het, hxz, hez, q1, q2, q3, q4, gox, hs1, hs2, hs3, Nat.le_refl, s1, b1]
      refine Thn_n ?_
      refine hK _ _ ?_
      clear hK K
      refine AW.cond_f rfl ?_
      refine AW.skip ?_
      refine Thn_n ?_
      refine hK _ _ ?_
      clear hK K
      refine AW.seq_k fun K hK => ?_
      refine AW.draw [.val, .val, .val, .val, .rd 0, .val, .rd 0, .val] fol (by decide) (by kernel_rfl) ?_
      simp only [push_cast, Nat.reduceAdd, Nat.reduceMul, Nat.reduceSub, Nat.reduceLeDiff, Nat.reduceLT, Nat.reduceEqDiff, Nat.reduceBEq, Nat.reduceBNe, Nat.reduceMod, Nat.reduceDiv, Int.reduceLE, Int.reduceLT, Int.reduceToNat, Int.reduceAdd, Int.reduceSub, Int.reduceMul, Int.reduceNeg, Int.reduceEq, Int.reduceBEq, Int.reduceBNe, ↓reduceIte, reduceCtorEq, String.reduceBNe, String.reduceEq, reduceDIte, Nat.reducePow, hb, lk_old hb, c1, c2, c3, hcl, gk, ga, gel, gev, gol, hxl, hxv, hxk, hxt, het, hxz, hez, q1, q2, q3, q4, gox, hs1, hs2, hs3, Nat.le_refl, s1, b1]
      refine Thn_n ?_
      refine hK _ _ ?_
      clear hK K
      refine AW.cond_t rfl ?_
      refine AW.region (by decide) ?_
      simp only [push_cast, Nat.reduceAdd, Nat.reduceMul, Nat.reduceSub, Nat.reduceLeDiff, Nat.reduceLT, Nat.reduceEqDiff, Nat.reduceBEq, Nat.reduceBNe, Nat.reduceMod, Nat.reduceDiv, Int.reduceLE, Int.reduceLT, Int.reduceToNat, Int.reduceAdd, Int.reduceSub, Int.reduceMul, Int.reduceNeg, Int.reduceEq, Int.reduceBEq, Int.reduceBNe, ↓reduceIte, reduceCtorEq, String.reduceBNe, String.reduceEq, reduceDIte, Nat.reducePow, hb, lk_old hb, c1, c2, c3, hcl, gk, ga, gel, gev, gol, hxl, hxv, hxk, hxt, het, hxz, hez, q1, q2, q3, q4, gox, hs1, hs2, hs3, Nat.le_refl, s1, b1]
      refine InB_n ?_
      refine Thn_n ?_
      refine hK _ _ ?_
      clear hK K
      refine AW.region (by decide) ?_
      simp only [push_cast, Nat.reduceAdd, Nat.reduceMul, Nat.reduceSub, Nat.reduceLeDiff, Nat.reduceLT, Nat.reduceEqDiff, Nat.reduceBEq, Nat.reduceBNe, Nat.reduceMod, Nat.reduceDiv, Int.reduceLE, Int.reduceLT, Int.reduceToNat, Int.reduceAdd, Int.reduceSub, Int.reduceMul, Int.reduceNeg, Int.reduceEq, Int.reduceBEq, Int.reduceBNe, ↓reduceIte, reduceCtorEq, String.reduceBNe, String.reduceEq, reduceDIte, Nat.reducePow, hb, lk_old hb, c1, c2, c3, hcl, gk, ga, gel, gev, gol, hxl, hxv, hxk, hxt, het, hxz, hez, q1, q2, q3, q4, gox, hs1, hs2, hs3, Nat.le_refl, s1, b1]
      refine Thn_n ?_
      have hwi : IntKind.i64.wrap ((i:Int)+1) = (i:Int)+1 := wi (by omega)
      refine ⟨((i + 1, o ++ [e], true) : Nat × RE × Bool), ⟨by show i + 1 ≤ l.length; omega, by show o ++ [e] ++ putR x true (l.drop (i + 1)) = putR x false l; simpa using hinv, by show L9 _; assumption, by show List.length _ ≤ i + 1 + 1; simp; omega, by show (true = false → _)  ; exact fun h => by cases h⟩, by show l.length - (i + 1) < l.length - i; omega, ?_⟩
      try simp only [keepL, setAll, push_cast, Nat.reduceAdd, Nat.reduceMul, Nat.reduceSub, Nat.reduceLeDiff, Nat.reduceLT, Nat.reduceEqDiff, Nat.reduceBEq, Nat.reduceBNe, Nat.reduceMod, Nat.reduceDiv, Int.reduceLE, Int.reduceLT, Int.reduceToNat, Int.reduceAdd, Int.reduceSub, Int.reduceMul, Int.reduceNeg, Int.reduceEq, Int.reduceBEq, Int.reduceBNe, ↓reduceIte, reduceCtorEq, String.reduceBNe, String.reduceEq, reduceDIte, Nat.reducePow, hb, lk_old hb, c1, c2, c3, hcl, gk, ga, gel, gev, gol, hxl, hxv, hxk, hxt, het, hxz, hez, q1, q2, q3, q4, gox, hs1, hs2, hs3, Nat.le_refl, s1, b1, hwi, hle1, hle2, hle3]
      first
        | exact Weak.same (by simp only [Keeps, Tm.get_cons, Nat.reduceEqDiff, ↓reduceIte, if_true, if_false, ite_true, ite_false, true_and, and_true, and_self, reduceCtorEq, hwi, hle1, hle2, hle3]) (by first | rfl | simp only [Keeps, Tm.get_cons, Nat.reduceEqDiff, ↓reduceIte, if_true, if_false, ite_true, ite_false, true_and, and_true, and_self, reduceCtorEq, hwi, hle1, hle2, hle3])
        | exact Weak.to (extra := [_]) (by simp only [Keeps, Tm.get_cons, Nat.reduceEqDiff, ↓reduceIte, if_true, if_false, ite_true, ite_false, true_and, and_true, and_self, reduceCtorEq, hwi, hle1, hle2, hle3]) (by first | rfl | (simp only [List.append_assoc, List.cons_append, List.nil_append]; rfl)) (by first | rfl | (simp [AV.below, CV.below, rowC_below, entC_below]; done) | (simp [AV.below, CV.below, rowC_below, entC_below]; omega)) (by
            first | exact hwf | refine MWf.app (hwf.grow (by simp)) ?_
            repeat (first | exact MWf_nil | (refine MWf_cons ?_ ?_; · first | rfl | (simp [CV.below, rowC_below, entC_below]; done) | (simp [CV.below, rowC_below, entC_below]; omega))))
        | exact Weak.to (extra := [_, _]) (by simp only [Keeps, Tm.get_cons, Nat.reduceEqDiff, ↓reduceIte, if_true, if_false, ite_true, ite_false, true_and, and_true, and_self, reduceCtorEq, hwi, hle1, hle2, hle3]) (by first | rfl | (simp only [List.append_assoc, List.cons_append, List.nil_append]; rfl)) (by first | rfl | (simp [AV.below, CV.below, rowC_below, entC_below]; done) | (simp [AV.below, CV.below, rowC_below, entC_below]; omega)) (by
            first | exact hwf | refine MWf.app (hwf.grow (by simp)) ?_
            repeat (first | exact MWf_nil | (refine MWf_cons ?_ ?_; · first | rfl | (simp [CV.below, rowC_below, entC_below]; done) | (simp [CV.below, rowC_below, entC_below]; omega))))
  · have hin2 : i = l.length := by have := of_decide_eq_false h11; omega
    rw [hin2, List.drop_length] at hinv
    have gol := rowC_len ho9
    have hxl := entC_len hx
    have hxv := entC_vals x
    have hxt : (entC x).take 129 = entC x := List.take_of_length_le (by omega)
    have hxz : setL [.int .i64 0, .int .u8 0, .int .u8 0, .int .u8 0, .int .u8 0, .int .u8 0, .int .u8 0, .int .u8 0, .int .u8 0, .int .u8 0, .int .u8 0, .int .u8 0, .int .u8 0, .int .u8 0, .int .u8 0, .int .u8 0, .int .u8 0, .int .u8 0, .int .u8 0, .int .u8 0, .int .u8 0, .int .u8 0, .int .u8 0, .int .u8 0, .int .u8 0, .int .u8 0, .int .u8 0, .int .u8 0, .int .u8 0, .int .u8 0, .int .u8 0, .int .u8 0, .int .u8 0, .int .u8 0, .int .u8 0, .int .u8 0, .int .u8 0, .int .u8 0, .int .u8 0, .int .u8 0, .int .u8 0, .int .u8 0, .int .u8 0, .int .u8 0, .int .u8 0, .int .u8 0, .int .u8 0, .int .u8 0, .int .u8 0, .int .u8 0, .int .u8 0, .int .u8 0, .int .u8 0, .int .u8 0, .int .u8 0, .int .u8 0, .int .u8 0, .int .u8 0, .int .u8 0, .int .u8 0, .int .u8 0, .int .u8 0, .int .u8 0, .int .u8 0, .int .u8 0, .int .u8 0, .int .u8 0, .int .u8 0, .int .u8 0, .int .u8 0, .int .u8 0, .int .u8 0, .int .u8 0, .int .u8 0, .int .u8 0, .int .u8 0, .int .u8 0, .int .u8 0, .int .u8 0, .int .u8 0, .int .u8 0, .int .u8 0, .int .u8 0, .int .u8 0, .int .u8 0, .int .u8 0, .int .u8 0, .int .u8 0, .int .u8 0, .int .u8 0, .int .u8 0, .int .u8 0, .int .u8 0, .int .u8 0, .int .u8 0, .int .u8 0, .int .u8 0, .int .u8 0, .int .u8 0, .int .u8 0, .int .u8 0, .int .u8 0, .int .u8 0, .int .u8 0, .int .u8 0, .int .u8 0, .int .u8 0, .int .u8 0, .int .u8 0, .int .u8 0, .int .u8 0, .int .u8 0, .int .u8 0, .int .u8 0, .int .u8 0, .int .u8 0, .int .u8 0, .int .u8 0, .int .u8 0, .int .u8 0, .int .u8 0, .int .u8 0, .int .u8 0, .int .u8 0, .int .u8 0, .int .u8 0, .int .u8 0, .int .u8 0, .int .u8 0] 0 (entC x) = entC x := setL_all (by rw [hxl]; rfl)
    obtain ⟨q1, q2, q3, q4⟩ := lims136 hol hin hll
    have hs1 := rowC_snoc o x
    have hle1 : (o ++ [x]).length = o.length + 1 := by simp
    rcases Bool.eq_false_or_eq_true d with rfl | rfl
    · rw [putR_tn, List.append_nil] at hinv
      rw [← hinv]
      refine AW.exit ?_
      refine Thn_e ?_
      clear hK K
      refine Thn_e ?_
      refine InB_here ?_
      refine Thn_n ?_
      refine hK _ _ ?_
      clear hK K
      refine AW.seq_k fun K hK => ?_
      refine AW.seq_k fun K hK => ?_
      refine AW.region (by decide) ?_
      simp only [push_cast, Nat.reduceAdd, Nat.reduceMul, Nat.reduceSub, Nat.reduceLeDiff, Nat.reduceLT, Nat.reduceEqDiff, Nat.reduceBEq, Nat.reduceBNe, Nat.reduceMod, Nat.reduceDiv, Int.reduceLE, Int.reduceLT, Int.reduceToNat, Int.reduceAdd, Int.reduceSub, Int.reduceMul, Int.reduceNeg, Int.reduceEq, Int.reduceBEq, Int.reduceBNe, ↓reduceIte, reduceCtorEq, String.reduceBNe, String.reduceEq, reduceDIte, Nat.reducePow, hb, lk_old hb, gol, hxl, hxv, hxt, hxz, q1, q3, hs1, Nat.le_refl]
      refine Thn_n ?_
      refine hK _ _ ?_
      clear hK K
      refine AW.cond_f rfl ?_
      refine AW.skip ?_
      refine Thn_n ?_
      refine hK _ _ ?_
      clear hK K
      refine AW.seq_k fun K hK => ?_
      refine AW.region (by decide) ?_
      simp only [push_cast, Nat.reduceAdd, Nat.reduceMul, Nat.reduceSub, Nat.reduceLeDiff, Nat.reduceLT, Nat.reduceEqDiff, Nat.reduceBEq, Nat.reduceBNe, Nat.reduceMod, Nat.reduceDiv, Int.reduceLE, Int.reduceLT, Int.reduceToNat, Int.reduceAdd, Int.reduceSub, Int.reduceMul, Int.reduceNeg, Int.reduceEq, Int.reduceBEq, Int.reduceBNe, ↓reduceIte, reduceCtorEq, String.reduceBNe, String.reduceEq, reduceDIte, Nat.reducePow, hb, lk_old hb, gol, hxl, hxv, hxt, hxz, q1, q3, hs1, Nat.le_refl]
      refine Thn_n ?_
      refine hK _ _ ?_
      clear hK K
      refine AW.ret ?_
      refine hQ _ _ _ ?_
      refine RetP.pick [(m.length + 1, o.length)] (Or.inr rfl) ?_ ?_ ?_ hwf ?_
      all_goals (try rw [← hinv])
      · simp only [resA, resOne, resTv, AV.tv, push_cast, Nat.reduceAdd, Nat.reduceMul, Nat.reduceSub, Nat.reduceLeDiff, Nat.reduceLT, Nat.reduceEqDiff, Nat.reduceBEq, Nat.reduceBNe, Nat.reduceMod, Nat.reduceDiv, Int.reduceLE, Int.reduceLT, Int.reduceToNat, Int.reduceAdd, Int.reduceSub, Int.reduceMul, Int.reduceNeg, Int.reduceEq, Int.reduceBEq, Int.reduceBNe, ↓reduceIte, reduceCtorEq, String.reduceBNe, String.reduceEq, reduceDIte, Nat.reducePow]
        simp [renV, renT, renL, renC, renIdx, hlt0]
        try simp
      · simp only [picks, push_cast, Nat.reduceAdd, Nat.reduceMul, Nat.reduceSub, Nat.reduceLeDiff, Nat.reduceLT, Nat.reduceEqDiff, Nat.reduceBEq, Nat.reduceBNe, Nat.reduceMod, Nat.reduceDiv, Int.reduceLE, Int.reduceLT, Int.reduceToNat, Int.reduceAdd, Int.reduceSub, Int.reduceMul, Int.reduceNeg, Int.reduceEq, Int.reduceBEq, Int.reduceBNe, ↓reduceIte, reduceCtorEq, String.reduceBNe, String.reduceEq, reduceDIte, Nat.reducePow, hle1]
      · simp [distinctFrom]
      · exact MWf_one (rowC_below _ _)
      
    · rw [putR_fn] at hinv
      rw [← hinv]
      refine AW.exit ?_
      refine Thn_e ?_
      clear hK K
      refine Thn_e ?_
      refine InB_here ?_
      refine Thn_n ?_
      refine hK _ _ ?_
      clear hK K
      refine AW.seq_k fun K hK => ?_
      refine AW.seq_k fun K hK => ?_
      refine AW.region (by decide) ?_
      simp only [push_cast, Nat.reduceAdd, Nat.reduceMul, Nat.reduceSub, Nat.reduceLeDiff, Nat.reduceLT, Nat.reduceEqDiff, Nat.reduceBEq, Nat.reduceBNe, Nat.reduceMod, Nat.reduceDiv, Int.reduceLE, Int.reduceLT, Int.reduceToNat, Int.reduceAdd, Int.reduceSub, Int.reduceMul, Int.reduceNeg, Int.reduceEq, Int.reduceBEq, Int.reduceBNe, ↓reduceIte, reduceCtorEq, String.reduceBNe, String.reduceEq, reduceDIte, Nat.reducePow, hb, lk_old hb, gol, hxl, hxv, hxt, hxz, q1, q3, hs1, Nat.le_refl]
      refine Thn_n ?_
      refine hK _ _ ?_
      clear hK K
      refine AW.cond_t rfl ?_
      refine AW.region (by decide) ?_
      simp only [push_cast, Nat.reduceAdd, Nat.reduceMul, Nat.reduceSub, Nat.reduceLeDiff, Nat.reduceLT, Nat.reduceEqDiff, Nat.reduceBEq, Nat.reduceBNe, Nat.reduceMod, Nat.reduceDiv, Int.reduceLE, Int.reduceLT, Int.reduceToNat, Int.reduceAdd, Int.reduceSub, Int.reduceMul, Int.reduceNeg, Int.reduceEq, Int.reduceBEq, Int.reduceBNe, ↓reduceIte, reduceCtorEq, String.reduceBNe, String.reduceEq, reduceDIte, Nat.reducePow, hb, lk_old hb, gol, hxl, hxv, hxt, hxz, q1, q3, hs1, Nat.le_refl]
      refine Thn_n ?_
      refine hK _ _ ?_
      clear hK K
      refine AW.seq_k fun K hK => ?_
      refine AW.region (by decide) ?_
      simp only [push_cast, Nat.reduceAdd, Nat.reduceMul, Nat.reduceSub, Nat.reduceLeDiff, Nat.reduceLT, Nat.reduceEqDiff, Nat.reduceBEq, Nat.reduceBNe, Nat.reduceMod, Nat.reduceDiv, Int.reduceLE, Int.reduceLT, Int.reduceToNat, Int.reduceAdd, Int.reduceSub, Int.reduceMul, Int.reduceNeg, Int.reduceEq, Int.reduceBEq, Int.reduceBNe, ↓reduceIte, reduceCtorEq, String.reduceBNe, String.reduceEq, reduceDIte, Nat.reducePow, hb, lk_old hb, gol, hxl, hxv, hxt, hxz, q1, q3, hs1, Nat.le_refl]
      refine Thn_n ?_
      refine hK _ _ ?_
      clear hK K
      refine AW.ret ?_
      refine hQ _ _ _ ?_
      refine RetP.pick [(m.length + 1, o.length + 1)] (Or.inr rfl) ?_ ?_ ?_ hwf ?_
      all_goals (try rw [← hinv])
      · simp only [resA, resOne, resTv, AV.tv, push_cast, Nat.reduceAdd, Nat.reduceMul, Nat.reduceSub, Nat.reduceLeDiff, Nat.reduceLT, Nat.reduceEqDiff, Nat.reduceBEq, Nat.reduceBNe, Nat.reduceMod, Nat.reduceDiv, Int.reduceLE, Int.reduceLT, Int.reduceToNat, Int.reduceAdd, Int.reduceSub, Int.reduceMul, Int.reduceNeg, Int.reduceEq, Int.reduceBEq, Int.reduceBNe, ↓reduceIte, reduceCtorEq, String.reduceBNe, String.reduceEq, reduceDIte, Nat.reducePow]
        simp [renV, renT, renL, renC, renIdx, hlt0]
        try simp
      · simp only [picks, push_cast, Nat.reduceAdd, Nat.reduceMul, Nat.reduceSub, Nat.reduceLeDiff, Nat.reduceLT, Nat.reduceEqDiff, Nat.reduceBEq, Nat.reduceBNe, Nat.reduceMod, Nat.reduceDiv, Int.reduceLE, Int.reduceLT, Int.reduceToNat, Int.reduceAdd, Int.reduceSub, Int.reduceMul, Int.reduceNeg, Int.reduceEq, Int.reduceBEq, Int.reduceBNe, ↓reduceIte, reduceCtorEq, String.reduceBNe, String.reduceEq, reduceDIte, Nat.reducePow, hle1]
      · simp [distinctFrom]
      · exact MWf_one (rowC_below _ _)
      
end Go.Proofs.Ytcahlnddcjifdaa

set_option linter.unusedSimpArgs false
set_option linter.unusedVariables false
set_option maxRecDepth 100000
set_option maxHeartbeats 4000000
namespace Go.Proofs.Ytcahlnddcjifdaa
open Go Go.Eng

/-- The document's device: what lasts, what is loose (and how many times each list was made anew). -/
structure RS where
  (steps fuse : Int) (down : Bool) (su lo : RE) (vs vl : Nat)
def refB (rs rl n : Nat) (R : RS) : Blk := ⟨.fix, 61, 0, 0, [.int .i64 n, .sl rs R.vs 0 R.su.length, .sl rl R.vl 0 R.lo.length, .int .i64 R.fuse, .int .i64 R.steps, .bool R.down]⟩
def rowR (v : Nat) (l : RE) : Blk := ⟨.grow, 65, v, 129, rowC l⟩
structure HasR (m : AMem) (rd rs rl n : Nat) (R : RS) : Prop where
  d : m[rd]? = some (refB rs rl n R)
  s : m[rs]? = some (rowR R.vs R.su)
  l : m[rl]? = some (rowR R.vl R.lo)
  dr : rd ≠ rs
  dm : rd ≠ rl
  rm : rs ≠ rl
def setR (m : AMem) (rd rs rl n : Nat) (R : RS) : AMem := ((m.set rd (refB rs rl n R)).set rs (rowR R.vs R.su)).set rl (rowR R.vl R.lo)
theorem HasR.set {m : AMem} {rd rs rl n : Nat} {R : RS} (h : HasR m rd rs rl n R) (R' : RS) : HasR (setR m rd rs rl n R') rd rs rl n R' := by
  have ld := get_lt h.d
  have lr := get_lt h.s
  have lm := get_lt h.l
  refine ⟨?_, ?_, ?_, h.dr, h.dm, h.rm⟩
  · unfold setR
    rw [List.getElem?_set_ne h.dm.symm, List.getElem?_set_ne h.dr.symm, List.getElem?_set_self ld]
  · unfold setR
    rw [List.getElem?_set_ne h.rm.symm, List.getElem?_set_self (by simpa using lr)]
  · unfold setR
    rw [List.getElem?_set_self (by simpa using lm)]
theorem setR_d {m : AMem} {rd rs rl n : Nat} {R : RS} (h : HasR m rd rs rl n R) (R' : RS) (h1 : R'.su = R.su) (h2 : R'.lo = R.lo) (h3 : R'.vs = R.vs) (h4 : R'.vl = R.vl) : setR m rd rs rl n R' = m.set rd (refB rs rl n R') := by
  unfold setR
  rw [h1, h2, h3, h4, set_self (l := m.set rd _) (by rw [List.getElem?_set_ne h.dr]; exact h.s), set_self (l := m.set rd _) (by rw [List.getElem?_set_ne h.dm]; exact h.l)]
theorem refB_below {L rs rl n : Nat} {R : RS} (h1 : rs < L) (h2 : rl < L) : (refB rs rl n R).below L = true := by
  simp only [Blk.below, refB, List.all_cons, List.all_nil, CV.below, BK.below, decide_eq_true h1, decide_eq_true h2, Bool.and_true]
theorem setR_wf {m : AMem} {L rd rs rl n : Nat} (hw : MWf L m) (hr : rs < L) (hm : rl < L) (R' : RS) : MWf L (setR m rd rs rl n R') := by
  refine MWf_setB (MWf_setB (MWf_setB hw ?_ rfl) (rowC_below _ _) rfl) (rowC_below _ _) rfl
  simp only [refB, List.all_cons, List.all_nil, CV.below, decide_eq_true hr, decide_eq_true hm, Bool.and_true]
def spR (R : RS) : RS := if R.fuse = 0 then { R with down := true } else { R with fuse := if 0 < R.fuse then IntKind.i64.wrap (R.fuse - 1) else R.fuse, steps := IntKind.i64.wrap (R.steps + 1) }
theorem spR_su (R : RS) : (spR R).su = R.su := by unfold spR; split <;> rfl
theorem spR_lo (R : RS) : (spR R).lo = R.lo := by unfold spR; split <;> rfl
theorem spR_vs (R : RS) : (spR R).vs = R.vs := by unfold spR; split <;> rfl
theorem spR_vl (R : RS) : (spR R).vl = R.vl := by unfold spR; split <;> rfl
theorem find_c (rl vl : Nat) (l : RE) (k : Int) (m : AMem) (hrl : ∃ kk ez, m[rl]? = some ⟨kk, 65, vl, ez, rowC l⟩) (hl9 : L9 l) (hll : l.length ≤ 1048576) : Ctr Try.prog 27 [.one (.sl rl vl 0 l.length), .one (.int .i64 k)] m (.tup [(true, u8l ((lkR k l).getD zB)), (false, [.bool (lkR k l).isSome])]) m := by
  refine Ctr.enter Try.func27 rfl (by decide) (rs := [.cell 4 28, .tmp 5]) (nt := 26) rfl rfl fun hwf Q hQ => ?_
  obtain ⟨k0, ez, hb⟩ := hrl
  have hr := get_lt hb
  refine AW.seq_k fun K hK => ?_
  refine AW.region (by decide) ?_
  simp only [push_cast, Nat.reduceAdd, Nat.reduceMul, Nat.reduceSub, Nat.reduceLeDiff, Nat.reduceLT, Nat.reduceEqDiff, Nat.reduceBEq, Nat.reduceBNe, Nat.reduceMod, Nat.reduceDiv, Int.reduceLE, Int.reduceLT, Int.reduceToNat, Int.reduceAdd, Int.reduceSub, Int.reduceMul, Int.reduceNeg, Int.reduceEq, Int.reduceBEq, Int.reduceBNe, ↓reduceIte, reduceCtorEq, String.reduceBNe, String.reduceEq, reduceDIte, Nat.reducePow, hb, lk_old hb]
  refine Thn_n ?_
  refine hK _ _ ?_
  clear hK K
  refine AW.seq_k fun K hK => ?_
  refine AW.seq_k fun K hK => ?_
  refine AW.region (by decide) ?_
  simp only [push_cast, Nat.reduceAdd, Nat.reduceMul, Nat.reduceSub, Nat.reduceLeDiff, Nat.reduceLT, Nat.reduceEqDiff, Nat.reduceBEq, Nat.reduceBNe, Nat.reduceMod, Nat.reduceDiv, Int.reduceLE, Int.reduceLT, Int.reduceToNat, Int.reduceAdd, Int.reduceSub, Int.reduceMul, Int.reduceNeg, Int.reduceEq, Int.reduceBEq, Int.reduceBNe, ↓reduceIte, reduceCtorEq, String.reduceBNe, String.reduceEq, reduceDIte, Nat.reducePow, hb, lk_old hb]
  refine Thn_n ?_
  refine hK _ _ ?_
  clear hK K
  refine AW.block ?_
  refine AW.loopK [0, 1, 4] (fun i => i ≤ l.length ∧ lkR k l = lkR k (l.drop i)) (fun i => [(6, .one (.int .i64 (i : Int)))]) (fun i => []) (fun i => l.length - i) 0 ⟨Nat.zero_le _, rfl⟩ ?_ ?_ fun i hi4 => ?_
  · first | rfl | (simp only [Keeps, Tm.get_cons, Nat.reduceEqDiff, ↓reduceIte, if_true, if_false, ite_true, ite_false, true_and, and_true, and_self, reduceCtorEq] <;> rfl)
  · first | rfl | (simp only [setAll, push_cast, Nat.reduceAdd, Nat.reduceMul, Nat.reduceSub, Nat.reduceLeDiff, Nat.reduceLT, Nat.reduceEqDiff, Nat.reduceBEq, Nat.reduceBNe, Nat.reduceMod, Nat.reduceDiv, Int.reduceLE, Int.reduceLT, Int.reduceToNat, Int.reduceAdd, Int.reduceSub, Int.reduceMul, Int.reduceNeg, Int.reduceEq, Int.reduceBEq, Int.reduceBNe, ↓reduceIte, reduceCtorEq, String.reduceBNe, String.reduceEq, reduceDIte, Nat.reducePow, hb, lk_old hb] <;> rfl)
  obtain ⟨hin, hinv⟩ := hi4
  try simp only [keepL, setAll, push_cast, Nat.reduceAdd, Nat.reduceMul, Nat.reduceSub, Nat.reduceLeDiff, Nat.reduceLT, Nat.reduceEqDiff, Nat.reduceBEq, Nat.reduceBNe, Nat.reduceMod, Nat.reduceDiv, Int.reduceLE, Int.reduceLT, Int.reduceToNat, Int.reduceAdd, Int.reduceSub, Int.reduceMul, Int.reduceNeg, Int.reduceEq, Int.reduceBEq, Int.reduceBNe, ↓reduceIte, reduceCtorEq, String.reduceBNe, String.reduceEq, reduceDIte, Nat.reducePow, hb, lk_old hb]
  refine AW.seq_k fun K hK => ?_
  refine AW.seq_k fun K hK => ?_
  refine AW.region (by decide) ?_
  simp only [push_cast, Nat.reduceAdd, Nat.reduceMul, Nat.reduceSub, Nat.reduceLeDiff, Nat.reduceLT, Nat.reduceEqDiff, Nat.reduceBEq, Nat.reduceBNe, Nat.reduceMod, Nat.reduceDiv, Int.reduceLE, Int.reduceLT, Int.reduceToNat, Int.reduceAdd, Int.reduceSub, Int.reduceMul, Int.reduceNeg, Int.reduceEq, Int.reduceBEq, Int.reduceBNe, ↓reduceIte, reduceCtorEq, String.reduceBNe, String.reduceEq, reduceDIte, Nat.reducePow, hb, lk_old hb]
  refine Thn_n ?_
  refine hK _ _ ?_
  clear hK K
  refine AW.cond rfl (fun h10 => ?_) (fun h10 => ?_)
  · have hlt : i < l.length := by have := of_decide_eq_true h10; omega
    have c1 : (0 : Int) ≤ (i : Int) := by omega
    have c2 : (i : Int) < (l.length : Int) := by omega
    have c3 : i * 129 + 129 ≤ l.length * 129 := by omega
    have hcl := rowC_len hl9
    obtain ⟨e, he⟩ : ∃ e, l[i]? = some e := ⟨_, List.getElem?_eq_getElem hlt⟩
    have he9 := hl9 e (List.mem_of_getElem? he)
    have gk := rowC_key hl9 he
    have gb := rowC_b hl9 he
    have g1 := u8l_len e.2
    rw [he9] at g1
    have g2 := u8l_vals e.2
    have g3 : (u8l e.2).take 128 = u8l e.2 := List.take_of_length_le (by omega)
    have g4 : setL [.int .u8 0, .int .u8 0, .int .u8 0, .int .u8 0, .int .u8 0, .int .u8 0, .int .u8 0, .int .u8 0, .int .u8 0, .int .u8 0, .int .u8 0, .int .u8 0, .int .u8 0, .int .u8 0, .int .u8 0, .int .u8 0, .int .u8 0, .int .u8 0, .int .u8 0, .int .u8 0, .int .u8 0, .int .u8 0, .int .u8 0, .int .u8 0, .int .u8 0, .int .u8 0, .int .u8 0, .int .u8 0, .int .u8 0, .int .u8 0, .int .u8 0, .int .u8 0, .int .u8 0, .int .u8 0, .int .u8 0, .int .u8 0, .int .u8 0, .int .u8 0, .int .u8 0, .int .u8 0, .int .u8 0, .int .u8 0, .int .u8 0, .int .u8 0, .int .u8 0, .int .u8 0, .int .u8 0, .int .u8 0, .int .u8 0, .int .u8 0, .int .u8 0, .int .u8 0, .int .u8 0, .int .u8 0, .int .u8 0, .int .u8 0, .int .u8 0, .int .u8 0, .int .u8 0, .int .u8 0, .int .u8 0, .int .u8 0, .int .u8 0, .int .u8 0, .int .u8 0, .int .u8 0, .int .u8 0, .int .u8 0, .int .u8 0, .int .u8 0, .int .u8 0, .int .u8 0, .int .u8 0, .int .u8 0, .int .u8 0, .int .u8 0, .int .u8 0, .int .u8 0, .int .u8 0, .int .u8 0, .int .u8 0, .int .u8 0, .int .u8 0, .int .u8 0, .int .u8 0, .int .u8 0, .int .u8 0, .int .u8 0, .int .u8 0, .int .u8 0, .int .u8 0, .int .u8 0, .int .u8 0, .int .u8 0, .int .u8 0, .int .u8 0, .int .u8 0, .int .u8 0, .int .u8 0, .int .u8 0, .int .u8 0, .int .u8 0, .int .u8 0, .int .u8 0, .int .u8 0, .int .u8 0, .int .u8 0, .int .u8 0, .int .u8 0, .int .u8 0, .int .u8 0, .int .u8 0, .int .u8 0, .int .u8 0, .int .u8 0, .int .u8 0, .int .u8 0, .int .u8 0, .int .u8 0, .int .u8 0, .int .u8 0, .int .u8 0, .int .u8 0, .int .u8 0, .int .u8 0, .int .u8 0, .int .u8 0, .int .u8 0] 0 (u8l e.2) = u8l e.2 := setL_all (by rw [g1]; rfl)
    have hdr : l.drop i = e :: l.drop (i + 1) := by
      rw [List.drop_eq_getElem_cons hlt, (List.getElem?_eq_some_iff.1 he).2]
    rw [hdr, lkR_c] at hinv
    refine AW.skip ?_
    refine Thn_n ?_
    refine hK _ _ ?_
    clear hK K
    refine AW.seq_k fun K hK => ?_
    refine AW.block ?_
    refine AW.seq_k fun K hK => ?_
    refine AW.region (by decide) ?_
    simp only [push_cast, Nat.reduceAdd, Nat.reduceMul, Nat.reduceSub, Nat.reduceLeDiff, Nat.reduceLT, Nat.reduceEqDiff, Nat.reduceBEq, Nat.reduceBNe, Nat.reduceMod, Nat.reduceDiv, Int.reduceLE, Int.reduceLT, Int.reduceToNat, Int.reduceAdd, Int.reduceSub, Int.reduceMul, Int.reduceNeg, Int.reduceEq, Int.reduceBEq, Int.reduceBNe, ↓reduceIte, reduceCtorEq, String.reduceBNe, String.reduceEq, reduceDIte, Nat.reducePow, hb, lk_old hb, c1, c2, c3, hcl, gk, gb, g1, g2, g3, g4, Nat.le_refl]
    refine Thn_n ?_
    refine hK _ _ ?_
    clear hK K
    refine AW.cond rfl (fun h19 => ?_) (fun h19 => ?_)
    · have hek : e.1 = k := by simpa using h19
      rw [if_pos hek] at hinv
      refine AW.seq_k fun K hK => ?_
      refine AW.region (by decide) ?_
      simp only [push_cast, Nat.reduceAdd, Nat.reduceMul, Nat.reduceSub, Nat.reduceLeDiff, Nat.reduceLT, Nat.reduceEqDiff, Nat.reduceBEq, Nat.reduceBNe, Nat.reduceMod, Nat.reduceDiv, Int.reduceLE, Int.reduceLT, Int.reduceToNat, Int.reduceAdd, Int.reduceSub, Int.reduceMul, Int.reduceNeg, Int.reduceEq, Int.reduceBEq, Int.reduceBNe, ↓reduceIte, reduceCtorEq, String.reduceBNe, String.reduceEq, reduceDIte, Nat.reducePow, hb, lk_old hb, c1, c2, c3, hcl, gk, gb, g1, g2, g3, g4, Nat.le_refl]
      refine Thn_n ?_
      refine hK _ _ ?_
      clear hK K
      refine AW.ret ?_
      refine InB_r ?_
      refine Thn_r ?_
      refine Thn_r ?_
      refine InB_r ?_
      refine Thn_r ?_
      refine hQ _ _ _ ?_
      first | rw [hinv] | rw [hr0]
      refine RetP.drop (by first | exact Or.inr rfl | exact Or.inl rfl) ?_ ?_ hwf
      · simp only [resA, resOne, resTv, AV.tv, push_cast, Nat.reduceAdd, Nat.reduceMul, Nat.reduceSub, Nat.reduceLeDiff, Nat.reduceLT, Nat.reduceEqDiff, Nat.reduceBEq, Nat.reduceBNe, Nat.reduceMod, Nat.reduceDiv, Int.reduceLE, Int.reduceLT, Int.reduceToNat, Int.reduceAdd, Int.reduceSub, Int.reduceMul, Int.reduceNeg, Int.reduceEq, Int.reduceBEq, Int.reduceBNe, ↓reduceIte, reduceCtorEq, String.reduceBNe, String.reduceEq, reduceDIte, Nat.reducePow]
        first | done | rfl | (simp only [g1, g3, Nat.le_refl, AV.tv, push_cast, Nat.reduceAdd, Nat.reduceMul, Nat.reduceSub, Nat.reduceLeDiff, Nat.reduceLT, Nat.reduceEqDiff, Nat.reduceBEq, Nat.reduceBNe, Nat.reduceMod, Nat.reduceDiv, Int.reduceLE, Int.reduceLT, Int.reduceToNat, Int.reduceAdd, Int.reduceSub, Int.reduceMul, Int.reduceNeg, Int.reduceEq, Int.reduceBEq, Int.reduceBNe, ↓reduceIte, reduceCtorEq, String.reduceBNe, String.reduceEq, reduceDIte, Nat.reducePow]; done) | (simp only [g1, g3, Nat.le_refl, AV.tv, push_cast, Nat.reduceAdd, Nat.reduceMul, Nat.reduceSub, Nat.reduceLeDiff, Nat.reduceLT, Nat.reduceEqDiff, Nat.reduceBEq, Nat.reduceBNe, Nat.reduceMod, Nat.reduceDiv, Int.reduceLE, Int.reduceLT, Int.reduceToNat, Int.reduceAdd, Int.reduceSub, Int.reduceMul, Int.reduceNeg, Int.reduceEq, Int.reduceBEq, Int.reduceBNe, ↓reduceIte, reduceCtorEq, String.reduceBNe, String.reduceEq, reduceDIte, Nat.reducePow]; rfl)
      · simp only [Option.getD_some, Option.getD_none, AV.below, List.all_cons, List.all_nil, CV.below, u8l_below, Bool.and_self]
    · have hek : ¬ e.1 = k := by simpa using h19
      rw [if_neg hek] at hinv
      have hinv2 := hinv
      refine AW.skip ?_
      refine InB_n ?_
      refine Thn_n ?_
      refine hK _ _ ?_
      clear hK K
      refine AW.region (by decide) ?_
      simp only [push_cast, Nat.reduceAdd, Nat.reduceMul, Nat.reduceSub, Nat.reduceLeDiff, Nat.reduceLT, Nat.reduceEqDiff, Nat.reduceBEq, Nat.reduceBNe, Nat.reduceMod, Nat.reduceDiv, Int.reduceLE, Int.reduceLT, Int.reduceToNat, Int.reduceAdd, Int.reduceSub, Int.reduceMul, Int.reduceNeg, Int.reduceEq, Int.reduceBEq, Int.reduceBNe, ↓reduceIte, reduceCtorEq, String.reduceBNe, String.reduceEq, reduceDIte, Nat.reducePow, hb, lk_old hb, c1, c2, c3, hcl, gk, gb, g1, g2, g3, g4, Nat.le_refl]
      refine Thn_n ?_
      have hwi : IntKind.i64.wrap ((i:Int)+1) = (i:Int)+1 := wi (by omega)
      refine ⟨i + 1, ⟨by omega, hinv2⟩, by omega, ?_⟩
      try simp only [keepL, setAll, push_cast, Nat.reduceAdd, Nat.reduceMul, Nat.reduceSub, Nat.reduceLeDiff, Nat.reduceLT, Nat.reduceEqDiff, Nat.reduceBEq, Nat.reduceBNe, Nat.reduceMod, Nat.reduceDiv, Int.reduceLE, Int.reduceLT, Int.reduceToNat, Int.reduceAdd, Int.reduceSub, Int.reduceMul, Int.reduceNeg, Int.reduceEq, Int.reduceBEq, Int.reduceBNe, ↓reduceIte, reduceCtorEq, String.reduceBNe, String.reduceEq, reduceDIte, Nat.reducePow, hb, lk_old hb, c1, c2, c3, hcl, gk, gb, g1, g2, g3, g4, Nat.le_refl, hwi]
      exact Weak.same (by simp only [Keeps, Tm.get_cons, Nat.reduceEqDiff, ↓reduceIte, if_true, if_false, ite_true, ite_false, true_and, and_true, and_self, reduceCtorEq, hwi]) (by first | rfl | simp only [Keeps, Tm.get_cons, Nat.reduceEqDiff, ↓reduceIte, if_true, if_false, ite_true, ite_false, true_and, and_true, and_self, reduceCtorEq, hwi])
  · have hie : i = l.length := by have := of_decide_eq_false h10; omega
    rw [hie, List.drop_length] at hinv
    have hr0 : lkR k l = none := hinv
    refine AW.exit ?_
    refine Thn_e ?_
    clear hK K
    refine Thn_e ?_
    refine InB_here ?_
    refine Thn_n ?_
    refine hK _ _ ?_
    clear hK K
    refine AW.seq_k fun K hK => ?_
    refine AW.region (by decide) ?_
    simp only [push_cast, Nat.reduceAdd, Nat.reduceMul, Nat.reduceSub, Nat.reduceLeDiff, Nat.reduceLT, Nat.reduceEqDiff, Nat.reduceBEq, Nat.reduceBNe, Nat.reduceMod, Nat.reduceDiv, Int.reduceLE, Int.reduceLT, Int.reduceToNat, Int.reduceAdd, Int.reduceSub, Int.reduceMul, Int.reduceNeg, Int.reduceEq, Int.reduceBEq, Int.reduceBNe, ↓reduceIte, reduceCtorEq, String.reduceBNe, String.reduceEq, reduceDIte, Nat.reducePow, hb, lk_old hb]
    refine Thn_n ?_
    refine hK _ _ ?_
    clear hK K
    refine AW.ret ?_
    refine hQ _ _ _ ?_
    first | rw [hinv] | rw [hr0]
    refine RetP.drop (by first | exact Or.inr rfl | exact Or.inl rfl) ?_ ?_ hwf
    · simp only [resA, resOne, resTv, AV.tv, push_cast, Nat.reduceAdd, Nat.reduceMul, Nat.reduceSub, Nat.reduceLeDiff, Nat.reduceLT, Nat.reduceEqDiff, Nat.reduceBEq, Nat.reduceBNe, Nat.reduceMod, Nat.reduceDiv, Int.reduceLE, Int.reduceLT, Int.reduceToNat, Int.reduceAdd, Int.reduceSub, Int.reduceMul, Int.reduceNeg, Int.reduceEq, Int.reduceBEq, Int.reduceBNe, ↓reduceIte, reduceCtorEq, String.reduceBNe, String.reduceEq, reduceDIte, Nat.reducePow]
      first | done | rfl | (simp only [g1, g3, Nat.le_refl, AV.tv, push_cast, Nat.reduceAdd, Nat.reduceMul, Nat.reduceSub, Nat.reduceLeDiff, Nat.reduceLT, Nat.reduceEqDiff, Nat.reduceBEq, Nat.reduceBNe, Nat.reduceMod, Nat.reduceDiv, Int.reduceLE, Int.reduceLT, Int.reduceToNat, Int.reduceAdd, Int.reduceSub, Int.reduceMul, Int.reduceNeg, Int.reduceEq, Int.reduceBEq, Int.reduceBNe, ↓reduceIte, reduceCtorEq, String.reduceBNe, String.reduceEq, reduceDIte, Nat.reducePow]; done) | (simp only [g1, g3, Nat.le_refl, AV.tv, push_cast, Nat.reduceAdd, Nat.reduceMul, Nat.reduceSub, Nat.reduceLeDiff, Nat.reduceLT, Nat.reduceEqDiff, Nat.reduceBEq, Nat.reduceBNe, Nat.reduceMod, Nat.reduceDiv, Int.reduceLE, Int.reduceLT, Int.reduceToNat, Int.reduceAdd, Int.reduceSub, Int.reduceMul, Int.reduceNeg, Int.reduceEq, Int.reduceBEq, Int.reduceBNe, ↓reduceIte, reduceCtorEq, String.reduceBNe, String.reduceEq, reduceDIte, Nat.reducePow]; rfl)
    · simp only [Option.getD_some, Option.getD_none, AV.below, List.all_cons, List.all_nil, CV.below, u8l_below, Bool.and_self]
theorem rstep_no (rd rs rl n : Nat) (R : RS) (m : AMem) (hrd : m[rd]? = some (refB rs rl n R)) (hz : R.fuse = 0) : Ctr Try.prog 30 [.one (.ptr rd 0 0)] m (.one (.bool false)) (m.set rd (refB rs rl n (spR R))) := by
  refine Ctr.enter Try.func30 rfl (by decide) (rs := [.tmp 2]) (nt := 32) rfl rfl fun hwf Q hQ => ?_
  have ld := get_lt hrd
  have sD := fun (l : AMem) (b : Blk) (e : l.length = m.length) => mk_self (m := m) (l := l) (r := rd) e ld b
  have hspd : refB rs rl n (spR R) = ⟨.fix, 61, 0, 0, [.int .i64 n, .sl rs R.vs 0 R.su.length, .sl rl R.vl 0 R.lo.length, .int .i64 R.fuse, .int .i64 R.steps, .bool true]⟩ := by simp [spR, hz, refB]
  have hw2 : MWf m.length (m.set rd (refB rs rl n (spR R))) := MWf_setB hwf (by have := hwf _ (List.mem_of_getElem? hrd); simpa [refB, Blk.below, CV.below, BK.below, spR_vs, spR_vl] using this) rfl
  have hz2 : (R.fuse == 0) = true := by simp [hz]
  refine AW.seq_k fun K hK => ?_
  refine AW.region (by decide) ?_
  simp only [push_cast, Nat.reduceAdd, Nat.reduceMul, Nat.reduceSub, Nat.reduceLeDiff, Nat.reduceLT, Nat.reduceEqDiff, Nat.reduceBEq, Nat.reduceBNe, Nat.reduceMod, Nat.reduceDiv, Int.reduceLE, Int.reduceLT, Int.reduceToNat, Int.reduceAdd, Int.reduceSub, Int.reduceMul, Int.reduceNeg, Int.reduceEq, Int.reduceBEq, Int.reduceBNe, ↓reduceIte, reduceCtorEq, String.reduceBNe, String.reduceEq, reduceDIte, Nat.reducePow, hrd, sD, List.set_set, List.length_set, refB, hz2]
  refine Thn_n ?_
  refine hK _ _ ?_
  clear hK K
  refine AW.seq_k fun K hK => ?_
  refine AW.seq_k fun K hK => ?_
  refine AW.region (by decide) ?_
  simp only [push_cast, Nat.reduceAdd, Nat.reduceMul, Nat.reduceSub, Nat.reduceLeDiff, Nat.reduceLT, Nat.reduceEqDiff, Nat.reduceBEq, Nat.reduceBNe, Nat.reduceMod, Nat.reduceDiv, Int.reduceLE, Int.reduceLT, Int.reduceToNat, Int.reduceAdd, Int.reduceSub, Int.reduceMul, Int.reduceNeg, Int.reduceEq, Int.reduceBEq, Int.reduceBNe, ↓reduceIte, reduceCtorEq, String.reduceBNe, String.reduceEq, reduceDIte, Nat.reducePow, hrd, sD, List.set_set, List.length_set, refB, hz2]
  refine Thn_n ?_
  refine hK _ _ ?_
  clear hK K
  refine AW.cond_t rfl ?_
  iterate 2
    refine AW.seq_k fun K hK => ?_
    refine AW.region (by decide) ?_
    simp only [push_cast, Nat.reduceAdd, Nat.reduceMul, Nat.reduceSub, Nat.reduceLeDiff, Nat.reduceLT, Nat.reduceEqDiff, Nat.reduceBEq, Nat.reduceBNe, Nat.reduceMod, Nat.reduceDiv, Int.reduceLE, Int.reduceLT, Int.reduceToNat, Int.reduceAdd, Int.reduceSub, Int.reduceMul, Int.reduceNeg, Int.reduceEq, Int.reduceBEq, Int.reduceBNe, ↓reduceIte, reduceCtorEq, String.reduceBNe, String.reduceEq, reduceDIte, Nat.reducePow, hrd, sD, List.set_set, List.length_set, refB, hz2]
    refine Thn_n ?_
    refine hK _ _ ?_
    clear hK K
  refine AW.ret ?_
  refine Thn_r ?_
  refine hQ _ _ _ ?_
  rw [hspd] at hw2 ⊢
  refine RetP.dropM0 (by rw [List.length_set]) (by first | exact Or.inr rfl | exact Or.inl rfl) ?_ ?_ hw2
  · simp only [resA, resOne, resTv, AV.tv, push_cast, Nat.reduceAdd, Nat.reduceMul, Nat.reduceSub, Nat.reduceLeDiff, Nat.reduceLT, Nat.reduceEqDiff, Nat.reduceBEq, Nat.reduceBNe, Nat.reduceMod, Nat.reduceDiv, Int.reduceLE, Int.reduceLT, Int.reduceToNat, Int.reduceAdd, Int.reduceSub, Int.reduceMul, Int.reduceNeg, Int.reduceEq, Int.reduceBEq, Int.reduceBNe, ↓reduceIte, reduceCtorEq, String.reduceBNe, String.reduceEq, reduceDIte, Nat.reducePow]
  · rfl
theorem rstep_fuse (rd rs rl n : Nat) (R : RS) (m : AMem) (hrd : m[rd]? = some (refB rs rl n R)) (hz : ¬ R.fuse = 0) (hp : 0 < R.fuse) : Ctr Try.prog 30 [.one (.ptr rd 0 0)] m (.one (.bool true)) (m.set rd (refB rs rl n (spR R))) := by
  refine Ctr.enter Try.func30 rfl (by decide) (rs := [.tmp 2]) (nt := 32) rfl rfl fun hwf Q hQ => ?_
  have ld := get_lt hrd
  have sD := fun (l : AMem) (b : Blk) (e : l.length = m.length) => mk_self (m := m) (l := l) (r := rd) e ld b
  have hspd : refB rs rl n (spR R) = ⟨.fix, 61, 0, 0, [.int .i64 n, .sl rs R.vs 0 R.su.length, .sl rl R.vl 0 R.lo.length, .int .i64 (IntKind.i64.wrap (R.fuse - 1)), .int .i64 (IntKind.i64.wrap (R.steps + 1)), .bool R.down]⟩ := by simp [spR, hz, refB, hp]
  have hw2 : MWf m.length (m.set rd (refB rs rl n (spR R))) := MWf_setB hwf (by have := hwf _ (List.mem_of_getElem? hrd); simpa [refB, Blk.below, CV.below, BK.below, spR_vs, spR_vl] using this) rfl
  have hz2 : (R.fuse == 0) = false := by simp [hz]
  refine AW.seq_k fun K hK => ?_
  refine AW.region (by decide) ?_
  simp only [push_cast, Nat.reduceAdd, Nat.reduceMul, Nat.reduceSub, Nat.reduceLeDiff, Nat.reduceLT, Nat.reduceEqDiff, Nat.reduceBEq, Nat.reduceBNe, Nat.reduceMod, Nat.reduceDiv, Int.reduceLE, Int.reduceLT, Int.reduceToNat, Int.reduceAdd, Int.reduceSub, Int.reduceMul, Int.reduceNeg, Int.reduceEq, Int.reduceBEq, Int.reduceBNe, ↓reduceIte, reduceCtorEq, String.reduceBNe, String.reduceEq, reduceDIte, Nat.reducePow, hrd, sD, List.set_set, List.length_set, refB, hz2, hp]
  refine Thn_n ?_
  refine hK _ _ ?_
  clear hK K
  refine AW.seq_k fun K hK => ?_
  refine AW.seq_k fun K hK => ?_
  refine AW.region (by decide) ?_
  simp only [push_cast, Nat.reduceAdd, Nat.reduceMul, Nat.reduceSub, Nat.reduceLeDiff, Nat.reduceLT, Nat.reduceEqDiff, Nat.reduceBEq, Nat.reduceBNe, Nat.reduceMod, Nat.reduceDiv, Int.reduceLE, Int.reduceLT, Int.reduceToNat, Int.reduceAdd, Int.reduceSub, Int.reduceMul, Int.reduceNeg, Int.reduceEq, Int.reduceBEq, Int.reduceBNe, ↓reduceIte, reduceCtorEq, String.reduceBNe, String.reduceEq, reduceDIte, Nat.reducePow, hrd, sD, List.set_set, List.length_set, refB, hz2, hp]
  refine Thn_n ?_
  refine hK _ _ ?_
  clear hK K
  refine AW.cond_f rfl ?_
  refine AW.skip ?_
  refine Thn_n ?_
  refine hK _ _ ?_
  clear hK K
  refine AW.seq_k fun K hK => ?_
  refine AW.seq_k fun K hK => ?_
  refine AW.region (by decide) ?_
  simp only [push_cast, Nat.reduceAdd, Nat.reduceMul, Nat.reduceSub, Nat.reduceLeDiff, Nat.reduceLT, Nat.reduceEqDiff, Nat.reduceBEq, Nat.reduceBNe, Nat.reduceMod, Nat.reduceDiv, Int.reduceLE, Int.reduceLT, Int.reduceToNat, Int.reduceAdd, Int.reduceSub, Int.reduceMul, Int.reduceNeg, Int.reduceEq, Int.reduceBEq, Int.reduceBNe, ↓reduceIte, reduceCtorEq, String.reduceBNe, String.reduceEq, reduceDIte, Nat.reducePow, hrd, sD, List.set_set, List.length_set, refB, hz2, hp]
  refine Thn_n ?_
  refine hK _ _ ?_
  clear hK K
  refine AW.cond_t rfl ?_
  iterate 2
    refine AW.region (by decide) ?_
    simp only [push_cast, Nat.reduceAdd, Nat.reduceMul, Nat.reduceSub, Nat.reduceLeDiff, Nat.reduceLT, Nat.reduceEqDiff, Nat.reduceBEq, Nat.reduceBNe, Nat.reduceMod, Nat.reduceDiv, Int.reduceLE, Int.reduceLT, Int.reduceToNat, Int.reduceAdd, Int.reduceSub, Int.reduceMul, Int.reduceNeg, Int.reduceEq, Int.reduceBEq, Int.reduceBNe, ↓reduceIte, reduceCtorEq, String.reduceBNe, String.reduceEq, reduceDIte, Nat.reducePow, hrd, sD, List.set_set, List.length_set, refB, hz2, hp]
    refine Thn_n ?_
    refine hK _ _ ?_
    clear hK K
    refine AW.seq_k fun K hK => ?_
  refine AW.region (by decide) ?_
  simp only [push_cast, Nat.reduceAdd, Nat.reduceMul, Nat.reduceSub, Nat.reduceLeDiff, Nat.reduceLT, Nat.reduceEqDiff, Nat.reduceBEq, Nat.reduceBNe, Nat.reduceMod, Nat.reduceDiv, Int.reduceLE, Int.reduceLT, Int.reduceToNat, Int.reduceAdd, Int.reduceSub, Int.reduceMul, Int.reduceNeg, Int.reduceEq, Int.reduceBEq, Int.reduceBNe, ↓reduceIte, reduceCtorEq, String.reduceBNe, String.reduceEq, reduceDIte, Nat.reducePow, hrd, sD, List.set_set, List.length_set, refB, hz2, hp]
  refine Thn_n ?_
  refine hK _ _ ?_
  clear hK K
  refine AW.ret ?_
  refine hQ _ _ _ ?_
  rw [hspd] at hw2 ⊢
  refine RetP.dropM0 (by rw [List.length_set]) (by first | exact Or.inr rfl | exact Or.inl rfl) ?_ ?_ hw2
  · simp only [resA, resOne, resTv, AV.tv, push_cast, Nat.reduceAdd, Nat.reduceMul, Nat.reduceSub, Nat.reduceLeDiff, Nat.reduceLT, Nat.reduceEqDiff, Nat.reduceBEq, Nat.reduceBNe, Nat.reduceMod, Nat.reduceDiv, Int.reduceLE, Int.reduceLT, Int.reduceToNat, Int.reduceAdd, Int.reduceSub, Int.reduceMul, Int.reduceNeg, Int.reduceEq, Int.reduceBEq, Int.reduceBNe, ↓reduceIte, reduceCtorEq, String.reduceBNe, String.reduceEq, reduceDIte, Nat.reducePow]
  · rfl
theorem rstep_free (rd rs rl n : Nat) (R : RS) (m : AMem) (hrd : m[rd]? = some (refB rs rl n R)) (hz : ¬ R.fuse = 0) (hp : ¬ 0 < R.fuse) : Ctr Try.prog 30 [.one (.ptr rd 0 0)] m (.one (.bool true)) (m.set rd (refB rs rl n (spR R))) := by
  refine Ctr.enter Try.func30 rfl (by decide) (rs := [.tmp 2]) (nt := 32) rfl rfl fun hwf Q hQ => ?_
  have ld := get_lt hrd
  have sD := fun (l : AMem) (b : Blk) (e : l.length = m.length) => mk_self (m := m) (l := l) (r := rd) e ld b
  have hspd : refB rs rl n (spR R) = ⟨.fix, 61, 0, 0, [.int .i64 n, .sl rs R.vs 0 R.su.length, .sl rl R.vl 0 R.lo.length, .int .i64 R.fuse, .int .i64 (IntKind.i64.wrap (R.steps + 1)), .bool R.down]⟩ := by simp [spR, hz, refB, hp]
  have hw2 : MWf m.length (m.set rd (refB rs rl n (spR R))) := MWf_setB hwf (by have := hwf _ (List.mem_of_getElem? hrd); simpa [refB, Blk.below, CV.below, BK.below, spR_vs, spR_vl] using this) rfl
  have hz2 : (R.fuse == 0) = false := by simp [hz]
  refine AW.seq_k fun K hK => ?_
  refine AW.region (by decide) ?_
  simp only [push_cast, Nat.reduceAdd, Nat.reduceMul, Nat.reduceSub, Nat.reduceLeDiff, Nat.reduceLT, Nat.reduceEqDiff, Nat.reduceBEq, Nat.reduceBNe, Nat.reduceMod, Nat.reduceDiv, Int.reduceLE, Int.reduceLT, Int.reduceToNat, Int.reduceAdd, Int.reduceSub, Int.reduceMul, Int.reduceNeg, Int.reduceEq, Int.reduceBEq, Int.reduceBNe, ↓reduceIte, reduceCtorEq, String.reduceBNe, String.reduceEq, reduceDIte, Nat.reducePow, hrd, sD, List.set_set, List.length_set, refB, hz2, hp]
  iterate 2
    refine Thn_n ?_
    refine hK _ _ ?_
    clear hK K
    refine AW.seq_k fun K hK => ?_
    refine AW.seq_k fun K hK => ?_
    refine AW.region (by decide) ?_
    simp only [push_cast, Nat.reduceAdd, Nat.reduceMul, Nat.reduceSub, Nat.reduceLeDiff, Nat.reduceLT, Nat.reduceEqDiff, Nat.reduceBEq, Nat.reduceBNe, Nat.reduceMod, Nat.reduceDiv, Int.reduceLE, Int.reduceLT, Int.reduceToNat, Int.reduceAdd, Int.reduceSub, Int.reduceMul, Int.reduceNeg, Int.reduceEq, Int.reduceBEq, Int.reduceBNe, ↓reduceIte, reduceCtorEq, String.reduceBNe, String.reduceEq, reduceDIte, Nat.reducePow, hrd, sD, List.set_set, List.length_set, refB, hz2, hp]
    refine Thn_n ?_
    refine hK _ _ ?_
    clear hK K
    refine AW.cond_f rfl ?_
    refine AW.skip ?_
  iterate 2
    refine Thn_n ?_
    refine hK _ _ ?_
    clear hK K
    refine AW.seq_k fun K hK => ?_
    refine AW.region (by decide) ?_
    simp only [push_cast, Nat.reduceAdd, Nat.reduceMul, Nat.reduceSub, Nat.reduceLeDiff, Nat.reduceLT, Nat.reduceEqDiff, Nat.reduceBEq, Nat.reduceBNe, Nat.reduceMod, Nat.reduceDiv, Int.reduceLE, Int.reduceLT, Int.reduceToNat, Int.reduceAdd, Int.reduceSub, Int.reduceMul, Int.reduceNeg, Int.reduceEq, Int.reduceBEq, Int.reduceBNe, ↓reduceIte, reduceCtorEq, String.reduceBNe, String.reduceEq, reduceDIte, Nat.reducePow, hrd, sD, List.set_set, List.length_set, refB, hz2, hp]
  refine Thn_n ?_
  refine hK _ _ ?_
  clear hK K
  refine AW.ret ?_
  refine hQ _ _ _ ?_
  rw [hspd] at hw2 ⊢
  refine RetP.dropM0 (by rw [List.length_set]) (by first | exact Or.inr rfl | exact Or.inl rfl) ?_ ?_ hw2
  · simp only [resA, resOne, resTv, AV.tv, push_cast, Nat.reduceAdd, Nat.reduceMul, Nat.reduceSub, Nat.reduceLeDiff, Nat.reduceLT, Nat.reduceEqDiff, Nat.reduceBEq, Nat.reduceBNe, Nat.reduceMod, Nat.reduceDiv, Int.reduceLE, Int.reduceLT, Int.reduceToNat, Int.reduceAdd, Int.reduceSub, Int.reduceMul, Int.reduceNeg, Int.reduceEq, Int.reduceBEq, Int.reduceBNe, ↓reduceIte, reduceCtorEq, String.reduceBNe, String.reduceEq, reduceDIte, Nat.reducePow]
  · rfl
theorem rstep_go (rd rs rl n : Nat) (R : RS) (m : AMem) (hrd : m[rd]? = some (refB rs rl n R)) (hz : ¬ R.fuse = 0) : Ctr Try.prog 30 [.one (.ptr rd 0 0)] m (.one (.bool true)) (m.set rd (refB rs rl n (spR R))) := by
  rcases Classical.em (0 < R.fuse) with hp | hp
  · exact rstep_fuse rd rs rl n R m hrd hz hp
  · exact rstep_free rd rs rl n R m hrd hz hp
end Go.Proofs.Ytcahlnddcjifdaa

set_option linter.unusedSimpArgs false
set_option linter.unusedVariables false
set_option maxRecDepth 100000
set_option maxHeartbeats 4000000
namespace Go.Proofs.Ytcahlnddcjifdaa
open Go Go.Eng

theorem setR_l {m : AMem} {rd rs rl n : Nat} {R : RS} (h : HasR m rd rs rl n R) (R' : RS) (h1 : R'.su = R.su) (h3 : R'.vs = R.vs) : setR m rd rs rl n R' = (m.set rd (refB rs rl n R')).set rl (rowR R'.vl R'.lo) := by
  unfold setR
  rw [h1, h3, set_self (l := m.set rd _) (by rw [List.getElem?_set_ne h.dr]; exact h.s)]
theorem set_rot {m : AMem} {a b : Nat} (h : a ≠ b) (X A B : Blk) : ((m.set a X).set b B).set a A = (m.set a A).set b B := by
  rw [List.set_comm _ _ h.symm, List.set_set]
def wrR (R : RS) (x : Int) (v : List Int) : RS := { spR R with lo := putR (x, v) false R.lo, vl := R.vl + 1 }
theorem setL_sh {α : Type} : ∀ (vs l : List α) (x : α) (i : Nat), setL (x :: l) (i + 1) vs = x :: setL l i vs
  | [], l, x, i => rfl
  | v :: vs, l, x, i => by simp only [setL, List.set_cons_succ]; rw [setL_sh vs]
theorem build_ent (x : Int) (v : List Int) (hv : v.length = 128) : setL (.int .i64 x :: [.int .u8 0, .int .u8 0, .int .u8 0, .int .u8 0, .int .u8 0, .int .u8 0, .int .u8 0, .int .u8 0, .int .u8 0, .int .u8 0, .int .u8 0, .int .u8 0, .int .u8 0, .int .u8 0, .int .u8 0, .int .u8 0, .int .u8 0, .int .u8 0, .int .u8 0, .int .u8 0, .int .u8 0, .int .u8 0, .int .u8 0, .int .u8 0, .int .u8 0, .int .u8 0, .int .u8 0, .int .u8 0, .int .u8 0, .int .u8 0, .int .u8 0, .int .u8 0, .int .u8 0, .int .u8 0, .int .u8 0, .int .u8 0, .int .u8 0, .int .u8 0, .int .u8 0, .int .u8 0, .int .u8 0, .int .u8 0, .int .u8 0, .int .u8 0, .int .u8 0, .int .u8 0, .int .u8 0, .int .u8 0, .int .u8 0, .int .u8 0, .int .u8 0, .int .u8 0, .int .u8 0, .int .u8 0, .int .u8 0, .int .u8 0, .int .u8 0, .int .u8 0, .int .u8 0, .int .u8 0, .int .u8 0, .int .u8 0, .int .u8 0, .int .u8 0, .int .u8 0, .int .u8 0, .int .u8 0, .int .u8 0, .int .u8 0, .int .u8 0, .int .u8 0, .int .u8 0, .int .u8 0, .int .u8 0, .int .u8 0, .int .u8 0, .int .u8 0, .int .u8 0, .int .u8 0, .int .u8 0, .int .u8 0, .int .u8 0, .int .u8 0, .int .u8 0, .int .u8 0, .int .u8 0, .int .u8 0, .int .u8 0, .int .u8 0, .int .u8 0, .int .u8 0, .int .u8 0, .int .u8 0, .int .u8 0, .int .u8 0, .int .u8 0, .int .u8 0, .int .u8 0, .int .u8 0, .int .u8 0, .int .u8 0, .int .u8 0, .int .u8 0, .int .u8 0, .int .u8 0, .int .u8 0, .int .u8 0, .int .u8 0, .int .u8 0, .int .u8 0, .int .u8 0, .int .u8 0, .int .u8 0, .int .u8 0, .int .u8 0, .int .u8 0, .int .u8 0, .int .u8 0, .int .u8 0, .int .u8 0, .int .u8 0, .int .u8 0, .int .u8 0, .int .u8 0, .int .u8 0, .int .u8 0, .int .u8 0, .int .u8 0]) 1 (u8l v) = entC (x, v) := by
  rw [setL_sh]; unfold entC
  rw [setL_all (by rw [u8l_len, hv]; rfl)]
theorem rwr_down (rd rs rl n : Nat) (R : RS) (x : Int) (v : List Int) (m : AMem) (hrd : m[rd]? = some (refB rs rl n R)) (hd : R.down = true) : Ctr Try.prog 24 [.one (.ptr rd 0 0), .one (.int .i64 x), .agg (u8l v)] m (.one (.int .i64 5)) m := by
  refine Ctr.enter Try.func24 rfl (by decide) (rs := [.tmp 6]) (nt := 35) rfl rfl fun hwf Q hQ => ?_
  refine AW.seq_k fun K hK => ?_
  refine AW.region (by decide) ?_
  simp only [push_cast, Nat.reduceAdd, Nat.reduceMul, Nat.reduceSub, Nat.reduceLeDiff, Nat.reduceLT, Nat.reduceEqDiff, Nat.reduceBEq, Nat.reduceBNe, Nat.reduceMod, Nat.reduceDiv, Int.reduceLE, Int.reduceLT, Int.reduceToNat, Int.reduceAdd, Int.reduceSub, Int.reduceMul, Int.reduceNeg, Int.reduceEq, Int.reduceBEq, Int.reduceBNe, ↓reduceIte, reduceCtorEq, String.reduceBNe, String.reduceEq, reduceDIte, Nat.reducePow, hrd, lk_old hrd, refB, hd]
  refine Thn_n ?_
  refine hK _ _ ?_
  clear hK K
  refine AW.seq_k fun K hK => ?_
  refine AW.seq_k fun K hK => ?_
  refine AW.region (by decide) ?_
  simp only [push_cast, Nat.reduceAdd, Nat.reduceMul, Nat.reduceSub, Nat.reduceLeDiff, Nat.reduceLT, Nat.reduceEqDiff, Nat.reduceBEq, Nat.reduceBNe, Nat.reduceMod, Nat.reduceDiv, Int.reduceLE, Int.reduceLT, Int.reduceToNat, Int.reduceAdd, Int.reduceSub, Int.reduceMul, Int.reduceNeg, Int.reduceEq, Int.reduceBEq, Int.reduceBNe, ↓reduceIte, reduceCtorEq, String.reduceBNe, String.reduceEq, reduceDIte, Nat.reducePow, hrd, lk_old hrd, refB, hd]
  refine Thn_n ?_
  refine hK _ _ ?_
  clear hK K
  refine AW.cond_t rfl ?_
  refine AW.seq_k fun K hK => ?_
  refine AW.region (by decide) ?_
  simp only [push_cast, Nat.reduceAdd, Nat.reduceMul, Nat.reduceSub, Nat.reduceLeDiff, Nat.reduceLT, Nat.reduceEqDiff, Nat.reduceBEq, Nat.reduceBNe, Nat.reduceMod, Nat.reduceDiv, Int.reduceLE, Int.reduceLT, Int.reduceToNat, Int.reduceAdd, Int.reduceSub, Int.reduceMul, Int.reduceNeg, Int.reduceEq, Int.reduceBEq, Int.reduceBNe, ↓reduceIte, reduceCtorEq, String.reduceBNe, String.reduceEq, reduceDIte, Nat.reducePow, hrd, lk_old hrd, refB, hd]
  refine Thn_n ?_
  refine hK _ _ ?_
  clear hK K
  refine AW.ret ?_
  refine Thn_r ?_
  refine hQ _ _ _ ?_
  first | refine RetP.drop0 (Or.inr rfl) ?_ ?_ hwf | refine RetP.drop (Or.inr rfl) ?_ ?_ hwf
  · simp only [resA, resOne, resTv, AV.tv, push_cast, Nat.reduceAdd, Nat.reduceMul, Nat.reduceSub, Nat.reduceLeDiff, Nat.reduceLT, Nat.reduceEqDiff, Nat.reduceBEq, Nat.reduceBNe, Nat.reduceMod, Nat.reduceDiv, Int.reduceLE, Int.reduceLT, Int.reduceToNat, Int.reduceAdd, Int.reduceSub, Int.reduceMul, Int.reduceNeg, Int.reduceEq, Int.reduceBEq, Int.reduceBNe, ↓reduceIte, reduceCtorEq, String.reduceBNe, String.reduceEq, reduceDIte, Nat.reducePow, hrd, lk_old hrd, refB, hd]
  · rfl
theorem rwr_lo (rd rs rl n : Nat) (R : RS) (x : Int) (v : List Int) (m : AMem) (hrd : m[rd]? = some (refB rs rl n R)) (hd : R.down = false) (h1 : x < 0) : Ctr Try.prog 24 [.one (.ptr rd 0 0), .one (.int .i64 x), .agg (u8l v)] m (.one (.int .i64 1)) m := by
  refine Ctr.enter Try.func24 rfl (by decide) (rs := [.tmp 6]) (nt := 35) rfl rfl fun hwf Q hQ => ?_
  refine AW.seq_k fun K hK => ?_
  refine AW.region (by decide) ?_
  simp only [push_cast, Nat.reduceAdd, Nat.reduceMul, Nat.reduceSub, Nat.reduceLeDiff, Nat.reduceLT, Nat.reduceEqDiff, Nat.reduceBEq, Nat.reduceBNe, Nat.reduceMod, Nat.reduceDiv, Int.reduceLE, Int.reduceLT, Int.reduceToNat, Int.reduceAdd, Int.reduceSub, Int.reduceMul, Int.reduceNeg, Int.reduceEq, Int.reduceBEq, Int.reduceBNe, ↓reduceIte, reduceCtorEq, String.reduceBNe, String.reduceEq, reduceDIte, Nat.reducePow, hrd, lk_old hrd, refB, hd, h1]
  refine Thn_n ?_
  refine hK _ _ ?_
  clear hK K
  refine AW.seq_k fun K hK => ?_
  refine AW.seq_k fun K hK => ?_
  refine AW.region (by decide) ?_
  simp only [push_cast, Nat.reduceAdd, Nat.reduceMul, Nat.reduceSub, Nat.reduceLeDiff, Nat.reduceLT, Nat.reduceEqDiff, Nat.reduceBEq, Nat.reduceBNe, Nat.reduceMod, Nat.reduceDiv, Int.reduceLE, Int.reduceLT, Int.reduceToNat, Int.reduceAdd, Int.reduceSub, Int.reduceMul, Int.reduceNeg, Int.reduceEq, Int.reduceBEq, Int.reduceBNe, ↓reduceIte, reduceCtorEq, String.reduceBNe, String.reduceEq, reduceDIte, Nat.reducePow, hrd, lk_old hrd, refB, hd, h1]
  refine Thn_n ?_
  refine hK _ _ ?_
  clear hK K
  refine AW.cond_f rfl ?_
  refine AW.skip ?_
  refine Thn_n ?_
  refine hK _ _ ?_
  clear hK K
  refine AW.seq_k fun K hK => ?_
  refine AW.seq_k fun K hK => ?_
  refine AW.region (by decide) ?_
  simp only [push_cast, Nat.reduceAdd, Nat.reduceMul, Nat.reduceSub, Nat.reduceLeDiff, Nat.reduceLT, Nat.reduceEqDiff, Nat.reduceBEq, Nat.reduceBNe, Nat.reduceMod, Nat.reduceDiv, Int.reduceLE, Int.reduceLT, Int.reduceToNat, Int.reduceAdd, Int.reduceSub, Int.reduceMul, Int.reduceNeg, Int.reduceEq, Int.reduceBEq, Int.reduceBNe, ↓reduceIte, reduceCtorEq, String.reduceBNe, String.reduceEq, reduceDIte, Nat.reducePow, hrd, lk_old hrd, refB, hd, h1]
  refine Thn_n ?_
  refine hK _ _ ?_
  clear hK K
  refine AW.cond_t rfl ?_
  refine AW.seq_k fun K hK => ?_
  refine AW.region (by decide) ?_
  simp only [push_cast, Nat.reduceAdd, Nat.reduceMul, Nat.reduceSub, Nat.reduceLeDiff, Nat.reduceLT, Nat.reduceEqDiff, Nat.reduceBEq, Nat.reduceBNe, Nat.reduceMod, Nat.reduceDiv, Int.reduceLE, Int.reduceLT, Int.reduceToNat, Int.reduceAdd, Int.reduceSub, Int.reduceMul, Int.reduceNeg, Int.reduceEq, Int.reduceBEq, Int.reduceBNe, ↓reduceIte, reduceCtorEq, String.reduceBNe, String.reduceEq, reduceDIte, Nat.reducePow, hrd, lk_old hrd, refB, hd, h1]
  refine Thn_n ?_
  refine hK _ _ ?_
  clear hK K
  refine AW.ret ?_
  refine Thn_r ?_
  refine hQ _ _ _ ?_
  first | refine RetP.drop0 (Or.inr rfl) ?_ ?_ hwf | refine RetP.drop (Or.inr rfl) ?_ ?_ hwf
  · simp only [resA, resOne, resTv, AV.tv, push_cast, Nat.reduceAdd, Nat.reduceMul, Nat.reduceSub, Nat.reduceLeDiff, Nat.reduceLT, Nat.reduceEqDiff, Nat.reduceBEq, Nat.reduceBNe, Nat.reduceMod, Nat.reduceDiv, Int.reduceLE, Int.reduceLT, Int.reduceToNat, Int.reduceAdd, Int.reduceSub, Int.reduceMul, Int.reduceNeg, Int.reduceEq, Int.reduceBEq, Int.reduceBNe, ↓reduceIte, reduceCtorEq, String.reduceBNe, String.reduceEq, reduceDIte, Nat.reducePow, hrd, lk_old hrd, refB, hd, h1]
  · rfl
theorem rwr_hi (rd rs rl n : Nat) (R : RS) (x : Int) (v : List Int) (m : AMem) (hrd : m[rd]? = some (refB rs rl n R)) (hd : R.down = false) (h1 : ¬ x < 0) (h2 : (n : Int) ≤ x) : Ctr Try.prog 24 [.one (.ptr rd 0 0), .one (.int .i64 x), .agg (u8l v)] m (.one (.int .i64 1)) m := by
  refine Ctr.enter Try.func24 rfl (by decide) (rs := [.tmp 6]) (nt := 35) rfl rfl fun hwf Q hQ => ?_
  refine AW.seq_k fun K hK => ?_
  refine AW.region (by decide) ?_
  simp only [push_cast, Nat.reduceAdd, Nat.reduceMul, Nat.reduceSub, Nat.reduceLeDiff, Nat.reduceLT, Nat.reduceEqDiff, Nat.reduceBEq, Nat.reduceBNe, Nat.reduceMod, Nat.reduceDiv, Int.reduceLE, Int.reduceLT, Int.reduceToNat, Int.reduceAdd, Int.reduceSub, Int.reduceMul, Int.reduceNeg, Int.reduceEq, Int.reduceBEq, Int.reduceBNe, ↓reduceIte, reduceCtorEq, String.reduceBNe, String.reduceEq, reduceDIte, Nat.reducePow, hrd, lk_old hrd, refB, hd, h1, h2]
  refine Thn_n ?_
  refine hK _ _ ?_
  clear hK K
  refine AW.seq_k fun K hK => ?_
  refine AW.seq_k fun K hK => ?_
  refine AW.region (by decide) ?_
  simp only [push_cast, Nat.reduceAdd, Nat.reduceMul, Nat.reduceSub, Nat.reduceLeDiff, Nat.reduceLT, Nat.reduceEqDiff, Nat.reduceBEq, Nat.reduceBNe, Nat.reduceMod, Nat.reduceDiv, Int.reduceLE, Int.reduceLT, Int.reduceToNat, Int.reduceAdd, Int.reduceSub, Int.reduceMul, Int.reduceNeg, Int.reduceEq, Int.reduceBEq, Int.reduceBNe, ↓reduceIte, reduceCtorEq, String.reduceBNe, String.reduceEq, reduceDIte, Nat.reducePow, hrd, lk_old hrd, refB, hd, h1, h2]
  refine Thn_n ?_
  refine hK _ _ ?_
  clear hK K
  refine AW.cond_f rfl ?_
  refine AW.skip ?_
  refine Thn_n ?_
  refine hK _ _ ?_
  clear hK K
  refine AW.seq_k fun K hK => ?_
  refine AW.seq_k fun K hK => ?_
  refine AW.region (by decide) ?_
  simp only [push_cast, Nat.reduceAdd, Nat.reduceMul, Nat.reduceSub, Nat.reduceLeDiff, Nat.reduceLT, Nat.reduceEqDiff, Nat.reduceBEq, Nat.reduceBNe, Nat.reduceMod, Nat.reduceDiv, Int.reduceLE, Int.reduceLT, Int.reduceToNat, Int.reduceAdd, Int.reduceSub, Int.reduceMul, Int.reduceNeg, Int.reduceEq, Int.reduceBEq, Int.reduceBNe, ↓reduceIte, reduceCtorEq, String.reduceBNe, String.reduceEq, reduceDIte, Nat.reducePow, hrd, lk_old hrd, refB, hd, h1, h2]
  refine Thn_n ?_
  refine hK _ _ ?_
  clear hK K
  refine AW.cond_t rfl ?_
  refine AW.seq_k fun K hK => ?_
  refine AW.region (by decide) ?_
  simp only [push_cast, Nat.reduceAdd, Nat.reduceMul, Nat.reduceSub, Nat.reduceLeDiff, Nat.reduceLT, Nat.reduceEqDiff, Nat.reduceBEq, Nat.reduceBNe, Nat.reduceMod, Nat.reduceDiv, Int.reduceLE, Int.reduceLT, Int.reduceToNat, Int.reduceAdd, Int.reduceSub, Int.reduceMul, Int.reduceNeg, Int.reduceEq, Int.reduceBEq, Int.reduceBNe, ↓reduceIte, reduceCtorEq, String.reduceBNe, String.reduceEq, reduceDIte, Nat.reducePow, hrd, lk_old hrd, refB, hd, h1, h2]
  refine Thn_n ?_
  refine hK _ _ ?_
  clear hK K
  refine AW.ret ?_
  refine Thn_r ?_
  refine hQ _ _ _ ?_
  first | refine RetP.drop0 (Or.inr rfl) ?_ ?_ hwf | refine RetP.drop (Or.inr rfl) ?_ ?_ hwf
  · simp only [resA, resOne, resTv, AV.tv, push_cast, Nat.reduceAdd, Nat.reduceMul, Nat.reduceSub, Nat.reduceLeDiff, Nat.reduceLT, Nat.reduceEqDiff, Nat.reduceBEq, Nat.reduceBNe, Nat.reduceMod, Nat.reduceDiv, Int.reduceLE, Int.reduceLT, Int.reduceToNat, Int.reduceAdd, Int.reduceSub, Int.reduceMul, Int.reduceNeg, Int.reduceEq, Int.reduceBEq, Int.reduceBNe, ↓reduceIte, reduceCtorEq, String.reduceBNe, String.reduceEq, reduceDIte, Nat.reducePow, hrd, lk_old hrd, refB, hd, h1, h2]
  · rfl
theorem rwr_no (rd rs rl n : Nat) (R : RS) (x : Int) (v : List Int) (m : AMem) (hv : v.length = 128) (h : HasR m rd rs rl n R) (hd : R.down = false) (h1 : ¬ x < 0) (h2 : ¬ (n : Int) ≤ x) (hz : R.fuse = 0) : Ctr Try.prog 24 [.one (.ptr rd 0 0), .one (.int .i64 x), .agg (u8l v)] m (.one (.int .i64 5)) (setR m rd rs rl n (spR R)) := by
  refine Ctr.enter Try.func24 rfl (by decide) (rs := [.tmp 6]) (nt := 35) rfl rfl fun hwf Q hQ => ?_
  have hrd := h.d
  have hrs := h.s
  have hrl := h.l
  have ld := get_lt hrd
  have lr := get_lt hrs
  have lm := get_lt hrl
  have ndr : rd ≠ rs := h.dr
  have ndm : rd ≠ rl := h.dm
  have nrm : rs ≠ rl := h.rm
  have nrd := ndr.symm
  have nmd := ndm.symm
  have nmr := nrm.symm
  have pD := fun (l L : AMem) (e : l.length = m.length) => mk_olds (m := m) (l := l) (r := rd) e ld L
  have pR := fun (l L : AMem) (e : l.length = m.length) => mk_olds (m := m) (l := l) (r := rs) e lr L
  have pM := fun (l L : AMem) (e : l.length = m.length) => mk_olds (m := m) (l := l) (r := rl) e lm L
  have gD := fun (l L : AMem) (e : l.length = m.length) => mk_old (m := m) (l := l) (r := rd) e ld L
  have gR := fun (l L : AMem) (e : l.length = m.length) => mk_old (m := m) (l := l) (r := rs) e lr L
  have gM := fun (l L : AMem) (e : l.length = m.length) => mk_old (m := m) (l := l) (r := rl) e lm L
  have sD := fun (l : AMem) (b : Blk) (e : l.length = m.length) => mk_self (m := m) (l := l) (r := rd) e ld b
  have sR := fun (l : AMem) (b : Blk) (e : l.length = m.length) => mk_self (m := m) (l := l) (r := rs) e lr b
  have sM := fun (l : AMem) (b : Blk) (e : l.length = m.length) => mk_self (m := m) (l := l) (r := rl) e lm b
  have aA := fun (l L : AMem) (e : l.length = m.length) => mk_lk0 (m := m) (l := l) e L
  have aK := fun (l L : AMem) (k : Nat) (e : l.length = m.length) => mk_lk (m := m) (l := l) e L k
  have aT := fun (l L : AMem) (k : Nat) (b : Blk) (e : l.length = m.length) => mk_set (m := m) (l := l) e L k b
  have aS := fun (l L : AMem) (b : Blk) (e : l.length = m.length) => mk_set0 (m := m) (l := l) e L b
  have hw2 : MWf m.length (setR m rd rs rl n (spR R)) := setR_wf hwf lr lm _
  have e2 := setR_d h (spR R) (spR_su R) (spR_lo R) (spR_vs R) (spR_vl R)
  refine AW.seq_k fun K hK => ?_
  refine AW.region (by decide) ?_
  simp only [push_cast, Nat.reduceAdd, Nat.reduceMul, Nat.reduceSub, Nat.reduceLeDiff, Nat.reduceLT, Nat.reduceEqDiff, Nat.reduceBEq, Nat.reduceBNe, Nat.reduceMod, Nat.reduceDiv, Int.reduceLE, Int.reduceLT, Int.reduceToNat, Int.reduceAdd, Int.reduceSub, Int.reduceMul, Int.reduceNeg, Int.reduceEq, Int.reduceBEq, Int.reduceBNe, ↓reduceIte, reduceCtorEq, String.reduceBNe, String.reduceEq, reduceDIte, Nat.reducePow, hrd, hrs, hrl, pD, pR, pM, gD, gR, gM, sD, sR, sM, aA, aS, aK, aT, List.set_set, List.length_set, List.getElem?_set_ne ndr, List.getElem?_set_ne ndm, List.getElem?_set_ne nrm, List.getElem?_set_ne nrd, List.getElem?_set_ne nmd, List.getElem?_set_ne nmr, refB, rowR, hd, h1, h2]
  iterate 2
    refine Thn_n ?_
    refine hK _ _ ?_
    clear hK K
    refine AW.seq_k fun K hK => ?_
    refine AW.seq_k fun K hK => ?_
    refine AW.region (by decide) ?_
    simp only [push_cast, Nat.reduceAdd, Nat.reduceMul, Nat.reduceSub, Nat.reduceLeDiff, Nat.reduceLT, Nat.reduceEqDiff, Nat.reduceBEq, Nat.reduceBNe, Nat.reduceMod, Nat.reduceDiv, Int.reduceLE, Int.reduceLT, Int.reduceToNat, Int.reduceAdd, Int.reduceSub, Int.reduceMul, Int.reduceNeg, Int.reduceEq, Int.reduceBEq, Int.reduceBNe, ↓reduceIte, reduceCtorEq, String.reduceBNe, String.reduceEq, reduceDIte, Nat.reducePow, hrd, hrs, hrl, pD, pR, pM, gD, gR, gM, sD, sR, sM, aA, aS, aK, aT, List.set_set, List.length_set, List.getElem?_set_ne ndr, List.getElem?_set_ne ndm, List.getElem?_set_ne nrm, List.getElem?_set_ne nrd, List.getElem?_set_ne nmd, List.getElem?_set_ne nmr, refB, rowR, hd, h1, h2]
    refine Thn_n ?_
    refine hK _ _ ?_
    clear hK K
    refine AW.cond_f rfl ?_
    refine AW.skip ?_
  refine Thn_n ?_
  refine hK _ _ ?_
  clear hK K
  refine AW.seq_k fun K hK => ?_
  refine AW.seq_k fun K hK => ?_
  refine AW.region (by decide) ?_
  simp only [push_cast, Nat.reduceAdd, Nat.reduceMul, Nat.reduceSub, Nat.reduceLeDiff, Nat.reduceLT, Nat.reduceEqDiff, Nat.reduceBEq, Nat.reduceBNe, Nat.reduceMod, Nat.reduceDiv, Int.reduceLE, Int.reduceLT, Int.reduceToNat, Int.reduceAdd, Int.reduceSub, Int.reduceMul, Int.reduceNeg, Int.reduceEq, Int.reduceBEq, Int.reduceBNe, ↓reduceIte, reduceCtorEq, String.reduceBNe, String.reduceEq, reduceDIte, Nat.reducePow, hrd, hrs, hrl, pD, pR, pM, gD, gR, gM, sD, sR, sM, aA, aS, aK, aT, List.set_set, List.length_set, List.getElem?_set_ne ndr, List.getElem?_set_ne ndm, List.getElem?_set_ne nrm, List.getElem?_set_ne nrd, List.getElem?_set_ne nmd, List.getElem?_set_ne nmr, refB, rowR, hd, h1, h2]
  refine CThen.by (rstep_no rd rs rl n R _ (lk_old h.d _) hz) ?_
  simp only [push_cast, Nat.reduceAdd, Nat.reduceMul, Nat.reduceSub, Nat.reduceLeDiff, Nat.reduceLT, Nat.reduceEqDiff, Nat.reduceBEq, Nat.reduceBNe, Nat.reduceMod, Nat.reduceDiv, Int.reduceLE, Int.reduceLT, Int.reduceToNat, Int.reduceAdd, Int.reduceSub, Int.reduceMul, Int.reduceNeg, Int.reduceEq, Int.reduceBEq, Int.reduceBNe, ↓reduceIte, reduceCtorEq, String.reduceBNe, String.reduceEq, reduceDIte, Nat.reducePow, hrd, hrs, hrl, pD, pR, pM, gD, gR, gM, sD, sR, sM, aA, aS, aK, aT, List.set_set, List.length_set, List.getElem?_set_ne ndr, List.getElem?_set_ne ndm, List.getElem?_set_ne nrm, List.getElem?_set_ne nrd, List.getElem?_set_ne nmd, List.getElem?_set_ne nmr, refB, rowR, hd, h1, h2]
  refine Thn_n ?_
  refine hK _ _ ?_
  clear hK K
  refine AW.cond_t rfl ?_
  refine AW.seq_k fun K hK => ?_
  refine AW.region (by decide) ?_
  simp only [push_cast, Nat.reduceAdd, Nat.reduceMul, Nat.reduceSub, Nat.reduceLeDiff, Nat.reduceLT, Nat.reduceEqDiff, Nat.reduceBEq, Nat.reduceBNe, Nat.reduceMod, Nat.reduceDiv, Int.reduceLE, Int.reduceLT, Int.reduceToNat, Int.reduceAdd, Int.reduceSub, Int.reduceMul, Int.reduceNeg, Int.reduceEq, Int.reduceBEq, Int.reduceBNe, ↓reduceIte, reduceCtorEq, String.reduceBNe, String.reduceEq, reduceDIte, Nat.reducePow, hrd, hrs, hrl, pD, pR, pM, gD, gR, gM, sD, sR, sM, aA, aS, aK, aT, List.set_set, List.length_set, List.getElem?_set_ne ndr, List.getElem?_set_ne ndm, List.getElem?_set_ne nrm, List.getElem?_set_ne nrd, List.getElem?_set_ne nmd, List.getElem?_set_ne nmr, refB, rowR, hd, h1, h2]
  refine Thn_n ?_
  refine hK _ _ ?_
  clear hK K
  refine AW.ret ?_
  refine Thn_r ?_
  refine hQ _ _ _ ?_
  rw [e2] at hw2 ⊢
  first | refine RetP.dropM0 (by simp only [List.length_set]) (by first | exact Or.inr rfl | exact Or.inl rfl) ?_ ?_ hw2 | refine RetP.dropM (by simp only [List.length_set]) (by first | exact Or.inr rfl | exact Or.inl rfl) ?_ ?_ hw2
  · simp only [resA, resOne, resTv, AV.tv, push_cast, Nat.reduceAdd, Nat.reduceMul, Nat.reduceSub, Nat.reduceLeDiff, Nat.reduceLT, Nat.reduceEqDiff, Nat.reduceBEq, Nat.reduceBNe, Nat.reduceMod, Nat.reduceDiv, Int.reduceLE, Int.reduceLT, Int.reduceToNat, Int.reduceAdd, Int.reduceSub, Int.reduceMul, Int.reduceNeg, Int.reduceEq, Int.reduceBEq, Int.reduceBNe, ↓reduceIte, reduceCtorEq, String.reduceBNe, String.reduceEq, reduceDIte, Nat.reducePow]
  · rfl
theorem rwr_ok (rd rs rl n : Nat) (R : RS) (x : Int) (v : List Int) (m : AMem) (hv : v.length = 128) (h : HasR m rd rs rl n R) (hd : R.down = false) (h1 : ¬ x < 0) (h2 : ¬ (n : Int) ≤ x) (hz : ¬ R.fuse = 0) (hw9 : WfR n R.lo) (hn : n ≤ 8192) : Ctr Try.prog 24 [.one (.ptr rd 0 0), .one (.int .i64 x), .agg (u8l v)] m (.one (.int .i64 0)) (setR m rd rs rl n (wrR R x v)) := by
  refine Ctr.enter Try.func24 rfl (by decide) (rs := [.tmp 6]) (nt := 35) rfl rfl fun hwf Q hQ => ?_
  have hv1 := u8l_len v
  rw [hv] at hv1
  have hv2 : (u8l v).take 128 = u8l v := List.take_of_length_le (by omega)
  have hv3 := u8l_vals v
  have hv4 := build_ent x v hv
  have hrd := h.d
  have hrs := h.s
  have hrl := h.l
  have ld := get_lt hrd
  have lr := get_lt hrs
  have lm := get_lt hrl
  have ndr : rd ≠ rs := h.dr
  have ndm : rd ≠ rl := h.dm
  have nrm : rs ≠ rl := h.rm
  have nrd := ndr.symm
  have nmd := ndm.symm
  have nmr := nrm.symm
  have pD := fun (l L : AMem) (e : l.length = m.length) => mk_olds (m := m) (l := l) (r := rd) e ld L
  have pR := fun (l L : AMem) (e : l.length = m.length) => mk_olds (m := m) (l := l) (r := rs) e lr L
  have pM := fun (l L : AMem) (e : l.length = m.length) => mk_olds (m := m) (l := l) (r := rl) e lm L
  have gD := fun (l L : AMem) (e : l.length = m.length) => mk_old (m := m) (l := l) (r := rd) e ld L
  have gR := fun (l L : AMem) (e : l.length = m.length) => mk_old (m := m) (l := l) (r := rs) e lr L
  have gM := fun (l L : AMem) (e : l.length = m.length) => mk_old (m := m) (l := l) (r := rl) e lm L
  have sD := fun (l : AMem) (b : Blk) (e : l.length = m.length) => mk_self (m := m) (l := l) (r := rd) e ld b
  have sR := fun (l : AMem) (b : Blk) (e : l.length = m.length) => mk_self (m := m) (l := l) (r := rs) e lr b
  have sM := fun (l : AMem) (b : Blk) (e : l.length = m.length) => mk_self (m := m) (l := l) (r := rl) e lm b
  have aA := fun (l L : AMem) (e : l.length = m.length) => mk_lk0 (m := m) (l := l) e L
  have aK := fun (l L : AMem) (k : Nat) (e : l.length = m.length) => mk_lk (m := m) (l := l) e L k
  have aT := fun (l L : AMem) (k : Nat) (b : Blk) (e : l.length = m.length) => mk_set (m := m) (l := l) e L k b
  have aS := fun (l L : AMem) (b : Blk) (e : l.length = m.length) => mk_set0 (m := m) (l := l) e L b
  have hw2 : MWf m.length (setR m rd rs rl n (wrR R x v)) := setR_wf hwf lr lm _
  have hsz := hw9.size
  refine AW.seq_k fun K hK => ?_
  refine AW.region (by decide) ?_
  simp only [push_cast, Nat.reduceAdd, Nat.reduceMul, Nat.reduceSub, Nat.reduceLeDiff, Nat.reduceLT, Nat.reduceEqDiff, Nat.reduceBEq, Nat.reduceBNe, Nat.reduceMod, Nat.reduceDiv, Int.reduceLE, Int.reduceLT, Int.reduceToNat, Int.reduceAdd, Int.reduceSub, Int.reduceMul, Int.reduceNeg, Int.reduceEq, Int.reduceBEq, Int.reduceBNe, ↓reduceIte, reduceCtorEq, String.reduceBNe, String.reduceEq, reduceDIte, Nat.reducePow, hrd, hrs, hrl, pD, pR, pM, gD, gR, gM, sD, sR, sM, aA, aS, aK, aT, List.set_set, List.length_set, List.getElem?_set_ne ndr, List.getElem?_set_ne ndm, List.getElem?_set_ne nrm, List.getElem?_set_ne nrd, List.getElem?_set_ne nmd, List.getElem?_set_ne nmr, refB, rowR, spR_vs, spR_vl, spR_su, spR_lo, hd, h1, h2, hv1, hv2, hv3, hv4]
  iterate 2
    refine Thn_n ?_
    refine hK _ _ ?_
    clear hK K
    refine AW.seq_k fun K hK => ?_
    refine AW.seq_k fun K hK => ?_
    refine AW.region (by decide) ?_
    simp only [push_cast, Nat.reduceAdd, Nat.reduceMul, Nat.reduceSub, Nat.reduceLeDiff, Nat.reduceLT, Nat.reduceEqDiff, Nat.reduceBEq, Nat.reduceBNe, Nat.reduceMod, Nat.reduceDiv, Int.reduceLE, Int.reduceLT, Int.reduceToNat, Int.reduceAdd, Int.reduceSub, Int.reduceMul, Int.reduceNeg, Int.reduceEq, Int.reduceBEq, Int.reduceBNe, ↓reduceIte, reduceCtorEq, String.reduceBNe, String.reduceEq, reduceDIte, Nat.reducePow, hrd, hrs, hrl, pD, pR, pM, gD, gR, gM, sD, sR, sM, aA, aS, aK, aT, List.set_set, List.length_set, List.getElem?_set_ne ndr, List.getElem?_set_ne ndm, List.getElem?_set_ne nrm, List.getElem?_set_ne nrd, List.getElem?_set_ne nmd, List.getElem?_set_ne nmr, refB, rowR, spR_vs, spR_vl, spR_su, spR_lo, hd, h1, h2, hv1, hv2, hv3, hv4]
    refine Thn_n ?_
    refine hK _ _ ?_
    clear hK K
    refine AW.cond_f rfl ?_
    refine AW.skip ?_
  refine Thn_n ?_
  refine hK _ _ ?_
  clear hK K
  refine AW.seq_k fun K hK => ?_
  refine AW.seq_k fun K hK => ?_
  refine AW.region (by decide) ?_
  simp only [push_cast, Nat.reduceAdd, Nat.reduceMul, Nat.reduceSub, Nat.reduceLeDiff, Nat.reduceLT, Nat.reduceEqDiff, Nat.reduceBEq, Nat.reduceBNe, Nat.reduceMod, Nat.reduceDiv, Int.reduceLE, Int.reduceLT, Int.reduceToNat, Int.reduceAdd, Int.reduceSub, Int.reduceMul, Int.reduceNeg, Int.reduceEq, Int.reduceBEq, Int.reduceBNe, ↓reduceIte, reduceCtorEq, String.reduceBNe, String.reduceEq, reduceDIte, Nat.reducePow, hrd, hrs, hrl, pD, pR, pM, gD, gR, gM, sD, sR, sM, aA, aS, aK, aT, List.set_set, List.length_set, List.getElem?_set_ne ndr, List.getElem?_set_ne ndm, List.getElem?_set_ne nrm, List.getElem?_set_ne nrd, List.getElem?_set_ne nmd, List.getElem?_set_ne nmr, refB, rowR, spR_vs, spR_vl, spR_su, spR_lo, hd, h1, h2, hv1, hv2, hv3, hv4]
  refine CThen.by (rstep_go rd rs rl n R _ (lk_old h.d _) hz) ?_
  simp only [push_cast, Nat.reduceAdd, Nat.reduceMul, Nat.reduceSub, Nat.reduceLeDiff, Nat.reduceLT, Nat.reduceEqDiff, Nat.reduceBEq, Nat.reduceBNe, Nat.reduceMod, Nat.reduceDiv, Int.reduceLE, Int.reduceLT, Int.reduceToNat, Int.reduceAdd, Int.reduceSub, Int.reduceMul, Int.reduceNeg, Int.reduceEq, Int.reduceBEq, Int.reduceBNe, ↓reduceIte, reduceCtorEq, String.reduceBNe, String.reduceEq, reduceDIte, Nat.reducePow, hrd, hrs, hrl, pD, pR, pM, gD, gR, gM, sD, sR, sM, aA, aS, aK, aT, List.set_set, List.length_set, List.getElem?_set_ne ndr, List.getElem?_set_ne ndm, List.getElem?_set_ne nrm, List.getElem?_set_ne nrd, List.getElem?_set_ne nmd, List.getElem?_set_ne nmr, refB, rowR, spR_vs, spR_vl, spR_su, spR_lo, hd, h1, h2, hv1, hv2, hv3, hv4]
  refine Thn_n ?_
  refine hK _ _ ?_
  clear hK K
  refine AW.cond_f rfl ?_
  refine AW.skip ?_
  refine Thn_n ?_
  refine hK _ _ ?_
  clear hK K
  refine AW.seq_k fun K hK => ?_
  refine AW.draw [.val, .val, .val, .val, .rd 0, .val, .rd 0, .val, .ext, .val, .val, .wr] fol (by decide) (by kernel_rfl) ?_
  simp only [push_cast, Nat.reduceAdd, Nat.reduceMul, Nat.reduceSub, Nat.reduceLeDiff, Nat.reduceLT, Nat.reduceEqDiff, Nat.reduceBEq, Nat.reduceBNe, Nat.reduceMod, Nat.reduceDiv, Int.reduceLE, Int.reduceLT, Int.reduceToNat, Int.reduceAdd, Int.reduceSub, Int.reduceMul, Int.reduceNeg, Int.reduceEq, Int.reduceBEq, Int.reduceBNe, ↓reduceIte, reduceCtorEq, String.reduceBNe, String.reduceEq, reduceDIte, Nat.reducePow, hrd, hrs, hrl, pD, pR, pM, gD, gR, gM, sD, sR, sM, aA, aS, aK, aT, List.set_set, List.length_set, List.getElem?_set_ne ndr, List.getElem?_set_ne ndm, List.getElem?_set_ne nrm, List.getElem?_set_ne nrd, List.getElem?_set_ne nmd, List.getElem?_set_ne nmr, refB, rowR, spR_vs, spR_vl, spR_su, spR_lo, hd, h1, h2, hv1, hv2, hv3, hv4]
  refine DCall.by (put_c rl R.vl R.lo (x, v) _ ⟨.grow, 129, by simp only [push_cast, Nat.reduceAdd, Nat.reduceMul, Nat.reduceSub, Nat.reduceLeDiff, Nat.reduceLT, Nat.reduceEqDiff, Nat.reduceBEq, Nat.reduceBNe, Nat.reduceMod, Nat.reduceDiv, Int.reduceLE, Int.reduceLT, Int.reduceToNat, Int.reduceAdd, Int.reduceSub, Int.reduceMul, Int.reduceNeg, Int.reduceEq, Int.reduceBEq, Int.reduceBNe, ↓reduceIte, reduceCtorEq, String.reduceBNe, String.reduceEq, reduceDIte, Nat.reducePow, hrd, hrs, hrl, pD, pR, pM, gD, gR, gM, sD, sR, sM, aA, aS, aK, aT, List.set_set, List.length_set, List.getElem?_set_ne ndr, List.getElem?_set_ne ndm, List.getElem?_set_ne nrm, List.getElem?_set_ne nrd, List.getElem?_set_ne nmd, List.getElem?_set_ne nmr, refB, rowR]⟩ hw9.len hv (by omega)) ?_
  simp only [push_cast, Nat.reduceAdd, Nat.reduceMul, Nat.reduceSub, Nat.reduceLeDiff, Nat.reduceLT, Nat.reduceEqDiff, Nat.reduceBEq, Nat.reduceBNe, Nat.reduceMod, Nat.reduceDiv, Int.reduceLE, Int.reduceLT, Int.reduceToNat, Int.reduceAdd, Int.reduceSub, Int.reduceMul, Int.reduceNeg, Int.reduceEq, Int.reduceBEq, Int.reduceBNe, ↓reduceIte, reduceCtorEq, String.reduceBNe, String.reduceEq, reduceDIte, Nat.reducePow, hrd, hrs, hrl, pD, pR, pM, gD, gR, gM, sD, sR, sM, aA, aS, aK, aT, List.set_set, List.length_set, List.getElem?_set_ne ndr, List.getElem?_set_ne ndm, List.getElem?_set_ne nrm, List.getElem?_set_ne nrd, List.getElem?_set_ne nmd, List.getElem?_set_ne nmr, refB, rowR, spR_vs, spR_vl, spR_su, spR_lo, hd, h1, h2, hv1, hv2, hv3, hv4]
  refine Thn_n ?_
  refine hK _ _ ?_
  clear hK K
  refine AW.seq_k fun K hK => ?_
  refine AW.region (by decide) ?_
  simp only [push_cast, Nat.reduceAdd, Nat.reduceMul, Nat.reduceSub, Nat.reduceLeDiff, Nat.reduceLT, Nat.reduceEqDiff, Nat.reduceBEq, Nat.reduceBNe, Nat.reduceMod, Nat.reduceDiv, Int.reduceLE, Int.reduceLT, Int.reduceToNat, Int.reduceAdd, Int.reduceSub, Int.reduceMul, Int.reduceNeg, Int.reduceEq, Int.reduceBEq, Int.reduceBNe, ↓reduceIte, reduceCtorEq, String.reduceBNe, String.reduceEq, reduceDIte, Nat.reducePow, hrd, hrs, hrl, pD, pR, pM, gD, gR, gM, sD, sR, sM, aA, aS, aK, aT, List.set_set, List.length_set, List.getElem?_set_ne ndr, List.getElem?_set_ne ndm, List.getElem?_set_ne nrm, List.getElem?_set_ne nrd, List.getElem?_set_ne nmd, List.getElem?_set_ne nmr, refB, rowR, spR_vs, spR_vl, spR_su, spR_lo, hd, h1, h2, hv1, hv2, hv3, hv4]
  refine Thn_n ?_
  refine hK _ _ ?_
  clear hK K
  refine AW.moveCell rl (m.length + 1) (putR (x, v) false R.lo).length rd 2 (b := rowR R.vl R.lo) (e := rowR 0 (putR (x, v) false R.lo)) (p := ⟨.fix, 61, 0, 0, [.int .i64 n, .sl rs R.vs 0 R.su.length, .sl (m.length + 1) 0 0 (putR (x, v) false R.lo).length, .int .i64 (spR R).fuse, .int .i64 (spR R).steps, .bool (spR R).down]⟩) (by simp only [push_cast, Nat.reduceAdd, Nat.reduceMul, Nat.reduceSub, Nat.reduceLeDiff, Nat.reduceLT, Nat.reduceEqDiff, Nat.reduceBEq, Nat.reduceBNe, Nat.reduceMod, Nat.reduceDiv, Int.reduceLE, Int.reduceLT, Int.reduceToNat, Int.reduceAdd, Int.reduceSub, Int.reduceMul, Int.reduceNeg, Int.reduceEq, Int.reduceBEq, Int.reduceBNe, ↓reduceIte, reduceCtorEq, String.reduceBNe, String.reduceEq, reduceDIte, Nat.reducePow, hrd, hrs, hrl, pD, pR, pM, gD, gR, gM, sD, sR, sM, aA, aS, aK, aT, List.set_set, List.length_set, List.getElem?_set_ne ndr, List.getElem?_set_ne ndm, List.getElem?_set_ne nrm, List.getElem?_set_ne nrd, List.getElem?_set_ne nmd, List.getElem?_set_ne nmr, refB, rowR]) rfl (by simp only [push_cast, Nat.reduceAdd, Nat.reduceMul, Nat.reduceSub, Nat.reduceLeDiff, Nat.reduceLT, Nat.reduceEqDiff, Nat.reduceBEq, Nat.reduceBNe, Nat.reduceMod, Nat.reduceDiv, Int.reduceLE, Int.reduceLT, Int.reduceToNat, Int.reduceAdd, Int.reduceSub, Int.reduceMul, Int.reduceNeg, Int.reduceEq, Int.reduceBEq, Int.reduceBNe, ↓reduceIte, reduceCtorEq, String.reduceBNe, String.reduceEq, reduceDIte, Nat.reducePow, hrd, hrs, hrl, pD, pR, pM, gD, gR, gM, sD, sR, sM, aA, aS, aK, aT, List.set_set, List.length_set, List.getElem?_set_ne ndr, List.getElem?_set_ne ndm, List.getElem?_set_ne nrm, List.getElem?_set_ne nrd, List.getElem?_set_ne nmd, List.getElem?_set_ne nmr, refB, rowR]) rfl (by omega) (by simp only [push_cast, Nat.reduceAdd, Nat.reduceMul, Nat.reduceSub, Nat.reduceLeDiff, Nat.reduceLT, Nat.reduceEqDiff, Nat.reduceBEq, Nat.reduceBNe, Nat.reduceMod, Nat.reduceDiv, Int.reduceLE, Int.reduceLT, Int.reduceToNat, Int.reduceAdd, Int.reduceSub, Int.reduceMul, Int.reduceNeg, Int.reduceEq, Int.reduceBEq, Int.reduceBNe, ↓reduceIte, reduceCtorEq, String.reduceBNe, String.reduceEq, reduceDIte, Nat.reducePow, hrd, hrs, hrl, pD, pR, pM, gD, gR, gM, sD, sR, sM, aA, aS, aK, aT, List.set_set, List.length_set, List.getElem?_set_ne ndr, List.getElem?_set_ne ndm, List.getElem?_set_ne nrm, List.getElem?_set_ne nrd, List.getElem?_set_ne nmd, List.getElem?_set_ne nmr, refB, rowR, spR_vs, spR_vl, spR_su, spR_lo]) (by intro e; cases e) nmd.symm (by omega) rfl ?_
  simp only [List.set_cons_succ, List.set_cons_zero, push_cast, Nat.reduceAdd, Nat.reduceMul, Nat.reduceSub, Nat.reduceLeDiff, Nat.reduceLT, Nat.reduceEqDiff, Nat.reduceBEq, Nat.reduceBNe, Nat.reduceMod, Nat.reduceDiv, Int.reduceLE, Int.reduceLT, Int.reduceToNat, Int.reduceAdd, Int.reduceSub, Int.reduceMul, Int.reduceNeg, Int.reduceEq, Int.reduceBEq, Int.reduceBNe, ↓reduceIte, reduceCtorEq, String.reduceBNe, String.reduceEq, reduceDIte, Nat.reducePow, hrd, hrs, hrl, pD, pR, pM, gD, gR, gM, sD, sR, sM, aA, aS, aK, aT, List.set_set, List.length_set, List.getElem?_set_ne ndr, List.getElem?_set_ne ndm, List.getElem?_set_ne nrm, List.getElem?_set_ne nrd, List.getElem?_set_ne nmd, List.getElem?_set_ne nmr, refB, rowR]
  refine AW.ret ?_
  refine hQ _ _ _ ?_
  rw [set_rot ndm]
  have e3 := setR_l h (wrR R x v) (spR_su R) (spR_vs R)
  rw [e3] at hw2 ⊢
  have hcell : refB rs rl n (wrR R x v) = ⟨.fix, 61, 0, 0, [.int .i64 n, .sl rs R.vs 0 R.su.length, .sl rl (R.vl + 1) 0 (putR (x, v) false R.lo).length, .int .i64 (spR R).fuse, .int .i64 (spR R).steps, .bool (spR R).down]⟩ := by simp only [refB, wrR, spR_vs, spR_su]
  rw [hcell] at hw2 ⊢
  refine RetP.dropM (by simp only [List.length_set]) (by first | exact Or.inr rfl | exact Or.inl rfl) ?_ ?_ hw2
  · simp only [resA, resOne, resTv, AV.tv, push_cast, Nat.reduceAdd, Nat.reduceMul, Nat.reduceSub, Nat.reduceLeDiff, Nat.reduceLT, Nat.reduceEqDiff, Nat.reduceBEq, Nat.reduceBNe, Nat.reduceMod, Nat.reduceDiv, Int.reduceLE, Int.reduceLT, Int.reduceToNat, Int.reduceAdd, Int.reduceSub, Int.reduceMul, Int.reduceNeg, Int.reduceEq, Int.reduceBEq, Int.reduceBNe, ↓reduceIte, reduceCtorEq, String.reduceBNe, String.reduceEq, reduceDIte, Nat.reducePow]
  · rfl
end Go.Proofs.Ytcahlnddcjifdaa

set_option linter.unusedSimpArgs false
set_option linter.unusedVariables false
set_option maxRecDepth 100000
set_option maxHeartbeats 4000000
namespace Go.Proofs.Ytcahlnddcjifdaa
open Go Go.Eng

theorem set_rot4 {m : AMem} {a b c : Nat} (h1 : a ≠ b) (h2 : a ≠ c) (h3 : b ≠ c) (X Y A B : Blk) : (((m.set a X).set b Y).set c B).set a A = ((m.set a A).set b Y).set c B := by
  rw [List.set_comm _ _ h2.symm, List.set_comm _ _ h1.symm, List.set_set]
def syF (su lo : RE) : Nat → RE
  | 0 => su
  | i + 1 => match lo[i]? with
    | some x => putR x false (syF su lo i)
    | none => syF su lo i
theorem syF_s {su lo : RE} {i : Nat} {e : Int × List Int} (h : lo[i]? = some e) : syF su lo (i + 1) = putR e false (syF su lo i) := by
  show (match lo[i]? with | some x => _ | none => _) = _
  rw [h]
theorem syF_wf {n : Nat} {su lo : RE} (h1 : WfR n su) (h2 : WfR n lo) : ∀ i, WfR n (syF su lo i)
  | 0 => h1
  | i + 1 => by
    have ih := syF_wf h1 h2 i
    cases he : lo[i]? with
    | none => show WfR n (match lo[i]? with | some x => _ | none => _); rw [he]; exact ih
    | some e =>
      rw [syF_s he]
      have hm := List.mem_of_getElem? he
      exact ih.put (h2.key e hm) (h2.len e hm)
def syR (R : RS) : RS := { spR R with su := syF R.su R.lo R.lo.length, vs := R.vs + R.lo.length, lo := [], vl := R.vl + 1 }
/-- Of one loose block, asked for by a list: put as often as it stands there. -/
def inP (x : Int × List Int) (ks : Nat → Int) (p : RE × Nat) : Nat → RE × Nat
  | 0 => p
  | j + 1 => if ks j = x.1 then (putR x false (inP x ks p j).1, (inP x ks p j).2 + 1) else inP x ks p j
def crP (lo : RE) (ks : Nat → Int) (kn : Nat) (p : RE × Nat) : Nat → RE × Nat
  | 0 => p
  | i + 1 => match lo[i]? with
    | some x => inP x ks (crP lo ks kn p i) kn
    | none => crP lo ks kn p i
theorem crP_s {lo : RE} {ks : Nat → Int} {kn : Nat} {p : RE × Nat} {i : Nat} {e : Int × List Int} (h : lo[i]? = some e) : crP lo ks kn p (i + 1) = inP e ks (crP lo ks kn p i) kn := by
  show (match lo[i]? with | some x => _ | none => _) = _
  rw [h]
theorem inP_wf {n : Nat} {x : Int × List Int} {ks : Nat → Int} {p : RE × Nat} (h1 : WfR n p.1) (hk : 0 ≤ x.1 ∧ x.1 < (n : Int)) (hx : x.2.length = 128) : ∀ j, WfR n (inP x ks p j).1
  | 0 => h1
  | j + 1 => by
    have ih := inP_wf (ks := ks) h1 hk hx j
    unfold inP; split
    · exact ih.put hk hx
    · exact ih
theorem crP_wf {n : Nat} {lo : RE} {ks : Nat → Int} {kn : Nat} {p : RE × Nat} (h1 : WfR n p.1) (h2 : WfR n lo) : ∀ i, WfR n (crP lo ks kn p i).1
  | 0 => h1
  | i + 1 => by
    have ih := crP_wf (ks := ks) (kn := kn) h1 h2 i
    cases he : lo[i]? with
    | none =>
      have e1 : crP lo ks kn p (i + 1) = crP lo ks kn p i := by
        show (match lo[i]? with | some x => _ | none => _) = _
        rw [he]
      rw [e1]; exact ih
    | some e =>
      rw [crP_s he]
      have hm := List.mem_of_getElem? he
      exact inP_wf ih (h2.key e hm) (h2.len e hm) kn
def crR (R : RS) (ks : Nat → Int) (kn : Nat) : RS := { R with su := (crP R.lo ks kn (R.su, R.vs) R.lo.length).1, vs := (crP R.lo ks kn (R.su, R.vs) R.lo.length).2, lo := [], vl := R.vl + 1, fuse := -1, down := false }
theorem rsy_down (rd rs rl n : Nat) (R : RS) (m : AMem) (hrd : m[rd]? = some (refB rs rl n R)) (hd : R.down = true) : Ctr Try.prog 25 [.one (.ptr rd 0 0)] m (.one (.int .i64 5)) m := by
  refine Ctr.enter Try.func25 rfl (by decide) (rs := [.tmp 2]) (nt := 40) rfl rfl fun hwf Q hQ => ?_
  refine AW.seq_k fun K hK => ?_
  refine AW.region (by decide) ?_
  simp only [push_cast, Nat.reduceAdd, Nat.reduceMul, Nat.reduceSub, Nat.reduceLeDiff, Nat.reduceLT, Nat.reduceEqDiff, Nat.reduceBEq, Nat.reduceBNe, Nat.reduceMod, Nat.reduceDiv, Int.reduceLE, Int.reduceLT, Int.reduceToNat, Int.reduceAdd, Int.reduceSub, Int.reduceMul, Int.reduceNeg, Int.reduceEq, Int.reduceBEq, Int.reduceBNe, ↓reduceIte, reduceCtorEq, String.reduceBNe, String.reduceEq, reduceDIte, Nat.reducePow, hrd, lk_old hrd, refB, hd]
  refine Thn_n ?_
  refine hK _ _ ?_
  clear hK K
  refine AW.seq_k fun K hK => ?_
  refine AW.seq_k fun K hK => ?_
  refine AW.region (by decide) ?_
  simp only [push_cast, Nat.reduceAdd, Nat.reduceMul, Nat.reduceSub, Nat.reduceLeDiff, Nat.reduceLT, Nat.reduceEqDiff, Nat.reduceBEq, Nat.reduceBNe, Nat.reduceMod, Nat.reduceDiv, Int.reduceLE, Int.reduceLT, Int.reduceToNat, Int.reduceAdd, Int.reduceSub, Int.reduceMul, Int.reduceNeg, Int.reduceEq, Int.reduceBEq, Int.reduceBNe, ↓reduceIte, reduceCtorEq, String.reduceBNe, String.reduceEq, reduceDIte, Nat.reducePow, hrd, lk_old hrd, refB, hd]
  refine Thn_n ?_
  refine hK _ _ ?_
  clear hK K
  refine AW.cond_t rfl ?_
  refine AW.seq_k fun K hK => ?_
  refine AW.region (by decide) ?_
  simp only [push_cast, Nat.reduceAdd, Nat.reduceMul, Nat.reduceSub, Nat.reduceLeDiff, Nat.reduceLT, Nat.reduceEqDiff, Nat.reduceBEq, Nat.reduceBNe, Nat.reduceMod, Nat.reduceDiv, Int.reduceLE, Int.reduceLT, Int.reduceToNat, Int.reduceAdd, Int.reduceSub, Int.reduceMul, Int.reduceNeg, Int.reduceEq, Int.reduceBEq, Int.reduceBNe, ↓reduceIte, reduceCtorEq, String.reduceBNe, String.reduceEq, reduceDIte, Nat.reducePow, hrd, lk_old hrd, refB, hd]
  refine Thn_n ?_
  refine hK _ _ ?_
  clear hK K
  refine AW.ret ?_
  refine Thn_r ?_
  refine hQ _ _ _ ?_
  first | refine RetP.drop0 (Or.inr rfl) ?_ ?_ hwf | refine RetP.drop (Or.inr rfl) ?_ ?_ hwf
  · simp only [resA, resOne, resTv, AV.tv, push_cast, Nat.reduceAdd, Nat.reduceMul, Nat.reduceSub, Nat.reduceLeDiff, Nat.reduceLT, Nat.reduceEqDiff, Nat.reduceBEq, Nat.reduceBNe, Nat.reduceMod, Nat.reduceDiv, Int.reduceLE, Int.reduceLT, Int.reduceToNat, Int.reduceAdd, Int.reduceSub, Int.reduceMul, Int.reduceNeg, Int.reduceEq, Int.reduceBEq, Int.reduceBNe, ↓reduceIte, reduceCtorEq, String.reduceBNe, String.reduceEq, reduceDIte, Nat.reducePow, hrd, lk_old hrd, refB, hd]
  · rfl
theorem rsy_no (rd rs rl n : Nat) (R : RS) (m : AMem) (h : HasR m rd rs rl n R) (hd : R.down = false) (hz : R.fuse = 0) : Ctr Try.prog 25 [.one (.ptr rd 0 0)] m (.one (.int .i64 5)) (setR m rd rs rl n (spR R)) := by
  refine Ctr.enter Try.func25 rfl (by decide) (rs := [.tmp 2]) (nt := 40) rfl rfl fun hwf Q hQ => ?_
  have hrd := h.d
  have hrs := h.s
  have hrl := h.l
  have ld := get_lt hrd
  have lr := get_lt hrs
  have lm := get_lt hrl
  have ndr : rd ≠ rs := h.dr
  have ndm : rd ≠ rl := h.dm
  have nrm : rs ≠ rl := h.rm
  have nrd := ndr.symm
  have nmd := ndm.symm
  have nmr := nrm.symm
  have pD := fun (l L : AMem) (e : l.length = m.length) => mk_olds (m := m) (l := l) (r := rd) e ld L
  have pR := fun (l L : AMem) (e : l.length = m.length) => mk_olds (m := m) (l := l) (r := rs) e lr L
  have pM := fun (l L : AMem) (e : l.length = m.length) => mk_olds (m := m) (l := l) (r := rl) e lm L
  have gD := fun (l L : AMem) (e : l.length = m.length) => mk_old (m := m) (l := l) (r := rd) e ld L
  have gR := fun (l L : AMem) (e : l.length = m.length) => mk_old (m := m) (l := l) (r := rs) e lr L
  have gM := fun (l L : AMem) (e : l.length = m.length) => mk_old (m := m) (l := l) (r := rl) e lm L
  have sD := fun (l : AMem) (b : Blk) (e : l.length = m.length) => mk_self (m := m) (l := l) (r := rd) e ld b
  have sR := fun (l : AMem) (b : Blk) (e : l.length = m.length) => mk_self (m := m) (l := l) (r := rs) e lr b
  have sM := fun (l : AMem) (b : Blk) (e : l.length = m.length) => mk_self (m := m) (l := l) (r := rl) e lm b
  have aA := fun (l L : AMem) (e : l.length = m.length) => mk_lk0 (m := m) (l := l) e L
  have aK := fun (l L : AMem) (k : Nat) (e : l.length = m.length) => mk_lk (m := m) (l := l) e L k
  have aT := fun (l L : AMem) (k : Nat) (b : Blk) (e : l.length = m.length) => mk_set (m := m) (l := l) e L k b
  have aS := fun (l L : AMem) (b : Blk) (e : l.length = m.length) => mk_set0 (m := m) (l := l) e L b
  have hw2 : MWf m.length (setR m rd rs rl n (spR R)) := setR_wf hwf lr lm _
  have e2 := setR_d h (spR R) (spR_su R) (spR_lo R) (spR_vs R) (spR_vl R)
  refine AW.seq_k fun K hK => ?_
  refine AW.region (by decide) ?_
  simp only [push_cast, Nat.reduceAdd, Nat.reduceMul, Nat.reduceSub, Nat.reduceLeDiff, Nat.reduceLT, Nat.reduceEqDiff, Nat.reduceBEq, Nat.reduceBNe, Nat.reduceMod, Nat.reduceDiv, Int.reduceLE, Int.reduceLT, Int.reduceToNat, Int.reduceAdd, Int.reduceSub, Int.reduceMul, Int.reduceNeg, Int.reduceEq, Int.reduceBEq, Int.reduceBNe, ↓reduceIte, reduceCtorEq, String.reduceBNe, String.reduceEq, reduceDIte, Nat.reducePow, hrd, hrs, hrl, pD, pR, pM, gD, gR, gM, sD, sR, sM, aA, aS, aK, aT, List.set_set, List.length_set, List.getElem?_set_ne ndr, List.getElem?_set_ne ndm, List.getElem?_set_ne nrm, List.getElem?_set_ne nrd, List.getElem?_set_ne nmd, List.getElem?_set_ne nmr, refB, rowR, hd]
  refine Thn_n ?_
  refine hK _ _ ?_
  clear hK K
  refine AW.seq_k fun K hK => ?_
  refine AW.seq_k fun K hK => ?_
  refine AW.region (by decide) ?_
  simp only [push_cast, Nat.reduceAdd, Nat.reduceMul, Nat.reduceSub, Nat.reduceLeDiff, Nat.reduceLT, Nat.reduceEqDiff, Nat.reduceBEq, Nat.reduceBNe, Nat.reduceMod, Nat.reduceDiv, Int.reduceLE, Int.reduceLT, Int.reduceToNat, Int.reduceAdd, Int.reduceSub, Int.reduceMul, Int.reduceNeg, Int.reduceEq, Int.reduceBEq, Int.reduceBNe, ↓reduceIte, reduceCtorEq, String.reduceBNe, String.reduceEq, reduceDIte, Nat.reducePow, hrd, hrs, hrl, pD, pR, pM, gD, gR, gM, sD, sR, sM, aA, aS, aK, aT, List.set_set, List.length_set, List.getElem?_set_ne ndr, List.getElem?_set_ne ndm, List.getElem?_set_ne nrm, List.getElem?_set_ne nrd, List.getElem?_set_ne nmd, List.getElem?_set_ne nmr, refB, rowR, hd]
  refine CThen.by (rstep_no rd rs rl n R _ h.d hz) ?_
  simp only [push_cast, Nat.reduceAdd, Nat.reduceMul, Nat.reduceSub, Nat.reduceLeDiff, Nat.reduceLT, Nat.reduceEqDiff, Nat.reduceBEq, Nat.reduceBNe, Nat.reduceMod, Nat.reduceDiv, Int.reduceLE, Int.reduceLT, Int.reduceToNat, Int.reduceAdd, Int.reduceSub, Int.reduceMul, Int.reduceNeg, Int.reduceEq, Int.reduceBEq, Int.reduceBNe, ↓reduceIte, reduceCtorEq, String.reduceBNe, String.reduceEq, reduceDIte, Nat.reducePow, hrd, hrs, hrl, pD, pR, pM, gD, gR, gM, sD, sR, sM, aA, aS, aK, aT, List.set_set, List.length_set, List.getElem?_set_ne ndr, List.getElem?_set_ne ndm, List.getElem?_set_ne nrm, List.getElem?_set_ne nrd, List.getElem?_set_ne nmd, List.getElem?_set_ne nmr, refB, rowR, hd]
  refine Thn_n ?_
  refine hK _ _ ?_
  clear hK K
  refine AW.cond_t rfl ?_
  refine AW.seq_k fun K hK => ?_
  refine AW.region (by decide) ?_
  simp only [push_cast, Nat.reduceAdd, Nat.reduceMul, Nat.reduceSub, Nat.reduceLeDiff, Nat.reduceLT, Nat.reduceEqDiff, Nat.reduceBEq, Nat.reduceBNe, Nat.reduceMod, Nat.reduceDiv, Int.reduceLE, Int.reduceLT, Int.reduceToNat, Int.reduceAdd, Int.reduceSub, Int.reduceMul, Int.reduceNeg, Int.reduceEq, Int.reduceBEq, Int.reduceBNe, ↓reduceIte, reduceCtorEq, String.reduceBNe, String.reduceEq, reduceDIte, Nat.reducePow, hrd, hrs, hrl, pD, pR, pM, gD, gR, gM, sD, sR, sM, aA, aS, aK, aT, List.set_set, List.length_set, List.getElem?_set_ne ndr, List.getElem?_set_ne ndm, List.getElem?_set_ne nrm, List.getElem?_set_ne nrd, List.getElem?_set_ne nmd, List.getElem?_set_ne nmr, refB, rowR, hd]
  refine Thn_n ?_
  refine hK _ _ ?_
  clear hK K
  refine AW.ret ?_
  refine Thn_r ?_
  refine hQ _ _ _ ?_
  rw [e2] at hw2 ⊢
  first | refine RetP.dropM0 (by simp only [List.length_set]) (by first | exact Or.inr rfl | exact Or.inl rfl) ?_ ?_ hw2 | refine RetP.dropM (by simp only [List.length_set]) (by first | exact Or.inr rfl | exact Or.inl rfl) ?_ ?_ hw2
  · simp only [resA, resOne, resTv, AV.tv, push_cast, Nat.reduceAdd, Nat.reduceMul, Nat.reduceSub, Nat.reduceLeDiff, Nat.reduceLT, Nat.reduceEqDiff, Nat.reduceBEq, Nat.reduceBNe, Nat.reduceMod, Nat.reduceDiv, Int.reduceLE, Int.reduceLT, Int.reduceToNat, Int.reduceAdd, Int.reduceSub, Int.reduceMul, Int.reduceNeg, Int.reduceEq, Int.reduceBEq, Int.reduceBNe, ↓reduceIte, reduceCtorEq, String.reduceBNe, String.reduceEq, reduceDIte, Nat.reducePow]
  · rfl
theorem rsy_ok (rd rs rl n : Nat) (R : RS) (m : AMem) (h : HasR m rd rs rl n R) (hd : R.down = false) (hz : ¬ R.fuse = 0) (hws : WfR n R.su) (hwl : WfR n R.lo) (hn : n ≤ 8192) : Ctr Try.prog 25 [.one (.ptr rd 0 0)] m (.one (.int .i64 0)) (setR m rd rs rl n (syR R)) := by
  refine Ctr.enter Try.func25 rfl (by decide) (rs := [.tmp 2]) (nt := 40) rfl rfl fun hwf Q hQ => ?_
  have hrd := h.d
  have hrs := h.s
  have hrl := h.l
  have ld := get_lt hrd
  have lr := get_lt hrs
  have lm := get_lt hrl
  have ndr : rd ≠ rs := h.dr
  have ndm : rd ≠ rl := h.dm
  have nrm : rs ≠ rl := h.rm
  have nrd := ndr.symm
  have nmd := ndm.symm
  have nmr := nrm.symm
  have pD := fun (l L : AMem) (e : l.length = m.length) => mk_olds (m := m) (l := l) (r := rd) e ld L
  have pR := fun (l L : AMem) (e : l.length = m.length) => mk_olds (m := m) (l := l) (r := rs) e lr L
  have pM := fun (l L : AMem) (e : l.length = m.length) => mk_olds (m := m) (l := l) (r := rl) e lm L
  have gD := fun (l L : AMem) (e : l.length = m.length) => mk_old (m := m) (l := l) (r := rd) e ld L
  have gR := fun (l L : AMem) (e : l.length = m.length) => mk_old (m := m) (l := l) (r := rs) e lr L
  have gM := fun (l L : AMem) (e : l.length = m.length) => mk_old (m := m) (l := l) (r := rl) e lm L
  have sD := fun (l : AMem) (b : Blk) (e : l.length = m.length) => mk_self (m := m) (l := l) (r := rd) e ld b
  have sR := fun (l : AMem) (b : Blk) (e : l.length = m.length) => mk_self (m := m) (l := l) (r := rs) e lr b
  have sM := fun (l : AMem) (b : Blk) (e : l.length = m.length) => mk_self (m := m) (l := l) (r := rl) e lm b
  have aA := fun (l L : AMem) (e : l.length = m.length) => mk_lk0 (m := m) (l := l) e L
  have aK := fun (l L : AMem) (k : Nat) (e : l.length = m.length) => mk_lk (m := m) (l := l) e L k
  have aT := fun (l L : AMem) (k : Nat) (b : Blk) (e : l.length = m.length) => mk_set (m := m) (l := l) e L k b
  have aS := fun (l L : AMem) (b : Blk) (e : l.length = m.length) => mk_set0 (m := m) (l := l) e L b
  have rot1 := fun (l : AMem) (X A B : Blk) => set_rot (m := l) ndr X A B
  have rot2 := fun (l : AMem) (X A B : Blk) => set_rot (m := l) ndm X A B
  have rot3 := fun (l : AMem) (X A B : Blk) => set_rot (m := l) nrm X A B
  have rot4 := fun (l : AMem) (X Y A B : Blk) => set_rot4 (m := l) ndr ndm nrm X Y A B
  have hw2 : MWf m.length (setR m rd rs rl n (syR R)) := setR_wf hwf lr lm _
  have hll := hwl.size
  have hss := hws.size
  refine AW.seq_k fun K hK => ?_
  refine AW.region (by decide) ?_
  simp only [push_cast, Nat.reduceAdd, Nat.reduceMul, Nat.reduceSub, Nat.reduceLeDiff, Nat.reduceLT, Nat.reduceEqDiff, Nat.reduceBEq, Nat.reduceBNe, Nat.reduceMod, Nat.reduceDiv, Int.reduceLE, Int.reduceLT, Int.reduceToNat, Int.reduceAdd, Int.reduceSub, Int.reduceMul, Int.reduceNeg, Int.reduceEq, Int.reduceBEq, Int.reduceBNe, ↓reduceIte, reduceCtorEq, String.reduceBNe, String.reduceEq, reduceDIte, Nat.reducePow, hrd, hrs, hrl, pD, pR, pM, gD, gR, gM, sD, sR, sM, aA, aS, aK, aT, List.set_set, List.length_set, List.getElem?_set_ne ndr, List.getElem?_set_ne ndm, List.getElem?_set_ne nrm, List.getElem?_set_ne nrd, List.getElem?_set_ne nmd, List.getElem?_set_ne nmr, refB, rowR, spR_vs, spR_vl, spR_su, spR_lo, rot1, rot2, rot3, rot4, hd]
  refine Thn_n ?_
  refine hK _ _ ?_
  clear hK K
  refine AW.seq_k fun K hK => ?_
  refine AW.seq_k fun K hK => ?_
  refine AW.region (by decide) ?_
  simp only [push_cast, Nat.reduceAdd, Nat.reduceMul, Nat.reduceSub, Nat.reduceLeDiff, Nat.reduceLT, Nat.reduceEqDiff, Nat.reduceBEq, Nat.reduceBNe, Nat.reduceMod, Nat.reduceDiv, Int.reduceLE, Int.reduceLT, Int.reduceToNat, Int.reduceAdd, Int.reduceSub, Int.reduceMul, Int.reduceNeg, Int.reduceEq, Int.reduceBEq, Int.reduceBNe, ↓reduceIte, reduceCtorEq, String.reduceBNe, String.reduceEq, reduceDIte, Nat.reducePow, hrd, hrs, hrl, pD, pR, pM, gD, gR, gM, sD, sR, sM, aA, aS, aK, aT, List.set_set, List.length_set, List.getElem?_set_ne ndr, List.getElem?_set_ne ndm, List.getElem?_set_ne nrm, List.getElem?_set_ne nrd, List.getElem?_set_ne nmd, List.getElem?_set_ne nmr, refB, rowR, spR_vs, spR_vl, spR_su, spR_lo, rot1, rot2, rot3, rot4, hd]
  refine CThen.by (rstep_go rd rs rl n R _ h.d hz) ?_
  simp only [push_cast, Nat.reduceAdd, Nat.reduceMul, Nat.reduceSub, Nat.reduceLeDiff, Nat.reduceLT, Nat.reduceEqDiff, Nat.reduceBEq, Nat.reduceBNe, Nat.reduceMod, Nat.reduceDiv, Int.reduceLE, Int.reduceLT, Int.reduceToNat, Int.reduceAdd, Int.reduceSub, Int.reduceMul, Int.reduceNeg, Int.reduceEq, Int.reduceBEq, Int.reduceBNe, ↓reduceIte, reduceCtorEq, String.reduceBNe, String.reduceEq, reduceDIte, Nat.reducePow, hrd, hrs, hrl, pD, pR, pM, gD, gR, gM, sD, sR, sM, aA, aS, aK, aT, List.set_set, List.length_set, List.getElem?_set_ne ndr, List.getElem?_set_ne ndm, List.getElem?_set_ne nrm, List.getElem?_set_ne nrd, List.getElem?_set_ne nmd, List.getElem?_set_ne nmr, refB, rowR, spR_vs, spR_vl, spR_su, spR_lo, rot1, rot2, rot3, rot4, hd]
  refine Thn_n ?_
  refine hK _ _ ?_
  clear hK K
  refine AW.cond_f rfl ?_
  refine AW.skip ?_
  refine Thn_n ?_
  refine hK _ _ ?_
  clear hK K
  refine AW.seq_k fun K hK => ?_
  refine AW.seq_k fun K hK => ?_
  refine AW.region (by decide) ?_
  simp only [push_cast, Nat.reduceAdd, Nat.reduceMul, Nat.reduceSub, Nat.reduceLeDiff, Nat.reduceLT, Nat.reduceEqDiff, Nat.reduceBEq, Nat.reduceBNe, Nat.reduceMod, Nat.reduceDiv, Int.reduceLE, Int.reduceLT, Int.reduceToNat, Int.reduceAdd, Int.reduceSub, Int.reduceMul, Int.reduceNeg, Int.reduceEq, Int.reduceBEq, Int.reduceBNe, ↓reduceIte, reduceCtorEq, String.reduceBNe, String.reduceEq, reduceDIte, Nat.reducePow, hrd, hrs, hrl, pD, pR, pM, gD, gR, gM, sD, sR, sM, aA, aS, aK, aT, List.set_set, List.length_set, List.getElem?_set_ne ndr, List.getElem?_set_ne ndm, List.getElem?_set_ne nrm, List.getElem?_set_ne nrd, List.getElem?_set_ne nmd, List.getElem?_set_ne nmr, refB, rowR, spR_vs, spR_vl, spR_su, spR_lo, rot1, rot2, rot3, rot4, hd]
  refine Thn_n ?_
  refine hK _ _ ?_
  clear hK K
  refine AW.block ?_
  refine AW.loopK [0] (fun i => i ≤ R.lo.length) (fun i => [(3, .one (.int .i64 (i : Int)))]) (fun i => [(rd, ⟨.fix, 61, 0, 0, [.int .i64 n, .sl rs (R.vs + i) 0 ((syF R.su R.lo i).length), .sl rl (R.vl) 0 (R.lo.length), .int .i64 ((spR R).fuse), .int .i64 ((spR R).steps), .bool ((spR R).down)]⟩), (rs, rowR (R.vs + i) (syF R.su R.lo i))]) (fun i => R.lo.length - i) 0 (by omega) ?_ ?_ fun i hi6 => ?_
  · first | rfl | (simp only [Keeps, Tm.get_cons, Nat.reduceEqDiff, ↓reduceIte, if_true, if_false, ite_true, ite_false, true_and, and_true, and_self, reduceCtorEq] <;> rfl)
  · simp only [setAll, syF, Nat.add_zero, List.set_set]; exact set_self (by rw [List.getElem?_set_ne ndr]; exact h.s)
  try simp only [keepL, setAll, push_cast, Nat.reduceAdd, Nat.reduceMul, Nat.reduceSub, Nat.reduceLeDiff, Nat.reduceLT, Nat.reduceEqDiff, Nat.reduceBEq, Nat.reduceBNe, Nat.reduceMod, Nat.reduceDiv, Int.reduceLE, Int.reduceLT, Int.reduceToNat, Int.reduceAdd, Int.reduceSub, Int.reduceMul, Int.reduceNeg, Int.reduceEq, Int.reduceBEq, Int.reduceBNe, ↓reduceIte, reduceCtorEq, String.reduceBNe, String.reduceEq, reduceDIte, Nat.reducePow, hrd, hrs, hrl, pD, pR, pM, gD, gR, gM, sD, sR, sM, aA, aS, aK, aT, List.set_set, List.length_set, List.getElem?_set_ne ndr, List.getElem?_set_ne ndm, List.getElem?_set_ne nrm, List.getElem?_set_ne nrd, List.getElem?_set_ne nmd, List.getElem?_set_ne nmr, refB, rowR, spR_vs, spR_vl, spR_su, spR_lo, rot1, rot2, rot3, rot4, hd]
  refine AW.seq_k fun K hK => ?_
  refine AW.seq_k fun K hK => ?_
  refine AW.region (by decide) ?_
  simp only [push_cast, Nat.reduceAdd, Nat.reduceMul, Nat.reduceSub, Nat.reduceLeDiff, Nat.reduceLT, Nat.reduceEqDiff, Nat.reduceBEq, Nat.reduceBNe, Nat.reduceMod, Nat.reduceDiv, Int.reduceLE, Int.reduceLT, Int.reduceToNat, Int.reduceAdd, Int.reduceSub, Int.reduceMul, Int.reduceNeg, Int.reduceEq, Int.reduceBEq, Int.reduceBNe, ↓reduceIte, reduceCtorEq, String.reduceBNe, String.reduceEq, reduceDIte, Nat.reducePow, hrd, hrs, hrl, pD, pR, pM, gD, gR, gM, sD, sR, sM, aA, aS, aK, aT, List.set_set, List.length_set, List.getElem?_set_ne ndr, List.getElem?_set_ne ndm, List.getElem?_set_ne nrm, List.getElem?_set_ne nrd, List.getElem?_set_ne nmd, List.getElem?_set_ne nmr, refB, rowR, spR_vs, spR_vl, spR_su, spR_lo, rot1, rot2, rot3, rot4, hd]
  refine Thn_n ?_
  refine hK _ _ ?_
  clear hK K
  refine AW.cond rfl (fun h19 => ?_) (fun h19 => ?_)
  · have hlt : i < R.lo.length := by have := of_decide_eq_true h19; omega
    have c1 : (0 : Int) ≤ (i : Int) := by omega
    have c2 : (i : Int) < (R.lo.length : Int) := by omega
    have c3 : i * 129 + 129 ≤ R.lo.length * 129 := by omega
    have hcl := rowC_len hwl.len
    obtain ⟨e, he⟩ : ∃ e, R.lo[i]? = some e := ⟨_, List.getElem?_eq_getElem hlt⟩
    have hme := List.mem_of_getElem? he
    have he9 := hwl.len e hme
    have gk := rowC_key hwl.len he
    have ga := rowC_at hwl.len he
    have hwi9 := syF_wf hws hwl i
    have hsi := hwi9.size
    have hns := syF_s (su := R.su) he
    refine AW.skip ?_
    refine Thn_n ?_
    refine hK _ _ ?_
    clear hK K
    refine AW.seq_k fun K hK => ?_
    refine AW.block ?_
    refine AW.draw [.val, .val, .val, .val, .rd 0, .val, .val, .val, .rd 0, .val, .val, .rd 0, .ext, .val, .val, .wr] fol (by decide) (by kernel_rfl) ?_
    simp only [push_cast, Nat.reduceAdd, Nat.reduceMul, Nat.reduceSub, Nat.reduceLeDiff, Nat.reduceLT, Nat.reduceEqDiff, Nat.reduceBEq, Nat.reduceBNe, Nat.reduceMod, Nat.reduceDiv, Int.reduceLE, Int.reduceLT, Int.reduceToNat, Int.reduceAdd, Int.reduceSub, Int.reduceMul, Int.reduceNeg, Int.reduceEq, Int.reduceBEq, Int.reduceBNe, ↓reduceIte, reduceCtorEq, String.reduceBNe, String.reduceEq, reduceDIte, Nat.reducePow, hrd, hrs, hrl, pD, pR, pM, gD, gR, gM, sD, sR, sM, aA, aS, aK, aT, List.set_set, List.length_set, List.getElem?_set_ne ndr, List.getElem?_set_ne ndm, List.getElem?_set_ne nrm, List.getElem?_set_ne nrd, List.getElem?_set_ne nmd, List.getElem?_set_ne nmr, refB, rowR, spR_vs, spR_vl, spR_su, spR_lo, rot1, rot2, rot3, rot4, hd, c1, c2, c3, hcl, gk, ga]
    refine DCall.by (put_c rs (R.vs + i) (syF R.su R.lo i) e _ ⟨.grow, 129, by simp only [push_cast, Nat.reduceAdd, Nat.reduceMul, Nat.reduceSub, Nat.reduceLeDiff, Nat.reduceLT, Nat.reduceEqDiff, Nat.reduceBEq, Nat.reduceBNe, Nat.reduceMod, Nat.reduceDiv, Int.reduceLE, Int.reduceLT, Int.reduceToNat, Int.reduceAdd, Int.reduceSub, Int.reduceMul, Int.reduceNeg, Int.reduceEq, Int.reduceBEq, Int.reduceBNe, ↓reduceIte, reduceCtorEq, String.reduceBNe, String.reduceEq, reduceDIte, Nat.reducePow, hrd, hrs, hrl, pD, pR, pM, gD, gR, gM, sD, sR, sM, aA, aS, aK, aT, List.set_set, List.length_set, List.getElem?_set_ne ndr, List.getElem?_set_ne ndm, List.getElem?_set_ne nrm, List.getElem?_set_ne nrd, List.getElem?_set_ne nmd, List.getElem?_set_ne nmr, refB, rowR]⟩ hwi9.len he9 (by omega)) ?_
    simp only [push_cast, Nat.reduceAdd, Nat.reduceMul, Nat.reduceSub, Nat.reduceLeDiff, Nat.reduceLT, Nat.reduceEqDiff, Nat.reduceBEq, Nat.reduceBNe, Nat.reduceMod, Nat.reduceDiv, Int.reduceLE, Int.reduceLT, Int.reduceToNat, Int.reduceAdd, Int.reduceSub, Int.reduceMul, Int.reduceNeg, Int.reduceEq, Int.reduceBEq, Int.reduceBNe, ↓reduceIte, reduceCtorEq, String.reduceBNe, String.reduceEq, reduceDIte, Nat.reducePow, hrd, hrs, hrl, pD, pR, pM, gD, gR, gM, sD, sR, sM, aA, aS, aK, aT, List.set_set, List.length_set, List.getElem?_set_ne ndr, List.getElem?_set_ne ndm, List.getElem?_set_ne nrm, List.getElem?_set_ne nrd, List.getElem?_set_ne nmd, List.getElem?_set_ne nmr, refB, rowR, spR_vs, spR_vl, spR_su, spR_lo, rot1, rot2, rot3, rot4, hd, c1, c2, c3, hcl, gk, ga]
    refine InB_n ?_
    refine Thn_n ?_
    refine hK _ _ ?_
    clear hK K
    refine AW.moveCell rs (m.length) ((putR e false (syF R.su R.lo i)).length) rd 1 (b := rowR (R.vs + i) (syF R.su R.lo i)) (e := rowR 0 (putR e false (syF R.su R.lo i))) (p := ⟨.fix, 61, 0, 0, [.int .i64 n, .sl m.length 0 0 (putR e false (syF R.su R.lo i)).length, .sl rl (R.vl) 0 (R.lo.length), .int .i64 ((spR R).fuse), .int .i64 ((spR R).steps), .bool ((spR R).down)]⟩) (by simp only [push_cast, Nat.reduceAdd, Nat.reduceMul, Nat.reduceSub, Nat.reduceLeDiff, Nat.reduceLT, Nat.reduceEqDiff, Nat.reduceBEq, Nat.reduceBNe, Nat.reduceMod, Nat.reduceDiv, Int.reduceLE, Int.reduceLT, Int.reduceToNat, Int.reduceAdd, Int.reduceSub, Int.reduceMul, Int.reduceNeg, Int.reduceEq, Int.reduceBEq, Int.reduceBNe, ↓reduceIte, reduceCtorEq, String.reduceBNe, String.reduceEq, reduceDIte, Nat.reducePow, hrd, hrs, hrl, pD, pR, pM, gD, gR, gM, sD, sR, sM, aA, aS, aK, aT, List.set_set, List.length_set, List.getElem?_set_ne ndr, List.getElem?_set_ne ndm, List.getElem?_set_ne nrm, List.getElem?_set_ne nrd, List.getElem?_set_ne nmd, List.getElem?_set_ne nmr, refB, rowR, rot1, rot2, rot3, rot4]) rfl (by simp only [push_cast, Nat.reduceAdd, Nat.reduceMul, Nat.reduceSub, Nat.reduceLeDiff, Nat.reduceLT, Nat.reduceEqDiff, Nat.reduceBEq, Nat.reduceBNe, Nat.reduceMod, Nat.reduceDiv, Int.reduceLE, Int.reduceLT, Int.reduceToNat, Int.reduceAdd, Int.reduceSub, Int.reduceMul, Int.reduceNeg, Int.reduceEq, Int.reduceBEq, Int.reduceBNe, ↓reduceIte, reduceCtorEq, String.reduceBNe, String.reduceEq, reduceDIte, Nat.reducePow, hrd, hrs, hrl, pD, pR, pM, gD, gR, gM, sD, sR, sM, aA, aS, aK, aT, List.set_set, List.length_set, List.getElem?_set_ne ndr, List.getElem?_set_ne ndm, List.getElem?_set_ne nrm, List.getElem?_set_ne nrd, List.getElem?_set_ne nmd, List.getElem?_set_ne nmr, refB, rowR, rot1, rot2, rot3, rot4]) rfl (by omega) (by simp only [push_cast, Nat.reduceAdd, Nat.reduceMul, Nat.reduceSub, Nat.reduceLeDiff, Nat.reduceLT, Nat.reduceEqDiff, Nat.reduceBEq, Nat.reduceBNe, Nat.reduceMod, Nat.reduceDiv, Int.reduceLE, Int.reduceLT, Int.reduceToNat, Int.reduceAdd, Int.reduceSub, Int.reduceMul, Int.reduceNeg, Int.reduceEq, Int.reduceBEq, Int.reduceBNe, ↓reduceIte, reduceCtorEq, String.reduceBNe, String.reduceEq, reduceDIte, Nat.reducePow, hrd, hrs, hrl, pD, pR, pM, gD, gR, gM, sD, sR, sM, aA, aS, aK, aT, List.set_set, List.length_set, List.getElem?_set_ne ndr, List.getElem?_set_ne ndm, List.getElem?_set_ne nrm, List.getElem?_set_ne nrd, List.getElem?_set_ne nmd, List.getElem?_set_ne nmr, refB, rowR, rot1, rot2, rot3, rot4]) (by intro e; cases e) (by omega) (by omega) rfl ?_
    simp only [List.set_cons_succ, List.set_cons_zero, push_cast, Nat.reduceAdd, Nat.reduceMul, Nat.reduceSub, Nat.reduceLeDiff, Nat.reduceLT, Nat.reduceEqDiff, Nat.reduceBEq, Nat.reduceBNe, Nat.reduceMod, Nat.reduceDiv, Int.reduceLE, Int.reduceLT, Int.reduceToNat, Int.reduceAdd, Int.reduceSub, Int.reduceMul, Int.reduceNeg, Int.reduceEq, Int.reduceBEq, Int.reduceBNe, ↓reduceIte, reduceCtorEq, String.reduceBNe, String.reduceEq, reduceDIte, Nat.reducePow, hrd, hrs, hrl, pD, pR, pM, gD, gR, gM, sD, sR, sM, aA, aS, aK, aT, List.set_set, List.length_set, List.getElem?_set_ne ndr, List.getElem?_set_ne ndm, List.getElem?_set_ne nrm, List.getElem?_set_ne nrd, List.getElem?_set_ne nmd, List.getElem?_set_ne nmr, refB, rowR, rot1, rot2, rot3, rot4]
    refine AW.region (by decide) ?_
    simp only [push_cast, Nat.reduceAdd, Nat.reduceMul, Nat.reduceSub, Nat.reduceLeDiff, Nat.reduceLT, Nat.reduceEqDiff, Nat.reduceBEq, Nat.reduceBNe, Nat.reduceMod, Nat.reduceDiv, Int.reduceLE, Int.reduceLT, Int.reduceToNat, Int.reduceAdd, Int.reduceSub, Int.reduceMul, Int.reduceNeg, Int.reduceEq, Int.reduceBEq, Int.reduceBNe, ↓reduceIte, reduceCtorEq, String.reduceBNe, String.reduceEq, reduceDIte, Nat.reducePow, hrd, hrs, hrl, pD, pR, pM, gD, gR, gM, sD, sR, sM, aA, aS, aK, aT, List.set_set, List.length_set, List.getElem?_set_ne ndr, List.getElem?_set_ne ndm, List.getElem?_set_ne nrm, List.getElem?_set_ne nrd, List.getElem?_set_ne nmd, List.getElem?_set_ne nmr, refB, rowR, spR_vs, spR_vl, spR_su, spR_lo, rot1, rot2, rot3, rot4, hd, c1, c2, c3, hcl, gk, ga]
    refine Thn_n ?_
    have hwi : IntKind.i64.wrap ((i:Int)+1) = (i:Int)+1 := wi (by omega)
    refine ⟨i + 1, by omega, by omega, ?_⟩
    try simp only [keepL, setAll, push_cast, Nat.reduceAdd, Nat.reduceMul, Nat.reduceSub, Nat.reduceLeDiff, Nat.reduceLT, Nat.reduceEqDiff, Nat.reduceBEq, Nat.reduceBNe, Nat.reduceMod, Nat.reduceDiv, Int.reduceLE, Int.reduceLT, Int.reduceToNat, Int.reduceAdd, Int.reduceSub, Int.reduceMul, Int.reduceNeg, Int.reduceEq, Int.reduceBEq, Int.reduceBNe, ↓reduceIte, reduceCtorEq, String.reduceBNe, String.reduceEq, reduceDIte, Nat.reducePow, hrd, hrs, hrl, pD, pR, pM, gD, gR, gM, sD, sR, sM, aA, aS, aK, aT, List.set_set, List.length_set, List.getElem?_set_ne ndr, List.getElem?_set_ne ndm, List.getElem?_set_ne nrm, List.getElem?_set_ne nrd, List.getElem?_set_ne nmd, List.getElem?_set_ne nmr, refB, rowR, spR_vs, spR_vl, spR_su, spR_lo, rot1, rot2, rot3, rot4, hd, c1, c2, c3, hcl, gk, ga, hwi, hns]
    exact Weak.to (extra := [_]) (by simp only [Keeps, Tm.get_cons, Nat.reduceEqDiff, ↓reduceIte, if_true, if_false, ite_true, ite_false, true_and, and_true, and_self, reduceCtorEq, hwi, hns]) (by first | rfl | (simp only [List.append_assoc, List.cons_append, List.nil_append]; rfl)) (by first | rfl | (simp [AV.below, CV.below]; done) | (simp [AV.below, CV.below]; omega)) (by
      refine MWf_setB (MWf_setB (hwf.grow (by simp)) ?_ rfl) (rowC_below _ _) rfl
      have l1 : rs < m.length := lr
      have l2 : rl < m.length := lm
      simp only [List.all_cons, List.all_nil, CV.below, List.length_set, decide_eq_true l1, decide_eq_true l2, Bool.and_true])
  · have hie : i = R.lo.length := by have := of_decide_eq_false h19; omega
    subst hie
    refine AW.exit ?_
    refine Thn_e ?_
    clear hK K
    refine Thn_e ?_
    refine InB_here ?_
    refine Thn_n ?_
    refine hK _ _ ?_
    clear hK K
    refine AW.seq_k fun K hK => ?_
    refine AW.region (by decide) ?_
    simp only [push_cast, Nat.reduceAdd, Nat.reduceMul, Nat.reduceSub, Nat.reduceLeDiff, Nat.reduceLT, Nat.reduceEqDiff, Nat.reduceBEq, Nat.reduceBNe, Nat.reduceMod, Nat.reduceDiv, Int.reduceLE, Int.reduceLT, Int.reduceToNat, Int.reduceAdd, Int.reduceSub, Int.reduceMul, Int.reduceNeg, Int.reduceEq, Int.reduceBEq, Int.reduceBNe, ↓reduceIte, reduceCtorEq, String.reduceBNe, String.reduceEq, reduceDIte, Nat.reducePow, hrd, hrs, hrl, pD, pR, pM, gD, gR, gM, sD, sR, sM, aA, aS, aK, aT, List.set_set, List.length_set, List.getElem?_set_ne ndr, List.getElem?_set_ne ndm, List.getElem?_set_ne nrm, List.getElem?_set_ne nrd, List.getElem?_set_ne nmd, List.getElem?_set_ne nmr, refB, rowR, spR_vs, spR_vl, spR_su, spR_lo, rot1, rot2, rot3, rot4, hd]
    refine Thn_n ?_
    refine hK _ _ ?_
    clear hK K
    refine AW.seq_k fun K hK => ?_
    refine AW.nilCell 65 129 rd 2 (b := ⟨.fix, 61, 0, 0, [.int .i64 n, .sl rs (R.vs + R.lo.length) 0 ((syF R.su R.lo R.lo.length).length), .nils, .int .i64 ((spR R).fuse), .int .i64 ((spR R).steps), .bool ((spR R).down)]⟩) (by simp only [push_cast, Nat.reduceAdd, Nat.reduceMul, Nat.reduceSub, Nat.reduceLeDiff, Nat.reduceLT, Nat.reduceEqDiff, Nat.reduceBEq, Nat.reduceBNe, Nat.reduceMod, Nat.reduceDiv, Int.reduceLE, Int.reduceLT, Int.reduceToNat, Int.reduceAdd, Int.reduceSub, Int.reduceMul, Int.reduceNeg, Int.reduceEq, Int.reduceBEq, Int.reduceBNe, ↓reduceIte, reduceCtorEq, String.reduceBNe, String.reduceEq, reduceDIte, Nat.reducePow, hrd, hrs, hrl, pD, pR, pM, gD, gR, gM, sD, sR, sM, aA, aS, aK, aT, List.set_set, List.length_set, List.getElem?_set_ne ndr, List.getElem?_set_ne ndm, List.getElem?_set_ne nrm, List.getElem?_set_ne nrd, List.getElem?_set_ne nmd, List.getElem?_set_ne nmr, refB, rowR, rot1, rot2, rot3, rot4]) (by intro e; cases e) rfl ?_
    simp only [List.set_cons_succ, List.set_cons_zero, push_cast, Nat.reduceAdd, Nat.reduceMul, Nat.reduceSub, Nat.reduceLeDiff, Nat.reduceLT, Nat.reduceEqDiff, Nat.reduceBEq, Nat.reduceBNe, Nat.reduceMod, Nat.reduceDiv, Int.reduceLE, Int.reduceLT, Int.reduceToNat, Int.reduceAdd, Int.reduceSub, Int.reduceMul, Int.reduceNeg, Int.reduceEq, Int.reduceBEq, Int.reduceBNe, ↓reduceIte, reduceCtorEq, String.reduceBNe, String.reduceEq, reduceDIte, Nat.reducePow, hrd, hrs, hrl, pD, pR, pM, gD, gR, gM, sD, sR, sM, aA, aS, aK, aT, List.set_set, List.length_set, List.getElem?_set_ne ndr, List.getElem?_set_ne ndm, List.getElem?_set_ne nrm, List.getElem?_set_ne nrd, List.getElem?_set_ne nmd, List.getElem?_set_ne nmr, refB, rowR, rot1, rot2, rot3, rot4]
    refine AW.moveCell rl (m.length) (0) rd 2 (b := rowR R.vl R.lo) (e := ⟨.grow, 65, 0, 129, []⟩) (p := ⟨.fix, 61, 0, 0, [.int .i64 n, .sl rs (R.vs + R.lo.length) 0 ((syF R.su R.lo R.lo.length).length), .sl m.length 0 0 0, .int .i64 ((spR R).fuse), .int .i64 ((spR R).steps), .bool ((spR R).down)]⟩) (by simp only [push_cast, Nat.reduceAdd, Nat.reduceMul, Nat.reduceSub, Nat.reduceLeDiff, Nat.reduceLT, Nat.reduceEqDiff, Nat.reduceBEq, Nat.reduceBNe, Nat.reduceMod, Nat.reduceDiv, Int.reduceLE, Int.reduceLT, Int.reduceToNat, Int.reduceAdd, Int.reduceSub, Int.reduceMul, Int.reduceNeg, Int.reduceEq, Int.reduceBEq, Int.reduceBNe, ↓reduceIte, reduceCtorEq, String.reduceBNe, String.reduceEq, reduceDIte, Nat.reducePow, hrd, hrs, hrl, pD, pR, pM, gD, gR, gM, sD, sR, sM, aA, aS, aK, aT, List.set_set, List.length_set, List.getElem?_set_ne ndr, List.getElem?_set_ne ndm, List.getElem?_set_ne nrm, List.getElem?_set_ne nrd, List.getElem?_set_ne nmd, List.getElem?_set_ne nmr, refB, rowR, rot1, rot2, rot3, rot4]) rfl (by simp only [push_cast, Nat.reduceAdd, Nat.reduceMul, Nat.reduceSub, Nat.reduceLeDiff, Nat.reduceLT, Nat.reduceEqDiff, Nat.reduceBEq, Nat.reduceBNe, Nat.reduceMod, Nat.reduceDiv, Int.reduceLE, Int.reduceLT, Int.reduceToNat, Int.reduceAdd, Int.reduceSub, Int.reduceMul, Int.reduceNeg, Int.reduceEq, Int.reduceBEq, Int.reduceBNe, ↓reduceIte, reduceCtorEq, String.reduceBNe, String.reduceEq, reduceDIte, Nat.reducePow, hrd, hrs, hrl, pD, pR, pM, gD, gR, gM, sD, sR, sM, aA, aS, aK, aT, List.set_set, List.length_set, List.getElem?_set_ne ndr, List.getElem?_set_ne ndm, List.getElem?_set_ne nrm, List.getElem?_set_ne nrd, List.getElem?_set_ne nmd, List.getElem?_set_ne nmr, refB, rowR, rot1, rot2, rot3, rot4]) rfl (by omega) (by simp only [push_cast, Nat.reduceAdd, Nat.reduceMul, Nat.reduceSub, Nat.reduceLeDiff, Nat.reduceLT, Nat.reduceEqDiff, Nat.reduceBEq, Nat.reduceBNe, Nat.reduceMod, Nat.reduceDiv, Int.reduceLE, Int.reduceLT, Int.reduceToNat, Int.reduceAdd, Int.reduceSub, Int.reduceMul, Int.reduceNeg, Int.reduceEq, Int.reduceBEq, Int.reduceBNe, ↓reduceIte, reduceCtorEq, String.reduceBNe, String.reduceEq, reduceDIte, Nat.reducePow, hrd, hrs, hrl, pD, pR, pM, gD, gR, gM, sD, sR, sM, aA, aS, aK, aT, List.set_set, List.length_set, List.getElem?_set_ne ndr, List.getElem?_set_ne ndm, List.getElem?_set_ne nrm, List.getElem?_set_ne nrd, List.getElem?_set_ne nmd, List.getElem?_set_ne nmr, refB, rowR, rot1, rot2, rot3, rot4]) (by intro e; cases e) (by omega) (by omega) rfl ?_
    simp only [List.set_cons_succ, List.set_cons_zero, push_cast, Nat.reduceAdd, Nat.reduceMul, Nat.reduceSub, Nat.reduceLeDiff, Nat.reduceLT, Nat.reduceEqDiff, Nat.reduceBEq, Nat.reduceBNe, Nat.reduceMod, Nat.reduceDiv, Int.reduceLE, Int.reduceLT, Int.reduceToNat, Int.reduceAdd, Int.reduceSub, Int.reduceMul, Int.reduceNeg, Int.reduceEq, Int.reduceBEq, Int.reduceBNe, ↓reduceIte, reduceCtorEq, String.reduceBNe, String.reduceEq, reduceDIte, Nat.reducePow, hrd, hrs, hrl, pD, pR, pM, gD, gR, gM, sD, sR, sM, aA, aS, aK, aT, List.set_set, List.length_set, List.getElem?_set_ne ndr, List.getElem?_set_ne ndm, List.getElem?_set_ne nrm, List.getElem?_set_ne nrd, List.getElem?_set_ne nmd, List.getElem?_set_ne nmr, refB, rowR, rot1, rot2, rot3, rot4]
    refine AW.region (by decide) ?_
    simp only [push_cast, Nat.reduceAdd, Nat.reduceMul, Nat.reduceSub, Nat.reduceLeDiff, Nat.reduceLT, Nat.reduceEqDiff, Nat.reduceBEq, Nat.reduceBNe, Nat.reduceMod, Nat.reduceDiv, Int.reduceLE, Int.reduceLT, Int.reduceToNat, Int.reduceAdd, Int.reduceSub, Int.reduceMul, Int.reduceNeg, Int.reduceEq, Int.reduceBEq, Int.reduceBNe, ↓reduceIte, reduceCtorEq, String.reduceBNe, String.reduceEq, reduceDIte, Nat.reducePow, hrd, hrs, hrl, pD, pR, pM, gD, gR, gM, sD, sR, sM, aA, aS, aK, aT, List.set_set, List.length_set, List.getElem?_set_ne ndr, List.getElem?_set_ne ndm, List.getElem?_set_ne nrm, List.getElem?_set_ne nrd, List.getElem?_set_ne nmd, List.getElem?_set_ne nmr, refB, rowR, spR_vs, spR_vl, spR_su, spR_lo, rot1, rot2, rot3, rot4, hd]
    refine Thn_n ?_
    refine hK _ _ ?_
    clear hK K
    refine AW.ret ?_
    refine hQ _ _ _ ?_
    have hcell : refB rs rl n (syR R) = ⟨.fix, 61, 0, 0, [.int .i64 n, .sl rs (R.vs + R.lo.length) 0 ((syF R.su R.lo R.lo.length).length), .sl rl (R.vl + 1) 0 (0), .int .i64 ((spR R).fuse), .int .i64 ((spR R).steps), .bool ((spR R).down)]⟩ := by simp only [refB, syR, List.length_nil]
    have e3 : setR m rd rs rl n (syR R) = ((m.set rd (refB rs rl n (syR R))).set rs (rowR (R.vs + R.lo.length) (syF R.su R.lo R.lo.length))).set rl ⟨.grow, 65, R.vl + 1, 129, []⟩ := rfl
    rw [e3, hcell] at hw2 ⊢
    refine RetP.dropM (by simp only [List.length_set]) (by first | exact Or.inr rfl | exact Or.inl rfl) ?_ ?_ hw2
    · simp only [resA, resOne, resTv, AV.tv, push_cast, Nat.reduceAdd, Nat.reduceMul, Nat.reduceSub, Nat.reduceLeDiff, Nat.reduceLT, Nat.reduceEqDiff, Nat.reduceBEq, Nat.reduceBNe, Nat.reduceMod, Nat.reduceDiv, Int.reduceLE, Int.reduceLT, Int.reduceToNat, Int.reduceAdd, Int.reduceSub, Int.reduceMul, Int.reduceNeg, Int.reduceEq, Int.reduceBEq, Int.reduceBNe, ↓reduceIte, reduceCtorEq, String.reduceBNe, String.reduceEq, reduceDIte, Nat.reducePow]
    · rfl
end Go.Proofs.Ytcahlnddcjifdaa

set_option linter.unusedSimpArgs false
set_option linter.unusedVariables false
set_option maxRecDepth 100000
set_option maxHeartbeats 4000000
namespace Go.Proofs.Ytcahlnddcjifdaa
open Go Go.Eng

def rvis (R : RS) (k : Int) : List Int := match lkR k R.lo with | some v => v | none => (lkR k R.su).getD zB
theorem lkR_len {n : Nat} {l : RE} (h : WfR n l) {k : Int} {v : List Int} (hk : lkR k l = some v) : v.length = 128 := by
  have : ∀ {l : RE}, L9 l → lkR k l = some v → v.length = 128 := by
    intro l
    induction l with
    | nil => intro _ h; cases h
    | cons e l ih =>
      intro h9 h
      rw [lkR_c] at h
      split at h
      · injection h with h; rw [← h]; exact h9 e List.mem_cons_self
      · exact ih (fun x hx => h9 x (List.mem_cons_of_mem _ hx)) h
  exact this h.len hk
theorem getD_len {n : Nat} {l : RE} (h : WfR n l) (k : Int) : ((lkR k l).getD zB).length = 128 := by
  cases hk : lkR k l with
  | none => rfl
  | some v => exact lkR_len h hk
theorem rrd_down (rd rs rl n : Nat) (R : RS) (x : Int) (m : AMem) (hrd : m[rd]? = some (refB rs rl n R)) (hd : R.down = true) : Ctr Try.prog 16 [.one (.ptr rd 0 0), .one (.int .i64 x)] m (.tup [(true, u8l (zB)), (false, [.int .i64 5])]) m := by
  refine Ctr.enter Try.func16 rfl (by decide) (rs := [.cell 4 28, .tmp 5]) (nt := 45) rfl rfl fun hwf Q hQ => ?_
  refine AW.seq_k fun K hK => ?_
  refine AW.region (by decide) ?_
  simp only [push_cast, Nat.reduceAdd, Nat.reduceMul, Nat.reduceSub, Nat.reduceLeDiff, Nat.reduceLT, Nat.reduceEqDiff, Nat.reduceBEq, Nat.reduceBNe, Nat.reduceMod, Nat.reduceDiv, Int.reduceLE, Int.reduceLT, Int.reduceToNat, Int.reduceAdd, Int.reduceSub, Int.reduceMul, Int.reduceNeg, Int.reduceEq, Int.reduceBEq, Int.reduceBNe, ↓reduceIte, reduceCtorEq, String.reduceBNe, String.reduceEq, reduceDIte, Nat.reducePow, hrd, lk_old hrd, refB, hd]
  refine Thn_n ?_
  refine hK _ _ ?_
  clear hK K
  refine AW.seq_k fun K hK => ?_
  refine AW.seq_k fun K hK => ?_
  refine AW.region (by decide) ?_
  simp only [push_cast, Nat.reduceAdd, Nat.reduceMul, Nat.reduceSub, Nat.reduceLeDiff, Nat.reduceLT, Nat.reduceEqDiff, Nat.reduceBEq, Nat.reduceBNe, Nat.reduceMod, Nat.reduceDiv, Int.reduceLE, Int.reduceLT, Int.reduceToNat, Int.reduceAdd, Int.reduceSub, Int.reduceMul, Int.reduceNeg, Int.reduceEq, Int.reduceBEq, Int.reduceBNe, ↓reduceIte, reduceCtorEq, String.reduceBNe, String.reduceEq, reduceDIte, Nat.reducePow, hrd, lk_old hrd, refB, hd]
  refine Thn_n ?_
  refine hK _ _ ?_
  clear hK K
  refine AW.cond_t rfl ?_
  refine AW.seq_k fun K hK => ?_
  refine AW.region (by decide) ?_
  simp only [push_cast, Nat.reduceAdd, Nat.reduceMul, Nat.reduceSub, Nat.reduceLeDiff, Nat.reduceLT, Nat.reduceEqDiff, Nat.reduceBEq, Nat.reduceBNe, Nat.reduceMod, Nat.reduceDiv, Int.reduceLE, Int.reduceLT, Int.reduceToNat, Int.reduceAdd, Int.reduceSub, Int.reduceMul, Int.reduceNeg, Int.reduceEq, Int.reduceBEq, Int.reduceBNe, ↓reduceIte, reduceCtorEq, String.reduceBNe, String.reduceEq, reduceDIte, Nat.reducePow, hrd, lk_old hrd, refB, hd]
  refine Thn_n ?_
  refine hK _ _ ?_
  clear hK K
  refine AW.ret ?_
  refine Thn_r ?_
  refine hQ _ _ _ ?_
  refine RetP.drop (by first | exact Or.inr rfl | exact Or.inl rfl) ?_ ?_ hwf
  · simp only [resA, resOne, resTv, AV.tv, push_cast, Nat.reduceAdd, Nat.reduceMul, Nat.reduceSub, Nat.reduceLeDiff, Nat.reduceLT, Nat.reduceEqDiff, Nat.reduceBEq, Nat.reduceBNe, Nat.reduceMod, Nat.reduceDiv, Int.reduceLE, Int.reduceLT, Int.reduceToNat, Int.reduceAdd, Int.reduceSub, Int.reduceMul, Int.reduceNeg, Int.reduceEq, Int.reduceBEq, Int.reduceBNe, ↓reduceIte, reduceCtorEq, String.reduceBNe, String.reduceEq, reduceDIte, Nat.reducePow]
    try rfl
  · rfl
theorem rrd_lo (rd rs rl n : Nat) (R : RS) (x : Int) (m : AMem) (hrd : m[rd]? = some (refB rs rl n R)) (hd : R.down = false) (h1 : x < 0) : Ctr Try.prog 16 [.one (.ptr rd 0 0), .one (.int .i64 x)] m (.tup [(true, u8l (zB)), (false, [.int .i64 1])]) m := by
  refine Ctr.enter Try.func16 rfl (by decide) (rs := [.cell 4 28, .tmp 5]) (nt := 45) rfl rfl fun hwf Q hQ => ?_
  refine AW.seq_k fun K hK => ?_
  refine AW.region (by decide) ?_
  simp only [push_cast, Nat.reduceAdd, Nat.reduceMul, Nat.reduceSub, Nat.reduceLeDiff, Nat.reduceLT, Nat.reduceEqDiff, Nat.reduceBEq, Nat.reduceBNe, Nat.reduceMod, Nat.reduceDiv, Int.reduceLE, Int.reduceLT, Int.reduceToNat, Int.reduceAdd, Int.reduceSub, Int.reduceMul, Int.reduceNeg, Int.reduceEq, Int.reduceBEq, Int.reduceBNe, ↓reduceIte, reduceCtorEq, String.reduceBNe, String.reduceEq, reduceDIte, Nat.reducePow, hrd, lk_old hrd, refB, hd, h1]
  refine Thn_n ?_
  refine hK _ _ ?_
  clear hK K
  refine AW.seq_k fun K hK => ?_
  refine AW.seq_k fun K hK => ?_
  refine AW.region (by decide) ?_
  simp only [push_cast, Nat.reduceAdd, Nat.reduceMul, Nat.reduceSub, Nat.reduceLeDiff, Nat.reduceLT, Nat.reduceEqDiff, Nat.reduceBEq, Nat.reduceBNe, Nat.reduceMod, Nat.reduceDiv, Int.reduceLE, Int.reduceLT, Int.reduceToNat, Int.reduceAdd, Int.reduceSub, Int.reduceMul, Int.reduceNeg, Int.reduceEq, Int.reduceBEq, Int.reduceBNe, ↓reduceIte, reduceCtorEq, String.reduceBNe, String.reduceEq, reduceDIte, Nat.reducePow, hrd, lk_old hrd, refB, hd, h1]
  refine Thn_n ?_
  refine hK _ _ ?_
  clear hK K
  refine AW.cond_f rfl ?_
  refine AW.skip ?_
  refine Thn_n ?_
  refine hK _ _ ?_
  clear hK K
  refine AW.seq_k fun K hK => ?_
  refine AW.seq_k fun K hK => ?_
  refine AW.region (by decide) ?_
  simp only [push_cast, Nat.reduceAdd, Nat.reduceMul, Nat.reduceSub, Nat.reduceLeDiff, Nat.reduceLT, Nat.reduceEqDiff, Nat.reduceBEq, Nat.reduceBNe, Nat.reduceMod, Nat.reduceDiv, Int.reduceLE, Int.reduceLT, Int.reduceToNat, Int.reduceAdd, Int.reduceSub, Int.reduceMul, Int.reduceNeg, Int.reduceEq, Int.reduceBEq, Int.reduceBNe, ↓reduceIte, reduceCtorEq, String.reduceBNe, String.reduceEq, reduceDIte, Nat.reducePow, hrd, lk_old hrd, refB, hd, h1]
  refine Thn_n ?_
  refine hK _ _ ?_
  clear hK K
  refine AW.cond_t rfl ?_
  refine AW.seq_k fun K hK => ?_
  refine AW.region (by decide) ?_
  simp only [push_cast, Nat.reduceAdd, Nat.reduceMul, Nat.reduceSub, Nat.reduceLeDiff, Nat.reduceLT, Nat.reduceEqDiff, Nat.reduceBEq, Nat.reduceBNe, Nat.reduceMod, Nat.reduceDiv, Int.reduceLE, Int.reduceLT, Int.reduceToNat, Int.reduceAdd, Int.reduceSub, Int.reduceMul, Int.reduceNeg, Int.reduceEq, Int.reduceBEq, Int.reduceBNe, ↓reduceIte, reduceCtorEq, String.reduceBNe, String.reduceEq, reduceDIte, Nat.reducePow, hrd, lk_old hrd, refB, hd, h1]
  refine Thn_n ?_
  refine hK _ _ ?_
  clear hK K
  refine AW.ret ?_
  refine Thn_r ?_
  refine hQ _ _ _ ?_
  refine RetP.drop (by first | exact Or.inr rfl | exact Or.inl rfl) ?_ ?_ hwf
  · simp only [resA, resOne, resTv, AV.tv, push_cast, Nat.reduceAdd, Nat.reduceMul, Nat.reduceSub, Nat.reduceLeDiff, Nat.reduceLT, Nat.reduceEqDiff, Nat.reduceBEq, Nat.reduceBNe, Nat.reduceMod, Nat.reduceDiv, Int.reduceLE, Int.reduceLT, Int.reduceToNat, Int.reduceAdd, Int.reduceSub, Int.reduceMul, Int.reduceNeg, Int.reduceEq, Int.reduceBEq, Int.reduceBNe, ↓reduceIte, reduceCtorEq, String.reduceBNe, String.reduceEq, reduceDIte, Nat.reducePow]
    try rfl
  · rfl
theorem rrd_hi (rd rs rl n : Nat) (R : RS) (x : Int) (m : AMem) (hrd : m[rd]? = some (refB rs rl n R)) (hd : R.down = false) (h1 : ¬ x < 0) (h2 : (n : Int) ≤ x) : Ctr Try.prog 16 [.one (.ptr rd 0 0), .one (.int .i64 x)] m (.tup [(true, u8l (zB)), (false, [.int .i64 1])]) m := by
  refine Ctr.enter Try.func16 rfl (by decide) (rs := [.cell 4 28, .tmp 5]) (nt := 45) rfl rfl fun hwf Q hQ => ?_
  refine AW.seq_k fun K hK => ?_
  refine AW.region (by decide) ?_
  simp only [push_cast, Nat.reduceAdd, Nat.reduceMul, Nat.reduceSub, Nat.reduceLeDiff, Nat.reduceLT, Nat.reduceEqDiff, Nat.reduceBEq, Nat.reduceBNe, Nat.reduceMod, Nat.reduceDiv, Int.reduceLE, Int.reduceLT, Int.reduceToNat, Int.reduceAdd, Int.reduceSub, Int.reduceMul, Int.reduceNeg, Int.reduceEq, Int.reduceBEq, Int.reduceBNe, ↓reduceIte, reduceCtorEq, String.reduceBNe, String.reduceEq, reduceDIte, Nat.reducePow, hrd, lk_old hrd, refB, hd, h1, h2]
  refine Thn_n ?_
  refine hK _ _ ?_
  clear hK K
  refine AW.seq_k fun K hK => ?_
  refine AW.seq_k fun K hK => ?_
  refine AW.region (by decide) ?_
  simp only [push_cast, Nat.reduceAdd, Nat.reduceMul, Nat.reduceSub, Nat.reduceLeDiff, Nat.reduceLT, Nat.reduceEqDiff, Nat.reduceBEq, Nat.reduceBNe, Nat.reduceMod, Nat.reduceDiv, Int.reduceLE, Int.reduceLT, Int.reduceToNat, Int.reduceAdd, Int.reduceSub, Int.reduceMul, Int.reduceNeg, Int.reduceEq, Int.reduceBEq, Int.reduceBNe, ↓reduceIte, reduceCtorEq, String.reduceBNe, String.reduceEq, reduceDIte, Nat.reducePow, hrd, lk_old hrd, refB, hd, h1, h2]
  refine Thn_n ?_
  refine hK _ _ ?_
  clear hK K
  refine AW.cond_f rfl ?_
  refine AW.skip ?_
  refine Thn_n ?_
  refine hK _ _ ?_
  clear hK K
  refine AW.seq_k fun K hK => ?_
  refine AW.seq_k fun K hK => ?_
  refine AW.region (by decide) ?_
  simp only [push_cast, Nat.reduceAdd, Nat.reduceMul, Nat.reduceSub, Nat.reduceLeDiff, Nat.reduceLT, Nat.reduceEqDiff, Nat.reduceBEq, Nat.reduceBNe, Nat.reduceMod, Nat.reduceDiv, Int.reduceLE, Int.reduceLT, Int.reduceToNat, Int.reduceAdd, Int.reduceSub, Int.reduceMul, Int.reduceNeg, Int.reduceEq, Int.reduceBEq, Int.reduceBNe, ↓reduceIte, reduceCtorEq, String.reduceBNe, String.reduceEq, reduceDIte, Nat.reducePow, hrd, lk_old hrd, refB, hd, h1, h2]
  refine Thn_n ?_
  refine hK _ _ ?_
  clear hK K
  refine AW.cond_t rfl ?_
  refine AW.seq_k fun K hK => ?_
  refine AW.region (by decide) ?_
  simp only [push_cast, Nat.reduceAdd, Nat.reduceMul, Nat.reduceSub, Nat.reduceLeDiff, Nat.reduceLT, Nat.reduceEqDiff, Nat.reduceBEq, Nat.reduceBNe, Nat.reduceMod, Nat.reduceDiv, Int.reduceLE, Int.reduceLT, Int.reduceToNat, Int.reduceAdd, Int.reduceSub, Int.reduceMul, Int.reduceNeg, Int.reduceEq, Int.reduceBEq, Int.reduceBNe, ↓reduceIte, reduceCtorEq, String.reduceBNe, String.reduceEq, reduceDIte, Nat.reducePow, hrd, lk_old hrd, refB, hd, h1, h2]
  refine Thn_n ?_
  refine hK _ _ ?_
  clear hK K
  refine AW.ret ?_
  refine Thn_r ?_
  refine hQ _ _ _ ?_
  refine RetP.drop (by first | exact Or.inr rfl | exact Or.inl rfl) ?_ ?_ hwf
  · simp only [resA, resOne, resTv, AV.tv, push_cast, Nat.reduceAdd, Nat.reduceMul, Nat.reduceSub, Nat.reduceLeDiff, Nat.reduceLT, Nat.reduceEqDiff, Nat.reduceBEq, Nat.reduceBNe, Nat.reduceMod, Nat.reduceDiv, Int.reduceLE, Int.reduceLT, Int.reduceToNat, Int.reduceAdd, Int.reduceSub, Int.reduceMul, Int.reduceNeg, Int.reduceEq, Int.reduceBEq, Int.reduceBNe, ↓reduceIte, reduceCtorEq, String.reduceBNe, String.reduceEq, reduceDIte, Nat.reducePow]
    try rfl
  · rfl
theorem rrd_ok1 (rd rs rl n : Nat) (R : RS) (x : Int) (m : AMem) (h : HasR m rd rs rl n R) (hd : R.down = false) (h1 : ¬ x < 0) (h2 : ¬ (n : Int) ≤ x) (hws : WfR n R.su) (hwl : WfR n R.lo) (hn : n ≤ 8192) (v : List Int) (hv : lkR x R.lo = some v) : Ctr Try.prog 16 [.one (.ptr rd 0 0), .one (.int .i64 x)] m (.tup [(true, u8l (v)), (false, [.int .i64 0])]) m := by
  refine Ctr.enter Try.func16 rfl (by decide) (rs := [.cell 4 28, .tmp 5]) (nt := 45) rfl rfl fun hwf Q hQ => ?_
  have hrd := h.d
  have hrs := h.s
  have hrl := h.l
  have ld := get_lt hrd
  have lr := get_lt hrs
  have lm := get_lt hrl
  have ndr : rd ≠ rs := h.dr
  have ndm : rd ≠ rl := h.dm
  have nrm : rs ≠ rl := h.rm
  have nrd := ndr.symm
  have nmd := ndm.symm
  have nmr := nrm.symm
  have pD := fun (l L : AMem) (e : l.length = m.length) => mk_olds (m := m) (l := l) (r := rd) e ld L
  have pR := fun (l L : AMem) (e : l.length = m.length) => mk_olds (m := m) (l := l) (r := rs) e lr L
  have pM := fun (l L : AMem) (e : l.length = m.length) => mk_olds (m := m) (l := l) (r := rl) e lm L
  have gD := fun (l L : AMem) (e : l.length = m.length) => mk_old (m := m) (l := l) (r := rd) e ld L
  have gR := fun (l L : AMem) (e : l.length = m.length) => mk_old (m := m) (l := l) (r := rs) e lr L
  have gM := fun (l L : AMem) (e : l.length = m.length) => mk_old (m := m) (l := l) (r := rl) e lm L
  have sD := fun (l : AMem) (b : Blk) (e : l.length = m.length) => mk_self (m := m) (l := l) (r := rd) e ld b
  have sR := fun (l : AMem) (b : Blk) (e : l.length = m.length) => mk_self (m := m) (l := l) (r := rs) e lr b
  have sM := fun (l : AMem) (b : Blk) (e : l.length = m.length) => mk_self (m := m) (l := l) (r := rl) e lm b
  have aA := fun (l L : AMem) (e : l.length = m.length) => mk_lk0 (m := m) (l := l) e L
  have aK := fun (l L : AMem) (k : Nat) (e : l.length = m.length) => mk_lk (m := m) (l := l) e L k
  have aT := fun (l L : AMem) (k : Nat) (b : Blk) (e : l.length = m.length) => mk_set (m := m) (l := l) e L k b
  have aS := fun (l L : AMem) (b : Blk) (e : l.length = m.length) => mk_set0 (m := m) (l := l) e L b
  have hll := hwl.size
  have hss := hws.size
  have hv9 := lkR_len hwl hv
  have g1 : (u8l v).length = 128 := by rw [u8l_len, hv9]
  have g3 : (u8l v).take 128 = u8l v := List.take_of_length_le (by omega)
  have g2 := u8l_vals v
  have g4 : setL [.int .u8 0, .int .u8 0, .int .u8 0, .int .u8 0, .int .u8 0, .int .u8 0, .int .u8 0, .int .u8 0, .int .u8 0, .int .u8 0, .int .u8 0, .int .u8 0, .int .u8 0, .int .u8 0, .int .u8 0, .int .u8 0, .int .u8 0, .int .u8 0, .int .u8 0, .int .u8 0, .int .u8 0, .int .u8 0, .int .u8 0, .int .u8 0, .int .u8 0, .int .u8 0, .int .u8 0, .int .u8 0, .int .u8 0, .int .u8 0, .int .u8 0, .int .u8 0, .int .u8 0, .int .u8 0, .int .u8 0, .int .u8 0, .int .u8 0, .int .u8 0, .int .u8 0, .int .u8 0, .int .u8 0, .int .u8 0, .int .u8 0, .int .u8 0, .int .u8 0, .int .u8 0, .int .u8 0, .int .u8 0, .int .u8 0, .int .u8 0, .int .u8 0, .int .u8 0, .int .u8 0, .int .u8 0, .int .u8 0, .int .u8 0, .int .u8 0, .int .u8 0, .int .u8 0, .int .u8 0, .int .u8 0, .int .u8 0, .int .u8 0, .int .u8 0, .int .u8 0, .int .u8 0, .int .u8 0, .int .u8 0, .int .u8 0, .int .u8 0, .int .u8 0, .int .u8 0, .int .u8 0, .int .u8 0, .int .u8 0, .int .u8 0, .int .u8 0, .int .u8 0, .int .u8 0, .int .u8 0, .int .u8 0, .int .u8 0, .int .u8 0, .int .u8 0, .int .u8 0, .int .u8 0, .int .u8 0, .int .u8 0, .int .u8 0, .int .u8 0, .int .u8 0, .int .u8 0, .int .u8 0, .int .u8 0, .int .u8 0, .int .u8 0, .int .u8 0, .int .u8 0, .int .u8 0, .int .u8 0, .int .u8 0, .int .u8 0, .int .u8 0, .int .u8 0, .int .u8 0, .int .u8 0, .int .u8 0, .int .u8 0, .int .u8 0, .int .u8 0, .int .u8 0, .int .u8 0, .int .u8 0, .int .u8 0, .int .u8 0, .int .u8 0, .int .u8 0, .int .u8 0, .int .u8 0, .int .u8 0, .int .u8 0, .int .u8 0, .int .u8 0, .int .u8 0, .int .u8 0, .int .u8 0, .int .u8 0, .int .u8 0] 0 (u8l v) = u8l v := setL_all (by rw [g1]; rfl)
  have hsm : (some v).isSome = true := rfl
  have hgd : (some v).getD zB = v := rfl
  refine AW.seq_k fun K hK => ?_
  refine AW.region (by decide) ?_
  simp only [push_cast, Nat.reduceAdd, Nat.reduceMul, Nat.reduceSub, Nat.reduceLeDiff, Nat.reduceLT, Nat.reduceEqDiff, Nat.reduceBEq, Nat.reduceBNe, Nat.reduceMod, Nat.reduceDiv, Int.reduceLE, Int.reduceLT, Int.reduceToNat, Int.reduceAdd, Int.reduceSub, Int.reduceMul, Int.reduceNeg, Int.reduceEq, Int.reduceBEq, Int.reduceBNe, ↓reduceIte, reduceCtorEq, String.reduceBNe, String.reduceEq, reduceDIte, Nat.reducePow, hrd, hrs, hrl, pD, pR, pM, gD, gR, gM, sD, sR, sM, aA, aS, aK, aT, List.set_set, List.length_set, List.getElem?_set_ne ndr, List.getElem?_set_ne ndm, List.getElem?_set_ne nrm, List.getElem?_set_ne nrd, List.getElem?_set_ne nmd, List.getElem?_set_ne nmr, refB, rowR, hd, h1, h2, hv, hsm, hgd, g1, g2, g3, g4, Nat.le_refl]
  iterate 2
    refine Thn_n ?_
    refine hK _ _ ?_
    clear hK K
    refine AW.seq_k fun K hK => ?_
    refine AW.seq_k fun K hK => ?_
    refine AW.region (by decide) ?_
    simp only [push_cast, Nat.reduceAdd, Nat.reduceMul, Nat.reduceSub, Nat.reduceLeDiff, Nat.reduceLT, Nat.reduceEqDiff, Nat.reduceBEq, Nat.reduceBNe, Nat.reduceMod, Nat.reduceDiv, Int.reduceLE, Int.reduceLT, Int.reduceToNat, Int.reduceAdd, Int.reduceSub, Int.reduceMul, Int.reduceNeg, Int.reduceEq, Int.reduceBEq, Int.reduceBNe, ↓reduceIte, reduceCtorEq, String.reduceBNe, String.reduceEq, reduceDIte, Nat.reducePow, hrd, hrs, hrl, pD, pR, pM, gD, gR, gM, sD, sR, sM, aA, aS, aK, aT, List.set_set, List.length_set, List.getElem?_set_ne ndr, List.getElem?_set_ne ndm, List.getElem?_set_ne nrm, List.getElem?_set_ne nrd, List.getElem?_set_ne nmd, List.getElem?_set_ne nmr, refB, rowR, hd, h1, h2, hv, hsm, hgd, g1, g2, g3, g4, Nat.le_refl]
    refine Thn_n ?_
    refine hK _ _ ?_
    clear hK K
    refine AW.cond_f rfl ?_
    refine AW.skip ?_
  refine Thn_n ?_
  refine hK _ _ ?_
  clear hK K
  refine AW.seq_k fun K hK => ?_
  refine AW.region (by decide) ?_
  simp only [push_cast, Nat.reduceAdd, Nat.reduceMul, Nat.reduceSub, Nat.reduceLeDiff, Nat.reduceLT, Nat.reduceEqDiff, Nat.reduceBEq, Nat.reduceBNe, Nat.reduceMod, Nat.reduceDiv, Int.reduceLE, Int.reduceLT, Int.reduceToNat, Int.reduceAdd, Int.reduceSub, Int.reduceMul, Int.reduceNeg, Int.reduceEq, Int.reduceBEq, Int.reduceBNe, ↓reduceIte, reduceCtorEq, String.reduceBNe, String.reduceEq, reduceDIte, Nat.reducePow, hrd, hrs, hrl, pD, pR, pM, gD, gR, gM, sD, sR, sM, aA, aS, aK, aT, List.set_set, List.length_set, List.getElem?_set_ne ndr, List.getElem?_set_ne ndm, List.getElem?_set_ne nrm, List.getElem?_set_ne nrd, List.getElem?_set_ne nmd, List.getElem?_set_ne nmr, refB, rowR, hd, h1, h2, hv, hsm, hgd, g1, g2, g3, g4, Nat.le_refl]
  refine CThen.by (find_c rl R.vl R.lo x _ ⟨.grow, 129, by simp only [push_cast, Nat.reduceAdd, Nat.reduceMul, Nat.reduceSub, Nat.reduceLeDiff, Nat.reduceLT, Nat.reduceEqDiff, Nat.reduceBEq, Nat.reduceBNe, Nat.reduceMod, Nat.reduceDiv, Int.reduceLE, Int.reduceLT, Int.reduceToNat, Int.reduceAdd, Int.reduceSub, Int.reduceMul, Int.reduceNeg, Int.reduceEq, Int.reduceBEq, Int.reduceBNe, ↓reduceIte, reduceCtorEq, String.reduceBNe, String.reduceEq, reduceDIte, Nat.reducePow, hrd, hrs, hrl, pD, pR, pM, gD, gR, gM, sD, sR, sM, aA, aS, aK, aT, List.set_set, List.length_set, List.getElem?_set_ne ndr, List.getElem?_set_ne ndm, List.getElem?_set_ne nrm, List.getElem?_set_ne nrd, List.getElem?_set_ne nmd, List.getElem?_set_ne nmr, refB, rowR]⟩ hwl.len (by omega)) ?_
  simp only [push_cast, Nat.reduceAdd, Nat.reduceMul, Nat.reduceSub, Nat.reduceLeDiff, Nat.reduceLT, Nat.reduceEqDiff, Nat.reduceBEq, Nat.reduceBNe, Nat.reduceMod, Nat.reduceDiv, Int.reduceLE, Int.reduceLT, Int.reduceToNat, Int.reduceAdd, Int.reduceSub, Int.reduceMul, Int.reduceNeg, Int.reduceEq, Int.reduceBEq, Int.reduceBNe, ↓reduceIte, reduceCtorEq, String.reduceBNe, String.reduceEq, reduceDIte, Nat.reducePow, hrd, hrs, hrl, pD, pR, pM, gD, gR, gM, sD, sR, sM, aA, aS, aK, aT, List.set_set, List.length_set, List.getElem?_set_ne ndr, List.getElem?_set_ne ndm, List.getElem?_set_ne nrm, List.getElem?_set_ne nrd, List.getElem?_set_ne nmd, List.getElem?_set_ne nmr, refB, rowR, hd, h1, h2, hv, hsm, hgd, g1, g2, g3, g4, Nat.le_refl]
  refine Thn_n ?_
  refine hK _ _ ?_
  clear hK K
  refine AW.seq_k fun K hK => ?_
  refine AW.seq_k fun K hK => ?_
  refine AW.region (by decide) ?_
  simp only [push_cast, Nat.reduceAdd, Nat.reduceMul, Nat.reduceSub, Nat.reduceLeDiff, Nat.reduceLT, Nat.reduceEqDiff, Nat.reduceBEq, Nat.reduceBNe, Nat.reduceMod, Nat.reduceDiv, Int.reduceLE, Int.reduceLT, Int.reduceToNat, Int.reduceAdd, Int.reduceSub, Int.reduceMul, Int.reduceNeg, Int.reduceEq, Int.reduceBEq, Int.reduceBNe, ↓reduceIte, reduceCtorEq, String.reduceBNe, String.reduceEq, reduceDIte, Nat.reducePow, hrd, hrs, hrl, pD, pR, pM, gD, gR, gM, sD, sR, sM, aA, aS, aK, aT, List.set_set, List.length_set, List.getElem?_set_ne ndr, List.getElem?_set_ne ndm, List.getElem?_set_ne nrm, List.getElem?_set_ne nrd, List.getElem?_set_ne nmd, List.getElem?_set_ne nmr, refB, rowR, hd, h1, h2, hv, hsm, hgd, g1, g2, g3, g4, Nat.le_refl]
  refine Thn_n ?_
  refine hK _ _ ?_
  clear hK K
  refine AW.cond_f rfl ?_
  refine AW.skip ?_
  refine Thn_n ?_
  refine hK _ _ ?_
  clear hK K
  refine AW.seq_k fun K hK => ?_
  refine AW.region (by decide) ?_
  simp only [push_cast, Nat.reduceAdd, Nat.reduceMul, Nat.reduceSub, Nat.reduceLeDiff, Nat.reduceLT, Nat.reduceEqDiff, Nat.reduceBEq, Nat.reduceBNe, Nat.reduceMod, Nat.reduceDiv, Int.reduceLE, Int.reduceLT, Int.reduceToNat, Int.reduceAdd, Int.reduceSub, Int.reduceMul, Int.reduceNeg, Int.reduceEq, Int.reduceBEq, Int.reduceBNe, ↓reduceIte, reduceCtorEq, String.reduceBNe, String.reduceEq, reduceDIte, Nat.reducePow, hrd, hrs, hrl, pD, pR, pM, gD, gR, gM, sD, sR, sM, aA, aS, aK, aT, List.set_set, List.length_set, List.getElem?_set_ne ndr, List.getElem?_set_ne ndm, List.getElem?_set_ne nrm, List.getElem?_set_ne nrd, List.getElem?_set_ne nmd, List.getElem?_set_ne nmr, refB, rowR, hd, h1, h2, hv, hsm, hgd, g1, g2, g3, g4, Nat.le_refl]
  refine Thn_n ?_
  refine hK _ _ ?_
  clear hK K
  refine AW.ret ?_
  refine hQ _ _ _ ?_
  refine RetP.drop (by first | exact Or.inr rfl | exact Or.inl rfl) ?_ ?_ hwf
  · simp only [resA, resOne, resTv, AV.tv, push_cast, Nat.reduceAdd, Nat.reduceMul, Nat.reduceSub, Nat.reduceLeDiff, Nat.reduceLT, Nat.reduceEqDiff, Nat.reduceBEq, Nat.reduceBNe, Nat.reduceMod, Nat.reduceDiv, Int.reduceLE, Int.reduceLT, Int.reduceToNat, Int.reduceAdd, Int.reduceSub, Int.reduceMul, Int.reduceNeg, Int.reduceEq, Int.reduceBEq, Int.reduceBNe, ↓reduceIte, reduceCtorEq, String.reduceBNe, String.reduceEq, reduceDIte, Nat.reducePow]
    first | done | rfl | (simp only [g1, g3, Nat.le_refl, AV.tv, push_cast, Nat.reduceAdd, Nat.reduceMul, Nat.reduceSub, Nat.reduceLeDiff, Nat.reduceLT, Nat.reduceEqDiff, Nat.reduceBEq, Nat.reduceBNe, Nat.reduceMod, Nat.reduceDiv, Int.reduceLE, Int.reduceLT, Int.reduceToNat, Int.reduceAdd, Int.reduceSub, Int.reduceMul, Int.reduceNeg, Int.reduceEq, Int.reduceBEq, Int.reduceBNe, ↓reduceIte, reduceCtorEq, String.reduceBNe, String.reduceEq, reduceDIte, Nat.reducePow]; done) | (simp only [g1, g3, Nat.le_refl, AV.tv, push_cast, Nat.reduceAdd, Nat.reduceMul, Nat.reduceSub, Nat.reduceLeDiff, Nat.reduceLT, Nat.reduceEqDiff, Nat.reduceBEq, Nat.reduceBNe, Nat.reduceMod, Nat.reduceDiv, Int.reduceLE, Int.reduceLT, Int.reduceToNat, Int.reduceAdd, Int.reduceSub, Int.reduceMul, Int.reduceNeg, Int.reduceEq, Int.reduceBEq, Int.reduceBNe, ↓reduceIte, reduceCtorEq, String.reduceBNe, String.reduceEq, reduceDIte, Nat.reducePow]; rfl)
  · simp only [AV.below, List.all_cons, List.all_nil, CV.below, u8l_below, Bool.and_self]
theorem rrd_ok2 (rd rs rl n : Nat) (R : RS) (x : Int) (m : AMem) (h : HasR m rd rs rl n R) (hd : R.down = false) (h1 : ¬ x < 0) (h2 : ¬ (n : Int) ≤ x) (hws : WfR n R.su) (hwl : WfR n R.lo) (hn : n ≤ 8192) (hv : lkR x R.lo = none) : Ctr Try.prog 16 [.one (.ptr rd 0 0), .one (.int .i64 x)] m (.tup [(true, u8l ((lkR x R.su).getD zB)), (false, [.int .i64 0])]) m := by
  refine Ctr.enter Try.func16 rfl (by decide) (rs := [.cell 4 28, .tmp 5]) (nt := 45) rfl rfl fun hwf Q hQ => ?_
  have hrd := h.d
  have hrs := h.s
  have hrl := h.l
  have ld := get_lt hrd
  have lr := get_lt hrs
  have lm := get_lt hrl
  have ndr : rd ≠ rs := h.dr
  have ndm : rd ≠ rl := h.dm
  have nrm : rs ≠ rl := h.rm
  have nrd := ndr.symm
  have nmd := ndm.symm
  have nmr := nrm.symm
  have pD := fun (l L : AMem) (e : l.length = m.length) => mk_olds (m := m) (l := l) (r := rd) e ld L
  have pR := fun (l L : AMem) (e : l.length = m.length) => mk_olds (m := m) (l := l) (r := rs) e lr L
  have pM := fun (l L : AMem) (e : l.length = m.length) => mk_olds (m := m) (l := l) (r := rl) e lm L
  have gD := fun (l L : AMem) (e : l.length = m.length) => mk_old (m := m) (l := l) (r := rd) e ld L
  have gR := fun (l L : AMem) (e : l.length = m.length) => mk_old (m := m) (l := l) (r := rs) e lr L
  have gM := fun (l L : AMem) (e : l.length = m.length) => mk_old (m := m) (l := l) (r := rl) e lm L
  have sD := fun (l : AMem) (b : Blk) (e : l.length = m.length) => mk_self (m := m) (l := l) (r := rd) e ld b
  have sR := fun (l : AMem) (b : Blk) (e : l.length = m.length) => mk_self (m := m) (l := l) (r := rs) e lr b
  have sM := fun (l : AMem) (b : Blk) (e : l.length = m.length) => mk_self (m := m) (l := l) (r := rl) e lm b
  have aA := fun (l L : AMem) (e : l.length = m.length) => mk_lk0 (m := m) (l := l) e L
  have aK := fun (l L : AMem) (k : Nat) (e : l.length = m.length) => mk_lk (m := m) (l := l) e L k
  have aT := fun (l L : AMem) (k : Nat) (b : Blk) (e : l.length = m.length) => mk_set (m := m) (l := l) e L k b
  have aS := fun (l L : AMem) (b : Blk) (e : l.length = m.length) => mk_set0 (m := m) (l := l) e L b
  have hll := hwl.size
  have hss := hws.size
  obtain ⟨w, hwe⟩ : ∃ w, w = (lkR x R.su).getD zB := ⟨_, rfl⟩
  have hv9 : w.length = 128 := by rw [hwe]; exact getD_len hws x
  have g1 : (u8l w).length = 128 := by rw [u8l_len, hv9]
  have g3 : (u8l w).take 128 = u8l w := List.take_of_length_le (by omega)
  have g2 := u8l_vals w
  have g4 : setL [.int .u8 0, .int .u8 0, .int .u8 0, .int .u8 0, .int .u8 0, .int .u8 0, .int .u8 0, .int .u8 0, .int .u8 0, .int .u8 0, .int .u8 0, .int .u8 0, .int .u8 0, .int .u8 0, .int .u8 0, .int .u8 0, .int .u8 0, .int .u8 0, .int .u8 0, .int .u8 0, .int .u8 0, .int .u8 0, .int .u8 0, .int .u8 0, .int .u8 0, .int .u8 0, .int .u8 0, .int .u8 0, .int .u8 0, .int .u8 0, .int .u8 0, .int .u8 0, .int .u8 0, .int .u8 0, .int .u8 0, .int .u8 0, .int .u8 0, .int .u8 0, .int .u8 0, .int .u8 0, .int .u8 0, .int .u8 0, .int .u8 0, .int .u8 0, .int .u8 0, .int .u8 0, .int .u8 0, .int .u8 0, .int .u8 0, .int .u8 0, .int .u8 0, .int .u8 0, .int .u8 0, .int .u8 0, .int .u8 0, .int .u8 0, .int .u8 0, .int .u8 0, .int .u8 0, .int .u8 0, .int .u8 0, .int .u8 0, .int .u8 0, .int .u8 0, .int .u8 0, .int .u8 0, .int .u8 0, .int .u8 0, .int .u8 0, .int .u8 0, .int .u8 0, .int .u8 0, .int .u8 0, .int .u8 0, .int .u8 0, .int .u8 0, .int .u8 0, .int .u8 0, .int .u8 0, .int .u8 0, .int .u8 0, .int .u8 0, .int .u8 0, .int .u8 0, .int .u8 0, .int .u8 0, .int .u8 0, .int .u8 0, .int .u8 0, .int .u8 0, .int .u8 0, .int .u8 0, .int .u8 0, .int .u8 0, .int .u8 0, .int .u8 0, .int .u8 0, .int .u8 0, .int .u8 0, .int .u8 0, .int .u8 0, .int .u8 0, .int .u8 0, .int .u8 0, .int .u8 0, .int .u8 0, .int .u8 0, .int .u8 0, .int .u8 0, .int .u8 0, .int .u8 0, .int .u8 0, .int .u8 0, .int .u8 0, .int .u8 0, .int .u8 0, .int .u8 0, .int .u8 0, .int .u8 0, .int .u8 0, .int .u8 0, .int .u8 0, .int .u8 0, .int .u8 0, .int .u8 0, .int .u8 0, .int .u8 0, .int .u8 0] 0 (u8l w) = u8l w := setL_all (by rw [g1]; rfl)
  have hsm : (none : Option (List Int)).isSome = false := rfl
  have hgd : (none : Option (List Int)).getD zB = zB := rfl
  have z1 := u8l_len zB
  have z2 := u8l_vals zB
  have z3 : (u8l zB).take 128 = u8l zB := rfl
  have z4 : setL [.int .u8 0, .int .u8 0, .int .u8 0, .int .u8 0, .int .u8 0, .int .u8 0, .int .u8 0, .int .u8 0, .int .u8 0, .int .u8 0, .int .u8 0, .int .u8 0, .int .u8 0, .int .u8 0, .int .u8 0, .int .u8 0, .int .u8 0, .int .u8 0, .int .u8 0, .int .u8 0, .int .u8 0, .int .u8 0, .int .u8 0, .int .u8 0, .int .u8 0, .int .u8 0, .int .u8 0, .int .u8 0, .int .u8 0, .int .u8 0, .int .u8 0, .int .u8 0, .int .u8 0, .int .u8 0, .int .u8 0, .int .u8 0, .int .u8 0, .int .u8 0, .int .u8 0, .int .u8 0, .int .u8 0, .int .u8 0, .int .u8 0, .int .u8 0, .int .u8 0, .int .u8 0, .int .u8 0, .int .u8 0, .int .u8 0, .int .u8 0, .int .u8 0, .int .u8 0, .int .u8 0, .int .u8 0, .int .u8 0, .int .u8 0, .int .u8 0, .int .u8 0, .int .u8 0, .int .u8 0, .int .u8 0, .int .u8 0, .int .u8 0, .int .u8 0, .int .u8 0, .int .u8 0, .int .u8 0, .int .u8 0, .int .u8 0, .int .u8 0, .int .u8 0, .int .u8 0, .int .u8 0, .int .u8 0, .int .u8 0, .int .u8 0, .int .u8 0, .int .u8 0, .int .u8 0, .int .u8 0, .int .u8 0, .int .u8 0, .int .u8 0, .int .u8 0, .int .u8 0, .int .u8 0, .int .u8 0, .int .u8 0, .int .u8 0, .int .u8 0, .int .u8 0, .int .u8 0, .int .u8 0, .int .u8 0, .int .u8 0, .int .u8 0, .int .u8 0, .int .u8 0, .int .u8 0, .int .u8 0, .int .u8 0, .int .u8 0, .int .u8 0, .int .u8 0, .int .u8 0, .int .u8 0, .int .u8 0, .int .u8 0, .int .u8 0, .int .u8 0, .int .u8 0, .int .u8 0, .int .u8 0, .int .u8 0, .int .u8 0, .int .u8 0, .int .u8 0, .int .u8 0, .int .u8 0, .int .u8 0, .int .u8 0, .int .u8 0, .int .u8 0, .int .u8 0, .int .u8 0, .int .u8 0, .int .u8 0, .int .u8 0] 0 (u8l zB) = u8l zB := setL_all rfl
  have z5 : zB.length = 128 := rfl
  have z6 : setL (u8l zB) 0 (u8l w) = u8l w := setL_all (by rw [g1]; rfl)
  refine AW.seq_k fun K hK => ?_
  refine AW.region (by decide) ?_
  simp only [push_cast, Nat.reduceAdd, Nat.reduceMul, Nat.reduceSub, Nat.reduceLeDiff, Nat.reduceLT, Nat.reduceEqDiff, Nat.reduceBEq, Nat.reduceBNe, Nat.reduceMod, Nat.reduceDiv, Int.reduceLE, Int.reduceLT, Int.reduceToNat, Int.reduceAdd, Int.reduceSub, Int.reduceMul, Int.reduceNeg, Int.reduceEq, Int.reduceBEq, Int.reduceBNe, ↓reduceIte, reduceCtorEq, String.reduceBNe, String.reduceEq, reduceDIte, Nat.reducePow, hrd, hrs, hrl, pD, pR, pM, gD, gR, gM, sD, sR, sM, aA, aS, aK, aT, List.set_set, List.length_set, List.getElem?_set_ne ndr, List.getElem?_set_ne ndm, List.getElem?_set_ne nrm, List.getElem?_set_ne nrd, List.getElem?_set_ne nmd, List.getElem?_set_ne nmr, refB, rowR, hd, h1, h2, hv, hsm, hgd, ← hwe, g1, g2, g3, g4, z1, z2, z3, z4, z5, z6, Nat.le_refl]
  iterate 2
    refine Thn_n ?_
    refine hK _ _ ?_
    clear hK K
    refine AW.seq_k fun K hK => ?_
    refine AW.seq_k fun K hK => ?_
    refine AW.region (by decide) ?_
    simp only [push_cast, Nat.reduceAdd, Nat.reduceMul, Nat.reduceSub, Nat.reduceLeDiff, Nat.reduceLT, Nat.reduceEqDiff, Nat.reduceBEq, Nat.reduceBNe, Nat.reduceMod, Nat.reduceDiv, Int.reduceLE, Int.reduceLT, Int.reduceToNat, Int.reduceAdd, Int.reduceSub, Int.reduceMul, Int.reduceNeg, Int.reduceEq, Int.reduceBEq, Int.reduceBNe, ↓reduceIte, reduceCtorEq, String.reduceBNe, String.reduceEq, reduceDIte, Nat.reducePow, hrd, hrs, hrl, pD, pR, pM, gD, gR, gM, sD, sR, sM, aA, aS, aK, aT, List.set_set, List.length_set, List.getElem?_set_ne ndr, List.getElem?_set_ne ndm, List.getElem?_set_ne nrm, List.getElem?_set_ne nrd, List.getElem?_set_ne nmd, List.getElem?_set_ne nmr, refB, rowR, hd, h1, h2, hv, hsm, hgd, ← hwe, g1, g2, g3, g4, z1, z2, z3, z4, z5, z6, Nat.le_refl]
    refine Thn_n ?_
    refine hK _ _ ?_
    clear hK K
    refine AW.cond_f rfl ?_
    refine AW.skip ?_
  refine Thn_n ?_
  refine hK _ _ ?_
  clear hK K
  refine AW.seq_k fun K hK => ?_
  refine AW.region (by decide) ?_
  simp only [push_cast, Nat.reduceAdd, Nat.reduceMul, Nat.reduceSub, Nat.reduceLeDiff, Nat.reduceLT, Nat.reduceEqDiff, Nat.reduceBEq, Nat.reduceBNe, Nat.reduceMod, Nat.reduceDiv, Int.reduceLE, Int.reduceLT, Int.reduceToNat, Int.reduceAdd, Int.reduceSub, Int.reduceMul, Int.reduceNeg, Int.reduceEq, Int.reduceBEq, Int.reduceBNe, ↓reduceIte, reduceCtorEq, String.reduceBNe, String.reduceEq, reduceDIte, Nat.reducePow, hrd, hrs, hrl, pD, pR, pM, gD, gR, gM, sD, sR, sM, aA, aS, aK, aT, List.set_set, List.length_set, List.getElem?_set_ne ndr, List.getElem?_set_ne ndm, List.getElem?_set_ne nrm, List.getElem?_set_ne nrd, List.getElem?_set_ne nmd, List.getElem?_set_ne nmr, refB, rowR, hd, h1, h2, hv, hsm, hgd, ← hwe, g1, g2, g3, g4, z1, z2, z3, z4, z5, z6, Nat.le_refl]
  refine CThen.by (find_c rl R.vl R.lo x _ ⟨.grow, 129, by simp only [push_cast, Nat.reduceAdd, Nat.reduceMul, Nat.reduceSub, Nat.reduceLeDiff, Nat.reduceLT, Nat.reduceEqDiff, Nat.reduceBEq, Nat.reduceBNe, Nat.reduceMod, Nat.reduceDiv, Int.reduceLE, Int.reduceLT, Int.reduceToNat, Int.reduceAdd, Int.reduceSub, Int.reduceMul, Int.reduceNeg, Int.reduceEq, Int.reduceBEq, Int.reduceBNe, ↓reduceIte, reduceCtorEq, String.reduceBNe, String.reduceEq, reduceDIte, Nat.reducePow, hrd, hrs, hrl, pD, pR, pM, gD, gR, gM, sD, sR, sM, aA, aS, aK, aT, List.set_set, List.length_set, List.getElem?_set_ne ndr, List.getElem?_set_ne ndm, List.getElem?_set_ne nrm, List.getElem?_set_ne nrd, List.getElem?_set_ne nmd, List.getElem?_set_ne nmr, refB, rowR]⟩ hwl.len (by omega)) ?_
  simp only [push_cast, Nat.reduceAdd, Nat.reduceMul, Nat.reduceSub, Nat.reduceLeDiff, Nat.reduceLT, Nat.reduceEqDiff, Nat.reduceBEq, Nat.reduceBNe, Nat.reduceMod, Nat.reduceDiv, Int.reduceLE, Int.reduceLT, Int.reduceToNat, Int.reduceAdd, Int.reduceSub, Int.reduceMul, Int.reduceNeg, Int.reduceEq, Int.reduceBEq, Int.reduceBNe, ↓reduceIte, reduceCtorEq, String.reduceBNe, String.reduceEq, reduceDIte, Nat.reducePow, hrd, hrs, hrl, pD, pR, pM, gD, gR, gM, sD, sR, sM, aA, aS, aK, aT, List.set_set, List.length_set, List.getElem?_set_ne ndr, List.getElem?_set_ne ndm, List.getElem?_set_ne nrm, List.getElem?_set_ne nrd, List.getElem?_set_ne nmd, List.getElem?_set_ne nmr, refB, rowR, hd, h1, h2, hv, hsm, hgd, ← hwe, g1, g2, g3, g4, z1, z2, z3, z4, z5, z6, Nat.le_refl]
  refine Thn_n ?_
  refine hK _ _ ?_
  clear hK K
  refine AW.seq_k fun K hK => ?_
  refine AW.seq_k fun K hK => ?_
  refine AW.region (by decide) ?_
  simp only [push_cast, Nat.reduceAdd, Nat.reduceMul, Nat.reduceSub, Nat.reduceLeDiff, Nat.reduceLT, Nat.reduceEqDiff, Nat.reduceBEq, Nat.reduceBNe, Nat.reduceMod, Nat.reduceDiv, Int.reduceLE, Int.reduceLT, Int.reduceToNat, Int.reduceAdd, Int.reduceSub, Int.reduceMul, Int.reduceNeg, Int.reduceEq, Int.reduceBEq, Int.reduceBNe, ↓reduceIte, reduceCtorEq, String.reduceBNe, String.reduceEq, reduceDIte, Nat.reducePow, hrd, hrs, hrl, pD, pR, pM, gD, gR, gM, sD, sR, sM, aA, aS, aK, aT, List.set_set, List.length_set, List.getElem?_set_ne ndr, List.getElem?_set_ne ndm, List.getElem?_set_ne nrm, List.getElem?_set_ne nrd, List.getElem?_set_ne nmd, List.getElem?_set_ne nmr, refB, rowR, hd, h1, h2, hv, hsm, hgd, ← hwe, g1, g2, g3, g4, z1, z2, z3, z4, z5, z6, Nat.le_refl]
  refine Thn_n ?_
  refine hK _ _ ?_
  clear hK K
  refine AW.cond_t rfl ?_
  refine AW.region (by decide) ?_
  simp only [push_cast, Nat.reduceAdd, Nat.reduceMul, Nat.reduceSub, Nat.reduceLeDiff, Nat.reduceLT, Nat.reduceEqDiff, Nat.reduceBEq, Nat.reduceBNe, Nat.reduceMod, Nat.reduceDiv, Int.reduceLE, Int.reduceLT, Int.reduceToNat, Int.reduceAdd, Int.reduceSub, Int.reduceMul, Int.reduceNeg, Int.reduceEq, Int.reduceBEq, Int.reduceBNe, ↓reduceIte, reduceCtorEq, String.reduceBNe, String.reduceEq, reduceDIte, Nat.reducePow, hrd, hrs, hrl, pD, pR, pM, gD, gR, gM, sD, sR, sM, aA, aS, aK, aT, List.set_set, List.length_set, List.getElem?_set_ne ndr, List.getElem?_set_ne ndm, List.getElem?_set_ne nrm, List.getElem?_set_ne nrd, List.getElem?_set_ne nmd, List.getElem?_set_ne nmr, refB, rowR, hd, h1, h2, hv, hsm, hgd, ← hwe, g1, g2, g3, g4, z1, z2, z3, z4, z5, z6, Nat.le_refl]
  refine CThen.by (find_c rs R.vs R.su x _ ⟨.grow, 129, by simp only [push_cast, Nat.reduceAdd, Nat.reduceMul, Nat.reduceSub, Nat.reduceLeDiff, Nat.reduceLT, Nat.reduceEqDiff, Nat.reduceBEq, Nat.reduceBNe, Nat.reduceMod, Nat.reduceDiv, Int.reduceLE, Int.reduceLT, Int.reduceToNat, Int.reduceAdd, Int.reduceSub, Int.reduceMul, Int.reduceNeg, Int.reduceEq, Int.reduceBEq, Int.reduceBNe, ↓reduceIte, reduceCtorEq, String.reduceBNe, String.reduceEq, reduceDIte, Nat.reducePow, hrd, hrs, hrl, pD, pR, pM, gD, gR, gM, sD, sR, sM, aA, aS, aK, aT, List.set_set, List.length_set, List.getElem?_set_ne ndr, List.getElem?_set_ne ndm, List.getElem?_set_ne nrm, List.getElem?_set_ne nrd, List.getElem?_set_ne nmd, List.getElem?_set_ne nmr, refB, rowR]⟩ hws.len (by omega)) ?_
  simp only [push_cast, Nat.reduceAdd, Nat.reduceMul, Nat.reduceSub, Nat.reduceLeDiff, Nat.reduceLT, Nat.reduceEqDiff, Nat.reduceBEq, Nat.reduceBNe, Nat.reduceMod, Nat.reduceDiv, Int.reduceLE, Int.reduceLT, Int.reduceToNat, Int.reduceAdd, Int.reduceSub, Int.reduceMul, Int.reduceNeg, Int.reduceEq, Int.reduceBEq, Int.reduceBNe, ↓reduceIte, reduceCtorEq, String.reduceBNe, String.reduceEq, reduceDIte, Nat.reducePow, hrd, hrs, hrl, pD, pR, pM, gD, gR, gM, sD, sR, sM, aA, aS, aK, aT, List.set_set, List.length_set, List.getElem?_set_ne ndr, List.getElem?_set_ne ndm, List.getElem?_set_ne nrm, List.getElem?_set_ne nrd, List.getElem?_set_ne nmd, List.getElem?_set_ne nmr, refB, rowR, hd, h1, h2, hv, hsm, hgd, ← hwe, g1, g2, g3, g4, z1, z2, z3, z4, z5, z6, Nat.le_refl]
  refine Thn_n ?_
  refine hK _ _ ?_
  clear hK K
  refine AW.seq_k fun K hK => ?_
  refine AW.region (by decide) ?_
  simp only [push_cast, Nat.reduceAdd, Nat.reduceMul, Nat.reduceSub, Nat.reduceLeDiff, Nat.reduceLT, Nat.reduceEqDiff, Nat.reduceBEq, Nat.reduceBNe, Nat.reduceMod, Nat.reduceDiv, Int.reduceLE, Int.reduceLT, Int.reduceToNat, Int.reduceAdd, Int.reduceSub, Int.reduceMul, Int.reduceNeg, Int.reduceEq, Int.reduceBEq, Int.reduceBNe, ↓reduceIte, reduceCtorEq, String.reduceBNe, String.reduceEq, reduceDIte, Nat.reducePow, hrd, hrs, hrl, pD, pR, pM, gD, gR, gM, sD, sR, sM, aA, aS, aK, aT, List.set_set, List.length_set, List.getElem?_set_ne ndr, List.getElem?_set_ne ndm, List.getElem?_set_ne nrm, List.getElem?_set_ne nrd, List.getElem?_set_ne nmd, List.getElem?_set_ne nmr, refB, rowR, hd, h1, h2, hv, hsm, hgd, ← hwe, g1, g2, g3, g4, z1, z2, z3, z4, z5, z6, Nat.le_refl]
  refine Thn_n ?_
  refine hK _ _ ?_
  clear hK K
  refine AW.ret ?_
  refine hQ _ _ _ ?_
  rw [← hwe]
  refine RetP.drop (by first | exact Or.inr rfl | exact Or.inl rfl) ?_ ?_ hwf
  · simp only [resA, resOne, resTv, AV.tv, push_cast, Nat.reduceAdd, Nat.reduceMul, Nat.reduceSub, Nat.reduceLeDiff, Nat.reduceLT, Nat.reduceEqDiff, Nat.reduceBEq, Nat.reduceBNe, Nat.reduceMod, Nat.reduceDiv, Int.reduceLE, Int.reduceLT, Int.reduceToNat, Int.reduceAdd, Int.reduceSub, Int.reduceMul, Int.reduceNeg, Int.reduceEq, Int.reduceBEq, Int.reduceBNe, ↓reduceIte, reduceCtorEq, String.reduceBNe, String.reduceEq, reduceDIte, Nat.reducePow]
    first | done | rfl | (simp only [g1, g3, Nat.le_refl, AV.tv, push_cast, Nat.reduceAdd, Nat.reduceMul, Nat.reduceSub, Nat.reduceLeDiff, Nat.reduceLT, Nat.reduceEqDiff, Nat.reduceBEq, Nat.reduceBNe, Nat.reduceMod, Nat.reduceDiv, Int.reduceLE, Int.reduceLT, Int.reduceToNat, Int.reduceAdd, Int.reduceSub, Int.reduceMul, Int.reduceNeg, Int.reduceEq, Int.reduceBEq, Int.reduceBNe, ↓reduceIte, reduceCtorEq, String.reduceBNe, String.reduceEq, reduceDIte, Nat.reducePow]; done) | (simp only [g1, g3, Nat.le_refl, AV.tv, push_cast, Nat.reduceAdd, Nat.reduceMul, Nat.reduceSub, Nat.reduceLeDiff, Nat.reduceLT, Nat.reduceEqDiff, Nat.reduceBEq, Nat.reduceBNe, Nat.reduceMod, Nat.reduceDiv, Int.reduceLE, Int.reduceLT, Int.reduceToNat, Int.reduceAdd, Int.reduceSub, Int.reduceMul, Int.reduceNeg, Int.reduceEq, Int.reduceBEq, Int.reduceBNe, ↓reduceIte, reduceCtorEq, String.reduceBNe, String.reduceEq, reduceDIte, Nat.reducePow]; rfl)
  · simp only [AV.below, List.all_cons, List.all_nil, CV.below, u8l_below, Bool.and_self]
theorem rrd_ok (rd rs rl n : Nat) (R : RS) (x : Int) (m : AMem) (h : HasR m rd rs rl n R) (hd : R.down = false) (h1 : ¬ x < 0) (h2 : ¬ (n : Int) ≤ x) (hws : WfR n R.su) (hwl : WfR n R.lo) (hn : n ≤ 8192) : Ctr Try.prog 16 [.one (.ptr rd 0 0), .one (.int .i64 x)] m (.tup [(true, u8l (rvis R x)), (false, [.int .i64 0])]) m := by
  unfold rvis
  cases hv : lkR x R.lo with
  | some v => exact rrd_ok1 rd rs rl n R x m h hd h1 h2 hws hwl hn v hv
  | none => exact rrd_ok2 rd rs rl n R x m h hd h1 h2 hws hwl hn hv
theorem rcr_c (rd rs rl n lb vl kn : Nat) (R : RS) (ks : Nat → Int) (kl : BK) (el : Nat) (m : AMem) (h : HasR m rd rs rl n R) (hws : WfR n R.su) (hwl : WfR n R.lo) (hn : n ≤ 8192) (hl : m[lb]? = some ⟨kl, 3, vl, el, il kn ks⟩) (n1 : lb ≠ rd) (n2 : lb ≠ rs) (n3 : lb ≠ rl) (hkn : kn ≤ 1048576) : Ctr Try.prog 26 [.one (.ptr rd 0 0), .one (.sl lb vl 0 kn)] m (.tup []) (setR m rd rs rl n (crR R ks kn)) := by
  refine Ctr.enter Try.func26 rfl (by decide) (rs := []) (nt := 58) rfl rfl fun hwf Q hQ => ?_
  have hrd := h.d
  have hrs := h.s
  have hrl := h.l
  have ld := get_lt hrd
  have lr := get_lt hrs
  have lm := get_lt hrl
  have ndr : rd ≠ rs := h.dr
  have ndm : rd ≠ rl := h.dm
  have nrm : rs ≠ rl := h.rm
  have nrd := ndr.symm
  have nmd := ndm.symm
  have nmr := nrm.symm
  have pD := fun (l L : AMem) (e : l.length = m.length) => mk_olds (m := m) (l := l) (r := rd) e ld L
  have pR := fun (l L : AMem) (e : l.length = m.length) => mk_olds (m := m) (l := l) (r := rs) e lr L
  have pM := fun (l L : AMem) (e : l.length = m.length) => mk_olds (m := m) (l := l) (r := rl) e lm L
  have gD := fun (l L : AMem) (e : l.length = m.length) => mk_old (m := m) (l := l) (r := rd) e ld L
  have gR := fun (l L : AMem) (e : l.length = m.length) => mk_old (m := m) (l := l) (r := rs) e lr L
  have gM := fun (l L : AMem) (e : l.length = m.length) => mk_old (m := m) (l := l) (r := rl) e lm L
  have sD := fun (l : AMem) (b : Blk) (e : l.length = m.length) => mk_self (m := m) (l := l) (r := rd) e ld b
  have sR := fun (l : AMem) (b : Blk) (e : l.length = m.length) => mk_self (m := m) (l := l) (r := rs) e lr b
  have sM := fun (l : AMem) (b : Blk) (e : l.length = m.length) => mk_self (m := m) (l := l) (r := rl) e lm b
  have aA := fun (l L : AMem) (e : l.length = m.length) => mk_lk0 (m := m) (l := l) e L
  have aK := fun (l L : AMem) (k : Nat) (e : l.length = m.length) => mk_lk (m := m) (l := l) e L k
  have aT := fun (l L : AMem) (k : Nat) (b : Blk) (e : l.length = m.length) => mk_set (m := m) (l := l) e L k b
  have aS := fun (l L : AMem) (b : Blk) (e : l.length = m.length) => mk_set0 (m := m) (l := l) e L b
  have rot1 := fun (l : AMem) (X A B : Blk) => set_rot (m := l) ndr X A B
  have rot2 := fun (l : AMem) (X A B : Blk) => set_rot (m := l) ndm X A B
  have rot3 := fun (l : AMem) (X A B : Blk) => set_rot (m := l) nrm X A B
  have rot4 := fun (l : AMem) (X Y A B : Blk) => set_rot4 (m := l) ndr ndm nrm X Y A B
  have hw2 : MWf m.length (setR m rd rs rl n (crR R ks kn)) := setR_wf hwf lr lm _
  have hll := hwl.size
  have llb := get_lt hl
  have gL := fun (l L : AMem) (e : l.length = m.length) => mk_old (m := m) (l := l) (r := lb) e llb L
  have o1 := fun (l : AMem) (b : Blk) => List.getElem?_set_ne (l := l) (a := b) (fun e : rd = lb => n1 e.symm)
  have o2 := fun (l : AMem) (b : Blk) => List.getElem?_set_ne (l := l) (a := b) (fun e : rs = lb => n2 e.symm)
  have o3 := fun (l : AMem) (b : Blk) => List.getElem?_set_ne (l := l) (a := b) (fun e : rl = lb => n3 e.symm)
  refine AW.seq_k fun K hK => ?_
  refine AW.seq_k fun K hK => ?_
  refine AW.region (by decide) ?_
  simp only [push_cast, Nat.reduceAdd, Nat.reduceMul, Nat.reduceSub, Nat.reduceLeDiff, Nat.reduceLT, Nat.reduceEqDiff, Nat.reduceBEq, Nat.reduceBNe, Nat.reduceMod, Nat.reduceDiv, Int.reduceLE, Int.reduceLT, Int.reduceToNat, Int.reduceAdd, Int.reduceSub, Int.reduceMul, Int.reduceNeg, Int.reduceEq, Int.reduceBEq, Int.reduceBNe, ↓reduceIte, reduceCtorEq, String.reduceBNe, String.reduceEq, reduceDIte, Nat.reducePow, hrd, hrs, hrl, pD, pR, pM, gD, gR, gM, sD, sR, sM, aA, aS, aK, aT, List.set_set, List.length_set, List.getElem?_set_ne ndr, List.getElem?_set_ne ndm, List.getElem?_set_ne nrm, List.getElem?_set_ne nrd, List.getElem?_set_ne nmd, List.getElem?_set_ne nmr, refB, rowR, rot1, rot2, rot3, rot4, hl, gL, o1, o2, o3]
  refine Thn_n ?_
  refine hK _ _ ?_
  clear hK K
  refine AW.block ?_
  refine AW.loopK [0, 1] (fun i => i ≤ R.lo.length) (fun i => [(4, .one (.int .i64 (i : Int)))]) (fun i => [(rd, ⟨.fix, 61, 0, 0, [.int .i64 n, .sl rs ((crP R.lo ks kn (R.su, R.vs) i).2) 0 ((crP R.lo ks kn (R.su, R.vs) i).1.length), .sl rl (R.vl) 0 (R.lo.length), .int .i64 (R.fuse), .int .i64 (R.steps), .bool (R.down)]⟩), (rs, rowR (crP R.lo ks kn (R.su, R.vs) i).2 (crP R.lo ks kn (R.su, R.vs) i).1)]) (fun i => R.lo.length - i) 0 (by omega) ?_ ?_ fun i hi3 => ?_
  · first | rfl | (simp only [Keeps, Tm.get_cons, Nat.reduceEqDiff, ↓reduceIte, if_true, if_false, ite_true, ite_false, true_and, and_true, and_self, reduceCtorEq] <;> rfl)
  · simp only [setAll, crP]; exact (set_self (by rw [List.getElem?_set_ne ndr]; exact h.s)).trans (set_self h.d)
  try simp only [keepL, setAll, push_cast, Nat.reduceAdd, Nat.reduceMul, Nat.reduceSub, Nat.reduceLeDiff, Nat.reduceLT, Nat.reduceEqDiff, Nat.reduceBEq, Nat.reduceBNe, Nat.reduceMod, Nat.reduceDiv, Int.reduceLE, Int.reduceLT, Int.reduceToNat, Int.reduceAdd, Int.reduceSub, Int.reduceMul, Int.reduceNeg, Int.reduceEq, Int.reduceBEq, Int.reduceBNe, ↓reduceIte, reduceCtorEq, String.reduceBNe, String.reduceEq, reduceDIte, Nat.reducePow, hrd, hrs, hrl, pD, pR, pM, gD, gR, gM, sD, sR, sM, aA, aS, aK, aT, List.set_set, List.length_set, List.getElem?_set_ne ndr, List.getElem?_set_ne ndm, List.getElem?_set_ne nrm, List.getElem?_set_ne nrd, List.getElem?_set_ne nmd, List.getElem?_set_ne nmr, refB, rowR, rot1, rot2, rot3, rot4, hl, gL, o1, o2, o3]
  refine AW.seq_k fun K hK => ?_
  refine AW.seq_k fun K hK => ?_
  refine AW.region (by decide) ?_
  simp only [push_cast, Nat.reduceAdd, Nat.reduceMul, Nat.reduceSub, Nat.reduceLeDiff, Nat.reduceLT, Nat.reduceEqDiff, Nat.reduceBEq, Nat.reduceBNe, Nat.reduceMod, Nat.reduceDiv, Int.reduceLE, Int.reduceLT, Int.reduceToNat, Int.reduceAdd, Int.reduceSub, Int.reduceMul, Int.reduceNeg, Int.reduceEq, Int.reduceBEq, Int.reduceBNe, ↓reduceIte, reduceCtorEq, String.reduceBNe, String.reduceEq, reduceDIte, Nat.reducePow, hrd, hrs, hrl, pD, pR, pM, gD, gR, gM, sD, sR, sM, aA, aS, aK, aT, List.set_set, List.length_set, List.getElem?_set_ne ndr, List.getElem?_set_ne ndm, List.getElem?_set_ne nrm, List.getElem?_set_ne nrd, List.getElem?_set_ne nmd, List.getElem?_set_ne nmr, refB, rowR, rot1, rot2, rot3, rot4, hl, gL, o1, o2, o3]
  refine Thn_n ?_
  refine hK _ _ ?_
  clear hK K
  refine AW.cond rfl (fun h12 => ?_) (fun h12 => ?_)
  · have hlt : i < R.lo.length := by have := of_decide_eq_true h12; omega
    have c1 : (0 : Int) ≤ (i : Int) := by omega
    have c2 : (i : Int) < (R.lo.length : Int) := by omega
    have c3 : i * 129 + 129 ≤ R.lo.length * 129 := by omega
    have hcl := rowC_len hwl.len
    obtain ⟨e, he⟩ : ∃ e, R.lo[i]? = some e := ⟨_, List.getElem?_eq_getElem hlt⟩
    have hme := List.mem_of_getElem? he
    have he9 := hwl.len e hme
    have gk := rowC_key hwl.len he
    have ga := rowC_at hwl.len he
    have hcp := crP_s (ks := ks) (kn := kn) (p := (R.su, R.vs)) he
    have hcw : WfR n (crP R.lo ks kn (R.su, R.vs) i).1 := crP_wf hws hwl i
    refine AW.skip ?_
    refine Thn_n ?_
    refine hK _ _ ?_
    clear hK K
    refine AW.seq_k fun K hK => ?_
    refine AW.block ?_
    refine AW.seq_k fun K hK => ?_
    refine AW.region (by decide) ?_
    simp only [push_cast, Nat.reduceAdd, Nat.reduceMul, Nat.reduceSub, Nat.reduceLeDiff, Nat.reduceLT, Nat.reduceEqDiff, Nat.reduceBEq, Nat.reduceBNe, Nat.reduceMod, Nat.reduceDiv, Int.reduceLE, Int.reduceLT, Int.reduceToNat, Int.reduceAdd, Int.reduceSub, Int.reduceMul, Int.reduceNeg, Int.reduceEq, Int.reduceBEq, Int.reduceBNe, ↓reduceIte, reduceCtorEq, String.reduceBNe, String.reduceEq, reduceDIte, Nat.reducePow, hrd, hrs, hrl, pD, pR, pM, gD, gR, gM, sD, sR, sM, aA, aS, aK, aT, List.set_set, List.length_set, List.getElem?_set_ne ndr, List.getElem?_set_ne ndm, List.getElem?_set_ne nrm, List.getElem?_set_ne nrd, List.getElem?_set_ne nmd, List.getElem?_set_ne nmr, refB, rowR, rot1, rot2, rot3, rot4, hl, gL, o1, o2, o3, c1, c2, c3, hcl, gk, ga]
    refine Thn_n ?_
    refine hK _ _ ?_
    clear hK K
    refine AW.block ?_
    refine AW.loopK [0, 1, 4] (fun j => j ≤ kn) (fun j => [(5, .one (.int .i64 (j : Int)))]) (fun j => [(rd, ⟨.fix, 61, 0, 0, [.int .i64 n, .sl rs ((inP e ks (crP R.lo ks kn (R.su, R.vs) i) j).2) 0 ((inP e ks (crP R.lo ks kn (R.su, R.vs) i) j).1.length), .sl rl (R.vl) 0 (R.lo.length), .int .i64 (R.fuse), .int .i64 (R.steps), .bool (R.down)]⟩), (rs, rowR (inP e ks (crP R.lo ks kn (R.su, R.vs) i) j).2 (inP e ks (crP R.lo ks kn (R.su, R.vs) i) j).1)]) (fun j => kn - j) 0 (by omega) ?_ ?_ fun j hi8 => ?_
    · first | rfl | (simp only [Keeps, Tm.get_cons, Nat.reduceEqDiff, ↓reduceIte, if_true, if_false, ite_true, ite_false, true_and, and_true, and_self, reduceCtorEq] <;> rfl)
    · simp only [setAll, inP, rot1, rot2, rot3, rot4, List.set_set, rowR]
    have hjk : j ≤ kn := hi8
    try simp only [keepL, setAll, push_cast, Nat.reduceAdd, Nat.reduceMul, Nat.reduceSub, Nat.reduceLeDiff, Nat.reduceLT, Nat.reduceEqDiff, Nat.reduceBEq, Nat.reduceBNe, Nat.reduceMod, Nat.reduceDiv, Int.reduceLE, Int.reduceLT, Int.reduceToNat, Int.reduceAdd, Int.reduceSub, Int.reduceMul, Int.reduceNeg, Int.reduceEq, Int.reduceBEq, Int.reduceBNe, ↓reduceIte, reduceCtorEq, String.reduceBNe, String.reduceEq, reduceDIte, Nat.reducePow, hrd, hrs, hrl, pD, pR, pM, gD, gR, gM, sD, sR, sM, aA, aS, aK, aT, List.set_set, List.length_set, List.getElem?_set_ne ndr, List.getElem?_set_ne ndm, List.getElem?_set_ne nrm, List.getElem?_set_ne nrd, List.getElem?_set_ne nmd, List.getElem?_set_ne nmr, refB, rowR, rot1, rot2, rot3, rot4, hl, gL, o1, o2, o3, c1, c2, c3, hcl, gk, ga]
    refine AW.seq_k fun K hK => ?_
    refine AW.seq_k fun K hK => ?_
    refine AW.region (by decide) ?_
    simp only [push_cast, Nat.reduceAdd, Nat.reduceMul, Nat.reduceSub, Nat.reduceLeDiff, Nat.reduceLT, Nat.reduceEqDiff, Nat.reduceBEq, Nat.reduceBNe, Nat.reduceMod, Nat.reduceDiv, Int.reduceLE, Int.reduceLT, Int.reduceToNat, Int.reduceAdd, Int.reduceSub, Int.reduceMul, Int.reduceNeg, Int.reduceEq, Int.reduceBEq, Int.reduceBNe, ↓reduceIte, reduceCtorEq, String.reduceBNe, String.reduceEq, reduceDIte, Nat.reducePow, hrd, hrs, hrl, pD, pR, pM, gD, gR, gM, sD, sR, sM, aA, aS, aK, aT, List.set_set, List.length_set, List.getElem?_set_ne ndr, List.getElem?_set_ne ndm, List.getElem?_set_ne nrm, List.getElem?_set_ne nrd, List.getElem?_set_ne nmd, List.getElem?_set_ne nmr, refB, rowR, rot1, rot2, rot3, rot4, hl, gL, o1, o2, o3, c1, c2, c3, hcl, gk, ga]
    refine Thn_n ?_
    refine hK _ _ ?_
    clear hK K
    refine AW.cond rfl (fun h18 => ?_) (fun h18 => ?_)
    · have hjl : j < kn := by have := of_decide_eq_true h18; omega
      have d1 : (0 : Int) ≤ (j : Int) := by omega
      have d2 : (j : Int) < (kn : Int) := by omega
      have gj := il_get (f := ks) hjl
      have hiw : WfR n (inP e ks (crP R.lo ks kn (R.su, R.vs) i) j).1 := inP_wf hcw (hwl.key e hme) he9 j
      have his := hiw.size
      refine AW.skip ?_
      refine Thn_n ?_
      refine hK _ _ ?_
      clear hK K
      refine AW.seq_k fun K hK => ?_
      refine AW.block ?_
      refine AW.seq_k fun K hK => ?_
      refine AW.draw [.val, .val, .val, .rd 0, .val, .val, .val, .rd 0, .val, .val, .val, .rd 0, .val] fol (by decide) (by kernel_rfl) ?_
      simp only [push_cast, Nat.reduceAdd, Nat.reduceMul, Nat.reduceSub, Nat.reduceLeDiff, Nat.reduceLT, Nat.reduceEqDiff, Nat.reduceBEq, Nat.reduceBNe, Nat.reduceMod, Nat.reduceDiv, Int.reduceLE, Int.reduceLT, Int.reduceToNat, Int.reduceAdd, Int.reduceSub, Int.reduceMul, Int.reduceNeg, Int.reduceEq, Int.reduceBEq, Int.reduceBNe, ↓reduceIte, reduceCtorEq, String.reduceBNe, String.reduceEq, reduceDIte, Nat.reducePow, hrd, hrs, hrl, pD, pR, pM, gD, gR, gM, sD, sR, sM, aA, aS, aK, aT, List.set_set, List.length_set, List.getElem?_set_ne ndr, List.getElem?_set_ne ndm, List.getElem?_set_ne nrm, List.getElem?_set_ne nrd, List.getElem?_set_ne nmd, List.getElem?_set_ne nmr, refB, rowR, rot1, rot2, rot3, rot4, hl, gL, o1, o2, o3, c1, c2, c3, hcl, gk, ga, d1, d2, gj]
      refine Thn_n ?_
      refine hK _ _ ?_
      clear hK K
      refine AW.cond rfl (fun h33 => ?_) (fun h33 => ?_)
      · have hke : ks j = e.1 := by simpa using h33
        have hnx : inP e ks (crP R.lo ks kn (R.su, R.vs) i) (j + 1) = ((putR e false (inP e ks (crP R.lo ks kn (R.su, R.vs) i) j).1), (inP e ks (crP R.lo ks kn (R.su, R.vs) i) j).2 + 1) := by
          show (if _ then _ else _) = _
          rw [if_pos hke]
        skip
        refine AW.draw [.val, .val, .val, .val, .rd 0, .val, .val, .val, .rd 0, .val, .val, .rd 0, .ext, .val, .val, .wr] fol (by decide) (by kernel_rfl) ?_
        simp only [push_cast, Nat.reduceAdd, Nat.reduceMul, Nat.reduceSub, Nat.reduceLeDiff, Nat.reduceLT, Nat.reduceEqDiff, Nat.reduceBEq, Nat.reduceBNe, Nat.reduceMod, Nat.reduceDiv, Int.reduceLE, Int.reduceLT, Int.reduceToNat, Int.reduceAdd, Int.reduceSub, Int.reduceMul, Int.reduceNeg, Int.reduceEq, Int.reduceBEq, Int.reduceBNe, ↓reduceIte, reduceCtorEq, String.reduceBNe, String.reduceEq, reduceDIte, Nat.reducePow, hrd, hrs, hrl, pD, pR, pM, gD, gR, gM, sD, sR, sM, aA, aS, aK, aT, List.set_set, List.length_set, List.getElem?_set_ne ndr, List.getElem?_set_ne ndm, List.getElem?_set_ne nrm, List.getElem?_set_ne nrd, List.getElem?_set_ne nmd, List.getElem?_set_ne nmr, refB, rowR, rot1, rot2, rot3, rot4, hl, gL, o1, o2, o3, c1, c2, c3, hcl, gk, ga, d1, d2, gj]
        refine DCall.by (put_c rs (inP e ks (crP R.lo ks kn (R.su, R.vs) i) j).2 (inP e ks (crP R.lo ks kn (R.su, R.vs) i) j).1 e _ ⟨.grow, 129, by simp only [push_cast, Nat.reduceAdd, Nat.reduceMul, Nat.reduceSub, Nat.reduceLeDiff, Nat.reduceLT, Nat.reduceEqDiff, Nat.reduceBEq, Nat.reduceBNe, Nat.reduceMod, Nat.reduceDiv, Int.reduceLE, Int.reduceLT, Int.reduceToNat, Int.reduceAdd, Int.reduceSub, Int.reduceMul, Int.reduceNeg, Int.reduceEq, Int.reduceBEq, Int.reduceBNe, ↓reduceIte, reduceCtorEq, String.reduceBNe, String.reduceEq, reduceDIte, Nat.reducePow, hrd, hrs, hrl, pD, pR, pM, gD, gR, gM, sD, sR, sM, aA, aS, aK, aT, List.set_set, List.length_set, List.getElem?_set_ne ndr, List.getElem?_set_ne ndm, List.getElem?_set_ne nrm, List.getElem?_set_ne nrd, List.getElem?_set_ne nmd, List.getElem?_set_ne nmr, refB, rowR]⟩ hiw.len he9 (by omega)) ?_
        simp only [push_cast, Nat.reduceAdd, Nat.reduceMul, Nat.reduceSub, Nat.reduceLeDiff, Nat.reduceLT, Nat.reduceEqDiff, Nat.reduceBEq, Nat.reduceBNe, Nat.reduceMod, Nat.reduceDiv, Int.reduceLE, Int.reduceLT, Int.reduceToNat, Int.reduceAdd, Int.reduceSub, Int.reduceMul, Int.reduceNeg, Int.reduceEq, Int.reduceBEq, Int.reduceBNe, ↓reduceIte, reduceCtorEq, String.reduceBNe, String.reduceEq, reduceDIte, Nat.reducePow, hrd, hrs, hrl, pD, pR, pM, gD, gR, gM, sD, sR, sM, aA, aS, aK, aT, List.set_set, List.length_set, List.getElem?_set_ne ndr, List.getElem?_set_ne ndm, List.getElem?_set_ne nrm, List.getElem?_set_ne nrd, List.getElem?_set_ne nmd, List.getElem?_set_ne nmr, refB, rowR, rot1, rot2, rot3, rot4, hl, gL, o1, o2, o3, c1, c2, c3, hcl, gk, ga, d1, d2, gj]
        refine InB_n ?_
        refine Thn_n ?_
        refine hK _ _ ?_
        clear hK K
        refine AW.moveCell rs (m.length) ((putR e false (inP e ks (crP R.lo ks kn (R.su, R.vs) i) j).1).length) rd 1 (b := rowR (inP e ks (crP R.lo ks kn (R.su, R.vs) i) j).2 (inP e ks (crP R.lo ks kn (R.su, R.vs) i) j).1) (e := rowR 0 (putR e false (inP e ks (crP R.lo ks kn (R.su, R.vs) i) j).1)) (p := ⟨.fix, 61, 0, 0, [.int .i64 n, .sl m.length 0 0 (putR e false (inP e ks (crP R.lo ks kn (R.su, R.vs) i) j).1).length, .sl rl (R.vl) 0 (R.lo.length), .int .i64 (R.fuse), .int .i64 (R.steps), .bool (R.down)]⟩) (by simp only [push_cast, Nat.reduceAdd, Nat.reduceMul, Nat.reduceSub, Nat.reduceLeDiff, Nat.reduceLT, Nat.reduceEqDiff, Nat.reduceBEq, Nat.reduceBNe, Nat.reduceMod, Nat.reduceDiv, Int.reduceLE, Int.reduceLT, Int.reduceToNat, Int.reduceAdd, Int.reduceSub, Int.reduceMul, Int.reduceNeg, Int.reduceEq, Int.reduceBEq, Int.reduceBNe, ↓reduceIte, reduceCtorEq, String.reduceBNe, String.reduceEq, reduceDIte, Nat.reducePow, hrd, hrs, hrl, pD, pR, pM, gD, gR, gM, sD, sR, sM, aA, aS, aK, aT, List.set_set, List.length_set, List.getElem?_set_ne ndr, List.getElem?_set_ne ndm, List.getElem?_set_ne nrm, List.getElem?_set_ne nrd, List.getElem?_set_ne nmd, List.getElem?_set_ne nmr, refB, rowR, rot1, rot2, rot3, rot4]) rfl (by simp only [push_cast, Nat.reduceAdd, Nat.reduceMul, Nat.reduceSub, Nat.reduceLeDiff, Nat.reduceLT, Nat.reduceEqDiff, Nat.reduceBEq, Nat.reduceBNe, Nat.reduceMod, Nat.reduceDiv, Int.reduceLE, Int.reduceLT, Int.reduceToNat, Int.reduceAdd, Int.reduceSub, Int.reduceMul, Int.reduceNeg, Int.reduceEq, Int.reduceBEq, Int.reduceBNe, ↓reduceIte, reduceCtorEq, String.reduceBNe, String.reduceEq, reduceDIte, Nat.reducePow, hrd, hrs, hrl, pD, pR, pM, gD, gR, gM, sD, sR, sM, aA, aS, aK, aT, List.set_set, List.length_set, List.getElem?_set_ne ndr, List.getElem?_set_ne ndm, List.getElem?_set_ne nrm, List.getElem?_set_ne nrd, List.getElem?_set_ne nmd, List.getElem?_set_ne nmr, refB, rowR, rot1, rot2, rot3, rot4]) rfl (by omega) (by simp only [push_cast, Nat.reduceAdd, Nat.reduceMul, Nat.reduceSub, Nat.reduceLeDiff, Nat.reduceLT, Nat.reduceEqDiff, Nat.reduceBEq, Nat.reduceBNe, Nat.reduceMod, Nat.reduceDiv, Int.reduceLE, Int.reduceLT, Int.reduceToNat, Int.reduceAdd, Int.reduceSub, Int.reduceMul, Int.reduceNeg, Int.reduceEq, Int.reduceBEq, Int.reduceBNe, ↓reduceIte, reduceCtorEq, String.reduceBNe, String.reduceEq, reduceDIte, Nat.reducePow, hrd, hrs, hrl, pD, pR, pM, gD, gR, gM, sD, sR, sM, aA, aS, aK, aT, List.set_set, List.length_set, List.getElem?_set_ne ndr, List.getElem?_set_ne ndm, List.getElem?_set_ne nrm, List.getElem?_set_ne nrd, List.getElem?_set_ne nmd, List.getElem?_set_ne nmr, refB, rowR, rot1, rot2, rot3, rot4]) (by intro e; cases e) (by omega) (by omega) rfl ?_
        simp only [List.set_cons_succ, List.set_cons_zero, push_cast, Nat.reduceAdd, Nat.reduceMul, Nat.reduceSub, Nat.reduceLeDiff, Nat.reduceLT, Nat.reduceEqDiff, Nat.reduceBEq, Nat.reduceBNe, Nat.reduceMod, Nat.reduceDiv, Int.reduceLE, Int.reduceLT, Int.reduceToNat, Int.reduceAdd, Int.reduceSub, Int.reduceMul, Int.reduceNeg, Int.reduceEq, Int.reduceBEq, Int.reduceBNe, ↓reduceIte, reduceCtorEq, String.reduceBNe, String.reduceEq, reduceDIte, Nat.reducePow, hrd, hrs, hrl, pD, pR, pM, gD, gR, gM, sD, sR, sM, aA, aS, aK, aT, List.set_set, List.length_set, List.getElem?_set_ne ndr, List.getElem?_set_ne ndm, List.getElem?_set_ne nrm, List.getElem?_set_ne nrd, List.getElem?_set_ne nmd, List.getElem?_set_ne nmr, refB, rowR, rot1, rot2, rot3, rot4]
        refine AW.region (by decide) ?_
        simp only [push_cast, Nat.reduceAdd, Nat.reduceMul, Nat.reduceSub, Nat.reduceLeDiff, Nat.reduceLT, Nat.reduceEqDiff, Nat.reduceBEq, Nat.reduceBNe, Nat.reduceMod, Nat.reduceDiv, Int.reduceLE, Int.reduceLT, Int.reduceToNat, Int.reduceAdd, Int.reduceSub, Int.reduceMul, Int.reduceNeg, Int.reduceEq, Int.reduceBEq, Int.reduceBNe, ↓reduceIte, reduceCtorEq, String.reduceBNe, String.reduceEq, reduceDIte, Nat.reducePow, hrd, hrs, hrl, pD, pR, pM, gD, gR, gM, sD, sR, sM, aA, aS, aK, aT, List.set_set, List.length_set, List.getElem?_set_ne ndr, List.getElem?_set_ne ndm, List.getElem?_set_ne nrm, List.getElem?_set_ne nrd, List.getElem?_set_ne nmd, List.getElem?_set_ne nmr, refB, rowR, rot1, rot2, rot3, rot4, hl, gL, o1, o2, o3, c1, c2, c3, hcl, gk, ga, d1, d2, gj]
        refine Thn_n ?_
        have hwj : IntKind.i64.wrap ((j:Int)+1) = (j:Int)+1 := wi (by omega)
        refine ⟨j + 1, hjl, by omega, ?_⟩
        try simp only [keepL, setAll, push_cast, Nat.reduceAdd, Nat.reduceMul, Nat.reduceSub, Nat.reduceLeDiff, Nat.reduceLT, Nat.reduceEqDiff, Nat.reduceBEq, Nat.reduceBNe, Nat.reduceMod, Nat.reduceDiv, Int.reduceLE, Int.reduceLT, Int.reduceToNat, Int.reduceAdd, Int.reduceSub, Int.reduceMul, Int.reduceNeg, Int.reduceEq, Int.reduceBEq, Int.reduceBNe, ↓reduceIte, reduceCtorEq, String.reduceBNe, String.reduceEq, reduceDIte, Nat.reducePow, hrd, hrs, hrl, pD, pR, pM, gD, gR, gM, sD, sR, sM, aA, aS, aK, aT, List.set_set, List.length_set, List.getElem?_set_ne ndr, List.getElem?_set_ne ndm, List.getElem?_set_ne nrm, List.getElem?_set_ne nrd, List.getElem?_set_ne nmd, List.getElem?_set_ne nmr, refB, rowR, rot1, rot2, rot3, rot4, hl, gL, o1, o2, o3, c1, c2, c3, hcl, gk, ga, d1, d2, gj, hwj, hnx]
        first
          | exact Weak.same (by simp only [Keeps, Tm.get_cons, Nat.reduceEqDiff, ↓reduceIte, if_true, if_false, ite_true, ite_false, true_and, and_true, and_self, reduceCtorEq, hwj, hnx]) (by first | rfl | simp only [Keeps, Tm.get_cons, Nat.reduceEqDiff, ↓reduceIte, if_true, if_false, ite_true, ite_false, true_and, and_true, and_self, reduceCtorEq, hwj, hnx])
          | exact Weak.to (extra := [_]) (by simp only [Keeps, Tm.get_cons, Nat.reduceEqDiff, ↓reduceIte, if_true, if_false, ite_true, ite_false, true_and, and_true, and_self, reduceCtorEq, hwj, hnx]) (by first | rfl | (simp only [List.append_assoc, List.cons_append, List.nil_append]; rfl)) (by first | rfl | (simp [AV.below, CV.below]; done) | (simp [AV.below, CV.below]; omega)) (by
              refine MWf_setB (MWf_setB (hwf.grow (by simp)) ?_ rfl) (rowC_below _ _) rfl
              have l1 : rs < m.length := lr
              have l2 : rl < m.length := lm
              simp only [List.all_cons, List.all_nil, CV.below, List.length_set, decide_eq_true l1, decide_eq_true l2, Bool.and_true])
        
      · have hke : ¬ ks j = e.1 := by simpa using h33
        have hnx : inP e ks (crP R.lo ks kn (R.su, R.vs) i) (j + 1) = inP e ks (crP R.lo ks kn (R.su, R.vs) i) j := by
          show (if _ then _ else _) = _
          rw [if_neg hke]
        refine AW.skip ?_
        refine InB_n ?_
        refine Thn_n ?_
        refine hK _ _ ?_
        clear hK K
        refine AW.region (by decide) ?_
        simp only [push_cast, Nat.reduceAdd, Nat.reduceMul, Nat.reduceSub, Nat.reduceLeDiff, Nat.reduceLT, Nat.reduceEqDiff, Nat.reduceBEq, Nat.reduceBNe, Nat.reduceMod, Nat.reduceDiv, Int.reduceLE, Int.reduceLT, Int.reduceToNat, Int.reduceAdd, Int.reduceSub, Int.reduceMul, Int.reduceNeg, Int.reduceEq, Int.reduceBEq, Int.reduceBNe, ↓reduceIte, reduceCtorEq, String.reduceBNe, String.reduceEq, reduceDIte, Nat.reducePow, hrd, hrs, hrl, pD, pR, pM, gD, gR, gM, sD, sR, sM, aA, aS, aK, aT, List.set_set, List.length_set, List.getElem?_set_ne ndr, List.getElem?_set_ne ndm, List.getElem?_set_ne nrm, List.getElem?_set_ne nrd, List.getElem?_set_ne nmd, List.getElem?_set_ne nmr, refB, rowR, rot1, rot2, rot3, rot4, hl, gL, o1, o2, o3, c1, c2, c3, hcl, gk, ga, d1, d2, gj]
        refine Thn_n ?_
        have hwj : IntKind.i64.wrap ((j:Int)+1) = (j:Int)+1 := wi (by omega)
        refine ⟨j + 1, hjl, by omega, ?_⟩
        try simp only [keepL, setAll, push_cast, Nat.reduceAdd, Nat.reduceMul, Nat.reduceSub, Nat.reduceLeDiff, Nat.reduceLT, Nat.reduceEqDiff, Nat.reduceBEq, Nat.reduceBNe, Nat.reduceMod, Nat.reduceDiv, Int.reduceLE, Int.reduceLT, Int.reduceToNat, Int.reduceAdd, Int.reduceSub, Int.reduceMul, Int.reduceNeg, Int.reduceEq, Int.reduceBEq, Int.reduceBNe, ↓reduceIte, reduceCtorEq, String.reduceBNe, String.reduceEq, reduceDIte, Nat.reducePow, hrd, hrs, hrl, pD, pR, pM, gD, gR, gM, sD, sR, sM, aA, aS, aK, aT, List.set_set, List.length_set, List.getElem?_set_ne ndr, List.getElem?_set_ne ndm, List.getElem?_set_ne nrm, List.getElem?_set_ne nrd, List.getElem?_set_ne nmd, List.getElem?_set_ne nmr, refB, rowR, rot1, rot2, rot3, rot4, hl, gL, o1, o2, o3, c1, c2, c3, hcl, gk, ga, d1, d2, gj, hwj, hnx]
        first
          | exact Weak.same (by simp only [Keeps, Tm.get_cons, Nat.reduceEqDiff, ↓reduceIte, if_true, if_false, ite_true, ite_false, true_and, and_true, and_self, reduceCtorEq, hwj, hnx]) (by first | rfl | simp only [Keeps, Tm.get_cons, Nat.reduceEqDiff, ↓reduceIte, if_true, if_false, ite_true, ite_false, true_and, and_true, and_self, reduceCtorEq, hwj, hnx])
          | exact Weak.to (extra := [_]) (by simp only [Keeps, Tm.get_cons, Nat.reduceEqDiff, ↓reduceIte, if_true, if_false, ite_true, ite_false, true_and, and_true, and_self, reduceCtorEq, hwj, hnx]) (by first | rfl | (simp only [List.append_assoc, List.cons_append, List.nil_append]; rfl)) (by first | rfl | (simp [AV.below, CV.below]; done) | (simp [AV.below, CV.below]; omega)) (by
              refine MWf_setB (MWf_setB (hwf.grow (by simp)) ?_ rfl) (rowC_below _ _) rfl
              have l1 : rs < m.length := lr
              have l2 : rl < m.length := lm
              simp only [List.all_cons, List.all_nil, CV.below, List.length_set, decide_eq_true l1, decide_eq_true l2, Bool.and_true])
    · have hje : j = kn := by have := of_decide_eq_false h18; omega
      subst hje
      refine AW.exit ?_
      refine Thn_e ?_
      clear hK K
      refine Thn_e ?_
      refine InB_here ?_
      refine InB_n ?_
      refine Thn_n ?_
      refine hK _ _ ?_
      clear hK K
      refine AW.region (by decide) ?_
      simp only [push_cast, Nat.reduceAdd, Nat.reduceMul, Nat.reduceSub, Nat.reduceLeDiff, Nat.reduceLT, Nat.reduceEqDiff, Nat.reduceBEq, Nat.reduceBNe, Nat.reduceMod, Nat.reduceDiv, Int.reduceLE, Int.reduceLT, Int.reduceToNat, Int.reduceAdd, Int.reduceSub, Int.reduceMul, Int.reduceNeg, Int.reduceEq, Int.reduceBEq, Int.reduceBNe, ↓reduceIte, reduceCtorEq, String.reduceBNe, String.reduceEq, reduceDIte, Nat.reducePow, hrd, hrs, hrl, pD, pR, pM, gD, gR, gM, sD, sR, sM, aA, aS, aK, aT, List.set_set, List.length_set, List.getElem?_set_ne ndr, List.getElem?_set_ne ndm, List.getElem?_set_ne nrm, List.getElem?_set_ne nrd, List.getElem?_set_ne nmd, List.getElem?_set_ne nmr, refB, rowR, rot1, rot2, rot3, rot4, hl, gL, o1, o2, o3, c1, c2, c3, hcl, gk, ga]
      refine Thn_n ?_
      have hwi : IntKind.i64.wrap ((i:Int)+1) = (i:Int)+1 := wi (by omega)
      refine ⟨i + 1, by omega, by omega, ?_⟩
      try simp only [keepL, setAll, push_cast, Nat.reduceAdd, Nat.reduceMul, Nat.reduceSub, Nat.reduceLeDiff, Nat.reduceLT, Nat.reduceEqDiff, Nat.reduceBEq, Nat.reduceBNe, Nat.reduceMod, Nat.reduceDiv, Int.reduceLE, Int.reduceLT, Int.reduceToNat, Int.reduceAdd, Int.reduceSub, Int.reduceMul, Int.reduceNeg, Int.reduceEq, Int.reduceBEq, Int.reduceBNe, ↓reduceIte, reduceCtorEq, String.reduceBNe, String.reduceEq, reduceDIte, Nat.reducePow, hrd, hrs, hrl, pD, pR, pM, gD, gR, gM, sD, sR, sM, aA, aS, aK, aT, List.set_set, List.length_set, List.getElem?_set_ne ndr, List.getElem?_set_ne ndm, List.getElem?_set_ne nrm, List.getElem?_set_ne nrd, List.getElem?_set_ne nmd, List.getElem?_set_ne nmr, refB, rowR, rot1, rot2, rot3, rot4, hl, gL, o1, o2, o3, c1, c2, c3, hcl, gk, ga, hwi, hcp]
      exact Weak.same (by simp only [Keeps, Tm.get_cons, Nat.reduceEqDiff, ↓reduceIte, if_true, if_false, ite_true, ite_false, true_and, and_true, and_self, reduceCtorEq, hwi, hcp]) (by first | rfl | simp only [Keeps, Tm.get_cons, Nat.reduceEqDiff, ↓reduceIte, if_true, if_false, ite_true, ite_false, true_and, and_true, and_self, reduceCtorEq, hwi, hcp])
  · have hie : i = R.lo.length := by have := of_decide_eq_false h12; omega
    subst hie
    refine AW.exit ?_
    refine Thn_e ?_
    clear hK K
    refine Thn_e ?_
    refine InB_here ?_
    refine Thn_n ?_
    refine hK _ _ ?_
    clear hK K
    refine AW.seq_k fun K hK => ?_
    refine AW.region (by decide) ?_
    simp only [push_cast, Nat.reduceAdd, Nat.reduceMul, Nat.reduceSub, Nat.reduceLeDiff, Nat.reduceLT, Nat.reduceEqDiff, Nat.reduceBEq, Nat.reduceBNe, Nat.reduceMod, Nat.reduceDiv, Int.reduceLE, Int.reduceLT, Int.reduceToNat, Int.reduceAdd, Int.reduceSub, Int.reduceMul, Int.reduceNeg, Int.reduceEq, Int.reduceBEq, Int.reduceBNe, ↓reduceIte, reduceCtorEq, String.reduceBNe, String.reduceEq, reduceDIte, Nat.reducePow, hrd, hrs, hrl, pD, pR, pM, gD, gR, gM, sD, sR, sM, aA, aS, aK, aT, List.set_set, List.length_set, List.getElem?_set_ne ndr, List.getElem?_set_ne ndm, List.getElem?_set_ne nrm, List.getElem?_set_ne nrd, List.getElem?_set_ne nmd, List.getElem?_set_ne nmr, refB, rowR, rot1, rot2, rot3, rot4, hl, gL, o1, o2, o3]
    refine Thn_n ?_
    refine hK _ _ ?_
    clear hK K
    refine AW.seq_k fun K hK => ?_
    refine AW.nilCell 65 129 rd 2 (b := ⟨.fix, 61, 0, 0, [.int .i64 n, .sl rs ((crP R.lo ks kn (R.su, R.vs) R.lo.length).2) 0 ((crP R.lo ks kn (R.su, R.vs) R.lo.length).1.length), .nils, .int .i64 (R.fuse), .int .i64 (R.steps), .bool (R.down)]⟩) (by simp only [push_cast, Nat.reduceAdd, Nat.reduceMul, Nat.reduceSub, Nat.reduceLeDiff, Nat.reduceLT, Nat.reduceEqDiff, Nat.reduceBEq, Nat.reduceBNe, Nat.reduceMod, Nat.reduceDiv, Int.reduceLE, Int.reduceLT, Int.reduceToNat, Int.reduceAdd, Int.reduceSub, Int.reduceMul, Int.reduceNeg, Int.reduceEq, Int.reduceBEq, Int.reduceBNe, ↓reduceIte, reduceCtorEq, String.reduceBNe, String.reduceEq, reduceDIte, Nat.reducePow, hrd, hrs, hrl, pD, pR, pM, gD, gR, gM, sD, sR, sM, aA, aS, aK, aT, List.set_set, List.length_set, List.getElem?_set_ne ndr, List.getElem?_set_ne ndm, List.getElem?_set_ne nrm, List.getElem?_set_ne nrd, List.getElem?_set_ne nmd, List.getElem?_set_ne nmr, refB, rowR, rot1, rot2, rot3, rot4]) (by intro e; cases e) rfl ?_
    simp only [List.set_cons_succ, List.set_cons_zero, push_cast, Nat.reduceAdd, Nat.reduceMul, Nat.reduceSub, Nat.reduceLeDiff, Nat.reduceLT, Nat.reduceEqDiff, Nat.reduceBEq, Nat.reduceBNe, Nat.reduceMod, Nat.reduceDiv, Int.reduceLE, Int.reduceLT, Int.reduceToNat, Int.reduceAdd, Int.reduceSub, Int.reduceMul, Int.reduceNeg, Int.reduceEq, Int.reduceBEq, Int.reduceBNe, ↓reduceIte, reduceCtorEq, String.reduceBNe, String.reduceEq, reduceDIte, Nat.reducePow, hrd, hrs, hrl, pD, pR, pM, gD, gR, gM, sD, sR, sM, aA, aS, aK, aT, List.set_set, List.length_set, List.getElem?_set_ne ndr, List.getElem?_set_ne ndm, List.getElem?_set_ne nrm, List.getElem?_set_ne nrd, List.getElem?_set_ne nmd, List.getElem?_set_ne nmr, refB, rowR, rot1, rot2, rot3, rot4]
    refine AW.moveCell rl (m.length) (0) rd 2 (b := rowR R.vl R.lo) (e := ⟨.grow, 65, 0, 129, []⟩) (p := ⟨.fix, 61, 0, 0, [.int .i64 n, .sl rs ((crP R.lo ks kn (R.su, R.vs) R.lo.length).2) 0 ((crP R.lo ks kn (R.su, R.vs) R.lo.length).1.length), .sl m.length 0 0 0, .int .i64 (R.fuse), .int .i64 (R.steps), .bool (R.down)]⟩) (by simp only [push_cast, Nat.reduceAdd, Nat.reduceMul, Nat.reduceSub, Nat.reduceLeDiff, Nat.reduceLT, Nat.reduceEqDiff, Nat.reduceBEq, Nat.reduceBNe, Nat.reduceMod, Nat.reduceDiv, Int.reduceLE, Int.reduceLT, Int.reduceToNat, Int.reduceAdd, Int.reduceSub, Int.reduceMul, Int.reduceNeg, Int.reduceEq, Int.reduceBEq, Int.reduceBNe, ↓reduceIte, reduceCtorEq, String.reduceBNe, String.reduceEq, reduceDIte, Nat.reducePow, hrd, hrs, hrl, pD, pR, pM, gD, gR, gM, sD, sR, sM, aA, aS, aK, aT, List.set_set, List.length_set, List.getElem?_set_ne ndr, List.getElem?_set_ne ndm, List.getElem?_set_ne nrm, List.getElem?_set_ne nrd, List.getElem?_set_ne nmd, List.getElem?_set_ne nmr, refB, rowR, rot1, rot2, rot3, rot4]) rfl (by simp only [push_cast, Nat.reduceAdd, Nat.reduceMul, Nat.reduceSub, Nat.reduceLeDiff, Nat.reduceLT, Nat.reduceEqDiff, Nat.reduceBEq, Nat.reduceBNe, Nat.reduceMod, Nat.reduceDiv, Int.reduceLE, Int.reduceLT, Int.reduceToNat, Int.reduceAdd, Int.reduceSub, Int.reduceMul, Int.reduceNeg, Int.reduceEq, Int.reduceBEq, Int.reduceBNe, ↓reduceIte, reduceCtorEq, String.reduceBNe, String.reduceEq, reduceDIte, Nat.reducePow, hrd, hrs, hrl, pD, pR, pM, gD, gR, gM, sD, sR, sM, aA, aS, aK, aT, List.set_set, List.length_set, List.getElem?_set_ne ndr, List.getElem?_set_ne ndm, List.getElem?_set_ne nrm, List.getElem?_set_ne nrd, List.getElem?_set_ne nmd, List.getElem?_set_ne nmr, refB, rowR, rot1, rot2, rot3, rot4]) rfl (by omega) (by simp only [push_cast, Nat.reduceAdd, Nat.reduceMul, Nat.reduceSub, Nat.reduceLeDiff, Nat.reduceLT, Nat.reduceEqDiff, Nat.reduceBEq, Nat.reduceBNe, Nat.reduceMod, Nat.reduceDiv, Int.reduceLE, Int.reduceLT, Int.reduceToNat, Int.reduceAdd, Int.reduceSub, Int.reduceMul, Int.reduceNeg, Int.reduceEq, Int.reduceBEq, Int.reduceBNe, ↓reduceIte, reduceCtorEq, String.reduceBNe, String.reduceEq, reduceDIte, Nat.reducePow, hrd, hrs, hrl, pD, pR, pM, gD, gR, gM, sD, sR, sM, aA, aS, aK, aT, List.set_set, List.length_set, List.getElem?_set_ne ndr, List.getElem?_set_ne ndm, List.getElem?_set_ne nrm, List.getElem?_set_ne nrd, List.getElem?_set_ne nmd, List.getElem?_set_ne nmr, refB, rowR, rot1, rot2, rot3, rot4]) (by intro e; cases e) (by omega) (by omega) rfl ?_
    simp only [List.set_cons_succ, List.set_cons_zero, push_cast, Nat.reduceAdd, Nat.reduceMul, Nat.reduceSub, Nat.reduceLeDiff, Nat.reduceLT, Nat.reduceEqDiff, Nat.reduceBEq, Nat.reduceBNe, Nat.reduceMod, Nat.reduceDiv, Int.reduceLE, Int.reduceLT, Int.reduceToNat, Int.reduceAdd, Int.reduceSub, Int.reduceMul, Int.reduceNeg, Int.reduceEq, Int.reduceBEq, Int.reduceBNe, ↓reduceIte, reduceCtorEq, String.reduceBNe, String.reduceEq, reduceDIte, Nat.reducePow, hrd, hrs, hrl, pD, pR, pM, gD, gR, gM, sD, sR, sM, aA, aS, aK, aT, List.set_set, List.length_set, List.getElem?_set_ne ndr, List.getElem?_set_ne ndm, List.getElem?_set_ne nrm, List.getElem?_set_ne nrd, List.getElem?_set_ne nmd, List.getElem?_set_ne nmr, refB, rowR, rot1, rot2, rot3, rot4]
    refine AW.region (by decide) ?_
    simp only [push_cast, Nat.reduceAdd, Nat.reduceMul, Nat.reduceSub, Nat.reduceLeDiff, Nat.reduceLT, Nat.reduceEqDiff, Nat.reduceBEq, Nat.reduceBNe, Nat.reduceMod, Nat.reduceDiv, Int.reduceLE, Int.reduceLT, Int.reduceToNat, Int.reduceAdd, Int.reduceSub, Int.reduceMul, Int.reduceNeg, Int.reduceEq, Int.reduceBEq, Int.reduceBNe, ↓reduceIte, reduceCtorEq, String.reduceBNe, String.reduceEq, reduceDIte, Nat.reducePow, hrd, hrs, hrl, pD, pR, pM, gD, gR, gM, sD, sR, sM, aA, aS, aK, aT, List.set_set, List.length_set, List.getElem?_set_ne ndr, List.getElem?_set_ne ndm, List.getElem?_set_ne nrm, List.getElem?_set_ne nrd, List.getElem?_set_ne nmd, List.getElem?_set_ne nmr, refB, rowR, rot1, rot2, rot3, rot4, hl, gL, o1, o2, o3]
    refine Thn_n ?_
    refine hK _ _ ?_
    clear hK K
    refine AW.region (by decide) ?_
    simp only [push_cast, Nat.reduceAdd, Nat.reduceMul, Nat.reduceSub, Nat.reduceLeDiff, Nat.reduceLT, Nat.reduceEqDiff, Nat.reduceBEq, Nat.reduceBNe, Nat.reduceMod, Nat.reduceDiv, Int.reduceLE, Int.reduceLT, Int.reduceToNat, Int.reduceAdd, Int.reduceSub, Int.reduceMul, Int.reduceNeg, Int.reduceEq, Int.reduceBEq, Int.reduceBNe, ↓reduceIte, reduceCtorEq, String.reduceBNe, String.reduceEq, reduceDIte, Nat.reducePow, hrd, hrs, hrl, pD, pR, pM, gD, gR, gM, sD, sR, sM, aA, aS, aK, aT, List.set_set, List.length_set, List.getElem?_set_ne ndr, List.getElem?_set_ne ndm, List.getElem?_set_ne nrm, List.getElem?_set_ne nrd, List.getElem?_set_ne nmd, List.getElem?_set_ne nmr, refB, rowR, rot1, rot2, rot3, rot4, hl, gL, o1, o2, o3]
    refine hQ _ _ _ ?_
    have hcell : refB rs rl n (crR R ks kn) = ⟨.fix, 61, 0, 0, [.int .i64 n, .sl rs ((crP R.lo ks kn (R.su, R.vs) R.lo.length).2) 0 ((crP R.lo ks kn (R.su, R.vs) R.lo.length).1.length), .sl rl (R.vl + 1) 0 (0), .int .i64 (-1), .int .i64 (R.steps), .bool (false)]⟩ := by simp only [refB, crR, List.length_nil]
    have e3 : setR m rd rs rl n (crR R ks kn) = ((m.set rd (refB rs rl n (crR R ks kn))).set rs (rowR (crP R.lo ks kn (R.su, R.vs) R.lo.length).2 (crP R.lo ks kn (R.su, R.vs) R.lo.length).1)).set rl ⟨.grow, 65, R.vl + 1, 129, []⟩ := rfl
    rw [e3, hcell] at hw2 ⊢
    simp only [rowR] at hw2 ⊢
    refine RetP.dropM (by simp only [List.length_set]) (by first | exact Or.inr rfl | exact Or.inl rfl) ?_ ?_ hw2
    · simp only [resA, resOne, resTv, AV.tv, push_cast, Nat.reduceAdd, Nat.reduceMul, Nat.reduceSub, Nat.reduceLeDiff, Nat.reduceLT, Nat.reduceEqDiff, Nat.reduceBEq, Nat.reduceBNe, Nat.reduceMod, Nat.reduceDiv, Int.reduceLE, Int.reduceLT, Int.reduceToNat, Int.reduceAdd, Int.reduceSub, Int.reduceMul, Int.reduceNeg, Int.reduceEq, Int.reduceBEq, Int.reduceBNe, ↓reduceIte, reduceCtorEq, String.reduceBNe, String.reduceEq, reduceDIte, Nat.reducePow]
    · rfl
end Go.Proofs.Ytcahlnddcjifdaa

set_option linter.unusedSimpArgs false
set_option linter.unusedVariables false
set_option maxRecDepth 100000
set_option maxHeartbeats 4000000
namespace Go.Proofs.Ytcahlnddcjifdaa
open Go Go.Eng

theorem lkR_none {k : Int} : ∀ {l : RE}, (∀ e, e ∈ l → e.1 ≠ k) → lkR k l = none
  | [], _ => rfl
  | e :: l, h => by rw [lkR_c, if_neg (h e List.mem_cons_self)]; exact lkR_none fun x hx => h x (List.mem_cons_of_mem _ hx)
theorem lkR_app (k : Int) (e : Int × List Int) : ∀ l : RE, lkR k (l ++ [e]) = match lkR k l with | some v => some v | none => if e.1 = k then some e.2 else none
  | [] => rfl
  | x :: l => by
    show lkR k (x :: (l ++ [e])) = _
    rw [lkR_c, lkR_c, lkR_app k e l]
    by_cases h : x.1 = k
    · rw [if_pos h, if_pos h]
    · rw [if_neg h, if_neg h]
theorem lkR_mem {k : Int} {v : List Int} : ∀ {l : RE}, lkR k l = some v → (k, v) ∈ l
  | e :: l, h => by
    rw [lkR_c] at h
    split at h
    · rename_i he
      injection h with h; subst h; subst he; exact List.mem_cons_self
    · exact List.mem_cons_of_mem _ (lkR_mem h)
theorem lkR_of_mem {l : RE} (hs : Srt l) {e : Int × List Int} (h : e ∈ l) : lkR e.1 l = some e.2 := by
  induction l with
  | nil => cases h
  | cons x l ih =>
    obtain ⟨h1, h2⟩ := List.pairwise_cons.1 hs
    rw [lkR_c]
    rcases List.mem_cons.1 h with rfl | h
    · rw [if_pos rfl]
    · rw [if_neg (by have := h1 e h; omega)]; exact ih h2 h
theorem take_lt {l : RE} (hs : Srt l) {i : Nat} {e : Int × List Int} (he : l[i]? = some e) : ∀ x, x ∈ l.take i → x.1 < e.1 := by
  intro x hx
  obtain ⟨j, hj⟩ := List.getElem?_of_mem hx
  rw [List.getElem?_take] at hj
  split at hj
  · rename_i hji
    obtain ⟨hjl, hje⟩ := List.getElem?_eq_some_iff.1 hj
    obtain ⟨hil, hie⟩ := List.getElem?_eq_some_iff.1 he
    have := List.pairwise_iff_getElem.1 hs j i hjl hil hji
    rw [hje, hie] at this; exact this
  · cases hj
theorem take_s {l : RE} {i : Nat} {e : Int × List Int} (he : l[i]? = some e) : l.take (i + 1) = l.take i ++ [e] := by
  obtain ⟨hil, hie⟩ := List.getElem?_eq_some_iff.1 he
  rw [List.take_add_one, he]; rfl
theorem syF_lk {su lo : RE} (hs : Srt lo) (k : Int) : ∀ i, i ≤ lo.length → lkR k (syF su lo i) = match lkR k (lo.take i) with | some v => some v | none => lkR k su
  | 0, _ => rfl
  | i + 1, hi => by
    have ih := syF_lk (su := su) hs k i (by omega)
    have he : lo[i]? = some lo[i] := List.getElem?_eq_getElem (by omega)
    rw [syF_s he, take_s he, lkR_put, lkR_app, ih]
    by_cases hk : k = lo[i].1
    · rw [if_pos hk, lkR_none (k := k) (l := lo.take i) fun x hx => by have := take_lt hs he x hx; omega]
      dsimp only; rw [if_pos hk.symm]
    · rw [if_neg hk]
      cases lkR k (lo.take i) with
      | some v => rfl
      | none => dsimp only; rw [if_neg (fun h => hk h.symm)]
def hit (ks : Nat → Int) (kn : Nat) (k : Int) : Prop := ∃ j, j < kn ∧ ks j = k
theorem inP_lk {x : Int × List Int} {ks : Nat → Int} {p : RE × Nat} (k : Int) : ∀ j, (hit ks j x.1 ∧ k = x.1 → lkR k (inP x ks p j).1 = some x.2) ∧ (¬ (hit ks j x.1 ∧ k = x.1) → lkR k (inP x ks p j).1 = lkR k p.1)
  | 0 => ⟨fun ⟨⟨j, h, _⟩, _⟩ => absurd h (Nat.not_lt_zero _), fun _ => rfl⟩
  | j + 1 => by
    obtain ⟨h1, h2⟩ := inP_lk (x := x) (ks := ks) (p := p) k j
    by_cases hj : ks j = x.1
    · have e : inP x ks p (j + 1) = (putR x false (inP x ks p j).1, (inP x ks p j).2 + 1) := by
        show (if _ then _ else _) = _
        rw [if_pos hj]
      rw [e]; dsimp only; rw [lkR_put]
      refine ⟨fun ⟨_, hk⟩ => by rw [if_pos hk], fun hn => ?_⟩
      have hk : ¬ k = x.1 := fun hk => hn ⟨⟨j, by omega, hj⟩, hk⟩
      rw [if_neg hk]; exact h2 fun h => hk h.2
    · have e : inP x ks p (j + 1) = inP x ks p j := by
        show (if _ then _ else _) = _
        rw [if_neg hj]
      have hh : hit ks (j + 1) x.1 ↔ hit ks j x.1 := ⟨fun ⟨q, a, b⟩ => by
        rcases Nat.lt_or_ge q j with c | c
        · exact ⟨q, c, b⟩
        · rw [show q = j by omega] at b; exact absurd b hj, fun ⟨q, a, b⟩ => ⟨q, by omega, b⟩⟩
      rw [e, hh]; exact ⟨h1, h2⟩
theorem crP_lk {lo : RE} {ks : Nat → Int} {kn : Nat} {p : RE × Nat} (hs : Srt lo) (k : Int) : ∀ i, i ≤ lo.length →
    (hit ks kn k → lkR k (crP lo ks kn p i).1 = match lkR k (lo.take i) with | some v => some v | none => lkR k p.1) ∧ (¬ hit ks kn k → lkR k (crP lo ks kn p i).1 = lkR k p.1)
  | 0, _ => ⟨fun _ => rfl, fun _ => rfl⟩
  | i + 1, hi => by
    obtain ⟨h1, h2⟩ := crP_lk (ks := ks) (kn := kn) (p := p) hs k i (by omega)
    have he : lo[i]? = some lo[i] := List.getElem?_eq_getElem (by omega)
    obtain ⟨g1, g2⟩ := inP_lk (x := lo[i]) (ks := ks) (p := crP lo ks kn p i) k kn
    rw [crP_s he]
    refine ⟨fun hh => ?_, fun hn => ?_⟩
    · rw [take_s he, lkR_app]
      by_cases hk : k = lo[i].1
      · rw [g1 ⟨hk ▸ hh, hk⟩, lkR_none (k := k) (l := lo.take i) fun x hx => by have := take_lt hs he x hx; omega]
        dsimp only; rw [if_pos hk.symm]
      · rw [g2 fun h => hk h.2, h1 hh]
        cases lkR k (lo.take i) with
        | some v => rfl
        | none => dsimp only; rw [if_neg (fun h => hk h.symm)]
    · rw [g2 fun h => hn (h.2 ▸ h.1), h2 hn]
theorem crF_val {n ck : Nat} {S : Nat → List Int} {E : DE} (he : WfE n ck E) (ks : Nat → Int) (k : Nat) : ∀ i, (hit ks i (k : Int) → crF S E ks i k = (lkE (k : Int) E).getD (S k)) ∧ (¬ hit ks i (k : Int) → crF S E ks i k = S k)
  | 0 => ⟨fun ⟨j, h, _⟩ => absurd h (Nat.not_lt_zero _), fun _ => rfl⟩
  | i + 1 => by
    obtain ⟨h1, h2⟩ := crF_val (S := S) he ks k i
    have e : crF S E ks (i + 1) = match lkE (ks i) E with | some v => updS (crF S E ks i) (ks i).toNat v | none => crF S E ks i := rfl
    by_cases hk : ks i = (k : Int)
    · refine ⟨fun _ => ?_, fun hn => absurd ⟨i, by omega, hk⟩ hn⟩
      rw [e, hk]
      cases hv : lkE (k : Int) E with
      | some v =>
        show (if k = (k : Int).toNat then v else _) = v
        rw [if_pos (by omega)]
      | none =>
        dsimp only
        rcases Classical.em (hit ks i (k : Int)) with hh | hh
        · rw [h1 hh, hv]
        · rw [h2 hh]; rfl
    · have hh : hit ks (i + 1) (k : Int) ↔ hit ks i (k : Int) := ⟨fun ⟨q, a, b⟩ => by
        rcases Nat.lt_or_ge q i with c | c
        · exact ⟨q, c, b⟩
        · rw [show q = i by omega] at b; exact absurd b hk, fun ⟨q, a, b⟩ => ⟨q, by omega, b⟩⟩
      have e2 : crF S E ks (i + 1) k = crF S E ks i k := by
        rw [e]
        cases hv : lkE (ks i) E with
        | none => rfl
        | some v =>
          show (if k = (ks i).toNat then v else crF S E ks i k) = _
          unfold lkE at hv
          obtain ⟨⟨b, w⟩, hb, _⟩ := Option.map_eq_some_iff.1 hv
          have := he.key _ (lkB_mem hb)
          dsimp only at this
          rw [if_neg (by omega)]
      rw [hh, e2]; exact ⟨h1, h2⟩
/-- The device and the document's. -/
structure Rel (n : Nat) (D : DS) (R : RS) : Prop where
  d : WfD n D
  s : WfR n R.su
  l : WfR n R.lo
  fuse : R.fuse = D.fuse
  steps : R.steps = D.steps
  down : R.down = D.down
  lo : ∀ k : Int, lkR k R.lo = lkE k D.E
  su : ∀ k : Nat, k < n → (lkR (k : Int) R.su).getD zB = D.S k
def R0 : RS := ⟨0, -1, false, [], [], 0, 0⟩
theorem rel0 (n : Nat) : Rel n D0 R0 := ⟨d0_wf n, WfR.nil n, WfR.nil n, rfl, rfl, rfl, fun _ => rfl, fun _ _ => rfl⟩
theorem Rel.vis {n : Nat} {D : DS} {R : RS} (h : Rel n D R) {k : Nat} (hk : k < n) : rvis R (k : Int) = vis D.S D.E k := by
  unfold rvis Proofs.Ytcahlnddcjifdaa.vis
  rw [h.lo]
  cases lkE (k : Int) D.E with
  | some v => rfl
  | none => exact h.su k hk
theorem Rel.sp {n : Nat} {D : DS} {R : RS} (h : Rel n D R) : Rel n (spD D) (spR R) := by
  refine ⟨spD_wf h.d, by rw [spR_su]; exact h.s, by rw [spR_lo]; exact h.l, ?_, ?_, ?_, fun k => by rw [spR_lo, spD_E]; exact h.lo k, fun k hk => by rw [spR_su, spD_S]; exact h.su k hk⟩
  all_goals (unfold spR spD; rw [h.fuse]; split <;> simp [h.fuse, h.steps, h.down])
theorem Rel.wr {n : Nat} {D : DS} {R : RS} (h : Rel n D R) {k : Int} {v : List Int} (h0 : 0 ≤ k) (hn : k < (n : Int)) (hv : v.length = 128) : Rel n (wrD D k v) (wrR R k v) :=
  ⟨wrD_wf h.d h0 hn hv, h.sp.s, h.l.put ⟨h0, hn⟩ hv, h.sp.fuse, h.sp.steps, h.sp.down, fun x => by
    show lkR x (putR (k, v) false R.lo) = lkE x (upE D.ck k v D.E)
    rw [lkR_put, lkB_up, h.lo], fun i hi => by
      show (lkR (i : Int) (spR R).su).getD zB = (spD D).S i
      exact h.sp.su i hi⟩
theorem Rel.sy {n : Nat} {D : DS} {R : RS} (h : Rel n D R) : Rel n (syD D) (syR R) :=
  ⟨syD_wf h.d, syF_wf h.s h.l _, WfR.nil n, h.sp.fuse, h.sp.steps, h.sp.down, fun k => rfl, fun k hk => by
    show (lkR (k : Int) (syF R.su R.lo R.lo.length)).getD zB = Proofs.Ytcahlnddcjifdaa.vis D.S D.E k
    rw [syF_lk h.l.srt _ _ (Nat.le_refl _), List.take_length, ← h.vis hk]
    unfold rvis
    cases lkR (k : Int) R.lo <;> rfl⟩
def fuR (R : RS) (x : Int) : RS := { R with fuse := maxI x (-1) }
theorem Rel.fu {n : Nat} {D : DS} {R : RS} (h : Rel n D R) (x : Int) : Rel n (fuD D x) (fuR R x) := ⟨fuD_wf h.d x, h.s, h.l, rfl, h.steps, h.down, h.lo, h.su⟩
theorem Rel.cr {n : Nat} {D : DS} {R : RS} (h : Rel n D R) (ks : Nat → Int) (kn : Nat) : Rel n (crD D ks kn) (crR R ks kn) :=
  ⟨crD_wf h.d ks kn, crP_wf (p := (R.su, R.vs)) h.s h.l _, WfR.nil n, rfl, h.steps, rfl, fun k => rfl, fun k hk => by
    obtain ⟨g1, g2⟩ := crP_lk (ks := ks) (kn := kn) (p := (R.su, R.vs)) h.l.srt (k : Int) R.lo.length (Nat.le_refl _)
    obtain ⟨f1, f2⟩ := crF_val (S := D.S) h.d.e ks k kn
    show (lkR (k : Int) (crP R.lo ks kn (R.su, R.vs) R.lo.length).1).getD zB = crF D.S D.E ks kn k
    rcases Classical.em (hit ks kn (k : Int)) with hh | hh
    · rw [g1 hh, f1 hh, List.take_length, h.lo]
      cases lkE (k : Int) D.E with
      | some v => rfl
      | none => exact h.su k hk
    · rw [g2 hh, f2 hh]; exact h.su k hk⟩
theorem Rel.keys {n : Nat} {D : DS} {R : RS} (h : Rel n D R) : R.lo.map (·.1) = srt (D.E.map (·.2.1)) := by
  have hnd : (R.lo.map (·.1)).Nodup := List.pairwise_map.2 (h.l.srt.imp fun hlt e => by omega)
  have hp : (R.lo.map (·.1)).Perm (D.E.map (·.2.1)) := by
    refine (List.perm_ext_iff_of_nodup hnd h.d.e.keys).2 fun k => ?_
    constructor
    · intro hk
      obtain ⟨e, he, rfl⟩ := List.mem_map.1 hk
      have h1 := lkR_of_mem h.l.srt he
      rw [h.lo] at h1
      unfold lkE at h1
      obtain ⟨⟨b, w⟩, hb, _⟩ := Option.map_eq_some_iff.1 h1
      exact List.mem_map.2 ⟨_, lkB_mem hb, rfl⟩
    · intro hk
      obtain ⟨⟨b, k', v⟩, he, rfl⟩ := List.mem_map.1 hk
      have h1 := lkB_at h.d.e.keys he
      have h2 : lkR k' R.lo = some v := by rw [h.lo]; unfold lkE; rw [h1]; rfl
      exact List.mem_map.2 ⟨_, lkR_mem h2, rfl⟩
  have hs : (R.lo.map (·.1)).Pairwise (fun a b => decide (a ≤ b) = true) := List.pairwise_map.2 (h.l.srt.imp fun hlt => decide_eq_true (by omega))
  unfold srt
  have h1 : (R.lo.map (·.1)).mergeSort (fun x y => decide (x ≤ y)) = (D.E.map (·.2.1)).mergeSort (fun x y => decide (x ≤ y)) := mergeSort_of_perm_i hp
  rw [← h1]
  exact (List.mergeSort_of_pairwise hs).symm
theorem Rel.size {n : Nat} {D : DS} {R : RS} (h : Rel n D R) : D.E.length = R.lo.length := by
  have := congrArg List.length h.keys
  unfold srt at this
  rw [List.length_mergeSort] at this
  simpa using this.symm
end Go.Proofs.Ytcahlnddcjifdaa
