/- Walks and facts of this seat's program over abstract states, printed by a program of mine; no conditions but those that each theorem names. -/
import Derived.Test.YtgbehbaecdepjaaFilmJ
set_option linter.unusedSimpArgs false
set_option linter.unusedVariables false
set_option maxRecDepth 100000
set_option maxHeartbeats 4000000
namespace Go.Proofs.Ytgbehbaecdepjaa
open Go Go.Eng

theorem hnil : u8l ([] : List Int) = [] := rfl
/-- Bytes taken off. -/
def tkB (bs : List Int) (p : Nat) : Nat → List Int
  | 0 => []
  | i + 1 => tkB bs p i ++ [byB bs (p + i)]
theorem tkB_len (bs : List Int) (p : Nat) : ∀ i, (tkB bs p i).length = i
  | 0 => rfl
  | i + 1 => by simp only [tkB, List.length_append, tkB_len bs p i, List.length_cons, List.length_nil]
theorem tkB_get (bs : List Int) (p : Nat) : ∀ {i j : Nat}, j < i → byB (tkB bs p i) j = byB bs (p + j)
  | i + 1, j, h => by
    simp only [tkB, byB, List.getD_eq_getElem?_getD]
    rcases Nat.lt_or_ge j i with h1 | h1
    · rw [List.getElem?_append_left (by rw [tkB_len]; exact h1)]
      have := tkB_get bs p h1
      simpa only [byB, List.getD_eq_getElem?_getD] using this
    · have e : j = i := by omega
      subst e
      rw [List.getElem?_append_right (by rw [tkB_len]; exact Nat.le_refl _), tkB_len, Nat.sub_self]; rfl
theorem rraw_e (r rb v : Nat) (bs : List Int) (p : Nat) (e : Int) (k : Nat) (he : (e != 0) = true) (m : AMem) (h : RQ m r rb v bs (p, e)) : Ctr Try.prog 64 [.one (.ptr r 0 0), .one (.int .i64 (k : Int))] m (.one .nils) m := by
  refine Ctr.enter Try.func64 rfl (by decide) (rs := [.tmp 4]) (nt := 57) rfl rfl fun hwf Q hQ => ?_
  have hr : m[r]? = some ⟨.fix, 94, 0, 0, [.sl rb v 0 bs.length, .int .i64 (p : Int), .int .i64 e]⟩ := h.hr
  have lr := h.lt
  have hn := h.hn
  have hp : p ≤ bs.length := h.hp
  obtain ⟨kb, eb, hb⟩ := h.hb
  have lb := get_lt hb
  have gs : ∀ b : Blk, (m.set r b)[r]? = some b := fun b => get_self lr
  have wl : IntKind.i64.wrap ((bs.length : Int) - (p : Int)) = (bs.length : Int) - (p : Int) := wi (by omega)
  
  refine AW.seq_k fun K hK => ?_
  refine AW.region (by decide) ?_
  simp only [push_cast, simprocAttr, hr, he]
  refine Thn_n ?_
  refine hK _ _ ?_
  clear hK K
  refine AW.seq_k fun K hK => ?_
  refine AW.seq_k fun K hK => ?_
  refine AW.region (by decide) ?_
  simp only [push_cast, simprocAttr, hr, he]
  refine Thn_n ?_
  refine hK _ _ ?_
  clear hK K
  refine AW.cond_t rfl ?_
  refine AW.seq_k fun K hK => ?_
  refine AW.region (by decide) ?_
  simp only [push_cast, simprocAttr, hr, he]
  refine Thn_n ?_
  refine hK _ _ ?_
  clear hK K
  refine AW.ret ?_
  refine Thn_r ?_
  refine hQ _ _ _ ?_
  first | refine RetP.keep (Or.inr rfl) ?_ | refine RetP.keep (Or.inl rfl) ?_
  · rfl
  
theorem rraw_s (r rb v : Nat) (bs : List Int) (p k : Nat) (hk : bs.length < p + k) (m : AMem) (h : RQ m r rb v bs (p, 0)) : Ctr Try.prog 64 [.one (.ptr r 0 0), .one (.int .i64 (k : Int))] m (.one .nils) (qM m r rb v bs (p, 9)) := by
  refine Ctr.enter Try.func64 rfl (by decide) (rs := [.tmp 4]) (nt := 57) rfl rfl fun hwf Q hQ => ?_
  have hr : m[r]? = some ⟨.fix, 94, 0, 0, [.sl rb v 0 bs.length, .int .i64 (p : Int), .int .i64 0]⟩ := h.hr
  have lr := h.lt
  have hn := h.hn
  have hp : p ≤ bs.length := h.hp
  obtain ⟨kb, eb, hb⟩ := h.hb
  have lb := get_lt hb
  have gs : ∀ b : Blk, (m.set r b)[r]? = some b := fun b => get_self lr
  have wl : IntKind.i64.wrap ((bs.length : Int) - (p : Int)) = (bs.length : Int) - (p : Int) := wi (by omega)
  have hlt : (bs.length : Int) - (p : Int) < (k : Int) := by omega
  have hM : m.set r ⟨.fix, 94, 0, 0, [.sl rb v 0 bs.length, .int .i64 (p : Int), .int .i64 9]⟩ = qM m r rb v bs (p, 9) := rfl
  refine AW.seq_k fun K hK => ?_
  refine AW.region (by decide) ?_
  simp only [push_cast, simprocAttr, hr, wl, hlt, hM]
  refine Thn_n ?_
  refine hK _ _ ?_
  clear hK K
  refine AW.seq_k fun K hK => ?_
  refine AW.seq_k fun K hK => ?_
  refine AW.region (by decide) ?_
  simp only [push_cast, simprocAttr, hr, wl, hlt, hM]
  refine Thn_n ?_
  refine hK _ _ ?_
  clear hK K
  refine AW.cond_f rfl ?_
  refine AW.skip ?_
  refine Thn_n ?_
  refine hK _ _ ?_
  clear hK K
  refine AW.seq_k fun K hK => ?_
  refine AW.seq_k fun K hK => ?_
  refine AW.draw [.val, .val, .val, .rd 0, .val, .val, .val, .val, .rd 0, .val, .val, .val] fol (by decide) (by kernel_rfl) ?_
  simp only [push_cast, simprocAttr, hr, wl, hlt, hM]
  refine Thn_n ?_
  refine hK _ _ ?_
  clear hK K
  refine AW.cond_t rfl ?_
  iterate 2
    refine AW.seq_k fun K hK => ?_
    refine AW.region (by decide) ?_
    simp only [push_cast, simprocAttr, hr, wl, hlt, hM]
    refine Thn_n ?_
    refine hK _ _ ?_
    clear hK K
  refine AW.ret ?_
  refine Thn_r ?_
  refine hQ _ _ _ ?_
  first | refine RetP.keep (Or.inr rfl) ?_ | refine RetP.keep (Or.inl rfl) ?_
  · rfl
  
theorem rraw_k (r rb v : Nat) (bs : List Int) (p k : Nat) (hk : p + k ≤ bs.length) (m : AMem) (h : RQ m r rb v bs (p, 0)) : Ctr Try.prog 64 [.one (.ptr r 0 0), .one (.int .i64 (k : Int))] m (.one (.sl m.length k 0 k)) (qM m r rb v bs (p + k, 0) ++ [⟨.grow, 5, k, 1, u8l (tkB bs p k)⟩]) := by
  refine Ctr.enter Try.func64 rfl (by decide) (rs := [.tmp 4]) (nt := 57) rfl rfl fun hwf Q hQ => ?_
  have hr : m[r]? = some ⟨.fix, 94, 0, 0, [.sl rb v 0 bs.length, .int .i64 (p : Int), .int .i64 0]⟩ := h.hr
  have lr := h.lt
  have hn := h.hn
  have hp : p ≤ bs.length := h.hp
  obtain ⟨kb, eb, hb⟩ := h.hb
  have lb := get_lt hb
  have gs : ∀ b : Blk, (m.set r b)[r]? = some b := fun b => get_self lr
  have wl : IntKind.i64.wrap ((bs.length : Int) - (p : Int)) = (bs.length : Int) - (p : Int) := wi (by omega)
  have hlt : ¬ (bs.length : Int) - (p : Int) < (k : Int) := by omega
  have hM : m.set r ⟨.fix, 94, 0, 0, [.sl rb v 0 bs.length, .int .i64 ((p : Int) + (k : Int)), .int .i64 0]⟩ = qM m r rb v bs (p + k, 0) := by unfold qM; simp only [Int.natCast_add]
  have hset : ∀ (L : AMem) (b : Blk), (m ++ L).set r b = m.set r b ++ L := fun L b => List.set_append_left _ _ lr
  have wk : IntKind.i64.wrap ((p : Int) + (k : Int)) = (p : Int) + (k : Int) := wi (by omega)
  refine AW.seq_k fun K hK => ?_
  refine AW.region (by decide) ?_
  simp only [push_cast, simprocAttr, hr, lk_old hr, hb, lk_old hb, wl, wk, hlt, hset, hM, u8l_len]
  refine Thn_n ?_
  refine hK _ _ ?_
  clear hK K
  refine AW.seq_k fun K hK => ?_
  refine AW.seq_k fun K hK => ?_
  refine AW.region (by decide) ?_
  simp only [push_cast, simprocAttr, hr, lk_old hr, hb, lk_old hb, wl, wk, hlt, hset, hM, u8l_len]
  refine Thn_n ?_
  refine hK _ _ ?_
  clear hK K
  refine AW.cond_f rfl ?_
  refine AW.skip ?_
  refine Thn_n ?_
  refine hK _ _ ?_
  clear hK K
  refine AW.seq_k fun K hK => ?_
  refine AW.seq_k fun K hK => ?_
  refine AW.draw [.val, .val, .val, .rd 0, .val, .val, .val, .val, .rd 0, .val, .val, .val] fol (by decide) (by kernel_rfl) ?_
  simp only [push_cast, simprocAttr, hr, lk_old hr, hb, lk_old hb, wl, wk, hlt, hset, hM, u8l_len]
  refine Thn_n ?_
  refine hK _ _ ?_
  clear hK K
  refine AW.cond_f rfl ?_
  refine AW.skip ?_
  refine Thn_n ?_
  refine hK _ _ ?_
  clear hK K
  refine AW.seq_k fun K hK => ?_
  refine AW.region (by decide) ?_
  simp only [push_cast, simprocAttr, hr, lk_old hr, hb, lk_old hb, wl, wk, hlt, hset, hM, u8l_len]
  refine Thn_n ?_
  refine hK _ _ ?_
  clear hK K
  refine AW.seq_k fun K hK => ?_
  refine AW.seq_k fun K hK => ?_
  refine AW.region (by decide) ?_
  simp only [push_cast, simprocAttr, hr, lk_old hr, hb, lk_old hb, wl, wk, hlt, hset, hM, u8l_len]
  refine Thn_n ?_
  refine hK _ _ ?_
  clear hK K
  refine AW.block ?_
  refine AW.nilTm 5 1 5 rfl ?_
  try simp only [push_cast, simprocAttr, hr, lk_old hr, hb, lk_old hb, wl, wk, hlt, hset, hM, u8l_len]
  refine AW.loopK [0, 1] (fun i => i ≤ k) (fun i => [(5, .one (.sl m.length i 0 i)), (6, .one (.int .i64 (i : Int)))]) (fun i => [(m.length, ⟨.grow, 5, i, 1, u8l (tkB bs p i)⟩)]) (fun i => k - i) 0 (by omega) ?_ ?_ fun i hi9 => ?_
  · first | rfl | (simp only [Keeps, Tm.get_cons, Nat.reduceEqDiff, ↓reduceIte, if_true, if_false, ite_true, ite_false, true_and, and_true, and_self, reduceCtorEq, tkB, hnil, Int.natCast_zero] <;> rfl)
  · first | rfl | (simp only [setAll, push_cast, simprocAttr, hr, lk_old hr, hb, lk_old hb, wl, wk, hlt, hset, hM, u8l_len, tkB, hnil, Int.natCast_zero] <;> rfl)
  try simp only [keepL, setAll, push_cast, simprocAttr, hr, lk_old hr, hb, lk_old hb, wl, wk, hlt, hset, hM, u8l_len]
  refine AW.seq_k fun K hK => ?_
  refine AW.seq_k fun K hK => ?_
  refine AW.region (by decide) ?_
  simp only [push_cast, simprocAttr, hr, lk_old hr, hb, lk_old hb, wl, wk, hlt, hset, hM, u8l_len]
  refine Thn_n ?_
  refine hK _ _ ?_
  clear hK K
  refine AW.cond rfl (fun h29 => ?_) (fun h29 => ?_)
  · have hlt : i < k := by have := of_decide_eq_true h29; omega
    have c1 : (0 : Int) ≤ (i : Int) := by omega
    have c2 : (i : Int) < (k : Int) := by omega
    have hnx : tkB bs p i ++ [byB bs (p + i)] = tkB bs p (i + 1) := rfl
    have g := u8l_get (bs := bs) (i := p + i) (by omega)
    have wpi : IntKind.i64.wrap ((p : Int) + (i : Int)) = ((p + i : Nat) : Int) := by rw [Int.natCast_add]; exact wi (by omega)
    have d1 : (0 : Int) ≤ (p : Int) + (i : Int) := by omega
    have d2 : (p : Int) + (i : Int) < (bs.length : Int) := by omega
    have d3 : ((p : Int) + (i : Int)).toNat = p + i := by omega
    have gi := tkB_len bs p i
    have q1 : i + 1 ≤ 140737488355328 := by omega
    have d4 : p + i + 1 ≤ bs.length := by omega
    have d5 : p + (i + 1) ≤ bs.length := by omega
    refine AW.skip ?_
    refine Thn_n ?_
    refine hK _ _ ?_
    clear hK K
    refine AW.seq_k fun K hK => ?_
    refine AW.block ?_
    refine AW.draw [.val, .val, .val, .val, .rd 0, .val, .val, .val, .rd 0, .val, .val, .val, .rd 0, .ext, .wr, .val] fol (by decide) (by kernel_rfl) ?_
    simp only [push_cast, simprocAttr, hr, lk_old hr, hb, lk_old hb, wl, wk, hlt, hset, hM, u8l_len, c1, c2, g, wpi, d1, d2, d3, d4, d5, gi, q1]
    refine DExt.by (by first | rfl | (simp only [List.append_assoc, List.cons_append, List.nil_append]; rfl)) ?_
    simp only [push_cast, simprocAttr, hr, lk_old hr, hb, lk_old hb, wl, wk, hlt, hset, hM, u8l_len, c1, c2, g, wpi, d1, d2, d3, d4, d5, gi, q1]
    refine InB_n ?_
    refine Thn_n ?_
    refine hK _ _ ?_
    clear hK K
    refine AW.region (by decide) ?_
    simp only [push_cast, simprocAttr, hr, lk_old hr, hb, lk_old hb, wl, wk, hlt, hset, hM, u8l_len, c1, c2, g, wpi, d1, d2, d3, d4, d5, gi, q1]
    refine Thn_n ?_
    have hwi : IntKind.i64.wrap ((i:Int)+1) = (i:Int)+1 := wi (by omega)
    refine ⟨i + 1, by omega, by omega, ?_⟩
    try simp only [keepL, setAll, push_cast, simprocAttr, hr, lk_old hr, hb, lk_old hb, wl, wk, hlt, hset, hM, u8l_len, c1, c2, g, wpi, d1, d2, d3, d4, d5, gi, q1, hwi, u8l_snoc, hnx]
    exact Weak.to (extra := [_]) (by simp only [Keeps, Tm.get_cons, Nat.reduceEqDiff, ↓reduceIte, if_true, if_false, ite_true, ite_false, true_and, and_true, and_self, reduceCtorEq, hwi, u8l_snoc, hnx]) (by first | rfl | (simp only [List.append_assoc, List.cons_append, List.nil_append]; rfl)) (by first | rfl | (simp [AV.below, CV.below, u8l_below]; done) | (simp [AV.below, CV.below, u8l_below]; omega)) (by
      first | exact hwf | refine MWf.app (hwf.grow (by simp)) ?_
      repeat (first | exact MWf_nil | (refine MWf_cons ?_ ?_; · first | rfl | (simp [CV.below, u8l_below]; done) | (simp [CV.below, u8l_below]; omega))))
  · have hin : k = i := by have := of_decide_eq_false h29; omega
    subst hin
    refine AW.exit ?_
    refine Thn_e ?_
    clear hK K
    refine Thn_e ?_
    refine InB_here ?_
    iterate 2
      refine Thn_n ?_
      refine hK _ _ ?_
      clear hK K
      refine AW.seq_k fun K hK => ?_
      refine AW.region (by decide) ?_
      simp only [push_cast, simprocAttr, hr, lk_old hr, hb, lk_old hb, wl, wk, hlt, hset, hM, u8l_len]
    refine Thn_n ?_
    refine hK _ _ ?_
    clear hK K
    refine AW.ret ?_
    refine hQ _ _ _ ?_
    first | refine RetP.keep (Or.inr rfl) ?_ | refine RetP.keep (Or.inl rfl) ?_
    · rfl
    
theorem rnum_e (r rb v : Nat) (bs : List Int) (p : Nat) (e : Int) (k : Nat) (he : (e != 0) = true) (m : AMem) (h : RQ m r rb v bs (p, e)) : Ctr Try.prog 61 [.one (.ptr r 0 0), .one (.int .i64 (k : Int))] m (.one (.int .u64 0)) m := by
  refine Ctr.enter Try.func61 rfl (by decide) (rs := [.tmp 4]) (nt := 27) rfl rfl fun hwf Q hQ => ?_
  refine AW.seq_k fun K hK => ?_
  refine AW.region (by decide) ?_
  simp only [push_cast, simprocAttr]
  refine Thn_n ?_
  refine hK _ _ ?_
  clear hK K
  refine AW.seq_k fun K hK => ?_
  refine AW.region (by decide) ?_
  simp only [push_cast, simprocAttr]
  refine CThen.by (rraw_e r rb v bs p e k he _ h) ?_
  simp only [push_cast, simprocAttr]
  refine Thn_n ?_
  refine hK _ _ ?_
  clear hK K
  refine AW.seq_k fun K hK => ?_
  refine AW.region (by decide) ?_
  simp only [push_cast, simprocAttr]
  refine Thn_n ?_
  refine hK _ _ ?_
  clear hK K
  refine AW.seq_k fun K hK => ?_
  refine AW.seq_k fun K hK => ?_
  refine AW.region (by decide) ?_
  simp only [push_cast, simprocAttr]
  refine Thn_n ?_
  refine hK _ _ ?_
  clear hK K
  refine AW.block ?_
  refine AW.rounds 1 ?_
  refine ARounds.succ fun K hK => ?_
  refine AW.seq_k fun K hK => ?_
  refine AW.seq_k fun K hK => ?_
  refine AW.region (by decide) ?_
  simp only [push_cast, simprocAttr]
  refine Thn_n ?_
  refine hK _ _ ?_
  clear hK K
  refine AW.cond_f rfl ?_
  refine AW.exit ?_
  refine Thn_e ?_
  clear hK K
  refine Thn_e ?_
  clear hK K
  refine InB_here ?_
  refine Thn_n ?_
  refine hK _ _ ?_
  clear hK K
  refine AW.seq_k fun K hK => ?_
  refine AW.region (by decide) ?_
  simp only [push_cast, simprocAttr]
  refine Thn_n ?_
  refine hK _ _ ?_
  clear hK K
  refine AW.ret ?_
  refine hQ _ _ _ ?_
  first | refine RetP.keep (Or.inr rfl) ?_ | refine RetP.keep (Or.inl rfl) ?_
  · rfl
  
theorem rnum_s (r rb v : Nat) (bs : List Int) (p k : Nat) (hk : bs.length < p + k) (m : AMem) (h : RQ m r rb v bs (p, 0)) : Ctr Try.prog 61 [.one (.ptr r 0 0), .one (.int .i64 (k : Int))] m (.one (.int .u64 0)) (qM m r rb v bs (p, 9)) := by
  refine Ctr.enter Try.func61 rfl (by decide) (rs := [.tmp 4]) (nt := 27) rfl rfl fun hwf Q hQ => ?_
  refine AW.seq_k fun K hK => ?_
  refine AW.region (by decide) ?_
  simp only [push_cast, simprocAttr]
  refine Thn_n ?_
  refine hK _ _ ?_
  clear hK K
  refine AW.seq_k fun K hK => ?_
  refine AW.region (by decide) ?_
  simp only [push_cast, simprocAttr]
  refine CThen.by (rraw_s r rb v bs p k hk _ h) ?_
  simp only [push_cast, simprocAttr]
  refine Thn_n ?_
  refine hK _ _ ?_
  clear hK K
  refine AW.seq_k fun K hK => ?_
  refine AW.region (by decide) ?_
  simp only [push_cast, simprocAttr]
  refine Thn_n ?_
  refine hK _ _ ?_
  clear hK K
  refine AW.seq_k fun K hK => ?_
  refine AW.seq_k fun K hK => ?_
  refine AW.region (by decide) ?_
  simp only [push_cast, simprocAttr]
  refine Thn_n ?_
  refine hK _ _ ?_
  clear hK K
  refine AW.block ?_
  refine AW.rounds 1 ?_
  refine ARounds.succ fun K hK => ?_
  refine AW.seq_k fun K hK => ?_
  refine AW.seq_k fun K hK => ?_
  refine AW.region (by decide) ?_
  simp only [push_cast, simprocAttr]
  refine Thn_n ?_
  refine hK _ _ ?_
  clear hK K
  refine AW.cond_f rfl ?_
  refine AW.exit ?_
  refine Thn_e ?_
  clear hK K
  refine Thn_e ?_
  clear hK K
  refine InB_here ?_
  refine Thn_n ?_
  refine hK _ _ ?_
  clear hK K
  refine AW.seq_k fun K hK => ?_
  refine AW.region (by decide) ?_
  simp only [push_cast, simprocAttr]
  refine Thn_n ?_
  refine hK _ _ ?_
  clear hK K
  refine AW.ret ?_
  refine hQ _ _ _ ?_
  first | refine RetP.keep (Or.inr rfl) ?_ | refine RetP.keep (Or.inl rfl) ?_
  · rfl
  
theorem rnum_k (r rb v : Nat) (bs : List Int) (p k : Nat) (hk6 : k ≤ 6) (hk : p + k ≤ bs.length) (m : AMem) (h : RQ m r rb v bs (p, 0)) : Ctr Try.prog 61 [.one (.ptr r 0 0), .one (.int .i64 (k : Int))] m (.one (.int .u64 (numV bs p k))) (qM m r rb v bs (p + k, 0)) := by
  refine Ctr.enter Try.func61 rfl (by decide) (rs := [.tmp 4]) (nt := 27) rfl rfl fun hwf Q hQ => ?_
  have hu := h.hu
  obtain ⟨kb, eb, hb⟩ := h.hb
  have lb := get_lt hb
  have hwfM := fun t => @qM_wf m.length m r rb v bs t lb hwf
  have g3 : ∀ t b, (qM m r rb v bs t ++ [b])[m.length]? = some b := fun t b => by rw [← @qM_len m r rb v bs t, lk_app0]; rfl
  have wk : IntKind.i64.wrap ((k : Int) - 1) = (k : Int) - 1 := wi (by omega)
  have hk0 : (k : Int) - ((0 : Nat) : Int) - 1 = (k : Int) - 1 := by omega
  have e5 : (256 : Int) ^ 6 = 281474976710656 := by decide
  refine AW.seq_k fun K hK => ?_
  refine AW.region (by decide) ?_
  simp only [push_cast, simprocAttr, g3, wk, u8l_len]
  refine Thn_n ?_
  refine hK _ _ ?_
  clear hK K
  refine AW.seq_k fun K hK => ?_
  refine AW.region (by decide) ?_
  simp only [push_cast, simprocAttr, g3, wk, u8l_len]
  refine CThen.by (rraw_k r rb v bs p k hk _ h) ?_
  simp only [push_cast, simprocAttr, g3, wk, u8l_len]
  refine Thn_n ?_
  refine hK _ _ ?_
  clear hK K
  refine AW.seq_k fun K hK => ?_
  refine AW.region (by decide) ?_
  simp only [push_cast, simprocAttr, g3, wk, u8l_len]
  refine Thn_n ?_
  refine hK _ _ ?_
  clear hK K
  refine AW.seq_k fun K hK => ?_
  refine AW.seq_k fun K hK => ?_
  refine AW.region (by decide) ?_
  simp only [push_cast, simprocAttr, g3, wk, u8l_len]
  refine Thn_n ?_
  refine hK _ _ ?_
  clear hK K
  refine AW.block ?_
  refine AW.loopK [5] (fun j => j ≤ k) (fun j => [(6, .one (.int .u64 (numV bs (p + (k - j)) j))), (7, .one (.int .i64 ((k : Int) - (j : Int) - 1)))]) (fun j => []) (fun j => k - j) 0 (by omega) ?_ ?_ fun j hi6 => ?_
  · (simp only [numV, hk0, Keeps, Tm.get_cons, Nat.reduceEqDiff, ↓reduceIte, and_true] <;> exact ⟨rfl, rfl⟩)
  · first | rfl | (simp only [setAll, push_cast, simprocAttr, g3, wk, u8l_len, numV, hk0] <;> rfl)
  try simp only [keepL, setAll, push_cast, simprocAttr, g3, wk, u8l_len]
  refine AW.seq_k fun K hK => ?_
  refine AW.seq_k fun K hK => ?_
  refine AW.region (by decide) ?_
  simp only [push_cast, simprocAttr, g3, wk, u8l_len]
  refine Thn_n ?_
  refine hK _ _ ?_
  clear hK K
  refine AW.cond rfl (fun h15 => ?_) (fun h15 => ?_)
  · have hge := of_decide_eq_true h15
    obtain ⟨q, hq⟩ : ∃ q, k = j + q + 1 := ⟨k - j - 1, by omega⟩
    have hqe : (k : Int) - (j : Int) - 1 = (q : Int) := by omega
    have hkj : k - j = q + 1 := by omega
    have hkj1 : k - (j + 1) = q := by omega
    have g := u8l_get (bs := tkB bs p k) (i := q) (by rw [tkB_len]; omega)
    rw [tkB_get bs p (by omega)] at g
    have gl := tkB_len bs p k
    have c1 : (0 : Int) ≤ (q : Int) := by omega
    have c2 : (q : Int) < (k : Int) := by omega
    have c3 : q + 1 ≤ k := by omega
    have hb := hu (p + q)
    have hv := numV_b hu j (p + (q + 1))
    have hpw : (256 : Int) ^ j ≤ 256 ^ 6 := by
      have : (256 : Nat) ^ j ≤ 256 ^ 6 := Nat.pow_le_pow_right (by decide) (by omega)
      exact_mod_cast this
    rw [e5] at hpw
    have w1 : IntKind.u64.wrap (byB bs (p + q)) = byB bs (p + q) := by rw [IntKind.wrap_u64]; omega
    have w2 : IntKind.u64.wrap (numV bs (p + (q + 1)) j * 256) = numV bs (p + (q + 1)) j * 256 := by rw [IntKind.wrap_u64]; omega
    have w3 : IntKind.u64.wrap (numV bs (p + (q + 1)) j * 256 + byB bs (p + q)) = numV bs (p + (q + 1)) j * 256 + byB bs (p + q) := by rw [IntKind.wrap_u64]; omega
    have hnx : numV bs (p + (k - (j + 1))) (j + 1) = numV bs (p + (q + 1)) j * 256 + byB bs (p + q) := by
      rw [hkj1, numV, show p + q + 1 = p + (q + 1) by omega]; omega
    refine AW.skip ?_
    refine Thn_n ?_
    refine hK _ _ ?_
    clear hK K
    refine AW.seq_k fun K hK => ?_
    refine AW.block ?_
    refine AW.region (by decide) ?_
    simp only [push_cast, simprocAttr, g3, wk, u8l_len, hqe, hkj, g, gl, c1, c2, c3, w1, w2, w3]
    refine InB_n ?_
    refine Thn_n ?_
    refine hK _ _ ?_
    clear hK K
    refine AW.region (by decide) ?_
    simp only [push_cast, simprocAttr, g3, wk, u8l_len, hqe, hkj, g, gl, c1, c2, c3, w1, w2, w3]
    refine Thn_n ?_
    have hwi : IntKind.i64.wrap ((q : Int) - 1) = (q : Int) - 1 := wi (by omega)
    have hqn : (k : Int) - ((j : Int) + 1) - 1 = (q : Int) - 1 := by omega
    have hqn2 : (k : Int) - ((j + 1 : Nat) : Int) - 1 = (q : Int) - 1 := by omega
    refine ⟨j + 1, by omega, by omega, ?_⟩
    try simp only [keepL, setAll, push_cast, simprocAttr, g3, wk, u8l_len, hqe, hkj, g, gl, c1, c2, c3, w1, w2, w3, hwi, hqn, hqn2, hnx]
    exact Weak.same (by simp only [Keeps, Tm.get_cons, Nat.reduceEqDiff, ↓reduceIte, if_true, if_false, ite_true, ite_false, true_and, and_true, and_self, reduceCtorEq, hwi, hqn, hqn2, hnx]) (by first | rfl | simp only [Keeps, Tm.get_cons, Nat.reduceEqDiff, ↓reduceIte, if_true, if_false, ite_true, ite_false, true_and, and_true, and_self, reduceCtorEq, hwi, hqn, hqn2, hnx])
  · have hjk : k = j := by have := of_decide_eq_false h15; omega
    subst hjk
    have hz : p + (k - k) = p := by omega
    refine AW.exit ?_
    refine Thn_e ?_
    clear hK K
    refine Thn_e ?_
    refine InB_here ?_
    refine Thn_n ?_
    refine hK _ _ ?_
    clear hK K
    refine AW.seq_k fun K hK => ?_
    refine AW.region (by decide) ?_
    simp only [push_cast, simprocAttr, g3, wk, u8l_len, hz]
    refine Thn_n ?_
    refine hK _ _ ?_
    clear hK K
    refine AW.ret ?_
    refine hQ _ _ _ ?_
    first | refine RetP.dropM0 (qM_len _) (Or.inr rfl) ?_ ?_ (hwfM _) | refine RetP.dropM (qM_len _) (Or.inr rfl) ?_ ?_ (hwfM _)
    · simp only [resA, resOne, resTv, AV.tv, push_cast, simprocAttr, g3]
    · rfl
    
theorem rnum_c (r rb v : Nat) (bs : List Int) (s : Nat × Int) (m : AMem) (h : RQ m r rb v bs s) (k : Nat) (hk6 : k ≤ 6) : Ctr Try.prog 61 [.one (.ptr r 0 0), .one (.int .i64 (k : Int))] m (.one (.int .u64 (rdV bs k s))) (qM m r rb v bs (rdS bs.length k s)) := by
  obtain ⟨p, e⟩ := s
  unfold rdV rdS
  by_cases he : e = 0
  · subst he
    simp only [if_true]
    by_cases hk : p + k ≤ bs.length
    · rw [if_pos hk, if_pos hk]; exact rnum_k r rb v bs p k hk6 hk m h
    · rw [if_neg hk, if_neg hk]; exact rnum_s r rb v bs p k (by omega) m h
  · simp only [he, if_false]
    rw [qM_self h]; exact rnum_e r rb v bs p e k (by simpa using he) m h
theorem rsmall_1 (r rb v : Nat) (bs : List Int) (s : Nat × Int) (m : AMem) (h : RQ m r rb v bs s) (h0 : 32768 ≤ rdV bs 2 s) : Ctr Try.prog 55 [.one (.ptr r 0 0)] m (.one (.int .i64 (sg2 (rdV bs 2 s)))) (qM m r rb v bs (rdS bs.length 2 s)) := by
  refine Ctr.enter Try.func55 rfl (by decide) (rs := [.tmp 2]) (nt := 12) rfl rfl fun hwf Q hQ => ?_
  have hb2 := rdV_b h.hu 2 s
  have hb5 := rdV_b h.hu 5 s
  have hs2 := h.set (rdS_le (k := 2) h.hp)
  have hs5 := h.set (rdS_le (k := 5) h.hp)
  have e2 : (256 : Int) ^ 2 = 65536 := by decide
  have e5 : (256 : Int) ^ 5 = 1099511627776 := by decide
  rw [e2] at hb2
  rw [e5] at hb5
  have w2 : IntKind.i64.wrap (rdV bs 2 s) = rdV bs 2 s := wi (by omega)
  have w5 : IntKind.i64.wrap (rdV bs 5 s) = rdV bs 5 s := wi (by omega)
  have hs : sg2 (rdV bs 2 s) = rdV bs 2 s - 65536 := by unfold sg2; rw [if_pos h0]
  have w3 : IntKind.i64.wrap (rdV bs 2 s - 65536) = rdV bs 2 s - 65536 := wi (by omega)
  rw [hs] at hQ
  refine AW.seq_k fun K hK => ?_
  refine AW.region (by decide) ?_
  simp only [push_cast, simprocAttr, w2, w3, h0]
  refine Thn_n ?_
  refine hK _ _ ?_
  clear hK K
  refine AW.seq_k fun K hK => ?_
  refine AW.region (by decide) ?_
  simp only [push_cast, simprocAttr, w2, w3, h0]
  refine CThen.by (rnum_c r rb v bs s _ h 2 (by decide)) ?_
  simp only [push_cast, simprocAttr, w2, w3, h0]
  refine Thn_n ?_
  refine hK _ _ ?_
  clear hK K
  refine AW.seq_k fun K hK => ?_
  refine AW.seq_k fun K hK => ?_
  refine AW.region (by decide) ?_
  simp only [push_cast, simprocAttr, w2, w3, h0]
  refine Thn_n ?_
  refine hK _ _ ?_
  clear hK K
  refine AW.cond_t rfl ?_
  refine AW.seq_k fun K hK => ?_
  refine AW.region (by decide) ?_
  simp only [push_cast, simprocAttr, w2, w3, h0]
  refine Thn_n ?_
  refine hK _ _ ?_
  clear hK K
  refine AW.ret ?_
  refine Thn_r ?_
  refine hQ _ _ _ ?_
  first | refine RetP.keep (Or.inr rfl) ?_ | refine RetP.keep (Or.inl rfl) ?_
  · rfl
  
theorem rsmall_0 (r rb v : Nat) (bs : List Int) (s : Nat × Int) (m : AMem) (h : RQ m r rb v bs s) (h0 : ¬ 32768 ≤ rdV bs 2 s) : Ctr Try.prog 55 [.one (.ptr r 0 0)] m (.one (.int .i64 (sg2 (rdV bs 2 s)))) (qM m r rb v bs (rdS bs.length 2 s)) := by
  refine Ctr.enter Try.func55 rfl (by decide) (rs := [.tmp 2]) (nt := 12) rfl rfl fun hwf Q hQ => ?_
  have hb2 := rdV_b h.hu 2 s
  have hb5 := rdV_b h.hu 5 s
  have hs2 := h.set (rdS_le (k := 2) h.hp)
  have hs5 := h.set (rdS_le (k := 5) h.hp)
  have e2 : (256 : Int) ^ 2 = 65536 := by decide
  have e5 : (256 : Int) ^ 5 = 1099511627776 := by decide
  rw [e2] at hb2
  rw [e5] at hb5
  have w2 : IntKind.i64.wrap (rdV bs 2 s) = rdV bs 2 s := wi (by omega)
  have w5 : IntKind.i64.wrap (rdV bs 5 s) = rdV bs 5 s := wi (by omega)
  have hs : sg2 (rdV bs 2 s) = rdV bs 2 s := by unfold sg2; rw [if_neg h0]
  have w3 : True := trivial
  rw [hs] at hQ
  refine AW.seq_k fun K hK => ?_
  refine AW.region (by decide) ?_
  simp only [push_cast, simprocAttr, w2, w3, h0]
  refine Thn_n ?_
  refine hK _ _ ?_
  clear hK K
  refine AW.seq_k fun K hK => ?_
  refine AW.region (by decide) ?_
  simp only [push_cast, simprocAttr, w2, w3, h0]
  refine CThen.by (rnum_c r rb v bs s _ h 2 (by decide)) ?_
  simp only [push_cast, simprocAttr, w2, w3, h0]
  refine Thn_n ?_
  refine hK _ _ ?_
  clear hK K
  refine AW.seq_k fun K hK => ?_
  refine AW.seq_k fun K hK => ?_
  refine AW.region (by decide) ?_
  simp only [push_cast, simprocAttr, w2, w3, h0]
  refine Thn_n ?_
  refine hK _ _ ?_
  clear hK K
  refine AW.cond_f rfl ?_
  refine AW.skip ?_
  refine Thn_n ?_
  refine hK _ _ ?_
  clear hK K
  refine AW.seq_k fun K hK => ?_
  refine AW.region (by decide) ?_
  simp only [push_cast, simprocAttr, w2, w3, h0]
  refine Thn_n ?_
  refine hK _ _ ?_
  clear hK K
  refine AW.ret ?_
  refine hQ _ _ _ ?_
  first | refine RetP.keep (Or.inr rfl) ?_ | refine RetP.keep (Or.inl rfl) ?_
  · rfl
  
theorem rsmall_c (r rb v : Nat) (bs : List Int) (s : Nat × Int) (m : AMem) (h : RQ m r rb v bs s) : Ctr Try.prog 55 [.one (.ptr r 0 0)] m (.one (.int .i64 (sg2 (rdV bs 2 s)))) (qM m r rb v bs (rdS bs.length 2 s)) := by
  rcases Classical.em (32768 ≤ rdV bs 2 s) with h0 | h0
  · exact rsmall_1 r rb v bs s m h h0
  · exact rsmall_0 r rb v bs s m h h0
theorem rfix_po (r rb v : Nat) (bs : List Int) (s : Nat × Int) (m : AMem) (h : RQ m r rb v bs s) (h0 : ¬ 549755813888 ≤ rdV bs 5 s) (h1 : 2147483648 < rdV bs 5 s) : Ctr Try.prog 53 [.one (.ptr r 0 0)] m (.one (.int .i64 0)) (qM m r rb v bs (flS 33 (rdS bs.length 5 s))) := by
  refine Ctr.enter Try.func53 rfl (by decide) (rs := [.tmp 2]) (nt := 26) rfl rfl fun hwf Q hQ => ?_
  have hb2 := rdV_b h.hu 2 s
  have hb5 := rdV_b h.hu 5 s
  have hs2 := h.set (rdS_le (k := 2) h.hp)
  have hs5 := h.set (rdS_le (k := 5) h.hp)
  have e2 : (256 : Int) ^ 2 = 65536 := by decide
  have e5 : (256 : Int) ^ 5 = 1099511627776 := by decide
  rw [e2] at hb2
  rw [e5] at hb5
  have w2 : IntKind.i64.wrap (rdV bs 2 s) = rdV bs 2 s := wi (by omega)
  have w5 : IntKind.i64.wrap (rdV bs 5 s) = rdV bs 5 s := wi (by omega)
  have hs : sg5 (rdV bs 5 s) = rdV bs 5 s := by unfold sg5; rw [if_neg h0]
  have w3 : True := trivial
  have hse : (rdS bs.length 5 s).2 = 0 := by
    rcases Classical.em (s.2 = 0) with a | a
    · rcases Classical.em (s.1 + 5 ≤ bs.length) with b | b
      · unfold rdS; rw [if_pos a, if_pos b]
      · exfalso; unfold rdV at *; rw [if_pos a, if_neg b] at *; omega
    · exfalso; unfold rdV at *; rw [if_neg a] at *; omega
  have hfl : flS 33 (rdS bs.length 5 s) = ((rdS bs.length 5 s).1, 33) := by unfold flS; rw [if_pos hse]
  rw [hfl] at hQ
  have gs : ∀ t, (qM m r rb v bs t)[r]? = some ⟨.fix, 94, 0, 0, [.sl rb v 0 bs.length, .int .i64 (t.1 : Int), .int .i64 t.2]⟩ := fun t => get_self h.lt
  have hM : ∀ t : Nat × Int, (qM m r rb v bs t).set r ⟨.fix, 94, 0, 0, [.sl rb v 0 bs.length, .int .i64 (t.1 : Int), .int .i64 33]⟩ = qM m r rb v bs (t.1, 33) := fun t => List.set_set ..
  refine AW.seq_k fun K hK => ?_
  refine AW.region (by decide) ?_
  simp only [push_cast, simprocAttr, w2, w5, w3, h0, h1, gs, hse, hM]
  refine Thn_n ?_
  refine hK _ _ ?_
  clear hK K
  refine AW.seq_k fun K hK => ?_
  refine AW.region (by decide) ?_
  simp only [push_cast, simprocAttr, w2, w5, w3, h0, h1, gs, hse, hM]
  refine CThen.by (rnum_c r rb v bs s _ h 5 (by decide)) ?_
  simp only [push_cast, simprocAttr, w2, w5, w3, h0, h1, gs, hse, hM]
  refine Thn_n ?_
  refine hK _ _ ?_
  clear hK K
  refine AW.seq_k fun K hK => ?_
  refine AW.seq_k fun K hK => ?_
  refine AW.region (by decide) ?_
  simp only [push_cast, simprocAttr, w2, w5, w3, h0, h1, gs, hse, hM]
  refine Thn_n ?_
  refine hK _ _ ?_
  clear hK K
  refine AW.cond_f rfl ?_
  refine AW.skip ?_
  refine Thn_n ?_
  refine hK _ _ ?_
  clear hK K
  iterate 2
    refine AW.seq_k fun K hK => ?_
    refine AW.seq_k fun K hK => ?_
    refine AW.region (by decide) ?_
    simp only [push_cast, simprocAttr, w2, w5, w3, h0, h1, gs, hse, hM]
    refine Thn_n ?_
    refine hK _ _ ?_
    clear hK K
    refine AW.cond_t rfl ?_
  refine AW.region (by decide) ?_
  simp only [push_cast, simprocAttr, w2, w5, w3, h0, h1, gs, hse, hM]
  refine Thn_n ?_
  refine hK _ _ ?_
  clear hK K
  refine AW.seq_k fun K hK => ?_
  refine AW.region (by decide) ?_
  simp only [push_cast, simprocAttr, w2, w5, w3, h0, h1, gs, hse, hM]
  refine Thn_n ?_
  refine hK _ _ ?_
  clear hK K
  refine AW.ret ?_
  refine Thn_r ?_
  refine hQ _ _ _ ?_
  first | refine RetP.keep (Or.inr rfl) ?_ | refine RetP.keep (Or.inl rfl) ?_
  · rfl
  
theorem rfix_pk (r rb v : Nat) (bs : List Int) (s : Nat × Int) (m : AMem) (h : RQ m r rb v bs s) (h0 : ¬ 549755813888 ≤ rdV bs 5 s) (h1 : ¬ 2147483648 < rdV bs 5 s) : Ctr Try.prog 53 [.one (.ptr r 0 0)] m (.one (.int .i64 (sg5 (rdV bs 5 s)))) (qM m r rb v bs (rdS bs.length 5 s)) := by
  refine Ctr.enter Try.func53 rfl (by decide) (rs := [.tmp 2]) (nt := 26) rfl rfl fun hwf Q hQ => ?_
  have hb2 := rdV_b h.hu 2 s
  have hb5 := rdV_b h.hu 5 s
  have hs2 := h.set (rdS_le (k := 2) h.hp)
  have hs5 := h.set (rdS_le (k := 5) h.hp)
  have e2 : (256 : Int) ^ 2 = 65536 := by decide
  have e5 : (256 : Int) ^ 5 = 1099511627776 := by decide
  rw [e2] at hb2
  rw [e5] at hb5
  have w2 : IntKind.i64.wrap (rdV bs 2 s) = rdV bs 2 s := wi (by omega)
  have w5 : IntKind.i64.wrap (rdV bs 5 s) = rdV bs 5 s := wi (by omega)
  have hs : sg5 (rdV bs 5 s) = rdV bs 5 s := by unfold sg5; rw [if_neg h0]
  have w3 : True := trivial
  have h3 : ¬ rdV bs 5 s < -2147483648 := by omega
  rw [hs] at hQ
  refine AW.seq_k fun K hK => ?_
  refine AW.region (by decide) ?_
  simp only [push_cast, simprocAttr, w2, w5, w3, h0, h1, h3]
  refine Thn_n ?_
  refine hK _ _ ?_
  clear hK K
  refine AW.seq_k fun K hK => ?_
  refine AW.region (by decide) ?_
  simp only [push_cast, simprocAttr, w2, w5, w3, h0, h1, h3]
  refine CThen.by (rnum_c r rb v bs s _ h 5 (by decide)) ?_
  simp only [push_cast, simprocAttr, w2, w5, w3, h0, h1, h3]
  iterate 2
    refine Thn_n ?_
    refine hK _ _ ?_
    clear hK K
    refine AW.seq_k fun K hK => ?_
    refine AW.seq_k fun K hK => ?_
    refine AW.region (by decide) ?_
    simp only [push_cast, simprocAttr, w2, w5, w3, h0, h1, h3]
    refine Thn_n ?_
    refine hK _ _ ?_
    clear hK K
    refine AW.cond_f rfl ?_
    refine AW.skip ?_
  refine Thn_n ?_
  refine hK _ _ ?_
  clear hK K
  refine AW.seq_k fun K hK => ?_
  refine AW.region (by decide) ?_
  simp only [push_cast, simprocAttr, w2, w5, w3, h0, h1, h3]
  refine Thn_n ?_
  refine hK _ _ ?_
  clear hK K
  refine AW.ret ?_
  refine hQ _ _ _ ?_
  first | refine RetP.keep (Or.inr rfl) ?_ | refine RetP.keep (Or.inl rfl) ?_
  · rfl
  
theorem rfix_no (r rb v : Nat) (bs : List Int) (s : Nat × Int) (m : AMem) (h : RQ m r rb v bs s) (h0 : 549755813888 ≤ rdV bs 5 s) (h1 : rdV bs 5 s - 1099511627776 < -2147483648) : Ctr Try.prog 53 [.one (.ptr r 0 0)] m (.one (.int .i64 0)) (qM m r rb v bs (flS 33 (rdS bs.length 5 s))) := by
  refine Ctr.enter Try.func53 rfl (by decide) (rs := [.tmp 2]) (nt := 26) rfl rfl fun hwf Q hQ => ?_
  have hb2 := rdV_b h.hu 2 s
  have hb5 := rdV_b h.hu 5 s
  have hs2 := h.set (rdS_le (k := 2) h.hp)
  have hs5 := h.set (rdS_le (k := 5) h.hp)
  have e2 : (256 : Int) ^ 2 = 65536 := by decide
  have e5 : (256 : Int) ^ 5 = 1099511627776 := by decide
  rw [e2] at hb2
  rw [e5] at hb5
  have w2 : IntKind.i64.wrap (rdV bs 2 s) = rdV bs 2 s := wi (by omega)
  have w5 : IntKind.i64.wrap (rdV bs 5 s) = rdV bs 5 s := wi (by omega)
  have hs : sg5 (rdV bs 5 s) = rdV bs 5 s - 1099511627776 := by unfold sg5; rw [if_pos h0]
  have w3 : IntKind.i64.wrap (rdV bs 5 s - 1099511627776) = rdV bs 5 s - 1099511627776 := wi (by omega)
  have h2 : ¬ 2147483648 < rdV bs 5 s - 1099511627776 := by omega
  have hse : (rdS bs.length 5 s).2 = 0 := by
    rcases Classical.em (s.2 = 0) with a | a
    · rcases Classical.em (s.1 + 5 ≤ bs.length) with b | b
      · unfold rdS; rw [if_pos a, if_pos b]
      · exfalso; unfold rdV at *; rw [if_pos a, if_neg b] at *; omega
    · exfalso; unfold rdV at *; rw [if_neg a] at *; omega
  have hfl : flS 33 (rdS bs.length 5 s) = ((rdS bs.length 5 s).1, 33) := by unfold flS; rw [if_pos hse]
  rw [hfl] at hQ
  have gs : ∀ t, (qM m r rb v bs t)[r]? = some ⟨.fix, 94, 0, 0, [.sl rb v 0 bs.length, .int .i64 (t.1 : Int), .int .i64 t.2]⟩ := fun t => get_self h.lt
  have hM : ∀ t : Nat × Int, (qM m r rb v bs t).set r ⟨.fix, 94, 0, 0, [.sl rb v 0 bs.length, .int .i64 (t.1 : Int), .int .i64 33]⟩ = qM m r rb v bs (t.1, 33) := fun t => List.set_set ..
  refine AW.seq_k fun K hK => ?_
  refine AW.region (by decide) ?_
  simp only [push_cast, simprocAttr, w2, w5, w3, h0, h1, h2, gs, hse, hM]
  refine Thn_n ?_
  refine hK _ _ ?_
  clear hK K
  refine AW.seq_k fun K hK => ?_
  refine AW.region (by decide) ?_
  simp only [push_cast, simprocAttr, w2, w5, w3, h0, h1, h2, gs, hse, hM]
  refine CThen.by (rnum_c r rb v bs s _ h 5 (by decide)) ?_
  simp only [push_cast, simprocAttr, w2, w5, w3, h0, h1, h2, gs, hse, hM]
  refine Thn_n ?_
  refine hK _ _ ?_
  clear hK K
  refine AW.seq_k fun K hK => ?_
  refine AW.seq_k fun K hK => ?_
  refine AW.region (by decide) ?_
  simp only [push_cast, simprocAttr, w2, w5, w3, h0, h1, h2, gs, hse, hM]
  refine Thn_n ?_
  refine hK _ _ ?_
  clear hK K
  refine AW.cond_t rfl ?_
  refine AW.region (by decide) ?_
  simp only [push_cast, simprocAttr, w2, w5, w3, h0, h1, h2, gs, hse, hM]
  refine Thn_n ?_
  refine hK _ _ ?_
  clear hK K
  iterate 2
    refine AW.seq_k fun K hK => ?_
    refine AW.seq_k fun K hK => ?_
    refine AW.region (by decide) ?_
    simp only [push_cast, simprocAttr, w2, w5, w3, h0, h1, h2, gs, hse, hM]
    refine Thn_n ?_
    refine hK _ _ ?_
    clear hK K
    refine AW.cond_t rfl ?_
  refine AW.region (by decide) ?_
  simp only [push_cast, simprocAttr, w2, w5, w3, h0, h1, h2, gs, hse, hM]
  refine Thn_n ?_
  refine hK _ _ ?_
  clear hK K
  refine AW.seq_k fun K hK => ?_
  refine AW.region (by decide) ?_
  simp only [push_cast, simprocAttr, w2, w5, w3, h0, h1, h2, gs, hse, hM]
  refine Thn_n ?_
  refine hK _ _ ?_
  clear hK K
  refine AW.ret ?_
  refine Thn_r ?_
  refine hQ _ _ _ ?_
  first | refine RetP.keep (Or.inr rfl) ?_ | refine RetP.keep (Or.inl rfl) ?_
  · rfl
  
theorem rfix_nk (r rb v : Nat) (bs : List Int) (s : Nat × Int) (m : AMem) (h : RQ m r rb v bs s) (h0 : 549755813888 ≤ rdV bs 5 s) (h1 : ¬ rdV bs 5 s - 1099511627776 < -2147483648) : Ctr Try.prog 53 [.one (.ptr r 0 0)] m (.one (.int .i64 (sg5 (rdV bs 5 s)))) (qM m r rb v bs (rdS bs.length 5 s)) := by
  refine Ctr.enter Try.func53 rfl (by decide) (rs := [.tmp 2]) (nt := 26) rfl rfl fun hwf Q hQ => ?_
  have hb2 := rdV_b h.hu 2 s
  have hb5 := rdV_b h.hu 5 s
  have hs2 := h.set (rdS_le (k := 2) h.hp)
  have hs5 := h.set (rdS_le (k := 5) h.hp)
  have e2 : (256 : Int) ^ 2 = 65536 := by decide
  have e5 : (256 : Int) ^ 5 = 1099511627776 := by decide
  rw [e2] at hb2
  rw [e5] at hb5
  have w2 : IntKind.i64.wrap (rdV bs 2 s) = rdV bs 2 s := wi (by omega)
  have w5 : IntKind.i64.wrap (rdV bs 5 s) = rdV bs 5 s := wi (by omega)
  have hs : sg5 (rdV bs 5 s) = rdV bs 5 s - 1099511627776 := by unfold sg5; rw [if_pos h0]
  have w3 : IntKind.i64.wrap (rdV bs 5 s - 1099511627776) = rdV bs 5 s - 1099511627776 := wi (by omega)
  have h2 : ¬ 2147483648 < rdV bs 5 s - 1099511627776 := by omega
  rw [hs] at hQ
  refine AW.seq_k fun K hK => ?_
  refine AW.region (by decide) ?_
  simp only [push_cast, simprocAttr, w2, w5, w3, h0, h1, h2]
  refine Thn_n ?_
  refine hK _ _ ?_
  clear hK K
  refine AW.seq_k fun K hK => ?_
  refine AW.region (by decide) ?_
  simp only [push_cast, simprocAttr, w2, w5, w3, h0, h1, h2]
  refine CThen.by (rnum_c r rb v bs s _ h 5 (by decide)) ?_
  simp only [push_cast, simprocAttr, w2, w5, w3, h0, h1, h2]
  refine Thn_n ?_
  refine hK _ _ ?_
  clear hK K
  refine AW.seq_k fun K hK => ?_
  refine AW.seq_k fun K hK => ?_
  refine AW.region (by decide) ?_
  simp only [push_cast, simprocAttr, w2, w5, w3, h0, h1, h2]
  refine Thn_n ?_
  refine hK _ _ ?_
  clear hK K
  refine AW.cond_t rfl ?_
  refine AW.region (by decide) ?_
  simp only [push_cast, simprocAttr, w2, w5, w3, h0, h1, h2]
  refine Thn_n ?_
  refine hK _ _ ?_
  clear hK K
  refine AW.seq_k fun K hK => ?_
  refine AW.seq_k fun K hK => ?_
  refine AW.region (by decide) ?_
  simp only [push_cast, simprocAttr, w2, w5, w3, h0, h1, h2]
  refine Thn_n ?_
  refine hK _ _ ?_
  clear hK K
  refine AW.cond_f rfl ?_
  refine AW.skip ?_
  refine Thn_n ?_
  refine hK _ _ ?_
  clear hK K
  refine AW.seq_k fun K hK => ?_
  refine AW.region (by decide) ?_
  simp only [push_cast, simprocAttr, w2, w5, w3, h0, h1, h2]
  refine Thn_n ?_
  refine hK _ _ ?_
  clear hK K
  refine AW.ret ?_
  refine hQ _ _ _ ?_
  first | refine RetP.keep (Or.inr rfl) ?_ | refine RetP.keep (Or.inl rfl) ?_
  · rfl
  
theorem rfix_c (r rb v : Nat) (bs : List Int) (s : Nat × Int) (m : AMem) (h : RQ m r rb v bs s) : Ctr Try.prog 53 [.one (.ptr r 0 0)] m (.one (.int .i64 (fixV bs s))) (qM m r rb v bs (fixS bs s)) := by
  have hb5 := rdV_b h.hu 5 s
  have e5 : (256 : Int) ^ 5 = 1099511627776 := by decide
  rw [e5] at hb5
  unfold fixV fixS
  rcases Classical.em (549755813888 ≤ rdV bs 5 s) with h0 | h0
  · have hs : sg5 (rdV bs 5 s) = rdV bs 5 s - 1099511627776 := by unfold sg5; rw [if_pos h0]
    rcases Classical.em (rdV bs 5 s - 1099511627776 < -2147483648) with h1 | h1
    · have e : overB (sg5 (rdV bs 5 s)) = true := by unfold overB; rw [hs, decide_eq_true h1, Bool.or_true]
      simp only [e, if_true]; exact rfix_no r rb v bs s m h h0 h1
    · have e : overB (sg5 (rdV bs 5 s)) = false := by unfold overB; rw [hs, decide_eq_false h1, decide_eq_false (by omega)]; rfl
      simp only [e, if_false, Bool.false_eq_true]; exact rfix_nk r rb v bs s m h h0 h1
  · have hs : sg5 (rdV bs 5 s) = rdV bs 5 s := by unfold sg5; rw [if_neg h0]
    rcases Classical.em (2147483648 < rdV bs 5 s) with h1 | h1
    · have e : overB (sg5 (rdV bs 5 s)) = true := by unfold overB; rw [hs, decide_eq_true h1, Bool.true_or]
      simp only [e, if_true]; exact rfix_po r rb v bs s m h h0 h1
    · have e : overB (sg5 (rdV bs 5 s)) = false := by unfold overB; rw [hs, decide_eq_false h1, decide_eq_false (by omega)]; rfl
      simp only [e, if_false, Bool.false_eq_true]; exact rfix_pk r rb v bs s m h h0 h1
end Go.Proofs.Ytgbehbaecdepjaa
