/- Walks and facts of this seat's program over abstract states, printed by a program of mine; no conditions but those that each theorem names. -/
import Derived.Test.YtgbehbaecdepjaaFilmH
set_option linter.unusedSimpArgs false
set_option linter.unusedVariables false
set_option maxRecDepth 100000
set_option maxHeartbeats 4000000
namespace Go.Proofs.Ytgbehbaecdepjaa
open Go Go.Eng

theorem numV_s (bs : List Int) : ∀ (k p : Nat), numV bs p (k + 1) = numV bs p k + 256 ^ k * byB bs (p + k)
  | 0, p => by simp [numV]
  | k + 1, p => by
    have ih := numV_s bs k (p + 1)
    have e : (256 : Int) ^ (k + 1) = 256 * 256 ^ k := by rw [Int.pow_succ, Int.mul_comm]
    rw [numV, ih, e, numV, show p + 1 + k = p + (k + 1) by omega, Int.mul_add, Int.mul_assoc]; omega
theorem pow256 (i : Nat) : (256 : Int) ^ i = ((2 ^ (8 * i) : Nat) : Int) := by
  rw [Nat.pow_mul]; simp
theorem or_num {bs : List Int} (hu : ∀ i, 0 ≤ byB bs i ∧ byB bs i ≤ 255) (p i : Nat) (hi : i ≤ 6) : bits .or .u64 (numV bs p i) (IntKind.u64.wrap (byB bs (p + i) * 256 ^ i)) = numV bs p (i + 1) := by
  rw [numV_s, Int.mul_comm (256 ^ i)]
  obtain ⟨a0, a1⟩ := numV_b hu i p
  obtain ⟨b0, b1⟩ := hu (p + i)
  generalize numV bs p i = a at *
  generalize byB bs (p + i) = b at *
  rw [pow256] at a1 ⊢
  obtain ⟨A, rfl⟩ := Int.eq_ofNat_of_zero_le a0
  obtain ⟨B, rfl⟩ := Int.eq_ofNat_of_zero_le b0
  have h1 : A < 2 ^ (8 * i) := by omega
  have h2 : 2 ^ (8 * i) ≤ 2 ^ 48 := Nat.pow_le_pow_right (by decide) (by omega)
  have e48 : 2 ^ 48 = 281474976710656 := by decide
  rw [e48] at h2
  have h3 : B * 2 ^ (8 * i) ≤ 255 * 281474976710656 := Nat.mul_le_mul (by omega) h2
  have hw : IntKind.u64.wrap ((B : Int) * ((2 ^ (8 * i) : Nat) : Int)) = ((B * 2 ^ (8 * i) : Nat) : Int) := by
    rw [IntKind.wrap_u64, ← Int.natCast_mul]
    generalize B * 2 ^ (8 * i) = T at *
    omega
  rw [hw]
  have hb := (bits_nat .u64 63 (by decide) (fun n h0 h1 => by rw [IntKind.wrap_u64]; have e63 : (2 : Int) ^ 63 = 9223372036854775808 := by decide
                                                              omega) A (B * 2 ^ (8 * i)) (by have : 2 ^ 63 = 9223372036854775808 := by decide
                                                                                             omega) (by have : 2 ^ 63 = 9223372036854775808 := by decide
                                                                                                        omega)).2
  rw [hb, Nat.or_comm, Nat.mul_comm, ← Nat.two_pow_add_eq_or_of_lt h1]
  push_cast
  have := Int.mul_comm (B : Int) ((2 : Int) ^ (8 * i))
  omega
theorem pM_wf {L : Nat} {m : AMem} {r rb v : Nat} {bs : List Int} {s : Nat × Int} (hb : rb < L) (h : MWf L m) : MWf L (pM m r rb v bs s) := fun b hm => by
  rcases List.mem_or_eq_of_mem_set hm with h1 | rfl
  · exact h b h1
  · show List.all [cP rb v bs.length s, .int .i64 s.2] (CV.below L) = true
    unfold cP; split <;> simp [CV.below, hb]
theorem raw_e (r rb v : Nat) (bs : List Int) (p : Nat) (e : Int) (k : Nat) (he : (e != 0) = true) (m : AMem) (h : RP m r rb v bs (p, e)) : Ctr Try.prog 63 [.one (.ptr r 0 0), .one (.int .i64 (k : Int))] m (.one (.int .u64 0)) m := by
  refine Ctr.enter Try.func63 rfl (by decide) (rs := [.tmp 4]) (nt := 26) rfl rfl fun hwf Q hQ => ?_
  iterate 2
    refine AW.seq_k fun K hK => ?_
    refine AW.region (by decide) ?_
    simp only [push_cast, simprocAttr]
    refine Thn_n ?_
    refine hK _ _ ?_
    clear hK K
  refine AW.seq_k fun K hK => ?_
  refine AW.seq_k fun K hK => ?_
  refine AW.region (by decide) ?_
  simp only [push_cast, simprocAttr]
  refine CThen.by (take_e r rb v bs p e k he _ h) ?_
  simp only [push_cast, simprocAttr]
  refine Thn_n ?_
  refine hK _ _ ?_
  clear hK K
  refine AW.block ?_
  refine AW.rounds 1 ?_
  refine ARounds.succ fun K hK => ?_
  refine AW.seq_k fun K hK => ?_
  refine AW.region (by decide) ?_
  simp only [push_cast, simprocAttr]
  refine Thn_n ?_
  refine hK _ _ ?_
  clear hK K
  refine AW.seq_k fun K hK => ?_
  refine AW.cond_f rfl ?_
  refine AW.exit ?_
  refine Thn_e ?_
  clear hK K
  refine Thn_e ?_
  clear hK K
  refine InB_here ?_
  refine Thn_n ?_
  refine hK _ _ ?_
  clear hK K
  refine AW.seq_k fun K hK => ?_
  refine AW.region (by decide) ?_
  simp only [push_cast, simprocAttr]
  refine Thn_n ?_
  refine hK _ _ ?_
  clear hK K
  refine AW.ret ?_
  refine hQ _ _ _ ?_
  first | refine RetP.keep (Or.inr rfl) ?_ | refine RetP.keep (Or.inl rfl) ?_
  · rfl
  
theorem raw_s (r rb v : Nat) (bs : List Int) (p k : Nat) (hk : bs.length < p + k) (m : AMem) (h : RP m r rb v bs (p, 0)) : Ctr Try.prog 63 [.one (.ptr r 0 0), .one (.int .i64 (k : Int))] m (.one (.int .u64 0)) (pM m r rb v bs (p, 9)) := by
  refine Ctr.enter Try.func63 rfl (by decide) (rs := [.tmp 4]) (nt := 26) rfl rfl fun hwf Q hQ => ?_
  iterate 2
    refine AW.seq_k fun K hK => ?_
    refine AW.region (by decide) ?_
    simp only [push_cast, simprocAttr]
    refine Thn_n ?_
    refine hK _ _ ?_
    clear hK K
  refine AW.seq_k fun K hK => ?_
  refine AW.seq_k fun K hK => ?_
  refine AW.region (by decide) ?_
  simp only [push_cast, simprocAttr]
  refine CThen.by (take_s r rb v bs p k hk _ h) ?_
  simp only [push_cast, simprocAttr]
  refine Thn_n ?_
  refine hK _ _ ?_
  clear hK K
  refine AW.block ?_
  refine AW.rounds 1 ?_
  refine ARounds.succ fun K hK => ?_
  refine AW.seq_k fun K hK => ?_
  refine AW.region (by decide) ?_
  simp only [push_cast, simprocAttr]
  refine Thn_n ?_
  refine hK _ _ ?_
  clear hK K
  refine AW.seq_k fun K hK => ?_
  refine AW.cond_f rfl ?_
  refine AW.exit ?_
  refine Thn_e ?_
  clear hK K
  refine Thn_e ?_
  clear hK K
  refine InB_here ?_
  refine Thn_n ?_
  refine hK _ _ ?_
  clear hK K
  refine AW.seq_k fun K hK => ?_
  refine AW.region (by decide) ?_
  simp only [push_cast, simprocAttr]
  refine Thn_n ?_
  refine hK _ _ ?_
  clear hK K
  refine AW.ret ?_
  refine hQ _ _ _ ?_
  first | refine RetP.keep (Or.inr rfl) ?_ | refine RetP.keep (Or.inl rfl) ?_
  · rfl
  
theorem raw_k (r rb v : Nat) (bs : List Int) (p k : Nat) (hk6 : k ≤ 6) (hk : p + k ≤ bs.length) (m : AMem) (h : RP m r rb v bs (p, 0)) : Ctr Try.prog 63 [.one (.ptr r 0 0), .one (.int .i64 (k : Int))] m (.one (.int .u64 (numV bs p k))) (pM m r rb v bs (p + k, 0)) := by
  refine Ctr.enter Try.func63 rfl (by decide) (rs := [.tmp 4]) (nt := 26) rfl rfl fun hwf Q hQ => ?_
  have hu := h.hu
  obtain ⟨kb, eb, hb⟩ := (h.set (t := (p + k, 0)) (by exact hk)).hb
  iterate 2
    refine AW.seq_k fun K hK => ?_
    refine AW.region (by decide) ?_
    simp only [push_cast, simprocAttr, hb]
    refine Thn_n ?_
    refine hK _ _ ?_
    clear hK K
  refine AW.seq_k fun K hK => ?_
  refine AW.seq_k fun K hK => ?_
  refine AW.region (by decide) ?_
  simp only [push_cast, simprocAttr, hb]
  refine CThen.by (take_k r rb v bs p k hk _ h) ?_
  simp only [push_cast, simprocAttr, hb]
  refine Thn_n ?_
  refine hK _ _ ?_
  clear hK K
  refine AW.block ?_
  refine AW.loopK [10, 11] (fun i => i ≤ k) (fun i => [(5, .one (.int .u64 (numV bs p i))), (12, .one (.int .i64 (i : Int)))]) (fun i => []) (fun i => k - i) 0 (by omega) ?_ ?_ fun i hi5 => ?_
  · first | rfl | (simp only [Keeps, Tm.get_cons, Nat.reduceEqDiff, ↓reduceIte, if_true, if_false, ite_true, ite_false, true_and, and_true, and_self, reduceCtorEq, numV] <;> rfl)
  · first | rfl | (simp only [setAll, push_cast, simprocAttr, hb, numV] <;> rfl)
  try simp only [keepL, setAll, push_cast, simprocAttr, hb]
  refine AW.seq_k fun K hK => ?_
  refine AW.region (by decide) ?_
  simp only [push_cast, simprocAttr, hb]
  refine Thn_n ?_
  refine hK _ _ ?_
  clear hK K
  refine AW.seq_k fun K hK => ?_
  refine AW.cond rfl (fun h13 => ?_) (fun h13 => ?_)
  · have hlt : i < k := by have := of_decide_eq_true h13; omega
    have c1 : (0 : Int) ≤ (i : Int) := by omega
    have c2 : (i : Int) < (k : Int) := by omega
    have g := u8l_get (bs := bs) (i := p + i) (by omega)
    have hbi := hu (p + i)
    have w1 : IntKind.u64.wrap (byB bs (p + i)) = byB bs (p + i) := by rw [IntKind.wrap_u64]; omega
    have w2 : IntKind.i64.wrap (8 * (i : Int)) = 8 * (i : Int) := wi (by omega)
    have w3 : ¬ 8 * (i : Int) < 0 := by omega
    have w4 : (2 : Int) ^ min (8 * (i : Int)).toNat IntKind.u64.bits = 256 ^ i := by
      rw [show (8 * (i : Int)).toNat = 8 * i by omega, show min (8 * i) IntKind.u64.bits = 8 * i from Nat.min_eq_left (by simp only [IntKind.bits]; omega), pow256]; simp
    have w5 := or_num hu p i (by omega)
    have c3 : p + i ≤ bs.length := by omega
    refine AW.skip ?_
    refine Thn_n ?_
    refine hK _ _ ?_
    clear hK K
    refine AW.seq_k fun K hK => ?_
    refine AW.block ?_
    refine AW.seq_k fun K hK => ?_
    refine AW.region (by decide) ?_
    simp only [push_cast, simprocAttr, hb, c1, c2, g, w1, w2, w3, w4, w5]
    refine Thn_n ?_
    refine hK _ _ ?_
    clear hK K
    refine AW.region (by decide) ?_
    simp only [push_cast, simprocAttr, hb, c1, c2, g, w1, w2, w3, w4, w5]
    refine InB_n ?_
    refine Thn_n ?_
    refine hK _ _ ?_
    clear hK K
    refine AW.region (by decide) ?_
    simp only [push_cast, simprocAttr, hb, c1, c2, g, w1, w2, w3, w4, w5]
    refine Thn_n ?_
    have hwi : IntKind.i64.wrap ((i:Int)+1) = (i:Int)+1 := wi (by omega)
    refine ⟨i + 1, by omega, by omega, ?_⟩
    try simp only [keepL, setAll, push_cast, simprocAttr, hb, c1, c2, g, w1, w2, w3, w4, w5, hwi]
    exact Weak.same (by simp only [Keeps, Tm.get_cons, Nat.reduceEqDiff, ↓reduceIte, if_true, if_false, ite_true, ite_false, true_and, and_true, and_self, reduceCtorEq, hwi]) (by first | rfl | simp only [Keeps, Tm.get_cons, Nat.reduceEqDiff, ↓reduceIte, if_true, if_false, ite_true, ite_false, true_and, and_true, and_self, reduceCtorEq, hwi])
  · have hin : k = i := by have := of_decide_eq_false h13; omega
    subst hin
    refine AW.exit ?_
    refine Thn_e ?_
    clear hK K
    refine Thn_e ?_
    refine InB_here ?_
    refine Thn_n ?_
    refine hK _ _ ?_
    clear hK K
    refine AW.seq_k fun K hK => ?_
    refine AW.region (by decide) ?_
    simp only [push_cast, simprocAttr, hb]
    refine Thn_n ?_
    refine hK _ _ ?_
    clear hK K
    refine AW.ret ?_
    refine hQ _ _ _ ?_
    first | refine RetP.keep (Or.inr rfl) ?_ | refine RetP.keep (Or.inl rfl) ?_
    · rfl
    
theorem rdraw_c (r rb v : Nat) (bs : List Int) (s : Nat × Int) (m : AMem) (h : RP m r rb v bs s) (k : Nat) (hk6 : k ≤ 6) : Ctr Try.prog 63 [.one (.ptr r 0 0), .one (.int .i64 (k : Int))] m (.one (.int .u64 (rdV bs k s))) (pM m r rb v bs (rdS bs.length k s)) := by
  obtain ⟨p, e⟩ := s
  unfold rdV rdS
  by_cases he : e = 0
  · subst he
    simp only [if_true]
    by_cases hk : p + k ≤ bs.length
    · rw [if_pos hk, if_pos hk]; exact raw_k r rb v bs p k hk6 hk m h
    · rw [if_neg hk, if_neg hk]; exact raw_s r rb v bs p k (by omega) m h
  · simp only [he, if_false]
    rw [pM_self h]; exact raw_e r rb v bs p e k (by simpa using he) m h
theorem rdV_b {bs : List Int} (hu : ∀ i, 0 ≤ byB bs i ∧ byB bs i ≤ 255) (k : Nat) (s : Nat × Int) : 0 ≤ rdV bs k s ∧ rdV bs k s < (256 : Int) ^ k := by
  have := numV_b hu k s.1
  have h0 : (0 : Int) < 256 ^ k := Int.pow_pos (by decide)
  unfold rdV; (repeat' split) <;> omega
/-- Signed numbers of two, of five bytes. -/
theorem wrap16 (x : Int) : IntKind.i16.wrap x = if 32768 ≤ x % 65536 then x % 65536 - 65536 else x % 65536 := by
  simp [IntKind.wrap, IntKind.signed, IntKind.bits]
def sg2 (x : Int) : Int := if 32768 ≤ x then x - 65536 else x
def sg5 (x : Int) : Int := if 549755813888 ≤ x then x - 1099511627776 else x
def overB (x : Int) : Bool := decide (2147483648 < x) || decide (x < -2147483648)
def fixS (bs : List Int) (s : Nat × Int) : Nat × Int := if overB (sg5 (rdV bs 5 s)) then flS 33 (rdS bs.length 5 s) else rdS bs.length 5 s
def fixV (bs : List Int) (s : Nat × Int) : Int := if overB (sg5 (rdV bs 5 s)) then 0 else sg5 (rdV bs 5 s)
theorem fixS_le {bs : List Int} {s : Nat × Int} (h : s.1 ≤ bs.length) : (fixS bs s).1 ≤ bs.length := by unfold fixS; split; exact flS_le (rdS_le h); exact rdS_le h
theorem half_c (r rb v : Nat) (bs : List Int) (s : Nat × Int) (m : AMem) (h : RP m r rb v bs s) : Ctr Try.prog 60 [.one (.ptr r 0 0)] m (.one (.int .i64 (rdV bs 2 s))) (pM m r rb v bs (rdS bs.length 2 s)) := by
  refine Ctr.enter Try.func60 rfl (by decide) (rs := [.tmp 2]) (nt := 6) rfl rfl fun hwf Q hQ => ?_
  have hb2 := rdV_b h.hu 2 s
  have hb5 := rdV_b h.hu 5 s
  have hs2 := h.set (rdS_le (k := 2) h.hp)
  have hs5 := h.set (rdS_le (k := 5) h.hp)
  have w : IntKind.i64.wrap (rdV bs 2 s) = rdV bs 2 s := wi (by omega)
  refine AW.seq_k fun K hK => ?_
  refine AW.region (by decide) ?_
  simp only [push_cast, simprocAttr, w]
  refine Thn_n ?_
  refine hK _ _ ?_
  clear hK K
  refine AW.seq_k fun K hK => ?_
  refine AW.region (by decide) ?_
  simp only [push_cast, simprocAttr, w]
  refine CThen.by (rdraw_c r rb v bs s _ h 2 (by decide)) ?_
  simp only [push_cast, simprocAttr, w]
  refine Thn_n ?_
  refine hK _ _ ?_
  clear hK K
  refine AW.ret ?_
  refine hQ _ _ _ ?_
  first | refine RetP.keep (Or.inr rfl) ?_ | refine RetP.keep (Or.inl rfl) ?_
  · rfl
  
theorem small_c (r rb v : Nat) (bs : List Int) (s : Nat × Int) (m : AMem) (h : RP m r rb v bs s) : Ctr Try.prog 50 [.one (.ptr r 0 0)] m (.one (.int .i64 (sg2 (rdV bs 2 s)))) (pM m r rb v bs (rdS bs.length 2 s)) := by
  refine Ctr.enter Try.func50 rfl (by decide) (rs := [.tmp 2]) (nt := 7) rfl rfl fun hwf Q hQ => ?_
  have hb2 := rdV_b h.hu 2 s
  have hb5 := rdV_b h.hu 5 s
  have hs2 := h.set (rdS_le (k := 2) h.hp)
  have hs5 := h.set (rdS_le (k := 5) h.hp)
  have w : IntKind.i64.wrap (IntKind.i16.wrap (rdV bs 2 s)) = sg2 (rdV bs 2 s) := by
    unfold sg2
    have e2 : (256 : Int) ^ 2 = 65536 := by decide
    rw [e2] at hb2
    rw [wrap16, IntKind.wrap_i64]; (repeat' split) <;> omega
  refine AW.seq_k fun K hK => ?_
  refine AW.region (by decide) ?_
  simp only [push_cast, simprocAttr, w]
  refine Thn_n ?_
  refine hK _ _ ?_
  clear hK K
  refine AW.seq_k fun K hK => ?_
  refine AW.region (by decide) ?_
  simp only [push_cast, simprocAttr, w]
  refine CThen.by (rdraw_c r rb v bs s _ h 2 (by decide)) ?_
  simp only [push_cast, simprocAttr, w]
  refine Thn_n ?_
  refine hK _ _ ?_
  clear hK K
  refine AW.ret ?_
  refine hQ _ _ _ ?_
  first | refine RetP.keep (Or.inr rfl) ?_ | refine RetP.keep (Or.inl rfl) ?_
  · rfl
  
theorem fix_1 (r rb v : Nat) (bs : List Int) (s : Nat × Int) (m : AMem) (h : RP m r rb v bs s) (ho : 2147483648 < sg5 (rdV bs 5 s)) : Ctr Try.prog 47 [.one (.ptr r 0 0)] m (.one (.int .i64 0)) (pM m r rb v bs (flS 33 (rdS bs.length 5 s))) := by
  refine Ctr.enter Try.func47 rfl (by decide) (rs := [.tmp 2]) (nt := 18) rfl rfl fun hwf Q hQ => ?_
  have hb2 := rdV_b h.hu 2 s
  have hb5 := rdV_b h.hu 5 s
  have hs2 := h.set (rdS_le (k := 2) h.hp)
  have hs5 := h.set (rdS_le (k := 5) h.hp)
  have p24 : (2 : Int) ^ min 24 IntKind.u64.bits = 16777216 := by decide
  have p24b : (2 : Int) ^ min 24 IntKind.i64.bits = 16777216 := by decide
  have w : (IntKind.i64.wrap (IntKind.u64.wrap (rdV bs 5 s * 16777216))).fdiv 16777216 = sg5 (rdV bs 5 s) := by
    rw [Int.fdiv_eq_ediv_of_nonneg _ (by decide), IntKind.wrap_u64, IntKind.wrap_i64]
    unfold sg5
    have e5 : (256 : Int) ^ 5 = 1099511627776 := by decide
    rw [e5] at hb5
    split <;> omega
  
  refine AW.seq_k fun K hK => ?_
  refine AW.region (by decide) ?_
  simp only [push_cast, simprocAttr, p24, p24b, w, ho, pM_two]
  refine Thn_n ?_
  refine hK _ _ ?_
  clear hK K
  refine AW.seq_k fun K hK => ?_
  refine AW.region (by decide) ?_
  simp only [push_cast, simprocAttr, p24, p24b, w, ho, pM_two]
  refine CThen.by (rdraw_c r rb v bs s _ h 5 (by decide)) ?_
  simp only [push_cast, simprocAttr, p24, p24b, w, ho, pM_two]
  refine Thn_n ?_
  refine hK _ _ ?_
  clear hK K
  refine AW.seq_k fun K hK => ?_
  refine AW.seq_k fun K hK => ?_
  refine AW.region (by decide) ?_
  simp only [push_cast, simprocAttr, p24, p24b, w, ho, pM_two]
  refine Thn_n ?_
  refine hK _ _ ?_
  clear hK K
  refine AW.cond_t rfl ?_
  refine AW.seq_k fun K hK => ?_
  refine AW.region (by decide) ?_
  simp only [push_cast, simprocAttr, p24, p24b, w, ho, pM_two]
  refine CThen.by (fail_c r rb v bs _ 33 _ hs5 (by decide)) ?_
  simp only [push_cast, simprocAttr, p24, p24b, w, ho, pM_two]
  refine Thn_n ?_
  refine hK _ _ ?_
  clear hK K
  refine AW.seq_k fun K hK => ?_
  refine AW.region (by decide) ?_
  simp only [push_cast, simprocAttr, p24, p24b, w, ho, pM_two]
  refine Thn_n ?_
  refine hK _ _ ?_
  clear hK K
  refine AW.ret ?_
  refine Thn_r ?_
  refine hQ _ _ _ ?_
  first | refine RetP.keep (Or.inr rfl) ?_ | refine RetP.keep (Or.inl rfl) ?_
  · rfl
  
theorem fix_2 (r rb v : Nat) (bs : List Int) (s : Nat × Int) (m : AMem) (h : RP m r rb v bs s) (ho0 : ¬ 2147483648 < sg5 (rdV bs 5 s)) (ho : sg5 (rdV bs 5 s) < -2147483648) : Ctr Try.prog 47 [.one (.ptr r 0 0)] m (.one (.int .i64 0)) (pM m r rb v bs (flS 33 (rdS bs.length 5 s))) := by
  refine Ctr.enter Try.func47 rfl (by decide) (rs := [.tmp 2]) (nt := 18) rfl rfl fun hwf Q hQ => ?_
  have hb2 := rdV_b h.hu 2 s
  have hb5 := rdV_b h.hu 5 s
  have hs2 := h.set (rdS_le (k := 2) h.hp)
  have hs5 := h.set (rdS_le (k := 5) h.hp)
  have p24 : (2 : Int) ^ min 24 IntKind.u64.bits = 16777216 := by decide
  have p24b : (2 : Int) ^ min 24 IntKind.i64.bits = 16777216 := by decide
  have w : (IntKind.i64.wrap (IntKind.u64.wrap (rdV bs 5 s * 16777216))).fdiv 16777216 = sg5 (rdV bs 5 s) := by
    rw [Int.fdiv_eq_ediv_of_nonneg _ (by decide), IntKind.wrap_u64, IntKind.wrap_i64]
    unfold sg5
    have e5 : (256 : Int) ^ 5 = 1099511627776 := by decide
    rw [e5] at hb5
    split <;> omega
  
  refine AW.seq_k fun K hK => ?_
  refine AW.region (by decide) ?_
  simp only [push_cast, simprocAttr, p24, p24b, w, ho0, ho, pM_two]
  refine Thn_n ?_
  refine hK _ _ ?_
  clear hK K
  refine AW.seq_k fun K hK => ?_
  refine AW.region (by decide) ?_
  simp only [push_cast, simprocAttr, p24, p24b, w, ho0, ho, pM_two]
  refine CThen.by (rdraw_c r rb v bs s _ h 5 (by decide)) ?_
  simp only [push_cast, simprocAttr, p24, p24b, w, ho0, ho, pM_two]
  refine Thn_n ?_
  refine hK _ _ ?_
  clear hK K
  refine AW.seq_k fun K hK => ?_
  refine AW.seq_k fun K hK => ?_
  refine AW.region (by decide) ?_
  simp only [push_cast, simprocAttr, p24, p24b, w, ho0, ho, pM_two]
  refine Thn_n ?_
  refine hK _ _ ?_
  clear hK K
  refine AW.cond_t rfl ?_
  refine AW.seq_k fun K hK => ?_
  refine AW.region (by decide) ?_
  simp only [push_cast, simprocAttr, p24, p24b, w, ho0, ho, pM_two]
  refine CThen.by (fail_c r rb v bs _ 33 _ hs5 (by decide)) ?_
  simp only [push_cast, simprocAttr, p24, p24b, w, ho0, ho, pM_two]
  refine Thn_n ?_
  refine hK _ _ ?_
  clear hK K
  refine AW.seq_k fun K hK => ?_
  refine AW.region (by decide) ?_
  simp only [push_cast, simprocAttr, p24, p24b, w, ho0, ho, pM_two]
  refine Thn_n ?_
  refine hK _ _ ?_
  clear hK K
  refine AW.ret ?_
  refine Thn_r ?_
  refine hQ _ _ _ ?_
  first | refine RetP.keep (Or.inr rfl) ?_ | refine RetP.keep (Or.inl rfl) ?_
  · rfl
  
theorem fix_3 (r rb v : Nat) (bs : List Int) (s : Nat × Int) (m : AMem) (h : RP m r rb v bs s) (ho0 : ¬ 2147483648 < sg5 (rdV bs 5 s)) (ho : ¬ sg5 (rdV bs 5 s) < -2147483648) : Ctr Try.prog 47 [.one (.ptr r 0 0)] m (.one (.int .i64 (sg5 (rdV bs 5 s)))) (pM m r rb v bs (rdS bs.length 5 s)) := by
  refine Ctr.enter Try.func47 rfl (by decide) (rs := [.tmp 2]) (nt := 18) rfl rfl fun hwf Q hQ => ?_
  have hb2 := rdV_b h.hu 2 s
  have hb5 := rdV_b h.hu 5 s
  have hs2 := h.set (rdS_le (k := 2) h.hp)
  have hs5 := h.set (rdS_le (k := 5) h.hp)
  have p24 : (2 : Int) ^ min 24 IntKind.u64.bits = 16777216 := by decide
  have p24b : (2 : Int) ^ min 24 IntKind.i64.bits = 16777216 := by decide
  have w : (IntKind.i64.wrap (IntKind.u64.wrap (rdV bs 5 s * 16777216))).fdiv 16777216 = sg5 (rdV bs 5 s) := by
    rw [Int.fdiv_eq_ediv_of_nonneg _ (by decide), IntKind.wrap_u64, IntKind.wrap_i64]
    unfold sg5
    have e5 : (256 : Int) ^ 5 = 1099511627776 := by decide
    rw [e5] at hb5
    split <;> omega
  
  refine AW.seq_k fun K hK => ?_
  refine AW.region (by decide) ?_
  simp only [push_cast, simprocAttr, p24, p24b, w, ho0, ho]
  refine Thn_n ?_
  refine hK _ _ ?_
  clear hK K
  refine AW.seq_k fun K hK => ?_
  refine AW.region (by decide) ?_
  simp only [push_cast, simprocAttr, p24, p24b, w, ho0, ho]
  refine CThen.by (rdraw_c r rb v bs s _ h 5 (by decide)) ?_
  simp only [push_cast, simprocAttr, p24, p24b, w, ho0, ho]
  refine Thn_n ?_
  refine hK _ _ ?_
  clear hK K
  refine AW.seq_k fun K hK => ?_
  refine AW.seq_k fun K hK => ?_
  refine AW.region (by decide) ?_
  simp only [push_cast, simprocAttr, p24, p24b, w, ho0, ho]
  refine Thn_n ?_
  refine hK _ _ ?_
  clear hK K
  refine AW.cond_f rfl ?_
  refine AW.skip ?_
  refine Thn_n ?_
  refine hK _ _ ?_
  clear hK K
  refine AW.seq_k fun K hK => ?_
  refine AW.region (by decide) ?_
  simp only [push_cast, simprocAttr, p24, p24b, w, ho0, ho]
  refine Thn_n ?_
  refine hK _ _ ?_
  clear hK K
  refine AW.ret ?_
  refine hQ _ _ _ ?_
  first | refine RetP.keep (Or.inr rfl) ?_ | refine RetP.keep (Or.inl rfl) ?_
  · rfl
  
theorem fix_c (r rb v : Nat) (bs : List Int) (s : Nat × Int) (m : AMem) (h : RP m r rb v bs s) : Ctr Try.prog 47 [.one (.ptr r 0 0)] m (.one (.int .i64 (fixV bs s))) (pM m r rb v bs (fixS bs s)) := by
  unfold fixV fixS
  rcases Classical.em (2147483648 < sg5 (rdV bs 5 s)) with ho | ho
  · have e : overB (sg5 (rdV bs 5 s)) = true := by unfold overB; rw [decide_eq_true ho]; rfl
    simp only [e, if_true]; exact fix_1 r rb v bs s m h ho
  · rcases Classical.em (sg5 (rdV bs 5 s) < -2147483648) with h2 | h2
    · have e : overB (sg5 (rdV bs 5 s)) = true := by unfold overB; rw [decide_eq_true h2, Bool.or_true]
      simp only [e, if_true]; exact fix_2 r rb v bs s m h ho h2
    · have e : overB (sg5 (rdV bs 5 s)) = false := by unfold overB; rw [decide_eq_false ho, decide_eq_false h2]; rfl
      simp only [e, if_false, Bool.false_eq_true]; exact fix_3 r rb v bs s m h ho h2
end Go.Proofs.Ytgbehbaecdepjaa
