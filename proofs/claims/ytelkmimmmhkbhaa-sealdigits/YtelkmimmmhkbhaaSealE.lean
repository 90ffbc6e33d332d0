/- Walks and facts of this seat's program over abstract states, printed by a program of mine; no conditions but those that each theorem names. -/
import Derived.Test.YtelkmimmmhkbhaaSealD
set_option linter.unusedSimpArgs false
set_option linter.unusedVariables false
set_option maxRecDepth 100000
set_option maxHeartbeats 4000000
namespace Go.Proofs.Ytelkmimmmhkbhaa
open Go Go.Eng

def rfP (s : ByteArray) (i : Nat) : List Int := unP s (i / 2) ++ (if i % 2 = 1 then [16 * dvI (cI s (i - 1))] else [])
theorem rfP_even (s : ByteArray) (q : Nat) : rfP s (2 * q) = unP s q := by
  unfold rfP; rw [if_neg (by omega), List.append_nil]; congr 1; omega
theorem rfP_odd (s : ByteArray) (q : Nat) : rfP s (2 * q + 1) = unP s q ++ [16 * dvI (cI s (2 * q))] := by
  unfold rfP; rw [if_pos (by omega)]; congr 2 <;> omega
theorem rfP_len (s : ByteArray) (i : Nat) : (rfP s i).length = (i + 1) / 2 := by
  unfold rfP; rw [List.length_append, unP_len]; split <;> simp <;> omega
theorem cI_rng (s : ByteArray) (i : Nat) : 0 ≤ cI s i ∧ cI s i ≤ 255 := by
  have := (cB s i).toNat_lt
  unfold cI; omega
theorem hexT {d : Int} (h0 : 0 ≤ d) (h : d < 10) : IntKind.u8.wrap (48 + d) = hexD d := by
  unfold hexD hexU; rw [if_pos h, w8, UInt8.toNat_ofNat']; omega
theorem hexF {d : Int} (h : ¬ d < 10) (h1 : d ≤ 15) : IntKind.u8.wrap (IntKind.u8.wrap (97 + d) - 10) = hexD d := by
  unfold hexD hexU; rw [if_neg h, w8, w8, UInt8.toNat_ofNat']; omega
theorem runhex_odd (s : ByteArray) (m : AMem) (h : s.size % 2 = 1) (hs : s.size ≤ 200000) : Ctr Try.prog 15 [.one (.str s)] m (.tup [(false, [.nils]), (false, [.bool false])]) m := by
  refine Ctr.enter Try.func15 rfl (by decide) (rs := [.tmp 2, .tmp 3]) (nt := 66) rfl rfl fun hwf Q hQ => ?_
  have h1 : (s.size : Int).tmod 2 = 1 := by have : (s.size : Int).tmod 2 = ((s.size % 2 : Nat) : Int) := rfl
                                            rw [this, h]; rfl
  refine AW.seq_k fun K hK => ?_
  refine AW.region (by decide) ?_
  simp only [push_cast, simprocAttr, h1]
  refine Thn_n ?_
  refine hK _ _ ?_
  clear hK K
  refine AW.seq_k fun K hK => ?_
  refine AW.seq_k fun K hK => ?_
  refine AW.region (by decide) ?_
  simp only [push_cast, simprocAttr, h1]
  refine Thn_n ?_
  refine hK _ _ ?_
  clear hK K
  refine AW.cond_t rfl ?_
  refine AW.seq_k fun K hK => ?_
  refine AW.region (by decide) ?_
  simp only [push_cast, simprocAttr, h1]
  refine Thn_n ?_
  refine hK _ _ ?_
  clear hK K
  refine AW.ret ?_
  refine Thn_r ?_
  refine hQ _ _ _ ?_
  first | refine RetP.drop0 (Or.inr rfl) ?_ ?_ hwf | refine RetP.drop (Or.inr rfl) ?_ ?_ hwf
  · simp only [resA, resOne, resTv, AV.tv, push_cast, simprocAttr, h1]
  · rfl
theorem runhex_good (s : ByteArray) (N : Nat) (m : AMem) (h : s.size = 2 * N) (hN : N ≤ 100000) (hg : gd s (2 * N)) : Ctr Try.prog 15 [.one (.str s)] m (.tup [(false, [.sl m.length 0 0 N]), (false, [.bool true])]) (m ++ [⟨.grow, 5, 0, 1, u8l (unP s N)⟩]) := by
  refine Ctr.enter Try.func15 rfl (by decide) (rs := [.tmp 2, .tmp 3]) (nt := 66) rfl rfl fun hwf Q hQ => ?_
  have h1 : (s.size : Int).tmod 2 = 0 := by have : (s.size : Int).tmod 2 = ((s.size % 2 : Nat) : Int) := rfl
                                            rw [this, show s.size % 2 = 0 by omega]; rfl
  have h1b : ((0 : Int) == 1) = false := by decide
  have hcc : ∀ i, (((cB s i).toNat : Nat) : Int) = cI s i := fun i => rfl
  have hr0 : rfP s 0 = [] := rfl
  have hz0 : (0 + 1) / 2 = 0 := rfl
  have hz00 : u8l [] = [] := rfl
  refine AW.seq_k fun K hK => ?_
  refine AW.region (by decide) ?_
  simp only [push_cast, simprocAttr, h1, h1b, hcc, hz00, u8l_len, u8lset, Int.le_refl]
  refine Thn_n ?_
  refine hK _ _ ?_
  clear hK K
  refine AW.seq_k fun K hK => ?_
  refine AW.seq_k fun K hK => ?_
  refine AW.region (by decide) ?_
  simp only [push_cast, simprocAttr, h1, h1b, hcc, hz00, u8l_len, u8lset, Int.le_refl]
  refine Thn_n ?_
  refine hK _ _ ?_
  clear hK K
  refine AW.cond_f rfl ?_
  refine AW.skip ?_
  refine Thn_n ?_
  refine hK _ _ ?_
  clear hK K
  refine AW.seq_k fun K hK => ?_
  refine AW.region (by decide) ?_
  simp only [push_cast, simprocAttr, h1, h1b, hcc, hz00, u8l_len, u8lset, Int.le_refl]
  refine Thn_n ?_
  refine hK _ _ ?_
  clear hK K
  refine AW.seq_k fun K hK => ?_
  refine AW.seq_k fun K hK => ?_
  refine AW.nilTm 5 1 4 (by simp only [push_cast, simprocAttr]) ?_
  try simp only [push_cast, simprocAttr]
  refine AW.region (by decide) ?_
  simp only [push_cast, simprocAttr, h1, h1b, hcc, hz00, u8l_len, u8lset, Int.le_refl]
  refine Thn_n ?_
  refine hK _ _ ?_
  clear hK K
  refine AW.block ?_
  refine AW.loopK [0] (fun i => i ≤ 2 * N) (fun i => [(4, .one (.sl m.length ((i + 1) / 2) 0 ((i + 1) / 2))), (5, .one (.int .i64 (i : Int)))]) (fun i => [(m.length, ⟨.grow, 5, (i + 1) / 2, 1, u8l (rfP s i)⟩)]) (fun i => 2 * N - i) 0 (by omega) ?_ ?_ fun i hi7 => ?_
  · first | rfl | (simp only [Keeps, Tm.get_cons, Nat.reduceEqDiff, ↓reduceIte, if_true, if_false, ite_true, ite_false, true_and, and_true, and_self, reduceCtorEq, hr0, Int.natCast_zero, hz0] <;> rfl)
  · first | rfl | (simp only [setAll, push_cast, simprocAttr, h1, h1b, hcc, hz00, u8l_len, u8lset, Int.le_refl, hr0, Int.natCast_zero, hz0] <;> rfl)
  have hi : i ≤ 2 * N := hi7
  try simp only [keepL, setAll, push_cast, simprocAttr, h1, h1b, hcc, hz00, u8l_len, u8lset, Int.le_refl]
  refine AW.seq_k fun K hK => ?_
  refine AW.seq_k fun K hK => ?_
  refine AW.region (by decide) ?_
  simp only [push_cast, simprocAttr, h1, h1b, hcc, hz00, u8l_len, u8lset, Int.le_refl]
  refine Thn_n ?_
  refine hK _ _ ?_
  clear hK K
  refine AW.cond rfl (fun h14 => ?_) (fun h14 => ?_)
  · have hlt : i < 2 * N := by have := of_decide_eq_true h14; omega
    have c1 : (0 : Int) ≤ (i : Int) := by omega
    have c2 : ((i : Nat) : Int).toNat = i := Int.toNat_natCast i
    have e0 := sget (s := s) (i := i) (by omega)
    have cr := cI_rng s i
    have l0 := dvI_le (cI s i)
    have hpar : (i : Int).tmod 2 = ((i % 2 : Nat) : Int) := rfl
    have hlen := rfP_len s i
    obtain ⟨nx, hnx⟩ : ∃ nx, nx = i + 1 := ⟨_, rfl⟩
    refine AW.skip ?_
    refine Thn_n ?_
    refine hK _ _ ?_
    clear hK K
    refine AW.seq_k fun K hK => ?_
    refine AW.block ?_
    refine AW.seq_k fun K hK => ?_
    refine AW.region (by decide) ?_
    simp only [push_cast, simprocAttr, h1, h1b, hcc, hz00, u8l_len, u8lset, Int.le_refl, c1, c2, e0, hlen, hpar]
    refine Thn_n ?_
    refine hK _ _ ?_
    clear hK K
    refine AW.seq_k fun K hK => ?_
    refine AW.seq_k fun K hK => ?_
    have hgi := hg i hlt
    have hcl : (48 ≤ cI s i ∧ cI s i ≤ 57) ∨ (48 ≤ cI s i ∧ ¬ cI s i ≤ 57 ∧ 97 ≤ cI s i ∧ cI s i ≤ 102) := by
      unfold dvI at hgi
      split at hgi
      · omega
      · split at hgi <;> omega
    rcases hcl with ⟨a1, a2⟩ | ⟨a1, a2, a3, a4⟩
    · have hd : dvI (cI s i) = cI s i - 48 := by unfold dvI; rw [if_pos ⟨a1, a2⟩]
      have hw : IntKind.u8.wrap (cI s i - 48) = dvI (cI s i) := by rw [hd, w8]; omega
      have hd0 : 0 ≤ dvI (cI s i) := by omega
      refine AW.region (by decide) ?_
      simp only [push_cast, simprocAttr, h1, h1b, hcc, hz00, u8l_len, u8lset, Int.le_refl, c1, c2, e0, hlen, hpar, a1, a2, hw]
      refine Thn_n ?_
      refine hK _ _ ?_
      clear hK K
      refine AW.cond_t rfl ?_
      refine AW.region (by decide) ?_
      simp only [push_cast, simprocAttr, h1, h1b, hcc, hz00, u8l_len, u8lset, Int.le_refl, c1, c2, e0, hlen, hpar, a1, a2, hw]
      refine Thn_n ?_
      refine hK _ _ ?_
      clear hK K
      refine AW.seq_k fun K hK => ?_
      refine AW.region (by decide) ?_
      simp only [push_cast, simprocAttr, h1, h1b, hcc, hz00, u8l_len, u8lset, Int.le_refl, c1, c2, e0, hlen, hpar, a1, a2, hw]
      refine Thn_n ?_
      refine hK _ _ ?_
      clear hK K
      refine AW.cond rfl (fun h48 => ?_) (fun h48 => ?_)
      · obtain ⟨q, rfl⟩ : ∃ q, i = 2 * q := ⟨i / 2, by have h := h48; simp at h; omega⟩
        have z1 : (2 * q + 1) / 2 = q := by omega
        have z2 : (2 * q + 1 + 1) / 2 = q + 1 := by omega
        have z3 : (unP s q).length = q := unP_len s q
        have z4 : q + 1 ≤ 140737488355328 := by omega
        have hw2 : IntKind.u8.wrap (dvI (cI s (2 * q)) * 16) = 16 * dvI (cI s (2 * q)) := by rw [w8]; omega
        have hre := rfP_even s q
        have hro := rfP_odd s q
        have hsn : u8l (unP s q) ++ [.int .u8 (16 * dvI (cI s (2 * q)))] = u8l (unP s q ++ [16 * dvI (cI s (2 * q))]) := by simp [u8l]
        have z9 : (nx + 1) / 2 = q + 1 := by omega
        have hrn : rfP s nx = unP s q ++ [16 * dvI (cI s (2 * q))] := by rw [hnx]; exact hro
        have hwi : IntKind.i64.wrap (((2 * q : Nat) : Int) + 1) = (nx : Int) := by rw [IntKind.wrap_i64]; omega
        simp only [push_cast, simprocAttr] at hwi
        simp only [Nat.add_assoc, Nat.reduceAdd] at z2
        refine AW.region (by decide) ?_
        simp only [push_cast, simprocAttr, h1, h1b, hcc, hz00, u8l_len, u8lset, Int.le_refl, c1, c2, e0, hlen, hpar, a1, a2, hw, hre, z1, z2, z3, z4, hw2, hsn]
        refine InB_n ?_
        refine Thn_n ?_
        refine hK _ _ ?_
        clear hK K
        refine AW.region (by decide) ?_
        simp only [push_cast, simprocAttr, h1, h1b, hcc, hz00, u8l_len, u8lset, Int.le_refl, c1, c2, e0, hlen, hpar, a1, a2, hw, hre, z1, z2, z3, z4, hw2, hsn]
        refine Thn_n ?_
        refine ⟨nx, by omega, by omega, ?_⟩
        try simp only [keepL, setAll, push_cast, simprocAttr, h1, h1b, hcc, hz00, u8l_len, u8lset, Int.le_refl, c1, c2, e0, hlen, hpar, a1, a2, hw, hre, z1, z2, z3, z4, hw2, hsn, hwi, z9, hrn]
        first
          | exact Weak.same (by simp only [Keeps, Tm.get_cons, Nat.reduceEqDiff, ↓reduceIte, if_true, if_false, ite_true, ite_false, true_and, and_true, and_self, reduceCtorEq, hwi, z9, hrn]) (by first | rfl | simp only [Keeps, Tm.get_cons, Nat.reduceEqDiff, ↓reduceIte, if_true, if_false, ite_true, ite_false, true_and, and_true, and_self, reduceCtorEq, hwi, z9, hrn])
          | exact Weak.to (extra := [_]) (by simp only [Keeps, Tm.get_cons, Nat.reduceEqDiff, ↓reduceIte, if_true, if_false, ite_true, ite_false, true_and, and_true, and_self, reduceCtorEq, hwi, z9, hrn]) (by first | rfl | (simp only [List.append_assoc, List.cons_append, List.nil_append]; rfl)) (by first | rfl | (simp [AV.below, CV.below, u8l_below]; done) | (simp [AV.below, CV.below, u8l_below]; omega)) (by
              first | exact hwf | refine MWf.app (hwf.grow (by simp)) ?_
              repeat (first | exact MWf_nil | (refine MWf_cons ?_ ?_; · first | rfl | (simp [CV.below, u8l_below]; done) | (simp [CV.below, u8l_below]; omega))))
      · obtain ⟨q, rfl⟩ : ∃ q, i = 2 * q + 1 := ⟨i / 2, by have h := h48; simp at h; omega⟩
        have z1 : (2 * q + 1 + 1) / 2 = q + 1 := by omega
        have z2 : (2 * q + 1 + 1 + 1) / 2 = q + 1 := by omega
        have hre := rfP_even s (q + 1)
        have hro := rfP_odd s q
        have z5 : IntKind.i64.wrap ((((2 * q + 1 : Nat)) : Int).tdiv 2) = (q : Int) := by
          have : (((2 * q + 1 : Nat)) : Int).tdiv 2 = (((2 * q + 1) / 2 : Nat) : Int) := rfl
          rw [this, show (2 * q + 1) / 2 = q by omega]; exact wi (by omega)
        have z6 : (0 : Int) ≤ (q : Int) := by omega
        have z7 : (q : Int) < (q : Int) + 1 := by omega
        have gq : (u8l (unP s q ++ [16 * dvI (cI s (2 * q))]))[q]? = some (.int .u8 (16 * dvI (cI s (2 * q)))) := by
          simp [u8l, unP_len]
        have hprev : 0 ≤ dvI (cI s (2 * q)) := hg (2 * q) (by omega)
        have lp := dvI_le (cI s (2 * q))
        have hw2 : IntKind.u8.wrap (16 * dvI (cI s (2 * q)) + dvI (cI s (2 * q + 1))) = 16 * dvI (cI s (2 * q)) + dvI (cI s (2 * q + 1)) := by rw [w8]; omega
        have hset : (unP s q ++ [16 * dvI (cI s (2 * q))]).set q (16 * dvI (cI s (2 * q)) + dvI (cI s (2 * q + 1))) = unP s (q + 1) := by
          rw [List.set_append_right _ _ (by rw [unP_len]; exact Nat.le_refl _), unP_len, Nat.sub_self]; rfl
        have z8 : q + 1 ≤ (unP s q).length + 1 := by rw [unP_len]; exact Nat.le_refl _
        have z9 : (nx + 1) / 2 = q + 1 := by omega
        have hrn : rfP s nx = unP s (q + 1) := by rw [show nx = 2 * (q + 1) by omega]; exact hre
        have hwi : IntKind.i64.wrap (((2 * q + 1 : Nat) : Int) + 1) = (nx : Int) := by rw [IntKind.wrap_i64]; omega
        simp only [push_cast, simprocAttr] at z5 hwi
        simp only [Nat.add_assoc, Nat.reduceAdd] at z1 z2
        refine AW.region (by decide) ?_
        simp only [push_cast, simprocAttr, h1, h1b, hcc, hz00, u8l_len, u8lset, Int.le_refl, c1, c2, e0, hlen, hpar, a1, a2, hw, hro, z1, z2, z5, z6, z7, z8, gq, hw2, hset]
        refine InB_n ?_
        refine Thn_n ?_
        refine hK _ _ ?_
        clear hK K
        refine AW.region (by decide) ?_
        simp only [push_cast, simprocAttr, h1, h1b, hcc, hz00, u8l_len, u8lset, Int.le_refl, c1, c2, e0, hlen, hpar, a1, a2, hw, hro, z1, z2, z5, z6, z7, z8, gq, hw2, hset]
        refine Thn_n ?_
        refine ⟨nx, by omega, by omega, ?_⟩
        try simp only [keepL, setAll, push_cast, simprocAttr, h1, h1b, hcc, hz00, u8l_len, u8lset, Int.le_refl, c1, c2, e0, hlen, hpar, a1, a2, hw, hro, z1, z2, z5, z6, z7, z8, gq, hw2, hset, hwi, z9, hrn]
        first
          | exact Weak.same (by simp only [Keeps, Tm.get_cons, Nat.reduceEqDiff, ↓reduceIte, if_true, if_false, ite_true, ite_false, true_and, and_true, and_self, reduceCtorEq, hwi, z9, hrn]) (by first | rfl | simp only [Keeps, Tm.get_cons, Nat.reduceEqDiff, ↓reduceIte, if_true, if_false, ite_true, ite_false, true_and, and_true, and_self, reduceCtorEq, hwi, z9, hrn])
          | exact Weak.to (extra := [_]) (by simp only [Keeps, Tm.get_cons, Nat.reduceEqDiff, ↓reduceIte, if_true, if_false, ite_true, ite_false, true_and, and_true, and_self, reduceCtorEq, hwi, z9, hrn]) (by first | rfl | (simp only [List.append_assoc, List.cons_append, List.nil_append]; rfl)) (by first | rfl | (simp [AV.below, CV.below, u8l_below]; done) | (simp [AV.below, CV.below, u8l_below]; omega)) (by
              first | exact hwf | refine MWf.app (hwf.grow (by simp)) ?_
              repeat (first | exact MWf_nil | (refine MWf_cons ?_ ?_; · first | rfl | (simp [CV.below, u8l_below]; done) | (simp [CV.below, u8l_below]; omega))))
    · have hd : dvI (cI s i) = cI s i - 87 := by unfold dvI; rw [if_neg (by omega), if_pos ⟨a3, a4⟩]
      have hw : IntKind.u8.wrap (IntKind.u8.wrap (cI s i - 97) + 10) = dvI (cI s i) := by rw [hd, w8, w8]; omega
      have hd0 : 0 ≤ dvI (cI s i) := by omega
      refine AW.region (by decide) ?_
      simp only [push_cast, simprocAttr, h1, h1b, hcc, hz00, u8l_len, u8lset, Int.le_refl, c1, c2, e0, hlen, hpar, a1, a2, a3, a4, hw]
      refine Thn_n ?_
      refine hK _ _ ?_
      clear hK K
      refine AW.cond_f rfl ?_
      refine AW.seq_k fun K hK => ?_
      refine AW.region (by decide) ?_
      simp only [push_cast, simprocAttr, h1, h1b, hcc, hz00, u8l_len, u8lset, Int.le_refl, c1, c2, e0, hlen, hpar, a1, a2, a3, a4, hw]
      refine Thn_n ?_
      refine hK _ _ ?_
      clear hK K
      refine AW.cond_t rfl ?_
      refine AW.region (by decide) ?_
      simp only [push_cast, simprocAttr, h1, h1b, hcc, hz00, u8l_len, u8lset, Int.le_refl, c1, c2, e0, hlen, hpar, a1, a2, a3, a4, hw]
      refine Thn_n ?_
      refine hK _ _ ?_
      clear hK K
      refine AW.seq_k fun K hK => ?_
      refine AW.region (by decide) ?_
      simp only [push_cast, simprocAttr, h1, h1b, hcc, hz00, u8l_len, u8lset, Int.le_refl, c1, c2, e0, hlen, hpar, a1, a2, a3, a4, hw]
      refine Thn_n ?_
      refine hK _ _ ?_
      clear hK K
      refine AW.cond rfl (fun h48 => ?_) (fun h48 => ?_)
      · obtain ⟨q, rfl⟩ : ∃ q, i = 2 * q := ⟨i / 2, by have h := h48; simp at h; omega⟩
        have z1 : (2 * q + 1) / 2 = q := by omega
        have z2 : (2 * q + 1 + 1) / 2 = q + 1 := by omega
        have z3 : (unP s q).length = q := unP_len s q
        have z4 : q + 1 ≤ 140737488355328 := by omega
        have hw2 : IntKind.u8.wrap (dvI (cI s (2 * q)) * 16) = 16 * dvI (cI s (2 * q)) := by rw [w8]; omega
        have hre := rfP_even s q
        have hro := rfP_odd s q
        have hsn : u8l (unP s q) ++ [.int .u8 (16 * dvI (cI s (2 * q)))] = u8l (unP s q ++ [16 * dvI (cI s (2 * q))]) := by simp [u8l]
        have z9 : (nx + 1) / 2 = q + 1 := by omega
        have hrn : rfP s nx = unP s q ++ [16 * dvI (cI s (2 * q))] := by rw [hnx]; exact hro
        have hwi : IntKind.i64.wrap (((2 * q : Nat) : Int) + 1) = (nx : Int) := by rw [IntKind.wrap_i64]; omega
        simp only [push_cast, simprocAttr] at hwi
        simp only [Nat.add_assoc, Nat.reduceAdd] at z2
        refine AW.region (by decide) ?_
        simp only [push_cast, simprocAttr, h1, h1b, hcc, hz00, u8l_len, u8lset, Int.le_refl, c1, c2, e0, hlen, hpar, a1, a2, a3, a4, hw, hre, z1, z2, z3, z4, hw2, hsn]
        refine InB_n ?_
        refine Thn_n ?_
        refine hK _ _ ?_
        clear hK K
        refine AW.region (by decide) ?_
        simp only [push_cast, simprocAttr, h1, h1b, hcc, hz00, u8l_len, u8lset, Int.le_refl, c1, c2, e0, hlen, hpar, a1, a2, a3, a4, hw, hre, z1, z2, z3, z4, hw2, hsn]
        refine Thn_n ?_
        refine ⟨nx, by omega, by omega, ?_⟩
        try simp only [keepL, setAll, push_cast, simprocAttr, h1, h1b, hcc, hz00, u8l_len, u8lset, Int.le_refl, c1, c2, e0, hlen, hpar, a1, a2, a3, a4, hw, hre, z1, z2, z3, z4, hw2, hsn, hwi, z9, hrn]
        first
          | exact Weak.same (by simp only [Keeps, Tm.get_cons, Nat.reduceEqDiff, ↓reduceIte, if_true, if_false, ite_true, ite_false, true_and, and_true, and_self, reduceCtorEq, hwi, z9, hrn]) (by first | rfl | simp only [Keeps, Tm.get_cons, Nat.reduceEqDiff, ↓reduceIte, if_true, if_false, ite_true, ite_false, true_and, and_true, and_self, reduceCtorEq, hwi, z9, hrn])
          | exact Weak.to (extra := [_]) (by simp only [Keeps, Tm.get_cons, Nat.reduceEqDiff, ↓reduceIte, if_true, if_false, ite_true, ite_false, true_and, and_true, and_self, reduceCtorEq, hwi, z9, hrn]) (by first | rfl | (simp only [List.append_assoc, List.cons_append, List.nil_append]; rfl)) (by first | rfl | (simp [AV.below, CV.below, u8l_below]; done) | (simp [AV.below, CV.below, u8l_below]; omega)) (by
              first | exact hwf | refine MWf.app (hwf.grow (by simp)) ?_
              repeat (first | exact MWf_nil | (refine MWf_cons ?_ ?_; · first | rfl | (simp [CV.below, u8l_below]; done) | (simp [CV.below, u8l_below]; omega))))
      · obtain ⟨q, rfl⟩ : ∃ q, i = 2 * q + 1 := ⟨i / 2, by have h := h48; simp at h; omega⟩
        have z1 : (2 * q + 1 + 1) / 2 = q + 1 := by omega
        have z2 : (2 * q + 1 + 1 + 1) / 2 = q + 1 := by omega
        have hre := rfP_even s (q + 1)
        have hro := rfP_odd s q
        have z5 : IntKind.i64.wrap ((((2 * q + 1 : Nat)) : Int).tdiv 2) = (q : Int) := by
          have : (((2 * q + 1 : Nat)) : Int).tdiv 2 = (((2 * q + 1) / 2 : Nat) : Int) := rfl
          rw [this, show (2 * q + 1) / 2 = q by omega]; exact wi (by omega)
        have z6 : (0 : Int) ≤ (q : Int) := by omega
        have z7 : (q : Int) < (q : Int) + 1 := by omega
        have gq : (u8l (unP s q ++ [16 * dvI (cI s (2 * q))]))[q]? = some (.int .u8 (16 * dvI (cI s (2 * q)))) := by
          simp [u8l, unP_len]
        have hprev : 0 ≤ dvI (cI s (2 * q)) := hg (2 * q) (by omega)
        have lp := dvI_le (cI s (2 * q))
        have hw2 : IntKind.u8.wrap (16 * dvI (cI s (2 * q)) + dvI (cI s (2 * q + 1))) = 16 * dvI (cI s (2 * q)) + dvI (cI s (2 * q + 1)) := by rw [w8]; omega
        have hset : (unP s q ++ [16 * dvI (cI s (2 * q))]).set q (16 * dvI (cI s (2 * q)) + dvI (cI s (2 * q + 1))) = unP s (q + 1) := by
          rw [List.set_append_right _ _ (by rw [unP_len]; exact Nat.le_refl _), unP_len, Nat.sub_self]; rfl
        have z8 : q + 1 ≤ (unP s q).length + 1 := by rw [unP_len]; exact Nat.le_refl _
        have z9 : (nx + 1) / 2 = q + 1 := by omega
        have hrn : rfP s nx = unP s (q + 1) := by rw [show nx = 2 * (q + 1) by omega]; exact hre
        have hwi : IntKind.i64.wrap (((2 * q + 1 : Nat) : Int) + 1) = (nx : Int) := by rw [IntKind.wrap_i64]; omega
        simp only [push_cast, simprocAttr] at z5 hwi
        simp only [Nat.add_assoc, Nat.reduceAdd] at z1 z2
        refine AW.region (by decide) ?_
        simp only [push_cast, simprocAttr, h1, h1b, hcc, hz00, u8l_len, u8lset, Int.le_refl, c1, c2, e0, hlen, hpar, a1, a2, a3, a4, hw, hro, z1, z2, z5, z6, z7, z8, gq, hw2, hset]
        refine InB_n ?_
        refine Thn_n ?_
        refine hK _ _ ?_
        clear hK K
        refine AW.region (by decide) ?_
        simp only [push_cast, simprocAttr, h1, h1b, hcc, hz00, u8l_len, u8lset, Int.le_refl, c1, c2, e0, hlen, hpar, a1, a2, a3, a4, hw, hro, z1, z2, z5, z6, z7, z8, gq, hw2, hset]
        refine Thn_n ?_
        refine ⟨nx, by omega, by omega, ?_⟩
        try simp only [keepL, setAll, push_cast, simprocAttr, h1, h1b, hcc, hz00, u8l_len, u8lset, Int.le_refl, c1, c2, e0, hlen, hpar, a1, a2, a3, a4, hw, hro, z1, z2, z5, z6, z7, z8, gq, hw2, hset, hwi, z9, hrn]
        first
          | exact Weak.same (by simp only [Keeps, Tm.get_cons, Nat.reduceEqDiff, ↓reduceIte, if_true, if_false, ite_true, ite_false, true_and, and_true, and_self, reduceCtorEq, hwi, z9, hrn]) (by first | rfl | simp only [Keeps, Tm.get_cons, Nat.reduceEqDiff, ↓reduceIte, if_true, if_false, ite_true, ite_false, true_and, and_true, and_self, reduceCtorEq, hwi, z9, hrn])
          | exact Weak.to (extra := [_]) (by simp only [Keeps, Tm.get_cons, Nat.reduceEqDiff, ↓reduceIte, if_true, if_false, ite_true, ite_false, true_and, and_true, and_self, reduceCtorEq, hwi, z9, hrn]) (by first | rfl | (simp only [List.append_assoc, List.cons_append, List.nil_append]; rfl)) (by first | rfl | (simp [AV.below, CV.below, u8l_below]; done) | (simp [AV.below, CV.below, u8l_below]; omega)) (by
              first | exact hwf | refine MWf.app (hwf.grow (by simp)) ?_
              repeat (first | exact MWf_nil | (refine MWf_cons ?_ ?_; · first | rfl | (simp [CV.below, u8l_below]; done) | (simp [CV.below, u8l_below]; omega))))
  · have hie : i = 2 * N := by have := of_decide_eq_false h14; omega
    subst hie
    have hNe : (2 * N + 1) / 2 = N := by omega
    refine AW.exit ?_
    refine Thn_e ?_
    clear hK K
    refine Thn_e ?_
    refine InB_here ?_
    refine Thn_n ?_
    refine hK _ _ ?_
    clear hK K
    refine AW.seq_k fun K hK => ?_
    refine AW.region (by decide) ?_
    simp only [push_cast, simprocAttr, h1, h1b, hcc, hz00, u8l_len, u8lset, Int.le_refl, hNe]
    refine Thn_n ?_
    refine hK _ _ ?_
    clear hK K
    refine AW.ret ?_
    refine hQ _ _ _ ?_
    refine RetP.pick [(m.length, N)] (Or.inr rfl) ?_ ?_ ?_ hwf ?_
    · simp only [resA, resOne, resTv, AV.tv, push_cast, simprocAttr]
      simp [renV, renT, renL, renC, renIdx, hNe]
    · simp only [picks, push_cast, simprocAttr, hNe, rfP_even]
    · simp [distinctFrom]
    · exact MWf_one (u8l_below _ _)
    
theorem runhex_bad (s : ByteArray) (N : Nat) (m : AMem) (h : s.size = 2 * N) (hN : N ≤ 100000) (k0 : Nat) (hk0 : k0 < 2 * N) (hg : gd s k0) (hbad : dvI (cI s k0) < 0) : Ctr Try.prog 15 [.one (.str s)] m (.tup [(false, [.nils]), (false, [.bool false])]) m := by
  refine Ctr.enter Try.func15 rfl (by decide) (rs := [.tmp 2, .tmp 3]) (nt := 66) rfl rfl fun hwf Q hQ => ?_
  have h1 : (s.size : Int).tmod 2 = 0 := by have : (s.size : Int).tmod 2 = ((s.size % 2 : Nat) : Int) := rfl
                                            rw [this, show s.size % 2 = 0 by omega]; rfl
  have h1b : ((0 : Int) == 1) = false := by decide
  have hcc : ∀ i, (((cB s i).toNat : Nat) : Int) = cI s i := fun i => rfl
  have hr0 : rfP s 0 = [] := rfl
  have hz0 : (0 + 1) / 2 = 0 := rfl
  have hz00 : u8l [] = [] := rfl
  refine AW.seq_k fun K hK => ?_
  refine AW.region (by decide) ?_
  simp only [push_cast, simprocAttr, h1, h1b, hcc, hz00, u8l_len, u8lset, Int.le_refl]
  refine Thn_n ?_
  refine hK _ _ ?_
  clear hK K
  refine AW.seq_k fun K hK => ?_
  refine AW.seq_k fun K hK => ?_
  refine AW.region (by decide) ?_
  simp only [push_cast, simprocAttr, h1, h1b, hcc, hz00, u8l_len, u8lset, Int.le_refl]
  refine Thn_n ?_
  refine hK _ _ ?_
  clear hK K
  refine AW.cond_f rfl ?_
  refine AW.skip ?_
  refine Thn_n ?_
  refine hK _ _ ?_
  clear hK K
  refine AW.seq_k fun K hK => ?_
  refine AW.region (by decide) ?_
  simp only [push_cast, simprocAttr, h1, h1b, hcc, hz00, u8l_len, u8lset, Int.le_refl]
  refine Thn_n ?_
  refine hK _ _ ?_
  clear hK K
  refine AW.seq_k fun K hK => ?_
  refine AW.seq_k fun K hK => ?_
  refine AW.nilTm 5 1 4 (by simp only [push_cast, simprocAttr]) ?_
  try simp only [push_cast, simprocAttr]
  refine AW.region (by decide) ?_
  simp only [push_cast, simprocAttr, h1, h1b, hcc, hz00, u8l_len, u8lset, Int.le_refl]
  refine Thn_n ?_
  refine hK _ _ ?_
  clear hK K
  refine AW.block ?_
  refine AW.loopK [0] (fun i => i ≤ k0) (fun i => [(4, .one (.sl m.length ((i + 1) / 2) 0 ((i + 1) / 2))), (5, .one (.int .i64 (i : Int)))]) (fun i => [(m.length, ⟨.grow, 5, (i + 1) / 2, 1, u8l (rfP s i)⟩)]) (fun i => 2 * N - i) 0 (by omega) ?_ ?_ fun i hi7 => ?_
  · first | rfl | (simp only [Keeps, Tm.get_cons, Nat.reduceEqDiff, ↓reduceIte, if_true, if_false, ite_true, ite_false, true_and, and_true, and_self, reduceCtorEq, hr0, Int.natCast_zero, hz0] <;> rfl)
  · first | rfl | (simp only [setAll, push_cast, simprocAttr, h1, h1b, hcc, hz00, u8l_len, u8lset, Int.le_refl, hr0, Int.natCast_zero, hz0] <;> rfl)
  have hi : i ≤ k0 := hi7
  try simp only [keepL, setAll, push_cast, simprocAttr, h1, h1b, hcc, hz00, u8l_len, u8lset, Int.le_refl]
  refine AW.seq_k fun K hK => ?_
  refine AW.seq_k fun K hK => ?_
  refine AW.region (by decide) ?_
  simp only [push_cast, simprocAttr, h1, h1b, hcc, hz00, u8l_len, u8lset, Int.le_refl]
  refine Thn_n ?_
  refine hK _ _ ?_
  clear hK K
  refine AW.cond rfl (fun h14 => ?_) (fun h14 => ?_)
  · have hlt : i < 2 * N := by have := of_decide_eq_true h14; omega
    have c1 : (0 : Int) ≤ (i : Int) := by omega
    have c2 : ((i : Nat) : Int).toNat = i := Int.toNat_natCast i
    have e0 := sget (s := s) (i := i) (by omega)
    have cr := cI_rng s i
    have l0 := dvI_le (cI s i)
    have hpar : (i : Int).tmod 2 = ((i % 2 : Nat) : Int) := rfl
    have hlen := rfP_len s i
    obtain ⟨nx, hnx⟩ : ∃ nx, nx = i + 1 := ⟨_, rfl⟩
    refine AW.skip ?_
    refine Thn_n ?_
    refine hK _ _ ?_
    clear hK K
    refine AW.seq_k fun K hK => ?_
    refine AW.block ?_
    refine AW.seq_k fun K hK => ?_
    refine AW.region (by decide) ?_
    simp only [push_cast, simprocAttr, h1, h1b, hcc, hz00, u8l_len, u8lset, Int.le_refl, c1, c2, e0, hlen, hpar]
    refine Thn_n ?_
    refine hK _ _ ?_
    clear hK K
    refine AW.seq_k fun K hK => ?_
    refine AW.seq_k fun K hK => ?_
    have hcl : (48 ≤ cI s i ∧ cI s i ≤ 57) ∨ (48 ≤ cI s i ∧ ¬ cI s i ≤ 57 ∧ 97 ≤ cI s i ∧ cI s i ≤ 102) ∨ (¬ 48 ≤ cI s i ∧ ¬ 97 ≤ cI s i) ∨ (48 ≤ cI s i ∧ ¬ cI s i ≤ 57 ∧ ¬ 97 ≤ cI s i) ∨ (48 ≤ cI s i ∧ ¬ cI s i ≤ 57 ∧ 97 ≤ cI s i ∧ ¬ cI s i ≤ 102) := by omega
    rcases hcl with ⟨a1, a2⟩ | ⟨a1, a2, a3, a4⟩ | ⟨a1, a3⟩ | ⟨a1, a2, a3⟩ | ⟨a1, a2, a3, a4⟩
    · have hd : dvI (cI s i) = cI s i - 48 := by unfold dvI; rw [if_pos ⟨a1, a2⟩]
      have hw : IntKind.u8.wrap (cI s i - 48) = dvI (cI s i) := by rw [hd, w8]; omega
      have hd0 : 0 ≤ dvI (cI s i) := by omega
      have hik : i < k0 := by
        have : i ≠ k0 := fun e => by subst e; omega
        omega
      
      refine AW.region (by decide) ?_
      simp only [push_cast, simprocAttr, h1, h1b, hcc, hz00, u8l_len, u8lset, Int.le_refl, c1, c2, e0, hlen, hpar, a1, a2, hw]
      refine Thn_n ?_
      refine hK _ _ ?_
      clear hK K
      refine AW.cond_t rfl ?_
      refine AW.region (by decide) ?_
      simp only [push_cast, simprocAttr, h1, h1b, hcc, hz00, u8l_len, u8lset, Int.le_refl, c1, c2, e0, hlen, hpar, a1, a2, hw]
      refine Thn_n ?_
      refine hK _ _ ?_
      clear hK K
      refine AW.seq_k fun K hK => ?_
      refine AW.region (by decide) ?_
      simp only [push_cast, simprocAttr, h1, h1b, hcc, hz00, u8l_len, u8lset, Int.le_refl, c1, c2, e0, hlen, hpar, a1, a2, hw]
      refine Thn_n ?_
      refine hK _ _ ?_
      clear hK K
      refine AW.cond rfl (fun h48 => ?_) (fun h48 => ?_)
      · obtain ⟨q, rfl⟩ : ∃ q, i = 2 * q := ⟨i / 2, by have h := h48; simp at h; omega⟩
        have z1 : (2 * q + 1) / 2 = q := by omega
        have z2 : (2 * q + 1 + 1) / 2 = q + 1 := by omega
        have z3 : (unP s q).length = q := unP_len s q
        have z4 : q + 1 ≤ 140737488355328 := by omega
        have hw2 : IntKind.u8.wrap (dvI (cI s (2 * q)) * 16) = 16 * dvI (cI s (2 * q)) := by rw [w8]; omega
        have hre := rfP_even s q
        have hro := rfP_odd s q
        have hsn : u8l (unP s q) ++ [.int .u8 (16 * dvI (cI s (2 * q)))] = u8l (unP s q ++ [16 * dvI (cI s (2 * q))]) := by simp [u8l]
        have z9 : (nx + 1) / 2 = q + 1 := by omega
        have hrn : rfP s nx = unP s q ++ [16 * dvI (cI s (2 * q))] := by rw [hnx]; exact hro
        have hwi : IntKind.i64.wrap (((2 * q : Nat) : Int) + 1) = (nx : Int) := by rw [IntKind.wrap_i64]; omega
        simp only [push_cast, simprocAttr] at hwi
        simp only [Nat.add_assoc, Nat.reduceAdd] at z2
        refine AW.region (by decide) ?_
        simp only [push_cast, simprocAttr, h1, h1b, hcc, hz00, u8l_len, u8lset, Int.le_refl, c1, c2, e0, hlen, hpar, a1, a2, hw, hre, z1, z2, z3, z4, hw2, hsn]
        refine InB_n ?_
        refine Thn_n ?_
        refine hK _ _ ?_
        clear hK K
        refine AW.region (by decide) ?_
        simp only [push_cast, simprocAttr, h1, h1b, hcc, hz00, u8l_len, u8lset, Int.le_refl, c1, c2, e0, hlen, hpar, a1, a2, hw, hre, z1, z2, z3, z4, hw2, hsn]
        refine Thn_n ?_
        refine ⟨nx, by omega, by omega, ?_⟩
        try simp only [keepL, setAll, push_cast, simprocAttr, h1, h1b, hcc, hz00, u8l_len, u8lset, Int.le_refl, c1, c2, e0, hlen, hpar, a1, a2, hw, hre, z1, z2, z3, z4, hw2, hsn, hwi, z9, hrn]
        first
          | exact Weak.same (by simp only [Keeps, Tm.get_cons, Nat.reduceEqDiff, ↓reduceIte, if_true, if_false, ite_true, ite_false, true_and, and_true, and_self, reduceCtorEq, hwi, z9, hrn]) (by first | rfl | simp only [Keeps, Tm.get_cons, Nat.reduceEqDiff, ↓reduceIte, if_true, if_false, ite_true, ite_false, true_and, and_true, and_self, reduceCtorEq, hwi, z9, hrn])
          | exact Weak.to (extra := [_]) (by simp only [Keeps, Tm.get_cons, Nat.reduceEqDiff, ↓reduceIte, if_true, if_false, ite_true, ite_false, true_and, and_true, and_self, reduceCtorEq, hwi, z9, hrn]) (by first | rfl | (simp only [List.append_assoc, List.cons_append, List.nil_append]; rfl)) (by first | rfl | (simp [AV.below, CV.below, u8l_below]; done) | (simp [AV.below, CV.below, u8l_below]; omega)) (by
              first | exact hwf | refine MWf.app (hwf.grow (by simp)) ?_
              repeat (first | exact MWf_nil | (refine MWf_cons ?_ ?_; · first | rfl | (simp [CV.below, u8l_below]; done) | (simp [CV.below, u8l_below]; omega))))
      · obtain ⟨q, rfl⟩ : ∃ q, i = 2 * q + 1 := ⟨i / 2, by have h := h48; simp at h; omega⟩
        have z1 : (2 * q + 1 + 1) / 2 = q + 1 := by omega
        have z2 : (2 * q + 1 + 1 + 1) / 2 = q + 1 := by omega
        have hre := rfP_even s (q + 1)
        have hro := rfP_odd s q
        have z5 : IntKind.i64.wrap ((((2 * q + 1 : Nat)) : Int).tdiv 2) = (q : Int) := by
          have : (((2 * q + 1 : Nat)) : Int).tdiv 2 = (((2 * q + 1) / 2 : Nat) : Int) := rfl
          rw [this, show (2 * q + 1) / 2 = q by omega]; exact wi (by omega)
        have z6 : (0 : Int) ≤ (q : Int) := by omega
        have z7 : (q : Int) < (q : Int) + 1 := by omega
        have gq : (u8l (unP s q ++ [16 * dvI (cI s (2 * q))]))[q]? = some (.int .u8 (16 * dvI (cI s (2 * q)))) := by
          simp [u8l, unP_len]
        have hprev : 0 ≤ dvI (cI s (2 * q)) := hg (2 * q) (by omega)
        have lp := dvI_le (cI s (2 * q))
        have hw2 : IntKind.u8.wrap (16 * dvI (cI s (2 * q)) + dvI (cI s (2 * q + 1))) = 16 * dvI (cI s (2 * q)) + dvI (cI s (2 * q + 1)) := by rw [w8]; omega
        have hset : (unP s q ++ [16 * dvI (cI s (2 * q))]).set q (16 * dvI (cI s (2 * q)) + dvI (cI s (2 * q + 1))) = unP s (q + 1) := by
          rw [List.set_append_right _ _ (by rw [unP_len]; exact Nat.le_refl _), unP_len, Nat.sub_self]; rfl
        have z8 : q + 1 ≤ (unP s q).length + 1 := by rw [unP_len]; exact Nat.le_refl _
        have z9 : (nx + 1) / 2 = q + 1 := by omega
        have hrn : rfP s nx = unP s (q + 1) := by rw [show nx = 2 * (q + 1) by omega]; exact hre
        have hwi : IntKind.i64.wrap (((2 * q + 1 : Nat) : Int) + 1) = (nx : Int) := by rw [IntKind.wrap_i64]; omega
        simp only [push_cast, simprocAttr] at z5 hwi
        simp only [Nat.add_assoc, Nat.reduceAdd] at z1 z2
        refine AW.region (by decide) ?_
        simp only [push_cast, simprocAttr, h1, h1b, hcc, hz00, u8l_len, u8lset, Int.le_refl, c1, c2, e0, hlen, hpar, a1, a2, hw, hro, z1, z2, z5, z6, z7, z8, gq, hw2, hset]
        refine InB_n ?_
        refine Thn_n ?_
        refine hK _ _ ?_
        clear hK K
        refine AW.region (by decide) ?_
        simp only [push_cast, simprocAttr, h1, h1b, hcc, hz00, u8l_len, u8lset, Int.le_refl, c1, c2, e0, hlen, hpar, a1, a2, hw, hro, z1, z2, z5, z6, z7, z8, gq, hw2, hset]
        refine Thn_n ?_
        refine ⟨nx, by omega, by omega, ?_⟩
        try simp only [keepL, setAll, push_cast, simprocAttr, h1, h1b, hcc, hz00, u8l_len, u8lset, Int.le_refl, c1, c2, e0, hlen, hpar, a1, a2, hw, hro, z1, z2, z5, z6, z7, z8, gq, hw2, hset, hwi, z9, hrn]
        first
          | exact Weak.same (by simp only [Keeps, Tm.get_cons, Nat.reduceEqDiff, ↓reduceIte, if_true, if_false, ite_true, ite_false, true_and, and_true, and_self, reduceCtorEq, hwi, z9, hrn]) (by first | rfl | simp only [Keeps, Tm.get_cons, Nat.reduceEqDiff, ↓reduceIte, if_true, if_false, ite_true, ite_false, true_and, and_true, and_self, reduceCtorEq, hwi, z9, hrn])
          | exact Weak.to (extra := [_]) (by simp only [Keeps, Tm.get_cons, Nat.reduceEqDiff, ↓reduceIte, if_true, if_false, ite_true, ite_false, true_and, and_true, and_self, reduceCtorEq, hwi, z9, hrn]) (by first | rfl | (simp only [List.append_assoc, List.cons_append, List.nil_append]; rfl)) (by first | rfl | (simp [AV.below, CV.below, u8l_below]; done) | (simp [AV.below, CV.below, u8l_below]; omega)) (by
              first | exact hwf | refine MWf.app (hwf.grow (by simp)) ?_
              repeat (first | exact MWf_nil | (refine MWf_cons ?_ ?_; · first | rfl | (simp [CV.below, u8l_below]; done) | (simp [CV.below, u8l_below]; omega))))
    · have hd : dvI (cI s i) = cI s i - 87 := by unfold dvI; rw [if_neg (by omega), if_pos ⟨a3, a4⟩]
      have hw : IntKind.u8.wrap (IntKind.u8.wrap (cI s i - 97) + 10) = dvI (cI s i) := by rw [hd, w8, w8]; omega
      have hd0 : 0 ≤ dvI (cI s i) := by omega
      have hik : i < k0 := by
        have : i ≠ k0 := fun e => by subst e; omega
        omega
      
      refine AW.region (by decide) ?_
      simp only [push_cast, simprocAttr, h1, h1b, hcc, hz00, u8l_len, u8lset, Int.le_refl, c1, c2, e0, hlen, hpar, a1, a2, a3, a4, hw]
      refine Thn_n ?_
      refine hK _ _ ?_
      clear hK K
      refine AW.cond_f rfl ?_
      refine AW.seq_k fun K hK => ?_
      refine AW.region (by decide) ?_
      simp only [push_cast, simprocAttr, h1, h1b, hcc, hz00, u8l_len, u8lset, Int.le_refl, c1, c2, e0, hlen, hpar, a1, a2, a3, a4, hw]
      refine Thn_n ?_
      refine hK _ _ ?_
      clear hK K
      refine AW.cond_t rfl ?_
      refine AW.region (by decide) ?_
      simp only [push_cast, simprocAttr, h1, h1b, hcc, hz00, u8l_len, u8lset, Int.le_refl, c1, c2, e0, hlen, hpar, a1, a2, a3, a4, hw]
      refine Thn_n ?_
      refine hK _ _ ?_
      clear hK K
      refine AW.seq_k fun K hK => ?_
      refine AW.region (by decide) ?_
      simp only [push_cast, simprocAttr, h1, h1b, hcc, hz00, u8l_len, u8lset, Int.le_refl, c1, c2, e0, hlen, hpar, a1, a2, a3, a4, hw]
      refine Thn_n ?_
      refine hK _ _ ?_
      clear hK K
      refine AW.cond rfl (fun h48 => ?_) (fun h48 => ?_)
      · obtain ⟨q, rfl⟩ : ∃ q, i = 2 * q := ⟨i / 2, by have h := h48; simp at h; omega⟩
        have z1 : (2 * q + 1) / 2 = q := by omega
        have z2 : (2 * q + 1 + 1) / 2 = q + 1 := by omega
        have z3 : (unP s q).length = q := unP_len s q
        have z4 : q + 1 ≤ 140737488355328 := by omega
        have hw2 : IntKind.u8.wrap (dvI (cI s (2 * q)) * 16) = 16 * dvI (cI s (2 * q)) := by rw [w8]; omega
        have hre := rfP_even s q
        have hro := rfP_odd s q
        have hsn : u8l (unP s q) ++ [.int .u8 (16 * dvI (cI s (2 * q)))] = u8l (unP s q ++ [16 * dvI (cI s (2 * q))]) := by simp [u8l]
        have z9 : (nx + 1) / 2 = q + 1 := by omega
        have hrn : rfP s nx = unP s q ++ [16 * dvI (cI s (2 * q))] := by rw [hnx]; exact hro
        have hwi : IntKind.i64.wrap (((2 * q : Nat) : Int) + 1) = (nx : Int) := by rw [IntKind.wrap_i64]; omega
        simp only [push_cast, simprocAttr] at hwi
        simp only [Nat.add_assoc, Nat.reduceAdd] at z2
        refine AW.region (by decide) ?_
        simp only [push_cast, simprocAttr, h1, h1b, hcc, hz00, u8l_len, u8lset, Int.le_refl, c1, c2, e0, hlen, hpar, a1, a2, a3, a4, hw, hre, z1, z2, z3, z4, hw2, hsn]
        refine InB_n ?_
        refine Thn_n ?_
        refine hK _ _ ?_
        clear hK K
        refine AW.region (by decide) ?_
        simp only [push_cast, simprocAttr, h1, h1b, hcc, hz00, u8l_len, u8lset, Int.le_refl, c1, c2, e0, hlen, hpar, a1, a2, a3, a4, hw, hre, z1, z2, z3, z4, hw2, hsn]
        refine Thn_n ?_
        refine ⟨nx, by omega, by omega, ?_⟩
        try simp only [keepL, setAll, push_cast, simprocAttr, h1, h1b, hcc, hz00, u8l_len, u8lset, Int.le_refl, c1, c2, e0, hlen, hpar, a1, a2, a3, a4, hw, hre, z1, z2, z3, z4, hw2, hsn, hwi, z9, hrn]
        first
          | exact Weak.same (by simp only [Keeps, Tm.get_cons, Nat.reduceEqDiff, ↓reduceIte, if_true, if_false, ite_true, ite_false, true_and, and_true, and_self, reduceCtorEq, hwi, z9, hrn]) (by first | rfl | simp only [Keeps, Tm.get_cons, Nat.reduceEqDiff, ↓reduceIte, if_true, if_false, ite_true, ite_false, true_and, and_true, and_self, reduceCtorEq, hwi, z9, hrn])
          | exact Weak.to (extra := [_]) (by simp only [Keeps, Tm.get_cons, Nat.reduceEqDiff, ↓reduceIte, if_true, if_false, ite_true, ite_false, true_and, and_true, and_self, reduceCtorEq, hwi, z9, hrn]) (by first | rfl | (simp only [List.append_assoc, List.cons_append, List.nil_append]; rfl)) (by first | rfl | (simp [AV.below, CV.below, u8l_below]; done) | (simp [AV.below, CV.below, u8l_below]; omega)) (by
              first | exact hwf | refine MWf.app (hwf.grow (by simp)) ?_
              repeat (first | exact MWf_nil | (refine MWf_cons ?_ ?_; · first | rfl | (simp [CV.below, u8l_below]; done) | (simp [CV.below, u8l_below]; omega))))
      · obtain ⟨q, rfl⟩ : ∃ q, i = 2 * q + 1 := ⟨i / 2, by have h := h48; simp at h; omega⟩
        have z1 : (2 * q + 1 + 1) / 2 = q + 1 := by omega
        have z2 : (2 * q + 1 + 1 + 1) / 2 = q + 1 := by omega
        have hre := rfP_even s (q + 1)
        have hro := rfP_odd s q
        have z5 : IntKind.i64.wrap ((((2 * q + 1 : Nat)) : Int).tdiv 2) = (q : Int) := by
          have : (((2 * q + 1 : Nat)) : Int).tdiv 2 = (((2 * q + 1) / 2 : Nat) : Int) := rfl
          rw [this, show (2 * q + 1) / 2 = q by omega]; exact wi (by omega)
        have z6 : (0 : Int) ≤ (q : Int) := by omega
        have z7 : (q : Int) < (q : Int) + 1 := by omega
        have gq : (u8l (unP s q ++ [16 * dvI (cI s (2 * q))]))[q]? = some (.int .u8 (16 * dvI (cI s (2 * q)))) := by
          simp [u8l, unP_len]
        have hprev : 0 ≤ dvI (cI s (2 * q)) := hg (2 * q) (by omega)
        have lp := dvI_le (cI s (2 * q))
        have hw2 : IntKind.u8.wrap (16 * dvI (cI s (2 * q)) + dvI (cI s (2 * q + 1))) = 16 * dvI (cI s (2 * q)) + dvI (cI s (2 * q + 1)) := by rw [w8]; omega
        have hset : (unP s q ++ [16 * dvI (cI s (2 * q))]).set q (16 * dvI (cI s (2 * q)) + dvI (cI s (2 * q + 1))) = unP s (q + 1) := by
          rw [List.set_append_right _ _ (by rw [unP_len]; exact Nat.le_refl _), unP_len, Nat.sub_self]; rfl
        have z8 : q + 1 ≤ (unP s q).length + 1 := by rw [unP_len]; exact Nat.le_refl _
        have z9 : (nx + 1) / 2 = q + 1 := by omega
        have hrn : rfP s nx = unP s (q + 1) := by rw [show nx = 2 * (q + 1) by omega]; exact hre
        have hwi : IntKind.i64.wrap (((2 * q + 1 : Nat) : Int) + 1) = (nx : Int) := by rw [IntKind.wrap_i64]; omega
        simp only [push_cast, simprocAttr] at z5 hwi
        simp only [Nat.add_assoc, Nat.reduceAdd] at z1 z2
        refine AW.region (by decide) ?_
        simp only [push_cast, simprocAttr, h1, h1b, hcc, hz00, u8l_len, u8lset, Int.le_refl, c1, c2, e0, hlen, hpar, a1, a2, a3, a4, hw, hro, z1, z2, z5, z6, z7, z8, gq, hw2, hset]
        refine InB_n ?_
        refine Thn_n ?_
        refine hK _ _ ?_
        clear hK K
        refine AW.region (by decide) ?_
        simp only [push_cast, simprocAttr, h1, h1b, hcc, hz00, u8l_len, u8lset, Int.le_refl, c1, c2, e0, hlen, hpar, a1, a2, a3, a4, hw, hro, z1, z2, z5, z6, z7, z8, gq, hw2, hset]
        refine Thn_n ?_
        refine ⟨nx, by omega, by omega, ?_⟩
        try simp only [keepL, setAll, push_cast, simprocAttr, h1, h1b, hcc, hz00, u8l_len, u8lset, Int.le_refl, c1, c2, e0, hlen, hpar, a1, a2, a3, a4, hw, hro, z1, z2, z5, z6, z7, z8, gq, hw2, hset, hwi, z9, hrn]
        first
          | exact Weak.same (by simp only [Keeps, Tm.get_cons, Nat.reduceEqDiff, ↓reduceIte, if_true, if_false, ite_true, ite_false, true_and, and_true, and_self, reduceCtorEq, hwi, z9, hrn]) (by first | rfl | simp only [Keeps, Tm.get_cons, Nat.reduceEqDiff, ↓reduceIte, if_true, if_false, ite_true, ite_false, true_and, and_true, and_self, reduceCtorEq, hwi, z9, hrn])
          | exact Weak.to (extra := [_]) (by simp only [Keeps, Tm.get_cons, Nat.reduceEqDiff, ↓reduceIte, if_true, if_false, ite_true, ite_false, true_and, and_true, and_self, reduceCtorEq, hwi, z9, hrn]) (by first | rfl | (simp only [List.append_assoc, List.cons_append, List.nil_append]; rfl)) (by first | rfl | (simp [AV.below, CV.below, u8l_below]; done) | (simp [AV.below, CV.below, u8l_below]; omega)) (by
              first | exact hwf | refine MWf.app (hwf.grow (by simp)) ?_
              repeat (first | exact MWf_nil | (refine MWf_cons ?_ ?_; · first | rfl | (simp [CV.below, u8l_below]; done) | (simp [CV.below, u8l_below]; omega))))
    · have hneg : dvI (cI s i) < 0 := by unfold dvI; rw [if_neg (by omega), if_neg (by omega)]; decide
      
      iterate 2
        refine AW.region (by decide) ?_
        simp only [push_cast, simprocAttr, h1, h1b, hcc, hz00, u8l_len, u8lset, Int.le_refl, c1, c2, e0, hlen, hpar, a1, a3]
        refine Thn_n ?_
        refine hK _ _ ?_
        clear hK K
        refine AW.cond_f rfl ?_
        refine AW.seq_k fun K hK => ?_
      refine AW.region (by decide) ?_
      simp only [push_cast, simprocAttr, h1, h1b, hcc, hz00, u8l_len, u8lset, Int.le_refl, c1, c2, e0, hlen, hpar, a1, a3]
      refine Thn_n ?_
      refine hK _ _ ?_
      clear hK K
      refine AW.ret ?_
      refine Thn_r ?_
      refine InB_r ?_
      refine Thn_r ?_
      refine Thn_r ?_
      refine InB_r ?_
      refine Thn_r ?_
      refine hQ _ _ _ ?_
      first | refine RetP.drop0 (Or.inr rfl) ?_ ?_ hwf | refine RetP.drop (Or.inr rfl) ?_ ?_ hwf
      · simp only [resA, resOne, resTv, AV.tv, push_cast, simprocAttr, h1, h1b, hcc, hz00, u8l_len, u8lset, Int.le_refl, c1, c2, e0, hlen, hpar, a1, a3]
      · rfl
    · have hneg : dvI (cI s i) < 0 := by unfold dvI; rw [if_neg (by omega), if_neg (by omega)]; decide
      
      iterate 2
        refine AW.region (by decide) ?_
        simp only [push_cast, simprocAttr, h1, h1b, hcc, hz00, u8l_len, u8lset, Int.le_refl, c1, c2, e0, hlen, hpar, a1, a2, a3]
        refine Thn_n ?_
        refine hK _ _ ?_
        clear hK K
        refine AW.cond_f rfl ?_
        refine AW.seq_k fun K hK => ?_
      refine AW.region (by decide) ?_
      simp only [push_cast, simprocAttr, h1, h1b, hcc, hz00, u8l_len, u8lset, Int.le_refl, c1, c2, e0, hlen, hpar, a1, a2, a3]
      refine Thn_n ?_
      refine hK _ _ ?_
      clear hK K
      refine AW.ret ?_
      refine Thn_r ?_
      refine InB_r ?_
      refine Thn_r ?_
      refine Thn_r ?_
      refine InB_r ?_
      refine Thn_r ?_
      refine hQ _ _ _ ?_
      first | refine RetP.drop0 (Or.inr rfl) ?_ ?_ hwf | refine RetP.drop (Or.inr rfl) ?_ ?_ hwf
      · simp only [resA, resOne, resTv, AV.tv, push_cast, simprocAttr, h1, h1b, hcc, hz00, u8l_len, u8lset, Int.le_refl, c1, c2, e0, hlen, hpar, a1, a2, a3]
      · rfl
    · have hneg : dvI (cI s i) < 0 := by unfold dvI; rw [if_neg (by omega), if_neg (by omega)]; decide
      
      iterate 2
        refine AW.region (by decide) ?_
        simp only [push_cast, simprocAttr, h1, h1b, hcc, hz00, u8l_len, u8lset, Int.le_refl, c1, c2, e0, hlen, hpar, a1, a2, a3, a4]
        refine Thn_n ?_
        refine hK _ _ ?_
        clear hK K
        refine AW.cond_f rfl ?_
        refine AW.seq_k fun K hK => ?_
      refine AW.region (by decide) ?_
      simp only [push_cast, simprocAttr, h1, h1b, hcc, hz00, u8l_len, u8lset, Int.le_refl, c1, c2, e0, hlen, hpar, a1, a2, a3, a4]
      refine Thn_n ?_
      refine hK _ _ ?_
      clear hK K
      refine AW.ret ?_
      refine Thn_r ?_
      refine InB_r ?_
      refine Thn_r ?_
      refine Thn_r ?_
      refine InB_r ?_
      refine Thn_r ?_
      refine hQ _ _ _ ?_
      first | refine RetP.drop0 (Or.inr rfl) ?_ ?_ hwf | refine RetP.drop (Or.inr rfl) ?_ ?_ hwf
      · simp only [resA, resOne, resTv, AV.tv, push_cast, simprocAttr, h1, h1b, hcc, hz00, u8l_len, u8lset, Int.le_refl, c1, c2, e0, hlen, hpar, a1, a2, a3, a4]
      · rfl
  · exfalso
    have := of_decide_eq_false h14; omega
end Go.Proofs.Ytelkmimmmhkbhaa
