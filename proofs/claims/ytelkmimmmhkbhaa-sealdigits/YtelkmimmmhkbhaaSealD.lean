/- Walks and facts of this seat's program over abstract states, printed by a program of mine; no conditions but those that each theorem names. -/
import Derived.Test.YtelkmimmmhkbhaaSeal9
import Derived.Test.YtelkmimmmhkbhaaSealN
set_option linter.unusedSimpArgs false
set_option linter.unusedVariables false
set_option maxRecDepth 100000
set_option maxHeartbeats 4000000
namespace Go.Proofs.Ytelkmimmmhkbhaa
open Go Go.Eng

theorem hexA_c (rb v off : Nat) (bs X : List Int) (m : AMem) (hb : ∃ k ty ez, m[rb]? = some ⟨k, ty, v, ez, u8l X⟩) (hf : off + bs.length ≤ X.length) (hx : (X.drop off).take bs.length = bs) (hu : U8ok bs) (hl : bs.length ≤ 100000) : Ctr Try.prog 16 [.one (.sl rb v off bs.length)] m (.one (.str (hexS bs))) m := by
  rcases Nat.eq_zero_or_pos bs.length with h | h
  · have e : bs = [] := List.eq_nil_of_length_eq_zero h
    subst e
    exact hex0_c rb v off m
  · exact hex_c rb v off bs X m hb hf hx hu h hl
def cB (s : ByteArray) (i : Nat) : UInt8 := s.data.toList.getD i 0
def cI (s : ByteArray) (i : Nat) : Int := ((cB s i).toNat : Int)
theorem sget {s : ByteArray} {i : Nat} (h : i < s.size) : s[i]? = some (cB s i) := by
  have h2 : i < s.data.size := h
  have : s[i]? = s.data[i]? := by
    rw [Array.getElem?_eq_getElem h2]
    show (if h : i < s.size then some s[i] else none) = _
    rw [dif_pos h]; rfl
  rw [this, Array.getElem?_eq_getElem h2]
  simp [cB, List.getD_eq_getElem?_getD, Array.getElem?_eq_getElem h2]
def dvI (c : Int) : Int := if 48 ≤ c ∧ c ≤ 57 then c - 48 else if 97 ≤ c ∧ c ≤ 102 then c - 87 else -1
theorem dvI_le (c : Int) : -1 ≤ dvI c ∧ dvI c ≤ 15 := by unfold dvI; split <;> (try split) <;> omega
theorem ix_fin : ∀ k : Fin 256, firstIdx DS (UInt8.ofNat k.val) = dvI ((k.val : Nat) : Int) := by decide +kernel
theorem ix (s : ByteArray) (i : Nat) : firstIdx DS (cB s i).toNat.toUInt8 = dvI (cI s i) := by
  have := ix_fin ⟨(cB s i).toNat, (cB s i).toNat_lt⟩
  exact this
theorem or_fin : ∀ a b : Fin 16, IntKind.u8.wrap (bits .or .i64 (IntKind.i64.wrap (((a.val : Nat) : Int) * 16)) ((b.val : Nat) : Int)) = 16 * ((a.val : Nat) : Int) + ((b.val : Nat) : Int) := by decide +kernel
theorem or16 {a b : Int} (ha : 0 ≤ a ∧ a ≤ 15) (hb : 0 ≤ b ∧ b ≤ 15) : IntKind.u8.wrap (bits .or .i64 (IntKind.i64.wrap (a * 16)) b) = 16 * a + b := by
  have := or_fin ⟨a.toNat, by omega⟩ ⟨b.toNat, by omega⟩
  simpa only [Int.toNat_of_nonneg ha.1, Int.toNat_of_nonneg hb.1] using this
def unP (s : ByteArray) : Nat → List Int
  | 0 => []
  | j + 1 => unP s j ++ [16 * dvI (cI s (2 * j)) + dvI (cI s (2 * j + 1))]
theorem unP_len (s : ByteArray) : ∀ j, (unP s j).length = j
  | 0 => rfl
  | j + 1 => by simp [unP, unP_len s j]
def gd (s : ByteArray) (n : Nat) : Prop := ∀ k, k < n → 0 ≤ dvI (cI s k)
theorem unhex_odd (s : ByteArray) (m : AMem) (h : s.size % 2 = 1) (hs : s.size ≤ 200000) : Ctr Try.prog 14 [.one (.str s)] m (.tup [(false, [.nils]), (false, [.int .i64 10])]) m := by
  refine Ctr.enter Try.func14 rfl (by decide) (rs := [.tmp 2, .tmp 3]) (nt := 42) rfl rfl fun hwf Q hQ => ?_
  have h1 : (s.size : Int).tmod 2 = 1 := by have : (s.size : Int).tmod 2 = ((s.size % 2 : Nat) : Int) := rfl
                                            rw [this, h]; rfl
  refine AW.seq_k fun K hK => ?_
  refine AW.region (by decide) ?_
  simp only [push_cast, simprocAttr, h1]
  refine Thn_n ?_
  refine hK _ _ ?_
  clear hK K
  refine AW.seq_k fun K hK => ?_
  refine AW.seq_k fun K hK => ?_
  refine AW.region (by decide) ?_
  simp only [push_cast, simprocAttr, h1]
  refine Thn_n ?_
  refine hK _ _ ?_
  clear hK K
  refine AW.cond_t rfl ?_
  refine AW.seq_k fun K hK => ?_
  refine AW.region (by decide) ?_
  simp only [push_cast, simprocAttr, h1]
  refine Thn_n ?_
  refine hK _ _ ?_
  clear hK K
  refine AW.ret ?_
  refine Thn_r ?_
  refine hQ _ _ _ ?_
  first | refine RetP.drop0 (Or.inr rfl) ?_ ?_ hwf | refine RetP.drop (Or.inr rfl) ?_ ?_ hwf
  · simp only [resA, resOne, resTv, AV.tv, push_cast, simprocAttr, h1]
  · rfl
theorem unhex_good (s : ByteArray) (m : AMem) (N : Nat) (h : s.size = 2 * N) (hN : N ≤ 100000) (hg : gd s (2 * N)) : Ctr Try.prog 14 [.one (.str s)] m (.tup [(false, [.sl m.length 0 0 N]), (false, [.int .i64 0])]) (m ++ [⟨.grow, 5, 0, 1, u8l (unP s N)⟩]) := by
  refine Ctr.enter Try.func14 rfl (by decide) (rs := [.tmp 2, .tmp 3]) (nt := 42) rfl rfl fun hwf Q hQ => ?_
  have h1 : (s.size : Int).tmod 2 = 0 := by have : (s.size : Int).tmod 2 = ((s.size % 2 : Nat) : Int) := rfl
                                            rw [this, show s.size % 2 = 0 by omega]; rfl
  have hds : DS = { data := #[48, 49, 50, 51, 52, 53, 54, 55, 56, 57, 97, 98, 99, 100, 101, 102] } := rfl
  have q4 : (2:Int) ^ min 4 IntKind.i64.bits = 16 := by decide
  have hq0 : ∀ a, IntKind.i64.wrap (a * 16) = IntKind.i64.wrap (a * 16) := fun a => rfl
  refine AW.seq_k fun K hK => ?_
  refine AW.region (by decide) ?_
  simp only [push_cast, simprocAttr, h1, hds.symm, q4, u8l_len]
  refine Thn_n ?_
  refine hK _ _ ?_
  clear hK K
  refine AW.seq_k fun K hK => ?_
  refine AW.seq_k fun K hK => ?_
  refine AW.region (by decide) ?_
  simp only [push_cast, simprocAttr, h1, hds.symm, q4, u8l_len]
  refine Thn_n ?_
  refine hK _ _ ?_
  clear hK K
  refine AW.cond_f rfl ?_
  refine AW.skip ?_
  refine Thn_n ?_
  refine hK _ _ ?_
  clear hK K
  refine AW.seq_k fun K hK => ?_
  refine AW.region (by decide) ?_
  simp only [push_cast, simprocAttr, h1, hds.symm, q4, u8l_len]
  refine Thn_n ?_
  refine hK _ _ ?_
  clear hK K
  refine AW.seq_k fun K hK => ?_
  refine AW.seq_k fun K hK => ?_
  refine AW.nilTm 5 1 4 (by simp only [push_cast, simprocAttr]) ?_
  try simp only [push_cast, simprocAttr]
  refine AW.region (by decide) ?_
  simp only [push_cast, simprocAttr, h1, hds.symm, q4, u8l_len]
  refine Thn_n ?_
  refine hK _ _ ?_
  clear hK K
  refine AW.block ?_
  refine AW.loopK [0] (fun j => j ≤ N) (fun j => [(4, .one (.sl m.length j 0 j)), (5, .one (.int .i64 (2 * (j : Int))))]) (fun j => [(m.length, ⟨.grow, 5, j, 1, u8l (unP s j)⟩)]) (fun j => N - j) 0 (by omega) ?_ ?_ fun j hi7 => ?_
  · first | rfl | (simp only [Keeps, Tm.get_cons, Nat.reduceEqDiff, ↓reduceIte, if_true, if_false, ite_true, ite_false, true_and, and_true, and_self, reduceCtorEq, unP, u8l, List.map_nil, Int.natCast_zero, Int.mul_zero] <;> rfl)
  · first | rfl | (simp only [setAll, push_cast, simprocAttr, h1, hds.symm, q4, u8l_len, unP, u8l, List.map_nil, Int.natCast_zero, Int.mul_zero] <;> rfl)
  have hjN : j ≤ N := hi7
  have hul := unP_len s j
  have q1 : j + 1 ≤ 140737488355328 := by omega
  try simp only [keepL, setAll, push_cast, simprocAttr, h1, hds.symm, q4, u8l_len]
  refine AW.seq_k fun K hK => ?_
  refine AW.seq_k fun K hK => ?_
  refine AW.region (by decide) ?_
  simp only [push_cast, simprocAttr, h1, hds.symm, q4, u8l_len]
  refine Thn_n ?_
  refine hK _ _ ?_
  clear hK K
  refine AW.cond rfl (fun h15 => ?_) (fun h15 => ?_)
  · have hlt : j < N := by have := of_decide_eq_true h15; omega
    have c1 : (0 : Int) ≤ 2 * (j : Int) := by omega
    have c2 : (2 * (j : Int)).toNat = 2 * j := by omega
    have c3 : IntKind.i64.wrap (2 * (j : Int) + 1) = 2 * (j : Int) + 1 := wi (by omega)
    have c4 : (0 : Int) ≤ 2 * (j : Int) + 1 := by omega
    have c5 : (2 * (j : Int) + 1).toNat = 2 * j + 1 := by omega
    have e0 := sget (s := s) (i := 2 * j) (by omega)
    have e1 := sget (s := s) (i := 2 * j + 1) (by omega)
    have x0 := ix s (2 * j)
    have x1 := ix s (2 * j + 1)
    have l0 := dvI_le (cI s (2 * j))
    have l1 := dvI_le (cI s (2 * j + 1))
    have d0 : ¬ dvI (cI s (2 * j)) < 0 := by have := hg (2 * j) (by omega); omega
    have d1 : ¬ dvI (cI s (2 * j + 1)) < 0 := by have := hg (2 * j + 1) (by omega); omega
    have ho := or16 (a := dvI (cI s (2 * j))) (b := dvI (cI s (2 * j + 1))) ⟨by omega, by omega⟩ ⟨by omega, by omega⟩
    refine AW.skip ?_
    refine Thn_n ?_
    refine hK _ _ ?_
    clear hK K
    refine AW.seq_k fun K hK => ?_
    refine AW.block ?_
    refine AW.seq_k fun K hK => ?_
    refine AW.draw [.val, .val, .val, .ext, .val, .val, .val, .val, .ext, .val, .val] fol (by decide) (by kernel_rfl) ?_
    iterate 2
      simp only [push_cast, simprocAttr, h1, hds.symm, q4, u8l_len, c1, c2, c3, c4, c5, e0, e1, x0, x1, d0, d1, ho, hul, q1]
      refine DCall.by0 (ib_c _ _ _) ?_
    simp only [push_cast, simprocAttr, h1, hds.symm, q4, u8l_len, c1, c2, c3, c4, c5, e0, e1, x0, x1, d0, d1, ho, hul, q1]
    refine Thn_n ?_
    refine hK _ _ ?_
    clear hK K
    refine AW.seq_k fun K hK => ?_
    refine AW.seq_k fun K hK => ?_
    refine AW.region (by decide) ?_
    simp only [push_cast, simprocAttr, h1, hds.symm, q4, u8l_len, c1, c2, c3, c4, c5, e0, e1, x0, x1, d0, d1, ho, hul, q1]
    refine Thn_n ?_
    refine hK _ _ ?_
    clear hK K
    refine AW.cond_f rfl ?_
    refine AW.skip ?_
    refine Thn_n ?_
    refine hK _ _ ?_
    clear hK K
    refine AW.region (by decide) ?_
    simp only [push_cast, simprocAttr, h1, hds.symm, q4, u8l_len, c1, c2, c3, c4, c5, e0, e1, x0, x1, d0, d1, ho, hul, q1]
    refine InB_n ?_
    refine Thn_n ?_
    refine hK _ _ ?_
    clear hK K
    refine AW.region (by decide) ?_
    simp only [push_cast, simprocAttr, h1, hds.symm, q4, u8l_len, c1, c2, c3, c4, c5, e0, e1, x0, x1, d0, d1, ho, hul, q1]
    refine Thn_n ?_
    have hwi : IntKind.i64.wrap (2 * (j : Int) + 2) = 2 * ((j : Int) + 1) := by rw [IntKind.wrap_i64]; omega
    have hsn : u8l (unP s j) ++ [.int .u8 (16 * dvI (cI s (2 * j)) + dvI (cI s (2 * j + 1)))] = u8l (unP s (j + 1)) := by simp [u8l, unP]
    refine ⟨j + 1, hlt, by omega, ?_⟩
    try simp only [keepL, setAll, push_cast, simprocAttr, h1, hds.symm, q4, u8l_len, c1, c2, c3, c4, c5, e0, e1, x0, x1, d0, d1, ho, hul, q1, hwi, hsn]
    exact Weak.to (extra := [_]) (by simp only [Keeps, Tm.get_cons, Nat.reduceEqDiff, ↓reduceIte, if_true, if_false, ite_true, ite_false, true_and, and_true, and_self, reduceCtorEq, hwi, hsn]) (by first | rfl | (simp only [List.append_assoc, List.cons_append, List.nil_append]; rfl)) (by first | rfl | (simp [AV.below, CV.below, u8l_below]; done) | (simp [AV.below, CV.below, u8l_below]; omega)) (by
      first | exact hwf | refine MWf.app (hwf.grow (by simp)) ?_
      repeat (first | exact MWf_nil | (refine MWf_cons ?_ ?_; · first | rfl | (simp [CV.below, u8l_below]; done) | (simp [CV.below, u8l_below]; omega))))
  · have hje : j = N := by have := of_decide_eq_false h15; omega
    subst hje
    refine AW.exit ?_
    refine Thn_e ?_
    clear hK K
    refine Thn_e ?_
    refine InB_here ?_
    refine Thn_n ?_
    refine hK _ _ ?_
    clear hK K
    refine AW.seq_k fun K hK => ?_
    refine AW.region (by decide) ?_
    simp only [push_cast, simprocAttr, h1, hds.symm, q4, u8l_len]
    refine Thn_n ?_
    refine hK _ _ ?_
    clear hK K
    refine AW.ret ?_
    refine hQ _ _ _ ?_
    refine RetP.pick [(m.length, j)] (Or.inr rfl) ?_ ?_ ?_ hwf ?_
    · simp only [resA, resOne, resTv, AV.tv, push_cast, simprocAttr]
      simp [renV, renT, renL, renC, renIdx]
    · simp only [picks, push_cast, simprocAttr] <;> rfl
    · simp [distinctFrom]
    · exact MWf_one (u8l_below _ _)
    
theorem unhex_bad (s : ByteArray) (m : AMem) (N j0 : Nat) (h : s.size = 2 * N) (hN : N ≤ 100000) (hj0 : j0 < N) (hg : gd s (2 * j0)) (hbad : dvI (cI s (2 * j0)) < 0 ∨ dvI (cI s (2 * j0 + 1)) < 0) : Ctr Try.prog 14 [.one (.str s)] m (.tup [(false, [.nils]), (false, [.int .i64 10])]) m := by
  refine Ctr.enter Try.func14 rfl (by decide) (rs := [.tmp 2, .tmp 3]) (nt := 42) rfl rfl fun hwf Q hQ => ?_
  have h1 : (s.size : Int).tmod 2 = 0 := by have : (s.size : Int).tmod 2 = ((s.size % 2 : Nat) : Int) := rfl
                                            rw [this, show s.size % 2 = 0 by omega]; rfl
  have hds : DS = { data := #[48, 49, 50, 51, 52, 53, 54, 55, 56, 57, 97, 98, 99, 100, 101, 102] } := rfl
  have q4 : (2:Int) ^ min 4 IntKind.i64.bits = 16 := by decide
  have hq0 : ∀ a, IntKind.i64.wrap (a * 16) = IntKind.i64.wrap (a * 16) := fun a => rfl
  refine AW.seq_k fun K hK => ?_
  refine AW.region (by decide) ?_
  simp only [push_cast, simprocAttr, h1, hds.symm, q4, u8l_len]
  refine Thn_n ?_
  refine hK _ _ ?_
  clear hK K
  refine AW.seq_k fun K hK => ?_
  refine AW.seq_k fun K hK => ?_
  refine AW.region (by decide) ?_
  simp only [push_cast, simprocAttr, h1, hds.symm, q4, u8l_len]
  refine Thn_n ?_
  refine hK _ _ ?_
  clear hK K
  refine AW.cond_f rfl ?_
  refine AW.skip ?_
  refine Thn_n ?_
  refine hK _ _ ?_
  clear hK K
  refine AW.seq_k fun K hK => ?_
  refine AW.region (by decide) ?_
  simp only [push_cast, simprocAttr, h1, hds.symm, q4, u8l_len]
  refine Thn_n ?_
  refine hK _ _ ?_
  clear hK K
  refine AW.seq_k fun K hK => ?_
  refine AW.seq_k fun K hK => ?_
  refine AW.nilTm 5 1 4 (by simp only [push_cast, simprocAttr]) ?_
  try simp only [push_cast, simprocAttr]
  refine AW.region (by decide) ?_
  simp only [push_cast, simprocAttr, h1, hds.symm, q4, u8l_len]
  refine Thn_n ?_
  refine hK _ _ ?_
  clear hK K
  refine AW.block ?_
  refine AW.loopK [0] (fun j => j ≤ j0) (fun j => [(4, .one (.sl m.length j 0 j)), (5, .one (.int .i64 (2 * (j : Int))))]) (fun j => [(m.length, ⟨.grow, 5, j, 1, u8l (unP s j)⟩)]) (fun j => N - j) 0 (by omega) ?_ ?_ fun j hi7 => ?_
  · first | rfl | (simp only [Keeps, Tm.get_cons, Nat.reduceEqDiff, ↓reduceIte, if_true, if_false, ite_true, ite_false, true_and, and_true, and_self, reduceCtorEq, unP, u8l, List.map_nil, Int.natCast_zero, Int.mul_zero] <;> rfl)
  · first | rfl | (simp only [setAll, push_cast, simprocAttr, h1, hds.symm, q4, u8l_len, unP, u8l, List.map_nil, Int.natCast_zero, Int.mul_zero] <;> rfl)
  have hjj : j ≤ j0 := hi7
  have hul := unP_len s j
  have q1 : j + 1 ≤ 140737488355328 := by omega
  try simp only [keepL, setAll, push_cast, simprocAttr, h1, hds.symm, q4, u8l_len]
  refine AW.seq_k fun K hK => ?_
  refine AW.seq_k fun K hK => ?_
  refine AW.region (by decide) ?_
  simp only [push_cast, simprocAttr, h1, hds.symm, q4, u8l_len]
  refine Thn_n ?_
  refine hK _ _ ?_
  clear hK K
  refine AW.cond rfl (fun h15 => ?_) (fun h15 => ?_)
  · have hlt : j < N := by have := of_decide_eq_true h15; omega
    have c1 : (0 : Int) ≤ 2 * (j : Int) := by omega
    have c2 : (2 * (j : Int)).toNat = 2 * j := by omega
    have c3 : IntKind.i64.wrap (2 * (j : Int) + 1) = 2 * (j : Int) + 1 := wi (by omega)
    have c4 : (0 : Int) ≤ 2 * (j : Int) + 1 := by omega
    have c5 : (2 * (j : Int) + 1).toNat = 2 * j + 1 := by omega
    have e0 := sget (s := s) (i := 2 * j) (by omega)
    have e1 := sget (s := s) (i := 2 * j + 1) (by omega)
    have x0 := ix s (2 * j)
    have x1 := ix s (2 * j + 1)
    have l0 := dvI_le (cI s (2 * j))
    have l1 := dvI_le (cI s (2 * j + 1))
    refine AW.skip ?_
    refine Thn_n ?_
    refine hK _ _ ?_
    clear hK K
    refine AW.seq_k fun K hK => ?_
    refine AW.block ?_
    refine AW.seq_k fun K hK => ?_
    refine AW.draw [.val, .val, .val, .ext, .val, .val, .val, .val, .ext, .val, .val] fol (by decide) (by kernel_rfl) ?_
    iterate 2
      simp only [push_cast, simprocAttr, h1, hds.symm, q4, u8l_len, c1, c2, c3, c4, c5, e0, e1, x0, x1]
      refine DCall.by0 (ib_c _ _ _) ?_
    simp only [push_cast, simprocAttr, h1, hds.symm, q4, u8l_len, c1, c2, c3, c4, c5, e0, e1, x0, x1]
    refine Thn_n ?_
    refine hK _ _ ?_
    clear hK K
    refine AW.seq_k fun K hK => ?_
    refine AW.seq_k fun K hK => ?_
    have hcs : j < j0 ∨ (j = j0 ∧ dvI (cI s (2 * j)) < 0) ∨ (j = j0 ∧ ¬ dvI (cI s (2 * j)) < 0 ∧ dvI (cI s (2 * j + 1)) < 0) := by
      rcases Nat.lt_or_ge j j0 with hc | hc
      · exact .inl hc
      · have hje : j = j0 := by omega
        subst hje
        rcases Classical.em (dvI (cI s (2 * j)) < 0) with h | h
        · exact .inr (.inl ⟨rfl, h⟩)
        · exact .inr (.inr ⟨rfl, h, hbad.resolve_left h⟩)
    rcases hcs with hc | ⟨hje, d0⟩ | ⟨hje, d0, d1⟩
    · have d0 : ¬ dvI (cI s (2 * j)) < 0 := by have := hg (2 * j) (by omega); omega
      have d1 : ¬ dvI (cI s (2 * j + 1)) < 0 := by have := hg (2 * j + 1) (by omega); omega
      have ho := or16 (a := dvI (cI s (2 * j))) (b := dvI (cI s (2 * j + 1))) ⟨by omega, by omega⟩ ⟨by omega, by omega⟩
      refine AW.region (by decide) ?_
      simp only [push_cast, simprocAttr, h1, hds.symm, q4, u8l_len, c1, c2, c3, c4, c5, e0, e1, x0, x1, d0, d1, ho, hul, q1]
      refine Thn_n ?_
      refine hK _ _ ?_
      clear hK K
      refine AW.cond_f rfl ?_
      refine AW.skip ?_
      refine Thn_n ?_
      refine hK _ _ ?_
      clear hK K
      refine AW.region (by decide) ?_
      simp only [push_cast, simprocAttr, h1, hds.symm, q4, u8l_len, c1, c2, c3, c4, c5, e0, e1, x0, x1, d0, d1, ho, hul, q1]
      refine InB_n ?_
      refine Thn_n ?_
      refine hK _ _ ?_
      clear hK K
      refine AW.region (by decide) ?_
      simp only [push_cast, simprocAttr, h1, hds.symm, q4, u8l_len, c1, c2, c3, c4, c5, e0, e1, x0, x1, d0, d1, ho, hul, q1]
      refine Thn_n ?_
      have hwi : IntKind.i64.wrap (2 * (j : Int) + 2) = 2 * ((j : Int) + 1) := by rw [IntKind.wrap_i64]; omega
      have hsn : u8l (unP s j) ++ [.int .u8 (16 * dvI (cI s (2 * j)) + dvI (cI s (2 * j + 1)))] = u8l (unP s (j + 1)) := by simp [u8l, unP]
      refine ⟨j + 1, hc, by omega, ?_⟩
      try simp only [keepL, setAll, push_cast, simprocAttr, h1, hds.symm, q4, u8l_len, c1, c2, c3, c4, c5, e0, e1, x0, x1, d0, d1, ho, hul, q1, hwi, hsn]
      exact Weak.to (extra := [_]) (by simp only [Keeps, Tm.get_cons, Nat.reduceEqDiff, ↓reduceIte, if_true, if_false, ite_true, ite_false, true_and, and_true, and_self, reduceCtorEq, hwi, hsn]) (by first | rfl | (simp only [List.append_assoc, List.cons_append, List.nil_append]; rfl)) (by first | rfl | (simp [AV.below, CV.below, u8l_below]; done) | (simp [AV.below, CV.below, u8l_below]; omega)) (by
        first | exact hwf | refine MWf.app (hwf.grow (by simp)) ?_
        repeat (first | exact MWf_nil | (refine MWf_cons ?_ ?_; · first | rfl | (simp [CV.below, u8l_below]; done) | (simp [CV.below, u8l_below]; omega))))
    · refine AW.region (by decide) ?_
      simp only [push_cast, simprocAttr, h1, hds.symm, q4, u8l_len, c1, c2, c3, c4, c5, e0, e1, x0, x1, d0]
      refine Thn_n ?_
      refine hK _ _ ?_
      clear hK K
      refine AW.cond_t rfl ?_
      refine AW.seq_k fun K hK => ?_
      refine AW.region (by decide) ?_
      simp only [push_cast, simprocAttr, h1, hds.symm, q4, u8l_len, c1, c2, c3, c4, c5, e0, e1, x0, x1, d0]
      refine Thn_n ?_
      refine hK _ _ ?_
      clear hK K
      refine AW.ret ?_
      refine Thn_r ?_
      refine InB_r ?_
      refine Thn_r ?_
      refine Thn_r ?_
      refine InB_r ?_
      refine Thn_r ?_
      refine hQ _ _ _ ?_
      first | refine RetP.drop0 (Or.inr rfl) ?_ ?_ hwf | refine RetP.drop (Or.inr rfl) ?_ ?_ hwf
      · simp only [resA, resOne, resTv, AV.tv, push_cast, simprocAttr, h1, hds.symm, q4, u8l_len, c1, c2, c3, c4, c5, e0, e1, x0, x1, d0]
      · rfl
    · refine AW.region (by decide) ?_
      simp only [push_cast, simprocAttr, h1, hds.symm, q4, u8l_len, c1, c2, c3, c4, c5, e0, e1, x0, x1, d0, d1]
      refine Thn_n ?_
      refine hK _ _ ?_
      clear hK K
      refine AW.cond_t rfl ?_
      refine AW.seq_k fun K hK => ?_
      refine AW.region (by decide) ?_
      simp only [push_cast, simprocAttr, h1, hds.symm, q4, u8l_len, c1, c2, c3, c4, c5, e0, e1, x0, x1, d0, d1]
      refine Thn_n ?_
      refine hK _ _ ?_
      clear hK K
      refine AW.ret ?_
      refine Thn_r ?_
      refine InB_r ?_
      refine Thn_r ?_
      refine Thn_r ?_
      refine InB_r ?_
      refine Thn_r ?_
      refine hQ _ _ _ ?_
      first | refine RetP.drop0 (Or.inr rfl) ?_ ?_ hwf | refine RetP.drop (Or.inr rfl) ?_ ?_ hwf
      · simp only [resA, resOne, resTv, AV.tv, push_cast, simprocAttr, h1, hds.symm, q4, u8l_len, c1, c2, c3, c4, c5, e0, e1, x0, x1, d0, d1]
      · rfl
  · exfalso
    have := of_decide_eq_false h15; omega
end Go.Proofs.Ytelkmimmmhkbhaa
