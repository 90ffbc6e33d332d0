/- Walks and facts of this seat's program over abstract states, printed by programs of mine; no conditions but those that each theorem names. -/
import Derived.Test.YtlhppfdokgeijaaDoorM6
set_option linter.unusedSimpArgs false
set_option linter.unusedVariables false
set_option maxRecDepth 100000
set_option maxHeartbeats 4000000
namespace Go.Proofs.YtlhppfdokgeijaaDoor
open Go Go.Eng

def nva : Nat → List UInt8 → Nat → Nat
  | acc, _, 0 => acc
  | acc, [], _ + 1 => acc
  | acc, c :: l, i + 1 => nva (acc * 10 + (c.toNat - 48)) l i
theorem nva_s : ∀ (l : List UInt8) (acc i : Nat), i < l.length → nva acc l (i + 1) = nva acc l i * 10 + ((l.getD i 0).toNat - 48)
  | [], _, _, h => absurd h (Nat.not_lt_zero _)
  | c :: l, acc, 0, _ => by cases l <;> rfl
  | c :: l, acc, i + 1, h => by
    have := nva_s l (acc * 10 + (c.toNat - 48)) i (by simp at h; omega)
    show nva (acc * 10 + (c.toNat - 48)) l (i + 1) = nva (acc * 10 + (c.toNat - 48)) l i * 10 + _
    rw [this]; simp
theorem nva_end : ∀ (l : List UInt8) (acc n : Nat), Lib.decFrom acc l = some n → nva acc l l.length = n
  | [], acc, n, h => by rw [Lib.decFrom] at h; injection h
  | c :: l, acc, n, h => by
    rw [Lib.decFrom] at h
    cases hc : Lib.digitVal c with
    | none => rw [hc] at h; cases h
    | some e =>
      rw [hc] at h
      unfold Lib.digitVal at hc
      split at hc
      · injection hc with hc
        show nva (acc * 10 + (c.toNat - 48)) l l.length = n
        rw [hc]; exact nva_end l _ n h
      · cases hc
theorem nva_le (l : List UInt8) (acc : Nat) : ∀ k i, i + k = l.length → nva acc l i ≤ nva acc l l.length
  | 0, i, h => by rw [show i = l.length by omega]; exact Nat.le_refl _
  | k + 1, i, h => by
    have h1 := nva_le l acc k (i + 1) (by omega)
    rw [nva_s l acc i (by omega)] at h1
    omega
theorem dec_len5 {q : Nat} (h : q ≤ 32768) : (Lib.decDigits q).length ≤ 5 := by
  have st : ∀ q n : Nat, 10 ≤ q → (Lib.decDigits (q / 10)).length ≤ n → (Lib.decDigits q).length ≤ n + 1 := fun q n h1 h2 => by
    rw [Lib.decDigits, dif_neg (by omega), List.length_append]
    show _ + 1 ≤ _; omega
  have s0 : ∀ q : Nat, q < 10 → (Lib.decDigits q).length ≤ 1 := fun q h => by rw [Lib.decDigits, dif_pos h]; exact Nat.le_refl _
  have s1 : ∀ q : Nat, q < 100 → (Lib.decDigits q).length ≤ 2 := fun q h => by
    by_cases h1 : q < 10
    · exact Nat.le_succ_of_le (s0 q h1)
    · exact st q 1 (by omega) (s0 _ (by omega))
  have s2 : ∀ q : Nat, q < 1000 → (Lib.decDigits q).length ≤ 3 := fun q h => by
    by_cases h1 : q < 10
    · exact Nat.le_trans (s0 q h1) (by omega)
    · exact st q 2 (by omega) (s1 _ (by omega))
  have s3 : ∀ q : Nat, q < 10000 → (Lib.decDigits q).length ≤ 4 := fun q h => by
    by_cases h1 : q < 10
    · exact Nat.le_trans (s0 q h1) (by omega)
    · exact st q 3 (by omega) (s2 _ (by omega))
  by_cases h1 : q < 10
  · exact Nat.le_trans (s0 q h1) (by omega)
  · exact st q 4 (by omega) (s3 _ (by omega))
end Go.Proofs.YtlhppfdokgeijaaDoor

set_option linter.unusedSimpArgs false
set_option linter.unusedVariables false
set_option maxRecDepth 100000
set_option maxHeartbeats 4000000
namespace Go.Proofs.YtlhppfdokgeijaaDoor
open Go Go.Eng

theorem gd_l {x y : List UInt8} {i : Nat} (h : i < x.length) : (x ++ y).getD i 0 = x.getD i 0 := by
  rw [List.getD_eq_getElem?_getD, List.getD_eq_getElem?_getD, List.getElem?_append_left h]
theorem gd_r (x y : List UInt8) (i : Nat) : (x ++ y).getD (x.length + i) 0 = y.getD i 0 := by
  rw [List.getD_eq_getElem?_getD, List.getD_eq_getElem?_getD, List.getElem?_append_right (by omega), show x.length + i - x.length = i by omega]
theorem rparse_good (t : ByteArray) (hs : t.size ≤ 1000) (m : AMem) (a : Int) (hin : inS a) (ht : bl t = txL a) : Ctr Tryd.prog 36 [.one (.str t)] m (.tup [(false, [.int .i64 (a)]), (false, [.int .i64 (0)])]) m := by
  obtain ⟨n, hn⟩ : ∃ n, n = a.natAbs := ⟨_, rfl⟩
  obtain ⟨q, hq⟩ : ∃ q, q = n / 65536 := ⟨_, rfl⟩
  obtain ⟨r, hr⟩ : ∃ r, r = n % 65536 := ⟨_, rfl⟩
  have hnb : n ≤ 2147483648 := by unfold inS at hin; omega
  obtain ⟨L, h16, hL, hL0, htx⟩ := tx_ex hin hn hq hr
  have hT : t = ⟨(txL a).toArray⟩ := bl_ext (by rw [ht]; rfl)
  have hTx := rtext_c a m
  rw [← hT] at hTx
  rw [htx] at ht
  obtain ⟨D, hD⟩ : ∃ D, D = Lib.decDigits q := ⟨_, rfl⟩
  rw [← hD] at ht
  have hD0 : 0 < D.length := List.length_pos_iff.2 (by rw [hD]; exact dec_ne q)
  have hD5 : D.length ≤ 5 := by rw [hD]; exact dec_len5 (by omega)
  have hDd : ∀ i, i < D.length → 48 ≤ (D.getD i 0).toNat ∧ (D.getD i 0).toNat ≤ 57 := fun i hi => by
    have hm : D.getD i 0 ∈ Lib.decDigits q := by
      rw [← hD, List.getD_eq_getElem?_getD, List.getElem?_eq_getElem hi]; exact List.getElem_mem hi
    exact dec_isD q _ hm
  have hend : nva 0 D D.length = q := nva_end D 0 q (by rw [hD]; exact dec_from q)
  have key : ∀ (pre : List UInt8) (L' : Nat) (R : List UInt8), bl t = pre ++ (D ++ R) → L' ≤ 16 → rm r L' = 0 → ((R = [] ∧ L' = 0) ∨ R = 46 :: dsL r L') →
      t.size = pre.length + D.length + R.length ∧ ((t.size = pre.length + D.length ∧ L' = 0) ∨ (t.size = pre.length + D.length + 1 + L' ∧ (atB t (pre.length + D.length)).toNat = 46)) ∧
      (∀ i, pre.length ≤ i → i < pre.length + D.length → atB t i = D.getD (i - pre.length) 0) ∧ (∀ i, i < L' → atB t (pre.length + D.length + 1 + i) = dgt (rm r i * 10 / 65536)) := by
    intro pre L' R hb h1 h2 h3
    have hsz : t.size = pre.length + D.length + R.length := by rw [← bl_len, hb, List.length_append, List.length_append]; omega
    have hat : ∀ i, atB t i = (pre ++ (D ++ R)).getD i 0 := fun i => by rw [← hb]; rfl
    refine ⟨hsz, ?_, ?_, ?_⟩
    · rcases h3 with ⟨e1, e2⟩ | e1
      · exact .inl ⟨by rw [hsz, e1]; rfl, e2⟩
      · refine .inr ⟨by rw [hsz, e1, List.length_cons, dsL_len]; omega, ?_⟩
        rw [hat, gd_r, show D.length = D.length + 0 from rfl, gd_r, e1]; rfl
    · intro i hi1 hi2
      rw [hat, show i = pre.length + (i - pre.length) by omega, gd_r, gd_l (by omega), show pre.length + (i - pre.length) - pre.length = i - pre.length by omega]
    · intro i hi
      rcases h3 with ⟨_, e2⟩ | e1
      · omega
      · rw [hat, show pre.length + D.length + 1 + i = pre.length + (D.length + (i + 1)) by omega, gd_r, gd_r, e1]
        exact ds_at hi
  obtain ⟨L', h16', hL0', hR⟩ : ∃ L', L' ≤ 16 ∧ rm r L' = 0 ∧ (((if r = 0 then [] else 46 :: dsL r L : List UInt8) = [] ∧ L' = 0) ∨ (if r = 0 then [] else 46 :: dsL r L : List UInt8) = 46 :: dsL r L') := by
    by_cases hz : r = 0
    · exact ⟨0, Nat.zero_le _, hz, .inl ⟨if_pos hz, rfl⟩⟩
    · exact ⟨L, h16, hL0, .inr (if_neg hz)⟩
  obtain ⟨k1, k2, k3, k4⟩ := key _ L' _ ht h16' hL0' hR
  by_cases hneg : a < 0
  · rw [if_pos hneg] at k1 k2 k3 k4 ht
    have c0 : atB t 0 = 45 := by show (bl t).getD 0 0 = _; rw [ht]; rfl
    exact rparse_gn t t.size (1 + D.length) q r L' a (fun i => nva 0 D (i - 1)) m rfl hs (by omega) (by omega) k2 h16' (by omega) hL0' rfl (by show nva 0 D (1 + D.length - 1) = q; rw [show 1 + D.length - 1 = D.length by omega]; exact hend)
      (fun i hi => by have := nva_le D 0 (D.length - (i - 1)) (i - 1) (by omega); show nva 0 D (i - 1) ≤ _; omega)
      (fun i h1 h2 => by
        have h3 := k3 i h1 h2
        have h4 := hDd (i - 1) (by omega)
        have h5 := nva_s D 0 (i - 1) (by omega)
        have h6 : atB t i = D.getD (i - 1) 0 := h3
        show nva 0 D (i + 1 - 1) = nva 0 D (i - 1) * 10 + _ ∧ _
        rw [show i + 1 - 1 = i - 1 + 1 by omega, h5, h6]
        exact ⟨rfl, h4⟩)
      k4 (by omega) (by omega) 45 (by rw [c0]; rfl) rfl hTx
  · rw [if_neg hneg] at k1 k2 k3 k4 ht
    have k2' : (t.size = D.length ∧ L' = 0) ∨ (t.size = D.length + 1 + L' ∧ (atB t D.length).toNat = 46) := by
      rw [show ([] : List UInt8).length + D.length = D.length from Nat.zero_add _] at k2; exact k2
    have k4' : ∀ i, i < L' → atB t (D.length + 1 + i) = dgt (rm r i * 10 / 65536) := by
      rw [show ([] : List UInt8).length + D.length = D.length from Nat.zero_add _] at k4; exact k4
    have k3' : ∀ i, i < D.length → atB t i = D.getD i 0 := fun i hi => k3 i (Nat.zero_le _) (by show i < 0 + D.length; omega)
    have c0 := hDd 0 hD0
    rw [← k3' 0 hD0] at c0
    exact rparse_gp t t.size D.length q r L' a (fun i => nva 0 D i) m rfl hs hD0 (by omega) k2' h16' (by omega) hL0' rfl hend
      (fun i hi => by have := nva_le D 0 (D.length - i) i (by omega); show nva 0 D i ≤ _; omega)
      (fun i h1 h2 => by
        have h5 := nva_s D 0 i h2
        rw [← k3' i h2] at h5
        have h4 := hDd i h2
        rw [← k3' i h2] at h4
        exact ⟨h5, h4⟩)
      k4' (by omega) (by omega) _ rfl (by omega) hTx
theorem rparse_c (t : ByteArray) (hs : t.size ≤ 1000) (m : AMem) (a e : Int) (h : pv t a e) : Ctr Tryd.prog 36 [.one (.str t)] m (.tup [(false, [.int .i64 (a)]), (false, [.int .i64 (e)])]) m := by
  rcases h with ⟨hin, ht, rfl⟩ | ⟨hno, rfl, rfl⟩
  · exact rparse_good t hs m a hin ht
  · have hTx : ∀ A : Int, -2147483648 ≤ A → A ≤ 2147483648 → ∃ s : ByteArray, (s.toList == t.toList) = false ∧ Ctr Tryd.prog 38 [.one (.int .i64 A)] m (.one (.str s)) m := fun A h1 h2 =>
      ⟨⟨(txL A).toArray⟩, tl_ne (fun e => hno A ⟨h1, h2⟩ (by rw [← e]; rfl)), rtext_c A m⟩
    rcases Nat.eq_zero_or_pos t.size with h0 | h0
    · exact rparse_bz t _ m rfl hs hTx h0
    · by_cases h45 : (atB t 0).toNat = 45
      · exact rparse_bn t _ m rfl hs hTx h0 _ rfl h45
      · exact rparse_bp t _ m rfl hs hTx h0 _ rfl h45
end Go.Proofs.YtlhppfdokgeijaaDoor

set_option linter.unusedSimpArgs false
set_option linter.unusedVariables false
set_option maxRecDepth 100000
set_option maxHeartbeats 4000000
namespace Go.Proofs.YtlhppfdokgeijaaDoor
open Go Go.Eng

def pls_awake_c : Nat → Nat → List Plan := fun f r =>
  match f with
  | 62 => match r with
    | 7 => [.val, .val, .val, .val, .val, .val, .val, .val, .val, .val, .val, .val, .wr, .val, .wr]
    | 8 => [.val, .val, .val, .val, .val, .val, .val, .val, .val, .val, .val, .val, .wr, .val, .wr]
    | 9 => [.val, .val, .val, .val, .val, .val, .val, .val, .val, .val, .val, .val, .wr, .val, .wr]
    | 10 => [.val, .val, .val, .val, .val, .val, .val, .val, .val, .val, .val, .val, .wr, .val, .wr]
    | 17 => [.val, .val, .val, .val, .val, .val, .val, .val, .val, .val, .val, .val, .wr, .val, .wr]
    | 18 => [.val, .val, .val, .val, .val, .val, .val, .val, .val, .val, .val, .val, .wr, .val, .wr]
    | 23 => [.val, .val, .val, .val, .val, .val, .val, .val, .val, .val, .val, .val, .wr, .val, .wr]
    | _ => []
  | _ => []

theorem awake_c (m : AMem) : Ctr Tryd.prog 10 [] m (.one (.bool true)) m :=
  Ctr.run pls_awake_c 200 60 fol (by kernel_rfl) (by first | (simp; done) | (simp; exact ⟨rfl, rfl⟩)) rfl m
end Go.Proofs.YtlhppfdokgeijaaDoor

set_option linter.unusedSimpArgs false
set_option linter.unusedVariables false
set_option maxRecDepth 100000
set_option maxHeartbeats 4000000
namespace Go.Proofs.YtlhppfdokgeijaaDoor
open Go Go.Eng

theorem held_in (a : Int) : inS (heldI a) := held_b a
theorem txL_held (a : Int) : txL (heldI a) = txL a := by unfold txL; rw [held_id (held_b a)]
theorem txL_len (a : Int) : (txL a).length ≤ 100 := by
  have hb := held_b a
  obtain ⟨L, h16, _, _, h⟩ := tx_ex (held_in a) (n := (heldI a).natAbs) (q := (heldI a).natAbs / 65536) (r := (heldI a).natAbs % 65536) rfl rfl rfl
  rw [← txL_held, h, List.length_append, List.length_append]
  have h5 := dec_len5 (q := (heldI a).natAbs / 65536) (by omega)
  have h1 : (if heldI a < 0 then [45] else [] : List UInt8).length ≤ 1 := by split <;> decide
  have h2 : (if (heldI a).natAbs % 65536 = 0 then [] else 46 :: dsL ((heldI a).natAbs % 65536) L : List UInt8).length ≤ 17 := by
    split
    · exact Nat.zero_le _
    · rw [List.length_cons, dsL_len]; omega
  omega
theorem pv_back (a : Int) : pv ⟨(txL a).toArray⟩ (heldI a) 0 := .inl ⟨held_in a, by rw [txL_held]; rfl, rfl⟩
theorem ft_big (a : Int) (t : ByteArray) (m : AMem) (g1 : gB m 1 = some [.ifj 94]) (g2 : gB m 2 = some [.ifj 94]) (g3 : gB m 3 = some (Lib.pow10Tab.map (CV.int .u64))) (h : 200 < t.size) : Ctr Tryd.prog 9 [.one (.int .i64 a), .one (.str t)] m (.one (.bool true)) m := by
  refine Ctr.enter Tryd.func9 rfl (by decide) (rs := [.tmp 4]) (nt := 59) rfl rfl fun hwf Q hQ => ?_
  have c0 : decide ((200 : Int) < (t.size : Int)) = true := decide_eq_true (by omega)
  refine AW.seq_k fun K hK => ?_
  refine AW.region (by decide) ?_
  simp only [push_cast, Nat.reduceAdd, Nat.reduceMul, Nat.reduceSub, Nat.reduceLeDiff, Nat.reduceLT, Nat.reduceEqDiff, Nat.reduceBEq, Nat.reduceBNe, Nat.reduceMod, Nat.reduceDiv, Int.reduceLE, Int.reduceLT, Int.reduceToNat, Int.reduceAdd, Int.reduceSub, Int.reduceMul, Int.reduceNeg, Int.reduceEq, Int.reduceBEq, Int.reduceBNe, ↓reduceIte, reduceCtorEq, String.reduceBNe, String.reduceEq, reduceDIte, Nat.reducePow, c0]
  refine Thn_n ?_
  refine hK _ _ ?_
  clear hK K
  refine AW.seq_k fun K hK => ?_
  refine AW.seq_k fun K hK => ?_
  refine AW.region (by decide) ?_
  simp only [push_cast, Nat.reduceAdd, Nat.reduceMul, Nat.reduceSub, Nat.reduceLeDiff, Nat.reduceLT, Nat.reduceEqDiff, Nat.reduceBEq, Nat.reduceBNe, Nat.reduceMod, Nat.reduceDiv, Int.reduceLE, Int.reduceLT, Int.reduceToNat, Int.reduceAdd, Int.reduceSub, Int.reduceMul, Int.reduceNeg, Int.reduceEq, Int.reduceBEq, Int.reduceBNe, ↓reduceIte, reduceCtorEq, String.reduceBNe, String.reduceEq, reduceDIte, Nat.reducePow, c0]
  refine Thn_n ?_
  refine hK _ _ ?_
  clear hK K
  refine AW.cond_t rfl ?_
  refine AW.seq_k fun K hK => ?_
  refine AW.region (by decide) ?_
  simp only [push_cast, Nat.reduceAdd, Nat.reduceMul, Nat.reduceSub, Nat.reduceLeDiff, Nat.reduceLT, Nat.reduceEqDiff, Nat.reduceBEq, Nat.reduceBNe, Nat.reduceMod, Nat.reduceDiv, Int.reduceLE, Int.reduceLT, Int.reduceToNat, Int.reduceAdd, Int.reduceSub, Int.reduceMul, Int.reduceNeg, Int.reduceEq, Int.reduceBEq, Int.reduceBNe, ↓reduceIte, reduceCtorEq, String.reduceBNe, String.reduceEq, reduceDIte, Nat.reducePow, c0]
  refine CThen.by (awake_c _) ?_
  simp only [push_cast, Nat.reduceAdd, Nat.reduceMul, Nat.reduceSub, Nat.reduceLeDiff, Nat.reduceLT, Nat.reduceEqDiff, Nat.reduceBEq, Nat.reduceBNe, Nat.reduceMod, Nat.reduceDiv, Int.reduceLE, Int.reduceLT, Int.reduceToNat, Int.reduceAdd, Int.reduceSub, Int.reduceMul, Int.reduceNeg, Int.reduceEq, Int.reduceBEq, Int.reduceBNe, ↓reduceIte, reduceCtorEq, String.reduceBNe, String.reduceEq, reduceDIte, Nat.reducePow, c0]
  refine Thn_n ?_
  refine hK _ _ ?_
  clear hK K
  refine AW.ret ?_
  refine Thn_r ?_
  refine hQ _ _ _ ?_
  first | refine RetP.drop0 (Or.inr rfl) ?_ ?_ hwf | refine RetP.drop (Or.inr rfl) ?_ ?_ hwf
  · simp only [resA, resOne, resTv, AV.tv, push_cast, Nat.reduceAdd, Nat.reduceMul, Nat.reduceSub, Nat.reduceLeDiff, Nat.reduceLT, Nat.reduceEqDiff, Nat.reduceBEq, Nat.reduceBNe, Nat.reduceMod, Nat.reduceDiv, Int.reduceLE, Int.reduceLT, Int.reduceToNat, Int.reduceAdd, Int.reduceSub, Int.reduceMul, Int.reduceNeg, Int.reduceEq, Int.reduceBEq, Int.reduceBNe, ↓reduceIte, reduceCtorEq, String.reduceBNe, String.reduceEq, reduceDIte, Nat.reducePow, c0]
  · rfl
theorem ft_small (a : Int) (t : ByteArray) (m : AMem) (g1 : gB m 1 = some [.ifj 94]) (g2 : gB m 2 = some [.ifj 94]) (g3 : gB m 3 = some (Lib.pow10Tab.map (CV.int .u64))) (h : t.size ≤ 200) (x e : Int) (hp : pv t x e) : Ctr Tryd.prog 9 [.one (.int .i64 a), .one (.str t)] m (.one (.bool true)) m := by
  refine Ctr.enter Tryd.func9 rfl (by decide) (rs := [.tmp 4]) (nt := 59) rfl rfl fun hwf Q hQ => ?_
  have c0 : decide ((200 : Int) < (t.size : Int)) = false := decide_eq_false (by omega)
  have hxe : (-2147483648 ≤ x ∧ x ≤ 2147483648) ∧ 0 ≤ e ∧ e ≤ 10 := by
    rcases hp with ⟨h1, _, h2⟩ | ⟨_, h1, h2⟩
    · exact ⟨h1, by omega⟩
    · omega
  have hb := held_b a
  have w1 : IntKind.i64.wrap x = x := wi (by omega)
  have w2 : IntKind.i64.wrap e = e := wi (by omega)
  have w3 : IntKind.i64.wrap (heldI a) = heldI a := wi (by omega)
  have z8 : ∀ l : Int, (l == l) = true := fun l => beq_self_eq_true l
  have z9 : ∀ l : List UInt8, (l == l) = true := fun l => beq_self_eq_true l
  refine AW.seq_k fun K hK => ?_
  refine AW.region (by decide) ?_
  simp only [push_cast, Nat.reduceAdd, Nat.reduceMul, Nat.reduceSub, Nat.reduceLeDiff, Nat.reduceLT, Nat.reduceEqDiff, Nat.reduceBEq, Nat.reduceBNe, Nat.reduceMod, Nat.reduceDiv, Int.reduceLE, Int.reduceLT, Int.reduceToNat, Int.reduceAdd, Int.reduceSub, Int.reduceMul, Int.reduceNeg, Int.reduceEq, Int.reduceBEq, Int.reduceBNe, ↓reduceIte, reduceCtorEq, String.reduceBNe, String.reduceEq, reduceDIte, Nat.reducePow, c0, w1, w2, w3, z8, z9]
  refine Thn_n ?_
  refine hK _ _ ?_
  clear hK K
  refine AW.seq_k fun K hK => ?_
  refine AW.seq_k fun K hK => ?_
  refine AW.region (by decide) ?_
  simp only [push_cast, Nat.reduceAdd, Nat.reduceMul, Nat.reduceSub, Nat.reduceLeDiff, Nat.reduceLT, Nat.reduceEqDiff, Nat.reduceBEq, Nat.reduceBNe, Nat.reduceMod, Nat.reduceDiv, Int.reduceLE, Int.reduceLT, Int.reduceToNat, Int.reduceAdd, Int.reduceSub, Int.reduceMul, Int.reduceNeg, Int.reduceEq, Int.reduceBEq, Int.reduceBNe, ↓reduceIte, reduceCtorEq, String.reduceBNe, String.reduceEq, reduceDIte, Nat.reducePow, c0, w1, w2, w3, z8, z9]
  refine Thn_n ?_
  refine hK _ _ ?_
  clear hK K
  refine AW.cond_f rfl ?_
  refine AW.skip ?_
  refine Thn_n ?_
  refine hK _ _ ?_
  clear hK K
  refine AW.seq_k fun K hK => ?_
  refine AW.region (by decide) ?_
  simp only [push_cast, Nat.reduceAdd, Nat.reduceMul, Nat.reduceSub, Nat.reduceLeDiff, Nat.reduceLT, Nat.reduceEqDiff, Nat.reduceBEq, Nat.reduceBNe, Nat.reduceMod, Nat.reduceDiv, Int.reduceLE, Int.reduceLT, Int.reduceToNat, Int.reduceAdd, Int.reduceSub, Int.reduceMul, Int.reduceNeg, Int.reduceEq, Int.reduceBEq, Int.reduceBNe, ↓reduceIte, reduceCtorEq, String.reduceBNe, String.reduceEq, reduceDIte, Nat.reducePow, c0, w1, w2, w3, z8, z9]
  refine CThen.by (fparse_c t (by omega) _ g1 g2 g3 x e hp) ?_
  simp only [push_cast, Nat.reduceAdd, Nat.reduceMul, Nat.reduceSub, Nat.reduceLeDiff, Nat.reduceLT, Nat.reduceEqDiff, Nat.reduceBEq, Nat.reduceBNe, Nat.reduceMod, Nat.reduceDiv, Int.reduceLE, Int.reduceLT, Int.reduceToNat, Int.reduceAdd, Int.reduceSub, Int.reduceMul, Int.reduceNeg, Int.reduceEq, Int.reduceBEq, Int.reduceBNe, ↓reduceIte, reduceCtorEq, String.reduceBNe, String.reduceEq, reduceDIte, Nat.reducePow, c0, w1, w2, w3, z8, z9]
  refine Thn_n ?_
  refine hK _ _ ?_
  clear hK K
  refine AW.seq_k fun K hK => ?_
  refine AW.region (by decide) ?_
  simp only [push_cast, Nat.reduceAdd, Nat.reduceMul, Nat.reduceSub, Nat.reduceLeDiff, Nat.reduceLT, Nat.reduceEqDiff, Nat.reduceBEq, Nat.reduceBNe, Nat.reduceMod, Nat.reduceDiv, Int.reduceLE, Int.reduceLT, Int.reduceToNat, Int.reduceAdd, Int.reduceSub, Int.reduceMul, Int.reduceNeg, Int.reduceEq, Int.reduceBEq, Int.reduceBNe, ↓reduceIte, reduceCtorEq, String.reduceBNe, String.reduceEq, reduceDIte, Nat.reducePow, c0, w1, w2, w3, z8, z9]
  refine CThen.by (rparse_c t (by omega) _ x e hp) ?_
  simp only [push_cast, Nat.reduceAdd, Nat.reduceMul, Nat.reduceSub, Nat.reduceLeDiff, Nat.reduceLT, Nat.reduceEqDiff, Nat.reduceBEq, Nat.reduceBNe, Nat.reduceMod, Nat.reduceDiv, Int.reduceLE, Int.reduceLT, Int.reduceToNat, Int.reduceAdd, Int.reduceSub, Int.reduceMul, Int.reduceNeg, Int.reduceEq, Int.reduceBEq, Int.reduceBNe, ↓reduceIte, reduceCtorEq, String.reduceBNe, String.reduceEq, reduceDIte, Nat.reducePow, c0, w1, w2, w3, z8, z9]
  refine Thn_n ?_
  refine hK _ _ ?_
  clear hK K
  refine AW.seq_k fun K hK => ?_
  refine AW.region (by decide) ?_
  simp only [push_cast, Nat.reduceAdd, Nat.reduceMul, Nat.reduceSub, Nat.reduceLeDiff, Nat.reduceLT, Nat.reduceEqDiff, Nat.reduceBEq, Nat.reduceBNe, Nat.reduceMod, Nat.reduceDiv, Int.reduceLE, Int.reduceLT, Int.reduceToNat, Int.reduceAdd, Int.reduceSub, Int.reduceMul, Int.reduceNeg, Int.reduceEq, Int.reduceBEq, Int.reduceBNe, ↓reduceIte, reduceCtorEq, String.reduceBNe, String.reduceEq, reduceDIte, Nat.reducePow, c0, w1, w2, w3, z8, z9]
  refine CThen.by (text_c a _ g3) ?_
  simp only [push_cast, Nat.reduceAdd, Nat.reduceMul, Nat.reduceSub, Nat.reduceLeDiff, Nat.reduceLT, Nat.reduceEqDiff, Nat.reduceBEq, Nat.reduceBNe, Nat.reduceMod, Nat.reduceDiv, Int.reduceLE, Int.reduceLT, Int.reduceToNat, Int.reduceAdd, Int.reduceSub, Int.reduceMul, Int.reduceNeg, Int.reduceEq, Int.reduceBEq, Int.reduceBNe, ↓reduceIte, reduceCtorEq, String.reduceBNe, String.reduceEq, reduceDIte, Nat.reducePow, c0, w1, w2, w3, z8, z9]
  refine CThen.by (fparse_c ⟨(txL a).toArray⟩ (by have := txL_len a; show (txL a).length ≤ 1000; omega) _ g1 g2 g3 (heldI a) 0 (pv_back a)) ?_
  simp only [push_cast, Nat.reduceAdd, Nat.reduceMul, Nat.reduceSub, Nat.reduceLeDiff, Nat.reduceLT, Nat.reduceEqDiff, Nat.reduceBEq, Nat.reduceBNe, Nat.reduceMod, Nat.reduceDiv, Int.reduceLE, Int.reduceLT, Int.reduceToNat, Int.reduceAdd, Int.reduceSub, Int.reduceMul, Int.reduceNeg, Int.reduceEq, Int.reduceBEq, Int.reduceBNe, ↓reduceIte, reduceCtorEq, String.reduceBNe, String.reduceEq, reduceDIte, Nat.reducePow, c0, w1, w2, w3, z8, z9]
  refine Thn_n ?_
  refine hK _ _ ?_
  clear hK K
  refine AW.seq_k fun K hK => ?_
  refine AW.region (by decide) ?_
  simp only [push_cast, Nat.reduceAdd, Nat.reduceMul, Nat.reduceSub, Nat.reduceLeDiff, Nat.reduceLT, Nat.reduceEqDiff, Nat.reduceBEq, Nat.reduceBNe, Nat.reduceMod, Nat.reduceDiv, Int.reduceLE, Int.reduceLT, Int.reduceToNat, Int.reduceAdd, Int.reduceSub, Int.reduceMul, Int.reduceNeg, Int.reduceEq, Int.reduceBEq, Int.reduceBNe, ↓reduceIte, reduceCtorEq, String.reduceBNe, String.reduceEq, reduceDIte, Nat.reducePow, c0, w1, w2, w3, z8, z9]
  refine CThen.by (awake_c _) ?_
  simp only [push_cast, Nat.reduceAdd, Nat.reduceMul, Nat.reduceSub, Nat.reduceLeDiff, Nat.reduceLT, Nat.reduceEqDiff, Nat.reduceBEq, Nat.reduceBNe, Nat.reduceMod, Nat.reduceDiv, Int.reduceLE, Int.reduceLT, Int.reduceToNat, Int.reduceAdd, Int.reduceSub, Int.reduceMul, Int.reduceNeg, Int.reduceEq, Int.reduceBEq, Int.reduceBNe, ↓reduceIte, reduceCtorEq, String.reduceBNe, String.reduceEq, reduceDIte, Nat.reducePow, c0, w1, w2, w3, z8, z9]
  refine CThen.by (text_c a _ g3) ?_
  simp only [push_cast, Nat.reduceAdd, Nat.reduceMul, Nat.reduceSub, Nat.reduceLeDiff, Nat.reduceLT, Nat.reduceEqDiff, Nat.reduceBEq, Nat.reduceBNe, Nat.reduceMod, Nat.reduceDiv, Int.reduceLE, Int.reduceLT, Int.reduceToNat, Int.reduceAdd, Int.reduceSub, Int.reduceMul, Int.reduceNeg, Int.reduceEq, Int.reduceBEq, Int.reduceBNe, ↓reduceIte, reduceCtorEq, String.reduceBNe, String.reduceEq, reduceDIte, Nat.reducePow, c0, w1, w2, w3, z8, z9]
  refine CThen.by (rtext_c a _) ?_
  simp only [push_cast, Nat.reduceAdd, Nat.reduceMul, Nat.reduceSub, Nat.reduceLeDiff, Nat.reduceLT, Nat.reduceEqDiff, Nat.reduceBEq, Nat.reduceBNe, Nat.reduceMod, Nat.reduceDiv, Int.reduceLE, Int.reduceLT, Int.reduceToNat, Int.reduceAdd, Int.reduceSub, Int.reduceMul, Int.reduceNeg, Int.reduceEq, Int.reduceBEq, Int.reduceBNe, ↓reduceIte, reduceCtorEq, String.reduceBNe, String.reduceEq, reduceDIte, Nat.reducePow, c0, w1, w2, w3, z8, z9]
  refine CThen.by (held_c a _) ?_
  simp only [push_cast, Nat.reduceAdd, Nat.reduceMul, Nat.reduceSub, Nat.reduceLeDiff, Nat.reduceLT, Nat.reduceEqDiff, Nat.reduceBEq, Nat.reduceBNe, Nat.reduceMod, Nat.reduceDiv, Int.reduceLE, Int.reduceLT, Int.reduceToNat, Int.reduceAdd, Int.reduceSub, Int.reduceMul, Int.reduceNeg, Int.reduceEq, Int.reduceBEq, Int.reduceBNe, ↓reduceIte, reduceCtorEq, String.reduceBNe, String.reduceEq, reduceDIte, Nat.reducePow, c0, w1, w2, w3, z8, z9]
  refine Thn_n ?_
  refine hK _ _ ?_
  clear hK K
  refine AW.ret ?_
  refine hQ _ _ _ ?_
  first | refine RetP.drop0 (Or.inr rfl) ?_ ?_ hwf | refine RetP.drop (Or.inr rfl) ?_ ?_ hwf
  · simp only [resA, resOne, resTv, AV.tv, push_cast, Nat.reduceAdd, Nat.reduceMul, Nat.reduceSub, Nat.reduceLeDiff, Nat.reduceLT, Nat.reduceEqDiff, Nat.reduceBEq, Nat.reduceBNe, Nat.reduceMod, Nat.reduceDiv, Int.reduceLE, Int.reduceLT, Int.reduceToNat, Int.reduceAdd, Int.reduceSub, Int.reduceMul, Int.reduceNeg, Int.reduceEq, Int.reduceBEq, Int.reduceBNe, ↓reduceIte, reduceCtorEq, String.reduceBNe, String.reduceEq, reduceDIte, Nat.reducePow, c0, w1, w2, w3, z8, z9]
  · rfl
end Go.Proofs.YtlhppfdokgeijaaDoor
