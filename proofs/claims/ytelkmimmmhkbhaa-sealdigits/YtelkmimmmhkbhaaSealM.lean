/- Walks and facts of this seat's program over abstract states, printed by a program of mine; no conditions but those that each theorem names. -/
import Derived.Test.YtelkmimmmhkbhaaSealK
import Derived.Test.YtelkmimmmhkbhaaSeal7
set_option linter.unusedSimpArgs false
set_option linter.unusedVariables false
set_option maxRecDepth 100000
set_option maxHeartbeats 4000000
namespace Go.Proofs.Ytelkmimmmhkbhaa
open Go Go.Eng

def HLL : List Int := [1779033703, 3144134277, 1013904242, 2773480762, 1359893119, 2600822924, 528734635, 1541459225]
theorem setfill {A f : List Int} {n i : Nat} (h : i < f.length) (hn : i < n) : (A ++ (f.take i ++ List.replicate (n - i) 0)).set (A.length + i) (f.getD i 0) = A ++ (f.take (i + 1) ++ List.replicate (n - (i + 1)) 0) := by
  rw [List.set_append_right _ _ (by omega), Nat.add_sub_cancel_left]
  have e1 : (f.take i).length = i := by rw [List.length_take]; omega
  rw [List.set_append_right _ _ (by omega), e1, Nat.sub_self]
  have e2 : n - i = (n - (i + 1)) + 1 := by omega
  rw [e2, List.replicate_succ, List.set_cons_zero, List.take_succ_eq_append_getElem h, List.append_assoc]
  rw [List.getD_eq_getElem?_getD, List.getElem?_eq_getElem h]; rfl
def tbA (A f : List Int) (n i : Nat) : List Int := A ++ (f.take i ++ List.replicate (n - i) 0)
theorem tbA_set {A f : List Int} {n i : Nat} (h : i < f.length) (hn : i < n) : (tbA A f n i).set (A.length + i) (f.getD i 0) = tbA A f n (i + 1) := setfill h hn
theorem tbA_len {A f : List Int} {n i : Nat} (h : i ≤ f.length) (hn : i ≤ n) : (tbA A f n i).length = A.length + n := by
  simp only [tbA, List.length_append, List.length_take, List.length_replicate]; omega
theorem root_at : ∀ k : Fin 8, rootI (PR.getD k.val 0) = HLL.getD k.val 0 := by
  have h : (PR.take 8).map rootI = HLL := tabH
  intro k
  have h2 : ((PR.take 8).map rootI)[k.val]? = HLL[k.val]? := by rw [h]
  have hk := k.isLt
  rw [List.getElem?_map, List.getElem?_take, if_pos hk] at h2
  have hp : k.val < PR.length := by have : PR.length = 64 := rfl; omega
  rw [List.getElem?_eq_getElem hp] at h2
  rw [List.getD_eq_getElem?_getD, List.getD_eq_getElem?_getD, ← h2, List.getElem?_eq_getElem hp]; rfl
theorem cube_at {k : Nat} (hk : k < 64) : cubeI (PR.getD k 0) = KW.getD k 0 := by
  have h2 : (PR.map cubeI)[k]? = KW[k]? := by rw [tabK]
  have hp : k < PR.length := hk
  rw [List.getElem?_map, List.getElem?_eq_getElem hp] at h2
  rw [List.getD_eq_getElem?_getD, List.getD_eq_getElem?_getD, ← h2, List.getElem?_eq_getElem hp]; rfl
theorem make_c (m : AMem) : Ctr Try.prog 9 [] m (.agg (ul (HLL ++ KW))) m := by
  refine Ctr.enter Try.func9 rfl (by decide) (rs := [.cell 0 31]) (nt := 31) rfl rfl fun hwf Q hQ => ?_
  have hz1 : ul (tbA [] HLL 72 0) = [.int .u32 0, .int .u32 0, .int .u32 0, .int .u32 0, .int .u32 0, .int .u32 0, .int .u32 0, .int .u32 0, .int .u32 0, .int .u32 0, .int .u32 0, .int .u32 0, .int .u32 0, .int .u32 0, .int .u32 0, .int .u32 0, .int .u32 0, .int .u32 0, .int .u32 0, .int .u32 0, .int .u32 0, .int .u32 0, .int .u32 0, .int .u32 0, .int .u32 0, .int .u32 0, .int .u32 0, .int .u32 0, .int .u32 0, .int .u32 0, .int .u32 0, .int .u32 0, .int .u32 0, .int .u32 0, .int .u32 0, .int .u32 0, .int .u32 0, .int .u32 0, .int .u32 0, .int .u32 0, .int .u32 0, .int .u32 0, .int .u32 0, .int .u32 0, .int .u32 0, .int .u32 0, .int .u32 0, .int .u32 0, .int .u32 0, .int .u32 0, .int .u32 0, .int .u32 0, .int .u32 0, .int .u32 0, .int .u32 0, .int .u32 0, .int .u32 0, .int .u32 0, .int .u32 0, .int .u32 0, .int .u32 0, .int .u32 0, .int .u32 0, .int .u32 0, .int .u32 0, .int .u32 0, .int .u32 0, .int .u32 0, .int .u32 0, .int .u32 0, .int .u32 0, .int .u32 0] := rfl
  have hpr : u64l (prL 310) = u64l PR := by rw [prL_eq]
  have hpl : PR.length = 64 := rfl
  iterate 2
    refine AW.seq_k fun K hK => ?_
    refine AW.region (by decide) ?_
    simp only [push_cast, simprocAttr, hpr, u64l_len, ul_len, ul_set]
    refine Thn_n ?_
    refine hK _ _ ?_
    clear hK K
  refine AW.seq_k fun K hK => ?_
  refine AW.region (by decide) ?_
  simp only [push_cast, simprocAttr, hpr, u64l_len, ul_len, ul_set]
  refine CThen.by (primes_c _) ?_
  simp only [push_cast, simprocAttr, hpr, u64l_len, ul_len, ul_set]
  refine Thn_n ?_
  refine hK _ _ ?_
  clear hK K
  refine AW.seq_k fun K hK => ?_
  refine AW.seq_k fun K hK => ?_
  refine AW.region (by decide) ?_
  simp only [push_cast, simprocAttr, hpr, u64l_len, ul_len, ul_set]
  refine Thn_n ?_
  refine hK _ _ ?_
  clear hK K
  refine AW.block ?_
  refine AW.loopK [0, 1, 2] (fun i => i ≤ (8 : Nat)) (fun i => [(3, .one (.int .i64 (i : Int)))]) (fun i => [(m.length + 1, ⟨.fix, 31, 0, 0, (ul (tbA [] HLL 72 i))⟩)]) (fun i => 8 - i) 0 (by omega) ?_ ?_ fun i hi6 => ?_
  · first | rfl | (simp only [Keeps, Tm.get_cons, Nat.reduceEqDiff, ↓reduceIte, if_true, if_false, ite_true, ite_false, true_and, and_true, and_self, reduceCtorEq, hz1, Int.natCast_zero] <;> rfl)
  · first | rfl | (simp only [setAll, push_cast, simprocAttr, hpr, u64l_len, ul_len, ul_set, hz1, Int.natCast_zero] <;> rfl)
  have hi8 : i ≤ 8 := hi6
  try simp only [keepL, setAll, push_cast, simprocAttr, hpr, u64l_len, ul_len, ul_set]
  refine AW.seq_k fun K hK => ?_
  refine AW.seq_k fun K hK => ?_
  refine AW.region (by decide) ?_
  simp only [push_cast, simprocAttr, hpr, u64l_len, ul_len, ul_set]
  refine Thn_n ?_
  refine hK _ _ ?_
  clear hK K
  refine AW.cond rfl (fun h7 => ?_) (fun h7 => ?_)
  · have hlt : i < 8 := by have := of_decide_eq_true h7; omega
    have c1 : (0 : Int) ≤ (i : Int) := by omega
    have c2 : (i : Int) < 64 := by omega
    have c3 : (i : Int) < 8 := by omega
    have g := u64l_get (xs := PR) (i := i) (by rw [hpl]; omega)
    have hr := root_at ⟨i, hlt⟩
    have hsf := tbA_set (A := []) (f := HLL) (n := 72) (i := i) hlt (by omega)
    simp only [List.length_nil, Nat.zero_add] at hsf
    simp only at hr
    have c4 := tbA_len (A := []) (f := HLL) (n := 72) (i := i) hi8 (by omega)
    simp only [List.length_nil, Nat.zero_add] at c4
    have c5 : i + 1 ≤ 72 := by omega
    refine AW.skip ?_
    refine Thn_n ?_
    refine hK _ _ ?_
    clear hK K
    refine AW.seq_k fun K hK => ?_
    refine AW.block ?_
    refine AW.region (by decide) ?_
    simp only [push_cast, simprocAttr, hpr, u64l_len, ul_len, ul_set, c1, c2, c3, c4, c5, g, hr, hsf]
    refine CThen.by (root_c _ _) ?_
    simp only [push_cast, simprocAttr, hpr, u64l_len, ul_len, ul_set, c1, c2, c3, c4, c5, g, hr, hsf]
    refine InB_n ?_
    refine Thn_n ?_
    refine hK _ _ ?_
    clear hK K
    refine AW.region (by decide) ?_
    simp only [push_cast, simprocAttr, hpr, u64l_len, ul_len, ul_set, c1, c2, c3, c4, c5, g, hr, hsf]
    refine Thn_n ?_
    have hwi : IntKind.i64.wrap ((i:Int)+1) = (i:Int)+1 := wi (by omega)
    refine ⟨i + 1, hlt, by omega, ?_⟩
    try simp only [keepL, setAll, push_cast, simprocAttr, hpr, u64l_len, ul_len, ul_set, c1, c2, c3, c4, c5, g, hr, hsf, hwi, hsf]
    exact Weak.same (by simp only [Keeps, Tm.get_cons, Nat.reduceEqDiff, ↓reduceIte, if_true, if_false, ite_true, ite_false, true_and, and_true, and_self, reduceCtorEq, hwi, hsf]) (by first | rfl | simp only [Keeps, Tm.get_cons, Nat.reduceEqDiff, ↓reduceIte, if_true, if_false, ite_true, ite_false, true_and, and_true, and_self, reduceCtorEq, hwi, hsf])
  · have hie : i = 8 := by have := of_decide_eq_false h7; omega
    subst hie
    have hc2 : ul (tbA HLL KW 64 0) = ul (tbA [] HLL 72 8) := rfl
    refine AW.exit ?_
    refine Thn_e ?_
    clear hK K
    refine Thn_e ?_
    refine InB_here ?_
    refine Thn_n ?_
    refine hK _ _ ?_
    clear hK K
    refine AW.seq_k fun K hK => ?_
    refine AW.seq_k fun K hK => ?_
    refine AW.region (by decide) ?_
    simp only [push_cast, simprocAttr, hpr, u64l_len, ul_len, ul_set]
    refine Thn_n ?_
    refine hK _ _ ?_
    clear hK K
    refine AW.block ?_
    refine AW.loopK [0, 1, 2] (fun i => i ≤ (64 : Nat)) (fun i => [(4, .one (.int .i64 (i : Int)))]) (fun i => [(m.length + 1, ⟨.fix, 31, 0, 0, (ul (tbA HLL KW 64 i))⟩)]) (fun i => 64 - i) 0 (by omega) ?_ ?_ fun i hi12 => ?_
    · first | rfl | (simp only [Keeps, Tm.get_cons, Nat.reduceEqDiff, ↓reduceIte, if_true, if_false, ite_true, ite_false, true_and, and_true, and_self, reduceCtorEq, hc2, Int.natCast_zero] <;> rfl)
    · first | rfl | (simp only [setAll, push_cast, simprocAttr, hpr, u64l_len, ul_len, ul_set, hc2, Int.natCast_zero] <;> rfl)
    have hi64 : i ≤ 64 := hi12
    try simp only [keepL, setAll, push_cast, simprocAttr, hpr, u64l_len, ul_len, ul_set]
    refine AW.seq_k fun K hK => ?_
    refine AW.seq_k fun K hK => ?_
    refine AW.region (by decide) ?_
    simp only [push_cast, simprocAttr, hpr, u64l_len, ul_len, ul_set]
    refine Thn_n ?_
    refine hK _ _ ?_
    clear hK K
    refine AW.cond rfl (fun h19 => ?_) (fun h19 => ?_)
    · have hlt : i < 64 := by have := of_decide_eq_true h19; omega
      have c1 : (0 : Int) ≤ (i : Int) := by omega
      have c2 : (i : Int) < 64 := by omega
      have g := u64l_get (xs := PR) (i := i) (by rw [hpl]; omega)
      have hr := cube_at hlt
      have hsf := tbA_set (A := HLL) (f := KW) (n := 64) (i := i) hlt hlt
      have h8 : HLL.length = 8 := rfl
      rw [h8] at hsf
      have c4 := tbA_len (A := HLL) (f := KW) (n := 64) (i := i) hi64 hi64
      rw [h8] at c4
      have c5 : 8 + (i + 1) ≤ 72 := by omega
      have c6 : 8 + i + 1 ≤ 72 := by omega
      refine AW.skip ?_
      refine Thn_n ?_
      refine hK _ _ ?_
      clear hK K
      refine AW.seq_k fun K hK => ?_
      refine AW.block ?_
      refine AW.region (by decide) ?_
      simp only [push_cast, simprocAttr, hpr, u64l_len, ul_len, ul_set, c1, c2, c4, c5, c6, g, hr, hsf]
      refine CThen.by (cube_c _ _) ?_
      simp only [push_cast, simprocAttr, hpr, u64l_len, ul_len, ul_set, c1, c2, c4, c5, c6, g, hr, hsf]
      refine InB_n ?_
      refine Thn_n ?_
      refine hK _ _ ?_
      clear hK K
      refine AW.region (by decide) ?_
      simp only [push_cast, simprocAttr, hpr, u64l_len, ul_len, ul_set, c1, c2, c4, c5, c6, g, hr, hsf]
      refine Thn_n ?_
      have hwi : IntKind.i64.wrap ((i:Int)+1) = (i:Int)+1 := wi (by omega)
      refine ⟨i + 1, hlt, by omega, ?_⟩
      try simp only [keepL, setAll, push_cast, simprocAttr, hpr, u64l_len, ul_len, ul_set, c1, c2, c4, c5, c6, g, hr, hsf, hwi, hsf]
      exact Weak.same (by simp only [Keeps, Tm.get_cons, Nat.reduceEqDiff, ↓reduceIte, if_true, if_false, ite_true, ite_false, true_and, and_true, and_self, reduceCtorEq, hwi, hsf]) (by first | rfl | simp only [Keeps, Tm.get_cons, Nat.reduceEqDiff, ↓reduceIte, if_true, if_false, ite_true, ite_false, true_and, and_true, and_self, reduceCtorEq, hwi, hsf])
    · have hie : i = 64 := by have := of_decide_eq_false h19; omega
      subst hie
      have hfin : ul (tbA HLL KW 64 64) = [.int .u32 1779033703, .int .u32 3144134277, .int .u32 1013904242, .int .u32 2773480762, .int .u32 1359893119, .int .u32 2600822924, .int .u32 528734635, .int .u32 1541459225, .int .u32 1116352408, .int .u32 1899447441, .int .u32 3049323471, .int .u32 3921009573, .int .u32 961987163, .int .u32 1508970993, .int .u32 2453635748, .int .u32 2870763221, .int .u32 3624381080, .int .u32 310598401, .int .u32 607225278, .int .u32 1426881987, .int .u32 1925078388, .int .u32 2162078206, .int .u32 2614888103, .int .u32 3248222580, .int .u32 3835390401, .int .u32 4022224774, .int .u32 264347078, .int .u32 604807628, .int .u32 770255983, .int .u32 1249150122, .int .u32 1555081692, .int .u32 1996064986, .int .u32 2554220882, .int .u32 2821834349, .int .u32 2952996808, .int .u32 3210313671, .int .u32 3336571891, .int .u32 3584528711, .int .u32 113926993, .int .u32 338241895, .int .u32 666307205, .int .u32 773529912, .int .u32 1294757372, .int .u32 1396182291, .int .u32 1695183700, .int .u32 1986661051, .int .u32 2177026350, .int .u32 2456956037, .int .u32 2730485921, .int .u32 2820302411, .int .u32 3259730800, .int .u32 3345764771, .int .u32 3516065817, .int .u32 3600352804, .int .u32 4094571909, .int .u32 275423344, .int .u32 430227734, .int .u32 506948616, .int .u32 659060556, .int .u32 883997877, .int .u32 958139571, .int .u32 1322822218, .int .u32 1537002063, .int .u32 1747873779, .int .u32 1955562222, .int .u32 2024104815, .int .u32 2227730452, .int .u32 2361852424, .int .u32 2428436474, .int .u32 2756734187, .int .u32 3204031479, .int .u32 3329325298] := rfl
      refine AW.exit ?_
      refine Thn_e ?_
      clear hK K
      refine Thn_e ?_
      refine InB_here ?_
      refine Thn_n ?_
      refine hK _ _ ?_
      clear hK K
      refine AW.seq_k fun K hK => ?_
      refine AW.region (by decide) ?_
      simp only [push_cast, simprocAttr, hpr, u64l_len, ul_len, ul_set, hfin]
      refine Thn_n ?_
      refine hK _ _ ?_
      clear hK K
      refine AW.ret ?_
      refine hQ _ _ _ ?_
      refine RetP.drop (Or.inr rfl) ?_ ?_ hwf
      · simp only [resA, resOne, resTv, AV.tv, push_cast, simprocAttr]
        rfl
      · rfl
      
end Go.Proofs.Ytelkmimmmhkbhaa
