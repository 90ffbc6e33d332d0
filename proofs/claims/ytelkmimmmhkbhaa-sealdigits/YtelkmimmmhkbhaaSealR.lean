/- Walks and facts of this seat's program over abstract states, printed by a program of mine; no conditions but those that each theorem names. -/
import Derived.Test.YtelkmimmmhkbhaaSeal2
set_option linter.unusedSimpArgs false
set_option linter.unusedVariables false
set_option maxRecDepth 100000
set_option maxHeartbeats 4000000
namespace Go.Proofs.Ytelkmimmmhkbhaa
open Go Go.Eng

def w64 (x : Int) : Int := IntKind.u64.wrap x
def u64l (xs : List Int) : List CV := xs.map (CV.int .u64)
theorem u64l_len (xs : List Int) : (u64l xs).length = xs.length := by simp [u64l]
theorem u64l_get {xs : List Int} {i : Nat} (h : i < xs.length) : (u64l xs)[i]? = some (.int .u64 (xs.getD i 0)) := by
  simp only [u64l, List.getElem?_map, List.getD_eq_getElem?_getD, List.getElem?_eq_getElem h]; rfl
theorem u64l_set (xs : List Int) (i : Nat) (x : Int) : (u64l xs).set i (.int .u64 x) = u64l (xs.set i x) := by simp [u64l, List.map_set]
theorem u64l_below (L : Nat) (xs : List Int) : (u64l xs).all (CV.below L) = true := by
  simp only [u64l, List.all_map, List.all_eq_true]; intro x _; rfl
theorem u64l_snoc (xs : List Int) (x : Int) : u64l xs ++ [.int .u64 x] = u64l (xs ++ [x]) := by simp [u64l]
theorem u64l_zero (n : Nat) : zeros (.int .u64 0) n = u64l (List.replicate n 0) := by
  simp only [zeros, u64l, List.map_replicate, Value.cells]
  apply List.ext_getElem?
  intro i
  simp [Nat.mod_one, cellOf, List.getElem?_replicate, List.getElem?_range']
  split <;> simp_all
def halfI (x n : Int) : Bool :=
  let a := w64 (x.tdiv 4294967296)
  let b := x.tmod 4294967296
  let high := w64 (w64 (a * a) + w64 ((w64 (w64 (2 * a) * b)).tdiv 4294967296))
  let low := w64 ((w64 (w64 (2 * a) * b)).tmod 4294967296 * 4294967296)
  let sum := w64 (low + w64 (b * b))
  let h2 := if sum < low then w64 (high + 1) else high
  if h2 < n then true else if h2 = n then sum == 0 else false
def bitR (b : Int) : Nat → Int
  | 0 => b
  | t + 1 => w64 ((bitR b t).tdiv 2)
def rootX (n : Int) : Nat → Int
  | 0 => 0
  | t + 1 => if halfI (w64 (rootX n t + bitR 68719476736 t)) n then w64 (rootX n t + bitR 68719476736 t) else rootX n t
def rootI (n : Int) : Int := IntKind.u32.wrap ((rootX n 37).tmod 4294967296)
theorem bitR_pos : ∀ k : Fin 37, 0 < bitR 68719476736 k.val := by decide +kernel
theorem bitR_end : bitR 68719476736 37 = 0 := by decide +kernel
theorem bitC_pos : ∀ k : Fin 36, 0 < bitR 34359738368 k.val := by decide +kernel
theorem bitC_end : bitR 34359738368 36 = 0 := by decide +kernel
theorem half_c (x n : Int) (m : AMem) : Ctr Try.prog 27 [.one (.int .u64 x), .one (.int .u64 n)] m (.one (.bool (halfI x n))) m := by
  refine Ctr.enter Try.func27 rfl (by decide) (rs := [.tmp 4]) (nt := 51) rfl rfl fun hwf Q hQ => ?_
  iterate 5
    refine AW.seq_k fun K hK => ?_
    refine AW.region (by decide) ?_
    simp only [push_cast, simprocAttr]
    refine Thn_n ?_
    refine hK _ _ ?_
    clear hK K
  refine AW.seq_k fun K hK => ?_
  refine AW.seq_k fun K hK => ?_
  refine AW.region (by decide) ?_
  simp only [push_cast, simprocAttr]
  refine Thn_n ?_
  refine hK _ _ ?_
  clear hK K
  refine AW.cond rfl (fun h36 => ?_) (fun h36 => ?_)
  · have hs := of_decide_eq_true h36
    rcases Int.lt_trichotomy (IntKind.u64.wrap (IntKind.u64.wrap (IntKind.u64.wrap (IntKind.u64.wrap (x.tdiv 4294967296) * IntKind.u64.wrap (x.tdiv 4294967296)) + IntKind.u64.wrap ((IntKind.u64.wrap (IntKind.u64.wrap (2 * IntKind.u64.wrap (x.tdiv 4294967296)) * x.tmod 4294967296)).tdiv 4294967296)) + 1)) n with hc | hc | hc
    · refine AW.region (by decide) ?_
      simp only [push_cast, simprocAttr, hs, hc]
      refine Thn_n ?_
      refine hK _ _ ?_
      clear hK K
      refine AW.seq_k fun K hK => ?_
      refine AW.region (by decide) ?_
      simp only [push_cast, simprocAttr, hs, hc]
      refine Thn_n ?_
      refine hK _ _ ?_
      clear hK K
      refine AW.ret ?_
      refine hQ _ _ _ ?_
      first | refine RetP.drop0 (Or.inr rfl) ?_ ?_ hwf | refine RetP.drop (Or.inr rfl) ?_ ?_ hwf
      · simp only [resA, resOne, resTv, AV.tv, push_cast, simprocAttr, hs, hc, halfI, w64]
      · rfl
    · have c1 : (n == n) = true := beq_self_eq_true n
      refine AW.region (by decide) ?_
      simp only [push_cast, simprocAttr, hs, hc, c1, Int.lt_irrefl]
      refine Thn_n ?_
      refine hK _ _ ?_
      clear hK K
      refine AW.seq_k fun K hK => ?_
      refine AW.region (by decide) ?_
      simp only [push_cast, simprocAttr, hs, hc, c1, Int.lt_irrefl]
      refine Thn_n ?_
      refine hK _ _ ?_
      clear hK K
      refine AW.ret ?_
      refine hQ _ _ _ ?_
      first | refine RetP.drop0 (Or.inr rfl) ?_ ?_ hwf | refine RetP.drop (Or.inr rfl) ?_ ?_ hwf
      · simp only [resA, resOne, resTv, AV.tv, push_cast, simprocAttr, hs, hc, c1, Int.lt_irrefl, halfI, w64]
      · rfl
    · have c1 : ¬ (IntKind.u64.wrap (IntKind.u64.wrap (IntKind.u64.wrap (IntKind.u64.wrap (x.tdiv 4294967296) * IntKind.u64.wrap (x.tdiv 4294967296)) + IntKind.u64.wrap ((IntKind.u64.wrap (IntKind.u64.wrap (2 * IntKind.u64.wrap (x.tdiv 4294967296)) * x.tmod 4294967296)).tdiv 4294967296)) + 1)) < n := by omega
      have c2 : ((IntKind.u64.wrap (IntKind.u64.wrap (IntKind.u64.wrap (IntKind.u64.wrap (x.tdiv 4294967296) * IntKind.u64.wrap (x.tdiv 4294967296)) + IntKind.u64.wrap ((IntKind.u64.wrap (IntKind.u64.wrap (2 * IntKind.u64.wrap (x.tdiv 4294967296)) * x.tmod 4294967296)).tdiv 4294967296)) + 1)) == n) = false := by simp; omega
      have c3 : ¬ (IntKind.u64.wrap (IntKind.u64.wrap (IntKind.u64.wrap (IntKind.u64.wrap (x.tdiv 4294967296) * IntKind.u64.wrap (x.tdiv 4294967296)) + IntKind.u64.wrap ((IntKind.u64.wrap (IntKind.u64.wrap (2 * IntKind.u64.wrap (x.tdiv 4294967296)) * x.tmod 4294967296)).tdiv 4294967296)) + 1)) = n := by omega
      refine AW.region (by decide) ?_
      simp only [push_cast, simprocAttr, hs, c1, c2, c3]
      refine Thn_n ?_
      refine hK _ _ ?_
      clear hK K
      refine AW.seq_k fun K hK => ?_
      refine AW.region (by decide) ?_
      simp only [push_cast, simprocAttr, hs, c1, c2, c3]
      refine Thn_n ?_
      refine hK _ _ ?_
      clear hK K
      refine AW.ret ?_
      refine hQ _ _ _ ?_
      first | refine RetP.drop0 (Or.inr rfl) ?_ ?_ hwf | refine RetP.drop (Or.inr rfl) ?_ ?_ hwf
      · simp only [resA, resOne, resTv, AV.tv, push_cast, simprocAttr, hs, c1, c2, c3, halfI, w64]
      · rfl
  · have hs := of_decide_eq_false h36
    rcases Int.lt_trichotomy (IntKind.u64.wrap (IntKind.u64.wrap (IntKind.u64.wrap (x.tdiv 4294967296) * IntKind.u64.wrap (x.tdiv 4294967296)) + IntKind.u64.wrap ((IntKind.u64.wrap (IntKind.u64.wrap (2 * IntKind.u64.wrap (x.tdiv 4294967296)) * x.tmod 4294967296)).tdiv 4294967296))) n with hc | hc | hc
    · refine AW.skip ?_
      refine Thn_n ?_
      refine hK _ _ ?_
      clear hK K
      refine AW.seq_k fun K hK => ?_
      refine AW.region (by decide) ?_
      simp only [push_cast, simprocAttr, hs, hc]
      refine Thn_n ?_
      refine hK _ _ ?_
      clear hK K
      refine AW.ret ?_
      refine hQ _ _ _ ?_
      first | refine RetP.drop0 (Or.inr rfl) ?_ ?_ hwf | refine RetP.drop (Or.inr rfl) ?_ ?_ hwf
      · simp only [resA, resOne, resTv, AV.tv, push_cast, simprocAttr, hs, hc, halfI, w64]
      · rfl
    · have c1 : (n == n) = true := beq_self_eq_true n
      refine AW.skip ?_
      refine Thn_n ?_
      refine hK _ _ ?_
      clear hK K
      refine AW.seq_k fun K hK => ?_
      refine AW.region (by decide) ?_
      simp only [push_cast, simprocAttr, hs, hc, c1, Int.lt_irrefl]
      refine Thn_n ?_
      refine hK _ _ ?_
      clear hK K
      refine AW.ret ?_
      refine hQ _ _ _ ?_
      first | refine RetP.drop0 (Or.inr rfl) ?_ ?_ hwf | refine RetP.drop (Or.inr rfl) ?_ ?_ hwf
      · simp only [resA, resOne, resTv, AV.tv, push_cast, simprocAttr, hs, hc, c1, Int.lt_irrefl, halfI, w64]
      · rfl
    · have c1 : ¬ (IntKind.u64.wrap (IntKind.u64.wrap (IntKind.u64.wrap (x.tdiv 4294967296) * IntKind.u64.wrap (x.tdiv 4294967296)) + IntKind.u64.wrap ((IntKind.u64.wrap (IntKind.u64.wrap (2 * IntKind.u64.wrap (x.tdiv 4294967296)) * x.tmod 4294967296)).tdiv 4294967296))) < n := by omega
      have c2 : ((IntKind.u64.wrap (IntKind.u64.wrap (IntKind.u64.wrap (x.tdiv 4294967296) * IntKind.u64.wrap (x.tdiv 4294967296)) + IntKind.u64.wrap ((IntKind.u64.wrap (IntKind.u64.wrap (2 * IntKind.u64.wrap (x.tdiv 4294967296)) * x.tmod 4294967296)).tdiv 4294967296))) == n) = false := by simp; omega
      have c3 : ¬ (IntKind.u64.wrap (IntKind.u64.wrap (IntKind.u64.wrap (x.tdiv 4294967296) * IntKind.u64.wrap (x.tdiv 4294967296)) + IntKind.u64.wrap ((IntKind.u64.wrap (IntKind.u64.wrap (2 * IntKind.u64.wrap (x.tdiv 4294967296)) * x.tmod 4294967296)).tdiv 4294967296))) = n := by omega
      refine AW.skip ?_
      refine Thn_n ?_
      refine hK _ _ ?_
      clear hK K
      refine AW.seq_k fun K hK => ?_
      refine AW.region (by decide) ?_
      simp only [push_cast, simprocAttr, hs, c1, c2, c3]
      refine Thn_n ?_
      refine hK _ _ ?_
      clear hK K
      refine AW.ret ?_
      refine hQ _ _ _ ?_
      first | refine RetP.drop0 (Or.inr rfl) ?_ ?_ hwf | refine RetP.drop (Or.inr rfl) ?_ ?_ hwf
      · simp only [resA, resOne, resTv, AV.tv, push_cast, simprocAttr, hs, c1, c2, c3, halfI, w64]
      · rfl
theorem root_c (n : Int) (m : AMem) : Ctr Try.prog 19 [.one (.int .u64 n)] m (.one (.int .u32 (rootI n))) m := by
  refine Ctr.enter Try.func19 rfl (by decide) (rs := [.tmp 2]) (nt := 20) rfl rfl fun hwf Q hQ => ?_
  iterate 2
    refine AW.seq_k fun K hK => ?_
    refine AW.region (by decide) ?_
    simp only [push_cast, simprocAttr, w64]
    refine Thn_n ?_
    refine hK _ _ ?_
    clear hK K
  refine AW.seq_k fun K hK => ?_
  refine AW.seq_k fun K hK => ?_
  refine AW.region (by decide) ?_
  simp only [push_cast, simprocAttr, w64]
  refine Thn_n ?_
  refine hK _ _ ?_
  clear hK K
  refine AW.block ?_
  refine AW.loopK [0] (fun t => t ≤ (37 : Nat)) (fun t => [(3, .one (.int .u64 (rootX n t))), (4, .one (.int .u64 (bitR 68719476736 t)))]) (fun t => []) (fun t => 37 - t) 0 (by omega) ?_ ?_ fun t hi5 => ?_
  · first | rfl | (simp only [Keeps, Tm.get_cons, Nat.reduceEqDiff, ↓reduceIte, if_true, if_false, ite_true, ite_false, true_and, and_true, and_self, reduceCtorEq, bitR, rootX] <;> rfl)
  · first | rfl | (simp only [setAll, push_cast, simprocAttr, w64, bitR, rootX] <;> rfl)
  have ht : t ≤ 37 := hi5
  try simp only [keepL, setAll, push_cast, simprocAttr, w64]
  refine AW.seq_k fun K hK => ?_
  refine AW.seq_k fun K hK => ?_
  refine AW.region (by decide) ?_
  simp only [push_cast, simprocAttr, w64]
  refine Thn_n ?_
  refine hK _ _ ?_
  clear hK K
  refine AW.cond rfl (fun h6 => ?_) (fun h6 => ?_)
  · have hlt : t < 37 := by
      have h1 := of_decide_eq_true h6
      rcases Nat.lt_or_ge t 37 with h | h
      · exact h
      · obtain rfl : t = 37 := by omega
        rw [bitR_end] at h1; exact absurd h1 (by decide)
    refine AW.skip ?_
    refine Thn_n ?_
    refine hK _ _ ?_
    clear hK K
    refine AW.seq_k fun K hK => ?_
    refine AW.block ?_
    refine AW.seq_k fun K hK => ?_
    refine AW.region (by decide) ?_
    simp only [push_cast, simprocAttr, w64]
    refine CThen.by (half_c _ _ _) ?_
    simp only [push_cast, simprocAttr, w64]
    refine Thn_n ?_
    refine hK _ _ ?_
    clear hK K
    refine AW.cond rfl (fun h13 => ?_) (fun h13 => ?_)
    · have hnx : rootX n (t + 1) = IntKind.u64.wrap (rootX n t + bitR 68719476736 t) := by simp only [rootX, w64]; exact if_pos h13
      refine AW.region (by decide) ?_
      simp only [push_cast, simprocAttr, w64]
      refine InB_n ?_
      refine Thn_n ?_
      refine hK _ _ ?_
      clear hK K
      refine AW.region (by decide) ?_
      simp only [push_cast, simprocAttr, w64]
      refine Thn_n ?_
      refine ⟨t + 1, hlt, by omega, ?_⟩
      try simp only [keepL, setAll, push_cast, simprocAttr, w64, bitR, w64, hnx]
      exact Weak.same (by simp only [Keeps, Tm.get_cons, Nat.reduceEqDiff, ↓reduceIte, if_true, if_false, ite_true, ite_false, true_and, and_true, and_self, reduceCtorEq, bitR, w64, hnx]) (by first | rfl | simp only [Keeps, Tm.get_cons, Nat.reduceEqDiff, ↓reduceIte, if_true, if_false, ite_true, ite_false, true_and, and_true, and_self, reduceCtorEq, bitR, w64, hnx])
    · have hnx : rootX n (t + 1) = rootX n t := by simp only [rootX, w64]; exact if_neg (by rw [h13]; decide)
      refine AW.skip ?_
      refine InB_n ?_
      refine Thn_n ?_
      refine hK _ _ ?_
      clear hK K
      refine AW.region (by decide) ?_
      simp only [push_cast, simprocAttr, w64]
      refine Thn_n ?_
      refine ⟨t + 1, hlt, by omega, ?_⟩
      try simp only [keepL, setAll, push_cast, simprocAttr, w64, bitR, w64, hnx]
      exact Weak.same (by simp only [Keeps, Tm.get_cons, Nat.reduceEqDiff, ↓reduceIte, if_true, if_false, ite_true, ite_false, true_and, and_true, and_self, reduceCtorEq, bitR, w64, hnx]) (by first | rfl | simp only [Keeps, Tm.get_cons, Nat.reduceEqDiff, ↓reduceIte, if_true, if_false, ite_true, ite_false, true_and, and_true, and_self, reduceCtorEq, bitR, w64, hnx])
  · have hte : t = 37 := by
      have h1 := of_decide_eq_false h6
      rcases Nat.lt_or_ge t 37 with h | h
      · exact absurd (bitR_pos ⟨t, h⟩) h1
      · omega
    subst hte
    refine AW.exit ?_
    refine Thn_e ?_
    clear hK K
    refine Thn_e ?_
    refine InB_here ?_
    refine Thn_n ?_
    refine hK _ _ ?_
    clear hK K
    refine AW.seq_k fun K hK => ?_
    refine AW.region (by decide) ?_
    simp only [push_cast, simprocAttr, w64]
    refine Thn_n ?_
    refine hK _ _ ?_
    clear hK K
    refine AW.ret ?_
    refine hQ _ _ _ ?_
    first | refine RetP.drop0 (Or.inr rfl) ?_ ?_ hwf | refine RetP.drop (Or.inr rfl) ?_ ?_ hwf
    · simp only [resA, resOne, resTv, AV.tv, push_cast, simprocAttr, w64, rootI]
    · rfl
def splX (x : Int) : Nat → Int
  | 0 => x
  | i + 1 => w64 ((splX x i).tdiv 65536)
def splL (x : Int) : Nat → List Int
  | 0 => []
  | i + 1 => splL x i ++ [(splX x i).tmod 65536]
theorem splL_len (x : Int) : ∀ i, (splL x i).length = i
  | 0 => rfl
  | i + 1 => by simp [splL, splL_len x i]
def prJ (o a b : List Int) (i : Nat) : Nat → List Int × Int
  | 0 => (o, 0)
  | k + 1 => (((prJ o a b i k).1).set (i + k) ((w64 (w64 (((prJ o a b i k).1).getD (i + k) 0 + w64 (a.getD i 0 * b.getD k 0)) + (prJ o a b i k).2)).tmod 65536),
      w64 ((w64 (w64 (((prJ o a b i k).1).getD (i + k) 0 + w64 (a.getD i 0 * b.getD k 0)) + (prJ o a b i k).2)).tdiv 65536))
def prI (a b : List Int) : Nat → List Int
  | 0 => List.replicate (a.length + b.length) 0
  | i + 1 => ((prJ (prI a b i) a b i b.length).1).set (i + b.length) (w64 (((prJ (prI a b i) a b i b.length).1).getD (i + b.length) 0 + (prJ (prI a b i) a b i b.length).2))
theorem prJ_len (o a b : List Int) (i : Nat) : ∀ k, ((prJ o a b i k).1).length = o.length
  | 0 => rfl
  | k + 1 => by simp only [prJ, List.length_set, prJ_len o a b i k]
theorem prI_len (a b : List Int) : ∀ i, (prI a b i).length = a.length + b.length
  | 0 => by simp [prI]
  | i + 1 => by simp only [prI, List.length_set, prJ_len, prI_len a b i]
def thJ (c w : List Int) : Nat → Bool
  | 0 => true
  | j + 1 => if c.getD j 0 = w.getD j 0 then thJ c w j else decide (c.getD j 0 < w.getD j 0)
def prodI (a b : List Int) : List Int := prI a b a.length
def cubL (x : Int) : List Int := prodI (prodI (splL x 4) (splL x 4)) (splL x 4)
def wantL (n : Int) : List Int := (List.replicate 12 0).set 6 n
def thirdI (x n : Int) : Bool := thJ (cubL x) (wantL n) 12
theorem cubL_len (x : Int) : (cubL x).length = 12 := by simp [cubL, prodI, prI_len, splL_len]
def cubeX (n : Int) : Nat → Int
  | 0 => 0
  | t + 1 => if thirdI (w64 (cubeX n t + bitR 34359738368 t)) n then w64 (cubeX n t + bitR 34359738368 t) else cubeX n t
def cubeI (n : Int) : Int := IntKind.u32.wrap ((cubeX n 36).tmod 4294967296)
theorem split_c (x : Int) (m : AMem) : Ctr Try.prog 35 [.one (.int .u64 x)] m (.one (.sl m.length 0 0 4)) (m ++ [⟨.grow, 52, 0, 1, u64l (splL x 4)⟩]) := by
  refine Ctr.enter Try.func35 rfl (by decide) (rs := [.tmp 2]) (nt := 17) rfl rfl fun hwf Q hQ => ?_
  iterate 2
    refine AW.seq_k fun K hK => ?_
    refine AW.region (by decide) ?_
    simp only [push_cast, simprocAttr, u64l_len]
    refine Thn_n ?_
    refine hK _ _ ?_
    clear hK K
  refine AW.seq_k fun K hK => ?_
  refine AW.seq_k fun K hK => ?_
  refine AW.nilTm 52 1 3 (by simp only [push_cast, simprocAttr]) ?_
  try simp only [push_cast, simprocAttr]
  refine AW.region (by decide) ?_
  simp only [push_cast, simprocAttr, u64l_len]
  refine Thn_n ?_
  refine hK _ _ ?_
  clear hK K
  refine AW.block ?_
  refine AW.loopK [] (fun i => i ≤ (4 : Nat)) (fun i => [(0, .one (.int .u64 (splX x i))), (3, .one (.sl m.length i 0 i)), (4, .one (.int .i64 (i : Int)))]) (fun i => [(m.length, ⟨.grow, 52, i, 1, u64l (splL x i)⟩)]) (fun i => 4 - i) 0 (by omega) ?_ ?_ fun i hi5 => ?_
  · first | rfl | (simp only [Keeps, Tm.get_cons, Nat.reduceEqDiff, ↓reduceIte, if_true, if_false, ite_true, ite_false, true_and, and_true, and_self, reduceCtorEq, splX, splL, u64l, List.map_nil, Int.natCast_zero] <;> rfl)
  · first | rfl | (simp only [setAll, push_cast, simprocAttr, u64l_len, splX, splL, u64l, List.map_nil, Int.natCast_zero] <;> rfl)
  have hi4 : i ≤ 4 := hi5
  have hll := splL_len x i
  have q1 : i + 1 ≤ 140737488355328 := by omega
  have q2 : (i + 1) * 8 ≤ 140737488355328 := by omega
  try simp only [keepL, setAll, push_cast, simprocAttr, u64l_len]
  refine AW.seq_k fun K hK => ?_
  refine AW.seq_k fun K hK => ?_
  refine AW.region (by decide) ?_
  simp only [push_cast, simprocAttr, u64l_len]
  refine Thn_n ?_
  refine hK _ _ ?_
  clear hK K
  refine AW.cond rfl (fun h6 => ?_) (fun h6 => ?_)
  · have hlt : i < 4 := by have := of_decide_eq_true h6; omega
    refine AW.skip ?_
    refine Thn_n ?_
    refine hK _ _ ?_
    clear hK K
    refine AW.seq_k fun K hK => ?_
    refine AW.block ?_
    refine AW.seq_k fun K hK => ?_
    refine AW.region (by decide) ?_
    simp only [push_cast, simprocAttr, u64l_len, hll, q1, q2]
    refine Thn_n ?_
    refine hK _ _ ?_
    clear hK K
    refine AW.region (by decide) ?_
    simp only [push_cast, simprocAttr, u64l_len, hll, q1, q2]
    refine InB_n ?_
    refine Thn_n ?_
    refine hK _ _ ?_
    clear hK K
    refine AW.region (by decide) ?_
    simp only [push_cast, simprocAttr, u64l_len, hll, q1, q2]
    refine Thn_n ?_
    have hwi : IntKind.i64.wrap ((i:Int)+1) = (i:Int)+1 := wi (by omega)
    refine ⟨i + 1, hlt, by omega, ?_⟩
    try simp only [keepL, setAll, push_cast, simprocAttr, u64l_len, hll, q1, q2, hwi, splX, splL, w64, u64l_snoc]
    exact Weak.to (extra := [_]) (by simp only [Keeps, Tm.get_cons, Nat.reduceEqDiff, ↓reduceIte, if_true, if_false, ite_true, ite_false, true_and, and_true, and_self, reduceCtorEq, hwi, splX, splL, w64, u64l_snoc]) (by first | rfl | (simp only [List.append_assoc, List.cons_append, List.nil_append]; rfl)) (by first | rfl | (simp [AV.below, CV.below, u64l_below]; done) | (simp [AV.below, CV.below, u64l_below]; omega)) (by
      first | exact hwf | refine MWf.app (hwf.grow (by simp)) ?_
      repeat (first | exact MWf_nil | (refine MWf_cons ?_ ?_; · first | rfl | (simp [CV.below, u64l_below]; done) | (simp [CV.below, u64l_below]; omega))))
  · have hie : i = 4 := by have := of_decide_eq_false h6; omega
    subst hie
    refine AW.exit ?_
    refine Thn_e ?_
    clear hK K
    refine Thn_e ?_
    refine InB_here ?_
    refine Thn_n ?_
    refine hK _ _ ?_
    clear hK K
    refine AW.seq_k fun K hK => ?_
    refine AW.region (by decide) ?_
    simp only [push_cast, simprocAttr, u64l_len]
    refine Thn_n ?_
    refine hK _ _ ?_
    clear hK K
    refine AW.ret ?_
    refine hQ _ _ _ ?_
    refine RetP.pick [(m.length, 4)] (Or.inr rfl) ?_ ?_ ?_ hwf ?_
    · simp only [resA, resOne, resTv, AV.tv, push_cast, simprocAttr]
      simp [renV, renT, renL, renC, renIdx]
    · simp only [picks, push_cast, simprocAttr] <;> rfl
    · simp [distinctFrom]
    · exact MWf_one (u64l_below _ _)
    
theorem product_c (ra va rb vb : Nat) (a b : List Int) (m : AMem) (ha : (∃ k ez, m[ra]? = some ⟨k, 52, va, ez, u64l a⟩)) (hb : (∃ k ez, m[rb]? = some ⟨k, 52, vb, ez, u64l b⟩)) (la : a.length ≤ 100) (lb : b.length ≤ 100) : Ctr Try.prog 34 [.one (.sl ra va 0 a.length), .one (.sl rb vb 0 b.length)] m (.one (.sl m.length 0 0 (a.length + b.length))) (m ++ [⟨.grow, 52, 0, 1, u64l (prodI a b)⟩]) := by
  refine Ctr.enter Try.func34 rfl (by decide) (rs := [.tmp 4]) (nt := 71) rfl rfl fun hwf Q hQ => ?_
  obtain ⟨k1, e1, ha⟩ := ha
  obtain ⟨k2, e2, hb⟩ := hb
  have lra := get_lt ha
  have lrb := get_lt hb
  have ws : IntKind.i64.wrap ((a.length : Int) + (b.length : Int)) = ((a.length + b.length : Nat) : Int) := by rw [IntKind.wrap_i64]; omega
  have n0 : (0 : Int) ≤ (a.length : Int) + (b.length : Int) := by omega
  have n1 : 8 * ((a.length : Int) + (b.length : Int)) ≤ 281474976710656 := by omega
  have n2 : (a.length : Int) + (b.length : Int) ≤ 281474976710656 := by omega
  have n3 : ((a.length : Int) + (b.length : Int)).toNat = a.length + b.length := by omega
  have hz := u64l_zero (a.length + b.length)
  simp only [push_cast, simprocAttr] at hz ws
  iterate 2
    refine AW.seq_k fun K hK => ?_
    refine AW.region (by decide) ?_
    simp only [push_cast, simprocAttr, ws, n0, n1, n2, n3, hz, ha, lk_old ha, hb, lk_old hb, u64l_len, Int.le_refl, Nat.le_refl, w64, u64l_set]
    refine Thn_n ?_
    refine hK _ _ ?_
    clear hK K
  refine AW.seq_k fun K hK => ?_
  refine AW.seq_k fun K hK => ?_
  refine AW.region (by decide) ?_
  simp only [push_cast, simprocAttr, ws, n0, n1, n2, n3, hz, ha, lk_old ha, hb, lk_old hb, u64l_len, Int.le_refl, Nat.le_refl, w64, u64l_set]
  refine Thn_n ?_
  refine hK _ _ ?_
  clear hK K
  refine AW.block ?_
  refine AW.loopK [0, 1, 5] (fun i => i ≤ a.length) (fun i => [(6, .one (.int .i64 (i : Int)))]) (fun i => [(m.length, ⟨.grow, 52, 0, 1, u64l (prI a b i)⟩)]) (fun i => a.length - i) 0 (by omega) ?_ ?_ fun i hi5 => ?_
  · first | rfl | (simp only [Keeps, Tm.get_cons, Nat.reduceEqDiff, ↓reduceIte, if_true, if_false, ite_true, ite_false, true_and, and_true, and_self, reduceCtorEq, prI, Int.natCast_zero] <;> rfl)
  · first | rfl | (simp only [setAll, push_cast, simprocAttr, ws, n0, n1, n2, n3, hz, ha, lk_old ha, hb, lk_old hb, u64l_len, Int.le_refl, Nat.le_refl, w64, u64l_set, prI, Int.natCast_zero] <;> rfl)
  have hi : i ≤ a.length := hi5
  have hpl := prI_len a b i
  try simp only [keepL, setAll, push_cast, simprocAttr, ws, n0, n1, n2, n3, hz, ha, lk_old ha, hb, lk_old hb, u64l_len, Int.le_refl, Nat.le_refl, w64, u64l_set]
  refine AW.seq_k fun K hK => ?_
  refine AW.seq_k fun K hK => ?_
  refine AW.region (by decide) ?_
  simp only [push_cast, simprocAttr, ws, n0, n1, n2, n3, hz, ha, lk_old ha, hb, lk_old hb, u64l_len, Int.le_refl, Nat.le_refl, w64, u64l_set]
  refine Thn_n ?_
  refine hK _ _ ?_
  clear hK K
  refine AW.cond rfl (fun h19 => ?_) (fun h19 => ?_)
  · have hlt : i < a.length := by have := of_decide_eq_true h19; omega
    have c1 : (0 : Int) ≤ (i : Int) := by omega
    have c2 : (i : Int) < (a.length : Int) := by omega
    have ga := u64l_get hlt
    refine AW.skip ?_
    refine Thn_n ?_
    refine hK _ _ ?_
    clear hK K
    refine AW.seq_k fun K hK => ?_
    refine AW.block ?_
    refine AW.seq_k fun K hK => ?_
    refine AW.region (by decide) ?_
    simp only [push_cast, simprocAttr, ws, n0, n1, n2, n3, hz, ha, lk_old ha, hb, lk_old hb, u64l_len, Int.le_refl, Nat.le_refl, w64, u64l_set, c1, c2, ga]
    refine Thn_n ?_
    refine hK _ _ ?_
    clear hK K
    refine AW.seq_k fun K hK => ?_
    refine AW.seq_k fun K hK => ?_
    refine AW.region (by decide) ?_
    simp only [push_cast, simprocAttr, ws, n0, n1, n2, n3, hz, ha, lk_old ha, hb, lk_old hb, u64l_len, Int.le_refl, Nat.le_refl, w64, u64l_set, c1, c2, ga]
    refine Thn_n ?_
    refine hK _ _ ?_
    clear hK K
    refine AW.block ?_
    refine AW.loopK [0, 1, 5, 6] (fun k => k ≤ b.length) (fun k => [(7, .one (.int .u64 (prJ (prI a b i) a b i k).2)), (8, .one (.int .i64 (k : Int)))]) (fun k => [(m.length, ⟨.grow, 52, 0, 1, u64l (prJ (prI a b i) a b i k).1⟩)]) (fun k => b.length - k) 0 (by omega) ?_ ?_ fun k hi12 => ?_
    · first | rfl | (simp only [Keeps, Tm.get_cons, Nat.reduceEqDiff, ↓reduceIte, if_true, if_false, ite_true, ite_false, true_and, and_true, and_self, reduceCtorEq, prJ, Int.natCast_zero] <;> rfl)
    · first | rfl | (simp only [setAll, push_cast, simprocAttr, ws, n0, n1, n2, n3, hz, ha, lk_old ha, hb, lk_old hb, u64l_len, Int.le_refl, Nat.le_refl, w64, u64l_set, c1, c2, ga, prJ, Int.natCast_zero] <;> rfl)
    have hk : k ≤ b.length := hi12
    have hjl := prJ_len (prI a b i) a b i k
    try simp only [keepL, setAll, push_cast, simprocAttr, ws, n0, n1, n2, n3, hz, ha, lk_old ha, hb, lk_old hb, u64l_len, Int.le_refl, Nat.le_refl, w64, u64l_set, c1, c2, ga]
    refine AW.seq_k fun K hK => ?_
    refine AW.seq_k fun K hK => ?_
    refine AW.region (by decide) ?_
    simp only [push_cast, simprocAttr, ws, n0, n1, n2, n3, hz, ha, lk_old ha, hb, lk_old hb, u64l_len, Int.le_refl, Nat.le_refl, w64, u64l_set, c1, c2, ga]
    refine Thn_n ?_
    refine hK _ _ ?_
    clear hK K
    refine AW.cond rfl (fun h25 => ?_) (fun h25 => ?_)
    · have hltk : k < b.length := by have := of_decide_eq_true h25; omega
      have c3 : (0 : Int) ≤ (k : Int) := by omega
      have c4 : (k : Int) < (b.length : Int) := by omega
      have gb := u64l_get hltk
      have w1 : IntKind.i64.wrap ((i : Int) + (k : Int)) = (i : Int) + (k : Int) := wi (by omega)
      have c5 : (0 : Int) ≤ (i : Int) + (k : Int) := by omega
      have c6 : (i : Int) + (k : Int) < (a.length : Int) + (b.length : Int) := by omega
      have c7 : ((i : Int) + (k : Int)).toNat = i + k := by omega
      have gj := u64l_get (xs := (prJ (prI a b i) a b i k).1) (i := i + k) (by omega)
      have c8 : i + k + 1 ≤ ((prJ (prI a b i) a b i k).1).length := by omega
      simp only [Nat.add_assoc] at c8
      refine AW.skip ?_
      refine Thn_n ?_
      refine hK _ _ ?_
      clear hK K
      refine AW.seq_k fun K hK => ?_
      refine AW.block ?_
      refine AW.seq_k fun K hK => ?_
      refine AW.draw [.val, .val, .val, .val, .val, .rd 0, .val, .val, .val, .rd 0, .val, .val, .val, .rd 0, .val, .val, .val, .val, .val] fol (by decide) (by kernel_rfl) ?_
      simp only [push_cast, simprocAttr, ws, n0, n1, n2, n3, hz, ha, lk_old ha, hb, lk_old hb, u64l_len, Int.le_refl, Nat.le_refl, w64, u64l_set, c1, c2, ga, c3, c4, c5, c6, c7, c8, gb, w1, gj]
      refine Thn_n ?_
      refine hK _ _ ?_
      clear hK K
      refine AW.seq_k fun K hK => ?_
      refine AW.region (by decide) ?_
      simp only [push_cast, simprocAttr, ws, n0, n1, n2, n3, hz, ha, lk_old ha, hb, lk_old hb, u64l_len, Int.le_refl, Nat.le_refl, w64, u64l_set, c1, c2, ga, c3, c4, c5, c6, c7, c8, gb, w1, gj]
      refine Thn_n ?_
      refine hK _ _ ?_
      clear hK K
      refine AW.region (by decide) ?_
      simp only [push_cast, simprocAttr, ws, n0, n1, n2, n3, hz, ha, lk_old ha, hb, lk_old hb, u64l_len, Int.le_refl, Nat.le_refl, w64, u64l_set, c1, c2, ga, c3, c4, c5, c6, c7, c8, gb, w1, gj]
      refine InB_n ?_
      refine Thn_n ?_
      refine hK _ _ ?_
      clear hK K
      refine AW.region (by decide) ?_
      simp only [push_cast, simprocAttr, ws, n0, n1, n2, n3, hz, ha, lk_old ha, hb, lk_old hb, u64l_len, Int.le_refl, Nat.le_refl, w64, u64l_set, c1, c2, ga, c3, c4, c5, c6, c7, c8, gb, w1, gj]
      refine Thn_n ?_
      have hwi : IntKind.i64.wrap ((k:Int)+1) = (k:Int)+1 := wi (by omega)
      have hj1 : (prJ (prI a b i) a b i (k + 1)).1 = ((prJ (prI a b i) a b i k).1).set (i + k) ((w64 (w64 (((prJ (prI a b i) a b i k).1).getD (i + k) 0 + w64 (a.getD i 0 * b.getD k 0)) + (prJ (prI a b i) a b i k).2)).tmod 65536) := rfl
      have hj2 : (prJ (prI a b i) a b i (k + 1)).2 = w64 ((w64 (w64 (((prJ (prI a b i) a b i k).1).getD (i + k) 0 + w64 (a.getD i 0 * b.getD k 0)) + (prJ (prI a b i) a b i k).2)).tdiv 65536) := rfl
      refine ⟨k + 1, hltk, by omega, ?_⟩
      try simp only [keepL, setAll, push_cast, simprocAttr, ws, n0, n1, n2, n3, hz, ha, lk_old ha, hb, lk_old hb, u64l_len, Int.le_refl, Nat.le_refl, w64, u64l_set, c1, c2, ga, c3, c4, c5, c6, c7, c8, gb, w1, gj, hwi, hj1, hj2]
      exact Weak.same (by simp only [Keeps, Tm.get_cons, Nat.reduceEqDiff, ↓reduceIte, if_true, if_false, ite_true, ite_false, true_and, and_true, and_self, reduceCtorEq, hwi, hj1, hj2]) (by first | rfl | simp only [Keeps, Tm.get_cons, Nat.reduceEqDiff, ↓reduceIte, if_true, if_false, ite_true, ite_false, true_and, and_true, and_self, reduceCtorEq, hwi, hj1, hj2])
    · have hke : k = b.length := by have := of_decide_eq_false h25; omega
      subst hke
      have w1 : IntKind.i64.wrap ((i : Int) + (b.length : Int)) = (i : Int) + (b.length : Int) := wi (by omega)
      have c5 : (0 : Int) ≤ (i : Int) + (b.length : Int) := by omega
      have c6 : (i : Int) + (b.length : Int) < (a.length : Int) + (b.length : Int) := by omega
      have c7 : ((i : Int) + (b.length : Int)).toNat = i + b.length := by omega
      have gj := u64l_get (xs := (prJ (prI a b i) a b i b.length).1) (i := i + b.length) (by omega)
      have c8 : i + b.length + 1 ≤ ((prJ (prI a b i) a b i b.length).1).length := by omega
      simp only [Nat.add_assoc] at c8
      refine AW.exit ?_
      refine Thn_e ?_
      clear hK K
      refine Thn_e ?_
      refine InB_here ?_
      refine Thn_n ?_
      refine hK _ _ ?_
      clear hK K
      refine AW.region (by decide) ?_
      simp only [push_cast, simprocAttr, ws, n0, n1, n2, n3, hz, ha, lk_old ha, hb, lk_old hb, u64l_len, Int.le_refl, Nat.le_refl, w64, u64l_set, c1, c2, ga, w1, c5, c6, c7, c8, gj]
      refine InB_n ?_
      refine Thn_n ?_
      refine hK _ _ ?_
      clear hK K
      refine AW.region (by decide) ?_
      simp only [push_cast, simprocAttr, ws, n0, n1, n2, n3, hz, ha, lk_old ha, hb, lk_old hb, u64l_len, Int.le_refl, Nat.le_refl, w64, u64l_set, c1, c2, ga, w1, c5, c6, c7, c8, gj]
      refine Thn_n ?_
      have hwi : IntKind.i64.wrap ((i:Int)+1) = (i:Int)+1 := wi (by omega)
      have hnx : prI a b (i + 1) = ((prJ (prI a b i) a b i b.length).1).set (i + b.length) (w64 (((prJ (prI a b i) a b i b.length).1).getD (i + b.length) 0 + (prJ (prI a b i) a b i b.length).2)) := rfl
      refine ⟨i + 1, hlt, by omega, ?_⟩
      try simp only [keepL, setAll, push_cast, simprocAttr, ws, n0, n1, n2, n3, hz, ha, lk_old ha, hb, lk_old hb, u64l_len, Int.le_refl, Nat.le_refl, w64, u64l_set, c1, c2, ga, w1, c5, c6, c7, c8, gj, hwi, hnx]
      exact Weak.same (by simp only [Keeps, Tm.get_cons, Nat.reduceEqDiff, ↓reduceIte, if_true, if_false, ite_true, ite_false, true_and, and_true, and_self, reduceCtorEq, hwi, hnx]) (by first | rfl | simp only [Keeps, Tm.get_cons, Nat.reduceEqDiff, ↓reduceIte, if_true, if_false, ite_true, ite_false, true_and, and_true, and_self, reduceCtorEq, hwi, hnx])
  · have hie : i = a.length := by have := of_decide_eq_false h19; omega
    subst hie
    refine AW.exit ?_
    refine Thn_e ?_
    clear hK K
    refine Thn_e ?_
    refine InB_here ?_
    refine Thn_n ?_
    refine hK _ _ ?_
    clear hK K
    refine AW.seq_k fun K hK => ?_
    refine AW.region (by decide) ?_
    simp only [push_cast, simprocAttr, ws, n0, n1, n2, n3, hz, ha, lk_old ha, hb, lk_old hb, u64l_len, Int.le_refl, Nat.le_refl, w64, u64l_set]
    refine Thn_n ?_
    refine hK _ _ ?_
    clear hK K
    refine AW.ret ?_
    refine hQ _ _ _ ?_
    refine RetP.pick [(m.length, 0)] (Or.inr rfl) ?_ ?_ ?_ hwf ?_
    · simp only [resA, resOne, resTv, AV.tv, push_cast, simprocAttr]
      simp [renV, renT, renL, renC, renIdx]
    · simp only [picks, push_cast, simprocAttr] <;> rfl
    · simp [distinctFrom]
    · exact MWf_one (u64l_below _ _)
    
end Go.Proofs.Ytelkmimmmhkbhaa
