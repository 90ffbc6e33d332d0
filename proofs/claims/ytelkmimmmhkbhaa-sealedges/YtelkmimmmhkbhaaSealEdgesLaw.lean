/- SealEdges answers true at every number and every byte; no conditions. -/
import Derived.Test.YtelkmimmmhkbhaaSealS
import Derived.Test.YtelkmimmmhkbhaaAwakeSe
import Derived.Test.YtelkmimmmhkbhaaRows
import Derived.WalkKit
import Derived.ProofKit
import Derived.OpenShut
import Derived.JoinedCond
set_option linter.unusedSimpArgs false
set_option linter.unusedVariables false
set_option maxRecDepth 100000
set_option maxHeartbeats 4000000
namespace Go.Proofs.Ytelkmimmmhkbhaa
open Go Go.Eng

theorem bulk_one {H : Type} (d : DataW H) : 1 ≤ Rows.uptoBulk d := by
  cases d with
  | lit l => cases l <;> simp [Rows.uptoBulk]
  | nil => simp [Rows.uptoBulk]
  | ptr d => simp [Rows.uptoBulk]
  | slice elems spare => simp [Rows.uptoBulk]
  | agg parts => simp [Rows.uptoBulk]
  | iface t d => simp [Rows.uptoBulk]
  | map entries => simp [Rows.uptoBulk]
  | held h => simp [Rows.uptoBulk]
theorem bulk_mem {H : Type} {d : DataW H} : ∀ {l : List (DataW H)}, d ∈ l → Rows.uptoBulk d ≤ Rows.uptoBulkAll l
  | x :: r, h => by
    simp only [Rows.uptoBulkAll]
    rcases List.mem_cons.1 h with rfl | h
    · omega
    · have := bulk_mem h; omega
theorem bulk_len {H : Type} : ∀ (l : List (DataW H)), l.length ≤ Rows.uptoBulkAll l
  | [] => by simp
  | x :: r => by have := bulk_one x; have := bulk_len r; simp only [Rows.uptoBulkAll, List.length_cons]; omega
theorem isBulk {H : Type} : IsBulk (H := H) Rows.uptoBulk where
  str := fun l => by simp [Rows.uptoBulk]
  agg := fun l d h => by have := bulk_mem h; simp only [Rows.uptoBulk]; omega
  row := fun l s d h => by have := bulk_mem h; simp only [Rows.uptoBulk]; omega
  len := fun l s => by have := bulk_len l; simp only [Rows.uptoBulk]; omega
theorem small {H : Type} {l : List (DataW H)} (hk : Rows.uptoSmall H l = true) : ∀ d, d ∈ l → Rows.uptoBulk d ≤ 1048576 := fun d hd => by
  have h1 : Rows.uptoBulkAll l ≤ 1048576 := by simpa [Rows.uptoSmall] using hk
  have := bulk_mem hd; omega
theorem own : ownKnob Try.prog.godebug = none := by kernel_rfl
theorem laidOut : laidOutB Try.prog = true := by kernel_rfl
theorem laid : laidB Try.prog = true := by kernel_rfl

theorem u8l_zero (n : Nat) : zeros (.int .u8 0) n = u8l (List.replicate n 0) := by
  simp only [zeros, u8l, List.map_replicate, Value.cells]
  apply List.ext_getElem?
  intro i
  simp [Nat.mod_one, cellOf, List.getElem?_replicate, List.getElem?_range']
  split <;> simp_all
def edL (n : Nat) (x : Int) (i : Nat) : List Int := List.replicate i x ++ List.replicate (n - i) 0
theorem edL_len {n : Nat} {x : Int} {i : Nat} (h : i ≤ n) : (edL n x i).length = n := by simp [edL]; omega
theorem edL_set {n : Nat} {x : Int} {i : Nat} (h : i < n) : (edL n x i).set i x = edL n x (i + 1) := by
  have e : n - i = (n - (i + 1)) + 1 := by omega
  unfold edL
  rw [List.set_append_right _ _ (by simp), List.length_replicate, Nat.sub_self, e, List.replicate_succ, List.set_cons_zero, List.replicate_succ', List.append_assoc]
  rfl
theorem edges_c (N k : Nat) (x : Int) (m : AMem) (hN : N ≤ 255) (hk : k = N % 201) (hx : 0 ≤ x ∧ x ≤ 255) : Ctr Try.prog 5 [.one (.int .u8 (N : Int)), .one (.int .u8 x)] m (.one (.bool true)) m := by
  refine Ctr.enter Try.func5 rfl (by decide) (rs := [.tmp 4]) (nt := 31) rfl rfl fun hwf Q hQ => ?_
  have w0 : IntKind.i64.wrap (N : Int) = (N : Int) := wi (by omega)
  have w1 : (N : Int).tmod 201 = (k : Int) := by subst hk; rfl
  have n0 : (0 : Int) ≤ (k : Int) := by omega
  have n1 : (k : Int) ≤ 281474976710656 := by omega
  have hz := u8l_zero k
  have hl0 := edL_len (n := k) (x := x) (i := 0) (by omega)
  have he0 : List.replicate k (0 : Int) = edL k x 0 := rfl
  rw [he0] at hz
  have hu : U8ok (edL k x k) := fun y hy => by
    rcases List.mem_append.1 hy with h | h
    · obtain ⟨_, rfl⟩ := List.mem_replicate.1 h; exact hx
    · obtain ⟨_, rfl⟩ := List.mem_replicate.1 h; omega
  have hlk := edL_len (n := k) (x := x) (i := k) (Nat.le_refl _)
  have h32 := eqp32 (shaL_len (edL k x k))
  simp only [push_cast, simprocAttr] at hz
  iterate 2
    refine AW.seq_k fun K hK => ?_
    refine AW.region (by decide) ?_
    simp only [push_cast, simprocAttr, w0, w1, n0, n1, hz, u8l_len, u8lset, Int.le_refl, Int.one_mul, h32]
    refine Thn_n ?_
    refine hK _ _ ?_
    clear hK K
  refine AW.seq_k fun K hK => ?_
  refine AW.seq_k fun K hK => ?_
  refine AW.region (by decide) ?_
  simp only [push_cast, simprocAttr, w0, w1, n0, n1, hz, u8l_len, u8lset, Int.le_refl, Int.one_mul, h32]
  refine Thn_n ?_
  refine hK _ _ ?_
  clear hK K
  refine AW.block ?_
  refine AW.loopK [1, 5, 12] (fun i => i ≤ k) (fun i => [(13, .one (.int .i64 (i : Int)))]) (fun i => [(m.length, ⟨.grow, 5, 0, 1, u8l (edL k x i)⟩)]) (fun i => k - i) 0 (by omega) ?_ ?_ fun i hi5 => ?_
  · first | rfl | (simp only [Keeps, Tm.get_cons, Nat.reduceEqDiff, ↓reduceIte, if_true, if_false, ite_true, ite_false, true_and, and_true, and_self, reduceCtorEq, Int.natCast_zero] <;> rfl)
  · first | rfl | (simp only [setAll, push_cast, simprocAttr, w0, w1, n0, n1, hz, u8l_len, u8lset, Int.le_refl, Int.one_mul, h32, Int.natCast_zero] <;> rfl)
  have hi : i ≤ k := hi5
  have hil := edL_len (n := k) (x := x) hi
  try simp only [keepL, setAll, push_cast, simprocAttr, w0, w1, n0, n1, hz, u8l_len, u8lset, Int.le_refl, Int.one_mul, h32]
  refine AW.seq_k fun K hK => ?_
  refine AW.region (by decide) ?_
  simp only [push_cast, simprocAttr, w0, w1, n0, n1, hz, u8l_len, u8lset, Int.le_refl, Int.one_mul, h32]
  refine Thn_n ?_
  refine hK _ _ ?_
  clear hK K
  refine AW.seq_k fun K hK => ?_
  refine AW.cond rfl (fun h14 => ?_) (fun h14 => ?_)
  · have hlt : i < k := by have := of_decide_eq_true h14; omega
    have c1 : (0 : Int) ≤ (i : Int) := by omega
    have c2 : (i : Int) < (k : Int) := by omega
    have c3 : i + 1 ≤ k := hlt
    have hes := edL_set (x := x) hlt
    refine AW.skip ?_
    refine Thn_n ?_
    refine hK _ _ ?_
    clear hK K
    refine AW.seq_k fun K hK => ?_
    refine AW.block ?_
    refine AW.seq_k fun K hK => ?_
    refine AW.region (by decide) ?_
    simp only [push_cast, simprocAttr, w0, w1, n0, n1, hz, u8l_len, u8lset, Int.le_refl, Int.one_mul, h32, c1, c2, c3, hil, hes]
    refine Thn_n ?_
    refine hK _ _ ?_
    clear hK K
    refine AW.region (by decide) ?_
    simp only [push_cast, simprocAttr, w0, w1, n0, n1, hz, u8l_len, u8lset, Int.le_refl, Int.one_mul, h32, c1, c2, c3, hil, hes]
    refine InB_n ?_
    refine Thn_n ?_
    refine hK _ _ ?_
    clear hK K
    refine AW.region (by decide) ?_
    simp only [push_cast, simprocAttr, w0, w1, n0, n1, hz, u8l_len, u8lset, Int.le_refl, Int.one_mul, h32, c1, c2, c3, hil, hes]
    refine Thn_n ?_
    have hwi : IntKind.i64.wrap ((i:Int)+1) = (i:Int)+1 := wi (by omega)
    refine ⟨i + 1, hlt, by omega, ?_⟩
    try simp only [keepL, setAll, push_cast, simprocAttr, w0, w1, n0, n1, hz, u8l_len, u8lset, Int.le_refl, Int.one_mul, h32, c1, c2, c3, hil, hes, hwi, hes]
    exact Weak.same (by simp only [Keeps, Tm.get_cons, Nat.reduceEqDiff, ↓reduceIte, if_true, if_false, ite_true, ite_false, true_and, and_true, and_self, reduceCtorEq, hwi, hes]) (by first | rfl | simp only [Keeps, Tm.get_cons, Nat.reduceEqDiff, ↓reduceIte, if_true, if_false, ite_true, ite_false, true_and, and_true, and_self, reduceCtorEq, hwi, hes])
  · have hie : i = k := by have := of_decide_eq_false h14; omega
    subst hie
    refine AW.exit ?_
    refine Thn_e ?_
    clear hK K
    refine Thn_e ?_
    refine InB_here ?_
    refine Thn_n ?_
    refine hK _ _ ?_
    clear hK K
    refine AW.seq_k fun K hK => ?_
    refine AW.region (by decide) ?_
    simp only [push_cast, simprocAttr, w0, w1, n0, n1, hz, u8l_len, u8lset, Int.le_refl, Int.one_mul, h32]
    refine CThen.by (awake_c _) ?_
    simp only [push_cast, simprocAttr, w0, w1, n0, n1, hz, u8l_len, u8lset, Int.le_refl, Int.one_mul, h32]
    refine CThen.by (of1_c (m.length + 1) 0 0 (.sl m.length 0 0 i) (edL i x i) [.sl m.length 0 0 i] .grow 1 _ (by simp only [push_cast, simprocAttr]) rfl (.all (k := .grow) (ty := 5) (ez := 1) (by simp only [push_cast, simprocAttr]) hlk.symm) (by omega) hu) ?_
    simp only [push_cast, simprocAttr, w0, w1, n0, n1, hz, u8l_len, u8lset, Int.le_refl, Int.one_mul, h32]
    refine CThen.by (make_c _) ?_
    simp only [push_cast, simprocAttr, w0, w1, n0, n1, hz, u8l_len, u8lset, Int.le_refl, Int.one_mul, h32]
    refine CThen.by ((by have h := rof_c m.length 0 0 (edL i x i) (edL i x i) (m ++ [⟨.grow, 5, 0, 1, u8l (edL i x i)⟩, ⟨.grow, 22, 0, 1, [.sl m.length 0 0 i]⟩]) ⟨.grow, 5, 1, by simp only [push_cast, simprocAttr]⟩ (by omega) (by rw [List.drop_zero, List.take_length]) hu (by omega); rwa [hlk] at h)) ?_
    simp only [push_cast, simprocAttr, w0, w1, n0, n1, hz, u8l_len, u8lset, Int.le_refl, Int.one_mul, h32]
    refine Thn_n ?_
    refine hK _ _ ?_
    clear hK K
    refine AW.ret ?_
    refine hQ _ _ _ ?_
    first | refine RetP.drop0 (Or.inr rfl) ?_ ?_ hwf | refine RetP.drop (Or.inr rfl) ?_ ?_ hwf
    · simp only [resA, resOne, resTv, AV.tv, push_cast, simprocAttr, w0, w1, n0, n1, hz, u8l_len, u8lset, Int.le_refl, Int.one_mul, h32]
    · rfl
namespace sealEdgesLaw
theorem law (B : Nat) (m : AMem) (avs : List AV) (h : All2 (fun t a => goodA Try.prog B m t a) Try.f5.params.toList avs) : Ctr Try.prog 5 avs m (.one (.bool true)) m := by
  rw [Try.params5] at h
  obtain ⟨a0, l0, rfl, g0, h⟩ := all2_cons h
  obtain ⟨a1, l1, rfl, g1, h⟩ := all2_cons h
  obtain rfl := all2_nil h
  obtain ⟨c, rfl, hg⟩ := g0.one (fun fs h => by rw [Try.underlying5] at h; cases h) (fun k e h => by rw [Try.underlying5] at h; cases h)
  obtain ⟨c2, rfl, hg2⟩ := g1.one (fun fs h => by rw [Try.underlying5] at h; cases h) (fun k e h => by rw [Try.underlying5] at h; cases h)
  obtain ⟨n, e1, hn1, hn2⟩ := hg.int Try.underlying5
  obtain ⟨x, e2, hx1, hx2⟩ := hg2.int Try.underlying5
  simp only [List.cons.injEq, and_true] at e1 e2
  subst e1; subst e2
  simp only [IntKind.min, IntKind.max, IntKind.signed, IntKind.bits] at hn1 hn2 hx1 hx2
  obtain ⟨N, rfl⟩ := Int.eq_ofNat_of_zero_le (a := n) (by simpa using hn1)
  have hN : N ≤ 255 := by have : ((N : Nat) : Int) ≤ 255 := by simpa using hn2
                          omega
  exact edges_c N (N % 201) x m hN rfl (by constructor; simpa using hx1; simpa using hx2)
theorem contract (H : Type) (enc : TypeId × Value → H) (W : World) (base : Nat) (args : Array Value) (ds gs : List (DataW H)) (before : List MemPlace)
    (hval : ∀ (j : Nat) t v, Try.f5.params[j]? = some t → args[j]? = some v → Value.okWide Try.prog W .any base t v)
    (hW : DataW.Whole enc Try.prog Try.f5.params.toList Rows.sealEdgesSpec.vars false W args.toList ds gs before) :
    Calls Try.prog 5 args W fun e W' => ∃ v, e = .returned v ∧ Rows.sealEdgesSpec.post enc Try.prog Try.f5 false true false false W args v W' := by
  refine law_true (B := Rows.uptoBulkAll ds) (bulk := Rows.uptoBulk) rfl ?_ laidOut laid (by kernel_rfl) (tb := 4) rfl Try.underlying4 isBulk (fun d hd => bulk_mem hd) hval hW fun m avs _ h => law _ m avs h
  obtain ⟨p, q, hA, _⟩ := hW
  rw [Try.params5] at hA
  rintro l rfl
  obtain ⟨v0, vs0, d0, ds0, p0, q0, _, rfl, _, _, r0⟩ := ChangeShapes.trodAll_cons hA
  obtain ⟨v1, vs1, d1, ds1, p1, q1, _, rfl, _, _, r1⟩ := ChangeShapes.trodAll_cons r0
  obtain ⟨_, rfl, _⟩ := ChangeShapes.trodAll_nil r1
  rfl
theorem lifted (os : Os) (started : os.Started) (H : Type) (enc : TypeId × Value → H) :
    ReturnsInHanded {} Try.checked os 5 .any (Rows.sealEdgesSpec.pre6 enc Try.prog Try.f5 Rows.sealEdgesRow.domain false) (Rows.sealEdgesSpec.post enc Try.prog Try.f5 false true false false) := by
  refine returnsInHanded_of_change (C := Try.checked) own started (by kernel_rfl) Try.func5
    (ChangeSpec.witness6 (enc := enc) (C := Try.checked) false ⟨#[], #[.int .u8 0, .int .u8 0], []⟩ 8 (by kernel_rfl) (by kernel_rfl) (by kernel_rfl) (by kernel_rfl)) ?_
  intro W base args ds gs before hval hW _ _
  exact contract H enc W base args ds gs before hval hW
theorem proved : Rows.SealEdgesSaid :=
  OpenClaim.holds_of_wide 5 Try.f5 rfl rfl rfl rfl rfl rfl rfl ⟨rfl, rfl, rfl, rfl, rfl⟩ rfl rfl rfl rfl rfl (by kernel_rfl) Try.func5 (by kernel_rfl)
    (of_decide_eq_true (by kernel_rfl)) (by unfold Func.isWrapper; first | (rw [if_pos (by decide +kernel)]; kernel_rfl) | (rw [if_neg (by decide +kernel)]; exact ⟨rfl, rfl⟩))
    (fun os started H enc _ => lifted os started H enc)
end sealEdgesLaw
end Go.Proofs.Ytelkmimmmhkbhaa
