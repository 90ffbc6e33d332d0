/- LoomMakes answers true at all sizes; no conditions. -/
import Derived.Test.YtiogpaehelpmhaaM5
import Derived.Test.YtiogpaehelpmhaaRows
import Derived.ProofKit
import Derived.OpenShut
set_option linter.unusedSimpArgs false
set_option linter.unusedVariables false
set_option maxRecDepth 100000
set_option maxHeartbeats 4000000
namespace Go.Proofs.Ytiogpaehelpmhaa
open Go Go.Eng

theorem bulk_one {H : Type} (d : DataW H) : 1 ≤ Rows.uptoBulk d := by
  cases d with
  | lit l => cases l <;> simp [Rows.uptoBulk]
  | nil => simp [Rows.uptoBulk]
  | ptr d => simp [Rows.uptoBulk]
  | slice elems spare => simp [Rows.uptoBulk]
  | agg parts => simp [Rows.uptoBulk]
  | iface t d => simp [Rows.uptoBulk]
  | map entries => simp [Rows.uptoBulk]
  | held h => simp [Rows.uptoBulk]
theorem bulk_mem {H : Type} {d : DataW H} : ∀ {l : List (DataW H)}, d ∈ l → Rows.uptoBulk d ≤ Rows.uptoBulkAll l
  | x :: r, h => by
    simp only [Rows.uptoBulkAll]
    rcases List.mem_cons.1 h with rfl | h
    · omega
    · have := bulk_mem h; omega
theorem bulk_len {H : Type} : ∀ (l : List (DataW H)), l.length ≤ Rows.uptoBulkAll l
  | [] => by simp
  | x :: r => by have := bulk_one x; have := bulk_len r; simp only [Rows.uptoBulkAll, List.length_cons]; omega
theorem isBulk {H : Type} : IsBulk (H := H) Rows.uptoBulk where
  str := fun l => by simp [Rows.uptoBulk]
  agg := fun l d h => by have := bulk_mem h; simp only [Rows.uptoBulk]; omega
  row := fun l s d h => by have := bulk_mem h; simp only [Rows.uptoBulk]; omega
  len := fun l s => by have := bulk_len l; simp only [Rows.uptoBulk]; omega
theorem small {H : Type} {l : List (DataW H)} (hk : Rows.uptoSmall H l = true) : ∀ d, d ∈ l → Rows.uptoBulk d ≤ 1048576 := fun d hd => by
  have h1 : Rows.uptoBulkAll l ≤ 1048576 := by simpa [Rows.uptoSmall] using hk
  have := bulk_mem hd; omega
theorem own : ownKnob Try.prog.godebug = none := by kernel_rfl
theorem laidOut : laidOutB Try.prog = true := by kernel_rfl
theorem laid : laidB Try.prog = true := by kernel_rfl

theorem n3 : Try.prog.cellsOf 3 = 1 := by kernel_rfl
theorem n2 : Try.prog.cellsOf 2 = 1 := by kernel_rfl
theorem n24 : Try.prog.cellsOf 24 = 3 := by kernel_rfl
theorem int64_of {B : Nat} {m : AMem} {a : AV} (h : goodA Try.prog B m 2 a) : ∃ x, a = .one (.int .i64 x) ∧ -9223372036854775808 ≤ x ∧ x ≤ 9223372036854775807 := by
  obtain ⟨c, rfl, hg⟩ := h.one (fun fs h => by rw [Try.underlying2] at h; cases h) (fun k e h => by rw [Try.underlying2] at h; cases h)
  obtain ⟨x, hx, hr⟩ := hg.int Try.underlying2
  simp only [List.cons.injEq, and_true] at hx
  exact ⟨x, by rw [hx], by simpa [IntKind.min, IntKind.max, IntKind.signed, IntKind.bits] using hr⟩
theorem int_of {B : Nat} {m : AMem} {a : AV} (h : goodA Try.prog B m 3 a) : ∃ x, a = .one (.int .i64 x) ∧ -9223372036854775808 ≤ x ∧ x ≤ 9223372036854775807 := by
  obtain ⟨c, rfl, hg⟩ := h.one (fun fs h => by rw [Try.underlying3] at h; cases h) (fun k e h => by rw [Try.underlying3] at h; cases h)
  obtain ⟨x, hx, hr⟩ := hg.int Try.underlying3
  simp only [List.cons.injEq, and_true] at hx
  exact ⟨x, by rw [hx], by simpa [IntKind.min, IntKind.max, IntKind.signed, IntKind.bits] using hr⟩
theorem vec_in {B : Nat} {m : AMem} {cs : List CV} (hg : Eng.Good Try.prog B m 24 cs) : ∃ a b c, cs = [.int .i64 a, .int .i64 b, .int .i64 c] := by
  obtain ⟨h1, h2⟩ := hg.arr Try.underlying24
  rw [n24] at h1
  obtain ⟨J, hJ, _⟩ := ints_of (k := .i64) 3 cs h1 fun j hj => by
    obtain ⟨y, q3, q4⟩ := (h2 j hj).int Try.underlying2
    rw [n2, Nat.mul_one] at q3
    exact ⟨y, q3, q4⟩
  have hl : J.length = 3 := by rw [hJ, List.length_map] at h1; exact h1
  match J, hl with
  | [a, b, c], _ => exact ⟨a, b, c, hJ⟩
namespace loomMakesLaw
theorem law (B : Nat) (m : AMem) (avs : List AV) (h : All2 (fun t a => goodA Try.prog B m t a) Try.f6.params.toList avs) : Ctr Try.prog 6 avs m (.one (.bool true)) m := by
  rw [Try.params6] at h
  obtain ⟨a0, l0, rfl, g0, h⟩ := all2_cons h
  obtain ⟨a1, l1, rfl, g1, h⟩ := all2_cons h
  obtain ⟨a2, l2, rfl, g2, h⟩ := all2_cons h
  obtain ⟨a3, l3, rfl, g3, h⟩ := all2_cons h
  obtain ⟨a4, l4, rfl, g4, h⟩ := all2_cons h
  obtain ⟨a5, l5, rfl, g5, h⟩ := all2_cons h
  obtain rfl := all2_nil h
  obtain ⟨w, rfl, _⟩ := int_of g0
  obtain ⟨hh, rfl, _⟩ := int_of g1
  obtain ⟨n, rfl, _⟩ := int_of g2
  obtain ⟨s, rfl, _⟩ := int64_of g3
  obtain ⟨hi, rfl, _⟩ := int64_of g4
  obtain ⟨cs, rfl, hg⟩ := g5.agg (Or.inr ⟨_, _, Try.underlying24⟩)
  obtain ⟨a, b, c, rfl⟩ := vec_in hg
  exact makesL_c w hh n s hi a b c m
theorem contract (H : Type) (enc : TypeId × Value → H) (W : World) (base : Nat) (args : Array Value) (ds gs : List (DataW H)) (before : List MemPlace)
    (hval : ∀ (j : Nat) t v, Try.f6.params[j]? = some t → args[j]? = some v → Value.okWide Try.prog W .any base t v)
    (hW : DataW.Whole enc Try.prog Try.f6.params.toList Rows.loomMakesSpec.vars false W args.toList ds gs before) :
    Calls Try.prog 6 args W fun e W' => ∃ v, e = .returned v ∧ Rows.loomMakesSpec.post enc Try.prog Try.f6 false true false false W args v W' := by
  refine law_true (B := Rows.uptoBulkAll ds) (bulk := Rows.uptoBulk) rfl ?_ laidOut laid (by kernel_rfl) (tb := 4) rfl Try.underlying4 isBulk (fun d hd => bulk_mem hd) hval hW fun m avs _ h => law _ m avs h
  obtain ⟨p, q, hA, _⟩ := hW
  rw [Try.params6] at hA
  rintro l rfl
  obtain ⟨v0, vs0, d0, ds0, p0, q0, _, rfl, _, _, r0⟩ := ChangeShapes.trodAll_cons hA
  obtain ⟨v1, vs1, d1, ds1, p1, q1, _, rfl, _, _, r1⟩ := ChangeShapes.trodAll_cons r0
  obtain ⟨v2, vs2, d2, ds2, p2, q2, _, rfl, _, _, r2⟩ := ChangeShapes.trodAll_cons r1
  obtain ⟨v3, vs3, d3, ds3, p3, q3, _, rfl, _, _, r3⟩ := ChangeShapes.trodAll_cons r2
  obtain ⟨v4, vs4, d4, ds4, p4, q4, _, rfl, _, _, r4⟩ := ChangeShapes.trodAll_cons r3
  obtain ⟨v5, vs5, d5, ds5, p5, q5, _, rfl, _, _, r5⟩ := ChangeShapes.trodAll_cons r4
  obtain ⟨_, rfl, _⟩ := ChangeShapes.trodAll_nil r5
  rfl
theorem lifted (os : Os) (started : os.Started) (H : Type) (enc : TypeId × Value → H) :
    ReturnsInHanded {} Try.checked os 6 .any (Rows.loomMakesSpec.pre6 enc Try.prog Try.f6 Rows.loomMakesRow.domain false) (Rows.loomMakesSpec.post enc Try.prog Try.f6 false true false false) := by
  refine returnsInHanded_of_change (C := Try.checked) own started (by kernel_rfl) Try.func6
    (ChangeSpec.witness6 (enc := enc) (C := Try.checked) false ⟨#[], #[.int .i64 0, .int .i64 0, .int .i64 0, .int .i64 0, .int .i64 0, .agg #[.int .i64 0, .int .i64 0, .int .i64 0]], []⟩ 8 (by kernel_rfl) (by kernel_rfl) (by kernel_rfl) (by kernel_rfl)) ?_
  intro W base args ds gs before hval hW _ _
  exact contract H enc W base args ds gs before hval hW
theorem proved : Rows.LoomMakesSaid :=
  OpenClaim.holds_of_wide 6 Try.f6 rfl rfl rfl rfl rfl rfl rfl ⟨rfl, rfl, rfl, rfl, rfl⟩ rfl rfl rfl rfl rfl (by kernel_rfl) Try.func6 (by kernel_rfl)
    (of_decide_eq_true (by kernel_rfl)) (by unfold Func.isWrapper; first | (rw [if_pos (by decide +kernel)]; kernel_rfl) | (rw [if_neg (by decide +kernel)]; exact ⟨rfl, rfl⟩))
    (fun os started H enc _ => lifted os started H enc)
end loomMakesLaw
end Go.Proofs.Ytiogpaehelpmhaa
