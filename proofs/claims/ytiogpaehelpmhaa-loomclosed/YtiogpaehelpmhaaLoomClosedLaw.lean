/- LoomClosed answers true at every size, place and byte of orders; no conditions. -/
import Derived.Test.YtiogpaehelpmhaaM6
import Derived.Test.YtiogpaehelpmhaaRows
import Derived.ProofKit
import Derived.OpenShut
set_option linter.unusedSimpArgs false
set_option linter.unusedVariables false
set_option maxRecDepth 100000
set_option maxHeartbeats 4000000
namespace Go.Proofs.Ytiogpaehelpmhaa
open Go Go.Eng

theorem bulk_one {H : Type} (d : DataW H) : 1 ≤ Rows.uptoBulk d := by
  cases d with
  | lit l => cases l <;> simp [Rows.uptoBulk]
  | nil => simp [Rows.uptoBulk]
  | ptr d => simp [Rows.uptoBulk]
  | slice elems spare => simp [Rows.uptoBulk]
  | agg parts => simp [Rows.uptoBulk]
  | iface t d => simp [Rows.uptoBulk]
  | map entries => simp [Rows.uptoBulk]
  | held h => simp [Rows.uptoBulk]
theorem bulk_mem {H : Type} {d : DataW H} : ∀ {l : List (DataW H)}, d ∈ l → Rows.uptoBulk d ≤ Rows.uptoBulkAll l
  | x :: r, h => by
    simp only [Rows.uptoBulkAll]
    rcases List.mem_cons.1 h with rfl | h
    · omega
    · have := bulk_mem h; omega
theorem bulk_len {H : Type} : ∀ (l : List (DataW H)), l.length ≤ Rows.uptoBulkAll l
  | [] => by simp
  | x :: r => by have := bulk_one x; have := bulk_len r; simp only [Rows.uptoBulkAll, List.length_cons]; omega
theorem isBulk {H : Type} : IsBulk (H := H) Rows.uptoBulk where
  str := fun l => by simp [Rows.uptoBulk]
  agg := fun l d h => by have := bulk_mem h; simp only [Rows.uptoBulk]; omega
  row := fun l s d h => by have := bulk_mem h; simp only [Rows.uptoBulk]; omega
  len := fun l s => by have := bulk_len l; simp only [Rows.uptoBulk]; omega
theorem small {H : Type} {l : List (DataW H)} (hk : Rows.uptoSmall H l = true) : ∀ d, d ∈ l → Rows.uptoBulk d ≤ 1048576 := fun d hd => by
  have h1 : Rows.uptoBulkAll l ≤ 1048576 := by simpa [Rows.uptoSmall] using hk
  have := bulk_mem hd; omega
theorem own : ownKnob Try.prog.godebug = none := by kernel_rfl
theorem laidOut : laidOutB Try.prog = true := by kernel_rfl
theorem laid : laidB Try.prog = true := by kernel_rfl

theorem n24 : Try.prog.cellsOf 24 = 3 := by kernel_rfl
theorem n25 : Try.prog.cellsOf 25 = 9 := by kernel_rfl
theorem n27 : Try.prog.cellsOf 27 = 12 := by kernel_rfl
theorem n2 : Try.prog.cellsOf 2 = 1 := by kernel_rfl
theorem n5 : Try.prog.cellsOf 5 = 1 := by kernel_rfl
theorem vec_in {B : Nat} {m : AMem} {cs : List CV} (hg : Eng.Good Try.prog B m 24 cs) : ∃ a b c, cs = [.int .i64 a, .int .i64 b, .int .i64 c] := by
  obtain ⟨h1, h2⟩ := hg.arr Try.underlying24
  rw [n24] at h1
  obtain ⟨J, hJ, _⟩ := ints_of (k := .i64) 3 cs h1 fun j hj => by
    obtain ⟨y, q3, q4⟩ := (h2 j hj).int Try.underlying2
    rw [n2, Nat.mul_one] at q3
    exact ⟨y, q3, q4⟩
  have hl : J.length = 3 := by rw [hJ, List.length_map] at h1; exact h1
  match J, hl with
  | [a, b, c], _ => exact ⟨a, b, c, hJ⟩
theorem mat_in {B : Nat} {m : AMem} {cs : List CV} (hg : Eng.Good Try.prog B m 27 cs) : ∃ a b c d e f g h i j k l, cs = [.int .i64 a, .int .i64 b, .int .i64 c, .int .i64 d, .int .i64 e, .int .i64 f, .int .i64 g, .int .i64 h, .int .i64 i, .int .i64 j, .int .i64 k, .int .i64 l] := by
  obtain ⟨h1, h2⟩ := hg.struct Try.underlying27
  rw [n27] at h1
  match cs, h1 with
  | [c0, c1, c2, c3, c4, c5, c6, c7, c8, c9, c10, c11], _ =>
    have f0 := h2 _ (.head _)
    have f1 := h2 _ (.tail _ (.head _))
    dsimp only at f0 f1
    rw [n25] at f0
    rw [n24] at f1
    obtain ⟨q1, q2⟩ := f0.arr Try.underlying25
    have e0 := q2 0 (by decide)
    have e1 := q2 1 (by decide)
    have e2 := q2 2 (by decide)
    rw [n24] at e0 e1 e2
    obtain ⟨a, b, c, p0⟩ := vec_in e0
    obtain ⟨d, e, f, p1⟩ := vec_in e1
    obtain ⟨g, h, i, p2⟩ := vec_in e2
    obtain ⟨j, k, l, p3⟩ := vec_in f1
    simp at p0 p1 p2 p3
    refine ⟨a, b, c, d, e, f, g, h, i, j, k, l, ?_⟩
    simp [p0, p1, p2, p3]
namespace loomClosedLaw
theorem law (B : Nat) (m : AMem) (avs : List AV) (h : All2 (fun t a => goodA Try.prog B m t a) Try.f4.params.toList avs) : Ctr Try.prog 4 avs m (.one (.bool true)) m := by
  rw [Try.params4] at h
  obtain ⟨a0, l0, rfl, g0, h⟩ := all2_cons h
  obtain ⟨a1, l1, rfl, g1, h⟩ := all2_cons h
  obtain ⟨a2, l2, rfl, g2, h⟩ := all2_cons h
  obtain rfl := all2_nil h
  obtain ⟨cs, rfl, hg⟩ := g0.agg (Or.inr ⟨_, _, Try.underlying24⟩)
  obtain ⟨a, b, c, rfl⟩ := vec_in hg
  obtain ⟨cs, rfl, hg⟩ := g1.agg (Or.inl ⟨_, Try.underlying27⟩)
  obtain ⟨x0, x1, x2, y0, y1, y2, z0, z1, z2, t0, t1, t2, rfl⟩ := mat_in hg
  obtain ⟨c2, rfl, hg⟩ := g2.one (fun fs h => by rw [Try.underlying5] at h; cases h) (fun k e h => by rw [Try.underlying5] at h; cases h)
  obtain ⟨z, e, hz1, hz2⟩ := hg.int Try.underlying5
  simp only [List.cons.injEq, and_true] at e
  subst e
  exact closedL_c a b c x0 x1 x2 y0 y1 y2 z0 z1 z2 t0 t1 t2 z (by simp [IntKind.min, IntKind.max, IntKind.signed, IntKind.bits] at hz1 hz2; omega) m
theorem contract (H : Type) (enc : TypeId × Value → H) (W : World) (base : Nat) (args : Array Value) (ds gs : List (DataW H)) (before : List MemPlace)
    (hval : ∀ (j : Nat) t v, Try.f4.params[j]? = some t → args[j]? = some v → Value.okWide Try.prog W .any base t v)
    (hW : DataW.Whole enc Try.prog Try.f4.params.toList Rows.loomClosedSpec.vars false W args.toList ds gs before) :
    Calls Try.prog 4 args W fun e W' => ∃ v, e = .returned v ∧ Rows.loomClosedSpec.post enc Try.prog Try.f4 false true false false W args v W' := by
  refine law_true (B := Rows.uptoBulkAll ds) (bulk := Rows.uptoBulk) rfl ?_ laidOut laid (by kernel_rfl) (tb := 4) rfl Try.underlying4 isBulk (fun d hd => bulk_mem hd) hval hW fun m avs _ h => law _ m avs h
  obtain ⟨p, q, hA, _⟩ := hW
  rw [Try.params4] at hA
  rintro l rfl
  obtain ⟨v0, vs0, d0, ds0, p0, q0, _, rfl, _, _, r0⟩ := ChangeShapes.trodAll_cons hA
  obtain ⟨v1, vs1, d1, ds1, p1, q1, _, rfl, _, _, r1⟩ := ChangeShapes.trodAll_cons r0
  obtain ⟨v2, vs2, d2, ds2, p2, q2, _, rfl, _, _, r2⟩ := ChangeShapes.trodAll_cons r1
  obtain ⟨_, rfl, _⟩ := ChangeShapes.trodAll_nil r2
  rfl
theorem lifted (os : Os) (started : os.Started) (H : Type) (enc : TypeId × Value → H) :
    ReturnsInHanded {} Try.checked os 4 .any (Rows.loomClosedSpec.pre6 enc Try.prog Try.f4 Rows.loomClosedRow.domain false) (Rows.loomClosedSpec.post enc Try.prog Try.f4 false true false false) := by
  refine returnsInHanded_of_change (C := Try.checked) own started (by kernel_rfl) Try.func4
    (ChangeSpec.witness6 (enc := enc) (C := Try.checked) false ⟨#[], #[.agg #[.int .i64 0, .int .i64 0, .int .i64 0], .agg #[.int .i64 0, .int .i64 0, .int .i64 0, .int .i64 0, .int .i64 0, .int .i64 0, .int .i64 0, .int .i64 0, .int .i64 0, .int .i64 0, .int .i64 0, .int .i64 0], .int .u8 0], []⟩ 8 (by kernel_rfl) (by kernel_rfl) (by kernel_rfl) (by kernel_rfl)) ?_
  intro W base args ds gs before hval hW _ _
  exact contract H enc W base args ds gs before hval hW
theorem proved : Rows.LoomClosedSaid :=
  OpenClaim.holds_of_wide 4 Try.f4 rfl rfl rfl rfl rfl rfl rfl ⟨rfl, rfl, rfl, rfl, rfl⟩ rfl rfl rfl rfl rfl (by kernel_rfl) Try.func4 (by kernel_rfl)
    (of_decide_eq_true (by kernel_rfl)) (by unfold Func.isWrapper; first | (rw [if_pos (by decide +kernel)]; kernel_rfl) | (rw [if_neg (by decide +kernel)]; exact ⟨rfl, rfl⟩))
    (fun os started H enc _ => lifted os started H enc)
end loomClosedLaw
end Go.Proofs.Ytiogpaehelpmhaa
