/- LoomTells answers true of every mesh, joint and paint; no conditions. -/
import Derived.Test.YtiogpaehelpmhaaM5
import Derived.Test.YtiogpaehelpmhaaRows
import Derived.ProofKit
import Derived.OpenShut
set_option linter.unusedSimpArgs false
set_option linter.unusedVariables false
set_option maxRecDepth 100000
set_option maxHeartbeats 4000000
namespace Go.Proofs.Ytiogpaehelpmhaa
open Go Go.Eng

theorem bulk_one {H : Type} (d : DataW H) : 1 ≤ Rows.uptoBulk d := by
  cases d with
  | lit l => cases l <;> simp [Rows.uptoBulk]
  | nil => simp [Rows.uptoBulk]
  | ptr d => simp [Rows.uptoBulk]
  | slice elems spare => simp [Rows.uptoBulk]
  | agg parts => simp [Rows.uptoBulk]
  | iface t d => simp [Rows.uptoBulk]
  | map entries => simp [Rows.uptoBulk]
  | held h => simp [Rows.uptoBulk]
theorem bulk_mem {H : Type} {d : DataW H} : ∀ {l : List (DataW H)}, d ∈ l → Rows.uptoBulk d ≤ Rows.uptoBulkAll l
  | x :: r, h => by
    simp only [Rows.uptoBulkAll]
    rcases List.mem_cons.1 h with rfl | h
    · omega
    · have := bulk_mem h; omega
theorem bulk_len {H : Type} : ∀ (l : List (DataW H)), l.length ≤ Rows.uptoBulkAll l
  | [] => by simp
  | x :: r => by have := bulk_one x; have := bulk_len r; simp only [Rows.uptoBulkAll, List.length_cons]; omega
theorem isBulk {H : Type} : IsBulk (H := H) Rows.uptoBulk where
  str := fun l => by simp [Rows.uptoBulk]
  agg := fun l d h => by have := bulk_mem h; simp only [Rows.uptoBulk]; omega
  row := fun l s d h => by have := bulk_mem h; simp only [Rows.uptoBulk]; omega
  len := fun l s => by have := bulk_len l; simp only [Rows.uptoBulk]; omega
theorem small {H : Type} {l : List (DataW H)} (hk : Rows.uptoSmall H l = true) : ∀ d, d ∈ l → Rows.uptoBulk d ≤ 1048576 := fun d hd => by
  have h1 : Rows.uptoBulkAll l ≤ 1048576 := by simpa [Rows.uptoSmall] using hk
  have := bulk_mem hd; omega
theorem own : ownKnob Try.prog.godebug = none := by kernel_rfl
theorem laidOut : laidOutB Try.prog = true := by kernel_rfl
theorem laid : laidB Try.prog = true := by kernel_rfl

theorem n3 : Try.prog.cellsOf 3 = 1 := by kernel_rfl
theorem n2 : Try.prog.cellsOf 2 = 1 := by kernel_rfl
theorem n24 : Try.prog.cellsOf 24 = 3 := by kernel_rfl
theorem n54 : Try.prog.cellsOf 54 = 3 := by kernel_rfl
theorem n34 : Try.prog.cellsOf 34 = 2 := by kernel_rfl
theorem n31 : Try.prog.cellsOf 31 = 1 := by kernel_rfl
theorem n32 : Try.prog.cellsOf 32 = 1 := by kernel_rfl
theorem prow {B : Nat} {m : AMem} {cs : List CV} (hg : Eng.Good Try.prog B m 31 cs) : ∃ r l, cs = [.sl r 0 0 l.length] ∧ TRow m 24 r 0 l := by
  obtain ⟨r, n, cells, h2, h3, h4, h5, h6⟩ := hg.row Try.underlying31
  rw [n24] at h3 h4
  simp only [n24] at h6
  obtain ⟨xs, hxs, hx⟩ := rows_of (k := .i64) (sz := 3) n cells h4 fun i hi => by
    obtain ⟨q1, q2⟩ := (h6 i hi).arr Try.underlying24
    refine ints_of 3 _ (by rw [q1, n24]) fun j hj => ?_
    obtain ⟨x, q3, q4⟩ := (q2 j hj).int Try.underlying2
    rw [n2, Nat.mul_one] at q3
    exact ⟨x, q3, q4⟩
  obtain ⟨l, hl, hn⟩ := tL_of h4 hxs
  subst hn
  exact ⟨r, l, h2, ⟨.ro, 3, by rw [← hl]; exact h3⟩⟩
theorem frow {B : Nat} {m : AMem} {cs : List CV} (hg : Eng.Good Try.prog B m 32 cs) : ∃ r l, cs = [.sl r 0 0 l.length] ∧ TRow m 54 r 0 l := by
  obtain ⟨r, n, cells, h2, h3, h4, h5, h6⟩ := hg.row Try.underlying32
  rw [n54] at h3 h4
  simp only [n54] at h6
  obtain ⟨xs, hxs, hx⟩ := rows_of (k := .i64) (sz := 3) n cells h4 fun i hi => by
    obtain ⟨q1, q2⟩ := (h6 i hi).arr Try.underlying54
    refine ints_of 3 _ (by rw [q1, n54]) fun j hj => ?_
    obtain ⟨x, q3, q4⟩ := (q2 j hj).int Try.underlying3
    rw [n3, Nat.mul_one] at q3
    exact ⟨x, q3, q4⟩
  obtain ⟨l, hl, hn⟩ := tL_of h4 hxs
  subst hn
  exact ⟨r, l, h2, ⟨.ro, 3, by rw [← hl]; exact h3⟩⟩
theorem mesh_in {B : Nat} {m : AMem} {cs : List CV} (hg : Eng.Good Try.prog B m 34 cs) : ∃ r P q Fs, cs = [.sl r 0 0 P.length, .sl q 0 0 Fs.length] ∧ TRow m 24 r 0 P ∧ TRow m 54 q 0 Fs := by
  obtain ⟨hl, hf⟩ := hg.struct Try.underlying34
  rw [n34] at hl
  match cs, hl with
  | [a, b], _ =>
    obtain ⟨r, P, h0, p0⟩ := prow (hf _ (.head _))
    obtain ⟨q, Fs, h1, p1⟩ := frow (hf _ (.tail _ (.head _)))
    simp only [n31, n32, List.drop_zero, List.drop_succ_cons, List.take_succ_cons, List.take_zero, List.cons.injEq, and_true] at h0 h1
    subst h0; subst h1
    exact ⟨r, P, q, Fs, rfl, p0, p1⟩
theorem int64_of {B : Nat} {m : AMem} {a : AV} (h : goodA Try.prog B m 2 a) : ∃ x, a = .one (.int .i64 x) ∧ -9223372036854775808 ≤ x ∧ x ≤ 9223372036854775807 := by
  obtain ⟨c, rfl, hg⟩ := h.one (fun fs h => by rw [Try.underlying2] at h; cases h) (fun k e h => by rw [Try.underlying2] at h; cases h)
  obtain ⟨x, hx, hr⟩ := hg.int Try.underlying2
  simp only [List.cons.injEq, and_true] at hx
  exact ⟨x, by rw [hx], by simpa [IntKind.min, IntKind.max, IntKind.signed, IntKind.bits] using hr⟩
theorem int_of {B : Nat} {m : AMem} {a : AV} (h : goodA Try.prog B m 3 a) : ∃ x, a = .one (.int .i64 x) ∧ -9223372036854775808 ≤ x ∧ x ≤ 9223372036854775807 := by
  obtain ⟨c, rfl, hg⟩ := h.one (fun fs h => by rw [Try.underlying3] at h; cases h) (fun k e h => by rw [Try.underlying3] at h; cases h)
  obtain ⟨x, hx, hr⟩ := hg.int Try.underlying3
  simp only [List.cons.injEq, and_true] at hx
  exact ⟨x, by rw [hx], by simpa [IntKind.min, IntKind.max, IntKind.signed, IntKind.bits] using hr⟩
namespace loomTellsLaw
theorem law (B : Nat) (m : AMem) (avs : List AV) (h : All2 (fun t a => goodA Try.prog B m t a) Try.f5.params.toList avs) : Ctr Try.prog 5 avs m (.one (.bool true)) m := by
  rw [Try.params5] at h
  obtain ⟨a0, l0, rfl, g0, h⟩ := all2_cons h
  obtain ⟨a1, l1, rfl, g1, h⟩ := all2_cons h
  obtain ⟨a2, l2, rfl, g2, h⟩ := all2_cons h
  obtain rfl := all2_nil h
  obtain ⟨cs, rfl, hg⟩ := g0.agg (Or.inl ⟨_, Try.underlying34⟩)
  obtain ⟨r, P, q, Fs, rfl, p0, p1⟩ := mesh_in hg
  obtain ⟨j, rfl, _⟩ := int_of g1
  obtain ⟨p, rfl, _⟩ := int_of g2
  exact tells_c r 0 q 0 P Fs j p m p0 p1
theorem contract (H : Type) (enc : TypeId × Value → H) (W : World) (base : Nat) (args : Array Value) (ds gs : List (DataW H)) (before : List MemPlace)
    (hval : ∀ (j : Nat) t v, Try.f5.params[j]? = some t → args[j]? = some v → Value.okWide Try.prog W .any base t v)
    (hW : DataW.Whole enc Try.prog Try.f5.params.toList Rows.loomTellsSpec.vars false W args.toList ds gs before) :
    Calls Try.prog 5 args W fun e W' => ∃ v, e = .returned v ∧ Rows.loomTellsSpec.post enc Try.prog Try.f5 false true false false W args v W' := by
  refine law_true (B := Rows.uptoBulkAll ds) (bulk := Rows.uptoBulk) rfl ?_ laidOut laid (by kernel_rfl) (tb := 4) rfl Try.underlying4 isBulk (fun d hd => bulk_mem hd) hval hW fun m avs _ h => law _ m avs h
  obtain ⟨p, q, hA, _⟩ := hW
  rw [Try.params5] at hA
  rintro l rfl
  obtain ⟨v0, vs0, d0, ds0, p0, q0, _, rfl, _, _, r0⟩ := ChangeShapes.trodAll_cons hA
  obtain ⟨v1, vs1, d1, ds1, p1, q1, _, rfl, _, _, r1⟩ := ChangeShapes.trodAll_cons r0
  obtain ⟨v2, vs2, d2, ds2, p2, q2, _, rfl, _, _, r2⟩ := ChangeShapes.trodAll_cons r1
  obtain ⟨_, rfl, _⟩ := ChangeShapes.trodAll_nil r2
  rfl
theorem lifted (os : Os) (started : os.Started) (H : Type) (enc : TypeId × Value → H) :
    ReturnsInHanded {} Try.checked os 5 .any (Rows.loomTellsSpec.pre6 enc Try.prog Try.f5 Rows.loomTellsRow.domain false) (Rows.loomTellsSpec.post enc Try.prog Try.f5 false true false false) := by
  refine returnsInHanded_of_change (C := Try.checked) own started (by kernel_rfl) Try.func5
    (ChangeSpec.witness6 (enc := enc) (C := Try.checked) false ⟨#[], #[.agg #[.slice none 0 0, .slice none 0 0], .int .i64 0, .int .i64 0], []⟩ 8 (by kernel_rfl) (by kernel_rfl) (by kernel_rfl) (by kernel_rfl)) ?_
  intro W base args ds gs before hval hW _ _
  exact contract H enc W base args ds gs before hval hW
theorem proved : Rows.LoomTellsSaid :=
  OpenClaim.holds_of_wide 5 Try.f5 rfl rfl rfl rfl rfl rfl rfl ⟨rfl, rfl, rfl, rfl, rfl⟩ rfl rfl rfl rfl rfl (by kernel_rfl) Try.func5 (by kernel_rfl)
    (of_decide_eq_true (by kernel_rfl)) (by unfold Func.isWrapper; first | (rw [if_pos (by decide +kernel)]; kernel_rfl) | (rw [if_neg (by decide +kernel)]; exact ⟨rfl, rfl⟩))
    (fun os started H enc _ => lifted os started H enc)
end loomTellsLaw
end Go.Proofs.Ytiogpaehelpmhaa
