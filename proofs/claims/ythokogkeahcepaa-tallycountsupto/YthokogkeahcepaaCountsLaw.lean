/- PROVED: any picture's count, two together, means and middles, are the document's (the law TallyCounts answers true, and leaves its arguments as they were), where what comes in is of bulk at most 1048576. -/
import Derived.Test.YthokogkeahcepaatalL2
import Derived.Test.YthokogkeahcepaaRows
import Derived.WalkKit
import Derived.ProofKit
import Derived.OpenShut
import Derived.JoinedCond
set_option linter.unusedSimpArgs false
set_option linter.unusedVariables false
set_option maxRecDepth 100000
namespace Go.Proofs.Ythokogkeahcepaa.countsLaw
open Go Go.Eng

theorem bulk_one {H : Type} (d : DataW H) : 1 ≤ Rows.uptoBulk d := by
  cases d with
  | lit l => cases l <;> simp [Rows.uptoBulk]
  | nil => simp [Rows.uptoBulk]
  | ptr d => simp [Rows.uptoBulk]
  | slice elems spare => simp [Rows.uptoBulk]
  | agg parts => simp [Rows.uptoBulk]
  | iface t d => simp [Rows.uptoBulk]
  | map entries => simp [Rows.uptoBulk]
  | held h => simp [Rows.uptoBulk]
theorem bulk_mem {H : Type} {d : DataW H} : ∀ {l : List (DataW H)}, d ∈ l → Rows.uptoBulk d ≤ Rows.uptoBulkAll l
  | x :: r, h => by
    simp only [Rows.uptoBulkAll]
    rcases List.mem_cons.1 h with rfl | h
    · omega
    · have := bulk_mem h; omega
theorem bulk_len {H : Type} : ∀ (l : List (DataW H)), l.length ≤ Rows.uptoBulkAll l
  | [] => by simp
  | x :: r => by have := bulk_one x; have := bulk_len r; simp only [Rows.uptoBulkAll, List.length_cons]; omega
theorem isBulk {H : Type} : IsBulk (H := H) Rows.uptoBulk where
  str := fun l => by simp [Rows.uptoBulk]
  agg := fun l d h => by have := bulk_mem h; simp only [Rows.uptoBulk]; omega
  row := fun l s d h => by have := bulk_mem h; simp only [Rows.uptoBulk]; omega
  len := fun l s => by have := bulk_len l; simp only [Rows.uptoBulk]; omega
theorem small {H : Type} {l : List (DataW H)} (hk : Rows.uptoSmall H l = true) : ∀ d, d ∈ l → Rows.uptoBulk d ≤ 1048576 := fun d hd => by
  have h1 : Rows.uptoBulkAll l ≤ 1048576 := by simpa [Rows.uptoSmall] using hk
  have := bulk_mem hd; omega

theorem own : ownKnob Try.prog.godebug = none := by kernel_rfl
theorem laidOut : laidOutB Try.prog = true := by kernel_rfl
theorem laid : laidB Try.prog = true := by kernel_rfl
theorem n24 : Try.prog.cellsOf 24 = 3 := by kernel_rfl
theorem n3 : Try.prog.cellsOf 3 = 1 := by kernel_rfl
theorem n22 : Try.prog.cellsOf 22 = 1 := by kernel_rfl
theorem n26 : Try.prog.cellsOf 26 = 3 := by kernel_rfl
theorem n5 : Try.prog.cellsOf 5 = 1 := by kernel_rfl

theorem pic_of {m : AMem} {a : AV} (h : goodA Try.prog 1048576 m 24 a) : ∃ W H r n xs, a = .agg [.int .i64 W, .int .i64 H, .sl r 0 0 n] ∧ Row m r n xs := by
  obtain ⟨cs, rfl, hg⟩ := h.agg (.inl ⟨_, Try.underlying24⟩)
  obtain ⟨hl, hf⟩ := hg.struct Try.underlying24
  rw [n24] at hl
  match cs, hl with
  | [a, b, c], _ =>
    obtain ⟨W, h0, _⟩ := (hf _ (.head _)).int Try.underlying3
    obtain ⟨H, h1, _⟩ := (hf _ (.tail _ (.head _))).int Try.underlying3
    obtain ⟨r, n, cells, h2, h3, h4, h5, h6⟩ := (hf _ (.tail _ (.tail _ (.head _)))).row Try.underlying22
    simp only [n3, n22, n26, List.drop_zero, List.drop_succ_cons, List.take_succ_cons, List.take_zero, List.cons.injEq, and_true] at h0 h1 h2 h3 h4 h6
    subst h0; subst h1; subst h2
    obtain ⟨xs, rfl, hx⟩ := rows_of (k := .u8) (sz := 3) n cells h4 fun i hi => by
      obtain ⟨q1, q2⟩ := (h6 i hi).arr Try.underlying26
      refine ints_of 3 _ (by rw [q1, n26]) fun j hj => ?_
      obtain ⟨x, q3, q4⟩ := (q2 j hj).int Try.underlying5
      rw [n5, Nat.mul_one] at q3
      exact ⟨x, q3, q4⟩
    refine ⟨W, H, r, n, xs, rfl, h3, by simpa using h4, fun x hxx => ?_, h5⟩
    have := hx x hxx
    simpa [IntKind.min, IntKind.max, IntKind.signed, IntKind.bits] using this

theorem law (m : AMem) (avs : List AV) (h : All2 (fun t a => goodA Try.prog 1048576 m t a) Try.f3.params.toList avs) : Ctr Try.prog 3 avs m (.one (.bool true)) m := by
  rw [Try.params3] at h
  match avs, h with
  | [a, b], h =>
    obtain ⟨W, H, r1, n1, xs, rfl, h1⟩ := pic_of h.1
    obtain ⟨W2, H2, r2, n2, ys, rfl, h2⟩ := pic_of h.2.1
    exact counts_c W H W2 H2 r1 n1 r2 n2 m xs ys h1 h2

theorem contract (H : Type) (enc : TypeId × Value → H) (W : World) (base : Nat) (args : Array Value) (ds gs : List (DataW H)) (before : List MemPlace)
    (hval : ∀ (j : Nat) t v, Try.f3.params[j]? = some t → args[j]? = some v → Value.okWide Try.prog W .any base t v)
    (hW : DataW.Whole enc Try.prog Try.f3.params.toList Rows.tallyCountsSpec.vars false W args.toList ds gs before) (hk : Rows.uptoSmall H (ds ++ gs) = true) :
    Calls Try.prog 3 args W fun e W' => ∃ v, e = .returned v ∧ Rows.tallyCountsSpec.post enc Try.prog Try.f3 false true false false W args v W' := by
  refine law_true (B := 1048576) (bulk := Rows.uptoBulk) rfl ?_ laidOut laid (by kernel_rfl) (tb := 4) rfl Try.underlying4 isBulk (fun d hd => small hk d (List.mem_append_left _ hd)) hval hW fun m avs _ h => law m avs h
  obtain ⟨p, q, hA, _⟩ := hW
  rw [Try.params3] at hA
  rintro l rfl
  obtain ⟨v0, vs0, d0, ds0, p0, q0, _, rfl, _, _, r0⟩ := ChangeShapes.trodAll_cons hA
  obtain ⟨v1, vs1, d1, ds1, p1, q1, _, rfl, _, _, r1⟩ := ChangeShapes.trodAll_cons r0
  obtain ⟨_, rfl, _⟩ := ChangeShapes.trodAll_nil r1
  rfl

theorem lifted (os : Os) (started : os.Started) (H : Type) (enc : TypeId × Value → H) (F : Stop.Interp) :
    ReturnsInHanded {} Try.checked os 3 .any ((Rows.OpenSpec.upto Rows.tallyCountsSpec).pre6 enc Try.prog Try.f3 Rows.tallyCountsUptoRow.domain false) (((Rows.OpenSpec.upto Rows.tallyCountsSpec).at F).post enc Try.prog Try.f3 false true false false) := by
  refine returnsInHanded_of_cond (C := Try.checked) (s := Rows.OpenSpec.upto Rows.tallyCountsSpec) (k := Rows.uptoSmall) rfl own started (by kernel_rfl) Try.func3
    (OpenSpec.witness (enc := enc) (C := Try.checked) (s := Rows.OpenSpec.upto Rows.tallyCountsSpec) (k := Rows.uptoSmall) rfl false ⟨#[], #[.agg #[.int .i64 0, .int .i64 0, .slice none 0 0], .agg #[.int .i64 0, .int .i64 0, .slice none 0 0]], []⟩ 8 (by kernel_rfl) (by kernel_rfl) (by kernel_rfl)
      (x := ([.agg [.lit (.int .i64 0), .lit (.int .i64 0), .nil], .agg [.lit (.int .i64 0), .lit (.int .i64 0), .nil]], [], [])) (by kernel_rfl) rfl (by kernel_rfl)) ?_
  intro W base args ds gs before hval hW _ hk _
  exact contract H enc W base args ds gs before hval hW hk

theorem proved : Rows.TallyCountsUptoSaid :=
  OpenClaim.holds_of_cond 3 Try.f3 rfl rfl rfl rfl rfl rfl rfl ⟨rfl, rfl, rfl, rfl, rfl⟩ rfl rfl rfl rfl rfl (by kernel_rfl) Try.func3 (by kernel_rfl)
    (of_decide_eq_true (by kernel_rfl)) (by unfold Func.isWrapper; first | (rw [if_pos (by decide +kernel)]; kernel_rfl) | (rw [if_neg (by decide +kernel)]; exact ⟨rfl, rfl⟩))
    (fun os started H enc _ F => lifted os started H enc F)
end Go.Proofs.Ythokogkeahcepaa.countsLaw
