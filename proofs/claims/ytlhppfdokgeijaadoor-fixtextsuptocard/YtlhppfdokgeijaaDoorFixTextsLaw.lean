/- FixTexts answers true whatever number and text it is given, of up to 1048576 values; the package-level variables that its row lists are tied to the program's text; no other conditions. -/
import Derived.Test.YtlhppfdokgeijaaDoorM7
import Derived.Test.YtlhppfdokgeijaaDoorRows
import Derived.Test.YtlhppfdokgeijaaDoorCards
import Derived.Test.YtlhppfdokgeijaaDoorTie
import Derived.ProofKit
import Derived.OpenShut
import Derived.SevenTiedAt
set_option linter.unusedSimpArgs false
set_option linter.unusedVariables false
set_option maxRecDepth 100000
set_option maxHeartbeats 4000000
namespace Go.Proofs.YtlhppfdokgeijaaDoor
open Go Go.Eng

theorem bulk_one {H : Type} (d : DataW H) : 1 ≤ Rows.uptoBulk d := by
  cases d with
  | lit l => cases l <;> simp [Rows.uptoBulk]
  | nil => simp [Rows.uptoBulk]
  | ptr d => simp [Rows.uptoBulk]
  | slice elems spare => simp [Rows.uptoBulk]
  | agg parts => simp [Rows.uptoBulk]
  | iface t d => simp [Rows.uptoBulk]
  | map entries => simp [Rows.uptoBulk]
  | held h => simp [Rows.uptoBulk]
theorem bulk_mem {H : Type} {d : DataW H} : ∀ {l : List (DataW H)}, d ∈ l → Rows.uptoBulk d ≤ Rows.uptoBulkAll l
  | x :: r, h => by
    simp only [Rows.uptoBulkAll]
    rcases List.mem_cons.1 h with rfl | h
    · omega
    · have := bulk_mem h; omega
theorem bulk_len {H : Type} : ∀ (l : List (DataW H)), l.length ≤ Rows.uptoBulkAll l
  | [] => by simp
  | x :: r => by have := bulk_one x; have := bulk_len r; simp only [Rows.uptoBulkAll, List.length_cons]; omega
theorem isBulk {H : Type} : IsBulk (H := H) Rows.uptoBulk where
  str := fun l => by simp [Rows.uptoBulk]
  agg := fun l d h => by have := bulk_mem h; simp only [Rows.uptoBulk]; omega
  row := fun l s d h => by have := bulk_mem h; simp only [Rows.uptoBulk]; omega
  len := fun l s => by have := bulk_len l; simp only [Rows.uptoBulk]; omega
theorem small {H : Type} {l : List (DataW H)} (hk : Rows.uptoSmall H l = true) : ∀ d, d ∈ l → Rows.uptoBulk d ≤ 1048576 := fun d hd => by
  have h1 : Rows.uptoBulkAll l ≤ 1048576 := by simpa [Rows.uptoSmall] using hk
  have := bulk_mem hd; omega
theorem own : ownKnob Tryd.prog.godebug = none := by kernel_rfl
theorem laidOut : laidOutB Tryd.prog = true := by kernel_rfl
theorem laid : laidB Tryd.prog = true := by kernel_rfl

theorem int64_of {B : Nat} {m : AMem} {a : AV} (h : goodA Tryd.prog B m 2 a) : ∃ x, a = .one (.int .i64 x) ∧ -9223372036854775808 ≤ x ∧ x ≤ 9223372036854775807 := by
  obtain ⟨c, rfl, hg⟩ := h.one (fun fs h => by rw [Tryd.underlying2] at h; cases h) (fun k e h => by rw [Tryd.underlying2] at h; cases h)
  obtain ⟨x, hx, hr⟩ := hg.int Tryd.underlying2
  simp only [List.cons.injEq, and_true] at hx
  exact ⟨x, by rw [hx], by simpa [IntKind.min, IntKind.max, IntKind.signed, IntKind.bits] using hr⟩
theorem int_of {B : Nat} {m : AMem} {a : AV} (h : goodA Tryd.prog B m 3 a) : ∃ x, a = .one (.int .i64 x) ∧ -9223372036854775808 ≤ x ∧ x ≤ 9223372036854775807 := by
  obtain ⟨c, rfl, hg⟩ := h.one (fun fs h => by rw [Tryd.underlying3] at h; cases h) (fun k e h => by rw [Tryd.underlying3] at h; cases h)
  obtain ⟨x, hx, hr⟩ := hg.int Tryd.underlying3
  simp only [List.cons.injEq, and_true] at hx
  exact ⟨x, by rw [hx], by simpa [IntKind.min, IntKind.max, IntKind.signed, IntKind.bits] using hr⟩
theorem star94 : "*" ++ "errors.errorString" = "*errors.errorString" := by decide
theorem row94 (u : TypeId) (h : Tryd.prog.typeName? 3 u = some "*errors.errorString") : u = 94 :=
  Go.typeName_ptr_named (nm := "errors.errorString") (by rw [star94]; kernel_rfl) (by kernel_rfl) (by decide) u (by rw [star94]; exact h)
theorem str_of {B : Nat} {m : AMem} {a : AV} (h : goodA Tryd.prog B m 9 a) : ∃ s, a = .one (.str s) := by
  obtain ⟨c, rfl, hg⟩ := h.one (fun fs h => by rw [Tryd.underlying9] at h; cases h) (fun k e h => by rw [Tryd.underlying9] at h; cases h)
  obtain ⟨s, h1, _⟩ := hg.str Tryd.underlying9
  exact ⟨s, by simpa using h1⟩
namespace fixTextsLaw
theorem law (m : AMem) (avs : List AV) (hg1 : gB m 1 = some [.ifj 94]) (hg2 : gB m 2 = some [.ifj 94]) (hg3 : gB m 3 = some (Lib.pow10Tab.map (CV.int .u64))) (h : All2 (fun t a => goodA Tryd.prog 1048576 m t a) Tryd.f9.params.toList avs) : Ctr Tryd.prog 9 avs m (.one (.bool true)) m := by
  rw [Tryd.params9] at h
  obtain ⟨a0, l0, rfl, g0, h⟩ := all2_cons h
  obtain ⟨a1, l1, rfl, g1, h⟩ := all2_cons h
  obtain rfl := all2_nil h
  obtain ⟨a, rfl, _⟩ := int64_of g0
  obtain ⟨s, rfl⟩ := str_of g1
  by_cases h : 200 < s.size
  · exact ft_big a s m hg1 hg2 hg3 h
  · obtain ⟨x, e, hp⟩ := pv_ex s
    exact ft_small a s m hg1 hg2 hg3 (by omega) x e hp
theorem contract (H : Type) (enc : TypeId × Value → H) (W : World) (base : Nat) (args : Array Value) (ds gs : List (DataW H)) (before : List MemPlace)
    (hval : ∀ (j : Nat) t v, Tryd.f9.params[j]? = some t → args[j]? = some v → Value.okWide Tryd.prog W .any base t v)
    (hW : DataW.Whole enc Tryd.prog Tryd.f9.params.toList Rows.fixTextsSpec.vars false W args.toList ds gs before) (hk : Rows.uptoSmall H (ds ++ gs) = true) (hlm : laidMetH Tryd.prog Rows.fixTextsUptoRow.laid W) :
    Calls Tryd.prog 9 args W fun e W' => ∃ v, e = .returned v ∧ Rows.fixTextsSpec.post enc Tryd.prog Tryd.f9 false true false false W args v W' := by
  rw [MakeChecks.laidMetH_plain _ _ _ (by kernel_rfl)] at hlm
  have hro1 : RoFact W 1 [.ifj 94] := by
    obtain ⟨a0, s0, hv0, _, _, _⟩ := Go.laid_sentinel hlm.tail.tail.tail.tail (g := 1) (by kernel_rfl) (by kernel_rfl) Tryd.underlying58 row94 Tryd.underlying94 Tryd.underlying96 rfl rfl Tryd.underlying9 (by kernel_rfl) (by kernel_rfl)
    exact ro_of_sentinel hv0 (by kernel_rfl)
  have hro2 : RoFact W 2 [.ifj 94] := by
    obtain ⟨a0, s0, hv0, _, _, _⟩ := Go.laid_sentinel hlm.tail.tail.tail (g := 2) (by kernel_rfl) (by kernel_rfl) Tryd.underlying58 row94 Tryd.underlying94 Tryd.underlying96 rfl rfl Tryd.underlying9 (by kernel_rfl) (by kernel_rfl)
    exact ro_of_sentinel hv0 (by kernel_rfl)
  have hro3 : RoFact W 3 (Lib.pow10Tab.map (CV.int .u64)) := ro_of_laid (tv := 86) (fuelv := 8) laid hlm.tail.tail (by kernel_rfl) (by kernel_rfl) (by kernel_rfl) rfl (of_decide_eq_true (by kernel_rfl))
  refine law_true_ro3 (B := 1048576) (bulk := Rows.uptoBulk) rfl (g1 := 1) (g2 := 2) (g3 := 3) (t1 := 58) (t2 := 58) (t3 := 86) (c1 := [.ifj 94]) (c2 := [.ifj 94]) (c3 := Lib.pow10Tab.map (CV.int .u64)) hro1 hro2 hro3 (by decide) (by decide) (by decide) ?_ laidOut laid (by kernel_rfl) (tb := 4) rfl Tryd.underlying4 isBulk (fun d hd => small hk d (List.mem_append_left _ hd)) hval hW fun m avs _ a b c h => law m avs a b c h
  obtain ⟨p, q, hA, _⟩ := hW
  rw [Tryd.params9] at hA
  rintro l rfl
  obtain ⟨v0, vs0, d0, ds0, p0, q0, _, rfl, _, _, r0⟩ := ChangeShapes.trodAll_cons hA
  obtain ⟨v1, vs1, d1, ds1, p1, q1, _, rfl, _, _, r1⟩ := ChangeShapes.trodAll_cons r0
  obtain ⟨_, rfl, _⟩ := ChangeShapes.trodAll_nil r1
  rfl
theorem door_met (os : Os) (args : Array Value) : laidMetH Tryd.prog Rows.fixTextsUptoRow.laid ((World.doorLaid Tryd.prog 400 os).forCall (fun _ _ => 0) ⟨#[], args, []⟩).memory :=
  laidMetH_of_parts3 (fuel := 8) (laidMet_of_run' 8 (by kernel_rfl) (by kernel_rfl)) (by kernel_rfl) (by kernel_rfl)
theorem lifted (os : Os) (started : os.Started) (H : Type) (enc : TypeId × Value → H) (X : Stop.Interp) :
    ReturnsInHanded {} Tryd.checked os 9 .any ((Rows.OpenSpec.upto Rows.fixTextsSpec).preRow enc Tryd.prog Tryd.f9 Rows.fixTextsUptoRow.domain false Rows.fixTextsUptoRow.laid) (((Rows.OpenSpec.upto Rows.fixTextsSpec).at X).post enc Tryd.prog Tryd.f9 false true false false) := by
  refine returns_row_laid (C := Tryd.checked) (s := Rows.OpenSpec.upto Rows.fixTextsSpec) (k := Rows.uptoSmall) rfl own started (by kernel_rfl) Tryd.func9
    (witness_row (enc := enc) (C := Tryd.checked) (s := Rows.OpenSpec.upto Rows.fixTextsSpec) (k := Rows.uptoSmall) rfl false (World.doorLaid Tryd.prog 400 os) #[.int .i64 0, .string ByteArray.empty] 8 rfl (World.shaped_of_RefB (by kernel_rfl) (by kernel_rfl)) (by kernel_rfl)
      (x := ([.lit (.int .i64 0), .lit (.string [])], [], [])) (by kernel_rfl) rfl (by kernel_rfl) (door_met os _)) ?_
  intro W base args ds gs before hval hW hk hlm
  exact contract H enc W base args ds gs before hval hW hk hlm
theorem row_proved : Rows.FixTextsUptoSaid :=
  OpenClaim.holds_of_cond 9 Tryd.f9 rfl rfl rfl rfl rfl rfl rfl ⟨rfl, rfl, rfl, rfl, rfl⟩ rfl rfl rfl rfl rfl (by kernel_rfl) Tryd.func9 (by kernel_rfl)
    (of_decide_eq_true (by kernel_rfl)) (by unfold Func.isWrapper; first | (rw [if_pos (by decide +kernel)]; kernel_rfl) | (rw [if_neg (by decide +kernel)]; exact ⟨rfl, rfl⟩))
    (fun os started H enc _ X => by rw [OpenClaim.pre_eq_preRow]; exact lifted os started H enc X)
theorem proved : Rows.FixTextsUptoCardSaid :=
  Claim7.holds_tied_plain_at .later [] [.data, .data, .data, .sentinel, .sentinel] true (true, "9fa49c4403147bc7638b76889cfb04ada94221e23ef18de425e945857b1cd4bc") true
    row_proved (fun _ h => by cases h) (by kernel_rfl) (fun _ h => by cases h) fixTextsUpto_row_tie rfl ⟨rfl, rfl⟩ (by kernel_rfl) rfl
    (fun f fn hf hfn => by
      obtain rfl : f = 9 := Option.some.inj ((show Tryd.prog.funcNamed "zoetrope/zoetropelaw01.FixTexts" = some 9 by kernel_rfl).symm.trans hf) |>.symm
      obtain rfl : fn = Tryd.f9 := (Option.some.inj (Tryd.func9.symm.trans hfn)).symm
      exact ⟨by kernel_rfl, fun j t ht => by
        rw [Tryd.params9] at ht
        have h3 : t ∈ [2, 9] := by
          have := List.mem_of_getElem? (by simpa using ht)
          simpa using this
        simp only [List.mem_cons, List.not_mem_nil, or_false] at h3
        rcases h3 with rfl | rfl
        · exact (show Tryd.prog.wantsStandIn 2 = false by kernel_rfl)
        · exact (show Tryd.prog.wantsStandIn 9 = false by kernel_rfl)⟩)
    (by kernel_rfl)
end fixTextsLaw
end Go.Proofs.YtlhppfdokgeijaaDoor
