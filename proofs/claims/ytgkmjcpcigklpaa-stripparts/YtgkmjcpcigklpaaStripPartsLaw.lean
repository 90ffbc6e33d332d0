/- StripParts answers true whatever it is given; no conditions. -/
import Derived.Test.YtgkmjcpcigklpaaPartsLaw
import Derived.Test.YtgkmjcpcigklpaaPicRead
import Derived.Test.YtgkmjcpcigklpaaRows
import Derived.WalkKit
import Derived.ProofKit
import Derived.OpenShut
import Derived.JoinedCond
set_option linter.unusedSimpArgs false
set_option linter.unusedVariables false
set_option maxRecDepth 100000
namespace Go.Proofs.Ytgkmjcpcigklpaa
open Go Go.Eng

namespace stripPartsLaw
theorem law (B : Nat) (m : AMem) (avs : List AV) (h : All2 (fun t a => goodA Try.prog B m t a) Try.f4.params.toList avs) : Ctr Try.prog 4 avs m (.one (.bool true)) m := by
  rw [Try.params4] at h
  obtain ⟨a0, l0, rfl, g0, h⟩ := all2_cons h
  obtain ⟨a1, l1, rfl, g1, h⟩ := all2_cons h
  obtain ⟨a2, l2, rfl, g2, h⟩ := all2_cons h
  obtain ⟨a3, l3, rfl, g3, h⟩ := all2_cons h
  obtain ⟨a4, l4, rfl, g4, h⟩ := all2_cons h
  obtain ⟨a5, l5, rfl, g5, h⟩ := all2_cons h
  obtain rfl := all2_nil h
  obtain ⟨W, H, r1, n1, A, rfl, h1, _⟩ := pic_of g0
  obtain ⟨W2, H2, r2, n2, B', rfl, h2, _⟩ := pic_of g1
  obtain ⟨x, rfl, _⟩ := int_of g2
  obtain ⟨y, rfl, _⟩ := int_of g3
  obtain ⟨w, rfl, _⟩ := int_of g4
  obtain ⟨h', rfl, _⟩ := int_of g5
  exact parts_c W H W2 H2 x y w h' r1 n1 r2 n2 A B' m h1.p h2.p
theorem contract (H : Type) (enc : TypeId × Value → H) (W : World) (base : Nat) (args : Array Value) (ds gs : List (DataW H)) (before : List MemPlace)
    (hval : ∀ (j : Nat) t v, Try.f4.params[j]? = some t → args[j]? = some v → Value.okWide Try.prog W .any base t v)
    (hW : DataW.Whole enc Try.prog Try.f4.params.toList Rows.stripPartsSpec.vars false W args.toList ds gs before) :
    Calls Try.prog 4 args W fun e W' => ∃ v, e = .returned v ∧ Rows.stripPartsSpec.post enc Try.prog Try.f4 false true false false W args v W' := by
  refine law_true (B := Rows.uptoBulkAll ds) (bulk := Rows.uptoBulk) rfl ?_ laidOut laid (by kernel_rfl) (tb := 4) rfl Try.underlying4 isBulk (fun d hd => bulk_mem hd) hval hW fun m avs _ h => law _ m avs h
  obtain ⟨p, q, hA, _⟩ := hW
  rw [Try.params4] at hA
  rintro l rfl
  obtain ⟨v0, vs0, d0, ds0, p0, q0, _, rfl, _, _, r0⟩ := ChangeShapes.trodAll_cons hA
  obtain ⟨v1, vs1, d1, ds1, p1, q1, _, rfl, _, _, r1⟩ := ChangeShapes.trodAll_cons r0
  obtain ⟨v2, vs2, d2, ds2, p2, q2, _, rfl, _, _, r2⟩ := ChangeShapes.trodAll_cons r1
  obtain ⟨v3, vs3, d3, ds3, p3, q3, _, rfl, _, _, r3⟩ := ChangeShapes.trodAll_cons r2
  obtain ⟨v4, vs4, d4, ds4, p4, q4, _, rfl, _, _, r4⟩ := ChangeShapes.trodAll_cons r3
  obtain ⟨v5, vs5, d5, ds5, p5, q5, _, rfl, _, _, r5⟩ := ChangeShapes.trodAll_cons r4
  obtain ⟨_, rfl, _⟩ := ChangeShapes.trodAll_nil r5
  rfl
theorem lifted (os : Os) (started : os.Started) (H : Type) (enc : TypeId × Value → H) :
    ReturnsInHanded {} Try.checked os 4 .any (Rows.stripPartsSpec.pre6 enc Try.prog Try.f4 Rows.stripPartsRow.domain false) (Rows.stripPartsSpec.post enc Try.prog Try.f4 false true false false) := by
  refine returnsInHanded_of_change (C := Try.checked) own started (by kernel_rfl) Try.func4
    (ChangeSpec.witness6 (enc := enc) (C := Try.checked) false ⟨#[], #[.agg #[.int .i64 0, .int .i64 0, .slice none 0 0], .agg #[.int .i64 0, .int .i64 0, .slice none 0 0], .int .i64 0, .int .i64 0, .int .i64 0, .int .i64 0], []⟩ 8 (by kernel_rfl) (by kernel_rfl) (by kernel_rfl) (by kernel_rfl)) ?_
  intro W base args ds gs before hval hW _ _
  exact contract H enc W base args ds gs before hval hW
theorem proved : Rows.StripPartsSaid :=
  OpenClaim.holds_of_wide 4 Try.f4 rfl rfl rfl rfl rfl rfl rfl ⟨rfl, rfl, rfl, rfl, rfl⟩ rfl rfl rfl rfl rfl (by kernel_rfl) Try.func4 (by kernel_rfl)
    (of_decide_eq_true (by kernel_rfl)) (by unfold Func.isWrapper; first | (rw [if_pos (by decide +kernel)]; kernel_rfl) | (rw [if_neg (by decide +kernel)]; exact ⟨rfl, rfl⟩))
    (fun os started H enc _ => lifted os started H enc)
end stripPartsLaw
end Go.Proofs.Ytgkmjcpcigklpaa
