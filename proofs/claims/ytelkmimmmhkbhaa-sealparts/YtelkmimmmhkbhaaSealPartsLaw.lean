/- SealParts answers true whatever parts it is given; no conditions. -/
import Derived.Test.YtelkmimmmhkbhaaSealQ
import Derived.Test.YtelkmimmmhkbhaaRows
import Derived.WalkKit
import Derived.ProofKit
import Derived.OpenShut
import Derived.JoinedCond
set_option linter.unusedSimpArgs false
set_option linter.unusedVariables false
set_option maxRecDepth 100000
set_option maxHeartbeats 4000000
namespace Go.Proofs.Ytelkmimmmhkbhaa
open Go Go.Eng

theorem bulk_one {H : Type} (d : DataW H) : 1 ≤ Rows.uptoBulk d := by
  cases d with
  | lit l => cases l <;> simp [Rows.uptoBulk]
  | nil => simp [Rows.uptoBulk]
  | ptr d => simp [Rows.uptoBulk]
  | slice elems spare => simp [Rows.uptoBulk]
  | agg parts => simp [Rows.uptoBulk]
  | iface t d => simp [Rows.uptoBulk]
  | map entries => simp [Rows.uptoBulk]
  | held h => simp [Rows.uptoBulk]
theorem bulk_mem {H : Type} {d : DataW H} : ∀ {l : List (DataW H)}, d ∈ l → Rows.uptoBulk d ≤ Rows.uptoBulkAll l
  | x :: r, h => by
    simp only [Rows.uptoBulkAll]
    rcases List.mem_cons.1 h with rfl | h
    · omega
    · have := bulk_mem h; omega
theorem bulk_len {H : Type} : ∀ (l : List (DataW H)), l.length ≤ Rows.uptoBulkAll l
  | [] => by simp
  | x :: r => by have := bulk_one x; have := bulk_len r; simp only [Rows.uptoBulkAll, List.length_cons]; omega
theorem isBulk {H : Type} : IsBulk (H := H) Rows.uptoBulk where
  str := fun l => by simp [Rows.uptoBulk]
  agg := fun l d h => by have := bulk_mem h; simp only [Rows.uptoBulk]; omega
  row := fun l s d h => by have := bulk_mem h; simp only [Rows.uptoBulk]; omega
  len := fun l s => by have := bulk_len l; simp only [Rows.uptoBulk]; omega
theorem small {H : Type} {l : List (DataW H)} (hk : Rows.uptoSmall H l = true) : ∀ d, d ∈ l → Rows.uptoBulk d ≤ 1048576 := fun d hd => by
  have h1 : Rows.uptoBulkAll l ≤ 1048576 := by simpa [Rows.uptoSmall] using hk
  have := bulk_mem hd; omega
theorem own : ownKnob Try.prog.godebug = none := by kernel_rfl
theorem laidOut : laidOutB Try.prog = true := by kernel_rfl
theorem laid : laidB Try.prog = true := by kernel_rfl

theorem n35 : Try.prog.cellsOf 35 = 1 := by kernel_rfl
theorem n22 : Try.prog.cellsOf 22 = 1 := by kernel_rfl
theorem n5 : Try.prog.cellsOf 5 = 1 := by kernel_rfl
theorem bytes_in {B : Nat} {m : AMem} {cs : List CV} (hg : Eng.Good Try.prog B m 22 cs) : ∃ r bs, cs = [.sl r 0 0 bs.length] ∧ m[r]? = some ⟨.ro, 5, 0, 1, u8l bs⟩ ∧ U8ok bs ∧ bs.length ≤ B := by
  obtain ⟨r, n, cells, h2, h3, h4, h5, h6⟩ := hg.row Try.underlying22
  rw [n5] at h3 h4
  obtain ⟨xs, hxs, hx⟩ := ints_of (k := .u8) n cells (by omega) fun j hj => by
    obtain ⟨x, q3, q4⟩ := (h6 j hj).int Try.underlying5
    rw [n5, Nat.mul_one] at q3
    exact ⟨x, q3, q4⟩
  have hl : xs.length = n := by rw [hxs, List.length_map] at h4; omega
  exact ⟨r, xs, by rw [hl]; exact h2, by rw [h3, hxs]; rfl, fun x hxx => by simpa [IntKind.min, IntKind.max, IntKind.signed, IntKind.bits] using hx x hxx, by omega⟩
namespace sealPartsLaw
theorem law (B : Nat) (m : AMem) (avs : List AV) (h : All2 (fun t a => goodA Try.prog B m t a) Try.f4.params.toList avs) : Ctr Try.prog 4 avs m (.one (.bool true)) m := by
  rw [Try.params4] at h
  obtain ⟨a0, l0, rfl, g0, h⟩ := all2_cons h
  obtain rfl := all2_nil h
  obtain ⟨c, rfl, hg⟩ := g0.one (fun fs h => by rw [Try.underlying35] at h; cases h) (fun k e h => by rw [Try.underlying35] at h; cases h)
  obtain ⟨rl, N, X, h2, h3, h4, h5, h6⟩ := hg.row Try.underlying35
  rw [n22] at h3 h4
  have hall : ∀ i, i < N → ∃ r bs, X[i]? = some (.sl r 0 0 bs.length) ∧ m[r]? = some ⟨.ro, 5, 0, 1, u8l bs⟩ ∧ U8ok bs := fun i hi => by
    have h7 := h6 i hi
    rw [n22, Nat.mul_one] at h7
    obtain ⟨r, bs, e, h8, h9, _⟩ := bytes_in h7
    refine ⟨r, bs, ?_, h8, h9⟩
    have hl : i < X.length := by omega
    have : ((X.drop i).take 1)[0]? = some (.sl r 0 0 bs.length) := by rw [e]; rfl
    simpa [List.getElem?_take, List.getElem?_drop] using this
  let rf : Nat → Nat := fun i => if h : i < N then (hall i h).choose else 0
  let bf : Nat → List Int := fun i => if h : i < N then (hall i h).choose_spec.choose else []
  have hs : ∀ i, i < N → X[i]? = some (.sl (rf i) 0 0 (bf i).length) ∧ m[rf i]? = some ⟨.ro, 5, 0, 1, u8l (bf i)⟩ ∧ U8ok (bf i) := fun i hi => by
    have := (hall i hi).choose_spec.choose_spec
    simp only [rf, bf, dif_pos hi]; exact this
  simp only [List.cons.injEq, and_true] at h2
  subst h2
  exact parts_c rl N rf bf X m h3 (fun i hi => (hs i hi).1) (fun i hi => (hs i hi).2.1) (fun i hi => (hs i hi).2.2)
theorem contract (H : Type) (enc : TypeId × Value → H) (W : World) (base : Nat) (args : Array Value) (ds gs : List (DataW H)) (before : List MemPlace)
    (hval : ∀ (j : Nat) t v, Try.f4.params[j]? = some t → args[j]? = some v → Value.okWide Try.prog W .any base t v)
    (hW : DataW.Whole enc Try.prog Try.f4.params.toList Rows.sealPartsSpec.vars false W args.toList ds gs before) :
    Calls Try.prog 4 args W fun e W' => ∃ v, e = .returned v ∧ Rows.sealPartsSpec.post enc Try.prog Try.f4 false true false false W args v W' := by
  refine law_true (B := Rows.uptoBulkAll ds) (bulk := Rows.uptoBulk) rfl ?_ laidOut laid (by kernel_rfl) (tb := 4) rfl Try.underlying4 isBulk (fun d hd => bulk_mem hd) hval hW fun m avs _ h => law _ m avs h
  obtain ⟨p, q, hA, _⟩ := hW
  rw [Try.params4] at hA
  rintro l rfl
  obtain ⟨v0, vs0, d0, ds0, p0, q0, _, rfl, _, _, r0⟩ := ChangeShapes.trodAll_cons hA
  obtain ⟨_, rfl, _⟩ := ChangeShapes.trodAll_nil r0
  rfl
theorem lifted (os : Os) (started : os.Started) (H : Type) (enc : TypeId × Value → H) :
    ReturnsInHanded {} Try.checked os 4 .any (Rows.sealPartsSpec.pre6 enc Try.prog Try.f4 Rows.sealPartsRow.domain false) (Rows.sealPartsSpec.post enc Try.prog Try.f4 false true false false) := by
  refine returnsInHanded_of_change (C := Try.checked) own started (by kernel_rfl) Try.func4
    (ChangeSpec.witness6 (enc := enc) (C := Try.checked) false ⟨#[], #[.slice none 0 0], []⟩ 8 (by kernel_rfl) (by kernel_rfl) (by kernel_rfl) (by kernel_rfl)) ?_
  intro W base args ds gs before hval hW _ _
  exact contract H enc W base args ds gs before hval hW
theorem proved : Rows.SealPartsSaid :=
  OpenClaim.holds_of_wide 4 Try.f4 rfl rfl rfl rfl rfl rfl rfl ⟨rfl, rfl, rfl, rfl, rfl⟩ rfl rfl rfl rfl rfl (by kernel_rfl) Try.func4 (by kernel_rfl)
    (of_decide_eq_true (by kernel_rfl)) (by unfold Func.isWrapper; first | (rw [if_pos (by decide +kernel)]; kernel_rfl) | (rw [if_neg (by decide +kernel)]; exact ⟨rfl, rfl⟩))
    (fun os started H enc _ => lifted os started H enc)
end sealPartsLaw
end Go.Proofs.Ytelkmimmmhkbhaa
