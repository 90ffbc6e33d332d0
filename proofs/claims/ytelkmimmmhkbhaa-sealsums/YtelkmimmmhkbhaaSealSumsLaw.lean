/- SealSums answers true whatever bytes it is given; no conditions. -/
import Derived.Test.YtelkmimmmhkbhaaSealS
import Derived.Test.YtelkmimmmhkbhaaAwakeSe
import Derived.Test.YtelkmimmmhkbhaaRows
import Derived.WalkKit
import Derived.ProofKit
import Derived.OpenShut
import Derived.JoinedCond
set_option linter.unusedSimpArgs false
set_option linter.unusedVariables false
set_option maxRecDepth 100000
set_option maxHeartbeats 4000000
namespace Go.Proofs.Ytelkmimmmhkbhaa
open Go Go.Eng

theorem bulk_one {H : Type} (d : DataW H) : 1 ≤ Rows.uptoBulk d := by
  cases d with
  | lit l => cases l <;> simp [Rows.uptoBulk]
  | nil => simp [Rows.uptoBulk]
  | ptr d => simp [Rows.uptoBulk]
  | slice elems spare => simp [Rows.uptoBulk]
  | agg parts => simp [Rows.uptoBulk]
  | iface t d => simp [Rows.uptoBulk]
  | map entries => simp [Rows.uptoBulk]
  | held h => simp [Rows.uptoBulk]
theorem bulk_mem {H : Type} {d : DataW H} : ∀ {l : List (DataW H)}, d ∈ l → Rows.uptoBulk d ≤ Rows.uptoBulkAll l
  | x :: r, h => by
    simp only [Rows.uptoBulkAll]
    rcases List.mem_cons.1 h with rfl | h
    · omega
    · have := bulk_mem h; omega
theorem bulk_len {H : Type} : ∀ (l : List (DataW H)), l.length ≤ Rows.uptoBulkAll l
  | [] => by simp
  | x :: r => by have := bulk_one x; have := bulk_len r; simp only [Rows.uptoBulkAll, List.length_cons]; omega
theorem isBulk {H : Type} : IsBulk (H := H) Rows.uptoBulk where
  str := fun l => by simp [Rows.uptoBulk]
  agg := fun l d h => by have := bulk_mem h; simp only [Rows.uptoBulk]; omega
  row := fun l s d h => by have := bulk_mem h; simp only [Rows.uptoBulk]; omega
  len := fun l s => by have := bulk_len l; simp only [Rows.uptoBulk]; omega
theorem small {H : Type} {l : List (DataW H)} (hk : Rows.uptoSmall H l = true) : ∀ d, d ∈ l → Rows.uptoBulk d ≤ 1048576 := fun d hd => by
  have h1 : Rows.uptoBulkAll l ≤ 1048576 := by simpa [Rows.uptoSmall] using hk
  have := bulk_mem hd; omega
theorem own : ownKnob Try.prog.godebug = none := by kernel_rfl
theorem laidOut : laidOutB Try.prog = true := by kernel_rfl
theorem laid : laidB Try.prog = true := by kernel_rfl

theorem n22 : Try.prog.cellsOf 22 = 1 := by kernel_rfl
theorem n5 : Try.prog.cellsOf 5 = 1 := by kernel_rfl
theorem bytes_in {B : Nat} {m : AMem} {cs : List CV} (hg : Eng.Good Try.prog B m 22 cs) : ∃ r bs, cs = [.sl r 0 0 bs.length] ∧ m[r]? = some ⟨.ro, 5, 0, 1, u8l bs⟩ ∧ U8ok bs ∧ bs.length ≤ B := by
  obtain ⟨r, n, cells, h2, h3, h4, h5, h6⟩ := hg.row Try.underlying22
  rw [n5] at h3 h4
  obtain ⟨xs, hxs, hx⟩ := ints_of (k := .u8) n cells (by omega) fun j hj => by
    obtain ⟨x, q3, q4⟩ := (h6 j hj).int Try.underlying5
    rw [n5, Nat.mul_one] at q3
    exact ⟨x, q3, q4⟩
  have hl : xs.length = n := by rw [hxs, List.length_map] at h4; omega
  exact ⟨r, xs, by rw [hl]; exact h2, by rw [h3, hxs]; rfl, fun x hxx => by simpa [IntKind.min, IntKind.max, IntKind.signed, IntKind.bits] using hx x hxx, by omega⟩
theorem sums_great (r : Nat) (bs : List Int) (m : AMem) (h : 5000 < bs.length) : Ctr Try.prog 3 [.one (.sl r 0 0 bs.length)] m (.one (.bool true)) m := by
  refine Ctr.enter Try.func3 rfl (by decide) (rs := [.tmp 2]) (nt := 17) rfl rfl fun hwf Q hQ => ?_
  have c1 : (5000 : Int) < (bs.length : Int) := by omega
  refine AW.seq_k fun K hK => ?_
  refine AW.region (by decide) ?_
  simp only [push_cast, simprocAttr, c1]
  refine Thn_n ?_
  refine hK _ _ ?_
  clear hK K
  refine AW.seq_k fun K hK => ?_
  refine AW.seq_k fun K hK => ?_
  refine AW.region (by decide) ?_
  simp only [push_cast, simprocAttr, c1]
  refine Thn_n ?_
  refine hK _ _ ?_
  clear hK K
  refine AW.cond_t rfl ?_
  refine AW.seq_k fun K hK => ?_
  refine AW.region (by decide) ?_
  simp only [push_cast, simprocAttr, c1]
  refine CThen.by (awake_c _) ?_
  simp only [push_cast, simprocAttr, c1]
  refine Thn_n ?_
  refine hK _ _ ?_
  clear hK K
  refine AW.ret ?_
  refine Thn_r ?_
  refine hQ _ _ _ ?_
  first | refine RetP.drop0 (Or.inr rfl) ?_ ?_ hwf | refine RetP.drop (Or.inr rfl) ?_ ?_ hwf
  · simp only [resA, resOne, resTv, AV.tv, push_cast, simprocAttr, c1]
  · rfl
theorem sums_c (r : Nat) (bs : List Int) (m : AMem) (hb : m[r]? = some ⟨.ro, 5, 0, 1, u8l bs⟩) (hu : U8ok bs) (h : bs.length ≤ 5000) : Ctr Try.prog 3 [.one (.sl r 0 0 bs.length)] m (.one (.bool true)) m := by
  refine Ctr.enter Try.func3 rfl (by decide) (rs := [.tmp 2]) (nt := 17) rfl rfl fun hwf Q hQ => ?_
  have c1 : ¬ (5000 : Int) < (bs.length : Int) := by omega
  have h32 := eqp32 (shaL_len bs)
  have lr := get_lt hb
  refine AW.seq_k fun K hK => ?_
  refine AW.region (by decide) ?_
  simp only [push_cast, simprocAttr, c1, hb, lk_old hb, h32]
  refine Thn_n ?_
  refine hK _ _ ?_
  clear hK K
  refine AW.seq_k fun K hK => ?_
  refine AW.seq_k fun K hK => ?_
  refine AW.region (by decide) ?_
  simp only [push_cast, simprocAttr, c1, hb, lk_old hb, h32]
  refine Thn_n ?_
  refine hK _ _ ?_
  clear hK K
  refine AW.cond_f rfl ?_
  refine AW.skip ?_
  refine Thn_n ?_
  refine hK _ _ ?_
  clear hK K
  refine AW.seq_k fun K hK => ?_
  refine AW.region (by decide) ?_
  simp only [push_cast, simprocAttr, c1, hb, lk_old hb, h32]
  refine CThen.by (awake_c _) ?_
  simp only [push_cast, simprocAttr, c1, hb, lk_old hb, h32]
  refine CThen.by (of1_c m.length 0 0 (.sl r 0 0 bs.length) bs [.sl r 0 0 bs.length] .grow 1 _ (by simp only [push_cast, simprocAttr]) rfl (.all (k := .ro) (ty := 5) (ez := 1) (lk_old hb _) rfl) (by omega) hu) ?_
  simp only [push_cast, simprocAttr, c1, hb, lk_old hb, h32]
  refine CThen.by (make_c _) ?_
  simp only [push_cast, simprocAttr, c1, hb, lk_old hb, h32]
  refine CThen.by (rof_c r 0 0 bs bs _ ⟨.ro, 5, 1, lk_old hb _⟩ (by omega) (by rw [List.drop_zero, List.take_length]) hu (by omega)) ?_
  simp only [push_cast, simprocAttr, c1, hb, lk_old hb, h32]
  refine Thn_n ?_
  refine hK _ _ ?_
  clear hK K
  refine AW.ret ?_
  refine hQ _ _ _ ?_
  first | refine RetP.drop0 (Or.inr rfl) ?_ ?_ hwf | refine RetP.drop (Or.inr rfl) ?_ ?_ hwf
  · simp only [resA, resOne, resTv, AV.tv, push_cast, simprocAttr, c1, hb, lk_old hb, h32]
  · rfl
namespace sealSumsLaw
theorem law (B : Nat) (m : AMem) (avs : List AV) (h : All2 (fun t a => goodA Try.prog B m t a) Try.f3.params.toList avs) : Ctr Try.prog 3 avs m (.one (.bool true)) m := by
  rw [Try.params3] at h
  obtain ⟨a0, l0, rfl, g0, h⟩ := all2_cons h
  obtain rfl := all2_nil h
  obtain ⟨c, rfl, hg⟩ := g0.one (fun fs h => by rw [Try.underlying22] at h; cases h) (fun k e h => by rw [Try.underlying22] at h; cases h)
  obtain ⟨r, bs, e, hp, hu, _⟩ := bytes_in hg
  simp only [List.cons.injEq, and_true] at e
  subst e
  rcases Nat.lt_or_ge 5000 bs.length with h | h
  · exact sums_great r bs m h
  · exact sums_c r bs m hp hu h
theorem contract (H : Type) (enc : TypeId × Value → H) (W : World) (base : Nat) (args : Array Value) (ds gs : List (DataW H)) (before : List MemPlace)
    (hval : ∀ (j : Nat) t v, Try.f3.params[j]? = some t → args[j]? = some v → Value.okWide Try.prog W .any base t v)
    (hW : DataW.Whole enc Try.prog Try.f3.params.toList Rows.sealSumsSpec.vars false W args.toList ds gs before) :
    Calls Try.prog 3 args W fun e W' => ∃ v, e = .returned v ∧ Rows.sealSumsSpec.post enc Try.prog Try.f3 false true false false W args v W' := by
  refine law_true (B := Rows.uptoBulkAll ds) (bulk := Rows.uptoBulk) rfl ?_ laidOut laid (by kernel_rfl) (tb := 4) rfl Try.underlying4 isBulk (fun d hd => bulk_mem hd) hval hW fun m avs _ h => law _ m avs h
  obtain ⟨p, q, hA, _⟩ := hW
  rw [Try.params3] at hA
  rintro l rfl
  obtain ⟨v0, vs0, d0, ds0, p0, q0, _, rfl, _, _, r0⟩ := ChangeShapes.trodAll_cons hA
  obtain ⟨_, rfl, _⟩ := ChangeShapes.trodAll_nil r0
  rfl
theorem lifted (os : Os) (started : os.Started) (H : Type) (enc : TypeId × Value → H) :
    ReturnsInHanded {} Try.checked os 3 .any (Rows.sealSumsSpec.pre6 enc Try.prog Try.f3 Rows.sealSumsRow.domain false) (Rows.sealSumsSpec.post enc Try.prog Try.f3 false true false false) := by
  refine returnsInHanded_of_change (C := Try.checked) own started (by kernel_rfl) Try.func3
    (ChangeSpec.witness6 (enc := enc) (C := Try.checked) false ⟨#[], #[.slice none 0 0], []⟩ 8 (by kernel_rfl) (by kernel_rfl) (by kernel_rfl) (by kernel_rfl)) ?_
  intro W base args ds gs before hval hW _ _
  exact contract H enc W base args ds gs before hval hW
theorem proved : Rows.SealSumsSaid :=
  OpenClaim.holds_of_wide 3 Try.f3 rfl rfl rfl rfl rfl rfl rfl ⟨rfl, rfl, rfl, rfl, rfl⟩ rfl rfl rfl rfl rfl (by kernel_rfl) Try.func3 (by kernel_rfl)
    (of_decide_eq_true (by kernel_rfl)) (by unfold Func.isWrapper; first | (rw [if_pos (by decide +kernel)]; kernel_rfl) | (rw [if_neg (by decide +kernel)]; exact ⟨rfl, rfl⟩))
    (fun os started H enc _ => lifted os started H enc)
end sealSumsLaw
end Go.Proofs.Ytelkmimmmhkbhaa
