/- What a picture that comes in is; reading alone, no conditions. -/
import Derived.Test.YtgkmjcpcigklpaaPic3
import Derived.Test.YtgkmjcpcigklpaaRows
import Derived.WalkKit
import Derived.ProofKit
import Derived.OpenShut
import Derived.JoinedCond
set_option linter.unusedSimpArgs false
set_option linter.unusedVariables false
set_option maxRecDepth 100000
set_option maxHeartbeats 4000000
namespace Go.Proofs.Ytgkmjcpcigklpaa
open Go Go.Eng

theorem bulk_one {H : Type} (d : DataW H) : 1 ≤ Rows.uptoBulk d := by
  cases d with
  | lit l => cases l <;> simp [Rows.uptoBulk]
  | nil => simp [Rows.uptoBulk]
  | ptr d => simp [Rows.uptoBulk]
  | slice elems spare => simp [Rows.uptoBulk]
  | agg parts => simp [Rows.uptoBulk]
  | iface t d => simp [Rows.uptoBulk]
  | map entries => simp [Rows.uptoBulk]
  | held h => simp [Rows.uptoBulk]
theorem bulk_mem {H : Type} {d : DataW H} : ∀ {l : List (DataW H)}, d ∈ l → Rows.uptoBulk d ≤ Rows.uptoBulkAll l
  | x :: r, h => by
    simp only [Rows.uptoBulkAll]
    rcases List.mem_cons.1 h with rfl | h
    · omega
    · have := bulk_mem h; omega
theorem bulk_len {H : Type} : ∀ (l : List (DataW H)), l.length ≤ Rows.uptoBulkAll l
  | [] => by simp
  | x :: r => by have := bulk_one x; have := bulk_len r; simp only [Rows.uptoBulkAll, List.length_cons]; omega
theorem isBulk {H : Type} : IsBulk (H := H) Rows.uptoBulk where
  str := fun l => by simp [Rows.uptoBulk]
  agg := fun l d h => by have := bulk_mem h; simp only [Rows.uptoBulk]; omega
  row := fun l s d h => by have := bulk_mem h; simp only [Rows.uptoBulk]; omega
  len := fun l s => by have := bulk_len l; simp only [Rows.uptoBulk]; omega
theorem small {H : Type} {l : List (DataW H)} (hk : Rows.uptoSmall H l = true) : ∀ d, d ∈ l → Rows.uptoBulk d ≤ 1048576 := fun d hd => by
  have h1 : Rows.uptoBulkAll l ≤ 1048576 := by simpa [Rows.uptoSmall] using hk
  have := bulk_mem hd; omega
theorem own : ownKnob Try.prog.godebug = none := by kernel_rfl
theorem laidOut : laidOutB Try.prog = true := by kernel_rfl
theorem laid : laidB Try.prog = true := by kernel_rfl

theorem n29 : Try.prog.cellsOf 29 = 3 := by kernel_rfl
theorem n3 : Try.prog.cellsOf 3 = 1 := by kernel_rfl
theorem n27 : Try.prog.cellsOf 27 = 1 := by kernel_rfl
theorem n22 : Try.prog.cellsOf 22 = 3 := by kernel_rfl
theorem n5 : Try.prog.cellsOf 5 = 1 := by kernel_rfl
theorem dots_of {cells : List CV} {n : Nat} {xs : List Int} (hl : cells.length = n * 3) (he : cells = xs.map (CV.int .u8)) : cells = dl n (fun i k => xs.getD (i * 3 + k) 0) := by
  refine dl_of hl fun i k hi hk => ?_
  have hlt : i * 3 + k < xs.length := by rw [he, List.length_map] at hl; omega
  rw [he, List.getElem?_map, List.getElem?_eq_getElem hlt]
  simp [List.getD_eq_getElem?_getD, List.getElem?_eq_getElem hlt]
/-- A picture as it came in. -/
structure PicIn (m : AMem) (r n : Nat) (G : Nat → Nat → Int) : Prop where
  p : PicAt m r 0 n G
  u : ∀ i k, 0 ≤ G i k ∧ G i k ≤ 255
theorem picGood {B : Nat} {m : AMem} {cs : List CV} (hg : Eng.Good Try.prog B m 29 cs) : ∃ W H r n G, cs = [.int .i64 W, .int .i64 H, .sl r 0 0 n] ∧ PicIn m r n G ∧ n ≤ B := by
  obtain ⟨hl, hf⟩ := hg.struct Try.underlying29
  rw [n29] at hl
  match cs, hl with
  | [a, b, c], _ =>
    obtain ⟨W, h0, _⟩ := (hf _ (.head _)).int Try.underlying3
    obtain ⟨H, h1, _⟩ := (hf _ (.tail _ (.head _))).int Try.underlying3
    obtain ⟨r, n, cells, h2, h3, h4, h5, h6⟩ := (hf _ (.tail _ (.tail _ (.head _)))).row Try.underlying27
    simp only [n3, n27, n22, List.drop_zero, List.drop_succ_cons, List.take_succ_cons, List.take_zero, List.cons.injEq, and_true] at h0 h1 h2 h3 h4 h6
    subst h0; subst h1; subst h2
    obtain ⟨xs, hxs, hx⟩ := rows_of (k := .u8) (sz := 3) n cells h4 fun i hi => by
      obtain ⟨q1, q2⟩ := (h6 i hi).arr Try.underlying22
      refine ints_of 3 _ (by rw [q1, n22]) fun j hj => ?_
      obtain ⟨x, q3, q4⟩ := (q2 j hj).int Try.underlying5
      rw [n5, Nat.mul_one] at q3
      exact ⟨x, q3, q4⟩
    refine ⟨W, H, r, n, _, rfl, ⟨⟨.ro, 3, by rw [← dots_of h4 hxs]; exact h3⟩, fun i k => ?_⟩, h5⟩
    rw [List.getD_eq_getElem?_getD]
    cases hq : xs[i * 3 + k]? with
    | none => simp
    | some x =>
      have := hx x (List.mem_of_getElem? hq)
      simpa [IntKind.min, IntKind.max, IntKind.signed, IntKind.bits] using this
theorem pic_of {B : Nat} {m : AMem} {a : AV} (h : goodA Try.prog B m 29 a) : ∃ W H r n G, a = .agg [.int .i64 W, .int .i64 H, .sl r 0 0 n] ∧ PicIn m r n G ∧ n ≤ B := by
  obtain ⟨cs, rfl, hg⟩ := h.agg (.inl ⟨_, Try.underlying29⟩)
  obtain ⟨W, H, r, n, G, rfl, hh⟩ := picGood hg
  exact ⟨W, H, r, n, G, rfl, hh⟩
theorem int_of {B : Nat} {m : AMem} {a : AV} (h : goodA Try.prog B m 3 a) : ∃ x, a = .one (.int .i64 x) ∧ -9223372036854775808 ≤ x ∧ x ≤ 9223372036854775807 := by
  obtain ⟨c, rfl, hg⟩ := h.one (fun fs h => by rw [Try.underlying3] at h; cases h) (fun k e h => by rw [Try.underlying3] at h; cases h)
  obtain ⟨x, hx, hr⟩ := hg.int Try.underlying3
  simp only [List.cons.injEq, and_true] at hx
  exact ⟨x, by rw [hx], by simpa [IntKind.min, IntKind.max, IntKind.signed, IntKind.bits] using hr⟩

end Go.Proofs.Ytgkmjcpcigklpaa
