/- LoomTurns answers true of any meshes and any matrix; no conditions. -/
import Derived.Test.YtiogpaehelpmhaaM6
import Derived.Test.YtiogpaehelpmhaaRows
import Derived.ProofKit
import Derived.OpenShut
set_option linter.unusedSimpArgs false
set_option linter.unusedVariables false
set_option maxRecDepth 100000
set_option maxHeartbeats 4000000
namespace Go.Proofs.Ytiogpaehelpmhaa
open Go Go.Eng

theorem bulk_one {H : Type} (d : DataW H) : 1 ≤ Rows.uptoBulk d := by
  cases d with
  | lit l => cases l <;> simp [Rows.uptoBulk]
  | nil => simp [Rows.uptoBulk]
  | ptr d => simp [Rows.uptoBulk]
  | slice elems spare => simp [Rows.uptoBulk]
  | agg parts => simp [Rows.uptoBulk]
  | iface t d => simp [Rows.uptoBulk]
  | map entries => simp [Rows.uptoBulk]
  | held h => simp [Rows.uptoBulk]
theorem bulk_mem {H : Type} {d : DataW H} : ∀ {l : List (DataW H)}, d ∈ l → Rows.uptoBulk d ≤ Rows.uptoBulkAll l
  | x :: r, h => by
    simp only [Rows.uptoBulkAll]
    rcases List.mem_cons.1 h with rfl | h
    · omega
    · have := bulk_mem h; omega
theorem bulk_len {H : Type} : ∀ (l : List (DataW H)), l.length ≤ Rows.uptoBulkAll l
  | [] => by simp
  | x :: r => by have := bulk_one x; have := bulk_len r; simp only [Rows.uptoBulkAll, List.length_cons]; omega
theorem isBulk {H : Type} : IsBulk (H := H) Rows.uptoBulk where
  str := fun l => by simp [Rows.uptoBulk]
  agg := fun l d h => by have := bulk_mem h; simp only [Rows.uptoBulk]; omega
  row := fun l s d h => by have := bulk_mem h; simp only [Rows.uptoBulk]; omega
  len := fun l s => by have := bulk_len l; simp only [Rows.uptoBulk]; omega
theorem small {H : Type} {l : List (DataW H)} (hk : Rows.uptoSmall H l = true) : ∀ d, d ∈ l → Rows.uptoBulk d ≤ 1048576 := fun d hd => by
  have h1 : Rows.uptoBulkAll l ≤ 1048576 := by simpa [Rows.uptoSmall] using hk
  have := bulk_mem hd; omega
theorem own : ownKnob Try.prog.godebug = none := by kernel_rfl
theorem laidOut : laidOutB Try.prog = true := by kernel_rfl
theorem laid : laidB Try.prog = true := by kernel_rfl

theorem n27 : Try.prog.cellsOf 27 = 12 := by kernel_rfl
theorem n25 : Try.prog.cellsOf 25 = 9 := by kernel_rfl
theorem n3 : Try.prog.cellsOf 3 = 1 := by kernel_rfl
theorem n2 : Try.prog.cellsOf 2 = 1 := by kernel_rfl
theorem n24 : Try.prog.cellsOf 24 = 3 := by kernel_rfl
theorem n54 : Try.prog.cellsOf 54 = 3 := by kernel_rfl
theorem n34 : Try.prog.cellsOf 34 = 2 := by kernel_rfl
theorem n31 : Try.prog.cellsOf 31 = 1 := by kernel_rfl
theorem n32 : Try.prog.cellsOf 32 = 1 := by kernel_rfl
theorem prow {B : Nat} {m : AMem} {cs : List CV} (hg : Eng.Good Try.prog B m 31 cs) : ∃ r l, cs = [.sl r 0 0 l.length] ∧ TRow m 24 r 0 l := by
  obtain ⟨r, n, cells, h2, h3, h4, h5, h6⟩ := hg.row Try.underlying31
  rw [n24] at h3 h4
  simp only [n24] at h6
  obtain ⟨xs, hxs, hx⟩ := rows_of (k := .i64) (sz := 3) n cells h4 fun i hi => by
    obtain ⟨q1, q2⟩ := (h6 i hi).arr Try.underlying24
    refine ints_of 3 _ (by rw [q1, n24]) fun j hj => ?_
    obtain ⟨x, q3, q4⟩ := (q2 j hj).int Try.underlying2
    rw [n2, Nat.mul_one] at q3
    exact ⟨x, q3, q4⟩
  obtain ⟨l, hl, hn⟩ := tL_of h4 hxs
  subst hn
  exact ⟨r, l, h2, ⟨.ro, 3, by rw [← hl]; exact h3⟩⟩
theorem frow {B : Nat} {m : AMem} {cs : List CV} (hg : Eng.Good Try.prog B m 32 cs) : ∃ r l, cs = [.sl r 0 0 l.length] ∧ TRow m 54 r 0 l := by
  obtain ⟨r, n, cells, h2, h3, h4, h5, h6⟩ := hg.row Try.underlying32
  rw [n54] at h3 h4
  simp only [n54] at h6
  obtain ⟨xs, hxs, hx⟩ := rows_of (k := .i64) (sz := 3) n cells h4 fun i hi => by
    obtain ⟨q1, q2⟩ := (h6 i hi).arr Try.underlying54
    refine ints_of 3 _ (by rw [q1, n54]) fun j hj => ?_
    obtain ⟨x, q3, q4⟩ := (q2 j hj).int Try.underlying3
    rw [n3, Nat.mul_one] at q3
    exact ⟨x, q3, q4⟩
  obtain ⟨l, hl, hn⟩ := tL_of h4 hxs
  subst hn
  exact ⟨r, l, h2, ⟨.ro, 3, by rw [← hl]; exact h3⟩⟩
theorem mesh_in {B : Nat} {m : AMem} {cs : List CV} (hg : Eng.Good Try.prog B m 34 cs) : ∃ r P q Fs, cs = [.sl r 0 0 P.length, .sl q 0 0 Fs.length] ∧ TRow m 24 r 0 P ∧ TRow m 54 q 0 Fs := by
  obtain ⟨hl, hf⟩ := hg.struct Try.underlying34
  rw [n34] at hl
  match cs, hl with
  | [a, b], _ =>
    obtain ⟨r, P, h0, p0⟩ := prow (hf _ (.head _))
    obtain ⟨q, Fs, h1, p1⟩ := frow (hf _ (.tail _ (.head _)))
    simp only [n31, n32, List.drop_zero, List.drop_succ_cons, List.take_succ_cons, List.take_zero, List.cons.injEq, and_true] at h0 h1
    subst h0; subst h1
    exact ⟨r, P, q, Fs, rfl, p0, p1⟩
theorem vec_in {B : Nat} {m : AMem} {cs : List CV} (hg : Eng.Good Try.prog B m 24 cs) : ∃ a b c, cs = [.int .i64 a, .int .i64 b, .int .i64 c] := by
  obtain ⟨h1, h2⟩ := hg.arr Try.underlying24
  rw [n24] at h1
  obtain ⟨J, hJ, _⟩ := ints_of (k := .i64) 3 cs h1 fun j hj => by
    obtain ⟨y, q3, q4⟩ := (h2 j hj).int Try.underlying2
    rw [n2, Nat.mul_one] at q3
    exact ⟨y, q3, q4⟩
  have hl : J.length = 3 := by rw [hJ, List.length_map] at h1; exact h1
  match J, hl with
  | [a, b, c], _ => exact ⟨a, b, c, hJ⟩
theorem mat_in {B : Nat} {m : AMem} {cs : List CV} (hg : Eng.Good Try.prog B m 27 cs) : ∃ a b c d e f g h i j k l, cs = [.int .i64 a, .int .i64 b, .int .i64 c, .int .i64 d, .int .i64 e, .int .i64 f, .int .i64 g, .int .i64 h, .int .i64 i, .int .i64 j, .int .i64 k, .int .i64 l] := by
  obtain ⟨h1, h2⟩ := hg.struct Try.underlying27
  rw [n27] at h1
  match cs, h1 with
  | [c0, c1, c2, c3, c4, c5, c6, c7, c8, c9, c10, c11], _ =>
    have f0 := h2 _ (.head _)
    have f1 := h2 _ (.tail _ (.head _))
    dsimp only at f0 f1
    rw [n25] at f0
    rw [n24] at f1
    obtain ⟨q1, q2⟩ := f0.arr Try.underlying25
    have e0 := q2 0 (by decide)
    have e1 := q2 1 (by decide)
    have e2 := q2 2 (by decide)
    rw [n24] at e0 e1 e2
    obtain ⟨a, b, c, p0⟩ := vec_in e0
    obtain ⟨d, e, f, p1⟩ := vec_in e1
    obtain ⟨g, h, i, p2⟩ := vec_in e2
    obtain ⟨j, k, l, p3⟩ := vec_in f1
    simp at p0 p1 p2 p3
    refine ⟨a, b, c, d, e, f, g, h, i, j, k, l, ?_⟩
    simp [p0, p1, p2, p3]
theorem row_lt {m : AMem} {ty r v : Nat} {l : List T3} (h : TRow m ty r v l) : r < m.length := by
  obtain ⟨k, e, hb⟩ := h.hb; exact get_lt hb
/-- Meshes, one by one. -/
theorem meshes_of {m : AMem} : ∀ (n : Nat) (cells : List CV), cells.length = n * 2 → (∀ i, i < n → ∃ r P q Fs, (cells.drop (i * 2)).take 2 = [.sl r 0 0 P.length, .sl q 0 0 Fs.length] ∧ TRow m 24 r 0 P ∧ TRow m 54 q 0 Fs) →
    ∃ l : List MI, cells = mL l ∧ l.length = n ∧ ∀ x, x ∈ l → MAt m 24 x
  | 0, cells, hl, _ => ⟨[], by simpa [mL] using hl, rfl, fun x hx => by cases hx⟩
  | n + 1, cells, hl, h => by
    obtain ⟨r, P, q, Fs, h0, p0, p1⟩ := h 0 (by omega)
    match cells, hl with
    | a :: b :: cells, hl =>
      obtain ⟨l, e1, e2, e3⟩ := meshes_of n cells (by simp at hl ⊢; omega) fun i hi => by
        have := h (i + 1) (by omega)
        rwa [show (i + 1) * 2 = i * 2 + 2 by omega, show (a :: b :: cells).drop (i * 2 + 2) = cells.drop (i * 2) from rfl] at this
      simp at h0
      obtain ⟨rfl, rfl⟩ := h0
      refine ⟨⟨r, 0, q, 0, P, Fs⟩ :: l, by rw [e1]; rfl, by simp [e2], fun x hx => ?_⟩
      rcases List.mem_cons.1 hx with rfl | hx
      · exact ⟨row_lt p0, row_lt p1, p0, p1⟩
      · exact e3 x hx
    | [], hl => simp at hl
    | [a], hl => simp at hl; omega
namespace loomTurnsLaw
theorem law (m : AMem) (avs : List AV) (h : All2 (fun t a => goodA Try.prog 1048576 m t a) Try.f3.params.toList avs) : Ctr Try.prog 3 avs m (.one (.bool true)) m := by
  rw [Try.params3] at h
  obtain ⟨a0, l0, rfl, g0, h⟩ := all2_cons h
  obtain ⟨a1, l1, rfl, g1, h⟩ := all2_cons h
  obtain rfl := all2_nil h
  obtain ⟨c, rfl, hg⟩ := g0.one (fun fs h => by rw [Try.underlying22] at h; cases h) (fun k e h => by rw [Try.underlying22] at h; cases h)
  obtain ⟨r, n, cells, h2, h3, h4, h5, h6⟩ := hg.row Try.underlying22
  rw [n34] at h3 h4
  simp only [n34] at h6
  simp only [List.cons.injEq, and_true] at h2
  subst h2
  obtain ⟨l, e1, e2, e3⟩ := meshes_of n cells h4 fun i hi => mesh_in (h6 i hi)
  subst e2
  subst e1
  obtain ⟨cs, rfl, hg⟩ := g1.agg (Or.inl ⟨_, Try.underlying27⟩)
  obtain ⟨x0, x1, x2, y0, y1, y2, z0, z1, z2, t0, t1, t2, rfl⟩ := mat_in hg
  exact turns_c r 0 l x0 x1 x2 y0 y1 y2 z0 z1 z2 t0 t1 t2 m ⟨_, _, h3⟩ e3 h5
theorem contract (H : Type) (enc : TypeId × Value → H) (W : World) (base : Nat) (args : Array Value) (ds gs : List (DataW H)) (before : List MemPlace)
    (hval : ∀ (j : Nat) t v, Try.f3.params[j]? = some t → args[j]? = some v → Value.okWide Try.prog W .any base t v)
    (hW : DataW.Whole enc Try.prog Try.f3.params.toList Rows.loomTurnsSpec.vars false W args.toList ds gs before) (hk : Rows.uptoSmall H (ds ++ gs) = true) :
    Calls Try.prog 3 args W fun e W' => ∃ v, e = .returned v ∧ Rows.loomTurnsSpec.post enc Try.prog Try.f3 false true false false W args v W' := by
  refine law_true (B := 1048576) (bulk := Rows.uptoBulk) rfl ?_ laidOut laid (by kernel_rfl) (tb := 4) rfl Try.underlying4 isBulk (fun d hd => small hk d (List.mem_append_left _ hd)) hval hW fun m avs _ h => law m avs h
  obtain ⟨p, q, hA, _⟩ := hW
  rw [Try.params3] at hA
  rintro l rfl
  obtain ⟨v0, vs0, d0, ds0, p0, q0, _, rfl, _, _, r0⟩ := ChangeShapes.trodAll_cons hA
  obtain ⟨v1, vs1, d1, ds1, p1, q1, _, rfl, _, _, r1⟩ := ChangeShapes.trodAll_cons r0
  obtain ⟨_, rfl, _⟩ := ChangeShapes.trodAll_nil r1
  rfl
theorem lifted (os : Os) (started : os.Started) (H : Type) (enc : TypeId × Value → H) (X : Stop.Interp) :
    ReturnsInHanded {} Try.checked os 3 .any ((Rows.OpenSpec.upto Rows.loomTurnsSpec).pre6 enc Try.prog Try.f3 Rows.loomTurnsUptoRow.domain false) (((Rows.OpenSpec.upto Rows.loomTurnsSpec).at X).post enc Try.prog Try.f3 false true false false) := by
  refine returnsInHanded_of_cond (C := Try.checked) (s := Rows.OpenSpec.upto Rows.loomTurnsSpec) (k := Rows.uptoSmall) rfl own started (by kernel_rfl) Try.func3
    (OpenSpec.witness (enc := enc) (C := Try.checked) (s := Rows.OpenSpec.upto Rows.loomTurnsSpec) (k := Rows.uptoSmall) rfl false ⟨#[], #[.slice none 0 0, .agg #[.int .i64 0, .int .i64 0, .int .i64 0, .int .i64 0, .int .i64 0, .int .i64 0, .int .i64 0, .int .i64 0, .int .i64 0, .int .i64 0, .int .i64 0, .int .i64 0]], []⟩ 8 (by kernel_rfl) (by kernel_rfl) (by kernel_rfl)
      (x := ([.nil, .agg [.agg [.agg [.lit (.int .i64 0), .lit (.int .i64 0), .lit (.int .i64 0)], .agg [.lit (.int .i64 0), .lit (.int .i64 0), .lit (.int .i64 0)], .agg [.lit (.int .i64 0), .lit (.int .i64 0), .lit (.int .i64 0)]], .agg [.lit (.int .i64 0), .lit (.int .i64 0), .lit (.int .i64 0)]]], [], [])) (by kernel_rfl) rfl (by kernel_rfl)) ?_
  intro W base args ds gs before hval hW _ hk _
  exact contract H enc W base args ds gs before hval hW hk
theorem proved : Rows.LoomTurnsUptoSaid :=
  OpenClaim.holds_of_cond 3 Try.f3 rfl rfl rfl rfl rfl rfl rfl ⟨rfl, rfl, rfl, rfl, rfl⟩ rfl rfl rfl rfl rfl (by kernel_rfl) Try.func3 (by kernel_rfl)
    (of_decide_eq_true (by kernel_rfl)) (by unfold Func.isWrapper; first | (rw [if_pos (by decide +kernel)]; kernel_rfl) | (rw [if_neg (by decide +kernel)]; exact ⟨rfl, rfl⟩))
    (fun os started H enc _ X => lifted os started H enc X)
end loomTurnsLaw
end Go.Proofs.Ytiogpaehelpmhaa
