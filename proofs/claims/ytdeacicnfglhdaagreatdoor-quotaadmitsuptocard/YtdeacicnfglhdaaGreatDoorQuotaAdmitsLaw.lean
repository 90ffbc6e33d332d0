/- QuotaAdmits answers true of any list of scenes and any number of blocks, where all values come to at most 1048576; the package-level tables that its row lists are tied to the program's text; no other conditions. -/
import Derived.Test.YtdeacicnfglhdaaGreatDoorM7
import Derived.Test.YtdeacicnfglhdaaGreatDoorRows
import Derived.Test.YtdeacicnfglhdaaGreatDoorCards
import Derived.Test.YtdeacicnfglhdaaGreatDoorTie
import Derived.ProofKit
import Derived.OpenShut
import Derived.SevenTiedAt
set_option linter.unusedSimpArgs false
set_option linter.unusedVariables false
set_option maxRecDepth 100000
set_option maxHeartbeats 4000000
namespace Go.Proofs.YtdeacicnfglhdaaGreatDoor
open Go Go.Eng

theorem bulk_one {H : Type} (d : DataW H) : 1 ≤ Rows.uptoBulk d := by
  cases d with
  | lit l => cases l <;> simp [Rows.uptoBulk]
  | nil => simp [Rows.uptoBulk]
  | ptr d => simp [Rows.uptoBulk]
  | slice elems spare => simp [Rows.uptoBulk]
  | agg parts => simp [Rows.uptoBulk]
  | iface t d => simp [Rows.uptoBulk]
  | map entries => simp [Rows.uptoBulk]
  | held h => simp [Rows.uptoBulk]
theorem bulk_mem {H : Type} {d : DataW H} : ∀ {l : List (DataW H)}, d ∈ l → Rows.uptoBulk d ≤ Rows.uptoBulkAll l
  | x :: r, h => by
    simp only [Rows.uptoBulkAll]
    rcases List.mem_cons.1 h with rfl | h
    · omega
    · have := bulk_mem h; omega
theorem bulk_len {H : Type} : ∀ (l : List (DataW H)), l.length ≤ Rows.uptoBulkAll l
  | [] => by simp
  | x :: r => by have := bulk_one x; have := bulk_len r; simp only [Rows.uptoBulkAll, List.length_cons]; omega
theorem isBulk {H : Type} : IsBulk (H := H) Rows.uptoBulk where
  str := fun l => by simp [Rows.uptoBulk]
  agg := fun l d h => by have := bulk_mem h; simp only [Rows.uptoBulk]; omega
  row := fun l s d h => by have := bulk_mem h; simp only [Rows.uptoBulk]; omega
  len := fun l s => by have := bulk_len l; simp only [Rows.uptoBulk]; omega
theorem small {H : Type} {l : List (DataW H)} (hk : Rows.uptoSmall H l = true) : ∀ d, d ∈ l → Rows.uptoBulk d ≤ 1048576 := fun d hd => by
  have h1 : Rows.uptoBulkAll l ≤ 1048576 := by simpa [Rows.uptoSmall] using hk
  have := bulk_mem hd; omega
theorem own : ownKnob Tryz.prog.godebug = none := by kernel_rfl
theorem laidOut : laidOutB Tryz.prog = true := by kernel_rfl
theorem laid : laidB Tryz.prog = true := by kernel_rfl

theorem catC_of {F : Nat → List CV} {w : Nat} (hF : ∀ i, (F i).length = w) : ∀ (n : Nat) (cells : List CV), cells.length = n * w → (∀ i, i < n → (cells.drop (i * w)).take w = F i) → cells = catC n F
  | 0, cells, hl, _ => by show cells = []; simpa using hl
  | n + 1, cells, hl, h => by
    have hn : (cells.take (n * w)).length = n * w := by rw [List.length_take, hl, Nat.succ_mul]; omega
    have ih := catC_of hF n (cells.take (n * w)) hn fun i hi => by
      have := h i (by omega)
      have hiw : i * w + w ≤ n * w := by rw [← Nat.succ_mul]; exact Nat.mul_le_mul_right _ hi
      rw [← this, List.drop_take, List.take_take, Nat.min_eq_left (by omega)]
    have hlast := h n (by omega)
    show cells = catC n F ++ F n
    rw [← ih, ← hlast, List.take_of_length_le (l := cells.drop (n * w)) (by rw [List.length_drop, hl, Nat.succ_mul]; omega), List.take_append_drop]
theorem pick {β : Type} [Inhabited β] {n : Nat} {P : Nat → β → Prop} (h : ∀ i, i < n → ∃ y, P i y) : ∃ f : Nat → β, ∀ i, i < n → P i (f i) :=
  ⟨fun i => if hi : i < n then (h i hi).choose else default, fun i hi => by dsimp only; rw [dif_pos hi]; exact (h i hi).choose_spec⟩
theorem n45 : Tryz.prog.cellsOf 45 = 10 := by kernel_rfl
theorem n3 : Tryz.prog.cellsOf 3 = 1 := by kernel_rfl
theorem fl_3 {B : Nat} {m : AMem} {cs : List CV} (hg : Eng.Good Tryz.prog B m 3 cs) : ∃ x0, cs = [.int .i64 x0] := by
  obtain ⟨x, q3, q4⟩ := hg.int Tryz.underlying3
  exact ⟨x, q3⟩
theorem n2 : Tryz.prog.cellsOf 2 = 1 := by kernel_rfl
theorem fl_2 {B : Nat} {m : AMem} {cs : List CV} (hg : Eng.Good Tryz.prog B m 2 cs) : ∃ x0, cs = [.int .i64 x0] := by
  obtain ⟨x, q3, q4⟩ := hg.int Tryz.underlying2
  exact ⟨x, q3⟩
theorem n41 : Tryz.prog.cellsOf 41 = 1 := by kernel_rfl
theorem fl_41 {B : Nat} {m : AMem} {cs : List CV} (hg : Eng.Good Tryz.prog B m 41 cs) : ∃ x0, cs = [.int .u64 x0] ∧ (0 ≤ x0 ∧ x0 ≤ 18446744073709551615) := by
  obtain ⟨x, q3, q4⟩ := hg.int Tryz.underlying41
  exact ⟨x, q3, by simpa [IntKind.min, IntKind.max, IntKind.signed, IntKind.bits] using q4⟩
theorem n43 : Tryz.prog.cellsOf 43 = 3 := by kernel_rfl
theorem fl_43 {B : Nat} {m : AMem} {cs : List CV} (hg : Eng.Good Tryz.prog B m 43 cs) : ∃ x0 x1 x2, cs = [.int .i64 x0, .int .i64 x1, .int .i64 x2] := by
  obtain ⟨h1, h2⟩ := hg.arr Tryz.underlying43
  rw [n43] at h1
  match cs, h1 with
  | [c0, c1, c2], _ =>
    have f0 := h2 0 (by decide)
    try dsimp only at f0
    simp only [n2, Nat.reduceAdd, Nat.reduceMul, Nat.zero_add, Nat.zero_mul, Nat.one_mul, List.drop_zero, List.drop_succ_cons, List.take_succ_cons, List.take_zero, List.drop_nil, List.take_nil] at f0
    obtain ⟨y0, p0⟩ := fl_2 f0
    simp only [List.cons.injEq, and_true] at p0
    have f1 := h2 1 (by decide)
    try dsimp only at f1
    simp only [n2, Nat.reduceAdd, Nat.reduceMul, Nat.zero_add, Nat.zero_mul, Nat.one_mul, List.drop_zero, List.drop_succ_cons, List.take_succ_cons, List.take_zero, List.drop_nil, List.take_nil] at f1
    obtain ⟨y1, p1⟩ := fl_2 f1
    simp only [List.cons.injEq, and_true] at p1
    have f2 := h2 2 (by decide)
    try dsimp only at f2
    simp only [n2, Nat.reduceAdd, Nat.reduceMul, Nat.zero_add, Nat.zero_mul, Nat.one_mul, List.drop_zero, List.drop_succ_cons, List.take_succ_cons, List.take_zero, List.drop_nil, List.take_nil] at f2
    obtain ⟨y2, p2⟩ := fl_2 f2
    simp only [List.cons.injEq, and_true] at p2
    refine ⟨y0, y1, y2, ?_⟩
    simp only [p0, p1, p2]
theorem fl_45 {B : Nat} {m : AMem} {cs : List CV} (hg : Eng.Good Tryz.prog B m 45 cs) : ∃ x0 x1 x2 x3 x4 x5 x6 x7 x8 x9, cs = [.int .i64 x0, .int .i64 x1, .int .i64 x2, .int .i64 x3, .int .i64 x4, .int .i64 x5, .int .u64 x6, .int .i64 x7, .int .i64 x8, .int .i64 x9] ∧ (0 ≤ x6 ∧ x6 ≤ 18446744073709551615) := by
  obtain ⟨h1, h2⟩ := hg.struct Tryz.underlying45
  rw [n45] at h1
  match cs, h1 with
  | [c0, c1, c2, c3, c4, c5, c6, c7, c8, c9], _ =>
    have f0 := h2 _ (.head _)
    try dsimp only at f0
    simp only [n3, Nat.reduceAdd, Nat.reduceMul, Nat.zero_add, Nat.zero_mul, Nat.one_mul, List.drop_zero, List.drop_succ_cons, List.take_succ_cons, List.take_zero, List.drop_nil, List.take_nil] at f0
    obtain ⟨y0, p0⟩ := fl_3 f0
    simp only [List.cons.injEq, and_true] at p0
    have f1 := h2 _ (.tail _ (.head _))
    try dsimp only at f1
    simp only [n3, Nat.reduceAdd, Nat.reduceMul, Nat.zero_add, Nat.zero_mul, Nat.one_mul, List.drop_zero, List.drop_succ_cons, List.take_succ_cons, List.take_zero, List.drop_nil, List.take_nil] at f1
    obtain ⟨y1, p1⟩ := fl_3 f1
    simp only [List.cons.injEq, and_true] at p1
    have f2 := h2 _ (.tail _ (.tail _ (.head _)))
    try dsimp only at f2
    simp only [n3, Nat.reduceAdd, Nat.reduceMul, Nat.zero_add, Nat.zero_mul, Nat.one_mul, List.drop_zero, List.drop_succ_cons, List.take_succ_cons, List.take_zero, List.drop_nil, List.take_nil] at f2
    obtain ⟨y2, p2⟩ := fl_3 f2
    simp only [List.cons.injEq, and_true] at p2
    have f3 := h2 _ (.tail _ (.tail _ (.tail _ (.head _))))
    try dsimp only at f3
    simp only [n3, Nat.reduceAdd, Nat.reduceMul, Nat.zero_add, Nat.zero_mul, Nat.one_mul, List.drop_zero, List.drop_succ_cons, List.take_succ_cons, List.take_zero, List.drop_nil, List.take_nil] at f3
    obtain ⟨y3, p3⟩ := fl_3 f3
    simp only [List.cons.injEq, and_true] at p3
    have f4 := h2 _ (.tail _ (.tail _ (.tail _ (.tail _ (.head _)))))
    try dsimp only at f4
    simp only [n3, Nat.reduceAdd, Nat.reduceMul, Nat.zero_add, Nat.zero_mul, Nat.one_mul, List.drop_zero, List.drop_succ_cons, List.take_succ_cons, List.take_zero, List.drop_nil, List.take_nil] at f4
    obtain ⟨y4, p4⟩ := fl_3 f4
    simp only [List.cons.injEq, and_true] at p4
    have f5 := h2 _ (.tail _ (.tail _ (.tail _ (.tail _ (.tail _ (.head _))))))
    try dsimp only at f5
    simp only [n2, Nat.reduceAdd, Nat.reduceMul, Nat.zero_add, Nat.zero_mul, Nat.one_mul, List.drop_zero, List.drop_succ_cons, List.take_succ_cons, List.take_zero, List.drop_nil, List.take_nil] at f5
    obtain ⟨y5, p5⟩ := fl_2 f5
    simp only [List.cons.injEq, and_true] at p5
    have f6 := h2 _ (.tail _ (.tail _ (.tail _ (.tail _ (.tail _ (.tail _ (.head _)))))))
    try dsimp only at f6
    simp only [n41, Nat.reduceAdd, Nat.reduceMul, Nat.zero_add, Nat.zero_mul, Nat.one_mul, List.drop_zero, List.drop_succ_cons, List.take_succ_cons, List.take_zero, List.drop_nil, List.take_nil] at f6
    obtain ⟨y6, p6, by6⟩ := fl_41 f6
    simp only [List.cons.injEq, and_true] at p6
    have f7 := h2 _ (.tail _ (.tail _ (.tail _ (.tail _ (.tail _ (.tail _ (.tail _ (.head _))))))))
    try dsimp only at f7
    simp only [n43, Nat.reduceAdd, Nat.reduceMul, Nat.zero_add, Nat.zero_mul, Nat.one_mul, List.drop_zero, List.drop_succ_cons, List.take_succ_cons, List.take_zero, List.drop_nil, List.take_nil] at f7
    obtain ⟨y7, y8, y9, p7⟩ := fl_43 f7
    simp only [List.cons.injEq, and_true] at p7
    refine ⟨y0, y1, y2, y3, y4, y5, y6, y7, y8, y9, ?_, by6⟩
    simp only [p0, p1, p2, p3, p4, p5, p6, p7]
theorem n89 : Tryz.prog.cellsOf 89 = 5 := by kernel_rfl
theorem fl_89 {B : Nat} {m : AMem} {cs : List CV} (hg : Eng.Good Tryz.prog B m 89 cs) : ∃ x0 x1 x2 x3 x4, cs = [.int .i64 x0, .int .i64 x1, .int .i64 x2, .int .i64 x3, .int .i64 x4] := by
  obtain ⟨h1, h2⟩ := hg.struct Tryz.underlying89
  rw [n89] at h1
  match cs, h1 with
  | [c0, c1, c2, c3, c4], _ =>
    have f0 := h2 _ (.head _)
    try dsimp only at f0
    simp only [n3, Nat.reduceAdd, Nat.reduceMul, Nat.zero_add, Nat.zero_mul, Nat.one_mul, List.drop_zero, List.drop_succ_cons, List.take_succ_cons, List.take_zero, List.drop_nil, List.take_nil] at f0
    obtain ⟨y0, p0⟩ := fl_3 f0
    simp only [List.cons.injEq, and_true] at p0
    have f1 := h2 _ (.tail _ (.head _))
    try dsimp only at f1
    simp only [n43, Nat.reduceAdd, Nat.reduceMul, Nat.zero_add, Nat.zero_mul, Nat.one_mul, List.drop_zero, List.drop_succ_cons, List.take_succ_cons, List.take_zero, List.drop_nil, List.take_nil] at f1
    obtain ⟨y1, y2, y3, p1⟩ := fl_43 f1
    simp only [List.cons.injEq, and_true] at p1
    have f2 := h2 _ (.tail _ (.tail _ (.head _)))
    try dsimp only at f2
    simp only [n2, Nat.reduceAdd, Nat.reduceMul, Nat.zero_add, Nat.zero_mul, Nat.one_mul, List.drop_zero, List.drop_succ_cons, List.take_succ_cons, List.take_zero, List.drop_nil, List.take_nil] at f2
    obtain ⟨y4, p2⟩ := fl_2 f2
    simp only [List.cons.injEq, and_true] at p2
    refine ⟨y0, y1, y2, y3, y4, ?_⟩
    simp only [p0, p1, p2]
theorem n128 : Tryz.prog.cellsOf 128 = 4 := by kernel_rfl
theorem n96 : Tryz.prog.cellsOf 96 = 3 := by kernel_rfl
theorem fl_96 {B : Nat} {m : AMem} {cs : List CV} (hg : Eng.Good Tryz.prog B m 96 cs) : ∃ x0 x1 x2, cs = [.int .i64 x0, .int .i64 x1, .int .i64 x2] := by
  obtain ⟨h1, h2⟩ := hg.arr Tryz.underlying96
  rw [n96] at h1
  match cs, h1 with
  | [c0, c1, c2], _ =>
    have f0 := h2 0 (by decide)
    try dsimp only at f0
    simp only [n2, Nat.reduceAdd, Nat.reduceMul, Nat.zero_add, Nat.zero_mul, Nat.one_mul, List.drop_zero, List.drop_succ_cons, List.take_succ_cons, List.take_zero, List.drop_nil, List.take_nil] at f0
    obtain ⟨y0, p0⟩ := fl_2 f0
    simp only [List.cons.injEq, and_true] at p0
    have f1 := h2 1 (by decide)
    try dsimp only at f1
    simp only [n2, Nat.reduceAdd, Nat.reduceMul, Nat.zero_add, Nat.zero_mul, Nat.one_mul, List.drop_zero, List.drop_succ_cons, List.take_succ_cons, List.take_zero, List.drop_nil, List.take_nil] at f1
    obtain ⟨y1, p1⟩ := fl_2 f1
    simp only [List.cons.injEq, and_true] at p1
    have f2 := h2 2 (by decide)
    try dsimp only at f2
    simp only [n2, Nat.reduceAdd, Nat.reduceMul, Nat.zero_add, Nat.zero_mul, Nat.one_mul, List.drop_zero, List.drop_succ_cons, List.take_succ_cons, List.take_zero, List.drop_nil, List.take_nil] at f2
    obtain ⟨y2, p2⟩ := fl_2 f2
    simp only [List.cons.injEq, and_true] at p2
    refine ⟨y0, y1, y2, ?_⟩
    simp only [p0, p1, p2]
theorem fl_128 {B : Nat} {m : AMem} {cs : List CV} (hg : Eng.Good Tryz.prog B m 128 cs) : ∃ x0 x1 x2 x3, cs = [.int .i64 x0, .int .i64 x1, .int .i64 x2, .int .i64 x3] := by
  obtain ⟨h1, h2⟩ := hg.struct Tryz.underlying128
  rw [n128] at h1
  match cs, h1 with
  | [c0, c1, c2, c3], _ =>
    have f0 := h2 _ (.head _)
    try dsimp only at f0
    simp only [n2, Nat.reduceAdd, Nat.reduceMul, Nat.zero_add, Nat.zero_mul, Nat.one_mul, List.drop_zero, List.drop_succ_cons, List.take_succ_cons, List.take_zero, List.drop_nil, List.take_nil] at f0
    obtain ⟨y0, p0⟩ := fl_2 f0
    simp only [List.cons.injEq, and_true] at p0
    have f1 := h2 _ (.tail _ (.head _))
    try dsimp only at f1
    simp only [n96, Nat.reduceAdd, Nat.reduceMul, Nat.zero_add, Nat.zero_mul, Nat.one_mul, List.drop_zero, List.drop_succ_cons, List.take_succ_cons, List.take_zero, List.drop_nil, List.take_nil] at f1
    obtain ⟨y1, y2, y3, p1⟩ := fl_96 f1
    simp only [List.cons.injEq, and_true] at p1
    refine ⟨y0, y1, y2, y3, ?_⟩
    simp only [p0, p1]
theorem n110 : Tryz.prog.cellsOf 110 = 4 := by kernel_rfl
theorem fl_110 {B : Nat} {m : AMem} {cs : List CV} (hg : Eng.Good Tryz.prog B m 110 cs) : ∃ x0 x1 x2 x3, cs = [.int .i64 x0, .int .i64 x1, .int .i64 x2, .int .i64 x3] := by
  obtain ⟨h1, h2⟩ := hg.struct Tryz.underlying110
  rw [n110] at h1
  match cs, h1 with
  | [c0, c1, c2, c3], _ =>
    have f0 := h2 _ (.head _)
    try dsimp only at f0
    simp only [n3, Nat.reduceAdd, Nat.reduceMul, Nat.zero_add, Nat.zero_mul, Nat.one_mul, List.drop_zero, List.drop_succ_cons, List.take_succ_cons, List.take_zero, List.drop_nil, List.take_nil] at f0
    obtain ⟨y0, p0⟩ := fl_3 f0
    simp only [List.cons.injEq, and_true] at p0
    have f1 := h2 _ (.tail _ (.head _))
    try dsimp only at f1
    simp only [n3, Nat.reduceAdd, Nat.reduceMul, Nat.zero_add, Nat.zero_mul, Nat.one_mul, List.drop_zero, List.drop_succ_cons, List.take_succ_cons, List.take_zero, List.drop_nil, List.take_nil] at f1
    obtain ⟨y1, p1⟩ := fl_3 f1
    simp only [List.cons.injEq, and_true] at p1
    have f2 := h2 _ (.tail _ (.tail _ (.head _)))
    try dsimp only at f2
    simp only [n3, Nat.reduceAdd, Nat.reduceMul, Nat.zero_add, Nat.zero_mul, Nat.one_mul, List.drop_zero, List.drop_succ_cons, List.take_succ_cons, List.take_zero, List.drop_nil, List.take_nil] at f2
    obtain ⟨y2, p2⟩ := fl_3 f2
    simp only [List.cons.injEq, and_true] at p2
    have f3 := h2 _ (.tail _ (.tail _ (.tail _ (.head _))))
    try dsimp only at f3
    simp only [n2, Nat.reduceAdd, Nat.reduceMul, Nat.zero_add, Nat.zero_mul, Nat.one_mul, List.drop_zero, List.drop_succ_cons, List.take_succ_cons, List.take_zero, List.drop_nil, List.take_nil] at f3
    obtain ⟨y3, p3⟩ := fl_2 f3
    simp only [List.cons.injEq, and_true] at p3
    refine ⟨y0, y1, y2, y3, ?_⟩
    simp only [p0, p1, p2, p3]
theorem n99 : Tryz.prog.cellsOf 99 = 13 := by kernel_rfl
theorem n97 : Tryz.prog.cellsOf 97 = 9 := by kernel_rfl
theorem fl_97 {B : Nat} {m : AMem} {cs : List CV} (hg : Eng.Good Tryz.prog B m 97 cs) : ∃ x0 x1 x2 x3 x4 x5 x6 x7 x8, cs = [.int .i64 x0, .int .i64 x1, .int .i64 x2, .int .i64 x3, .int .i64 x4, .int .i64 x5, .int .i64 x6, .int .i64 x7, .int .i64 x8] := by
  obtain ⟨h1, h2⟩ := hg.arr Tryz.underlying97
  rw [n97] at h1
  match cs, h1 with
  | [c0, c1, c2, c3, c4, c5, c6, c7, c8], _ =>
    have f0 := h2 0 (by decide)
    try dsimp only at f0
    simp only [n96, Nat.reduceAdd, Nat.reduceMul, Nat.zero_add, Nat.zero_mul, Nat.one_mul, List.drop_zero, List.drop_succ_cons, List.take_succ_cons, List.take_zero, List.drop_nil, List.take_nil] at f0
    obtain ⟨y0, y1, y2, p0⟩ := fl_96 f0
    simp only [List.cons.injEq, and_true] at p0
    have f1 := h2 1 (by decide)
    try dsimp only at f1
    simp only [n96, Nat.reduceAdd, Nat.reduceMul, Nat.zero_add, Nat.zero_mul, Nat.one_mul, List.drop_zero, List.drop_succ_cons, List.take_succ_cons, List.take_zero, List.drop_nil, List.take_nil] at f1
    obtain ⟨y3, y4, y5, p1⟩ := fl_96 f1
    simp only [List.cons.injEq, and_true] at p1
    have f2 := h2 2 (by decide)
    try dsimp only at f2
    simp only [n96, Nat.reduceAdd, Nat.reduceMul, Nat.zero_add, Nat.zero_mul, Nat.one_mul, List.drop_zero, List.drop_succ_cons, List.take_succ_cons, List.take_zero, List.drop_nil, List.take_nil] at f2
    obtain ⟨y6, y7, y8, p2⟩ := fl_96 f2
    simp only [List.cons.injEq, and_true] at p2
    refine ⟨y0, y1, y2, y3, y4, y5, y6, y7, y8, ?_⟩
    simp only [p0, p1, p2]
theorem fl_99 {B : Nat} {m : AMem} {cs : List CV} (hg : Eng.Good Tryz.prog B m 99 cs) : ∃ x0 x1 x2 x3 x4 x5 x6 x7 x8 x9 x10 x11 x12, cs = [.int .i64 x0, .int .i64 x1, .int .i64 x2, .int .i64 x3, .int .i64 x4, .int .i64 x5, .int .i64 x6, .int .i64 x7, .int .i64 x8, .int .i64 x9, .int .i64 x10, .int .i64 x11, .int .i64 x12] := by
  obtain ⟨h1, h2⟩ := hg.struct Tryz.underlying99
  rw [n99] at h1
  match cs, h1 with
  | [c0, c1, c2, c3, c4, c5, c6, c7, c8, c9, c10, c11, c12], _ =>
    have f0 := h2 _ (.head _)
    try dsimp only at f0
    simp only [n3, Nat.reduceAdd, Nat.reduceMul, Nat.zero_add, Nat.zero_mul, Nat.one_mul, List.drop_zero, List.drop_succ_cons, List.take_succ_cons, List.take_zero, List.drop_nil, List.take_nil] at f0
    obtain ⟨y0, p0⟩ := fl_3 f0
    simp only [List.cons.injEq, and_true] at p0
    have f1 := h2 _ (.tail _ (.head _))
    try dsimp only at f1
    simp only [n3, Nat.reduceAdd, Nat.reduceMul, Nat.zero_add, Nat.zero_mul, Nat.one_mul, List.drop_zero, List.drop_succ_cons, List.take_succ_cons, List.take_zero, List.drop_nil, List.take_nil] at f1
    obtain ⟨y1, p1⟩ := fl_3 f1
    simp only [List.cons.injEq, and_true] at p1
    have f2 := h2 _ (.tail _ (.tail _ (.head _)))
    try dsimp only at f2
    simp only [n3, Nat.reduceAdd, Nat.reduceMul, Nat.zero_add, Nat.zero_mul, Nat.one_mul, List.drop_zero, List.drop_succ_cons, List.take_succ_cons, List.take_zero, List.drop_nil, List.take_nil] at f2
    obtain ⟨y2, p2⟩ := fl_3 f2
    simp only [List.cons.injEq, and_true] at p2
    have f3 := h2 _ (.tail _ (.tail _ (.tail _ (.head _))))
    try dsimp only at f3
    simp only [n97, Nat.reduceAdd, Nat.reduceMul, Nat.zero_add, Nat.zero_mul, Nat.one_mul, List.drop_zero, List.drop_succ_cons, List.take_succ_cons, List.take_zero, List.drop_nil, List.take_nil] at f3
    obtain ⟨y3, y4, y5, y6, y7, y8, y9, y10, y11, p3⟩ := fl_97 f3
    simp only [List.cons.injEq, and_true] at p3
    have f4 := h2 _ (.tail _ (.tail _ (.tail _ (.tail _ (.head _)))))
    try dsimp only at f4
    simp only [n2, Nat.reduceAdd, Nat.reduceMul, Nat.zero_add, Nat.zero_mul, Nat.one_mul, List.drop_zero, List.drop_succ_cons, List.take_succ_cons, List.take_zero, List.drop_nil, List.take_nil] at f4
    obtain ⟨y12, p4⟩ := fl_2 f4
    simp only [List.cons.injEq, and_true] at p4
    refine ⟨y0, y1, y2, y3, y4, y5, y6, y7, y8, y9, y10, y11, y12, ?_⟩
    simp only [p0, p1, p2, p3, p4]
theorem n46 : Tryz.prog.cellsOf 46 = 1 := by kernel_rfl
theorem paints_in {B : Nat} {m : AMem} {cs : List CV} (hg : Eng.Good Tryz.prog B m 46 cs) : ∃ r n, ∃ f : Nat → Nat → Int, cs = [.sl r 0 0 n] ∧ n ≤ B ∧ ∃ k e, m[r]? = some ⟨k, 89, 0, e, catC n fun i => [.int .i64 (f i 0), .int .i64 (f i 1), .int .i64 (f i 2), .int .i64 (f i 3), .int .i64 (f i 4)]⟩ := by
  obtain ⟨r, n, cells, h2, h3, h4, h5, h6⟩ := hg.row Tryz.underlying46
  rw [n89] at h3 h4
  simp only [n89] at h6
  obtain ⟨f, hf⟩ := pick (n := n) (β := Nat → Int) (P := fun i g => (cells.drop (i * 5)).take 5 = [.int .i64 (g 0), .int .i64 (g 1), .int .i64 (g 2), .int .i64 (g 3), .int .i64 (g 4)]) fun i hi => by
    obtain ⟨x0, x1, x2, x3, x4, p⟩ := fl_89 (h6 i hi)
    exact ⟨fun j => [x0, x1, x2, x3, x4].getD j 0, p⟩
  exact ⟨r, n, f, h2, h5, .ro, _, by rw [← catC_of (w := 5) (fun _ => rfl) n cells h4 hf]; exact h3⟩
theorem n91 : Tryz.prog.cellsOf 91 = 1 := by kernel_rfl
theorem keys_in {B : Nat} {m : AMem} {cs : List CV} (hg : Eng.Good Tryz.prog B m 91 cs) : ∃ r n, ∃ f : Nat → Nat → Int, cs = [.sl r 0 0 n] ∧ n ≤ B ∧ ∃ k e, m[r]? = some ⟨k, 128, 0, e, catC n fun i => [.int .i64 (f i 0), .int .i64 (f i 1), .int .i64 (f i 2), .int .i64 (f i 3)]⟩ := by
  obtain ⟨r, n, cells, h2, h3, h4, h5, h6⟩ := hg.row Tryz.underlying91
  rw [n128] at h3 h4
  simp only [n128] at h6
  obtain ⟨f, hf⟩ := pick (n := n) (β := Nat → Int) (P := fun i g => (cells.drop (i * 4)).take 4 = [.int .i64 (g 0), .int .i64 (g 1), .int .i64 (g 2), .int .i64 (g 3)]) fun i hi => by
    obtain ⟨x0, x1, x2, x3, p⟩ := fl_128 (h6 i hi)
    exact ⟨fun j => [x0, x1, x2, x3].getD j 0, p⟩
  exact ⟨r, n, f, h2, h5, .ro, _, by rw [← catC_of (w := 4) (fun _ => rfl) n cells h4 hf]; exact h3⟩
theorem n48 : Tryz.prog.cellsOf 48 = 1 := by kernel_rfl
theorem joints_in {B : Nat} {m : AMem} {cs : List CV} (hg : Eng.Good Tryz.prog B m 48 cs) : ∃ r n, ∃ f : Nat → Nat → Int, cs = [.sl r 0 0 n] ∧ n ≤ B ∧ ∃ k e, m[r]? = some ⟨k, 110, 0, e, catC n fun i => [.int .i64 (f i 0), .int .i64 (f i 1), .int .i64 (f i 2), .int .i64 (f i 3)]⟩ := by
  obtain ⟨r, n, cells, h2, h3, h4, h5, h6⟩ := hg.row Tryz.underlying48
  rw [n110] at h3 h4
  simp only [n110] at h6
  obtain ⟨f, hf⟩ := pick (n := n) (β := Nat → Int) (P := fun i g => (cells.drop (i * 4)).take 4 = [.int .i64 (g 0), .int .i64 (g 1), .int .i64 (g 2), .int .i64 (g 3)]) fun i hi => by
    obtain ⟨x0, x1, x2, x3, p⟩ := fl_110 (h6 i hi)
    exact ⟨fun j => [x0, x1, x2, x3].getD j 0, p⟩
  exact ⟨r, n, f, h2, h5, .ro, _, by rw [← catC_of (w := 4) (fun _ => rfl) n cells h4 hf]; exact h3⟩
theorem n49 : Tryz.prog.cellsOf 49 = 1 := by kernel_rfl
theorem shapes_in {B : Nat} {m : AMem} {cs : List CV} (hg : Eng.Good Tryz.prog B m 49 cs) : ∃ r n, ∃ f : Nat → Nat → Int, cs = [.sl r 0 0 n] ∧ n ≤ B ∧ ∃ k e, m[r]? = some ⟨k, 99, 0, e, catC n fun i => [.int .i64 (f i 0), .int .i64 (f i 1), .int .i64 (f i 2), .int .i64 (f i 3), .int .i64 (f i 4), .int .i64 (f i 5), .int .i64 (f i 6), .int .i64 (f i 7), .int .i64 (f i 8), .int .i64 (f i 9), .int .i64 (f i 10), .int .i64 (f i 11), .int .i64 (f i 12)]⟩ := by
  obtain ⟨r, n, cells, h2, h3, h4, h5, h6⟩ := hg.row Tryz.underlying49
  rw [n99] at h3 h4
  simp only [n99] at h6
  obtain ⟨f, hf⟩ := pick (n := n) (β := Nat → Int) (P := fun i g => (cells.drop (i * 13)).take 13 = [.int .i64 (g 0), .int .i64 (g 1), .int .i64 (g 2), .int .i64 (g 3), .int .i64 (g 4), .int .i64 (g 5), .int .i64 (g 6), .int .i64 (g 7), .int .i64 (g 8), .int .i64 (g 9), .int .i64 (g 10), .int .i64 (g 11), .int .i64 (g 12)]) fun i hi => by
    obtain ⟨x0, x1, x2, x3, x4, x5, x6, x7, x8, x9, x10, x11, x12, p⟩ := fl_99 (h6 i hi)
    exact ⟨fun j => [x0, x1, x2, x3, x4, x5, x6, x7, x8, x9, x10, x11, x12].getD j 0, p⟩
  exact ⟨r, n, f, h2, h5, .ro, _, by rw [← catC_of (w := 13) (fun _ => rfl) n cells h4 hf]; exact h3⟩
theorem n93 : Tryz.prog.cellsOf 93 = 2 := by kernel_rfl
theorem n47 : Tryz.prog.cellsOf 47 = 1 := by kernel_rfl
theorem n51 : Tryz.prog.cellsOf 51 = 17 := by kernel_rfl
theorem track_in {B : Nat} {m : AMem} {cs : List CV} (hg : Eng.Good Tryz.prog B m 93 cs) : ∃ w r n, ∃ f : Nat → Nat → Int, cs = [.int .i64 w, .sl r 0 0 n] ∧ n ≤ B ∧ ∃ k e, m[r]? = some ⟨k, 128, 0, e, catC n fun i => [.int .i64 (f i 0), .int .i64 (f i 1), .int .i64 (f i 2), .int .i64 (f i 3)]⟩ := by
  obtain ⟨h1, h2⟩ := hg.struct Tryz.underlying93
  rw [n93] at h1
  match cs, h1 with
  | [c0, c1], _ =>
    have f0 := h2 _ (.head _)
    have f1 := h2 _ (.tail _ (.head _))
    try dsimp only at f0 f1
    simp only [n3, n91, Nat.reduceAdd, Nat.reduceMul, Nat.zero_add, Nat.zero_mul, Nat.one_mul, List.drop_zero, List.drop_succ_cons, List.take_succ_cons, List.take_zero, List.drop_nil, List.take_nil] at f0 f1
    obtain ⟨w, p0⟩ := fl_3 f0
    obtain ⟨r, n, f, p1, hn, hm⟩ := keys_in f1
    simp only [List.cons.injEq, and_true] at p0 p1
    exact ⟨w, r, n, f, by simp only [p0, p1], hn, hm⟩
structure TKI where
  (w : Int) (r n : Nat) (f : Nat → Nat → Int)
instance : Inhabited TKI := ⟨⟨0, 0, 0, fun _ _ => 0⟩⟩
theorem tracks_in {B : Nat} {m : AMem} {cs : List CV} (hg : Eng.Good Tryz.prog B m 47 cs) : ∃ r n, ∃ F : Nat → TKI, cs = [.sl r 0 0 n] ∧ n ≤ B ∧ (∃ k e, m[r]? = some ⟨k, 93, 0, e, catC n fun i => [.int .i64 (F i).w, .sl (F i).r 0 0 (F i).n]⟩) ∧
    ∀ i, i < n → (F i).n ≤ B ∧ ∃ k e, m[(F i).r]? = some ⟨k, 128, 0, e, catC (F i).n fun j => [.int .i64 ((F i).f j 0), .int .i64 ((F i).f j 1), .int .i64 ((F i).f j 2), .int .i64 ((F i).f j 3)]⟩ := by
  obtain ⟨r, n, cells, h2, h3, h4, h5, h6⟩ := hg.row Tryz.underlying47
  rw [n93] at h3 h4
  simp only [n93] at h6
  obtain ⟨F, hF⟩ := pick (n := n) (β := TKI) (P := fun i t => (cells.drop (i * 2)).take 2 = [.int .i64 t.w, .sl t.r 0 0 t.n] ∧ t.n ≤ B ∧ ∃ k e, m[t.r]? = some ⟨k, 128, 0, e, catC t.n fun j => [.int .i64 (t.f j 0), .int .i64 (t.f j 1), .int .i64 (t.f j 2), .int .i64 (t.f j 3)]⟩) fun i hi => by
    obtain ⟨w, r, n, f, p, hn, hm⟩ := track_in (h6 i hi)
    exact ⟨⟨w, r, n, f⟩, p, hn, hm⟩
  exact ⟨r, n, F, h2, h5, ⟨.ro, _, by rw [← catC_of (w := 2) (fun _ => rfl) n cells h4 fun i hi => (hF i hi).1]; exact h3⟩, fun i hi => (hF i hi).2⟩
instance : Inhabited (SC × RWs) := ⟨⟨0, 0, 0, 0, 0, 0, 0, fun _ => 0, 0, 0, 0, 0, 0, 0, 0, fun _ => 0, fun _ _ => 0, fun _ => 0, fun _ => 0, fun _ => 0, fun _ _ => 0, fun _ _ _ => 0, fun _ => 0, fun _ => 0, fun _ => 0, fun _ => 0, fun _ => 0, fun _ => 0, fun _ => 0, fun _ _ _ => 0, fun _ => 0⟩, ⟨0, 0, 0, 0, 0, 0, 0, 0, fun _ => 0, fun _ => 0⟩⟩
theorem scene_in {B : Nat} {m : AMem} {cs : List CV} (hB : B ≤ 1000000000000) (hg : Eng.Good Tryz.prog B m 51 cs) : ∃ q : SC × RWs, cs = scC q.1 q.2 ∧ ScR 89 93 128 110 99 m q.1 q.2 ∧ (0 ≤ q.1.sd ∧ q.1.sd ≤ 18446744073709551615) := by
  obtain ⟨h1, h2⟩ := hg.struct Tryz.underlying51
  rw [n51] at h1
  match cs, h1 with
  | [c0, c1, c2, c3, c4, c5, c6, c7, c8, c9, c10, c11, c12, c13, c14, c15, c16], _ =>
    have f0 := h2 _ (.head _)
    try dsimp only at f0
    simp only [n45, Nat.reduceAdd, Nat.reduceMul, Nat.zero_add, Nat.zero_mul, Nat.one_mul, List.drop_zero, List.drop_succ_cons, List.take_succ_cons, List.take_zero, List.drop_nil, List.take_nil] at f0
    have f1 := h2 _ (.tail _ (.head _))
    try dsimp only at f1
    simp only [n3, Nat.reduceAdd, Nat.reduceMul, Nat.zero_add, Nat.zero_mul, Nat.one_mul, List.drop_zero, List.drop_succ_cons, List.take_succ_cons, List.take_zero, List.drop_nil, List.take_nil] at f1
    have f2 := h2 _ (.tail _ (.tail _ (.head _)))
    try dsimp only at f2
    simp only [n3, Nat.reduceAdd, Nat.reduceMul, Nat.zero_add, Nat.zero_mul, Nat.one_mul, List.drop_zero, List.drop_succ_cons, List.take_succ_cons, List.take_zero, List.drop_nil, List.take_nil] at f2
    have f3 := h2 _ (.tail _ (.tail _ (.tail _ (.head _))))
    try dsimp only at f3
    simp only [n2, Nat.reduceAdd, Nat.reduceMul, Nat.zero_add, Nat.zero_mul, Nat.one_mul, List.drop_zero, List.drop_succ_cons, List.take_succ_cons, List.take_zero, List.drop_nil, List.take_nil] at f3
    have f4 := h2 _ (.tail _ (.tail _ (.tail _ (.tail _ (.head _)))))
    try dsimp only at f4
    simp only [n46, Nat.reduceAdd, Nat.reduceMul, Nat.zero_add, Nat.zero_mul, Nat.one_mul, List.drop_zero, List.drop_succ_cons, List.take_succ_cons, List.take_zero, List.drop_nil, List.take_nil] at f4
    have f5 := h2 _ (.tail _ (.tail _ (.tail _ (.tail _ (.tail _ (.head _))))))
    try dsimp only at f5
    simp only [n47, Nat.reduceAdd, Nat.reduceMul, Nat.zero_add, Nat.zero_mul, Nat.one_mul, List.drop_zero, List.drop_succ_cons, List.take_succ_cons, List.take_zero, List.drop_nil, List.take_nil] at f5
    have f6 := h2 _ (.tail _ (.tail _ (.tail _ (.tail _ (.tail _ (.tail _ (.head _)))))))
    try dsimp only at f6
    simp only [n48, Nat.reduceAdd, Nat.reduceMul, Nat.zero_add, Nat.zero_mul, Nat.one_mul, List.drop_zero, List.drop_succ_cons, List.take_succ_cons, List.take_zero, List.drop_nil, List.take_nil] at f6
    have f7 := h2 _ (.tail _ (.tail _ (.tail _ (.tail _ (.tail _ (.tail _ (.tail _ (.head _))))))))
    try dsimp only at f7
    simp only [n49, Nat.reduceAdd, Nat.reduceMul, Nat.zero_add, Nat.zero_mul, Nat.one_mul, List.drop_zero, List.drop_succ_cons, List.take_succ_cons, List.take_zero, List.drop_nil, List.take_nil] at f7
    obtain ⟨w, h, sm, dp, fr, sh, sd, k0, k1, k2, p0, bs⟩ := fl_45 f0
    obtain ⟨ey, p1⟩ := fl_3 f1
    obtain ⟨lk, p2⟩ := fl_3 f2
    obtain ⟨wd, p3⟩ := fl_2 f3
    obtain ⟨rp, np, fp, p4, np9, mp⟩ := paints_in f4
    obtain ⟨rt, nt, ft, p5, nt9, mt, mk⟩ := tracks_in f5
    obtain ⟨rj, nj, fj, p6, nj9, mj⟩ := joints_in f6
    obtain ⟨rx, nx, fx, p7, nx9, mx⟩ := shapes_in f7
    simp only [List.cons.injEq, and_true] at p0 p1 p2 p3 p4 p5 p6 p7
    refine ⟨(⟨w, h, sm, dp, fr, sh, sd, fun j => [k0, k1, k2].getD j 0, ey, lk, wd, np, nt, nj, nx, fun i => fp i 0, fun i a => fp i (a + 1), fun i => fp i 4, fun i => (ft i).w, fun i => (ft i).n, fun i j => (ft i).f j 0, fun i j a => (ft i).f j (a + 1), fun i => fj i 0, fun i => fj i 1, fun i => fj i 2, fun i => fj i 3, fun i => fx i 0, fun i => fx i 1, fun i => fx i 2, fun i q a => fx i (3 + 3 * q + a), fun i => fx i 12⟩, ⟨rp, 0, rt, 0, rj, 0, rx, 0, fun i => (ft i).r, fun _ => 0⟩), ?_, ⟨mp, mt, fun i hi => (mk i hi).2, mj, mx, by show np ≤ _; omega, by show nt ≤ _; omega, by show nj ≤ _; omega, by show nx ≤ _; omega, fun i hi => by have := (mk i hi).1; show (ft i).n ≤ _; omega⟩, bs⟩
    simp only [p0, p1, p2, p3, p4, p5, p6, p7]
    rfl
theorem n22 : Tryz.prog.cellsOf 22 = 1 := by kernel_rfl
theorem scenes_in {B : Nat} {m : AMem} {cs : List CV} (hB : B ≤ 1000000000000) (hg : Eng.Good Tryz.prog B m 22 cs) : ∃ r n, ∃ F : Nat → SC × RWs, cs = [.sl r 0 0 n] ∧ n ≤ B ∧ (∃ k e, m[r]? = some ⟨k, 51, 0, e, catC n fun i => scC (F i).1 (F i).2⟩) ∧ ∀ i, i < n → ScR 89 93 128 110 99 m (F i).1 (F i).2 ∧ (0 ≤ (F i).1.sd ∧ (F i).1.sd ≤ 18446744073709551615) := by
  obtain ⟨r, n, cells, h2, h3, h4, h5, h6⟩ := hg.row Tryz.underlying22
  rw [n51] at h3 h4
  simp only [n51] at h6
  obtain ⟨F, hF⟩ := pick (n := n) (β := SC × RWs) (P := fun i q => (cells.drop (i * 17)).take 17 = scC q.1 q.2 ∧ ScR 89 93 128 110 99 m q.1 q.2 ∧ (0 ≤ q.1.sd ∧ q.1.sd ≤ 18446744073709551615)) fun i hi => scene_in hB (h6 i hi)
  exact ⟨r, n, F, h2, h5, ⟨.ro, _, by rw [← catC_of (w := 17) (fun _ => rfl) n cells h4 fun i hi => (hF i hi).1]; exact h3⟩, fun i hi => (hF i hi).2⟩
namespace quotaAdmitsLaw
theorem law (m : AMem) (avs : List AV) (h : All2 (fun t a => goodA Tryz.prog 1048576 m t a) Tryz.f3.params.toList avs) : Ctr Tryz.prog 3 avs m (.one (.bool true)) m := by
  rw [Tryz.params3] at h
  obtain ⟨a0, l0, rfl, g0, h⟩ := all2_cons h
  obtain ⟨a1, l1, rfl, g1, h⟩ := all2_cons h
  obtain rfl := all2_nil h
  obtain ⟨c, rfl, hg⟩ := g0.one (fun fs h => by rw [Tryz.underlying22] at h; cases h) (fun k e h => by rw [Tryz.underlying22] at h; cases h)
  obtain ⟨r, n, F, e, hn, hr, hF⟩ := scenes_in (by decide) hg
  simp only [List.cons.injEq, and_true] at e
  subst e
  obtain ⟨c, rfl, hg⟩ := g1.one (fun fs h => by rw [Tryz.underlying3] at h; cases h) (fun k e h => by rw [Tryz.underlying3] at h; cases h)
  obtain ⟨b, hb, hb2⟩ := hg.int Tryz.underlying3
  simp only [List.cons.injEq, and_true] at hb
  subst hb
  have hb3 : -9223372036854775808 ≤ b ∧ b ≤ 9223372036854775807 := by simpa [IntKind.min, IntKind.max, IntKind.signed, IntKind.bits] using hb2
  exact quotaAdmits_c r 0 n (fun i => (F i).1) (fun i => (F i).2) b m hr (fun i hi => (hF i hi).1) (fun i hi => (hF i hi).2) (by omega) hb3.1 hb3.2
theorem contract (H : Type) (enc : TypeId × Value → H) (W : World) (base : Nat) (args : Array Value) (ds gs : List (DataW H)) (before : List MemPlace)
    (hval : ∀ (j : Nat) t v, Tryz.f3.params[j]? = some t → args[j]? = some v → Value.okWide Tryz.prog W .any base t v)
    (hW : DataW.Whole enc Tryz.prog Tryz.f3.params.toList Rows.quotaAdmitsSpec.vars false W args.toList ds gs before) (hk : Rows.uptoSmall H (ds ++ gs) = true) :
    Calls Tryz.prog 3 args W fun e W' => ∃ v, e = .returned v ∧ Rows.quotaAdmitsSpec.post enc Tryz.prog Tryz.f3 false true false false W args v W' := by
  refine law_true (B := 1048576) (bulk := Rows.uptoBulk) rfl ?_ laidOut laid (by kernel_rfl) (tb := 4) rfl Tryz.underlying4 isBulk (fun d hd => small hk d (List.mem_append_left _ hd)) hval hW fun m avs _ h => law m avs h
  obtain ⟨p, q, hA, _⟩ := hW
  rw [Tryz.params3] at hA
  rintro l rfl
  obtain ⟨v0, vs0, d0, ds0, p0, q0, _, rfl, _, _, r0⟩ := ChangeShapes.trodAll_cons hA
  obtain ⟨v1, vs1, d1, ds1, p1, q1, _, rfl, _, _, r1⟩ := ChangeShapes.trodAll_cons r0
  obtain ⟨_, rfl, _⟩ := ChangeShapes.trodAll_nil r1
  rfl
theorem door_met (os : Os) (args : Array Value) : laidMetH Tryz.prog Rows.quotaAdmitsUptoRow.laid ((World.doorLaid Tryz.prog 400 os).forCall (fun _ _ => 0) ⟨#[], args, []⟩).memory :=
  laidMetH_of_parts3 (fuel := 8) (laidMet_of_run' 8 (by kernel_rfl) (by kernel_rfl)) (by kernel_rfl) (by kernel_rfl)
theorem lifted (os : Os) (started : os.Started) (H : Type) (enc : TypeId × Value → H) (X : Stop.Interp) :
    ReturnsInHanded {} Tryz.checked os 3 .any ((Rows.OpenSpec.upto Rows.quotaAdmitsSpec).preRow enc Tryz.prog Tryz.f3 Rows.quotaAdmitsUptoRow.domain false Rows.quotaAdmitsUptoRow.laid) (((Rows.OpenSpec.upto Rows.quotaAdmitsSpec).at X).post enc Tryz.prog Tryz.f3 false true false false) := by
  refine returns_row_cond (C := Tryz.checked) (s := Rows.OpenSpec.upto Rows.quotaAdmitsSpec) (k := Rows.uptoSmall) rfl own started (by kernel_rfl) Tryz.func3
    (witness_row (enc := enc) (C := Tryz.checked) (s := Rows.OpenSpec.upto Rows.quotaAdmitsSpec) (k := Rows.uptoSmall) rfl false (World.doorLaid Tryz.prog 400 os) #[.slice none 0 0, .int .i64 0] 8 rfl (World.shaped_of_RefB (by kernel_rfl) (by kernel_rfl)) (by kernel_rfl)
      (x := ([.nil, .lit (.int .i64 0)], [], [])) (by kernel_rfl) rfl (by kernel_rfl) (door_met os _)) ?_
  intro W base args ds gs before hval hW hk
  exact contract H enc W base args ds gs before hval hW hk
theorem row_proved : Rows.QuotaAdmitsUptoSaid :=
  OpenClaim.holds_of_cond 3 Tryz.f3 rfl rfl rfl rfl rfl rfl rfl ⟨rfl, rfl, rfl, rfl, rfl⟩ rfl rfl rfl rfl rfl (by kernel_rfl) Tryz.func3 (by kernel_rfl)
    (of_decide_eq_true (by kernel_rfl)) (by unfold Func.isWrapper; first | (rw [if_pos (by decide +kernel)]; kernel_rfl) | (rw [if_neg (by decide +kernel)]; exact ⟨rfl, rfl⟩))
    (fun os started H enc _ X => by rw [OpenClaim.pre_eq_preRow]; exact lifted os started H enc X)
theorem proved : Rows.QuotaAdmitsUptoCardSaid :=
  Claim7.holds_tied_plain_at .later [] [.data, .data, .data] true (true, "9bd7df34c501509857bf43a8259bfb83ec33a537c89041dccf4c81af7017e42b") false
    row_proved (fun _ h => by cases h) (by kernel_rfl) (fun _ h => by cases h) quotaAdmitsUpto_row_tie rfl ⟨rfl, rfl⟩ (by kernel_rfl) rfl
    (fun f fn hf hfn => by
      obtain rfl : f = 3 := Option.some.inj ((show Tryz.prog.funcNamed "zoetrope/zoetropelaw36.QuotaAdmits" = some 3 by kernel_rfl).symm.trans hf) |>.symm
      obtain rfl : fn = Tryz.f3 := (Option.some.inj (Tryz.func3.symm.trans hfn)).symm
      exact ⟨by kernel_rfl, fun j t ht => by
        rw [Tryz.params3] at ht
        have h3 : t ∈ [22, 3] := by
          have := List.mem_of_getElem? (by simpa using ht)
          simpa using this
        simp only [List.mem_cons, List.not_mem_nil, or_false] at h3
        rcases h3 with rfl | rfl
        · exact (show Tryz.prog.wantsStandIn 22 = false by kernel_rfl)
        · exact (show Tryz.prog.wantsStandIn 3 = false by kernel_rfl)⟩)
    (by kernel_rfl)
end quotaAdmitsLaw
end Go.Proofs.YtdeacicnfglhdaaGreatDoor
