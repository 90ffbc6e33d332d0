/- StampKeys answers true whatever bytes, kind, frame and keys it is given; the kinds' names that its row lists are tied to the program's text; no other conditions. -/
import Derived.Test.YtmjbbnfmhgcfaaaDoorM7
import Derived.Test.YtmjbbnfmhgcfaaaDoorRows
import Derived.Test.YtmjbbnfmhgcfaaaDoorCards
import Derived.Test.YtmjbbnfmhgcfaaaDoorTie
import Derived.ProofKit
import Derived.OpenShut
import Derived.SevenTiedAt
set_option linter.unusedSimpArgs false
set_option linter.unusedVariables false
set_option maxRecDepth 100000
set_option maxHeartbeats 4000000
namespace Go.Proofs.YtmjbbnfmhgcfaaaDoor
open Go Go.Eng

theorem bulk_one {H : Type} (d : DataW H) : 1 ≤ Rows.uptoBulk d := by
  cases d with
  | lit l => cases l <;> simp [Rows.uptoBulk]
  | nil => simp [Rows.uptoBulk]
  | ptr d => simp [Rows.uptoBulk]
  | slice elems spare => simp [Rows.uptoBulk]
  | agg parts => simp [Rows.uptoBulk]
  | iface t d => simp [Rows.uptoBulk]
  | map entries => simp [Rows.uptoBulk]
  | held h => simp [Rows.uptoBulk]
theorem bulk_mem {H : Type} {d : DataW H} : ∀ {l : List (DataW H)}, d ∈ l → Rows.uptoBulk d ≤ Rows.uptoBulkAll l
  | x :: r, h => by
    simp only [Rows.uptoBulkAll]
    rcases List.mem_cons.1 h with rfl | h
    · omega
    · have := bulk_mem h; omega
theorem bulk_len {H : Type} : ∀ (l : List (DataW H)), l.length ≤ Rows.uptoBulkAll l
  | [] => by simp
  | x :: r => by have := bulk_one x; have := bulk_len r; simp only [Rows.uptoBulkAll, List.length_cons]; omega
theorem isBulk {H : Type} : IsBulk (H := H) Rows.uptoBulk where
  str := fun l => by simp [Rows.uptoBulk]
  agg := fun l d h => by have := bulk_mem h; simp only [Rows.uptoBulk]; omega
  row := fun l s d h => by have := bulk_mem h; simp only [Rows.uptoBulk]; omega
  len := fun l s => by have := bulk_len l; simp only [Rows.uptoBulk]; omega
theorem small {H : Type} {l : List (DataW H)} (hk : Rows.uptoSmall H l = true) : ∀ d, d ∈ l → Rows.uptoBulk d ≤ 1048576 := fun d hd => by
  have h1 : Rows.uptoBulkAll l ≤ 1048576 := by simpa [Rows.uptoSmall] using hk
  have := bulk_mem hd; omega
theorem own : ownKnob Tryd.prog.godebug = none := by kernel_rfl
theorem laidOut : laidOutB Tryd.prog = true := by kernel_rfl
theorem laid : laidB Tryd.prog = true := by kernel_rfl

theorem n22 : Tryd.prog.cellsOf 22 = 1 := by kernel_rfl
theorem n5 : Tryd.prog.cellsOf 5 = 1 := by kernel_rfl
theorem n3 : Tryd.prog.cellsOf 3 = 1 := by kernel_rfl
theorem n23 : Tryd.prog.cellsOf 23 = 1 := by kernel_rfl
theorem n26 : Tryd.prog.cellsOf 26 = 32 := by kernel_rfl
theorem bytes_in {B : Nat} {m : AMem} {cs : List CV} (hg : Eng.Good Tryd.prog B m 22 cs) : ∃ r bs, cs = [.sl r 0 0 bs.length] ∧ m[r]? = some ⟨.ro, 5, 0, 1, u8l bs⟩ ∧ U8ok bs ∧ bs.length ≤ B := by
  obtain ⟨r, n, cells, h2, h3, h4, h5, h6⟩ := hg.row Tryd.underlying22
  rw [n5] at h3 h4
  obtain ⟨xs, hxs, hx⟩ := ints_of (k := .u8) n cells (by omega) fun j hj => by
    obtain ⟨x, q3, q4⟩ := (h6 j hj).int Tryd.underlying5
    rw [n5, Nat.mul_one] at q3
    exact ⟨x, q3, q4⟩
  have hl : xs.length = n := by rw [hxs, List.length_map] at h4; omega
  exact ⟨r, xs, by rw [hl]; exact h2, by rw [h3, hxs]; rfl, fun x hxx => by simpa [IntKind.min, IntKind.max, IntKind.signed, IntKind.bits] using hx x hxx, by omega⟩
theorem digs_in {B : Nat} {m : AMem} {cs : List CV} (hg : Eng.Good Tryd.prog B m 23 cs) : ∃ r n D, cs = [.sl r 0 0 n] ∧ m[r]? = some ⟨.ro, 26, 0, 32, u8l D⟩ ∧ D.length = 32 * n ∧ U8ok D := by
  obtain ⟨r, n, cells, h2, h3, h4, h5, h6⟩ := hg.row Tryd.underlying23
  rw [n26] at h3 h4
  obtain ⟨xs, hxs, hx⟩ := rows_of (k := .u8) (sz := 32) n cells h4 fun j hj => by
    have hgj := h6 j hj
    rw [n26] at hgj
    obtain ⟨g1, g2⟩ := hgj.arr Tryd.underlying26
    rw [n26] at g1
    exact ints_of (k := .u8) 32 _ g1 fun i hi => by
      obtain ⟨y, q3, q4⟩ := (g2 i hi).int Tryd.underlying5
      rw [n5, Nat.mul_one] at q3
      exact ⟨y, q3, q4⟩
  refine ⟨r, n, xs, h2, by rw [h3, hxs]; rfl, ?_, fun x hxx => by simpa [IntKind.min, IntKind.max, IntKind.signed, IntKind.bits] using hx x hxx⟩
  rw [hxs, List.length_map] at h4; omega
namespace stampKeysLaw
theorem law (B : Nat) (m : AMem) (avs : List AV) (hgb : gB m 0 = some NMS) (h : All2 (fun t a => goodA Tryd.prog B m t a) Tryd.f3.params.toList avs) : Ctr Tryd.prog 3 avs m (.one (.bool true)) m := by
  rw [Tryd.params3] at h
  obtain ⟨a0, l0, rfl, g0, h⟩ := all2_cons h
  obtain ⟨a1, l1, rfl, g1, h⟩ := all2_cons h
  obtain ⟨a2, l2, rfl, g2, h⟩ := all2_cons h
  obtain ⟨a3, l3, rfl, g3, h⟩ := all2_cons h
  obtain rfl := all2_nil h
  obtain ⟨c0, rfl, hg0⟩ := g0.one (fun fs h => by rw [Tryd.underlying22] at h; cases h) (fun k e h => by rw [Tryd.underlying22] at h; cases h)
  obtain ⟨c1, rfl, hg1⟩ := g1.one (fun fs h => by rw [Tryd.underlying3] at h; cases h) (fun k e h => by rw [Tryd.underlying3] at h; cases h)
  obtain ⟨c2, rfl, hg2⟩ := g2.one (fun fs h => by rw [Tryd.underlying3] at h; cases h) (fun k e h => by rw [Tryd.underlying3] at h; cases h)
  obtain ⟨c3, rfl, hg3⟩ := g3.one (fun fs h => by rw [Tryd.underlying23] at h; cases h) (fun k e h => by rw [Tryd.underlying23] at h; cases h)
  obtain ⟨rb, bs, e0, hb, hbu, _⟩ := bytes_in hg0
  obtain ⟨k, e1, _, _⟩ := hg1.int Tryd.underlying3
  obtain ⟨f, e2, _, _⟩ := hg2.int Tryd.underlying3
  obtain ⟨lo, np, D, e3, hD, hl, hu⟩ := digs_in hg3
  simp only [List.cons.injEq, and_true] at e0 e1 e2 e3
  subst e0; subst e1; subst e2; subst e3
  rcases Nat.lt_or_ge 3000 bs.length with h | h
  · exact keys_g1 rb lo np bs k f m h
  · rcases Nat.lt_or_ge 30 np with h2 | h2
    · exact keys_g2 rb lo np bs k f m h h2
    · exact keys_c rb lo np bs D k f m hgb hb hbu h hD hl hu h2
theorem contract (H : Type) (enc : TypeId × Value → H) (W : World) (base : Nat) (args : Array Value) (ds gs : List (DataW H)) (before : List MemPlace)
    (hval : ∀ (j : Nat) t v, Tryd.f3.params[j]? = some t → args[j]? = some v → Value.okWide Tryd.prog W .any base t v)
    (hW : DataW.Whole enc Tryd.prog Tryd.f3.params.toList Rows.stampKeysSpec.vars false W args.toList ds gs before) (hlm : laidMetH Tryd.prog Rows.stampKeysRow.laid W) :
    Calls Tryd.prog 3 args W fun e W' => ∃ v, e = .returned v ∧ Rows.stampKeysSpec.post enc Tryd.prog Tryd.f3 false true false false W args v W' := by
  refine law_true_laid (B := Rows.uptoBulkAll ds) (bulk := Rows.uptoBulk) rfl (gv := 0) (tv := 59) (cvv := NMS) (fuelv := 8) hlm rfl (by kernel_rfl) (by kernel_rfl) (by kernel_rfl) rfl (of_decide_eq_true (by kernel_rfl)) ?_ laidOut laid (by kernel_rfl) (tb := 4) rfl Tryd.underlying4 isBulk (fun d hd => bulk_mem hd) hval hW fun m avs _ hgb h => law _ m avs hgb h
  obtain ⟨p, q, hA, _⟩ := hW
  rw [Tryd.params3] at hA
  rintro l rfl
  obtain ⟨v0, vs0, d0, ds0, p0, q0, _, rfl, _, _, r0⟩ := ChangeShapes.trodAll_cons hA
  obtain ⟨v1, vs1, d1, ds1, p1, q1, _, rfl, _, _, r1⟩ := ChangeShapes.trodAll_cons r0
  obtain ⟨v2, vs2, d2, ds2, p2, q2, _, rfl, _, _, r2⟩ := ChangeShapes.trodAll_cons r1
  obtain ⟨v3, vs3, d3, ds3, p3, q3, _, rfl, _, _, r3⟩ := ChangeShapes.trodAll_cons r2
  obtain ⟨_, rfl, _⟩ := ChangeShapes.trodAll_nil r3
  rfl
theorem door_met (os : Os) (args : Array Value) : laidMetH Tryd.prog Rows.stampKeysRow.laid ((World.doorLaid Tryd.prog 400 os).forCall (fun _ _ => 0) ⟨#[], args, []⟩).memory :=
  laidMetH_of_parts3 (fuel := 8) (laidMet_of_run' 8 (by kernel_rfl) (by kernel_rfl)) (by kernel_rfl) (by kernel_rfl)
theorem lifted (os : Os) (started : os.Started) (H : Type) (enc : TypeId × Value → H) :
    ReturnsInHanded {} Tryd.checked os 3 .any (fun w args => (Rows.stampKeysSpec.pre enc Tryd.prog Tryd.f3 [] false w args ∧ laidMetH Tryd.prog Rows.stampKeysRow.laid w) ∧ sizedMet enc Tryd.prog Tryd.f3 (OpenSpec.ofChange Rows.stampKeysSpec) false w args)
      (Rows.stampKeysSpec.post enc Tryd.prog Tryd.f3 false true false false) := by
  refine returnsInHanded_of_change_and (C := Tryd.checked) (X := fun w _ => laidMetH Tryd.prog Rows.stampKeysRow.laid w) (fun _ _ _ hh h => h.of_heap hh) own started (by kernel_rfl) Tryd.func3
    (ChangeSpec.witness_shaped (enc := enc) (C := Tryd.checked) (os := os) (X := fun w _ => laidMetH Tryd.prog Rows.stampKeysRow.laid w) false (World.doorLaid Tryd.prog 400 os) #[.slice none 0 0, .int .i64 0, .int .i64 0, .slice none 0 0] 8 rfl (World.shaped_of_RefB (by kernel_rfl) (by kernel_rfl)) (by kernel_rfl) (by kernel_rfl) (by kernel_rfl) (door_met os _)) ?_
  intro W base args ds gs before hval hW _ _ hlm _
  exact contract H enc W base args ds gs before hval hW hlm
theorem row_proved : Rows.StampKeysSaid :=
  OpenClaim.holds_of_wide 3 Tryd.f3 rfl rfl rfl rfl rfl rfl rfl ⟨rfl, rfl, rfl, rfl, rfl⟩ rfl rfl rfl rfl rfl (by kernel_rfl) Tryd.func3 (by kernel_rfl)
    (of_decide_eq_true (by kernel_rfl)) (by unfold Func.isWrapper; first | (rw [if_pos (by decide +kernel)]; kernel_rfl) | (rw [if_neg (by decide +kernel)]; exact ⟨rfl, rfl⟩))
    (fun os started H enc _ => lifted os started H enc)
theorem proved : Rows.StampKeysCardSaid :=
  Claim7.holds_tied_plain_at .later [] [.data] true (true, "8bad857a7ae16fec26ca8fc41db4db3ffb572e7f485a4b2b873706824b21871c") false
    row_proved (fun _ h => by cases h) (by kernel_rfl) (fun _ h => by cases h) stampKeys_row_tie rfl ⟨rfl, rfl⟩ (by kernel_rfl) rfl
    (fun f fn hf hfn => by
      obtain rfl : f = 3 := Option.some.inj ((show Tryd.prog.funcNamed "zoetrope/zoetropelaw26.StampKeys" = some 3 by kernel_rfl).symm.trans hf) |>.symm
      obtain rfl : fn = Tryd.f3 := (Option.some.inj (Tryd.func3.symm.trans hfn)).symm
      exact ⟨by kernel_rfl, fun j t ht => by
        rw [Tryd.params3] at ht
        have h3 : t ∈ [22, 3, 3, 23] := by
          have := List.mem_of_getElem? (by simpa using ht)
          simpa using this
        simp only [List.mem_cons, List.not_mem_nil, or_false] at h3
        rcases h3 with rfl | rfl | rfl | rfl
        · exact (show Tryd.prog.wantsStandIn 22 = false by kernel_rfl)
        · exact (show Tryd.prog.wantsStandIn 3 = false by kernel_rfl)
        · exact (show Tryd.prog.wantsStandIn 3 = false by kernel_rfl)
        · exact (show Tryd.prog.wantsStandIn 23 = false by kernel_rfl)⟩)
    (by kernel_rfl)
end stampKeysLaw
end Go.Proofs.YtmjbbnfmhgcfaaaDoor
