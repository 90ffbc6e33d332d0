/- PlateBack answers true whatever picture and bytes it is given, of up to 1048576 values; the package-level variables that its row lists are tied to the program's text; no other conditions. -/
import Derived.Test.YtbigijnadkeecaaDoorM6
import Derived.Test.YtbigijnadkeecaaDoorRows
import Derived.Test.YtbigijnadkeecaaDoorCards
import Derived.Test.YtbigijnadkeecaaDoorTie
import Derived.ProofKit
import Derived.OpenShut
import Derived.SevenTiedAt
set_option linter.unusedSimpArgs false
set_option linter.unusedVariables false
set_option maxRecDepth 100000
set_option maxHeartbeats 4000000
namespace Go.Proofs.YtbigijnadkeecaaDoor
open Go Go.Eng

theorem bulk_one {H : Type} (d : DataW H) : 1 ≤ Rows.uptoBulk d := by
  cases d with
  | lit l => cases l <;> simp [Rows.uptoBulk]
  | nil => simp [Rows.uptoBulk]
  | ptr d => simp [Rows.uptoBulk]
  | slice elems spare => simp [Rows.uptoBulk]
  | agg parts => simp [Rows.uptoBulk]
  | iface t d => simp [Rows.uptoBulk]
  | map entries => simp [Rows.uptoBulk]
  | held h => simp [Rows.uptoBulk]
theorem bulk_mem {H : Type} {d : DataW H} : ∀ {l : List (DataW H)}, d ∈ l → Rows.uptoBulk d ≤ Rows.uptoBulkAll l
  | x :: r, h => by
    simp only [Rows.uptoBulkAll]
    rcases List.mem_cons.1 h with rfl | h
    · omega
    · have := bulk_mem h; omega
theorem bulk_len {H : Type} : ∀ (l : List (DataW H)), l.length ≤ Rows.uptoBulkAll l
  | [] => by simp
  | x :: r => by have := bulk_one x; have := bulk_len r; simp only [Rows.uptoBulkAll, List.length_cons]; omega
theorem isBulk {H : Type} : IsBulk (H := H) Rows.uptoBulk where
  str := fun l => by simp [Rows.uptoBulk]
  agg := fun l d h => by have := bulk_mem h; simp only [Rows.uptoBulk]; omega
  row := fun l s d h => by have := bulk_mem h; simp only [Rows.uptoBulk]; omega
  len := fun l s => by have := bulk_len l; simp only [Rows.uptoBulk]; omega
theorem small {H : Type} {l : List (DataW H)} (hk : Rows.uptoSmall H l = true) : ∀ d, d ∈ l → Rows.uptoBulk d ≤ 1048576 := fun d hd => by
  have h1 : Rows.uptoBulkAll l ≤ 1048576 := by simpa [Rows.uptoSmall] using hk
  have := bulk_mem hd; omega
theorem own : ownKnob Tryd.prog.godebug = none := by kernel_rfl
theorem laidOut : laidOutB Tryd.prog = true := by kernel_rfl
theorem laid : laidB Tryd.prog = true := by kernel_rfl

theorem n3 : Tryd.prog.cellsOf 3 = 1 := by kernel_rfl
theorem n5 : Tryd.prog.cellsOf 5 = 1 := by kernel_rfl
theorem n69 : Tryd.prog.cellsOf 69 = 3 := by kernel_rfl
theorem n52 : Tryd.prog.cellsOf 52 = 3 := by kernel_rfl
theorem n42 : Tryd.prog.cellsOf 42 = 1 := by kernel_rfl
theorem n56 : Tryd.prog.cellsOf 56 = 1 := by kernel_rfl
theorem dots_of8 {cells : List CV} {n : Nat} {xs : List Int} (hl : cells.length = n * 3) (he : cells = xs.map (CV.int .u8)) : cells = d8 n (fun i k => xs.getD (i * 3 + k) 0) := by
  refine d8_of hl fun i k hi hk => ?_
  have hlt : i * 3 + k < xs.length := by rw [he, List.length_map] at hl; omega
  rw [he, List.getElem?_map, List.getElem?_eq_getElem hlt]
  simp [List.getD_eq_getElem?_getD, List.getElem?_eq_getElem hlt]
theorem drow_in {B : Nat} {m : AMem} {cs : List CV} (hg : Eng.Good Tryd.prog B m 42 cs) : ∃ r n G, cs = [.sl r 0 0 n] ∧ (∃ k ez, m[r]? = some ⟨k, 69, 0, ez, d8 n G⟩) ∧ n ≤ B ∧ ∀ i k, 0 ≤ G i k ∧ G i k < 256 := by
  obtain ⟨r, n, cells, h2, h3, h4, h5, h6⟩ := hg.row Tryd.underlying42
  rw [n69] at h3 h4
  simp only [n69] at h6
  obtain ⟨xs, hxs, hx⟩ := rows_of (k := .u8) (sz := 3) n cells h4 fun i hi => by
    obtain ⟨q1, q2⟩ := (h6 i hi).arr Tryd.underlying69
    refine ints_of 3 _ (by rw [q1, n69]) fun j hj => ?_
    obtain ⟨x, q3, q4⟩ := (q2 j hj).int Tryd.underlying5
    rw [n5, Nat.mul_one] at q3
    exact ⟨x, q3, q4⟩
  refine ⟨r, n, _, h2, ⟨.ro, 3, by rw [← dots_of8 h4 hxs]; exact h3⟩, h5, fun i k => ?_⟩
  rw [List.getD_eq_getElem?_getD]
  cases hq : xs[i * 3 + k]? with
  | none => simp
  | some x =>
    have := hx x (List.mem_of_getElem? hq)
    simp [IntKind.min, IntKind.max, IntKind.signed, IntKind.bits] at this
    simp; omega
theorem pic_in21 {B : Nat} {m : AMem} {a : AV} (h : goodA Tryd.prog B m 52 a) : ∃ W H r n G, a = .agg [.int .i64 W, .int .i64 H, .sl r 0 0 n] ∧ (∃ k ez, m[r]? = some ⟨k, 69, 0, ez, d8 n G⟩) ∧ n ≤ B ∧ ∀ i k, 0 ≤ G i k ∧ G i k < 256 := by
  obtain ⟨cs, rfl, hg⟩ := h.agg (.inl ⟨_, Tryd.underlying52⟩)
  obtain ⟨hl, hf⟩ := hg.struct Tryd.underlying52
  rw [n52] at hl
  match cs, hl with
  | [a, b, c], _ =>
    obtain ⟨W, h0, _⟩ := (hf _ (.head _)).int Tryd.underlying3
    obtain ⟨H, h1, _⟩ := (hf _ (.tail _ (.head _))).int Tryd.underlying3
    obtain ⟨r, n, G, h2, p, q, s⟩ := drow_in (hf _ (.tail _ (.tail _ (.head _))))
    simp only [n3, n42, List.drop_zero, List.drop_succ_cons, List.take_succ_cons, List.take_zero, List.cons.injEq, and_true] at h0 h1 h2
    subst h0; subst h1; subst h2
    exact ⟨W, H, r, n, G, rfl, p, q, s⟩
theorem bytes_in {B : Nat} {m : AMem} {a : AV} (h : goodA Tryd.prog B m 56 a) : ∃ r xs, a = .one (.sl r 0 0 xs.length) ∧ (∃ k ez, m[r]? = some ⟨k, 5, 0, ez, u8c xs⟩) ∧ xs.length ≤ B ∧ ByteL xs := by
  obtain ⟨c, rfl, hg⟩ := h.one (fun fs h => by rw [Tryd.underlying56] at h; cases h) (fun k e h => by rw [Tryd.underlying56] at h; cases h)
  obtain ⟨r, n, cells, h2, h3, h4, h5, h6⟩ := hg.row Tryd.underlying56
  rw [n5] at h3 h4
  simp only [List.cons.injEq, and_true] at h2
  obtain ⟨xs, hxs, hx⟩ := ints_of (k := .u8) n cells (by omega) fun j hj => by
    obtain ⟨x, q3, q4⟩ := (h6 j hj).int Tryd.underlying5
    rw [n5, Nat.mul_one] at q3
    exact ⟨x, q3, q4⟩
  have hn : xs.length = n := by rw [hxs, List.length_map] at h4; omega
  subst hn
  exact ⟨r, xs, by rw [h2], ⟨.ro, 1, by unfold u8c; rw [← hxs]; exact h3⟩, h5, fun x hxm => by
    have := hx x hxm
    simp [IntKind.min, IntKind.max, IntKind.signed, IntKind.bits] at this
    omega⟩
theorem star141 : "*" ++ "errors.errorString" = "*errors.errorString" := by decide
theorem row141 (u : TypeId) (h : Tryd.prog.typeName? 3 u = some "*errors.errorString") : u = 141 :=
  Go.typeName_ptr_named (nm := "errors.errorString") (by rw [star141]; kernel_rfl) (by kernel_rfl) (by decide) u (by rw [star141]; exact h)
namespace plateBackLaw
theorem law (m : AMem) (avs : List AV) (hg1 : gB m 1 = some [.ifj 141]) (hg3 : gB m 3 = some (Lib.pow10Tab.map (CV.int .u64))) (h : All2 (fun t a => goodA Tryd.prog 1048576 m t a) Tryd.f5.params.toList avs) : Ctr Tryd.prog 5 avs m (.one (.bool true)) m := by
  rw [Tryd.params5] at h
  obtain ⟨a0, l0, rfl, g0, h⟩ := all2_cons h
  obtain ⟨a1, l1, rfl, g1, h⟩ := all2_cons h
  obtain rfl := all2_nil h
  obtain ⟨W, H, r, n, G, rfl, hp, hnB, hG⟩ := pic_in21 g0
  obtain ⟨rb, xs, rfl, hq, hB, hxs⟩ := bytes_in g1
  by_cases hn : n ≤ 5000
  · obtain ⟨W2, H2, N, G2, e, hdec, hN, hback⟩ := dec_both rb 0 xs.length xs rfl hB hxs 141
    have hd1 := fun m a b c => (hdec m a b c).1
    by_cases he : e = 0
    · obtain ⟨q1, q2⟩ := hback he
      have hee2 : encR W2 H2 N G2 = (xs, 0) := by
        have := q2
        unfold encR at this ⊢
        rw [if_pos q1] at this ⊢
        exact Prod.ext this rfl
      cases hs : shR W H n
      · exact back_n1 W H r n G rb xs.length xs m hp hq rfl hB hxs hg1 hg3 hn hG W2 H2 N G2 e hd1 hN he hee2 hs
      · obtain ⟨w, q, rfl, rfl, a, b, c, d⟩ := sz_nat (sh_sz hs).1
        exact back_y1 w q ⟨a, b⟩ ⟨c, d⟩ r n G rb xs.length xs m hp hq rfl hB hxs hg1 hg3 hn hG W2 H2 N G2 e hd1 hN he hee2 hs
    · cases hs : shR W H n
      · exact back_n0 W H r n G rb xs.length xs m hp hq rfl hB hxs hg1 hg3 hn hG W2 H2 N G2 e hd1 hN he hs
      · obtain ⟨w, q, rfl, rfl, a, b, c, d⟩ := sz_nat (sh_sz hs).1
        exact back_y0 w q ⟨a, b⟩ ⟨c, d⟩ r n G rb xs.length xs m hp hq rfl hB hxs hg1 hg3 hn hG W2 H2 N G2 e hd1 hN he hs
  · exact PlateBack_big W H r n G rb xs.length xs m hp hq rfl hB hxs hg1 hg3 (by omega)
theorem contract (H : Type) (enc : TypeId × Value → H) (W : World) (base : Nat) (args : Array Value) (ds gs : List (DataW H)) (before : List MemPlace)
    (hval : ∀ (j : Nat) t v, Tryd.f5.params[j]? = some t → args[j]? = some v → Value.okWide Tryd.prog W .any base t v)
    (hW : DataW.Whole enc Tryd.prog Tryd.f5.params.toList Rows.plateBackSpec.vars false W args.toList ds gs before) (hk : Rows.uptoSmall H (ds ++ gs) = true) (hlm : laidMetH Tryd.prog Rows.plateBackUptoRow.laid W) :
    Calls Tryd.prog 5 args W fun e W' => ∃ v, e = .returned v ∧ Rows.plateBackSpec.post enc Tryd.prog Tryd.f5 false true false false W args v W' := by
  rw [MakeChecks.laidMetH_plain _ _ _ (by kernel_rfl)] at hlm
  have hro1 : RoFact W 1 [.ifj 141] := by
    obtain ⟨a0, s0, hv0, _, _, _⟩ := Go.laid_sentinel hlm.tail.tail.tail.tail (g := 1) (by kernel_rfl) (by kernel_rfl) Tryd.underlying109 row141 Tryd.underlying141 Tryd.underlying143 rfl rfl Tryd.underlying9 (by kernel_rfl) (by kernel_rfl)
    exact ro_of_sentinel hv0 (by kernel_rfl)
  have hro2 : RoFact W 3 (Lib.pow10Tab.map (CV.int .u64)) := ro_of_laid (tv := 133) (fuelv := 8) laid hlm.tail.tail (by kernel_rfl) (by kernel_rfl) (by kernel_rfl) rfl (of_decide_eq_true (by kernel_rfl))
  refine law_true_ro2 (B := 1048576) (bulk := Rows.uptoBulk) rfl (g1 := 1) (g2 := 3) (t1 := 109) (t2 := 133) (c1 := [.ifj 141]) (c2 := Lib.pow10Tab.map (CV.int .u64)) hro1 hro2 (by decide) ?_ laidOut laid (by kernel_rfl) (tb := 4) rfl Tryd.underlying4 isBulk (fun d hd => small hk d (List.mem_append_left _ hd)) hval hW fun m avs _ a b h => law m avs a b h
  obtain ⟨p, q, hA, _⟩ := hW
  rw [Tryd.params5] at hA
  rintro l rfl
  obtain ⟨v0, vs0, d0, ds0, p0, q0, _, rfl, _, _, r0⟩ := ChangeShapes.trodAll_cons hA
  obtain ⟨v1, vs1, d1, ds1, p1, q1, _, rfl, _, _, r1⟩ := ChangeShapes.trodAll_cons r0
  obtain ⟨_, rfl, _⟩ := ChangeShapes.trodAll_nil r1
  rfl
theorem door_met (os : Os) (args : Array Value) : laidMetH Tryd.prog Rows.plateBackUptoRow.laid ((World.doorLaid Tryd.prog 400 os).forCall (fun _ _ => 0) ⟨#[], args, []⟩).memory :=
  laidMetH_of_parts3 (fuel := 8) (laidMet_of_run' 8 (by kernel_rfl) (by kernel_rfl)) (by kernel_rfl) (by kernel_rfl)
theorem lifted (os : Os) (started : os.Started) (H : Type) (enc : TypeId × Value → H) (X : Stop.Interp) :
    ReturnsInHanded {} Tryd.checked os 5 .any ((Rows.OpenSpec.upto Rows.plateBackSpec).preRow enc Tryd.prog Tryd.f5 Rows.plateBackUptoRow.domain false Rows.plateBackUptoRow.laid) (((Rows.OpenSpec.upto Rows.plateBackSpec).at X).post enc Tryd.prog Tryd.f5 false true false false) := by
  refine returns_row_laid (C := Tryd.checked) (s := Rows.OpenSpec.upto Rows.plateBackSpec) (k := Rows.uptoSmall) rfl own started (by kernel_rfl) Tryd.func5
    (witness_row (enc := enc) (C := Tryd.checked) (s := Rows.OpenSpec.upto Rows.plateBackSpec) (k := Rows.uptoSmall) rfl false (World.doorLaid Tryd.prog 400 os) #[.agg #[.int .i64 0, .int .i64 0, .slice none 0 0], .slice none 0 0] 8 rfl (World.shaped_of_RefB (by kernel_rfl) (by kernel_rfl)) (by kernel_rfl)
      (x := ([.agg [.lit (.int .i64 0), .lit (.int .i64 0), .nil], .nil], [], [])) (by kernel_rfl) rfl (by kernel_rfl) (door_met os _)) ?_
  intro W base args ds gs before hval hW hk hlm
  exact contract H enc W base args ds gs before hval hW hk hlm
theorem row_proved : Rows.PlateBackUptoSaid :=
  OpenClaim.holds_of_cond 5 Tryd.f5 rfl rfl rfl rfl rfl rfl rfl ⟨rfl, rfl, rfl, rfl, rfl⟩ rfl rfl rfl rfl rfl (by kernel_rfl) Tryd.func5 (by kernel_rfl)
    (of_decide_eq_true (by kernel_rfl)) (by unfold Func.isWrapper; first | (rw [if_pos (by decide +kernel)]; kernel_rfl) | (rw [if_neg (by decide +kernel)]; exact ⟨rfl, rfl⟩))
    (fun os started H enc _ X => by rw [OpenClaim.pre_eq_preRow]; exact lifted os started H enc X)
theorem proved : Rows.PlateBackUptoCardSaid :=
  Claim7.holds_tied_plain_at .later [] [.data, .data, .data, .sentinel, .sentinel] true (true, "81f411bbde8ef69ec95bdbde372ae497e516c01526e347061d0e2c9ef2f1d870") true
    row_proved (fun _ h => by cases h) (by kernel_rfl) (fun _ h => by cases h) plateBackUpto_row_tie rfl ⟨rfl, rfl⟩ (by kernel_rfl) rfl
    (fun f fn hf hfn => by
      obtain rfl : f = 5 := Option.some.inj ((show Tryd.prog.funcNamed "zoetrope/zoetropelaw21.PlateBack" = some 5 by kernel_rfl).symm.trans hf) |>.symm
      obtain rfl : fn = Tryd.f5 := (Option.some.inj (Tryd.func5.symm.trans hfn)).symm
      exact ⟨by kernel_rfl, fun j t ht => by
        rw [Tryd.params5] at ht
        have h3 : t ∈ [52, 56] := by
          have := List.mem_of_getElem? (by simpa using ht)
          simpa using this
        simp only [List.mem_cons, List.not_mem_nil, or_false] at h3
        rcases h3 with rfl | rfl
        · exact (show Tryd.prog.wantsStandIn 52 = false by kernel_rfl)
        · exact (show Tryd.prog.wantsStandIn 56 = false by kernel_rfl)⟩)
    (by kernel_rfl)
end plateBackLaw
end Go.Proofs.YtbigijnadkeecaaDoor
