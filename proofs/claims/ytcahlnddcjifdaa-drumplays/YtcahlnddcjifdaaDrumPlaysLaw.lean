/- DrumPlays answers true at every number of blocks, every list of steps and every place; no conditions. -/
import Derived.Test.YtcahlnddcjifdaaM6
import Derived.Test.YtcahlnddcjifdaaRows
import Derived.ProofKit
import Derived.OpenShut
set_option linter.unusedSimpArgs false
set_option linter.unusedVariables false
set_option maxRecDepth 100000
set_option maxHeartbeats 4000000
namespace Go.Proofs.Ytcahlnddcjifdaa
open Go Go.Eng

theorem bulk_one {H : Type} (d : DataW H) : 1 ≤ Rows.uptoBulk d := by
  cases d with
  | lit l => cases l <;> simp [Rows.uptoBulk]
  | nil => simp [Rows.uptoBulk]
  | ptr d => simp [Rows.uptoBulk]
  | slice elems spare => simp [Rows.uptoBulk]
  | agg parts => simp [Rows.uptoBulk]
  | iface t d => simp [Rows.uptoBulk]
  | map entries => simp [Rows.uptoBulk]
  | held h => simp [Rows.uptoBulk]
theorem bulk_mem {H : Type} {d : DataW H} : ∀ {l : List (DataW H)}, d ∈ l → Rows.uptoBulk d ≤ Rows.uptoBulkAll l
  | x :: r, h => by
    simp only [Rows.uptoBulkAll]
    rcases List.mem_cons.1 h with rfl | h
    · omega
    · have := bulk_mem h; omega
theorem bulk_len {H : Type} : ∀ (l : List (DataW H)), l.length ≤ Rows.uptoBulkAll l
  | [] => by simp
  | x :: r => by have := bulk_one x; have := bulk_len r; simp only [Rows.uptoBulkAll, List.length_cons]; omega
theorem isBulk {H : Type} : IsBulk (H := H) Rows.uptoBulk where
  str := fun l => by simp [Rows.uptoBulk]
  agg := fun l d h => by have := bulk_mem h; simp only [Rows.uptoBulk]; omega
  row := fun l s d h => by have := bulk_mem h; simp only [Rows.uptoBulk]; omega
  len := fun l s => by have := bulk_len l; simp only [Rows.uptoBulk]; omega
theorem small {H : Type} {l : List (DataW H)} (hk : Rows.uptoSmall H l = true) : ∀ d, d ∈ l → Rows.uptoBulk d ≤ 1048576 := fun d hd => by
  have h1 : Rows.uptoBulkAll l ≤ 1048576 := by simpa [Rows.uptoSmall] using hk
  have := bulk_mem hd; omega
theorem own : ownKnob Try.prog.godebug = none := by kernel_rfl
theorem laidOut : laidOutB Try.prog = true := by kernel_rfl
theorem laid : laidB Try.prog = true := by kernel_rfl

theorem n3 : Try.prog.cellsOf 3 = 1 := by kernel_rfl
theorem n5 : Try.prog.cellsOf 5 = 1 := by kernel_rfl
theorem n28 : Try.prog.cellsOf 28 = 128 := by kernel_rfl
theorem n31 : Try.prog.cellsOf 31 = 1 := by kernel_rfl
theorem n33 : Try.prog.cellsOf 33 = 132 := by kernel_rfl
theorem keep_in {B : Nat} {m : AMem} {cs : List CV} (hg : Eng.Good Try.prog B m 31 cs) : ∃ r n f, cs = [.sl r 0 0 n] ∧ m[r]? = some ⟨.ro, 3, 0, 1, il n f⟩ := by
  obtain ⟨r, n, cells, h2, h3, h4, h5, h6⟩ := hg.row Try.underlying31
  rw [n3] at h3 h4
  obtain ⟨xs, hxs, hx⟩ := ints_of (k := .i64) n cells (by omega) fun j hj => by
    obtain ⟨x, q3, q4⟩ := (h6 j hj).int Try.underlying3
    rw [n3, Nat.mul_one] at q3
    exact ⟨x, q3, q4⟩
  refine ⟨r, n, fun i => xs.getD i 0, h2, ?_⟩
  rw [← il_of (cells := cells) (by omega) fun i hi => ?_]; exact h3
  have hlt : i < xs.length := by rw [hxs, List.length_map] at h4; omega
  rw [hxs, List.getElem?_map, List.getElem?_eq_getElem hlt]
  simp [List.getD_eq_getElem?_getD, List.getElem?_eq_getElem hlt]
theorem cut5 (cs : List CV) (h : cs.length = 132) : cs = (cs.drop 0).take 1 ++ ((cs.drop 1).take 1 ++ ((cs.drop 2).take 1 ++ ((cs.drop 3).take 128 ++ (cs.drop 131).take 1))) := by
  have e1 : (cs.drop 131).take 1 = (cs.drop 3).drop 128 := by rw [List.take_of_length_le (by rw [List.length_drop]; omega), List.drop_drop]
  have e2 : ∀ k, (cs.drop k).take 1 ++ cs.drop (k + 1) = cs.drop k := fun k => by rw [← List.drop_drop, List.take_append_drop]
  rw [e1, List.take_append_drop, e2 2, e2 1, e2 0]; rfl
theorem op_in {B : Nat} {m : AMem} {cs : List CV} (hg : Eng.Good Try.prog B m 33 cs) : ∃ (kd ax nx : Int) (b : List Int) (rk kn : Nat) (ks : Nat → Int), cs = opC kd ax nx b rk kn ∧ b.length = 128 ∧ m[rk]? = some ⟨.ro, 3, 0, 1, il kn ks⟩ := by
  obtain ⟨hl, hf⟩ := hg.struct Try.underlying33
  rw [n33] at hl
  obtain ⟨kd, h0, _⟩ := (hf _ (.head _)).int Try.underlying3
  obtain ⟨ax, h1, _⟩ := (hf _ (.tail _ (.head _))).int Try.underlying3
  obtain ⟨nx, h2, _⟩ := (hf _ (.tail _ (.tail _ (.head _)))).int Try.underlying3
  obtain ⟨q1, q2⟩ := (hf _ (.tail _ (.tail _ (.tail _ (.head _))))).arr Try.underlying28
  obtain ⟨rk, kn, ks, h4, h5⟩ := keep_in (hf _ (.tail _ (.tail _ (.tail _ (.tail _ (.head _))))))
  dsimp only at h0 h1 h2 q1 q2 h4
  simp only [n3, n28, n31] at h0 h1 h2 q1 q2 h4
  obtain ⟨b, hb, _⟩ := ints_of (k := .u8) 128 _ q1 fun j hj => by
    obtain ⟨x, q3, q4⟩ := (q2 j hj).int Try.underlying5
    rw [n5, Nat.mul_one] at q3
    exact ⟨x, q3, q4⟩
  have hbl : b.length = 128 := by rw [hb, List.length_map] at q1; exact q1
  refine ⟨kd, ax, nx, b, rk, kn, ks, ?_, hbl, h5⟩
  rw [cut5 cs hl, h0, h1, h2, hb, h4]; rfl
theorem ops_in {B : Nat} {m : AMem} {a : AV} (h : goodA Try.prog B m 22 a) : ∃ r n kd ax nx b rk kn ks, a = .one (.sl r 0 0 n) ∧ OpsAt m r n kd ax nx b rk kn ks := by
  obtain ⟨c, rfl, hg⟩ := h.one (fun fs h => by rw [Try.underlying22] at h; cases h) (fun k e h => by rw [Try.underlying22] at h; cases h)
  obtain ⟨r, n, cells, h2, h3, h4, h5, h6⟩ := hg.row Try.underlying22
  simp only [List.cons.injEq, and_true] at h2
  subst h2
  rw [n33] at h3 h4
  have hx : ∀ j, ∃ (p : Int × Int × Int × List Int × Nat × Nat × (Nat → Int)), j < n → (cells.drop (j * 132)).take 132 = opC p.1 p.2.1 p.2.2.1 p.2.2.2.1 p.2.2.2.2.1 p.2.2.2.2.2.1 ∧ p.2.2.2.1.length = 128 ∧ m[p.2.2.2.2.1]? = some ⟨.ro, 3, 0, 1, il p.2.2.2.2.2.1 p.2.2.2.2.2.2⟩ := fun j => by
    by_cases hj : j < n
    · have h7 := h6 j hj
      rw [n33] at h7
      obtain ⟨kd, ax, nx, b, rk, kn, ks, q⟩ := op_in h7
      exact ⟨(kd, ax, nx, b, rk, kn, ks), fun _ => q⟩
    · exact ⟨(0, 0, 0, [], 0, 0, fun _ => 0), fun h => absurd h hj⟩
  obtain ⟨p, hp⟩ := Classical.axiomOfChoice hx
  exact ⟨r, n, fun i => (p i).1, fun i => (p i).2.1, fun i => (p i).2.2.1, fun i => (p i).2.2.2.1, fun i => (p i).2.2.2.2.1, fun i => (p i).2.2.2.2.2.1, fun i => (p i).2.2.2.2.2.2, rfl,
    ⟨⟨cells, h3, h4, fun i hi => (hp i hi).1⟩, fun i hi => (hp i hi).2.1, fun i hi => (hp i hi).2.2⟩⟩
namespace drumPlaysLaw
theorem law (B : Nat) (m : AMem) (avs : List AV) (h : All2 (fun t a => goodA Try.prog B m t a) Try.f4.params.toList avs) : Ctr Try.prog 4 avs m (.one (.bool true)) m := by
  rw [Try.params4] at h
  obtain ⟨a0, l0, rfl, g0, h⟩ := all2_cons h
  obtain ⟨a1, l1, rfl, g1, h⟩ := all2_cons h
  obtain ⟨a2, l2, rfl, g2, h⟩ := all2_cons h
  obtain rfl := all2_nil h
  obtain ⟨c0, rfl, hg0⟩ := g0.one (fun fs h => by rw [Try.underlying3] at h; cases h) (fun k e h => by rw [Try.underlying3] at h; cases h)
  obtain ⟨x0, e0, _, _⟩ := hg0.int Try.underlying3
  simp only [List.cons.injEq, and_true] at e0
  subst e0
  obtain ⟨r, n, kd, ax, nx, b, rk, kn, ks, rfl, hops⟩ := ops_in g1
  obtain ⟨c2, rfl, hg2⟩ := g2.one (fun fs h => by rw [Try.underlying3] at h; cases h) (fun k e h => by rw [Try.underlying3] at h; cases h)
  obtain ⟨x2, e2, _, _⟩ := hg2.int Try.underlying3
  simp only [List.cons.injEq, and_true] at e2
  subst e2
  rcases Classical.em (x0 < 1) with h1 | h1
  · exact plays_lo x0 r n kd ax nx b rk kn ks x2 m h1
  · rcases Classical.em (8192 < x0) with h2 | h2
    · exact plays_hi x0 r n kd ax nx b rk kn ks x2 m h1 h2
    · obtain ⟨w, rfl⟩ : ∃ w : Nat, x0 = (w : Int) := ⟨x0.toNat, by omega⟩
      exact plays_c w r n kd ax nx b rk kn ks x2 m (by omega) (by omega) hops
theorem contract (H : Type) (enc : TypeId × Value → H) (W : World) (base : Nat) (args : Array Value) (ds gs : List (DataW H)) (before : List MemPlace)
    (hval : ∀ (j : Nat) t v, Try.f4.params[j]? = some t → args[j]? = some v → Value.okWide Try.prog W .any base t v)
    (hW : DataW.Whole enc Try.prog Try.f4.params.toList Rows.drumPlaysSpec.vars false W args.toList ds gs before) :
    Calls Try.prog 4 args W fun e W' => ∃ v, e = .returned v ∧ Rows.drumPlaysSpec.post enc Try.prog Try.f4 false true false false W args v W' := by
  refine law_true (B := Rows.uptoBulkAll ds) (bulk := Rows.uptoBulk) rfl ?_ laidOut laid (by kernel_rfl) (tb := 4) rfl Try.underlying4 isBulk (fun d hd => bulk_mem hd) hval hW fun m avs _ h => law _ m avs h
  obtain ⟨p, q, hA, _⟩ := hW
  rw [Try.params4] at hA
  rintro l rfl
  obtain ⟨v0, vs0, d0, ds0, p0, q0, _, rfl, _, _, r0⟩ := ChangeShapes.trodAll_cons hA
  obtain ⟨v1, vs1, d1, ds1, p1, q1, _, rfl, _, _, r1⟩ := ChangeShapes.trodAll_cons r0
  obtain ⟨v2, vs2, d2, ds2, p2, q2, _, rfl, _, _, r2⟩ := ChangeShapes.trodAll_cons r1
  obtain ⟨_, rfl, _⟩ := ChangeShapes.trodAll_nil r2
  rfl
theorem lifted (os : Os) (started : os.Started) (H : Type) (enc : TypeId × Value → H) :
    ReturnsInHanded {} Try.checked os 4 .any (Rows.drumPlaysSpec.pre6 enc Try.prog Try.f4 Rows.drumPlaysRow.domain false) (Rows.drumPlaysSpec.post enc Try.prog Try.f4 false true false false) := by
  refine returnsInHanded_of_change (C := Try.checked) own started (by kernel_rfl) Try.func4
    (ChangeSpec.witness6 (enc := enc) (C := Try.checked) false ⟨#[], #[.int .i64 0, .slice none 0 0, .int .i64 0], []⟩ 8 (by kernel_rfl) (by kernel_rfl) (by kernel_rfl) (by kernel_rfl)) ?_
  intro W base args ds gs before hval hW _ _
  exact contract H enc W base args ds gs before hval hW
theorem proved : Rows.DrumPlaysSaid :=
  OpenClaim.holds_of_wide 4 Try.f4 rfl rfl rfl rfl rfl rfl rfl ⟨rfl, rfl, rfl, rfl, rfl⟩ rfl rfl rfl rfl rfl (by kernel_rfl) Try.func4 (by kernel_rfl)
    (of_decide_eq_true (by kernel_rfl)) (by unfold Func.isWrapper; first | (rw [if_pos (by decide +kernel)]; kernel_rfl) | (rw [if_neg (by decide +kernel)]; exact ⟨rfl, rfl⟩))
    (fun os started H enc _ => lifted os started H enc)
end drumPlaysLaw
end Go.Proofs.Ytcahlnddcjifdaa
