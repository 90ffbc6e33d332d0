/- VaultWhole answers true at every list of steps; no conditions. -/
import Derived.Test.YtdkfbbjpblfclaaM6
import Derived.Test.YtdkfbbjpblfclaaRows
import Derived.ProofKit
import Derived.OpenShut
set_option linter.unusedSimpArgs false
set_option linter.unusedVariables false
set_option maxRecDepth 100000
set_option maxHeartbeats 4000000
namespace Go.Proofs.Ytdkfbbjpblfclaa
open Go Go.Eng

theorem bulk_one {H : Type} (d : DataW H) : 1 ≤ Rows.uptoBulk d := by
  cases d with
  | lit l => cases l <;> simp [Rows.uptoBulk]
  | nil => simp [Rows.uptoBulk]
  | ptr d => simp [Rows.uptoBulk]
  | slice elems spare => simp [Rows.uptoBulk]
  | agg parts => simp [Rows.uptoBulk]
  | iface t d => simp [Rows.uptoBulk]
  | map entries => simp [Rows.uptoBulk]
  | held h => simp [Rows.uptoBulk]
theorem bulk_mem {H : Type} {d : DataW H} : ∀ {l : List (DataW H)}, d ∈ l → Rows.uptoBulk d ≤ Rows.uptoBulkAll l
  | x :: r, h => by
    simp only [Rows.uptoBulkAll]
    rcases List.mem_cons.1 h with rfl | h
    · omega
    · have := bulk_mem h; omega
theorem bulk_len {H : Type} : ∀ (l : List (DataW H)), l.length ≤ Rows.uptoBulkAll l
  | [] => by simp
  | x :: r => by have := bulk_one x; have := bulk_len r; simp only [Rows.uptoBulkAll, List.length_cons]; omega
theorem isBulk {H : Type} : IsBulk (H := H) Rows.uptoBulk where
  str := fun l => by simp [Rows.uptoBulk]
  agg := fun l d h => by have := bulk_mem h; simp only [Rows.uptoBulk]; omega
  row := fun l s d h => by have := bulk_mem h; simp only [Rows.uptoBulk]; omega
  len := fun l s => by have := bulk_len l; simp only [Rows.uptoBulk]; omega
theorem small {H : Type} {l : List (DataW H)} (hk : Rows.uptoSmall H l = true) : ∀ d, d ∈ l → Rows.uptoBulk d ≤ 1048576 := fun d hd => by
  have h1 : Rows.uptoBulkAll l ≤ 1048576 := by simpa [Rows.uptoSmall] using hk
  have := bulk_mem hd; omega
theorem own : ownKnob Try.prog.godebug = none := by kernel_rfl
theorem laidOut : laidOutB Try.prog = true := by kernel_rfl
theorem laid : laidB Try.prog = true := by kernel_rfl

theorem n3 : Try.prog.cellsOf 3 = 1 := by kernel_rfl
theorem n5 : Try.prog.cellsOf 5 = 1 := by kernel_rfl
theorem n35 : Try.prog.cellsOf 35 = 1 := by kernel_rfl
theorem n49 : Try.prog.cellsOf 49 = 1 := by kernel_rfl
theorem n50 : Try.prog.cellsOf 50 = 128 := by kernel_rfl
theorem n52 : Try.prog.cellsOf 52 = 136 := by kernel_rfl
theorem keep_in {B : Nat} {m : AMem} {cs : List CV} (hg : Eng.Good Try.prog B m 49 cs) : ∃ r n f, cs = [.sl r 0 0 n] ∧ m[r]? = some ⟨.ro, 3, 0, 1, il n f⟩ := by
  obtain ⟨r, n, cells, h2, h3, h4, h5, h6⟩ := hg.row Try.underlying49
  rw [n3] at h3 h4
  obtain ⟨xs, hxs, hx⟩ := ints_of (k := .i64) n cells (by omega) fun j hj => by
    obtain ⟨x, q3, q4⟩ := (h6 j hj).int Try.underlying3
    rw [n3, Nat.mul_one] at q3
    exact ⟨x, q3, q4⟩
  refine ⟨r, n, fun i => xs.getD i 0, h2, ?_⟩
  rw [← il_of (cells := cells) (by omega) fun i hi => ?_]; exact h3
  have hlt : i < xs.length := by rw [hxs, List.length_map] at h4; omega
  rw [hxs, List.getElem?_map, List.getElem?_eq_getElem hlt]
  simp [List.getD_eq_getElem?_getD, List.getElem?_eq_getElem hlt]
theorem bytes_in {B : Nat} {m : AMem} {cs : List CV} (hg : Eng.Good Try.prog B m 35 cs) : ∃ r n xs, cs = [.sl r 0 0 n] ∧ m[r]? = some ⟨.ro, 5, 0, 1, u8l xs⟩ ∧ xs.length = n ∧ U8ok xs := by
  obtain ⟨r, n, cells, h2, h3, h4, h5, h6⟩ := hg.row Try.underlying35
  rw [n5] at h3 h4
  obtain ⟨xs, hxs, hx⟩ := ints_of (k := .u8) n cells (by omega) fun j hj => by
    obtain ⟨x, q3, q4⟩ := (h6 j hj).int Try.underlying5
    rw [n5, Nat.mul_one] at q3
    exact ⟨x, q3, q4⟩
  have hl : xs.length = n := by rw [hxs, List.length_map] at h4; omega
  refine ⟨r, n, xs, h2, by rw [h3, hxs]; rfl, hl, fun x hm => ?_⟩
  have := hx x hm
  simpa [IntKind.min, IntKind.max, IntKind.signed, IntKind.bits] using this
theorem cut9 (cs : List CV) (h : cs.length = 136) : cs = (cs.drop 0).take 1 ++ ((cs.drop 1).take 1 ++ ((cs.drop 2).take 1 ++ ((cs.drop 3).take 1 ++ ((cs.drop 4).take 1 ++ ((cs.drop 5).take 1 ++ ((cs.drop 6).take 1 ++ ((cs.drop 7).take 1 ++ (cs.drop 8).take 128))))))) := by
  have e1 : (cs.drop 8).take 128 = cs.drop 8 := List.take_of_length_le (by rw [List.length_drop]; omega)
  have e2 : ∀ k, (cs.drop k).take 1 ++ cs.drop (k + 1) = cs.drop k := fun k => by rw [← List.drop_drop, List.take_append_drop]
  rw [e1, e2 7, e2 6, e2 5, e2 4, e2 3, e2 2, e2 1, e2 0]; rfl
structure OpV where
  (kd k2 ky : Int) (rp lp rk lk : Nat) (nx : Int) (re le : Nat) (ax : Int) (b ps kl : List Int) (ks : Nat → Int)
def OpIs (m : AMem) (cs : List CV) (o : OpV) : Prop := cs = opC o.kd o.k2 o.ky o.rp 0 o.lp o.rk o.lk o.nx o.re o.le o.ax o.b ∧ o.b.length = 128 ∧ (0 ≤ o.ky ∧ o.ky ≤ 255) ∧ (m[o.rp]? = some ⟨.ro, 5, 0, 1, u8l o.ps⟩ ∧ o.ps.length = o.lp ∧ U8ok o.ps) ∧ (m[o.rk]? = some ⟨.ro, 5, 0, 1, u8l o.kl⟩ ∧ o.kl.length = o.lk ∧ U8ok o.kl) ∧ m[o.re]? = some ⟨.ro, 3, 0, 1, il o.le o.ks⟩
theorem op_in {B : Nat} {m : AMem} {cs : List CV} (hg : Eng.Good Try.prog B m 52 cs) : ∃ o, OpIs m cs o := by
  obtain ⟨hl, hf⟩ := hg.struct Try.underlying52
  rw [n52] at hl
  obtain ⟨kd, h0, _⟩ := (hf _ (.head _)).int Try.underlying3
  obtain ⟨k2, h1, _⟩ := (hf _ (.tail _ (.head _))).int Try.underlying3
  obtain ⟨ky, h2, hk⟩ := (hf _ (.tail _ (.tail _ (.head _)))).int Try.underlying5
  obtain ⟨rp, lp, ps, h3, a1, a2, a3⟩ := bytes_in (hf _ (.tail _ (.tail _ (.tail _ (.head _)))))
  obtain ⟨rk, lk, kl, h4, b1, b2, b3⟩ := bytes_in (hf _ (.tail _ (.tail _ (.tail _ (.tail _ (.head _))))))
  obtain ⟨nx, h5, _⟩ := (hf _ (.tail _ (.tail _ (.tail _ (.tail _ (.tail _ (.head _))))))).int Try.underlying3
  obtain ⟨re, le, ks, h6, c1⟩ := keep_in (hf _ (.tail _ (.tail _ (.tail _ (.tail _ (.tail _ (.tail _ (.head _))))))))
  obtain ⟨ax, h7, _⟩ := (hf _ (.tail _ (.tail _ (.tail _ (.tail _ (.tail _ (.tail _ (.tail _ (.head _))))))))).int Try.underlying3
  obtain ⟨q1, q2⟩ := (hf _ (.tail _ (.tail _ (.tail _ (.tail _ (.tail _ (.tail _ (.tail _ (.tail _ (.head _)))))))))).arr Try.underlying50
  dsimp only at h0 h1 h2 h3 h4 h5 h6 h7 q1 q2
  simp only [n3, n5, n50, n49, n35] at h0 h1 h2 h3 h4 h5 h6 h7 q1 q2
  obtain ⟨b, hb, _⟩ := ints_of (k := .u8) 128 _ q1 fun j hj => by
    obtain ⟨x, q3, q4⟩ := (q2 j hj).int Try.underlying5
    rw [Nat.mul_one] at q3
    exact ⟨x, q3, q4⟩
  have hbl : b.length = 128 := by rw [hb, List.length_map] at q1; exact q1
  have hk2 : 0 ≤ ky ∧ ky ≤ 255 := by simpa [IntKind.min, IntKind.max, IntKind.signed, IntKind.bits] using hk
  refine ⟨⟨kd, k2, ky, rp, lp, rk, lk, nx, re, le, ax, b, ps, kl, ks⟩, ?_, hbl, hk2, ⟨a1, a2, a3⟩, ⟨b1, b2, b3⟩, c1⟩
  rw [cut9 cs hl, h0, h1, h2, h3, h4, h5, h6, h7, hb]; rfl
theorem ops_in {B : Nat} {m : AMem} {a : AV} (h : goodA Try.prog B m 46 a) : ∃ r n kd k2 ky rp lp rk lk nx re le ax b ps kl ks, a = .one (.sl r 0 0 n) ∧ OpsW m r n kd k2 ky rp lp rk lk nx re le ax b ps kl ks := by
  obtain ⟨c, rfl, hg⟩ := h.one (fun fs h => by rw [Try.underlying46] at h; cases h) (fun k e h => by rw [Try.underlying46] at h; cases h)
  obtain ⟨r, n, cells, h2, h3, h4, h5, h6⟩ := hg.row Try.underlying46
  simp only [List.cons.injEq, and_true] at h2
  subst h2
  rw [n52] at h3 h4
  have hx : ∀ j, ∃ p : OpV, j < n → OpIs m ((cells.drop (j * 136)).take 136) p := fun j => by
    by_cases hj : j < n
    · have h7 := h6 j hj
      rw [n52] at h7
      obtain ⟨o, q⟩ := op_in h7
      exact ⟨o, fun _ => q⟩
    · exact ⟨⟨0, 0, 0, 0, 0, 0, 0, 0, 0, 0, 0, [], [], [], fun _ => 0⟩, fun h => absurd h hj⟩
  obtain ⟨p, hp⟩ := Classical.axiomOfChoice hx
  exact ⟨r, n, fun i => (p i).kd, fun i => (p i).k2, fun i => (p i).ky, fun i => (p i).rp, fun i => (p i).lp, fun i => (p i).rk, fun i => (p i).lk, fun i => (p i).nx, fun i => (p i).re, fun i => (p i).le, fun i => (p i).ax, fun i => (p i).b, fun i => (p i).ps, fun i => (p i).kl, fun i => (p i).ks, rfl,
    ⟨⟨cells, h3, h4, fun i hi => (hp i hi).1⟩, fun i hi => (hp i hi).2.1, fun i hi => (hp i hi).2.2.1, fun i hi => (hp i hi).2.2.2.1, fun i hi => (hp i hi).2.2.2.2.1, fun i hi => (hp i hi).2.2.2.2.2⟩⟩
namespace vaultWholeLaw
theorem law (B : Nat) (m : AMem) (avs : List AV) (h : All2 (fun t a => goodA Try.prog B m t a) Try.f4.params.toList avs) : Ctr Try.prog 4 avs m (.one (.bool true)) m := by
  rw [Try.params4] at h
  obtain ⟨a0, l0, rfl, g0, h⟩ := all2_cons h
  obtain rfl := all2_nil h
  obtain ⟨r, n, kd, k2, ky, rp, lp, rk, lk, nx, re, le, ax, b, ps, kl, ks, rfl, hops⟩ := ops_in g0
  exact whole_c r n kd k2 ky rp lp rk lk nx re le ax b ps kl ks m hops
theorem contract (H : Type) (enc : TypeId × Value → H) (W : World) (base : Nat) (args : Array Value) (ds gs : List (DataW H)) (before : List MemPlace)
    (hval : ∀ (j : Nat) t v, Try.f4.params[j]? = some t → args[j]? = some v → Value.okWide Try.prog W .any base t v)
    (hW : DataW.Whole enc Try.prog Try.f4.params.toList Rows.vaultWholeSpec.vars false W args.toList ds gs before) :
    Calls Try.prog 4 args W fun e W' => ∃ v, e = .returned v ∧ Rows.vaultWholeSpec.post enc Try.prog Try.f4 false true false false W args v W' := by
  refine law_true (B := Rows.uptoBulkAll ds) (bulk := Rows.uptoBulk) rfl ?_ laidOut laid (by kernel_rfl) (tb := 4) rfl Try.underlying4 isBulk (fun d hd => bulk_mem hd) hval hW fun m avs _ h => law _ m avs h
  obtain ⟨p, q, hA, _⟩ := hW
  rw [Try.params4] at hA
  rintro l rfl
  obtain ⟨v0, vs0, d0, ds0, p0, q0, _, rfl, _, _, r0⟩ := ChangeShapes.trodAll_cons hA
  obtain ⟨_, rfl, _⟩ := ChangeShapes.trodAll_nil r0
  rfl
theorem lifted (os : Os) (started : os.Started) (H : Type) (enc : TypeId × Value → H) :
    ReturnsInHanded {} Try.checked os 4 .any (Rows.vaultWholeSpec.pre6 enc Try.prog Try.f4 Rows.vaultWholeRow.domain false) (Rows.vaultWholeSpec.post enc Try.prog Try.f4 false true false false) := by
  refine returnsInHanded_of_change (C := Try.checked) own started (by kernel_rfl) Try.func4
    (ChangeSpec.witness6 (enc := enc) (C := Try.checked) false ⟨#[], #[.slice none 0 0], []⟩ 8 (by kernel_rfl) (by kernel_rfl) (by kernel_rfl) (by kernel_rfl)) ?_
  intro W base args ds gs before hval hW _ _
  exact contract H enc W base args ds gs before hval hW
theorem proved : Rows.VaultWholeSaid :=
  OpenClaim.holds_of_wide 4 Try.f4 rfl rfl rfl rfl rfl rfl rfl ⟨rfl, rfl, rfl, rfl, rfl⟩ rfl rfl rfl rfl rfl (by kernel_rfl) Try.func4 (by kernel_rfl)
    (of_decide_eq_true (by kernel_rfl)) (by unfold Func.isWrapper; first | (rw [if_pos (by decide +kernel)]; kernel_rfl) | (rw [if_neg (by decide +kernel)]; exact ⟨rfl, rfl⟩))
    (fun os started H enc _ => lifted os started H enc)
end vaultWholeLaw
end Go.Proofs.Ytdkfbbjpblfclaa
