/- FilmBack answers true whatever film and bytes it is given, of up to 1048576 values; no other conditions. -/
import Derived.Test.YtgbehbaecdepjaaFilmU
import Derived.Test.YtgbehbaecdepjaaFilmB
import Derived.Test.YtgbehbaecdepjaaAwakeFm
import Derived.Test.YtgbehbaecdepjaaRows
import Derived.WalkKit
import Derived.ProofKit
import Derived.OpenShut
import Derived.JoinedCond
set_option linter.unusedSimpArgs false
set_option linter.unusedVariables false
set_option maxRecDepth 100000
set_option maxHeartbeats 4000000
namespace Go.Proofs.Ytgbehbaecdepjaa
open Go Go.Eng

theorem bulk_one {H : Type} (d : DataW H) : 1 ≤ Rows.uptoBulk d := by
  cases d with
  | lit l => cases l <;> simp [Rows.uptoBulk]
  | nil => simp [Rows.uptoBulk]
  | ptr d => simp [Rows.uptoBulk]
  | slice elems spare => simp [Rows.uptoBulk]
  | agg parts => simp [Rows.uptoBulk]
  | iface t d => simp [Rows.uptoBulk]
  | map entries => simp [Rows.uptoBulk]
  | held h => simp [Rows.uptoBulk]
theorem bulk_mem {H : Type} {d : DataW H} : ∀ {l : List (DataW H)}, d ∈ l → Rows.uptoBulk d ≤ Rows.uptoBulkAll l
  | x :: r, h => by
    simp only [Rows.uptoBulkAll]
    rcases List.mem_cons.1 h with rfl | h
    · omega
    · have := bulk_mem h; omega
theorem bulk_len {H : Type} : ∀ (l : List (DataW H)), l.length ≤ Rows.uptoBulkAll l
  | [] => by simp
  | x :: r => by have := bulk_one x; have := bulk_len r; simp only [Rows.uptoBulkAll, List.length_cons]; omega
theorem isBulk {H : Type} : IsBulk (H := H) Rows.uptoBulk where
  str := fun l => by simp [Rows.uptoBulk]
  agg := fun l d h => by have := bulk_mem h; simp only [Rows.uptoBulk]; omega
  row := fun l s d h => by have := bulk_mem h; simp only [Rows.uptoBulk]; omega
  len := fun l s => by have := bulk_len l; simp only [Rows.uptoBulk]; omega
theorem small {H : Type} {l : List (DataW H)} (hk : Rows.uptoSmall H l = true) : ∀ d, d ∈ l → Rows.uptoBulk d ≤ 1048576 := fun d hd => by
  have h1 : Rows.uptoBulkAll l ≤ 1048576 := by simpa [Rows.uptoSmall] using hk
  have := bulk_mem hd; omega
theorem own : ownKnob Try.prog.godebug = none := by kernel_rfl
theorem laidOut : laidOutB Try.prog = true := by kernel_rfl
theorem laid : laidB Try.prog = true := by kernel_rfl

theorem n2 : Try.prog.cellsOf 2 = 1 := by kernel_rfl
theorem n3 : Try.prog.cellsOf 3 = 1 := by kernel_rfl
theorem n22 : Try.prog.cellsOf 22 = 1 := by kernel_rfl
theorem n24 : Try.prog.cellsOf 24 = 3 := by kernel_rfl
theorem n25 : Try.prog.cellsOf 25 = 1 := by kernel_rfl
theorem n26 : Try.prog.cellsOf 26 = 1 := by kernel_rfl
theorem n27 : Try.prog.cellsOf 27 = 1 := by kernel_rfl
theorem n29 : Try.prog.cellsOf 29 = 8 := by kernel_rfl
theorem n71 : Try.prog.cellsOf 71 = 3 := by kernel_rfl
theorem n75 : Try.prog.cellsOf 75 = 3 := by kernel_rfl
theorem dots_of {cells : List CV} {n : Nat} {xs : List Int} (hl : cells.length = n * 3) (he : cells = xs.map (CV.int .i64)) : cells = dl n (fun i k => xs.getD (i * 3 + k) 0) := by
  refine dl_of hl fun i k hi hk => ?_
  have hlt : i * 3 + k < xs.length := by rw [he, List.length_map] at hl; omega
  rw [he, List.getElem?_map, List.getElem?_eq_getElem hlt]
  simp [List.getD_eq_getElem?_getD, List.getElem?_eq_getElem hlt]
theorem irow64 {B : Nat} {m : AMem} {cs : List CV} (hg : Eng.Good Try.prog B m 25 cs) : ∃ r n f, cs = [.sl r 0 0 n] ∧ IRow m 2 r n f ∧ n ≤ B := by
  obtain ⟨r, n, cells, h2, h3, h4, h5, h6⟩ := hg.row Try.underlying25
  rw [n2] at h3 h4
  obtain ⟨xs, hxs, hx⟩ := ints_of (k := .i64) n cells (by omega) fun j hj => by
    obtain ⟨x, q3, q4⟩ := (h6 j hj).int Try.underlying2
    rw [n2, Nat.mul_one] at q3
    exact ⟨x, q3, q4⟩
  refine ⟨r, n, fun i => xs.getD i 0, h2, ⟨.ro, 1, ?_⟩, h5⟩
  rw [← il_of (cells := cells) (by omega) fun i hi => ?_]; exact h3
  have hlt : i < xs.length := by rw [hxs, List.length_map] at h4; omega
  rw [hxs, List.getElem?_map, List.getElem?_eq_getElem hlt]
  simp [List.getD_eq_getElem?_getD, List.getElem?_eq_getElem hlt]
theorem irowI {B : Nat} {m : AMem} {cs : List CV} (hg : Eng.Good Try.prog B m 27 cs) : ∃ r n f, cs = [.sl r 0 0 n] ∧ IRow m 3 r n f ∧ n ≤ B := by
  obtain ⟨r, n, cells, h2, h3, h4, h5, h6⟩ := hg.row Try.underlying27
  rw [n3] at h3 h4
  obtain ⟨xs, hxs, hx⟩ := ints_of (k := .i64) n cells (by omega) fun j hj => by
    obtain ⟨x, q3, q4⟩ := (h6 j hj).int Try.underlying3
    rw [n3, Nat.mul_one] at q3
    exact ⟨x, q3, q4⟩
  refine ⟨r, n, fun i => xs.getD i 0, h2, ⟨.ro, 1, ?_⟩, h5⟩
  rw [← il_of (cells := cells) (by omega) fun i hi => ?_]; exact h3
  have hlt : i < xs.length := by rw [hxs, List.length_map] at h4; omega
  rw [hxs, List.getElem?_map, List.getElem?_eq_getElem hlt]
  simp [List.getD_eq_getElem?_getD, List.getElem?_eq_getElem hlt]
theorem hrowH {B : Nat} {m : AMem} {cs : List CV} (hg : Eng.Good Try.prog B m 22 cs) : ∃ r n G, cs = [.sl r 0 0 n] ∧ HRow m 75 r n G ∧ n ≤ B := by
  obtain ⟨r, n, cells, h2, h3, h4, h5, h6⟩ := hg.row Try.underlying22
  rw [n75] at h3 h4
  simp only [n75] at h6
  obtain ⟨xs, hxs, hx⟩ := rows_of (k := .i64) (sz := 3) n cells h4 fun i hi => by
    obtain ⟨q1, q2⟩ := (h6 i hi).arr Try.underlying75
    refine ints_of 3 _ (by rw [q1, n75]) fun j hj => ?_
    obtain ⟨x, q3, q4⟩ := (q2 j hj).int Try.underlying2
    rw [n2, Nat.mul_one] at q3
    exact ⟨x, q3, q4⟩
  exact ⟨r, n, _, h2, ⟨.ro, 3, by rw [← dots_of h4 hxs]; exact h3⟩, h5⟩
theorem hrowV {B : Nat} {m : AMem} {cs : List CV} (hg : Eng.Good Try.prog B m 26 cs) : ∃ r n G, cs = [.sl r 0 0 n] ∧ HRow m 71 r n G ∧ n ≤ B := by
  obtain ⟨r, n, cells, h2, h3, h4, h5, h6⟩ := hg.row Try.underlying26
  rw [n71] at h3 h4
  simp only [n71] at h6
  obtain ⟨xs, hxs, hx⟩ := rows_of (k := .i64) (sz := 3) n cells h4 fun i hi => by
    obtain ⟨q1, q2⟩ := (h6 i hi).arr Try.underlying71
    refine ints_of 3 _ (by rw [q1, n71]) fun j hj => ?_
    obtain ⟨x, q3, q4⟩ := (q2 j hj).int Try.underlying2
    rw [n2, Nat.mul_one] at q3
    exact ⟨x, q3, q4⟩
  exact ⟨r, n, _, h2, ⟨.ro, 3, by rw [← dots_of h4 hxs]; exact h3⟩, h5⟩
theorem film_in {B : Nat} {m : AMem} {a : AV} (h : goodA Try.prog B m 29 a) : ∃ W H rL nL rD nD rN nN rB nB rS nS rF nF GL GN GB fD fS fF, a = .agg [.int .i64 W, .int .i64 H, .sl rL 0 0 nL, .sl rD 0 0 nD, .sl rN 0 0 nN, .sl rB 0 0 nB, .sl rS 0 0 nS, .sl rF 0 0 nF] ∧ (HRow m 75 rL nL GL ∧ IRow m 2 rD nD fD ∧ HRow m 71 rN nN GN ∧ HRow m 75 rB nB GB ∧ IRow m 3 rS nS fS ∧ IRow m 3 rF nF fF) ∧ (nL ≤ B ∧ nD ≤ B ∧ nN ≤ B ∧ nB ≤ B ∧ nS ≤ B ∧ nF ≤ B) := by
  obtain ⟨cs, rfl, hg⟩ := h.agg (.inl ⟨_, Try.underlying29⟩)
  obtain ⟨hl, hf⟩ := hg.struct Try.underlying29
  rw [n29] at hl
  match cs, hl with
  | [a, b, c, d, e, f, g, h], _ =>
    obtain ⟨hl2, hf2⟩ := (hf _ (.head _)).struct Try.underlying24
    obtain ⟨W, h0, _⟩ := (hf2 _ (.head _)).int Try.underlying3
    obtain ⟨H, h1, _⟩ := (hf2 _ (.tail _ (.head _))).int Try.underlying3
    obtain ⟨rL, nL, GL, h2, p2, b2⟩ := hrowH (hf2 _ (.tail _ (.tail _ (.head _))))
    obtain ⟨rD, nD, fD, h3, p3, b3⟩ := irow64 (hf _ (.tail _ (.head _)))
    obtain ⟨rN, nN, GN, h4, p4, b4⟩ := hrowV (hf _ (.tail _ (.tail _ (.head _))))
    obtain ⟨rB, nB, GB, h5, p5, b5⟩ := hrowH (hf _ (.tail _ (.tail _ (.tail _ (.head _)))))
    obtain ⟨rS, nS, fS, h6, p6, b6⟩ := irowI (hf _ (.tail _ (.tail _ (.tail _ (.tail _ (.head _))))))
    obtain ⟨rF, nF, fF, h7, p7, b7⟩ := irowI (hf _ (.tail _ (.tail _ (.tail _ (.tail _ (.tail _ (.head _)))))))
    simp only [n2, n3, n22, n24, n25, n26, n27, n29, n71, n75, List.drop_zero, List.drop_succ_cons, List.take_succ_cons, List.take_zero, List.cons.injEq, and_true] at h0 h1 h2 h3 h4 h5 h6 h7
    subst h0; subst h1; subst h2; subst h3; subst h4; subst h5; subst h6; subst h7
    exact ⟨W, H, rL, nL, rD, nD, rN, nN, rB, nB, rS, nS, rF, nF, GL, GN, GB, fD, fS, fF, rfl, ⟨p2, p3, p4, p5, p6, p7⟩, ⟨b2, b3, b4, b5, b6, b7⟩⟩
theorem n5' : Try.prog.cellsOf 5 = 1 := by kernel_rfl
theorem bytesA_u8l : ∀ bs : List Int, bytesA (u8l bs) = some bs
  | [] => rfl
  | x :: bs => by
    have h := bytesA_u8l bs
    unfold u8l at h ⊢
    simp only [List.map_cons, bytesA, h, Option.map_some]
theorem bytes_in {B : Nat} {m : AMem} {cs : List CV} (hg : Eng.Good Try.prog B m 45 cs) : ∃ r bs, cs = [.sl r 0 0 bs.length] ∧ (∃ k ez, m[r]? = some ⟨k, 5, 0, ez, u8l bs⟩) ∧ (∀ i, 0 ≤ byB bs i ∧ byB bs i ≤ 255) ∧ bs.length ≤ B := by
  obtain ⟨r, n, cells, h2, h3, h4, h5, h6⟩ := hg.row Try.underlying45
  rw [n5'] at h3 h4
  obtain ⟨xs, hxs, hx⟩ := ints_of (k := .u8) n cells (by omega) fun j hj => by
    obtain ⟨x, q3, q4⟩ := (h6 j hj).int Try.underlying5
    rw [n5', Nat.mul_one] at q3
    exact ⟨x, q3, q4⟩
  have hl : xs.length = n := by rw [hxs, List.length_map] at h4; omega
  refine ⟨r, xs, by rw [hl]; exact h2, ⟨.ro, 1, by rw [h3, hxs]; rfl⟩, fun i => ?_, by omega⟩
  unfold byB
  rcases Nat.lt_or_ge i xs.length with hi | hi
  · have := hx (xs.getD i 0) (by rw [List.getD_eq_getElem?_getD, List.getElem?_eq_getElem hi]; exact List.getElem_mem hi)
    simpa [IntKind.min, IntKind.max, IntKind.signed, IntKind.bits] using this
  · rw [List.getD_eq_getElem?_getD, List.getElem?_eq_none hi]; decide
theorem shR_no {W H : Int} {nL nD nN nB nS nF : Nat} {fS fF : Nat → Int} (h : filmR W H nL nD nN nB nS nF fS fF = true) : nD = nL ∧ nN = nL ∧ nB = nL ∧ nS = nL ∧ nF = nL := by
  unfold filmR at h; simp only [Bool.and_eq_true, decide_eq_true_eq] at h; exact h.2.1
theorem back_big1 (W H : Int) (rL nL rD nD rN nN rB nB rS nS rF nF : Nat) (GL GN GB : Nat → Nat → Int) (fD fS fF : Nat → Int) (m : AMem) (pL : HRow m 75 rL nL GL) (pD : IRow m 2 rD nD fD) (pN : HRow m 71 rN nN GN) (pB : HRow m 75 rB nB GB) (pS : IRow m 3 rS nS fS) (pF : IRow m 3 rF nF fF) (bL : nL ≤ 1048576) (bD : nD ≤ 1048576) (bN : nN ≤ 1048576) (bB : nB ≤ 1048576) (bS : nS ≤ 1048576) (bF : nF ≤ 1048576) (r0 : Nat) (bs : List Int) (hp : ∃ k ez, m[r0]? = some ⟨k, 5, 0, ez, u8l bs⟩) (hn : bs.length ≤ 1048576) (hu : ∀ i, 0 ≤ byB bs i ∧ byB bs i ≤ 255) (hd : 5000 < (nL : Int)) : Ctr Try.prog 6 [.agg [.int .i64 W, .int .i64 H, .sl rL 0 0 nL, .sl rD 0 0 nD, .sl rN 0 0 nN, .sl rB 0 0 nB, .sl rS 0 0 nS, .sl rF 0 0 nF], .one (.sl r0 0 0 bs.length)] m (.one (.bool true)) m := by
  refine Ctr.enter Try.func6 rfl (by decide) (rs := [.tmp 4]) (nt := 99) rfl rfl fun hwf Q hQ => ?_
  refine AW.seq_k fun K hK => ?_
  refine AW.region (by decide) ?_
  simp only [push_cast, simprocAttr, hd]
  refine Thn_n ?_
  refine hK _ _ ?_
  clear hK K
  refine AW.seq_k fun K hK => ?_
  refine AW.seq_k fun K hK => ?_
  refine AW.region (by decide) ?_
  simp only [push_cast, simprocAttr, hd]
  refine Thn_n ?_
  refine hK _ _ ?_
  clear hK K
  refine AW.cond_t rfl ?_
  refine AW.seq_k fun K hK => ?_
  refine AW.region (by decide) ?_
  simp only [push_cast, simprocAttr, hd]
  refine CThen.by (awake_c _) ?_
  simp only [push_cast, simprocAttr, hd]
  refine Thn_n ?_
  refine hK _ _ ?_
  clear hK K
  refine AW.ret ?_
  refine Thn_r ?_
  refine hQ _ _ _ ?_
  first | refine RetP.drop0 (Or.inr rfl) ?_ ?_ hwf | refine RetP.drop (Or.inr rfl) ?_ ?_ hwf
  · simp only [resA, resOne, resTv, AV.tv, push_cast, simprocAttr, hd]
  · rfl
theorem back_big2 (W H : Int) (rL nL rD nD rN nN rB nB rS nS rF nF : Nat) (GL GN GB : Nat → Nat → Int) (fD fS fF : Nat → Int) (m : AMem) (pL : HRow m 75 rL nL GL) (pD : IRow m 2 rD nD fD) (pN : HRow m 71 rN nN GN) (pB : HRow m 75 rB nB GB) (pS : IRow m 3 rS nS fS) (pF : IRow m 3 rF nF fF) (bL : nL ≤ 1048576) (bD : nD ≤ 1048576) (bN : nN ≤ 1048576) (bB : nB ≤ 1048576) (bS : nS ≤ 1048576) (bF : nF ≤ 1048576) (r0 : Nat) (bs : List Int) (hp : ∃ k ez, m[r0]? = some ⟨k, 5, 0, ez, u8l bs⟩) (hn : bs.length ≤ 1048576) (hu : ∀ i, 0 ≤ byB bs i ∧ byB bs i ≤ 255) (hd0 : ¬ 5000 < (nL : Int)) (hd : 5000 < (nS : Int)) : Ctr Try.prog 6 [.agg [.int .i64 W, .int .i64 H, .sl rL 0 0 nL, .sl rD 0 0 nD, .sl rN 0 0 nN, .sl rB 0 0 nB, .sl rS 0 0 nS, .sl rF 0 0 nF], .one (.sl r0 0 0 bs.length)] m (.one (.bool true)) m := by
  refine Ctr.enter Try.func6 rfl (by decide) (rs := [.tmp 4]) (nt := 99) rfl rfl fun hwf Q hQ => ?_
  refine AW.seq_k fun K hK => ?_
  refine AW.region (by decide) ?_
  simp only [push_cast, simprocAttr, hd0, hd]
  refine Thn_n ?_
  refine hK _ _ ?_
  clear hK K
  refine AW.seq_k fun K hK => ?_
  refine AW.seq_k fun K hK => ?_
  refine AW.region (by decide) ?_
  simp only [push_cast, simprocAttr, hd0, hd]
  refine Thn_n ?_
  refine hK _ _ ?_
  clear hK K
  refine AW.cond_t rfl ?_
  refine AW.seq_k fun K hK => ?_
  refine AW.region (by decide) ?_
  simp only [push_cast, simprocAttr, hd0, hd]
  refine CThen.by (awake_c _) ?_
  simp only [push_cast, simprocAttr, hd0, hd]
  refine Thn_n ?_
  refine hK _ _ ?_
  clear hK K
  refine AW.ret ?_
  refine Thn_r ?_
  refine hQ _ _ _ ?_
  first | refine RetP.drop0 (Or.inr rfl) ?_ ?_ hwf | refine RetP.drop (Or.inr rfl) ?_ ?_ hwf
  · simp only [resA, resOne, resTv, AV.tv, push_cast, simprocAttr, hd0, hd]
  · rfl
theorem back_big3 (W H : Int) (rL nL rD nD rN nN rB nB rS nS rF nF : Nat) (GL GN GB : Nat → Nat → Int) (fD fS fF : Nat → Int) (m : AMem) (pL : HRow m 75 rL nL GL) (pD : IRow m 2 rD nD fD) (pN : HRow m 71 rN nN GN) (pB : HRow m 75 rB nB GB) (pS : IRow m 3 rS nS fS) (pF : IRow m 3 rF nF fF) (bL : nL ≤ 1048576) (bD : nD ≤ 1048576) (bN : nN ≤ 1048576) (bB : nB ≤ 1048576) (bS : nS ≤ 1048576) (bF : nF ≤ 1048576) (r0 : Nat) (bs : List Int) (hp : ∃ k ez, m[r0]? = some ⟨k, 5, 0, ez, u8l bs⟩) (hn : bs.length ≤ 1048576) (hu : ∀ i, 0 ≤ byB bs i ∧ byB bs i ≤ 255) (hd0 : ¬ 5000 < (nL : Int)) (hd : ¬ 5000 < (nS : Int)) (hh : ¬ HeldP nL nD nN nB GL GN GB fD) : Ctr Try.prog 6 [.agg [.int .i64 W, .int .i64 H, .sl rL 0 0 nL, .sl rD 0 0 nD, .sl rN 0 0 nN, .sl rB 0 0 nB, .sl rS 0 0 nS, .sl rF 0 0 nF], .one (.sl r0 0 0 bs.length)] m (.one (.bool true)) m := by
  refine Ctr.enter Try.func6 rfl (by decide) (rs := [.tmp 4]) (nt := 99) rfl rfl fun hwf Q hQ => ?_
  refine AW.seq_k fun K hK => ?_
  refine AW.region (by decide) ?_
  simp only [push_cast, simprocAttr, hd0, hd]
  refine Thn_n ?_
  refine hK _ _ ?_
  clear hK K
  refine AW.seq_k fun K hK => ?_
  refine AW.seq_k fun K hK => ?_
  refine AW.region (by decide) ?_
  simp only [push_cast, simprocAttr, hd0, hd]
  refine CThen.by (heldF_c W H rL nL rD nD rN nN rB nB rS nS rF nF GL GN GB fD fS fF _ (pL.mono _) (pD.mono _) (pN.mono _) (pB.mono _) (pS.mono _) (pF.mono _) bL bD bN bB bS bF false ⟨(fun h => by cases h), (fun h => absurd h hh)⟩) ?_
  simp only [push_cast, simprocAttr, hd0, hd]
  refine Thn_n ?_
  refine hK _ _ ?_
  clear hK K
  refine AW.cond_t rfl ?_
  refine AW.seq_k fun K hK => ?_
  refine AW.region (by decide) ?_
  simp only [push_cast, simprocAttr, hd0, hd]
  refine CThen.by (awake_c _) ?_
  simp only [push_cast, simprocAttr, hd0, hd]
  refine Thn_n ?_
  refine hK _ _ ?_
  clear hK K
  refine AW.ret ?_
  refine Thn_r ?_
  refine hQ _ _ _ ?_
  first | refine RetP.drop0 (Or.inr rfl) ?_ ?_ hwf | refine RetP.drop (Or.inr rfl) ?_ ?_ hwf
  · simp only [resA, resOne, resTv, AV.tv, push_cast, simprocAttr, hd0, hd]
  · rfl
theorem back_000 (W H : Int) (rL nL rD nD rN nN rB nB rS nS rF nF : Nat) (GL GN GB : Nat → Nat → Int) (fD fS fF : Nat → Int) (m : AMem) (pL : HRow m 75 rL nL GL) (pD : IRow m 2 rD nD fD) (pN : HRow m 71 rN nN GN) (pB : HRow m 75 rB nB GB) (pS : IRow m 3 rS nS fS) (pF : IRow m 3 rF nF fF) (bL : nL ≤ 1048576) (bD : nD ≤ 1048576) (bN : nN ≤ 1048576) (bB : nB ≤ 1048576) (bS : nS ≤ 1048576) (bF : nF ≤ 1048576) (r0 : Nat) (bs : List Int) (hp : ∃ k ez, m[r0]? = some ⟨k, 5, 0, ez, u8l bs⟩) (hn : bs.length ≤ 1048576) (hu : ∀ i, 0 ≤ byB bs i ∧ byB bs i ≤ 255) (hd0 : ¬ 5000 < (nL : Int)) (hd : ¬ 5000 < (nS : Int)) (hh : HeldP nL nD nN nB GL GN GB fD) (hz : filmR W H nL nD nN nB nS nF fS fF = false) (hok : okB bs = false) (hs : (((endS bs.length (hsS bs (0, 0) (npS bs (0, 0)))).2 != 0) = true)) (he : (erV bs == 0) = false) (he2 : ((endS bs.length (hsS bs (0, 0) (npS bs (0, 0)))).2 == 0) = false) : Ctr Try.prog 6 [.agg [.int .i64 W, .int .i64 H, .sl rL 0 0 nL, .sl rD 0 0 nD, .sl rN 0 0 nN, .sl rB 0 0 nB, .sl rS 0 0 nS, .sl rF 0 0 nF], .one (.sl r0 0 0 bs.length)] m (.one (.bool true)) m := by
  refine Ctr.enter Try.func6 rfl (by decide) (rs := [.tmp 4]) (nt := 99) rfl rfl fun hwf Q hQ => ?_
  obtain ⟨k0, ez0, hb⟩ := id hp
  have l0 := get_lt hb
  obtain ⟨kL, eL, hLb⟩ := pL.hb
  obtain ⟨kD, eD, hDb⟩ := pD.hb
  obtain ⟨kN, eN, hNb⟩ := pN.hb
  obtain ⟨kB, eB, hBb⟩ := pB.hb
  obtain ⟨kS, eS, hSb⟩ := pS.hb
  obtain ⟨kF, eF, hFb⟩ := pF.hb
  have bz := bytesA_u8l
  have tS : List.take bs.length (u8l bs) = u8l bs := List.take_of_length_le (by rw [u8l_len]; exact Nat.le_refl _)
  refine AW.seq_k fun K hK => ?_
  refine AW.region (by decide) ?_
  simp only [push_cast, simprocAttr, hb, lk_old hb, hd0, hd, u8l_len, tS, bz, Nat.le_refl, bne_self_eq_false, he, he2]
  refine Thn_n ?_
  refine hK _ _ ?_
  clear hK K
  refine AW.seq_k fun K hK => ?_
  refine AW.seq_k fun K hK => ?_
  refine AW.region (by decide) ?_
  simp only [push_cast, simprocAttr, hb, lk_old hb, hd0, hd, u8l_len, tS, bz, Nat.le_refl, bne_self_eq_false, he, he2]
  refine CThen.by (heldF_c W H rL nL rD nD rN nN rB nB rS nS rF nF GL GN GB fD fS fF _ (pL.mono _) (pD.mono _) (pN.mono _) (pB.mono _) (pS.mono _) (pF.mono _) bL bD bN bB bS bF true ⟨fun _ => hh, fun _ => rfl⟩) ?_
  simp only [push_cast, simprocAttr, hb, lk_old hb, hd0, hd, u8l_len, tS, bz, Nat.le_refl, bne_self_eq_false, he, he2]
  refine Thn_n ?_
  refine hK _ _ ?_
  clear hK K
  refine AW.cond_f rfl ?_
  refine AW.skip ?_
  refine Thn_n ?_
  refine hK _ _ ?_
  clear hK K
  refine AW.seq_k fun K hK => ?_
  refine AW.seq_k fun K hK => ?_
  refine AW.region (by decide) ?_
  simp only [push_cast, simprocAttr, hb, lk_old hb, hd0, hd, u8l_len, tS, bz, Nat.le_refl, bne_self_eq_false, he, he2]
  refine CThen.by (to_c W H rL nL rD nD rN nN rB nB rS nS rF nF GL GN GB fD fS fF _ (pL.mono _) (pD.mono _) (pN.mono _) (pB.mono _) (pS.mono _) (pF.mono _) bL bD bN bB bS bF) ?_
  simp only [push_cast, simprocAttr, hb, lk_old hb, hd0, hd, u8l_len, tS, bz, Nat.le_refl, bne_self_eq_false, he, he2]
  refine CThen.by (encF_no W H (m.length + 1) nL (m.length + 2) nD (m.length + 3) nN (m.length + 4) nB (m.length + 5) nS (m.length + 6) nF GL GN GB fD fS fF _ ⟨.grow, 3, by simp only [push_cast, simprocAttr]⟩ ⟨.grow, 1, by simp only [push_cast, simprocAttr]⟩ ⟨.grow, 3, by simp only [push_cast, simprocAttr]⟩ ⟨.grow, 3, by simp only [push_cast, simprocAttr]⟩ ⟨.grow, 1, by simp only [push_cast, simprocAttr]⟩ ⟨.grow, 1, by simp only [push_cast, simprocAttr]⟩ bL bD bN bB bS bF hz) ?_
  simp only [push_cast, simprocAttr, hb, lk_old hb, hd0, hd, u8l_len, tS, bz, Nat.le_refl, bne_self_eq_false, he, he2]
  refine Thn_n ?_
  refine hK _ _ ?_
  clear hK K
  refine AW.seq_k fun K hK => ?_
  refine AW.region (by decide) ?_
  simp only [push_cast, simprocAttr, hb, lk_old hb, hd0, hd, u8l_len, tS, bz, Nat.le_refl, bne_self_eq_false, he, he2]
  refine Thn_n ?_
  refine hK _ _ ?_
  clear hK K
  refine AW.cond_f rfl ?_
  refine AW.skip ?_
  refine Thn_n ?_
  refine hK _ _ ?_
  clear hK K
  refine AW.seq_k fun K hK => ?_
  refine AW.seq_k fun K hK => ?_
  refine AW.region (by decide) ?_
  simp only [push_cast, simprocAttr, hb, lk_old hb, hd0, hd, u8l_len, tS, bz, Nat.le_refl, bne_self_eq_false, he, he2]
  refine CThen.by (dec_N r0 bs _ ⟨_, _, lk_old hb _⟩ (by omega) hu hok) ?_
  simp only [push_cast, simprocAttr, hb, lk_old hb, hd0, hd, u8l_len, tS, bz, Nat.le_refl, bne_self_eq_false, he, he2]
  refine Thn_n ?_
  refine hK _ _ ?_
  clear hK K
  refine AW.seq_k fun K hK => ?_
  refine AW.region (by decide) ?_
  simp only [push_cast, simprocAttr, hb, lk_old hb, hd0, hd, u8l_len, tS, bz, Nat.le_refl, bne_self_eq_false, he, he2]
  refine Thn_n ?_
  refine hK _ _ ?_
  clear hK K
  refine AW.cond_f rfl ?_
  refine AW.skip ?_
  refine Thn_n ?_
  refine hK _ _ ?_
  clear hK K
  refine AW.seq_k fun K hK => ?_
  refine AW.seq_k fun K hK => ?_
  refine AW.region (by decide) ?_
  simp only [push_cast, simprocAttr, hb, lk_old hb, hd0, hd, u8l_len, tS, bz, Nat.le_refl, bne_self_eq_false, he, he2]
  refine CThen.by (decS_N r0 bs _ ⟨_, _, lk_old hb _⟩ (by omega) hu hs) ?_
  simp only [push_cast, simprocAttr, hb, lk_old hb, hd0, hd, u8l_len, tS, bz, Nat.le_refl, bne_self_eq_false, he, he2]
  refine Thn_n ?_
  refine hK _ _ ?_
  clear hK K
  refine AW.seq_k fun K hK => ?_
  refine AW.region (by decide) ?_
  simp only [push_cast, simprocAttr, hb, lk_old hb, hd0, hd, u8l_len, tS, bz, Nat.le_refl, bne_self_eq_false, he, he2]
  refine Thn_n ?_
  refine hK _ _ ?_
  clear hK K
  refine AW.cond_f rfl ?_
  refine AW.skip ?_
  refine Thn_n ?_
  refine hK _ _ ?_
  clear hK K
  refine AW.seq_k fun K hK => ?_
  refine AW.region (by decide) ?_
  simp only [push_cast, simprocAttr, hb, lk_old hb, hd0, hd, u8l_len, tS, bz, Nat.le_refl, bne_self_eq_false, he, he2]
  refine CThen.by (awake_c _) ?_
  simp only [push_cast, simprocAttr, hb, lk_old hb, hd0, hd, u8l_len, tS, bz, Nat.le_refl, bne_self_eq_false, he, he2]
  refine Thn_n ?_
  refine hK _ _ ?_
  clear hK K
  refine AW.ret ?_
  refine hQ _ _ _ ?_
  first | refine RetP.drop0 (Or.inr rfl) ?_ ?_ hwf | refine RetP.drop (Or.inr rfl) ?_ ?_ hwf
  · simp only [resA, resOne, resTv, AV.tv, push_cast, simprocAttr, hb, lk_old hb, hd0, hd, u8l_len, tS, bz, Nat.le_refl, bne_self_eq_false, he, he2]
  · rfl
theorem back_001 (W H : Int) (rL nL rD nD rN nN rB nB rS nS rF nF : Nat) (GL GN GB : Nat → Nat → Int) (fD fS fF : Nat → Int) (m : AMem) (pL : HRow m 75 rL nL GL) (pD : IRow m 2 rD nD fD) (pN : HRow m 71 rN nN GN) (pB : HRow m 75 rB nB GB) (pS : IRow m 3 rS nS fS) (pF : IRow m 3 rF nF fF) (bL : nL ≤ 1048576) (bD : nD ≤ 1048576) (bN : nN ≤ 1048576) (bB : nB ≤ 1048576) (bS : nS ≤ 1048576) (bF : nF ≤ 1048576) (r0 : Nat) (bs : List Int) (hp : ∃ k ez, m[r0]? = some ⟨k, 5, 0, ez, u8l bs⟩) (hn : bs.length ≤ 1048576) (hu : ∀ i, 0 ≤ byB bs i ∧ byB bs i ≤ 255) (hd0 : ¬ 5000 < (nL : Int)) (hd : ¬ 5000 < (nS : Int)) (hh : HeldP nL nD nN nB GL GN GB fD) (hz : filmR W H nL nD nN nB nS nF fS fF = false) (hok : okB bs = false) (hs : ((endS bs.length (hsS bs (0, 0) (npS bs (0, 0)))).2 = 0)) (he : (erV bs == 0) = false) : Ctr Try.prog 6 [.agg [.int .i64 W, .int .i64 H, .sl rL 0 0 nL, .sl rD 0 0 nD, .sl rN 0 0 nN, .sl rB 0 0 nB, .sl rS 0 0 nS, .sl rF 0 0 nF], .one (.sl r0 0 0 bs.length)] m (.one (.bool true)) m := by
  refine Ctr.enter Try.func6 rfl (by decide) (rs := [.tmp 4]) (nt := 99) rfl rfl fun hwf Q hQ => ?_
  obtain ⟨k0, ez0, hb⟩ := id hp
  have l0 := get_lt hb
  obtain ⟨kL, eL, hLb⟩ := pL.hb
  obtain ⟨kD, eD, hDb⟩ := pD.hb
  obtain ⟨kN, eN, hNb⟩ := pN.hb
  obtain ⟨kB, eB, hBb⟩ := pB.hb
  obtain ⟨kS, eS, hSb⟩ := pS.hb
  obtain ⟨kF, eF, hFb⟩ := pF.hb
  have bz := bytesA_u8l
  have tS : List.take bs.length (u8l bs) = u8l bs := List.take_of_length_le (by rw [u8l_len]; exact Nat.le_refl _)
  refine AW.seq_k fun K hK => ?_
  refine AW.region (by decide) ?_
  simp only [push_cast, simprocAttr, hb, lk_old hb, hd0, hd, u8l_len, tS, bz, Nat.le_refl, bne_self_eq_false, he]
  refine Thn_n ?_
  refine hK _ _ ?_
  clear hK K
  refine AW.seq_k fun K hK => ?_
  refine AW.seq_k fun K hK => ?_
  refine AW.region (by decide) ?_
  simp only [push_cast, simprocAttr, hb, lk_old hb, hd0, hd, u8l_len, tS, bz, Nat.le_refl, bne_self_eq_false, he]
  refine CThen.by (heldF_c W H rL nL rD nD rN nN rB nB rS nS rF nF GL GN GB fD fS fF _ (pL.mono _) (pD.mono _) (pN.mono _) (pB.mono _) (pS.mono _) (pF.mono _) bL bD bN bB bS bF true ⟨fun _ => hh, fun _ => rfl⟩) ?_
  simp only [push_cast, simprocAttr, hb, lk_old hb, hd0, hd, u8l_len, tS, bz, Nat.le_refl, bne_self_eq_false, he]
  refine Thn_n ?_
  refine hK _ _ ?_
  clear hK K
  refine AW.cond_f rfl ?_
  refine AW.skip ?_
  refine Thn_n ?_
  refine hK _ _ ?_
  clear hK K
  refine AW.seq_k fun K hK => ?_
  refine AW.seq_k fun K hK => ?_
  refine AW.region (by decide) ?_
  simp only [push_cast, simprocAttr, hb, lk_old hb, hd0, hd, u8l_len, tS, bz, Nat.le_refl, bne_self_eq_false, he]
  refine CThen.by (to_c W H rL nL rD nD rN nN rB nB rS nS rF nF GL GN GB fD fS fF _ (pL.mono _) (pD.mono _) (pN.mono _) (pB.mono _) (pS.mono _) (pF.mono _) bL bD bN bB bS bF) ?_
  simp only [push_cast, simprocAttr, hb, lk_old hb, hd0, hd, u8l_len, tS, bz, Nat.le_refl, bne_self_eq_false, he]
  refine CThen.by (encF_no W H (m.length + 1) nL (m.length + 2) nD (m.length + 3) nN (m.length + 4) nB (m.length + 5) nS (m.length + 6) nF GL GN GB fD fS fF _ ⟨.grow, 3, by simp only [push_cast, simprocAttr]⟩ ⟨.grow, 1, by simp only [push_cast, simprocAttr]⟩ ⟨.grow, 3, by simp only [push_cast, simprocAttr]⟩ ⟨.grow, 3, by simp only [push_cast, simprocAttr]⟩ ⟨.grow, 1, by simp only [push_cast, simprocAttr]⟩ ⟨.grow, 1, by simp only [push_cast, simprocAttr]⟩ bL bD bN bB bS bF hz) ?_
  simp only [push_cast, simprocAttr, hb, lk_old hb, hd0, hd, u8l_len, tS, bz, Nat.le_refl, bne_self_eq_false, he]
  refine Thn_n ?_
  refine hK _ _ ?_
  clear hK K
  refine AW.seq_k fun K hK => ?_
  refine AW.region (by decide) ?_
  simp only [push_cast, simprocAttr, hb, lk_old hb, hd0, hd, u8l_len, tS, bz, Nat.le_refl, bne_self_eq_false, he]
  refine Thn_n ?_
  refine hK _ _ ?_
  clear hK K
  refine AW.cond_f rfl ?_
  refine AW.skip ?_
  refine Thn_n ?_
  refine hK _ _ ?_
  clear hK K
  refine AW.seq_k fun K hK => ?_
  refine AW.seq_k fun K hK => ?_
  refine AW.region (by decide) ?_
  simp only [push_cast, simprocAttr, hb, lk_old hb, hd0, hd, u8l_len, tS, bz, Nat.le_refl, bne_self_eq_false, he]
  refine CThen.by (dec_N r0 bs _ ⟨_, _, lk_old hb _⟩ (by omega) hu hok) ?_
  simp only [push_cast, simprocAttr, hb, lk_old hb, hd0, hd, u8l_len, tS, bz, Nat.le_refl, bne_self_eq_false, he]
  refine Thn_n ?_
  refine hK _ _ ?_
  clear hK K
  refine AW.seq_k fun K hK => ?_
  refine AW.region (by decide) ?_
  simp only [push_cast, simprocAttr, hb, lk_old hb, hd0, hd, u8l_len, tS, bz, Nat.le_refl, bne_self_eq_false, he]
  refine Thn_n ?_
  refine hK _ _ ?_
  clear hK K
  refine AW.cond_f rfl ?_
  refine AW.skip ?_
  refine Thn_n ?_
  refine hK _ _ ?_
  clear hK K
  refine AW.seq_k fun K hK => ?_
  refine AW.seq_k fun K hK => ?_
  refine AW.region (by decide) ?_
  simp only [push_cast, simprocAttr, hb, lk_old hb, hd0, hd, u8l_len, tS, bz, Nat.le_refl, bne_self_eq_false, he]
  refine CThen.by (decS_T r0 bs _ ⟨_, _, lk_old hb _⟩ (by omega) hu hs) ?_
  simp only [push_cast, simprocAttr, hb, lk_old hb, hd0, hd, u8l_len, tS, bz, Nat.le_refl, bne_self_eq_false, he]
  refine Thn_n ?_
  refine hK _ _ ?_
  clear hK K
  refine AW.seq_k fun K hK => ?_
  refine AW.region (by decide) ?_
  simp only [push_cast, simprocAttr, hb, lk_old hb, hd0, hd, u8l_len, tS, bz, Nat.le_refl, bne_self_eq_false, he]
  refine Thn_n ?_
  refine hK _ _ ?_
  clear hK K
  refine AW.cond_t rfl ?_
  refine AW.seq_k fun K hK => ?_
  refine AW.region (by decide) ?_
  simp only [push_cast, simprocAttr, hb, lk_old hb, hd0, hd, u8l_len, tS, bz, Nat.le_refl, bne_self_eq_false, he]
  refine CThen.by (encS_back (m.length + 8) bs _ hu hs ⟨.grow, 3, by simp only [push_cast, simprocAttr]⟩) ?_
  simp only [push_cast, simprocAttr, hb, lk_old hb, hd0, hd, u8l_len, tS, bz, Nat.le_refl, bne_self_eq_false, he]
  refine Thn_n ?_
  refine hK _ _ ?_
  clear hK K
  refine AW.seq_k fun K hK => ?_
  refine AW.region (by decide) ?_
  simp only [push_cast, simprocAttr, hb, lk_old hb, hd0, hd, u8l_len, tS, bz, Nat.le_refl, bne_self_eq_false, he]
  refine Thn_n ?_
  refine hK _ _ ?_
  clear hK K
  refine AW.cond_f rfl ?_
  refine AW.skip ?_
  refine Thn_n ?_
  refine hK _ _ ?_
  clear hK K
  refine AW.seq_k fun K hK => ?_
  refine AW.region (by decide) ?_
  simp only [push_cast, simprocAttr, hb, lk_old hb, hd0, hd, u8l_len, tS, bz, Nat.le_refl, bne_self_eq_false, he]
  refine CThen.by (awake_c _) ?_
  simp only [push_cast, simprocAttr, hb, lk_old hb, hd0, hd, u8l_len, tS, bz, Nat.le_refl, bne_self_eq_false, he]
  refine Thn_n ?_
  refine hK _ _ ?_
  clear hK K
  refine AW.ret ?_
  refine hQ _ _ _ ?_
  first | refine RetP.drop0 (Or.inr rfl) ?_ ?_ hwf | refine RetP.drop (Or.inr rfl) ?_ ?_ hwf
  · simp only [resA, resOne, resTv, AV.tv, push_cast, simprocAttr, hb, lk_old hb, hd0, hd, u8l_len, tS, bz, Nat.le_refl, bne_self_eq_false, he]
  · rfl
theorem back_010 (W H : Int) (rL nL rD nD rN nN rB nB rS nS rF nF : Nat) (GL GN GB : Nat → Nat → Int) (fD fS fF : Nat → Int) (m : AMem) (pL : HRow m 75 rL nL GL) (pD : IRow m 2 rD nD fD) (pN : HRow m 71 rN nN GN) (pB : HRow m 75 rB nB GB) (pS : IRow m 3 rS nS fS) (pF : IRow m 3 rF nF fF) (bL : nL ≤ 1048576) (bD : nD ≤ 1048576) (bN : nN ≤ 1048576) (bB : nB ≤ 1048576) (bS : nS ≤ 1048576) (bF : nF ≤ 1048576) (r0 : Nat) (bs : List Int) (hp : ∃ k ez, m[r0]? = some ⟨k, 5, 0, ez, u8l bs⟩) (hn : bs.length ≤ 1048576) (hu : ∀ i, 0 ≤ byB bs i ∧ byB bs i ≤ 255) (hd0 : ¬ 5000 < (nL : Int)) (hd : ¬ 5000 < (nS : Int)) (hh : HeldP nL nD nN nB GL GN GB fD) (hz : filmR W H nL nD nN nB nS nF fS fF = false) (hok : okB bs = true) (hs : (((endS bs.length (hsS bs (0, 0) (npS bs (0, 0)))).2 != 0) = true)) (he2 : ((endS bs.length (hsS bs (0, 0) (npS bs (0, 0)))).2 == 0) = false) : Ctr Try.prog 6 [.agg [.int .i64 W, .int .i64 H, .sl rL 0 0 nL, .sl rD 0 0 nD, .sl rN 0 0 nN, .sl rB 0 0 nB, .sl rS 0 0 nS, .sl rF 0 0 nF], .one (.sl r0 0 0 bs.length)] m (.one (.bool true)) m := by
  refine Ctr.enter Try.func6 rfl (by decide) (rs := [.tmp 4]) (nt := 99) rfl rfl fun hwf Q hQ => ?_
  obtain ⟨k0, ez0, hb⟩ := id hp
  have l0 := get_lt hb
  obtain ⟨kL, eL, hLb⟩ := pL.hb
  obtain ⟨kD, eD, hDb⟩ := pD.hb
  obtain ⟨kN, eN, hNb⟩ := pN.hb
  obtain ⟨kB, eB, hBb⟩ := pB.hb
  obtain ⟨kS, eS, hSb⟩ := pS.hb
  obtain ⟨kF, eF, hFb⟩ := pF.hb
  have bz := bytesA_u8l
  have tS : List.take bs.length (u8l bs) = u8l bs := List.take_of_length_le (by rw [u8l_len]; exact Nat.le_refl _)
  refine AW.seq_k fun K hK => ?_
  refine AW.region (by decide) ?_
  simp only [push_cast, simprocAttr, hb, lk_old hb, hd0, hd, u8l_len, tS, bz, Nat.le_refl, bne_self_eq_false, he2]
  refine Thn_n ?_
  refine hK _ _ ?_
  clear hK K
  refine AW.seq_k fun K hK => ?_
  refine AW.seq_k fun K hK => ?_
  refine AW.region (by decide) ?_
  simp only [push_cast, simprocAttr, hb, lk_old hb, hd0, hd, u8l_len, tS, bz, Nat.le_refl, bne_self_eq_false, he2]
  refine CThen.by (heldF_c W H rL nL rD nD rN nN rB nB rS nS rF nF GL GN GB fD fS fF _ (pL.mono _) (pD.mono _) (pN.mono _) (pB.mono _) (pS.mono _) (pF.mono _) bL bD bN bB bS bF true ⟨fun _ => hh, fun _ => rfl⟩) ?_
  simp only [push_cast, simprocAttr, hb, lk_old hb, hd0, hd, u8l_len, tS, bz, Nat.le_refl, bne_self_eq_false, he2]
  refine Thn_n ?_
  refine hK _ _ ?_
  clear hK K
  refine AW.cond_f rfl ?_
  refine AW.skip ?_
  refine Thn_n ?_
  refine hK _ _ ?_
  clear hK K
  refine AW.seq_k fun K hK => ?_
  refine AW.seq_k fun K hK => ?_
  refine AW.region (by decide) ?_
  simp only [push_cast, simprocAttr, hb, lk_old hb, hd0, hd, u8l_len, tS, bz, Nat.le_refl, bne_self_eq_false, he2]
  refine CThen.by (to_c W H rL nL rD nD rN nN rB nB rS nS rF nF GL GN GB fD fS fF _ (pL.mono _) (pD.mono _) (pN.mono _) (pB.mono _) (pS.mono _) (pF.mono _) bL bD bN bB bS bF) ?_
  simp only [push_cast, simprocAttr, hb, lk_old hb, hd0, hd, u8l_len, tS, bz, Nat.le_refl, bne_self_eq_false, he2]
  refine CThen.by (encF_no W H (m.length + 1) nL (m.length + 2) nD (m.length + 3) nN (m.length + 4) nB (m.length + 5) nS (m.length + 6) nF GL GN GB fD fS fF _ ⟨.grow, 3, by simp only [push_cast, simprocAttr]⟩ ⟨.grow, 1, by simp only [push_cast, simprocAttr]⟩ ⟨.grow, 3, by simp only [push_cast, simprocAttr]⟩ ⟨.grow, 3, by simp only [push_cast, simprocAttr]⟩ ⟨.grow, 1, by simp only [push_cast, simprocAttr]⟩ ⟨.grow, 1, by simp only [push_cast, simprocAttr]⟩ bL bD bN bB bS bF hz) ?_
  simp only [push_cast, simprocAttr, hb, lk_old hb, hd0, hd, u8l_len, tS, bz, Nat.le_refl, bne_self_eq_false, he2]
  refine Thn_n ?_
  refine hK _ _ ?_
  clear hK K
  refine AW.seq_k fun K hK => ?_
  refine AW.region (by decide) ?_
  simp only [push_cast, simprocAttr, hb, lk_old hb, hd0, hd, u8l_len, tS, bz, Nat.le_refl, bne_self_eq_false, he2]
  refine Thn_n ?_
  refine hK _ _ ?_
  clear hK K
  refine AW.cond_f rfl ?_
  refine AW.skip ?_
  refine Thn_n ?_
  refine hK _ _ ?_
  clear hK K
  refine AW.seq_k fun K hK => ?_
  refine AW.seq_k fun K hK => ?_
  refine AW.region (by decide) ?_
  simp only [push_cast, simprocAttr, hb, lk_old hb, hd0, hd, u8l_len, tS, bz, Nat.le_refl, bne_self_eq_false, he2]
  refine CThen.by (dec_T r0 bs _ ⟨_, _, lk_old hb _⟩ (by omega) hu hok) ?_
  simp only [push_cast, simprocAttr, hb, lk_old hb, hd0, hd, u8l_len, tS, bz, Nat.le_refl, bne_self_eq_false, he2]
  refine Thn_n ?_
  refine hK _ _ ?_
  clear hK K
  refine AW.seq_k fun K hK => ?_
  refine AW.region (by decide) ?_
  simp only [push_cast, simprocAttr, hb, lk_old hb, hd0, hd, u8l_len, tS, bz, Nat.le_refl, bne_self_eq_false, he2]
  refine Thn_n ?_
  refine hK _ _ ?_
  clear hK K
  refine AW.cond_t rfl ?_
  refine AW.seq_k fun K hK => ?_
  refine AW.region (by decide) ?_
  simp only [push_cast, simprocAttr, hb, lk_old hb, hd0, hd, u8l_len, tS, bz, Nat.le_refl, bne_self_eq_false, he2]
  refine CThen.by (enc_back (m.length + 7) (m.length + 8) (m.length + 9) (m.length + 10) (m.length + 11) (m.length + 12) bs _ hu hok ⟨.grow, 3, by simp only [push_cast, simprocAttr]⟩ ⟨.grow, 1, by simp only [push_cast, simprocAttr]⟩ ⟨.grow, 3, by simp only [push_cast, simprocAttr]⟩ ⟨.grow, 3, by simp only [push_cast, simprocAttr]⟩ ⟨.grow, 1, by simp only [push_cast, simprocAttr]⟩ ⟨.grow, 1, by simp only [push_cast, simprocAttr]⟩) ?_
  simp only [push_cast, simprocAttr, hb, lk_old hb, hd0, hd, u8l_len, tS, bz, Nat.le_refl, bne_self_eq_false, he2]
  refine Thn_n ?_
  refine hK _ _ ?_
  clear hK K
  refine AW.seq_k fun K hK => ?_
  refine AW.region (by decide) ?_
  simp only [push_cast, simprocAttr, hb, lk_old hb, hd0, hd, u8l_len, tS, bz, Nat.le_refl, bne_self_eq_false, he2]
  refine Thn_n ?_
  refine hK _ _ ?_
  clear hK K
  refine AW.cond_f rfl ?_
  refine AW.skip ?_
  refine Thn_n ?_
  refine hK _ _ ?_
  clear hK K
  refine AW.seq_k fun K hK => ?_
  refine AW.seq_k fun K hK => ?_
  refine AW.region (by decide) ?_
  simp only [push_cast, simprocAttr, hb, lk_old hb, hd0, hd, u8l_len, tS, bz, Nat.le_refl, bne_self_eq_false, he2]
  refine CThen.by (decS_N r0 bs _ ⟨_, _, lk_old hb _⟩ (by omega) hu hs) ?_
  simp only [push_cast, simprocAttr, hb, lk_old hb, hd0, hd, u8l_len, tS, bz, Nat.le_refl, bne_self_eq_false, he2]
  refine Thn_n ?_
  refine hK _ _ ?_
  clear hK K
  refine AW.seq_k fun K hK => ?_
  refine AW.region (by decide) ?_
  simp only [push_cast, simprocAttr, hb, lk_old hb, hd0, hd, u8l_len, tS, bz, Nat.le_refl, bne_self_eq_false, he2]
  refine Thn_n ?_
  refine hK _ _ ?_
  clear hK K
  refine AW.cond_f rfl ?_
  refine AW.skip ?_
  refine Thn_n ?_
  refine hK _ _ ?_
  clear hK K
  refine AW.seq_k fun K hK => ?_
  refine AW.region (by decide) ?_
  simp only [push_cast, simprocAttr, hb, lk_old hb, hd0, hd, u8l_len, tS, bz, Nat.le_refl, bne_self_eq_false, he2]
  refine CThen.by (awake_c _) ?_
  simp only [push_cast, simprocAttr, hb, lk_old hb, hd0, hd, u8l_len, tS, bz, Nat.le_refl, bne_self_eq_false, he2]
  refine Thn_n ?_
  refine hK _ _ ?_
  clear hK K
  refine AW.ret ?_
  refine hQ _ _ _ ?_
  first | refine RetP.drop0 (Or.inr rfl) ?_ ?_ hwf | refine RetP.drop (Or.inr rfl) ?_ ?_ hwf
  · simp only [resA, resOne, resTv, AV.tv, push_cast, simprocAttr, hb, lk_old hb, hd0, hd, u8l_len, tS, bz, Nat.le_refl, bne_self_eq_false, he2]
  · rfl
theorem back_011 (W H : Int) (rL nL rD nD rN nN rB nB rS nS rF nF : Nat) (GL GN GB : Nat → Nat → Int) (fD fS fF : Nat → Int) (m : AMem) (pL : HRow m 75 rL nL GL) (pD : IRow m 2 rD nD fD) (pN : HRow m 71 rN nN GN) (pB : HRow m 75 rB nB GB) (pS : IRow m 3 rS nS fS) (pF : IRow m 3 rF nF fF) (bL : nL ≤ 1048576) (bD : nD ≤ 1048576) (bN : nN ≤ 1048576) (bB : nB ≤ 1048576) (bS : nS ≤ 1048576) (bF : nF ≤ 1048576) (r0 : Nat) (bs : List Int) (hp : ∃ k ez, m[r0]? = some ⟨k, 5, 0, ez, u8l bs⟩) (hn : bs.length ≤ 1048576) (hu : ∀ i, 0 ≤ byB bs i ∧ byB bs i ≤ 255) (hd0 : ¬ 5000 < (nL : Int)) (hd : ¬ 5000 < (nS : Int)) (hh : HeldP nL nD nN nB GL GN GB fD) (hz : filmR W H nL nD nN nB nS nF fS fF = false) (hok : okB bs = true) (hs : ((endS bs.length (hsS bs (0, 0) (npS bs (0, 0)))).2 = 0)) : Ctr Try.prog 6 [.agg [.int .i64 W, .int .i64 H, .sl rL 0 0 nL, .sl rD 0 0 nD, .sl rN 0 0 nN, .sl rB 0 0 nB, .sl rS 0 0 nS, .sl rF 0 0 nF], .one (.sl r0 0 0 bs.length)] m (.one (.bool true)) m := by
  refine Ctr.enter Try.func6 rfl (by decide) (rs := [.tmp 4]) (nt := 99) rfl rfl fun hwf Q hQ => ?_
  obtain ⟨k0, ez0, hb⟩ := id hp
  have l0 := get_lt hb
  obtain ⟨kL, eL, hLb⟩ := pL.hb
  obtain ⟨kD, eD, hDb⟩ := pD.hb
  obtain ⟨kN, eN, hNb⟩ := pN.hb
  obtain ⟨kB, eB, hBb⟩ := pB.hb
  obtain ⟨kS, eS, hSb⟩ := pS.hb
  obtain ⟨kF, eF, hFb⟩ := pF.hb
  have bz := bytesA_u8l
  have tS : List.take bs.length (u8l bs) = u8l bs := List.take_of_length_le (by rw [u8l_len]; exact Nat.le_refl _)
  refine AW.seq_k fun K hK => ?_
  refine AW.region (by decide) ?_
  simp only [push_cast, simprocAttr, hb, lk_old hb, hd0, hd, u8l_len, tS, bz, Nat.le_refl, bne_self_eq_false]
  refine Thn_n ?_
  refine hK _ _ ?_
  clear hK K
  refine AW.seq_k fun K hK => ?_
  refine AW.seq_k fun K hK => ?_
  refine AW.region (by decide) ?_
  simp only [push_cast, simprocAttr, hb, lk_old hb, hd0, hd, u8l_len, tS, bz, Nat.le_refl, bne_self_eq_false]
  refine CThen.by (heldF_c W H rL nL rD nD rN nN rB nB rS nS rF nF GL GN GB fD fS fF _ (pL.mono _) (pD.mono _) (pN.mono _) (pB.mono _) (pS.mono _) (pF.mono _) bL bD bN bB bS bF true ⟨fun _ => hh, fun _ => rfl⟩) ?_
  simp only [push_cast, simprocAttr, hb, lk_old hb, hd0, hd, u8l_len, tS, bz, Nat.le_refl, bne_self_eq_false]
  refine Thn_n ?_
  refine hK _ _ ?_
  clear hK K
  refine AW.cond_f rfl ?_
  refine AW.skip ?_
  refine Thn_n ?_
  refine hK _ _ ?_
  clear hK K
  refine AW.seq_k fun K hK => ?_
  refine AW.seq_k fun K hK => ?_
  refine AW.region (by decide) ?_
  simp only [push_cast, simprocAttr, hb, lk_old hb, hd0, hd, u8l_len, tS, bz, Nat.le_refl, bne_self_eq_false]
  refine CThen.by (to_c W H rL nL rD nD rN nN rB nB rS nS rF nF GL GN GB fD fS fF _ (pL.mono _) (pD.mono _) (pN.mono _) (pB.mono _) (pS.mono _) (pF.mono _) bL bD bN bB bS bF) ?_
  simp only [push_cast, simprocAttr, hb, lk_old hb, hd0, hd, u8l_len, tS, bz, Nat.le_refl, bne_self_eq_false]
  refine CThen.by (encF_no W H (m.length + 1) nL (m.length + 2) nD (m.length + 3) nN (m.length + 4) nB (m.length + 5) nS (m.length + 6) nF GL GN GB fD fS fF _ ⟨.grow, 3, by simp only [push_cast, simprocAttr]⟩ ⟨.grow, 1, by simp only [push_cast, simprocAttr]⟩ ⟨.grow, 3, by simp only [push_cast, simprocAttr]⟩ ⟨.grow, 3, by simp only [push_cast, simprocAttr]⟩ ⟨.grow, 1, by simp only [push_cast, simprocAttr]⟩ ⟨.grow, 1, by simp only [push_cast, simprocAttr]⟩ bL bD bN bB bS bF hz) ?_
  simp only [push_cast, simprocAttr, hb, lk_old hb, hd0, hd, u8l_len, tS, bz, Nat.le_refl, bne_self_eq_false]
  refine Thn_n ?_
  refine hK _ _ ?_
  clear hK K
  refine AW.seq_k fun K hK => ?_
  refine AW.region (by decide) ?_
  simp only [push_cast, simprocAttr, hb, lk_old hb, hd0, hd, u8l_len, tS, bz, Nat.le_refl, bne_self_eq_false]
  refine Thn_n ?_
  refine hK _ _ ?_
  clear hK K
  refine AW.cond_f rfl ?_
  refine AW.skip ?_
  refine Thn_n ?_
  refine hK _ _ ?_
  clear hK K
  refine AW.seq_k fun K hK => ?_
  refine AW.seq_k fun K hK => ?_
  refine AW.region (by decide) ?_
  simp only [push_cast, simprocAttr, hb, lk_old hb, hd0, hd, u8l_len, tS, bz, Nat.le_refl, bne_self_eq_false]
  refine CThen.by (dec_T r0 bs _ ⟨_, _, lk_old hb _⟩ (by omega) hu hok) ?_
  simp only [push_cast, simprocAttr, hb, lk_old hb, hd0, hd, u8l_len, tS, bz, Nat.le_refl, bne_self_eq_false]
  refine Thn_n ?_
  refine hK _ _ ?_
  clear hK K
  refine AW.seq_k fun K hK => ?_
  refine AW.region (by decide) ?_
  simp only [push_cast, simprocAttr, hb, lk_old hb, hd0, hd, u8l_len, tS, bz, Nat.le_refl, bne_self_eq_false]
  refine Thn_n ?_
  refine hK _ _ ?_
  clear hK K
  refine AW.cond_t rfl ?_
  refine AW.seq_k fun K hK => ?_
  refine AW.region (by decide) ?_
  simp only [push_cast, simprocAttr, hb, lk_old hb, hd0, hd, u8l_len, tS, bz, Nat.le_refl, bne_self_eq_false]
  refine CThen.by (enc_back (m.length + 7) (m.length + 8) (m.length + 9) (m.length + 10) (m.length + 11) (m.length + 12) bs _ hu hok ⟨.grow, 3, by simp only [push_cast, simprocAttr]⟩ ⟨.grow, 1, by simp only [push_cast, simprocAttr]⟩ ⟨.grow, 3, by simp only [push_cast, simprocAttr]⟩ ⟨.grow, 3, by simp only [push_cast, simprocAttr]⟩ ⟨.grow, 1, by simp only [push_cast, simprocAttr]⟩ ⟨.grow, 1, by simp only [push_cast, simprocAttr]⟩) ?_
  simp only [push_cast, simprocAttr, hb, lk_old hb, hd0, hd, u8l_len, tS, bz, Nat.le_refl, bne_self_eq_false]
  refine Thn_n ?_
  refine hK _ _ ?_
  clear hK K
  refine AW.seq_k fun K hK => ?_
  refine AW.region (by decide) ?_
  simp only [push_cast, simprocAttr, hb, lk_old hb, hd0, hd, u8l_len, tS, bz, Nat.le_refl, bne_self_eq_false]
  refine Thn_n ?_
  refine hK _ _ ?_
  clear hK K
  refine AW.cond_f rfl ?_
  refine AW.skip ?_
  refine Thn_n ?_
  refine hK _ _ ?_
  clear hK K
  refine AW.seq_k fun K hK => ?_
  refine AW.seq_k fun K hK => ?_
  refine AW.region (by decide) ?_
  simp only [push_cast, simprocAttr, hb, lk_old hb, hd0, hd, u8l_len, tS, bz, Nat.le_refl, bne_self_eq_false]
  refine CThen.by (decS_T r0 bs _ ⟨_, _, lk_old hb _⟩ (by omega) hu hs) ?_
  simp only [push_cast, simprocAttr, hb, lk_old hb, hd0, hd, u8l_len, tS, bz, Nat.le_refl, bne_self_eq_false]
  refine Thn_n ?_
  refine hK _ _ ?_
  clear hK K
  refine AW.seq_k fun K hK => ?_
  refine AW.region (by decide) ?_
  simp only [push_cast, simprocAttr, hb, lk_old hb, hd0, hd, u8l_len, tS, bz, Nat.le_refl, bne_self_eq_false]
  refine Thn_n ?_
  refine hK _ _ ?_
  clear hK K
  refine AW.cond_t rfl ?_
  refine AW.seq_k fun K hK => ?_
  refine AW.region (by decide) ?_
  simp only [push_cast, simprocAttr, hb, lk_old hb, hd0, hd, u8l_len, tS, bz, Nat.le_refl, bne_self_eq_false]
  refine CThen.by (encS_back (m.length + 15) bs _ hu hs ⟨.grow, 3, by simp only [push_cast, simprocAttr]⟩) ?_
  simp only [push_cast, simprocAttr, hb, lk_old hb, hd0, hd, u8l_len, tS, bz, Nat.le_refl, bne_self_eq_false]
  refine Thn_n ?_
  refine hK _ _ ?_
  clear hK K
  refine AW.seq_k fun K hK => ?_
  refine AW.region (by decide) ?_
  simp only [push_cast, simprocAttr, hb, lk_old hb, hd0, hd, u8l_len, tS, bz, Nat.le_refl, bne_self_eq_false]
  refine Thn_n ?_
  refine hK _ _ ?_
  clear hK K
  refine AW.cond_f rfl ?_
  refine AW.skip ?_
  refine Thn_n ?_
  refine hK _ _ ?_
  clear hK K
  refine AW.seq_k fun K hK => ?_
  refine AW.region (by decide) ?_
  simp only [push_cast, simprocAttr, hb, lk_old hb, hd0, hd, u8l_len, tS, bz, Nat.le_refl, bne_self_eq_false]
  refine CThen.by (awake_c _) ?_
  simp only [push_cast, simprocAttr, hb, lk_old hb, hd0, hd, u8l_len, tS, bz, Nat.le_refl, bne_self_eq_false]
  refine Thn_n ?_
  refine hK _ _ ?_
  clear hK K
  refine AW.ret ?_
  refine hQ _ _ _ ?_
  first | refine RetP.drop0 (Or.inr rfl) ?_ ?_ hwf | refine RetP.drop (Or.inr rfl) ?_ ?_ hwf
  · simp only [resA, resOne, resTv, AV.tv, push_cast, simprocAttr, hb, lk_old hb, hd0, hd, u8l_len, tS, bz, Nat.le_refl, bne_self_eq_false]
  · rfl
theorem back_100 (W H : Int) (rL rD rN rB rS rF n : Nat) (GL GN GB : Nat → Nat → Int) (fD fS fF : Nat → Int) (m : AMem) (pL : HRow m 75 rL n GL) (pD : IRow m 2 rD n fD) (pN : HRow m 71 rN n GN) (pB : HRow m 75 rB n GB) (pS : IRow m 3 rS n fS) (pF : IRow m 3 rF n fF) (bL : n ≤ 1048576) (r0 : Nat) (bs : List Int) (hp : ∃ k ez, m[r0]? = some ⟨k, 5, 0, ez, u8l bs⟩) (hn : bs.length ≤ 1048576) (hu : ∀ i, 0 ≤ byB bs i ∧ byB bs i ≤ 255) (hd0 : ¬ 5000 < (n : Int)) (hh : HeldP n n n n GL GN GB fD) (hz : filmR W H n n n n n n fS fF = true) (hok : okB bs = false) (hs : (((endS bs.length (hsS bs (0, 0) (npS bs (0, 0)))).2 != 0) = true)) (he : (erV bs == 0) = false) (he2 : ((endS bs.length (hsS bs (0, 0) (npS bs (0, 0)))).2 == 0) = false) : Ctr Try.prog 6 [.agg [.int .i64 W, .int .i64 H, .sl rL 0 0 n, .sl rD 0 0 n, .sl rN 0 0 n, .sl rB 0 0 n, .sl rS 0 0 n, .sl rF 0 0 n], .one (.sl r0 0 0 bs.length)] m (.one (.bool true)) m := by
  refine Ctr.enter Try.func6 rfl (by decide) (rs := [.tmp 4]) (nt := 99) rfl rfl fun hwf Q hQ => ?_
  obtain ⟨k0, ez0, hb⟩ := id hp
  have l0 := get_lt hb
  obtain ⟨kL, eL, hLb⟩ := pL.hb
  obtain ⟨kD, eD, hDb⟩ := pD.hb
  obtain ⟨kN, eN, hNb⟩ := pN.hb
  obtain ⟨kB, eB, hBb⟩ := pB.hb
  obtain ⟨kS, eS, hSb⟩ := pS.hb
  obtain ⟨kF, eF, hFb⟩ := pF.hb
  have bz := bytesA_u8l
  have tS : List.take bs.length (u8l bs) = u8l bs := List.take_of_length_le (by rw [u8l_len]; exact Nat.le_refl _)
  refine AW.seq_k fun K hK => ?_
  refine AW.region (by decide) ?_
  simp only [push_cast, simprocAttr, hb, lk_old hb, hd0, u8l_len, tS, bz, Nat.le_refl, bne_self_eq_false, he, he2]
  refine Thn_n ?_
  refine hK _ _ ?_
  clear hK K
  refine AW.seq_k fun K hK => ?_
  refine AW.seq_k fun K hK => ?_
  refine AW.region (by decide) ?_
  simp only [push_cast, simprocAttr, hb, lk_old hb, hd0, u8l_len, tS, bz, Nat.le_refl, bne_self_eq_false, he, he2]
  refine CThen.by (heldF_c W H rL n rD n rN n rB n rS n rF n GL GN GB fD fS fF _ (pL.mono _) (pD.mono _) (pN.mono _) (pB.mono _) (pS.mono _) (pF.mono _) bL bL bL bL bL bL true ⟨fun _ => hh, fun _ => rfl⟩) ?_
  simp only [push_cast, simprocAttr, hb, lk_old hb, hd0, u8l_len, tS, bz, Nat.le_refl, bne_self_eq_false, he, he2]
  refine Thn_n ?_
  refine hK _ _ ?_
  clear hK K
  refine AW.cond_f rfl ?_
  refine AW.skip ?_
  refine Thn_n ?_
  refine hK _ _ ?_
  clear hK K
  refine AW.seq_k fun K hK => ?_
  refine AW.seq_k fun K hK => ?_
  refine AW.region (by decide) ?_
  simp only [push_cast, simprocAttr, hb, lk_old hb, hd0, u8l_len, tS, bz, Nat.le_refl, bne_self_eq_false, he, he2]
  refine CThen.by (to_c W H rL n rD n rN n rB n rS n rF n GL GN GB fD fS fF _ (pL.mono _) (pD.mono _) (pN.mono _) (pB.mono _) (pS.mono _) (pF.mono _) bL bL bL bL bL bL) ?_
  simp only [push_cast, simprocAttr, hb, lk_old hb, hd0, u8l_len, tS, bz, Nat.le_refl, bne_self_eq_false, he, he2]
  refine CThen.by (enc_fB W H (m.length + 1) (m.length + 2) (m.length + 3) (m.length + 4) (m.length + 5) (m.length + 6) n GL GN GB fD fS fF _ ⟨.grow, 3, by simp only [push_cast, simprocAttr]⟩ ⟨.grow, 1, by simp only [push_cast, simprocAttr]⟩ ⟨.grow, 3, by simp only [push_cast, simprocAttr]⟩ ⟨.grow, 3, by simp only [push_cast, simprocAttr]⟩ ⟨.grow, 1, by simp only [push_cast, simprocAttr]⟩ ⟨.grow, 1, by simp only [push_cast, simprocAttr]⟩ bL hz) ?_
  simp only [push_cast, simprocAttr, hb, lk_old hb, hd0, u8l_len, tS, bz, Nat.le_refl, bne_self_eq_false, he, he2]
  refine Thn_n ?_
  refine hK _ _ ?_
  clear hK K
  refine AW.seq_k fun K hK => ?_
  refine AW.region (by decide) ?_
  simp only [push_cast, simprocAttr, hb, lk_old hb, hd0, u8l_len, tS, bz, Nat.le_refl, bne_self_eq_false, he, he2]
  refine Thn_n ?_
  refine hK _ _ ?_
  clear hK K
  refine AW.cond_t rfl ?_
  refine AW.seq_k fun K hK => ?_
  refine AW.region (by decide) ?_
  simp only [push_cast, simprocAttr, hb, lk_old hb, hd0, u8l_len, tS, bz, Nat.le_refl, bne_self_eq_false, he, he2]
  refine CThen.by (dec_fB W H (m.length + 7) n GL GN GB fD fS fF _ ⟨.grow, 1, by simp only [push_cast, simprocAttr]⟩ hz hh bL) ?_
  simp only [push_cast, simprocAttr, hb, lk_old hb, hd0, u8l_len, tS, bz, Nat.le_refl, bne_self_eq_false, he, he2]
  refine Thn_n ?_
  refine hK _ _ ?_
  clear hK K
  refine AW.seq_k fun K hK => ?_
  refine AW.draw [.val, .val, .val, .rd 0, .ext, .rd 0, .ext, .val, .val] fol (by decide) (by kernel_rfl) ?_
  simp only [push_cast, simprocAttr, hb, lk_old hb, hd0, u8l_len, tS, bz, Nat.le_refl, bne_self_eq_false, he, he2]
  refine DCall.by (from_c W H (m.length + 8) 0 (m.length + 9) 0 (m.length + 10) 0 (m.length + 11) 0 (m.length + 12) 0 (m.length + 13) 0 n GL GN GB fD _ ⟨.grow, 3, by simp only [push_cast, simprocAttr]⟩ ⟨.grow, 1, by simp only [push_cast, simprocAttr]⟩ ⟨.grow, 3, by simp only [push_cast, simprocAttr]⟩ ⟨.grow, 3, by simp only [push_cast, simprocAttr]⟩ (by (simp) <;> omega) (by (simp) <;> omega) bL) ?_
  simp only [push_cast, simprocAttr, hb, lk_old hb, hd0, u8l_len, tS, bz, Nat.le_refl, bne_self_eq_false, he, he2]
  refine DCall.by0 (same_c W H (m.length + 15) 0 (m.length + 16) 0 (m.length + 17) 0 (m.length + 18) 0 (m.length + 12) 0 (m.length + 13) 0 rL 0 rD 0 rN 0 rB 0 rS 0 rF 0 n GL GN GB fD fS fF _ ⟨.grow, 3, by simp only [push_cast, simprocAttr]⟩ ⟨.grow, 1, by simp only [push_cast, simprocAttr]⟩ ⟨.grow, 3, by simp only [push_cast, simprocAttr]⟩ ⟨.grow, 3, by simp only [push_cast, simprocAttr]⟩ ⟨.grow, 1, by simp only [push_cast, simprocAttr]⟩ ⟨.grow, 1, by simp only [push_cast, simprocAttr]⟩ (pL.mono _).hb (pD.mono _).hb (pN.mono _).hb (pB.mono _).hb (pS.mono _).hb (pF.mono _).hb bL) ?_
  simp only [push_cast, simprocAttr, hb, lk_old hb, hd0, u8l_len, tS, bz, Nat.le_refl, bne_self_eq_false, he, he2]
  refine Thn_n ?_
  refine hK _ _ ?_
  clear hK K
  refine AW.cond_f rfl ?_
  refine AW.skip ?_
  refine Thn_n ?_
  refine hK _ _ ?_
  clear hK K
  refine AW.seq_k fun K hK => ?_
  refine AW.seq_k fun K hK => ?_
  refine AW.region (by decide) ?_
  simp only [push_cast, simprocAttr, hb, lk_old hb, hd0, u8l_len, tS, bz, Nat.le_refl, bne_self_eq_false, he, he2]
  refine CThen.by (dec_N r0 bs _ ⟨_, _, lk_old hb _⟩ (by omega) hu hok) ?_
  simp only [push_cast, simprocAttr, hb, lk_old hb, hd0, u8l_len, tS, bz, Nat.le_refl, bne_self_eq_false, he, he2]
  refine Thn_n ?_
  refine hK _ _ ?_
  clear hK K
  refine AW.seq_k fun K hK => ?_
  refine AW.region (by decide) ?_
  simp only [push_cast, simprocAttr, hb, lk_old hb, hd0, u8l_len, tS, bz, Nat.le_refl, bne_self_eq_false, he, he2]
  refine Thn_n ?_
  refine hK _ _ ?_
  clear hK K
  refine AW.cond_f rfl ?_
  refine AW.skip ?_
  refine Thn_n ?_
  refine hK _ _ ?_
  clear hK K
  refine AW.seq_k fun K hK => ?_
  refine AW.seq_k fun K hK => ?_
  refine AW.region (by decide) ?_
  simp only [push_cast, simprocAttr, hb, lk_old hb, hd0, u8l_len, tS, bz, Nat.le_refl, bne_self_eq_false, he, he2]
  refine CThen.by (decS_N r0 bs _ ⟨_, _, lk_old hb _⟩ (by omega) hu hs) ?_
  simp only [push_cast, simprocAttr, hb, lk_old hb, hd0, u8l_len, tS, bz, Nat.le_refl, bne_self_eq_false, he, he2]
  refine Thn_n ?_
  refine hK _ _ ?_
  clear hK K
  refine AW.seq_k fun K hK => ?_
  refine AW.region (by decide) ?_
  simp only [push_cast, simprocAttr, hb, lk_old hb, hd0, u8l_len, tS, bz, Nat.le_refl, bne_self_eq_false, he, he2]
  refine Thn_n ?_
  refine hK _ _ ?_
  clear hK K
  refine AW.cond_f rfl ?_
  refine AW.skip ?_
  refine Thn_n ?_
  refine hK _ _ ?_
  clear hK K
  refine AW.seq_k fun K hK => ?_
  refine AW.region (by decide) ?_
  simp only [push_cast, simprocAttr, hb, lk_old hb, hd0, u8l_len, tS, bz, Nat.le_refl, bne_self_eq_false, he, he2]
  refine CThen.by (awake_c _) ?_
  simp only [push_cast, simprocAttr, hb, lk_old hb, hd0, u8l_len, tS, bz, Nat.le_refl, bne_self_eq_false, he, he2]
  refine Thn_n ?_
  refine hK _ _ ?_
  clear hK K
  refine AW.ret ?_
  refine hQ _ _ _ ?_
  first | refine RetP.drop0 (Or.inr rfl) ?_ ?_ hwf | refine RetP.drop (Or.inr rfl) ?_ ?_ hwf
  · simp only [resA, resOne, resTv, AV.tv, push_cast, simprocAttr, hb, lk_old hb, hd0, u8l_len, tS, bz, Nat.le_refl, bne_self_eq_false, he, he2]
  · rfl
theorem back_101 (W H : Int) (rL rD rN rB rS rF n : Nat) (GL GN GB : Nat → Nat → Int) (fD fS fF : Nat → Int) (m : AMem) (pL : HRow m 75 rL n GL) (pD : IRow m 2 rD n fD) (pN : HRow m 71 rN n GN) (pB : HRow m 75 rB n GB) (pS : IRow m 3 rS n fS) (pF : IRow m 3 rF n fF) (bL : n ≤ 1048576) (r0 : Nat) (bs : List Int) (hp : ∃ k ez, m[r0]? = some ⟨k, 5, 0, ez, u8l bs⟩) (hn : bs.length ≤ 1048576) (hu : ∀ i, 0 ≤ byB bs i ∧ byB bs i ≤ 255) (hd0 : ¬ 5000 < (n : Int)) (hh : HeldP n n n n GL GN GB fD) (hz : filmR W H n n n n n n fS fF = true) (hok : okB bs = false) (hs : ((endS bs.length (hsS bs (0, 0) (npS bs (0, 0)))).2 = 0)) (he : (erV bs == 0) = false) : Ctr Try.prog 6 [.agg [.int .i64 W, .int .i64 H, .sl rL 0 0 n, .sl rD 0 0 n, .sl rN 0 0 n, .sl rB 0 0 n, .sl rS 0 0 n, .sl rF 0 0 n], .one (.sl r0 0 0 bs.length)] m (.one (.bool true)) m := by
  refine Ctr.enter Try.func6 rfl (by decide) (rs := [.tmp 4]) (nt := 99) rfl rfl fun hwf Q hQ => ?_
  obtain ⟨k0, ez0, hb⟩ := id hp
  have l0 := get_lt hb
  obtain ⟨kL, eL, hLb⟩ := pL.hb
  obtain ⟨kD, eD, hDb⟩ := pD.hb
  obtain ⟨kN, eN, hNb⟩ := pN.hb
  obtain ⟨kB, eB, hBb⟩ := pB.hb
  obtain ⟨kS, eS, hSb⟩ := pS.hb
  obtain ⟨kF, eF, hFb⟩ := pF.hb
  have bz := bytesA_u8l
  have tS : List.take bs.length (u8l bs) = u8l bs := List.take_of_length_le (by rw [u8l_len]; exact Nat.le_refl _)
  refine AW.seq_k fun K hK => ?_
  refine AW.region (by decide) ?_
  simp only [push_cast, simprocAttr, hb, lk_old hb, hd0, u8l_len, tS, bz, Nat.le_refl, bne_self_eq_false, he]
  refine Thn_n ?_
  refine hK _ _ ?_
  clear hK K
  refine AW.seq_k fun K hK => ?_
  refine AW.seq_k fun K hK => ?_
  refine AW.region (by decide) ?_
  simp only [push_cast, simprocAttr, hb, lk_old hb, hd0, u8l_len, tS, bz, Nat.le_refl, bne_self_eq_false, he]
  refine CThen.by (heldF_c W H rL n rD n rN n rB n rS n rF n GL GN GB fD fS fF _ (pL.mono _) (pD.mono _) (pN.mono _) (pB.mono _) (pS.mono _) (pF.mono _) bL bL bL bL bL bL true ⟨fun _ => hh, fun _ => rfl⟩) ?_
  simp only [push_cast, simprocAttr, hb, lk_old hb, hd0, u8l_len, tS, bz, Nat.le_refl, bne_self_eq_false, he]
  refine Thn_n ?_
  refine hK _ _ ?_
  clear hK K
  refine AW.cond_f rfl ?_
  refine AW.skip ?_
  refine Thn_n ?_
  refine hK _ _ ?_
  clear hK K
  refine AW.seq_k fun K hK => ?_
  refine AW.seq_k fun K hK => ?_
  refine AW.region (by decide) ?_
  simp only [push_cast, simprocAttr, hb, lk_old hb, hd0, u8l_len, tS, bz, Nat.le_refl, bne_self_eq_false, he]
  refine CThen.by (to_c W H rL n rD n rN n rB n rS n rF n GL GN GB fD fS fF _ (pL.mono _) (pD.mono _) (pN.mono _) (pB.mono _) (pS.mono _) (pF.mono _) bL bL bL bL bL bL) ?_
  simp only [push_cast, simprocAttr, hb, lk_old hb, hd0, u8l_len, tS, bz, Nat.le_refl, bne_self_eq_false, he]
  refine CThen.by (enc_fB W H (m.length + 1) (m.length + 2) (m.length + 3) (m.length + 4) (m.length + 5) (m.length + 6) n GL GN GB fD fS fF _ ⟨.grow, 3, by simp only [push_cast, simprocAttr]⟩ ⟨.grow, 1, by simp only [push_cast, simprocAttr]⟩ ⟨.grow, 3, by simp only [push_cast, simprocAttr]⟩ ⟨.grow, 3, by simp only [push_cast, simprocAttr]⟩ ⟨.grow, 1, by simp only [push_cast, simprocAttr]⟩ ⟨.grow, 1, by simp only [push_cast, simprocAttr]⟩ bL hz) ?_
  simp only [push_cast, simprocAttr, hb, lk_old hb, hd0, u8l_len, tS, bz, Nat.le_refl, bne_self_eq_false, he]
  refine Thn_n ?_
  refine hK _ _ ?_
  clear hK K
  refine AW.seq_k fun K hK => ?_
  refine AW.region (by decide) ?_
  simp only [push_cast, simprocAttr, hb, lk_old hb, hd0, u8l_len, tS, bz, Nat.le_refl, bne_self_eq_false, he]
  refine Thn_n ?_
  refine hK _ _ ?_
  clear hK K
  refine AW.cond_t rfl ?_
  refine AW.seq_k fun K hK => ?_
  refine AW.region (by decide) ?_
  simp only [push_cast, simprocAttr, hb, lk_old hb, hd0, u8l_len, tS, bz, Nat.le_refl, bne_self_eq_false, he]
  refine CThen.by (dec_fB W H (m.length + 7) n GL GN GB fD fS fF _ ⟨.grow, 1, by simp only [push_cast, simprocAttr]⟩ hz hh bL) ?_
  simp only [push_cast, simprocAttr, hb, lk_old hb, hd0, u8l_len, tS, bz, Nat.le_refl, bne_self_eq_false, he]
  refine Thn_n ?_
  refine hK _ _ ?_
  clear hK K
  refine AW.seq_k fun K hK => ?_
  refine AW.draw [.val, .val, .val, .rd 0, .ext, .rd 0, .ext, .val, .val] fol (by decide) (by kernel_rfl) ?_
  simp only [push_cast, simprocAttr, hb, lk_old hb, hd0, u8l_len, tS, bz, Nat.le_refl, bne_self_eq_false, he]
  refine DCall.by (from_c W H (m.length + 8) 0 (m.length + 9) 0 (m.length + 10) 0 (m.length + 11) 0 (m.length + 12) 0 (m.length + 13) 0 n GL GN GB fD _ ⟨.grow, 3, by simp only [push_cast, simprocAttr]⟩ ⟨.grow, 1, by simp only [push_cast, simprocAttr]⟩ ⟨.grow, 3, by simp only [push_cast, simprocAttr]⟩ ⟨.grow, 3, by simp only [push_cast, simprocAttr]⟩ (by (simp) <;> omega) (by (simp) <;> omega) bL) ?_
  simp only [push_cast, simprocAttr, hb, lk_old hb, hd0, u8l_len, tS, bz, Nat.le_refl, bne_self_eq_false, he]
  refine DCall.by0 (same_c W H (m.length + 15) 0 (m.length + 16) 0 (m.length + 17) 0 (m.length + 18) 0 (m.length + 12) 0 (m.length + 13) 0 rL 0 rD 0 rN 0 rB 0 rS 0 rF 0 n GL GN GB fD fS fF _ ⟨.grow, 3, by simp only [push_cast, simprocAttr]⟩ ⟨.grow, 1, by simp only [push_cast, simprocAttr]⟩ ⟨.grow, 3, by simp only [push_cast, simprocAttr]⟩ ⟨.grow, 3, by simp only [push_cast, simprocAttr]⟩ ⟨.grow, 1, by simp only [push_cast, simprocAttr]⟩ ⟨.grow, 1, by simp only [push_cast, simprocAttr]⟩ (pL.mono _).hb (pD.mono _).hb (pN.mono _).hb (pB.mono _).hb (pS.mono _).hb (pF.mono _).hb bL) ?_
  simp only [push_cast, simprocAttr, hb, lk_old hb, hd0, u8l_len, tS, bz, Nat.le_refl, bne_self_eq_false, he]
  refine Thn_n ?_
  refine hK _ _ ?_
  clear hK K
  refine AW.cond_f rfl ?_
  refine AW.skip ?_
  refine Thn_n ?_
  refine hK _ _ ?_
  clear hK K
  refine AW.seq_k fun K hK => ?_
  refine AW.seq_k fun K hK => ?_
  refine AW.region (by decide) ?_
  simp only [push_cast, simprocAttr, hb, lk_old hb, hd0, u8l_len, tS, bz, Nat.le_refl, bne_self_eq_false, he]
  refine CThen.by (dec_N r0 bs _ ⟨_, _, lk_old hb _⟩ (by omega) hu hok) ?_
  simp only [push_cast, simprocAttr, hb, lk_old hb, hd0, u8l_len, tS, bz, Nat.le_refl, bne_self_eq_false, he]
  refine Thn_n ?_
  refine hK _ _ ?_
  clear hK K
  refine AW.seq_k fun K hK => ?_
  refine AW.region (by decide) ?_
  simp only [push_cast, simprocAttr, hb, lk_old hb, hd0, u8l_len, tS, bz, Nat.le_refl, bne_self_eq_false, he]
  refine Thn_n ?_
  refine hK _ _ ?_
  clear hK K
  refine AW.cond_f rfl ?_
  refine AW.skip ?_
  refine Thn_n ?_
  refine hK _ _ ?_
  clear hK K
  refine AW.seq_k fun K hK => ?_
  refine AW.seq_k fun K hK => ?_
  refine AW.region (by decide) ?_
  simp only [push_cast, simprocAttr, hb, lk_old hb, hd0, u8l_len, tS, bz, Nat.le_refl, bne_self_eq_false, he]
  refine CThen.by (decS_T r0 bs _ ⟨_, _, lk_old hb _⟩ (by omega) hu hs) ?_
  simp only [push_cast, simprocAttr, hb, lk_old hb, hd0, u8l_len, tS, bz, Nat.le_refl, bne_self_eq_false, he]
  refine Thn_n ?_
  refine hK _ _ ?_
  clear hK K
  refine AW.seq_k fun K hK => ?_
  refine AW.region (by decide) ?_
  simp only [push_cast, simprocAttr, hb, lk_old hb, hd0, u8l_len, tS, bz, Nat.le_refl, bne_self_eq_false, he]
  refine Thn_n ?_
  refine hK _ _ ?_
  clear hK K
  refine AW.cond_t rfl ?_
  refine AW.seq_k fun K hK => ?_
  refine AW.region (by decide) ?_
  simp only [push_cast, simprocAttr, hb, lk_old hb, hd0, u8l_len, tS, bz, Nat.le_refl, bne_self_eq_false, he]
  refine CThen.by (encS_back (m.length + 20) bs _ hu hs ⟨.grow, 3, by simp only [push_cast, simprocAttr]⟩) ?_
  simp only [push_cast, simprocAttr, hb, lk_old hb, hd0, u8l_len, tS, bz, Nat.le_refl, bne_self_eq_false, he]
  refine Thn_n ?_
  refine hK _ _ ?_
  clear hK K
  refine AW.seq_k fun K hK => ?_
  refine AW.region (by decide) ?_
  simp only [push_cast, simprocAttr, hb, lk_old hb, hd0, u8l_len, tS, bz, Nat.le_refl, bne_self_eq_false, he]
  refine Thn_n ?_
  refine hK _ _ ?_
  clear hK K
  refine AW.cond_f rfl ?_
  refine AW.skip ?_
  refine Thn_n ?_
  refine hK _ _ ?_
  clear hK K
  refine AW.seq_k fun K hK => ?_
  refine AW.region (by decide) ?_
  simp only [push_cast, simprocAttr, hb, lk_old hb, hd0, u8l_len, tS, bz, Nat.le_refl, bne_self_eq_false, he]
  refine CThen.by (awake_c _) ?_
  simp only [push_cast, simprocAttr, hb, lk_old hb, hd0, u8l_len, tS, bz, Nat.le_refl, bne_self_eq_false, he]
  refine Thn_n ?_
  refine hK _ _ ?_
  clear hK K
  refine AW.ret ?_
  refine hQ _ _ _ ?_
  first | refine RetP.drop0 (Or.inr rfl) ?_ ?_ hwf | refine RetP.drop (Or.inr rfl) ?_ ?_ hwf
  · simp only [resA, resOne, resTv, AV.tv, push_cast, simprocAttr, hb, lk_old hb, hd0, u8l_len, tS, bz, Nat.le_refl, bne_self_eq_false, he]
  · rfl
theorem back_110 (W H : Int) (rL rD rN rB rS rF n : Nat) (GL GN GB : Nat → Nat → Int) (fD fS fF : Nat → Int) (m : AMem) (pL : HRow m 75 rL n GL) (pD : IRow m 2 rD n fD) (pN : HRow m 71 rN n GN) (pB : HRow m 75 rB n GB) (pS : IRow m 3 rS n fS) (pF : IRow m 3 rF n fF) (bL : n ≤ 1048576) (r0 : Nat) (bs : List Int) (hp : ∃ k ez, m[r0]? = some ⟨k, 5, 0, ez, u8l bs⟩) (hn : bs.length ≤ 1048576) (hu : ∀ i, 0 ≤ byB bs i ∧ byB bs i ≤ 255) (hd0 : ¬ 5000 < (n : Int)) (hh : HeldP n n n n GL GN GB fD) (hz : filmR W H n n n n n n fS fF = true) (hok : okB bs = true) (hs : (((endS bs.length (hsS bs (0, 0) (npS bs (0, 0)))).2 != 0) = true)) (he2 : ((endS bs.length (hsS bs (0, 0) (npS bs (0, 0)))).2 == 0) = false) : Ctr Try.prog 6 [.agg [.int .i64 W, .int .i64 H, .sl rL 0 0 n, .sl rD 0 0 n, .sl rN 0 0 n, .sl rB 0 0 n, .sl rS 0 0 n, .sl rF 0 0 n], .one (.sl r0 0 0 bs.length)] m (.one (.bool true)) m := by
  refine Ctr.enter Try.func6 rfl (by decide) (rs := [.tmp 4]) (nt := 99) rfl rfl fun hwf Q hQ => ?_
  obtain ⟨k0, ez0, hb⟩ := id hp
  have l0 := get_lt hb
  obtain ⟨kL, eL, hLb⟩ := pL.hb
  obtain ⟨kD, eD, hDb⟩ := pD.hb
  obtain ⟨kN, eN, hNb⟩ := pN.hb
  obtain ⟨kB, eB, hBb⟩ := pB.hb
  obtain ⟨kS, eS, hSb⟩ := pS.hb
  obtain ⟨kF, eF, hFb⟩ := pF.hb
  have bz := bytesA_u8l
  have tS : List.take bs.length (u8l bs) = u8l bs := List.take_of_length_le (by rw [u8l_len]; exact Nat.le_refl _)
  refine AW.seq_k fun K hK => ?_
  refine AW.region (by decide) ?_
  simp only [push_cast, simprocAttr, hb, lk_old hb, hd0, u8l_len, tS, bz, Nat.le_refl, bne_self_eq_false, he2]
  refine Thn_n ?_
  refine hK _ _ ?_
  clear hK K
  refine AW.seq_k fun K hK => ?_
  refine AW.seq_k fun K hK => ?_
  refine AW.region (by decide) ?_
  simp only [push_cast, simprocAttr, hb, lk_old hb, hd0, u8l_len, tS, bz, Nat.le_refl, bne_self_eq_false, he2]
  refine CThen.by (heldF_c W H rL n rD n rN n rB n rS n rF n GL GN GB fD fS fF _ (pL.mono _) (pD.mono _) (pN.mono _) (pB.mono _) (pS.mono _) (pF.mono _) bL bL bL bL bL bL true ⟨fun _ => hh, fun _ => rfl⟩) ?_
  simp only [push_cast, simprocAttr, hb, lk_old hb, hd0, u8l_len, tS, bz, Nat.le_refl, bne_self_eq_false, he2]
  refine Thn_n ?_
  refine hK _ _ ?_
  clear hK K
  refine AW.cond_f rfl ?_
  refine AW.skip ?_
  refine Thn_n ?_
  refine hK _ _ ?_
  clear hK K
  refine AW.seq_k fun K hK => ?_
  refine AW.seq_k fun K hK => ?_
  refine AW.region (by decide) ?_
  simp only [push_cast, simprocAttr, hb, lk_old hb, hd0, u8l_len, tS, bz, Nat.le_refl, bne_self_eq_false, he2]
  refine CThen.by (to_c W H rL n rD n rN n rB n rS n rF n GL GN GB fD fS fF _ (pL.mono _) (pD.mono _) (pN.mono _) (pB.mono _) (pS.mono _) (pF.mono _) bL bL bL bL bL bL) ?_
  simp only [push_cast, simprocAttr, hb, lk_old hb, hd0, u8l_len, tS, bz, Nat.le_refl, bne_self_eq_false, he2]
  refine CThen.by (enc_fB W H (m.length + 1) (m.length + 2) (m.length + 3) (m.length + 4) (m.length + 5) (m.length + 6) n GL GN GB fD fS fF _ ⟨.grow, 3, by simp only [push_cast, simprocAttr]⟩ ⟨.grow, 1, by simp only [push_cast, simprocAttr]⟩ ⟨.grow, 3, by simp only [push_cast, simprocAttr]⟩ ⟨.grow, 3, by simp only [push_cast, simprocAttr]⟩ ⟨.grow, 1, by simp only [push_cast, simprocAttr]⟩ ⟨.grow, 1, by simp only [push_cast, simprocAttr]⟩ bL hz) ?_
  simp only [push_cast, simprocAttr, hb, lk_old hb, hd0, u8l_len, tS, bz, Nat.le_refl, bne_self_eq_false, he2]
  refine Thn_n ?_
  refine hK _ _ ?_
  clear hK K
  refine AW.seq_k fun K hK => ?_
  refine AW.region (by decide) ?_
  simp only [push_cast, simprocAttr, hb, lk_old hb, hd0, u8l_len, tS, bz, Nat.le_refl, bne_self_eq_false, he2]
  refine Thn_n ?_
  refine hK _ _ ?_
  clear hK K
  refine AW.cond_t rfl ?_
  refine AW.seq_k fun K hK => ?_
  refine AW.region (by decide) ?_
  simp only [push_cast, simprocAttr, hb, lk_old hb, hd0, u8l_len, tS, bz, Nat.le_refl, bne_self_eq_false, he2]
  refine CThen.by (dec_fB W H (m.length + 7) n GL GN GB fD fS fF _ ⟨.grow, 1, by simp only [push_cast, simprocAttr]⟩ hz hh bL) ?_
  simp only [push_cast, simprocAttr, hb, lk_old hb, hd0, u8l_len, tS, bz, Nat.le_refl, bne_self_eq_false, he2]
  refine Thn_n ?_
  refine hK _ _ ?_
  clear hK K
  refine AW.seq_k fun K hK => ?_
  refine AW.draw [.val, .val, .val, .rd 0, .ext, .rd 0, .ext, .val, .val] fol (by decide) (by kernel_rfl) ?_
  simp only [push_cast, simprocAttr, hb, lk_old hb, hd0, u8l_len, tS, bz, Nat.le_refl, bne_self_eq_false, he2]
  refine DCall.by (from_c W H (m.length + 8) 0 (m.length + 9) 0 (m.length + 10) 0 (m.length + 11) 0 (m.length + 12) 0 (m.length + 13) 0 n GL GN GB fD _ ⟨.grow, 3, by simp only [push_cast, simprocAttr]⟩ ⟨.grow, 1, by simp only [push_cast, simprocAttr]⟩ ⟨.grow, 3, by simp only [push_cast, simprocAttr]⟩ ⟨.grow, 3, by simp only [push_cast, simprocAttr]⟩ (by (simp) <;> omega) (by (simp) <;> omega) bL) ?_
  simp only [push_cast, simprocAttr, hb, lk_old hb, hd0, u8l_len, tS, bz, Nat.le_refl, bne_self_eq_false, he2]
  refine DCall.by0 (same_c W H (m.length + 15) 0 (m.length + 16) 0 (m.length + 17) 0 (m.length + 18) 0 (m.length + 12) 0 (m.length + 13) 0 rL 0 rD 0 rN 0 rB 0 rS 0 rF 0 n GL GN GB fD fS fF _ ⟨.grow, 3, by simp only [push_cast, simprocAttr]⟩ ⟨.grow, 1, by simp only [push_cast, simprocAttr]⟩ ⟨.grow, 3, by simp only [push_cast, simprocAttr]⟩ ⟨.grow, 3, by simp only [push_cast, simprocAttr]⟩ ⟨.grow, 1, by simp only [push_cast, simprocAttr]⟩ ⟨.grow, 1, by simp only [push_cast, simprocAttr]⟩ (pL.mono _).hb (pD.mono _).hb (pN.mono _).hb (pB.mono _).hb (pS.mono _).hb (pF.mono _).hb bL) ?_
  simp only [push_cast, simprocAttr, hb, lk_old hb, hd0, u8l_len, tS, bz, Nat.le_refl, bne_self_eq_false, he2]
  refine Thn_n ?_
  refine hK _ _ ?_
  clear hK K
  refine AW.cond_f rfl ?_
  refine AW.skip ?_
  refine Thn_n ?_
  refine hK _ _ ?_
  clear hK K
  refine AW.seq_k fun K hK => ?_
  refine AW.seq_k fun K hK => ?_
  refine AW.region (by decide) ?_
  simp only [push_cast, simprocAttr, hb, lk_old hb, hd0, u8l_len, tS, bz, Nat.le_refl, bne_self_eq_false, he2]
  refine CThen.by (dec_T r0 bs _ ⟨_, _, lk_old hb _⟩ (by omega) hu hok) ?_
  simp only [push_cast, simprocAttr, hb, lk_old hb, hd0, u8l_len, tS, bz, Nat.le_refl, bne_self_eq_false, he2]
  refine Thn_n ?_
  refine hK _ _ ?_
  clear hK K
  refine AW.seq_k fun K hK => ?_
  refine AW.region (by decide) ?_
  simp only [push_cast, simprocAttr, hb, lk_old hb, hd0, u8l_len, tS, bz, Nat.le_refl, bne_self_eq_false, he2]
  refine Thn_n ?_
  refine hK _ _ ?_
  clear hK K
  refine AW.cond_t rfl ?_
  refine AW.seq_k fun K hK => ?_
  refine AW.region (by decide) ?_
  simp only [push_cast, simprocAttr, hb, lk_old hb, hd0, u8l_len, tS, bz, Nat.le_refl, bne_self_eq_false, he2]
  refine CThen.by (enc_back (m.length + 19) (m.length + 20) (m.length + 21) (m.length + 22) (m.length + 23) (m.length + 24) bs _ hu hok ⟨.grow, 3, by simp only [push_cast, simprocAttr]⟩ ⟨.grow, 1, by simp only [push_cast, simprocAttr]⟩ ⟨.grow, 3, by simp only [push_cast, simprocAttr]⟩ ⟨.grow, 3, by simp only [push_cast, simprocAttr]⟩ ⟨.grow, 1, by simp only [push_cast, simprocAttr]⟩ ⟨.grow, 1, by simp only [push_cast, simprocAttr]⟩) ?_
  simp only [push_cast, simprocAttr, hb, lk_old hb, hd0, u8l_len, tS, bz, Nat.le_refl, bne_self_eq_false, he2]
  refine Thn_n ?_
  refine hK _ _ ?_
  clear hK K
  refine AW.seq_k fun K hK => ?_
  refine AW.region (by decide) ?_
  simp only [push_cast, simprocAttr, hb, lk_old hb, hd0, u8l_len, tS, bz, Nat.le_refl, bne_self_eq_false, he2]
  refine Thn_n ?_
  refine hK _ _ ?_
  clear hK K
  refine AW.cond_f rfl ?_
  refine AW.skip ?_
  refine Thn_n ?_
  refine hK _ _ ?_
  clear hK K
  refine AW.seq_k fun K hK => ?_
  refine AW.seq_k fun K hK => ?_
  refine AW.region (by decide) ?_
  simp only [push_cast, simprocAttr, hb, lk_old hb, hd0, u8l_len, tS, bz, Nat.le_refl, bne_self_eq_false, he2]
  refine CThen.by (decS_N r0 bs _ ⟨_, _, lk_old hb _⟩ (by omega) hu hs) ?_
  simp only [push_cast, simprocAttr, hb, lk_old hb, hd0, u8l_len, tS, bz, Nat.le_refl, bne_self_eq_false, he2]
  refine Thn_n ?_
  refine hK _ _ ?_
  clear hK K
  refine AW.seq_k fun K hK => ?_
  refine AW.region (by decide) ?_
  simp only [push_cast, simprocAttr, hb, lk_old hb, hd0, u8l_len, tS, bz, Nat.le_refl, bne_self_eq_false, he2]
  refine Thn_n ?_
  refine hK _ _ ?_
  clear hK K
  refine AW.cond_f rfl ?_
  refine AW.skip ?_
  refine Thn_n ?_
  refine hK _ _ ?_
  clear hK K
  refine AW.seq_k fun K hK => ?_
  refine AW.region (by decide) ?_
  simp only [push_cast, simprocAttr, hb, lk_old hb, hd0, u8l_len, tS, bz, Nat.le_refl, bne_self_eq_false, he2]
  refine CThen.by (awake_c _) ?_
  simp only [push_cast, simprocAttr, hb, lk_old hb, hd0, u8l_len, tS, bz, Nat.le_refl, bne_self_eq_false, he2]
  refine Thn_n ?_
  refine hK _ _ ?_
  clear hK K
  refine AW.ret ?_
  refine hQ _ _ _ ?_
  first | refine RetP.drop0 (Or.inr rfl) ?_ ?_ hwf | refine RetP.drop (Or.inr rfl) ?_ ?_ hwf
  · simp only [resA, resOne, resTv, AV.tv, push_cast, simprocAttr, hb, lk_old hb, hd0, u8l_len, tS, bz, Nat.le_refl, bne_self_eq_false, he2]
  · rfl
theorem back_111 (W H : Int) (rL rD rN rB rS rF n : Nat) (GL GN GB : Nat → Nat → Int) (fD fS fF : Nat → Int) (m : AMem) (pL : HRow m 75 rL n GL) (pD : IRow m 2 rD n fD) (pN : HRow m 71 rN n GN) (pB : HRow m 75 rB n GB) (pS : IRow m 3 rS n fS) (pF : IRow m 3 rF n fF) (bL : n ≤ 1048576) (r0 : Nat) (bs : List Int) (hp : ∃ k ez, m[r0]? = some ⟨k, 5, 0, ez, u8l bs⟩) (hn : bs.length ≤ 1048576) (hu : ∀ i, 0 ≤ byB bs i ∧ byB bs i ≤ 255) (hd0 : ¬ 5000 < (n : Int)) (hh : HeldP n n n n GL GN GB fD) (hz : filmR W H n n n n n n fS fF = true) (hok : okB bs = true) (hs : ((endS bs.length (hsS bs (0, 0) (npS bs (0, 0)))).2 = 0)) : Ctr Try.prog 6 [.agg [.int .i64 W, .int .i64 H, .sl rL 0 0 n, .sl rD 0 0 n, .sl rN 0 0 n, .sl rB 0 0 n, .sl rS 0 0 n, .sl rF 0 0 n], .one (.sl r0 0 0 bs.length)] m (.one (.bool true)) m := by
  refine Ctr.enter Try.func6 rfl (by decide) (rs := [.tmp 4]) (nt := 99) rfl rfl fun hwf Q hQ => ?_
  obtain ⟨k0, ez0, hb⟩ := id hp
  have l0 := get_lt hb
  obtain ⟨kL, eL, hLb⟩ := pL.hb
  obtain ⟨kD, eD, hDb⟩ := pD.hb
  obtain ⟨kN, eN, hNb⟩ := pN.hb
  obtain ⟨kB, eB, hBb⟩ := pB.hb
  obtain ⟨kS, eS, hSb⟩ := pS.hb
  obtain ⟨kF, eF, hFb⟩ := pF.hb
  have bz := bytesA_u8l
  have tS : List.take bs.length (u8l bs) = u8l bs := List.take_of_length_le (by rw [u8l_len]; exact Nat.le_refl _)
  refine AW.seq_k fun K hK => ?_
  refine AW.region (by decide) ?_
  simp only [push_cast, simprocAttr, hb, lk_old hb, hd0, u8l_len, tS, bz, Nat.le_refl, bne_self_eq_false]
  refine Thn_n ?_
  refine hK _ _ ?_
  clear hK K
  refine AW.seq_k fun K hK => ?_
  refine AW.seq_k fun K hK => ?_
  refine AW.region (by decide) ?_
  simp only [push_cast, simprocAttr, hb, lk_old hb, hd0, u8l_len, tS, bz, Nat.le_refl, bne_self_eq_false]
  refine CThen.by (heldF_c W H rL n rD n rN n rB n rS n rF n GL GN GB fD fS fF _ (pL.mono _) (pD.mono _) (pN.mono _) (pB.mono _) (pS.mono _) (pF.mono _) bL bL bL bL bL bL true ⟨fun _ => hh, fun _ => rfl⟩) ?_
  simp only [push_cast, simprocAttr, hb, lk_old hb, hd0, u8l_len, tS, bz, Nat.le_refl, bne_self_eq_false]
  refine Thn_n ?_
  refine hK _ _ ?_
  clear hK K
  refine AW.cond_f rfl ?_
  refine AW.skip ?_
  refine Thn_n ?_
  refine hK _ _ ?_
  clear hK K
  refine AW.seq_k fun K hK => ?_
  refine AW.seq_k fun K hK => ?_
  refine AW.region (by decide) ?_
  simp only [push_cast, simprocAttr, hb, lk_old hb, hd0, u8l_len, tS, bz, Nat.le_refl, bne_self_eq_false]
  refine CThen.by (to_c W H rL n rD n rN n rB n rS n rF n GL GN GB fD fS fF _ (pL.mono _) (pD.mono _) (pN.mono _) (pB.mono _) (pS.mono _) (pF.mono _) bL bL bL bL bL bL) ?_
  simp only [push_cast, simprocAttr, hb, lk_old hb, hd0, u8l_len, tS, bz, Nat.le_refl, bne_self_eq_false]
  refine CThen.by (enc_fB W H (m.length + 1) (m.length + 2) (m.length + 3) (m.length + 4) (m.length + 5) (m.length + 6) n GL GN GB fD fS fF _ ⟨.grow, 3, by simp only [push_cast, simprocAttr]⟩ ⟨.grow, 1, by simp only [push_cast, simprocAttr]⟩ ⟨.grow, 3, by simp only [push_cast, simprocAttr]⟩ ⟨.grow, 3, by simp only [push_cast, simprocAttr]⟩ ⟨.grow, 1, by simp only [push_cast, simprocAttr]⟩ ⟨.grow, 1, by simp only [push_cast, simprocAttr]⟩ bL hz) ?_
  simp only [push_cast, simprocAttr, hb, lk_old hb, hd0, u8l_len, tS, bz, Nat.le_refl, bne_self_eq_false]
  refine Thn_n ?_
  refine hK _ _ ?_
  clear hK K
  refine AW.seq_k fun K hK => ?_
  refine AW.region (by decide) ?_
  simp only [push_cast, simprocAttr, hb, lk_old hb, hd0, u8l_len, tS, bz, Nat.le_refl, bne_self_eq_false]
  refine Thn_n ?_
  refine hK _ _ ?_
  clear hK K
  refine AW.cond_t rfl ?_
  refine AW.seq_k fun K hK => ?_
  refine AW.region (by decide) ?_
  simp only [push_cast, simprocAttr, hb, lk_old hb, hd0, u8l_len, tS, bz, Nat.le_refl, bne_self_eq_false]
  refine CThen.by (dec_fB W H (m.length + 7) n GL GN GB fD fS fF _ ⟨.grow, 1, by simp only [push_cast, simprocAttr]⟩ hz hh bL) ?_
  simp only [push_cast, simprocAttr, hb, lk_old hb, hd0, u8l_len, tS, bz, Nat.le_refl, bne_self_eq_false]
  refine Thn_n ?_
  refine hK _ _ ?_
  clear hK K
  refine AW.seq_k fun K hK => ?_
  refine AW.draw [.val, .val, .val, .rd 0, .ext, .rd 0, .ext, .val, .val] fol (by decide) (by kernel_rfl) ?_
  simp only [push_cast, simprocAttr, hb, lk_old hb, hd0, u8l_len, tS, bz, Nat.le_refl, bne_self_eq_false]
  refine DCall.by (from_c W H (m.length + 8) 0 (m.length + 9) 0 (m.length + 10) 0 (m.length + 11) 0 (m.length + 12) 0 (m.length + 13) 0 n GL GN GB fD _ ⟨.grow, 3, by simp only [push_cast, simprocAttr]⟩ ⟨.grow, 1, by simp only [push_cast, simprocAttr]⟩ ⟨.grow, 3, by simp only [push_cast, simprocAttr]⟩ ⟨.grow, 3, by simp only [push_cast, simprocAttr]⟩ (by (simp) <;> omega) (by (simp) <;> omega) bL) ?_
  simp only [push_cast, simprocAttr, hb, lk_old hb, hd0, u8l_len, tS, bz, Nat.le_refl, bne_self_eq_false]
  refine DCall.by0 (same_c W H (m.length + 15) 0 (m.length + 16) 0 (m.length + 17) 0 (m.length + 18) 0 (m.length + 12) 0 (m.length + 13) 0 rL 0 rD 0 rN 0 rB 0 rS 0 rF 0 n GL GN GB fD fS fF _ ⟨.grow, 3, by simp only [push_cast, simprocAttr]⟩ ⟨.grow, 1, by simp only [push_cast, simprocAttr]⟩ ⟨.grow, 3, by simp only [push_cast, simprocAttr]⟩ ⟨.grow, 3, by simp only [push_cast, simprocAttr]⟩ ⟨.grow, 1, by simp only [push_cast, simprocAttr]⟩ ⟨.grow, 1, by simp only [push_cast, simprocAttr]⟩ (pL.mono _).hb (pD.mono _).hb (pN.mono _).hb (pB.mono _).hb (pS.mono _).hb (pF.mono _).hb bL) ?_
  simp only [push_cast, simprocAttr, hb, lk_old hb, hd0, u8l_len, tS, bz, Nat.le_refl, bne_self_eq_false]
  refine Thn_n ?_
  refine hK _ _ ?_
  clear hK K
  refine AW.cond_f rfl ?_
  refine AW.skip ?_
  refine Thn_n ?_
  refine hK _ _ ?_
  clear hK K
  refine AW.seq_k fun K hK => ?_
  refine AW.seq_k fun K hK => ?_
  refine AW.region (by decide) ?_
  simp only [push_cast, simprocAttr, hb, lk_old hb, hd0, u8l_len, tS, bz, Nat.le_refl, bne_self_eq_false]
  refine CThen.by (dec_T r0 bs _ ⟨_, _, lk_old hb _⟩ (by omega) hu hok) ?_
  simp only [push_cast, simprocAttr, hb, lk_old hb, hd0, u8l_len, tS, bz, Nat.le_refl, bne_self_eq_false]
  refine Thn_n ?_
  refine hK _ _ ?_
  clear hK K
  refine AW.seq_k fun K hK => ?_
  refine AW.region (by decide) ?_
  simp only [push_cast, simprocAttr, hb, lk_old hb, hd0, u8l_len, tS, bz, Nat.le_refl, bne_self_eq_false]
  refine Thn_n ?_
  refine hK _ _ ?_
  clear hK K
  refine AW.cond_t rfl ?_
  refine AW.seq_k fun K hK => ?_
  refine AW.region (by decide) ?_
  simp only [push_cast, simprocAttr, hb, lk_old hb, hd0, u8l_len, tS, bz, Nat.le_refl, bne_self_eq_false]
  refine CThen.by (enc_back (m.length + 19) (m.length + 20) (m.length + 21) (m.length + 22) (m.length + 23) (m.length + 24) bs _ hu hok ⟨.grow, 3, by simp only [push_cast, simprocAttr]⟩ ⟨.grow, 1, by simp only [push_cast, simprocAttr]⟩ ⟨.grow, 3, by simp only [push_cast, simprocAttr]⟩ ⟨.grow, 3, by simp only [push_cast, simprocAttr]⟩ ⟨.grow, 1, by simp only [push_cast, simprocAttr]⟩ ⟨.grow, 1, by simp only [push_cast, simprocAttr]⟩) ?_
  simp only [push_cast, simprocAttr, hb, lk_old hb, hd0, u8l_len, tS, bz, Nat.le_refl, bne_self_eq_false]
  refine Thn_n ?_
  refine hK _ _ ?_
  clear hK K
  refine AW.seq_k fun K hK => ?_
  refine AW.region (by decide) ?_
  simp only [push_cast, simprocAttr, hb, lk_old hb, hd0, u8l_len, tS, bz, Nat.le_refl, bne_self_eq_false]
  refine Thn_n ?_
  refine hK _ _ ?_
  clear hK K
  refine AW.cond_f rfl ?_
  refine AW.skip ?_
  refine Thn_n ?_
  refine hK _ _ ?_
  clear hK K
  refine AW.seq_k fun K hK => ?_
  refine AW.seq_k fun K hK => ?_
  refine AW.region (by decide) ?_
  simp only [push_cast, simprocAttr, hb, lk_old hb, hd0, u8l_len, tS, bz, Nat.le_refl, bne_self_eq_false]
  refine CThen.by (decS_T r0 bs _ ⟨_, _, lk_old hb _⟩ (by omega) hu hs) ?_
  simp only [push_cast, simprocAttr, hb, lk_old hb, hd0, u8l_len, tS, bz, Nat.le_refl, bne_self_eq_false]
  refine Thn_n ?_
  refine hK _ _ ?_
  clear hK K
  refine AW.seq_k fun K hK => ?_
  refine AW.region (by decide) ?_
  simp only [push_cast, simprocAttr, hb, lk_old hb, hd0, u8l_len, tS, bz, Nat.le_refl, bne_self_eq_false]
  refine Thn_n ?_
  refine hK _ _ ?_
  clear hK K
  refine AW.cond_t rfl ?_
  refine AW.seq_k fun K hK => ?_
  refine AW.region (by decide) ?_
  simp only [push_cast, simprocAttr, hb, lk_old hb, hd0, u8l_len, tS, bz, Nat.le_refl, bne_self_eq_false]
  refine CThen.by (encS_back (m.length + 27) bs _ hu hs ⟨.grow, 3, by simp only [push_cast, simprocAttr]⟩) ?_
  simp only [push_cast, simprocAttr, hb, lk_old hb, hd0, u8l_len, tS, bz, Nat.le_refl, bne_self_eq_false]
  refine Thn_n ?_
  refine hK _ _ ?_
  clear hK K
  refine AW.seq_k fun K hK => ?_
  refine AW.region (by decide) ?_
  simp only [push_cast, simprocAttr, hb, lk_old hb, hd0, u8l_len, tS, bz, Nat.le_refl, bne_self_eq_false]
  refine Thn_n ?_
  refine hK _ _ ?_
  clear hK K
  refine AW.cond_f rfl ?_
  refine AW.skip ?_
  refine Thn_n ?_
  refine hK _ _ ?_
  clear hK K
  refine AW.seq_k fun K hK => ?_
  refine AW.region (by decide) ?_
  simp only [push_cast, simprocAttr, hb, lk_old hb, hd0, u8l_len, tS, bz, Nat.le_refl, bne_self_eq_false]
  refine CThen.by (awake_c _) ?_
  simp only [push_cast, simprocAttr, hb, lk_old hb, hd0, u8l_len, tS, bz, Nat.le_refl, bne_self_eq_false]
  refine Thn_n ?_
  refine hK _ _ ?_
  clear hK K
  refine AW.ret ?_
  refine hQ _ _ _ ?_
  first | refine RetP.drop0 (Or.inr rfl) ?_ ?_ hwf | refine RetP.drop (Or.inr rfl) ?_ ?_ hwf
  · simp only [resA, resOne, resTv, AV.tv, push_cast, simprocAttr, hb, lk_old hb, hd0, u8l_len, tS, bz, Nat.le_refl, bne_self_eq_false]
  · rfl
namespace filmBackLaw
theorem law (m : AMem) (avs : List AV) (h : All2 (fun t a => goodA Try.prog 1048576 m t a) Try.f6.params.toList avs) : Ctr Try.prog 6 avs m (.one (.bool true)) m := by
  rw [Try.params6] at h
  obtain ⟨a0, l0, rfl, g0, h⟩ := all2_cons h
  obtain ⟨a1, l1, rfl, g1, h⟩ := all2_cons h
  obtain rfl := all2_nil h
  obtain ⟨W, H, rL, nL, rD, nD, rN, nN, rB, nB, rS, nS, rF, nF, GL, GN, GB, fD, fS, fF, rfl, ⟨pL, pD, pN, pB, pS, pF⟩, ⟨bL, bD, bN, bB, bS, bF⟩⟩ := film_in g0
  obtain ⟨c, rfl, hg⟩ := g1.one (fun fs h => by rw [Try.underlying45] at h; cases h) (fun k e h => by rw [Try.underlying45] at h; cases h)
  obtain ⟨r0, bs, e, hp, hu, hn⟩ := bytes_in hg
  simp only [List.cons.injEq, and_true] at e
  subst e
  rcases Classical.em (5000 < (nL : Int)) with hd0 | hd0
  · exact back_big1 W H rL nL rD nD rN nN rB nB rS nS rF nF GL GN GB fD fS fF m pL pD pN pB pS pF bL bD bN bB bS bF r0 bs hp hn hu hd0
  rcases Classical.em (5000 < (nS : Int)) with hd | hd
  · exact back_big2 W H rL nL rD nD rN nN rB nB rS nS rF nF GL GN GB fD fS fF m pL pD pN pB pS pF bL bD bN bB bS bF r0 bs hp hn hu hd0 hd
  rcases Classical.em (HeldP nL nD nN nB GL GN GB fD) with hh | hh
  rotate_left
  · exact back_big3 W H rL nL rD nD rN nN rB nB rS nS rF nF GL GN GB fD fS fF m pL pD pN pB pS pF bL bD bN bB bS bF r0 bs hp hn hu hd0 hd hh
  cases hz : filmR W H nL nD nN nB nS nF fS fF
  · cases hok : okB bs
    · have he := okB_n hok
      rcases Classical.em ((endS bs.length (hsS bs (0, 0) (npS bs (0, 0)))).2 = 0) with hs | hs
      · exact back_001 W H rL nL rD nD rN nN rB nB rS nS rF nF GL GN GB fD fS fF m pL pD pN pB pS pF bL bD bN bB bS bF r0 bs hp hn hu hd0 hd hh hz hok hs he
      · exact back_000 W H rL nL rD nD rN nN rB nB rS nS rF nF GL GN GB fD fS fF m pL pD pN pB pS pF bL bD bN bB bS bF r0 bs hp hn hu hd0 hd hh hz hok (by simpa using hs) he (by simpa using hs)
    · rcases Classical.em ((endS bs.length (hsS bs (0, 0) (npS bs (0, 0)))).2 = 0) with hs | hs
      · exact back_011 W H rL nL rD nD rN nN rB nB rS nS rF nF GL GN GB fD fS fF m pL pD pN pB pS pF bL bD bN bB bS bF r0 bs hp hn hu hd0 hd hh hz hok hs
      · exact back_010 W H rL nL rD nD rN nN rB nB rS nS rF nF GL GN GB fD fS fF m pL pD pN pB pS pF bL bD bN bB bS bF r0 bs hp hn hu hd0 hd hh hz hok (by simpa using hs) (by simpa using hs)
  · obtain ⟨e1, e2, e3, e4, e5⟩ := shR_no hz
    subst e2; subst e3; subst e4; subst e5; subst e1
    cases hok : okB bs
    · have he := okB_n hok
      rcases Classical.em ((endS bs.length (hsS bs (0, 0) (npS bs (0, 0)))).2 = 0) with hs | hs
      · exact back_101 W H rL rD rN rB rS rF nD GL GN GB fD fS fF m pL pD pN pB pS pF bL r0 bs hp hn hu hd0 hh hz hok hs he
      · exact back_100 W H rL rD rN rB rS rF nD GL GN GB fD fS fF m pL pD pN pB pS pF bL r0 bs hp hn hu hd0 hh hz hok (by simpa using hs) he (by simpa using hs)
    · rcases Classical.em ((endS bs.length (hsS bs (0, 0) (npS bs (0, 0)))).2 = 0) with hs | hs
      · exact back_111 W H rL rD rN rB rS rF nD GL GN GB fD fS fF m pL pD pN pB pS pF bL r0 bs hp hn hu hd0 hh hz hok hs
      · exact back_110 W H rL rD rN rB rS rF nD GL GN GB fD fS fF m pL pD pN pB pS pF bL r0 bs hp hn hu hd0 hh hz hok (by simpa using hs) (by simpa using hs)
theorem contract (H : Type) (enc : TypeId × Value → H) (W : World) (base : Nat) (args : Array Value) (ds gs : List (DataW H)) (before : List MemPlace)
    (hval : ∀ (j : Nat) t v, Try.f6.params[j]? = some t → args[j]? = some v → Value.okWide Try.prog W .any base t v)
    (hW : DataW.Whole enc Try.prog Try.f6.params.toList Rows.filmBackSpec.vars false W args.toList ds gs before) (hk : Rows.uptoSmall H (ds ++ gs) = true) :
    Calls Try.prog 6 args W fun e W' => ∃ v, e = .returned v ∧ Rows.filmBackSpec.post enc Try.prog Try.f6 false true false false W args v W' := by
  refine law_true (B := 1048576) (bulk := Rows.uptoBulk) rfl ?_ laidOut laid (by kernel_rfl) (tb := 4) rfl Try.underlying4 isBulk (fun d hd => small hk d (List.mem_append_left _ hd)) hval hW fun m avs _ h => law m avs h
  obtain ⟨p, q, hA, _⟩ := hW
  rw [Try.params6] at hA
  rintro l rfl
  obtain ⟨v0, vs0, d0, ds0, p0, q0, _, rfl, _, _, r0⟩ := ChangeShapes.trodAll_cons hA
  obtain ⟨v1, vs1, d1, ds1, p1, q1, _, rfl, _, _, r1⟩ := ChangeShapes.trodAll_cons r0
  obtain ⟨_, rfl, _⟩ := ChangeShapes.trodAll_nil r1
  rfl
theorem lifted (os : Os) (started : os.Started) (H : Type) (enc : TypeId × Value → H) (X : Stop.Interp) :
    ReturnsInHanded {} Try.checked os 6 .any ((Rows.OpenSpec.upto Rows.filmBackSpec).pre6 enc Try.prog Try.f6 Rows.filmBackUptoRow.domain false) (((Rows.OpenSpec.upto Rows.filmBackSpec).at X).post enc Try.prog Try.f6 false true false false) := by
  refine returnsInHanded_of_cond (C := Try.checked) (s := Rows.OpenSpec.upto Rows.filmBackSpec) (k := Rows.uptoSmall) rfl own started (by kernel_rfl) Try.func6
    (OpenSpec.witness (enc := enc) (C := Try.checked) (s := Rows.OpenSpec.upto Rows.filmBackSpec) (k := Rows.uptoSmall) rfl false ⟨#[], #[.agg #[.int .i64 0, .int .i64 0, .slice none 0 0, .slice none 0 0, .slice none 0 0, .slice none 0 0, .slice none 0 0, .slice none 0 0], .slice none 0 0], []⟩ 8 (by kernel_rfl) (by kernel_rfl) (by kernel_rfl)
      (x := ([.agg [.agg [.lit (.int .i64 0), .lit (.int .i64 0), .nil], .nil, .nil, .nil, .nil, .nil], .nil], [], [])) (by kernel_rfl) rfl (by kernel_rfl)) ?_
  intro W base args ds gs before hval hW _ hk _
  exact contract H enc W base args ds gs before hval hW hk
theorem proved : Rows.FilmBackUptoSaid :=
  OpenClaim.holds_of_cond 6 Try.f6 rfl rfl rfl rfl rfl rfl rfl ⟨rfl, rfl, rfl, rfl, rfl⟩ rfl rfl rfl rfl rfl (by kernel_rfl) Try.func6 (by kernel_rfl)
    (of_decide_eq_true (by kernel_rfl)) (by unfold Func.isWrapper; first | (rw [if_pos (by decide +kernel)]; kernel_rfl) | (rw [if_neg (by decide +kernel)]; exact ⟨rfl, rfl⟩))
    (fun os started H enc _ X => lifted os started H enc X)
end filmBackLaw
end Go.Proofs.Ytgbehbaecdepjaa
