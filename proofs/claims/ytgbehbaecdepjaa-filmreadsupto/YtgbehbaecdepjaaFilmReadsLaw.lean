/- FilmReads answers true whatever bytes it is given, up to 1048576 of them; no other conditions. -/
import Derived.Test.YtgbehbaecdepjaaFilmR
import Derived.Test.YtgbehbaecdepjaaAwakeFm
import Derived.Test.YtgbehbaecdepjaaRows
import Derived.WalkKit
import Derived.ProofKit
import Derived.OpenShut
import Derived.JoinedCond
set_option linter.unusedSimpArgs false
set_option linter.unusedVariables false
set_option maxRecDepth 100000
set_option maxHeartbeats 4000000
namespace Go.Proofs.Ytgbehbaecdepjaa
open Go Go.Eng

theorem bulk_one {H : Type} (d : DataW H) : 1 ≤ Rows.uptoBulk d := by
  cases d with
  | lit l => cases l <;> simp [Rows.uptoBulk]
  | nil => simp [Rows.uptoBulk]
  | ptr d => simp [Rows.uptoBulk]
  | slice elems spare => simp [Rows.uptoBulk]
  | agg parts => simp [Rows.uptoBulk]
  | iface t d => simp [Rows.uptoBulk]
  | map entries => simp [Rows.uptoBulk]
  | held h => simp [Rows.uptoBulk]
theorem bulk_mem {H : Type} {d : DataW H} : ∀ {l : List (DataW H)}, d ∈ l → Rows.uptoBulk d ≤ Rows.uptoBulkAll l
  | x :: r, h => by
    simp only [Rows.uptoBulkAll]
    rcases List.mem_cons.1 h with rfl | h
    · omega
    · have := bulk_mem h; omega
theorem bulk_len {H : Type} : ∀ (l : List (DataW H)), l.length ≤ Rows.uptoBulkAll l
  | [] => by simp
  | x :: r => by have := bulk_one x; have := bulk_len r; simp only [Rows.uptoBulkAll, List.length_cons]; omega
theorem isBulk {H : Type} : IsBulk (H := H) Rows.uptoBulk where
  str := fun l => by simp [Rows.uptoBulk]
  agg := fun l d h => by have := bulk_mem h; simp only [Rows.uptoBulk]; omega
  row := fun l s d h => by have := bulk_mem h; simp only [Rows.uptoBulk]; omega
  len := fun l s => by have := bulk_len l; simp only [Rows.uptoBulk]; omega
theorem small {H : Type} {l : List (DataW H)} (hk : Rows.uptoSmall H l = true) : ∀ d, d ∈ l → Rows.uptoBulk d ≤ 1048576 := fun d hd => by
  have h1 : Rows.uptoBulkAll l ≤ 1048576 := by simpa [Rows.uptoSmall] using hk
  have := bulk_mem hd; omega
theorem own : ownKnob Try.prog.godebug = none := by kernel_rfl
theorem laidOut : laidOutB Try.prog = true := by kernel_rfl
theorem laid : laidB Try.prog = true := by kernel_rfl

theorem n45 : Try.prog.cellsOf 45 = 1 := by kernel_rfl
theorem n5 : Try.prog.cellsOf 5 = 1 := by kernel_rfl
theorem bytes_in {B : Nat} {m : AMem} {cs : List CV} (hg : Eng.Good Try.prog B m 45 cs) : ∃ r bs, cs = [.sl r 0 0 bs.length] ∧ (∃ k ez, m[r]? = some ⟨k, 5, 0, ez, u8l bs⟩) ∧ (∀ i, 0 ≤ byB bs i ∧ byB bs i ≤ 255) ∧ bs.length ≤ B := by
  obtain ⟨r, n, cells, h2, h3, h4, h5, h6⟩ := hg.row Try.underlying45
  rw [n5] at h3 h4
  obtain ⟨xs, hxs, hx⟩ := ints_of (k := .u8) n cells (by omega) fun j hj => by
    obtain ⟨x, q3, q4⟩ := (h6 j hj).int Try.underlying5
    rw [n5, Nat.mul_one] at q3
    exact ⟨x, q3, q4⟩
  have hl : xs.length = n := by rw [hxs, List.length_map] at h4; omega
  refine ⟨r, xs, by rw [hl]; exact h2, ⟨.ro, 1, by rw [h3, hxs]; rfl⟩, fun i => ?_, by omega⟩
  unfold byB
  rcases Nat.lt_or_ge i xs.length with hi | hi
  · have := hx (xs.getD i 0) (by rw [List.getD_eq_getElem?_getD, List.getElem?_eq_getElem hi]; exact List.getElem_mem hi)
    simpa [IntKind.min, IntKind.max, IntKind.signed, IntKind.bits] using this
  · rw [List.getD_eq_getElem?_getD, List.getElem?_eq_none hi]; decide
theorem reads_11 (r0 : Nat) (bs : List Int) (m : AMem) (hp : ∃ k ez, m[r0]? = some ⟨k, 5, 0, ez, u8l bs⟩) (hn : bs.length ≤ 1073741824) (hu : ∀ i, 0 ≤ byB bs i ∧ byB bs i ≤ 255) (hs : ((endS bs.length (hsS bs (0, 0) (npS bs (0, 0)))).2 = 0)) (hf : okB bs = true) (h20 : npS bs (0, 0) ≤ 1048576) : Ctr Try.prog 5 [.one (.sl r0 0 0 bs.length)] m (.one (.bool true)) m := by
  refine Ctr.enter Try.func5 rfl (by decide) (rs := [.tmp 2]) (nt := 54) rfl rfl fun hwf Q hQ => ?_
  obtain ⟨k0, ez0, hb⟩ := id hp
  have l0 := get_lt hb
  refine AW.seq_k fun K hK => ?_
  refine AW.region (by decide) ?_
  simp only [push_cast, simprocAttr, hb, lk_old hb]
  refine Thn_n ?_
  refine hK _ _ ?_
  clear hK K
  refine AW.seq_k fun K hK => ?_
  refine AW.region (by decide) ?_
  simp only [push_cast, simprocAttr, hb, lk_old hb]
  refine CThen.by (decS_T r0 bs _ hp hn hu hs) ?_
  simp only [push_cast, simprocAttr, hb, lk_old hb]
  refine Thn_n ?_
  refine hK _ _ ?_
  clear hK K
  refine AW.seq_k fun K hK => ?_
  refine AW.region (by decide) ?_
  simp only [push_cast, simprocAttr, hb, lk_old hb]
  refine CThen.by (rdecS_T r0 bs _ ⟨_, _, lk_old hb _⟩ hn hu hs) ?_
  simp only [push_cast, simprocAttr, hb, lk_old hb]
  refine Thn_n ?_
  refine hK _ _ ?_
  clear hK K
  refine AW.seq_k fun K hK => ?_
  refine AW.region (by decide) ?_
  simp only [push_cast, simprocAttr, hb, lk_old hb]
  refine CThen.by (dec_T r0 bs _ ⟨_, _, lk_old hb _⟩ hn hu hf) ?_
  simp only [push_cast, simprocAttr, hb, lk_old hb]
  refine Thn_n ?_
  refine hK _ _ ?_
  clear hK K
  refine AW.seq_k fun K hK => ?_
  refine AW.region (by decide) ?_
  simp only [push_cast, simprocAttr, hb, lk_old hb]
  refine CThen.by (rdec_T r0 bs _ ⟨_, _, lk_old hb _⟩ hn hu hf) ?_
  simp only [push_cast, simprocAttr, hb, lk_old hb]
  refine Thn_n ?_
  refine hK _ _ ?_
  clear hK K
  refine AW.seq_k fun K hK => ?_
  refine AW.draw [.ext, .val, .val, .val, .val, .val, .val, .rd 1, .ext, .rd 1, .ext, .val, .val, .val, .val, .val, .val, .val, .rd 3, .ext, .rd 3, .ext, .val, .val] fol (by decide) (by kernel_rfl) ?_
  simp only [push_cast, simprocAttr, hb, lk_old hb]
  refine DCall.by0 (awake_c _) ?_
  simp only [push_cast, simprocAttr, hb, lk_old hb]
  refine DCall.by (fromSheet_c (rdV bs 2 (0, 0)) (rdV bs 2 (rdS bs.length 2 (0, 0))) m.length 0 (npS bs (0, 0)) (GH bs (0, 0)) _ ⟨.grow, 3, by simp only [push_cast, simprocAttr]⟩ h20) ?_
  simp only [push_cast, simprocAttr, hb, lk_old hb]
  refine DCall.by0 (sameSheet_c (rdV bs 2 (0, 0)) (rdV bs 2 (rdS bs.length 2 (0, 0))) (m.length + 18) 0 (m.length + 2) 0 (npS bs (0, 0)) (GH bs (0, 0)) _ ⟨.grow, 3, by simp only [push_cast, simprocAttr]⟩ ⟨.grow, 3, by simp only [push_cast, simprocAttr]⟩ h20) ?_
  simp only [push_cast, simprocAttr, hb, lk_old hb]
  refine DCall.by (from_c (rdV bs 2 (0, 0)) (rdV bs 2 (rdS bs.length 2 (0, 0))) (m.length + 4) 0 (m.length + 5) 0 (m.length + 6) 0 (m.length + 7) 0 (m.length + 8) 0 (m.length + 9) 0 (npS bs (0, 0)) (GH bs (0, 0)) (xN bs) (xB bs) (xD bs) _ ⟨.grow, 3, by simp only [push_cast, simprocAttr]⟩ ⟨.grow, 1, by simp only [push_cast, simprocAttr]⟩ ⟨.grow, 3, by simp only [push_cast, simprocAttr]⟩ ⟨.grow, 3, by simp only [push_cast, simprocAttr]⟩ (by (simp) <;> omega) (by (simp) <;> omega) h20) ?_
  simp only [push_cast, simprocAttr, hb, lk_old hb]
  refine DCall.by0 (same_c (rdV bs 2 (0, 0)) (rdV bs 2 (rdS bs.length 2 (0, 0))) (m.length + 19) 0 (m.length + 20) 0 (m.length + 21) 0 (m.length + 22) 0 (m.length + 8) 0 (m.length + 9) 0 (m.length + 11) 0 (m.length + 12) 0 (m.length + 13) 0 (m.length + 14) 0 (m.length + 15) 0 (m.length + 16) 0 (npS bs (0, 0)) (GH bs (0, 0)) (xN bs) (xB bs) (xD bs) (xS bs) (xF bs) _ ⟨.grow, 3, by simp only [push_cast, simprocAttr]⟩ ⟨.grow, 1, by simp only [push_cast, simprocAttr]⟩ ⟨.grow, 3, by simp only [push_cast, simprocAttr]⟩ ⟨.grow, 3, by simp only [push_cast, simprocAttr]⟩ ⟨.grow, 1, by simp only [push_cast, simprocAttr]⟩ ⟨.grow, 1, by simp only [push_cast, simprocAttr]⟩ ⟨.grow, 3, by simp only [push_cast, simprocAttr]⟩ ⟨.grow, 1, by simp only [push_cast, simprocAttr]⟩ ⟨.grow, 3, by simp only [push_cast, simprocAttr]⟩ ⟨.grow, 3, by simp only [push_cast, simprocAttr]⟩ ⟨.grow, 1, by simp only [push_cast, simprocAttr]⟩ ⟨.grow, 1, by simp only [push_cast, simprocAttr]⟩ h20) ?_
  simp only [push_cast, simprocAttr, hb, lk_old hb]
  refine Thn_n ?_
  refine hK _ _ ?_
  clear hK K
  refine AW.ret ?_
  refine hQ _ _ _ ?_
  first | refine RetP.drop0 (Or.inr rfl) ?_ ?_ hwf | refine RetP.drop (Or.inr rfl) ?_ ?_ hwf
  · simp only [resA, resOne, resTv, AV.tv, push_cast, simprocAttr, hb, lk_old hb]
  · rfl
theorem reads_10 (r0 : Nat) (bs : List Int) (m : AMem) (hp : ∃ k ez, m[r0]? = some ⟨k, 5, 0, ez, u8l bs⟩) (hn : bs.length ≤ 1073741824) (hu : ∀ i, 0 ≤ byB bs i ∧ byB bs i ≤ 255) (hs : ((endS bs.length (hsS bs (0, 0) (npS bs (0, 0)))).2 = 0)) (hf : okB bs = false) (h20 : npS bs (0, 0) ≤ 1048576) : Ctr Try.prog 5 [.one (.sl r0 0 0 bs.length)] m (.one (.bool true)) m := by
  refine Ctr.enter Try.func5 rfl (by decide) (rs := [.tmp 2]) (nt := 54) rfl rfl fun hwf Q hQ => ?_
  obtain ⟨k0, ez0, hb⟩ := id hp
  have l0 := get_lt hb
  refine AW.seq_k fun K hK => ?_
  refine AW.region (by decide) ?_
  simp only [push_cast, simprocAttr, hb, lk_old hb]
  refine Thn_n ?_
  refine hK _ _ ?_
  clear hK K
  refine AW.seq_k fun K hK => ?_
  refine AW.region (by decide) ?_
  simp only [push_cast, simprocAttr, hb, lk_old hb]
  refine CThen.by (decS_T r0 bs _ hp hn hu hs) ?_
  simp only [push_cast, simprocAttr, hb, lk_old hb]
  refine Thn_n ?_
  refine hK _ _ ?_
  clear hK K
  refine AW.seq_k fun K hK => ?_
  refine AW.region (by decide) ?_
  simp only [push_cast, simprocAttr, hb, lk_old hb]
  refine CThen.by (rdecS_T r0 bs _ ⟨_, _, lk_old hb _⟩ hn hu hs) ?_
  simp only [push_cast, simprocAttr, hb, lk_old hb]
  refine Thn_n ?_
  refine hK _ _ ?_
  clear hK K
  refine AW.seq_k fun K hK => ?_
  refine AW.region (by decide) ?_
  simp only [push_cast, simprocAttr, hb, lk_old hb]
  refine CThen.by (dec_N r0 bs _ ⟨_, _, lk_old hb _⟩ hn hu hf) ?_
  simp only [push_cast, simprocAttr, hb, lk_old hb]
  refine Thn_n ?_
  refine hK _ _ ?_
  clear hK K
  refine AW.seq_k fun K hK => ?_
  refine AW.region (by decide) ?_
  simp only [push_cast, simprocAttr, hb, lk_old hb]
  refine CThen.by (rdec_N r0 bs _ ⟨_, _, lk_old hb _⟩ hn hu hf) ?_
  simp only [push_cast, simprocAttr, hb, lk_old hb]
  refine Thn_n ?_
  refine hK _ _ ?_
  clear hK K
  refine AW.seq_k fun K hK => ?_
  refine AW.draw [.ext, .val, .val, .val, .val, .val, .val, .rd 1, .ext, .rd 1, .ext, .val, .val, .val, .val, .val, .val, .val, .rd 3, .ext, .rd 3, .ext, .val, .val] fol (by decide) (by kernel_rfl) ?_
  simp only [push_cast, simprocAttr, hb, lk_old hb]
  refine DCall.by0 (awake_c _) ?_
  simp only [push_cast, simprocAttr, hb, lk_old hb]
  refine DCall.by (fromSheet_c (rdV bs 2 (0, 0)) (rdV bs 2 (rdS bs.length 2 (0, 0))) m.length 0 (npS bs (0, 0)) (GH bs (0, 0)) _ ⟨.grow, 3, by simp only [push_cast, simprocAttr]⟩ h20) ?_
  simp only [push_cast, simprocAttr, hb, lk_old hb]
  refine DCall.by0 (sameSheet_c (rdV bs 2 (0, 0)) (rdV bs 2 (rdS bs.length 2 (0, 0))) (m.length + 6) 0 (m.length + 2) 0 (npS bs (0, 0)) (GH bs (0, 0)) _ ⟨.grow, 3, by simp only [push_cast, simprocAttr]⟩ ⟨.grow, 3, by simp only [push_cast, simprocAttr]⟩ h20) ?_
  simp only [push_cast, simprocAttr, hb, lk_old hb]
  refine DCall.by0 (from_n _) ?_
  simp only [push_cast, simprocAttr, hb, lk_old hb]
  refine DCall.by0 (same_n _) ?_
  simp only [push_cast, simprocAttr, hb, lk_old hb]
  refine Thn_n ?_
  refine hK _ _ ?_
  clear hK K
  refine AW.ret ?_
  refine hQ _ _ _ ?_
  first | refine RetP.drop0 (Or.inr rfl) ?_ ?_ hwf | refine RetP.drop (Or.inr rfl) ?_ ?_ hwf
  · simp only [resA, resOne, resTv, AV.tv, push_cast, simprocAttr, hb, lk_old hb]
  · rfl
theorem reads_01 (r0 : Nat) (bs : List Int) (m : AMem) (hp : ∃ k ez, m[r0]? = some ⟨k, 5, 0, ez, u8l bs⟩) (hn : bs.length ≤ 1073741824) (hu : ∀ i, 0 ≤ byB bs i ∧ byB bs i ≤ 255) (hs : (((endS bs.length (hsS bs (0, 0) (npS bs (0, 0)))).2 != 0) = true)) (hf : okB bs = true) (h20 : npS bs (0, 0) ≤ 1048576) : Ctr Try.prog 5 [.one (.sl r0 0 0 bs.length)] m (.one (.bool true)) m := by
  refine Ctr.enter Try.func5 rfl (by decide) (rs := [.tmp 2]) (nt := 54) rfl rfl fun hwf Q hQ => ?_
  obtain ⟨k0, ez0, hb⟩ := id hp
  have l0 := get_lt hb
  refine AW.seq_k fun K hK => ?_
  refine AW.region (by decide) ?_
  simp only [push_cast, simprocAttr, hb, lk_old hb]
  refine Thn_n ?_
  refine hK _ _ ?_
  clear hK K
  refine AW.seq_k fun K hK => ?_
  refine AW.region (by decide) ?_
  simp only [push_cast, simprocAttr, hb, lk_old hb]
  refine CThen.by (decS_N r0 bs _ hp hn hu hs) ?_
  simp only [push_cast, simprocAttr, hb, lk_old hb]
  refine Thn_n ?_
  refine hK _ _ ?_
  clear hK K
  refine AW.seq_k fun K hK => ?_
  refine AW.region (by decide) ?_
  simp only [push_cast, simprocAttr, hb, lk_old hb]
  refine CThen.by (rdecS_N r0 bs _ ⟨_, _, lk_old hb _⟩ hn hu hs) ?_
  simp only [push_cast, simprocAttr, hb, lk_old hb]
  refine Thn_n ?_
  refine hK _ _ ?_
  clear hK K
  refine AW.seq_k fun K hK => ?_
  refine AW.region (by decide) ?_
  simp only [push_cast, simprocAttr, hb, lk_old hb]
  refine CThen.by (dec_T r0 bs _ ⟨_, _, lk_old hb _⟩ hn hu hf) ?_
  simp only [push_cast, simprocAttr, hb, lk_old hb]
  refine Thn_n ?_
  refine hK _ _ ?_
  clear hK K
  refine AW.seq_k fun K hK => ?_
  refine AW.region (by decide) ?_
  simp only [push_cast, simprocAttr, hb, lk_old hb]
  refine CThen.by (rdec_T r0 bs _ ⟨_, _, lk_old hb _⟩ hn hu hf) ?_
  simp only [push_cast, simprocAttr, hb, lk_old hb]
  refine Thn_n ?_
  refine hK _ _ ?_
  clear hK K
  refine AW.seq_k fun K hK => ?_
  refine AW.draw [.ext, .val, .val, .val, .val, .val, .val, .rd 1, .ext, .rd 1, .ext, .val, .val, .val, .val, .val, .val, .val, .rd 3, .ext, .rd 3, .ext, .val, .val] fol (by decide) (by kernel_rfl) ?_
  simp only [push_cast, simprocAttr, hb, lk_old hb]
  refine DCall.by0 (awake_c _) ?_
  simp only [push_cast, simprocAttr, hb, lk_old hb]
  refine DCall.by0 (fromSheet_n 0 0 _) ?_
  simp only [push_cast, simprocAttr, hb, lk_old hb]
  refine DCall.by0 (sameSheet_n 0 0 _) ?_
  simp only [push_cast, simprocAttr, hb, lk_old hb]
  refine DCall.by (from_c (rdV bs 2 (0, 0)) (rdV bs 2 (rdS bs.length 2 (0, 0))) (m.length + 2) 0 (m.length + 3) 0 (m.length + 4) 0 (m.length + 5) 0 (m.length + 6) 0 (m.length + 7) 0 (npS bs (0, 0)) (GH bs (0, 0)) (xN bs) (xB bs) (xD bs) _ ⟨.grow, 3, by simp only [push_cast, simprocAttr]⟩ ⟨.grow, 1, by simp only [push_cast, simprocAttr]⟩ ⟨.grow, 3, by simp only [push_cast, simprocAttr]⟩ ⟨.grow, 3, by simp only [push_cast, simprocAttr]⟩ (by (simp) <;> omega) (by (simp) <;> omega) h20) ?_
  simp only [push_cast, simprocAttr, hb, lk_old hb]
  refine DCall.by0 (same_c (rdV bs 2 (0, 0)) (rdV bs 2 (rdS bs.length 2 (0, 0))) (m.length + 16) 0 (m.length + 17) 0 (m.length + 18) 0 (m.length + 19) 0 (m.length + 6) 0 (m.length + 7) 0 (m.length + 9) 0 (m.length + 10) 0 (m.length + 11) 0 (m.length + 12) 0 (m.length + 13) 0 (m.length + 14) 0 (npS bs (0, 0)) (GH bs (0, 0)) (xN bs) (xB bs) (xD bs) (xS bs) (xF bs) _ ⟨.grow, 3, by simp only [push_cast, simprocAttr]⟩ ⟨.grow, 1, by simp only [push_cast, simprocAttr]⟩ ⟨.grow, 3, by simp only [push_cast, simprocAttr]⟩ ⟨.grow, 3, by simp only [push_cast, simprocAttr]⟩ ⟨.grow, 1, by simp only [push_cast, simprocAttr]⟩ ⟨.grow, 1, by simp only [push_cast, simprocAttr]⟩ ⟨.grow, 3, by simp only [push_cast, simprocAttr]⟩ ⟨.grow, 1, by simp only [push_cast, simprocAttr]⟩ ⟨.grow, 3, by simp only [push_cast, simprocAttr]⟩ ⟨.grow, 3, by simp only [push_cast, simprocAttr]⟩ ⟨.grow, 1, by simp only [push_cast, simprocAttr]⟩ ⟨.grow, 1, by simp only [push_cast, simprocAttr]⟩ h20) ?_
  simp only [push_cast, simprocAttr, hb, lk_old hb]
  refine Thn_n ?_
  refine hK _ _ ?_
  clear hK K
  refine AW.ret ?_
  refine hQ _ _ _ ?_
  first | refine RetP.drop0 (Or.inr rfl) ?_ ?_ hwf | refine RetP.drop (Or.inr rfl) ?_ ?_ hwf
  · simp only [resA, resOne, resTv, AV.tv, push_cast, simprocAttr, hb, lk_old hb]
  · rfl
theorem reads_00 (r0 : Nat) (bs : List Int) (m : AMem) (hp : ∃ k ez, m[r0]? = some ⟨k, 5, 0, ez, u8l bs⟩) (hn : bs.length ≤ 1073741824) (hu : ∀ i, 0 ≤ byB bs i ∧ byB bs i ≤ 255) (hs : (((endS bs.length (hsS bs (0, 0) (npS bs (0, 0)))).2 != 0) = true)) (hf : okB bs = false) : Ctr Try.prog 5 [.one (.sl r0 0 0 bs.length)] m (.one (.bool true)) m := by
  refine Ctr.enter Try.func5 rfl (by decide) (rs := [.tmp 2]) (nt := 54) rfl rfl fun hwf Q hQ => ?_
  obtain ⟨k0, ez0, hb⟩ := id hp
  have l0 := get_lt hb
  refine AW.seq_k fun K hK => ?_
  refine AW.region (by decide) ?_
  simp only [push_cast, simprocAttr, hb, lk_old hb]
  refine Thn_n ?_
  refine hK _ _ ?_
  clear hK K
  refine AW.seq_k fun K hK => ?_
  refine AW.region (by decide) ?_
  simp only [push_cast, simprocAttr, hb, lk_old hb]
  refine CThen.by (decS_N r0 bs _ hp hn hu hs) ?_
  simp only [push_cast, simprocAttr, hb, lk_old hb]
  refine Thn_n ?_
  refine hK _ _ ?_
  clear hK K
  refine AW.seq_k fun K hK => ?_
  refine AW.region (by decide) ?_
  simp only [push_cast, simprocAttr, hb, lk_old hb]
  refine CThen.by (rdecS_N r0 bs _ ⟨_, _, lk_old hb _⟩ hn hu hs) ?_
  simp only [push_cast, simprocAttr, hb, lk_old hb]
  refine Thn_n ?_
  refine hK _ _ ?_
  clear hK K
  refine AW.seq_k fun K hK => ?_
  refine AW.region (by decide) ?_
  simp only [push_cast, simprocAttr, hb, lk_old hb]
  refine CThen.by (dec_N r0 bs _ ⟨_, _, lk_old hb _⟩ hn hu hf) ?_
  simp only [push_cast, simprocAttr, hb, lk_old hb]
  refine Thn_n ?_
  refine hK _ _ ?_
  clear hK K
  refine AW.seq_k fun K hK => ?_
  refine AW.region (by decide) ?_
  simp only [push_cast, simprocAttr, hb, lk_old hb]
  refine CThen.by (rdec_N r0 bs _ ⟨_, _, lk_old hb _⟩ hn hu hf) ?_
  simp only [push_cast, simprocAttr, hb, lk_old hb]
  refine Thn_n ?_
  refine hK _ _ ?_
  clear hK K
  refine AW.seq_k fun K hK => ?_
  refine AW.draw [.ext, .val, .val, .val, .val, .val, .val, .rd 1, .ext, .rd 1, .ext, .val, .val, .val, .val, .val, .val, .val, .rd 3, .ext, .rd 3, .ext, .val, .val] fol (by decide) (by kernel_rfl) ?_
  simp only [push_cast, simprocAttr, hb, lk_old hb]
  refine DCall.by0 (awake_c _) ?_
  simp only [push_cast, simprocAttr, hb, lk_old hb]
  refine DCall.by0 (fromSheet_n 0 0 _) ?_
  simp only [push_cast, simprocAttr, hb, lk_old hb]
  refine DCall.by0 (sameSheet_n 0 0 _) ?_
  simp only [push_cast, simprocAttr, hb, lk_old hb]
  refine DCall.by0 (from_n _) ?_
  simp only [push_cast, simprocAttr, hb, lk_old hb]
  refine DCall.by0 (same_n _) ?_
  simp only [push_cast, simprocAttr, hb, lk_old hb]
  refine Thn_n ?_
  refine hK _ _ ?_
  clear hK K
  refine AW.ret ?_
  refine hQ _ _ _ ?_
  first | refine RetP.drop0 (Or.inr rfl) ?_ ?_ hwf | refine RetP.drop (Or.inr rfl) ?_ ?_ hwf
  · simp only [resA, resOne, resTv, AV.tv, push_cast, simprocAttr, hb, lk_old hb]
  · rfl
namespace filmReadsLaw
theorem law (m : AMem) (avs : List AV) (h : All2 (fun t a => goodA Try.prog 1048576 m t a) Try.f5.params.toList avs) : Ctr Try.prog 5 avs m (.one (.bool true)) m := by
  rw [Try.params5] at h
  obtain ⟨a0, l0, rfl, g0, h⟩ := all2_cons h
  obtain rfl := all2_nil h
  obtain ⟨c, rfl, hg⟩ := g0.one (fun fs h => by rw [Try.underlying45] at h; cases h) (fun k e h => by rw [Try.underlying45] at h; cases h)
  obtain ⟨r, bs, e, hp, hu, hn⟩ := bytes_in hg
  simp only [List.cons.injEq, and_true] at e
  subst e
  have hn' : bs.length ≤ 1073741824 := by omega
  have h20f : okB bs = true → npS bs (0, 0) ≤ 1048576 := fun h => np20 (hs_all (Dok (okB_5 h)).2.2.2.2)
  rcases Classical.em ((endS bs.length (hsS bs (0, 0) (npS bs (0, 0)))).2 = 0) with hs | hs
  · have h20 : npS bs (0, 0) ≤ 1048576 := by
      refine np20 (hs_all ?_)
      rcases Classical.em ((hsS bs (0, 0) (npS bs (0, 0))).2 = 0) with h | h
      · exact h
      · unfold endS at hs; rw [if_neg (fun hc => h hc.1)] at hs; exact hs
    cases hf : okB bs
    · exact reads_10 r bs m hp hn' hu hs hf h20
    · exact reads_11 r bs m hp hn' hu hs hf h20
  · have hs' : ((endS bs.length (hsS bs (0, 0) (npS bs (0, 0)))).2 != 0) = true := by simpa using hs
    cases hf : okB bs
    · exact reads_00 r bs m hp hn' hu hs' hf
    · exact reads_01 r bs m hp hn' hu hs' hf (h20f hf)
theorem contract (H : Type) (enc : TypeId × Value → H) (W : World) (base : Nat) (args : Array Value) (ds gs : List (DataW H)) (before : List MemPlace)
    (hval : ∀ (j : Nat) t v, Try.f5.params[j]? = some t → args[j]? = some v → Value.okWide Try.prog W .any base t v)
    (hW : DataW.Whole enc Try.prog Try.f5.params.toList Rows.filmReadsSpec.vars false W args.toList ds gs before) (hk : Rows.uptoSmall H (ds ++ gs) = true) :
    Calls Try.prog 5 args W fun e W' => ∃ v, e = .returned v ∧ Rows.filmReadsSpec.post enc Try.prog Try.f5 false true false false W args v W' := by
  refine law_true (B := 1048576) (bulk := Rows.uptoBulk) rfl ?_ laidOut laid (by kernel_rfl) (tb := 4) rfl Try.underlying4 isBulk (fun d hd => small hk d (List.mem_append_left _ hd)) hval hW fun m avs _ h => law m avs h
  obtain ⟨p, q, hA, _⟩ := hW
  rw [Try.params5] at hA
  rintro l rfl
  obtain ⟨v0, vs0, d0, ds0, p0, q0, _, rfl, _, _, r0⟩ := ChangeShapes.trodAll_cons hA
  obtain ⟨_, rfl, _⟩ := ChangeShapes.trodAll_nil r0
  rfl
theorem lifted (os : Os) (started : os.Started) (H : Type) (enc : TypeId × Value → H) (X : Stop.Interp) :
    ReturnsInHanded {} Try.checked os 5 .any ((Rows.OpenSpec.upto Rows.filmReadsSpec).pre6 enc Try.prog Try.f5 Rows.filmReadsUptoRow.domain false) (((Rows.OpenSpec.upto Rows.filmReadsSpec).at X).post enc Try.prog Try.f5 false true false false) := by
  refine returnsInHanded_of_cond (C := Try.checked) (s := Rows.OpenSpec.upto Rows.filmReadsSpec) (k := Rows.uptoSmall) rfl own started (by kernel_rfl) Try.func5
    (OpenSpec.witness (enc := enc) (C := Try.checked) (s := Rows.OpenSpec.upto Rows.filmReadsSpec) (k := Rows.uptoSmall) rfl false ⟨#[], #[.slice none 0 0], []⟩ 8 (by kernel_rfl) (by kernel_rfl) (by kernel_rfl)
      (x := ([.nil], [], [])) (by kernel_rfl) rfl (by kernel_rfl)) ?_
  intro W base args ds gs before hval hW _ hk _
  exact contract H enc W base args ds gs before hval hW hk
theorem proved : Rows.FilmReadsUptoSaid :=
  OpenClaim.holds_of_cond 5 Try.f5 rfl rfl rfl rfl rfl rfl rfl ⟨rfl, rfl, rfl, rfl, rfl⟩ rfl rfl rfl rfl rfl (by kernel_rfl) Try.func5 (by kernel_rfl)
    (of_decide_eq_true (by kernel_rfl)) (by unfold Func.isWrapper; first | (rw [if_pos (by decide +kernel)]; kernel_rfl) | (rw [if_neg (by decide +kernel)]; exact ⟨rfl, rfl⟩))
    (fun os started H enc _ X => lifted os started H enc X)
end filmReadsLaw
end Go.Proofs.Ytgbehbaecdepjaa
