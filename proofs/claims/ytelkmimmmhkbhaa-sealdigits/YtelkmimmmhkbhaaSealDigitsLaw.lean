/- SealDigits answers true whatever bytes and whatever text it is given; no conditions. -/
import Derived.Test.YtelkmimmmhkbhaaSealG
import Derived.Test.YtelkmimmmhkbhaaAwakeSe
import Derived.Test.YtelkmimmmhkbhaaRows
import Derived.WalkKit
import Derived.ProofKit
import Derived.OpenShut
import Derived.JoinedCond
set_option linter.unusedSimpArgs false
set_option linter.unusedVariables false
set_option maxRecDepth 100000
set_option maxHeartbeats 4000000
namespace Go.Proofs.Ytelkmimmmhkbhaa
open Go Go.Eng

theorem bulk_one {H : Type} (d : DataW H) : 1 ≤ Rows.uptoBulk d := by
  cases d with
  | lit l => cases l <;> simp [Rows.uptoBulk]
  | nil => simp [Rows.uptoBulk]
  | ptr d => simp [Rows.uptoBulk]
  | slice elems spare => simp [Rows.uptoBulk]
  | agg parts => simp [Rows.uptoBulk]
  | iface t d => simp [Rows.uptoBulk]
  | map entries => simp [Rows.uptoBulk]
  | held h => simp [Rows.uptoBulk]
theorem bulk_mem {H : Type} {d : DataW H} : ∀ {l : List (DataW H)}, d ∈ l → Rows.uptoBulk d ≤ Rows.uptoBulkAll l
  | x :: r, h => by
    simp only [Rows.uptoBulkAll]
    rcases List.mem_cons.1 h with rfl | h
    · omega
    · have := bulk_mem h; omega
theorem bulk_len {H : Type} : ∀ (l : List (DataW H)), l.length ≤ Rows.uptoBulkAll l
  | [] => by simp
  | x :: r => by have := bulk_one x; have := bulk_len r; simp only [Rows.uptoBulkAll, List.length_cons]; omega
theorem isBulk {H : Type} : IsBulk (H := H) Rows.uptoBulk where
  str := fun l => by simp [Rows.uptoBulk]
  agg := fun l d h => by have := bulk_mem h; simp only [Rows.uptoBulk]; omega
  row := fun l s d h => by have := bulk_mem h; simp only [Rows.uptoBulk]; omega
  len := fun l s => by have := bulk_len l; simp only [Rows.uptoBulk]; omega
theorem small {H : Type} {l : List (DataW H)} (hk : Rows.uptoSmall H l = true) : ∀ d, d ∈ l → Rows.uptoBulk d ≤ 1048576 := fun d hd => by
  have h1 : Rows.uptoBulkAll l ≤ 1048576 := by simpa [Rows.uptoSmall] using hk
  have := bulk_mem hd; omega
theorem own : ownKnob Try.prog.godebug = none := by kernel_rfl
theorem laidOut : laidOutB Try.prog = true := by kernel_rfl
theorem laid : laidB Try.prog = true := by kernel_rfl

theorem n22 : Try.prog.cellsOf 22 = 1 := by kernel_rfl
theorem n5 : Try.prog.cellsOf 5 = 1 := by kernel_rfl
theorem bytes_in {B : Nat} {m : AMem} {cs : List CV} (hg : Eng.Good Try.prog B m 22 cs) : ∃ r bs, cs = [.sl r 0 0 bs.length] ∧ m[r]? = some ⟨.ro, 5, 0, 1, u8l bs⟩ ∧ U8ok bs ∧ bs.length ≤ B := by
  obtain ⟨r, n, cells, h2, h3, h4, h5, h6⟩ := hg.row Try.underlying22
  rw [n5] at h3 h4
  obtain ⟨xs, hxs, hx⟩ := ints_of (k := .u8) n cells (by omega) fun j hj => by
    obtain ⟨x, q3, q4⟩ := (h6 j hj).int Try.underlying5
    rw [n5, Nat.mul_one] at q3
    exact ⟨x, q3, q4⟩
  have hl : xs.length = n := by rw [hxs, List.length_map] at h4; omega
  exact ⟨r, xs, by rw [hl]; exact h2, by rw [h3, hxs]; rfl, fun x hxx => by simpa [IntKind.min, IntKind.max, IntKind.signed, IntKind.bits] using hx x hxx, by omega⟩
theorem dig_great (r : Nat) (bs : List Int) (s : ByteArray) (m : AMem) (h : 5000 < bs.length) : Ctr Try.prog 6 [.one (.sl r 0 0 bs.length), .one (.str s)] m (.one (.bool true)) m := by
  refine Ctr.enter Try.func6 rfl (by decide) (rs := [.tmp 4]) (nt := 79) rfl rfl fun hwf Q hQ => ?_
  have c1 : (5000 : Int) < (bs.length : Int) := by omega
  refine AW.seq_k fun K hK => ?_
  refine AW.region (by decide) ?_
  simp only [push_cast, simprocAttr, c1]
  refine Thn_n ?_
  refine hK _ _ ?_
  clear hK K
  refine AW.seq_k fun K hK => ?_
  refine AW.seq_k fun K hK => ?_
  refine AW.region (by decide) ?_
  simp only [push_cast, simprocAttr, c1]
  refine Thn_n ?_
  refine hK _ _ ?_
  clear hK K
  refine AW.cond_t rfl ?_
  refine AW.seq_k fun K hK => ?_
  refine AW.region (by decide) ?_
  simp only [push_cast, simprocAttr, c1]
  refine CThen.by (awake_c _) ?_
  simp only [push_cast, simprocAttr, c1]
  refine Thn_n ?_
  refine hK _ _ ?_
  clear hK K
  refine AW.ret ?_
  refine Thn_r ?_
  refine hQ _ _ _ ?_
  first | refine RetP.drop0 (Or.inr rfl) ?_ ?_ hwf | refine RetP.drop (Or.inr rfl) ?_ ?_ hwf
  · simp only [resA, resOne, resTv, AV.tv, push_cast, simprocAttr, c1]
  · rfl
theorem dig_long (r : Nat) (bs : List Int) (s : ByteArray) (m : AMem) (h : ¬ 5000 < bs.length) (h2 : 5000 < s.size) : Ctr Try.prog 6 [.one (.sl r 0 0 bs.length), .one (.str s)] m (.one (.bool true)) m := by
  refine Ctr.enter Try.func6 rfl (by decide) (rs := [.tmp 4]) (nt := 79) rfl rfl fun hwf Q hQ => ?_
  have c1 : ¬ (5000 : Int) < (bs.length : Int) := by omega
  have c2 : (5000 : Int) < (s.size : Int) := by omega
  refine AW.seq_k fun K hK => ?_
  refine AW.region (by decide) ?_
  simp only [push_cast, simprocAttr, c1, c2]
  refine Thn_n ?_
  refine hK _ _ ?_
  clear hK K
  refine AW.seq_k fun K hK => ?_
  refine AW.seq_k fun K hK => ?_
  refine AW.region (by decide) ?_
  simp only [push_cast, simprocAttr, c1, c2]
  refine Thn_n ?_
  refine hK _ _ ?_
  clear hK K
  refine AW.cond_t rfl ?_
  refine AW.seq_k fun K hK => ?_
  refine AW.region (by decide) ?_
  simp only [push_cast, simprocAttr, c1, c2]
  refine CThen.by (awake_c _) ?_
  simp only [push_cast, simprocAttr, c1, c2]
  refine Thn_n ?_
  refine hK _ _ ?_
  clear hK K
  refine AW.ret ?_
  refine Thn_r ?_
  refine hQ _ _ _ ?_
  first | refine RetP.drop0 (Or.inr rfl) ?_ ?_ hwf | refine RetP.drop (Or.inr rfl) ?_ ?_ hwf
  · simp only [resA, resOne, resTv, AV.tv, push_cast, simprocAttr, c1, c2]
  · rfl
theorem dig_odd (r : Nat) (bs : List Int) (s : ByteArray) (m : AMem) (hb : m[r]? = some ⟨.ro, 5, 0, 1, u8l bs⟩) (hu : U8ok bs) (hp : bs.length ≤ 5000) (hs : s.size ≤ 5000) (h : s.size % 2 = 1) : Ctr Try.prog 6 [.one (.sl r 0 0 bs.length), .one (.str s)] m (.one (.bool true)) m := by
  refine Ctr.enter Try.func6 rfl (by decide) (rs := [.tmp 4]) (nt := 79) rfl rfl fun hwf Q hQ => ?_
  have c1 : ¬ (5000 : Int) < (bs.length : Int) := by omega
  have c2 : ¬ (5000 : Int) < (s.size : Int) := by omega
  have lr := get_lt hb
  have hbl : ∀ l : List UInt8, (l == l) = true := fun l => beq_self_eq_true l
  have hup : unP (hexS bs) bs.length = bs := by rw [unP_hexS hu bs.length (Nat.le_refl _), List.take_length]
  have hb1 := bytesA_u8 bs
  have ht1 : (u8l bs).take bs.length = u8l bs := List.take_of_length_le (by rw [u8l_len]; exact Nat.le_refl _)
  have hsz := hexS_size bs
  have hgg := hexS_gd hu
  
  refine AW.seq_k fun K hK => ?_
  refine AW.region (by decide) ?_
  simp only [push_cast, simprocAttr, c1, c2, hb, lk_old hb, hbl, hup, hb1, ht1, u8l_len, Nat.le_refl, Int.le_refl]
  refine Thn_n ?_
  refine hK _ _ ?_
  clear hK K
  refine AW.seq_k fun K hK => ?_
  refine AW.seq_k fun K hK => ?_
  refine AW.region (by decide) ?_
  simp only [push_cast, simprocAttr, c1, c2, hb, lk_old hb, hbl, hup, hb1, ht1, u8l_len, Nat.le_refl, Int.le_refl]
  refine Thn_n ?_
  refine hK _ _ ?_
  clear hK K
  refine AW.cond_f rfl ?_
  refine AW.skip ?_
  refine Thn_n ?_
  refine hK _ _ ?_
  clear hK K
  refine AW.seq_k fun K hK => ?_
  refine AW.region (by decide) ?_
  simp only [push_cast, simprocAttr, c1, c2, hb, lk_old hb, hbl, hup, hb1, ht1, u8l_len, Nat.le_refl, Int.le_refl]
  refine CThen.by (unhex_odd s _ h (by omega)) ?_
  simp only [push_cast, simprocAttr, c1, c2, hb, lk_old hb, hbl, hup, hb1, ht1, u8l_len, Nat.le_refl, Int.le_refl]
  refine Thn_n ?_
  refine hK _ _ ?_
  clear hK K
  refine AW.seq_k fun K hK => ?_
  refine AW.region (by decide) ?_
  simp only [push_cast, simprocAttr, c1, c2, hb, lk_old hb, hbl, hup, hb1, ht1, u8l_len, Nat.le_refl, Int.le_refl]
  refine CThen.by (runhex_odd s _ h (by omega)) ?_
  simp only [push_cast, simprocAttr, c1, c2, hb, lk_old hb, hbl, hup, hb1, ht1, u8l_len, Nat.le_refl, Int.le_refl]
  refine Thn_n ?_
  refine hK _ _ ?_
  clear hK K
  refine AW.seq_k fun K hK => ?_
  refine AW.region (by decide) ?_
  simp only [push_cast, simprocAttr, c1, c2, hb, lk_old hb, hbl, hup, hb1, ht1, u8l_len, Nat.le_refl, Int.le_refl]
  refine CThen.by (hexA_c r 0 0 bs bs _ ⟨.ro, 5, 1, hb⟩ (by omega) (by rw [List.drop_zero, List.take_length]) hu (by omega)) ?_
  simp only [push_cast, simprocAttr, c1, c2, hb, lk_old hb, hbl, hup, hb1, ht1, u8l_len, Nat.le_refl, Int.le_refl]
  refine CThen.by (unhex_good (hexS bs) _ bs.length hsz (by omega) hgg) ?_
  simp only [push_cast, simprocAttr, c1, c2, hb, lk_old hb, hbl, hup, hb1, ht1, u8l_len, Nat.le_refl, Int.le_refl]
  refine Thn_n ?_
  refine hK _ _ ?_
  clear hK K
  refine AW.seq_k fun K hK => ?_
  refine AW.seq_k fun K hK => ?_
  refine AW.region (by decide) ?_
  simp only [push_cast, simprocAttr, c1, c2, hb, lk_old hb, hbl, hup, hb1, ht1, u8l_len, Nat.le_refl, Int.le_refl]
  refine Thn_n ?_
  refine hK _ _ ?_
  clear hK K
  refine AW.cond_f rfl ?_
  refine AW.skip ?_
  refine Thn_n ?_
  refine hK _ _ ?_
  clear hK K
  refine AW.seq_k fun K hK => ?_
  refine AW.region (by decide) ?_
  simp only [push_cast, simprocAttr, c1, c2, hb, lk_old hb, hbl, hup, hb1, ht1, u8l_len, Nat.le_refl, Int.le_refl]
  refine CThen.by (awake_c _) ?_
  simp only [push_cast, simprocAttr, c1, c2, hb, lk_old hb, hbl, hup, hb1, ht1, u8l_len, Nat.le_refl, Int.le_refl]
  refine CThen.by (hexA_c r 0 0 bs bs _ ⟨.ro, 5, 1, lk_old hb _⟩ (by omega) (by rw [List.drop_zero, List.take_length]) hu (by omega)) ?_
  simp only [push_cast, simprocAttr, c1, c2, hb, lk_old hb, hbl, hup, hb1, ht1, u8l_len, Nat.le_refl, Int.le_refl]
  refine CThen.by (rhex_c r 0 0 bs bs _ ⟨.ro, 5, 1, lk_old hb _⟩ (by omega) (by rw [List.drop_zero, List.take_length]) hu (by omega)) ?_
  simp only [push_cast, simprocAttr, c1, c2, hb, lk_old hb, hbl, hup, hb1, ht1, u8l_len, Nat.le_refl, Int.le_refl]
  refine Thn_n ?_
  refine hK _ _ ?_
  clear hK K
  refine AW.ret ?_
  refine hQ _ _ _ ?_
  first | refine RetP.drop0 (Or.inr rfl) ?_ ?_ hwf | refine RetP.drop (Or.inr rfl) ?_ ?_ hwf
  · simp only [resA, resOne, resTv, AV.tv, push_cast, simprocAttr, c1, c2, hb, lk_old hb, hbl, hup, hb1, ht1, u8l_len, Nat.le_refl, Int.le_refl]
  · rfl
theorem dig_bad (r : Nat) (bs : List Int) (s : ByteArray) (m : AMem) (hb : m[r]? = some ⟨.ro, 5, 0, 1, u8l bs⟩) (hu : U8ok bs) (hp : bs.length ≤ 5000) (hs : s.size ≤ 5000) (N j0 k0 : Nat) (h : s.size = 2 * N) (hj0 : j0 < N) (hg : gd s (2 * j0)) (hbad : dvI (cI s (2 * j0)) < 0 ∨ dvI (cI s (2 * j0 + 1)) < 0) (hk0 : k0 < 2 * N) (hgk : gd s k0) (hbk : dvI (cI s k0) < 0) : Ctr Try.prog 6 [.one (.sl r 0 0 bs.length), .one (.str s)] m (.one (.bool true)) m := by
  refine Ctr.enter Try.func6 rfl (by decide) (rs := [.tmp 4]) (nt := 79) rfl rfl fun hwf Q hQ => ?_
  have c1 : ¬ (5000 : Int) < (bs.length : Int) := by omega
  have c2 : ¬ (5000 : Int) < (s.size : Int) := by omega
  have lr := get_lt hb
  have hbl : ∀ l : List UInt8, (l == l) = true := fun l => beq_self_eq_true l
  have hup : unP (hexS bs) bs.length = bs := by rw [unP_hexS hu bs.length (Nat.le_refl _), List.take_length]
  have hb1 := bytesA_u8 bs
  have ht1 : (u8l bs).take bs.length = u8l bs := List.take_of_length_le (by rw [u8l_len]; exact Nat.le_refl _)
  have hsz := hexS_size bs
  have hgg := hexS_gd hu
  
  refine AW.seq_k fun K hK => ?_
  refine AW.region (by decide) ?_
  simp only [push_cast, simprocAttr, c1, c2, hb, lk_old hb, hbl, hup, hb1, ht1, u8l_len, Nat.le_refl, Int.le_refl]
  refine Thn_n ?_
  refine hK _ _ ?_
  clear hK K
  refine AW.seq_k fun K hK => ?_
  refine AW.seq_k fun K hK => ?_
  refine AW.region (by decide) ?_
  simp only [push_cast, simprocAttr, c1, c2, hb, lk_old hb, hbl, hup, hb1, ht1, u8l_len, Nat.le_refl, Int.le_refl]
  refine Thn_n ?_
  refine hK _ _ ?_
  clear hK K
  refine AW.cond_f rfl ?_
  refine AW.skip ?_
  refine Thn_n ?_
  refine hK _ _ ?_
  clear hK K
  refine AW.seq_k fun K hK => ?_
  refine AW.region (by decide) ?_
  simp only [push_cast, simprocAttr, c1, c2, hb, lk_old hb, hbl, hup, hb1, ht1, u8l_len, Nat.le_refl, Int.le_refl]
  refine CThen.by (unhex_bad s _ N j0 h (by omega) hj0 hg hbad) ?_
  simp only [push_cast, simprocAttr, c1, c2, hb, lk_old hb, hbl, hup, hb1, ht1, u8l_len, Nat.le_refl, Int.le_refl]
  refine Thn_n ?_
  refine hK _ _ ?_
  clear hK K
  refine AW.seq_k fun K hK => ?_
  refine AW.region (by decide) ?_
  simp only [push_cast, simprocAttr, c1, c2, hb, lk_old hb, hbl, hup, hb1, ht1, u8l_len, Nat.le_refl, Int.le_refl]
  refine CThen.by (runhex_bad s N _ h (by omega) k0 hk0 hgk hbk) ?_
  simp only [push_cast, simprocAttr, c1, c2, hb, lk_old hb, hbl, hup, hb1, ht1, u8l_len, Nat.le_refl, Int.le_refl]
  refine Thn_n ?_
  refine hK _ _ ?_
  clear hK K
  refine AW.seq_k fun K hK => ?_
  refine AW.region (by decide) ?_
  simp only [push_cast, simprocAttr, c1, c2, hb, lk_old hb, hbl, hup, hb1, ht1, u8l_len, Nat.le_refl, Int.le_refl]
  refine CThen.by (hexA_c r 0 0 bs bs _ ⟨.ro, 5, 1, hb⟩ (by omega) (by rw [List.drop_zero, List.take_length]) hu (by omega)) ?_
  simp only [push_cast, simprocAttr, c1, c2, hb, lk_old hb, hbl, hup, hb1, ht1, u8l_len, Nat.le_refl, Int.le_refl]
  refine CThen.by (unhex_good (hexS bs) _ bs.length hsz (by omega) hgg) ?_
  simp only [push_cast, simprocAttr, c1, c2, hb, lk_old hb, hbl, hup, hb1, ht1, u8l_len, Nat.le_refl, Int.le_refl]
  refine Thn_n ?_
  refine hK _ _ ?_
  clear hK K
  refine AW.seq_k fun K hK => ?_
  refine AW.seq_k fun K hK => ?_
  refine AW.region (by decide) ?_
  simp only [push_cast, simprocAttr, c1, c2, hb, lk_old hb, hbl, hup, hb1, ht1, u8l_len, Nat.le_refl, Int.le_refl]
  refine Thn_n ?_
  refine hK _ _ ?_
  clear hK K
  refine AW.cond_f rfl ?_
  refine AW.skip ?_
  refine Thn_n ?_
  refine hK _ _ ?_
  clear hK K
  refine AW.seq_k fun K hK => ?_
  refine AW.region (by decide) ?_
  simp only [push_cast, simprocAttr, c1, c2, hb, lk_old hb, hbl, hup, hb1, ht1, u8l_len, Nat.le_refl, Int.le_refl]
  refine CThen.by (awake_c _) ?_
  simp only [push_cast, simprocAttr, c1, c2, hb, lk_old hb, hbl, hup, hb1, ht1, u8l_len, Nat.le_refl, Int.le_refl]
  refine CThen.by (hexA_c r 0 0 bs bs _ ⟨.ro, 5, 1, lk_old hb _⟩ (by omega) (by rw [List.drop_zero, List.take_length]) hu (by omega)) ?_
  simp only [push_cast, simprocAttr, c1, c2, hb, lk_old hb, hbl, hup, hb1, ht1, u8l_len, Nat.le_refl, Int.le_refl]
  refine CThen.by (rhex_c r 0 0 bs bs _ ⟨.ro, 5, 1, lk_old hb _⟩ (by omega) (by rw [List.drop_zero, List.take_length]) hu (by omega)) ?_
  simp only [push_cast, simprocAttr, c1, c2, hb, lk_old hb, hbl, hup, hb1, ht1, u8l_len, Nat.le_refl, Int.le_refl]
  refine Thn_n ?_
  refine hK _ _ ?_
  clear hK K
  refine AW.ret ?_
  refine hQ _ _ _ ?_
  first | refine RetP.drop0 (Or.inr rfl) ?_ ?_ hwf | refine RetP.drop (Or.inr rfl) ?_ ?_ hwf
  · simp only [resA, resOne, resTv, AV.tv, push_cast, simprocAttr, c1, c2, hb, lk_old hb, hbl, hup, hb1, ht1, u8l_len, Nat.le_refl, Int.le_refl]
  · rfl
theorem dig_good (r : Nat) (bs : List Int) (s : ByteArray) (m : AMem) (hb : m[r]? = some ⟨.ro, 5, 0, 1, u8l bs⟩) (hu : U8ok bs) (hp : bs.length ≤ 5000) (hs : s.size ≤ 5000) (N : Nat) (h : s.size = 2 * N) (hg : gd s (2 * N)) : Ctr Try.prog 6 [.one (.sl r 0 0 bs.length), .one (.str s)] m (.one (.bool true)) m := by
  refine Ctr.enter Try.func6 rfl (by decide) (rs := [.tmp 4]) (nt := 79) rfl rfl fun hwf Q hQ => ?_
  have c1 : ¬ (5000 : Int) < (bs.length : Int) := by omega
  have c2 : ¬ (5000 : Int) < (s.size : Int) := by omega
  have lr := get_lt hb
  have hbl : ∀ l : List UInt8, (l == l) = true := fun l => beq_self_eq_true l
  have hup : unP (hexS bs) bs.length = bs := by rw [unP_hexS hu bs.length (Nat.le_refl _), List.take_length]
  have hb1 := bytesA_u8 bs
  have ht1 : (u8l bs).take bs.length = u8l bs := List.take_of_length_le (by rw [u8l_len]; exact Nat.le_refl _)
  have hsz := hexS_size bs
  have hgg := hexS_gd hu
  have hb2 := bytesA_u8 (unP s N)
  have hul := unP_len s N
  have ht2 : (u8l (unP s N)).take N = u8l (unP s N) := List.take_of_length_le (by rw [u8l_len, hul]; exact Nat.le_refl _)
  
  refine AW.seq_k fun K hK => ?_
  refine AW.region (by decide) ?_
  simp only [push_cast, simprocAttr, c1, c2, hb, lk_old hb, hbl, hup, hb1, ht1, u8l_len, Nat.le_refl, Int.le_refl, hb2, hul, ht2]
  refine Thn_n ?_
  refine hK _ _ ?_
  clear hK K
  refine AW.seq_k fun K hK => ?_
  refine AW.seq_k fun K hK => ?_
  refine AW.region (by decide) ?_
  simp only [push_cast, simprocAttr, c1, c2, hb, lk_old hb, hbl, hup, hb1, ht1, u8l_len, Nat.le_refl, Int.le_refl, hb2, hul, ht2]
  refine Thn_n ?_
  refine hK _ _ ?_
  clear hK K
  refine AW.cond_f rfl ?_
  refine AW.skip ?_
  refine Thn_n ?_
  refine hK _ _ ?_
  clear hK K
  refine AW.seq_k fun K hK => ?_
  refine AW.region (by decide) ?_
  simp only [push_cast, simprocAttr, c1, c2, hb, lk_old hb, hbl, hup, hb1, ht1, u8l_len, Nat.le_refl, Int.le_refl, hb2, hul, ht2]
  refine CThen.by (unhex_good s _ N h (by omega) hg) ?_
  simp only [push_cast, simprocAttr, c1, c2, hb, lk_old hb, hbl, hup, hb1, ht1, u8l_len, Nat.le_refl, Int.le_refl, hb2, hul, ht2]
  refine Thn_n ?_
  refine hK _ _ ?_
  clear hK K
  refine AW.seq_k fun K hK => ?_
  refine AW.region (by decide) ?_
  simp only [push_cast, simprocAttr, c1, c2, hb, lk_old hb, hbl, hup, hb1, ht1, u8l_len, Nat.le_refl, Int.le_refl, hb2, hul, ht2]
  refine CThen.by (runhex_good s N _ h (by omega) hg) ?_
  simp only [push_cast, simprocAttr, c1, c2, hb, lk_old hb, hbl, hup, hb1, ht1, u8l_len, Nat.le_refl, Int.le_refl, hb2, hul, ht2]
  refine Thn_n ?_
  refine hK _ _ ?_
  clear hK K
  refine AW.seq_k fun K hK => ?_
  refine AW.region (by decide) ?_
  simp only [push_cast, simprocAttr, c1, c2, hb, lk_old hb, hbl, hup, hb1, ht1, u8l_len, Nat.le_refl, Int.le_refl, hb2, hul, ht2]
  refine CThen.by (hexA_c r 0 0 bs bs _ ⟨.ro, 5, 1, lk_old hb _⟩ (by omega) (by rw [List.drop_zero, List.take_length]) hu (by omega)) ?_
  simp only [push_cast, simprocAttr, c1, c2, hb, lk_old hb, hbl, hup, hb1, ht1, u8l_len, Nat.le_refl, Int.le_refl, hb2, hul, ht2]
  refine CThen.by (unhex_good (hexS bs) _ bs.length hsz (by omega) hgg) ?_
  simp only [push_cast, simprocAttr, c1, c2, hb, lk_old hb, hbl, hup, hb1, ht1, u8l_len, Nat.le_refl, Int.le_refl, hb2, hul, ht2]
  refine Thn_n ?_
  refine hK _ _ ?_
  clear hK K
  refine AW.seq_k fun K hK => ?_
  refine AW.seq_k fun K hK => ?_
  refine AW.region (by decide) ?_
  simp only [push_cast, simprocAttr, c1, c2, hb, lk_old hb, hbl, hup, hb1, ht1, u8l_len, Nat.le_refl, Int.le_refl, hb2, hul, ht2]
  refine Thn_n ?_
  refine hK _ _ ?_
  clear hK K
  refine AW.cond_f rfl ?_
  refine AW.skip ?_
  refine Thn_n ?_
  refine hK _ _ ?_
  clear hK K
  refine AW.seq_k fun K hK => ?_
  refine AW.region (by decide) ?_
  simp only [push_cast, simprocAttr, c1, c2, hb, lk_old hb, hbl, hup, hb1, ht1, u8l_len, Nat.le_refl, Int.le_refl, hb2, hul, ht2]
  refine CThen.by (awake_c _) ?_
  simp only [push_cast, simprocAttr, c1, c2, hb, lk_old hb, hbl, hup, hb1, ht1, u8l_len, Nat.le_refl, Int.le_refl, hb2, hul, ht2]
  refine CThen.by (hexA_c r 0 0 bs bs _ ⟨.ro, 5, 1, lk_old hb _⟩ (by omega) (by rw [List.drop_zero, List.take_length]) hu (by omega)) ?_
  simp only [push_cast, simprocAttr, c1, c2, hb, lk_old hb, hbl, hup, hb1, ht1, u8l_len, Nat.le_refl, Int.le_refl, hb2, hul, ht2]
  refine CThen.by (rhex_c r 0 0 bs bs _ ⟨.ro, 5, 1, lk_old hb _⟩ (by omega) (by rw [List.drop_zero, List.take_length]) hu (by omega)) ?_
  simp only [push_cast, simprocAttr, c1, c2, hb, lk_old hb, hbl, hup, hb1, ht1, u8l_len, Nat.le_refl, Int.le_refl, hb2, hul, ht2]
  refine Thn_n ?_
  refine hK _ _ ?_
  clear hK K
  refine AW.ret ?_
  refine hQ _ _ _ ?_
  first | refine RetP.drop0 (Or.inr rfl) ?_ ?_ hwf | refine RetP.drop (Or.inr rfl) ?_ ?_ hwf
  · simp only [resA, resOne, resTv, AV.tv, push_cast, simprocAttr, c1, c2, hb, lk_old hb, hbl, hup, hb1, ht1, u8l_len, Nat.le_refl, Int.le_refl, hb2, hul, ht2]
  · rfl
namespace sealDigitsLaw
theorem law (B : Nat) (m : AMem) (avs : List AV) (h : All2 (fun t a => goodA Try.prog B m t a) Try.f6.params.toList avs) : Ctr Try.prog 6 avs m (.one (.bool true)) m := by
  rw [Try.params6] at h
  obtain ⟨a0, l0, rfl, g0, h⟩ := all2_cons h
  obtain ⟨a1, l1, rfl, g1, h⟩ := all2_cons h
  obtain rfl := all2_nil h
  obtain ⟨c, rfl, hg⟩ := g0.one (fun fs h => by rw [Try.underlying22] at h; cases h) (fun k e h => by rw [Try.underlying22] at h; cases h)
  obtain ⟨c2, rfl, hg2⟩ := g1.one (fun fs h => by rw [Try.underlying9] at h; cases h) (fun k e h => by rw [Try.underlying9] at h; cases h)
  obtain ⟨r, bs, e, hp, hu, _⟩ := bytes_in hg
  obtain ⟨s, e2, _⟩ := hg2.str Try.underlying9
  simp only [List.cons.injEq, and_true] at e e2
  subst e; subst e2
  rcases Nat.lt_or_ge 5000 bs.length with h | h
  · exact dig_great r bs s m h
  rcases Nat.lt_or_ge 5000 s.size with h2 | h2
  · exact dig_long r bs s m (by omega) h2
  rcases Nat.mod_two_eq_zero_or_one s.size with h3 | h3
  · have h4 : s.size = 2 * (s.size / 2) := by omega
    rcases gd_or s (2 * (s.size / 2)) with h5 | ⟨k, h5, h6, h7⟩
    · exact dig_good r bs s m hp hu h h2 _ h4 h5
    · refine dig_bad r bs s m hp hu h h2 _ (k / 2) k h4 (by omega) (fun i hi => h6 i (by omega)) ?_ h5 h6 h7
      rcases Nat.mod_two_eq_zero_or_one k with h8 | h8
      · left; rw [show 2 * (k / 2) = k by omega]; exact h7
      · right; rw [show 2 * (k / 2) + 1 = k by omega]; exact h7
  · exact dig_odd r bs s m hp hu h h2 h3
theorem contract (H : Type) (enc : TypeId × Value → H) (W : World) (base : Nat) (args : Array Value) (ds gs : List (DataW H)) (before : List MemPlace)
    (hval : ∀ (j : Nat) t v, Try.f6.params[j]? = some t → args[j]? = some v → Value.okWide Try.prog W .any base t v)
    (hW : DataW.Whole enc Try.prog Try.f6.params.toList Rows.sealDigitsSpec.vars false W args.toList ds gs before) :
    Calls Try.prog 6 args W fun e W' => ∃ v, e = .returned v ∧ Rows.sealDigitsSpec.post enc Try.prog Try.f6 false true false false W args v W' := by
  refine law_true (B := Rows.uptoBulkAll ds) (bulk := Rows.uptoBulk) rfl ?_ laidOut laid (by kernel_rfl) (tb := 4) rfl Try.underlying4 isBulk (fun d hd => bulk_mem hd) hval hW fun m avs _ h => law _ m avs h
  obtain ⟨p, q, hA, _⟩ := hW
  rw [Try.params6] at hA
  rintro l rfl
  obtain ⟨v0, vs0, d0, ds0, p0, q0, _, rfl, _, _, r0⟩ := ChangeShapes.trodAll_cons hA
  obtain ⟨v1, vs1, d1, ds1, p1, q1, _, rfl, _, _, r1⟩ := ChangeShapes.trodAll_cons r0
  obtain ⟨_, rfl, _⟩ := ChangeShapes.trodAll_nil r1
  rfl
theorem lifted (os : Os) (started : os.Started) (H : Type) (enc : TypeId × Value → H) :
    ReturnsInHanded {} Try.checked os 6 .any (Rows.sealDigitsSpec.pre6 enc Try.prog Try.f6 Rows.sealDigitsRow.domain false) (Rows.sealDigitsSpec.post enc Try.prog Try.f6 false true false false) := by
  refine returnsInHanded_of_change (C := Try.checked) own started (by kernel_rfl) Try.func6
    (ChangeSpec.witness6 (enc := enc) (C := Try.checked) false ⟨#[], #[.slice none 0 0, .string ByteArray.empty], []⟩ 8 (by kernel_rfl) (by kernel_rfl) (by kernel_rfl) (by kernel_rfl)) ?_
  intro W base args ds gs before hval hW _ _
  exact contract H enc W base args ds gs before hval hW
theorem proved : Rows.SealDigitsSaid :=
  OpenClaim.holds_of_wide 6 Try.f6 rfl rfl rfl rfl rfl rfl rfl ⟨rfl, rfl, rfl, rfl, rfl⟩ rfl rfl rfl rfl rfl (by kernel_rfl) Try.func6 (by kernel_rfl)
    (of_decide_eq_true (by kernel_rfl)) (by unfold Func.isWrapper; first | (rw [if_pos (by decide +kernel)]; kernel_rfl) | (rw [if_neg (by decide +kernel)]; exact ⟨rfl, rfl⟩))
    (fun os started H enc _ => lifted os started H enc)
end sealDigitsLaw
end Go.Proofs.Ytelkmimmmhkbhaa
