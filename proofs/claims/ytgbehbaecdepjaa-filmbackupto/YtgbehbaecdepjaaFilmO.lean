/- Walks and facts of this seat's program over abstract states, printed by a program of mine; no conditions but those that each theorem names. -/
import Derived.Test.YtgbehbaecdepjaaFilmN
set_option linter.unusedSimpArgs false
set_option linter.unusedVariables false
set_option maxRecDepth 100000
set_option maxHeartbeats 4000000
namespace Go.Proofs.Ytgbehbaecdepjaa
open Go Go.Eng

theorem takeA_c (r rb v : Nat) (bs : List Int) (s : Nat × Int) (m : AMem) (h : RP m r rb v bs s) (i0 : Nat) (hi0 : i0 < npS bs s) (hall : ∀ k, k < i0 → (hsS bs s k).2 = 0) (herr : ¬ (hsS bs s i0).2 = 0) : Ctr Try.prog 42 [.one (.ptr r 0 0)] m (.agg [.int .i64 0, .int .i64 0, .nils]) (pM m r rb v bs (hsS bs s (npS bs s))) := by
  rcases Classical.em ((rdS bs.length 2 (rdS bs.length 2 s)).2 = 0) with h2 | h2
  · cases hz : szS bs s
    · exact take2A r rb v bs s m h h2 hz i0 hi0 hall herr
    · exact take1A r rb v bs s m h h2 hz i0 hi0 hall herr
  · exact take3A r rb v bs s m h h2 i0 hi0 hall herr
theorem takeB_c (r rb v : Nat) (bs : List Int) (s : Nat × Int) (m : AMem) (h : RP m r rb v bs s) (hall : ∀ k, k < npS bs s → (hsS bs s k).2 = 0) : Ctr Try.prog 42 [.one (.ptr r 0 0)] m (.agg [.int .i64 (rdV bs 2 s), .int .i64 (rdV bs 2 (rdS bs.length 2 s)), .sl (m.length + 2) (npS bs s) 0 (npS bs s)]) (pM m r rb v bs (hsS bs s (npS bs s)) ++ [⟨.fix, 35, 0, 0, [.int .i64 (rdV bs 2 s), .int .i64 (rdV bs 2 (rdS bs.length 2 s)), .sl (m.length + 2) (npS bs s) 0 (npS bs s)]⟩, ⟨.fix, 35, 0, 0, [.int .i64 (rdV bs 2 s), .int .i64 (rdV bs 2 (rdS bs.length 2 s)), .sl (m.length + 2) (npS bs s) 0 (npS bs s)]⟩, ⟨.grow, 68, npS bs s, 3, dl (npS bs s) (GH bs s)⟩]) := by
  rcases Classical.em ((rdS bs.length 2 (rdS bs.length 2 s)).2 = 0) with h2 | h2
  · cases hz : szS bs s
    · exact take2B r rb v bs s m h h2 hz hall
    · exact take1B r rb v bs s m h h2 hz hall
  · exact take3B r rb v bs s m h h2 hall
theorem rtakeE_c (r rb v : Nat) (bs : List Int) (s : Nat × Int) (m : AMem) (h : RQ m r rb v bs s) (j : Nat) (hj : j = npS bs s) (hall : ∀ k, k < j → (hsS bs s k).2 = 0) : Ctr Try.prog 44 [.one (.ptr r 0 0)] m (.agg [.int .i64 (rdV bs 2 s), .int .i64 (rdV bs 2 (rdS bs.length 2 s)), .sl (m.length + 2) j 0 j]) (qM m r rb v bs (hsS bs s j) ++ [⟨.fix, 24, 0, 0, [.int .i64 (rdV bs 2 s), .int .i64 (rdV bs 2 (rdS bs.length 2 s)), .sl (m.length + 2) j 0 j]⟩, ⟨.fix, 24, 0, 0, [.int .i64 (rdV bs 2 s), .int .i64 (rdV bs 2 (rdS bs.length 2 s)), .sl (m.length + 2) j 0 j]⟩, ⟨.grow, 75, j, 3, dl j (GH bs s)⟩]) := by
  rcases Classical.em ((rdS bs.length 2 (rdS bs.length 2 s)).2 = 0) with h2 | h2
  · cases hz : szS bs s
    · exact rtake2E r rb v bs s m h h2 hz j hj hall
    · exact rtake1E r rb v bs s m h h2 hz j hj hall
  · exact rtake3E r rb v bs s m h h2 j hj hall
theorem rtakeF_c (r rb v : Nat) (bs : List Int) (s : Nat × Int) (m : AMem) (h : RQ m r rb v bs s) (j : Nat) (hj : j < npS bs s) (hall : ∀ k, k < j → (hsS bs s k).2 = 0) (herr : ¬ (hsS bs s j).2 = 0) : Ctr Try.prog 44 [.one (.ptr r 0 0)] m (.agg [.int .i64 (rdV bs 2 s), .int .i64 (rdV bs 2 (rdS bs.length 2 s)), .sl (m.length + 2) j 0 j]) (qM m r rb v bs (hsS bs s j) ++ [⟨.fix, 24, 0, 0, [.int .i64 (rdV bs 2 s), .int .i64 (rdV bs 2 (rdS bs.length 2 s)), .sl (m.length + 2) j 0 j]⟩, ⟨.fix, 24, 0, 0, [.int .i64 (rdV bs 2 s), .int .i64 (rdV bs 2 (rdS bs.length 2 s)), .sl (m.length + 2) j 0 j]⟩, ⟨.grow, 75, j, 3, dl j (GH bs s)⟩]) := by
  rcases Classical.em ((rdS bs.length 2 (rdS bs.length 2 s)).2 = 0) with h2 | h2
  · cases hz : szS bs s
    · exact rtake2F r rb v bs s m h h2 hz j hj hall herr
    · exact rtake1F r rb v bs s m h h2 hz j hj hall herr
  · exact rtake3F r rb v bs s m h h2 j hj hall herr
theorem decS_A (r0 : Nat) (bs : List Int) (m : AMem) (hp : ∃ k ez, m[r0]? = some ⟨k, 5, 0, ez, u8l bs⟩) (hn : bs.length ≤ 1073741824) (hu : ∀ i, 0 ≤ byB bs i ∧ byB bs i ≤ 255) (i0 : Nat) (hi0 : i0 < (npS bs (0, 0))) (hall : ∀ k, k < i0 → (hsS bs (0, 0) k).2 = 0) (herr : ¬ (hsS bs (0, 0) i0).2 = 0) (hne : ((endS bs.length (hsS bs (0, 0) (npS bs (0, 0)))).2 != 0) = true) : Ctr Try.prog 20 [.one (.sl r0 0 0 bs.length)] m (.tup [(true, [.int .i64 0, .int .i64 0, .nils]), (false, [.int .i64 (endS bs.length (hsS bs (0, 0) (npS bs (0, 0)))).2])]) m := by
  refine Ctr.enter Try.func20 rfl (by decide) (rs := [.cell 2 35, .tmp 3]) (nt := 18) rfl rfl fun hwf Q hQ => ?_
  have hlt0 : ∀ k, ¬ m.length + k < m.length := fun k => by omega
  obtain ⟨k0, ez0, hb0⟩ := id hp
  have l0 := get_lt hb0
  have hle : (hsS bs (0, 0) (npS bs (0, 0))).1 ≤ bs.length := hsS_le (Nat.zero_le _) _
  have hM : ∀ (a b c : Blk) L (t : Nat × Int), pM (m ++ a :: b :: c :: L) (m.length + 2) (m.length + 1) 1 bs t = m ++ a :: b :: ⟨.fix, 110, 0, 0, [cP (m.length + 1) 1 bs.length t, .int .i64 t.2]⟩ :: L := fun a b c L t => by unfold pM; rw [set_app]; rfl
  have c00 : cP (m.length + 1) 1 bs.length (0, 0) = .sl (m.length + 1) 1 0 bs.length := rfl
  have hR0 : ∀ (a : Blk), RP (m ++ [a, ⟨.grow, 5, 1, 1, u8l bs⟩, ⟨.fix, 110, 0, 0, [.sl (m.length + 1) 1 0 bs.length, .int .i64 0]⟩]) (m.length + 2) (m.length + 1) 1 bs (0, 0) := fun a => ⟨by rw [lk_app]; rfl, ⟨.grow, 1, by rw [lk_app]; rfl⟩, by omega, Nat.zero_le _, hu, hn⟩
  have hRt : ∀ (a : Blk) L (t : Nat × Int), t.1 ≤ bs.length → RP (m ++ a :: ⟨.grow, 5, 1, 1, u8l bs⟩ :: ⟨.fix, 110, 0, 0, [cP (m.length + 1) 1 bs.length t, .int .i64 t.2]⟩ :: L) (m.length + 2) (m.length + 1) 1 bs t := fun a L t ht => ⟨by rw [lk_app]; rfl, ⟨.grow, 1, by rw [lk_app]; rfl⟩, by omega, ht, hu, hn⟩
  
  refine AW.seq_k fun K hK => ?_
  refine AW.region (by decide) ?_
  simp only [push_cast, simprocAttr, hM, c00, hne]
  refine Thn_n ?_
  refine hK _ _ ?_
  clear hK K
  refine AW.seq_k fun K hK => ?_
  refine AW.region (by decide) ?_
  simp only [push_cast, simprocAttr, hM, c00, hne]
  refine CThen.by (read_c r0 bs _ ⟨_, _, lk_old hb0 _⟩ hn) ?_
  simp only [push_cast, simprocAttr, hM, c00, hne]
  refine Thn_n ?_
  refine hK _ _ ?_
  clear hK K
  refine AW.seq_k fun K hK => ?_
  refine AW.region (by decide) ?_
  simp only [push_cast, simprocAttr, hM, c00, hne]
  refine CThen.by (takeA_c (m.length + 2) (m.length + 1) 1 bs (0, 0) _ (hR0 _) i0 hi0 hall herr) ?_
  simp only [push_cast, simprocAttr, hM, c00, hne]
  refine Thn_n ?_
  refine hK _ _ ?_
  clear hK K
  refine AW.seq_k fun K hK => ?_
  refine AW.seq_k fun K hK => ?_
  refine AW.region (by decide) ?_
  simp only [push_cast, simprocAttr, hM, c00, hne]
  refine CThen.by (end_c (m.length + 2) (m.length + 1) 1 bs _ _ (hRt _ _ _ hle)) ?_
  simp only [push_cast, simprocAttr, hM, c00, hne]
  refine Thn_n ?_
  refine hK _ _ ?_
  clear hK K
  refine AW.seq_k fun K hK => ?_
  refine AW.region (by decide) ?_
  simp only [push_cast, simprocAttr, hM, c00, hne]
  refine Thn_n ?_
  refine hK _ _ ?_
  clear hK K
  refine AW.cond_t rfl ?_
  refine AW.seq_k fun K hK => ?_
  refine AW.region (by decide) ?_
  simp only [push_cast, simprocAttr, hM, c00, hne]
  refine Thn_n ?_
  refine hK _ _ ?_
  clear hK K
  refine AW.ret ?_
  refine Thn_r ?_
  refine hQ _ _ _ ?_
  first | refine RetP.drop0 (Or.inr rfl) ?_ ?_ hwf | refine RetP.drop (Or.inr rfl) ?_ ?_ hwf
  · simp only [resA, resOne, resTv, AV.tv, push_cast, simprocAttr, hM, c00, hne]
  · rfl
theorem decS_B0 (r0 : Nat) (bs : List Int) (m : AMem) (hp : ∃ k ez, m[r0]? = some ⟨k, 5, 0, ez, u8l bs⟩) (hn : bs.length ≤ 1073741824) (hu : ∀ i, 0 ≤ byB bs i ∧ byB bs i ≤ 255) (hall : ∀ k, k < (npS bs (0, 0)) → (hsS bs (0, 0) k).2 = 0) (hne : ((endS bs.length (hsS bs (0, 0) (npS bs (0, 0)))).2 != 0) = true) : Ctr Try.prog 20 [.one (.sl r0 0 0 bs.length)] m (.tup [(true, [.int .i64 0, .int .i64 0, .nils]), (false, [.int .i64 (endS bs.length (hsS bs (0, 0) (npS bs (0, 0)))).2])]) m := by
  refine Ctr.enter Try.func20 rfl (by decide) (rs := [.cell 2 35, .tmp 3]) (nt := 18) rfl rfl fun hwf Q hQ => ?_
  have hlt0 : ∀ k, ¬ m.length + k < m.length := fun k => by omega
  obtain ⟨k0, ez0, hb0⟩ := id hp
  have l0 := get_lt hb0
  have hle : (hsS bs (0, 0) (npS bs (0, 0))).1 ≤ bs.length := hsS_le (Nat.zero_le _) _
  have hM : ∀ (a b c : Blk) L (t : Nat × Int), pM (m ++ a :: b :: c :: L) (m.length + 2) (m.length + 1) 1 bs t = m ++ a :: b :: ⟨.fix, 110, 0, 0, [cP (m.length + 1) 1 bs.length t, .int .i64 t.2]⟩ :: L := fun a b c L t => by unfold pM; rw [set_app]; rfl
  have c00 : cP (m.length + 1) 1 bs.length (0, 0) = .sl (m.length + 1) 1 0 bs.length := rfl
  have hR0 : ∀ (a : Blk), RP (m ++ [a, ⟨.grow, 5, 1, 1, u8l bs⟩, ⟨.fix, 110, 0, 0, [.sl (m.length + 1) 1 0 bs.length, .int .i64 0]⟩]) (m.length + 2) (m.length + 1) 1 bs (0, 0) := fun a => ⟨by rw [lk_app]; rfl, ⟨.grow, 1, by rw [lk_app]; rfl⟩, by omega, Nat.zero_le _, hu, hn⟩
  have hRt : ∀ (a : Blk) L (t : Nat × Int), t.1 ≤ bs.length → RP (m ++ a :: ⟨.grow, 5, 1, 1, u8l bs⟩ :: ⟨.fix, 110, 0, 0, [cP (m.length + 1) 1 bs.length t, .int .i64 t.2]⟩ :: L) (m.length + 2) (m.length + 1) 1 bs t := fun a L t ht => ⟨by rw [lk_app]; rfl, ⟨.grow, 1, by rw [lk_app]; rfl⟩, by omega, ht, hu, hn⟩
  
  refine AW.seq_k fun K hK => ?_
  refine AW.region (by decide) ?_
  simp only [push_cast, simprocAttr, hM, c00, hne]
  refine Thn_n ?_
  refine hK _ _ ?_
  clear hK K
  refine AW.seq_k fun K hK => ?_
  refine AW.region (by decide) ?_
  simp only [push_cast, simprocAttr, hM, c00, hne]
  refine CThen.by (read_c r0 bs _ ⟨_, _, lk_old hb0 _⟩ hn) ?_
  simp only [push_cast, simprocAttr, hM, c00, hne]
  refine Thn_n ?_
  refine hK _ _ ?_
  clear hK K
  refine AW.seq_k fun K hK => ?_
  refine AW.region (by decide) ?_
  simp only [push_cast, simprocAttr, hM, c00, hne]
  refine CThen.by (takeB_c (m.length + 2) (m.length + 1) 1 bs (0, 0) _ (hR0 _) hall) ?_
  simp only [push_cast, simprocAttr, hM, c00, hne]
  refine Thn_n ?_
  refine hK _ _ ?_
  clear hK K
  refine AW.seq_k fun K hK => ?_
  refine AW.seq_k fun K hK => ?_
  refine AW.region (by decide) ?_
  simp only [push_cast, simprocAttr, hM, c00, hne]
  refine CThen.by (end_c (m.length + 2) (m.length + 1) 1 bs _ _ (hRt _ _ _ hle)) ?_
  simp only [push_cast, simprocAttr, hM, c00, hne]
  refine Thn_n ?_
  refine hK _ _ ?_
  clear hK K
  refine AW.seq_k fun K hK => ?_
  refine AW.region (by decide) ?_
  simp only [push_cast, simprocAttr, hM, c00, hne]
  refine Thn_n ?_
  refine hK _ _ ?_
  clear hK K
  refine AW.cond_t rfl ?_
  refine AW.seq_k fun K hK => ?_
  refine AW.region (by decide) ?_
  simp only [push_cast, simprocAttr, hM, c00, hne]
  refine Thn_n ?_
  refine hK _ _ ?_
  clear hK K
  refine AW.ret ?_
  refine Thn_r ?_
  refine hQ _ _ _ ?_
  first | refine RetP.drop0 (Or.inr rfl) ?_ ?_ hwf | refine RetP.drop (Or.inr rfl) ?_ ?_ hwf
  · simp only [resA, resOne, resTv, AV.tv, push_cast, simprocAttr, hM, c00, hne]
  · rfl
theorem decS_B1 (r0 : Nat) (bs : List Int) (m : AMem) (hp : ∃ k ez, m[r0]? = some ⟨k, 5, 0, ez, u8l bs⟩) (hn : bs.length ≤ 1073741824) (hu : ∀ i, 0 ≤ byB bs i ∧ byB bs i ≤ 255) (hall : ∀ k, k < (npS bs (0, 0)) → (hsS bs (0, 0) k).2 = 0) (hne : (endS bs.length (hsS bs (0, 0) (npS bs (0, 0)))).2 = 0) : Ctr Try.prog 20 [.one (.sl r0 0 0 bs.length)] m (.tup [(true, [.int .i64 (rdV bs 2 (0, 0)), .int .i64 (rdV bs 2 (rdS bs.length 2 (0, 0))), .sl m.length 0 0 (npS bs (0, 0))]), (false, [.int .i64 0])]) (m ++ [⟨.grow, 68, 0, 3, dl (npS bs (0, 0)) (GH bs (0, 0))⟩]) := by
  refine Ctr.enter Try.func20 rfl (by decide) (rs := [.cell 2 35, .tmp 3]) (nt := 18) rfl rfl fun hwf Q hQ => ?_
  have hlt0 : ∀ k, ¬ m.length + k < m.length := fun k => by omega
  obtain ⟨k0, ez0, hb0⟩ := id hp
  have l0 := get_lt hb0
  have hle : (hsS bs (0, 0) (npS bs (0, 0))).1 ≤ bs.length := hsS_le (Nat.zero_le _) _
  have hM : ∀ (a b c : Blk) L (t : Nat × Int), pM (m ++ a :: b :: c :: L) (m.length + 2) (m.length + 1) 1 bs t = m ++ a :: b :: ⟨.fix, 110, 0, 0, [cP (m.length + 1) 1 bs.length t, .int .i64 t.2]⟩ :: L := fun a b c L t => by unfold pM; rw [set_app]; rfl
  have c00 : cP (m.length + 1) 1 bs.length (0, 0) = .sl (m.length + 1) 1 0 bs.length := rfl
  have hR0 : ∀ (a : Blk), RP (m ++ [a, ⟨.grow, 5, 1, 1, u8l bs⟩, ⟨.fix, 110, 0, 0, [.sl (m.length + 1) 1 0 bs.length, .int .i64 0]⟩]) (m.length + 2) (m.length + 1) 1 bs (0, 0) := fun a => ⟨by rw [lk_app]; rfl, ⟨.grow, 1, by rw [lk_app]; rfl⟩, by omega, Nat.zero_le _, hu, hn⟩
  have hRt : ∀ (a : Blk) L (t : Nat × Int), t.1 ≤ bs.length → RP (m ++ a :: ⟨.grow, 5, 1, 1, u8l bs⟩ :: ⟨.fix, 110, 0, 0, [cP (m.length + 1) 1 bs.length t, .int .i64 t.2]⟩ :: L) (m.length + 2) (m.length + 1) 1 bs t := fun a L t ht => ⟨by rw [lk_app]; rfl, ⟨.grow, 1, by rw [lk_app]; rfl⟩, by omega, ht, hu, hn⟩
  have hn2 : ((endS bs.length (hsS bs (0, 0) (npS bs (0, 0)))).2 != 0) = false := by rw [hne]; rfl
  refine AW.seq_k fun K hK => ?_
  refine AW.region (by decide) ?_
  simp only [push_cast, simprocAttr, hM, c00, hn2]
  refine Thn_n ?_
  refine hK _ _ ?_
  clear hK K
  refine AW.seq_k fun K hK => ?_
  refine AW.region (by decide) ?_
  simp only [push_cast, simprocAttr, hM, c00, hn2]
  refine CThen.by (read_c r0 bs _ ⟨_, _, lk_old hb0 _⟩ hn) ?_
  simp only [push_cast, simprocAttr, hM, c00, hn2]
  refine Thn_n ?_
  refine hK _ _ ?_
  clear hK K
  refine AW.seq_k fun K hK => ?_
  refine AW.region (by decide) ?_
  simp only [push_cast, simprocAttr, hM, c00, hn2]
  refine CThen.by (takeB_c (m.length + 2) (m.length + 1) 1 bs (0, 0) _ (hR0 _) hall) ?_
  simp only [push_cast, simprocAttr, hM, c00, hn2]
  refine Thn_n ?_
  refine hK _ _ ?_
  clear hK K
  refine AW.seq_k fun K hK => ?_
  refine AW.seq_k fun K hK => ?_
  refine AW.region (by decide) ?_
  simp only [push_cast, simprocAttr, hM, c00, hn2]
  refine CThen.by (end_c (m.length + 2) (m.length + 1) 1 bs _ _ (hRt _ _ _ hle)) ?_
  simp only [push_cast, simprocAttr, hM, c00, hn2]
  refine Thn_n ?_
  refine hK _ _ ?_
  clear hK K
  refine AW.seq_k fun K hK => ?_
  refine AW.region (by decide) ?_
  simp only [push_cast, simprocAttr, hM, c00, hn2]
  refine Thn_n ?_
  refine hK _ _ ?_
  clear hK K
  refine AW.cond_f rfl ?_
  refine AW.skip ?_
  refine Thn_n ?_
  refine hK _ _ ?_
  clear hK K
  refine AW.seq_k fun K hK => ?_
  refine AW.region (by decide) ?_
  simp only [push_cast, simprocAttr, hM, c00, hn2]
  refine Thn_n ?_
  refine hK _ _ ?_
  clear hK K
  refine AW.ret ?_
  refine hQ _ _ _ ?_
  refine RetP.pick [(m.length + 5, (npS bs (0, 0)))] (Or.inr rfl) ?_ ?_ ?_ hwf ?_
  · simp only [resA, resOne, resTv, AV.tv, push_cast, simprocAttr]
    simp [renV, renT, renL, renC, renIdx, hlt0]
  · simp only [picks, push_cast, simprocAttr]
  · simp [distinctFrom]
  · exact MWf_one (dl_below _ _ _)
  
theorem rdecS_A (r0 : Nat) (bs : List Int) (m : AMem) (hp : ∃ k ez, m[r0]? = some ⟨k, 5, 0, ez, u8l bs⟩) (hn : bs.length ≤ 1073741824) (hu : ∀ i, 0 ≤ byB bs i ∧ byB bs i ≤ 255) (i0 : Nat) (hi0 : i0 < (npS bs (0, 0))) (hall : ∀ k, k < i0 → (hsS bs (0, 0) k).2 = 0) (herr : ¬ (hsS bs (0, 0) i0).2 = 0) (hne : ((endS bs.length (hsS bs (0, 0) (npS bs (0, 0)))).2 != 0) = true) : Ctr Try.prog 21 [.one (.sl r0 0 0 bs.length)] m (.tup [(true, [.int .i64 0, .int .i64 0, .nils]), (false, [.int .i64 (endS bs.length (hsS bs (0, 0) (npS bs (0, 0)))).2])]) m := by
  refine Ctr.enter Try.func21 rfl (by decide) (rs := [.cell 2 24, .tmp 3]) (nt := 19) rfl rfl fun hwf Q hQ => ?_
  have hlt0 : ∀ k, ¬ m.length + k < m.length := fun k => by omega
  obtain ⟨k0, ez0, hb0⟩ := id hp
  have l0 := get_lt hb0
  have hle : ∀ i, (hsS bs (0, 0) i).1 ≤ bs.length := fun i => hsS_le (Nat.zero_le _) _
  have hM : ∀ (a b : Blk) L (t : Nat × Int), qM (m ++ a :: b :: L) (m.length + 1) r0 0 bs t = m ++ a :: ⟨.fix, 94, 0, 0, [.sl r0 0 0 bs.length, .int .i64 (t.1 : Int), .int .i64 t.2]⟩ :: L := fun a b L t => by unfold qM; rw [set_app]; rfl
  have hR0 : ∀ (a : Blk), RQ (m ++ [a, ⟨.fix, 94, 0, 0, [.sl r0 0 0 bs.length, .int .i64 0, .int .i64 0]⟩]) (m.length + 1) r0 0 bs (0, 0) := fun a => ⟨by rw [lk_app]; rfl, ⟨_, _, lk_old hb0 _⟩, by omega, Nat.zero_le _, hu, hn⟩
  have hRt : ∀ (a : Blk) L (t : Nat × Int), t.1 ≤ bs.length → RQ (m ++ a :: ⟨.fix, 94, 0, 0, [.sl r0 0 0 bs.length, .int .i64 (t.1 : Int), .int .i64 t.2]⟩ :: L) (m.length + 1) r0 0 bs t := fun a L t ht => ⟨by rw [lk_app]; rfl, ⟨_, _, lk_old hb0 _⟩, by omega, ht, hu, hn⟩
  have hN : hsS bs (0, 0) i0 = (hsS bs (0, 0) (npS bs (0, 0))) := by have := hs_err herr ((npS bs (0, 0)) - i0); rw [show i0 + ((npS bs (0, 0)) - i0) = (npS bs (0, 0)) by omega] at this; exact this.symm
  iterate 2
    refine AW.seq_k fun K hK => ?_
    refine AW.region (by decide) ?_
    simp only [push_cast, simprocAttr, hM, hne, hN]
    refine Thn_n ?_
    refine hK _ _ ?_
    clear hK K
  refine AW.seq_k fun K hK => ?_
  refine AW.region (by decide) ?_
  simp only [push_cast, simprocAttr, hM, hne, hN]
  refine CThen.by (rtakeF_c (m.length + 1) r0 0 bs (0, 0) _ (hR0 _) i0 hi0 hall herr) ?_
  simp only [push_cast, simprocAttr, hM, hne, hN]
  refine Thn_n ?_
  refine hK _ _ ?_
  clear hK K
  refine AW.seq_k fun K hK => ?_
  refine AW.region (by decide) ?_
  simp only [push_cast, simprocAttr, hM, hne, hN]
  refine CThen.by (rend_c (m.length + 1) r0 0 bs _ _ (hRt _ _ _ (hle _))) ?_
  simp only [push_cast, simprocAttr, hM, hne, hN]
  refine Thn_n ?_
  refine hK _ _ ?_
  clear hK K
  refine AW.seq_k fun K hK => ?_
  refine AW.seq_k fun K hK => ?_
  refine AW.region (by decide) ?_
  simp only [push_cast, simprocAttr, hM, hne, hN]
  refine Thn_n ?_
  refine hK _ _ ?_
  clear hK K
  refine AW.cond_t rfl ?_
  refine AW.seq_k fun K hK => ?_
  refine AW.region (by decide) ?_
  simp only [push_cast, simprocAttr, hM, hne, hN]
  refine Thn_n ?_
  refine hK _ _ ?_
  clear hK K
  refine AW.ret ?_
  refine Thn_r ?_
  refine hQ _ _ _ ?_
  first | refine RetP.drop0 (Or.inr rfl) ?_ ?_ hwf | refine RetP.drop (Or.inr rfl) ?_ ?_ hwf
  · simp only [resA, resOne, resTv, AV.tv, push_cast, simprocAttr, hM, hne, hN]
  · rfl
theorem rdecS_B0 (r0 : Nat) (bs : List Int) (m : AMem) (hp : ∃ k ez, m[r0]? = some ⟨k, 5, 0, ez, u8l bs⟩) (hn : bs.length ≤ 1073741824) (hu : ∀ i, 0 ≤ byB bs i ∧ byB bs i ≤ 255) (hall : ∀ k, k < (npS bs (0, 0)) → (hsS bs (0, 0) k).2 = 0) (hne : ((endS bs.length (hsS bs (0, 0) (npS bs (0, 0)))).2 != 0) = true) : Ctr Try.prog 21 [.one (.sl r0 0 0 bs.length)] m (.tup [(true, [.int .i64 0, .int .i64 0, .nils]), (false, [.int .i64 (endS bs.length (hsS bs (0, 0) (npS bs (0, 0)))).2])]) m := by
  refine Ctr.enter Try.func21 rfl (by decide) (rs := [.cell 2 24, .tmp 3]) (nt := 19) rfl rfl fun hwf Q hQ => ?_
  have hlt0 : ∀ k, ¬ m.length + k < m.length := fun k => by omega
  obtain ⟨k0, ez0, hb0⟩ := id hp
  have l0 := get_lt hb0
  have hle : ∀ i, (hsS bs (0, 0) i).1 ≤ bs.length := fun i => hsS_le (Nat.zero_le _) _
  have hM : ∀ (a b : Blk) L (t : Nat × Int), qM (m ++ a :: b :: L) (m.length + 1) r0 0 bs t = m ++ a :: ⟨.fix, 94, 0, 0, [.sl r0 0 0 bs.length, .int .i64 (t.1 : Int), .int .i64 t.2]⟩ :: L := fun a b L t => by unfold qM; rw [set_app]; rfl
  have hR0 : ∀ (a : Blk), RQ (m ++ [a, ⟨.fix, 94, 0, 0, [.sl r0 0 0 bs.length, .int .i64 0, .int .i64 0]⟩]) (m.length + 1) r0 0 bs (0, 0) := fun a => ⟨by rw [lk_app]; rfl, ⟨_, _, lk_old hb0 _⟩, by omega, Nat.zero_le _, hu, hn⟩
  have hRt : ∀ (a : Blk) L (t : Nat × Int), t.1 ≤ bs.length → RQ (m ++ a :: ⟨.fix, 94, 0, 0, [.sl r0 0 0 bs.length, .int .i64 (t.1 : Int), .int .i64 t.2]⟩ :: L) (m.length + 1) r0 0 bs t := fun a L t ht => ⟨by rw [lk_app]; rfl, ⟨_, _, lk_old hb0 _⟩, by omega, ht, hu, hn⟩
  
  iterate 2
    refine AW.seq_k fun K hK => ?_
    refine AW.region (by decide) ?_
    simp only [push_cast, simprocAttr, hM, hne]
    refine Thn_n ?_
    refine hK _ _ ?_
    clear hK K
  refine AW.seq_k fun K hK => ?_
  refine AW.region (by decide) ?_
  simp only [push_cast, simprocAttr, hM, hne]
  refine CThen.by (rtakeE_c (m.length + 1) r0 0 bs (0, 0) _ (hR0 _) _ rfl hall) ?_
  simp only [push_cast, simprocAttr, hM, hne]
  refine Thn_n ?_
  refine hK _ _ ?_
  clear hK K
  refine AW.seq_k fun K hK => ?_
  refine AW.region (by decide) ?_
  simp only [push_cast, simprocAttr, hM, hne]
  refine CThen.by (rend_c (m.length + 1) r0 0 bs _ _ (hRt _ _ _ (hle _))) ?_
  simp only [push_cast, simprocAttr, hM, hne]
  refine Thn_n ?_
  refine hK _ _ ?_
  clear hK K
  refine AW.seq_k fun K hK => ?_
  refine AW.seq_k fun K hK => ?_
  refine AW.region (by decide) ?_
  simp only [push_cast, simprocAttr, hM, hne]
  refine Thn_n ?_
  refine hK _ _ ?_
  clear hK K
  refine AW.cond_t rfl ?_
  refine AW.seq_k fun K hK => ?_
  refine AW.region (by decide) ?_
  simp only [push_cast, simprocAttr, hM, hne]
  refine Thn_n ?_
  refine hK _ _ ?_
  clear hK K
  refine AW.ret ?_
  refine Thn_r ?_
  refine hQ _ _ _ ?_
  first | refine RetP.drop0 (Or.inr rfl) ?_ ?_ hwf | refine RetP.drop (Or.inr rfl) ?_ ?_ hwf
  · simp only [resA, resOne, resTv, AV.tv, push_cast, simprocAttr, hM, hne]
  · rfl
theorem rdecS_B1 (r0 : Nat) (bs : List Int) (m : AMem) (hp : ∃ k ez, m[r0]? = some ⟨k, 5, 0, ez, u8l bs⟩) (hn : bs.length ≤ 1073741824) (hu : ∀ i, 0 ≤ byB bs i ∧ byB bs i ≤ 255) (hall : ∀ k, k < (npS bs (0, 0)) → (hsS bs (0, 0) k).2 = 0) (hne : (endS bs.length (hsS bs (0, 0) (npS bs (0, 0)))).2 = 0) : Ctr Try.prog 21 [.one (.sl r0 0 0 bs.length)] m (.tup [(true, [.int .i64 (rdV bs 2 (0, 0)), .int .i64 (rdV bs 2 (rdS bs.length 2 (0, 0))), .sl m.length 0 0 (npS bs (0, 0))]), (false, [.int .i64 0])]) (m ++ [⟨.grow, 75, 0, 3, dl (npS bs (0, 0)) (GH bs (0, 0))⟩]) := by
  refine Ctr.enter Try.func21 rfl (by decide) (rs := [.cell 2 24, .tmp 3]) (nt := 19) rfl rfl fun hwf Q hQ => ?_
  have hlt0 : ∀ k, ¬ m.length + k < m.length := fun k => by omega
  obtain ⟨k0, ez0, hb0⟩ := id hp
  have l0 := get_lt hb0
  have hle : ∀ i, (hsS bs (0, 0) i).1 ≤ bs.length := fun i => hsS_le (Nat.zero_le _) _
  have hM : ∀ (a b : Blk) L (t : Nat × Int), qM (m ++ a :: b :: L) (m.length + 1) r0 0 bs t = m ++ a :: ⟨.fix, 94, 0, 0, [.sl r0 0 0 bs.length, .int .i64 (t.1 : Int), .int .i64 t.2]⟩ :: L := fun a b L t => by unfold qM; rw [set_app]; rfl
  have hR0 : ∀ (a : Blk), RQ (m ++ [a, ⟨.fix, 94, 0, 0, [.sl r0 0 0 bs.length, .int .i64 0, .int .i64 0]⟩]) (m.length + 1) r0 0 bs (0, 0) := fun a => ⟨by rw [lk_app]; rfl, ⟨_, _, lk_old hb0 _⟩, by omega, Nat.zero_le _, hu, hn⟩
  have hRt : ∀ (a : Blk) L (t : Nat × Int), t.1 ≤ bs.length → RQ (m ++ a :: ⟨.fix, 94, 0, 0, [.sl r0 0 0 bs.length, .int .i64 (t.1 : Int), .int .i64 t.2]⟩ :: L) (m.length + 1) r0 0 bs t := fun a L t ht => ⟨by rw [lk_app]; rfl, ⟨_, _, lk_old hb0 _⟩, by omega, ht, hu, hn⟩
  have hn2 : ((endS bs.length (hsS bs (0, 0) (npS bs (0, 0)))).2 != 0) = false := by rw [hne]; rfl
  iterate 2
    refine AW.seq_k fun K hK => ?_
    refine AW.region (by decide) ?_
    simp only [push_cast, simprocAttr, hM, hn2]
    refine Thn_n ?_
    refine hK _ _ ?_
    clear hK K
  refine AW.seq_k fun K hK => ?_
  refine AW.region (by decide) ?_
  simp only [push_cast, simprocAttr, hM, hn2]
  refine CThen.by (rtakeE_c (m.length + 1) r0 0 bs (0, 0) _ (hR0 _) _ rfl hall) ?_
  simp only [push_cast, simprocAttr, hM, hn2]
  refine Thn_n ?_
  refine hK _ _ ?_
  clear hK K
  refine AW.seq_k fun K hK => ?_
  refine AW.region (by decide) ?_
  simp only [push_cast, simprocAttr, hM, hn2]
  refine CThen.by (rend_c (m.length + 1) r0 0 bs _ _ (hRt _ _ _ (hle _))) ?_
  simp only [push_cast, simprocAttr, hM, hn2]
  refine Thn_n ?_
  refine hK _ _ ?_
  clear hK K
  refine AW.seq_k fun K hK => ?_
  refine AW.seq_k fun K hK => ?_
  refine AW.region (by decide) ?_
  simp only [push_cast, simprocAttr, hM, hn2]
  refine Thn_n ?_
  refine hK _ _ ?_
  clear hK K
  refine AW.cond_f rfl ?_
  refine AW.skip ?_
  refine Thn_n ?_
  refine hK _ _ ?_
  clear hK K
  refine AW.seq_k fun K hK => ?_
  refine AW.region (by decide) ?_
  simp only [push_cast, simprocAttr, hM, hn2]
  refine Thn_n ?_
  refine hK _ _ ?_
  clear hK K
  refine AW.ret ?_
  refine hQ _ _ _ ?_
  refine RetP.pick [(m.length + 4, (npS bs (0, 0)))] (Or.inr rfl) ?_ ?_ ?_ hwf ?_
  · simp only [resA, resOne, resTv, AV.tv, push_cast, simprocAttr]
    simp [renV, renT, renL, renC, renIdx, hlt0]
  · simp only [picks, push_cast, simprocAttr]
  · simp [distinctFrom]
  · exact MWf_one (dl_below _ _ _)
  
end Go.Proofs.Ytgbehbaecdepjaa
