/- Walks and facts of this seat's program over abstract states, printed by a program of mine; no conditions but those that each theorem names. -/
import Derived.Test.YtgbehbaecdepjaaFilmL
set_option linter.unusedSimpArgs false
set_option linter.unusedVariables false
set_option maxRecDepth 100000
set_option maxHeartbeats 4000000
namespace Go.Proofs.Ytgbehbaecdepjaa
open Go Go.Eng

/-- A sheet taken off bytes: the state behind each light. -/
def szS (bs : List Int) (s : Nat × Int) : Bool := szR (rdV bs 2 s) (rdV bs 2 (rdS bs.length 2 s))
def shS (bs : List Int) (s : Nat × Int) : Nat × Int := if (rdS bs.length 2 (rdS bs.length 2 s)).2 = 0 ∧ szS bs s = false then flS 10 (rdS bs.length 2 (rdS bs.length 2 s)) else rdS bs.length 2 (rdS bs.length 2 s)
def hsS (bs : List Int) (s : Nat × Int) : Nat → Nat × Int
  | 0 => shS bs s
  | i + 1 => v3S bs (hsS bs s i)
def npS (bs : List Int) (s : Nat × Int) : Nat := (rdV bs 2 s).toNat * (rdV bs 2 (rdS bs.length 2 s)).toNat
def GH (bs : List Int) (s : Nat × Int) (i k : Nat) : Int := v3V bs (hsS bs s i) k
theorem rdS_err {n k : Nat} {s : Nat × Int} (h : ¬ s.2 = 0) : rdS n k s = s := by unfold rdS; rw [if_neg h]
theorem rdV_err {bs : List Int} {k : Nat} {s : Nat × Int} (h : ¬ s.2 = 0) : rdV bs k s = 0 := by unfold rdV; rw [if_neg h]
theorem fixS_err {bs : List Int} {s : Nat × Int} (h : ¬ s.2 = 0) : fixS bs s = s := by
  unfold fixS; rw [rdV_err h, rdS_err h, show overB (sg5 0) = false from by decide]; rfl
theorem v3S_err {bs : List Int} {s : Nat × Int} (h : ¬ s.2 = 0) : v3S bs s = s := by unfold v3S; rw [fixS_err h, fixS_err h, fixS_err h]
theorem hs_err {bs : List Int} {s : Nat × Int} {i : Nat} (h : ¬ (hsS bs s i).2 = 0) : ∀ d, hsS bs s (i + d) = hsS bs s i
  | 0 => rfl
  | d + 1 => by
    have ih := hs_err h d
    show v3S bs (hsS bs s (i + d)) = _
    rw [ih]; exact v3S_err h
theorem shS_le {bs : List Int} {s : Nat × Int} (h : s.1 ≤ bs.length) : (shS bs s).1 ≤ bs.length := by
  have := rdS_le (k := 2) (rdS_le (k := 2) h)
  unfold shS; split
  · exact flS_le this
  · exact this
theorem hsS_le {bs : List Int} {s : Nat × Int} (h : s.1 ≤ bs.length) : ∀ i, (hsS bs s i).1 ≤ bs.length
  | 0 => shS_le h
  | i + 1 => v3S_le (hsS_le h i)
theorem np_w {bs : List Int} {s : Nat × Int} (hu : ∀ i, 0 ≤ byB bs i ∧ byB bs i ≤ 255) : IntKind.i64.wrap (rdV bs 2 s * rdV bs 2 (rdS bs.length 2 s)) = (npS bs s : Int) := by
  have h1 := rdV_b hu 2 s
  have h2 := rdV_b hu 2 (rdS bs.length 2 s)
  have e2 : (256 : Int) ^ 2 = 65536 := by decide
  rw [e2] at h1 h2
  unfold npS
  generalize rdV bs 2 s = a at *
  generalize rdV bs 2 (rdS bs.length 2 s) = b at *
  obtain ⟨A, rfl⟩ := Int.eq_ofNat_of_zero_le h1.1
  obtain ⟨B, rfl⟩ := Int.eq_ofNat_of_zero_le h2.1
  have h3 : A * B ≤ 65535 * 65535 := Nat.mul_le_mul (by omega) (by omega)
  rw [← Int.natCast_mul, Int.toNat_natCast, Int.toNat_natCast]
  exact wi (by omega)
theorem np_le {bs : List Int} {s : Nat × Int} (hu : ∀ i, 0 ≤ byB bs i ∧ byB bs i ≤ 255) : npS bs s ≤ 4294836225 := by
  have h1 := rdV_b hu 2 s
  have h2 := rdV_b hu 2 (rdS bs.length 2 s)
  have e2 : (256 : Int) ^ 2 = 65536 := by decide
  rw [e2] at h1 h2
  exact Nat.mul_le_mul (show (rdV bs 2 s).toNat ≤ 65535 by omega) (show (rdV bs 2 (rdS bs.length 2 s)).toNat ≤ 65535 by omega)
theorem take1A (r rb v : Nat) (bs : List Int) (s : Nat × Int) (m : AMem) (h : RP m r rb v bs s) (h2 : (rdS bs.length 2 (rdS bs.length 2 s)).2 = 0) (hz : szS bs s = true) (i0 : Nat) (hi0 : i0 < npS bs s) (hall : ∀ k, k < i0 → (hsS bs s k).2 = 0) (herr : ¬ (hsS bs s i0).2 = 0) : Ctr Try.prog 42 [.one (.ptr r 0 0)] m (.agg [.int .i64 0, .int .i64 0, .nils]) (pM m r rb v bs (hsS bs s (npS bs s))) := by
  refine Ctr.enter Try.func42 rfl (by decide) (rs := [.cell 2 35]) (nt := 41) rfl rfl fun hwf Q hQ => ?_
  obtain ⟨kb, eb, hb⟩ := h.hb
  have lr := h.lt
  have lb := get_lt hb
  have hwfM := fun t => @pM_wf m.length m r rb v bs t lb hwf
  have apM := fun L t => @pM_app m r rb v bs lr L t
  have two := fun a b => @pM_two m r rb v bs a b
  have apM2 := fun a L t => (@pM_app (pM m r rb v bs a) r rb v bs (by rw [pM_len]; exact lr) L t).trans (by rw [pM_two])
  have hlen := fun t => @pM_len m r rb v bs t
  have g3 : ∀ t b L k, (pM m r rb v bs t ++ b :: L)[m.length + k]? = (b :: L)[k]? := fun t b L k => by rw [← @pM_len m r rb v bs t, lk_app]
  have g30 : ∀ t b L, (pM m r rb v bs t ++ b :: L)[m.length]? = some b := fun t b L => by rw [← @pM_len m r rb v bs t, lk_app0]; rfl
  have g4 : ∀ t b L k c, (pM m r rb v bs t ++ b :: L).set (m.length + k) c = pM m r rb v bs t ++ (b :: L).set k c := fun t b L k c => by rw [← @pM_len m r rb v bs t, set_app]
  have g40 : ∀ t b L c, (pM m r rb v bs t ++ b :: L).set m.length c = pM m r rb v bs t ++ c :: L := fun t b L c => by rw [← @pM_len m r rb v bs t, set_app0]; rfl
  have sr : ∀ t u L, (pM m r rb v bs t ++ L).set r ⟨.fix, 110, 0, 0, [cP rb v bs.length u, .int .i64 u.2]⟩ = pM m r rb v bs u ++ L := fun t u L => by rw [List.set_append_left _ _ (by rw [pM_len]; exact lr)]; exact congrArg (· ++ L) (pM_two t u)
  have hp1 := rdS_le (k := 2) h.hp
  have hp2 := rdS_le (k := 2) hp1
  have hps := shS_le (bs := bs) h.hp
  have hpi := fun i => hsS_le (bs := bs) h.hp i
  have npw := @np_w bs s h.hu
  have npl := @np_le bs s h.hu
  have hrow := fun (G : Nat → Nat → Int) n => dl_len n G
  have hsh : shS bs s = (rdS bs.length 2 (rdS bs.length 2 s)) := by unfold shS; rw [if_neg (fun hc => by rw [hz] at hc; cases hc.2)]
  have hb2 : ((rdS bs.length 2 (rdS bs.length 2 s)).2 == 0) = true := by simpa using h2
  have hzz : szR (rdV bs 2 s) (rdV bs 2 (rdS bs.length 2 s)) = true := hz
  have hN : hsS bs s (npS bs s) = hsS bs s i0 := by have := hs_err herr (npS bs s - i0); rwa [show i0 + (npS bs s - i0) = npS bs s by omega] at this
  
  refine AW.seq_k fun K hK => ?_
  refine AW.region (by decide) ?_
  simp only [push_cast, simprocAttr, apM, apM2, two, hlen, g3, g30, g4, g40, sr, hb2, npw, hrow, hzz]
  refine Thn_n ?_
  refine hK _ _ ?_
  clear hK K
  refine AW.seq_k fun K hK => ?_
  refine AW.region (by decide) ?_
  simp only [push_cast, simprocAttr, apM, apM2, two, hlen, g3, g30, g4, g40, sr, hb2, npw, hrow, hzz]
  refine CThen.by (half_c r rb v bs s _ (h.app _)) ?_
  simp only [push_cast, simprocAttr, apM, apM2, two, hlen, g3, g30, g4, g40, sr, hb2, npw, hrow, hzz]
  refine Thn_n ?_
  refine hK _ _ ?_
  clear hK K
  refine AW.seq_k fun K hK => ?_
  refine AW.region (by decide) ?_
  simp only [push_cast, simprocAttr, apM, apM2, two, hlen, g3, g30, g4, g40, sr, hb2, npw, hrow, hzz]
  refine CThen.by (half_c r rb v bs _ _ ((h.set hp1).app _)) ?_
  simp only [push_cast, simprocAttr, apM, apM2, two, hlen, g3, g30, g4, g40, sr, hb2, npw, hrow, hzz]
  refine Thn_n ?_
  refine hK _ _ ?_
  clear hK K
  refine AW.seq_k fun K hK => ?_
  refine AW.seq_k fun K hK => ?_
  refine AW.region (by decide) ?_
  simp only [push_cast, simprocAttr, apM, apM2, two, hlen, g3, g30, g4, g40, sr, hb2, npw, hrow, hzz]
  refine CThen.by (err_c r rb v bs _ _ ((h.set hp2).app _)) ?_
  simp only [push_cast, simprocAttr, apM, apM2, two, hlen, g3, g30, g4, g40, sr, hb2, npw, hrow, hzz]
  refine CThen.by (sizeRight_c _ _ _) ?_
  simp only [push_cast, simprocAttr, apM, apM2, two, hlen, g3, g30, g4, g40, sr, hb2, npw, hrow, hzz]
  refine Thn_n ?_
  refine hK _ _ ?_
  clear hK K
  refine AW.cond_f rfl ?_
  refine AW.skip ?_
  refine Thn_n ?_
  refine hK _ _ ?_
  clear hK K
  refine AW.seq_k fun K hK => ?_
  refine AW.seq_k fun K hK => ?_
  refine AW.region (by decide) ?_
  simp only [push_cast, simprocAttr, apM, apM2, two, hlen, g3, g30, g4, g40, sr, hb2, npw, hrow, hzz]
  refine CThen.by (pixels_c _ _ _) ?_
  simp only [push_cast, simprocAttr, apM, apM2, two, hlen, g3, g30, g4, g40, sr, hb2, npw, hrow, hzz]
  refine Thn_n ?_
  refine hK _ _ ?_
  clear hK K
  refine AW.block ?_
  refine AW.nilCell 68 3 (m.length + 1) 2 (by simp only [push_cast, simprocAttr, apM, apM2, two, hlen, g3, g30, g4, g40, sr, hb2, npw, hrow, hzz]; first | done | rfl) (by intro e; cases e) rfl ?_
  try simp only [push_cast, simprocAttr, apM, apM2, two, hlen, g3, g30, g4, g40, sr, hb2, npw, hrow, hzz]
  refine AW.loopK [0, 2, 3, 25] (fun i => i ≤ i0) (fun i => [(26, .one (.int .i64 (i : Int)))]) (fun i => [(r, ⟨.fix, 110, 0, 0, [cP rb v bs.length (hsS bs s i), .int .i64 (hsS bs s i).2]⟩), (m.length + 1, ⟨.fix, 35, 0, 0, [.int .i64 (rdV bs 2 s), .int .i64 (rdV bs 2 (rdS bs.length 2 s)), .sl (m.length + 2) i 0 i]⟩), (m.length + 2, ⟨.grow, 68, i, 3, dl i (GH bs s)⟩)]) (fun i => i0 - i) 0 (by omega) ?_ ?_ fun i hi8 => ?_
  · first | rfl | (simp only [Keeps, Tm.get_cons, Nat.reduceEqDiff, ↓reduceIte, if_true, if_false, ite_true, ite_false, true_and, and_true, and_self, reduceCtorEq, dl, hsS, hsh, Int.natCast_zero] <;> rfl)
  · first | rfl | (simp only [setAll, push_cast, simprocAttr, apM, apM2, two, hlen, g3, g30, g4, g40, sr, hb2, npw, hrow, hzz, dl, hsS, hsh, Int.natCast_zero] <;> rfl)
  try simp only [keepL, setAll, push_cast, simprocAttr, apM, apM2, two, hlen, g3, g30, g4, g40, sr, hb2, npw, hrow, hzz]
  refine AW.seq_k fun K hK => ?_
  refine AW.region (by decide) ?_
  simp only [push_cast, simprocAttr, apM, apM2, two, hlen, g3, g30, g4, g40, sr, hb2, npw, hrow, hzz]
  refine Thn_n ?_
  refine hK _ _ ?_
  clear hK K
  refine AW.seq_k fun K hK => ?_
  refine AW.cond rfl (fun h27 => ?_) (fun h27 => ?_)
  · have hlt : i < npS bs s := by have := of_decide_eq_true h27; omega
    have c1 : (0 : Int) ≤ (i : Int) := by omega
    have c2 : (i : Int) < (npS bs s : Int) := by omega
    have gi := dl_len i (GH bs s)
    have q1 : i + 1 ≤ 140737488355328 := by omega
    have q2 : (i + 1) * 24 ≤ 140737488355328 := by omega
    have hsx : v3S bs (hsS bs s i) = hsS bs s (i + 1) := rfl
    have dlx : dl i (GH bs s) ++ [.int .i64 (v3V bs (hsS bs s i) 0), .int .i64 (v3V bs (hsS bs s i) 1), .int .i64 (v3V bs (hsS bs s i) 2)] = dl (i + 1) (GH bs s) := rfl
    refine AW.skip ?_
    refine Thn_n ?_
    refine hK _ _ ?_
    clear hK K
    refine AW.seq_k fun K hK => ?_
    refine AW.block ?_
    refine AW.seq_k fun K hK => ?_
    refine AW.seq_k fun K hK => ?_
    refine AW.region (by decide) ?_
    simp only [push_cast, simprocAttr, apM, apM2, two, hlen, g3, g30, g4, g40, sr, hb2, npw, hrow, hzz, c1, c2, gi, q1, q2]
    refine CThen.by (err_c r rb v bs _ _ ((h.set (hpi i)).app _)) ?_
    simp only [push_cast, simprocAttr, apM, apM2, two, hlen, g3, g30, g4, g40, sr, hb2, npw, hrow, hzz, c1, c2, gi, q1, q2]
    refine Thn_n ?_
    refine hK _ _ ?_
    clear hK K
    refine AW.cond rfl (fun h30 => ?_) (fun h30 => ?_)
    · have hi0 : i = i0 := by
        rcases Nat.lt_or_ge i i0 with hc | hc
        · exact absurd (hall i hc) (by simpa using h30)
        · omega
      subst hi0
      rw [hN] at hQ
      refine AW.seq_k fun K hK => ?_
      refine AW.region (by decide) ?_
      simp only [push_cast, simprocAttr, apM, apM2, two, hlen, g3, g30, g4, g40, sr, hb2, npw, hrow, hzz, c1, c2, gi, q1, q2]
      refine Thn_n ?_
      refine hK _ _ ?_
      clear hK K
      refine AW.ret ?_
      refine Thn_r ?_
      refine InB_r ?_
      refine Thn_r ?_
      refine Thn_r ?_
      refine InB_r ?_
      refine Thn_r ?_
      refine hQ _ _ _ ?_
      first | refine RetP.dropM0 (pM_len _) (Or.inr rfl) ?_ ?_ (hwfM _) | refine RetP.dropM (pM_len _) (Or.inr rfl) ?_ ?_ (hwfM _)
      · simp only [resA, resOne, resTv, AV.tv, push_cast, simprocAttr, g30]
      · rfl
      
    · have hii : i < i0 := by
        rcases Nat.lt_or_ge i i0 with hc | hc
        · exact hc
        · exact absurd (by simpa using h30) (by rw [show i = i0 by omega]; exact herr)
      refine AW.skip ?_
      refine Thn_n ?_
      refine hK _ _ ?_
      clear hK K
      refine AW.drawX fol (by kernel_rfl) ?_
      refine DX.split 1 3 (by decide) ?_ ?_
      focus
        refine DX.run [0, 1, 2, 3, 4, 5, 6, 7] [.val, .rd 0, .val, .wr, .ext, .wr, .val, .wr] (by simp only [permL, reOp, List.idxOf_cons, push_cast, simprocAttr, apM, apM2, two, hlen, g3, g30, g4, g40, sr, hb2, npw, hrow, hzz, c1, c2, gi, q1, q2]; first | done | rfl) (by kernel_rfl) ?_
        simp only [push_cast, simprocAttr, apM, apM2, two, hlen, g3, g30, g4, g40, sr, hb2, npw, hrow, hzz, c1, c2, gi, q1, q2]
        refine DCallW.by (rdhue_c r rb v bs _ _ ((h.set (hpi i)).app _)) ?_
        simp only [push_cast, simprocAttr, apM, apM2, two, hlen, g3, g30, g4, g40, sr, hb2, npw, hrow, hzz, c1, c2, gi, q1, q2]
        refine DExt.by (by first | rfl | (simp only [List.append_assoc, List.cons_append, List.nil_append]; rfl)) ?_
        simp only [push_cast, simprocAttr, apM, apM2, two, hlen, g3, g30, g4, g40, sr, hb2, npw, hrow, hzz, c1, c2, gi, q1, q2]
        skip
      rotate_left 1
      focus
        refine DX.run [0, 2, 3, 1, 4, 5, 6, 7] [.val, .val, .wr, .rd 1, .ext, .wr, .val, .wr] (by simp only [permL, reOp, List.idxOf_cons, push_cast, simprocAttr, apM, apM2, two, hlen, g3, g30, g4, g40, sr, hb2, npw, hrow, hzz, c1, c2, gi, q1, q2]; first | done | rfl) (by kernel_rfl) ?_
        simp only [push_cast, simprocAttr, apM, apM2, two, hlen, g3, g30, g4, g40, sr, hb2, npw, hrow, hzz, c1, c2, gi, q1, q2]
        refine DCallW.by (rdhue_c r rb v bs _ _ ((h.set (hpi i)).app _)) ?_
        simp only [push_cast, simprocAttr, apM, apM2, two, hlen, g3, g30, g4, g40, sr, hb2, npw, hrow, hzz, c1, c2, gi, q1, q2]
        refine DExt.by (by first | rfl | (simp only [List.append_assoc, List.cons_append, List.nil_append]; rfl)) ?_
        simp only [push_cast, simprocAttr, apM, apM2, two, hlen, g3, g30, g4, g40, sr, hb2, npw, hrow, hzz, c1, c2, gi, q1, q2]
        skip
      rotate_left 1
      all_goals (
      refine InB_n ?_
      refine Thn_n ?_
      refine hK _ _ ?_
      clear hK K
      refine AW.region (by decide) ?_
      simp only [push_cast, simprocAttr, apM, apM2, two, hlen, g3, g30, g4, g40, sr, hb2, npw, hrow, hzz, c1, c2, gi, q1, q2]
      refine Thn_n ?_
      have hwi : IntKind.i64.wrap ((i:Int)+1) = (i:Int)+1 := wi (by omega)
      refine ⟨i + 1, by omega, by omega, ?_⟩
      try simp only [keepL, setAll, push_cast, simprocAttr, apM, apM2, two, hlen, g3, g30, g4, g40, sr, hb2, npw, hrow, hzz, c1, c2, gi, q1, q2, hwi, hsx, dlx]
      exact Weak.to (extra := [_]) (by simp only [Keeps, Tm.get_cons, Nat.reduceEqDiff, ↓reduceIte, if_true, if_false, ite_true, ite_false, true_and, and_true, and_self, reduceCtorEq, hwi, hsx, dlx]) (by first | rfl | (simp only [List.append_assoc, List.cons_append, List.nil_append]; rfl)) (by first | rfl | (simp [AV.below, CV.below, pM_len, dl_below]; done) | (simp [AV.below, CV.below, pM_len, dl_below]; omega)) (by refine MWf.app ((hwfM _).grow (by simp [pM_len])) ?_; repeat (first | exact MWf_nil | (refine MWf_cons ?_ ?_; · first | rfl | exact dl_below _ _ _ | (simp [CV.below, pM_len]; done) | (simp [CV.below, pM_len]; omega))))
      )
  · exfalso
    have := of_decide_eq_false h27; omega
theorem take1B (r rb v : Nat) (bs : List Int) (s : Nat × Int) (m : AMem) (h : RP m r rb v bs s) (h2 : (rdS bs.length 2 (rdS bs.length 2 s)).2 = 0) (hz : szS bs s = true) (hall : ∀ k, k < npS bs s → (hsS bs s k).2 = 0) : Ctr Try.prog 42 [.one (.ptr r 0 0)] m (.agg [.int .i64 (rdV bs 2 s), .int .i64 (rdV bs 2 (rdS bs.length 2 s)), .sl (m.length + 2) (npS bs s) 0 (npS bs s)]) (pM m r rb v bs (hsS bs s (npS bs s)) ++ [⟨.fix, 35, 0, 0, [.int .i64 (rdV bs 2 s), .int .i64 (rdV bs 2 (rdS bs.length 2 s)), .sl (m.length + 2) (npS bs s) 0 (npS bs s)]⟩, ⟨.fix, 35, 0, 0, [.int .i64 (rdV bs 2 s), .int .i64 (rdV bs 2 (rdS bs.length 2 s)), .sl (m.length + 2) (npS bs s) 0 (npS bs s)]⟩, ⟨.grow, 68, npS bs s, 3, dl (npS bs s) (GH bs s)⟩]) := by
  refine Ctr.enter Try.func42 rfl (by decide) (rs := [.cell 2 35]) (nt := 41) rfl rfl fun hwf Q hQ => ?_
  obtain ⟨kb, eb, hb⟩ := h.hb
  have lr := h.lt
  have lb := get_lt hb
  have hwfM := fun t => @pM_wf m.length m r rb v bs t lb hwf
  have apM := fun L t => @pM_app m r rb v bs lr L t
  have two := fun a b => @pM_two m r rb v bs a b
  have apM2 := fun a L t => (@pM_app (pM m r rb v bs a) r rb v bs (by rw [pM_len]; exact lr) L t).trans (by rw [pM_two])
  have hlen := fun t => @pM_len m r rb v bs t
  have g3 : ∀ t b L k, (pM m r rb v bs t ++ b :: L)[m.length + k]? = (b :: L)[k]? := fun t b L k => by rw [← @pM_len m r rb v bs t, lk_app]
  have g30 : ∀ t b L, (pM m r rb v bs t ++ b :: L)[m.length]? = some b := fun t b L => by rw [← @pM_len m r rb v bs t, lk_app0]; rfl
  have g4 : ∀ t b L k c, (pM m r rb v bs t ++ b :: L).set (m.length + k) c = pM m r rb v bs t ++ (b :: L).set k c := fun t b L k c => by rw [← @pM_len m r rb v bs t, set_app]
  have g40 : ∀ t b L c, (pM m r rb v bs t ++ b :: L).set m.length c = pM m r rb v bs t ++ c :: L := fun t b L c => by rw [← @pM_len m r rb v bs t, set_app0]; rfl
  have sr : ∀ t u L, (pM m r rb v bs t ++ L).set r ⟨.fix, 110, 0, 0, [cP rb v bs.length u, .int .i64 u.2]⟩ = pM m r rb v bs u ++ L := fun t u L => by rw [List.set_append_left _ _ (by rw [pM_len]; exact lr)]; exact congrArg (· ++ L) (pM_two t u)
  have hp1 := rdS_le (k := 2) h.hp
  have hp2 := rdS_le (k := 2) hp1
  have hps := shS_le (bs := bs) h.hp
  have hpi := fun i => hsS_le (bs := bs) h.hp i
  have npw := @np_w bs s h.hu
  have npl := @np_le bs s h.hu
  have hrow := fun (G : Nat → Nat → Int) n => dl_len n G
  have hsh : shS bs s = (rdS bs.length 2 (rdS bs.length 2 s)) := by unfold shS; rw [if_neg (fun hc => by rw [hz] at hc; cases hc.2)]
  have hb2 : ((rdS bs.length 2 (rdS bs.length 2 s)).2 == 0) = true := by simpa using h2
  have hzz : szR (rdV bs 2 s) (rdV bs 2 (rdS bs.length 2 s)) = true := hz
  
  refine AW.seq_k fun K hK => ?_
  refine AW.region (by decide) ?_
  simp only [push_cast, simprocAttr, apM, apM2, two, hlen, g3, g30, g4, g40, sr, hb2, npw, hrow, hzz]
  refine Thn_n ?_
  refine hK _ _ ?_
  clear hK K
  refine AW.seq_k fun K hK => ?_
  refine AW.region (by decide) ?_
  simp only [push_cast, simprocAttr, apM, apM2, two, hlen, g3, g30, g4, g40, sr, hb2, npw, hrow, hzz]
  refine CThen.by (half_c r rb v bs s _ (h.app _)) ?_
  simp only [push_cast, simprocAttr, apM, apM2, two, hlen, g3, g30, g4, g40, sr, hb2, npw, hrow, hzz]
  refine Thn_n ?_
  refine hK _ _ ?_
  clear hK K
  refine AW.seq_k fun K hK => ?_
  refine AW.region (by decide) ?_
  simp only [push_cast, simprocAttr, apM, apM2, two, hlen, g3, g30, g4, g40, sr, hb2, npw, hrow, hzz]
  refine CThen.by (half_c r rb v bs _ _ ((h.set hp1).app _)) ?_
  simp only [push_cast, simprocAttr, apM, apM2, two, hlen, g3, g30, g4, g40, sr, hb2, npw, hrow, hzz]
  refine Thn_n ?_
  refine hK _ _ ?_
  clear hK K
  refine AW.seq_k fun K hK => ?_
  refine AW.seq_k fun K hK => ?_
  refine AW.region (by decide) ?_
  simp only [push_cast, simprocAttr, apM, apM2, two, hlen, g3, g30, g4, g40, sr, hb2, npw, hrow, hzz]
  refine CThen.by (err_c r rb v bs _ _ ((h.set hp2).app _)) ?_
  simp only [push_cast, simprocAttr, apM, apM2, two, hlen, g3, g30, g4, g40, sr, hb2, npw, hrow, hzz]
  refine CThen.by (sizeRight_c _ _ _) ?_
  simp only [push_cast, simprocAttr, apM, apM2, two, hlen, g3, g30, g4, g40, sr, hb2, npw, hrow, hzz]
  refine Thn_n ?_
  refine hK _ _ ?_
  clear hK K
  refine AW.cond_f rfl ?_
  refine AW.skip ?_
  refine Thn_n ?_
  refine hK _ _ ?_
  clear hK K
  refine AW.seq_k fun K hK => ?_
  refine AW.seq_k fun K hK => ?_
  refine AW.region (by decide) ?_
  simp only [push_cast, simprocAttr, apM, apM2, two, hlen, g3, g30, g4, g40, sr, hb2, npw, hrow, hzz]
  refine CThen.by (pixels_c _ _ _) ?_
  simp only [push_cast, simprocAttr, apM, apM2, two, hlen, g3, g30, g4, g40, sr, hb2, npw, hrow, hzz]
  refine Thn_n ?_
  refine hK _ _ ?_
  clear hK K
  refine AW.block ?_
  refine AW.nilCell 68 3 (m.length + 1) 2 (by simp only [push_cast, simprocAttr, apM, apM2, two, hlen, g3, g30, g4, g40, sr, hb2, npw, hrow, hzz]; first | done | rfl) (by intro e; cases e) rfl ?_
  try simp only [push_cast, simprocAttr, apM, apM2, two, hlen, g3, g30, g4, g40, sr, hb2, npw, hrow, hzz]
  refine AW.loopK [0, 2, 3, 25] (fun i => i ≤ npS bs s) (fun i => [(26, .one (.int .i64 (i : Int)))]) (fun i => [(r, ⟨.fix, 110, 0, 0, [cP rb v bs.length (hsS bs s i), .int .i64 (hsS bs s i).2]⟩), (m.length + 1, ⟨.fix, 35, 0, 0, [.int .i64 (rdV bs 2 s), .int .i64 (rdV bs 2 (rdS bs.length 2 s)), .sl (m.length + 2) i 0 i]⟩), (m.length + 2, ⟨.grow, 68, i, 3, dl i (GH bs s)⟩)]) (fun i => npS bs s - i) 0 (by omega) ?_ ?_ fun i hi8 => ?_
  · first | rfl | (simp only [Keeps, Tm.get_cons, Nat.reduceEqDiff, ↓reduceIte, if_true, if_false, ite_true, ite_false, true_and, and_true, and_self, reduceCtorEq, dl, hsS, hsh, Int.natCast_zero] <;> rfl)
  · first | rfl | (simp only [setAll, push_cast, simprocAttr, apM, apM2, two, hlen, g3, g30, g4, g40, sr, hb2, npw, hrow, hzz, dl, hsS, hsh, Int.natCast_zero] <;> rfl)
  try simp only [keepL, setAll, push_cast, simprocAttr, apM, apM2, two, hlen, g3, g30, g4, g40, sr, hb2, npw, hrow, hzz]
  refine AW.seq_k fun K hK => ?_
  refine AW.region (by decide) ?_
  simp only [push_cast, simprocAttr, apM, apM2, two, hlen, g3, g30, g4, g40, sr, hb2, npw, hrow, hzz]
  refine Thn_n ?_
  refine hK _ _ ?_
  clear hK K
  refine AW.seq_k fun K hK => ?_
  refine AW.cond rfl (fun h27 => ?_) (fun h27 => ?_)
  · have hlt : i < npS bs s := by have := of_decide_eq_true h27; omega
    have c1 : (0 : Int) ≤ (i : Int) := by omega
    have c2 : (i : Int) < (npS bs s : Int) := by omega
    have gi := dl_len i (GH bs s)
    have q1 : i + 1 ≤ 140737488355328 := by omega
    have q2 : (i + 1) * 24 ≤ 140737488355328 := by omega
    have hsx : v3S bs (hsS bs s i) = hsS bs s (i + 1) := rfl
    have dlx : dl i (GH bs s) ++ [.int .i64 (v3V bs (hsS bs s i) 0), .int .i64 (v3V bs (hsS bs s i) 1), .int .i64 (v3V bs (hsS bs s i) 2)] = dl (i + 1) (GH bs s) := rfl
    have hok : ((hsS bs s i).2 != 0) = false := by simpa using hall i hlt
    refine AW.skip ?_
    refine Thn_n ?_
    refine hK _ _ ?_
    clear hK K
    refine AW.seq_k fun K hK => ?_
    refine AW.block ?_
    refine AW.seq_k fun K hK => ?_
    refine AW.seq_k fun K hK => ?_
    refine AW.region (by decide) ?_
    simp only [push_cast, simprocAttr, apM, apM2, two, hlen, g3, g30, g4, g40, sr, hb2, npw, hrow, hzz, c1, c2, gi, q1, q2, hok]
    refine CThen.by (err_c r rb v bs _ _ ((h.set (hpi i)).app _)) ?_
    simp only [push_cast, simprocAttr, apM, apM2, two, hlen, g3, g30, g4, g40, sr, hb2, npw, hrow, hzz, c1, c2, gi, q1, q2, hok]
    refine Thn_n ?_
    refine hK _ _ ?_
    clear hK K
    refine AW.cond_f rfl ?_
    refine AW.skip ?_
    refine Thn_n ?_
    refine hK _ _ ?_
    clear hK K
    refine AW.drawX fol (by kernel_rfl) ?_
    refine DX.split 1 3 (by decide) ?_ ?_
    focus
      refine DX.run [0, 1, 2, 3, 4, 5, 6, 7] [.val, .rd 0, .val, .wr, .ext, .wr, .val, .wr] (by simp only [permL, reOp, List.idxOf_cons, push_cast, simprocAttr, apM, apM2, two, hlen, g3, g30, g4, g40, sr, hb2, npw, hrow, hzz, c1, c2, gi, q1, q2, hok]; first | done | rfl) (by kernel_rfl) ?_
      simp only [push_cast, simprocAttr, apM, apM2, two, hlen, g3, g30, g4, g40, sr, hb2, npw, hrow, hzz, c1, c2, gi, q1, q2, hok]
      refine DCallW.by (rdhue_c r rb v bs _ _ ((h.set (hpi i)).app _)) ?_
      simp only [push_cast, simprocAttr, apM, apM2, two, hlen, g3, g30, g4, g40, sr, hb2, npw, hrow, hzz, c1, c2, gi, q1, q2, hok]
      refine DExt.by (by first | rfl | (simp only [List.append_assoc, List.cons_append, List.nil_append]; rfl)) ?_
      simp only [push_cast, simprocAttr, apM, apM2, two, hlen, g3, g30, g4, g40, sr, hb2, npw, hrow, hzz, c1, c2, gi, q1, q2, hok]
      skip
    rotate_left 1
    focus
      refine DX.run [0, 2, 3, 1, 4, 5, 6, 7] [.val, .val, .wr, .rd 1, .ext, .wr, .val, .wr] (by simp only [permL, reOp, List.idxOf_cons, push_cast, simprocAttr, apM, apM2, two, hlen, g3, g30, g4, g40, sr, hb2, npw, hrow, hzz, c1, c2, gi, q1, q2, hok]; first | done | rfl) (by kernel_rfl) ?_
      simp only [push_cast, simprocAttr, apM, apM2, two, hlen, g3, g30, g4, g40, sr, hb2, npw, hrow, hzz, c1, c2, gi, q1, q2, hok]
      refine DCallW.by (rdhue_c r rb v bs _ _ ((h.set (hpi i)).app _)) ?_
      simp only [push_cast, simprocAttr, apM, apM2, two, hlen, g3, g30, g4, g40, sr, hb2, npw, hrow, hzz, c1, c2, gi, q1, q2, hok]
      refine DExt.by (by first | rfl | (simp only [List.append_assoc, List.cons_append, List.nil_append]; rfl)) ?_
      simp only [push_cast, simprocAttr, apM, apM2, two, hlen, g3, g30, g4, g40, sr, hb2, npw, hrow, hzz, c1, c2, gi, q1, q2, hok]
      skip
    rotate_left 1
    all_goals (
    refine InB_n ?_
    refine Thn_n ?_
    refine hK _ _ ?_
    clear hK K
    refine AW.region (by decide) ?_
    simp only [push_cast, simprocAttr, apM, apM2, two, hlen, g3, g30, g4, g40, sr, hb2, npw, hrow, hzz, c1, c2, gi, q1, q2, hok]
    refine Thn_n ?_
    have hwi : IntKind.i64.wrap ((i:Int)+1) = (i:Int)+1 := wi (by omega)
    refine ⟨i + 1, by omega, by omega, ?_⟩
    try simp only [keepL, setAll, push_cast, simprocAttr, apM, apM2, two, hlen, g3, g30, g4, g40, sr, hb2, npw, hrow, hzz, c1, c2, gi, q1, q2, hok, hwi, hsx, dlx]
    exact Weak.to (extra := [_]) (by simp only [Keeps, Tm.get_cons, Nat.reduceEqDiff, ↓reduceIte, if_true, if_false, ite_true, ite_false, true_and, and_true, and_self, reduceCtorEq, hwi, hsx, dlx]) (by first | rfl | (simp only [List.append_assoc, List.cons_append, List.nil_append]; rfl)) (by first | rfl | (simp [AV.below, CV.below, pM_len, dl_below]; done) | (simp [AV.below, CV.below, pM_len, dl_below]; omega)) (by refine MWf.app ((hwfM _).grow (by simp [pM_len])) ?_; repeat (first | exact MWf_nil | (refine MWf_cons ?_ ?_; · first | rfl | exact dl_below _ _ _ | (simp [CV.below, pM_len]; done) | (simp [CV.below, pM_len]; omega))))
    )
  · have hin : i = npS bs s := by have := of_decide_eq_false h27; omega
    subst hin
    refine AW.exit ?_
    refine Thn_e ?_
    clear hK K
    refine Thn_e ?_
    refine InB_here ?_
    refine Thn_n ?_
    refine hK _ _ ?_
    clear hK K
    refine AW.seq_k fun K hK => ?_
    refine AW.region (by decide) ?_
    simp only [push_cast, simprocAttr, apM, apM2, two, hlen, g3, g30, g4, g40, sr, hb2, npw, hrow, hzz]
    refine Thn_n ?_
    refine hK _ _ ?_
    clear hK K
    refine AW.ret ?_
    refine hQ _ _ _ ?_
    first | refine RetP.keep (Or.inr rfl) ?_ | refine RetP.keep (Or.inl rfl) ?_
    · simp only [resA, resOne, resTv, AV.tv, push_cast, simprocAttr, g30]
    
theorem take2A (r rb v : Nat) (bs : List Int) (s : Nat × Int) (m : AMem) (h : RP m r rb v bs s) (h2 : (rdS bs.length 2 (rdS bs.length 2 s)).2 = 0) (hz : szS bs s = false) (i0 : Nat) (hi0 : i0 < npS bs s) (hall : ∀ k, k < i0 → (hsS bs s k).2 = 0) (herr : ¬ (hsS bs s i0).2 = 0) : Ctr Try.prog 42 [.one (.ptr r 0 0)] m (.agg [.int .i64 0, .int .i64 0, .nils]) (pM m r rb v bs (hsS bs s (npS bs s))) := by
  refine Ctr.enter Try.func42 rfl (by decide) (rs := [.cell 2 35]) (nt := 41) rfl rfl fun hwf Q hQ => ?_
  obtain ⟨kb, eb, hb⟩ := h.hb
  have lr := h.lt
  have lb := get_lt hb
  have hwfM := fun t => @pM_wf m.length m r rb v bs t lb hwf
  have apM := fun L t => @pM_app m r rb v bs lr L t
  have two := fun a b => @pM_two m r rb v bs a b
  have apM2 := fun a L t => (@pM_app (pM m r rb v bs a) r rb v bs (by rw [pM_len]; exact lr) L t).trans (by rw [pM_two])
  have hlen := fun t => @pM_len m r rb v bs t
  have g3 : ∀ t b L k, (pM m r rb v bs t ++ b :: L)[m.length + k]? = (b :: L)[k]? := fun t b L k => by rw [← @pM_len m r rb v bs t, lk_app]
  have g30 : ∀ t b L, (pM m r rb v bs t ++ b :: L)[m.length]? = some b := fun t b L => by rw [← @pM_len m r rb v bs t, lk_app0]; rfl
  have g4 : ∀ t b L k c, (pM m r rb v bs t ++ b :: L).set (m.length + k) c = pM m r rb v bs t ++ (b :: L).set k c := fun t b L k c => by rw [← @pM_len m r rb v bs t, set_app]
  have g40 : ∀ t b L c, (pM m r rb v bs t ++ b :: L).set m.length c = pM m r rb v bs t ++ c :: L := fun t b L c => by rw [← @pM_len m r rb v bs t, set_app0]; rfl
  have sr : ∀ t u L, (pM m r rb v bs t ++ L).set r ⟨.fix, 110, 0, 0, [cP rb v bs.length u, .int .i64 u.2]⟩ = pM m r rb v bs u ++ L := fun t u L => by rw [List.set_append_left _ _ (by rw [pM_len]; exact lr)]; exact congrArg (· ++ L) (pM_two t u)
  have hp1 := rdS_le (k := 2) h.hp
  have hp2 := rdS_le (k := 2) hp1
  have hps := shS_le (bs := bs) h.hp
  have hpi := fun i => hsS_le (bs := bs) h.hp i
  have npw := @np_w bs s h.hu
  have npl := @np_le bs s h.hu
  have hrow := fun (G : Nat → Nat → Int) n => dl_len n G
  have hsh : shS bs s = flS 10 (rdS bs.length 2 (rdS bs.length 2 s)) := by unfold shS; rw [if_pos ⟨h2, hz⟩]
  have hb2 : ((rdS bs.length 2 (rdS bs.length 2 s)).2 == 0) = true := by simpa using h2
  have hzz : szR (rdV bs 2 s) (rdV bs 2 (rdS bs.length 2 s)) = false := hz
  have hN : hsS bs s (npS bs s) = hsS bs s i0 := by have := hs_err herr (npS bs s - i0); rwa [show i0 + (npS bs s - i0) = npS bs s by omega] at this
  
  refine AW.seq_k fun K hK => ?_
  refine AW.region (by decide) ?_
  simp only [push_cast, simprocAttr, apM, apM2, two, hlen, g3, g30, g4, g40, sr, hb2, npw, hrow, hzz]
  refine Thn_n ?_
  refine hK _ _ ?_
  clear hK K
  refine AW.seq_k fun K hK => ?_
  refine AW.region (by decide) ?_
  simp only [push_cast, simprocAttr, apM, apM2, two, hlen, g3, g30, g4, g40, sr, hb2, npw, hrow, hzz]
  refine CThen.by (half_c r rb v bs s _ (h.app _)) ?_
  simp only [push_cast, simprocAttr, apM, apM2, two, hlen, g3, g30, g4, g40, sr, hb2, npw, hrow, hzz]
  refine Thn_n ?_
  refine hK _ _ ?_
  clear hK K
  refine AW.seq_k fun K hK => ?_
  refine AW.region (by decide) ?_
  simp only [push_cast, simprocAttr, apM, apM2, two, hlen, g3, g30, g4, g40, sr, hb2, npw, hrow, hzz]
  refine CThen.by (half_c r rb v bs _ _ ((h.set hp1).app _)) ?_
  simp only [push_cast, simprocAttr, apM, apM2, two, hlen, g3, g30, g4, g40, sr, hb2, npw, hrow, hzz]
  refine Thn_n ?_
  refine hK _ _ ?_
  clear hK K
  refine AW.seq_k fun K hK => ?_
  refine AW.seq_k fun K hK => ?_
  refine AW.region (by decide) ?_
  simp only [push_cast, simprocAttr, apM, apM2, two, hlen, g3, g30, g4, g40, sr, hb2, npw, hrow, hzz]
  refine CThen.by (err_c r rb v bs _ _ ((h.set hp2).app _)) ?_
  simp only [push_cast, simprocAttr, apM, apM2, two, hlen, g3, g30, g4, g40, sr, hb2, npw, hrow, hzz]
  refine CThen.by (sizeRight_c _ _ _) ?_
  simp only [push_cast, simprocAttr, apM, apM2, two, hlen, g3, g30, g4, g40, sr, hb2, npw, hrow, hzz]
  refine Thn_n ?_
  refine hK _ _ ?_
  clear hK K
  refine AW.cond_t rfl ?_
  refine AW.region (by decide) ?_
  simp only [push_cast, simprocAttr, apM, apM2, two, hlen, g3, g30, g4, g40, sr, hb2, npw, hrow, hzz]
  refine CThen.by (fail_c r rb v bs _ 10 _ ((h.set hp2).app _) (by decide)) ?_
  simp only [push_cast, simprocAttr, apM, apM2, two, hlen, g3, g30, g4, g40, sr, hb2, npw, hrow, hzz]
  refine Thn_n ?_
  refine hK _ _ ?_
  clear hK K
  refine AW.seq_k fun K hK => ?_
  refine AW.seq_k fun K hK => ?_
  refine AW.region (by decide) ?_
  simp only [push_cast, simprocAttr, apM, apM2, two, hlen, g3, g30, g4, g40, sr, hb2, npw, hrow, hzz]
  refine CThen.by (pixels_c _ _ _) ?_
  simp only [push_cast, simprocAttr, apM, apM2, two, hlen, g3, g30, g4, g40, sr, hb2, npw, hrow, hzz]
  refine Thn_n ?_
  refine hK _ _ ?_
  clear hK K
  refine AW.block ?_
  refine AW.nilCell 68 3 (m.length + 1) 2 (by simp only [push_cast, simprocAttr, apM, apM2, two, hlen, g3, g30, g4, g40, sr, hb2, npw, hrow, hzz]; first | done | rfl) (by intro e; cases e) rfl ?_
  try simp only [push_cast, simprocAttr, apM, apM2, two, hlen, g3, g30, g4, g40, sr, hb2, npw, hrow, hzz]
  refine AW.loopK [0, 2, 3, 25] (fun i => i ≤ i0) (fun i => [(26, .one (.int .i64 (i : Int)))]) (fun i => [(r, ⟨.fix, 110, 0, 0, [cP rb v bs.length (hsS bs s i), .int .i64 (hsS bs s i).2]⟩), (m.length + 1, ⟨.fix, 35, 0, 0, [.int .i64 (rdV bs 2 s), .int .i64 (rdV bs 2 (rdS bs.length 2 s)), .sl (m.length + 2) i 0 i]⟩), (m.length + 2, ⟨.grow, 68, i, 3, dl i (GH bs s)⟩)]) (fun i => i0 - i) 0 (by omega) ?_ ?_ fun i hi8 => ?_
  · first | rfl | (simp only [Keeps, Tm.get_cons, Nat.reduceEqDiff, ↓reduceIte, if_true, if_false, ite_true, ite_false, true_and, and_true, and_self, reduceCtorEq, dl, hsS, hsh, Int.natCast_zero] <;> rfl)
  · first | rfl | (simp only [setAll, push_cast, simprocAttr, apM, apM2, two, hlen, g3, g30, g4, g40, sr, hb2, npw, hrow, hzz, dl, hsS, hsh, Int.natCast_zero] <;> rfl)
  try simp only [keepL, setAll, push_cast, simprocAttr, apM, apM2, two, hlen, g3, g30, g4, g40, sr, hb2, npw, hrow, hzz]
  refine AW.seq_k fun K hK => ?_
  refine AW.region (by decide) ?_
  simp only [push_cast, simprocAttr, apM, apM2, two, hlen, g3, g30, g4, g40, sr, hb2, npw, hrow, hzz]
  refine Thn_n ?_
  refine hK _ _ ?_
  clear hK K
  refine AW.seq_k fun K hK => ?_
  refine AW.cond rfl (fun h27 => ?_) (fun h27 => ?_)
  · have hlt : i < npS bs s := by have := of_decide_eq_true h27; omega
    have c1 : (0 : Int) ≤ (i : Int) := by omega
    have c2 : (i : Int) < (npS bs s : Int) := by omega
    have gi := dl_len i (GH bs s)
    have q1 : i + 1 ≤ 140737488355328 := by omega
    have q2 : (i + 1) * 24 ≤ 140737488355328 := by omega
    have hsx : v3S bs (hsS bs s i) = hsS bs s (i + 1) := rfl
    have dlx : dl i (GH bs s) ++ [.int .i64 (v3V bs (hsS bs s i) 0), .int .i64 (v3V bs (hsS bs s i) 1), .int .i64 (v3V bs (hsS bs s i) 2)] = dl (i + 1) (GH bs s) := rfl
    refine AW.skip ?_
    refine Thn_n ?_
    refine hK _ _ ?_
    clear hK K
    refine AW.seq_k fun K hK => ?_
    refine AW.block ?_
    refine AW.seq_k fun K hK => ?_
    refine AW.seq_k fun K hK => ?_
    refine AW.region (by decide) ?_
    simp only [push_cast, simprocAttr, apM, apM2, two, hlen, g3, g30, g4, g40, sr, hb2, npw, hrow, hzz, c1, c2, gi, q1, q2]
    refine CThen.by (err_c r rb v bs _ _ ((h.set (hpi i)).app _)) ?_
    simp only [push_cast, simprocAttr, apM, apM2, two, hlen, g3, g30, g4, g40, sr, hb2, npw, hrow, hzz, c1, c2, gi, q1, q2]
    refine Thn_n ?_
    refine hK _ _ ?_
    clear hK K
    refine AW.cond rfl (fun h30 => ?_) (fun h30 => ?_)
    · have hi0 : i = i0 := by
        rcases Nat.lt_or_ge i i0 with hc | hc
        · exact absurd (hall i hc) (by simpa using h30)
        · omega
      subst hi0
      rw [hN] at hQ
      refine AW.seq_k fun K hK => ?_
      refine AW.region (by decide) ?_
      simp only [push_cast, simprocAttr, apM, apM2, two, hlen, g3, g30, g4, g40, sr, hb2, npw, hrow, hzz, c1, c2, gi, q1, q2]
      refine Thn_n ?_
      refine hK _ _ ?_
      clear hK K
      refine AW.ret ?_
      refine Thn_r ?_
      refine InB_r ?_
      refine Thn_r ?_
      refine Thn_r ?_
      refine InB_r ?_
      refine Thn_r ?_
      refine hQ _ _ _ ?_
      first | refine RetP.dropM0 (pM_len _) (Or.inr rfl) ?_ ?_ (hwfM _) | refine RetP.dropM (pM_len _) (Or.inr rfl) ?_ ?_ (hwfM _)
      · simp only [resA, resOne, resTv, AV.tv, push_cast, simprocAttr, g30]
      · rfl
      
    · have hii : i < i0 := by
        rcases Nat.lt_or_ge i i0 with hc | hc
        · exact hc
        · exact absurd (by simpa using h30) (by rw [show i = i0 by omega]; exact herr)
      refine AW.skip ?_
      refine Thn_n ?_
      refine hK _ _ ?_
      clear hK K
      refine AW.drawX fol (by kernel_rfl) ?_
      refine DX.split 1 3 (by decide) ?_ ?_
      focus
        refine DX.run [0, 1, 2, 3, 4, 5, 6, 7] [.val, .rd 0, .val, .wr, .ext, .wr, .val, .wr] (by simp only [permL, reOp, List.idxOf_cons, push_cast, simprocAttr, apM, apM2, two, hlen, g3, g30, g4, g40, sr, hb2, npw, hrow, hzz, c1, c2, gi, q1, q2]; first | done | rfl) (by kernel_rfl) ?_
        simp only [push_cast, simprocAttr, apM, apM2, two, hlen, g3, g30, g4, g40, sr, hb2, npw, hrow, hzz, c1, c2, gi, q1, q2]
        refine DCallW.by (rdhue_c r rb v bs _ _ ((h.set (hpi i)).app _)) ?_
        simp only [push_cast, simprocAttr, apM, apM2, two, hlen, g3, g30, g4, g40, sr, hb2, npw, hrow, hzz, c1, c2, gi, q1, q2]
        refine DExt.by (by first | rfl | (simp only [List.append_assoc, List.cons_append, List.nil_append]; rfl)) ?_
        simp only [push_cast, simprocAttr, apM, apM2, two, hlen, g3, g30, g4, g40, sr, hb2, npw, hrow, hzz, c1, c2, gi, q1, q2]
        skip
      rotate_left 1
      focus
        refine DX.run [0, 2, 3, 1, 4, 5, 6, 7] [.val, .val, .wr, .rd 1, .ext, .wr, .val, .wr] (by simp only [permL, reOp, List.idxOf_cons, push_cast, simprocAttr, apM, apM2, two, hlen, g3, g30, g4, g40, sr, hb2, npw, hrow, hzz, c1, c2, gi, q1, q2]; first | done | rfl) (by kernel_rfl) ?_
        simp only [push_cast, simprocAttr, apM, apM2, two, hlen, g3, g30, g4, g40, sr, hb2, npw, hrow, hzz, c1, c2, gi, q1, q2]
        refine DCallW.by (rdhue_c r rb v bs _ _ ((h.set (hpi i)).app _)) ?_
        simp only [push_cast, simprocAttr, apM, apM2, two, hlen, g3, g30, g4, g40, sr, hb2, npw, hrow, hzz, c1, c2, gi, q1, q2]
        refine DExt.by (by first | rfl | (simp only [List.append_assoc, List.cons_append, List.nil_append]; rfl)) ?_
        simp only [push_cast, simprocAttr, apM, apM2, two, hlen, g3, g30, g4, g40, sr, hb2, npw, hrow, hzz, c1, c2, gi, q1, q2]
        skip
      rotate_left 1
      all_goals (
      refine InB_n ?_
      refine Thn_n ?_
      refine hK _ _ ?_
      clear hK K
      refine AW.region (by decide) ?_
      simp only [push_cast, simprocAttr, apM, apM2, two, hlen, g3, g30, g4, g40, sr, hb2, npw, hrow, hzz, c1, c2, gi, q1, q2]
      refine Thn_n ?_
      have hwi : IntKind.i64.wrap ((i:Int)+1) = (i:Int)+1 := wi (by omega)
      refine ⟨i + 1, by omega, by omega, ?_⟩
      try simp only [keepL, setAll, push_cast, simprocAttr, apM, apM2, two, hlen, g3, g30, g4, g40, sr, hb2, npw, hrow, hzz, c1, c2, gi, q1, q2, hwi, hsx, dlx]
      exact Weak.to (extra := [_]) (by simp only [Keeps, Tm.get_cons, Nat.reduceEqDiff, ↓reduceIte, if_true, if_false, ite_true, ite_false, true_and, and_true, and_self, reduceCtorEq, hwi, hsx, dlx]) (by first | rfl | (simp only [List.append_assoc, List.cons_append, List.nil_append]; rfl)) (by first | rfl | (simp [AV.below, CV.below, pM_len, dl_below]; done) | (simp [AV.below, CV.below, pM_len, dl_below]; omega)) (by refine MWf.app ((hwfM _).grow (by simp [pM_len])) ?_; repeat (first | exact MWf_nil | (refine MWf_cons ?_ ?_; · first | rfl | exact dl_below _ _ _ | (simp [CV.below, pM_len]; done) | (simp [CV.below, pM_len]; omega))))
      )
  · exfalso
    have := of_decide_eq_false h27; omega
theorem take2B (r rb v : Nat) (bs : List Int) (s : Nat × Int) (m : AMem) (h : RP m r rb v bs s) (h2 : (rdS bs.length 2 (rdS bs.length 2 s)).2 = 0) (hz : szS bs s = false) (hall : ∀ k, k < npS bs s → (hsS bs s k).2 = 0) : Ctr Try.prog 42 [.one (.ptr r 0 0)] m (.agg [.int .i64 (rdV bs 2 s), .int .i64 (rdV bs 2 (rdS bs.length 2 s)), .sl (m.length + 2) (npS bs s) 0 (npS bs s)]) (pM m r rb v bs (hsS bs s (npS bs s)) ++ [⟨.fix, 35, 0, 0, [.int .i64 (rdV bs 2 s), .int .i64 (rdV bs 2 (rdS bs.length 2 s)), .sl (m.length + 2) (npS bs s) 0 (npS bs s)]⟩, ⟨.fix, 35, 0, 0, [.int .i64 (rdV bs 2 s), .int .i64 (rdV bs 2 (rdS bs.length 2 s)), .sl (m.length + 2) (npS bs s) 0 (npS bs s)]⟩, ⟨.grow, 68, npS bs s, 3, dl (npS bs s) (GH bs s)⟩]) := by
  refine Ctr.enter Try.func42 rfl (by decide) (rs := [.cell 2 35]) (nt := 41) rfl rfl fun hwf Q hQ => ?_
  obtain ⟨kb, eb, hb⟩ := h.hb
  have lr := h.lt
  have lb := get_lt hb
  have hwfM := fun t => @pM_wf m.length m r rb v bs t lb hwf
  have apM := fun L t => @pM_app m r rb v bs lr L t
  have two := fun a b => @pM_two m r rb v bs a b
  have apM2 := fun a L t => (@pM_app (pM m r rb v bs a) r rb v bs (by rw [pM_len]; exact lr) L t).trans (by rw [pM_two])
  have hlen := fun t => @pM_len m r rb v bs t
  have g3 : ∀ t b L k, (pM m r rb v bs t ++ b :: L)[m.length + k]? = (b :: L)[k]? := fun t b L k => by rw [← @pM_len m r rb v bs t, lk_app]
  have g30 : ∀ t b L, (pM m r rb v bs t ++ b :: L)[m.length]? = some b := fun t b L => by rw [← @pM_len m r rb v bs t, lk_app0]; rfl
  have g4 : ∀ t b L k c, (pM m r rb v bs t ++ b :: L).set (m.length + k) c = pM m r rb v bs t ++ (b :: L).set k c := fun t b L k c => by rw [← @pM_len m r rb v bs t, set_app]
  have g40 : ∀ t b L c, (pM m r rb v bs t ++ b :: L).set m.length c = pM m r rb v bs t ++ c :: L := fun t b L c => by rw [← @pM_len m r rb v bs t, set_app0]; rfl
  have sr : ∀ t u L, (pM m r rb v bs t ++ L).set r ⟨.fix, 110, 0, 0, [cP rb v bs.length u, .int .i64 u.2]⟩ = pM m r rb v bs u ++ L := fun t u L => by rw [List.set_append_left _ _ (by rw [pM_len]; exact lr)]; exact congrArg (· ++ L) (pM_two t u)
  have hp1 := rdS_le (k := 2) h.hp
  have hp2 := rdS_le (k := 2) hp1
  have hps := shS_le (bs := bs) h.hp
  have hpi := fun i => hsS_le (bs := bs) h.hp i
  have npw := @np_w bs s h.hu
  have npl := @np_le bs s h.hu
  have hrow := fun (G : Nat → Nat → Int) n => dl_len n G
  have hsh : shS bs s = flS 10 (rdS bs.length 2 (rdS bs.length 2 s)) := by unfold shS; rw [if_pos ⟨h2, hz⟩]
  have hb2 : ((rdS bs.length 2 (rdS bs.length 2 s)).2 == 0) = true := by simpa using h2
  have hzz : szR (rdV bs 2 s) (rdV bs 2 (rdS bs.length 2 s)) = false := hz
  
  refine AW.seq_k fun K hK => ?_
  refine AW.region (by decide) ?_
  simp only [push_cast, simprocAttr, apM, apM2, two, hlen, g3, g30, g4, g40, sr, hb2, npw, hrow, hzz]
  refine Thn_n ?_
  refine hK _ _ ?_
  clear hK K
  refine AW.seq_k fun K hK => ?_
  refine AW.region (by decide) ?_
  simp only [push_cast, simprocAttr, apM, apM2, two, hlen, g3, g30, g4, g40, sr, hb2, npw, hrow, hzz]
  refine CThen.by (half_c r rb v bs s _ (h.app _)) ?_
  simp only [push_cast, simprocAttr, apM, apM2, two, hlen, g3, g30, g4, g40, sr, hb2, npw, hrow, hzz]
  refine Thn_n ?_
  refine hK _ _ ?_
  clear hK K
  refine AW.seq_k fun K hK => ?_
  refine AW.region (by decide) ?_
  simp only [push_cast, simprocAttr, apM, apM2, two, hlen, g3, g30, g4, g40, sr, hb2, npw, hrow, hzz]
  refine CThen.by (half_c r rb v bs _ _ ((h.set hp1).app _)) ?_
  simp only [push_cast, simprocAttr, apM, apM2, two, hlen, g3, g30, g4, g40, sr, hb2, npw, hrow, hzz]
  refine Thn_n ?_
  refine hK _ _ ?_
  clear hK K
  refine AW.seq_k fun K hK => ?_
  refine AW.seq_k fun K hK => ?_
  refine AW.region (by decide) ?_
  simp only [push_cast, simprocAttr, apM, apM2, two, hlen, g3, g30, g4, g40, sr, hb2, npw, hrow, hzz]
  refine CThen.by (err_c r rb v bs _ _ ((h.set hp2).app _)) ?_
  simp only [push_cast, simprocAttr, apM, apM2, two, hlen, g3, g30, g4, g40, sr, hb2, npw, hrow, hzz]
  refine CThen.by (sizeRight_c _ _ _) ?_
  simp only [push_cast, simprocAttr, apM, apM2, two, hlen, g3, g30, g4, g40, sr, hb2, npw, hrow, hzz]
  refine Thn_n ?_
  refine hK _ _ ?_
  clear hK K
  refine AW.cond_t rfl ?_
  refine AW.region (by decide) ?_
  simp only [push_cast, simprocAttr, apM, apM2, two, hlen, g3, g30, g4, g40, sr, hb2, npw, hrow, hzz]
  refine CThen.by (fail_c r rb v bs _ 10 _ ((h.set hp2).app _) (by decide)) ?_
  simp only [push_cast, simprocAttr, apM, apM2, two, hlen, g3, g30, g4, g40, sr, hb2, npw, hrow, hzz]
  refine Thn_n ?_
  refine hK _ _ ?_
  clear hK K
  refine AW.seq_k fun K hK => ?_
  refine AW.seq_k fun K hK => ?_
  refine AW.region (by decide) ?_
  simp only [push_cast, simprocAttr, apM, apM2, two, hlen, g3, g30, g4, g40, sr, hb2, npw, hrow, hzz]
  refine CThen.by (pixels_c _ _ _) ?_
  simp only [push_cast, simprocAttr, apM, apM2, two, hlen, g3, g30, g4, g40, sr, hb2, npw, hrow, hzz]
  refine Thn_n ?_
  refine hK _ _ ?_
  clear hK K
  refine AW.block ?_
  refine AW.nilCell 68 3 (m.length + 1) 2 (by simp only [push_cast, simprocAttr, apM, apM2, two, hlen, g3, g30, g4, g40, sr, hb2, npw, hrow, hzz]; first | done | rfl) (by intro e; cases e) rfl ?_
  try simp only [push_cast, simprocAttr, apM, apM2, two, hlen, g3, g30, g4, g40, sr, hb2, npw, hrow, hzz]
  refine AW.loopK [0, 2, 3, 25] (fun i => i ≤ npS bs s) (fun i => [(26, .one (.int .i64 (i : Int)))]) (fun i => [(r, ⟨.fix, 110, 0, 0, [cP rb v bs.length (hsS bs s i), .int .i64 (hsS bs s i).2]⟩), (m.length + 1, ⟨.fix, 35, 0, 0, [.int .i64 (rdV bs 2 s), .int .i64 (rdV bs 2 (rdS bs.length 2 s)), .sl (m.length + 2) i 0 i]⟩), (m.length + 2, ⟨.grow, 68, i, 3, dl i (GH bs s)⟩)]) (fun i => npS bs s - i) 0 (by omega) ?_ ?_ fun i hi8 => ?_
  · first | rfl | (simp only [Keeps, Tm.get_cons, Nat.reduceEqDiff, ↓reduceIte, if_true, if_false, ite_true, ite_false, true_and, and_true, and_self, reduceCtorEq, dl, hsS, hsh, Int.natCast_zero] <;> rfl)
  · first | rfl | (simp only [setAll, push_cast, simprocAttr, apM, apM2, two, hlen, g3, g30, g4, g40, sr, hb2, npw, hrow, hzz, dl, hsS, hsh, Int.natCast_zero] <;> rfl)
  try simp only [keepL, setAll, push_cast, simprocAttr, apM, apM2, two, hlen, g3, g30, g4, g40, sr, hb2, npw, hrow, hzz]
  refine AW.seq_k fun K hK => ?_
  refine AW.region (by decide) ?_
  simp only [push_cast, simprocAttr, apM, apM2, two, hlen, g3, g30, g4, g40, sr, hb2, npw, hrow, hzz]
  refine Thn_n ?_
  refine hK _ _ ?_
  clear hK K
  refine AW.seq_k fun K hK => ?_
  refine AW.cond rfl (fun h27 => ?_) (fun h27 => ?_)
  · have hlt : i < npS bs s := by have := of_decide_eq_true h27; omega
    have c1 : (0 : Int) ≤ (i : Int) := by omega
    have c2 : (i : Int) < (npS bs s : Int) := by omega
    have gi := dl_len i (GH bs s)
    have q1 : i + 1 ≤ 140737488355328 := by omega
    have q2 : (i + 1) * 24 ≤ 140737488355328 := by omega
    have hsx : v3S bs (hsS bs s i) = hsS bs s (i + 1) := rfl
    have dlx : dl i (GH bs s) ++ [.int .i64 (v3V bs (hsS bs s i) 0), .int .i64 (v3V bs (hsS bs s i) 1), .int .i64 (v3V bs (hsS bs s i) 2)] = dl (i + 1) (GH bs s) := rfl
    have hok : ((hsS bs s i).2 != 0) = false := by simpa using hall i hlt
    refine AW.skip ?_
    refine Thn_n ?_
    refine hK _ _ ?_
    clear hK K
    refine AW.seq_k fun K hK => ?_
    refine AW.block ?_
    refine AW.seq_k fun K hK => ?_
    refine AW.seq_k fun K hK => ?_
    refine AW.region (by decide) ?_
    simp only [push_cast, simprocAttr, apM, apM2, two, hlen, g3, g30, g4, g40, sr, hb2, npw, hrow, hzz, c1, c2, gi, q1, q2, hok]
    refine CThen.by (err_c r rb v bs _ _ ((h.set (hpi i)).app _)) ?_
    simp only [push_cast, simprocAttr, apM, apM2, two, hlen, g3, g30, g4, g40, sr, hb2, npw, hrow, hzz, c1, c2, gi, q1, q2, hok]
    refine Thn_n ?_
    refine hK _ _ ?_
    clear hK K
    refine AW.cond_f rfl ?_
    refine AW.skip ?_
    refine Thn_n ?_
    refine hK _ _ ?_
    clear hK K
    refine AW.drawX fol (by kernel_rfl) ?_
    refine DX.split 1 3 (by decide) ?_ ?_
    focus
      refine DX.run [0, 1, 2, 3, 4, 5, 6, 7] [.val, .rd 0, .val, .wr, .ext, .wr, .val, .wr] (by simp only [permL, reOp, List.idxOf_cons, push_cast, simprocAttr, apM, apM2, two, hlen, g3, g30, g4, g40, sr, hb2, npw, hrow, hzz, c1, c2, gi, q1, q2, hok]; first | done | rfl) (by kernel_rfl) ?_
      simp only [push_cast, simprocAttr, apM, apM2, two, hlen, g3, g30, g4, g40, sr, hb2, npw, hrow, hzz, c1, c2, gi, q1, q2, hok]
      refine DCallW.by (rdhue_c r rb v bs _ _ ((h.set (hpi i)).app _)) ?_
      simp only [push_cast, simprocAttr, apM, apM2, two, hlen, g3, g30, g4, g40, sr, hb2, npw, hrow, hzz, c1, c2, gi, q1, q2, hok]
      refine DExt.by (by first | rfl | (simp only [List.append_assoc, List.cons_append, List.nil_append]; rfl)) ?_
      simp only [push_cast, simprocAttr, apM, apM2, two, hlen, g3, g30, g4, g40, sr, hb2, npw, hrow, hzz, c1, c2, gi, q1, q2, hok]
      skip
    rotate_left 1
    focus
      refine DX.run [0, 2, 3, 1, 4, 5, 6, 7] [.val, .val, .wr, .rd 1, .ext, .wr, .val, .wr] (by simp only [permL, reOp, List.idxOf_cons, push_cast, simprocAttr, apM, apM2, two, hlen, g3, g30, g4, g40, sr, hb2, npw, hrow, hzz, c1, c2, gi, q1, q2, hok]; first | done | rfl) (by kernel_rfl) ?_
      simp only [push_cast, simprocAttr, apM, apM2, two, hlen, g3, g30, g4, g40, sr, hb2, npw, hrow, hzz, c1, c2, gi, q1, q2, hok]
      refine DCallW.by (rdhue_c r rb v bs _ _ ((h.set (hpi i)).app _)) ?_
      simp only [push_cast, simprocAttr, apM, apM2, two, hlen, g3, g30, g4, g40, sr, hb2, npw, hrow, hzz, c1, c2, gi, q1, q2, hok]
      refine DExt.by (by first | rfl | (simp only [List.append_assoc, List.cons_append, List.nil_append]; rfl)) ?_
      simp only [push_cast, simprocAttr, apM, apM2, two, hlen, g3, g30, g4, g40, sr, hb2, npw, hrow, hzz, c1, c2, gi, q1, q2, hok]
      skip
    rotate_left 1
    all_goals (
    refine InB_n ?_
    refine Thn_n ?_
    refine hK _ _ ?_
    clear hK K
    refine AW.region (by decide) ?_
    simp only [push_cast, simprocAttr, apM, apM2, two, hlen, g3, g30, g4, g40, sr, hb2, npw, hrow, hzz, c1, c2, gi, q1, q2, hok]
    refine Thn_n ?_
    have hwi : IntKind.i64.wrap ((i:Int)+1) = (i:Int)+1 := wi (by omega)
    refine ⟨i + 1, by omega, by omega, ?_⟩
    try simp only [keepL, setAll, push_cast, simprocAttr, apM, apM2, two, hlen, g3, g30, g4, g40, sr, hb2, npw, hrow, hzz, c1, c2, gi, q1, q2, hok, hwi, hsx, dlx]
    exact Weak.to (extra := [_]) (by simp only [Keeps, Tm.get_cons, Nat.reduceEqDiff, ↓reduceIte, if_true, if_false, ite_true, ite_false, true_and, and_true, and_self, reduceCtorEq, hwi, hsx, dlx]) (by first | rfl | (simp only [List.append_assoc, List.cons_append, List.nil_append]; rfl)) (by first | rfl | (simp [AV.below, CV.below, pM_len, dl_below]; done) | (simp [AV.below, CV.below, pM_len, dl_below]; omega)) (by refine MWf.app ((hwfM _).grow (by simp [pM_len])) ?_; repeat (first | exact MWf_nil | (refine MWf_cons ?_ ?_; · first | rfl | exact dl_below _ _ _ | (simp [CV.below, pM_len]; done) | (simp [CV.below, pM_len]; omega))))
    )
  · have hin : i = npS bs s := by have := of_decide_eq_false h27; omega
    subst hin
    refine AW.exit ?_
    refine Thn_e ?_
    clear hK K
    refine Thn_e ?_
    refine InB_here ?_
    refine Thn_n ?_
    refine hK _ _ ?_
    clear hK K
    refine AW.seq_k fun K hK => ?_
    refine AW.region (by decide) ?_
    simp only [push_cast, simprocAttr, apM, apM2, two, hlen, g3, g30, g4, g40, sr, hb2, npw, hrow, hzz]
    refine Thn_n ?_
    refine hK _ _ ?_
    clear hK K
    refine AW.ret ?_
    refine hQ _ _ _ ?_
    first | refine RetP.keep (Or.inr rfl) ?_ | refine RetP.keep (Or.inl rfl) ?_
    · simp only [resA, resOne, resTv, AV.tv, push_cast, simprocAttr, g30]
    
theorem take3A (r rb v : Nat) (bs : List Int) (s : Nat × Int) (m : AMem) (h : RP m r rb v bs s) (h2 : ¬ (rdS bs.length 2 (rdS bs.length 2 s)).2 = 0) (i0 : Nat) (hi0 : i0 < npS bs s) (hall : ∀ k, k < i0 → (hsS bs s k).2 = 0) (herr : ¬ (hsS bs s i0).2 = 0) : Ctr Try.prog 42 [.one (.ptr r 0 0)] m (.agg [.int .i64 0, .int .i64 0, .nils]) (pM m r rb v bs (hsS bs s (npS bs s))) := by
  refine Ctr.enter Try.func42 rfl (by decide) (rs := [.cell 2 35]) (nt := 41) rfl rfl fun hwf Q hQ => ?_
  obtain ⟨kb, eb, hb⟩ := h.hb
  have lr := h.lt
  have lb := get_lt hb
  have hwfM := fun t => @pM_wf m.length m r rb v bs t lb hwf
  have apM := fun L t => @pM_app m r rb v bs lr L t
  have two := fun a b => @pM_two m r rb v bs a b
  have apM2 := fun a L t => (@pM_app (pM m r rb v bs a) r rb v bs (by rw [pM_len]; exact lr) L t).trans (by rw [pM_two])
  have hlen := fun t => @pM_len m r rb v bs t
  have g3 : ∀ t b L k, (pM m r rb v bs t ++ b :: L)[m.length + k]? = (b :: L)[k]? := fun t b L k => by rw [← @pM_len m r rb v bs t, lk_app]
  have g30 : ∀ t b L, (pM m r rb v bs t ++ b :: L)[m.length]? = some b := fun t b L => by rw [← @pM_len m r rb v bs t, lk_app0]; rfl
  have g4 : ∀ t b L k c, (pM m r rb v bs t ++ b :: L).set (m.length + k) c = pM m r rb v bs t ++ (b :: L).set k c := fun t b L k c => by rw [← @pM_len m r rb v bs t, set_app]
  have g40 : ∀ t b L c, (pM m r rb v bs t ++ b :: L).set m.length c = pM m r rb v bs t ++ c :: L := fun t b L c => by rw [← @pM_len m r rb v bs t, set_app0]; rfl
  have sr : ∀ t u L, (pM m r rb v bs t ++ L).set r ⟨.fix, 110, 0, 0, [cP rb v bs.length u, .int .i64 u.2]⟩ = pM m r rb v bs u ++ L := fun t u L => by rw [List.set_append_left _ _ (by rw [pM_len]; exact lr)]; exact congrArg (· ++ L) (pM_two t u)
  have hp1 := rdS_le (k := 2) h.hp
  have hp2 := rdS_le (k := 2) hp1
  have hps := shS_le (bs := bs) h.hp
  have hpi := fun i => hsS_le (bs := bs) h.hp i
  have npw := @np_w bs s h.hu
  have npl := @np_le bs s h.hu
  have hrow := fun (G : Nat → Nat → Int) n => dl_len n G
  have hsh : shS bs s = (rdS bs.length 2 (rdS bs.length 2 s)) := by unfold shS; rw [if_neg (fun hc => h2 hc.1)]
  have hb2 : ((rdS bs.length 2 (rdS bs.length 2 s)).2 == 0) = false := by simpa using h2
  have hzz : True := trivial
  have hN : hsS bs s (npS bs s) = hsS bs s i0 := by have := hs_err herr (npS bs s - i0); rwa [show i0 + (npS bs s - i0) = npS bs s by omega] at this
  
  refine AW.seq_k fun K hK => ?_
  refine AW.region (by decide) ?_
  simp only [push_cast, simprocAttr, apM, apM2, two, hlen, g3, g30, g4, g40, sr, hb2, npw, hrow]
  refine Thn_n ?_
  refine hK _ _ ?_
  clear hK K
  refine AW.seq_k fun K hK => ?_
  refine AW.region (by decide) ?_
  simp only [push_cast, simprocAttr, apM, apM2, two, hlen, g3, g30, g4, g40, sr, hb2, npw, hrow]
  refine CThen.by (half_c r rb v bs s _ (h.app _)) ?_
  simp only [push_cast, simprocAttr, apM, apM2, two, hlen, g3, g30, g4, g40, sr, hb2, npw, hrow]
  refine Thn_n ?_
  refine hK _ _ ?_
  clear hK K
  refine AW.seq_k fun K hK => ?_
  refine AW.region (by decide) ?_
  simp only [push_cast, simprocAttr, apM, apM2, two, hlen, g3, g30, g4, g40, sr, hb2, npw, hrow]
  refine CThen.by (half_c r rb v bs _ _ ((h.set hp1).app _)) ?_
  simp only [push_cast, simprocAttr, apM, apM2, two, hlen, g3, g30, g4, g40, sr, hb2, npw, hrow]
  refine Thn_n ?_
  refine hK _ _ ?_
  clear hK K
  refine AW.seq_k fun K hK => ?_
  refine AW.seq_k fun K hK => ?_
  refine AW.region (by decide) ?_
  simp only [push_cast, simprocAttr, apM, apM2, two, hlen, g3, g30, g4, g40, sr, hb2, npw, hrow]
  refine CThen.by (err_c r rb v bs _ _ ((h.set hp2).app _)) ?_
  simp only [push_cast, simprocAttr, apM, apM2, two, hlen, g3, g30, g4, g40, sr, hb2, npw, hrow]
  refine Thn_n ?_
  refine hK _ _ ?_
  clear hK K
  refine AW.cond_f rfl ?_
  refine AW.skip ?_
  refine Thn_n ?_
  refine hK _ _ ?_
  clear hK K
  refine AW.seq_k fun K hK => ?_
  refine AW.seq_k fun K hK => ?_
  refine AW.region (by decide) ?_
  simp only [push_cast, simprocAttr, apM, apM2, two, hlen, g3, g30, g4, g40, sr, hb2, npw, hrow]
  refine CThen.by (pixels_c _ _ _) ?_
  simp only [push_cast, simprocAttr, apM, apM2, two, hlen, g3, g30, g4, g40, sr, hb2, npw, hrow]
  refine Thn_n ?_
  refine hK _ _ ?_
  clear hK K
  refine AW.block ?_
  refine AW.nilCell 68 3 (m.length + 1) 2 (by simp only [push_cast, simprocAttr, apM, apM2, two, hlen, g3, g30, g4, g40, sr, hb2, npw, hrow]; first | done | rfl) (by intro e; cases e) rfl ?_
  try simp only [push_cast, simprocAttr, apM, apM2, two, hlen, g3, g30, g4, g40, sr, hb2, npw, hrow]
  refine AW.loopK [0, 2, 3, 25] (fun i => i ≤ i0) (fun i => [(26, .one (.int .i64 (i : Int)))]) (fun i => [(r, ⟨.fix, 110, 0, 0, [cP rb v bs.length (hsS bs s i), .int .i64 (hsS bs s i).2]⟩), (m.length + 1, ⟨.fix, 35, 0, 0, [.int .i64 (rdV bs 2 s), .int .i64 (rdV bs 2 (rdS bs.length 2 s)), .sl (m.length + 2) i 0 i]⟩), (m.length + 2, ⟨.grow, 68, i, 3, dl i (GH bs s)⟩)]) (fun i => i0 - i) 0 (by omega) ?_ ?_ fun i hi8 => ?_
  · first | rfl | (simp only [Keeps, Tm.get_cons, Nat.reduceEqDiff, ↓reduceIte, if_true, if_false, ite_true, ite_false, true_and, and_true, and_self, reduceCtorEq, dl, hsS, hsh, Int.natCast_zero] <;> rfl)
  · first | rfl | (simp only [setAll, push_cast, simprocAttr, apM, apM2, two, hlen, g3, g30, g4, g40, sr, hb2, npw, hrow, dl, hsS, hsh, Int.natCast_zero] <;> rfl)
  try simp only [keepL, setAll, push_cast, simprocAttr, apM, apM2, two, hlen, g3, g30, g4, g40, sr, hb2, npw, hrow]
  refine AW.seq_k fun K hK => ?_
  refine AW.region (by decide) ?_
  simp only [push_cast, simprocAttr, apM, apM2, two, hlen, g3, g30, g4, g40, sr, hb2, npw, hrow]
  refine Thn_n ?_
  refine hK _ _ ?_
  clear hK K
  refine AW.seq_k fun K hK => ?_
  refine AW.cond rfl (fun h27 => ?_) (fun h27 => ?_)
  · have hlt : i < npS bs s := by have := of_decide_eq_true h27; omega
    have c1 : (0 : Int) ≤ (i : Int) := by omega
    have c2 : (i : Int) < (npS bs s : Int) := by omega
    have gi := dl_len i (GH bs s)
    have q1 : i + 1 ≤ 140737488355328 := by omega
    have q2 : (i + 1) * 24 ≤ 140737488355328 := by omega
    have hsx : v3S bs (hsS bs s i) = hsS bs s (i + 1) := rfl
    have dlx : dl i (GH bs s) ++ [.int .i64 (v3V bs (hsS bs s i) 0), .int .i64 (v3V bs (hsS bs s i) 1), .int .i64 (v3V bs (hsS bs s i) 2)] = dl (i + 1) (GH bs s) := rfl
    refine AW.skip ?_
    refine Thn_n ?_
    refine hK _ _ ?_
    clear hK K
    refine AW.seq_k fun K hK => ?_
    refine AW.block ?_
    refine AW.seq_k fun K hK => ?_
    refine AW.seq_k fun K hK => ?_
    refine AW.region (by decide) ?_
    simp only [push_cast, simprocAttr, apM, apM2, two, hlen, g3, g30, g4, g40, sr, hb2, npw, hrow, c1, c2, gi, q1, q2]
    refine CThen.by (err_c r rb v bs _ _ ((h.set (hpi i)).app _)) ?_
    simp only [push_cast, simprocAttr, apM, apM2, two, hlen, g3, g30, g4, g40, sr, hb2, npw, hrow, c1, c2, gi, q1, q2]
    refine Thn_n ?_
    refine hK _ _ ?_
    clear hK K
    refine AW.cond rfl (fun h30 => ?_) (fun h30 => ?_)
    · have hi0 : i = i0 := by
        rcases Nat.lt_or_ge i i0 with hc | hc
        · exact absurd (hall i hc) (by simpa using h30)
        · omega
      subst hi0
      rw [hN] at hQ
      refine AW.seq_k fun K hK => ?_
      refine AW.region (by decide) ?_
      simp only [push_cast, simprocAttr, apM, apM2, two, hlen, g3, g30, g4, g40, sr, hb2, npw, hrow, c1, c2, gi, q1, q2]
      refine Thn_n ?_
      refine hK _ _ ?_
      clear hK K
      refine AW.ret ?_
      refine Thn_r ?_
      refine InB_r ?_
      refine Thn_r ?_
      refine Thn_r ?_
      refine InB_r ?_
      refine Thn_r ?_
      refine hQ _ _ _ ?_
      first | refine RetP.dropM0 (pM_len _) (Or.inr rfl) ?_ ?_ (hwfM _) | refine RetP.dropM (pM_len _) (Or.inr rfl) ?_ ?_ (hwfM _)
      · simp only [resA, resOne, resTv, AV.tv, push_cast, simprocAttr, g30]
      · rfl
      
    · have hii : i < i0 := by
        rcases Nat.lt_or_ge i i0 with hc | hc
        · exact hc
        · exact absurd (by simpa using h30) (by rw [show i = i0 by omega]; exact herr)
      refine AW.skip ?_
      refine Thn_n ?_
      refine hK _ _ ?_
      clear hK K
      refine AW.drawX fol (by kernel_rfl) ?_
      refine DX.split 1 3 (by decide) ?_ ?_
      focus
        refine DX.run [0, 1, 2, 3, 4, 5, 6, 7] [.val, .rd 0, .val, .wr, .ext, .wr, .val, .wr] (by simp only [permL, reOp, List.idxOf_cons, push_cast, simprocAttr, apM, apM2, two, hlen, g3, g30, g4, g40, sr, hb2, npw, hrow, c1, c2, gi, q1, q2]; first | done | rfl) (by kernel_rfl) ?_
        simp only [push_cast, simprocAttr, apM, apM2, two, hlen, g3, g30, g4, g40, sr, hb2, npw, hrow, c1, c2, gi, q1, q2]
        refine DCallW.by (rdhue_c r rb v bs _ _ ((h.set (hpi i)).app _)) ?_
        simp only [push_cast, simprocAttr, apM, apM2, two, hlen, g3, g30, g4, g40, sr, hb2, npw, hrow, c1, c2, gi, q1, q2]
        refine DExt.by (by first | rfl | (simp only [List.append_assoc, List.cons_append, List.nil_append]; rfl)) ?_
        simp only [push_cast, simprocAttr, apM, apM2, two, hlen, g3, g30, g4, g40, sr, hb2, npw, hrow, c1, c2, gi, q1, q2]
        skip
      rotate_left 1
      focus
        refine DX.run [0, 2, 3, 1, 4, 5, 6, 7] [.val, .val, .wr, .rd 1, .ext, .wr, .val, .wr] (by simp only [permL, reOp, List.idxOf_cons, push_cast, simprocAttr, apM, apM2, two, hlen, g3, g30, g4, g40, sr, hb2, npw, hrow, c1, c2, gi, q1, q2]; first | done | rfl) (by kernel_rfl) ?_
        simp only [push_cast, simprocAttr, apM, apM2, two, hlen, g3, g30, g4, g40, sr, hb2, npw, hrow, c1, c2, gi, q1, q2]
        refine DCallW.by (rdhue_c r rb v bs _ _ ((h.set (hpi i)).app _)) ?_
        simp only [push_cast, simprocAttr, apM, apM2, two, hlen, g3, g30, g4, g40, sr, hb2, npw, hrow, c1, c2, gi, q1, q2]
        refine DExt.by (by first | rfl | (simp only [List.append_assoc, List.cons_append, List.nil_append]; rfl)) ?_
        simp only [push_cast, simprocAttr, apM, apM2, two, hlen, g3, g30, g4, g40, sr, hb2, npw, hrow, c1, c2, gi, q1, q2]
        skip
      rotate_left 1
      all_goals (
      refine InB_n ?_
      refine Thn_n ?_
      refine hK _ _ ?_
      clear hK K
      refine AW.region (by decide) ?_
      simp only [push_cast, simprocAttr, apM, apM2, two, hlen, g3, g30, g4, g40, sr, hb2, npw, hrow, c1, c2, gi, q1, q2]
      refine Thn_n ?_
      have hwi : IntKind.i64.wrap ((i:Int)+1) = (i:Int)+1 := wi (by omega)
      refine ⟨i + 1, by omega, by omega, ?_⟩
      try simp only [keepL, setAll, push_cast, simprocAttr, apM, apM2, two, hlen, g3, g30, g4, g40, sr, hb2, npw, hrow, c1, c2, gi, q1, q2, hwi, hsx, dlx]
      exact Weak.to (extra := [_]) (by simp only [Keeps, Tm.get_cons, Nat.reduceEqDiff, ↓reduceIte, if_true, if_false, ite_true, ite_false, true_and, and_true, and_self, reduceCtorEq, hwi, hsx, dlx]) (by first | rfl | (simp only [List.append_assoc, List.cons_append, List.nil_append]; rfl)) (by first | rfl | (simp [AV.below, CV.below, pM_len, dl_below]; done) | (simp [AV.below, CV.below, pM_len, dl_below]; omega)) (by refine MWf.app ((hwfM _).grow (by simp [pM_len])) ?_; repeat (first | exact MWf_nil | (refine MWf_cons ?_ ?_; · first | rfl | exact dl_below _ _ _ | (simp [CV.below, pM_len]; done) | (simp [CV.below, pM_len]; omega))))
      )
  · exfalso
    have := of_decide_eq_false h27; omega
theorem take3B (r rb v : Nat) (bs : List Int) (s : Nat × Int) (m : AMem) (h : RP m r rb v bs s) (h2 : ¬ (rdS bs.length 2 (rdS bs.length 2 s)).2 = 0) (hall : ∀ k, k < npS bs s → (hsS bs s k).2 = 0) : Ctr Try.prog 42 [.one (.ptr r 0 0)] m (.agg [.int .i64 (rdV bs 2 s), .int .i64 (rdV bs 2 (rdS bs.length 2 s)), .sl (m.length + 2) (npS bs s) 0 (npS bs s)]) (pM m r rb v bs (hsS bs s (npS bs s)) ++ [⟨.fix, 35, 0, 0, [.int .i64 (rdV bs 2 s), .int .i64 (rdV bs 2 (rdS bs.length 2 s)), .sl (m.length + 2) (npS bs s) 0 (npS bs s)]⟩, ⟨.fix, 35, 0, 0, [.int .i64 (rdV bs 2 s), .int .i64 (rdV bs 2 (rdS bs.length 2 s)), .sl (m.length + 2) (npS bs s) 0 (npS bs s)]⟩, ⟨.grow, 68, npS bs s, 3, dl (npS bs s) (GH bs s)⟩]) := by
  refine Ctr.enter Try.func42 rfl (by decide) (rs := [.cell 2 35]) (nt := 41) rfl rfl fun hwf Q hQ => ?_
  obtain ⟨kb, eb, hb⟩ := h.hb
  have lr := h.lt
  have lb := get_lt hb
  have hwfM := fun t => @pM_wf m.length m r rb v bs t lb hwf
  have apM := fun L t => @pM_app m r rb v bs lr L t
  have two := fun a b => @pM_two m r rb v bs a b
  have apM2 := fun a L t => (@pM_app (pM m r rb v bs a) r rb v bs (by rw [pM_len]; exact lr) L t).trans (by rw [pM_two])
  have hlen := fun t => @pM_len m r rb v bs t
  have g3 : ∀ t b L k, (pM m r rb v bs t ++ b :: L)[m.length + k]? = (b :: L)[k]? := fun t b L k => by rw [← @pM_len m r rb v bs t, lk_app]
  have g30 : ∀ t b L, (pM m r rb v bs t ++ b :: L)[m.length]? = some b := fun t b L => by rw [← @pM_len m r rb v bs t, lk_app0]; rfl
  have g4 : ∀ t b L k c, (pM m r rb v bs t ++ b :: L).set (m.length + k) c = pM m r rb v bs t ++ (b :: L).set k c := fun t b L k c => by rw [← @pM_len m r rb v bs t, set_app]
  have g40 : ∀ t b L c, (pM m r rb v bs t ++ b :: L).set m.length c = pM m r rb v bs t ++ c :: L := fun t b L c => by rw [← @pM_len m r rb v bs t, set_app0]; rfl
  have sr : ∀ t u L, (pM m r rb v bs t ++ L).set r ⟨.fix, 110, 0, 0, [cP rb v bs.length u, .int .i64 u.2]⟩ = pM m r rb v bs u ++ L := fun t u L => by rw [List.set_append_left _ _ (by rw [pM_len]; exact lr)]; exact congrArg (· ++ L) (pM_two t u)
  have hp1 := rdS_le (k := 2) h.hp
  have hp2 := rdS_le (k := 2) hp1
  have hps := shS_le (bs := bs) h.hp
  have hpi := fun i => hsS_le (bs := bs) h.hp i
  have npw := @np_w bs s h.hu
  have npl := @np_le bs s h.hu
  have hrow := fun (G : Nat → Nat → Int) n => dl_len n G
  have hsh : shS bs s = (rdS bs.length 2 (rdS bs.length 2 s)) := by unfold shS; rw [if_neg (fun hc => h2 hc.1)]
  have hb2 : ((rdS bs.length 2 (rdS bs.length 2 s)).2 == 0) = false := by simpa using h2
  have hzz : True := trivial
  
  refine AW.seq_k fun K hK => ?_
  refine AW.region (by decide) ?_
  simp only [push_cast, simprocAttr, apM, apM2, two, hlen, g3, g30, g4, g40, sr, hb2, npw, hrow]
  refine Thn_n ?_
  refine hK _ _ ?_
  clear hK K
  refine AW.seq_k fun K hK => ?_
  refine AW.region (by decide) ?_
  simp only [push_cast, simprocAttr, apM, apM2, two, hlen, g3, g30, g4, g40, sr, hb2, npw, hrow]
  refine CThen.by (half_c r rb v bs s _ (h.app _)) ?_
  simp only [push_cast, simprocAttr, apM, apM2, two, hlen, g3, g30, g4, g40, sr, hb2, npw, hrow]
  refine Thn_n ?_
  refine hK _ _ ?_
  clear hK K
  refine AW.seq_k fun K hK => ?_
  refine AW.region (by decide) ?_
  simp only [push_cast, simprocAttr, apM, apM2, two, hlen, g3, g30, g4, g40, sr, hb2, npw, hrow]
  refine CThen.by (half_c r rb v bs _ _ ((h.set hp1).app _)) ?_
  simp only [push_cast, simprocAttr, apM, apM2, two, hlen, g3, g30, g4, g40, sr, hb2, npw, hrow]
  refine Thn_n ?_
  refine hK _ _ ?_
  clear hK K
  refine AW.seq_k fun K hK => ?_
  refine AW.seq_k fun K hK => ?_
  refine AW.region (by decide) ?_
  simp only [push_cast, simprocAttr, apM, apM2, two, hlen, g3, g30, g4, g40, sr, hb2, npw, hrow]
  refine CThen.by (err_c r rb v bs _ _ ((h.set hp2).app _)) ?_
  simp only [push_cast, simprocAttr, apM, apM2, two, hlen, g3, g30, g4, g40, sr, hb2, npw, hrow]
  refine Thn_n ?_
  refine hK _ _ ?_
  clear hK K
  refine AW.cond_f rfl ?_
  refine AW.skip ?_
  refine Thn_n ?_
  refine hK _ _ ?_
  clear hK K
  refine AW.seq_k fun K hK => ?_
  refine AW.seq_k fun K hK => ?_
  refine AW.region (by decide) ?_
  simp only [push_cast, simprocAttr, apM, apM2, two, hlen, g3, g30, g4, g40, sr, hb2, npw, hrow]
  refine CThen.by (pixels_c _ _ _) ?_
  simp only [push_cast, simprocAttr, apM, apM2, two, hlen, g3, g30, g4, g40, sr, hb2, npw, hrow]
  refine Thn_n ?_
  refine hK _ _ ?_
  clear hK K
  refine AW.block ?_
  refine AW.nilCell 68 3 (m.length + 1) 2 (by simp only [push_cast, simprocAttr, apM, apM2, two, hlen, g3, g30, g4, g40, sr, hb2, npw, hrow]; first | done | rfl) (by intro e; cases e) rfl ?_
  try simp only [push_cast, simprocAttr, apM, apM2, two, hlen, g3, g30, g4, g40, sr, hb2, npw, hrow]
  refine AW.loopK [0, 2, 3, 25] (fun i => i ≤ npS bs s) (fun i => [(26, .one (.int .i64 (i : Int)))]) (fun i => [(r, ⟨.fix, 110, 0, 0, [cP rb v bs.length (hsS bs s i), .int .i64 (hsS bs s i).2]⟩), (m.length + 1, ⟨.fix, 35, 0, 0, [.int .i64 (rdV bs 2 s), .int .i64 (rdV bs 2 (rdS bs.length 2 s)), .sl (m.length + 2) i 0 i]⟩), (m.length + 2, ⟨.grow, 68, i, 3, dl i (GH bs s)⟩)]) (fun i => npS bs s - i) 0 (by omega) ?_ ?_ fun i hi8 => ?_
  · first | rfl | (simp only [Keeps, Tm.get_cons, Nat.reduceEqDiff, ↓reduceIte, if_true, if_false, ite_true, ite_false, true_and, and_true, and_self, reduceCtorEq, dl, hsS, hsh, Int.natCast_zero] <;> rfl)
  · first | rfl | (simp only [setAll, push_cast, simprocAttr, apM, apM2, two, hlen, g3, g30, g4, g40, sr, hb2, npw, hrow, dl, hsS, hsh, Int.natCast_zero] <;> rfl)
  try simp only [keepL, setAll, push_cast, simprocAttr, apM, apM2, two, hlen, g3, g30, g4, g40, sr, hb2, npw, hrow]
  refine AW.seq_k fun K hK => ?_
  refine AW.region (by decide) ?_
  simp only [push_cast, simprocAttr, apM, apM2, two, hlen, g3, g30, g4, g40, sr, hb2, npw, hrow]
  refine Thn_n ?_
  refine hK _ _ ?_
  clear hK K
  refine AW.seq_k fun K hK => ?_
  refine AW.cond rfl (fun h27 => ?_) (fun h27 => ?_)
  · have hlt : i < npS bs s := by have := of_decide_eq_true h27; omega
    have c1 : (0 : Int) ≤ (i : Int) := by omega
    have c2 : (i : Int) < (npS bs s : Int) := by omega
    have gi := dl_len i (GH bs s)
    have q1 : i + 1 ≤ 140737488355328 := by omega
    have q2 : (i + 1) * 24 ≤ 140737488355328 := by omega
    have hsx : v3S bs (hsS bs s i) = hsS bs s (i + 1) := rfl
    have dlx : dl i (GH bs s) ++ [.int .i64 (v3V bs (hsS bs s i) 0), .int .i64 (v3V bs (hsS bs s i) 1), .int .i64 (v3V bs (hsS bs s i) 2)] = dl (i + 1) (GH bs s) := rfl
    have hok : ((hsS bs s i).2 != 0) = false := by simpa using hall i hlt
    refine AW.skip ?_
    refine Thn_n ?_
    refine hK _ _ ?_
    clear hK K
    refine AW.seq_k fun K hK => ?_
    refine AW.block ?_
    refine AW.seq_k fun K hK => ?_
    refine AW.seq_k fun K hK => ?_
    refine AW.region (by decide) ?_
    simp only [push_cast, simprocAttr, apM, apM2, two, hlen, g3, g30, g4, g40, sr, hb2, npw, hrow, c1, c2, gi, q1, q2, hok]
    refine CThen.by (err_c r rb v bs _ _ ((h.set (hpi i)).app _)) ?_
    simp only [push_cast, simprocAttr, apM, apM2, two, hlen, g3, g30, g4, g40, sr, hb2, npw, hrow, c1, c2, gi, q1, q2, hok]
    refine Thn_n ?_
    refine hK _ _ ?_
    clear hK K
    refine AW.cond_f rfl ?_
    refine AW.skip ?_
    refine Thn_n ?_
    refine hK _ _ ?_
    clear hK K
    refine AW.drawX fol (by kernel_rfl) ?_
    refine DX.split 1 3 (by decide) ?_ ?_
    focus
      refine DX.run [0, 1, 2, 3, 4, 5, 6, 7] [.val, .rd 0, .val, .wr, .ext, .wr, .val, .wr] (by simp only [permL, reOp, List.idxOf_cons, push_cast, simprocAttr, apM, apM2, two, hlen, g3, g30, g4, g40, sr, hb2, npw, hrow, c1, c2, gi, q1, q2, hok]; first | done | rfl) (by kernel_rfl) ?_
      simp only [push_cast, simprocAttr, apM, apM2, two, hlen, g3, g30, g4, g40, sr, hb2, npw, hrow, c1, c2, gi, q1, q2, hok]
      refine DCallW.by (rdhue_c r rb v bs _ _ ((h.set (hpi i)).app _)) ?_
      simp only [push_cast, simprocAttr, apM, apM2, two, hlen, g3, g30, g4, g40, sr, hb2, npw, hrow, c1, c2, gi, q1, q2, hok]
      refine DExt.by (by first | rfl | (simp only [List.append_assoc, List.cons_append, List.nil_append]; rfl)) ?_
      simp only [push_cast, simprocAttr, apM, apM2, two, hlen, g3, g30, g4, g40, sr, hb2, npw, hrow, c1, c2, gi, q1, q2, hok]
      skip
    rotate_left 1
    focus
      refine DX.run [0, 2, 3, 1, 4, 5, 6, 7] [.val, .val, .wr, .rd 1, .ext, .wr, .val, .wr] (by simp only [permL, reOp, List.idxOf_cons, push_cast, simprocAttr, apM, apM2, two, hlen, g3, g30, g4, g40, sr, hb2, npw, hrow, c1, c2, gi, q1, q2, hok]; first | done | rfl) (by kernel_rfl) ?_
      simp only [push_cast, simprocAttr, apM, apM2, two, hlen, g3, g30, g4, g40, sr, hb2, npw, hrow, c1, c2, gi, q1, q2, hok]
      refine DCallW.by (rdhue_c r rb v bs _ _ ((h.set (hpi i)).app _)) ?_
      simp only [push_cast, simprocAttr, apM, apM2, two, hlen, g3, g30, g4, g40, sr, hb2, npw, hrow, c1, c2, gi, q1, q2, hok]
      refine DExt.by (by first | rfl | (simp only [List.append_assoc, List.cons_append, List.nil_append]; rfl)) ?_
      simp only [push_cast, simprocAttr, apM, apM2, two, hlen, g3, g30, g4, g40, sr, hb2, npw, hrow, c1, c2, gi, q1, q2, hok]
      skip
    rotate_left 1
    all_goals (
    refine InB_n ?_
    refine Thn_n ?_
    refine hK _ _ ?_
    clear hK K
    refine AW.region (by decide) ?_
    simp only [push_cast, simprocAttr, apM, apM2, two, hlen, g3, g30, g4, g40, sr, hb2, npw, hrow, c1, c2, gi, q1, q2, hok]
    refine Thn_n ?_
    have hwi : IntKind.i64.wrap ((i:Int)+1) = (i:Int)+1 := wi (by omega)
    refine ⟨i + 1, by omega, by omega, ?_⟩
    try simp only [keepL, setAll, push_cast, simprocAttr, apM, apM2, two, hlen, g3, g30, g4, g40, sr, hb2, npw, hrow, c1, c2, gi, q1, q2, hok, hwi, hsx, dlx]
    exact Weak.to (extra := [_]) (by simp only [Keeps, Tm.get_cons, Nat.reduceEqDiff, ↓reduceIte, if_true, if_false, ite_true, ite_false, true_and, and_true, and_self, reduceCtorEq, hwi, hsx, dlx]) (by first | rfl | (simp only [List.append_assoc, List.cons_append, List.nil_append]; rfl)) (by first | rfl | (simp [AV.below, CV.below, pM_len, dl_below]; done) | (simp [AV.below, CV.below, pM_len, dl_below]; omega)) (by refine MWf.app ((hwfM _).grow (by simp [pM_len])) ?_; repeat (first | exact MWf_nil | (refine MWf_cons ?_ ?_; · first | rfl | exact dl_below _ _ _ | (simp [CV.below, pM_len]; done) | (simp [CV.below, pM_len]; omega))))
    )
  · have hin : i = npS bs s := by have := of_decide_eq_false h27; omega
    subst hin
    refine AW.exit ?_
    refine Thn_e ?_
    clear hK K
    refine Thn_e ?_
    refine InB_here ?_
    refine Thn_n ?_
    refine hK _ _ ?_
    clear hK K
    refine AW.seq_k fun K hK => ?_
    refine AW.region (by decide) ?_
    simp only [push_cast, simprocAttr, apM, apM2, two, hlen, g3, g30, g4, g40, sr, hb2, npw, hrow]
    refine Thn_n ?_
    refine hK _ _ ?_
    clear hK K
    refine AW.ret ?_
    refine hQ _ _ _ ?_
    first | refine RetP.keep (Or.inr rfl) ?_ | refine RetP.keep (Or.inl rfl) ?_
    · simp only [resA, resOne, resTv, AV.tv, push_cast, simprocAttr, g30]
    
end Go.Proofs.Ytgbehbaecdepjaa
