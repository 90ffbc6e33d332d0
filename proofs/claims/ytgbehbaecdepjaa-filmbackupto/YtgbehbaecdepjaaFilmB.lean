/- Walks and facts of this seat's program over abstract states, printed by a program of mine; no conditions but those that each theorem names. -/
import Derived.Test.YtgbehbaecdepjaaFilmA
set_option linter.unusedSimpArgs false
set_option linter.unusedVariables false
set_option maxRecDepth 100000
set_option maxHeartbeats 4000000
namespace Go.Proofs.Ytgbehbaecdepjaa
open Go Go.Eng

theorem to_c (W H : Int) (rL nL rD nD rN nN rB nB rS nS rF nF : Nat) (GL GN GB : Nat → Nat → Int) (fD fS fF : Nat → Int) (m : AMem) (pL : HRow m 75 rL nL GL) (pD : IRow m 2 rD nD fD) (pN : HRow m 71 rN nN GN) (pB : HRow m 75 rB nB GB) (pS : IRow m 3 rS nS fS) (pF : IRow m 3 rF nF fF) (bL : nL ≤ 1048576) (bD : nD ≤ 1048576) (bN : nN ≤ 1048576) (bB : nB ≤ 1048576) (bS : nS ≤ 1048576) (bF : nF ≤ 1048576) : Ctr Try.prog 8 [.agg [.int .i64 W, .int .i64 H, .sl rL 0 0 nL, .sl rD 0 0 nD, .sl rN 0 0 nN, .sl rB 0 0 nB, .sl rS 0 0 nS, .sl rF 0 0 nF]] m (.agg [.int .i64 W, .int .i64 H, .sl m.length 0 0 nL, .sl (m.length + 1) 0 0 nD, .sl (m.length + 2) 0 0 nN, .sl (m.length + 3) 0 0 nB, .sl (m.length + 4) 0 0 nS, .sl (m.length + 5) 0 0 nF]) (m ++ [⟨.grow, 68, 0, 3, dl nL GL⟩, ⟨.grow, 66, 0, 1, il nD fD⟩, ⟨.grow, 73, 0, 3, dl nN GN⟩, ⟨.grow, 68, 0, 3, dl nB GB⟩, ⟨.grow, 3, 0, 1, il nS fS⟩, ⟨.grow, 3, 0, 1, il nF fF⟩]) := by
  refine Ctr.enter Try.func8 rfl (by decide) (rs := [.cell 2 39]) (nt := 67) rfl rfl fun hwf Q hQ => ?_
  obtain ⟨kL, eL, hLb⟩ := pL.hb
  have lL := get_lt hLb
  obtain ⟨kD, eD, hDb⟩ := pD.hb
  have lD := get_lt hDb
  obtain ⟨kN, eN, hNb⟩ := pN.hb
  have lN := get_lt hNb
  obtain ⟨kB, eB, hBb⟩ := pB.hb
  have lB := get_lt hBb
  obtain ⟨kS, eS, hSb⟩ := pS.hb
  have lS := get_lt hSb
  obtain ⟨kF, eF, hFb⟩ := pF.hb
  have lF := get_lt hFb
  have hlt0 : ∀ k, ¬ m.length + k < m.length := fun k => by omega
  have vS := il_vals nS fS
  have tS := List.take_of_length_le (l := il nS fS) (i := nS) (by rw [il_len]; exact Nat.le_refl _)
  have oS : nS ≤ 140737488355328 := by omega
  have uS : nS * 8 ≤ 140737488355328 := by omega
  have vF := il_vals nF fF
  have tF := List.take_of_length_le (l := il nF fF) (i := nF) (by rw [il_len]; exact Nat.le_refl _)
  have oF : nF ≤ 140737488355328 := by omega
  have uF : nF * 8 ≤ 140737488355328 := by omega
  
  refine AW.seq_k fun K hK => ?_
  refine AW.region (by decide) ?_
  simp only [push_cast, simprocAttr, hLb, lk_old hLb, hDb, lk_old hDb, hNb, lk_old hNb, hBb, lk_old hBb, hSb, lk_old hSb, hFb, lk_old hFb, dl_len, il_len, vS, tS, oS, uS, vF, tF, oF, uF, Nat.zero_add, List.nil_append, Nat.le_refl]
  refine Thn_n ?_
  refine hK _ _ ?_
  clear hK K
  refine AW.seq_k fun K hK => ?_
  refine AW.drawX fol (by kernel_rfl) ?_
  refine DX.split 2 3 (by decide) ?_ ?_
  focus
    refine DX.split 2 7 (by decide) ?_ ?_
    focus
      refine DX.split 3 7 (by decide) ?_ ?_
      focus
        refine DX.split 6 7 (by decide) ?_ ?_
        focus
          refine DX.run [0, 1, 2, 3, 4, 5, 6, 7, 8, 9, 10, 11, 12, 13] [.val, .rd 0, .ext, .ext, .val, .rd 0, .up 1, .ext, .val, .rd 0, .up 3, .val, .fl, .wr] (by simp only [permL, reOp, List.idxOf_cons, push_cast, simprocAttr, hLb, lk_old hLb, hDb, lk_old hDb, hNb, lk_old hNb, hBb, lk_old hBb, hSb, lk_old hSb, hFb, lk_old hFb, dl_len, il_len, vS, tS, oS, uS, vF, tF, oF, uF, Nat.zero_add, List.nil_append, Nat.le_refl]; first | done | rfl) (by kernel_rfl) ?_
          simp only [push_cast, simprocAttr, hLb, lk_old hLb, hDb, lk_old hDb, hNb, lk_old hNb, hBb, lk_old hBb, hSb, lk_old hSb, hFb, lk_old hFb, dl_len, il_len, vS, tS, oS, uS, vF, tF, oF, uF, Nat.zero_add, List.nil_append, Nat.le_refl]
          refine DCall.by (toSheet_c W H rL nL GL _ (pL.mono _) bL) ?_
          iterate 2
            simp only [push_cast, simprocAttr, hLb, lk_old hLb, hDb, lk_old hDb, hNb, lk_old hNb, hBb, lk_old hBb, hSb, lk_old hSb, hFb, lk_old hFb, dl_len, il_len, vS, tS, oS, uS, vF, tF, oF, uF, Nat.zero_add, List.nil_append, Nat.le_refl]
            refine DExt.by (by first | rfl | (simp only [List.append_assoc, List.cons_append, List.nil_append]; rfl)) ?_
            simp only [push_cast, simprocAttr, hLb, lk_old hLb, hDb, lk_old hDb, hNb, lk_old hNb, hBb, lk_old hBb, hSb, lk_old hSb, hFb, lk_old hFb, dl_len, il_len, vS, tS, oS, uS, vF, tF, oF, uF, Nat.zero_add, List.nil_append, Nat.le_refl]
            refine DUp.by (by first | rfl | (simp only [List.append_assoc, List.cons_append, List.nil_append]; rfl)) (by first | rfl | (simp only [List.append_assoc, List.cons_append, List.nil_append]; rfl)) ?_
          simp only [push_cast, simprocAttr, hLb, lk_old hLb, hDb, lk_old hDb, hNb, lk_old hNb, hBb, lk_old hBb, hSb, lk_old hSb, hFb, lk_old hFb, dl_len, il_len, vS, tS, oS, uS, vF, tF, oF, uF, Nat.zero_add, List.nil_append, Nat.le_refl]
          obtain ⟨ra, hra⟩ : ∃ x, m.length + 2 = x := ⟨_, rfl⟩
          obtain ⟨rb, hrb⟩ : ∃ x, m.length + 3 = x := ⟨_, rfl⟩
          obtain ⟨rc, hrc⟩ : ∃ x, m.length + 4 = x := ⟨_, rfl⟩
          simp only [hra, hrb, hrc]
        rotate_left 1
        focus
          refine DX.run [0, 1, 2, 3, 4, 5, 7, 6, 8, 9, 10, 11, 12, 13] [.val, .rd 0, .ext, .ext, .val, .rd 0, .ext, .up 1, .val, .rd 0, .up 1, .val, .fl, .wr] (by simp only [permL, reOp, List.idxOf_cons, push_cast, simprocAttr, hLb, lk_old hLb, hDb, lk_old hDb, hNb, lk_old hNb, hBb, lk_old hBb, hSb, lk_old hSb, hFb, lk_old hFb, dl_len, il_len, vS, tS, oS, uS, vF, tF, oF, uF, Nat.zero_add, List.nil_append, Nat.le_refl]; first | done | rfl) (by kernel_rfl) ?_
          simp only [push_cast, simprocAttr, hLb, lk_old hLb, hDb, lk_old hDb, hNb, lk_old hNb, hBb, lk_old hBb, hSb, lk_old hSb, hFb, lk_old hFb, dl_len, il_len, vS, tS, oS, uS, vF, tF, oF, uF, Nat.zero_add, List.nil_append, Nat.le_refl]
          refine DCall.by (toSheet_c W H rL nL GL _ (pL.mono _) bL) ?_
          iterate 2
            simp only [push_cast, simprocAttr, hLb, lk_old hLb, hDb, lk_old hDb, hNb, lk_old hNb, hBb, lk_old hBb, hSb, lk_old hSb, hFb, lk_old hFb, dl_len, il_len, vS, tS, oS, uS, vF, tF, oF, uF, Nat.zero_add, List.nil_append, Nat.le_refl]
            refine DExt.by (by first | rfl | (simp only [List.append_assoc, List.cons_append, List.nil_append]; rfl)) ?_
          iterate 2
            simp only [push_cast, simprocAttr, hLb, lk_old hLb, hDb, lk_old hDb, hNb, lk_old hNb, hBb, lk_old hBb, hSb, lk_old hSb, hFb, lk_old hFb, dl_len, il_len, vS, tS, oS, uS, vF, tF, oF, uF, Nat.zero_add, List.nil_append, Nat.le_refl]
            refine DUp.by (by first | rfl | (simp only [List.append_assoc, List.cons_append, List.nil_append]; rfl)) (by first | rfl | (simp only [List.append_assoc, List.cons_append, List.nil_append]; rfl)) ?_
          simp only [push_cast, simprocAttr, hLb, lk_old hLb, hDb, lk_old hDb, hNb, lk_old hNb, hBb, lk_old hBb, hSb, lk_old hSb, hFb, lk_old hFb, dl_len, il_len, vS, tS, oS, uS, vF, tF, oF, uF, Nat.zero_add, List.nil_append, Nat.le_refl]
          obtain ⟨ra, hra⟩ : ∃ x, m.length + 2 = x := ⟨_, rfl⟩
          obtain ⟨rb, hrb⟩ : ∃ x, m.length + 3 = x := ⟨_, rfl⟩
          obtain ⟨rc, hrc⟩ : ∃ x, m.length + 4 = x := ⟨_, rfl⟩
          simp only [hra, hrb, hrc]
        rotate_left 1
      rotate_left 2
      focus
        refine DX.run [0, 1, 2, 4, 5, 7, 3, 6, 8, 9, 10, 11, 12, 13] [.val, .rd 0, .ext, .val, .rd 0, .ext, .ext, .up 2, .val, .rd 0, .up 1, .val, .fl, .wr] (by simp only [permL, reOp, List.idxOf_cons, push_cast, simprocAttr, hLb, lk_old hLb, hDb, lk_old hDb, hNb, lk_old hNb, hBb, lk_old hBb, hSb, lk_old hSb, hFb, lk_old hFb, dl_len, il_len, vS, tS, oS, uS, vF, tF, oF, uF, Nat.zero_add, List.nil_append, Nat.le_refl]; first | done | rfl) (by kernel_rfl) ?_
        simp only [push_cast, simprocAttr, hLb, lk_old hLb, hDb, lk_old hDb, hNb, lk_old hNb, hBb, lk_old hBb, hSb, lk_old hSb, hFb, lk_old hFb, dl_len, il_len, vS, tS, oS, uS, vF, tF, oF, uF, Nat.zero_add, List.nil_append, Nat.le_refl]
        refine DCall.by (toSheet_c W H rL nL GL _ (pL.mono _) bL) ?_
        iterate 2
          simp only [push_cast, simprocAttr, hLb, lk_old hLb, hDb, lk_old hDb, hNb, lk_old hNb, hBb, lk_old hBb, hSb, lk_old hSb, hFb, lk_old hFb, dl_len, il_len, vS, tS, oS, uS, vF, tF, oF, uF, Nat.zero_add, List.nil_append, Nat.le_refl]
          refine DExt.by (by first | rfl | (simp only [List.append_assoc, List.cons_append, List.nil_append]; rfl)) ?_
        iterate 2
          simp only [push_cast, simprocAttr, hLb, lk_old hLb, hDb, lk_old hDb, hNb, lk_old hNb, hBb, lk_old hBb, hSb, lk_old hSb, hFb, lk_old hFb, dl_len, il_len, vS, tS, oS, uS, vF, tF, oF, uF, Nat.zero_add, List.nil_append, Nat.le_refl]
          refine DUp.by (by first | rfl | (simp only [List.append_assoc, List.cons_append, List.nil_append]; rfl)) (by first | rfl | (simp only [List.append_assoc, List.cons_append, List.nil_append]; rfl)) ?_
        simp only [push_cast, simprocAttr, hLb, lk_old hLb, hDb, lk_old hDb, hNb, lk_old hNb, hBb, lk_old hBb, hSb, lk_old hSb, hFb, lk_old hFb, dl_len, il_len, vS, tS, oS, uS, vF, tF, oF, uF, Nat.zero_add, List.nil_append, Nat.le_refl]
        obtain ⟨ra, hra⟩ : ∃ x, m.length + 2 = x := ⟨_, rfl⟩
        obtain ⟨rb, hrb⟩ : ∃ x, m.length + 4 = x := ⟨_, rfl⟩
        obtain ⟨rc, hrc⟩ : ∃ x, m.length + 3 = x := ⟨_, rfl⟩
        simp only [hra, hrb, hrc]
      rotate_left 1
    rotate_left 3
    focus
      refine DX.run [0, 1, 4, 5, 7, 2, 3, 6, 8, 9, 10, 11, 12, 13] [.val, .rd 0, .val, .rd 0, .ext, .ext, .ext, .up 2, .val, .rd 0, .up 0, .val, .fl, .wr] (by simp only [permL, reOp, List.idxOf_cons, push_cast, simprocAttr, hLb, lk_old hLb, hDb, lk_old hDb, hNb, lk_old hNb, hBb, lk_old hBb, hSb, lk_old hSb, hFb, lk_old hFb, dl_len, il_len, vS, tS, oS, uS, vF, tF, oF, uF, Nat.zero_add, List.nil_append, Nat.le_refl]; first | done | rfl) (by kernel_rfl) ?_
      simp only [push_cast, simprocAttr, hLb, lk_old hLb, hDb, lk_old hDb, hNb, lk_old hNb, hBb, lk_old hBb, hSb, lk_old hSb, hFb, lk_old hFb, dl_len, il_len, vS, tS, oS, uS, vF, tF, oF, uF, Nat.zero_add, List.nil_append, Nat.le_refl]
      refine DExt.by (by first | rfl | (simp only [List.append_assoc, List.cons_append, List.nil_append]; rfl)) ?_
      simp only [push_cast, simprocAttr, hLb, lk_old hLb, hDb, lk_old hDb, hNb, lk_old hNb, hBb, lk_old hBb, hSb, lk_old hSb, hFb, lk_old hFb, dl_len, il_len, vS, tS, oS, uS, vF, tF, oF, uF, Nat.zero_add, List.nil_append, Nat.le_refl]
      refine DCall.by (toSheet_c W H rL nL GL _ (pL.mono _) bL) ?_
      simp only [push_cast, simprocAttr, hLb, lk_old hLb, hDb, lk_old hDb, hNb, lk_old hNb, hBb, lk_old hBb, hSb, lk_old hSb, hFb, lk_old hFb, dl_len, il_len, vS, tS, oS, uS, vF, tF, oF, uF, Nat.zero_add, List.nil_append, Nat.le_refl]
      refine DExt.by (by first | rfl | (simp only [List.append_assoc, List.cons_append, List.nil_append]; rfl)) ?_
      iterate 2
        simp only [push_cast, simprocAttr, hLb, lk_old hLb, hDb, lk_old hDb, hNb, lk_old hNb, hBb, lk_old hBb, hSb, lk_old hSb, hFb, lk_old hFb, dl_len, il_len, vS, tS, oS, uS, vF, tF, oF, uF, Nat.zero_add, List.nil_append, Nat.le_refl]
        refine DUp.by (by first | rfl | (simp only [List.append_assoc, List.cons_append, List.nil_append]; rfl)) (by first | rfl | (simp only [List.append_assoc, List.cons_append, List.nil_append]; rfl)) ?_
      simp only [push_cast, simprocAttr, hLb, lk_old hLb, hDb, lk_old hDb, hNb, lk_old hNb, hBb, lk_old hBb, hSb, lk_old hSb, hFb, lk_old hFb, dl_len, il_len, vS, tS, oS, uS, vF, tF, oF, uF, Nat.zero_add, List.nil_append, Nat.le_refl]
      obtain ⟨ra, hra⟩ : ∃ x, m.length + 3 = x := ⟨_, rfl⟩
      obtain ⟨rb, hrb⟩ : ∃ x, m.length + 4 = x := ⟨_, rfl⟩
      obtain ⟨rc, hrc⟩ : ∃ x, m.length + 2 = x := ⟨_, rfl⟩
      simp only [hra, hrb, hrc]
    rotate_left 1
  rotate_left 4
  focus
    refine DX.split 3 7 (by decide) ?_ ?_
    focus
      refine DX.split 2 7 (by decide) ?_ ?_
      focus
        refine DX.split 6 7 (by decide) ?_ ?_
        focus
          refine DX.run [0, 1, 3, 2, 4, 5, 6, 7, 8, 9, 10, 11, 12, 13] [.val, .rd 0, .ext, .ext, .val, .rd 0, .up 0, .ext, .val, .rd 0, .up 3, .val, .fl, .wr] (by simp only [permL, reOp, List.idxOf_cons, push_cast, simprocAttr, hLb, lk_old hLb, hDb, lk_old hDb, hNb, lk_old hNb, hBb, lk_old hBb, hSb, lk_old hSb, hFb, lk_old hFb, dl_len, il_len, vS, tS, oS, uS, vF, tF, oF, uF, Nat.zero_add, List.nil_append, Nat.le_refl]; first | done | rfl) (by kernel_rfl) ?_
          simp only [push_cast, simprocAttr, hLb, lk_old hLb, hDb, lk_old hDb, hNb, lk_old hNb, hBb, lk_old hBb, hSb, lk_old hSb, hFb, lk_old hFb, dl_len, il_len, vS, tS, oS, uS, vF, tF, oF, uF, Nat.zero_add, List.nil_append, Nat.le_refl]
          refine DExt.by (by first | rfl | (simp only [List.append_assoc, List.cons_append, List.nil_append]; rfl)) ?_
          simp only [push_cast, simprocAttr, hLb, lk_old hLb, hDb, lk_old hDb, hNb, lk_old hNb, hBb, lk_old hBb, hSb, lk_old hSb, hFb, lk_old hFb, dl_len, il_len, vS, tS, oS, uS, vF, tF, oF, uF, Nat.zero_add, List.nil_append, Nat.le_refl]
          refine DCall.by (toSheet_c W H rL nL GL _ (pL.mono _) bL) ?_
          simp only [push_cast, simprocAttr, hLb, lk_old hLb, hDb, lk_old hDb, hNb, lk_old hNb, hBb, lk_old hBb, hSb, lk_old hSb, hFb, lk_old hFb, dl_len, il_len, vS, tS, oS, uS, vF, tF, oF, uF, Nat.zero_add, List.nil_append, Nat.le_refl]
          refine DUp.by (by first | rfl | (simp only [List.append_assoc, List.cons_append, List.nil_append]; rfl)) (by first | rfl | (simp only [List.append_assoc, List.cons_append, List.nil_append]; rfl)) ?_
          simp only [push_cast, simprocAttr, hLb, lk_old hLb, hDb, lk_old hDb, hNb, lk_old hNb, hBb, lk_old hBb, hSb, lk_old hSb, hFb, lk_old hFb, dl_len, il_len, vS, tS, oS, uS, vF, tF, oF, uF, Nat.zero_add, List.nil_append, Nat.le_refl]
          refine DExt.by (by first | rfl | (simp only [List.append_assoc, List.cons_append, List.nil_append]; rfl)) ?_
          simp only [push_cast, simprocAttr, hLb, lk_old hLb, hDb, lk_old hDb, hNb, lk_old hNb, hBb, lk_old hBb, hSb, lk_old hSb, hFb, lk_old hFb, dl_len, il_len, vS, tS, oS, uS, vF, tF, oF, uF, Nat.zero_add, List.nil_append, Nat.le_refl]
          refine DUp.by (by first | rfl | (simp only [List.append_assoc, List.cons_append, List.nil_append]; rfl)) (by first | rfl | (simp only [List.append_assoc, List.cons_append, List.nil_append]; rfl)) ?_
          simp only [push_cast, simprocAttr, hLb, lk_old hLb, hDb, lk_old hDb, hNb, lk_old hNb, hBb, lk_old hBb, hSb, lk_old hSb, hFb, lk_old hFb, dl_len, il_len, vS, tS, oS, uS, vF, tF, oF, uF, Nat.zero_add, List.nil_append, Nat.le_refl]
          obtain ⟨ra, hra⟩ : ∃ x, m.length + 3 = x := ⟨_, rfl⟩
          obtain ⟨rb, hrb⟩ : ∃ x, m.length + 2 = x := ⟨_, rfl⟩
          obtain ⟨rc, hrc⟩ : ∃ x, m.length + 4 = x := ⟨_, rfl⟩
          simp only [hra, hrb, hrc]
        rotate_left 1
        focus
          refine DX.run [0, 1, 3, 2, 4, 5, 7, 6, 8, 9, 10, 11, 12, 13] [.val, .rd 0, .ext, .ext, .val, .rd 0, .ext, .up 0, .val, .rd 0, .up 0, .val, .fl, .wr] (by simp only [permL, reOp, List.idxOf_cons, push_cast, simprocAttr, hLb, lk_old hLb, hDb, lk_old hDb, hNb, lk_old hNb, hBb, lk_old hBb, hSb, lk_old hSb, hFb, lk_old hFb, dl_len, il_len, vS, tS, oS, uS, vF, tF, oF, uF, Nat.zero_add, List.nil_append, Nat.le_refl]; first | done | rfl) (by kernel_rfl) ?_
          simp only [push_cast, simprocAttr, hLb, lk_old hLb, hDb, lk_old hDb, hNb, lk_old hNb, hBb, lk_old hBb, hSb, lk_old hSb, hFb, lk_old hFb, dl_len, il_len, vS, tS, oS, uS, vF, tF, oF, uF, Nat.zero_add, List.nil_append, Nat.le_refl]
          refine DExt.by (by first | rfl | (simp only [List.append_assoc, List.cons_append, List.nil_append]; rfl)) ?_
          simp only [push_cast, simprocAttr, hLb, lk_old hLb, hDb, lk_old hDb, hNb, lk_old hNb, hBb, lk_old hBb, hSb, lk_old hSb, hFb, lk_old hFb, dl_len, il_len, vS, tS, oS, uS, vF, tF, oF, uF, Nat.zero_add, List.nil_append, Nat.le_refl]
          refine DCall.by (toSheet_c W H rL nL GL _ (pL.mono _) bL) ?_
          simp only [push_cast, simprocAttr, hLb, lk_old hLb, hDb, lk_old hDb, hNb, lk_old hNb, hBb, lk_old hBb, hSb, lk_old hSb, hFb, lk_old hFb, dl_len, il_len, vS, tS, oS, uS, vF, tF, oF, uF, Nat.zero_add, List.nil_append, Nat.le_refl]
          refine DExt.by (by first | rfl | (simp only [List.append_assoc, List.cons_append, List.nil_append]; rfl)) ?_
          iterate 2
            simp only [push_cast, simprocAttr, hLb, lk_old hLb, hDb, lk_old hDb, hNb, lk_old hNb, hBb, lk_old hBb, hSb, lk_old hSb, hFb, lk_old hFb, dl_len, il_len, vS, tS, oS, uS, vF, tF, oF, uF, Nat.zero_add, List.nil_append, Nat.le_refl]
            refine DUp.by (by first | rfl | (simp only [List.append_assoc, List.cons_append, List.nil_append]; rfl)) (by first | rfl | (simp only [List.append_assoc, List.cons_append, List.nil_append]; rfl)) ?_
          simp only [push_cast, simprocAttr, hLb, lk_old hLb, hDb, lk_old hDb, hNb, lk_old hNb, hBb, lk_old hBb, hSb, lk_old hSb, hFb, lk_old hFb, dl_len, il_len, vS, tS, oS, uS, vF, tF, oF, uF, Nat.zero_add, List.nil_append, Nat.le_refl]
          obtain ⟨ra, hra⟩ : ∃ x, m.length + 3 = x := ⟨_, rfl⟩
          obtain ⟨rb, hrb⟩ : ∃ x, m.length + 2 = x := ⟨_, rfl⟩
          obtain ⟨rc, hrc⟩ : ∃ x, m.length + 4 = x := ⟨_, rfl⟩
          simp only [hra, hrb, hrc]
        rotate_left 1
      rotate_left 2
      focus
        refine DX.run [0, 1, 3, 4, 5, 7, 2, 6, 8, 9, 10, 11, 12, 13] [.val, .rd 0, .ext, .val, .rd 0, .ext, .ext, .up 0, .val, .rd 0, .up 0, .val, .fl, .wr] (by simp only [permL, reOp, List.idxOf_cons, push_cast, simprocAttr, hLb, lk_old hLb, hDb, lk_old hDb, hNb, lk_old hNb, hBb, lk_old hBb, hSb, lk_old hSb, hFb, lk_old hFb, dl_len, il_len, vS, tS, oS, uS, vF, tF, oF, uF, Nat.zero_add, List.nil_append, Nat.le_refl]; first | done | rfl) (by kernel_rfl) ?_
        iterate 2
          simp only [push_cast, simprocAttr, hLb, lk_old hLb, hDb, lk_old hDb, hNb, lk_old hNb, hBb, lk_old hBb, hSb, lk_old hSb, hFb, lk_old hFb, dl_len, il_len, vS, tS, oS, uS, vF, tF, oF, uF, Nat.zero_add, List.nil_append, Nat.le_refl]
          refine DExt.by (by first | rfl | (simp only [List.append_assoc, List.cons_append, List.nil_append]; rfl)) ?_
        simp only [push_cast, simprocAttr, hLb, lk_old hLb, hDb, lk_old hDb, hNb, lk_old hNb, hBb, lk_old hBb, hSb, lk_old hSb, hFb, lk_old hFb, dl_len, il_len, vS, tS, oS, uS, vF, tF, oF, uF, Nat.zero_add, List.nil_append, Nat.le_refl]
        refine DCall.by (toSheet_c W H rL nL GL _ (pL.mono _) bL) ?_
        iterate 2
          simp only [push_cast, simprocAttr, hLb, lk_old hLb, hDb, lk_old hDb, hNb, lk_old hNb, hBb, lk_old hBb, hSb, lk_old hSb, hFb, lk_old hFb, dl_len, il_len, vS, tS, oS, uS, vF, tF, oF, uF, Nat.zero_add, List.nil_append, Nat.le_refl]
          refine DUp.by (by first | rfl | (simp only [List.append_assoc, List.cons_append, List.nil_append]; rfl)) (by first | rfl | (simp only [List.append_assoc, List.cons_append, List.nil_append]; rfl)) ?_
        simp only [push_cast, simprocAttr, hLb, lk_old hLb, hDb, lk_old hDb, hNb, lk_old hNb, hBb, lk_old hBb, hSb, lk_old hSb, hFb, lk_old hFb, dl_len, il_len, vS, tS, oS, uS, vF, tF, oF, uF, Nat.zero_add, List.nil_append, Nat.le_refl]
        obtain ⟨ra, hra⟩ : ∃ x, m.length + 4 = x := ⟨_, rfl⟩
        obtain ⟨rb, hrb⟩ : ∃ x, m.length + 2 = x := ⟨_, rfl⟩
        obtain ⟨rc, hrc⟩ : ∃ x, m.length + 3 = x := ⟨_, rfl⟩
        simp only [hra, hrb, hrc]
      rotate_left 1
    rotate_left 3
    focus
      refine DX.run [0, 1, 4, 5, 7, 3, 2, 6, 8, 9, 10, 11, 12, 13] [.val, .rd 0, .val, .rd 0, .ext, .ext, .ext, .up 1, .val, .rd 0, .up 0, .val, .fl, .wr] (by simp only [permL, reOp, List.idxOf_cons, push_cast, simprocAttr, hLb, lk_old hLb, hDb, lk_old hDb, hNb, lk_old hNb, hBb, lk_old hBb, hSb, lk_old hSb, hFb, lk_old hFb, dl_len, il_len, vS, tS, oS, uS, vF, tF, oF, uF, Nat.zero_add, List.nil_append, Nat.le_refl]; first | done | rfl) (by kernel_rfl) ?_
      iterate 2
        simp only [push_cast, simprocAttr, hLb, lk_old hLb, hDb, lk_old hDb, hNb, lk_old hNb, hBb, lk_old hBb, hSb, lk_old hSb, hFb, lk_old hFb, dl_len, il_len, vS, tS, oS, uS, vF, tF, oF, uF, Nat.zero_add, List.nil_append, Nat.le_refl]
        refine DExt.by (by first | rfl | (simp only [List.append_assoc, List.cons_append, List.nil_append]; rfl)) ?_
      simp only [push_cast, simprocAttr, hLb, lk_old hLb, hDb, lk_old hDb, hNb, lk_old hNb, hBb, lk_old hBb, hSb, lk_old hSb, hFb, lk_old hFb, dl_len, il_len, vS, tS, oS, uS, vF, tF, oF, uF, Nat.zero_add, List.nil_append, Nat.le_refl]
      refine DCall.by (toSheet_c W H rL nL GL _ (pL.mono _) bL) ?_
      iterate 2
        simp only [push_cast, simprocAttr, hLb, lk_old hLb, hDb, lk_old hDb, hNb, lk_old hNb, hBb, lk_old hBb, hSb, lk_old hSb, hFb, lk_old hFb, dl_len, il_len, vS, tS, oS, uS, vF, tF, oF, uF, Nat.zero_add, List.nil_append, Nat.le_refl]
        refine DUp.by (by first | rfl | (simp only [List.append_assoc, List.cons_append, List.nil_append]; rfl)) (by first | rfl | (simp only [List.append_assoc, List.cons_append, List.nil_append]; rfl)) ?_
      simp only [push_cast, simprocAttr, hLb, lk_old hLb, hDb, lk_old hDb, hNb, lk_old hNb, hBb, lk_old hBb, hSb, lk_old hSb, hFb, lk_old hFb, dl_len, il_len, vS, tS, oS, uS, vF, tF, oF, uF, Nat.zero_add, List.nil_append, Nat.le_refl]
      obtain ⟨ra, hra⟩ : ∃ x, m.length + 4 = x := ⟨_, rfl⟩
      obtain ⟨rb, hrb⟩ : ∃ x, m.length + 3 = x := ⟨_, rfl⟩
      obtain ⟨rc, hrc⟩ : ∃ x, m.length + 2 = x := ⟨_, rfl⟩
      simp only [hra, hrb, hrc]
    rotate_left 1
  rotate_left 4
  all_goals (
  refine Thn_n ?_
  refine hK _ _ ?_
  clear hK K
  refine AW.seq_k fun K hK => ?_
  refine AW.seq_k fun K hK => ?_
  refine AW.region (by decide) ?_
  simp only [push_cast, simprocAttr, hLb, lk_old hLb, hDb, lk_old hDb, hNb, lk_old hNb, hBb, lk_old hBb, hSb, lk_old hSb, hFb, lk_old hFb, dl_len, il_len, vS, tS, oS, uS, vF, tF, oF, uF, Nat.zero_add, List.nil_append, Nat.le_refl]
  refine Thn_n ?_
  refine hK _ _ ?_
  clear hK K
  refine AW.block ?_
  refine AW.nilCell 66 1 (m.length + 5) 3 (by simp only [push_cast, simprocAttr, hLb, lk_old hLb, hDb, lk_old hDb, hNb, lk_old hNb, hBb, lk_old hBb, hSb, lk_old hSb, hFb, lk_old hFb, dl_len, il_len, vS, tS, oS, uS, vF, tF, oF, uF, Nat.zero_add, List.nil_append, Nat.le_refl]; first | done | rfl) (by intro e; cases e) rfl ?_
  try simp only [push_cast, simprocAttr, hLb, lk_old hLb, hDb, lk_old hDb, hNb, lk_old hNb, hBb, lk_old hBb, hSb, lk_old hSb, hFb, lk_old hFb, dl_len, il_len, vS, tS, oS, uS, vF, tF, oF, uF, Nat.zero_add, List.nil_append, Nat.le_refl]
  refine AW.loopK [1, 2, 3, 23, 24] (fun i => i ≤ nD) (fun i => [(25, .one (.int .i64 (i : Int)))]) (fun i => [(m.length + 5, ⟨.fix, 39, 0, 0, [.int .i64 W, .int .i64 H, .sl ra 0 0 nL, .sl (m.length + 6) i 0 i, .nils, .nils, .sl rb 1 0 nS, .sl rc 1 0 nF]⟩), (m.length + 6, ⟨.grow, 66, i, 1, il i fD⟩)]) (fun i => nD - i) 0 (by omega) ?_ ?_ fun i hi5 => ?_
  · first | rfl | (simp only [Keeps, Tm.get_cons, Nat.reduceEqDiff, ↓reduceIte, if_true, if_false, ite_true, ite_false, true_and, and_true, and_self, reduceCtorEq, dl, il, Int.natCast_zero] <;> rfl)
  · first | rfl | (simp only [setAll, push_cast, simprocAttr, hLb, lk_old hLb, hDb, lk_old hDb, hNb, lk_old hNb, hBb, lk_old hBb, hSb, lk_old hSb, hFb, lk_old hFb, dl_len, il_len, vS, tS, oS, uS, vF, tF, oF, uF, Nat.zero_add, List.nil_append, Nat.le_refl, dl, il, Int.natCast_zero] <;> rfl)
  try simp only [keepL, setAll, push_cast, simprocAttr, hLb, lk_old hLb, hDb, lk_old hDb, hNb, lk_old hNb, hBb, lk_old hBb, hSb, lk_old hSb, hFb, lk_old hFb, dl_len, il_len, vS, tS, oS, uS, vF, tF, oF, uF, Nat.zero_add, List.nil_append, Nat.le_refl]
  refine AW.seq_k fun K hK => ?_
  refine AW.region (by decide) ?_
  simp only [push_cast, simprocAttr, hLb, lk_old hLb, hDb, lk_old hDb, hNb, lk_old hNb, hBb, lk_old hBb, hSb, lk_old hSb, hFb, lk_old hFb, dl_len, il_len, vS, tS, oS, uS, vF, tF, oF, uF, Nat.zero_add, List.nil_append, Nat.le_refl]
  refine Thn_n ?_
  refine hK _ _ ?_
  clear hK K
  refine AW.seq_k fun K hK => ?_
  refine AW.cond rfl (fun h26 => ?_) (fun h26 => ?_)
  · have hlt : i < nD := by have := of_decide_eq_true h26; omega
    have c1 : (0 : Int) ≤ (i : Int) := by omega
    have c2 : (i : Int) < (nD : Int) := by omega
    have g := il_get (f := fD) hlt
    have gi := il_len i fD
    have q1 : i + 1 ≤ 140737488355328 := by omega
    have q2 : (i + 1) * 8 ≤ 140737488355328 := by omega
    refine AW.skip ?_
    refine Thn_n ?_
    refine hK _ _ ?_
    clear hK K
    refine AW.seq_k fun K hK => ?_
    refine AW.block ?_
    refine AW.seq_k fun K hK => ?_
    refine AW.region (by decide) ?_
    simp only [push_cast, simprocAttr, hLb, lk_old hLb, hDb, lk_old hDb, hNb, lk_old hNb, hBb, lk_old hBb, hSb, lk_old hSb, hFb, lk_old hFb, dl_len, il_len, vS, tS, oS, uS, vF, tF, oF, uF, Nat.zero_add, List.nil_append, Nat.le_refl, c1, c2, g, gi, q1, q2]
    refine Thn_n ?_
    refine hK _ _ ?_
    clear hK K
    refine AW.region (by decide) ?_
    simp only [push_cast, simprocAttr, hLb, lk_old hLb, hDb, lk_old hDb, hNb, lk_old hNb, hBb, lk_old hBb, hSb, lk_old hSb, hFb, lk_old hFb, dl_len, il_len, vS, tS, oS, uS, vF, tF, oF, uF, Nat.zero_add, List.nil_append, Nat.le_refl, c1, c2, g, gi, q1, q2]
    refine InB_n ?_
    refine Thn_n ?_
    refine hK _ _ ?_
    clear hK K
    refine AW.region (by decide) ?_
    simp only [push_cast, simprocAttr, hLb, lk_old hLb, hDb, lk_old hDb, hNb, lk_old hNb, hBb, lk_old hBb, hSb, lk_old hSb, hFb, lk_old hFb, dl_len, il_len, vS, tS, oS, uS, vF, tF, oF, uF, Nat.zero_add, List.nil_append, Nat.le_refl, c1, c2, g, gi, q1, q2]
    refine Thn_n ?_
    have hwi : IntKind.i64.wrap ((i:Int)+1) = (i:Int)+1 := wi (by omega)
    refine ⟨i + 1, by omega, by omega, ?_⟩
    try simp only [keepL, setAll, push_cast, simprocAttr, hLb, lk_old hLb, hDb, lk_old hDb, hNb, lk_old hNb, hBb, lk_old hBb, hSb, lk_old hSb, hFb, lk_old hFb, dl_len, il_len, vS, tS, oS, uS, vF, tF, oF, uF, Nat.zero_add, List.nil_append, Nat.le_refl, c1, c2, g, gi, q1, q2, hwi, dl_snoc, il_snoc]
    exact Weak.to (extra := [_]) (by simp only [Keeps, Tm.get_cons, Nat.reduceEqDiff, ↓reduceIte, if_true, if_false, ite_true, ite_false, true_and, and_true, and_self, reduceCtorEq, hwi, dl_snoc, il_snoc]) (by first | rfl | (simp only [List.append_assoc, List.cons_append, List.nil_append]; rfl)) (by first | rfl | (simp [AV.below, CV.below, dl_below, il_below]; done) | (simp [AV.below, CV.below, dl_below, il_below]; omega)) (by
      first | exact hwf | refine MWf.app (hwf.grow (by simp)) ?_
      repeat (first | exact MWf_nil | (refine MWf_cons ?_ ?_; · first | rfl | (simp [CV.below, dl_below, il_below]; done) | (simp [CV.below, dl_below, il_below]; omega))))
  · have hin : nD = i := by have := of_decide_eq_false h26; omega
    subst hin
    refine AW.exit ?_
    refine Thn_e ?_
    clear hK K
    refine Thn_e ?_
    refine InB_here ?_
    refine Thn_n ?_
    refine hK _ _ ?_
    clear hK K
    refine AW.seq_k fun K hK => ?_
    refine AW.seq_k fun K hK => ?_
    refine AW.region (by decide) ?_
    simp only [push_cast, simprocAttr, hLb, lk_old hLb, hDb, lk_old hDb, hNb, lk_old hNb, hBb, lk_old hBb, hSb, lk_old hSb, hFb, lk_old hFb, dl_len, il_len, vS, tS, oS, uS, vF, tF, oF, uF, Nat.zero_add, List.nil_append, Nat.le_refl]
    refine Thn_n ?_
    refine hK _ _ ?_
    clear hK K
    refine AW.block ?_
    refine AW.nilCell 73 3 (m.length + 5) 4 (by simp only [push_cast, simprocAttr, hLb, lk_old hLb, hDb, lk_old hDb, hNb, lk_old hNb, hBb, lk_old hBb, hSb, lk_old hSb, hFb, lk_old hFb, dl_len, il_len, vS, tS, oS, uS, vF, tF, oF, uF, Nat.zero_add, List.nil_append, Nat.le_refl]; first | done | rfl) (by intro e; cases e) rfl ?_
    try simp only [push_cast, simprocAttr, hLb, lk_old hLb, hDb, lk_old hDb, hNb, lk_old hNb, hBb, lk_old hBb, hSb, lk_old hSb, hFb, lk_old hFb, dl_len, il_len, vS, tS, oS, uS, vF, tF, oF, uF, Nat.zero_add, List.nil_append, Nat.le_refl]
    refine AW.loopK [1, 2, 3, 37, 38] (fun i => i ≤ nN) (fun i => [(39, .one (.int .i64 (i : Int)))]) (fun i => [(m.length + 5, ⟨.fix, 39, 0, 0, [.int .i64 W, .int .i64 H, .sl ra 0 0 nL, .sl (m.length + 6) nD 0 nD, .sl (m.length + 7) i 0 i, .nils, .sl rb 1 0 nS, .sl rc 1 0 nF]⟩), (m.length + 7, ⟨.grow, 73, i, 3, dl i GN⟩)]) (fun i => nN - i) 0 (by omega) ?_ ?_ fun i hi12 => ?_
    · first | rfl | (simp only [Keeps, Tm.get_cons, Nat.reduceEqDiff, ↓reduceIte, if_true, if_false, ite_true, ite_false, true_and, and_true, and_self, reduceCtorEq, dl, il, Int.natCast_zero] <;> rfl)
    · first | rfl | (simp only [setAll, push_cast, simprocAttr, hLb, lk_old hLb, hDb, lk_old hDb, hNb, lk_old hNb, hBb, lk_old hBb, hSb, lk_old hSb, hFb, lk_old hFb, dl_len, il_len, vS, tS, oS, uS, vF, tF, oF, uF, Nat.zero_add, List.nil_append, Nat.le_refl, dl, il, Int.natCast_zero] <;> rfl)
    try simp only [keepL, setAll, push_cast, simprocAttr, hLb, lk_old hLb, hDb, lk_old hDb, hNb, lk_old hNb, hBb, lk_old hBb, hSb, lk_old hSb, hFb, lk_old hFb, dl_len, il_len, vS, tS, oS, uS, vF, tF, oF, uF, Nat.zero_add, List.nil_append, Nat.le_refl]
    refine AW.seq_k fun K hK => ?_
    refine AW.region (by decide) ?_
    simp only [push_cast, simprocAttr, hLb, lk_old hLb, hDb, lk_old hDb, hNb, lk_old hNb, hBb, lk_old hBb, hSb, lk_old hSb, hFb, lk_old hFb, dl_len, il_len, vS, tS, oS, uS, vF, tF, oF, uF, Nat.zero_add, List.nil_append, Nat.le_refl]
    refine Thn_n ?_
    refine hK _ _ ?_
    clear hK K
    refine AW.seq_k fun K hK => ?_
    refine AW.cond rfl (fun h40 => ?_) (fun h40 => ?_)
    · have hlt : i < nN := by have := of_decide_eq_true h40; omega
      have c1 : (0 : Int) ≤ (i : Int) := by omega
      have c2 : (i : Int) < (nN : Int) := by omega
      have c3 : i * 3 + 3 ≤ nN * 3 := by omega
      have g0 := dl_get0 (G := GN) hlt
      have g1 := dl_get1 (G := GN) hlt
      have g2 := dl_get2 (G := GN) hlt
      have gi := dl_len i GN
      have q1 : i + 1 ≤ 140737488355328 := by omega
      have q2 : (i + 1) * 24 ≤ 140737488355328 := by omega
      refine AW.skip ?_
      refine Thn_n ?_
      refine hK _ _ ?_
      clear hK K
      refine AW.seq_k fun K hK => ?_
      refine AW.block ?_
      refine AW.seq_k fun K hK => ?_
      refine AW.region (by decide) ?_
      simp only [push_cast, simprocAttr, hLb, lk_old hLb, hDb, lk_old hDb, hNb, lk_old hNb, hBb, lk_old hBb, hSb, lk_old hSb, hFb, lk_old hFb, dl_len, il_len, vS, tS, oS, uS, vF, tF, oF, uF, Nat.zero_add, List.nil_append, Nat.le_refl, c1, c2, c3, g0, g1, g2, gi, q1, q2]
      refine Thn_n ?_
      refine hK _ _ ?_
      clear hK K
      refine AW.draw [.val, .rd 0, .rd 0, .ext, .ext, .wr, .val, .wr] fol (by decide) (by kernel_rfl) ?_
      simp only [push_cast, simprocAttr, hLb, lk_old hLb, hDb, lk_old hDb, hNb, lk_old hNb, hBb, lk_old hBb, hSb, lk_old hSb, hFb, lk_old hFb, dl_len, il_len, vS, tS, oS, uS, vF, tF, oF, uF, Nat.zero_add, List.nil_append, Nat.le_refl, c1, c2, c3, g0, g1, g2, gi, q1, q2]
      refine DCall.by0 (vecTo_c _ _ _ _) ?_
      simp only [push_cast, simprocAttr, hLb, lk_old hLb, hDb, lk_old hDb, hNb, lk_old hNb, hBb, lk_old hBb, hSb, lk_old hSb, hFb, lk_old hFb, dl_len, il_len, vS, tS, oS, uS, vF, tF, oF, uF, Nat.zero_add, List.nil_append, Nat.le_refl, c1, c2, c3, g0, g1, g2, gi, q1, q2]
      refine DExt.by (by first | rfl | (simp only [List.append_assoc, List.cons_append, List.nil_append]; rfl)) ?_
      simp only [push_cast, simprocAttr, hLb, lk_old hLb, hDb, lk_old hDb, hNb, lk_old hNb, hBb, lk_old hBb, hSb, lk_old hSb, hFb, lk_old hFb, dl_len, il_len, vS, tS, oS, uS, vF, tF, oF, uF, Nat.zero_add, List.nil_append, Nat.le_refl, c1, c2, c3, g0, g1, g2, gi, q1, q2]
      refine InB_n ?_
      refine Thn_n ?_
      refine hK _ _ ?_
      clear hK K
      refine AW.region (by decide) ?_
      simp only [push_cast, simprocAttr, hLb, lk_old hLb, hDb, lk_old hDb, hNb, lk_old hNb, hBb, lk_old hBb, hSb, lk_old hSb, hFb, lk_old hFb, dl_len, il_len, vS, tS, oS, uS, vF, tF, oF, uF, Nat.zero_add, List.nil_append, Nat.le_refl, c1, c2, c3, g0, g1, g2, gi, q1, q2]
      refine Thn_n ?_
      have hwi : IntKind.i64.wrap ((i:Int)+1) = (i:Int)+1 := wi (by omega)
      refine ⟨i + 1, by omega, by omega, ?_⟩
      try simp only [keepL, setAll, push_cast, simprocAttr, hLb, lk_old hLb, hDb, lk_old hDb, hNb, lk_old hNb, hBb, lk_old hBb, hSb, lk_old hSb, hFb, lk_old hFb, dl_len, il_len, vS, tS, oS, uS, vF, tF, oF, uF, Nat.zero_add, List.nil_append, Nat.le_refl, c1, c2, c3, g0, g1, g2, gi, q1, q2, hwi, dl_snoc, il_snoc]
      exact Weak.to (extra := [_, _]) (by simp only [Keeps, Tm.get_cons, Nat.reduceEqDiff, ↓reduceIte, if_true, if_false, ite_true, ite_false, true_and, and_true, and_self, reduceCtorEq, hwi, dl_snoc, il_snoc]) (by first | rfl | (simp only [List.append_assoc, List.cons_append, List.nil_append]; rfl)) (by first | rfl | (simp [AV.below, CV.below, dl_below, il_below]; done) | (simp [AV.below, CV.below, dl_below, il_below]; omega)) (by
        first | exact hwf | refine MWf.app (hwf.grow (by simp)) ?_
        repeat (first | exact MWf_nil | (refine MWf_cons ?_ ?_; · first | rfl | (simp [CV.below, dl_below, il_below]; done) | (simp [CV.below, dl_below, il_below]; omega))))
    · have hin : nN = i := by have := of_decide_eq_false h40; omega
      subst hin
      refine AW.exit ?_
      refine Thn_e ?_
      clear hK K
      refine Thn_e ?_
      refine InB_here ?_
      refine Thn_n ?_
      refine hK _ _ ?_
      clear hK K
      refine AW.seq_k fun K hK => ?_
      refine AW.seq_k fun K hK => ?_
      refine AW.region (by decide) ?_
      simp only [push_cast, simprocAttr, hLb, lk_old hLb, hDb, lk_old hDb, hNb, lk_old hNb, hBb, lk_old hBb, hSb, lk_old hSb, hFb, lk_old hFb, dl_len, il_len, vS, tS, oS, uS, vF, tF, oF, uF, Nat.zero_add, List.nil_append, Nat.le_refl]
      refine Thn_n ?_
      refine hK _ _ ?_
      clear hK K
      refine AW.block ?_
      refine AW.nilCell 68 3 (m.length + 5) 5 (by simp only [push_cast, simprocAttr, hLb, lk_old hLb, hDb, lk_old hDb, hNb, lk_old hNb, hBb, lk_old hBb, hSb, lk_old hSb, hFb, lk_old hFb, dl_len, il_len, vS, tS, oS, uS, vF, tF, oF, uF, Nat.zero_add, List.nil_append, Nat.le_refl]; first | done | rfl) (by intro e; cases e) rfl ?_
      try simp only [push_cast, simprocAttr, hLb, lk_old hLb, hDb, lk_old hDb, hNb, lk_old hNb, hBb, lk_old hBb, hSb, lk_old hSb, hFb, lk_old hFb, dl_len, il_len, vS, tS, oS, uS, vF, tF, oF, uF, Nat.zero_add, List.nil_append, Nat.le_refl]
      refine AW.loopK [2, 3, 52, 53] (fun i => i ≤ nB) (fun i => [(54, .one (.int .i64 (i : Int)))]) (fun i => [(m.length + 5, ⟨.fix, 39, 0, 0, [.int .i64 W, .int .i64 H, .sl ra 0 0 nL, .sl (m.length + 6) nD 0 nD, .sl (m.length + 7) nN 0 nN, .sl (m.length + 8) i 0 i, .sl rb 1 0 nS, .sl rc 1 0 nF]⟩), (m.length + 8, ⟨.grow, 68, i, 3, dl i GB⟩)]) (fun i => nB - i) 0 (by omega) ?_ ?_ fun i hi19 => ?_
      · first | rfl | (simp only [Keeps, Tm.get_cons, Nat.reduceEqDiff, ↓reduceIte, if_true, if_false, ite_true, ite_false, true_and, and_true, and_self, reduceCtorEq, dl, il, Int.natCast_zero] <;> rfl)
      · first | rfl | (simp only [setAll, push_cast, simprocAttr, hLb, lk_old hLb, hDb, lk_old hDb, hNb, lk_old hNb, hBb, lk_old hBb, hSb, lk_old hSb, hFb, lk_old hFb, dl_len, il_len, vS, tS, oS, uS, vF, tF, oF, uF, Nat.zero_add, List.nil_append, Nat.le_refl, dl, il, Int.natCast_zero] <;> rfl)
      try simp only [keepL, setAll, push_cast, simprocAttr, hLb, lk_old hLb, hDb, lk_old hDb, hNb, lk_old hNb, hBb, lk_old hBb, hSb, lk_old hSb, hFb, lk_old hFb, dl_len, il_len, vS, tS, oS, uS, vF, tF, oF, uF, Nat.zero_add, List.nil_append, Nat.le_refl]
      refine AW.seq_k fun K hK => ?_
      refine AW.region (by decide) ?_
      simp only [push_cast, simprocAttr, hLb, lk_old hLb, hDb, lk_old hDb, hNb, lk_old hNb, hBb, lk_old hBb, hSb, lk_old hSb, hFb, lk_old hFb, dl_len, il_len, vS, tS, oS, uS, vF, tF, oF, uF, Nat.zero_add, List.nil_append, Nat.le_refl]
      refine Thn_n ?_
      refine hK _ _ ?_
      clear hK K
      refine AW.seq_k fun K hK => ?_
      refine AW.cond rfl (fun h55 => ?_) (fun h55 => ?_)
      · have hlt : i < nB := by have := of_decide_eq_true h55; omega
        have c1 : (0 : Int) ≤ (i : Int) := by omega
        have c2 : (i : Int) < (nB : Int) := by omega
        have c3 : i * 3 + 3 ≤ nB * 3 := by omega
        have g0 := dl_get0 (G := GB) hlt
        have g1 := dl_get1 (G := GB) hlt
        have g2 := dl_get2 (G := GB) hlt
        have gi := dl_len i GB
        have q1 : i + 1 ≤ 140737488355328 := by omega
        have q2 : (i + 1) * 24 ≤ 140737488355328 := by omega
        refine AW.skip ?_
        refine Thn_n ?_
        refine hK _ _ ?_
        clear hK K
        refine AW.seq_k fun K hK => ?_
        refine AW.block ?_
        refine AW.seq_k fun K hK => ?_
        refine AW.region (by decide) ?_
        simp only [push_cast, simprocAttr, hLb, lk_old hLb, hDb, lk_old hDb, hNb, lk_old hNb, hBb, lk_old hBb, hSb, lk_old hSb, hFb, lk_old hFb, dl_len, il_len, vS, tS, oS, uS, vF, tF, oF, uF, Nat.zero_add, List.nil_append, Nat.le_refl, c1, c2, c3, g0, g1, g2, gi, q1, q2]
        refine Thn_n ?_
        refine hK _ _ ?_
        clear hK K
        refine AW.draw [.val, .rd 0, .rd 0, .ext, .ext, .wr, .val, .wr] fol (by decide) (by kernel_rfl) ?_
        simp only [push_cast, simprocAttr, hLb, lk_old hLb, hDb, lk_old hDb, hNb, lk_old hNb, hBb, lk_old hBb, hSb, lk_old hSb, hFb, lk_old hFb, dl_len, il_len, vS, tS, oS, uS, vF, tF, oF, uF, Nat.zero_add, List.nil_append, Nat.le_refl, c1, c2, c3, g0, g1, g2, gi, q1, q2]
        refine DCall.by0 (hueTo_c _ _ _ _) ?_
        simp only [push_cast, simprocAttr, hLb, lk_old hLb, hDb, lk_old hDb, hNb, lk_old hNb, hBb, lk_old hBb, hSb, lk_old hSb, hFb, lk_old hFb, dl_len, il_len, vS, tS, oS, uS, vF, tF, oF, uF, Nat.zero_add, List.nil_append, Nat.le_refl, c1, c2, c3, g0, g1, g2, gi, q1, q2]
        refine DExt.by (by first | rfl | (simp only [List.append_assoc, List.cons_append, List.nil_append]; rfl)) ?_
        simp only [push_cast, simprocAttr, hLb, lk_old hLb, hDb, lk_old hDb, hNb, lk_old hNb, hBb, lk_old hBb, hSb, lk_old hSb, hFb, lk_old hFb, dl_len, il_len, vS, tS, oS, uS, vF, tF, oF, uF, Nat.zero_add, List.nil_append, Nat.le_refl, c1, c2, c3, g0, g1, g2, gi, q1, q2]
        refine InB_n ?_
        refine Thn_n ?_
        refine hK _ _ ?_
        clear hK K
        refine AW.region (by decide) ?_
        simp only [push_cast, simprocAttr, hLb, lk_old hLb, hDb, lk_old hDb, hNb, lk_old hNb, hBb, lk_old hBb, hSb, lk_old hSb, hFb, lk_old hFb, dl_len, il_len, vS, tS, oS, uS, vF, tF, oF, uF, Nat.zero_add, List.nil_append, Nat.le_refl, c1, c2, c3, g0, g1, g2, gi, q1, q2]
        refine Thn_n ?_
        have hwi : IntKind.i64.wrap ((i:Int)+1) = (i:Int)+1 := wi (by omega)
        refine ⟨i + 1, by omega, by omega, ?_⟩
        try simp only [keepL, setAll, push_cast, simprocAttr, hLb, lk_old hLb, hDb, lk_old hDb, hNb, lk_old hNb, hBb, lk_old hBb, hSb, lk_old hSb, hFb, lk_old hFb, dl_len, il_len, vS, tS, oS, uS, vF, tF, oF, uF, Nat.zero_add, List.nil_append, Nat.le_refl, c1, c2, c3, g0, g1, g2, gi, q1, q2, hwi, dl_snoc, il_snoc]
        exact Weak.to (extra := [_, _]) (by simp only [Keeps, Tm.get_cons, Nat.reduceEqDiff, ↓reduceIte, if_true, if_false, ite_true, ite_false, true_and, and_true, and_self, reduceCtorEq, hwi, dl_snoc, il_snoc]) (by first | rfl | (simp only [List.append_assoc, List.cons_append, List.nil_append]; rfl)) (by first | rfl | (simp [AV.below, CV.below, dl_below, il_below]; done) | (simp [AV.below, CV.below, dl_below, il_below]; omega)) (by
          first | exact hwf | refine MWf.app (hwf.grow (by simp)) ?_
          repeat (first | exact MWf_nil | (refine MWf_cons ?_ ?_; · first | rfl | (simp [CV.below, dl_below, il_below]; done) | (simp [CV.below, dl_below, il_below]; omega))))
      · have hin : nB = i := by have := of_decide_eq_false h55; omega
        subst hin
        refine AW.exit ?_
        refine Thn_e ?_
        clear hK K
        refine Thn_e ?_
        refine InB_here ?_
        refine Thn_n ?_
        refine hK _ _ ?_
        clear hK K
        refine AW.seq_k fun K hK => ?_
        refine AW.region (by decide) ?_
        simp only [push_cast, simprocAttr, hLb, lk_old hLb, hDb, lk_old hDb, hNb, lk_old hNb, hBb, lk_old hBb, hSb, lk_old hSb, hFb, lk_old hFb, dl_len, il_len, vS, tS, oS, uS, vF, tF, oF, uF, Nat.zero_add, List.nil_append, Nat.le_refl]
        refine Thn_n ?_
        refine hK _ _ ?_
        clear hK K
        refine AW.ret ?_
        refine hQ _ _ _ ?_
        refine RetP.pick [(ra, 0), (m.length + 6, nD), (m.length + 7, nN), (m.length + 8, nB), (rb, 1), (rc, 1)] (Or.inr rfl) ?_ ?_ ?_ hwf ?_
        all_goals (subst hra; subst hrb; subst hrc)
        · simp only [resA, resOne, resTv, AV.tv, push_cast, simprocAttr]
          simp [renV, renT, renL, renC, renIdx, hlt0]
        · simp only [picks, push_cast, simprocAttr]
        · simp [distinctFrom]
        · repeat (first | exact MWf_nil | (refine MWf_cons ?_ ?_; · first | exact dl_below _ _ _ | exact il_below _ _ _))
        
  )
end Go.Proofs.Ytgbehbaecdepjaa
