/- Walks and facts of this seat's program over abstract states, printed by programs of mine; no conditions but those that each theorem names. -/
import Derived.Test.YtdkfbbjpblfclaaM3
import Derived.Laws.Externs
set_option linter.unusedSimpArgs false
set_option linter.unusedVariables false
set_option maxRecDepth 100000
set_option maxHeartbeats 4000000
namespace Go.Proofs.Ytdkfbbjpblfclaa
open Go Go.Eng
def crD (D : DS) (ks : Nat → Int) (kn : Nat) : DS := { D with S := crF D.S D.E ks kn, E := [], fuse := -1, down := false }
theorem crD_wf {n : Nat} {D : DS} (h : WfD n D) (ks : Nat → Int) (kn : Nat) : WfD n (crD D ks kn) := ⟨crF_len h.s h.e ks kn, WfE.nil n D.ck⟩
theorem setD_three (m : AMem) (rd rs rm n : Nat) (D : DS) (A B C : Blk) (ha : drB rs rm n D = A) (hb : rowD n D = B) (hc : mapD D = C) : setD m rd rs rm n D = ((m.set rd A).set rs B).set rm C := by subst ha; subst hb; subst hc; rfl
theorem cr_c (rd rs rm n : Nat) (D : DS) (lb vl kn : Nat) (ks : Nat → Int) (kl : BK) (el : Nat) (m : AMem) (h : HasD m rd rs rm n D) (hwd : WfD n D) (hl : m[lb]? = some ⟨kl, 3, vl, el, il kn ks⟩) (hkl : kl = .ro ∨ kl = .grow) (nlb : lb ≠ rs) (hkn : kn ≤ 1048576) : Ctr Try.prog 20 [.one (.ptr rd 0 0), .one (.sl lb vl 0 kn)] m (.one (.int .i64 0)) (setD m rd rs rm n (crD D ks kn)) := by
 refine Ctr.enter Try.func20 rfl (by decide) (rs := [.tmp 4]) (nt := 47) rfl rfl fun hwf Q hQ => ?_
 have hrd := h.d
 have hrs := h.r
 have hrm := h.m
 have ld := get_lt hrd
 have lr := get_lt hrs
 have lm := get_lt hrm
 have ndr : rd ≠ rs := h.dr
 have ndm : rd ≠ rm := h.dm
 have nrm : rs ≠ rm := h.rm
 have nrd := ndr.symm
 have nmd := ndm.symm
 have nmr := nrm.symm
 have oD := fun (L : AMem) => mk_olds (m := m) (l := m) rfl ld L
 have oR := fun (L : AMem) => mk_olds (m := m) (l := m) rfl lr L
 have oM := fun (L : AMem) => mk_olds (m := m) (l := m) rfl lm L
 have pD := fun (l L : AMem) (e : l.length = m.length) => mk_olds (m := m) (l := l) (r := rd) e ld L
 have pR := fun (l L : AMem) (e : l.length = m.length) => mk_olds (m := m) (l := l) (r := rs) e lr L
 have pM := fun (l L : AMem) (e : l.length = m.length) => mk_olds (m := m) (l := l) (r := rm) e lm L
 have gD := fun (l L : AMem) (e : l.length = m.length) => mk_old (m := m) (l := l) (r := rd) e ld L
 have gR := fun (l L : AMem) (e : l.length = m.length) => mk_old (m := m) (l := l) (r := rs) e lr L
 have gM := fun (l L : AMem) (e : l.length = m.length) => mk_old (m := m) (l := l) (r := rm) e lm L
 have sD := fun (l : AMem) (b : Blk) (e : l.length = m.length) => mk_self (m := m) (l := l) (r := rd) e ld b
 have sR := fun (l : AMem) (b : Blk) (e : l.length = m.length) => mk_self (m := m) (l := l) (r := rs) e lr b
 have sM := fun (l : AMem) (b : Blk) (e : l.length = m.length) => mk_self (m := m) (l := l) (r := rm) e lm b
 have aA := fun (l L : AMem) (e : l.length = m.length) => mk_lk0 (m := m) (l := l) e L
 have aK := fun (l L : AMem) (k : Nat) (e : l.length = m.length) => mk_lk (m := m) (l := l) e L k
 have aT := fun (l L : AMem) (k : Nat) (b : Blk) (e : l.length = m.length) => mk_set (m := m) (l := l) e L k b
 have aS := fun (l L : AMem) (b : Blk) (e : l.length = m.length) => mk_set0 (m := m) (l := l) e L b
 have llb := get_lt hl
 have hlr := fun (b : Blk) => (List.getElem?_set_ne (l := m) (a := b) (fun e : rs = lb => nlb e.symm)).trans hl
 have oL := fun (l L : AMem) (e : l.length = m.length) => mk_old (m := m) (l := l) (r := lb) e llb L
 have hz : zeros zV 128 = [.int .u8 0, .int .u8 0, .int .u8 0, .int .u8 0, .int .u8 0, .int .u8 0, .int .u8 0, .int .u8 0, .int .u8 0, .int .u8 0, .int .u8 0, .int .u8 0, .int .u8 0, .int .u8 0, .int .u8 0, .int .u8 0, .int .u8 0, .int .u8 0, .int .u8 0, .int .u8 0, .int .u8 0, .int .u8 0, .int .u8 0, .int .u8 0, .int .u8 0, .int .u8 0, .int .u8 0, .int .u8 0, .int .u8 0, .int .u8 0, .int .u8 0, .int .u8 0, .int .u8 0, .int .u8 0, .int .u8 0, .int .u8 0, .int .u8 0, .int .u8 0, .int .u8 0, .int .u8 0, .int .u8 0, .int .u8 0, .int .u8 0, .int .u8 0, .int .u8 0, .int .u8 0, .int .u8 0, .int .u8 0, .int .u8 0, .int .u8 0, .int .u8 0, .int .u8 0, .int .u8 0, .int .u8 0, .int .u8 0, .int .u8 0, .int .u8 0, .int .u8 0, .int .u8 0, .int .u8 0, .int .u8 0, .int .u8 0, .int .u8 0, .int .u8 0, .int .u8 0, .int .u8 0, .int .u8 0, .int .u8 0, .int .u8 0, .int .u8 0, .int .u8 0, .int .u8 0, .int .u8 0, .int .u8 0, .int .u8 0, .int .u8 0, .int .u8 0, .int .u8 0, .int .u8 0, .int .u8 0, .int .u8 0, .int .u8 0, .int .u8 0, .int .u8 0, .int .u8 0, .int .u8 0, .int .u8 0, .int .u8 0, .int .u8 0, .int .u8 0, .int .u8 0, .int .u8 0, .int .u8 0, .int .u8 0, .int .u8 0, .int .u8 0, .int .u8 0, .int .u8 0, .int .u8 0, .int .u8 0, .int .u8 0, .int .u8 0, .int .u8 0, .int .u8 0, .int .u8 0, .int .u8 0, .int .u8 0, .int .u8 0, .int .u8 0, .int .u8 0, .int .u8 0, .int .u8 0, .int .u8 0, .int .u8 0, .int .u8 0, .int .u8 0, .int .u8 0, .int .u8 0, .int .u8 0, .int .u8 0, .int .u8 0, .int .u8 0, .int .u8 0, .int .u8 0, .int .u8 0, .int .u8 0, .int .u8 0, .int .u8 0] := by decide
 have hw2 : MWf m.length (setD m rd rs rm n (crD D ks kn)) := setD_wf hwf lr lm _
 have e2 := setD_three m rd rs rm n (crD D ks kn) _ _ _ rfl rfl rfl
 have hse := set_self h.r
 refine AW.sr 1 fun K hK => ?_
 have pk_1 : _ ∧ _ ∧ _ ∧ _ ∧ _ ∧ _ ∧ _ ∧ _ ∧ _ ∧ _ ∧ _ ∧ _ ∧ _ ∧ _ ∧ _ ∧ _ ∧ _ ∧ _ ∧ _ := ⟨hl, hlr, oL, hrd, hrs, hrm, pD, pR, pM, gD, gR, gM, sD, sR, sM, aA, aS, aK, aT⟩
 simp only [push_cast, simprocAttr, setMap, List.set_set, List.length_set, List.getElem?_set_ne ndr, List.getElem?_set_ne ndm, List.getElem?_set_ne nrm, List.getElem?_set_ne nrd, List.getElem?_set_ne nmd, List.getElem?_set_ne nmr, drB, rowD, mapD, pk_1]
 apply hK;clear hK K
 refine AW.seq_k fun K hK => ?_
 refine AW.sr 1 fun K hK => ?_
 simp only [push_cast, simprocAttr, setMap, List.set_set, List.length_set, List.getElem?_set_ne ndr, List.getElem?_set_ne ndm, List.getElem?_set_ne nrm, List.getElem?_set_ne nrd, List.getElem?_set_ne nmd, List.getElem?_set_ne nmr, drB, rowD, mapD, pk_1]
 apply hK;clear hK K
 refine AW.cond_f rfl ?_
 refine AW.skip ?_
 apply hK;clear hK K
 refine AW.seq_k fun K hK => ?_
 refine AW.sr 1 fun K hK => ?_
 simp only [push_cast, simprocAttr, setMap, List.set_set, List.length_set, List.getElem?_set_ne ndr, List.getElem?_set_ne ndm, List.getElem?_set_ne nrm, List.getElem?_set_ne nrd, List.getElem?_set_ne nmd, List.getElem?_set_ne nmr, drB, rowD, mapD, pk_1]
 apply hK;clear hK K
 refine AW.block ?_
 refine AW.loopK [0, 11, 12] (fun i => i ≤ kn) (fun i => [(13, .one (.int .i64 (i : Int)))]) (fun i => [(rs, ⟨.grow, 78, 0, 128, u8l (catB n (crF D.S D.E ks i))⟩)]) (fun i => kn - i) 0 (by omega) ?_ ?_ fun i hi3 => ?_
 · first | rfl | (simp only [KS, simprocAttr, crF, Int.natCast_zero] <;> repeat' (first | rfl | apply And.intro))
 · simp only [setAll, crF]; exact set_self h.r
 try simp only [keepL, setAll, push_cast, simprocAttr, setMap, List.set_set, List.length_set, List.getElem?_set_ne ndr, List.getElem?_set_ne ndm, List.getElem?_set_ne nrm, List.getElem?_set_ne nrd, List.getElem?_set_ne nmd, List.getElem?_set_ne nmr, drB, rowD, mapD, pk_1]
 refine AW.sr 1 fun K hK => ?_
 simp only [push_cast, simprocAttr, setMap, List.set_set, List.length_set, List.getElem?_set_ne ndr, List.getElem?_set_ne ndm, List.getElem?_set_ne nrm, List.getElem?_set_ne nrd, List.getElem?_set_ne nmd, List.getElem?_set_ne nmr, drB, rowD, mapD, pk_1]
 apply hK;clear hK K
 refine AW.seq_k fun K hK => ?_
 refine AW.cond rfl (fun h14 => ?_) (fun h14 => ?_)
 ·have hlt : i < kn := by have := of_decide_eq_true h14; omega
  have c1 : (0 : Int) ≤ (i : Int) := by omega
  have c2 : (i : Int) < (kn : Int) := by omega
  have g := il_get (f := ks) hlt
  refine AW.skip ?_
  apply hK;clear hK K
  refine AW.seq_k fun K hK => ?_
  refine AW.block ?_
  refine AW.sr 1 fun K hK => ?_
  simp only [push_cast, simprocAttr, setMap, List.set_set, List.length_set, List.getElem?_set_ne ndr, List.getElem?_set_ne ndm, List.getElem?_set_ne nrm, List.getElem?_set_ne nrd, List.getElem?_set_ne nmd, List.getElem?_set_ne nmr, drB, rowD, mapD, pk_1, c1, c2, g]
  apply hK;clear hK K
  refine AW.seq_k fun K hK => ?_
  rcases hf : fndE (ks i) D.E with _ | j
  ·have g1 := findL_eL (ks i) D.E
   rw [hf] at g1
   have hnx : crF D.S D.E ks (i + 1) = crF D.S D.E ks i := by
     show (match lkE (ks i) D.E with | some v => _ | none => _) = _
     rw [lkE_none hf]
   refine AW.rg ?_
   have pk_2 : _ ∧ _ ∧ _ ∧ _ ∧ _ := ⟨pk_1, c1, c2, g, g1⟩
   simp only [push_cast, simprocAttr, setMap, List.set_set, List.length_set, List.getElem?_set_ne ndr, List.getElem?_set_ne ndm, List.getElem?_set_ne nrm, List.getElem?_set_ne nrd, List.getElem?_set_ne nmd, List.getElem?_set_ne nmr, drB, rowD, mapD, pk_2]
   apply hK;clear hK K
   refine AW.sr 1 fun K hK => ?_
   simp only [push_cast, simprocAttr, setMap, List.set_set, List.length_set, List.getElem?_set_ne ndr, List.getElem?_set_ne ndm, List.getElem?_set_ne nrm, List.getElem?_set_ne nrd, List.getElem?_set_ne nmd, List.getElem?_set_ne nmr, drB, rowD, mapD, pk_2]
   apply hK;clear hK K
   refine AW.cond_f rfl ?_
   refine AW.skip ?_
   refine InB_n ?_
   apply hK;clear hK K
   refine AW.rg ?_
   simp only [push_cast, simprocAttr, setMap, List.set_set, List.length_set, List.getElem?_set_ne ndr, List.getElem?_set_ne ndm, List.getElem?_set_ne nrm, List.getElem?_set_ne nrd, List.getElem?_set_ne nmd, List.getElem?_set_ne nmr, drB, rowD, mapD, pk_2]
   refine Thn_n ?_
   have hwi : IntKind.i64.wrap ((i:Int)+1) = (i:Int)+1 := wi (by omega)
   refine ⟨i + 1, hlt, by omega, ?_⟩
   try simp only [keepL, setAll, push_cast, simprocAttr, setMap, List.set_set, List.length_set, List.getElem?_set_ne ndr, List.getElem?_set_ne ndm, List.getElem?_set_ne nrm, List.getElem?_set_ne nrd, List.getElem?_set_ne nmd, List.getElem?_set_ne nmr, drB, rowD, mapD, pk_2, hwi, hnx]
   exact Weak.to (extra := [_]) (by simp only [KS, simprocAttr, hwi, hnx]) (by first | rfl | (simp only [List.append_assoc, List.cons_append, List.nil_append]; rfl)) (by first | rfl | (simp [AV.below, CV.below]; done) | (simp [AV.below, CV.below]; omega)) (by rw [List.length_set]; exact MWf_setB hwf (u8l_below _ _) rfl)
  ·have g1 := findL_eL (ks i) D.E
   rw [hf] at g1
   obtain ⟨b, w, hj, hl⟩ := fndE_some hf
   have g4 := eL_get hj
   simp only [eC] at g4
   have hme := List.mem_of_getElem? hj
   have hw128 := hwd.e.len _ hme
   have hkey := hwd.e.key _ hme
   dsimp only at hw128 hkey
   have g5 : (u8l w).length = 128 := by rw [u8l_len]; exact hw128
   have g6 : (u8l w).take 128 = u8l w := List.take_of_length_le (by omega)
   have g7 := u8l_vals w
   have g8 : setL [.int .u8 0, .int .u8 0, .int .u8 0, .int .u8 0, .int .u8 0, .int .u8 0, .int .u8 0, .int .u8 0, .int .u8 0, .int .u8 0, .int .u8 0, .int .u8 0, .int .u8 0, .int .u8 0, .int .u8 0, .int .u8 0, .int .u8 0, .int .u8 0, .int .u8 0, .int .u8 0, .int .u8 0, .int .u8 0, .int .u8 0, .int .u8 0, .int .u8 0, .int .u8 0, .int .u8 0, .int .u8 0, .int .u8 0, .int .u8 0, .int .u8 0, .int .u8 0, .int .u8 0, .int .u8 0, .int .u8 0, .int .u8 0, .int .u8 0, .int .u8 0, .int .u8 0, .int .u8 0, .int .u8 0, .int .u8 0, .int .u8 0, .int .u8 0, .int .u8 0, .int .u8 0, .int .u8 0, .int .u8 0, .int .u8 0, .int .u8 0, .int .u8 0, .int .u8 0, .int .u8 0, .int .u8 0, .int .u8 0, .int .u8 0, .int .u8 0, .int .u8 0, .int .u8 0, .int .u8 0, .int .u8 0, .int .u8 0, .int .u8 0, .int .u8 0, .int .u8 0, .int .u8 0, .int .u8 0, .int .u8 0, .int .u8 0, .int .u8 0, .int .u8 0, .int .u8 0, .int .u8 0, .int .u8 0, .int .u8 0, .int .u8 0, .int .u8 0, .int .u8 0, .int .u8 0, .int .u8 0, .int .u8 0, .int .u8 0, .int .u8 0, .int .u8 0, .int .u8 0, .int .u8 0, .int .u8 0, .int .u8 0, .int .u8 0, .int .u8 0, .int .u8 0, .int .u8 0, .int .u8 0, .int .u8 0, .int .u8 0, .int .u8 0, .int .u8 0, .int .u8 0, .int .u8 0, .int .u8 0, .int .u8 0, .int .u8 0, .int .u8 0, .int .u8 0, .int .u8 0, .int .u8 0, .int .u8 0, .int .u8 0, .int .u8 0, .int .u8 0, .int .u8 0, .int .u8 0, .int .u8 0, .int .u8 0, .int .u8 0, .int .u8 0, .int .u8 0, .int .u8 0, .int .u8 0, .int .u8 0, .int .u8 0, .int .u8 0, .int .u8 0, .int .u8 0, .int .u8 0, .int .u8 0, .int .u8 0, .int .u8 0] 0 (u8l w) = u8l w := setL_all (by rw [g5]; rfl)
   have hnx : crF D.S D.E ks (i + 1) = updS (crF D.S D.E ks i) (ks i).toNat w := by
     show (match lkE (ks i) D.E with | some v => _ | none => _) = _
     have e : lkE (ks i) D.E = some w := by unfold lkE; rw [hl]; rfl
     rw [e]
   have p1 : 0 ≤ ks i := hkey.1
   have p2 : ks i < (n : Int) := hkey.2
   have p3 : (ks i).toNat < n := by omega
   have p4 : (ks i).toNat * 128 + 128 ≤ n * 128 := by omega
   have hcl : (u8l (catB n (crF D.S D.E ks i))).length = n * 128 := by rw [u8l_len, catB_len (crF_len hwd.s hwd.e ks i)]
   have hcs := catB_set (crF_len hwd.s hwd.e ks i) p3 hw128
   refine AW.rg ?_
   have pk_3 : _ ∧ _ ∧ _ ∧ _ ∧ _ ∧ _ ∧ _ ∧ _ ∧ _ ∧ _ ∧ _ ∧ _ ∧ _ ∧ _ ∧ _ := ⟨pk_1, c1, c2, g, g1, g4, g5, g6, g7, g8, p1, p2, p4, hcl, hcs⟩
   simp only [push_cast, simprocAttr, setMap, List.set_set, List.length_set, List.getElem?_set_ne ndr, List.getElem?_set_ne ndm, List.getElem?_set_ne nrm, List.getElem?_set_ne nrd, List.getElem?_set_ne nmd, List.getElem?_set_ne nmr, drB, rowD, mapD, Nat.le_refl, pk_3]
   apply hK;clear hK K
   refine AW.sr 1 fun K hK => ?_
   simp only [push_cast, simprocAttr, setMap, List.set_set, List.length_set, List.getElem?_set_ne ndr, List.getElem?_set_ne ndm, List.getElem?_set_ne nrm, List.getElem?_set_ne nrd, List.getElem?_set_ne nmd, List.getElem?_set_ne nmr, drB, rowD, mapD, Nat.le_refl, pk_3]
   apply hK;clear hK K
   refine AW.cond_t rfl ?_
   refine AW.draw [.val, .val, .val, .rd 0, .val, .rd 0, .val, .wr] fol (by decide) (by kernel_rfl) ?_
   simp only [push_cast, simprocAttr, setMap, List.set_set, List.length_set, List.getElem?_set_ne ndr, List.getElem?_set_ne ndm, List.getElem?_set_ne nrm, List.getElem?_set_ne nrd, List.getElem?_set_ne nmd, List.getElem?_set_ne nmr, drB, rowD, mapD, Nat.le_refl, pk_3]
   refine InB_n ?_
   apply hK;clear hK K
   refine AW.rg ?_
   simp only [push_cast, simprocAttr, setMap, List.set_set, List.length_set, List.getElem?_set_ne ndr, List.getElem?_set_ne ndm, List.getElem?_set_ne nrm, List.getElem?_set_ne nrd, List.getElem?_set_ne nmd, List.getElem?_set_ne nmr, drB, rowD, mapD, Nat.le_refl, pk_3]
   refine Thn_n ?_
   have hwi : IntKind.i64.wrap ((i:Int)+1) = (i:Int)+1 := wi (by omega)
   refine ⟨i + 1, hlt, by omega, ?_⟩
   try simp only [keepL, setAll, push_cast, simprocAttr, setMap, List.set_set, List.length_set, List.getElem?_set_ne ndr, List.getElem?_set_ne ndm, List.getElem?_set_ne nrm, List.getElem?_set_ne nrd, List.getElem?_set_ne nmd, List.getElem?_set_ne nmr, drB, rowD, mapD, Nat.le_refl, pk_3, hwi, hnx]
   exact Weak.to (extra := [_]) (by simp only [KS, simprocAttr, hwi, hnx]) (by first | rfl | (simp only [List.append_assoc, List.cons_append, List.nil_append]; rfl)) (by first | rfl | (simp [AV.below, CV.below]; done) | (simp [AV.below, CV.below]; omega)) (by rw [List.length_set]; exact MWf_setB hwf (u8l_below _ _) rfl)
 ·have hie : i = kn := by have := of_decide_eq_false h14; omega
  subst hie
  refine AW.exit ?_
  refine Thn_e ?_
  clear hK K
  refine Thn_e ?_
  refine InB_here ?_
  apply hK;clear hK K
  refine AW.sr 3 fun K hK => ?_
  simp only [push_cast, simprocAttr, setMap, List.set_set, List.length_set, List.getElem?_set_ne ndr, List.getElem?_set_ne ndm, List.getElem?_set_ne nrm, List.getElem?_set_ne nrd, List.getElem?_set_ne nmd, List.getElem?_set_ne nmr, drB, rowD, mapD, pk_1]
  apply hK;clear hK K
  refine AW.ret ?_
  refine hQ _ _ _ ?_
  rw [e2] at hw2 ⊢
  have key : ∀ A B C : Blk, ((m.set rd A).set rs B).set rm C = ((m.set rs B).set rm C).set rd A := fun A B C => by
    rw [List.set_comm _ _ ndr, List.set_comm _ _ ndm]
  rw [key] at hw2 ⊢
  first | refine RetP.dropM0 (by simp only [List.length_set]) (by first | exact Or.inr rfl | exact Or.inl rfl) ?_ ?_ hw2 | refine RetP.dropM (by simp only [List.length_set]) (by first | exact Or.inr rfl | exact Or.inl rfl) ?_ ?_ hw2
  · simp only [resA, resOne, resTv, AV.tv, push_cast, simprocAttr]
  · rfl
end Go.Proofs.Ytdkfbbjpblfclaa
namespace Go.Eng
open Go
variable {P : Program} {m m' : AMem}
variable {P : Program} {nt : Nat} {tm : Tm} {mem : AMem} {Q : Exit → Tm → AMem → Prop}
theorem leftOf_mem {ρ : Env} {ka va : Bool} {seen : List Nat} : ∀ {es : List (Nat × List CV × List CV)} {o : List MapEntry}, All2 (entR ρ ka va) es o → ∀ {x : MapEntry}, x ∈ o → x.born ∉ seen → ∃ (j : Nat) (e : Nat × List CV × List CV), es[j]? = some e ∧ e.1 = x.born ∧ e.1 ∉ seen ∧ entR ρ ka va e x
 | [], [], _, x, h, _ => by cases h
 | e :: es, y :: o, ho, x, h, hs => by
  rcases List.mem_cons.1 h with rfl | h
  ·exact ⟨0, e, rfl, ho.1.1.symm, by rw [← ho.1.1]; exact hs, ho.1⟩
  ·obtain ⟨j, e', h1, h2⟩ := leftOf_mem ho.2 h hs
   exact ⟨j + 1, e', by simpa using h1, h2⟩
 | [], _ :: _, h, _, _, _ => h.elim
 | _ :: _, [], h, _, _, _ => h.elim
theorem AW.next {id d t : Nat} {ty : TypeId} {pos : String} {af : Array Edge} {l : List Oper} (ri rm since last : Nat) (seen : List Nat) {ity iesz : Nat} {clock : Nat} {ka va : Bool} {es : List (Nat × List CV × List CV)}
  (hd : d < nt) (hl : l.all (dstOk nt) = true) (hit : Tm.get tm t = .one (.ptr ri 0 0)) (hi : mem[ri]? = some ⟨.iter rm since seen last, ity, 0, iesz, []⟩) (hm : mapAt mem rm 0 = some (ka, va, clock, es))
  (hold : ∀ e, e ∈ es → e.1 < since) (hsc : since ≤ last)
  (hMore : ∀ (j : Nat) (e : Nat × List CV × List CV), es[j]? = some e → e.1 ∉ seen → AOps P (⟨some d, .next (.tmp t) false, ty, pos, af, none⟩ :: l).toArray l ((d, .tup [(false, [.bool true]), (ka, e.2.1), (va, e.2.2)]) :: tm) (mem.set ri ⟨.iter rm since (seen ++ [e.1]) clock, ity, 0, iesz, []⟩) (Q .normal))
  (hDone : (∀ e, e ∈ es → e.1 ∈ seen) → AOps P (⟨some d, .next (.tmp t) false, ty, pos, af, none⟩ :: l).toArray l ((d, .tup [(false, [.bool false])]) :: tm) mem (Q .normal)) :
  AW P nt (.region id (⟨some d, .next (.tmp t) false, ty, pos, af, none⟩ :: l).toArray false) tm mem Q := by
 intro ρ a w hr
 refine wp_region_lit ?_
 refine wpList_plain rfl fun K hK => ?_
 unfold Oper.wp
 have hv := hr.tm t
 rw [hit] at hv
 obtain ⟨n, N, k, k', h1, h2, h3, h4, hv'⟩ := iter_sound hr.mem hi hv
 obtain ⟨b, N', kk, o, hb', hver, hkind, hcells, hρ, hvv, hheap, hall⟩ := mapAt_sound hr.mem hm (v := .map (some N)) ⟨N, k', h2, rfl⟩
 injection hvv with hvv; injection hvv with hvv; subst hvv
 have hold' : ∀ x ∈ o.toList, x.born < since := fun x hx => by
  obtain ⟨i, hi'⟩ := List.getElem?_of_mem hx
  have hlen := hall.length
  have hil : i < es.length := by rw [hlen]; exact (List.getElem?_eq_some_iff.1 hi').1
  obtain ⟨x', hx', g⟩ := hall.get (List.getElem?_eq_getElem hil)
  rw [hi'] at hx'; injection hx' with hx'; subst hx'
  rw [g.1]; exact hold _ (List.getElem_mem hil)
 have hex : ∀ r, (Instr.next (.pointer (some ⟨n, 0, none⟩)) false ty).run P w = r → (execOp a.eval ⟨some d, .next (.tmp t) false, ty, pos, af, none⟩).run P w = r.andThen fun v w' => .ok (.value v) w' := by
  intro r hr'
  have e : a.eval (.tmp t) = .pointer (some ⟨n, 0, none⟩) := hv'
  simp only [execOp, e, Sem.run_bind, hr', Sem.run_pure]
 rcases run_next_at (P := P) w ty n N since last seen.toArray o clock h3 hheap hold' hsc with ⟨h0, hrun⟩ | ⟨x, hx, w1, hw1, hrun⟩
 ·rw [hex _ hrun, Result.andThen_ok, Oper.upon_value]
  refine hK _ _ ?_
  have hall0 : ∀ e, e ∈ es → e.1 ∈ seen := fun e he => by
   obtain ⟨i, hi'⟩ := List.getElem?_of_mem he
   obtain ⟨x, hx, g⟩ := hall.get hi'
   rcases Classical.em (e.1 ∈ seen) with h | h
   ·exact h
   ·exfalso
    have : x ∈ (leftOf o seen.toArray).toList := by
     unfold leftOf
     simp only [Array.toList_filter, List.mem_filter, Bool.not_eq_true', List.contains_toArray]
     exact ⟨List.mem_of_getElem? hx, by rw [g.1]; simpa using h⟩
    rw [Array.eq_empty_of_size_eq_zero h0] at this
    cases this
  have hr1 : Rep ρ nt ((d, .tup [(false, [.bool false])]) :: tm) mem (a.put (some d) (.tuple #[.bool false])) w := hr.put hd ⟨_, rfl, rfl, trivial⟩
  exact aops_sound l _ _ _ hl (hDone hall0) ρ _ w _ hr1 fun ρ' tm' mem' a' w' r s dd k => ⟨ρ', tm', mem', r, s, dd, k⟩
 ·rw [hex _ hrun, Result.andThen_ok, Oper.upon_value]
  refine hK _ _ ?_
  have hxo : x ∈ o.toList ∧ x.born ∉ seen := by
   unfold leftOf at hx
   simp only [Array.toList_filter, List.mem_filter, Bool.not_eq_true', List.contains_toArray] at hx
   exact ⟨hx.1, by simpa using hx.2⟩
  obtain ⟨j, e, g1, g2, g3, g4⟩ := leftOf_mem hall hxo.1 hxo.2
  have hw : w1.heap = w.heap ∧ w1.os = w.os ∧ w1.tape = w.tape ∧ w1.output = w.output := by rcases hw1 with rfl | rfl <;> exact ⟨rfl, rfl, rfl, rfl⟩
  have hnl : n < w.heap.size := (Array.getElem?_eq_some_iff.1 h3).1
  have hbk : BlkR ρ (ChangeMaps.setBlock w1 n (.mapIter (some N) since (seen.toArray.push x.born) clock)) ri ⟨.iter rm since (seen ++ [e.1]) clock, ity, 0, iesz, []⟩ := by
   refine ⟨n, N, k, k', h1, h2, ?_, rfl⟩
   show (w1.heap.setIfInBounds n _)[n]? = _
   rw [hw.1, Array.getElem?_setIfInBounds_self_of_lt hnl, g2]
   simp
  obtain ⟨q1, q2⟩ := hr.mem.turn (w' := ChangeMaps.setBlock w1 n (.mapIter (some N) since (seen.toArray.push x.born) clock)) hi (by simp) h1 ⟨.iter rm since (seen ++ [e.1]) clock, ity, 0, iesz, []⟩ rfl rfl (by
    intro m hmn
    show (w1.heap.setIfInBounds n _)[m]? = _
    rw [hw.1, Array.getElem?_setIfInBounds_ne (fun e => hmn e.symm)]) (by show (w1.heap.setIfInBounds n _).size = _; rw [hw.1]; simp) hw.2.1 hw.2.2.1 hw.2.2.2 hbk
  have hr1 : Rep ρ nt ((d, .tup [(false, [.bool true]), (ka, e.2.1), (va, e.2.2)]) :: tm) (mem.set ri ⟨.iter rm since (seen ++ [e.1]) clock, ity, 0, iesz, []⟩) (a.put (some d) (.tuple #[.bool true, x.key, x.val])) (ChangeMaps.setBlock w1 n (.mapIter (some N) since (seen.toArray.push x.born) clock)) :=
   (hr.step q2 q1).put hd ⟨_, rfl, rfl, g4.2.1, g4.2.2.1, trivial⟩
  exact aops_sound l _ _ _ hl (hMore j e g1 g3) ρ _ _ _ hr1 fun ρ' tm' mem' a' w' r s dd k => ⟨ρ', tm', mem', r, q2.trans s, dd, k⟩
end Go.Eng
namespace Go.Proofs.Ytdkfbbjpblfclaa
open Go Go.Eng
theorem nd_len : ∀ {l r : List Nat}, l.Nodup → (∀ x, x ∈ l → x ∈ r) → l.length ≤ r.length
 | [], r, _, _ => Nat.zero_le _
 | x :: l, r, hn, hs => by
  rw [List.nodup_cons] at hn
  obtain ⟨a, b, rfl⟩ := List.append_of_mem (hs x List.mem_cons_self)
  have := nd_len (l := l) (r := a ++ b) hn.2 fun y hy => by
   have h1 := hs y (List.mem_cons_of_mem _ hy)
   have hne : y ≠ x := fun e => hn.1 (e ▸ hy)
   simp only [List.mem_append, List.mem_cons] at h1 ⊢
   rcases h1 with h1 | h1 | h1
   ·exact .inl h1
   ·exact (hne h1).elim
   ·exact .inr h1
  simp only [List.length_append, List.length_cons] at this ⊢
  omega
theorem eL_find {E : DE} (hn : (E.map (·.1)).Nodup) {b : Nat} {k : Int} {v : List Int} (h : (b, k, v) ∈ E) : (eL E).find? (fun e => e.1 == b) = some (b, [.int .i64 k], u8l v) := by
 induction E with
 | nil => cases h
 | cons e E ih =>
  rw [List.map_cons, List.nodup_cons] at hn
  show (eC e :: eL E).find? _ = _
  rw [List.find?_cons]
  rcases List.mem_cons.1 h with rfl | h
  ·simp [eC]
  ·have hne : ((eC e).1 == b) = false := by
    rw [beq_eq_false_iff_ne]; intro e1
    exact hn.1 (by rw [show e.1 = b from e1]; exact List.mem_map_of_mem (f := (·.1)) h)
   rw [hne]
   exact ih hn.2 h
def syD (D : DS) : DS := { spD D with S := vis D.S D.E, E := [] }
theorem syD_wf {n : Nat} {D : DS} (h : WfD n D) : WfD n (syD D) := ⟨vis_len h.s h.e, WfE.nil n _⟩
structure SeenOk (E : DE) (seen : List Nat) : Prop where
 nd : seen.Nodup
 sub : ∀ x, x ∈ seen → x ∈ E.map (·.1)
theorem SeenOk.nil (E : DE) : SeenOk E [] := ⟨List.nodup_nil, fun x h => by cases h⟩
theorem SeenOk.add {E : DE} {seen : List Nat} (h : SeenOk E seen) {b : Nat} {k : Int} {v : List Int} (hb : (b, k, v) ∈ E) (hn : b ∉ seen) : SeenOk E (seen ++ [b]) :=
 ⟨List.nodup_append.2 ⟨h.nd, by simp, fun x hx y hy e => by simp at hy; subst hy; subst e; exact hn hx⟩, fun x hx => by
  rcases List.mem_append.1 hx with hx | hx
  ·exact h.sub x hx
  ·rw [List.mem_singleton.1 hx]; exact List.mem_map_of_mem (f := (·.1)) hb⟩
theorem SeenOk.lt {E : DE} {seen : List Nat} (h : SeenOk E seen) {b : Nat} {k : Int} {v : List Int} (hb : (b, k, v) ∈ E) (hn : b ∉ seen) : E.length - (seen ++ [b]).length < E.length - seen.length := by
 have h2 := h.add hb hn
 have := nd_len h2.nd h2.sub
 rw [List.length_map] at this
 simp only [List.length_append, List.length_cons, List.length_nil] at this ⊢
 omega
theorem getLast_app (s : List Nat) (b : Nat) : (s ++ [b]).getLast? = some b := by simp
theorem sy_no (rd rs rm n : Nat) (D : DS) (m : AMem) (h : HasD m rd rs rm n D) (hd : D.down = false) (hz : D.fuse = 0) : Ctr Try.prog 39 [.one (.ptr rd 0 0)] m (.one (.int .i64 5)) (setD m rd rs rm n (spD D)) := by
 refine Ctr.enter Try.func39 rfl (by decide) (rs := [.tmp 2]) (nt := 37) rfl rfl fun hwf Q hQ => ?_
 have hrd := h.d
 have hrs := h.r
 have hrm := h.m
 have ld := get_lt hrd
 have lr := get_lt hrs
 have lm := get_lt hrm
 have ndr : rd ≠ rs := h.dr
 have ndm : rd ≠ rm := h.dm
 have nrm : rs ≠ rm := h.rm
 have nrd := ndr.symm
 have nmd := ndm.symm
 have nmr := nrm.symm
 have oD := fun (L : AMem) => mk_olds (m := m) (l := m) rfl ld L
 have oR := fun (L : AMem) => mk_olds (m := m) (l := m) rfl lr L
 have oM := fun (L : AMem) => mk_olds (m := m) (l := m) rfl lm L
 have pD := fun (l L : AMem) (e : l.length = m.length) => mk_olds (m := m) (l := l) (r := rd) e ld L
 have pR := fun (l L : AMem) (e : l.length = m.length) => mk_olds (m := m) (l := l) (r := rs) e lr L
 have pM := fun (l L : AMem) (e : l.length = m.length) => mk_olds (m := m) (l := l) (r := rm) e lm L
 have gD := fun (l L : AMem) (e : l.length = m.length) => mk_old (m := m) (l := l) (r := rd) e ld L
 have gR := fun (l L : AMem) (e : l.length = m.length) => mk_old (m := m) (l := l) (r := rs) e lr L
 have gM := fun (l L : AMem) (e : l.length = m.length) => mk_old (m := m) (l := l) (r := rm) e lm L
 have sD := fun (l : AMem) (b : Blk) (e : l.length = m.length) => mk_self (m := m) (l := l) (r := rd) e ld b
 have sR := fun (l : AMem) (b : Blk) (e : l.length = m.length) => mk_self (m := m) (l := l) (r := rs) e lr b
 have sM := fun (l : AMem) (b : Blk) (e : l.length = m.length) => mk_self (m := m) (l := l) (r := rm) e lm b
 have aA := fun (l L : AMem) (e : l.length = m.length) => mk_lk0 (m := m) (l := l) e L
 have aK := fun (l L : AMem) (k : Nat) (e : l.length = m.length) => mk_lk (m := m) (l := l) e L k
 have aT := fun (l L : AMem) (k : Nat) (b : Blk) (e : l.length = m.length) => mk_set (m := m) (l := l) e L k b
 have aS := fun (l L : AMem) (b : Blk) (e : l.length = m.length) => mk_set0 (m := m) (l := l) e L b
 have hw2 : MWf m.length (setD m rd rs rm n (spD D)) := setD_wf hwf lr lm _
 have e2 := setD_d h (spD D) (spD_S D) (spD_E D) (spD_ck D)
 refine AW.sr 1 fun K hK => ?_
 have pk_1 : _ ∧ _ ∧ _ ∧ _ ∧ _ ∧ _ ∧ _ ∧ _ ∧ _ ∧ _ ∧ _ ∧ _ ∧ _ ∧ _ ∧ _ ∧ _ := ⟨hrd, hrs, hrm, pD, pR, pM, gD, gR, gM, sD, sR, sM, aA, aS, aK, aT⟩
 simp only [push_cast, simprocAttr, List.set_set, List.length_set, List.getElem?_set_ne ndr, List.getElem?_set_ne ndm, List.getElem?_set_ne nrm, List.getElem?_set_ne nrd, List.getElem?_set_ne nmd, List.getElem?_set_ne nmr, drB, rowD, mapD, pk_1]
 apply hK;clear hK K
 refine AW.seq_k fun K hK => ?_
 refine AW.sr 2 fun K hK => ?_
 simp only [push_cast, simprocAttr, List.set_set, List.length_set, List.getElem?_set_ne ndr, List.getElem?_set_ne ndm, List.getElem?_set_ne nrm, List.getElem?_set_ne nrd, List.getElem?_set_ne nmd, List.getElem?_set_ne nmr, drB, rowD, mapD, pk_1]
 refine CThen.by (up_ok rd rs rm n D _ h.d hd) ?_
 simp only [push_cast, simprocAttr, List.set_set, List.length_set, List.getElem?_set_ne ndr, List.getElem?_set_ne ndm, List.getElem?_set_ne nrm, List.getElem?_set_ne nrd, List.getElem?_set_ne nmd, List.getElem?_set_ne nmr, drB, rowD, mapD, pk_1]
 apply hK;clear hK K
 refine AW.cond_f rfl ?_
 refine AW.skip ?_
 apply hK;clear hK K
 refine AW.seq_k fun K hK => ?_
 refine AW.sr 1 fun K hK => ?_
 simp only [push_cast, simprocAttr, List.set_set, List.length_set, List.getElem?_set_ne ndr, List.getElem?_set_ne ndm, List.getElem?_set_ne nrm, List.getElem?_set_ne nrd, List.getElem?_set_ne nmd, List.getElem?_set_ne nmr, drB, rowD, mapD, pk_1]
 refine CThen.by (spend_no rd rs rm n D _ h.d hz) ?_
 simp only [push_cast, simprocAttr, List.set_set, List.length_set, List.getElem?_set_ne ndr, List.getElem?_set_ne ndm, List.getElem?_set_ne nrm, List.getElem?_set_ne nrd, List.getElem?_set_ne nmd, List.getElem?_set_ne nmr, drB, rowD, mapD, pk_1]
 apply hK;clear hK K
 refine AW.cond_t rfl ?_
 refine AW.sr 1 fun K hK => ?_
 simp only [push_cast, simprocAttr, List.set_set, List.length_set, List.getElem?_set_ne ndr, List.getElem?_set_ne ndm, List.getElem?_set_ne nrm, List.getElem?_set_ne nrd, List.getElem?_set_ne nmd, List.getElem?_set_ne nmr, drB, rowD, mapD, pk_1]
 apply hK;clear hK K
 refine AW.ret ?_
 refine Thn_r ?_
 refine hQ _ _ _ ?_
 rw [e2] at hw2 ⊢
 first | refine RetP.dropM0 (by simp only [List.length_set]) (by first | exact Or.inr rfl | exact Or.inl rfl) ?_ ?_ hw2 | refine RetP.dropM (by simp only [List.length_set]) (by first | exact Or.inr rfl | exact Or.inl rfl) ?_ ?_ hw2
 · simp only [resA, resOne, resTv, AV.tv, push_cast, simprocAttr]
 · rfl
theorem sy_ok (rd rs rm n : Nat) (D : DS) (m : AMem) (h : HasD m rd rs rm n D) (hd : D.down = false) (hwd : WfD n D) (hz : ¬ D.fuse = 0) : Ctr Try.prog 39 [.one (.ptr rd 0 0)] m (.one (.int .i64 0)) (setD m rd rs rm n (syD D)) := by
 refine Ctr.enter Try.func39 rfl (by decide) (rs := [.tmp 2]) (nt := 37) rfl rfl fun hwf Q hQ => ?_
 have hrd := h.d
 have hrs := h.r
 have hrm := h.m
 have ld := get_lt hrd
 have lr := get_lt hrs
 have lm := get_lt hrm
 have ndr : rd ≠ rs := h.dr
 have ndm : rd ≠ rm := h.dm
 have nrm : rs ≠ rm := h.rm
 have nrd := ndr.symm
 have nmd := ndm.symm
 have nmr := nrm.symm
 have oD := fun (L : AMem) => mk_olds (m := m) (l := m) rfl ld L
 have oR := fun (L : AMem) => mk_olds (m := m) (l := m) rfl lr L
 have oM := fun (L : AMem) => mk_olds (m := m) (l := m) rfl lm L
 have pD := fun (l L : AMem) (e : l.length = m.length) => mk_olds (m := m) (l := l) (r := rd) e ld L
 have pR := fun (l L : AMem) (e : l.length = m.length) => mk_olds (m := m) (l := l) (r := rs) e lr L
 have pM := fun (l L : AMem) (e : l.length = m.length) => mk_olds (m := m) (l := l) (r := rm) e lm L
 have gD := fun (l L : AMem) (e : l.length = m.length) => mk_old (m := m) (l := l) (r := rd) e ld L
 have gR := fun (l L : AMem) (e : l.length = m.length) => mk_old (m := m) (l := l) (r := rs) e lr L
 have gM := fun (l L : AMem) (e : l.length = m.length) => mk_old (m := m) (l := l) (r := rm) e lm L
 have sD := fun (l : AMem) (b : Blk) (e : l.length = m.length) => mk_self (m := m) (l := l) (r := rd) e ld b
 have sR := fun (l : AMem) (b : Blk) (e : l.length = m.length) => mk_self (m := m) (l := l) (r := rs) e lr b
 have sM := fun (l : AMem) (b : Blk) (e : l.length = m.length) => mk_self (m := m) (l := l) (r := rm) e lm b
 have aA := fun (l L : AMem) (e : l.length = m.length) => mk_lk0 (m := m) (l := l) e L
 have aK := fun (l L : AMem) (k : Nat) (e : l.length = m.length) => mk_lk (m := m) (l := l) e L k
 have aT := fun (l L : AMem) (k : Nat) (b : Blk) (e : l.length = m.length) => mk_set (m := m) (l := l) e L k b
 have aS := fun (l L : AMem) (b : Blk) (e : l.length = m.length) => mk_set0 (m := m) (l := l) e L b
 have hw2 : MWf m.length (setD m rd rs rm n (syD D)) := setD_wf hwf lr lm _
 have e2 := setD_three m rd rs rm n (syD D) _ _ _ rfl rfl rfl
 have e3 : drB rs rm n (syD D) = drB rs rm n (spD D) := rfl
 have e4 : mapD (syD D) = ⟨.map false true D.ck [], 71, 0, 0, []⟩ := by show (⟨.map false true (spD D).ck [], 71, 0, 0, []⟩ : Blk) = _; rw [spD_ck]
 have hold : ∀ e, e ∈ eL D.E → e.1 < D.ck := fun e he => by
   obtain ⟨e', h1, rfl⟩ := List.mem_map.1 he
   exact hwd.e.old e' h1
 refine AW.sr 1 fun K hK => ?_
 have pk_2 : _ ∧ _ ∧ _ ∧ _ ∧ _ ∧ _ ∧ _ ∧ _ ∧ _ ∧ _ ∧ _ ∧ _ ∧ _ ∧ _ ∧ _ ∧ _ := ⟨hrd, hrs, hrm, pD, pR, pM, gD, gR, gM, sD, sR, sM, aA, aS, aK, aT⟩
 simp only [push_cast, simprocAttr, setMap, List.set_set, List.length_set, List.getElem?_set_ne ndr, List.getElem?_set_ne ndm, List.getElem?_set_ne nrm, List.getElem?_set_ne nrd, List.getElem?_set_ne nmd, List.getElem?_set_ne nmr, drB, rowD, mapD, pk_2]
 apply hK;clear hK K
 refine AW.seq_k fun K hK => ?_
 refine AW.sr 2 fun K hK => ?_
 simp only [push_cast, simprocAttr, setMap, List.set_set, List.length_set, List.getElem?_set_ne ndr, List.getElem?_set_ne ndm, List.getElem?_set_ne nrm, List.getElem?_set_ne nrd, List.getElem?_set_ne nmd, List.getElem?_set_ne nmr, drB, rowD, mapD, pk_2]
 refine CThen.by (up_ok rd rs rm n D _ h.d hd) ?_
 simp only [push_cast, simprocAttr, setMap, List.set_set, List.length_set, List.getElem?_set_ne ndr, List.getElem?_set_ne ndm, List.getElem?_set_ne nrm, List.getElem?_set_ne nrd, List.getElem?_set_ne nmd, List.getElem?_set_ne nmr, drB, rowD, mapD, pk_2]
 apply hK;clear hK K
 refine AW.cond_f rfl ?_
 refine AW.skip ?_
 apply hK;clear hK K
 refine AW.seq_k fun K hK => ?_
 refine AW.sr 1 fun K hK => ?_
 simp only [push_cast, simprocAttr, setMap, List.set_set, List.length_set, List.getElem?_set_ne ndr, List.getElem?_set_ne ndm, List.getElem?_set_ne nrm, List.getElem?_set_ne nrd, List.getElem?_set_ne nmd, List.getElem?_set_ne nmr, drB, rowD, mapD, pk_2]
 refine CThen.by (spend_go rd rs rm n D _ h.d hz) ?_
 simp only [push_cast, simprocAttr, setMap, List.set_set, List.length_set, List.getElem?_set_ne ndr, List.getElem?_set_ne ndm, List.getElem?_set_ne nrm, List.getElem?_set_ne nrd, List.getElem?_set_ne nmd, List.getElem?_set_ne nmr, drB, rowD, mapD, pk_2]
 apply hK;clear hK K
 refine AW.cond_f rfl ?_
 refine AW.skip ?_
 apply hK;clear hK K
 refine AW.seq_k fun K hK => ?_
 refine AW.sr 1 fun K hK => ?_
 simp only [push_cast, simprocAttr, setMap, List.set_set, List.length_set, List.getElem?_set_ne ndr, List.getElem?_set_ne ndm, List.getElem?_set_ne nrm, List.getElem?_set_ne nrd, List.getElem?_set_ne nmd, List.getElem?_set_ne nmr, drB, rowD, mapD, pk_2]
 apply hK;clear hK K
 refine AW.block ?_
 refine AW.loopK [0, 20] (fun seen => SeenOk D.E seen) (fun seen => []) (fun seen => [(rs, ⟨.grow, 78, 0, 128, u8l (catB n (mixS D.S D.E seen))⟩), (m.length, ⟨.iter rm D.ck (seen) D.ck, 71, 0, 0, []⟩)]) (fun seen => D.E.length - seen.length) ([] : List Nat) (SeenOk.nil _) ?_ ?_ fun seen hi4 => ?_
 · first | rfl | (simp only [KS, simprocAttr, mix_nil] <;> repeat' (first | rfl | apply And.intro))
 · simp only [setAll, mix_nil, push_cast, simprocAttr, hrd, hrs, hrm, pD, pR, pM, gD, gR, gM, sD, sR, sM, aA, aS, aK, aT, List.set_set, List.length_set, List.getElem?_set_ne ndr, List.getElem?_set_ne ndm, List.getElem?_set_ne nrm, List.getElem?_set_ne nrd, List.getElem?_set_ne nmd, List.getElem?_set_ne nmr, drB, rowD, mapD]; rw [set_self (by rw [List.getElem?_set_ne ndr]; exact h.r)]
 have hseen := hi4
 try simp only [keepL, setAll, push_cast, simprocAttr, setMap, List.set_set, List.length_set, List.getElem?_set_ne ndr, List.getElem?_set_ne ndm, List.getElem?_set_ne nrm, List.getElem?_set_ne nrd, List.getElem?_set_ne nmd, List.getElem?_set_ne nmr, drB, rowD, mapD, pk_2]
 refine AW.seq_k fun K hK => ?_
 refine AW.next m.length rm D.ck D.ck seen (ka := false) (va := true) (clock := D.ck) (es := eL D.E) (by decide) rfl (by simp only [push_cast, simprocAttr, hrd, hrs, hrm, pD, pR, pM, gD, gR, gM, sD, sR, sM, aA, aS, aK, aT, List.set_set, List.length_set, List.getElem?_set_ne ndr, List.getElem?_set_ne ndm, List.getElem?_set_ne nrm, List.getElem?_set_ne nrd, List.getElem?_set_ne nmd, List.getElem?_set_ne nmr, drB, rowD, mapD]) (ity := 71) (iesz := 0) (by simp only [push_cast, simprocAttr, hrd, hrs, hrm, pD, pR, pM, gD, gR, gM, sD, sR, sM, aA, aS, aK, aT, List.set_set, List.length_set, List.getElem?_set_ne ndr, List.getElem?_set_ne ndm, List.getElem?_set_ne nrm, List.getElem?_set_ne nrd, List.getElem?_set_ne nmd, List.getElem?_set_ne nmr, drB, rowD, mapD]) (by simp only [push_cast, simprocAttr, hrd, hrs, hrm, pD, pR, pM, gD, gR, gM, sD, sR, sM, aA, aS, aK, aT, List.set_set, List.length_set, List.getElem?_set_ne ndr, List.getElem?_set_ne ndm, List.getElem?_set_ne nrm, List.getElem?_set_ne nrd, List.getElem?_set_ne nmd, List.getElem?_set_ne nmr, drB, rowD, mapD]) hold (Nat.le_refl _) (fun j e hj hnew => ?_) (fun hall => ?_)
 ·obtain ⟨⟨b, k, v⟩, hj', rfl⟩ := eL_mem hj
  have hme := List.mem_of_getElem? hj'
  have hnb : b ∉ seen := hnew
  have hadd := hseen.add hme hnb
  have hlt := hseen.lt hme hnb
  have hfd := eL_find hwd.e.borns hme
  have hw128 := hwd.e.len _ hme
  have hkey := hwd.e.key _ hme
  dsimp only at hw128 hkey
  have g5 : (u8l v).length = 128 := by rw [u8l_len]; exact hw128
  have g6 : (u8l v).take 128 = u8l v := List.take_of_length_le (by omega)
  have g7 := u8l_vals v
  have g8 : setL [.int .u8 0, .int .u8 0, .int .u8 0, .int .u8 0, .int .u8 0, .int .u8 0, .int .u8 0, .int .u8 0, .int .u8 0, .int .u8 0, .int .u8 0, .int .u8 0, .int .u8 0, .int .u8 0, .int .u8 0, .int .u8 0, .int .u8 0, .int .u8 0, .int .u8 0, .int .u8 0, .int .u8 0, .int .u8 0, .int .u8 0, .int .u8 0, .int .u8 0, .int .u8 0, .int .u8 0, .int .u8 0, .int .u8 0, .int .u8 0, .int .u8 0, .int .u8 0, .int .u8 0, .int .u8 0, .int .u8 0, .int .u8 0, .int .u8 0, .int .u8 0, .int .u8 0, .int .u8 0, .int .u8 0, .int .u8 0, .int .u8 0, .int .u8 0, .int .u8 0, .int .u8 0, .int .u8 0, .int .u8 0, .int .u8 0, .int .u8 0, .int .u8 0, .int .u8 0, .int .u8 0, .int .u8 0, .int .u8 0, .int .u8 0, .int .u8 0, .int .u8 0, .int .u8 0, .int .u8 0, .int .u8 0, .int .u8 0, .int .u8 0, .int .u8 0, .int .u8 0, .int .u8 0, .int .u8 0, .int .u8 0, .int .u8 0, .int .u8 0, .int .u8 0, .int .u8 0, .int .u8 0, .int .u8 0, .int .u8 0, .int .u8 0, .int .u8 0, .int .u8 0, .int .u8 0, .int .u8 0, .int .u8 0, .int .u8 0, .int .u8 0, .int .u8 0, .int .u8 0, .int .u8 0, .int .u8 0, .int .u8 0, .int .u8 0, .int .u8 0, .int .u8 0, .int .u8 0, .int .u8 0, .int .u8 0, .int .u8 0, .int .u8 0, .int .u8 0, .int .u8 0, .int .u8 0, .int .u8 0, .int .u8 0, .int .u8 0, .int .u8 0, .int .u8 0, .int .u8 0, .int .u8 0, .int .u8 0, .int .u8 0, .int .u8 0, .int .u8 0, .int .u8 0, .int .u8 0, .int .u8 0, .int .u8 0, .int .u8 0, .int .u8 0, .int .u8 0, .int .u8 0, .int .u8 0, .int .u8 0, .int .u8 0, .int .u8 0, .int .u8 0, .int .u8 0, .int .u8 0, .int .u8 0, .int .u8 0, .int .u8 0] 0 (u8l v) = u8l v := setL_all (by rw [g5]; rfl)
  obtain ⟨kk, hkk⟩ : ∃ kk : Nat, (kk : Int) = k := ⟨k.toNat, by omega⟩
  subst hkk
  have p1 : (0 : Int) ≤ (kk : Int) := hkey.1
  have p2 : (kk : Int) < (n : Int) := hkey.2
  have p4 : kk * 128 + 128 ≤ n * 128 := by omega
  have hcl : (u8l (catB n (mixS D.S D.E seen))).length = n * 128 := by rw [u8l_len, catB_len (mix_len hwd.s hwd.e seen)]
  have hcs := catB_set (mix_len hwd.s hwd.e seen) (show kk < n by omega) hw128
  have hma := mix_add (S := D.S) hwd.e (seen := seen) hme
  have hgl := getLast_app seen b
  simp only [push_cast, simprocAttr, setMap, List.set_set, List.length_set, List.getElem?_set_ne ndr, List.getElem?_set_ne ndm, List.getElem?_set_ne nrm, List.getElem?_set_ne nrd, List.getElem?_set_ne nmd, List.getElem?_set_ne nmr, drB, rowD, mapD, pk_2, eC, hfd, hgl, g5, g6, g7, g8, p1, p2, p4, hcl, hcs, Nat.le_refl]
  apply hK;clear hK K
  refine AW.ifT rfl ?_
  refine AW.block ?_
  refine AW.sr 1 fun K hK => ?_
  have pk_3 : _ ∧ _ ∧ _ ∧ _ ∧ _ ∧ _ ∧ _ ∧ _ ∧ _ ∧ _ ∧ _ ∧ _ := ⟨pk_2, hfd, hgl, g5, g6, g7, g8, p1, p2, p4, hcl, hcs⟩
  simp only [push_cast, simprocAttr, setMap, List.set_set, List.length_set, List.getElem?_set_ne ndr, List.getElem?_set_ne ndm, List.getElem?_set_ne nrm, List.getElem?_set_ne nrd, List.getElem?_set_ne nmd, List.getElem?_set_ne nmr, drB, rowD, mapD, eC, Nat.le_refl, pk_3]
  apply hK;clear hK K
  refine AW.draw [.val, .val, .val, .rd 0, .val, .rd 0, .val, .wr] fol (by decide) (by kernel_rfl) ?_
  simp only [push_cast, simprocAttr, setMap, List.set_set, List.length_set, List.getElem?_set_ne ndr, List.getElem?_set_ne ndm, List.getElem?_set_ne nrm, List.getElem?_set_ne nrd, List.getElem?_set_ne nmd, List.getElem?_set_ne nmr, drB, rowD, mapD, eC, Nat.le_refl, pk_3]
  refine InB_n ?_
  refine Thn_n ?_
  refine ⟨seen ++ [b], hadd, hlt, ?_⟩
  try simp only [keepL, setAll, push_cast, simprocAttr, setMap, List.set_set, List.length_set, List.getElem?_set_ne ndr, List.getElem?_set_ne ndm, List.getElem?_set_ne nrm, List.getElem?_set_ne nrd, List.getElem?_set_ne nmd, List.getElem?_set_ne nmr, drB, rowD, mapD, eC, Nat.le_refl, pk_3, hma]
  exact Weak.to (extra := [_]) (by simp only [KS, simprocAttr, hma]) (by first | rfl | (simp only [List.append_assoc, List.cons_append, List.nil_append]; rfl)) (by first | rfl | (simp [AV.below, CV.below]; done) | (simp [AV.below, CV.below]; omega)) (by
    have q1 : rs < m.length + 1 := by omega
    have q2 : rm < m.length + 1 := by omega
    simp only [List.length_append, List.length_set, List.length_cons, List.length_nil, Nat.zero_add]
    refine MWf.app (MWf_setB (MWf_setB (hwf.grow (by omega)) ?_ rfl) (u8l_below _ _) rfl) (fun x hx => ?_)
    · simp only [List.all_cons, List.all_nil, CV.below, decide_eq_true q1, decide_eq_true q2, Bool.and_true]
    · obtain rfl := List.mem_singleton.1 hx
      exact blk_below (decide_eq_true q2) rfl)
 ·have hmx : mixS D.S D.E seen = vis D.S D.E := mix_all fun e he => hall _ (List.mem_map_of_mem (f := eC) he)
  simp only [push_cast, simprocAttr, setMap, List.set_set, List.length_set, List.getElem?_set_ne ndr, List.getElem?_set_ne ndm, List.getElem?_set_ne nrm, List.getElem?_set_ne nrd, List.getElem?_set_ne nmd, List.getElem?_set_ne nmr, drB, rowD, mapD, pk_2, hmx]
  apply hK;clear hK K
  refine AW.seq_k fun K hK => ?_
  refine AW.cond_f rfl ?_
  refine AW.exit ?_
  refine Thn_e ?_
  clear hK K
  refine Thn_e ?_
  refine InB_here ?_
  apply hK;clear hK K
  refine AW.sr 2 fun K hK => ?_
  simp only [push_cast, simprocAttr, setMap, List.set_set, List.length_set, List.getElem?_set_ne ndr, List.getElem?_set_ne ndm, List.getElem?_set_ne nrm, List.getElem?_set_ne nrd, List.getElem?_set_ne nmd, List.getElem?_set_ne nmr, drB, rowD, mapD, pk_2, hmx]
  apply hK;clear hK K
  refine AW.ret ?_
  refine hQ _ _ _ ?_
  rw [e2, e3, e4] at hw2 ⊢
  first | refine RetP.dropM0 (by simp only [List.length_set]) (by first | exact Or.inr rfl | exact Or.inl rfl) ?_ ?_ hw2 | refine RetP.dropM (by simp only [List.length_set]) (by first | exact Or.inr rfl | exact Or.inl rfl) ?_ ?_ hw2
  · simp only [resA, resOne, resTv, AV.tv, push_cast, simprocAttr]
  · rfl
end Go.Proofs.Ytdkfbbjpblfclaa
namespace Go.Eng
section
variable {α : Type} (key : α → Int)
def swF (f : Nat → α) (i j : Nat) : Nat → α := fun x => if x = i then f j else if x = j then f i else f x
def PermOn (a b : Nat) (f g : Nat → α) : Prop := ∃ s t : Nat → Nat, (∀ x, s (t x) = x) ∧ (∀ x, t (s x) = x) ∧ (∀ x, ¬ (a ≤ x ∧ x < b) → s x = x) ∧ ∀ x, g x = f (s x)
theorem PermOn.refl (a b : Nat) (f : Nat → α) : PermOn a b f f := ⟨id, id, fun _ => rfl, fun _ => rfl, fun _ _ => rfl, fun _ => rfl⟩
variable {a b : Nat} {f g h : Nat → α}
theorem PermOn.trans : PermOn a b f g → PermOn a b g h → PermOn a b f h
 | ⟨s, t, h1, h2, h3, h4⟩, ⟨s', t', g1, g2, g3, g4⟩ => ⟨fun x => s (s' x), fun x => t' (t x), fun x => by show s (s' (t' (t x))) = x; rw [g1, h1], fun x => by show t' (t (s (s' x))) = x; rw [h2, g2], fun x hx => by show s (s' x) = x; rw [g3 x hx, h3 x hx], fun x => by rw [g4, h4]⟩
theorem PermOn.wide {a' b' : Nat} (ha : a' ≤ a) (hb : b ≤ b') : PermOn a b f g → PermOn a' b' f g
 | ⟨s, t, h1, h2, h3, h4⟩ => ⟨s, t, h1, h2, fun x hx => h3 x (by omega), h4⟩
theorem PermOn.out (h : PermOn a b f g) {x : Nat} (hx : ¬ (a ≤ x ∧ x < b)) : g x = f x := by
 obtain ⟨s, t, h1, h2, h3, h4⟩ := h
 rw [h4, h3 x hx]
theorem PermOn.src (h : PermOn a b f g) {x : Nat} (hx : a ≤ x ∧ x < b) : ∃ y, a ≤ y ∧ y < b ∧ g x = f y := by
 obtain ⟨s, t, h1, h2, h3, h4⟩ := h
 refine Classical.byContradiction fun hn => hn ⟨s x, ?_⟩
 have key : a ≤ s x ∧ s x < b := Classical.byContradiction fun hc => by
  have e1 := h3 _ hc
  have e2 := congrArg t e1
  rw [h2, h2] at e2
  exact hc (by rw [e2]; exact hx)
 exact ⟨key.1, key.2, h4 x⟩
theorem PermOn.dst (h : PermOn a b f g) {y : Nat} (hy : a ≤ y ∧ y < b) : ∃ x, a ≤ x ∧ x < b ∧ g x = f y := by
 obtain ⟨s, t, h1, h2, h3, h4⟩ := h
 have key : a ≤ t y ∧ t y < b := Classical.byContradiction fun hc => by
  have e1 := h3 _ hc
  rw [h1] at e1
  exact hc (by rw [← e1]; exact hy)
 exact ⟨t y, key.1, key.2, by rw [h4, h1]⟩
theorem PermOn.swap {i j : Nat} (hi : a ≤ i ∧ i < b) (hj : a ≤ j ∧ j < b) : PermOn a b f (swF f i j) := by
 refine ⟨fun x => if x = i then j else if x = j then i else x, fun x => if x = i then j else if x = j then i else x, fun x => ?_, fun x => ?_, fun x hx => ?_, fun x => ?_⟩
 ·dsimp only; repeat' split
  all_goals omega
 ·dsimp only; repeat' split
  all_goals omega
 ·dsimp only
  rw [if_neg (by omega), if_neg (by omega)]
 ·dsimp only [swF]; repeat' split
  all_goals rfl
def KSrt (f : Nat → α) (a b : Nat) : Prop := ∀ i j, a ≤ i → i < j → j < b → key (f i) ≤ key (f j)
theorem KSrt.le (h : KSrt key f a b) {i j : Nat} (h1 : a ≤ i) (h2 : i ≤ j) (h3 : j < b) : key (f i) ≤ key (f j) := by
 rcases Nat.lt_or_ge i j with h4 | h4
 ·exact h i j h1 h4 h3
 ·rw [show i = j by omega]; exact Int.le_refl _
theorem KSrt.sub {a' b' : Nat} (h : KSrt key f a b) (ha : a ≤ a') (hb : b' ≤ b) : KSrt key f a' b' := fun i j h1 h2 h3 => h i j (by omega) h2 (by omega)
theorem KSrt.congr (h : KSrt key f a b) (hg : ∀ x, a ≤ x → x < b → g x = f x) : KSrt key g a b := fun i j h1 h2 h3 => by rw [hg i h1 (by omega), hg j (by omega) h3]; exact h i j h1 h2 h3
def sink (a : Nat) : Nat → (Nat → α) → (Nat → α)
 | 0, f => f
 | j + 1, f => if a < j + 1 ∧ key (f (j + 1)) < key (f j) then sink a j (swF f (j + 1) j) else f
theorem sink_srt (a : Nat) : ∀ (j : Nat) (f : Nat → α) (e : Nat), a ≤ j → j < e → (∀ x y, a ≤ x → x < y → y < e → x ≠ j → y ≠ j → key (f x) ≤ key (f y)) → (∀ y, j < y → y < e → key (f j) ≤ key (f y)) → KSrt key (sink key a j f) a e
 | 0, f, e, h1, h2, h3, h4 => fun x y h5 h6 h7 => by
  rcases Nat.eq_zero_or_pos x with h8 | h8
  ·subst h8; exact h4 y h6 h7
  ·exact h3 x y h5 h6 h7 (by omega) (by omega)
 | j + 1, f, e, h1, h2, h3, h4 => by
  unfold sink
  split
  ·rename_i hc
   refine sink_srt a j _ e (by omega) (by omega) (fun x y h5 h6 h7 h8 h9 => ?_) (fun y h5 h6 => ?_)
   ·unfold swF
    rw [if_neg h8, if_neg h9]
    by_cases hx : x = j + 1
    ·rw [if_pos hx, if_neg (by omega)]
     exact h3 j y (by omega) (by omega) h7 (by omega) (by omega)
    ·rw [if_neg hx]
     by_cases hy : y = j + 1
     ·rw [if_pos hy]
      exact h3 x j h5 (by omega) (by omega) hx (by omega)
     ·rw [if_neg hy]
      exact h3 x y h5 h6 h7 hx hy
   ·unfold swF
    rw [if_neg (show ¬ j = j + 1 by omega), if_pos rfl, if_neg (show ¬ y = j by omega)]
    by_cases hy : y = j + 1
    ·rw [if_pos hy]; omega
    ·rw [if_neg hy]; exact h4 y (by omega) h6
  ·rename_i hc
   intro x y h5 h6 h7
   by_cases hx : x = j + 1
   ·subst hx; exact h4 y h6 h7
   ·by_cases hy : y = j + 1
    ·subst hy
     have h8 : ¬ key (f (j + 1)) < key (f j) := fun h9 => hc ⟨by omega, h9⟩
     rcases Nat.lt_or_ge x j with h9 | h9
     ·have := h3 x j h5 h9 (by omega) hx (by omega)
      omega
     ·rw [show x = j by omega]; omega
    ·exact h3 x y h5 h6 h7 hx hy
theorem sink_perm (a : Nat) : ∀ (j : Nat) (f : Nat → α) (e : Nat), a ≤ j → j < e → PermOn a e f (sink key a j f)
 | 0, f, e, _, _ => PermOn.refl a e f
 | j + 1, f, e, h1, h2 => by
  unfold sink
  split
  ·exact (PermOn.swap ⟨h1, h2⟩ ⟨by omega, by omega⟩).trans (sink_perm a j _ e (by omega) (by omega))
  ·exact PermOn.refl a e f
def insS (a : Nat) : Nat → (Nat → α) → (Nat → α)
 | 0, f => f
 | k + 1, f => sink key a (a + k + 1) (insS a k f)
theorem insS_srt (a : Nat) (f : Nat → α) : ∀ k, KSrt key (insS key a k f) a (a + k + 1)
 | 0 => fun x y h1 h2 h3 => by omega
 | k + 1 => sink_srt key a (a + k + 1) _ _ (by omega) (by omega) (fun x y h1 h2 h3 h4 h5 => insS_srt a f k x y h1 h2 (by omega)) (fun y h1 h2 => by omega)
theorem insS_perm (a : Nat) (f : Nat → α) : ∀ k, PermOn a (a + k + 1) f (insS key a k f)
 | 0 => PermOn.refl _ _ _
 | k + 1 => ((insS_perm a f k).wide (by omega) (by omega)).trans (sink_perm key a (a + k + 1) _ _ (by omega) (by omega))
theorem edge_ex (P : Nat → Prop) (lo : Nat) : ∀ k, (∀ x y, lo ≤ x → x < y → y < lo + k → P y → P x) → ∃ R, lo ≤ R ∧ R ≤ lo + k ∧ (∀ x, lo ≤ x → x < R → P x) ∧ ∀ x, R ≤ x → x < lo + k → ¬ P x
 | 0, _ => ⟨lo, by omega, by omega, fun x _ _ => by omega, fun x _ _ => by omega⟩
 | k + 1, hm => by
  obtain ⟨R, h1, h2, h3, h4⟩ := edge_ex P lo k fun x y a b c d => hm x y a b (by omega) d
  by_cases hp : P (lo + k)
  ·refine ⟨lo + k + 1, by omega, by omega, fun x h5 h6 => ?_, fun x h5 h6 => by omega⟩
   rcases Nat.lt_or_ge x (lo + k) with h7 | h7
   ·exact hm x (lo + k) h5 h7 (by omega) hp
   ·rw [show x = lo + k by omega]; exact hp
  ·refine ⟨R, h1, by omega, h3, fun x h5 h6 => ?_⟩
   rcases Nat.lt_or_ge x (lo + k) with h7 | h7
   ·exact h4 x h5 h7
   ·rw [show x = lo + k by omega]; exact hp
def rot (f : Nat → α) (A M B : Nat) : Nat → α := fun x => if A ≤ x ∧ x < A + (B - M) then f (x + (M - A)) else if A + (B - M) ≤ x ∧ x < B then f (x - (B - M)) else f x
theorem rot_id1 (f : Nat → α) (A M : Nat) : rot f A M M = f := funext fun x => by
 unfold rot; repeat' split
 all_goals first | rfl | (congr 1; omega) | omega
theorem rot_id2 (f : Nat → α) (M B : Nat) : rot f M M B = f := funext fun x => by
 unfold rot; repeat' split
 all_goals first | rfl | (congr 1; omega) | omega
theorem rot_perm {A M B : Nat} (h1 : A ≤ M) (h2 : M ≤ B) : PermOn A B f (rot f A M B) := by
 refine ⟨fun x => if A ≤ x ∧ x < A + (B - M) then x + (M - A) else if A + (B - M) ≤ x ∧ x < B then x - (B - M) else x, fun x => if A ≤ x ∧ x < M then x + (B - M) else if M ≤ x ∧ x < B then x - (M - A) else x, fun x => ?_, fun x => ?_, fun x hx => ?_, fun x => ?_⟩
 ·dsimp only; repeat' split
  all_goals omega
 ·dsimp only; repeat' split
  all_goals omega
 ·dsimp only
  rw [if_neg (by omega), if_neg (by omega)]
 ·dsimp only [rot]; repeat' split
  all_goals rfl
def swR (f : Nat → α) (a b n : Nat) : Nat → α := fun x => if a ≤ x ∧ x < a + n then f (x + (b - a)) else if b ≤ x ∧ x < b + n then f (x - (b - a)) else f x
theorem swR_zero (f : Nat → α) (a b : Nat) : swR f a b 0 = f := funext fun x => by
 unfold swR; rw [if_neg (by omega), if_neg (by omega)]
theorem swR_step (f : Nat → α) {a b n k : Nat} (h : a + n ≤ b) (hk : k < n) : swF (swR f a b k) (a + k) (b + k) = swR f a b (k + 1) := funext fun x => by
 unfold swF swR
 repeat' split
 all_goals first | rfl | omega | (congr 1; omega)
theorem rot_more (f : Nat → α) {m i j : Nat} (hi : i ≤ m) (h : j < i) : rot (swR f (m - i) m j) (m - (i - j)) m (m + j) = rot f (m - i) m (m + j) := funext fun x => by
 unfold rot swR
 repeat' split
 all_goals first | rfl | omega | (congr 1; omega)
theorem rot_less (f : Nat → α) {m i j : Nat} (hi : i ≤ m) (h : i < j) : rot (swR f (m - i) (m + j - i) i) (m - i) m (m + (j - i)) = rot f (m - i) m (m + j) := funext fun x => by
 unfold rot swR
 repeat' split
 all_goals first | rfl | omega | (congr 1; omega)
theorem rot_same (f : Nat → α) {m i : Nat} (hi : i ≤ m) : swR f (m - i) m i = rot f (m - i) m (m + i) := funext fun x => by
 unfold rot swR
 repeat' split
 all_goals first | rfl | omega | (congr 1; omega)
def rotL (f : Nat → α) (a k : Nat) : Nat → α := fun x => if a ≤ x ∧ x < k then f (x + 1) else if x = k then f a else f x
theorem rotL_zero (f : Nat → α) (a : Nat) : rotL f a a = f := funext fun x => by
 unfold rotL; repeat' split
 all_goals first | rfl | omega | (congr 1; omega)
theorem rotL_step (f : Nat → α) {a k : Nat} (h : a ≤ k) : swF (rotL f a k) k (k + 1) = rotL f a (k + 1) := funext fun x => by
 unfold swF rotL
 repeat' split
 all_goals first | rfl | omega | (congr 1; omega)
theorem rotL_perm {k : Nat} (h : a ≤ k) (hk : k < b) : PermOn a b f (rotL f a k) := by
 refine ⟨fun x => if a ≤ x ∧ x < k then x + 1 else if x = k then a else x, fun x => if a < x ∧ x ≤ k then x - 1 else if x = a then k else x, fun x => ?_, fun x => ?_, fun x hx => ?_, fun x => ?_⟩
 ·dsimp only; repeat' split
  all_goals omega
 ·dsimp only; repeat' split
  all_goals omega
 ·dsimp only
  rw [if_neg (by omega), if_neg (by omega)]
 ·dsimp only [rotL]; repeat' split
  all_goals rfl
def rotR (f : Nat → α) (k m : Nat) : Nat → α := fun x => if k < x ∧ x ≤ m then f (x - 1) else if x = k then f m else f x
theorem rotR_zero (f : Nat → α) (m : Nat) : rotR f m m = f := funext fun x => by
 unfold rotR; repeat' split
 all_goals first | rfl | omega | (congr 1; omega)
theorem rotR_step (f : Nat → α) {k m : Nat} (h : k < m) : swF (rotR f (k + 1) m) (k + 1) k = rotR f k m := funext fun x => by
 unfold swF rotR
 repeat' split
 all_goals first | rfl | omega | (congr 1; omega)
theorem rotR_perm {k m : Nat} (h0 : a ≤ k) (h : k ≤ m) (hm : m < b) : PermOn a b f (rotR f k m) := by
 refine ⟨fun x => if k < x ∧ x ≤ m then x - 1 else if x = k then m else x, fun x => if k ≤ x ∧ x < m then x + 1 else if x = m then k else x, fun x => ?_, fun x => ?_, fun x hx => ?_, fun x => ?_⟩
 ·dsimp only; repeat' split
  all_goals omega
 ·dsimp only; repeat' split
  all_goals omega
 ·dsimp only
  rw [if_neg (by omega), if_neg (by omega)]
 ·dsimp only [rotR]; repeat' split
  all_goals rfl
theorem symL {m b R : Nat} (hs : KSrt key f m b) (hm : m = a + 1) (h1 : m ≤ R) (h2 : R ≤ b) (h3 : ∀ x, m ≤ x → x < R → key (f x) < key (f a)) (h4 : ∀ x, R ≤ x → x < b → ¬ key (f x) < key (f a)) : KSrt key (rotL f a (R - 1)) a b := fun i j g1 g2 g3 => by
 unfold rotL
 by_cases c1 : a ≤ i ∧ i < R - 1
 ·rw [if_pos c1]
  by_cases c2 : a ≤ j ∧ j < R - 1
  ·rw [if_pos c2]; exact hs (i + 1) (j + 1) (by omega) (by omega) (by omega)
  ·rw [if_neg c2]
   by_cases c3 : j = R - 1
   ·rw [if_pos c3]; have := h3 (i + 1) (by omega) (by omega); omega
   ·rw [if_neg c3]; exact hs (i + 1) j (by omega) (by omega) g3
 ·rw [if_neg c1]
  by_cases c2 : i = R - 1
  ·rw [if_pos c2, if_neg (by omega), if_neg (by omega)]
   have := h4 j (by omega) g3; omega
  ·rw [if_neg c2, if_neg (by omega), if_neg (by omega)]
   exact hs i j (by omega) g2 g3
theorem symR {m R : Nat} (hs : KSrt key f a m) (hb : b = m + 1) (h1 : a ≤ R) (h2 : R ≤ m) (h3 : ∀ x, a ≤ x → x < R → ¬ key (f m) < key (f x)) (h4 : ∀ x, R ≤ x → x < m → key (f m) < key (f x)) : KSrt key (rotR f R m) a b := fun i j g1 g2 g3 => by
 unfold rotR
 by_cases c1 : R < i ∧ i ≤ m
 ·rw [if_pos c1, if_pos (by omega)]
  exact hs (i - 1) (j - 1) (by omega) (by omega) (by omega)
 ·rw [if_neg c1]
  by_cases c2 : i = R
  ·rw [if_pos c2, if_pos (by omega)]
   have := h4 (j - 1) (by omega) (by omega); omega
  ·rw [if_neg c2]
   by_cases c3 : R < j ∧ j ≤ m
   ·rw [if_pos c3]; exact hs i (j - 1) g1 (by omega) (by omega)
   ·rw [if_neg c3]
    by_cases c4 : j = R
    ·rw [if_pos c4]; have := h3 i g1 (by omega); omega
    ·rw [if_neg c4]; exact hs i j g1 g2 (by omega)
theorem symM {m b mid n st s0 r0 : Nat} (h1 : KSrt key f a m) (h2 : KSrt key f m b) (ha : a < m) (hb : m < b) (hmid : mid = (a + b) / 2) (hn : n = mid + m)
  (hs : (mid < m ∧ s0 = n - b ∧ r0 = mid) ∨ (m ≤ mid ∧ s0 = a ∧ r0 = m)) (g1 : s0 ≤ st) (g2 : st ≤ r0)
  (g3 : ∀ c, s0 ≤ c → c < st → ¬ key (f (n - 1 - c)) < key (f c)) (g4 : ∀ c, st ≤ c → c < r0 → key (f (n - 1 - c)) < key (f c)) :
  KSrt key (rot f st m (n - st)) a st ∧ KSrt key (rot f st m (n - st)) st mid ∧ KSrt key (rot f st m (n - st)) mid (n - st) ∧ KSrt key (rot f st m (n - st)) (n - st) b ∧
   (∀ x y, a ≤ x → x < mid → mid ≤ y → y < b → key (rot f st m (n - st) x) ≤ key (rot f st m (n - st) y)) ∧ a ≤ st ∧ st ≤ mid ∧ mid ≤ n - st ∧ n - st ≤ b ∧ st ≤ m ∧ m ≤ n - st := by
 have b1 : a ≤ st ∧ st ≤ mid ∧ mid ≤ n - st ∧ n - st ≤ b ∧ st ≤ m ∧ m ≤ n - st ∧ st ≤ n := by omega
 have hA : ∀ x, a ≤ x → x < st → rot f st m (n - st) x = f x := fun x _ hx => by unfold rot; rw [if_neg (by omega), if_neg (by omega)]
 have hB : ∀ x, st ≤ x → x < mid → rot f st m (n - st) x = f (x + (m - st)) := fun x _ hx => by unfold rot; rw [if_pos (by omega)]
 have hC : ∀ x, mid ≤ x → x < n - st → rot f st m (n - st) x = f (x - (n - st - m)) := fun x _ hx => by unfold rot; rw [if_neg (by omega), if_pos (by omega)]
 have hD : ∀ x, n - st ≤ x → x < b → rot f st m (n - st) x = f x := fun x _ hx => by unfold rot; rw [if_neg (by omega), if_neg (by omega)]
 refine ⟨(h1.sub key (Nat.le_refl _) (by omega)).congr key hA, fun i j e1 e2 e3 => ?_, fun i j e1 e2 e3 => ?_, (h2.sub key (by omega) (Nat.le_refl _)).congr key hD, fun x y e1 e2 e3 e4 => ?_, by omega, by omega, by omega, by omega, by omega, by omega⟩
 ·rw [hB i e1 (by omega), hB j (by omega) e3]; exact h2 _ _ (by omega) (by omega) (by omega)
 ·rw [hC i e1 (by omega), hC j (by omega) e3]; exact h1 _ _ (by omega) (by omega) (by omega)
 ·rcases Nat.lt_or_ge x st with c1 | c1
  ·rw [hA x e1 c1]
   rcases Nat.lt_or_ge y (n - st) with c2 | c2
   ·rw [hC y e3 c2]; exact h1.le key e1 (by omega) (by omega)
   ·rw [hD y c2 e4]
    rcases Nat.lt_or_ge s0 st with c3 | c3
    ·have := g3 (st - 1) (by omega) (by omega)
     have e5 := h1.le key e1 (show x ≤ st - 1 by omega) (by omega)
     have e6 := h2.le key (show m ≤ n - 1 - (st - 1) by omega) (show n - 1 - (st - 1) ≤ y by omega) e4
     omega
    ·omega
  ·rw [hB x c1 e2]
   rcases Nat.lt_or_ge y (n - st) with c2 | c2
   ·rw [hC y e3 c2]
    rcases Nat.lt_or_ge st r0 with c3 | c3
    ·have := g4 st (by omega) c3
     have e5 := h2.le key (show m ≤ x + (m - st) by omega) (show x + (m - st) ≤ n - 1 - st by omega) (by omega)
     have e6 := h1.le key (show a ≤ st by omega) (show st ≤ y - (n - st - m) by omega) (by omega)
     omega
    ·omega
   ·rw [hD y c2 e4]; exact h2.le key (by omega) (by omega) e4
theorem symJ {m : Nat} (h1 : KSrt key f a m) (h2 : KSrt key f m b) (hc : ∀ x y, a ≤ x → x < m → m ≤ y → y < b → key (f x) ≤ key (f y)) : KSrt key f a b := fun i j e1 e2 e3 => by
 rcases Nat.lt_or_ge j m with c | c
 ·exact h1 i j e1 e2 c
 ·rcases Nat.lt_or_ge i m with d | d
  ·exact hc i j e1 d c e3
  ·exact h2 i j d e2 e3
theorem symE {mid b : Nat} {g1 g2 : Nat → α} (hx : ∀ x y, a ≤ x → x < mid → mid ≤ y → y < b → key (f x) ≤ key (f y)) (p1 : PermOn a mid f g1) (s1 : KSrt key g1 a mid) (p2 : PermOn mid b g1 g2) (s2 : KSrt key g2 mid b) (hm : a ≤ mid) (hb : mid ≤ b) :
  KSrt key g2 a b ∧ PermOn a b f g2 := by
 refine ⟨symJ key (m := mid) (s1.congr key fun x _ hx => p2.out (by omega)) s2 fun x y e1 e2 e3 e4 => ?_, (p1.wide (Nat.le_refl _) hb).trans (p2.wide hm (Nat.le_refl _))⟩
 obtain ⟨y', c1, c2, c3⟩ := p2.src ⟨e3, e4⟩
 rw [c3, p1.out (by omega), p2.out (by omega)]
 obtain ⟨x', d1, d2, d3⟩ := p1.src ⟨e1, e2⟩
 rw [d3]
 exact hx x' y' d1 d2 c1 c2
def KBlk (f : Nat → α) (w lo n : Nat) : Prop := ∀ i j, lo ≤ i → i < j → j < n → i / w = j / w → key (f i) ≤ key (f j)
theorem KBlk.at {w lo n k c d : Nat} (hw : 0 < w) (h : KBlk key f w lo n) (hlo : lo ≤ c) (hc : c = k * w) (hd : d ≤ c + w) (hn : d ≤ n) : KSrt key f c d := fun i j h1 h2 h3 => by
 refine h i j (by omega) h2 (by omega) ?_
 have e1 : i / w = k := Nat.div_eq_of_lt_le (by omega) (by rw [Nat.succ_mul]; omega)
 have e2 : j / w = k := Nat.div_eq_of_lt_le (by omega) (by rw [Nat.succ_mul]; omega)
 rw [e1, e2]
theorem KBlk.all {w n : Nat} (h : KBlk key f w 0 n) (hn : n ≤ w) : KSrt key f 0 n := fun i j h1 h2 h3 => h i j h1 h2 h3 (by rw [Nat.div_eq_of_lt (by omega), Nat.div_eq_of_lt (by omega)])
theorem KBlk.snoc {w n c d k : Nat} (h : KBlk key f w 0 c) (hp : PermOn c d f g) (hs : KSrt key g c d) (hc : c = k * w) (hw : 0 < w) (hd : d ≤ c + w) : KBlk key g w 0 d := fun i j h1 h2 h3 h4 => by
 rcases Nat.lt_or_ge j c with c1 | c1
 ·rw [hp.out (by omega), hp.out (by omega)]; exact h i j h1 h2 c1 h4
 ·have e2 : j / w = k := Nat.div_eq_of_lt_le (by omega) (by rw [Nat.succ_mul]; omega)
  have e3 : c ≤ i := by
   rw [e2] at h4
   have := Nat.div_mul_le_self i w
   rw [h4] at this; omega
  exact hs i j e3 h2 h3
theorem KBlk.rest {w n c d k : Nat} (h : KBlk key f w c n) (hp : PermOn c d f g) (hcd : c ≤ d) : KBlk key g w d n := fun i j h1 h2 h3 h4 => by
 rw [hp.out (by omega), hp.out (by omega)]; exact h i j (by omega) h2 h3 h4
end
def catC : Nat → (Nat → List CV) → List CV
 | 0, _ => []
 | n + 1, F => catC n F ++ F n
section
variable {F G : Nat → List CV} {w n k : Nat}
theorem catC_len (h : ∀ i, (F i).length = w) : ∀ n, (catC n F).length = n * w
 | 0 => by simp [catC]
 | n + 1 => by rw [catC, List.length_append, catC_len h n, h n, Nat.succ_mul]
theorem catC_congr : ∀ {n : Nat}, (∀ k, k < n → F k = G k) → catC n F = catC n G
 | 0, _ => rfl
 | n + 1, h => by rw [catC, catC, catC_congr fun k hk => h k (by omega), h n (by omega)]
theorem catC_split (h : ∀ i, (F i).length = w) : ∀ {n k : Nat}, k < n → ∃ T, catC n F = catC k F ++ (F k ++ T) ∧ ∀ v : List CV, catC n (fun i => if i = k then v else F i) = catC k F ++ (v ++ T)
 | n + 1, k, hk => by
  rcases Nat.lt_or_ge k n with h1 | h1
  ·obtain ⟨T, h2, h3⟩ := catC_split h h1
   refine ⟨T ++ F n, by rw [catC, h2, List.append_assoc, List.append_assoc], fun v => ?_⟩
   rw [catC, h3 v, if_neg (show ¬ n = k by omega), List.append_assoc, List.append_assoc]
  ·have e : k = n := by omega
   subst e
   refine ⟨[], by simp [catC], fun v => ?_⟩
   simp only [catC, List.append_nil, if_true]
   rw [catC_congr (G := F) fun i hi => if_neg (by omega)]
theorem catC_at (h : ∀ i, (F i).length = w) (hk : k < n) : ((catC n F).drop (k * w)).take w = F k := by
 obtain ⟨T, h2, _⟩ := catC_split h hk
 rw [h2, List.drop_left' (catC_len h k), List.take_left' (h k)]
theorem catC_in (h : ∀ i, (F i).length = w) (hk : k < n) {a b : Nat} (hab : a + b ≤ w) : ((catC n F).drop (k * w + a)).take b = ((F k).drop a).take b := by
 have h1 := congrArg (fun l => (l.drop a).take b) (catC_at h hk)
 simp only [List.drop_take, List.drop_drop, List.take_take] at h1
 rwa [show min b (w - a) = b by omega] at h1
theorem catC_get (h : ∀ i, (F i).length = w) (hk : k < n) {a : Nat} (ha : a < w) : (catC n F)[k * w + a]? = (F k)[a]? := by
 obtain ⟨T, h2, _⟩ := catC_split h hk
 have hl := catC_len h k
 have hf := h k
 rw [h2, List.getElem?_append_right (by omega), hl, Nat.add_sub_cancel_left, List.getElem?_append_left (by omega)]
theorem setL_in {α : Type} (vs l tl : List α) (hl : l.length = vs.length) : ∀ (pre : List α), setL (pre ++ (l ++ tl)) pre.length vs = pre ++ (vs ++ tl) := by
 have shift : ∀ (vs l : List α) (x : α) (i : Nat), setL (x :: l) (i + 1) vs = x :: setL l i vs := by
  intro vs
  induction vs with
  | nil => intro l x i; rfl
  | cons v vs ih => intro l x i; simp only [setL, List.set_cons_succ]; rw [ih]
 have pre0 : ∀ (vs l tl : List α), l.length = vs.length → setL (l ++ tl) 0 vs = vs ++ tl := by
  intro vs
  induction vs with
  | nil => intro l tl h; cases l with | nil => rfl | cons a l => simp at h
  | cons v vs ih =>
   intro l tl h
   cases l with
   | nil => simp at h
   | cons a l =>
    simp only [List.cons_append, setL, List.set_cons_zero]
    rw [shift, ih l tl (by simpa using h)]
 intro pre
 induction pre with
 | nil => exact pre0 vs l tl hl
 | cons x pre ih => rw [List.cons_append, List.length_cons, shift, ih]; rfl
theorem catC_set (h : ∀ i, (F i).length = w) (hk : k < n) {v : List CV} (hv : v.length = w) : setL (catC n F) (k * w) v = catC n (fun i => if i = k then v else F i) := by
 obtain ⟨T, h2, h3⟩ := catC_split h hk
 have h4 := setL_in v (F k) T (by rw [h k, hv]) (catC k F)
 rw [catC_len h k] at h4
 rw [h2, h3 v, h4]
theorem catC_snoc (v : List CV) : catC n F ++ v = catC (n + 1) (fun i => if i = n then v else F i) := by
 rw [catC, if_pos rfl, catC_congr (G := F) fun i hi => if_neg (by omega)]
theorem catC_all (p : CV → Bool) (h : ∀ i, (F i).all p = true) : ∀ n, (catC n F).all p = true
 | 0 => rfl
 | n + 1 => by rw [catC, List.all_append, catC_all p h n, h n]; rfl
end
end Go.Eng
namespace Go.Proofs.Ytdkfbbjpblfclaa
open Go Go.Eng
structure SL where
 kind : Int
 key : List Int
 sum : List Int
 size : Int
 fr : Int
def zL : List Int := List.replicate 32 0
def zS : SL := ⟨0, zL, zL, 0, 0⟩
structure WfS (s : SL) : Prop where
 k : s.key.length = 32
 s : s.sum.length = 32
theorem zS_wf : WfS zS := ⟨rfl, rfl⟩
def slC (s : SL) : List CV := .int .i64 s.kind :: (u8l s.key ++ (u8l s.sum ++ [.int .i64 s.size, .int .i64 s.fr]))
section
variable {s : SL}
theorem slC_len (h : WfS s) : (slC s).length = 67 := by simp [slC, u8l_len, h.k, h.s]
theorem slC_0 (s : SL) : (slC s)[0]? = some (.int .i64 s.kind) := rfl
theorem slC_1 (h : WfS s) : ((slC s).drop 1).take 32 = u8l s.key := by
 have := h.k
 simp only [slC, List.drop_succ_cons, List.drop_zero]
 exact List.take_left' (by rw [u8l_len]; exact h.k)
theorem slC_2 (h : WfS s) : ((slC s).drop 33).take 32 = u8l s.sum := by
 simp only [slC, List.drop_succ_cons]
 rw [List.drop_left' (by rw [u8l_len]; exact h.k)]
 exact List.take_left' (by rw [u8l_len]; exact h.s)
theorem slC_3 (h : WfS s) : (slC s)[65]? = some (.int .i64 s.size) := by
 simp only [slC, List.getElem?_cons_succ]
 rw [List.getElem?_append_right (by rw [u8l_len, h.k]; decide), u8l_len, h.k, List.getElem?_append_right (by rw [u8l_len, h.s]; decide), u8l_len, h.s]; rfl
theorem slC_4 (h : WfS s) : (slC s)[66]? = some (.int .i64 s.fr) := by
 simp only [slC, List.getElem?_cons_succ]
 rw [List.getElem?_append_right (by rw [u8l_len, h.k]; decide), u8l_len, h.k, List.getElem?_append_right (by rw [u8l_len, h.s]; decide), u8l_len, h.s]; rfl
theorem slC_take (h : WfS s) : (slC s).take 67 = slC s := List.take_of_length_le (by rw [slC_len h]; exact Nat.le_refl _)
theorem slC_vals (s : SL) : (slC s).all CV.isVal = true := by simp only [slC, List.all_cons, List.all_append, u8l_vals, CV.isVal, List.all_nil, Bool.and_self]
theorem slC_below (L : Nat) (s : SL) : (slC s).all (CV.below L) = true := by simp only [slC, List.all_cons, List.all_append, u8l_below, CV.below, List.all_nil, Bool.and_self]
theorem slC_set3 (h : WfS s) (x : Int) : (slC s).set 65 (.int .i64 x) = slC { s with size := x } := by
 simp only [slC, List.set_cons_succ]
 rw [List.set_append_right _ _ (by rw [u8l_len, h.k]; decide), u8l_len, h.k, List.set_append_right _ _ (by rw [u8l_len, h.s]; decide), u8l_len, h.s]; rfl
theorem slC_set4 (h : WfS s) (x : Int) : (slC s).set 66 (.int .i64 x) = slC { s with fr := x } := by
 simp only [slC, List.set_cons_succ]
 rw [List.set_append_right _ _ (by rw [u8l_len, h.k]; decide), u8l_len, h.k, List.set_append_right _ _ (by rw [u8l_len, h.s]; decide), u8l_len, h.s]; rfl
end
def encL (s : SL) : List Int := catL 1 (fun _ => s.kind) 1 ++ s.key ++ s.sum ++ catL 4 (wh s.size s.fr) 2
def z55 : List Int := List.replicate 55 0
def encB (s : SL) : List Int := encL s ++ z55
theorem encL_len {s : SL} (h : WfS s) : (encL s).length = 73 := by simp only [encL, List.length_append, catL_len, h.k, h.s]
theorem encB_len {s : SL} (h : WfS s) : (encB s).length = 128 := by simp only [encB, List.length_append, encL_len h, z55, List.length_replicate]
def W1 (s : SL) : WS := WS.add ⟨[], 0⟩ (catL 1 (fun _ => s.kind) 1)
def W2 (s : SL) : WS := (W1 s).app s.key
def W3 (s : SL) : WS := (W2 s).app s.sum
def W4 (s : SL) : WS := (W3 s).add (catL 4 (wh s.size s.fr) 2)
theorem W4_bs (s : SL) : (W4 s).bs = encL s := by simp [W4, W3, W2, W1, WS.app, WS.add, encL]
theorem W1_len (s : SL) : (W1 s).bs.length = 1 := by simp [W1, WS.add, catL_len]
theorem W2_len {s : SL} (h : WfS s) : (W2 s).bs.length = 33 := by simp [W2, WS.app, W1_len, h.k]
theorem W3_len {s : SL} (h : WfS s) : (W3 s).bs.length = 65 := by simp [W3, WS.app, W2_len h, h.s]
theorem z128_73 {l : List Int} (h : l.length = 73) : setL [CV.int .u8 0, CV.int .u8 0, CV.int .u8 0, CV.int .u8 0, CV.int .u8 0, CV.int .u8 0, CV.int .u8 0, CV.int .u8 0, CV.int .u8 0, CV.int .u8 0, CV.int .u8 0, CV.int .u8 0, CV.int .u8 0, CV.int .u8 0, CV.int .u8 0, CV.int .u8 0, CV.int .u8 0, CV.int .u8 0, CV.int .u8 0, CV.int .u8 0, CV.int .u8 0, CV.int .u8 0, CV.int .u8 0, CV.int .u8 0, CV.int .u8 0, CV.int .u8 0, CV.int .u8 0, CV.int .u8 0, CV.int .u8 0, CV.int .u8 0, CV.int .u8 0, CV.int .u8 0, CV.int .u8 0, CV.int .u8 0, CV.int .u8 0, CV.int .u8 0, CV.int .u8 0, CV.int .u8 0, CV.int .u8 0, CV.int .u8 0, CV.int .u8 0, CV.int .u8 0, CV.int .u8 0, CV.int .u8 0, CV.int .u8 0, CV.int .u8 0, CV.int .u8 0, CV.int .u8 0, CV.int .u8 0, CV.int .u8 0, CV.int .u8 0, CV.int .u8 0, CV.int .u8 0, CV.int .u8 0, CV.int .u8 0, CV.int .u8 0, CV.int .u8 0, CV.int .u8 0, CV.int .u8 0, CV.int .u8 0, CV.int .u8 0, CV.int .u8 0, CV.int .u8 0, CV.int .u8 0, CV.int .u8 0, CV.int .u8 0, CV.int .u8 0, CV.int .u8 0, CV.int .u8 0, CV.int .u8 0, CV.int .u8 0, CV.int .u8 0, CV.int .u8 0, CV.int .u8 0, CV.int .u8 0, CV.int .u8 0, CV.int .u8 0, CV.int .u8 0, CV.int .u8 0, CV.int .u8 0, CV.int .u8 0, CV.int .u8 0, CV.int .u8 0, CV.int .u8 0, CV.int .u8 0, CV.int .u8 0, CV.int .u8 0, CV.int .u8 0, CV.int .u8 0, CV.int .u8 0, CV.int .u8 0, CV.int .u8 0, CV.int .u8 0, CV.int .u8 0, CV.int .u8 0, CV.int .u8 0, CV.int .u8 0, CV.int .u8 0, CV.int .u8 0, CV.int .u8 0, CV.int .u8 0, CV.int .u8 0, CV.int .u8 0, CV.int .u8 0, CV.int .u8 0, CV.int .u8 0, CV.int .u8 0, CV.int .u8 0, CV.int .u8 0, CV.int .u8 0, CV.int .u8 0, CV.int .u8 0, CV.int .u8 0, CV.int .u8 0, CV.int .u8 0, CV.int .u8 0, CV.int .u8 0, CV.int .u8 0, CV.int .u8 0, CV.int .u8 0, CV.int .u8 0, CV.int .u8 0, CV.int .u8 0, CV.int .u8 0, CV.int .u8 0, CV.int .u8 0, CV.int .u8 0, CV.int .u8 0] 0 (u8l l) = u8l (l ++ z55) := by
 have h1 := setL_in (u8l l) (List.replicate 73 (CV.int .u8 0)) (List.replicate 55 (CV.int .u8 0)) (by rw [List.length_replicate, u8l_len, h]) []
 rw [List.nil_append, List.nil_append, List.replicate_append_replicate] at h1
 rw [← u8l_app, show u8l z55 = List.replicate 55 (CV.int .u8 0) by simp [u8l, z55]]
 exact h1
theorem enc_c (s : SL) (m : AMem) (hs : WfS s) : Ctr Try.prog 38 [.agg (slC s)] m (.agg (u8l (encB s))) m := by
 refine Ctr.enter Try.func38 rfl (by decide) (rs := [.cell 2 78]) (nt := 31) rfl rfl fun hwf Q hQ => ?_
 have hM : ∀ (a b x y : Blk) (L : AMem) (Z : WS), wM (m ++ a :: b :: x :: y :: L) (m.length + 2) (m.length + 3) Z = m ++ a :: b :: wA (m.length + 3) Z :: wB Z :: L := fun a b x y L Z => by unfold wM; rw [set_app, set_app]; rfl
 have hAt : ∀ (a b : Blk) (L : AMem) (Z : WS), WAt (m ++ a :: b :: wA (m.length + 3) Z :: wB Z :: L) (m.length + 2) (m.length + 3) Z := fun a b L Z => ⟨by rw [lk_app]; rfl, by rw [lk_app]; rfl, by omega⟩
 have f0 := slC_0 s
 have f1 := slC_1 hs
 have f2 := slC_2 hs
 have f3 := slC_3 hs
 have f4 := slC_4 hs
 have fl := slC_len hs
 have fv := slC_vals s
 have k1 := u8l_len s.key
 have k2 := u8l_len s.sum
 rw [hs.k] at k1
 rw [hs.s] at k2
 have e4 : (W4 s).bs.length = 73 := by rw [W4_bs]; exact encL_len hs
 have mn : min 73 128 = 73 := rfl
 have vB := u8l_vals (encB s)
 have sB : setL [CV.int .u8 0, CV.int .u8 0, CV.int .u8 0, CV.int .u8 0, CV.int .u8 0, CV.int .u8 0, CV.int .u8 0, CV.int .u8 0, CV.int .u8 0, CV.int .u8 0, CV.int .u8 0, CV.int .u8 0, CV.int .u8 0, CV.int .u8 0, CV.int .u8 0, CV.int .u8 0, CV.int .u8 0, CV.int .u8 0, CV.int .u8 0, CV.int .u8 0, CV.int .u8 0, CV.int .u8 0, CV.int .u8 0, CV.int .u8 0, CV.int .u8 0, CV.int .u8 0, CV.int .u8 0, CV.int .u8 0, CV.int .u8 0, CV.int .u8 0, CV.int .u8 0, CV.int .u8 0, CV.int .u8 0, CV.int .u8 0, CV.int .u8 0, CV.int .u8 0, CV.int .u8 0, CV.int .u8 0, CV.int .u8 0, CV.int .u8 0, CV.int .u8 0, CV.int .u8 0, CV.int .u8 0, CV.int .u8 0, CV.int .u8 0, CV.int .u8 0, CV.int .u8 0, CV.int .u8 0, CV.int .u8 0, CV.int .u8 0, CV.int .u8 0, CV.int .u8 0, CV.int .u8 0, CV.int .u8 0, CV.int .u8 0, CV.int .u8 0, CV.int .u8 0, CV.int .u8 0, CV.int .u8 0, CV.int .u8 0, CV.int .u8 0, CV.int .u8 0, CV.int .u8 0, CV.int .u8 0, CV.int .u8 0, CV.int .u8 0, CV.int .u8 0, CV.int .u8 0, CV.int .u8 0, CV.int .u8 0, CV.int .u8 0, CV.int .u8 0, CV.int .u8 0, CV.int .u8 0, CV.int .u8 0, CV.int .u8 0, CV.int .u8 0, CV.int .u8 0, CV.int .u8 0, CV.int .u8 0, CV.int .u8 0, CV.int .u8 0, CV.int .u8 0, CV.int .u8 0, CV.int .u8 0, CV.int .u8 0, CV.int .u8 0, CV.int .u8 0, CV.int .u8 0, CV.int .u8 0, CV.int .u8 0, CV.int .u8 0, CV.int .u8 0, CV.int .u8 0, CV.int .u8 0, CV.int .u8 0, CV.int .u8 0, CV.int .u8 0, CV.int .u8 0, CV.int .u8 0, CV.int .u8 0, CV.int .u8 0, CV.int .u8 0, CV.int .u8 0, CV.int .u8 0, CV.int .u8 0, CV.int .u8 0, CV.int .u8 0, CV.int .u8 0, CV.int .u8 0, CV.int .u8 0, CV.int .u8 0, CV.int .u8 0, CV.int .u8 0, CV.int .u8 0, CV.int .u8 0, CV.int .u8 0, CV.int .u8 0, CV.int .u8 0, CV.int .u8 0, CV.int .u8 0, CV.int .u8 0, CV.int .u8 0, CV.int .u8 0, CV.int .u8 0, CV.int .u8 0, CV.int .u8 0, CV.int .u8 0] 0 (u8l (encB s)) = u8l (encB s) := setL_full (by rw [u8l_len, encB_len hs]; rfl)
 have w4 : (W3 s).add (catL 4 (wh s.size s.fr) 2) = W4 s := rfl
 have w3 : (W2 s).app s.sum = W3 s := rfl
 have w2 : (W1 s).app s.key = W2 s := rfl
 have w1 : WS.add ⟨[], 0⟩ (catL 1 (fun _ => s.kind) 1) = W1 s := rfl
 have t73 : (u8l (W4 s).bs).take 73 = u8l (W4 s).bs := List.take_of_length_le (by rw [u8l_len, e4]; exact Nat.le_refl _)
 have v73 := u8l_vals (W4 s).bs
 have z73 := z128_73 (l := (W4 s).bs) e4
 have eB : u8l ((W4 s).bs ++ z55) = u8l (encB s) := by rw [W4_bs]; rfl
 have lB : (u8l (encB s)).length = 128 := by rw [u8l_len]; exact encB_len hs
 have tB : (u8l (encB s)).take 128 = u8l (encB s) := List.take_of_length_le (by omega)
 refine AW.sr 2 fun K hK => ?_
 have pk_1 : _ ∧ _ ∧ _ ∧ _ ∧ _ ∧ _ ∧ _ ∧ _ ∧ _ ∧ _ ∧ _ ∧ _ ∧ _ ∧ _ ∧ _ ∧ _ ∧ _ ∧ _ ∧ _ ∧ _ ∧ _ ∧ _ ∧ _ ∧ _ := ⟨hM, f0, f1, f2, f3, f4, fl, fv, k1, k2, w1, w2, w3, w4, e4, mn, t73, v73, z73, eB, lB, tB, vB, sB⟩
 simp only [push_cast, simprocAttr, List.nil_append, u8l_len, pk_1]
 refine CThen.by (wnew_c _) ?_
 simp only [push_cast, simprocAttr, List.nil_append, u8l_len, pk_1]
 apply hK;clear hK K
 refine AW.nilCell 5 1 (m.length + 2) 0 (by simp only [push_cast, simprocAttr]; first | done | rfl) (by intro e; cases e) rfl ?_
 try simp only [push_cast, simprocAttr]
 refine AW.sr 5 fun K hK => ?_
 simp only [push_cast, simprocAttr, List.nil_append, u8l_len, pk_1]
 refine CThen.by (wbyte_c (m.length + 2) (m.length + 3) ⟨[], 0⟩ (m.length + 4) 0 1 (fun _ => s.kind) _ (hAt _ _ _ ⟨[], 0⟩) ⟨.grow, 1, by rw [lk_app]; rfl⟩ (by decide) (by simp)) ?_
 simp only [push_cast, simprocAttr, List.nil_append, u8l_len, pk_1]
 refine CThen.by (wsum_c (m.length + 2) (m.length + 3) (W1 s) s.key _ (hAt _ _ _ _) hs.k (by rw [W1_len]; decide)) ?_
 simp only [push_cast, simprocAttr, List.nil_append, u8l_len, pk_1]
 refine CThen.by (wsum_c (m.length + 2) (m.length + 3) (W2 s) s.sum _ (hAt _ _ _ _) hs.s (by rw [W2_len hs]; decide)) ?_
 simp only [push_cast, simprocAttr, List.nil_append, u8l_len, pk_1]
 refine CThen.by (wword_c (m.length + 2) (m.length + 3) (W3 s) (m.length + 5) 0 2 (wh s.size s.fr) _ (hAt _ _ _ _) ⟨.grow, 1, by rw [lk_app]; rfl⟩ (by decide) (by rw [W3_len hs]; decide)) ?_
 simp only [push_cast, simprocAttr, List.nil_append, u8l_len, pk_1]
 apply hK;clear hK K
 refine AW.seq_k fun K hK => ?_
 refine AW.drawX fol (by kernel_rfl) ?_
 refine DX.split 0 2 (by decide) ?_ ?_
 ·refine DX.run [0, 1, 2, 3] [.ext, .val, .ext, .wr] (by simp only [permL, reOp, List.idxOf_cons, push_cast, simprocAttr, List.nil_append, u8l_len, pk_1]; first | done | rfl) (by kernel_rfl) ?_
  simp only [push_cast, simprocAttr, List.nil_append, u8l_len, pk_1]
  refine DExt.by (by first | rfl | exact (List.append_nil _).symm | (simp only [List.append_assoc, List.cons_append, List.nil_append]; rfl)) ?_
  simp only [push_cast, simprocAttr, List.nil_append, u8l_len, pk_1]
  refine DCall.by (wbytes_c (m.length + 2) (m.length + 3) (W4 s) _ (hAt _ _ _ _) (by rw [e4]; decide)) ?_
  simp only [push_cast, simprocAttr, List.nil_append, u8l_len, pk_1]
  apply hK;clear hK K
  refine AW.sr 1 fun K hK => ?_
  simp only [push_cast, simprocAttr, List.nil_append, u8l_len, pk_1]
  apply hK;clear hK K
  refine AW.ret ?_
  refine hQ _ _ _ ?_
  first | refine RetP.drop0 (Or.inr rfl) ?_ ?_ hwf | refine RetP.drop (Or.inr rfl) ?_ ?_ hwf | refine RetP.drop0 (Or.inl rfl) ?_ ?_ hwf | refine RetP.drop (Or.inl rfl) ?_ ?_ hwf
  · simp only [resA, resOne, resTv, AV.tv, push_cast, simprocAttr, lB, tB]
  · exact u8l_below _ _
 ·refine DX.run [1, 2, 0, 3] [.val, .ext, .ext, .wr] (by simp only [permL, reOp, List.idxOf_cons, push_cast, simprocAttr, List.nil_append, u8l_len, pk_1]; first | done | rfl) (by kernel_rfl) ?_
  simp only [push_cast, simprocAttr, List.nil_append, u8l_len, pk_1]
  refine DCall.by (wbytes_c (m.length + 2) (m.length + 3) (W4 s) _ (hAt _ _ _ _) (by rw [e4]; decide)) ?_
  simp only [push_cast, simprocAttr, List.nil_append, u8l_len, pk_1]
  refine DExt.by (by first | rfl | exact (List.append_nil _).symm | (simp only [List.append_assoc, List.cons_append, List.nil_append]; rfl)) ?_
  simp only [push_cast, simprocAttr, List.nil_append, u8l_len, pk_1]
  apply hK;clear hK K
  refine AW.sr 1 fun K hK => ?_
  simp only [push_cast, simprocAttr, List.nil_append, u8l_len, pk_1]
  apply hK;clear hK K
  refine AW.ret ?_
  refine hQ _ _ _ ?_
  first | refine RetP.drop0 (Or.inr rfl) ?_ ?_ hwf | refine RetP.drop (Or.inr rfl) ?_ ?_ hwf | refine RetP.drop0 (Or.inl rfl) ?_ ?_ hwf | refine RetP.drop (Or.inl rfl) ?_ ?_ hwf
  · simp only [resA, resOne, resTv, AV.tv, push_cast, simprocAttr, lB, tB]
  · exact u8l_below _ _
theorem eqp_gen (d : Nat) (xs ys : List Int) : ∀ l : List Nat, (∀ i, i ∈ l → i < xs.length ∧ i < ys.length) → eqParts Try.prog (eqV Try.prog (d + 1)) (u8l xs) (u8l ys) (l.map fun i => (5, i)) = some (l.all fun i => byB xs i == byB ys i)
 | [], _ => rfl
 | i :: l, h => by
  have hi := h i List.mem_cons_self
  have ih := eqp_gen d xs ys l fun j hj => h j (List.mem_cons_of_mem _ hj)
  have hg := u8l_get hi.1
  have hg2 := u8l_get hi.2
  simp only [List.map_cons, eqParts, ih]
  simp only [push_cast, simprocAttr, hg, hg2, Option.map_some]
theorem byB_all {xs ys : List Int} {n : Nat} (hx : xs.length = n) (hy : ys.length = n) : ((List.range' 0 n).all fun i => byB xs i == byB ys i) = decide (xs = ys) := by
 rw [Bool.eq_iff_iff, List.all_eq_true, decide_eq_true_iff]
 constructor
 ·intro h
  refine List.ext_getElem? fun i => ?_
  rcases Nat.lt_or_ge i n with hi | hi
  ·have h1 := h i (by rw [List.mem_range'_1]; omega)
   have h2 : byB xs i = byB ys i := by simpa using h1
   unfold byB at h2
   rw [List.getD_eq_getElem?_getD, List.getD_eq_getElem?_getD] at h2
   rw [List.getElem?_eq_getElem (by omega), List.getElem?_eq_getElem (by omega)] at h2 ⊢
   simpa using h2
  ·rw [List.getElem?_eq_none (by omega), List.getElem?_eq_none (by omega)]
 ·rintro rfl i _
  simp
theorem eqpn {xs ys : List Int} {n : Nat} (hx : xs.length = n) (hy : ys.length = n) : eqParts Try.prog (eqV Try.prog 9999) (u8l xs) (u8l ys) (List.map (fun i => (5, i)) (List.range' 0 n)) = some (decide (xs = ys)) := by
 rw [← byB_all hx hy]
 exact eqp_gen 9998 xs ys _ fun i hi => by rw [List.mem_range'_1] at hi; omega
def decS (b : List Int) : SL := ⟨numV b 0 1, pieceL b 1 32, pieceL b 33 32, numV b 65 4, numV b 69 4⟩
def decO (b : List Int) : Bool := decide (encB (decS b) = b) && (decide ((decS b).kind = 1) || decide ((decS b).kind = 2))
theorem decS_wf {b : List Int} (h : b.length = 128) : WfS (decS b) := ⟨by simp [decS, pieceL, h], by simp [decS, pieceL, h]⟩
theorem rread_n (rb v n : Nat) (bs : List Int) (m : AMem) (hn : bs.length = n) (hb : ∃ k ty ez, m[rb]? = some ⟨k, ty, v, ez, u8l bs⟩) (h2 : n ≤ 100000000) : Ctr Try.prog 47 [.one (.sl rb v 0 n)] m (.one (.ptr (m.length + 1) 0 0)) (m ++ [⟨.grow, 5, 1, 1, u8l bs⟩, ⟨.fix, 121, 0, 0, [.sl m.length 1 0 n, .int .i64 0]⟩]) := by
 subst hn; exact rread_c rb v bs m hb h2
theorem slC_fold (k : Int) (a b : List Int) (x y : Int) : CV.int .i64 k :: (u8l a ++ (u8l b ++ [.int .i64 x, .int .i64 y])) = slC ⟨k, a, b, x, y⟩ := rfl
theorem wfs (k : Int) (a b : List Int) (x y : Int) (ha : a.length = 32) (hb : b.length = 32) : WfS ⟨k, a, b, x, y⟩ := ⟨ha, hb⟩
def zR : List CV := List.replicate 32 (CV.int .u8 0)
theorem zb1 (k : CV) {a : List Int} (ha : a.length = 32) : setL [k, CV.int .u8 0, CV.int .u8 0, CV.int .u8 0, CV.int .u8 0, CV.int .u8 0, CV.int .u8 0, CV.int .u8 0, CV.int .u8 0, CV.int .u8 0, CV.int .u8 0, CV.int .u8 0, CV.int .u8 0, CV.int .u8 0, CV.int .u8 0, CV.int .u8 0, CV.int .u8 0, CV.int .u8 0, CV.int .u8 0, CV.int .u8 0, CV.int .u8 0, CV.int .u8 0, CV.int .u8 0, CV.int .u8 0, CV.int .u8 0, CV.int .u8 0, CV.int .u8 0, CV.int .u8 0, CV.int .u8 0, CV.int .u8 0, CV.int .u8 0, CV.int .u8 0, CV.int .u8 0, CV.int .u8 0, CV.int .u8 0, CV.int .u8 0, CV.int .u8 0, CV.int .u8 0, CV.int .u8 0, CV.int .u8 0, CV.int .u8 0, CV.int .u8 0, CV.int .u8 0, CV.int .u8 0, CV.int .u8 0, CV.int .u8 0, CV.int .u8 0, CV.int .u8 0, CV.int .u8 0, CV.int .u8 0, CV.int .u8 0, CV.int .u8 0, CV.int .u8 0, CV.int .u8 0, CV.int .u8 0, CV.int .u8 0, CV.int .u8 0, CV.int .u8 0, CV.int .u8 0, CV.int .u8 0, CV.int .u8 0, CV.int .u8 0, CV.int .u8 0, CV.int .u8 0, CV.int .u8 0, CV.int .i64 0, CV.int .i64 0] 1 (u8l a) = k :: (u8l a ++ (zR ++ [CV.int .i64 0, CV.int .i64 0])) := by
 have h := setL_in (u8l a) zR (zR ++ [CV.int .i64 0, CV.int .i64 0]) (by rw [zR, List.length_replicate, u8l_len, ha]) [k]
 exact h
theorem zb2 (k : CV) {a c : List Int} (ha : a.length = 32) (hc : c.length = 32) : setL (k :: (u8l a ++ (zR ++ [CV.int .i64 0, CV.int .i64 0]))) 33 (u8l c) = k :: (u8l a ++ (u8l c ++ [CV.int .i64 0, CV.int .i64 0])) := by
 have h := setL_in (u8l c) zR [CV.int .i64 0, CV.int .i64 0] (by rw [zR, List.length_replicate, u8l_len, hc]) (k :: u8l a)
 rw [List.length_cons, u8l_len, ha] at h
 simpa only [List.cons_append] using h
theorem zb1l (k : CV) (a : List CV) (ha : a.length = 32) : (k :: (a ++ (zR ++ [CV.int .i64 0, CV.int .i64 0]))).length = 67 := by simp [ha, zR]
theorem zb0 {v : List CV} (hv : v.length = 67) : setL [CV.int .i64 0, CV.int .u8 0, CV.int .u8 0, CV.int .u8 0, CV.int .u8 0, CV.int .u8 0, CV.int .u8 0, CV.int .u8 0, CV.int .u8 0, CV.int .u8 0, CV.int .u8 0, CV.int .u8 0, CV.int .u8 0, CV.int .u8 0, CV.int .u8 0, CV.int .u8 0, CV.int .u8 0, CV.int .u8 0, CV.int .u8 0, CV.int .u8 0, CV.int .u8 0, CV.int .u8 0, CV.int .u8 0, CV.int .u8 0, CV.int .u8 0, CV.int .u8 0, CV.int .u8 0, CV.int .u8 0, CV.int .u8 0, CV.int .u8 0, CV.int .u8 0, CV.int .u8 0, CV.int .u8 0, CV.int .u8 0, CV.int .u8 0, CV.int .u8 0, CV.int .u8 0, CV.int .u8 0, CV.int .u8 0, CV.int .u8 0, CV.int .u8 0, CV.int .u8 0, CV.int .u8 0, CV.int .u8 0, CV.int .u8 0, CV.int .u8 0, CV.int .u8 0, CV.int .u8 0, CV.int .u8 0, CV.int .u8 0, CV.int .u8 0, CV.int .u8 0, CV.int .u8 0, CV.int .u8 0, CV.int .u8 0, CV.int .u8 0, CV.int .u8 0, CV.int .u8 0, CV.int .u8 0, CV.int .u8 0, CV.int .u8 0, CV.int .u8 0, CV.int .u8 0, CV.int .u8 0, CV.int .u8 0, CV.int .i64 0, CV.int .i64 0] 0 v = v := setL_full (by rw [hv]; rfl)
theorem dec_no (b : List Int) (m : AMem) (hb : b.length = 128) (hu : ∀ i, 0 ≤ byB b i ∧ byB b i ≤ 255) (h : ¬ encB (decS b) = b) : Ctr Try.prog 27 [.agg (u8l b)] m (.tup [(true, slC (decS b)), (false, [.bool false])]) m := by
 refine Ctr.enter Try.func27 rfl (by decide) (rs := [.cell 2 82, .tmp 3]) (nt := 36) rfl rfl fun hwf Q hQ => ?_
 have hb2 := u8l_len b
 rw [hb] at hb2
 have tb : (u8l b).take 128 = u8l b := List.take_of_length_le (by omega)
 have vb := u8l_vals b
 have hp1 : (pieceL b 1 32).length = 32 := by simp [pieceL, hb]
 have hp2 : (pieceL b 33 32).length = 32 := by simp [pieceL, hb]
 have hP : ∀ (a x y : Blk) (L : AMem) (s : Nat × Int), pM (m ++ a :: x :: y :: L) (m.length + 3) (m.length + 2) 1 b s = pM (m ++ a :: x :: y :: L) (m.length + 3) (m.length + 2) 1 b s := fun _ _ _ _ _ => rfl
 have hR : ∀ (a x : Blk) (L : AMem) (s : Nat × Int), s.1 ≤ 128 → RP (m ++ a :: x :: ⟨.grow, 5, 1, 1, u8l b⟩ :: ⟨.fix, 121, 0, 0, [cP (m.length + 2) 1 128 s, .int .i64 s.2]⟩ :: L) (m.length + 3) (m.length + 2) 1 b s := fun a x L s hs => ⟨by rw [lk_app, hb]; rfl, ⟨.grow, 1, by rw [lk_app]; rfl⟩, by omega, by rw [hb]; exact hs, hu, by rw [hb]; decide⟩
 have hQ2 : ∀ (a x y z : Blk) (L : AMem) (s : Nat × Int), pM (m ++ a :: x :: y :: z :: L) (m.length + 3) (m.length + 2) 1 b s = m ++ a :: x :: y :: ⟨.fix, 121, 0, 0, [cP (m.length + 2) 1 128 s, .int .i64 s.2]⟩ :: L := fun a x y z L s => by unfold pM; rw [set_app, hb]; rfl
 have d1 : rdV b 1 (0, 0) = numV b 0 1 := by unfold rdV; rw [if_pos rfl, if_pos (by rw [hb]; decide)]
 have d4 : rdV b 4 (65, 0) = numV b 65 4 := by unfold rdV; rw [if_pos rfl, if_pos (by rw [hb]; decide)]
 have d5 : rdV b 4 (69, 0) = numV b 69 4 := by unfold rdV; rw [if_pos rfl, if_pos (by rw [hb]; decide)]
 have r1 : rdS 128 1 (0, 0) = (1, 0) := rfl
 have r4 : rdS 128 4 (65, 0) = (69, 0) := rfl
 have r5 : rdS 128 4 (69, 0) = (73, 0) := rfl
 have hs := decS_wf hb
 have fl := slC_len hs
 have ft := slC_take hs
 have f0 := slC_0 (decS b)
 have fv := slC_vals (decS b)
 have s3 : ∀ x, (slC ⟨numV b 0 1, pieceL b 1 32, pieceL b 33 32, 0, 0⟩).set 65 (.int .i64 x) = slC ⟨numV b 0 1, pieceL b 1 32, pieceL b 33 32, x, 0⟩ := fun x => slC_set3 (wfs _ _ _ _ _ hp1 hp2) x
 have s4 : ∀ x y, (slC ⟨numV b 0 1, pieceL b 1 32, pieceL b 33 32, x, 0⟩).set 66 (.int .i64 y) = slC ⟨numV b 0 1, pieceL b 1 32, pieceL b 33 32, x, y⟩ := fun x y => slC_set4 (wfs _ _ _ _ _ hp1 hp2) y
 have sl : ∀ x y, (slC ⟨numV b 0 1, pieceL b 1 32, pieceL b 33 32, x, y⟩).length = 67 := fun x y => slC_len (wfs _ _ _ _ _ hp1 hp2)
 have sf : slC ⟨numV b 0 1, pieceL b 1 32, pieceL b 33 32, numV b 65 4, numV b 69 4⟩ = slC (decS b) := rfl
 have lE : (encB (decS b)).length = 128 := encB_len hs
 have hE := eqpn lE hb
 have k1 := u8l_len (pieceL b 1 32)
 have k2 := u8l_len (pieceL b 33 32)
 rw [hp1] at k1
 rw [hp2] at k2
 have v1 := u8l_vals (pieceL b 1 32)
 have v2 := u8l_vals (pieceL b 33 32)
 have sv := slC_vals
 have zd := zb0 fl
 have hE2 := eqpn hb hb
 rw [decide_eq_true rfl] at hE2
 have b1 := fun k => zb1 k hp1
 have b2 := fun k => zb2 k hp1 hp2
 have b3 := fun k => zb1l k _ k1
 have zl : ∀ x y, setL [CV.int .i64 0, CV.int .u8 0, CV.int .u8 0, CV.int .u8 0, CV.int .u8 0, CV.int .u8 0, CV.int .u8 0, CV.int .u8 0, CV.int .u8 0, CV.int .u8 0, CV.int .u8 0, CV.int .u8 0, CV.int .u8 0, CV.int .u8 0, CV.int .u8 0, CV.int .u8 0, CV.int .u8 0, CV.int .u8 0, CV.int .u8 0, CV.int .u8 0, CV.int .u8 0, CV.int .u8 0, CV.int .u8 0, CV.int .u8 0, CV.int .u8 0, CV.int .u8 0, CV.int .u8 0, CV.int .u8 0, CV.int .u8 0, CV.int .u8 0, CV.int .u8 0, CV.int .u8 0, CV.int .u8 0, CV.int .u8 0, CV.int .u8 0, CV.int .u8 0, CV.int .u8 0, CV.int .u8 0, CV.int .u8 0, CV.int .u8 0, CV.int .u8 0, CV.int .u8 0, CV.int .u8 0, CV.int .u8 0, CV.int .u8 0, CV.int .u8 0, CV.int .u8 0, CV.int .u8 0, CV.int .u8 0, CV.int .u8 0, CV.int .u8 0, CV.int .u8 0, CV.int .u8 0, CV.int .u8 0, CV.int .u8 0, CV.int .u8 0, CV.int .u8 0, CV.int .u8 0, CV.int .u8 0, CV.int .u8 0, CV.int .u8 0, CV.int .u8 0, CV.int .u8 0, CV.int .u8 0, CV.int .u8 0, CV.int .i64 0, CV.int .i64 0] 0 (slC ⟨numV b 0 1, pieceL b 1 32, pieceL b 33 32, x, y⟩) = slC ⟨numV b 0 1, pieceL b 1 32, pieceL b 33 32, x, y⟩ := fun x y => zb0 (sl x y)
 refine AW.sr 5 fun K hK => ?_
 have pk_1 : _ ∧ _ ∧ _ ∧ _ ∧ _ ∧ _ ∧ _ ∧ _ ∧ _ ∧ _ ∧ _ ∧ _ ∧ _ ∧ _ ∧ _ ∧ _ ∧ _ ∧ _ ∧ _ ∧ _ ∧ _ ∧ _ ∧ _ ∧ _ ∧ _ ∧ _ ∧ _ ∧ _ ∧ _ ∧ _ ∧ _ ∧ _ ∧ _ ∧ _ := ⟨hb2, hb, tb, vb, hp1, hp2, hQ2, d1, d4, d5, r1, r4, r5, fl, ft, f0, fv, s3, s4, sl, sf, hE, hE2, k1, k2, v1, v2, sv, b1, b2, b3, zl, zd, h⟩
 simp only [push_cast, simprocAttr, slC_fold, u8l_len, pk_1]
 refine CThen.by (rread_n (m.length) 0 128 b _ hb ⟨.fix, 78, 0, by rw [lk_app0]; rfl⟩ (by omega)) ?_
 simp only [push_cast, simprocAttr, slC_fold, u8l_len, pk_1]
 refine CThen.by (rbyte_c (m.length + 3) (m.length + 2) 1 b (0, 0) _ (hR _ _ _ (0, 0) (by decide))) ?_
 simp only [push_cast, simprocAttr, slC_fold, u8l_len, pk_1]
 refine CThen.by (rsum_k (m.length + 3) (m.length + 2) 1 b 1 (by omega) _ (hR _ _ _ (1, 0) (by decide))) ?_
 simp only [push_cast, simprocAttr, slC_fold, u8l_len, pk_1]
 refine CThen.by (rsum_k (m.length + 3) (m.length + 2) 1 b 33 (by omega) _ (hR _ _ _ (33, 0) (by decide))) ?_
 simp only [push_cast, simprocAttr, slC_fold, u8l_len, pk_1]
 refine CThen.by (rword_c (m.length + 3) (m.length + 2) 1 b (65, 0) _ (hR _ _ _ (65, 0) (by decide))) ?_
 simp only [push_cast, simprocAttr, slC_fold, u8l_len, pk_1]
 refine CThen.by (rword_c (m.length + 3) (m.length + 2) 1 b (69, 0) _ (hR _ _ _ (69, 0) (by decide))) ?_
 simp only [push_cast, simprocAttr, slC_fold, u8l_len, pk_1]
 apply hK;clear hK K
 refine AW.seq_k fun K hK => ?_
 refine AW.draw [.rd 0, .rd 0, .ext, .rd 0, .val, .val, .val, .rd 1, .val, .val, .val, .rw 1, .val, .val, .val, .wr, .val] fol (by decide) (by kernel_rfl) ?_
 simp only [push_cast, simprocAttr, slC_fold, u8l_len, pk_1]
 refine DCall.by0 (enc_c (decS b) _ hs) ?_
 simp only [push_cast, simprocAttr, slC_fold, u8l_len, pk_1]
 try refine AOpsD_end (by simp only [watchS, allAt, push_cast, simprocAttr, slC_fold, u8l_len, pk_1]) ?_
 apply hK;clear hK K
 refine AW.ret ?_
 refine hQ _ _ _ ?_
 first | refine RetP.drop0 (Or.inr rfl) ?_ ?_ hwf | refine RetP.drop (Or.inr rfl) ?_ ?_ hwf | refine RetP.drop0 (Or.inl rfl) ?_ ?_ hwf | refine RetP.drop (Or.inl rfl) ?_ ?_ hwf
 · simp only [resA, resOne, resTv, AV.tv, push_cast, simprocAttr, fl, ft, zd]
 · simp only [AV.below, List.all_cons, slC_below, CV.below, List.all_nil, Bool.and_self]
theorem dec_1 (b : List Int) (m : AMem) (hb : b.length = 128) (hu : ∀ i, 0 ≤ byB b i ∧ byB b i ≤ 255) (h : encB (decS b) = b) (h1 : (decS b).kind = 1) : Ctr Try.prog 27 [.agg (u8l b)] m (.tup [(true, slC (decS b)), (false, [.bool true])]) m := by
 refine Ctr.enter Try.func27 rfl (by decide) (rs := [.cell 2 82, .tmp 3]) (nt := 36) rfl rfl fun hwf Q hQ => ?_
 have hb2 := u8l_len b
 rw [hb] at hb2
 have tb : (u8l b).take 128 = u8l b := List.take_of_length_le (by omega)
 have vb := u8l_vals b
 have hp1 : (pieceL b 1 32).length = 32 := by simp [pieceL, hb]
 have hp2 : (pieceL b 33 32).length = 32 := by simp [pieceL, hb]
 have hP : ∀ (a x y : Blk) (L : AMem) (s : Nat × Int), pM (m ++ a :: x :: y :: L) (m.length + 3) (m.length + 2) 1 b s = pM (m ++ a :: x :: y :: L) (m.length + 3) (m.length + 2) 1 b s := fun _ _ _ _ _ => rfl
 have hR : ∀ (a x : Blk) (L : AMem) (s : Nat × Int), s.1 ≤ 128 → RP (m ++ a :: x :: ⟨.grow, 5, 1, 1, u8l b⟩ :: ⟨.fix, 121, 0, 0, [cP (m.length + 2) 1 128 s, .int .i64 s.2]⟩ :: L) (m.length + 3) (m.length + 2) 1 b s := fun a x L s hs => ⟨by rw [lk_app, hb]; rfl, ⟨.grow, 1, by rw [lk_app]; rfl⟩, by omega, by rw [hb]; exact hs, hu, by rw [hb]; decide⟩
 have hQ2 : ∀ (a x y z : Blk) (L : AMem) (s : Nat × Int), pM (m ++ a :: x :: y :: z :: L) (m.length + 3) (m.length + 2) 1 b s = m ++ a :: x :: y :: ⟨.fix, 121, 0, 0, [cP (m.length + 2) 1 128 s, .int .i64 s.2]⟩ :: L := fun a x y z L s => by unfold pM; rw [set_app, hb]; rfl
 have d1 : rdV b 1 (0, 0) = numV b 0 1 := by unfold rdV; rw [if_pos rfl, if_pos (by rw [hb]; decide)]
 have d4 : rdV b 4 (65, 0) = numV b 65 4 := by unfold rdV; rw [if_pos rfl, if_pos (by rw [hb]; decide)]
 have d5 : rdV b 4 (69, 0) = numV b 69 4 := by unfold rdV; rw [if_pos rfl, if_pos (by rw [hb]; decide)]
 have r1 : rdS 128 1 (0, 0) = (1, 0) := rfl
 have r4 : rdS 128 4 (65, 0) = (69, 0) := rfl
 have r5 : rdS 128 4 (69, 0) = (73, 0) := rfl
 have hs := decS_wf hb
 have fl := slC_len hs
 have ft := slC_take hs
 have f0 := slC_0 (decS b)
 have fv := slC_vals (decS b)
 have s3 : ∀ x, (slC ⟨numV b 0 1, pieceL b 1 32, pieceL b 33 32, 0, 0⟩).set 65 (.int .i64 x) = slC ⟨numV b 0 1, pieceL b 1 32, pieceL b 33 32, x, 0⟩ := fun x => slC_set3 (wfs _ _ _ _ _ hp1 hp2) x
 have s4 : ∀ x y, (slC ⟨numV b 0 1, pieceL b 1 32, pieceL b 33 32, x, 0⟩).set 66 (.int .i64 y) = slC ⟨numV b 0 1, pieceL b 1 32, pieceL b 33 32, x, y⟩ := fun x y => slC_set4 (wfs _ _ _ _ _ hp1 hp2) y
 have sl : ∀ x y, (slC ⟨numV b 0 1, pieceL b 1 32, pieceL b 33 32, x, y⟩).length = 67 := fun x y => slC_len (wfs _ _ _ _ _ hp1 hp2)
 have sf : slC ⟨numV b 0 1, pieceL b 1 32, pieceL b 33 32, numV b 65 4, numV b 69 4⟩ = slC (decS b) := rfl
 have lE : (encB (decS b)).length = 128 := encB_len hs
 have hE := eqpn lE hb
 have k1 := u8l_len (pieceL b 1 32)
 have k2 := u8l_len (pieceL b 33 32)
 rw [hp1] at k1
 rw [hp2] at k2
 have v1 := u8l_vals (pieceL b 1 32)
 have v2 := u8l_vals (pieceL b 33 32)
 have sv := slC_vals
 have zd := zb0 fl
 have hE2 := eqpn hb hb
 rw [decide_eq_true rfl] at hE2
 have b1 := fun k => zb1 k hp1
 have b2 := fun k => zb2 k hp1 hp2
 have b3 := fun k => zb1l k _ k1
 have zl : ∀ x y, setL [CV.int .i64 0, CV.int .u8 0, CV.int .u8 0, CV.int .u8 0, CV.int .u8 0, CV.int .u8 0, CV.int .u8 0, CV.int .u8 0, CV.int .u8 0, CV.int .u8 0, CV.int .u8 0, CV.int .u8 0, CV.int .u8 0, CV.int .u8 0, CV.int .u8 0, CV.int .u8 0, CV.int .u8 0, CV.int .u8 0, CV.int .u8 0, CV.int .u8 0, CV.int .u8 0, CV.int .u8 0, CV.int .u8 0, CV.int .u8 0, CV.int .u8 0, CV.int .u8 0, CV.int .u8 0, CV.int .u8 0, CV.int .u8 0, CV.int .u8 0, CV.int .u8 0, CV.int .u8 0, CV.int .u8 0, CV.int .u8 0, CV.int .u8 0, CV.int .u8 0, CV.int .u8 0, CV.int .u8 0, CV.int .u8 0, CV.int .u8 0, CV.int .u8 0, CV.int .u8 0, CV.int .u8 0, CV.int .u8 0, CV.int .u8 0, CV.int .u8 0, CV.int .u8 0, CV.int .u8 0, CV.int .u8 0, CV.int .u8 0, CV.int .u8 0, CV.int .u8 0, CV.int .u8 0, CV.int .u8 0, CV.int .u8 0, CV.int .u8 0, CV.int .u8 0, CV.int .u8 0, CV.int .u8 0, CV.int .u8 0, CV.int .u8 0, CV.int .u8 0, CV.int .u8 0, CV.int .u8 0, CV.int .u8 0, CV.int .i64 0, CV.int .i64 0] 0 (slC ⟨numV b 0 1, pieceL b 1 32, pieceL b 33 32, x, y⟩) = slC ⟨numV b 0 1, pieceL b 1 32, pieceL b 33 32, x, y⟩ := fun x y => zb0 (sl x y)
 refine AW.sr 5 fun K hK => ?_
 have pk_2 : _ ∧ _ ∧ _ ∧ _ ∧ _ ∧ _ ∧ _ ∧ _ ∧ _ ∧ _ ∧ _ ∧ _ ∧ _ ∧ _ ∧ _ ∧ _ ∧ _ ∧ _ ∧ _ ∧ _ ∧ _ ∧ _ ∧ _ ∧ _ ∧ _ ∧ _ ∧ _ ∧ _ ∧ _ ∧ _ ∧ _ ∧ _ ∧ _ ∧ _ ∧ _ := ⟨hb2, hb, tb, vb, hp1, hp2, hQ2, d1, d4, d5, r1, r4, r5, fl, ft, f0, fv, s3, s4, sl, sf, hE, hE2, k1, k2, v1, v2, sv, b1, b2, b3, zl, zd, h, h1⟩
 simp only [push_cast, simprocAttr, slC_fold, u8l_len, pk_2]
 refine CThen.by (rread_n (m.length) 0 128 b _ hb ⟨.fix, 78, 0, by rw [lk_app0]; rfl⟩ (by omega)) ?_
 simp only [push_cast, simprocAttr, slC_fold, u8l_len, pk_2]
 refine CThen.by (rbyte_c (m.length + 3) (m.length + 2) 1 b (0, 0) _ (hR _ _ _ (0, 0) (by decide))) ?_
 simp only [push_cast, simprocAttr, slC_fold, u8l_len, pk_2]
 refine CThen.by (rsum_k (m.length + 3) (m.length + 2) 1 b 1 (by omega) _ (hR _ _ _ (1, 0) (by decide))) ?_
 simp only [push_cast, simprocAttr, slC_fold, u8l_len, pk_2]
 refine CThen.by (rsum_k (m.length + 3) (m.length + 2) 1 b 33 (by omega) _ (hR _ _ _ (33, 0) (by decide))) ?_
 simp only [push_cast, simprocAttr, slC_fold, u8l_len, pk_2]
 refine CThen.by (rword_c (m.length + 3) (m.length + 2) 1 b (65, 0) _ (hR _ _ _ (65, 0) (by decide))) ?_
 simp only [push_cast, simprocAttr, slC_fold, u8l_len, pk_2]
 refine CThen.by (rword_c (m.length + 3) (m.length + 2) 1 b (69, 0) _ (hR _ _ _ (69, 0) (by decide))) ?_
 simp only [push_cast, simprocAttr, slC_fold, u8l_len, pk_2]
 apply hK;clear hK K
 refine AW.seq_k fun K hK => ?_
 refine AW.draw [.rd 0, .rd 0, .ext, .rd 0, .val, .val, .val, .rd 1, .val, .val, .val, .rw 1, .val, .val, .val, .wr, .val] fol (by decide) (by kernel_rfl) ?_
 simp only [push_cast, simprocAttr, slC_fold, u8l_len, pk_2]
 refine DCall.by0 (enc_c (decS b) _ hs) ?_
 simp only [push_cast, simprocAttr, slC_fold, u8l_len, pk_2]
 try refine AOpsD_end (by simp only [watchS, allAt, push_cast, simprocAttr, slC_fold, u8l_len, pk_2]) ?_
 apply hK;clear hK K
 refine AW.ret ?_
 refine hQ _ _ _ ?_
 first | refine RetP.drop0 (Or.inr rfl) ?_ ?_ hwf | refine RetP.drop (Or.inr rfl) ?_ ?_ hwf | refine RetP.drop0 (Or.inl rfl) ?_ ?_ hwf | refine RetP.drop (Or.inl rfl) ?_ ?_ hwf
 · simp only [resA, resOne, resTv, AV.tv, push_cast, simprocAttr, fl, ft, zd]
 · simp only [AV.below, List.all_cons, slC_below, CV.below, List.all_nil, Bool.and_self]
theorem dec_2 (b : List Int) (m : AMem) (hb : b.length = 128) (hu : ∀ i, 0 ≤ byB b i ∧ byB b i ≤ 255) (h : encB (decS b) = b) (h1 : (decS b).kind = 2) : Ctr Try.prog 27 [.agg (u8l b)] m (.tup [(true, slC (decS b)), (false, [.bool true])]) m := by
 refine Ctr.enter Try.func27 rfl (by decide) (rs := [.cell 2 82, .tmp 3]) (nt := 36) rfl rfl fun hwf Q hQ => ?_
 have hb2 := u8l_len b
 rw [hb] at hb2
 have tb : (u8l b).take 128 = u8l b := List.take_of_length_le (by omega)
 have vb := u8l_vals b
 have hp1 : (pieceL b 1 32).length = 32 := by simp [pieceL, hb]
 have hp2 : (pieceL b 33 32).length = 32 := by simp [pieceL, hb]
 have hP : ∀ (a x y : Blk) (L : AMem) (s : Nat × Int), pM (m ++ a :: x :: y :: L) (m.length + 3) (m.length + 2) 1 b s = pM (m ++ a :: x :: y :: L) (m.length + 3) (m.length + 2) 1 b s := fun _ _ _ _ _ => rfl
 have hR : ∀ (a x : Blk) (L : AMem) (s : Nat × Int), s.1 ≤ 128 → RP (m ++ a :: x :: ⟨.grow, 5, 1, 1, u8l b⟩ :: ⟨.fix, 121, 0, 0, [cP (m.length + 2) 1 128 s, .int .i64 s.2]⟩ :: L) (m.length + 3) (m.length + 2) 1 b s := fun a x L s hs => ⟨by rw [lk_app, hb]; rfl, ⟨.grow, 1, by rw [lk_app]; rfl⟩, by omega, by rw [hb]; exact hs, hu, by rw [hb]; decide⟩
 have hQ2 : ∀ (a x y z : Blk) (L : AMem) (s : Nat × Int), pM (m ++ a :: x :: y :: z :: L) (m.length + 3) (m.length + 2) 1 b s = m ++ a :: x :: y :: ⟨.fix, 121, 0, 0, [cP (m.length + 2) 1 128 s, .int .i64 s.2]⟩ :: L := fun a x y z L s => by unfold pM; rw [set_app, hb]; rfl
 have d1 : rdV b 1 (0, 0) = numV b 0 1 := by unfold rdV; rw [if_pos rfl, if_pos (by rw [hb]; decide)]
 have d4 : rdV b 4 (65, 0) = numV b 65 4 := by unfold rdV; rw [if_pos rfl, if_pos (by rw [hb]; decide)]
 have d5 : rdV b 4 (69, 0) = numV b 69 4 := by unfold rdV; rw [if_pos rfl, if_pos (by rw [hb]; decide)]
 have r1 : rdS 128 1 (0, 0) = (1, 0) := rfl
 have r4 : rdS 128 4 (65, 0) = (69, 0) := rfl
 have r5 : rdS 128 4 (69, 0) = (73, 0) := rfl
 have hs := decS_wf hb
 have fl := slC_len hs
 have ft := slC_take hs
 have f0 := slC_0 (decS b)
 have fv := slC_vals (decS b)
 have s3 : ∀ x, (slC ⟨numV b 0 1, pieceL b 1 32, pieceL b 33 32, 0, 0⟩).set 65 (.int .i64 x) = slC ⟨numV b 0 1, pieceL b 1 32, pieceL b 33 32, x, 0⟩ := fun x => slC_set3 (wfs _ _ _ _ _ hp1 hp2) x
 have s4 : ∀ x y, (slC ⟨numV b 0 1, pieceL b 1 32, pieceL b 33 32, x, 0⟩).set 66 (.int .i64 y) = slC ⟨numV b 0 1, pieceL b 1 32, pieceL b 33 32, x, y⟩ := fun x y => slC_set4 (wfs _ _ _ _ _ hp1 hp2) y
 have sl : ∀ x y, (slC ⟨numV b 0 1, pieceL b 1 32, pieceL b 33 32, x, y⟩).length = 67 := fun x y => slC_len (wfs _ _ _ _ _ hp1 hp2)
 have sf : slC ⟨numV b 0 1, pieceL b 1 32, pieceL b 33 32, numV b 65 4, numV b 69 4⟩ = slC (decS b) := rfl
 have lE : (encB (decS b)).length = 128 := encB_len hs
 have hE := eqpn lE hb
 have k1 := u8l_len (pieceL b 1 32)
 have k2 := u8l_len (pieceL b 33 32)
 rw [hp1] at k1
 rw [hp2] at k2
 have v1 := u8l_vals (pieceL b 1 32)
 have v2 := u8l_vals (pieceL b 33 32)
 have sv := slC_vals
 have zd := zb0 fl
 have hE2 := eqpn hb hb
 rw [decide_eq_true rfl] at hE2
 have b1 := fun k => zb1 k hp1
 have b2 := fun k => zb2 k hp1 hp2
 have b3 := fun k => zb1l k _ k1
 have zl : ∀ x y, setL [CV.int .i64 0, CV.int .u8 0, CV.int .u8 0, CV.int .u8 0, CV.int .u8 0, CV.int .u8 0, CV.int .u8 0, CV.int .u8 0, CV.int .u8 0, CV.int .u8 0, CV.int .u8 0, CV.int .u8 0, CV.int .u8 0, CV.int .u8 0, CV.int .u8 0, CV.int .u8 0, CV.int .u8 0, CV.int .u8 0, CV.int .u8 0, CV.int .u8 0, CV.int .u8 0, CV.int .u8 0, CV.int .u8 0, CV.int .u8 0, CV.int .u8 0, CV.int .u8 0, CV.int .u8 0, CV.int .u8 0, CV.int .u8 0, CV.int .u8 0, CV.int .u8 0, CV.int .u8 0, CV.int .u8 0, CV.int .u8 0, CV.int .u8 0, CV.int .u8 0, CV.int .u8 0, CV.int .u8 0, CV.int .u8 0, CV.int .u8 0, CV.int .u8 0, CV.int .u8 0, CV.int .u8 0, CV.int .u8 0, CV.int .u8 0, CV.int .u8 0, CV.int .u8 0, CV.int .u8 0, CV.int .u8 0, CV.int .u8 0, CV.int .u8 0, CV.int .u8 0, CV.int .u8 0, CV.int .u8 0, CV.int .u8 0, CV.int .u8 0, CV.int .u8 0, CV.int .u8 0, CV.int .u8 0, CV.int .u8 0, CV.int .u8 0, CV.int .u8 0, CV.int .u8 0, CV.int .u8 0, CV.int .u8 0, CV.int .i64 0, CV.int .i64 0] 0 (slC ⟨numV b 0 1, pieceL b 1 32, pieceL b 33 32, x, y⟩) = slC ⟨numV b 0 1, pieceL b 1 32, pieceL b 33 32, x, y⟩ := fun x y => zb0 (sl x y)
 refine AW.sr 5 fun K hK => ?_
 have pk_3 : _ ∧ _ ∧ _ ∧ _ ∧ _ ∧ _ ∧ _ ∧ _ ∧ _ ∧ _ ∧ _ ∧ _ ∧ _ ∧ _ ∧ _ ∧ _ ∧ _ ∧ _ ∧ _ ∧ _ ∧ _ ∧ _ ∧ _ ∧ _ ∧ _ ∧ _ ∧ _ ∧ _ ∧ _ ∧ _ ∧ _ ∧ _ ∧ _ ∧ _ ∧ _ := ⟨hb2, hb, tb, vb, hp1, hp2, hQ2, d1, d4, d5, r1, r4, r5, fl, ft, f0, fv, s3, s4, sl, sf, hE, hE2, k1, k2, v1, v2, sv, b1, b2, b3, zl, zd, h, h1⟩
 simp only [push_cast, simprocAttr, slC_fold, u8l_len, pk_3]
 refine CThen.by (rread_n (m.length) 0 128 b _ hb ⟨.fix, 78, 0, by rw [lk_app0]; rfl⟩ (by omega)) ?_
 simp only [push_cast, simprocAttr, slC_fold, u8l_len, pk_3]
 refine CThen.by (rbyte_c (m.length + 3) (m.length + 2) 1 b (0, 0) _ (hR _ _ _ (0, 0) (by decide))) ?_
 simp only [push_cast, simprocAttr, slC_fold, u8l_len, pk_3]
 refine CThen.by (rsum_k (m.length + 3) (m.length + 2) 1 b 1 (by omega) _ (hR _ _ _ (1, 0) (by decide))) ?_
 simp only [push_cast, simprocAttr, slC_fold, u8l_len, pk_3]
 refine CThen.by (rsum_k (m.length + 3) (m.length + 2) 1 b 33 (by omega) _ (hR _ _ _ (33, 0) (by decide))) ?_
 simp only [push_cast, simprocAttr, slC_fold, u8l_len, pk_3]
 refine CThen.by (rword_c (m.length + 3) (m.length + 2) 1 b (65, 0) _ (hR _ _ _ (65, 0) (by decide))) ?_
 simp only [push_cast, simprocAttr, slC_fold, u8l_len, pk_3]
 refine CThen.by (rword_c (m.length + 3) (m.length + 2) 1 b (69, 0) _ (hR _ _ _ (69, 0) (by decide))) ?_
 simp only [push_cast, simprocAttr, slC_fold, u8l_len, pk_3]
 apply hK;clear hK K
 refine AW.seq_k fun K hK => ?_
 refine AW.draw [.rd 0, .rd 0, .ext, .rd 0, .val, .val, .val, .rd 1, .val, .val, .val, .rw 1, .val, .val, .val, .wr, .val] fol (by decide) (by kernel_rfl) ?_
 simp only [push_cast, simprocAttr, slC_fold, u8l_len, pk_3]
 refine DCall.by0 (enc_c (decS b) _ hs) ?_
 simp only [push_cast, simprocAttr, slC_fold, u8l_len, pk_3]
 try refine AOpsD_end (by simp only [watchS, allAt, push_cast, simprocAttr, slC_fold, u8l_len, pk_3]) ?_
 apply hK;clear hK K
 refine AW.ret ?_
 refine hQ _ _ _ ?_
 first | refine RetP.drop0 (Or.inr rfl) ?_ ?_ hwf | refine RetP.drop (Or.inr rfl) ?_ ?_ hwf | refine RetP.drop0 (Or.inl rfl) ?_ ?_ hwf | refine RetP.drop (Or.inl rfl) ?_ ?_ hwf
 · simp only [resA, resOne, resTv, AV.tv, push_cast, simprocAttr, fl, ft, zd]
 · simp only [AV.below, List.all_cons, slC_below, CV.below, List.all_nil, Bool.and_self]
theorem dec_x (b : List Int) (m : AMem) (hb : b.length = 128) (hu : ∀ i, 0 ≤ byB b i ∧ byB b i ≤ 255) (h : encB (decS b) = b) (h1 : ¬ (decS b).kind = 1) (h2 : ¬ (decS b).kind = 2) : Ctr Try.prog 27 [.agg (u8l b)] m (.tup [(true, slC (decS b)), (false, [.bool false])]) m := by
 refine Ctr.enter Try.func27 rfl (by decide) (rs := [.cell 2 82, .tmp 3]) (nt := 36) rfl rfl fun hwf Q hQ => ?_
 have hb2 := u8l_len b
 rw [hb] at hb2
 have tb : (u8l b).take 128 = u8l b := List.take_of_length_le (by omega)
 have vb := u8l_vals b
 have hp1 : (pieceL b 1 32).length = 32 := by simp [pieceL, hb]
 have hp2 : (pieceL b 33 32).length = 32 := by simp [pieceL, hb]
 have hP : ∀ (a x y : Blk) (L : AMem) (s : Nat × Int), pM (m ++ a :: x :: y :: L) (m.length + 3) (m.length + 2) 1 b s = pM (m ++ a :: x :: y :: L) (m.length + 3) (m.length + 2) 1 b s := fun _ _ _ _ _ => rfl
 have hR : ∀ (a x : Blk) (L : AMem) (s : Nat × Int), s.1 ≤ 128 → RP (m ++ a :: x :: ⟨.grow, 5, 1, 1, u8l b⟩ :: ⟨.fix, 121, 0, 0, [cP (m.length + 2) 1 128 s, .int .i64 s.2]⟩ :: L) (m.length + 3) (m.length + 2) 1 b s := fun a x L s hs => ⟨by rw [lk_app, hb]; rfl, ⟨.grow, 1, by rw [lk_app]; rfl⟩, by omega, by rw [hb]; exact hs, hu, by rw [hb]; decide⟩
 have hQ2 : ∀ (a x y z : Blk) (L : AMem) (s : Nat × Int), pM (m ++ a :: x :: y :: z :: L) (m.length + 3) (m.length + 2) 1 b s = m ++ a :: x :: y :: ⟨.fix, 121, 0, 0, [cP (m.length + 2) 1 128 s, .int .i64 s.2]⟩ :: L := fun a x y z L s => by unfold pM; rw [set_app, hb]; rfl
 have d1 : rdV b 1 (0, 0) = numV b 0 1 := by unfold rdV; rw [if_pos rfl, if_pos (by rw [hb]; decide)]
 have d4 : rdV b 4 (65, 0) = numV b 65 4 := by unfold rdV; rw [if_pos rfl, if_pos (by rw [hb]; decide)]
 have d5 : rdV b 4 (69, 0) = numV b 69 4 := by unfold rdV; rw [if_pos rfl, if_pos (by rw [hb]; decide)]
 have r1 : rdS 128 1 (0, 0) = (1, 0) := rfl
 have r4 : rdS 128 4 (65, 0) = (69, 0) := rfl
 have r5 : rdS 128 4 (69, 0) = (73, 0) := rfl
 have hs := decS_wf hb
 have fl := slC_len hs
 have ft := slC_take hs
 have f0 := slC_0 (decS b)
 have fv := slC_vals (decS b)
 have s3 : ∀ x, (slC ⟨numV b 0 1, pieceL b 1 32, pieceL b 33 32, 0, 0⟩).set 65 (.int .i64 x) = slC ⟨numV b 0 1, pieceL b 1 32, pieceL b 33 32, x, 0⟩ := fun x => slC_set3 (wfs _ _ _ _ _ hp1 hp2) x
 have s4 : ∀ x y, (slC ⟨numV b 0 1, pieceL b 1 32, pieceL b 33 32, x, 0⟩).set 66 (.int .i64 y) = slC ⟨numV b 0 1, pieceL b 1 32, pieceL b 33 32, x, y⟩ := fun x y => slC_set4 (wfs _ _ _ _ _ hp1 hp2) y
 have sl : ∀ x y, (slC ⟨numV b 0 1, pieceL b 1 32, pieceL b 33 32, x, y⟩).length = 67 := fun x y => slC_len (wfs _ _ _ _ _ hp1 hp2)
 have sf : slC ⟨numV b 0 1, pieceL b 1 32, pieceL b 33 32, numV b 65 4, numV b 69 4⟩ = slC (decS b) := rfl
 have lE : (encB (decS b)).length = 128 := encB_len hs
 have hE := eqpn lE hb
 have k1 := u8l_len (pieceL b 1 32)
 have k2 := u8l_len (pieceL b 33 32)
 rw [hp1] at k1
 rw [hp2] at k2
 have v1 := u8l_vals (pieceL b 1 32)
 have v2 := u8l_vals (pieceL b 33 32)
 have sv := slC_vals
 have zd := zb0 fl
 have hE2 := eqpn hb hb
 rw [decide_eq_true rfl] at hE2
 have b1 := fun k => zb1 k hp1
 have b2 := fun k => zb2 k hp1 hp2
 have b3 := fun k => zb1l k _ k1
 have zl : ∀ x y, setL [CV.int .i64 0, CV.int .u8 0, CV.int .u8 0, CV.int .u8 0, CV.int .u8 0, CV.int .u8 0, CV.int .u8 0, CV.int .u8 0, CV.int .u8 0, CV.int .u8 0, CV.int .u8 0, CV.int .u8 0, CV.int .u8 0, CV.int .u8 0, CV.int .u8 0, CV.int .u8 0, CV.int .u8 0, CV.int .u8 0, CV.int .u8 0, CV.int .u8 0, CV.int .u8 0, CV.int .u8 0, CV.int .u8 0, CV.int .u8 0, CV.int .u8 0, CV.int .u8 0, CV.int .u8 0, CV.int .u8 0, CV.int .u8 0, CV.int .u8 0, CV.int .u8 0, CV.int .u8 0, CV.int .u8 0, CV.int .u8 0, CV.int .u8 0, CV.int .u8 0, CV.int .u8 0, CV.int .u8 0, CV.int .u8 0, CV.int .u8 0, CV.int .u8 0, CV.int .u8 0, CV.int .u8 0, CV.int .u8 0, CV.int .u8 0, CV.int .u8 0, CV.int .u8 0, CV.int .u8 0, CV.int .u8 0, CV.int .u8 0, CV.int .u8 0, CV.int .u8 0, CV.int .u8 0, CV.int .u8 0, CV.int .u8 0, CV.int .u8 0, CV.int .u8 0, CV.int .u8 0, CV.int .u8 0, CV.int .u8 0, CV.int .u8 0, CV.int .u8 0, CV.int .u8 0, CV.int .u8 0, CV.int .u8 0, CV.int .i64 0, CV.int .i64 0] 0 (slC ⟨numV b 0 1, pieceL b 1 32, pieceL b 33 32, x, y⟩) = slC ⟨numV b 0 1, pieceL b 1 32, pieceL b 33 32, x, y⟩ := fun x y => zb0 (sl x y)
 have q1 : ((decS b).kind == 1) = false := by simpa using h1
 have q2 : ((decS b).kind == 2) = false := by simpa using h2
 refine AW.sr 5 fun K hK => ?_
 have pk_4 : _ ∧ _ ∧ _ ∧ _ ∧ _ ∧ _ ∧ _ ∧ _ ∧ _ ∧ _ ∧ _ ∧ _ ∧ _ ∧ _ ∧ _ ∧ _ ∧ _ ∧ _ ∧ _ ∧ _ ∧ _ ∧ _ ∧ _ ∧ _ ∧ _ ∧ _ ∧ _ ∧ _ ∧ _ ∧ _ ∧ _ ∧ _ ∧ _ ∧ _ ∧ _ ∧ _ ∧ _ ∧ _ := ⟨hb2, hb, tb, vb, hp1, hp2, hQ2, d1, d4, d5, r1, r4, r5, fl, ft, f0, fv, s3, s4, sl, sf, hE, hE2, k1, k2, v1, v2, sv, b1, b2, b3, zl, zd, h, h1, h2, q1, q2⟩
 simp only [push_cast, simprocAttr, slC_fold, u8l_len, pk_4]
 refine CThen.by (rread_n (m.length) 0 128 b _ hb ⟨.fix, 78, 0, by rw [lk_app0]; rfl⟩ (by omega)) ?_
 simp only [push_cast, simprocAttr, slC_fold, u8l_len, pk_4]
 refine CThen.by (rbyte_c (m.length + 3) (m.length + 2) 1 b (0, 0) _ (hR _ _ _ (0, 0) (by decide))) ?_
 simp only [push_cast, simprocAttr, slC_fold, u8l_len, pk_4]
 refine CThen.by (rsum_k (m.length + 3) (m.length + 2) 1 b 1 (by omega) _ (hR _ _ _ (1, 0) (by decide))) ?_
 simp only [push_cast, simprocAttr, slC_fold, u8l_len, pk_4]
 refine CThen.by (rsum_k (m.length + 3) (m.length + 2) 1 b 33 (by omega) _ (hR _ _ _ (33, 0) (by decide))) ?_
 simp only [push_cast, simprocAttr, slC_fold, u8l_len, pk_4]
 refine CThen.by (rword_c (m.length + 3) (m.length + 2) 1 b (65, 0) _ (hR _ _ _ (65, 0) (by decide))) ?_
 simp only [push_cast, simprocAttr, slC_fold, u8l_len, pk_4]
 refine CThen.by (rword_c (m.length + 3) (m.length + 2) 1 b (69, 0) _ (hR _ _ _ (69, 0) (by decide))) ?_
 simp only [push_cast, simprocAttr, slC_fold, u8l_len, pk_4]
 apply hK;clear hK K
 refine AW.seq_k fun K hK => ?_
 refine AW.draw [.rd 0, .rd 0, .ext, .rd 0, .val, .val, .val, .rd 1, .val, .val, .val, .rw 1, .val, .val, .val, .wr, .val] fol (by decide) (by kernel_rfl) ?_
 simp only [push_cast, simprocAttr, slC_fold, u8l_len, pk_4]
 refine DCall.by0 (enc_c (decS b) _ hs) ?_
 simp only [push_cast, simprocAttr, slC_fold, u8l_len, pk_4]
 try refine AOpsD_end (by simp only [watchS, allAt, push_cast, simprocAttr, slC_fold, u8l_len, pk_4]) ?_
 apply hK;clear hK K
 refine AW.ret ?_
 refine hQ _ _ _ ?_
 first | refine RetP.drop0 (Or.inr rfl) ?_ ?_ hwf | refine RetP.drop (Or.inr rfl) ?_ ?_ hwf | refine RetP.drop0 (Or.inl rfl) ?_ ?_ hwf | refine RetP.drop (Or.inl rfl) ?_ ?_ hwf
 · simp only [resA, resOne, resTv, AV.tv, push_cast, simprocAttr, fl, ft, zd]
 · simp only [AV.below, List.all_cons, slC_below, CV.below, List.all_nil, Bool.and_self]
theorem dec_c (b : List Int) (m : AMem) (hb : b.length = 128) (hu : ∀ i, 0 ≤ byB b i ∧ byB b i ≤ 255) : Ctr Try.prog 27 [.agg (u8l b)] m (.tup [(true, slC (decS b)), (false, [.bool (decO b)])]) m := by
 unfold decO
 by_cases h : encB (decS b) = b
 ·by_cases h1 : (decS b).kind = 1
  ·rw [decide_eq_true h, decide_eq_true h1]; exact dec_1 b m hb hu h h1
  ·by_cases h2 : (decS b).kind = 2
   ·rw [decide_eq_true h, decide_eq_true h2, Bool.or_true]; exact dec_2 b m hb hu h h2
   ·rw [decide_eq_true h, decide_eq_false h1, decide_eq_false h2]; exact dec_x b m hb hu h h1 h2
 ·rw [decide_eq_false h]; exact dec_no b m hb hu h
structure OkS (s : SL) : Prop where
 w : WfS s
 f0 : 0 ≤ s.fr
 f1 : s.fr ≤ 4294967295
 s0 : 0 ≤ s.size
 s1 : s.size ≤ 4294967295
def cC (n : Nat) (f : Nat → SL) : List CV := catC n fun i => slC (f i)
def rS (v n : Nat) (f : Nat → SL) : Blk := ⟨.grow, 82, v, 67, cC n f⟩
section
variable {f : Nat → SL} {n k : Nat}
theorem cC_len (h : ∀ i, OkS (f i)) (n : Nat) : (cC n f).length = n * 67 := catC_len (fun i => slC_len (h i).w) n
theorem cC_at (h : ∀ i, OkS (f i)) (hk : k < n) : ((cC n f).drop (k * 67)).take 67 = slC (f k) := catC_at (fun i => slC_len (h i).w) hk
def upF (f : Nat → SL) (k : Nat) (s : SL) : Nat → SL := fun i => if i = k then s else f i
theorem cC_set (h : ∀ i, OkS (f i)) (hk : k < n) {s : SL} (hs : OkS s) : setL (cC n f) (k * 67) (slC s) = cC n (upF f k s) := by
 unfold cC
 rw [catC_set (fun i => slC_len (h i).w) hk (slC_len hs.w)]
 refine catC_congr fun i _ => ?_
 unfold upF; split <;> rfl
theorem upF_ok (h : ∀ i, OkS (f i)) {s : SL} (hs : OkS s) (k : Nat) : ∀ i, OkS (upF f k s i) := fun i => by
 unfold upF; split
 ·exact hs
 ·exact h i
theorem swF_ok (h : ∀ i, OkS (f i)) (a b : Nat) : ∀ i, OkS (swF f a b i) := fun i => by
 unfold swF; repeat' split
 all_goals exact h _
theorem swR_ok (h : ∀ i, OkS (f i)) (a b c : Nat) : ∀ i, OkS (swR f a b c i) := fun i => by
 unfold swR; repeat' split
 all_goals exact h _
theorem rotL_ok (h : ∀ i, OkS (f i)) (a b : Nat) : ∀ i, OkS (rotL f a b i) := fun i => by
 unfold rotL; repeat' split
 all_goals exact h _
theorem rotR_ok (h : ∀ i, OkS (f i)) (a b : Nat) : ∀ i, OkS (Eng.rotR f a b i) := fun i => by
 unfold Eng.rotR; repeat' split
 all_goals exact h _
theorem rot_ok (h : ∀ i, OkS (f i)) (a b c : Nat) : ∀ i, OkS (rot f a b c i) := fun i => by
 unfold rot; repeat' split
 all_goals exact h _
theorem perm_ok {g : Nat → SL} {a b : Nat} (h : ∀ i, OkS (f i)) (hp : PermOn a b f g) : ∀ i, OkS (g i) := fun i => by
 obtain ⟨s, t, _, _, _, h4⟩ := hp
 rw [h4]; exact h _
theorem two_up' (f : Nat → SL) (i j : Nat) : upF (upF f i (f j)) j (f i) = swF f i j := funext fun x => by
 unfold upF swF
 repeat' split
 all_goals first | rfl | (subst_vars; rfl)
theorem cC_below (L n : Nat) (f : Nat → SL) : (cC n f).all (CV.below L) = true := catC_all _ (fun i => slC_below L (f i)) n
theorem rS_wf {L : Nat} {m : AMem} {rs v : Nat} (h : MWf L m) (g : Nat → SL) : MWf L (m.set rs (rS v n g)) := MWf_setB h (cC_below L n g) rfl
end
theorem cmp_c (s t : SL) (m : AMem) (hs : OkS s) (ht : OkS t) : Ctr Try.prog 63 [.agg (slC s), .agg (slC t)] m (.one (.int .i64 (s.fr - t.fr))) m := by
 refine Ctr.enter Try.func63 rfl (by decide) (rs := [.tmp 4]) (nt := 10) rfl rfl fun hwf Q hQ => ?_
 have a0 := hs.f0
 have a1 := hs.f1
 have b0 := ht.f0
 have b1 := ht.f1
 have w : IntKind.i64.wrap (s.fr - t.fr) = s.fr - t.fr := wi (by omega)
 have s4 := slC_4 hs.w
 have t4 := slC_4 ht.w
 have sl := slC_len hs.w
 have tl := slC_len ht.w
 refine AW.sr 2 fun K hK => ?_
 have pk_1 : _ ∧ _ ∧ _ ∧ _ ∧ _ := ⟨w, s4, t4, sl, tl⟩
 simp only [push_cast, simprocAttr, pk_1]
 apply hK;clear hK K
 refine AW.ret ?_
 refine hQ _ _ _ ?_
 first | refine RetP.drop0 (Or.inr rfl) ?_ ?_ hwf | refine RetP.drop (Or.inr rfl) ?_ ?_ hwf
 · simp only [resA, resOne, resTv, AV.tv, push_cast, simprocAttr, pk_1]
 · rfl
theorem swr_c (rs v n : Nat) (f : Nat → SL) (m : AMem) (hr : m[rs]? = some (rS v n f)) (hf : ∀ i, OkS (f i)) (hn : n ≤ 1048576) (a b k : Nat) (h1 : a + k ≤ b) (h2 : b + k ≤ n) : Ctr Try.prog 97 [.one (.sl rs v 0 n), .one (.int .i64 (a : Int)), .one (.int .i64 (b : Int)), .one (.int .i64 (k : Int)), .one (.fn 63 [])] m (.tup []) (m.set rs (rS v n (swR f a b k))) := by
 refine Ctr.enter Try.func97 rfl (by decide) (rs := []) (nt := 38) rfl rfl fun hwf Q hQ => ?_
 have lr := get_lt hr
 have gS := fun (l : AMem) (b : Blk) (e : l.length = m.length) => mk_self (m := m) (l := l) (r := rs) e lr b
 have sS := fun (l L : AMem) (e : l.length = m.length) => mk_olds (m := m) (l := l) (r := rs) e lr L
 have kS := fun (l L : AMem) (e : l.length = m.length) => mk_old (m := m) (l := l) (r := rs) e lr L
 have hr2 : m.set rs (rS v n f) = m := set_self hr
 have hwfM := fun g => rS_wf (m := m) (rs := rs) (v := v) (n := n) hwf g
 have hst0 : m.set rs (rS v n (swR f a b 0)) = m := by rw [swR_zero]; exact hr2
 have hok := fun i => swR_ok hf a b i
 refine AW.sr 1 fun K hK => ?_
 simp only [push_cast, simprocAttr, gS, sS, kS, rS, List.set_set, List.length_set, slC_vals]
 apply hK;clear hK K
 refine AW.block ?_
 refine AW.loopK [0, 1, 2, 3] (fun i => i ≤ k) (fun i => [(10, .one (.int .i64 (i : Int)))]) (fun i => [(rs, rS v n (swR f a b i))]) (fun i => k - i) 0 (by omega) ?_ ?_ fun i hi1 => ?_
 · first | rfl | (simp only [KS, simprocAttr] <;> repeat' (first | rfl | apply And.intro))
 · exact hst0
 try simp only [keepL, setAll, push_cast, simprocAttr, gS, sS, kS, rS, List.set_set, List.length_set, slC_vals]
 refine AW.seq_k fun K hK => ?_
 refine AW.sr 1 fun K hK => ?_
 simp only [push_cast, simprocAttr, gS, sS, kS, rS, List.set_set, List.length_set, slC_vals]
 apply hK;clear hK K
 refine AW.cond rfl (fun h13 => ?_) (fun h13 => ?_)
 ·have hlt : i < k := by have := of_decide_eq_true h13; omega
  have ok := hok i
  obtain ⟨x, hx⟩ : ∃ z : Nat, z = a + i := ⟨_, rfl⟩
  have wx : IntKind.i64.wrap ((a : Int) + (i : Int)) = (x : Int) := by rw [wi (by omega)]; omega
  obtain ⟨y, hy⟩ : ∃ z : Nat, z = b + i := ⟨_, rfl⟩
  have wy : IntKind.i64.wrap ((b : Int) + (i : Int)) = (y : Int) := by rw [wi (by omega)]; omega
  have lxx := cC_at (n := n) (k := x) (f := swR f a b i) ok (by omega)
  have llx := slC_len (ok x).w
  have c0x : (0 : Int) ≤ (x : Int) := by omega
  have c1x : (x : Int) < (n : Int) := by omega
  have c2x : x * 67 + 67 ≤ n * 67 := by omega
  have lxy := cC_at (n := n) (k := y) (f := swR f a b i) ok (by omega)
  have lly := slC_len (ok y).w
  have c0y : (0 : Int) ≤ (y : Int) := by omega
  have c1y : (y : Int) < (n : Int) := by omega
  have c2y : y * 67 + 67 ≤ n * 67 := by omega
  have gl : (cC n (swR f a b i)).length = n * 67 := cC_len ok n
  have st1 := cC_set (n := n) (k := x) (f := swR f a b i) ok (by omega) (ok y)
  have gl1 : (cC n (upF (swR f a b i) x ((swR f a b i) y))).length = n * 67 := cC_len (upF_ok ok (ok y) x) n
  have st2 := cC_set (n := n) (k := y) (f := upF (swR f a b i) x ((swR f a b i) y)) (upF_ok ok (ok y) x) (by omega) (ok x)
  refine AW.skip ?_
  apply hK;clear hK K
  refine AW.seq_k fun K hK => ?_
  refine AW.block ?_
  refine AW.draw [.val, .val, .val, .val, .val, .val, .val, .val, .val, .val, .val, .val, .val, .rd 0, .val, .val, .val, .val, .val, .rd 0, .val, .wr, .val, .wr] fol (by decide) (by kernel_rfl) ?_
  have pk_2 : _ ∧ _ ∧ _ ∧ _ ∧ _ ∧ _ ∧ _ ∧ _ ∧ _ ∧ _ ∧ _ ∧ _ ∧ _ ∧ _ ∧ _ ∧ _ ∧ _ ∧ _ ∧ _ := ⟨gS, sS, kS, wx, wy, lxx, llx, c0x, c1x, c2x, lxy, lly, c0y, c1y, c2y, gl, st1, gl1, st2⟩
  simp only [push_cast, simprocAttr, rS, List.set_set, List.length_set, slC_vals, pk_2]
  refine InB_n ?_
  apply hK;clear hK K
  refine AW.rg ?_
  simp only [push_cast, simprocAttr, rS, List.set_set, List.length_set, slC_vals, pk_2]
  refine Thn_n ?_
  have hwi : IntKind.i64.wrap ((i:Int)+1) = (i:Int)+1 := wi (by omega)
  have hnx : upF (upF (swR f a b i) x ((swR f a b i) y)) y ((swR f a b i) x) = swR f a b (i + 1) := by rw [two_up' _ x y, hx, hy]; exact swR_step f h1 hlt
  refine ⟨i + 1, by omega, by omega, ?_⟩
  try simp only [keepL, setAll, push_cast, simprocAttr, rS, List.set_set, List.length_set, slC_vals, pk_2, hwi, hnx]
  exact Weak.same (by simp only [KS, simprocAttr, hwi, hnx]) (by first | rfl | simp only [KS, simprocAttr, hwi, hnx])
 ·have hin : i = k := by have := of_decide_eq_false h13; omega
  subst hin
  refine AW.exit ?_
  refine Thn_e ?_
  clear hK K
  refine Thn_e ?_
  refine InB_here ?_
  refine hQ _ _ _ ?_
  first | refine RetP.dropM0 (by rw [List.length_set]) (by first | exact Or.inr rfl | exact Or.inl rfl) ?_ ?_ (hwfM _) | refine RetP.dropM (by rw [List.length_set]) (by first | exact Or.inr rfl | exact Or.inl rfl) ?_ ?_ (hwfM _)
  · rfl
  · rfl
theorem srot_c (rs v n : Nat) (f : Nat → SL) (m : AMem) (hr : m[rs]? = some (rS v n f)) (hf : ∀ i, OkS (f i)) (hn : n ≤ 1048576) (A M B : Nat) (h1 : A < M) (h2 : M < B) (h3 : B ≤ n) : Ctr Try.prog 95 [.one (.sl rs v 0 n), .one (.int .i64 (A : Int)), .one (.int .i64 (M : Int)), .one (.int .i64 (B : Int)), .one (.fn 63 [])] m (.tup []) (m.set rs (rS v n (rot f A M B))) := by
 refine Ctr.enter Try.func95 rfl (by decide) (rs := []) (nt := 58) rfl rfl fun hwf Q hQ => ?_
 have lr := get_lt hr
 have gS := fun (l : AMem) (b : Blk) (e : l.length = m.length) => mk_self (m := m) (l := l) (r := rs) e lr b
 have sS := fun (l L : AMem) (e : l.length = m.length) => mk_olds (m := m) (l := l) (r := rs) e lr L
 have kS := fun (l L : AMem) (e : l.length = m.length) => mk_old (m := m) (l := l) (r := rs) e lr L
 have hr2 : m.set rs (rS v n f) = m := set_self hr
 have hwfM := fun g => rS_wf (m := m) (rs := rs) (v := v) (n := n) hwf g
 obtain ⟨x0, hx0⟩ : ∃ z : Nat, z = M - A := ⟨_, rfl⟩
 have wx0 : IntKind.i64.wrap ((M : Int) - (A : Int)) = (x0 : Int) := by rw [wi (by omega)]; omega
 obtain ⟨y0, hy0⟩ : ∃ z : Nat, z = B - M := ⟨_, rfl⟩
 have wy0 : IntKind.i64.wrap ((B : Int) - (M : Int)) = (y0 : Int) := by rw [wi (by omega)]; omega
 have T0 : rot f (M - x0) M (M + y0) = rot f A M B := by rw [show M - x0 = A by omega, show M + y0 = B by omega]
 refine AW.sr 2 fun K hK => ?_
 have pk_3 : _ ∧ _ ∧ _ ∧ _ ∧ _ := ⟨gS, sS, kS, wx0, wy0⟩
 simp only [push_cast, simprocAttr, rS, List.set_set, List.length_set, slC_vals, pk_3]
 apply hK;clear hK K
 refine AW.seq_k fun K hK => ?_
 refine AW.block ?_
 refine AW.loopK [0, 2, 4] (fun q => 1 ≤ q.1.1 ∧ 1 ≤ q.1.2 ∧ q.1.1 ≤ M ∧ M + q.1.2 ≤ n ∧ rot q.2 (M - q.1.1) M (M + q.1.2) = rot f A M B ∧ ∀ i, OkS (q.2 i)) (fun q => [(10, .one (.int .i64 (q.1.1 : Int))), (11, .one (.int .i64 (q.1.2 : Int)))]) (fun q => [(rs, rS v n q.2)]) (fun q => q.1.1 + q.1.2) ((x0, y0), f) ⟨by show 1 ≤ x0; omega, by show 1 ≤ y0; omega, by show x0 ≤ M; omega, by show M + y0 ≤ n; omega, T0, hf⟩ ?_ ?_ fun q hi2 => ?_
 · first | rfl | (simp only [KS, simprocAttr] <;> repeat' (first | rfl | apply And.intro))
 · exact hr2
 obtain ⟨⟨i, j⟩, g⟩ := q
 obtain ⟨i1, i2, i3, i4, i5, i6⟩ := hi2
 simp only at i1 i2 i3 i4 i5 i6
 have hrg : (m.set rs (rS v n g))[rs]? = some (rS v n g) := mk_self rfl lr _
 obtain ⟨x, hx⟩ : ∃ z : Nat, z = M - i := ⟨_, rfl⟩
 have wx : IntKind.i64.wrap ((M : Int) - (i : Int)) = (x : Int) := by rw [wi (by omega)]; omega
 try simp only [keepL, setAll, push_cast, simprocAttr, rS, List.set_set, List.length_set, slC_vals, pk_3]
 refine AW.seq_k fun K hK => ?_
 refine AW.sr 1 fun K hK => ?_
 simp only [push_cast, simprocAttr, rS, List.set_set, List.length_set, slC_vals, pk_3]
 apply hK;clear hK K
 refine AW.cond rfl (fun h20 => ?_) (fun h20 => ?_)
 ·refine AW.skip ?_
  apply hK;clear hK K
  refine AW.block ?_
  refine AW.sr 1 fun K hK => ?_
  simp only [push_cast, simprocAttr, rS, List.set_set, List.length_set, slC_vals, pk_3]
  apply hK;clear hK K
  refine AW.cond rfl (fun h23 => ?_) (fun h23 => ?_)
  ·have hlt : j < i := by have := of_decide_eq_true h23; omega
   obtain ⟨d, hd⟩ : ∃ z : Nat, z = i - j := ⟨_, rfl⟩
   have wd : IntKind.i64.wrap ((i : Int) - (j : Int)) = (d : Int) := by rw [wi (by omega)]; omega
   obtain ⟨nx, hnx, hnI, hnmu⟩ : ∃ nx : (Nat × Nat) × (Nat → SL), nx = ((d, j), swR g (M - i) M j) ∧ (1 ≤ nx.1.1 ∧ 1 ≤ nx.1.2 ∧ nx.1.1 ≤ M ∧ M + nx.1.2 ≤ n ∧ rot nx.2 (M - nx.1.1) M (M + nx.1.2) = rot f A M B ∧ ∀ i, OkS (nx.2 i)) ∧ nx.1.1 + nx.1.2 < i + j := ⟨_, rfl, ⟨by show 1 ≤ d; omega, i2, by show d ≤ M; omega, i4, by show rot (swR g (M - i) M j) (M - d) M (M + j) = _; rw [hd, rot_more g i3 hlt]; exact i5, swR_ok i6 _ _ _⟩, by show d + j < i + j; omega⟩
   refine AW.sr 1 fun K hK => ?_
   simp only [push_cast, simprocAttr, rS, List.set_set, List.length_set, slC_vals, pk_3, wx, wd]
   refine CThen.by ((by rw [hx]; exact swr_c rs v n g _ hrg i6 hn (M - i) M j (by omega) (by omega))) ?_
   simp only [push_cast, simprocAttr, rS, List.set_set, List.length_set, slC_vals, pk_3, wx, wd]
   apply hK;clear hK K
   refine AW.rg ?_
   simp only [push_cast, simprocAttr, rS, List.set_set, List.length_set, slC_vals, pk_3, wx, wd]
   refine InB_n ?_
   refine Thn_n ?_
   refine ⟨nx, hnI, hnmu, ?_⟩
   try simp only [keepL, setAll, push_cast, simprocAttr, rS, List.set_set, List.length_set, slC_vals, pk_3, wx, wd, hnx]
   exact Weak.same (by simp only [KS, simprocAttr, hnx]) (by first | rfl | simp only [KS, simprocAttr, hnx])
  ·have hlt : i < j := by have := of_decide_eq_false h23; have := bne_iff_ne.1 h20; omega
   obtain ⟨y, hy⟩ : ∃ z : Nat, z = M + j := ⟨_, rfl⟩
   have wy : IntKind.i64.wrap ((M : Int) + (j : Int)) = (y : Int) := by rw [wi (by omega)]; omega
   obtain ⟨z, hz⟩ : ∃ z : Nat, z = y - i := ⟨_, rfl⟩
   have wz : IntKind.i64.wrap ((y : Int) - (i : Int)) = (z : Int) := by rw [wi (by omega)]; omega
   obtain ⟨d, hd⟩ : ∃ z : Nat, z = j - i := ⟨_, rfl⟩
   have wd : IntKind.i64.wrap ((j : Int) - (i : Int)) = (d : Int) := by rw [wi (by omega)]; omega
   obtain ⟨nx, hnx, hnI, hnmu⟩ : ∃ nx : (Nat × Nat) × (Nat → SL), nx = ((i, d), swR g (M - i) (M + j - i) i) ∧ (1 ≤ nx.1.1 ∧ 1 ≤ nx.1.2 ∧ nx.1.1 ≤ M ∧ M + nx.1.2 ≤ n ∧ rot nx.2 (M - nx.1.1) M (M + nx.1.2) = rot f A M B ∧ ∀ i, OkS (nx.2 i)) ∧ nx.1.1 + nx.1.2 < i + j := ⟨_, rfl, ⟨i1, by show 1 ≤ d; omega, i3, by show M + d ≤ n; omega, by show rot (swR g (M - i) (M + j - i) i) (M - i) M (M + d) = _; rw [hd, rot_less g i3 hlt]; exact i5, swR_ok i6 _ _ _⟩, by show i + d < i + j; omega⟩
   refine AW.sr 1 fun K hK => ?_
   have pk_4 : _ ∧ _ ∧ _ ∧ _ ∧ _ := ⟨pk_3, wx, wy, wz, wd⟩
   simp only [push_cast, simprocAttr, rS, List.set_set, List.length_set, slC_vals, pk_4]
   refine CThen.by ((by rw [hz, hy, hx]; exact swr_c rs v n g _ hrg i6 hn (M - i) (M + j - i) i (by omega) (by omega))) ?_
   simp only [push_cast, simprocAttr, rS, List.set_set, List.length_set, slC_vals, pk_4]
   apply hK;clear hK K
   refine AW.rg ?_
   simp only [push_cast, simprocAttr, rS, List.set_set, List.length_set, slC_vals, pk_4]
   refine InB_n ?_
   refine Thn_n ?_
   refine ⟨nx, hnI, hnmu, ?_⟩
   try simp only [keepL, setAll, push_cast, simprocAttr, rS, List.set_set, List.length_set, slC_vals, pk_4, hnx]
   exact Weak.same (by simp only [KS, simprocAttr, hnx]) (by first | rfl | simp only [KS, simprocAttr, hnx])
 ·have heq : i = j := by have := h20; simp at this; omega
  subst heq
  refine AW.exit ?_
  refine Thn_e ?_
  clear hK K
  refine Thn_e ?_
  refine InB_here ?_
  apply hK;clear hK K
  refine AW.rg ?_
  simp only [push_cast, simprocAttr, rS, List.set_set, List.length_set, slC_vals, pk_3, wx]
  refine CThen.by ((by rw [hx]; exact swr_c rs v n g _ hrg i6 hn (M - i) M i (by omega) (by omega))) ?_
  simp only [push_cast, simprocAttr, rS, List.set_set, List.length_set, slC_vals, pk_3, wx]
  refine hQ _ _ _ ?_
  rw [rot_same g i3] at *
  rw [i5]
  first | refine RetP.dropM0 (by rw [List.length_set]) (by first | exact Or.inr rfl | exact Or.inl rfl) ?_ ?_ (hwfM _) | refine RetP.dropM (by rw [List.length_set]) (by first | exact Or.inr rfl | exact Or.inl rfl) ?_ ?_ (hwfM _)
  · rfl
  · rfl
theorem insS_ok {f : Nat → SL} (h : ∀ i, OkS (f i)) (a k : Nat) : ∀ i, OkS (insS SL.fr a k f i) := perm_ok h (insS_perm SL.fr a f k)
theorem sink_go {f : Nat → SL} {a y : Nat} (h1 : a < y + 1) (h2 : (f (y + 1)).fr < (f y).fr) : sink SL.fr a y (swF f (y + 1) y) = sink SL.fr a (y + 1) f := by
 show _ = (if a < y + 1 ∧ (f (y + 1)).fr < (f y).fr then _ else _)
 rw [if_pos ⟨h1, h2⟩]
theorem sink_end {f : Nat → SL} {a y : Nat} (h2 : ¬ (f (y + 1)).fr < (f y).fr) : sink SL.fr a (y + 1) f = f := by
 show (if a < y + 1 ∧ (f (y + 1)).fr < (f y).fr then _ else _) = _
 rw [if_neg fun h => h2 h.2]
theorem sink_stop {f : Nat → SL} {a : Nat} : ∀ {j : Nat}, j ≤ a → sink SL.fr a j f = f
 | 0, _ => rfl
 | j + 1, h => by
  show (if a < j + 1 ∧ (f (j + 1)).fr < (f j).fr then _ else _) = _
  rw [if_neg fun h2 => by omega]
theorem ins_c (rs v n : Nat) (f : Nat → SL) (m : AMem) (hr : m[rs]? = some (rS v n f)) (hf : ∀ i, OkS (f i)) (hn : n ≤ 1048576) (A B : Nat) (hB : B ≤ n) (hA : A ≤ n) : Ctr Try.prog 88 [.one (.sl rs v 0 n), .one (.int .i64 (A : Int)), .one (.int .i64 (B : Int)), .one (.fn 63 [])] m (.tup []) (m.set rs (rS v n (insS SL.fr A (B - A - 1) f))) := by
 refine Ctr.enter Try.func88 rfl (by decide) (rs := []) (nt := 53) rfl rfl fun hwf Q hQ => ?_
 have lr := get_lt hr
 have gS := fun (l : AMem) (b : Blk) (e : l.length = m.length) => mk_self (m := m) (l := l) (r := rs) e lr b
 have sS := fun (l L : AMem) (e : l.length = m.length) => mk_olds (m := m) (l := l) (r := rs) e lr L
 have kS := fun (l L : AMem) (e : l.length = m.length) => mk_old (m := m) (l := l) (r := rs) e lr L
 have hr2 : m.set rs (rS v n f) = m := set_self hr
 have hwfM := fun g => rS_wf (m := m) (rs := rs) (v := v) (n := n) hwf g
 obtain ⟨a1, ha1⟩ : ∃ z : Nat, z = A + 1 := ⟨_, rfl⟩
 have wa1 : IntKind.i64.wrap ((A : Int) + 1) = (a1 : Int) := by rw [wi (by omega)]; omega
 have hst0 : m.set rs (rS v n (insS SL.fr A (a1 - A - 1) f)) = m := by rw [show a1 - A - 1 = 0 by omega]; exact hr2
 refine AW.sr 1 fun K hK => ?_
 have pk_1 : _ ∧ _ ∧ _ ∧ _ := ⟨gS, sS, kS, wa1⟩
 simp only [push_cast, simprocAttr, rS, List.set_set, List.length_set, slC_vals, pk_1]
 apply hK;clear hK K
 refine AW.block ?_
 refine AW.loopK [0, 1, 2, 3] (fun i => A + 1 ≤ i ∧ (i ≤ B ∨ i = A + 1)) (fun i => [(8, .one (.int .i64 (i : Int)))]) (fun i => [(rs, rS v n (insS SL.fr A (i - A - 1) f))]) (fun i => B - i) a1 (by omega) ?_ ?_ fun i hi1 => ?_
 · first | rfl | (simp only [KS, simprocAttr, wa1] <;> repeat' (first | rfl | apply And.intro))
 · exact hst0
 try simp only [keepL, setAll, push_cast, simprocAttr, rS, List.set_set, List.length_set, slC_vals, pk_1]
 refine AW.seq_k fun K hK => ?_
 refine AW.sr 1 fun K hK => ?_
 simp only [push_cast, simprocAttr, rS, List.set_set, List.length_set, slC_vals, pk_1]
 apply hK;clear hK K
 refine AW.cond rfl (fun h14 => ?_) (fun h14 => ?_)
 ·have hlt : i < B := by have := of_decide_eq_true h14; omega
  refine AW.skip ?_
  apply hK;clear hK K
  refine AW.seq_k fun K hK => ?_
  refine AW.block ?_
  refine AW.sr 1 fun K hK => ?_
  simp only [push_cast, simprocAttr, rS, List.set_set, List.length_set, slC_vals, pk_1]
  apply hK;clear hK K
  refine AW.block ?_
  refine AW.loopK [0, 1, 2, 3, 8] (fun q => A ≤ q.1 ∧ q.1 ≤ i ∧ sink SL.fr A q.1 q.2 = insS SL.fr A (i - A) f ∧ ∀ x, OkS (q.2 x)) (fun q => [(9, .one (.int .i64 (q.1 : Int)))]) (fun q => [(rs, rS v n q.2)]) (fun q => q.1) (i, insS SL.fr A (i - A - 1) f) ⟨by show A ≤ i; omega, Nat.le_refl _, by show sink SL.fr A i _ = _; rw [show i - A = (i - A - 1) + 1 by omega, insS, show A + (i - A - 1) + 1 = i by omega]; rfl, insS_ok hf _ _⟩ ?_ ?_ fun q hi4 => ?_
  · first | rfl | (simp only [KS, simprocAttr] <;> repeat' (first | rfl | apply And.intro))
  · first | rfl | (simp only [setAll, push_cast, simprocAttr, rS, List.set_set, List.length_set, slC_vals, pk_1] <;> rfl)
  obtain ⟨j, g⟩ := q
  obtain ⟨i1, i2, i3, i4⟩ := hi4
  simp only at i1 i2 i3 i4
  try simp only [keepL, setAll, push_cast, simprocAttr, rS, List.set_set, List.length_set, slC_vals, pk_1]
  refine AW.seq_k fun K hK => ?_
  refine AW.seq_k fun K hK => ?_
  rcases Nat.lt_or_ge A j with hj | hj
  ·have cj : (A : Int) < (j : Int) := by omega
   obtain ⟨y, hy⟩ : ∃ z : Nat, z = j - 1 := ⟨_, rfl⟩
   have wy : IntKind.i64.wrap ((j : Int) - 1) = (y : Int) := by rw [wi (by omega)]; omega
   have lxx := cC_at (n := n) (k := j) (f := g) i4 (by omega)
   have llx := slC_len (i4 j).w
   have c0x : (0 : Int) ≤ (j : Int) := by omega
   have c1x : (j : Int) < (n : Int) := by omega
   have c2x : j * 67 + 67 ≤ n * 67 := by omega
   have lxy := cC_at (n := n) (k := y) (f := g) i4 (by omega)
   have lly := slC_len (i4 y).w
   have c0y : (0 : Int) ≤ (y : Int) := by omega
   have c1y : (y : Int) < (n : Int) := by omega
   have c2y : y * 67 + 67 ≤ n * 67 := by omega
   have gl : (cC n (g)).length = n * 67 := cC_len i4 n
   have st1 := cC_set (n := n) (k := j) (f := g) i4 (by omega) (i4 y)
   have gl1 : (cC n (upF (g) j ((g) y))).length = n * 67 := cC_len (upF_ok i4 (i4 y) j) n
   have st2 := cC_set (n := n) (k := y) (f := upF (g) j ((g) y)) (upF_ok i4 (i4 y) j) (by omega) (i4 j)
   refine AW.draw [.val, .val, .val, .val, .val, .val, .val, .val, .rd 0, .val, .val, .val, .val, .rd 0, .ext, .val, .val] fol (by decide) (by kernel_rfl) ?_
   have pk_2 : _ ∧ _ ∧ _ ∧ _ ∧ _ ∧ _ ∧ _ ∧ _ ∧ _ ∧ _ ∧ _ ∧ _ ∧ _ ∧ _ ∧ _ ∧ _ ∧ _ := ⟨pk_1, cj, wy, lxx, llx, c0x, c1x, c2x, lxy, lly, c0y, c1y, c2y, gl, st1, gl1, st2⟩
   simp only [push_cast, simprocAttr, rS, List.set_set, List.length_set, slC_vals, pk_2]
   refine DCall.by0 (cmp_c (g j) (g y) _ (i4 j) (i4 y)) ?_
   simp only [push_cast, simprocAttr, rS, List.set_set, List.length_set, slC_vals, pk_2]
   apply hK;clear hK K
   refine AW.cond rfl (fun h34 => ?_) (fun h34 => ?_)
   ·have hk : (g j).fr < (g y).fr := by have := of_decide_eq_true h34; omega
    have hjy : j = y + 1 := by omega
    have hsw : upF (upF g j (g y)) y (g j) = swF g j y := two_up' g j y
    obtain ⟨nx, hnx, hnI, hnmu⟩ : ∃ nx : Nat × (Nat → SL), nx = (y, swF g j y) ∧ (A ≤ nx.1 ∧ nx.1 ≤ i ∧ sink SL.fr A nx.1 nx.2 = insS SL.fr A (i - A) f ∧ ∀ x, OkS (nx.2 x)) ∧ nx.1 < j := ⟨_, rfl, ⟨by show A ≤ y; omega, by show y ≤ i; omega, by show sink SL.fr A y (swF g j y) = _; rw [hjy] at i3 hk ⊢; rw [sink_go (by omega) hk]; exact i3, swF_ok i4 _ _⟩, by show y < j; omega⟩
    refine AW.skip ?_
    apply hK;clear hK K
    refine AW.seq_k fun K hK => ?_
    refine AW.block ?_
    refine AW.draw [.val, .val, .val, .val, .val, .val, .val, .val, .val, .rd 0, .val, .val, .val, .rd 0, .val, .wr, .val, .wr] fol (by decide) (by kernel_rfl) ?_
    simp only [push_cast, simprocAttr, rS, List.set_set, List.length_set, slC_vals, pk_2, hsw]
    refine InB_n ?_
    apply hK;clear hK K
    refine AW.rg ?_
    simp only [push_cast, simprocAttr, rS, List.set_set, List.length_set, slC_vals, pk_2, hsw]
    refine Thn_n ?_
    refine ⟨nx, hnI, hnmu, ?_⟩
    try simp only [keepL, setAll, push_cast, simprocAttr, rS, List.set_set, List.length_set, slC_vals, pk_2, hsw, hnx]
    exact Weak.same (by simp only [KS, simprocAttr, hnx]) (by first | rfl | simp only [KS, simprocAttr, hnx])
   ·have hk : ¬ (g j).fr < (g y).fr := by have := of_decide_eq_false h34; omega
    have hjy : j = y + 1 := by omega
    have hE : sink SL.fr A j g = g := by rw [hjy] at hk ⊢; exact sink_end hk
    refine AW.exit ?_
    refine Thn_e ?_
    clear hK K
    refine Thn_e ?_
    refine InB_here ?_
    refine InB_n ?_
    apply hK;clear hK K
    refine AW.rg ?_
    simp only [push_cast, simprocAttr, rS, List.set_set, List.length_set, slC_vals, pk_2]
    refine Thn_n ?_
    obtain ⟨i1, hi1⟩ : ∃ z : Nat, z = i + 1 := ⟨_, rfl⟩
    have wi1 : IntKind.i64.wrap ((i : Int) + 1) = (i1 : Int) := by rw [wi (by omega)]; omega
    have hnx : insS SL.fr A (i1 - A - 1) f = g := by rw [show i1 - A - 1 = i - A by omega, ← i3, hE]
    refine ⟨i1, by omega, by omega, ?_⟩
    try simp only [keepL, setAll, push_cast, simprocAttr, rS, List.set_set, List.length_set, slC_vals, pk_2, wi1, hnx]
    exact Weak.same (by simp only [KS, simprocAttr, wi1, hnx]) (by first | rfl | simp only [KS, simprocAttr, wi1, hnx])
  ·have cj : ¬ (A : Int) < (j : Int) := by omega
   have hE : sink SL.fr A j g = g := sink_stop (by omega)
   refine AW.draw [.val, .val, .val, .val, .val, .val, .val, .val, .rd 0, .val, .val, .val, .val, .rd 0, .ext, .val, .val] fol (by decide) (by kernel_rfl) ?_
   simp only [push_cast, simprocAttr, rS, List.set_set, List.length_set, slC_vals, pk_1, cj]
   apply hK;clear hK K
   refine AW.cond_f rfl ?_
   refine AW.exit ?_
   refine Thn_e ?_
   clear hK K
   refine Thn_e ?_
   refine InB_here ?_
   refine InB_n ?_
   apply hK;clear hK K
   refine AW.rg ?_
   simp only [push_cast, simprocAttr, rS, List.set_set, List.length_set, slC_vals, pk_1, cj]
   refine Thn_n ?_
   obtain ⟨i1, hi1⟩ : ∃ z : Nat, z = i + 1 := ⟨_, rfl⟩
   have wi1 : IntKind.i64.wrap ((i : Int) + 1) = (i1 : Int) := by rw [wi (by omega)]; omega
   have hnx : insS SL.fr A (i1 - A - 1) f = g := by rw [show i1 - A - 1 = i - A by omega, ← i3, hE]
   refine ⟨i1, by omega, by omega, ?_⟩
   try simp only [keepL, setAll, push_cast, simprocAttr, rS, List.set_set, List.length_set, slC_vals, pk_1, cj, wi1, hnx]
   exact Weak.same (by simp only [KS, simprocAttr, wi1, hnx]) (by first | rfl | simp only [KS, simprocAttr, wi1, hnx])
 ·have hge : B ≤ i := by have := of_decide_eq_false h14; omega
  have hfin : insS SL.fr A (i - A - 1) f = insS SL.fr A (B - A - 1) f := by rw [show i - A - 1 = B - A - 1 by omega]
  refine AW.exit ?_
  refine Thn_e ?_
  clear hK K
  refine Thn_e ?_
  refine InB_here ?_
  refine hQ _ _ _ ?_
  rw [hfin]
  first | refine RetP.dropM0 (by rw [List.length_set]) (by first | exact Or.inr rfl | exact Or.inl rfl) ?_ ?_ (hwfM _) | refine RetP.dropM (by rw [List.length_set]) (by first | exact Or.inr rfl | exact Or.inl rfl) ?_ ?_ (hwfM _)
  · rfl
  · rfl
end Go.Proofs.Ytdkfbbjpblfclaa
namespace Go.Eng
open Go
section
variable {P : Program} {nt : Nat} {tm : Tm} {mem : AMem} {Q : Exit → Tm → AMem → Prop}
theorem AW.viaJ {c : Code} (keep : List Nat) (V : Tm) (U : List (Nat × Blk))
  (hz : AW P nt c tm mem (Thn (fun tm' m' => Weak nt tm' m' (V ++ keepL tm keep) (setAll mem U)) Q))
  (h : Q .normal (V ++ keepL tm keep) (setAll mem U)) : AW P nt c tm mem Q := by
 intro ρ a w hr
 refine wp_mono (hz ρ a w hr) ?_
 rintro e a' w' ⟨ρ', tm', mem', hr', hs, hd, hq⟩
 cases e with
 | normal =>
  obtain ⟨ρ2, hr2, hs2⟩ := hq ρ' a' w' hr'
  exact ⟨ρ2, _, _, hr2, hs2 _ _ _ (by rw [setAll_len]; exact Nat.le_refl _) hs, hd, h⟩
 | _ => exact ⟨ρ', tm', mem', hr', hs, hd, hq⟩
end
end Go.Eng
namespace Go.Proofs.Ytdkfbbjpblfclaa
open Go Go.Eng
theorem sym_l (rs v n : Nat) (f : Nat → SL) (m : AMem) (hr : m[rs]? = some (rS v n f)) (hf : ∀ i, OkS (f i)) (hn : n ≤ 1048576) (A M B R : Nat) (hM : M = A + 1) (h1 : M ≤ R) (h2 : R ≤ B) (hB : B ≤ n) (h3 : ∀ x, M ≤ x → x < R → (f x).fr < (f A).fr) (h4 : ∀ x, R ≤ x → x < B → ¬ (f x).fr < (f A).fr) : Ctr Try.prog 89 [.one (.sl rs v 0 n), .one (.int .i64 (A : Int)), .one (.int .i64 (M : Int)), .one (.int .i64 (B : Int)), .one (.fn 63 [])] m (.tup []) (m.set rs (rS v n (rotL f A (R - 1)))) := by
 refine Ctr.enter Try.func89 rfl (by decide) (rs := []) (nt := 220) rfl rfl fun hwf Q hQ => ?_
 have lr := get_lt hr
 have gS := fun (l : AMem) (b : Blk) (e : l.length = m.length) => mk_self (m := m) (l := l) (r := rs) e lr b
 have sS := fun (l L : AMem) (e : l.length = m.length) => mk_olds (m := m) (l := l) (r := rs) e lr L
 have kS := fun (l L : AMem) (e : l.length = m.length) => mk_old (m := m) (l := l) (r := rs) e lr L
 have hr2 : m.set rs (rS v n f) = m := set_self hr
 have hwfM := fun g => rS_wf (m := m) (rs := rs) (v := v) (n := n) hwf g
 have p1 : (2 : Int) ^ min 1 IntKind.u64.bits = 2 := by decide
 have gl0 : (cC n f).length = n * 67 := cC_len hf n
 have w1 : IntKind.i64.wrap ((M : Int) - (A : Int)) = 1 := by rw [wi (by omega)]; omega
 obtain ⟨r1, hr1⟩ : ∃ z : Nat, z = R - 1 := ⟨_, rfl⟩
 have wr1 : IntKind.i64.wrap ((R : Int) - 1) = (r1 : Int) := by rw [wi (by omega)]; omega
 have hst0 : m.set rs (rS v n (rotL f A A)) = m := by rw [rotL_zero]; exact hr2
 refine AW.seq_k fun K hK => ?_
 refine AW.sr 1 fun K hK => ?_
 have pk_1 : _ ∧ _ ∧ _ ∧ _ ∧ _ ∧ _ ∧ _ := ⟨gS, sS, kS, hr, gl0, w1, p1⟩
 simp only [push_cast, simprocAttr, rS, List.set_set, List.length_set, slC_vals, pk_1]
 apply hK;clear hK K
 refine AW.cond_t rfl ?_
 refine AW.sr 2 fun K hK => ?_
 simp only [push_cast, simprocAttr, rS, List.set_set, List.length_set, slC_vals, pk_1]
 apply hK;clear hK K
 refine AW.seq_k fun K hK => ?_
 refine AW.block ?_
 refine AW.loopK [0, 1, 4] (fun q => M ≤ q.1 ∧ q.1 ≤ R ∧ R ≤ q.2 ∧ q.2 ≤ B) (fun q => [(10, .one (.int .i64 (q.1 : Int))), (11, .one (.int .i64 (q.2 : Int)))]) (fun q => []) (fun q => q.2 - q.1) (M, B) ⟨Nat.le_refl _, h1, h2, Nat.le_refl _⟩ ?_ ?_ fun q hi3 => ?_
 · first | rfl | (simp only [KS, simprocAttr] <;> repeat' (first | rfl | apply And.intro))
 · first | rfl | (simp only [setAll, push_cast, simprocAttr, rS, List.set_set, List.length_set, slC_vals, pk_1] <;> rfl)
 obtain ⟨i, j⟩ := q
 obtain ⟨i1, i2, i3, i4⟩ := hi3
 simp only at i1 i2 i3 i4
 try simp only [keepL, setAll, push_cast, simprocAttr, rS, List.set_set, List.length_set, slC_vals, pk_1]
 refine AW.seq_k fun K hK => ?_
 refine AW.sr 1 fun K hK => ?_
 simp only [push_cast, simprocAttr, rS, List.set_set, List.length_set, slC_vals, pk_1]
 apply hK;clear hK K
 refine AW.cond rfl (fun h33 => ?_) (fun h33 => ?_)
 ·have hlt : i < j := by have := of_decide_eq_true h33; omega
  obtain ⟨z, hz⟩ : ∃ z : Nat, z = i + j := ⟨_, rfl⟩
  have wz : IntKind.i64.wrap ((i : Int) + (j : Int)) = (z : Int) := by rw [wi (by omega)]; omega
  obtain ⟨h, hh⟩ : ∃ q : Nat, q = z / 2 := ⟨_, rfl⟩
  have uz : IntKind.u64.wrap (z : Int) = (z : Int) := by rw [IntKind.wrap_u64]; omega
  have fdz : (z : Int).fdiv 2 = (h : Int) := by rw [Int.fdiv_eq_ediv_of_nonneg _ (by decide)]; omega
  have vh : IntKind.i64.wrap (h : Int) = (h : Int) := wi (by omega)
  have lxh := cC_at (n := n) (k := h) (f := f) hf (by omega)
  have llh := slC_len (hf h).w
  have c0h : (0 : Int) ≤ (h : Int) := by omega
  have c1h : (h : Int) < (n : Int) := by omega
  have c2h : h * 67 + 67 ≤ n * 67 := by omega
  have lxa := cC_at (n := n) (k := A) (f := f) hf (by omega)
  have lla := slC_len (hf A).w
  have c0a : (0 : Int) ≤ (A : Int) := by omega
  have c1a : (A : Int) < (n : Int) := by omega
  have c2a : A * 67 + 67 ≤ n * 67 := by omega
  refine AW.skip ?_
  apply hK;clear hK K
  refine AW.block ?_
  refine AW.sr 1 fun K hK => ?_
  have pk_2 : _ ∧ _ ∧ _ ∧ _ ∧ _ ∧ _ ∧ _ ∧ _ ∧ _ ∧ _ ∧ _ ∧ _ ∧ _ ∧ _ ∧ _ := ⟨pk_1, wz, uz, fdz, vh, lxh, llh, c0h, c1h, c2h, lxa, lla, c0a, c1a, c2a⟩
  simp only [push_cast, simprocAttr, rS, List.set_set, List.length_set, slC_vals, pk_2]
  apply hK;clear hK K
  refine AW.seq_k fun K hK => ?_
  refine AW.draw [.val, .val, .val, .val, .rd 0, .val, .val, .val, .rd 0, .ext, .val] fol (by decide) (by kernel_rfl) ?_
  simp only [push_cast, simprocAttr, rS, List.set_set, List.length_set, slC_vals, pk_2]
  refine DCall.by0 (cmp_c (f h) (f A) _ (hf h) (hf A)) ?_
  simp only [push_cast, simprocAttr, rS, List.set_set, List.length_set, slC_vals, pk_2]
  apply hK;clear hK K
  refine AW.cond rfl (fun h50 => ?_) (fun h50 => ?_)
  ·have hk : (f h).fr < (f A).fr := by have := of_decide_eq_true h50; omega
   have hhR : h < R := Classical.byContradiction fun hc => h4 h (by omega) (by omega) hk
   obtain ⟨h1x, hh1x⟩ : ∃ z : Nat, z = h + 1 := ⟨_, rfl⟩
   have wh1x : IntKind.i64.wrap ((h : Int) + 1) = (h1x : Int) := by rw [wi (by omega)]; omega
   obtain ⟨nx, hnx, hnI, hnmu⟩ : ∃ nx : Nat × Nat, nx = (h1x, j) ∧ (M ≤ nx.1 ∧ nx.1 ≤ R ∧ R ≤ nx.2 ∧ nx.2 ≤ B) ∧ nx.2 - nx.1 < j - i := ⟨_, rfl, ⟨by show M ≤ h1x; omega, by show h1x ≤ R; omega, i3, i4⟩, by show j - h1x < j - i; omega⟩
   refine AW.rg ?_
   simp only [push_cast, simprocAttr, rS, List.set_set, List.length_set, slC_vals, pk_2, wh1x]
   refine InB_n ?_
   refine Thn_n ?_
   refine ⟨nx, hnI, hnmu, ?_⟩
   try simp only [keepL, setAll, push_cast, simprocAttr, rS, List.set_set, List.length_set, slC_vals, pk_2, wh1x, hnx]
   exact Weak.same (by simp only [KS, simprocAttr, hnx]) (by first | rfl | simp only [KS, simprocAttr, hnx])
  ·have hk : ¬ (f h).fr < (f A).fr := by have := of_decide_eq_false h50; omega
   have hhR : R ≤ h := Classical.byContradiction fun hc => hk (h3 h (by omega) (by omega))
   obtain ⟨nx, hnx, hnI, hnmu⟩ : ∃ nx : Nat × Nat, nx = (i, h) ∧ (M ≤ nx.1 ∧ nx.1 ≤ R ∧ R ≤ nx.2 ∧ nx.2 ≤ B) ∧ nx.2 - nx.1 < j - i := ⟨_, rfl, ⟨i1, i2, hhR, by show h ≤ B; omega⟩, by show h - i < j - i; omega⟩
   refine AW.rg ?_
   simp only [push_cast, simprocAttr, rS, List.set_set, List.length_set, slC_vals, pk_2]
   refine InB_n ?_
   refine Thn_n ?_
   refine ⟨nx, hnI, hnmu, ?_⟩
   try simp only [keepL, setAll, push_cast, simprocAttr, rS, List.set_set, List.length_set, slC_vals, pk_2, hnx]
   exact Weak.same (by simp only [KS, simprocAttr, hnx]) (by first | rfl | simp only [KS, simprocAttr, hnx])
 ·have hij : i = R := by have := of_decide_eq_false h33; omega
  subst hij
  refine AW.exit ?_
  refine Thn_e ?_
  clear hK K
  refine Thn_e ?_
  refine InB_here ?_
  apply hK;clear hK K
  refine AW.seq_k fun K hK => ?_
  refine AW.sr 1 fun K hK => ?_
  simp only [push_cast, simprocAttr, rS, List.set_set, List.length_set, slC_vals, pk_1, wr1]
  apply hK;clear hK K
  refine AW.block ?_
  refine AW.loopK [0, 10] (fun k => A ≤ k ∧ k ≤ r1) (fun k => [(13, .one (.int .i64 (k : Int)))]) (fun k => [(rs, rS v n (rotL f A k))]) (fun k => r1 - k) A (by omega) ?_ ?_ fun k hi7 => ?_
  · first | rfl | (simp only [KS, simprocAttr] <;> repeat' (first | rfl | apply And.intro))
  · exact hst0
  try simp only [keepL, setAll, push_cast, simprocAttr, rS, List.set_set, List.length_set, slC_vals, pk_1, wr1]
  refine AW.seq_k fun K hK => ?_
  refine AW.sr 1 fun K hK => ?_
  simp only [push_cast, simprocAttr, rS, List.set_set, List.length_set, slC_vals, pk_1, wr1]
  apply hK;clear hK K
  refine AW.cond rfl (fun h58 => ?_) (fun h58 => ?_)
  ·have hlt : k < r1 := by have := of_decide_eq_true h58; omega
   have ok := fun i => rotL_ok hf A k i
   obtain ⟨x, hx⟩ : ∃ z : Nat, z = k + 1 := ⟨_, rfl⟩
   have wx : IntKind.i64.wrap ((k : Int) + 1) = (x : Int) := by rw [wi (by omega)]; omega
   have lxxs := cC_at (n := n) (k := k) (f := rotL f A k) ok (by omega)
   have llxs := slC_len (ok k).w
   have c0xs : (0 : Int) ≤ (k : Int) := by omega
   have c1xs : (k : Int) < (n : Int) := by omega
   have c2xs : k * 67 + 67 ≤ n * 67 := by omega
   have lxys := cC_at (n := n) (k := x) (f := rotL f A k) ok (by omega)
   have llys := slC_len (ok x).w
   have c0ys : (0 : Int) ≤ (x : Int) := by omega
   have c1ys : (x : Int) < (n : Int) := by omega
   have c2ys : x * 67 + 67 ≤ n * 67 := by omega
   have gls : (cC n (rotL f A k)).length = n * 67 := cC_len ok n
   have st1s := cC_set (n := n) (k := k) (f := rotL f A k) ok (by omega) (ok x)
   have gl1s : (cC n (upF (rotL f A k) k ((rotL f A k) x))).length = n * 67 := cC_len (upF_ok ok (ok x) k) n
   have st2s := cC_set (n := n) (k := x) (f := upF (rotL f A k) k ((rotL f A k) x)) (upF_ok ok (ok x) k) (by omega) (ok k)
   have hnx : upF (upF (rotL f A k) k ((rotL f A k) x)) x ((rotL f A k) k) = rotL f A x := by rw [two_up' _ k x, hx]; exact rotL_step f (by omega)
   refine AW.skip ?_
   apply hK;clear hK K
   refine AW.seq_k fun K hK => ?_
   refine AW.block ?_
   refine AW.draw [.val, .val, .val, .val, .val, .val, .val, .val, .val, .rd 0, .val, .val, .val, .rd 0, .val, .wr, .val, .wr] fol (by decide) (by kernel_rfl) ?_
   have pk_3 : _ ∧ _ ∧ _ ∧ _ ∧ _ ∧ _ ∧ _ ∧ _ ∧ _ ∧ _ ∧ _ ∧ _ ∧ _ ∧ _ ∧ _ ∧ _ ∧ _ := ⟨pk_1, wr1, wx, lxxs, llxs, c0xs, c1xs, c2xs, lxys, llys, c0ys, c1ys, c2ys, gls, st1s, gl1s, st2s⟩
   simp only [push_cast, simprocAttr, rS, List.set_set, List.length_set, slC_vals, pk_3]
   refine InB_n ?_
   apply hK;clear hK K
   refine AW.rg ?_
   simp only [push_cast, simprocAttr, rS, List.set_set, List.length_set, slC_vals, pk_3]
   refine Thn_n ?_
   refine ⟨x, by omega, by omega, ?_⟩
   try simp only [keepL, setAll, push_cast, simprocAttr, rS, List.set_set, List.length_set, slC_vals, pk_3, hnx]
   exact Weak.same (by simp only [KS, simprocAttr, hnx]) (by first | rfl | simp only [KS, simprocAttr, hnx])
  ·have hin : k = r1 := by have := of_decide_eq_false h58; omega
   subst hin
   refine AW.exit ?_
   refine Thn_e ?_
   clear hK K
   refine Thn_e ?_
   refine InB_here ?_
   apply hK;clear hK K
   refine AW.ret ?_
   refine Thn_r ?_
   refine hQ _ _ _ ?_
   rw [← hr1]
   first | refine RetP.dropM0 (by rw [List.length_set]) (by first | exact Or.inr rfl | exact Or.inl rfl) ?_ ?_ (hwfM _) | refine RetP.dropM (by rw [List.length_set]) (by first | exact Or.inr rfl | exact Or.inl rfl) ?_ ?_ (hwfM _)
   · rfl
   · rfl
theorem sym_r (rs v n : Nat) (f : Nat → SL) (m : AMem) (hr : m[rs]? = some (rS v n f)) (hf : ∀ i, OkS (f i)) (hn : n ≤ 1048576) (A M B R : Nat) (hB1 : B = M + 1) (hA : A + 2 ≤ M) (h1 : A ≤ R) (h2 : R ≤ M) (hB : B ≤ n) (h3 : ∀ x, A ≤ x → x < R → ¬ (f M).fr < (f x).fr) (h4 : ∀ x, R ≤ x → x < M → (f M).fr < (f x).fr) : Ctr Try.prog 89 [.one (.sl rs v 0 n), .one (.int .i64 (A : Int)), .one (.int .i64 (M : Int)), .one (.int .i64 (B : Int)), .one (.fn 63 [])] m (.tup []) (m.set rs (rS v n (Eng.rotR f R M))) := by
 refine Ctr.enter Try.func89 rfl (by decide) (rs := []) (nt := 220) rfl rfl fun hwf Q hQ => ?_
 have lr := get_lt hr
 have gS := fun (l : AMem) (b : Blk) (e : l.length = m.length) => mk_self (m := m) (l := l) (r := rs) e lr b
 have sS := fun (l L : AMem) (e : l.length = m.length) => mk_olds (m := m) (l := l) (r := rs) e lr L
 have kS := fun (l L : AMem) (e : l.length = m.length) => mk_old (m := m) (l := l) (r := rs) e lr L
 have hr2 : m.set rs (rS v n f) = m := set_self hr
 have hwfM := fun g => rS_wf (m := m) (rs := rs) (v := v) (n := n) hwf g
 have p1 : (2 : Int) ^ min 1 IntKind.u64.bits = 2 := by decide
 have gl0 : (cC n f).length = n * 67 := cC_len hf n
 obtain ⟨dA, hdA⟩ : ∃ z : Nat, z = M - A := ⟨_, rfl⟩
 have wdA : IntKind.i64.wrap ((M : Int) - (A : Int)) = (dA : Int) := by rw [wi (by omega)]; omega
 have d1 : ((dA : Int) == 1) = false := by simp; omega
 have w2 : IntKind.i64.wrap ((B : Int) - (M : Int)) = 1 := by rw [wi (by omega)]; omega
 have hst0 : m.set rs (rS v n (Eng.rotR f M M)) = m := by rw [rotR_zero]; exact hr2
 refine AW.seq_k fun K hK => ?_
 refine AW.sr 1 fun K hK => ?_
 have pk_4 : _ ∧ _ ∧ _ ∧ _ ∧ _ ∧ _ ∧ _ ∧ _ ∧ _ := ⟨gS, sS, kS, hr, gl0, wdA, d1, w2, p1⟩
 simp only [push_cast, simprocAttr, rS, List.set_set, List.length_set, slC_vals, pk_4]
 apply hK;clear hK K
 refine AW.cond_f rfl ?_
 refine AW.skip ?_
 apply hK;clear hK K
 refine AW.seq_k fun K hK => ?_
 refine AW.sr 1 fun K hK => ?_
 simp only [push_cast, simprocAttr, rS, List.set_set, List.length_set, slC_vals, pk_4]
 apply hK;clear hK K
 refine AW.cond_t rfl ?_
 refine AW.sr 2 fun K hK => ?_
 simp only [push_cast, simprocAttr, rS, List.set_set, List.length_set, slC_vals, pk_4]
 apply hK;clear hK K
 refine AW.seq_k fun K hK => ?_
 refine AW.block ?_
 refine AW.loopK [0, 2, 4] (fun q => A ≤ q.1 ∧ q.1 ≤ R ∧ R ≤ q.2 ∧ q.2 ≤ M) (fun q => [(14, .one (.int .i64 (q.1 : Int))), (15, .one (.int .i64 (q.2 : Int)))]) (fun q => []) (fun q => q.2 - q.1) (A, M) ⟨Nat.le_refl _, h1, h2, Nat.le_refl _⟩ ?_ ?_ fun q hi4 => ?_
 · first | rfl | (simp only [KS, simprocAttr] <;> repeat' (first | rfl | apply And.intro))
 · first | rfl | (simp only [setAll, push_cast, simprocAttr, rS, List.set_set, List.length_set, slC_vals, pk_4] <;> rfl)
 obtain ⟨i, j⟩ := q
 obtain ⟨i1, i2, i3, i4⟩ := hi4
 simp only at i1 i2 i3 i4
 try simp only [keepL, setAll, push_cast, simprocAttr, rS, List.set_set, List.length_set, slC_vals, pk_4]
 refine AW.seq_k fun K hK => ?_
 refine AW.sr 1 fun K hK => ?_
 simp only [push_cast, simprocAttr, rS, List.set_set, List.length_set, slC_vals, pk_4]
 apply hK;clear hK K
 refine AW.cond rfl (fun h85 => ?_) (fun h85 => ?_)
 ·have hlt : i < j := by have := of_decide_eq_true h85; omega
  obtain ⟨z, hz⟩ : ∃ z : Nat, z = i + j := ⟨_, rfl⟩
  have wz : IntKind.i64.wrap ((i : Int) + (j : Int)) = (z : Int) := by rw [wi (by omega)]; omega
  obtain ⟨h, hh⟩ : ∃ q : Nat, q = z / 2 := ⟨_, rfl⟩
  have uz : IntKind.u64.wrap (z : Int) = (z : Int) := by rw [IntKind.wrap_u64]; omega
  have fdz : (z : Int).fdiv 2 = (h : Int) := by rw [Int.fdiv_eq_ediv_of_nonneg _ (by decide)]; omega
  have vh : IntKind.i64.wrap (h : Int) = (h : Int) := wi (by omega)
  have lxh := cC_at (n := n) (k := M) (f := f) hf (by omega)
  have llh := slC_len (hf M).w
  have c0h : (0 : Int) ≤ (M : Int) := by omega
  have c1h : (M : Int) < (n : Int) := by omega
  have c2h : M * 67 + 67 ≤ n * 67 := by omega
  have lxa := cC_at (n := n) (k := h) (f := f) hf (by omega)
  have lla := slC_len (hf h).w
  have c0a : (0 : Int) ≤ (h : Int) := by omega
  have c1a : (h : Int) < (n : Int) := by omega
  have c2a : h * 67 + 67 ≤ n * 67 := by omega
  refine AW.skip ?_
  apply hK;clear hK K
  refine AW.block ?_
  refine AW.sr 1 fun K hK => ?_
  have pk_5 : _ ∧ _ ∧ _ ∧ _ ∧ _ ∧ _ ∧ _ ∧ _ ∧ _ ∧ _ ∧ _ ∧ _ ∧ _ ∧ _ ∧ _ := ⟨pk_4, wz, uz, fdz, vh, lxh, llh, c0h, c1h, c2h, lxa, lla, c0a, c1a, c2a⟩
  simp only [push_cast, simprocAttr, rS, List.set_set, List.length_set, slC_vals, pk_5]
  apply hK;clear hK K
  refine AW.seq_k fun K hK => ?_
  refine AW.draw [.val, .val, .val, .val, .rd 0, .val, .val, .val, .rd 0, .ext, .val, .val] fol (by decide) (by kernel_rfl) ?_
  simp only [push_cast, simprocAttr, rS, List.set_set, List.length_set, slC_vals, pk_5]
  refine DCall.by0 (cmp_c (f M) (f h) _ (hf M) (hf h)) ?_
  simp only [push_cast, simprocAttr, rS, List.set_set, List.length_set, slC_vals, pk_5]
  apply hK;clear hK K
  refine AW.cond rfl (fun h103 => ?_) (fun h103 => ?_)
  ·have hk : ¬ (f M).fr < (f h).fr := by simp at h103; omega
   have hhR : h < R := Classical.byContradiction fun hc => hk (h4 h (by omega) (by omega))
   obtain ⟨h1x, hh1x⟩ : ∃ z : Nat, z = h + 1 := ⟨_, rfl⟩
   have wh1x : IntKind.i64.wrap ((h : Int) + 1) = (h1x : Int) := by rw [wi (by omega)]; omega
   obtain ⟨nx, hnx, hnI, hnmu⟩ : ∃ nx : Nat × Nat, nx = (h1x, j) ∧ (A ≤ nx.1 ∧ nx.1 ≤ R ∧ R ≤ nx.2 ∧ nx.2 ≤ M) ∧ nx.2 - nx.1 < j - i := ⟨_, rfl, ⟨by show A ≤ h1x; omega, by show h1x ≤ R; omega, i3, i4⟩, by show j - h1x < j - i; omega⟩
   refine AW.rg ?_
   simp only [push_cast, simprocAttr, rS, List.set_set, List.length_set, slC_vals, pk_5, wh1x]
   refine InB_n ?_
   refine Thn_n ?_
   refine ⟨nx, hnI, hnmu, ?_⟩
   try simp only [keepL, setAll, push_cast, simprocAttr, rS, List.set_set, List.length_set, slC_vals, pk_5, wh1x, hnx]
   exact Weak.same (by simp only [KS, simprocAttr, hnx]) (by first | rfl | simp only [KS, simprocAttr, hnx])
  ·have hk : (f M).fr < (f h).fr := by simp at h103; omega
   have hhR : R ≤ h := Classical.byContradiction fun hc => h3 h (by omega) (by omega) hk
   obtain ⟨nx, hnx, hnI, hnmu⟩ : ∃ nx : Nat × Nat, nx = (i, h) ∧ (A ≤ nx.1 ∧ nx.1 ≤ R ∧ R ≤ nx.2 ∧ nx.2 ≤ M) ∧ nx.2 - nx.1 < j - i := ⟨_, rfl, ⟨i1, i2, hhR, by show h ≤ M; omega⟩, by show h - i < j - i; omega⟩
   refine AW.rg ?_
   simp only [push_cast, simprocAttr, rS, List.set_set, List.length_set, slC_vals, pk_5]
   refine InB_n ?_
   refine Thn_n ?_
   refine ⟨nx, hnI, hnmu, ?_⟩
   try simp only [keepL, setAll, push_cast, simprocAttr, rS, List.set_set, List.length_set, slC_vals, pk_5, hnx]
   exact Weak.same (by simp only [KS, simprocAttr, hnx]) (by first | rfl | simp only [KS, simprocAttr, hnx])
 ·have hij : R = i := by have := of_decide_eq_false h85; omega
  subst hij
  refine AW.exit ?_
  refine Thn_e ?_
  clear hK K
  refine Thn_e ?_
  refine InB_here ?_
  apply hK;clear hK K
  refine AW.seq_k fun K hK => ?_
  refine AW.sr 1 fun K hK => ?_
  simp only [push_cast, simprocAttr, rS, List.set_set, List.length_set, slC_vals, pk_4]
  apply hK;clear hK K
  refine AW.block ?_
  refine AW.loopK [0, 14] (fun k => R ≤ k ∧ k ≤ M) (fun k => [(17, .one (.int .i64 (k : Int)))]) (fun k => [(rs, rS v n (Eng.rotR f k M))]) (fun k => k) M (by omega) ?_ ?_ fun k hi8 => ?_
  · first | rfl | (simp only [KS, simprocAttr] <;> repeat' (first | rfl | apply And.intro))
  · exact hst0
  try simp only [keepL, setAll, push_cast, simprocAttr, rS, List.set_set, List.length_set, slC_vals, pk_4]
  refine AW.seq_k fun K hK => ?_
  refine AW.sr 1 fun K hK => ?_
  simp only [push_cast, simprocAttr, rS, List.set_set, List.length_set, slC_vals, pk_4]
  apply hK;clear hK K
  refine AW.cond rfl (fun h110 => ?_) (fun h110 => ?_)
  ·have hlt : R < k := by have := of_decide_eq_true h110; omega
   have ok := fun x => rotR_ok hf k M x
   obtain ⟨y, hy⟩ : ∃ z : Nat, z = k - 1 := ⟨_, rfl⟩
   have wy : IntKind.i64.wrap ((k : Int) - 1) = (y : Int) := by rw [wi (by omega)]; omega
   have lxxs := cC_at (n := n) (k := k) (f := Eng.rotR f k M) ok (by omega)
   have llxs := slC_len (ok k).w
   have c0xs : (0 : Int) ≤ (k : Int) := by omega
   have c1xs : (k : Int) < (n : Int) := by omega
   have c2xs : k * 67 + 67 ≤ n * 67 := by omega
   have lxys := cC_at (n := n) (k := y) (f := Eng.rotR f k M) ok (by omega)
   have llys := slC_len (ok y).w
   have c0ys : (0 : Int) ≤ (y : Int) := by omega
   have c1ys : (y : Int) < (n : Int) := by omega
   have c2ys : y * 67 + 67 ≤ n * 67 := by omega
   have gls : (cC n (Eng.rotR f k M)).length = n * 67 := cC_len ok n
   have st1s := cC_set (n := n) (k := k) (f := Eng.rotR f k M) ok (by omega) (ok y)
   have gl1s : (cC n (upF (Eng.rotR f k M) k ((Eng.rotR f k M) y))).length = n * 67 := cC_len (upF_ok ok (ok y) k) n
   have st2s := cC_set (n := n) (k := y) (f := upF (Eng.rotR f k M) k ((Eng.rotR f k M) y)) (upF_ok ok (ok y) k) (by omega) (ok k)
   have hnx : upF (upF (Eng.rotR f k M) k ((Eng.rotR f k M) y)) y ((Eng.rotR f k M) k) = Eng.rotR f y M := by rw [two_up' _ k y, show k = y + 1 by omega]; exact rotR_step f (by omega)
   refine AW.skip ?_
   apply hK;clear hK K
   refine AW.seq_k fun K hK => ?_
   refine AW.block ?_
   refine AW.draw [.val, .val, .val, .val, .val, .val, .val, .val, .val, .rd 0, .val, .val, .val, .rd 0, .val, .wr, .val, .wr] fol (by decide) (by kernel_rfl) ?_
   have pk_6 : _ ∧ _ ∧ _ ∧ _ ∧ _ ∧ _ ∧ _ ∧ _ ∧ _ ∧ _ ∧ _ ∧ _ ∧ _ ∧ _ ∧ _ ∧ _ := ⟨pk_4, wy, lxxs, llxs, c0xs, c1xs, c2xs, lxys, llys, c0ys, c1ys, c2ys, gls, st1s, gl1s, st2s⟩
   simp only [push_cast, simprocAttr, rS, List.set_set, List.length_set, slC_vals, pk_6]
   refine InB_n ?_
   apply hK;clear hK K
   refine AW.rg ?_
   simp only [push_cast, simprocAttr, rS, List.set_set, List.length_set, slC_vals, pk_6]
   refine Thn_n ?_
   refine ⟨y, by omega, by omega, ?_⟩
   try simp only [keepL, setAll, push_cast, simprocAttr, rS, List.set_set, List.length_set, slC_vals, pk_6, hnx]
   exact Weak.same (by simp only [KS, simprocAttr, hnx]) (by first | rfl | simp only [KS, simprocAttr, hnx])
  ·have hin : R = k := by have := of_decide_eq_false h110; omega
   subst hin
   refine AW.exit ?_
   refine Thn_e ?_
   clear hK K
   refine Thn_e ?_
   refine InB_here ?_
   apply hK;clear hK K
   refine AW.ret ?_
   refine Thn_r ?_
   refine hQ _ _ _ ?_
   first | refine RetP.dropM0 (by rw [List.length_set]) (by first | exact Or.inr rfl | exact Or.inl rfl) ?_ ?_ (hwfM _) | refine RetP.dropM (by rw [List.length_set]) (by first | exact Or.inr rfl | exact Or.inl rfl) ?_ ?_ (hwfM _)
   · rfl
   · rfl
def SymS (A M B mid nn s0 r0 : Nat) : Prop := (mid < M ∧ s0 = nn - B ∧ r0 = mid) ∨ (M ≤ mid ∧ s0 = A ∧ r0 = M)
theorem SymS.lin {A M B mid nn s0 r0 : Nat} (hs : SymS A M B mid nn s0 r0) (h1 : A + 2 ≤ M) (h2 : M + 2 ≤ B) (hm1 : 2 * mid ≤ A + B) (hm2 : A + B ≤ 2 * mid + 1) (hnn : nn = mid + M) : nn ≤ s0 + B ∧ A ≤ s0 ∧ r0 ≤ mid ∧ r0 ≤ M ∧ s0 ≤ r0 := by
 rcases hs with ⟨a, b, c⟩ | ⟨a, b, c⟩ <;> omega
theorem lt3 (a b c d : Nat) : (a < b ∧ c < d) ∨ (a < b ∧ ¬ c < d) ∨ ¬ a < b := by omega
theorem sym_m (rs v n : Nat) (f g1 g2 : Nat → SL) (m : AMem) (hrs : rs < m.length) (hf : ∀ i, OkS (f i)) (hn : n ≤ 1048576) (A M B mid nn st s0 r0 e : Nat) (h1 : A + 2 ≤ M) (h2 : M + 2 ≤ B) (hB : B ≤ n) (hm1 : 2 * mid ≤ A + B) (hm2 : A + B ≤ 2 * mid + 1) (hnn : nn = mid + M) (hs : SymS A M B mid nn s0 r0) (b1 : s0 ≤ st) (b2 : st ≤ r0) (he : e = nn - st) (h3 : ∀ c, s0 ≤ c → c < st → ¬ (f (nn - 1 - c)).fr < (f c).fr) (h4 : ∀ c, st ≤ c → c < r0 → (f (nn - 1 - c)).fr < (f c).fr) (c1 : A < st → st < mid → Ctr Try.prog 89 [.one (.sl rs v 0 n), .one (.int .i64 (A : Int)), .one (.int .i64 (st : Int)), .one (.int .i64 (mid : Int)), .one (.fn 63 [])] (m.set rs (rS v n (rot f st M e))) (.tup []) (m.set rs (rS v n (g1)))) (e1 : ¬ (A < st ∧ st < mid) → g1 = rot f st M e) (c2 : mid < e → e < B → Ctr Try.prog 89 [.one (.sl rs v 0 n), .one (.int .i64 (mid : Int)), .one (.int .i64 (e : Int)), .one (.int .i64 (B : Int)), .one (.fn 63 [])] (m.set rs (rS v n (g1))) (.tup []) (m.set rs (rS v n (g2)))) (e2 : ¬ (mid < e ∧ e < B) → g2 = g1) : Ctr Try.prog 89 [.one (.sl rs v 0 n), .one (.int .i64 (A : Int)), .one (.int .i64 (M : Int)), .one (.int .i64 (B : Int)), .one (.fn 63 [])] (m.set rs (rS v n (f))) (.tup []) (m.set rs (rS v n (g2))) := by
 refine Ctr.enter Try.func89 rfl (by decide) (rs := []) (nt := 220) rfl rfl fun hwf Q hQ => ?_
 have lr := hrs
 have gS := fun (l : AMem) (b : Blk) (e : l.length = m.length) => mk_self (m := m) (l := l) (r := rs) e lr b
 have sS := fun (l L : AMem) (e : l.length = m.length) => mk_olds (m := m) (l := l) (r := rs) e lr L
 have kS := fun (l L : AMem) (e : l.length = m.length) => mk_old (m := m) (l := l) (r := rs) e lr L
 have hwfM : ∀ g, MWf m.length (m.set rs (rS v n g)) := fun g => by
   have h := rS_wf (rs := rs) (v := v) (n := n) hwf g
   rwa [List.set_set, List.length_set] at h
 have p1 : (2 : Int) ^ min 1 IntKind.u64.bits = 2 := by decide
 obtain ⟨l1, l2, l3, l4, l5⟩ := hs.lin h1 h2 hm1 hm2 hnn
 have gl0 : (cC n f).length = n * 67 := cC_len hf n
 obtain ⟨dA, hdA⟩ : ∃ z : Nat, z = M - A := ⟨_, rfl⟩
 have wdA : IntKind.i64.wrap ((M : Int) - (A : Int)) = (dA : Int) := by rw [wi (by omega)]; omega
 obtain ⟨dB, hdB⟩ : ∃ z : Nat, z = B - M := ⟨_, rfl⟩
 have wdB : IntKind.i64.wrap ((B : Int) - (M : Int)) = (dB : Int) := by rw [wi (by omega)]; omega
 have d1 : ((dA : Int) == 1) = false := by simp; omega
 have d2 : ((dB : Int) == 1) = false := by simp; omega
 obtain ⟨z0, hz0⟩ : ∃ q : Nat, q = A + B := ⟨_, rfl⟩
 have wz0 : IntKind.i64.wrap ((A : Int) + (B : Int)) = (z0 : Int) := by rw [wi (by omega)]; omega
 have uz0 : IntKind.u64.wrap (z0 : Int) = (z0 : Int) := by rw [IntKind.wrap_u64]; omega
 have fdz0 : (z0 : Int).fdiv 2 = (mid : Int) := by rw [Int.fdiv_eq_ediv_of_nonneg _ (by decide)]; omega
 have vmid : IntKind.i64.wrap (mid : Int) = (mid : Int) := wi (by omega)
 have wnn : IntKind.i64.wrap ((mid : Int) + (M : Int)) = (nn : Int) := by rw [wi (by omega)]; omega
 obtain ⟨pp, hpp⟩ : ∃ z : Nat, z = nn - 1 := ⟨_, rfl⟩
 have wpp : IntKind.i64.wrap ((nn : Int) - 1) = (pp : Int) := by rw [wi (by omega)]; omega
 have we : IntKind.i64.wrap ((nn : Int) - (st : Int)) = (e : Int) := by rw [wi (by omega)]; omega
 refine AW.seq_k fun K hK => ?_
 refine AW.sr 1 fun K hK => ?_
 have pk_1 : _ ∧ _ ∧ _ ∧ _ ∧ _ ∧ _ ∧ _ ∧ _ ∧ _ ∧ _ ∧ _ ∧ _ ∧ _ ∧ _ ∧ _ ∧ _ := ⟨gS, sS, kS, gl0, wdA, wdB, d1, d2, p1, wz0, uz0, fdz0, vmid, wnn, wpp, we⟩
 simp only [push_cast, simprocAttr, rS, List.set_set, List.length_set, slC_vals, pk_1]
 apply hK;clear hK K
 refine AW.cond_f rfl ?_
 refine AW.skip ?_
 apply hK;clear hK K
 refine AW.seq_k fun K hK => ?_
 refine AW.sr 1 fun K hK => ?_
 simp only [push_cast, simprocAttr, rS, List.set_set, List.length_set, slC_vals, pk_1]
 apply hK;clear hK K
 refine AW.cond_f rfl ?_
 refine AW.skip ?_
 apply hK;clear hK K
 refine AW.sr 3 fun K hK => ?_
 simp only [push_cast, simprocAttr, rS, List.set_set, List.length_set, slC_vals, pk_1]
 apply hK;clear hK K
 refine AW.seq_k fun K hK => ?_
 refine AW.sr 1 fun K hK => ?_
 simp only [push_cast, simprocAttr, rS, List.set_set, List.length_set, slC_vals, pk_1]
 apply hK;clear hK K
 refine AW.condJ rfl [0, 1, 2, 3, 4, 18, 19] [(20, .one (.int .i64 (s0 : Int))), (21, .one (.int .i64 (r0 : Int)))] [] (fun h140 => ?_) (fun h140 => ?_) ?_
 ·have hq : mid < M := by have := of_decide_eq_true h140; omega
  have hs0 : s0 = nn - B := by rcases hs with h | h <;> omega
  have hr0 : r0 = mid := by rcases hs with h | h <;> omega
  have ws : IntKind.i64.wrap ((nn : Int) - (B : Int)) = (s0 : Int) := by rw [wi (by omega)]; omega
  refine AW.sr 1 fun K hK => ?_
  simp only [push_cast, simprocAttr, rS, List.set_set, List.length_set, slC_vals, pk_1]
  apply hK;clear hK K
  refine AW.rg ?_
  simp only [push_cast, simprocAttr, rS, List.set_set, List.length_set, slC_vals, pk_1]
  refine Thn_n ?_
  try simp only [keepL, setAll, push_cast, simprocAttr, rS, List.set_set, List.length_set, slC_vals, pk_1, ws, hr0]
  exact Weak.same (by simp only [KS, simprocAttr, ws, hr0]) (by first | rfl | simp only [KS, simprocAttr, ws, hr0])
 ·have hq : ¬ mid < M := by have := of_decide_eq_false h140; omega
  have hs0 : s0 = A := by rcases hs with h | h <;> omega
  have hr0 : r0 = M := by rcases hs with h | h <;> omega
  have ws := hs0
  refine AW.sr 1 fun K hK => ?_
  simp only [push_cast, simprocAttr, rS, List.set_set, List.length_set, slC_vals, pk_1]
  apply hK;clear hK K
  refine AW.rg ?_
  simp only [push_cast, simprocAttr, rS, List.set_set, List.length_set, slC_vals, pk_1]
  refine Thn_n ?_
  try simp only [keepL, setAll, push_cast, simprocAttr, rS, List.set_set, List.length_set, slC_vals, pk_1, ws, hr0]
  exact Weak.same (by simp only [KS, simprocAttr, ws, hr0]) (by first | rfl | simp only [KS, simprocAttr, ws, hr0])
 try simp only [keepL, setAll, push_cast, simprocAttr, rS, List.set_set, List.length_set, slC_vals, pk_1]
 apply hK;clear hK K
 refine AW.sr 1 fun K hK => ?_
 simp only [push_cast, simprocAttr, rS, List.set_set, List.length_set, slC_vals, pk_1]
 apply hK;clear hK K
 refine AW.seq_k fun K hK => ?_
 refine AW.block ?_
 refine AW.loopK [0, 1, 2, 3, 4, 18, 19, 22] (fun q => s0 ≤ q.1 ∧ q.1 ≤ st ∧ st ≤ q.2 ∧ q.2 ≤ r0) (fun q => [(20, .one (.int .i64 (q.1 : Int))), (21, .one (.int .i64 (q.2 : Int)))]) (fun q => []) (fun q => q.2 - q.1) (s0, r0) ⟨Nat.le_refl _, b1, b2, Nat.le_refl _⟩ ?_ ?_ fun q hi6 => ?_
 · first | rfl | (simp only [KS, simprocAttr] <;> repeat' (first | rfl | apply And.intro))
 · first | rfl | (simp only [setAll, push_cast, simprocAttr, rS, List.set_set, List.length_set, slC_vals, pk_1] <;> rfl)
 obtain ⟨i, j⟩ := q
 obtain ⟨i1, i2, i3, i4⟩ := hi6
 simp only at i1 i2 i3 i4
 try simp only [keepL, setAll, push_cast, simprocAttr, rS, List.set_set, List.length_set, slC_vals, pk_1]
 refine AW.seq_k fun K hK => ?_
 refine AW.sr 1 fun K hK => ?_
 simp only [push_cast, simprocAttr, rS, List.set_set, List.length_set, slC_vals, pk_1]
 apply hK;clear hK K
 refine AW.cond rfl (fun h151 => ?_) (fun h151 => ?_)
 ·have hlt : i < j := by have := of_decide_eq_true h151; omega
  obtain ⟨z, hz⟩ : ∃ z : Nat, z = i + j := ⟨_, rfl⟩
  have wz : IntKind.i64.wrap ((i : Int) + (j : Int)) = (z : Int) := by rw [wi (by omega)]; omega
  obtain ⟨h, hh⟩ : ∃ q : Nat, q = z / 2 := ⟨_, rfl⟩
  have uz : IntKind.u64.wrap (z : Int) = (z : Int) := by rw [IntKind.wrap_u64]; omega
  have fdz : (z : Int).fdiv 2 = (h : Int) := by rw [Int.fdiv_eq_ediv_of_nonneg _ (by decide)]; omega
  have vh : IntKind.i64.wrap (h : Int) = (h : Int) := wi (by omega)
  obtain ⟨y, hy⟩ : ∃ z : Nat, z = nn - 1 - h := ⟨_, rfl⟩
  have wy : IntKind.i64.wrap ((pp : Int) - (h : Int)) = (y : Int) := by rw [wi (by omega)]; omega
  have lxh := cC_at (n := n) (k := y) (f := f) hf (by omega)
  have llh := slC_len (hf y).w
  have c0h : (0 : Int) ≤ (y : Int) := by omega
  have c1h : (y : Int) < (n : Int) := by omega
  have c2h : y * 67 + 67 ≤ n * 67 := by omega
  have lxa := cC_at (n := n) (k := h) (f := f) hf (by omega)
  have lla := slC_len (hf h).w
  have c0a : (0 : Int) ≤ (h : Int) := by omega
  have c1a : (h : Int) < (n : Int) := by omega
  have c2a : h * 67 + 67 ≤ n * 67 := by omega
  refine AW.skip ?_
  apply hK;clear hK K
  refine AW.block ?_
  refine AW.sr 1 fun K hK => ?_
  have pk_2 : _ ∧ _ ∧ _ ∧ _ ∧ _ ∧ _ ∧ _ ∧ _ ∧ _ ∧ _ ∧ _ ∧ _ ∧ _ ∧ _ ∧ _ ∧ _ := ⟨pk_1, wz, uz, fdz, vh, wy, lxh, llh, c0h, c1h, c2h, lxa, lla, c0a, c1a, c2a⟩
  simp only [push_cast, simprocAttr, rS, List.set_set, List.length_set, slC_vals, pk_2]
  apply hK;clear hK K
  refine AW.seq_k fun K hK => ?_
  refine AW.draw [.val, .val, .val, .val, .val, .val, .rd 0, .val, .val, .val, .rd 0, .ext, .val, .val] fol (by decide) (by kernel_rfl) ?_
  simp only [push_cast, simprocAttr, rS, List.set_set, List.length_set, slC_vals, pk_2]
  refine DCall.by0 (cmp_c (f y) (f h) _ (hf y) (hf h)) ?_
  simp only [push_cast, simprocAttr, rS, List.set_set, List.length_set, slC_vals, pk_2]
  apply hK;clear hK K
  refine AW.cond rfl (fun h171 => ?_) (fun h171 => ?_)
  ·have hk : ¬ (f y).fr < (f h).fr := by simp at h171; omega
   have hhR : h < st := Classical.byContradiction fun hc => hk (by rw [hy]; exact h4 h (by omega) (by omega))
   obtain ⟨h1x, hh1x⟩ : ∃ z : Nat, z = h + 1 := ⟨_, rfl⟩
   have wh1x : IntKind.i64.wrap ((h : Int) + 1) = (h1x : Int) := by rw [wi (by omega)]; omega
   obtain ⟨nx, hnx, hnI, hnmu⟩ : ∃ nx : Nat × Nat, nx = (h1x, j) ∧ (s0 ≤ nx.1 ∧ nx.1 ≤ st ∧ st ≤ nx.2 ∧ nx.2 ≤ r0) ∧ nx.2 - nx.1 < j - i := ⟨_, rfl, ⟨by show s0 ≤ h1x; omega, by show h1x ≤ st; omega, i3, i4⟩, by show j - h1x < j - i; omega⟩
   refine AW.rg ?_
   simp only [push_cast, simprocAttr, rS, List.set_set, List.length_set, slC_vals, pk_2, wh1x]
   refine InB_n ?_
   refine Thn_n ?_
   refine ⟨nx, hnI, hnmu, ?_⟩
   try simp only [keepL, setAll, push_cast, simprocAttr, rS, List.set_set, List.length_set, slC_vals, pk_2, wh1x, hnx]
   exact Weak.same (by simp only [KS, simprocAttr, hnx]) (by first | rfl | simp only [KS, simprocAttr, hnx])
  ·have hk : (f y).fr < (f h).fr := by simp at h171; omega
   have hhR : st ≤ h := Classical.byContradiction fun hc => h3 h (by omega) (by omega) (by rw [← hy]; exact hk)
   obtain ⟨nx, hnx, hnI, hnmu⟩ : ∃ nx : Nat × Nat, nx = (i, h) ∧ (s0 ≤ nx.1 ∧ nx.1 ≤ st ∧ st ≤ nx.2 ∧ nx.2 ≤ r0) ∧ nx.2 - nx.1 < j - i := ⟨_, rfl, ⟨i1, i2, hhR, by show h ≤ r0; omega⟩, by show h - i < j - i; omega⟩
   refine AW.rg ?_
   simp only [push_cast, simprocAttr, rS, List.set_set, List.length_set, slC_vals, pk_2]
   refine InB_n ?_
   refine Thn_n ?_
   refine ⟨nx, hnI, hnmu, ?_⟩
   try simp only [keepL, setAll, push_cast, simprocAttr, rS, List.set_set, List.length_set, slC_vals, pk_2, hnx]
   exact Weak.same (by simp only [KS, simprocAttr, hnx]) (by first | rfl | simp only [KS, simprocAttr, hnx])
 ·have hij : st = i := by have := of_decide_eq_false h151; omega
  subst hij
  refine AW.exit ?_
  refine Thn_e ?_
  clear hK K
  refine Thn_e ?_
  refine InB_here ?_
  apply hK;clear hK K
  refine AW.sr 1 fun K hK => ?_
  simp only [push_cast, simprocAttr, rS, List.set_set, List.length_set, slC_vals, pk_1]
  apply hK;clear hK K
  refine AW.seq_k fun K hK => ?_
  refine AW.seq_k fun K hK => ?_
  refine AW.viaJ [0, 1, 2, 3, 4, 18, 20, 24] [(185, .one (.bool (decide (st < M) && decide (M < e))))] [] ?_ ?_
  ·rcases lt3 st M M e with ⟨k1, k2⟩ | ⟨k1, k2⟩ | k1
   ·have k1z : (st : Int) < (M : Int) := by omega
    have k2z : (M : Int) < (e : Int) := by omega
    have d1 : decide (st < M) = true := decide_eq_true k1
    have d2 : decide (M < e) = true := decide_eq_true k2
    refine AW.rg ?_
    have pk_3 : _ ∧ _ ∧ _ ∧ _ ∧ _ := ⟨pk_1, k1z, k2z, d1, d2⟩
    simp only [push_cast, simprocAttr, rS, List.set_set, List.length_set, slC_vals, pk_3]
    refine Thn_n ?_
    try simp only [keepL, setAll, push_cast, simprocAttr, rS, List.set_set, List.length_set, slC_vals, pk_3, d1]
    exact Weak.same (by simp only [KS, simprocAttr, d1]) (by first | rfl | simp only [KS, simprocAttr, d1])
   ·have k1z : (st : Int) < (M : Int) := by omega
    have k2z : ¬ (M : Int) < (e : Int) := by omega
    have d1 : decide (st < M) = true := decide_eq_true k1
    have d2 : decide (M < e) = false := decide_eq_false k2
    refine AW.rg ?_
    have pk_4 : _ ∧ _ ∧ _ ∧ _ ∧ _ := ⟨pk_1, k1z, k2z, d1, d2⟩
    simp only [push_cast, simprocAttr, rS, List.set_set, List.length_set, slC_vals, pk_4]
    refine Thn_n ?_
    try simp only [keepL, setAll, push_cast, simprocAttr, rS, List.set_set, List.length_set, slC_vals, pk_4, d1]
    exact Weak.same (by simp only [KS, simprocAttr, d1]) (by first | rfl | simp only [KS, simprocAttr, d1])
   ·have k1z : ¬ (st : Int) < (M : Int) := by omega
    have d1 : decide (st < M) = false := decide_eq_false k1
    refine AW.rg ?_
    simp only [push_cast, simprocAttr, rS, List.set_set, List.length_set, slC_vals, pk_1, k1z, d1]
    refine Thn_n ?_
    try simp only [keepL, setAll, push_cast, simprocAttr, rS, List.set_set, List.length_set, slC_vals, pk_1, k1z, d1, d1]
    exact Weak.same (by simp only [KS, simprocAttr, d1]) (by first | rfl | simp only [KS, simprocAttr, d1])
  try simp only [keepL, setAll, push_cast, simprocAttr, rS, List.set_set, List.length_set, slC_vals, pk_1]
  apply hK;clear hK K
  refine AW.condJ rfl [0, 1, 3, 4, 18, 20, 24] [] [(rs, rS v n (rot f st M e))] (fun h185 => ?_) (fun h185 => ?_) ?_
  ·have hq : st < M ∧ M < e := by simpa using h185
   refine AW.rg ?_
   simp only [push_cast, simprocAttr, rS, List.set_set, List.length_set, slC_vals, pk_1]
   refine CThen.by (srot_c rs v n f _ (mk_self rfl lr _) hf hn st M e hq.1 hq.2 (by omega)) ?_
   simp only [push_cast, simprocAttr, rS, List.set_set, List.length_set, slC_vals, pk_1]
   refine Thn_n ?_
   try simp only [keepL, setAll, push_cast, simprocAttr, rS, List.set_set, List.length_set, slC_vals, pk_1, hq]
   exact Weak.same (by simp only [KS, simprocAttr, hq]) (by first | rfl | simp only [KS, simprocAttr, hq])
  ·have hq : rot f st M e = f := by
     have h : ¬ (st < M ∧ M < e) := by simpa using h185
     rcases Nat.lt_or_ge st M with k1 | k1
     · rw [show e = M by omega]; exact rot_id1 f st M
     · rw [show st = M by omega]; exact rot_id2 f M e
   refine AW.skip ?_
   refine Thn_n ?_
   try simp only [keepL, setAll, push_cast, simprocAttr, rS, List.set_set, List.length_set, slC_vals, pk_1, hq]
   exact Weak.same (by simp only [KS, simprocAttr, hq]) (by first | rfl | simp only [KS, simprocAttr, hq])
  try simp only [keepL, setAll, push_cast, simprocAttr, rS, List.set_set, List.length_set, slC_vals, pk_1]
  apply hK;clear hK K
  refine AW.seq_k fun K hK => ?_
  refine AW.seq_k fun K hK => ?_
  refine AW.viaJ [0, 1, 3, 4, 18, 20, 24] [(199, .one (.bool (decide (A < st) && decide (st < mid))))] [] ?_ ?_
  ·rcases lt3 A st st mid with ⟨k1, k2⟩ | ⟨k1, k2⟩ | k1
   ·have k1z : (A : Int) < (st : Int) := by omega
    have k2z : (st : Int) < (mid : Int) := by omega
    have d1 : decide (A < st) = true := decide_eq_true k1
    have d2 : decide (st < mid) = true := decide_eq_true k2
    refine AW.rg ?_
    have pk_5 : _ ∧ _ ∧ _ ∧ _ ∧ _ := ⟨pk_1, k1z, k2z, d1, d2⟩
    simp only [push_cast, simprocAttr, rS, List.set_set, List.length_set, slC_vals, pk_5]
    refine Thn_n ?_
    try simp only [keepL, setAll, push_cast, simprocAttr, rS, List.set_set, List.length_set, slC_vals, pk_5, d1]
    exact Weak.same (by simp only [KS, simprocAttr, d1]) (by first | rfl | simp only [KS, simprocAttr, d1])
   ·have k1z : (A : Int) < (st : Int) := by omega
    have k2z : ¬ (st : Int) < (mid : Int) := by omega
    have d1 : decide (A < st) = true := decide_eq_true k1
    have d2 : decide (st < mid) = false := decide_eq_false k2
    refine AW.rg ?_
    have pk_6 : _ ∧ _ ∧ _ ∧ _ ∧ _ := ⟨pk_1, k1z, k2z, d1, d2⟩
    simp only [push_cast, simprocAttr, rS, List.set_set, List.length_set, slC_vals, pk_6]
    refine Thn_n ?_
    try simp only [keepL, setAll, push_cast, simprocAttr, rS, List.set_set, List.length_set, slC_vals, pk_6, d1]
    exact Weak.same (by simp only [KS, simprocAttr, d1]) (by first | rfl | simp only [KS, simprocAttr, d1])
   ·have k1z : ¬ (A : Int) < (st : Int) := by omega
    have d1 : decide (A < st) = false := decide_eq_false k1
    refine AW.rg ?_
    simp only [push_cast, simprocAttr, rS, List.set_set, List.length_set, slC_vals, pk_1, k1z, d1]
    refine Thn_n ?_
    try simp only [keepL, setAll, push_cast, simprocAttr, rS, List.set_set, List.length_set, slC_vals, pk_1, k1z, d1, d1]
    exact Weak.same (by simp only [KS, simprocAttr, d1]) (by first | rfl | simp only [KS, simprocAttr, d1])
  try simp only [keepL, setAll, push_cast, simprocAttr, rS, List.set_set, List.length_set, slC_vals, pk_1]
  apply hK;clear hK K
  refine AW.condJ rfl [0, 3, 4, 18, 24] [] [(rs, rS v n g1)] (fun h199 => ?_) (fun h199 => ?_) ?_
  ·have hq : A < st ∧ st < mid := by simpa using h199
   refine AW.rg ?_
   simp only [push_cast, simprocAttr, rS, List.set_set, List.length_set, slC_vals, pk_1]
   refine CThen.by (c1 hq.1 hq.2) ?_
   simp only [push_cast, simprocAttr, rS, List.set_set, List.length_set, slC_vals, pk_1]
   refine Thn_n ?_
   try simp only [keepL, setAll, push_cast, simprocAttr, rS, List.set_set, List.length_set, slC_vals, pk_1, hq]
   exact Weak.same (by simp only [KS, simprocAttr, hq]) (by first | rfl | simp only [KS, simprocAttr, hq])
  ·have hq : g1 = rot f st M e := e1 (by simpa using h199)
   refine AW.skip ?_
   refine Thn_n ?_
   try simp only [keepL, setAll, push_cast, simprocAttr, rS, List.set_set, List.length_set, slC_vals, pk_1, hq]
   exact Weak.same (by simp only [KS, simprocAttr, hq]) (by first | rfl | simp only [KS, simprocAttr, hq])
  try simp only [keepL, setAll, push_cast, simprocAttr, rS, List.set_set, List.length_set, slC_vals, pk_1]
  apply hK;clear hK K
  refine AW.seq_k fun K hK => ?_
  refine AW.viaJ [0, 3, 4, 18, 24] [(213, .one (.bool (decide (mid < e) && decide (e < B))))] [] ?_ ?_
  ·rcases lt3 mid e e B with ⟨k1, k2⟩ | ⟨k1, k2⟩ | k1
   ·have k1z : (mid : Int) < (e : Int) := by omega
    have k2z : (e : Int) < (B : Int) := by omega
    have d1 : decide (mid < e) = true := decide_eq_true k1
    have d2 : decide (e < B) = true := decide_eq_true k2
    refine AW.rg ?_
    have pk_7 : _ ∧ _ ∧ _ ∧ _ ∧ _ := ⟨pk_1, k1z, k2z, d1, d2⟩
    simp only [push_cast, simprocAttr, rS, List.set_set, List.length_set, slC_vals, pk_7]
    refine Thn_n ?_
    try simp only [keepL, setAll, push_cast, simprocAttr, rS, List.set_set, List.length_set, slC_vals, pk_7, d1]
    exact Weak.same (by simp only [KS, simprocAttr, d1]) (by first | rfl | simp only [KS, simprocAttr, d1])
   ·have k1z : (mid : Int) < (e : Int) := by omega
    have k2z : ¬ (e : Int) < (B : Int) := by omega
    have d1 : decide (mid < e) = true := decide_eq_true k1
    have d2 : decide (e < B) = false := decide_eq_false k2
    refine AW.rg ?_
    have pk_8 : _ ∧ _ ∧ _ ∧ _ ∧ _ := ⟨pk_1, k1z, k2z, d1, d2⟩
    simp only [push_cast, simprocAttr, rS, List.set_set, List.length_set, slC_vals, pk_8]
    refine Thn_n ?_
    try simp only [keepL, setAll, push_cast, simprocAttr, rS, List.set_set, List.length_set, slC_vals, pk_8, d1]
    exact Weak.same (by simp only [KS, simprocAttr, d1]) (by first | rfl | simp only [KS, simprocAttr, d1])
   ·have k1z : ¬ (mid : Int) < (e : Int) := by omega
    have d1 : decide (mid < e) = false := decide_eq_false k1
    refine AW.rg ?_
    simp only [push_cast, simprocAttr, rS, List.set_set, List.length_set, slC_vals, pk_1, k1z, d1]
    refine Thn_n ?_
    try simp only [keepL, setAll, push_cast, simprocAttr, rS, List.set_set, List.length_set, slC_vals, pk_1, k1z, d1, d1]
    exact Weak.same (by simp only [KS, simprocAttr, d1]) (by first | rfl | simp only [KS, simprocAttr, d1])
  try simp only [keepL, setAll, push_cast, simprocAttr, rS, List.set_set, List.length_set, slC_vals, pk_1]
  apply hK;clear hK K
  refine AW.condJ rfl [] [] [(rs, rS v n g2)] (fun h213 => ?_) (fun h213 => ?_) ?_
  ·have hq : mid < e ∧ e < B := by simpa using h213
   refine AW.rg ?_
   simp only [push_cast, simprocAttr, rS, List.set_set, List.length_set, slC_vals, pk_1]
   refine CThen.by (c2 hq.1 hq.2) ?_
   simp only [push_cast, simprocAttr, rS, List.set_set, List.length_set, slC_vals, pk_1]
   refine Thn_n ?_
   try simp only [keepL, setAll, push_cast, simprocAttr, rS, List.set_set, List.length_set, slC_vals, pk_1, hq]
   exact Weak.same (by simp only [KS, simprocAttr, hq]) (by first | rfl | simp only [KS, simprocAttr, hq])
  ·have hq : g2 = g1 := e2 (by simpa using h213)
   refine AW.skip ?_
   refine Thn_n ?_
   try simp only [keepL, setAll, push_cast, simprocAttr, rS, List.set_set, List.length_set, slC_vals, pk_1, hq]
   exact Weak.same (by simp only [KS, simprocAttr, hq]) (by first | rfl | simp only [KS, simprocAttr, hq])
  try simp only [keepL, setAll, push_cast, simprocAttr, rS, List.set_set, List.length_set, slC_vals, pk_1]
  refine hQ _ _ _ ?_
  rw [show (m.set rs (rS v n f)).length = m.length from List.length_set]
  first | refine RetP.dropM0 (by rw [List.length_set]) (by first | exact Or.inr rfl | exact Or.inl rfl) ?_ ?_ (hwfM _) | refine RetP.dropM (by rw [List.length_set]) (by first | exact Or.inr rfl | exact Or.inl rfl) ?_ ?_ (hwfM _)
  · rfl
  · rfl
theorem sym_c (n : Nat) (hn : n ≤ 1048576) : ∀ (N A M B : Nat) (f : Nat → SL), (∀ i, OkS (f i)) → B - A ≤ N → A < M → M < B → B ≤ n → KSrt SL.fr f A M → KSrt SL.fr f M B → ∃ g, KSrt SL.fr g A B ∧ PermOn A B f g ∧ ∀ (rs v : Nat) (m : AMem), rs < m.length → Ctr Try.prog 89 [.one (.sl rs v 0 n), .one (.int .i64 (A : Int)), .one (.int .i64 (M : Int)), .one (.int .i64 (B : Int)), .one (.fn 63 [])] (m.set rs (rS v n (f))) (.tup []) (m.set rs (rS v n (g)))
 | 0, A, M, B, f, hf, h, h1, h2, h3, s1, s2 => by omega
 | N + 1, A, M, B, f, hf, h, h1, h2, h3, s1, s2 => by
  have hset : ∀ (rs v : Nat) (m : AMem) (g g' : Nat → SL), (m.set rs (rS v n g)).set rs (rS v n g') = m.set rs (rS v n g') := fun rs v m g g' => List.set_set ..
  by_cases c1 : M = A + 1
  ·obtain ⟨R, r1, r2, r3, r4⟩ := edge_ex (fun x => (f x).fr < (f A).fr) M (B - M) fun x y a b c d => by
    have := s2 x y a b (by omega); omega
   rw [show M + (B - M) = B by omega] at r2 r4
   refine ⟨rotL f A (R - 1), symL SL.fr s2 c1 r1 r2 r3 r4, rotL_perm (by omega) (by omega), fun rs v m hm => ?_⟩
   have := sym_l rs v n f (m.set rs (rS v n f)) (List.getElem?_set_self hm) hf hn A M B R c1 r1 r2 h3 r3 r4
   rwa [hset] at this
  ·by_cases c2 : B = M + 1
   ·obtain ⟨R, r1, r2, r3, r4⟩ := edge_ex (fun x => ¬ (f M).fr < (f x).fr) A (M - A) fun x y a b c d => by
     have := s1 x y a b (by omega); omega
    rw [show A + (M - A) = M by omega] at r2 r4
    refine ⟨Eng.rotR f R M, symR SL.fr s1 c2 r1 r2 r3 (fun x a b => Classical.not_not.1 (r4 x a b)), rotR_perm r1 r2 (by omega), fun rs v m hm => ?_⟩
    have := sym_r rs v n f (m.set rs (rS v n f)) (List.getElem?_set_self hm) hf hn A M B R c2 (by omega) r1 r2 h3 r3 (fun x a b => Classical.not_not.1 (r4 x a b))
    rwa [hset] at this
   ·obtain ⟨mid, hmid⟩ : ∃ q, q = (A + B) / 2 := ⟨_, rfl⟩
    obtain ⟨nn, hnn⟩ : ∃ q, q = mid + M := ⟨_, rfl⟩
    obtain ⟨s0, r0, hs⟩ : ∃ s0 r0, SymS A M B mid nn s0 r0 := by
     rcases Nat.lt_or_ge mid M with k | k
     ·exact ⟨nn - B, mid, .inl ⟨k, rfl, rfl⟩⟩
     ·exact ⟨A, M, .inr ⟨k, rfl, rfl⟩⟩
    obtain ⟨l1, l2, l3, l4, l5⟩ := hs.lin (by omega) (by omega) (by omega) (by omega) hnn
    obtain ⟨st, r1, r2, r3, r4⟩ := edge_ex (fun c => ¬ (f (nn - 1 - c)).fr < (f c).fr) s0 (r0 - s0) fun x y a b c d => by
     have e1 := s1 x y (by omega) b (by omega)
     have e2 := s2 (nn - 1 - y) (nn - 1 - x) (by omega) (by omega) (by omega)
     omega
    rw [show s0 + (r0 - s0) = r0 by omega] at r2 r4
    have r4' : ∀ c, st ≤ c → c < r0 → (f (nn - 1 - c)).fr < (f c).fr := fun c a b => Classical.not_not.1 (r4 c a b)
    obtain ⟨e, he⟩ : ∃ q, q = nn - st := ⟨_, rfl⟩
    obtain ⟨q1, q2, q3, q4, q5, q6, q7, q8, q9, q10, q11⟩ := symM SL.fr s1 s2 h1 h2 hmid hnn hs r1 r2 r3 r4'
    rw [← he] at q1 q2 q3 q4 q5 q8 q9 q11
    have hfr := rot_ok hf st M e
    have hp0 : PermOn A B f (rot f st M e) := (rot_perm q10 q11).wide q6 q9
    obtain ⟨g1, p1, k1, c1', e1'⟩ : ∃ g1, PermOn A mid (rot f st M e) g1 ∧ KSrt SL.fr g1 A mid ∧ (A < st → st < mid → ∀ (rs v : Nat) (m : AMem), rs < m.length → Ctr Try.prog 89 [.one (.sl rs v 0 n), .one (.int .i64 (A : Int)), .one (.int .i64 (st : Int)), .one (.int .i64 (mid : Int)), .one (.fn 63 [])] (m.set rs (rS v n (rot f st M e))) (.tup []) (m.set rs (rS v n (g1)))) ∧ (¬ (A < st ∧ st < mid) → g1 = rot f st M e) := by
     by_cases hc : A < st ∧ st < mid
     ·obtain ⟨g, x1, x2, x3⟩ := sym_c n hn N A st mid (rot f st M e) hfr (by omega) hc.1 hc.2 (by omega) q1 q2
      exact ⟨g, x2, x1, fun _ _ => x3, fun h => absurd hc h⟩
     ·refine ⟨rot f st M e, PermOn.refl _ _ _, ?_, fun a b => absurd ⟨a, b⟩ hc, fun _ => rfl⟩
      rcases Nat.lt_or_ge A st with k | k
      ·exact q1.sub SL.fr (Nat.le_refl _) (by omega)
      ·exact q2.sub SL.fr (by omega) (Nat.le_refl _)
    have hg1 := perm_ok hfr p1
    have q3' : KSrt SL.fr g1 mid e := q3.congr SL.fr fun x a b => p1.out (by omega)
    have q4' : KSrt SL.fr g1 e B := q4.congr SL.fr fun x a b => p1.out (by omega)
    obtain ⟨g2, p2, k2, c2', e2'⟩ : ∃ g2, PermOn mid B g1 g2 ∧ KSrt SL.fr g2 mid B ∧ (mid < e → e < B → ∀ (rs v : Nat) (m : AMem), rs < m.length → Ctr Try.prog 89 [.one (.sl rs v 0 n), .one (.int .i64 (mid : Int)), .one (.int .i64 (e : Int)), .one (.int .i64 (B : Int)), .one (.fn 63 [])] (m.set rs (rS v n (g1))) (.tup []) (m.set rs (rS v n (g2)))) ∧ (¬ (mid < e ∧ e < B) → g2 = g1) := by
     by_cases hc : mid < e ∧ e < B
     ·obtain ⟨g, x1, x2, x3⟩ := sym_c n hn N mid e B g1 hg1 (by omega) hc.1 hc.2 (by omega) q3' q4'
      exact ⟨g, x2, x1, fun _ _ => x3, fun h => absurd hc h⟩
     ·refine ⟨g1, PermOn.refl _ _ _, ?_, fun a b => absurd ⟨a, b⟩ hc, fun _ => rfl⟩
      rcases Nat.lt_or_ge mid e with k | k
      ·exact q3'.sub SL.fr (Nat.le_refl _) (by omega)
      ·exact q4'.sub SL.fr (by omega) (Nat.le_refl _)
    obtain ⟨y1, y2⟩ := symE SL.fr q5 p1 k1 p2 k2 (by omega) (by omega)
    exact ⟨g2, y1, hp0.trans y2, fun rs v m hm => sym_m rs v n f g1 g2 m hm hf hn A M B mid nn st s0 r0 e (by omega) (by omega) h3 (by omega) (by omega) hnn hs r1 r2 he r3 r4' (fun a b => c1' a b rs v m hm) e1' (fun a b => c2' a b rs v m hm) e2'⟩
structure SymOk (n A M B : Nat) (f : Nat → SL) : Prop where
 hn : n ≤ 1048576
 hf : ∀ i, OkS (f i)
 ha : A < M
 hm : M < B
 hb : B ≤ n
 hs : KSrt SL.fr f A M
 ht : KSrt SL.fr f M B
theorem SymOk.ex {n A M B : Nat} {f : Nat → SL} (h : SymOk n A M B f) : ∃ g, KSrt SL.fr g A B ∧ PermOn A B f g ∧ ∀ (rs v : Nat) (m : AMem), rs < m.length → Ctr Try.prog 89 [.one (.sl rs v 0 n), .one (.int .i64 (A : Int)), .one (.int .i64 (M : Int)), .one (.int .i64 (B : Int)), .one (.fn 63 [])] (m.set rs (rS v n (f))) (.tup []) (m.set rs (rS v n (g))) :=
 sym_c n h.hn (B - A) A M B f h.hf (Nat.le_refl _) h.ha h.hm h.hb h.hs h.ht
open Classical in
noncomputable def symG (n A M B : Nat) (f : Nat → SL) : Nat → SL := if h : SymOk n A M B f then Classical.choose h.ex else f
theorem symG_spec {n A M B : Nat} {f : Nat → SL} (h : SymOk n A M B f) : KSrt SL.fr (symG n A M B f) A B ∧ PermOn A B f (symG n A M B f) ∧ ∀ (rs v : Nat) (m : AMem), rs < m.length → Ctr Try.prog 89 [.one (.sl rs v 0 n), .one (.int .i64 (A : Int)), .one (.int .i64 (M : Int)), .one (.int .i64 (B : Int)), .one (.fn 63 [])] (m.set rs (rS v n (f))) (.tup []) (m.set rs (rS v n ((symG n A M B f)))) := by
 unfold symG; rw [dif_pos h]; exact Classical.choose_spec h.ex
def blkI : Nat → (Nat → SL) → (Nat → SL)
 | 0, f => f
 | k + 1, f => insS SL.fr (k * 20) 19 (blkI k f)
theorem ins_end {a n : Nat} (g : Nat → SL) (h : a ≤ n) : PermOn a n g (insS SL.fr a (n - a - 1) g) ∧ KSrt SL.fr (insS SL.fr a (n - a - 1) g) a n := by
 rcases Nat.lt_or_ge a n with h1 | h1
 ·have p := insS_perm SL.fr a g (n - a - 1)
  have s := insS_srt SL.fr a g (n - a - 1)
  rw [show a + (n - a - 1) + 1 = n by omega] at p s
  exact ⟨p, s⟩
 ·rw [show n - a - 1 = 0 by omega]
  exact ⟨PermOn.refl _ _ _, fun i j a b c => by omega⟩
theorem blkI_spec {n : Nat} (f : Nat → SL) : ∀ k, k * 20 ≤ n → KBlk SL.fr (blkI k f) 20 0 (k * 20) ∧ PermOn 0 n f (blkI k f)
 | 0, _ => ⟨fun i j a b c => by omega, PermOn.refl _ _ _⟩
 | k + 1, h => by
  obtain ⟨h1, h2⟩ := blkI_spec (n := n) f k (by omega)
  have p := insS_perm SL.fr (k * 20) (blkI k f) 19
  have s := insS_srt SL.fr (k * 20) (blkI k f) 19
  rw [show k * 20 + 19 + 1 = (k + 1) * 20 by omega] at p s
  exact ⟨KBlk.snoc (n := 0) SL.fr h1 p s rfl (by decide) (by omega), h2.trans (p.wide (by omega) (by omega))⟩
def insA (n : Nat) (f : Nat → SL) : Nat → SL := insS SL.fr (n / 20 * 20) (n - n / 20 * 20 - 1) (blkI (n / 20) f)
theorem insA_spec (n : Nat) (f : Nat → SL) : KBlk SL.fr (insA n f) 20 0 n ∧ PermOn 0 n f (insA n f) := by
 obtain ⟨h1, h2⟩ := blkI_spec (n := n) f (n / 20) (by omega)
 obtain ⟨p, s⟩ := ins_end (a := n / 20 * 20) (n := n) (blkI (n / 20) f) (by omega)
 exact ⟨KBlk.snoc (n := 0) SL.fr h1 p s rfl (by decide) (by omega), h2.trans (p.wide (by omega) (Nat.le_refl _))⟩
noncomputable def pasM (n w : Nat) : Nat → (Nat → SL) → (Nat → SL)
 | 0, f => f
 | k + 1, f => symG n (k * (2 * w)) (k * (2 * w) + w) (k * (2 * w) + 2 * w) (pasM n w k f)
structure PasOk (n w k : Nat) (f g : Nat → SL) : Prop where
 s : KBlk SL.fr g (2 * w) 0 (k * (2 * w))
 r : KBlk SL.fr g w (k * (2 * w)) n
 p : PermOn 0 n f g
theorem PasOk.sym {n w k : Nat} {f g : Nat → SL} (h : PasOk n w k f g) (hn : n ≤ 1048576) (hf : ∀ i, OkS (f i)) (hw : 0 < w) {b : Nat} (h1 : k * (2 * w) + w < b) (h2 : b ≤ k * (2 * w) + 2 * w) (h3 : b ≤ n) : SymOk n (k * (2 * w)) (k * (2 * w) + w) b g := by
 have e : k * (2 * w) = (2 * k) * w := by rw [← Nat.mul_assoc, Nat.mul_comm k 2]
 have e2 : k * (2 * w) + w = (2 * k + 1) * w := by rw [e, Nat.add_mul, Nat.one_mul]
 exact ⟨hn, perm_ok hf h.p, by omega, h1, h3, h.r.at SL.fr hw (Nat.le_refl _) e (by omega) (by omega), h.r.at SL.fr hw (by omega) e2 (by omega) h3⟩
theorem pasM_spec {n w : Nat} {f g : Nat → SL} (hn : n ≤ 1048576) (hf : ∀ i, OkS (f i)) (hw : 0 < w) (hb : KBlk SL.fr g w 0 n) (hp : PermOn 0 n f g) : ∀ k, k * (2 * w) ≤ n → PasOk n w k f (pasM n w k g)
 | 0, _ => ⟨fun i j a b c => by omega, by rw [Nat.zero_mul]; exact hb, hp⟩
 | k + 1, h => by
  rw [Nat.succ_mul k (2 * w)] at h
  have ih := pasM_spec hn hf hw hb hp k (by omega)
  obtain ⟨s, p, _⟩ := symG_spec (ih.sym hn hf hw (b := k * (2 * w) + 2 * w) (by omega) (Nat.le_refl _) h)
  refine ⟨?_, ?_, ?_⟩
  ·rw [Nat.succ_mul k (2 * w)]; exact KBlk.snoc (n := 0) SL.fr ih.s p s rfl (by omega) (Nat.le_refl _)
  ·rw [Nat.succ_mul k (2 * w)]; exact KBlk.rest (k := 0) SL.fr ih.r p (by omega)
  ·exact ih.p.trans (p.wide (by omega) h)
noncomputable def pasE (n w : Nat) (f : Nat → SL) : Nat → SL :=
 if n / (2 * w) * (2 * w) + w < n then symG n (n / (2 * w) * (2 * w)) (n / (2 * w) * (2 * w) + w) n (pasM n w (n / (2 * w)) f) else pasM n w (n / (2 * w)) f
theorem pasE_spec {n w : Nat} {f g : Nat → SL} (hn : n ≤ 1048576) (hf : ∀ i, OkS (f i)) (hw : 0 < w) (hb : KBlk SL.fr g w 0 n) (hp : PermOn 0 n f g) : KBlk SL.fr (pasE n w g) (2 * w) 0 n ∧ PermOn 0 n f (pasE n w g) := by
 have hk : n / (2 * w) * (2 * w) ≤ n := Nat.div_mul_le_self _ _
 have hk2 : n < n / (2 * w) * (2 * w) + 2 * w := by have := Nat.lt_div_mul_add (a := n) (b := 2 * w) (by omega); omega
 have ih := pasM_spec hn hf hw hb hp (n / (2 * w)) hk
 unfold pasE
 split
 ·rename_i hc
  obtain ⟨s, p, _⟩ := symG_spec (ih.sym hn hf hw (b := n) hc (by omega) (Nat.le_refl _))
  exact ⟨KBlk.snoc (n := 0) SL.fr ih.s p s rfl (by omega) (by omega), ih.p.trans (p.wide (by omega) (Nat.le_refl _))⟩
 ·rename_i hc
  have e : n / (2 * w) * (2 * w) = (2 * (n / (2 * w))) * w := by rw [← Nat.mul_assoc, Nat.mul_comm _ 2]
  exact ⟨KBlk.snoc (n := 0) SL.fr ih.s (PermOn.refl _ _ _) (ih.r.at SL.fr hw (Nat.le_refl _) e (by omega) (Nat.le_refl _)) rfl (by omega) (by omega), ih.p⟩
noncomputable def outG (n : Nat) (f : Nat → SL) : Nat → (Nat → SL)
 | 0 => insA n f
 | t + 1 => pasE n (20 * 2 ^ t) (outG n f t)
theorem outG_spec {n : Nat} {f : Nat → SL} (hn : n ≤ 1048576) (hf : ∀ i, OkS (f i)) : ∀ t, KBlk SL.fr (outG n f t) (20 * 2 ^ t) 0 n ∧ PermOn 0 n f (outG n f t)
 | 0 => insA_spec n f
 | t + 1 => by
  obtain ⟨h1, h2⟩ := outG_spec hn hf t
  have hw : 0 < 20 * 2 ^ t := by have := Nat.two_pow_pos t; omega
  have := pasE_spec hn hf hw h1 h2
  rw [show 20 * 2 ^ (t + 1) = 2 * (20 * 2 ^ t) by rw [Nat.pow_succ]; omega]
  exact this
theorem stT_ex (n : Nat) : ∃ T, n ≤ 20 * 2 ^ T ∧ ∀ t, t < T → 20 * 2 ^ t < n := by
 have h : ∃ T, n ≤ 20 * 2 ^ T := ⟨n, by have : n < 2 ^ n := Nat.lt_two_pow_self; omega⟩
 have go : ∀ k, n ≤ 20 * 2 ^ k → ∃ T, n ≤ 20 * 2 ^ T ∧ ∀ t, t < T → 20 * 2 ^ t < n := by
  intro k
  induction k with
  | zero => exact fun h => ⟨0, h, fun t ht => by omega⟩
  | succ k ih =>
   intro h
   rcases Nat.lt_or_ge (20 * 2 ^ k) n with h1 | h1
   ·refine ⟨k + 1, h, fun t ht => ?_⟩
    have : 2 ^ t ≤ 2 ^ k := Nat.pow_le_pow_right (by decide) (by omega)
    omega
   ·exact ih h1
 exact go h.choose h.choose_spec
noncomputable def stT (n : Nat) : Nat := (stT_ex n).choose
noncomputable def stG (n : Nat) (f : Nat → SL) : Nat → SL := outG n f (stT n)
theorem stG_spec {n : Nat} {f : Nat → SL} (hn : n ≤ 1048576) (hf : ∀ i, OkS (f i)) : KSrt SL.fr (stG n f) 0 n ∧ PermOn 0 n f (stG n f) := by
 obtain ⟨h1, h2⟩ := outG_spec hn hf (stT n)
 exact ⟨KBlk.all SL.fr h1 (stT_ex n).choose_spec.1, h2⟩
theorem div_lt {k w n K : Nat} (hK : K = n / w) (hw : 0 < w) (h : k * w + w ≤ n) : k < K := by
 rw [hK, Nat.lt_iff_add_one_le, Nat.le_div_iff_mul_le hw, Nat.succ_mul]; exact h
theorem div_ge {k w n K : Nat} (hK : K = n / w) (hw : 0 < w) (h : n < k * w + w) : K ≤ k := by
 rw [hK, Nat.div_le_iff_le_mul_add_pred hw]
 have := Nat.mul_comm w k
 omega
theorem sym_at (rs v n w k a c b : Nat) (f g : Nat → SL) (h : PasOk n w k f g) (hn : n ≤ 1048576) (hf : ∀ i, OkS (f i)) (hw : 0 < w) (ha : a = k * (2 * w)) (hc : c = a + w) (h1 : c < b) (h2 : b ≤ a + 2 * w) (h3 : b ≤ n) (m : AMem) (hm : rs < m.length) : Ctr Try.prog 89 [.one (.sl rs v 0 n), .one (.int .i64 (a : Int)), .one (.int .i64 (c : Int)), .one (.int .i64 (b : Int)), .one (.fn 63 [])] (m.set rs (rS v n (g))) (.tup []) (m.set rs (rS v n ((symG n a c b g)))) := by
 subst ha; subst hc
 exact (symG_spec (h.sym hn hf hw h1 h2 h3)).2.2 rs v m hm
theorem stable_c (rs v n : Nat) (f : Nat → SL) (m : AMem) (hr : m[rs]? = some (rS v n f)) (hf : ∀ i, OkS (f i)) (hn : n ≤ 1048576) : Ctr Try.prog 73 [.one (.sl rs v 0 n), .one (.int .i64 (n : Int)), .one (.fn 63 [])] m (.tup []) (m.set rs (rS v n (stG n f))) := by
 refine Ctr.enter Try.func73 rfl (by decide) (rs := []) (nt := 63) rfl rfl fun hwf Q hQ => ?_
 have lr := get_lt hr
 have gS := fun (l : AMem) (b : Blk) (e : l.length = m.length) => mk_self (m := m) (l := l) (r := rs) e lr b
 have sS := fun (l L : AMem) (e : l.length = m.length) => mk_olds (m := m) (l := l) (r := rs) e lr L
 have kS := fun (l L : AMem) (e : l.length = m.length) => mk_old (m := m) (l := l) (r := rs) e lr L
 have hr2 : m.set rs (rS v n f) = m := set_self hr
 have hwfM := fun g => rS_wf (m := m) (rs := rs) (v := v) (n := n) hwf g
 have okI := fun k => perm_ok hf (blkI_spec (n := k * 20) f k (Nat.le_refl _)).2
 have hset : ∀ g g' : Nat → SL, (m.set rs (rS v n g)).set rs (rS v n g') = m.set rs (rS v n g') := fun g g' => List.set_set ..
 obtain ⟨T, hT⟩ : ∃ T, T = stT n := ⟨_, rfl⟩
 have hT1 : n ≤ 20 * 2 ^ T := by rw [hT]; exact (stT_ex n).choose_spec.1
 have hT2 : ∀ t, t < T → 20 * 2 ^ t < n := by rw [hT]; exact (stT_ex n).choose_spec.2
 have hfin : stG n f = outG n f T := by rw [hT]; rfl
 obtain ⟨K0, hK0⟩ : ∃ K, K = n / 20 := ⟨_, rfl⟩
 obtain ⟨a0, ha0⟩ : ∃ K, K = K0 * 20 := ⟨_, rfl⟩
 have hst0 : m.set rs (rS v n (blkI 0 f)) = m := hr2
 have hA : outG n f 0 = insS SL.fr a0 (n - a0 - 1) (blkI K0 f) := by rw [ha0, hK0]; rfl
 refine AW.sr 2 fun K hK => ?_
 simp only [push_cast, simprocAttr, gS, sS, kS, rS, List.set_set, List.length_set, slC_vals]
 apply hK;clear hK K
 refine AW.seq_k fun K hK => ?_
 refine AW.block ?_
 refine AW.loopK [0, 1, 2, 6] (fun (q : Nat × Nat × Nat) => q.2.1 = q.1 * 20 ∧ q.2.2 = q.2.1 + 20 ∧ q.1 ≤ K0) (fun (q : Nat × Nat × Nat) => [(7, .one (.int .i64 (q.2.1 : Int))), (8, .one (.int .i64 (q.2.2 : Int)))]) (fun (q : Nat × Nat × Nat) => [(rs, rS v n (blkI q.1 f))]) (fun (q : Nat × Nat × Nat) => K0 - q.1) (0, 0, 20) ⟨rfl, rfl, Nat.zero_le _⟩ ?_ ?_ fun (q : Nat × Nat × Nat) hi2 => ?_
 · simp only [KS, simprocAttr] <;> exact ⟨rfl, rfl⟩
 · exact hst0
 obtain ⟨k, a, b⟩ := q
 obtain ⟨i1, i2, i3⟩ := hi2
 simp only at i1 i2 i3
 try simp only [keepL, setAll, push_cast, simprocAttr, gS, sS, kS, rS, List.set_set, List.length_set, slC_vals]
 refine AW.seq_k fun K hK => ?_
 refine AW.sr 1 fun K hK => ?_
 simp only [push_cast, simprocAttr, gS, sS, kS, rS, List.set_set, List.length_set, slC_vals]
 apply hK;clear hK K
 refine AW.cond rfl (fun h13 => ?_) (fun h13 => ?_)
 ·have hle : b ≤ n := by have := of_decide_eq_true h13; omega
  have hkK : k < K0 := by omega
  obtain ⟨b2, hb2⟩ : ∃ z : Nat, z = b + 20 := ⟨_, rfl⟩
  have wb2 : IntKind.i64.wrap ((b : Int) + 20) = (b2 : Int) := by rw [wi (by omega)]; omega
  have hq : insS SL.fr a (b - a - 1) (blkI k f) = blkI (k + 1) f := by rw [show b - a - 1 = 19 by omega, i1]; rfl
  obtain ⟨nx, hnx, hnI, hnmu⟩ : ∃ nx : Nat × Nat × Nat, nx = (k + 1, b, b2) ∧ (nx.2.1 = nx.1 * 20 ∧ nx.2.2 = nx.2.1 + 20 ∧ nx.1 ≤ K0) ∧ K0 - nx.1 < K0 - k := ⟨_, rfl, ⟨by show b = (k + 1) * 20; omega, hb2, by show k + 1 ≤ K0; omega⟩, by show K0 - (k + 1) < K0 - k; omega⟩
  refine AW.skip ?_
  apply hK;clear hK K
  refine AW.block ?_
  refine AW.sr 2 fun K hK => ?_
  have pk_1 : _ ∧ _ ∧ _ ∧ _ := ⟨gS, sS, kS, wb2⟩
  simp only [push_cast, simprocAttr, rS, List.set_set, List.length_set, slC_vals, pk_1]
  refine CThen.by (ins_c rs v n (blkI k f) _ (mk_self rfl lr _) (okI k) hn a b hle (by omega)) ?_
  simp only [push_cast, simprocAttr, rS, List.set_set, List.length_set, slC_vals, pk_1]
  apply hK;clear hK K
  refine AW.rg ?_
  simp only [push_cast, simprocAttr, rS, List.set_set, List.length_set, slC_vals, pk_1]
  refine InB_n ?_
  refine Thn_n ?_
  refine ⟨nx, hnI, hnmu, ?_⟩
  try simp only [keepL, setAll, push_cast, simprocAttr, rS, List.set_set, List.length_set, slC_vals, pk_1, hnx, hq]
  exact Weak.same (by simp only [KS, simprocAttr, hnx, hq]) (by first | rfl | simp only [KS, simprocAttr, hnx, hq])
 ·have hgt : n < b := by have := of_decide_eq_false h13; omega
  have hkK : K0 = k := by omega
  have haa : a0 = a := by omega
  subst hkK
  subst haa
  refine AW.exit ?_
  refine Thn_e ?_
  clear hK K
  refine Thn_e ?_
  refine InB_here ?_
  apply hK;clear hK K
  refine AW.sr 1 fun K hK => ?_
  simp only [push_cast, simprocAttr, gS, sS, kS, rS, List.set_set, List.length_set, slC_vals]
  refine CThen.by (ins_c rs v n (blkI K0 f) _ (mk_self rfl lr _) (okI K0) hn a0 n (Nat.le_refl _) (by omega)) ?_
  simp only [push_cast, simprocAttr, gS, sS, kS, rS, List.set_set, List.length_set, slC_vals]
  apply hK;clear hK K
  refine AW.block ?_
  refine AW.loopK [0, 1, 2] (fun (q : Nat × Nat) => q.2 = 20 * 2 ^ q.1 ∧ q.1 ≤ T) (fun (q : Nat × Nat) => [(6, .one (.int .i64 (q.2 : Int)))]) (fun (q : Nat × Nat) => [(rs, rS v n (outG n f q.1))]) (fun (q : Nat × Nat) => T - q.1) (0, 20) ⟨rfl, Nat.zero_le _⟩ ?_ ?_ fun (q : Nat × Nat) hi4 => ?_
  · first | rfl | (simp only [KS, simprocAttr, hA] <;> repeat' (first | rfl | apply And.intro))
  · first | rfl | (simp only [setAll, push_cast, simprocAttr, gS, sS, kS, rS, List.set_set, List.length_set, slC_vals, hA] <;> rfl)
  obtain ⟨t, w⟩ := q
  obtain ⟨i1, i2⟩ := hi4
  simp only at i1 i2
  have hw0 : 0 < 20 * 2 ^ t := by have := Nat.two_pow_pos t; omega
  have hw1 : 0 < w := by omega
  try simp only [keepL, setAll, push_cast, simprocAttr, gS, sS, kS, rS, List.set_set, List.length_set, slC_vals]
  refine AW.seq_k fun K hK => ?_
  refine AW.sr 1 fun K hK => ?_
  simp only [push_cast, simprocAttr, gS, sS, kS, rS, List.set_set, List.length_set, slC_vals]
  apply hK;clear hK K
  refine AW.cond rfl (fun h30 => ?_) (fun h30 => ?_)
  ·have hlt : w < n := by have := of_decide_eq_true h30; omega
   have htT : t < T := Classical.byContradiction fun hc => by
     have e : t = T := by omega
     rw [e] at i1; omega
   obtain ⟨w2, hw2⟩ : ∃ z : Nat, z = 2 * w := ⟨_, rfl⟩
   have ww2 : IntKind.i64.wrap (2 * (w : Int)) = (w2 : Int) := by rw [wi (by omega)]; omega
   have w2b : IntKind.i64.wrap ((w : Int) * 2) = (w2 : Int) := by rw [wi (by omega)]; omega
   obtain ⟨Kn, hKn⟩ : ∃ K, K = n / w2 := ⟨_, rfl⟩
   have hw20 : 0 < w2 := by omega
   have hP := pasM_spec hn hf hw0 (outG_spec hn hf t).1 (outG_spec hn hf t).2
   rw [← i1] at hP
   refine AW.skip ?_
   apply hK;clear hK K
   refine AW.block ?_
   refine AW.sr 1 fun K hK => ?_
   have pk_2 : _ ∧ _ ∧ _ ∧ _ ∧ _ := ⟨gS, sS, kS, ww2, w2b⟩
   simp only [push_cast, simprocAttr, rS, List.set_set, List.length_set, slC_vals, pk_2]
   apply hK;clear hK K
   refine AW.seq_k fun K hK => ?_
   refine AW.block ?_
   refine AW.loopK [0, 1, 2, 6] (fun (q : Nat × Nat × Nat) => q.2.1 = q.1 * w2 ∧ q.2.2 = q.2.1 + w2 ∧ q.1 ≤ Kn) (fun (q : Nat × Nat × Nat) => [(7, .one (.int .i64 (q.2.1 : Int))), (8, .one (.int .i64 (q.2.2 : Int)))]) (fun (q : Nat × Nat × Nat) => [(rs, rS v n (pasM n w q.1 (outG n f t)))]) (fun (q : Nat × Nat × Nat) => Kn - q.1) (0, 0, w2) ⟨by show 0 = 0 * w2; omega, by show w2 = 0 + w2; omega, Nat.zero_le _⟩ ?_ ?_ fun (q : Nat × Nat × Nat) hi7 => ?_
   · first | rfl | (simp only [KS, simprocAttr, pasM] <;> repeat' (first | rfl | apply And.intro))
   · first | rfl | (simp only [setAll, push_cast, simprocAttr, rS, List.set_set, List.length_set, slC_vals, pk_2, pasM] <;> rfl)
   obtain ⟨k, a, b⟩ := q
   obtain ⟨j1, j2, j3⟩ := hi7
   simp only at j1 j2 j3
   have ea : a = k * (2 * w) := by rw [j1, hw2]
   have kb : k * w2 ≤ n := Nat.le_trans (Nat.mul_le_mul_right _ j3) (by rw [hKn]; exact Nat.div_mul_le_self n w2)
   have hPk := hP k (by rw [← hw2]; exact kb)
   obtain ⟨c, hc⟩ : ∃ z : Nat, z = a + w := ⟨_, rfl⟩
   have wc : IntKind.i64.wrap ((a : Int) + (w : Int)) = (c : Int) := by rw [wi (by omega)]; omega
   try simp only [keepL, setAll, push_cast, simprocAttr, rS, List.set_set, List.length_set, slC_vals, pk_2]
   refine AW.seq_k fun K hK => ?_
   refine AW.sr 1 fun K hK => ?_
   simp only [push_cast, simprocAttr, rS, List.set_set, List.length_set, slC_vals, pk_2]
   apply hK;clear hK K
   refine AW.cond rfl (fun h35 => ?_) (fun h35 => ?_)
   ·have hle : b ≤ n := by have := of_decide_eq_true h35; omega
    have hkK : k < Kn := div_lt hKn hw20 (by omega)
    obtain ⟨b2, hb2⟩ : ∃ z : Nat, z = b + w2 := ⟨_, rfl⟩
    have wb2 : IntKind.i64.wrap ((b : Int) + (w2 : Int)) = (b2 : Int) := by rw [wi (by omega)]; omega
    have hq : symG n a c b (pasM n w k (outG n f t)) = pasM n w (k + 1) (outG n f t) := by
      rw [hc, j2, ea, hw2]; rfl
    obtain ⟨nx, hnx, hnI, hnmu⟩ : ∃ nx : Nat × Nat × Nat, nx = (k + 1, b, b2) ∧ (nx.2.1 = nx.1 * w2 ∧ nx.2.2 = nx.2.1 + w2 ∧ nx.1 ≤ Kn) ∧ Kn - nx.1 < Kn - k := ⟨_, rfl, ⟨by show b = (k + 1) * w2; rw [Nat.succ_mul]; omega, hb2, by show k + 1 ≤ Kn; omega⟩, by show Kn - (k + 1) < Kn - k; omega⟩
    refine AW.skip ?_
    apply hK;clear hK K
    refine AW.block ?_
    refine AW.sr 2 fun K hK => ?_
    simp only [push_cast, simprocAttr, rS, List.set_set, List.length_set, slC_vals, pk_2, wc, wb2]
    refine CThen.by ((by have h := sym_at rs v n w k a c b f _ hPk hn hf hw1 ea hc (by omega) (by omega) hle m lr; exact h)) ?_
    simp only [push_cast, simprocAttr, rS, List.set_set, List.length_set, slC_vals, pk_2, wc, wb2]
    apply hK;clear hK K
    refine AW.rg ?_
    simp only [push_cast, simprocAttr, rS, List.set_set, List.length_set, slC_vals, pk_2, wc, wb2]
    refine InB_n ?_
    refine Thn_n ?_
    refine ⟨nx, hnI, hnmu, ?_⟩
    try simp only [keepL, setAll, push_cast, simprocAttr, rS, List.set_set, List.length_set, slC_vals, pk_2, wc, wb2, hnx, hq]
    exact Weak.same (by simp only [KS, simprocAttr, hnx, hq]) (by first | rfl | simp only [KS, simprocAttr, hnx, hq])
   ·have hgt : n < b := by have := of_decide_eq_false h35; omega
    have hkK : Kn = k := Nat.le_antisymm (div_ge hKn hw20 (by omega)) j3
    have ekK : k = n / (2 * w) := by rw [← hkK, hKn, hw2]
    obtain ⟨nx, hnx, hnI, hnmu⟩ : ∃ nx : Nat × Nat, nx = (t + 1, w2) ∧ (nx.2 = 20 * 2 ^ nx.1 ∧ nx.1 ≤ T) ∧ T - nx.1 < T - t := ⟨_, rfl, ⟨by show w2 = 20 * 2 ^ (t + 1); rw [Nat.pow_succ]; omega, by show t + 1 ≤ T; omega⟩, by show T - (t + 1) < T - t; omega⟩
    refine AW.exit ?_
    refine Thn_e ?_
    clear hK K
    refine Thn_e ?_
    refine InB_here ?_
    apply hK;clear hK K
    refine AW.seq_k fun K hK => ?_
    refine AW.sr 2 fun K hK => ?_
    simp only [push_cast, simprocAttr, rS, List.set_set, List.length_set, slC_vals, pk_2, wc]
    apply hK;clear hK K
    refine AW.cond rfl (fun h54 => ?_) (fun h54 => ?_)
    ·have hlt2 : c < n := by have := of_decide_eq_true h54; omega
     have hq : symG n a c n (pasM n w k (outG n f t)) = outG n f (t + 1) := by
       show _ = pasE n (20 * 2 ^ t) _
       unfold pasE
       rw [← i1, ← ekK, ← ea, ← hc, if_pos hlt2]
     refine AW.rg ?_
     simp only [push_cast, simprocAttr, rS, List.set_set, List.length_set, slC_vals, pk_2, wc]
     refine CThen.by ((by have h := sym_at rs v n w k a c n f _ hPk hn hf hw1 ea hc hlt2 (by omega) (Nat.le_refl _) m lr; exact h)) ?_
     simp only [push_cast, simprocAttr, rS, List.set_set, List.length_set, slC_vals, pk_2, wc]
     apply hK;clear hK K
     refine AW.rg ?_
     simp only [push_cast, simprocAttr, rS, List.set_set, List.length_set, slC_vals, pk_2, wc]
     refine InB_n ?_
     refine Thn_n ?_
     refine ⟨nx, hnI, hnmu, ?_⟩
     try simp only [keepL, setAll, push_cast, simprocAttr, rS, List.set_set, List.length_set, slC_vals, pk_2, wc, hnx, hq]
     exact Weak.same (by simp only [KS, simprocAttr, hnx, hq]) (by first | rfl | simp only [KS, simprocAttr, hnx, hq])
    ·have hge2 : ¬ c < n := by have := of_decide_eq_false h54; omega
     have hq : pasM n w k (outG n f t) = outG n f (t + 1) := by
       show _ = pasE n (20 * 2 ^ t) _
       unfold pasE
       rw [← i1, ← ekK, ← ea, ← hc, if_neg hge2]
     refine AW.skip ?_
     apply hK;clear hK K
     refine AW.rg ?_
     simp only [push_cast, simprocAttr, rS, List.set_set, List.length_set, slC_vals, pk_2, wc]
     refine InB_n ?_
     refine Thn_n ?_
     refine ⟨nx, hnI, hnmu, ?_⟩
     try simp only [keepL, setAll, push_cast, simprocAttr, rS, List.set_set, List.length_set, slC_vals, pk_2, wc, hnx, hq]
     exact Weak.same (by simp only [KS, simprocAttr, hnx, hq]) (by first | rfl | simp only [KS, simprocAttr, hnx, hq])
  ·have hge : n ≤ w := by have := of_decide_eq_false h30; omega
   have htT : T = t := Classical.byContradiction fun hc => by
     have := hT2 t (by omega)
     omega
   subst htT
   refine AW.exit ?_
   refine Thn_e ?_
   clear hK K
   refine Thn_e ?_
   refine InB_here ?_
   refine hQ _ _ _ ?_
   rw [hfin]
   first | refine RetP.dropM0 (by rw [List.length_set]) (by first | exact Or.inr rfl | exact Or.inl rfl) ?_ ?_ (hwfM _) | refine RetP.dropM (by rw [List.length_set]) (by first | exact Or.inr rfl | exact Or.inl rfl) ?_ ?_ (hwfM _)
   · rfl
   · rfl
theorem ssort_c (rs v n : Nat) (f : Nat → SL) (m : AMem) (hr : m[rs]? = some (rS v n f)) (hf : ∀ i, OkS (f i)) (hn : n ≤ 1048576) : Ctr Try.prog 62 [.one (.sl rs v 0 n), .one (.fn 63 [])] m (.tup []) (m.set rs (rS v n (stG n f))) := by
 refine Ctr.enter Try.func62 rfl (by decide) (rs := []) (nt := 9) rfl rfl fun hwf Q hQ => ?_
 have lr := get_lt hr
 have gS := fun (l : AMem) (b : Blk) (e : l.length = m.length) => mk_self (m := m) (l := l) (r := rs) e lr b
 have sS := fun (l L : AMem) (e : l.length = m.length) => mk_olds (m := m) (l := l) (r := rs) e lr L
 have kS := fun (l L : AMem) (e : l.length = m.length) => mk_old (m := m) (l := l) (r := rs) e lr L
 have hr2 : m.set rs (rS v n f) = m := set_self hr
 have hwfM := fun g => rS_wf (m := m) (rs := rs) (v := v) (n := n) hwf g
 refine AW.rg ?_
 simp only [push_cast, simprocAttr, gS, sS, kS, rS, List.set_set, List.length_set, slC_vals]
 refine CThen.by (stable_c rs v n f _ hr hf hn) ?_
 simp only [push_cast, simprocAttr, gS, sS, kS, rS, List.set_set, List.length_set, slC_vals]
 refine hQ _ _ _ ?_
 first | refine RetP.dropM0 (by rw [List.length_set]) (by first | exact Or.inr rfl | exact Or.inl rfl) ?_ ?_ (hwfM _) | refine RetP.dropM (by rw [List.length_set]) (by first | exact Or.inr rfl | exact Or.inl rfl) ?_ ?_ (hwfM _)
 · rfl
 · rfl
structure VS where
 k : Nat
 f : Nat → SL
 data : Int
 dead : Int
def vtB (rd rl : Nat) (V : VS) : Blk := ⟨.fix, 77, 0, 0, [.ptr rd 0 0, .sl rl 0 0 V.k, .int .i64 V.data, .int .i64 V.dead]⟩
structure HasV (m : AMem) (rv rl rd : Nat) (V : VS) : Prop where
 v : m[rv]? = some (vtB rd rl V)
 l : m[rl]? = some (rS 0 V.k V.f)
theorem HasV.ne {m : AMem} {rv rl rd : Nat} {V : VS} (h : HasV m rv rl rd V) : rv ≠ rl := fun e => by
 have h1 := h.v; rw [e, h.l] at h1; simp [vtB, rS] at h1
theorem HasV.mono {m : AMem} {rv rl rd : Nat} {V : VS} (h : HasV m rv rl rd V) (x : AMem) : HasV (m ++ x) rv rl rd V := ⟨lk_old h.v x, lk_old h.l x⟩
def setV (m : AMem) (rv rl rd : Nat) (V : VS) : AMem := (m.set rv (vtB rd rl V)).set rl (rS 0 V.k V.f)
def needZ (x : Int) : Int := (max x 0 + 127) / 128
def slotsZ (x : Int) : Int := if x < 4 then 0 else min (x / 4) 512
theorem slotsZ_eq (x : Int) (h1 : -9223372036854775808 ≤ x) (h2 : x ≤ 9223372036854775807) : maxI 0 (minI (IntKind.i64.wrap (x.tdiv 4)) 512) = slotsZ x := by
 have hd : x.tdiv 4 = if x < 0 then -((-x) / 4) else x / 4 := by
  split
  ·have e : (-(-x)).tdiv 4 = -((-x) / 4) := by rw [Int.neg_tdiv, Int.tdiv_eq_ediv_of_nonneg (by omega)]
   rwa [Int.neg_neg] at e
  ·exact Int.tdiv_eq_ediv_of_nonneg (by omega)
 have h3 : IntKind.i64.wrap (x.tdiv 4) = x.tdiv 4 := wi (by rw [hd]; split <;> omega)
 rw [h3]
 unfold slotsZ maxI minI
 rw [hd]; (repeat' split) <;> omega
theorem needZ_eq (x : Int) (h : x ≤ 1099511627776) : IntKind.i64.wrap ((IntKind.i64.wrap (IntKind.i64.wrap (maxI x 0 + 128) - 1)).tdiv 128) = needZ x := by
 have e : maxI x 0 = max x 0 := by unfold maxI; (repeat' split) <;> omega
 rw [e, wi (x := max x 0 + 128) (by omega), wi (x := max x 0 + 128 - 1) (by omega), Int.tdiv_eq_ediv_of_nonneg (by omega), wi (by omega)]
 unfold needZ; omega
theorem slots_c (x : Int) (m : AMem) (h1 : -9223372036854775808 ≤ x) (h2 : x ≤ 9223372036854775807) : Ctr Try.prog 11 [.one (.int .i64 x)] m (.one (.int .i64 (slotsZ x))) m := by
 refine Ctr.enter Try.func11 rfl (by decide) (rs := [.tmp 2]) (nt := 7) rfl rfl fun hwf Q hQ => ?_
 have e := slotsZ_eq x h1 h2
 refine AW.sr 2 fun K hK => ?_
 simp only [push_cast, simprocAttr, e]
 apply hK;clear hK K
 refine AW.ret ?_
 refine hQ _ _ _ ?_
 first | refine RetP.drop0 (Or.inr rfl) ?_ ?_ hwf | refine RetP.drop (Or.inr rfl) ?_ ?_ hwf
 · simp only [resA, resOne, resTv, AV.tv, push_cast, simprocAttr, e]
 · rfl
theorem need_c (x : Int) (m : AMem) (hx : x ≤ 1099511627776) : Ctr Try.prog 12 [.one (.int .i64 x)] m (.one (.int .i64 (needZ x))) m := by
 refine Ctr.enter Try.func12 rfl (by decide) (rs := [.tmp 2]) (nt := 8) rfl rfl fun hwf Q hQ => ?_
 have e := needZ_eq x hx
 refine AW.sr 2 fun K hK => ?_
 simp only [push_cast, simprocAttr, e]
 apply hK;clear hK K
 refine AW.ret ?_
 refine hQ _ _ _ ?_
 first | refine RetP.drop0 (Or.inr rfl) ?_ ?_ hwf | refine RetP.drop (Or.inr rfl) ?_ ?_ hwf
 · simp only [resA, resOne, resTv, AV.tv, push_cast, simprocAttr, e]
 · rfl
theorem vup_c (rv rl rd : Nat) (V : VS) (m : AMem) (h : m[rv]? = some (vtB rd rl V)) : Ctr Try.prog 31 [.one (.ptr rv 0 0)] m (.one (.int .i64 V.dead)) m := by
 refine Ctr.enter Try.func31 rfl (by decide) (rs := [.tmp 2]) (nt := 9) rfl rfl fun hwf Q hQ => ?_
 refine AW.sr 1 fun K hK => ?_
 simp only [push_cast, simprocAttr, h, vtB]
 apply hK;clear hK K
 refine AW.seq_k fun K hK => ?_
 refine AW.sr 1 fun K hK => ?_
 simp only [push_cast, simprocAttr, h, vtB]
 apply hK;clear hK K
 refine AW.cond_f rfl ?_
 refine AW.skip ?_
 apply hK;clear hK K
 refine AW.sr 1 fun K hK => ?_
 simp only [push_cast, simprocAttr, h, vtB]
 apply hK;clear hK K
 refine AW.ret ?_
 refine hQ _ _ _ ?_
 first | refine RetP.drop0 (Or.inr rfl) ?_ ?_ hwf | refine RetP.drop (Or.inr rfl) ?_ ?_ hwf
 · simp only [resA, resOne, resTv, AV.tv, push_cast, simprocAttr, h, vtB]
 · rfl
theorem vfail_c (rv rl rd : Nat) (V : VS) (e : Int) (m : AMem) (h : m[rv]? = some (vtB rd rl V)) (he : (e != 0) = true) : Ctr Try.prog 36 [.one (.ptr rv 0 0), .one (.int .i64 e)] m (.one (.int .i64 e)) (m.set rv (vtB rd rl { V with dead := e })) := by
 refine Ctr.enter Try.func36 rfl (by decide) (rs := [.tmp 4]) (nt := 12) rfl rfl fun hwf Q hQ => ?_
 have lv := get_lt h
 have sV := fun (l L : AMem) (e : l.length = m.length) => mk_olds (m := m) (l := l) (r := rv) e lv L
 have hw2 : MWf m.length (m.set rv (vtB rd rl { V with dead := e })) := MWf_setB hwf (by have := hwf _ (List.mem_of_getElem? h); simpa [vtB, Blk.below, CV.below, BK.below] using this) rfl
 refine AW.sr 1 fun K hK => ?_
 simp only [push_cast, simprocAttr, h, vtB, sV, he]
 apply hK;clear hK K
 refine AW.seq_k fun K hK => ?_
 refine AW.sr 1 fun K hK => ?_
 simp only [push_cast, simprocAttr, h, vtB, sV, he]
 apply hK;clear hK K
 refine AW.cond_t rfl ?_
 refine AW.rg ?_
 simp only [push_cast, simprocAttr, h, vtB, sV, he]
 apply hK;clear hK K
 refine AW.sr 1 fun K hK => ?_
 simp only [push_cast, simprocAttr, h, vtB, sV, he]
 apply hK;clear hK K
 refine AW.ret ?_
 refine hQ _ _ _ ?_
 first | refine RetP.dropM0 (by rw [List.length_set]) (by first | exact Or.inr rfl | exact Or.inl rfl) ?_ ?_ hw2 | refine RetP.dropM (by rw [List.length_set]) (by first | exact Or.inr rfl | exact Or.inl rfl) ?_ ?_ hw2
 · rfl
 · rfl
theorem f1_no (s : SL) (key : List Int) (rk : Nat) (m : AMem) (hs : WfS s) (hk : key.length = 32) (hb : ∃ k ty ez, m[rk]? = some ⟨k, ty, 0, ez, u8l key⟩) (h : ¬ s.kind = 0) : Ctr Try.prog 51 [.agg (slC s), .one (.ptr rk 0 0)] m (.one (.bool (decide (s.key = key)))) m := by
 refine Ctr.enter Try.func51 rfl (by decide) (rs := [.tmp 3]) (nt := 13) rfl rfl fun hwf Q hQ => ?_
 obtain ⟨k, ty, ez, hb⟩ := hb
 have sl := slC_len hs
 have f0 := slC_0 s
 have f1 := slC_1 hs
 have hq := eqpn hs.k hk
 have kl : (u8l key).length = 32 := by rw [u8l_len]; exact hk
 have kt : (u8l key).take 32 = u8l key := List.take_of_length_le (by omega)
 have q0 : (s.kind != 0) = true := by simp [h]
 refine AW.sr 2 fun K hK => ?_
 have pk_1 : _ ∧ _ ∧ _ ∧ _ ∧ _ ∧ _ ∧ _ ∧ _ ∧ _ := ⟨hb, lk_old hb, sl, f0, f1, hq, kl, kt, q0⟩
 simp only [push_cast, simprocAttr, pk_1]
 apply hK;clear hK K
 refine AW.ret ?_
 refine hQ _ _ _ ?_
 first | refine RetP.drop0 (Or.inr rfl) ?_ ?_ hwf | refine RetP.drop (Or.inr rfl) ?_ ?_ hwf
 · simp only [resA, resOne, resTv, AV.tv, push_cast, simprocAttr, pk_1]
 · rfl
theorem f1_z (s : SL) (key : List Int) (rk : Nat) (m : AMem) (hs : WfS s) (hk : key.length = 32) (hb : ∃ k ty ez, m[rk]? = some ⟨k, ty, 0, ez, u8l key⟩) (h : s.kind = 0) : Ctr Try.prog 51 [.agg (slC s), .one (.ptr rk 0 0)] m (.one (.bool false)) m := by
 refine Ctr.enter Try.func51 rfl (by decide) (rs := [.tmp 3]) (nt := 13) rfl rfl fun hwf Q hQ => ?_
 obtain ⟨k, ty, ez, hb⟩ := hb
 have sl := slC_len hs
 have f0 := slC_0 s
 have f1 := slC_1 hs
 have hq := eqpn hs.k hk
 have kl : (u8l key).length = 32 := by rw [u8l_len]; exact hk
 have kt : (u8l key).take 32 = u8l key := List.take_of_length_le (by omega)
 have q0 : (s.kind != 0) = false := by simp [h]
 refine AW.sr 2 fun K hK => ?_
 have pk_2 : _ ∧ _ ∧ _ ∧ _ ∧ _ ∧ _ ∧ _ ∧ _ ∧ _ := ⟨hb, lk_old hb, sl, f0, f1, hq, kl, kt, q0⟩
 simp only [push_cast, simprocAttr, pk_2]
 apply hK;clear hK K
 refine AW.ret ?_
 refine hQ _ _ _ ?_
 first | refine RetP.drop0 (Or.inr rfl) ?_ ?_ hwf | refine RetP.drop (Or.inr rfl) ?_ ?_ hwf
 · simp only [resA, resOne, resTv, AV.tv, push_cast, simprocAttr, pk_2]
 · rfl
def fdB (key : List Int) (s : SL) : Bool := decide (¬ s.kind = 0) && decide (s.key = key)
theorem f1_c (s : SL) (key : List Int) (rk : Nat) (m : AMem) (hs : WfS s) (hk : key.length = 32) (hb : ∃ k ty ez, m[rk]? = some ⟨k, ty, 0, ez, u8l key⟩) : Ctr Try.prog 51 [.agg (slC s), .one (.ptr rk 0 0)] m (.one (.bool (fdB key s))) m := by
 unfold fdB
 by_cases h : s.kind = 0
 ·rw [show decide (¬ s.kind = 0) = false by simp [h]]; exact f1_z s key rk m hs hk hb h
 ·rw [show decide (¬ s.kind = 0) = true by simp [h], Bool.true_and]; exact f1_no s key rk m hs hk hb h
theorem p1_c (s : SL) (m : AMem) (hs : WfS s) : Ctr Try.prog 33 [.agg (slC s)] m (.one (.bool (s.kind == 0))) m := by
 refine Ctr.enter Try.func33 rfl (by decide) (rs := [.tmp 2]) (nt := 6) rfl rfl fun hwf Q hQ => ?_
 have sl := slC_len hs
 have f0 := slC_0 s
 refine AW.sr 2 fun K hK => ?_
 simp only [push_cast, simprocAttr, sl, f0]
 apply hK;clear hK K
 refine AW.ret ?_
 refine hQ _ _ _ ?_
 first | refine RetP.drop0 (Or.inr rfl) ?_ ?_ hwf | refine RetP.drop (Or.inr rfl) ?_ ?_ hwf
 · simp only [resA, resOne, resTv, AV.tv, push_cast, simprocAttr, sl, f0]
 · rfl
def fnd (p : SL → Bool) (f : Nat → SL) : Nat → Int
 | 0 => -1
 | k + 1 => if 0 ≤ fnd p f k then fnd p f k else if p (f k) = true then (k : Int) else -1
theorem fnd_stay {p : SL → Bool} {f : Nat → SL} {i : Nat} (h : 0 ≤ fnd p f i) : ∀ j, fnd p f (i + j) = fnd p f i
 | 0 => rfl
 | j + 1 => by
  have ih := fnd_stay h j
  show (if 0 ≤ fnd p f (i + j) then fnd p f (i + j) else _) = _
  rw [if_pos (by rw [ih]; exact h), ih]
theorem fnd_hit {p : SL → Bool} {f : Nat → SL} {i k : Nat} (h : fnd p f i < 0) (hp : p (f i) = true) (hk : i < k) : fnd p f k = (i : Int) := by
 have h1 : fnd p f (i + 1) = (i : Int) := by
  show (if 0 ≤ fnd p f i then _ else if p (f i) = true then (i : Int) else -1) = _
  rw [if_neg (by omega), if_pos hp]
 have := fnd_stay (p := p) (f := f) (i := i + 1) (by omega) (k - (i + 1))
 rwa [show i + 1 + (k - (i + 1)) = k by omega, h1] at this
theorem fnd_miss {p : SL → Bool} {f : Nat → SL} {i : Nat} (h : fnd p f i < 0) (hp : p (f i) = false) : fnd p f (i + 1) < 0 := by
 show (if 0 ≤ fnd p f i then fnd p f i else if p (f i) = true then (i : Int) else -1) < 0
 rw [if_neg (by omega), if_neg (by rw [hp]; decide)]; decide
theorem fnd_neg {p : SL → Bool} {f : Nat → SL} : ∀ {k : Nat}, fnd p f k < 0 → fnd p f k = -1 ∧ ∀ i, i < k → p (f i) = false
 | 0, _ => ⟨rfl, fun i h => by omega⟩
 | k + 1, h => by
  have e : fnd p f (k + 1) = (if 0 ≤ fnd p f k then fnd p f k else if p (f k) = true then (k : Int) else -1) := rfl
  rw [e] at h ⊢
  split at h
  ·omega
  ·rename_i h1
   obtain ⟨_, h3⟩ := fnd_neg (p := p) (f := f) (k := k) (by omega)
   split at h
   ·omega
   ·rename_i h2
    rw [if_neg h1, if_neg h2]
    exact ⟨rfl, fun i hi => by
     rcases Nat.lt_or_ge i k with c | c
     ·exact h3 i c
     ·rw [show i = k by omega]; simpa using h2⟩
theorem fnd_pos {p : SL → Bool} {f : Nat → SL} : ∀ {k : Nat}, 0 ≤ fnd p f k → ∃ i : Nat, i < k ∧ fnd p f k = (i : Int) ∧ p (f i) = true ∧ ∀ j, j < i → p (f j) = false
  | 0, h => by have : fnd p f 0 = -1 := rfl
               omega
  | k + 1, h => by
    have e : fnd p f (k + 1) = (if 0 ≤ fnd p f k then fnd p f k else if p (f k) = true then (k : Int) else -1) := rfl
    by_cases h1 : 0 ≤ fnd p f k
    · obtain ⟨i, a, b, c, d⟩ := fnd_pos h1
      exact ⟨i, by omega, by rw [e, if_pos h1, b], c, d⟩
    · rw [e, if_neg h1] at h ⊢
      by_cases h2 : p (f k) = true
      · exact ⟨k, by omega, by rw [if_pos h2], h2, (fnd_neg (by omega)).2⟩
      · rw [if_neg h2] at h; omega
theorem ixk_c (rl v k : Nat) (f : Nat → SL) (m : AMem) (hr : m[rl]? = some (rS v k f)) (hf : ∀ i, OkS (f i)) (hk : k ≤ 1048576) (key : List Int) (rk : Nat) (hkey : key.length = 32) (hb : ∃ k ty ez, m[rk]? = some ⟨k, ty, 0, ez, u8l key⟩) : Ctr Try.prog 32 [.one (.sl rl v 0 k), .one (.fn 51 [(rk, 0, 0)])] m (.one (.int .i64 (fnd (fdB key) f k))) m := by
 refine Ctr.enter Try.func32 rfl (by decide) (rs := [.tmp 4]) (nt := 19) rfl rfl fun hwf Q hQ => ?_
 have lr := get_lt hr
 have gl : (cC k f).length = k * 67 := cC_len hf k
 obtain ⟨p, hp⟩ : ∃ p : SL → Bool, p = (fdB key) := ⟨_, rfl⟩
 rw [← hp] at hQ
 refine AW.sr 1 fun K hK => ?_
 simp only [push_cast, simprocAttr, hr, rS, gl]
 apply hK;clear hK K
 refine AW.seq_k fun K hK => ?_
 refine AW.sr 1 fun K hK => ?_
 simp only [push_cast, simprocAttr, hr, rS, gl]
 apply hK;clear hK K
 refine AW.block ?_
 refine AW.loopK [0, 1, 7] (fun i => i ≤ k ∧ fnd p f i < 0) (fun i => [(8, .one (.int .i64 (i : Int)))]) (fun i => []) (fun i => k - i) 0 ⟨Nat.zero_le _, by show (-1 : Int) < 0; decide⟩ ?_ ?_ fun i hi2 => ?_
 · first | rfl | (simp only [KS, simprocAttr] <;> repeat' (first | rfl | apply And.intro))
 · first | rfl | (simp only [setAll, push_cast, simprocAttr, hr, rS, gl] <;> rfl)
 obtain ⟨i1, i2⟩ := hi2
 try simp only [keepL, setAll, push_cast, simprocAttr, hr, rS, gl]
 refine AW.sr 1 fun K hK => ?_
 simp only [push_cast, simprocAttr, hr, rS, gl]
 apply hK;clear hK K
 refine AW.seq_k fun K hK => ?_
 refine AW.cond rfl (fun h9 => ?_) (fun h9 => ?_)
 ·have hlt : i < k := by have := of_decide_eq_true h9; omega
  have lxe := cC_at (n := k) (k := i) (f := f) hf hlt
  have lle := slC_len (hf i).w
  have c0e : (0 : Int) ≤ (i : Int) := by omega
  have c1e : (i : Int) < (k : Int) := by omega
  have c2e : i * 67 + 67 ≤ k * 67 := by omega
  refine AW.skip ?_
  apply hK;clear hK K
  refine AW.seq_k fun K hK => ?_
  refine AW.block ?_
  refine AW.sr 2 fun K hK => ?_
  have pk_3 : _ ∧ _ ∧ _ ∧ _ ∧ _ ∧ _ ∧ _ := ⟨hr, gl, lxe, lle, c0e, c1e, c2e⟩
  simp only [push_cast, simprocAttr, rS, pk_3]
  refine CThen.by (f1_c (f i) key rk _ (hf i).w hkey hb) ?_
  simp only [push_cast, simprocAttr, rS, pk_3]
  apply hK;clear hK K
  refine AW.cond rfl (fun h16 => ?_) (fun h16 => ?_)
  ·have hit : p (f i) = true := by rw [hp]; exact h16
   have hres := fnd_hit i2 hit hlt
   refine AW.sr 1 fun K hK => ?_
   simp only [push_cast, simprocAttr, rS, pk_3, hres]
   apply hK;clear hK K
   refine AW.ret ?_
   refine InB_r ?_
   refine Thn_r ?_
   refine Thn_r ?_
   refine InB_r ?_
   refine Thn_r ?_
   refine hQ _ _ _ ?_
   first | refine RetP.drop0 (Or.inr rfl) ?_ ?_ hwf | refine RetP.drop (Or.inr rfl) ?_ ?_ hwf
   · simp only [resA, resOne, resTv, AV.tv, push_cast, simprocAttr, rS, pk_3, hres]
   · rfl
  ·have hm : p (f i) = false := by rw [hp]; exact h16
   refine AW.skip ?_
   refine InB_n ?_
   apply hK;clear hK K
   refine AW.rg ?_
   simp only [push_cast, simprocAttr, rS, pk_3]
   refine Thn_n ?_
   have hwi : IntKind.i64.wrap ((i:Int)+1) = (i:Int)+1 := wi (by omega)
   refine ⟨i + 1, ⟨by omega, fnd_miss i2 hm⟩, by omega, ?_⟩
   try simp only [keepL, setAll, push_cast, simprocAttr, rS, pk_3, hwi]
   exact Weak.same (by simp only [KS, simprocAttr, hwi]) (by first | rfl | simp only [KS, simprocAttr, hwi])
 ·have hin : i = k := by have := of_decide_eq_false h9; omega
  subst hin
  have hend := (fnd_neg i2).1
  refine AW.exit ?_
  refine Thn_e ?_
  clear hK K
  refine Thn_e ?_
  refine InB_here ?_
  apply hK;clear hK K
  refine AW.sr 1 fun K hK => ?_
  simp only [push_cast, simprocAttr, hr, rS, gl, hend]
  apply hK;clear hK K
  refine AW.ret ?_
  refine hQ _ _ _ ?_
  first | refine RetP.drop0 (Or.inr rfl) ?_ ?_ hwf | refine RetP.drop (Or.inr rfl) ?_ ?_ hwf
  · simp only [resA, resOne, resTv, AV.tv, push_cast, simprocAttr, hr, rS, gl, hend]
  · rfl
theorem ixz_c (rl v k : Nat) (f : Nat → SL) (m : AMem) (hr : m[rl]? = some (rS v k f)) (hf : ∀ i, OkS (f i)) (hk : k ≤ 1048576) : Ctr Try.prog 32 [.one (.sl rl v 0 k), .one (.fn 33 [])] m (.one (.int .i64 (fnd (fun s => s.kind == 0) f k))) m := by
 refine Ctr.enter Try.func32 rfl (by decide) (rs := [.tmp 4]) (nt := 19) rfl rfl fun hwf Q hQ => ?_
 have lr := get_lt hr
 have gl : (cC k f).length = k * 67 := cC_len hf k
 obtain ⟨p, hp⟩ : ∃ p : SL → Bool, p = (fun s => s.kind == 0) := ⟨_, rfl⟩
 rw [← hp] at hQ
 refine AW.sr 1 fun K hK => ?_
 simp only [push_cast, simprocAttr, hr, rS, gl]
 apply hK;clear hK K
 refine AW.seq_k fun K hK => ?_
 refine AW.sr 1 fun K hK => ?_
 simp only [push_cast, simprocAttr, hr, rS, gl]
 apply hK;clear hK K
 refine AW.block ?_
 refine AW.loopK [0, 1, 7] (fun i => i ≤ k ∧ fnd p f i < 0) (fun i => [(8, .one (.int .i64 (i : Int)))]) (fun i => []) (fun i => k - i) 0 ⟨Nat.zero_le _, by show (-1 : Int) < 0; decide⟩ ?_ ?_ fun i hi2 => ?_
 · first | rfl | (simp only [KS, simprocAttr] <;> repeat' (first | rfl | apply And.intro))
 · first | rfl | (simp only [setAll, push_cast, simprocAttr, hr, rS, gl] <;> rfl)
 obtain ⟨i1, i2⟩ := hi2
 try simp only [keepL, setAll, push_cast, simprocAttr, hr, rS, gl]
 refine AW.sr 1 fun K hK => ?_
 simp only [push_cast, simprocAttr, hr, rS, gl]
 apply hK;clear hK K
 refine AW.seq_k fun K hK => ?_
 refine AW.cond rfl (fun h9 => ?_) (fun h9 => ?_)
 ·have hlt : i < k := by have := of_decide_eq_true h9; omega
  have lxe := cC_at (n := k) (k := i) (f := f) hf hlt
  have lle := slC_len (hf i).w
  have c0e : (0 : Int) ≤ (i : Int) := by omega
  have c1e : (i : Int) < (k : Int) := by omega
  have c2e : i * 67 + 67 ≤ k * 67 := by omega
  refine AW.skip ?_
  apply hK;clear hK K
  refine AW.seq_k fun K hK => ?_
  refine AW.block ?_
  refine AW.sr 2 fun K hK => ?_
  have pk_4 : _ ∧ _ ∧ _ ∧ _ ∧ _ ∧ _ ∧ _ := ⟨hr, gl, lxe, lle, c0e, c1e, c2e⟩
  simp only [push_cast, simprocAttr, rS, pk_4]
  refine CThen.by (p1_c (f i) _ (hf i).w) ?_
  simp only [push_cast, simprocAttr, rS, pk_4]
  apply hK;clear hK K
  refine AW.cond rfl (fun h16 => ?_) (fun h16 => ?_)
  ·have hit : p (f i) = true := by rw [hp]; exact h16
   have hres := fnd_hit i2 hit hlt
   refine AW.sr 1 fun K hK => ?_
   simp only [push_cast, simprocAttr, rS, pk_4, hres]
   apply hK;clear hK K
   refine AW.ret ?_
   refine InB_r ?_
   refine Thn_r ?_
   refine Thn_r ?_
   refine InB_r ?_
   refine Thn_r ?_
   refine hQ _ _ _ ?_
   first | refine RetP.drop0 (Or.inr rfl) ?_ ?_ hwf | refine RetP.drop (Or.inr rfl) ?_ ?_ hwf
   · simp only [resA, resOne, resTv, AV.tv, push_cast, simprocAttr, rS, pk_4, hres]
   · rfl
  ·have hm : p (f i) = false := by rw [hp]; exact h16
   refine AW.skip ?_
   refine InB_n ?_
   apply hK;clear hK K
   refine AW.rg ?_
   simp only [push_cast, simprocAttr, rS, pk_4]
   refine Thn_n ?_
   have hwi : IntKind.i64.wrap ((i:Int)+1) = (i:Int)+1 := wi (by omega)
   refine ⟨i + 1, ⟨by omega, fnd_miss i2 hm⟩, by omega, ?_⟩
   try simp only [keepL, setAll, push_cast, simprocAttr, rS, pk_4, hwi]
   exact Weak.same (by simp only [KS, simprocAttr, hwi]) (by first | rfl | simp only [KS, simprocAttr, hwi])
 ·have hin : i = k := by have := of_decide_eq_false h9; omega
  subst hin
  have hend := (fnd_neg i2).1
  refine AW.exit ?_
  refine Thn_e ?_
  clear hK K
  refine Thn_e ?_
  refine InB_here ?_
  apply hK;clear hK K
  refine AW.sr 1 fun K hK => ?_
  simp only [push_cast, simprocAttr, hr, rS, gl, hend]
  apply hK;clear hK K
  refine AW.ret ?_
  refine hQ _ _ _ ?_
  first | refine RetP.drop0 (Or.inr rfl) ?_ ?_ hwf | refine RetP.drop (Or.inr rfl) ?_ ?_ hwf
  · simp only [resA, resOne, resTv, AV.tv, push_cast, simprocAttr, hr, rS, gl, hend]
  · rfl
theorem find_c (rv rl rd : Nat) (V : VS) (m : AMem) (h : HasV m rv rl rd V) (hf : ∀ i, OkS (V.f i)) (hk : V.k ≤ 512) (key : List Int) (hkey : key.length = 32) : Ctr Try.prog 28 [.one (.ptr rv 0 0), .agg (u8l key)] m (.one (.int .i64 (fnd (fdB key) V.f V.k))) m := by
 refine Ctr.enter Try.func28 rfl (by decide) (rs := [.tmp 4]) (nt := 11) rfl rfl fun hwf Q hQ => ?_
 have hv := h.v
 have hl := h.l
 have lv := get_lt hv
 have ll := get_lt hl
 have gl : (cC V.k V.f).length = V.k * 67 := cC_len hf V.k
 refine AW.sr 2 fun K hK => ?_
 have pk_1 : _ ∧ _ ∧ _ ∧ _ ∧ _ := ⟨hv, hl, lk_old hv, lk_old hl, gl⟩
 simp only [push_cast, simprocAttr, vtB, rS, pk_1]
 refine CThen.by (ixk_c rl 0 V.k V.f _ (lk_old hl _) hf (by omega) key m.length hkey ⟨.fix, _, 0, by rw [lk_app0]; rfl⟩) ?_
 simp only [push_cast, simprocAttr, vtB, rS, pk_1]
 apply hK;clear hK K
 refine AW.ret ?_
 refine hQ _ _ _ ?_
 first | refine RetP.drop0 (Or.inr rfl) ?_ ?_ hwf | refine RetP.drop (Or.inr rfl) ?_ ?_ hwf
 · simp only [resA, resOne, resTv, AV.tv, push_cast, simprocAttr, vtB, rS, pk_1]
 · rfl
def tkP (s : SL) : Bool := decide (¬ s.kind = 0) && decide (0 < s.size)
def tkL (f : Nat → SL) : Nat → List SL
 | 0 => []
 | i + 1 => if tkP (f i) = true then tkL f i ++ [f i] else tkL f i
def gL (l : List SL) : Nat → SL := fun x => l.getD x zS
theorem zS_ok : OkS zS := ⟨zS_wf, by decide, by decide, by decide, by decide⟩
theorem gL_ok {l : List SL} (h : ∀ s, s ∈ l → OkS s) : ∀ i, OkS (gL l i) := fun i => by
 unfold gL
 rw [List.getD_eq_getElem?_getD]
 cases e : l[i]? with
 | none => exact zS_ok
 | some s => exact h s (List.mem_of_getElem? e)
theorem gL_snoc (l : List SL) (s : SL) : cC l.length (gL l) ++ slC s = cC (l.length + 1) (gL (l ++ [s])) := by
 unfold cC
 rw [catC_snoc]
 refine catC_congr fun i hi => ?_
 show (if i = l.length then slC s else slC (gL l i)) = slC (gL (l ++ [s]) i)
 unfold gL
 rw [List.getD_eq_getElem?_getD, List.getD_eq_getElem?_getD]
 split
 ·rename_i e; subst e; rw [List.getElem?_append_right (Nat.le_refl _), Nat.sub_self]; rfl
 ·rw [List.getElem?_append_left (by omega)]
theorem tkL_mem {f : Nat → SL} {s : SL} : ∀ {n : Nat}, s ∈ tkL f n ↔ ∃ i, i < n ∧ f i = s ∧ tkP s = true
 | 0 => ⟨fun h => (by cases h), fun ⟨i, h, _⟩ => (by omega)⟩
 | n + 1 => by
  have ih := tkL_mem (f := f) (s := s) (n := n)
  unfold tkL
  constructor
  ·intro h
   split at h
   ·rename_i hp
    rcases List.mem_append.1 h with h | h
    ·obtain ⟨i, a, b, c⟩ := ih.1 h
     exact ⟨i, by omega, b, c⟩
    ·obtain rfl := List.mem_singleton.1 h
     exact ⟨n, by omega, rfl, hp⟩
   ·obtain ⟨i, a, b, c⟩ := ih.1 h
    exact ⟨i, by omega, b, c⟩
  ·rintro ⟨i, a, b, c⟩
   rcases Nat.lt_or_ge i n with h1 | h1
   ·have := ih.2 ⟨i, h1, b, c⟩
    split
    ·exact List.mem_append_left _ this
    ·exact this
   ·rw [show i = n by omega] at b
    rw [if_pos (by rw [b]; exact c), b]
    exact List.mem_append_right _ (List.mem_singleton_self _)
theorem tkL_len (f : Nat → SL) : ∀ n, (tkL f n).length ≤ n
 | 0 => Nat.le_refl _
 | n + 1 => by
  have := tkL_len f n
  unfold tkL
  split
  ·rw [List.length_append, List.length_singleton]; omega
  ·omega
def VS.tk (V : VS) : List SL := tkL V.f V.k
noncomputable def VS.tg (V : VS) : Nat → SL := stG V.tk.length (gL V.tk)
theorem tkL_ok {f : Nat → SL} (h : ∀ i, OkS (f i)) (n : Nat) : ∀ s, s ∈ tkL f n → OkS s := fun s hs => by
 obtain ⟨i, _, rfl, _⟩ := tkL_mem.1 hs
 exact h i
theorem tkP_z {s : SL} (h : s.kind = 0) : tkP s = false := by simp [tkP, h]
theorem tkP_n {s : SL} (h : ¬ s.kind = 0) : tkP s = decide (0 < s.size) := by simp [tkP, h]
theorem taken_c (rv rl rd : Nat) (V : VS) (m : AMem) (h : HasV m rv rl rd V) (hf : ∀ i, OkS (V.f i)) (hk : V.k ≤ 512) : Ctr Try.prog 40 [.one (.ptr rv 0 0)] m (.one (.sl m.length 0 0 V.tk.length)) (m ++ [rS 0 V.tk.length V.tg]) := by
 refine Ctr.enter Try.func40 rfl (by decide) (rs := [.tmp 2]) (nt := 31) rfl rfl fun hwf Q hQ => ?_
 have hv := h.v
 have hl := h.l
 have lv := get_lt hv
 have ll := get_lt hl
 have gl : (cC V.k V.f).length = V.k * 67 := cC_len hf V.k
 have hlt0 : ∀ k, ¬ m.length + k < m.length := fun k => by omega
 have sl := fun i => slC_len (hf i).w
 have f0 := fun i => slC_0 (V.f i)
 have zb := fun i => zb0 (sl i)
 have t67 := fun i => slC_take (hf i).w
 have f3 := fun i => slC_3 (hf i).w
 have tL := tkL_len V.f
 refine AW.sr 2 fun K hK => ?_
 have pk_2 : _ ∧ _ ∧ _ ∧ _ ∧ _ ∧ _ ∧ _ ∧ _ ∧ _ ∧ _ := ⟨hv, hl, lk_old hv, lk_old hl, gl, sl, f0, f3, zb, t67⟩
 simp only [push_cast, simprocAttr, vtB, rS, slC_vals, pk_2]
 apply hK;clear hK K
 refine AW.seq_k fun K hK => ?_
 refine AW.sr 1 fun K hK => ?_
 simp only [push_cast, simprocAttr, vtB, rS, slC_vals, pk_2]
 apply hK;clear hK K
 refine AW.block ?_
 refine AW.nilTm 82 67 3 rfl ?_
 try simp only [push_cast, simprocAttr, vtB, rS, slC_vals, pk_2]
 refine AW.loopK [9, 10] (fun i => i ≤ V.k) (fun i => [(3, .one (.sl m.length (tkL V.f i).length 0 (tkL V.f i).length)), (11, .one (.int .i64 (i : Int)))]) (fun i => [(m.length, rS (tkL V.f i).length (tkL V.f i).length (gL (tkL V.f i)))]) (fun i => V.k - i) 0 (by omega) ?_ ?_ fun i hi2 => ?_
 · first | rfl | (simp only [KS, simprocAttr, tkL] <;> repeat' (first | rfl | apply And.intro))
 · first | rfl | (simp only [setAll, push_cast, simprocAttr, vtB, rS, slC_vals, pk_2, tkL] <;> rfl)
 try simp only [keepL, setAll, push_cast, simprocAttr, vtB, rS, slC_vals, pk_2]
 refine AW.sr 1 fun K hK => ?_
 simp only [push_cast, simprocAttr, vtB, rS, slC_vals, pk_2]
 apply hK;clear hK K
 refine AW.seq_k fun K hK => ?_
 refine AW.cond rfl (fun h12 => ?_) (fun h12 => ?_)
 ·have hlt : i < V.k := by have := of_decide_eq_true h12; omega
  have lx := cC_at (n := V.k) (f := V.f) hf hlt
  have c0 : (0 : Int) ≤ (i : Int) := by omega
  have c1 : (i : Int) < (V.k : Int) := by omega
  have c2 : i * 67 + 67 ≤ V.k * 67 := by omega
  refine AW.skip ?_
  apply hK;clear hK K
  refine AW.seq_k fun K hK => ?_
  refine AW.block ?_
  refine AW.sr 1 fun K hK => ?_
  have pk_3 : _ ∧ _ ∧ _ ∧ _ ∧ _ := ⟨pk_2, lx, c0, c1, c2⟩
  simp only [push_cast, simprocAttr, vtB, rS, slC_vals, pk_3]
  apply hK;clear hK K
  refine AW.seq_k fun K hK => ?_
  refine AW.viaJ [3, 5, 9, 10, 11] [(22, .one (.bool (tkP (V.f i))))] [] ?_ ?_
  ·rcases Classical.em ((V.f i).kind = 0) with kz | kz
   ·have q0 : ((V.f i).kind != 0) = false := by simp [kz]
    have ht := tkP_z kz
    refine AW.rg ?_
    simp only [push_cast, simprocAttr, vtB, rS, slC_vals, pk_3, q0]
    refine Thn_n ?_
    try simp only [keepL, setAll, push_cast, simprocAttr, vtB, rS, slC_vals, pk_3, q0, ht]
    exact Weak.same (by simp only [KS, simprocAttr, ht]) (by first | rfl | simp only [KS, simprocAttr, ht])
   ·have q0 : ((V.f i).kind != 0) = true := by simp [kz]
    have ht := tkP_n kz
    refine AW.rg ?_
    simp only [push_cast, simprocAttr, vtB, rS, slC_vals, pk_3, q0]
    refine Thn_n ?_
    try simp only [keepL, setAll, push_cast, simprocAttr, vtB, rS, slC_vals, pk_3, q0, ht]
    exact Weak.same (by simp only [KS, simprocAttr, ht]) (by first | rfl | simp only [KS, simprocAttr, ht])
  try simp only [keepL, setAll, push_cast, simprocAttr, vtB, rS, slC_vals, pk_3]
  apply hK;clear hK K
  refine AW.cond rfl (fun h22 => ?_) (fun h22 => ?_)
  ·have hnx : tkL V.f (i + 1) = tkL V.f i ++ [V.f i] := by rw [tkL, if_pos h22]
   have hap := gL_snoc (tkL V.f i) (V.f i)
   have tl := tL i
   have glL : (cC (tkL V.f i).length (gL (tkL V.f i))).length = (tkL V.f i).length * 67 := cC_len (gL_ok (tkL_ok hf i)) _
   have q1 : (tkL V.f i).length ≤ 140737488355327 := by omega
   have q2 : ((tkL V.f i).length + 1) * 88 ≤ 140737488355328 := by omega
   refine AW.rg ?_
   simp only [push_cast, simprocAttr, vtB, rS, slC_vals, pk_3, q1, q2, glL]
   refine InB_n ?_
   apply hK;clear hK K
   refine AW.rg ?_
   simp only [push_cast, simprocAttr, vtB, rS, slC_vals, pk_3, q1, q2, glL]
   refine Thn_n ?_
   have hwi : IntKind.i64.wrap ((i:Int)+1) = (i:Int)+1 := wi (by omega)
   refine ⟨i + 1, by omega, by omega, ?_⟩
   try simp only [keepL, setAll, push_cast, simprocAttr, vtB, rS, slC_vals, pk_3, q1, q2, glL, hwi, hnx, hap]
   first
    | exact Weak.to (extra := [_, _]) (by simp only [KS, simprocAttr, hwi, hnx, hap]) (by first | rfl | (simp only [List.append_assoc, List.cons_append, List.nil_append]; rfl)) (by first | rfl | (simp [AV.below, CV.below]; done) | (simp [AV.below, CV.below]; omega)) (by first | exact hwf | exact MWf.app (hwf.grow (by simp)) (MWf_one (cC_below _ _ _)))
    | exact Weak.to (extra := [_]) (by simp only [KS, simprocAttr, hwi, hnx, hap]) (by first | rfl | (simp only [List.append_assoc, List.cons_append, List.nil_append]; rfl)) (by first | rfl | (simp [AV.below, CV.below]; done) | (simp [AV.below, CV.below]; omega)) (by first | exact hwf | exact MWf.app (hwf.grow (by simp)) (MWf_one (cC_below _ _ _)))
  ·have hnx : tkL V.f (i + 1) = tkL V.f i := by rw [tkL, if_neg (by rw [h22]; decide)]
   have hap := True.intro
   refine AW.skip ?_
   refine InB_n ?_
   apply hK;clear hK K
   refine AW.rg ?_
   simp only [push_cast, simprocAttr, vtB, rS, slC_vals, pk_3]
   refine Thn_n ?_
   have hwi : IntKind.i64.wrap ((i:Int)+1) = (i:Int)+1 := wi (by omega)
   refine ⟨i + 1, by omega, by omega, ?_⟩
   try simp only [keepL, setAll, push_cast, simprocAttr, vtB, rS, slC_vals, pk_3, hwi, hnx, hap]
   first
    | exact Weak.to (extra := [_, _]) (by simp only [KS, simprocAttr, hwi, hnx, hap]) (by first | rfl | (simp only [List.append_assoc, List.cons_append, List.nil_append]; rfl)) (by first | rfl | (simp [AV.below, CV.below]; done) | (simp [AV.below, CV.below]; omega)) (by first | exact hwf | exact MWf.app (hwf.grow (by simp)) (MWf_one (cC_below _ _ _)))
    | exact Weak.to (extra := [_]) (by simp only [KS, simprocAttr, hwi, hnx, hap]) (by first | rfl | (simp only [List.append_assoc, List.cons_append, List.nil_append]; rfl)) (by first | rfl | (simp [AV.below, CV.below]; done) | (simp [AV.below, CV.below]; omega)) (by first | exact hwf | exact MWf.app (hwf.grow (by simp)) (MWf_one (cC_below _ _ _)))
 ·have hin : i = V.k := by have := of_decide_eq_false h12; omega
  subst hin
  refine AW.exit ?_
  refine Thn_e ?_
  clear hK K
  refine Thn_e ?_
  refine InB_here ?_
  apply hK;clear hK K
  refine AW.sr 2 fun K hK => ?_
  simp only [push_cast, simprocAttr, vtB, rS, slC_vals, pk_2]
  refine CThen.by (ssort_c m.length V.tk.length V.tk.length (gL V.tk) _ (by rw [lk_app0]; rfl) (gL_ok (tkL_ok hf V.k)) (by have := tL V.k; show (tkL V.f V.k).length ≤ _; omega)) ?_
  simp only [push_cast, simprocAttr, vtB, rS, slC_vals, pk_2]
  apply hK;clear hK K
  refine AW.ret ?_
  refine hQ _ _ _ ?_
  have etk : tkL V.f V.k = V.tk := rfl
  have etg : stG V.tk.length (gL V.tk) = V.tg := rfl
  refine RetP.pick [(m.length, V.tk.length)] (Or.inr rfl) ?_ ?_ ?_ hwf ?_
  · simp only [resA, resOne, resTv, AV.tv, push_cast, simprocAttr, etk]
    simp [renV, renT, renL, renC, renIdx, hlt0]
  · simp only [picks, push_cast, simprocAttr, etk, etg, rS]
  · simp [distinctFrom]
  · exact MWf_one (cC_below _ _ _)
theorem needZ_nat {x : Int} {N : Nat} (h : (N : Int) = needZ x) (h0 : 0 ≤ x) : x ≤ (N : Int) * 128 ∧ (N : Int) * 128 < x + 128 := by
 unfold needZ at h; omega
def datL (D : DS) (k : Nat) (N : Nat) : List Int := catB N fun i => vis D.S D.E (k + i)
theorem visD_len {n : Nat} {D : DS} (h : WfD n D) (k : Nat) : (vis D.S D.E k).length = 128 := vis_len h.s h.e k
theorem datL_len {n : Nat} {D : DS} (h : WfD n D) (k N : Nat) : (datL D k N).length = N * 128 := catB_len (fun i => visD_len h _) N
theorem load_c (rv rl rd : Nat) (V : VS) (s : SL) (k N : Nat) (m : AMem) (h : m[rv]? = some (vtB rd rl V)) (rs rm n : Nat) (D : DS) (hd : HasD m rd rs rm n D) (hwd : WfD n D) (hdn : D.down = false) (hn : n ≤ 8192) (hs : WfS s) (hk : s.fr = (k : Int)) (h0 : 0 ≤ s.size) (h1 : s.size ≤ 262144) (hN : (N : Int) = needZ s.size) (hkN : k + N ≤ n) : Ctr Try.prog 29 [.one (.ptr rv 0 0), .agg (slC s)] m (.tup [(false, [.sl m.length 0 0 s.size.toNat]), (false, [.int .i64 0])]) (m ++ [⟨.grow, 5, 0, 1, u8l (datL D k N)⟩]) := by
 refine Ctr.enter Try.func29 rfl (by decide) (rs := [.tmp 4, .tmp 5]) (nt := 40) rfl rfl fun hwf Q hQ => ?_
 have lv := get_lt h
 obtain ⟨z, hz⟩ := Int.eq_ofNat_of_zero_le h0
 have hlt0 : ∀ k, ¬ m.length + k < m.length := fun k => by omega
 obtain ⟨b1, b2⟩ := needZ_nat hN h0
 have sl := slC_len hs
 have f3 : (slC s)[65]? = some (.int .i64 (z : Int)) := by rw [← hz]; exact slC_3 hs
 have f4 : (slC s)[66]? = some (.int .i64 (k : Int)) := by rw [← hk]; exact slC_4 hs
 have nd : needZ (z : Int) = (N : Int) := by rw [← hz]; exact hN.symm
 rw [hz] at h0 h1 b1 b2 hN
 have hzt : s.size.toNat = z := by rw [hz]; rfl
 rw [hzt] at hQ
 have vl := fun k => visD_len hwd k
 have lu : ∀ k, (u8l (vis D.S D.E k)).length = 128 := fun k => by rw [u8l_len]; exact vl k
 have tk := fun k => List.take_of_length_le (Nat.le_of_eq (lu k))
 have vv := fun k => u8l_vals (vis D.S D.E k)
 have dl := datL_len hwd k
 have ap : ∀ i, u8l (datL D k i) ++ u8l (vis D.S D.E (k + i)) = u8l (datL D k (i + 1)) := fun i => u8l_app _ _
 have z1 : (0 : Int) ≤ (z : Int) := by omega
 have z2 : (z : Int) ≤ (N : Int) * 128 := by omega
 refine AW.sr 2 fun K hK => ?_
 have pk_1 : _ ∧ _ ∧ _ ∧ _ ∧ _ ∧ _ ∧ _ ∧ _ ∧ _ ∧ _ ∧ _ ∧ _ ∧ _ := ⟨h, lk_old h, sl, f3, f4, nd, lu, tk, vv, ap, dl, z1, z2⟩
 simp only [push_cast, simprocAttr, vtB, u8l_len, slC_vals, setL_full, imp_self, Nat.sub_zero, pk_1]
 apply hK;clear hK K
 refine AW.seq_k fun K hK => ?_
 refine AW.sr 1 fun K hK => ?_
 simp only [push_cast, simprocAttr, vtB, u8l_len, slC_vals, setL_full, imp_self, Nat.sub_zero, pk_1]
 refine CThen.by (need_c (z : Int) _ (by omega)) ?_
 simp only [push_cast, simprocAttr, vtB, u8l_len, slC_vals, setL_full, imp_self, Nat.sub_zero, pk_1]
 apply hK;clear hK K
 refine AW.block ?_
 refine AW.loopK [0, 3, 13] (fun i => i ≤ N) (fun i => [(6, .one (.sl (m.length + 1) i 0 (i * 128))), (14, .one (.int .i64 (i : Int)))]) (fun i => [(m.length + 1, ⟨.grow, 5, i, 1, u8l (datL D k i)⟩)]) (fun i => N - i) 0 (by omega) ?_ ?_ fun i hi2 => ?_
 · first | rfl | (simp only [KS, simprocAttr, datL, catB, u8l, List.map_nil] <;> repeat' (first | rfl | apply And.intro))
 · first | rfl | (simp only [setAll, push_cast, simprocAttr, vtB, u8l_len, slC_vals, setL_full, imp_self, Nat.sub_zero, pk_1, datL, catB, u8l, List.map_nil] <;> rfl)
 try simp only [keepL, setAll, push_cast, simprocAttr, vtB, u8l_len, slC_vals, setL_full, imp_self, Nat.sub_zero, pk_1]
 refine AW.sr 1 fun K hK => ?_
 simp only [push_cast, simprocAttr, vtB, u8l_len, slC_vals, setL_full, imp_self, Nat.sub_zero, pk_1]
 apply hK;clear hK K
 refine AW.seq_k fun K hK => ?_
 refine AW.cond rfl (fun h15 => ?_) (fun h15 => ?_)
 ·have hlt : i < N := by have := of_decide_eq_true h15; omega
  obtain ⟨x, hx⟩ : ∃ q : Nat, q = k + i := ⟨_, rfl⟩
  have wx : IntKind.i64.wrap ((k : Int) + (i : Int)) = (x : Int) := by rw [wi (by omega)]; omega
  have ap2 := ap i
  rw [← hx] at ap2
  have q1 : i * 128 + 128 ≤ 140737488355328 := by omega
  refine AW.skip ?_
  apply hK;clear hK K
  refine AW.seq_k fun K hK => ?_
  refine AW.block ?_
  refine AW.sr 1 fun K hK => ?_
  simp only [push_cast, simprocAttr, vtB, u8l_len, slC_vals, setL_full, imp_self, Nat.sub_zero, pk_1, wx, ap2, q1]
  apply hK;clear hK K
  refine AW.seq_k fun K hK => ?_
  refine AW.draw [.val, .val, .val, .rd 0, .val, .rd 0, .val, .val, .ext, .val, .val, .val, .fl, .wr, .val] fol (by decide) (by kernel_rfl) ?_
  simp only [push_cast, simprocAttr, vtB, u8l_len, slC_vals, setL_full, imp_self, Nat.sub_zero, pk_1, wx, ap2, q1]
  refine DCall.by0 (rd_ok rd rs rm n x D _ (hd.mono _) hwd hdn (by omega)) ?_
  simp only [push_cast, simprocAttr, vtB, u8l_len, slC_vals, setL_full, imp_self, Nat.sub_zero, pk_1, wx, ap2, q1]
  apply hK;clear hK K
  refine AW.seq_k fun K hK => ?_
  refine AW.sr 1 fun K hK => ?_
  simp only [push_cast, simprocAttr, vtB, u8l_len, slC_vals, setL_full, imp_self, Nat.sub_zero, pk_1, wx, ap2, q1]
  apply hK;clear hK K
  refine AW.cond_f rfl ?_
  refine AW.skip ?_
  apply hK;clear hK K
  refine AW.rg ?_
  simp only [push_cast, simprocAttr, vtB, u8l_len, slC_vals, setL_full, imp_self, Nat.sub_zero, pk_1, wx, ap2, q1]
  refine InB_n ?_
  apply hK;clear hK K
  refine AW.rg ?_
  simp only [push_cast, simprocAttr, vtB, u8l_len, slC_vals, setL_full, imp_self, Nat.sub_zero, pk_1, wx, ap2, q1]
  refine Thn_n ?_
  have hwi : IntKind.i64.wrap ((i:Int)+1) = (i:Int)+1 := wi (by omega)
  refine ⟨i + 1, by omega, by omega, ?_⟩
  try simp only [keepL, setAll, push_cast, simprocAttr, vtB, u8l_len, slC_vals, setL_full, imp_self, Nat.sub_zero, pk_1, wx, ap2, q1, hwi, Nat.succ_mul]
  exact Weak.to (extra := [_]) (by simp only [KS, simprocAttr, hwi, Nat.succ_mul]) (by first | rfl | (simp only [List.append_assoc, List.cons_append, List.nil_append]; rfl)) (by first | rfl | (simp [AV.below, CV.below]; done) | (simp [AV.below, CV.below]; omega)) (by first | exact hwf | exact MWf.app (hwf.grow (by simp)) (MWf_cons (slC_below _ _) (MWf_one (u8l_below _ _))))
 ·have hin : i = N := by have := of_decide_eq_false h15; omega
  subst hin
  refine AW.exit ?_
  refine Thn_e ?_
  clear hK K
  refine Thn_e ?_
  refine InB_here ?_
  apply hK;clear hK K
  refine AW.sr 1 fun K hK => ?_
  simp only [push_cast, simprocAttr, vtB, u8l_len, slC_vals, setL_full, imp_self, Nat.sub_zero, pk_1]
  apply hK;clear hK K
  refine AW.ret ?_
  refine hQ _ _ _ ?_
  refine RetP.pick [(m.length + 1, i)] (Or.inr rfl) ?_ ?_ ?_ hwf ?_
  · simp only [resA, resOne, resTv, AV.tv, push_cast, simprocAttr]
    simp [renV, renT, renL, renC, renIdx, hlt0]
  · simp only [picks, push_cast, simprocAttr]
  · simp [distinctFrom]
  · exact MWf_one (u8l_below _ _)
theorem blocks_c (rd rs rm n : Nat) (D : DS) (m : AMem) (hrd : m[rd]? = some (drB rs rm n D)) : Ctr Try.prog 25 [.one (.ptr rd 0 0)] m (.one (.int .i64 (n : Int))) m := by
 refine Ctr.enter Try.func25 rfl (by decide) (rs := [.tmp 2]) (nt := 10) rfl rfl fun hwf Q hQ => ?_
 refine AW.sr 1 fun K hK => ?_
 simp only [push_cast, simprocAttr, hrd, drB]
 apply hK;clear hK K
 refine AW.seq_k fun K hK => ?_
 refine AW.sr 1 fun K hK => ?_
 simp only [push_cast, simprocAttr, hrd, drB]
 apply hK;clear hK K
 refine AW.cond_f rfl ?_
 refine AW.skip ?_
 apply hK;clear hK K
 refine AW.sr 1 fun K hK => ?_
 simp only [push_cast, simprocAttr, hrd, drB]
 apply hK;clear hK K
 refine AW.ret ?_
 refine hQ _ _ _ ?_
 first | refine RetP.drop0 (Or.inr rfl) ?_ ?_ hwf | refine RetP.drop (Or.inr rfl) ?_ ?_ hwf
 · simp only [resA, resOne, resTv, AV.tv, push_cast, simprocAttr, hrd, drB]
 · rfl
def rmGo (g : Nat → SL) (nd n : Int) : Nat → Nat → Int → Int
 | 0, _, p => if n - p < nd then -1 else p
 | k + 1, i, p => if (g i).fr - p < nd then rmGo g nd n k (i + 1) (maxI p ((g i).fr + needZ (g i).size)) else p
theorem tg_spec {V : VS} (hf : ∀ i, OkS (V.f i)) (hk : V.k ≤ 512) : KSrt SL.fr V.tg 0 V.tk.length ∧ PermOn 0 V.tk.length (gL V.tk) V.tg :=
 stG_spec (by have := tkL_len V.f V.k; show (tkL V.f V.k).length ≤ _; omega) (gL_ok (tkL_ok hf V.k))
theorem tg_ok {V : VS} (hf : ∀ i, OkS (V.f i)) (hk : V.k ≤ 512) : ∀ i, OkS (V.tg i) := perm_ok (gL_ok (tkL_ok hf V.k)) (tg_spec hf hk).2
theorem needZ_b {x : Int} (h0 : 0 ≤ x) (h1 : x ≤ 4294967295) : 0 ≤ needZ x ∧ needZ x ≤ 33554432 := by unfold needZ; omega
theorem maxI_b {a b c : Int} (h1 : a ≤ c) (h2 : b ≤ c) : maxI a b ≤ c := by unfold maxI; split <;> assumption
theorem maxI_0 {a b : Int} (h1 : 0 ≤ a) : 0 ≤ maxI a b := by unfold maxI; split <;> omega
theorem room_c (rv rl rd : Nat) (V : VS) (m : AMem) (h : HasV m rv rl rd V) (hf : ∀ i, OkS (V.f i)) (hk : V.k ≤ 512) (rs rm n : Nat) (D : DS) (hd : m[rd]? = some (drB rs rm n D)) (hn : n ≤ 8192) (nd : Int) (hn0 : 0 ≤ nd) (hn1 : nd ≤ 4294967295) (hd0 : 0 ≤ V.data) (hd1 : V.data ≤ 512) : Ctr Try.prog 55 [.one (.ptr rv 0 0), .one (.int .i64 nd)] m (.one (.int .i64 (rmGo V.tg nd (n : Int) V.tk.length 0 V.data))) m := by
 refine Ctr.enter Try.func55 rfl (by decide) (rs := [.tmp 4]) (nt := 45) rfl rfl fun hwf Q hQ => ?_
 have hv := h.v
 have hl := h.l
 have lv := get_lt hv
 have ll := get_lt hl
 have gl : (cC V.k V.f).length = V.k * 67 := cC_len hf V.k
 have gok := tg_ok hf hk
 have sl := fun i => slC_len (gok i).w
 have f3 := fun i => slC_3 (gok i).w
 have f4 := fun i => slC_4 (gok i).w
 have zb := fun i => zb0 (sl i)
 have cl : (cC V.tk.length V.tg).length = V.tk.length * 67 := cC_len gok _
 obtain ⟨c, hc⟩ : ∃ q : Nat, q = V.tk.length := ⟨_, rfl⟩
 rw [← hc] at cl hQ
 have hck : c ≤ 512 := by rw [hc]; exact Nat.le_trans (tkL_len V.f V.k) hk
 have hc2 := hc.symm
 refine AW.sr 2 fun K hK => ?_
 have pk_1 : _ ∧ _ ∧ _ ∧ _ ∧ _ ∧ _ ∧ _ ∧ _ ∧ _ ∧ _ ∧ _ := ⟨hv, hl, lk_old hv, lk_old hl, gl, sl, f3, f4, zb, cl, hc2⟩
 simp only [push_cast, simprocAttr, vtB, rS, slC_vals, pk_1]
 apply hK;clear hK K
 refine AW.seq_k fun K hK => ?_
 refine AW.sr 1 fun K hK => ?_
 simp only [push_cast, simprocAttr, vtB, rS, slC_vals, pk_1]
 refine CThen.by (taken_c rv rl rd V _ h hf hk) ?_
 simp only [push_cast, simprocAttr, vtB, rS, slC_vals, pk_1]
 apply hK;clear hK K
 refine AW.block ?_
 refine AW.loopK [0, 1, 13, 14] (fun (q : Nat × Int) => q.1 ≤ c ∧ 0 ≤ q.2 ∧ q.2 ≤ 4400000000 ∧ rmGo V.tg nd (n : Int) (c - q.1) q.1 q.2 = rmGo V.tg nd (n : Int) c 0 V.data) (fun (q : Nat × Int) => [(5, .one (.int .i64 q.2)), (15, .one (.int .i64 (q.1 : Int)))]) (fun (q : Nat × Int) => []) (fun (q : Nat × Int) => c - q.1) (0, V.data) ⟨Nat.zero_le _, hd0, by show V.data ≤ _; omega, rfl⟩ ?_ ?_ fun (q : Nat × Int) hi2 => ?_
 · first | rfl | (simp only [KS, simprocAttr] <;> repeat' (first | rfl | apply And.intro))
 · first | rfl | (simp only [setAll, push_cast, simprocAttr, vtB, rS, slC_vals, pk_1] <;> rfl)
 obtain ⟨i, p⟩ := q
 obtain ⟨i1, i2, i3, i4⟩ := hi2
 simp only at i1 i2 i3 i4
 try simp only [keepL, setAll, push_cast, simprocAttr, vtB, rS, slC_vals, pk_1]
 refine AW.sr 1 fun K hK => ?_
 simp only [push_cast, simprocAttr, vtB, rS, slC_vals, pk_1]
 apply hK;clear hK K
 refine AW.seq_k fun K hK => ?_
 refine AW.cond rfl (fun h16 => ?_) (fun h16 => ?_)
 ·have hlt : i < c := by have := of_decide_eq_true h16; omega
  have o := gok i
  have o0 := o.f0
  have o1 := o.f1
  have z0 := o.s0
  have z1 := o.s1
  obtain ⟨b0, b1⟩ := needZ_b z0 z1
  have lx := cC_at (n := c) (f := V.tg) gok hlt
  have c0 : (0 : Int) ≤ (i : Int) := by omega
  have c1 : (i : Int) < (c : Int) := by omega
  have c2 : i * 67 + 67 ≤ c * 67 := by omega
  have w1 : IntKind.i64.wrap ((V.tg i).fr - p) = (V.tg i).fr - p := wi (by omega)
  have w2 : IntKind.i64.wrap ((V.tg i).fr + needZ (V.tg i).size) = (V.tg i).fr + needZ (V.tg i).size := wi (by omega)
  have st : rmGo V.tg nd (n : Int) (c - i) i p = if (V.tg i).fr - p < nd then rmGo V.tg nd (n : Int) (c - (i + 1)) (i + 1) (maxI p ((V.tg i).fr + needZ (V.tg i).size)) else p := by rw [show c - i = (c - (i + 1)) + 1 by omega]; rfl
  rw [i4] at st
  refine AW.skip ?_
  apply hK;clear hK K
  refine AW.seq_k fun K hK => ?_
  refine AW.block ?_
  refine AW.sr 1 fun K hK => ?_
  have pk_2 : _ ∧ _ ∧ _ ∧ _ ∧ _ ∧ _ ∧ _ := ⟨pk_1, lx, c0, c1, c2, w1, w2⟩
  simp only [push_cast, simprocAttr, vtB, rS, slC_vals, pk_2]
  apply hK;clear hK K
  refine AW.seq_k fun K hK => ?_
  refine AW.sr 1 fun K hK => ?_
  simp only [push_cast, simprocAttr, vtB, rS, slC_vals, pk_2]
  apply hK;clear hK K
  refine AW.cond rfl (fun h24 => ?_) (fun h24 => ?_)
  ·have hk2 : ¬ (V.tg i).fr - p < nd := by have := of_decide_eq_true h24; omega
   rw [if_neg hk2] at st
   refine AW.sr 1 fun K hK => ?_
   simp only [push_cast, simprocAttr, vtB, rS, slC_vals, pk_2, st]
   apply hK;clear hK K
   refine AW.ret ?_
   refine Thn_r ?_
   refine InB_r ?_
   refine Thn_r ?_
   refine Thn_r ?_
   refine InB_r ?_
   refine Thn_r ?_
   refine hQ _ _ _ ?_
   first | refine RetP.drop0 (Or.inr rfl) ?_ ?_ hwf | refine RetP.drop (Or.inr rfl) ?_ ?_ hwf
   · simp only [resA, resOne, resTv, AV.tv, push_cast, simprocAttr, vtB, rS, slC_vals, pk_2, st]
   · rfl
  ·have hk2 : (V.tg i).fr - p < nd := by have := of_decide_eq_false h24; omega
   rw [if_pos hk2] at st
   obtain ⟨nx, hnx, hnI, hnmu⟩ : ∃ nx : Nat × Int, nx = (i + 1, maxI p ((V.tg i).fr + needZ (V.tg i).size)) ∧ (nx.1 ≤ c ∧ 0 ≤ nx.2 ∧ nx.2 ≤ 4400000000 ∧ rmGo V.tg nd (n : Int) (c - nx.1) nx.1 nx.2 = rmGo V.tg nd (n : Int) c 0 V.data) ∧ c - nx.1 < c - i := ⟨_, rfl, ⟨by show i + 1 ≤ c; omega, maxI_0 i2, maxI_b i3 (by omega), st.symm⟩, by show c - (i + 1) < c - i; omega⟩
   refine AW.skip ?_
   apply hK;clear hK K
   refine AW.draw [.val, .val, .rd 0, .val, .rd 0, .ext, .val, .val, .val] fol (by decide) (by kernel_rfl) ?_
   simp only [push_cast, simprocAttr, vtB, rS, slC_vals, pk_2]
   refine DCall.by0 (need_c (V.tg i).size _ (by omega)) ?_
   simp only [push_cast, simprocAttr, vtB, rS, slC_vals, pk_2]
   refine InB_n ?_
   apply hK;clear hK K
   refine AW.rg ?_
   simp only [push_cast, simprocAttr, vtB, rS, slC_vals, pk_2]
   refine Thn_n ?_
   have hwi : IntKind.i64.wrap ((i:Int)+1) = (i:Int)+1 := wi (by omega)
   refine ⟨nx, hnI, hnmu, ?_⟩
   try simp only [keepL, setAll, push_cast, simprocAttr, vtB, rS, slC_vals, pk_2, hnx, hwi]
   exact Weak.to (extra := [_]) (by simp only [KS, simprocAttr, hnx, hwi]) (by first | rfl | (simp only [List.append_assoc, List.cons_append, List.nil_append]; rfl)) (by first | rfl | (simp [AV.below, CV.below]; done) | (simp [AV.below, CV.below]; omega)) (by first | exact hwf | exact MWf.app (hwf.grow (by simp)) (MWf_one (cC_below _ _ _)))
 ·have hin : c = i := by have := of_decide_eq_false h16; omega
  rw [hin, Nat.sub_self] at i4
  have w3 : IntKind.i64.wrap ((n : Int) - p) = (n : Int) - p := wi (by omega)
  have st : rmGo V.tg nd (n : Int) i i p = rmGo V.tg nd (n : Int) i i p := rfl
  refine AW.exit ?_
  refine Thn_e ?_
  clear hK K
  refine Thn_e ?_
  refine InB_here ?_
  apply hK;clear hK K
  refine AW.seq_k fun K hK => ?_
  refine AW.sr 1 fun K hK => ?_
  simp only [push_cast, simprocAttr, vtB, rS, slC_vals, pk_1, w3]
  refine CThen.by (blocks_c rd rs rm n D _ (lk_old hd _)) ?_
  simp only [push_cast, simprocAttr, vtB, rS, slC_vals, pk_1, w3]
  apply hK;clear hK K
  refine AW.cond rfl (fun h43 => ?_) (fun h43 => ?_)
  ·have hk3 : ¬ (n : Int) - p < nd := by have := of_decide_eq_true h43; omega
   have hfin : rmGo V.tg nd (n : Int) c 0 V.data = p := by rw [hin, ← i4]; show (if (n : Int) - p < nd then -1 else p) = p; rw [if_neg hk3]
   refine AW.sr 1 fun K hK => ?_
   simp only [push_cast, simprocAttr, vtB, rS, slC_vals, pk_1, w3, hfin]
   apply hK;clear hK K
   refine AW.ret ?_
   refine Thn_r ?_
   refine hQ _ _ _ ?_
   first | refine RetP.drop0 (Or.inr rfl) ?_ ?_ hwf | refine RetP.drop (Or.inr rfl) ?_ ?_ hwf
   · simp only [resA, resOne, resTv, AV.tv, push_cast, simprocAttr, vtB, rS, slC_vals, pk_1, w3, hfin]
   · rfl
  ·have hk3 : (n : Int) - p < nd := by have := of_decide_eq_false h43; omega
   have hfin : rmGo V.tg nd (n : Int) c 0 V.data = -1 := by rw [hin, ← i4]; show (if (n : Int) - p < nd then -1 else p) = -1; rw [if_pos hk3]
   refine AW.skip ?_
   apply hK;clear hK K
   refine AW.sr 1 fun K hK => ?_
   simp only [push_cast, simprocAttr, vtB, rS, slC_vals, pk_1, w3, hfin]
   apply hK;clear hK K
   refine AW.ret ?_
   refine hQ _ _ _ ?_
   first | refine RetP.drop0 (Or.inr rfl) ?_ ?_ hwf | refine RetP.drop (Or.inr rfl) ?_ ?_ hwf
   · simp only [resA, resOne, resTv, AV.tv, push_cast, simprocAttr, vtB, rS, slC_vals, pk_1, w3, hfin]
   · rfl
end Go.Proofs.Ytdkfbbjpblfclaa
