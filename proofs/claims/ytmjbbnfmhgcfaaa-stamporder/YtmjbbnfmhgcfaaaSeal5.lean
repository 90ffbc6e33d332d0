/- Walks and facts of this seat's program over abstract states, printed by a program of mine; no conditions but those that each theorem names. -/
import Derived.Test.YtmjbbnfmhgcfaaaSeal4
set_option linter.unusedSimpArgs false
set_option linter.unusedVariables false
set_option maxRecDepth 100000
set_option maxHeartbeats 4000000
namespace Go.Proofs.Ytmjbbnfmhgcfaaa
open Go Go.Eng

theorem write_c (rp bb vb lb vl lo np : Nat) (s0 : PS) (cf : Nat → CV) (bf : Nat → List Int) (X : List CV) (kl : BK) (el : Nat) (m : AMem) (hp : m[rp]? = some (prB s0.S (.sl bb vb 0 s0.r.length) s0.n)) (hbb : m[bb]? = some (rowB vb s0.r)) (hl : m[lb]? = some ⟨kl, 63, vl, el, X⟩) (nlb : lb ≠ bb) (hX : ∀ i, i < np → X[lo + i]? = some (cf i)) (hP : ∀ i, i < np → PartAt m bb (cf i) (bf i)) (hbl : ∀ i, i < np → (bf i).length ≤ 1000000) (hbo : ∀ i, i < np → U8ok (bf i)) (hr0 : s0.r.length < 64) (ho0 : U8ok s0.r) (hnp : np ≤ 1048576) : Ctr Try.prog 23 [.one (.ptr rp 0 0), .one (.sl lb vl lo np)] m (.tup []) (pwr m rp bb (vb + 2 * np) (accP s0 bf np)) := by
  refine Ctr.enter Try.func23 rfl (by decide) (rs := []) (nt := 64) rfl rfl fun hwf Q hQ => ?_
  have lp := get_lt hp
  have lbb := get_lt hbb
  have llb := get_lt hl
  have npb : rp ≠ bb := fun e => by subst e; rw [hp] at hbb; simp [prB, rowB] at hbb
  have nbp : bb ≠ rp := fun e => npb e.symm
  have nlp : lb ≠ rp := fun e => by subst e; rw [hp] at hl; simp [prB] at hl
  have kP := fun (l : AMem) (B : Blk) (h : l.length = m.length) => mk_self h lp B
  have kB : ∀ (l : AMem) (A B : Blk) (h : l.length = m.length), ((l.set bb A).set rp B)[bb]? = some A := fun l A B h => by rw [List.getElem?_set_ne npb]; exact mk_self h lbb A
  have kO : ∀ (r : Nat) (l : AMem) (A B : Blk), r ≠ bb → r ≠ rp → ((l.set bb A).set rp B)[r]? = l[r]? := fun r l A B h1 h2 => by rw [List.getElem?_set_ne (fun e => h2 e.symm), List.getElem?_set_ne (fun e => h1 e.symm)]
  have kL := fun (l L : AMem) (h : l.length = m.length) => mk_old h lp L
  have kL2 := fun (l L : AMem) (h : l.length = m.length) => mk_old h lbb L
  have kS := fun (l L : AMem) (b : Blk) (h : l.length = m.length) => mk_olds h lp L b
  have kS2 := fun (l L : AMem) (b : Blk) (h : l.length = m.length) => mk_olds h lbb L b
  have kA := fun (l L : AMem) (h : l.length = m.length) => mk_lk0 h L
  have kAs := fun (l L : AMem) (b : Blk) (h : l.length = m.length) => mk_set0 h L b
  have kc := mk_comm npb
  have hl1 := fun (A B : Blk) => (kO lb m A B nlb nlp).trans hl
  
  refine AW.seq_k fun K hK => ?_
  refine AW.seq_k fun K hK => ?_
  refine AW.region (by decide) ?_
  simp only [push_cast, simprocAttr, kP, kB, kL, kL2, kS, kS2, kA, kAs, kc, hl1, List.set_set, List.length_set, prB, rowB, pS, u8l_len, Nat.sub_zero, Int.le_refl]
  refine Thn_n ?_
  refine hK _ _ ?_
  clear hK K
  refine AW.cond_f rfl ?_
  refine AW.skip ?_
  refine Thn_n ?_
  refine hK _ _ ?_
  clear hK K
  refine AW.seq_k fun K hK => ?_
  refine AW.region (by decide) ?_
  simp only [push_cast, simprocAttr, kP, kB, kL, kL2, kS, kS2, kA, kAs, kc, hl1, List.set_set, List.length_set, prB, rowB, pS, u8l_len, Nat.sub_zero, Int.le_refl]
  refine Thn_n ?_
  refine hK _ _ ?_
  clear hK K
  refine AW.block ?_
  refine AW.loopK [0, 8, 9] (fun i => i ≤ np) (fun i => [(10, .one (.int .i64 (i : Int)))]) (fun i => [(bb, rowB (vb + 2 * i) (accP s0 bf i).r), (rp, prB (accP s0 bf i).S (.sl bb (vb + 2 * i) 0 (accP s0 bf i).r.length) (accP s0 bf i).n)]) (fun i => np - i) 0 (by omega) ?_ ?_ fun i hi4 => ?_
  · first | rfl | (simp only [Keeps, Tm.get_cons, Nat.reduceEqDiff, ↓reduceIte, if_true, if_false, ite_true, ite_false, true_and, and_true, and_self, reduceCtorEq, accP, Nat.mul_zero, Nat.add_zero] <;> rfl)
  · simp only [setAll, accP, Nat.mul_zero, Nat.add_zero]; rw [set_self hbb, set_self hp]
  have hnx : accP s0 bf (i + 1) = absS (accP s0 bf i) (bf i) := rfl
  have hrl := accP_r hr0 bf i
  have hok := accP_ok ho0 hbo i hi4
  generalize hst : accP s0 bf i = st at hnx hrl hok ⊢
  obtain ⟨S, r, n⟩ := st
  have hvn : vb + 2 * (i + 1) = vb + 2 * i + 2 := by omega
  generalize hv1 : vb + 2 * i = v1 at hvn ⊢
  dsimp only at hrl hok ⊢
  obtain ⟨al, hal⟩ : ∃ al, r ++ bf i = al := ⟨_, rfl⟩
  try simp only [keepL, setAll, push_cast, simprocAttr, kP, kB, kL, kL2, kS, kS2, kA, kAs, kc, hl1, List.set_set, List.length_set, prB, rowB, pS, u8l_len, Nat.sub_zero, Int.le_refl]
  refine AW.seq_k fun K hK => ?_
  refine AW.region (by decide) ?_
  simp only [push_cast, simprocAttr, kP, kB, kL, kL2, kS, kS2, kA, kAs, kc, hl1, List.set_set, List.length_set, prB, rowB, pS, u8l_len, Nat.sub_zero, Int.le_refl]
  refine Thn_n ?_
  refine hK _ _ ?_
  clear hK K
  refine AW.seq_k fun K hK => ?_
  refine AW.cond rfl (fun h11 => ?_) (fun h11 => ?_)
  · have hlt : i < np := by have := of_decide_eq_true h11; omega
    have c1 : (0 : Int) ≤ (i : Int) := by omega
    have c2 : (i : Int) < (np : Int) := by omega
    have hXi := hX i hlt
    refine AW.skip ?_
    refine Thn_n ?_
    refine hK _ _ ?_
    clear hK K
    refine AW.seq_k fun K hK => ?_
    refine AW.block ?_
    refine AW.seq_k fun K hK => ?_
    refine AW.region (by decide) ?_
    simp only [push_cast, simprocAttr, kP, kB, kL, kL2, kS, kS2, kA, kAs, kc, hl1, List.set_set, List.length_set, prB, rowB, pS, u8l_len, Nat.sub_zero, Int.le_refl, c1, c2, hXi]
    refine Thn_n ?_
    refine hK _ _ ?_
    clear hK K
    refine AW.seq_k fun K hK => ?_
    rcases hP i hlt with ⟨ec, eb⟩ | ⟨rb, k2, ty2, v2, ez2, off2, X2, ec, hrb, hb2, hf2, hx2⟩
    · have happ := hal
      have hal2 := congrArg List.length hal
      rw [List.length_append] at hal2
      obtain ⟨nn, hnn⟩ : ∃ nn, nn = IntKind.u64.wrap (n + ((bf i).length : Int)) := ⟨_, rfl⟩
      have hnn0 := hnn
      have hle := hbl i hlt
      have w1 : IntKind.u64.wrap (((bf i).length : Nat) : Int) = ((bf i).length : Int) := by rw [IntKind.wrap_u64]; omega
      have q1 : r.length + (bf i).length ≤ 140737488355328 := by omega
      have q2 : al.length ≤ 140737488355328 := by omega
      have hokA : U8ok al := by rw [← hal]; exact hok.app (hbo i hlt)
      have nb := hokA.by
      have hnnS := hnn.symm
      simp only [ec]
      rw [eb] at hal hal2 hnn
      rw [List.append_nil] at hal
      have hals := hal.symm
      subst hals
      have hz : IntKind.u64.wrap 0 = 0 := by decide
      have hnnS : IntKind.u64.wrap n = nn := by rw [hnn]; simp
      have q1 : al.length ≤ 140737488355328 := by omega
      have ha1 : u8l al ++ [] = u8l al := List.append_nil _
      
      iterate 2
        refine AW.region (by decide) ?_
        simp only [push_cast, simprocAttr, kP, kB, kL, kL2, kS, kS2, kA, kAs, kc, hl1, List.set_set, List.length_set, prB, rowB, pS, u8l_len, Nat.sub_zero, Int.le_refl, c1, c2, hXi, ha1, hz, hnnS, q1, Int.add_zero]
        refine Thn_n ?_
        refine hK _ _ ?_
        clear hK K
        refine AW.seq_k fun K hK => ?_
      refine AW.block ?_
      refine AW.loopK [0, 8, 9, 10] (fun j => 64 * j ≤ al.length) (fun j => []) (fun j => [(rp, ⟨.fix, 74, 0, 0, [.int .u32 ((compN S al j)).a, .int .u32 ((compN S al j)).b, .int .u32 ((compN S al j)).c, .int .u32 ((compN S al j)).d, .int .u32 ((compN S al j)).e, .int .u32 ((compN S al j)).f, .int .u32 ((compN S al j)).g, .int .u32 ((compN S al j)).h, (.sl bb (v1 + 1) (64 * j) (al.length - 64 * j)), .int .u64 nn]⟩)]) (fun j => al.length - 64 * j) 0 (by omega) ?_ ?_ fun j hi12 => ?_
      · first | rfl | (simp only [Keeps, Tm.get_cons, Nat.reduceEqDiff, ↓reduceIte, if_true, if_false, ite_true, ite_false, true_and, and_true, and_self, reduceCtorEq, compN, Nat.mul_zero, Nat.sub_zero] <;> rfl)
      · first | rfl | (simp only [setAll, push_cast, simprocAttr, kP, kB, kL, kL2, kS, kS2, kA, kAs, kc, hl1, List.set_set, List.length_set, prB, rowB, pS, u8l_len, Nat.sub_zero, Int.le_refl, c1, c2, hXi, ha1, hz, hnnS, q1, Int.add_zero, compN, Nat.mul_zero, Nat.sub_zero] <;> rfl)
      try simp only [keepL, setAll, push_cast, simprocAttr, kP, kB, kL, kL2, kS, kS2, kA, kAs, kc, hl1, List.set_set, List.length_set, prB, rowB, pS, u8l_len, Nat.sub_zero, Int.le_refl, c1, c2, hXi, ha1, hz, hnnS, q1, Int.add_zero]
      refine AW.seq_k fun K hK => ?_
      refine AW.seq_k fun K hK => ?_
      refine AW.region (by decide) ?_
      simp only [push_cast, simprocAttr, kP, kB, kL, kL2, kS, kS2, kA, kAs, kc, hl1, List.set_set, List.length_set, prB, rowB, pS, u8l_len, Nat.sub_zero, Int.le_refl, c1, c2, hXi, ha1, hz, hnnS, q1, Int.add_zero]
      refine Thn_n ?_
      refine hK _ _ ?_
      clear hK K
      refine AW.cond rfl (fun h38 => ?_) (fun h38 => ?_)
      · have hj : 64 ≤ al.length - 64 * j := by have := of_decide_eq_true h38; omega
        have c3 : (0 : Int) ≤ 64 := by omega
        have c4 : (64 : Int) ≤ ((al.length - 64 * j : Nat) : Int) := by omega
        have c5 : (((al.length - 64 * j : Nat) : Int)).toNat - 64 = al.length - 64 * j - 64 := by omega
        refine AW.skip ?_
        refine Thn_n ?_
        refine hK _ _ ?_
        clear hK K
        refine AW.seq_k fun K hK => ?_
        refine AW.block ?_
        refine AW.region (by decide) ?_
        simp only [push_cast, simprocAttr, kP, kB, kL, kL2, kS, kS2, kA, kAs, kc, hl1, List.set_set, List.length_set, prB, rowB, pS, u8l_len, Nat.sub_zero, Int.le_refl, c1, c2, hXi, ha1, hz, hnnS, q1, Int.add_zero, c3, c4, c5]
        refine CThen.by (stir_c rp (compN S al j) (.sl bb (v1 + 1) (64 * j) (al.length - 64 * j)) nn bb (v1 + 1) (64 * j) 64 al _ (kP _ _ (by rw [List.length_set])) (by simp only [CV.below, List.length_set]; exact decide_eq_true lbb) ⟨_, _, kB _ _ _ rfl⟩ (by omega) (by omega) (by omega) nb) ?_
        simp only [push_cast, simprocAttr, kP, kB, kL, kL2, kS, kS2, kA, kAs, kc, hl1, List.set_set, List.length_set, prB, rowB, pS, u8l_len, Nat.sub_zero, Int.le_refl, c1, c2, hXi, ha1, hz, hnnS, q1, Int.add_zero, c3, c4, c5]
        refine InB_n ?_
        refine Thn_n ?_
        refine hK _ _ ?_
        clear hK K
        refine AW.region (by decide) ?_
        simp only [push_cast, simprocAttr, kP, kB, kL, kL2, kS, kS2, kA, kAs, kc, hl1, List.set_set, List.length_set, prB, rowB, pS, u8l_len, Nat.sub_zero, Int.le_refl, c1, c2, hXi, ha1, hz, hnnS, q1, Int.add_zero, c3, c4, c5]
        refine Thn_n ?_
        have e1 : 64 * (j + 1) = 64 * j + 64 := by omega
        have e2 : al.length - (64 * j + 64) = al.length - 64 * j - 64 := by omega
        have e3 : compN S al (j + 1) = comp KW (compN S al j) al (64 * j) := rfl
        refine ⟨j + 1, by omega, by omega, ?_⟩
        try simp only [keepL, setAll, push_cast, simprocAttr, kP, kB, kL, kL2, kS, kS2, kA, kAs, kc, hl1, List.set_set, List.length_set, prB, rowB, pS, u8l_len, Nat.sub_zero, Int.le_refl, c1, c2, hXi, ha1, hz, hnnS, q1, Int.add_zero, c3, c4, c5, e1, e2, e3]
        exact Weak.same (by simp only [Keeps, Tm.get_cons, Nat.reduceEqDiff, ↓reduceIte, if_true, if_false, ite_true, ite_false, true_and, and_true, and_self, reduceCtorEq, e1, e2, e3]) (by first | rfl | simp only [Keeps, Tm.get_cons, Nat.reduceEqDiff, ↓reduceIte, if_true, if_false, ite_true, ite_false, true_and, and_true, and_self, reduceCtorEq, e1, e2, e3])
      · have hj : al.length - 64 * j < 64 := by have := of_decide_eq_false h38; omega
        have hje : j = al.length / 64 := by omega
        have g1 : (u8l al).drop (64 * j) = u8l (al.drop (64 * j)) := u8l_drop _ _
        have g2 : (u8l (al.drop (64 * j))).take (al.length - 64 * j) = u8l (al.drop (64 * j)) := List.take_of_length_le (by rw [u8l_len, List.length_drop]; exact Nat.le_refl _)
        have g3 : 64 * j + (al.length - 64 * j) ≤ al.length := by omega
        have g4 : al.length - 64 * j ≤ 140737488355328 := by omega
        have g5 := u8l_vals (al.drop (64 * j))
        have g6 := u8l_len (al.drop (64 * j))
        refine AW.exit ?_
        refine Thn_e ?_
        clear hK K
        refine Thn_e ?_
        refine InB_here ?_
        refine Thn_n ?_
        refine hK _ _ ?_
        clear hK K
        refine AW.region (by decide) ?_
        simp only [push_cast, simprocAttr, kP, kB, kL, kL2, kS, kS2, kA, kAs, kc, hl1, List.set_set, List.length_set, prB, rowB, pS, u8l_len, Nat.sub_zero, Int.le_refl, c1, c2, hXi, ha1, hz, hnnS, q1, Int.add_zero, g1, g2, g3, g4, g5, g6]
        refine InB_n ?_
        refine Thn_n ?_
        refine hK _ _ ?_
        clear hK K
        refine AW.moveC bb m.length 60 (al.length - 64 * j) rp 8 (b := rowB (v1 + 1) al) (e := ⟨.grow, 5, 1, 1, u8l (al.drop (64 * j))⟩) (by simp only [push_cast, simprocAttr, kP, kB, kL, kL2, kS, kS2, kA, kAs, kc, hl1, List.set_set, List.length_set, rowB]) rfl (by simp only [push_cast, simprocAttr, kP, kB, kL, kL2, kS, kS2, kA, kAs, kc, hl1, List.set_set, List.length_set]) rfl (by omega) (by simp only [push_cast, simprocAttr]) (p := ⟨.fix, 74, 0, 0, [.int .u32 ((compN S al j)).a, .int .u32 ((compN S al j)).b, .int .u32 ((compN S al j)).c, .int .u32 ((compN S al j)).d, .int .u32 ((compN S al j)).e, .int .u32 ((compN S al j)).f, .int .u32 ((compN S al j)).g, .int .u32 ((compN S al j)).h, (.sl m.length 1 0 (al.length - 64 * j)), .int .u64 nn]⟩) (by simp only [push_cast, simprocAttr, kP, kB, kL, kL2, kS, kS2, kA, kAs, kc, hl1, List.set_set, List.length_set]) (by simp) npb (by omega) rfl ?_
        simp only [push_cast, simprocAttr, kP, kB, kL, kL2, kS, kS2, kA, kAs, kc, hl1, List.set_set, List.length_set, rowB]
        refine AW.region (by decide) ?_
        simp only [push_cast, simprocAttr, kP, kB, kL, kL2, kS, kS2, kA, kAs, kc, hl1, List.set_set, List.length_set, prB, rowB, pS, u8l_len, Nat.sub_zero, Int.le_refl, c1, c2, hXi, ha1, hz, hnnS, q1, Int.add_zero, g1, g2, g3, g4, g5, g6]
        refine Thn_n ?_
        have hwi : IntKind.i64.wrap ((i:Int)+1) = (i:Int)+1 := wi (by omega)
        have hres : accP s0 bf (i + 1) = ⟨compN S al j, al.drop (64 * j), nn⟩ := by rw [hnx]; simp only [absS, happ, ← hje, ← hnn0]
        have hdl : (al.drop (64 * j)).length = al.length - 64 * j := List.length_drop
        refine ⟨i + 1, by omega, by omega, ?_⟩
        try simp only [keepL, setAll, push_cast, simprocAttr, kP, kB, kL, kL2, kS, kS2, kA, kAs, kc, hl1, List.set_set, List.length_set, prB, rowB, pS, u8l_len, Nat.sub_zero, Int.le_refl, c1, c2, hXi, ha1, hz, hnnS, q1, Int.add_zero, g1, g2, g3, g4, g5, g6, hwi, hvn, hres, hdl]
        exact Weak.to (extra := [_]) (by simp only [Keeps, Tm.get_cons, Nat.reduceEqDiff, ↓reduceIte, if_true, if_false, ite_true, ite_false, true_and, and_true, and_self, reduceCtorEq, hwi, hvn, hres, hdl]) (by first | rfl | (simp only [List.append_assoc, List.cons_append, List.nil_append]; rfl)) (by first | rfl | (simp [AV.below, CV.below]; done) | (simp [AV.below, CV.below]; omega)) (by simp only [List.length_set]; refine MWf_set (MWf_set hwf (u8l_below _ _)) ?_; simp [CV.below, lbb])
    · have happ := hal
      have hal2 := congrArg List.length hal
      rw [List.length_append] at hal2
      obtain ⟨nn, hnn⟩ : ∃ nn, nn = IntKind.u64.wrap (n + ((bf i).length : Int)) := ⟨_, rfl⟩
      have hnn0 := hnn
      have hle := hbl i hlt
      have w1 : IntKind.u64.wrap (((bf i).length : Nat) : Int) = ((bf i).length : Int) := by rw [IntKind.wrap_u64]; omega
      have q1 : r.length + (bf i).length ≤ 140737488355328 := by omega
      have q2 : al.length ≤ 140737488355328 := by omega
      have hokA : U8ok al := by rw [← hal]; exact hok.app (hbo i hlt)
      have nb := hokA.by
      have hnnS := hnn.symm
      have nrp : rb ≠ rp := fun e => by
        subst e; rw [hp] at hb2; simp only [prB, Option.some.injEq, Blk.mk.injEq] at hb2
        have := hb2.2.2.2.2
        cases X2 with
        | nil => simp [u8l] at this
        | cons x xs => simp [u8l] at this
      simp only [ec]
      have hb3 := fun (A B : Blk) => (kO rb m A B hrb nrp).trans hb2
      have ha1 : u8l r ++ ((u8l X2).drop off2).take (bf i).length = u8l al := by rw [u8l_drop, u8l_take, hx2, u8l_app, hal]
      have ha2 : off2 + (bf i).length ≤ X2.length := hf2
      have ha3 : (((u8l X2).drop off2).take (bf i).length).all CV.isVal = true := by rw [u8l_drop, u8l_take]; exact u8l_vals _
      
      iterate 2
        refine AW.region (by decide) ?_
        simp only [push_cast, simprocAttr, kP, kB, kL, kL2, kS, kS2, kA, kAs, kc, hl1, List.set_set, List.length_set, prB, rowB, pS, u8l_len, Nat.sub_zero, Int.le_refl, c1, c2, hXi, hb3, ha1, ha2, ha3, w1, q1, q2, hnnS, hal2]
        refine Thn_n ?_
        refine hK _ _ ?_
        clear hK K
        refine AW.seq_k fun K hK => ?_
      refine AW.block ?_
      refine AW.loopK [0, 8, 9, 10] (fun j => 64 * j ≤ al.length) (fun j => []) (fun j => [(rp, ⟨.fix, 74, 0, 0, [.int .u32 ((compN S al j)).a, .int .u32 ((compN S al j)).b, .int .u32 ((compN S al j)).c, .int .u32 ((compN S al j)).d, .int .u32 ((compN S al j)).e, .int .u32 ((compN S al j)).f, .int .u32 ((compN S al j)).g, .int .u32 ((compN S al j)).h, (.sl bb (v1 + 1) (64 * j) (al.length - 64 * j)), .int .u64 nn]⟩)]) (fun j => al.length - 64 * j) 0 (by omega) ?_ ?_ fun j hi18 => ?_
      · first | rfl | (simp only [Keeps, Tm.get_cons, Nat.reduceEqDiff, ↓reduceIte, if_true, if_false, ite_true, ite_false, true_and, and_true, and_self, reduceCtorEq, compN, Nat.mul_zero, Nat.sub_zero] <;> rfl)
      · first | rfl | (simp only [setAll, push_cast, simprocAttr, kP, kB, kL, kL2, kS, kS2, kA, kAs, kc, hl1, List.set_set, List.length_set, prB, rowB, pS, u8l_len, Nat.sub_zero, Int.le_refl, c1, c2, hXi, hb3, ha1, ha2, ha3, w1, q1, q2, hnnS, hal2, compN, Nat.mul_zero, Nat.sub_zero] <;> rfl)
      try simp only [keepL, setAll, push_cast, simprocAttr, kP, kB, kL, kL2, kS, kS2, kA, kAs, kc, hl1, List.set_set, List.length_set, prB, rowB, pS, u8l_len, Nat.sub_zero, Int.le_refl, c1, c2, hXi, hb3, ha1, ha2, ha3, w1, q1, q2, hnnS, hal2]
      refine AW.seq_k fun K hK => ?_
      refine AW.seq_k fun K hK => ?_
      refine AW.region (by decide) ?_
      simp only [push_cast, simprocAttr, kP, kB, kL, kL2, kS, kS2, kA, kAs, kc, hl1, List.set_set, List.length_set, prB, rowB, pS, u8l_len, Nat.sub_zero, Int.le_refl, c1, c2, hXi, hb3, ha1, ha2, ha3, w1, q1, q2, hnnS, hal2]
      refine Thn_n ?_
      refine hK _ _ ?_
      clear hK K
      refine AW.cond rfl (fun h38 => ?_) (fun h38 => ?_)
      · have hj : 64 ≤ al.length - 64 * j := by have := of_decide_eq_true h38; omega
        have c3 : (0 : Int) ≤ 64 := by omega
        have c4 : (64 : Int) ≤ ((al.length - 64 * j : Nat) : Int) := by omega
        have c5 : (((al.length - 64 * j : Nat) : Int)).toNat - 64 = al.length - 64 * j - 64 := by omega
        refine AW.skip ?_
        refine Thn_n ?_
        refine hK _ _ ?_
        clear hK K
        refine AW.seq_k fun K hK => ?_
        refine AW.block ?_
        refine AW.region (by decide) ?_
        simp only [push_cast, simprocAttr, kP, kB, kL, kL2, kS, kS2, kA, kAs, kc, hl1, List.set_set, List.length_set, prB, rowB, pS, u8l_len, Nat.sub_zero, Int.le_refl, c1, c2, hXi, hb3, ha1, ha2, ha3, w1, q1, q2, hnnS, hal2, c3, c4, c5]
        refine CThen.by (stir_c rp (compN S al j) (.sl bb (v1 + 1) (64 * j) (al.length - 64 * j)) nn bb (v1 + 1) (64 * j) 64 al _ (kP _ _ (by rw [List.length_set])) (by simp only [CV.below, List.length_set]; exact decide_eq_true lbb) ⟨_, _, kB _ _ _ rfl⟩ (by omega) (by omega) (by omega) nb) ?_
        simp only [push_cast, simprocAttr, kP, kB, kL, kL2, kS, kS2, kA, kAs, kc, hl1, List.set_set, List.length_set, prB, rowB, pS, u8l_len, Nat.sub_zero, Int.le_refl, c1, c2, hXi, hb3, ha1, ha2, ha3, w1, q1, q2, hnnS, hal2, c3, c4, c5]
        refine InB_n ?_
        refine Thn_n ?_
        refine hK _ _ ?_
        clear hK K
        refine AW.region (by decide) ?_
        simp only [push_cast, simprocAttr, kP, kB, kL, kL2, kS, kS2, kA, kAs, kc, hl1, List.set_set, List.length_set, prB, rowB, pS, u8l_len, Nat.sub_zero, Int.le_refl, c1, c2, hXi, hb3, ha1, ha2, ha3, w1, q1, q2, hnnS, hal2, c3, c4, c5]
        refine Thn_n ?_
        have e1 : 64 * (j + 1) = 64 * j + 64 := by omega
        have e2 : al.length - (64 * j + 64) = al.length - 64 * j - 64 := by omega
        have e3 : compN S al (j + 1) = comp KW (compN S al j) al (64 * j) := rfl
        refine ⟨j + 1, by omega, by omega, ?_⟩
        try simp only [keepL, setAll, push_cast, simprocAttr, kP, kB, kL, kL2, kS, kS2, kA, kAs, kc, hl1, List.set_set, List.length_set, prB, rowB, pS, u8l_len, Nat.sub_zero, Int.le_refl, c1, c2, hXi, hb3, ha1, ha2, ha3, w1, q1, q2, hnnS, hal2, c3, c4, c5, e1, e2, e3]
        exact Weak.same (by simp only [Keeps, Tm.get_cons, Nat.reduceEqDiff, ↓reduceIte, if_true, if_false, ite_true, ite_false, true_and, and_true, and_self, reduceCtorEq, e1, e2, e3]) (by first | rfl | simp only [Keeps, Tm.get_cons, Nat.reduceEqDiff, ↓reduceIte, if_true, if_false, ite_true, ite_false, true_and, and_true, and_self, reduceCtorEq, e1, e2, e3])
      · have hj : al.length - 64 * j < 64 := by have := of_decide_eq_false h38; omega
        have hje : j = al.length / 64 := by omega
        have g1 : (u8l al).drop (64 * j) = u8l (al.drop (64 * j)) := u8l_drop _ _
        have g2 : (u8l (al.drop (64 * j))).take (al.length - 64 * j) = u8l (al.drop (64 * j)) := List.take_of_length_le (by rw [u8l_len, List.length_drop]; exact Nat.le_refl _)
        have g3 : 64 * j + (al.length - 64 * j) ≤ al.length := by omega
        have g4 : al.length - 64 * j ≤ 140737488355328 := by omega
        have g5 := u8l_vals (al.drop (64 * j))
        have g6 := u8l_len (al.drop (64 * j))
        refine AW.exit ?_
        refine Thn_e ?_
        clear hK K
        refine Thn_e ?_
        refine InB_here ?_
        refine Thn_n ?_
        refine hK _ _ ?_
        clear hK K
        refine AW.region (by decide) ?_
        simp only [push_cast, simprocAttr, kP, kB, kL, kL2, kS, kS2, kA, kAs, kc, hl1, List.set_set, List.length_set, prB, rowB, pS, u8l_len, Nat.sub_zero, Int.le_refl, c1, c2, hXi, hb3, ha1, ha2, ha3, w1, q1, q2, hnnS, hal2, g1, g2, g3, g4, g5, g6]
        refine InB_n ?_
        refine Thn_n ?_
        refine hK _ _ ?_
        clear hK K
        refine AW.moveC bb m.length 60 (al.length - 64 * j) rp 8 (b := rowB (v1 + 1) al) (e := ⟨.grow, 5, 1, 1, u8l (al.drop (64 * j))⟩) (by simp only [push_cast, simprocAttr, kP, kB, kL, kL2, kS, kS2, kA, kAs, kc, hl1, List.set_set, List.length_set, rowB]) rfl (by simp only [push_cast, simprocAttr, kP, kB, kL, kL2, kS, kS2, kA, kAs, kc, hl1, List.set_set, List.length_set]) rfl (by omega) (by simp only [push_cast, simprocAttr]) (p := ⟨.fix, 74, 0, 0, [.int .u32 ((compN S al j)).a, .int .u32 ((compN S al j)).b, .int .u32 ((compN S al j)).c, .int .u32 ((compN S al j)).d, .int .u32 ((compN S al j)).e, .int .u32 ((compN S al j)).f, .int .u32 ((compN S al j)).g, .int .u32 ((compN S al j)).h, (.sl m.length 1 0 (al.length - 64 * j)), .int .u64 nn]⟩) (by simp only [push_cast, simprocAttr, kP, kB, kL, kL2, kS, kS2, kA, kAs, kc, hl1, List.set_set, List.length_set]) (by simp) npb (by omega) rfl ?_
        simp only [push_cast, simprocAttr, kP, kB, kL, kL2, kS, kS2, kA, kAs, kc, hl1, List.set_set, List.length_set, rowB]
        refine AW.region (by decide) ?_
        simp only [push_cast, simprocAttr, kP, kB, kL, kL2, kS, kS2, kA, kAs, kc, hl1, List.set_set, List.length_set, prB, rowB, pS, u8l_len, Nat.sub_zero, Int.le_refl, c1, c2, hXi, hb3, ha1, ha2, ha3, w1, q1, q2, hnnS, hal2, g1, g2, g3, g4, g5, g6]
        refine Thn_n ?_
        have hwi : IntKind.i64.wrap ((i:Int)+1) = (i:Int)+1 := wi (by omega)
        have hres : accP s0 bf (i + 1) = ⟨compN S al j, al.drop (64 * j), nn⟩ := by rw [hnx]; simp only [absS, happ, ← hje, ← hnn0]
        have hdl : (al.drop (64 * j)).length = al.length - 64 * j := List.length_drop
        refine ⟨i + 1, by omega, by omega, ?_⟩
        try simp only [keepL, setAll, push_cast, simprocAttr, kP, kB, kL, kL2, kS, kS2, kA, kAs, kc, hl1, List.set_set, List.length_set, prB, rowB, pS, u8l_len, Nat.sub_zero, Int.le_refl, c1, c2, hXi, hb3, ha1, ha2, ha3, w1, q1, q2, hnnS, hal2, g1, g2, g3, g4, g5, g6, hwi, hvn, hres, hdl]
        exact Weak.to (extra := [_]) (by simp only [Keeps, Tm.get_cons, Nat.reduceEqDiff, ↓reduceIte, if_true, if_false, ite_true, ite_false, true_and, and_true, and_self, reduceCtorEq, hwi, hvn, hres, hdl]) (by first | rfl | (simp only [List.append_assoc, List.cons_append, List.nil_append]; rfl)) (by first | rfl | (simp [AV.below, CV.below]; done) | (simp [AV.below, CV.below]; omega)) (by simp only [List.length_set]; refine MWf_set (MWf_set hwf (u8l_below _ _)) ?_; simp [CV.below, lbb])
  · have hin : i = np := by have := of_decide_eq_false h11; omega
    subst hin
    refine AW.exit ?_
    refine Thn_e ?_
    clear hK K
    refine Thn_e ?_
    refine InB_here ?_
    refine hQ _ _ _ ?_
    rw [hv1, hst]
    first | refine RetP.dropM0 (pwr_len m rp bb _ _) (Or.inl rfl) ?_ ?_ (pwr_wf rp bb _ _ hwf lbb) | refine RetP.dropM (m1 := pwr m rp bb _ _) (pwr_len m rp bb _ _) (Or.inl rfl) ?_ ?_ (pwr_wf rp bb _ _ hwf lbb)
    · rfl
    · rfl
    
end Go.Proofs.Ytmjbbnfmhgcfaaa
