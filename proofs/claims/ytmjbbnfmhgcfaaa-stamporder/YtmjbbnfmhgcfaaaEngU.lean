/-
  ENGINE, PART U: a row held against nil, of which nothing more is known; a nil row taken as one of our own, of any version.
-/
import Derived.Test.YtmjbbnfmhgcfaaaEngT
set_option linter.unusedVariables false
namespace Go.Eng
open Go
variable {P : Program}
theorem aops_app {nt : Nat} {ops : Array Oper} {last : List Oper} : ∀ (l : List Oper) (tm : Tm) (mem : AMem) (K : Tm → AMem → Prop), l.all (dstOk nt) = true → AOps P ops l tm mem K →
    ∀ (ρ : Env) (a : Act) (w : World) (Q : Exit → Act → World → Prop), Rep ρ nt tm mem a w →
      (∀ ρ' tm' mem' a' w', Rep ρ' nt tm' mem' a' w' → Step mem ρ w mem' ρ' w' → a'.defers = a.defers → K tm' mem' → wpList P ops Q last a' w') → wpList P ops Q (l ++ last) a w
  | [], tm, mem, K, _, h, ρ, a, w, Q, hr, hQ => hQ ρ tm mem a w hr (Step.refl _ _ _) rfl h
  | o :: rest, tm, mem, K, hd, h, ρ, a, w, Q, hr, hQ => by
    simp only [List.all_cons, Bool.and_eq_true] at hd
    have hdef : ∀ v, (a.put o.dst v).defers = a.defers := fun v => by cases o.dst <;> rfl
    simp only [AOps] at h
    rw [List.cons_append]
    unfold wpList
    split at h
    · rename_i hw
      rw [if_pos (wantedA_sound hr hw)]
      refine .inl ?_
      unfold Oper.wp
      split at h
      · rename_i t x y hop
        split at h
        · rename_i mem' hs
          obtain ⟨w', hrun, hm, hst⟩ := run_storeA P hr.mem hs (hr.opd x) (hr.opd y)
          have he : (execOp a.eval o).run P w = .ok .skip w' := by rw [ex_store hop]; simp only [Sem.run_bind, hrun, Result.andThen_ok, Sem.run_pure]
          rw [he, Oper.upon_skip]
          refine aops_app rest _ mem' K hd.2 h ρ _ w' Q ((hr.step hst hm).putO hd.1 (x := .one .und) rfl) fun ρ' tm' mem'' a' w'' r s d k => hQ ρ' tm' mem'' a' w'' r (hst.trans s) (d.trans (hdef _)) k
        · exact h.elim
      · rename_i f args ts hop
        split at h
        · rename_i g cs hf
          obtain ⟨ret, mem', hg, h⟩ := h
          have hfv := hr.opd f
          rw [hf] at hfv
          obtain ⟨vs, hfe, hcaps⟩ := hfv
          have hargs : All2 (VR ρ) (args.toList.map (opd tm)) (args.toList.map a.eval) := All2_map (fun y => hr.opd y) args.toList
          have hc := hg ρ w _ hr.mem (hargs.append (capsAV_sound hcaps))
          have hea : (args.toList.map a.eval ++ vs.toList).toArray = args.map a.eval ++ vs := by
            apply Array.ext'; simp
          rw [hea] at hc
          have he0 : (execOp a.eval o).run P w = (callFunc g (args.map a.eval ++ vs)).run P w := by
            rw [ex_call hop]
            simp only [resolve, hfe, Deferred.ofValue, Sem.run_bind, Sem.run_pure, Result.andThen_ok, invoke, Array.empty_append]
          rcases hc with ⟨⟨fn, hfn, hname, hbody⟩, hc⟩ | ⟨v, w', hrun, v', ρ', he', hv, hm, hst⟩
          · have he : (execOp a.eval o).run P w = .ok (.enter g (args.map a.eval ++ vs)) w := by
              rw [he0]
              simp only [Sem.run_bind, Sem.run_pure, Result.andThen_ok, callFunc, run_program, hfn, hname, hbody, Bool.false_eq_true, if_false]
            rw [he, Oper.upon_enter]
            refine hc.mono fun e w' ⟨v, ρ', he', hv, hm, hst⟩ => ?_
            subst he'
            exact aops_app rest _ mem' K hd.2 h ρ' _ w' Q ((hr.step hst hm).putO hd.1 hv) fun ρ'' tm' mem'' a' w'' r s d k => hQ ρ'' tm' mem'' a' w'' r (hst.trans s) (d.trans (hdef _)) k
          · injection he' with he'; subst he'
            rw [he0, hrun, Oper.upon_value]
            exact aops_app rest _ mem' K hd.2 h ρ' _ w' Q ((hr.step hst hm).putO hd.1 hv) fun ρ'' tm' mem'' a' w'' r s d k => hQ ρ'' tm' mem'' a' w'' r (hst.trans s) (d.trans (hdef _)) k
        · exact h.elim
      · split at h
        · rename_i x mem' hv
          obtain ⟨v, w', ρ', hrun, hvr, hm, hst⟩ := evVal_sound hr hv
          rw [hrun, Oper.upon_value]
          exact aops_app rest _ mem' K hd.2 h ρ' _ w' Q ((hr.step hst hm).putO hd.1 hvr) fun ρ'' tm' mem'' a' w'' r s d k => hQ ρ'' tm' mem'' a' w'' r (hst.trans s) (d.trans (hdef _)) k
        · exact h.elim
    · rename_i hw
      rw [if_neg (by rw [wantedA_sound hr hw]; simp)]
      exact aops_app rest _ mem K hd.2 h ρ _ w Q (hr.putO hd.1 (x := .one .und) rfl) fun ρ'' tm' mem'' a' w'' r s d k => hQ ρ'' tm' mem'' a' w'' r s (d.trans (hdef _)) k
    · exact h.elim


def nilEqA (P : Program) (f : Operand → AV) : Op → Bool
  | .binOp .eql t x y _ => match P.underlying t, f x, f y with
    | some (.slice _), .one (.sl _ _ _ _), .one .nils => true
    | _, _, _ => false
  | _ => false
theorem run_eqNil {ρ : Env} {t e : TypeId} {r v off len : Nat} {u x : Value} (ht : P.underlying t = some (.slice e)) (hx : VR ρ (.one (.sl r v off len)) u) (hy : VR ρ (.one .nils) x) (o1 o2 : Operand) (w : World) :
    ∃ b, ((do eqGuard .eql t o1 o2 u x; binOp .eql t u x) : Sem Value).run P w = .ok (.bool b) w := by
  have e2 : x = _ := hy
  subst e2
  obtain ⟨A, c0, B, c, _, rfl, _, _, _⟩ := hx
  refine ⟨B.isNone, ?_⟩
  cases B with
  | none => exact (eq_pair P (fun op h => by rw [eqGuard_at_slice]; rfl) rfl rfl (fun d => by simp [Op.equalIn, run_underlying ht])).1
  | some a => exact (eq_pair P (fun op h => by rw [eqGuard_at_slice]; rfl) rfl rfl (fun d => by simp [Op.equalIn, run_underlying ht])).1
variable {nt : Nat} {tm : Tm} {mem : AMem}
theorem AW.eqNil {id : Nat} {o1 o2 : Oper} {Q : Exit → Tm → AMem → Prop} (hd : [o1, o2].all (dstOk nt) = true)
    (h : AOps P [o1, o2].toArray [o1] tm mem fun tm' mem' => wantedA [o1, o2].toArray o2 tm' = some true ∧ nilEqA P (opd tm') o2.op = true ∧ ∀ b, Q .normal (putO o2.dst (.one (.bool b)) tm') mem') :
    AW P nt (.region id [o1, o2].toArray false) tm mem Q := by
  intro ρ a w hr
  refine wp_region_lit ?_
  simp only [List.all_cons, List.all_nil, Bool.and_true, Bool.and_eq_true] at hd
  refine aops_app (last := [o2]) [o1] tm mem _ (by simp [hd.1]) h ρ a w _ hr fun ρ' tm' mem' a' w' r s d k => ?_
  obtain ⟨hw, hn, hq⟩ := k
  unfold wpList
  rw [if_pos (wantedA_sound r hw)]
  refine .inl ?_
  unfold nilEqA at hn
  split at hn
  · rename_i t x y yt hop
    split at hn
    · rename_i e rr vv oo ll ht hx hy
      have h1 := r.opd x
      have h2 := r.opd y
      rw [hx] at h1
      rw [hy] at h2
      obtain ⟨b, hb⟩ := run_eqNil ht h1 h2 x y w'
      have he : (execOp a'.eval o2).run P w' = .ok (.value (.bool b)) w' := by
        rw [ex_binOp hop]
        simp only [Sem.run_bind] at hb ⊢
        rw [hb]; rfl
      unfold Oper.wp
      rw [he, Oper.upon_value]
      unfold wpList
      exact ⟨ρ', _, mem', r.putO hd.2 (x := .one (.bool b)) rfl, s, by cases o2.dst <;> exact d, hq b⟩
    · cases hn
  · cases hn
theorem nil_rowV {ver : Nat} {ρ : Env} {L : Nat} {v : Value} (h : VC ρ .nils v) : VC (ρ.set L ver (none, 0)) (.sl L ver 0 0) v := by
  have e : v = .slice none 0 0 := h
  subst e
  exact ⟨none, 0, none, 0, Env.set_same _ _ _ _, rfl, Nat.le_refl _, fun h => by omega, fun _ => ⟨rfl, rfl⟩⟩

theorem Rep.nilRowV (ver : Nat) {ρ : Env} {a : Act} {w : World} (hr : Rep ρ nt tm mem a w) (ty esz : Nat) (mem1 : AMem) (hlen : mem1.length = mem.length) (hk : ∀ (r : Nat) (b1 : Blk), mem1[r]? = some b1 → ∃ b, mem[r]? = some b ∧ b1.kind = b.kind ∧ b1.ver = b.ver ∧ (b.kind = .ro → b1 = b))
    (hb : ∀ (r : Nat) (b1 : Blk), mem1[r]? = some b1 → BlkR (ρ.set mem.length ver (none, 0)) w r b1) (tm1 : Tm) (ht : ∀ i, VR (ρ.set mem.length ver (none, 0)) (Tm.get tm1 i) (a.tmps.getD i undef)) :
    Rep (ρ.set mem.length ver (none, 0)) nt tm1 (mem1 ++ [⟨.grow, ty, ver, esz, []⟩]) a w ∧ ∀ m0 ρ0 w0, Step m0 ρ0 w0 mem ρ w → Step m0 ρ0 w0 (mem1 ++ [⟨.grow, ty, ver, esz, []⟩]) (ρ.set mem.length ver (none, 0)) w := by
  have hle : ρ.le (ρ.set mem.length ver (none, 0)) := Env.le_set (hr.mem.dom _ _ (Nat.le_refl _))
  have hgt : ∀ {s : Nat} {d : Blk}, (mem1 ++ [⟨.grow, ty, ver, esz, []⟩])[s]? = some d → (s < mem.length ∧ mem1[s]? = some d) ∨ (s = mem.length ∧ d = ⟨.grow, ty, ver, esz, []⟩) := by
    intro s d hd
    rcases Nat.lt_or_ge s mem1.length with h | h
    · rw [List.getElem?_append_left h] at hd; exact .inl ⟨by omega, hd⟩
    · rw [List.getElem?_append_right h] at hd
      have hl := (List.getElem?_eq_some_iff.1 hd).1
      simp at hl
      have : s = mem.length := by omega
      subst this
      simp [hlen] at hd
      exact .inr ⟨rfl, hd.symm⟩
  have hoth : ∀ {s v : Nat}, s < mem.length → ρ.set mem.length ver (none, 0) s v = ρ s v := fun {s v} h => Env.set_other ρ _ (by omega)
  refine ⟨⟨hr.size, ht, ⟨?_, ?_, ?_, ?_⟩⟩, ?_⟩
  · intro s d hd
    rcases hgt hd with ⟨_, h1⟩ | ⟨rfl, rfl⟩
    · exact hb s d h1
    · exact .inl ⟨rfl, Env.set_same _ _ _ _⟩
  · intro s v hs
    simp at hs
    rw [Env.set_other ρ _ (by omega)]
    exact hr.mem.dom s v (by omega)
  · intro s d v hd hv
    rcases hgt hd with ⟨hl, h1⟩ | ⟨rfl, rfl⟩
    · obtain ⟨b, h2, _, h3, _⟩ := hk s d h1
      rw [hoth hl]; exact hr.mem.domv s b v h2 (by omega)
    · simp only at hv
      rw [Env.set_other ρ _ (by omega)]
      exact hr.mem.dom _ _ (Nat.le_refl _)
  · intro s t d e hd he hst hkd hne x y k1 k2 hx hy
    rcases hgt hd with ⟨hl, h1⟩ | ⟨rfl, rfl⟩
    · rcases hgt he with ⟨hl', h1'⟩ | ⟨rfl, rfl⟩
      · obtain ⟨b, h2, h3, h4, h5⟩ := hk s d h1
        obtain ⟨b', h2', h3', h4', h5'⟩ := hk t e h1'
        rw [hoth hl, h4] at hx
        rw [hoth hl', h4'] at hy
        exact hr.mem.sep s t b b' h2 h2' hst (by rw [← h3]; exact hkd) (fun h => by rw [← h5' h]; exact hne (by rw [h3']; exact h)) x y k1 k2 hx hy
      · simp only [Env.set_same] at hy
        injection hy with hy; injection hy with hy _; cases hy
    · simp only [Env.set_same] at hx
      injection hx with hx; injection hx with hx _; cases hx
  · intro m0 ρ0 w0 hs
    refine ⟨hs.os, hs.tape, hs.output, hs.size, ?_, fun r hr v x hx => hle _ _ _ (hs.ext r hr v x hx), ?_, ?_, ?_, ?_⟩
    · have := hs.len; simp; omega
    · intro r b b' hb0 hb'
      have hl0 := (List.getElem?_eq_some_iff.1 hb0).1
      have := hs.len
      rcases hgt hb' with ⟨hl, h1⟩ | ⟨rfl, rfl⟩
      · obtain ⟨b2, h2, h3, _, _⟩ := hk r b' h1
        rw [h3]; exact hs.kind r b b2 hb0 h2
      · omega
    · intro r b' hb' hro
      rcases hgt hb' with ⟨hl, h1⟩ | ⟨rfl, rfl⟩
      · obtain ⟨b2, h2, h3, _, h5⟩ := hk r b' h1
        have e := h5 (by rw [← h3]; exact hro)
        subst e
        exact hs.ro r b' h2 hro
      · cases hro
    · exact hs.frame
    · intro r b' x k hb' hkd hx
      rcases hgt hb' with ⟨hl, h1⟩ | ⟨rfl, rfl⟩
      · obtain ⟨b2, h2, h3, h4, h5⟩ := hk r b' h1
        rw [hoth hl, h4] at hx
        exact hs.fresh r b2 x k h2 (by rw [← h3]; exact hkd) hx
      · simp only [Env.set_same] at hx
        injection hx with hx; injection hx with hx _; cases hx

/-- The same of a temporary. -/
theorem AW.nilTmV {c : Code} {Q : Exit → Tm → AMem → Prop} (ty esz : Nat) (ver : Nat) (d : Nat) (hd : Tm.get tm d = .one .nils)
    (h : AW P nt c ((d, .one (.sl mem.length ver 0 0)) :: tm) (mem ++ [⟨.grow, ty, ver, esz, []⟩]) Q) : AW P nt c tm mem Q := by
  intro ρ a w hr
  have hle : ρ.le (ρ.set mem.length ver (none, 0)) := Env.le_set (hr.mem.dom _ _ (Nat.le_refl _))
  obtain ⟨h1, h2⟩ := hr.nilRowV ver ty esz mem rfl (fun s d hd => ⟨d, hd, rfl, rfl, fun _ => rfl⟩) (fun s d hd => (hr.mem.blk s d hd).mono hle) ((d, .one (.sl mem.length ver 0 0)) :: tm) (fun i => by
    rw [Tm.get_put]
    by_cases hi : i = d
    · subst hi
      rw [if_pos rfl]
      have := hr.tm i
      rw [hd] at this
      exact nil_rowV this
    · rw [if_neg hi]; exact (hr.tm i).mono hle)
  refine wp_mono (h _ a w h1) ?_
  rintro e a' w' ⟨ρ2, tm2, mem2, hr2, hs2, hd, hq⟩
  exact ⟨ρ2, tm2, mem2, hr2, (h2 mem ρ w (Step.refl _ _ _)).trans hs2, hd, hq⟩

end Go.Eng
