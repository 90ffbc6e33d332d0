/-
  ENGINE, PART J: a region that draws its order: reckoned once, in the order of the text, good for every order that its edges allow.
-/
import Derived.Test.YtmjbbnfmhgcfaaaEngI
set_option linter.unusedVariables false
set_option linter.unusedSimpArgs false
namespace Go.Eng
open Go

/-- What an operation of such a region is: it only reckons; it reads what was there behind so many of the operations that turn memory; it makes memory; it turns memory. -/
inductive Plan where
  | val
  | rd (lo : Nat)
  | rw (lo : Nat)
  | ext
  | up (q : Nat)
  | fl
  | wr
  deriving Inhabited, DecidableEq

def Plan.chain : Plan → Bool
  | .ext => true
  | .up _ => true
  | .fl => true
  | .wr => true
  | _ => false
def Plan.isFl : Plan → Bool
  | .fl => true
  | _ => false
def Plan.isRd : Plan → Bool
  | .rd _ => true
  | _ => false
def Plan.isWr : Plan → Bool
  | .wr => true
  | _ => false

section
variable {P : Program}

/-- What an operation does to the abstract state: its value, and memory behind it. -/
def Does (P : Program) (o : Oper) (e : Operand → AV) (M : AMem) (x : AV) (M' : AMem) : Prop :=
  match o.op with
  | .store t y z => storeA P t (e y) (e z) M = some M' ∧ x = .one .und
  | .call ⟨.value f, args, _⟩ => ∃ g cs, e f = .one (.fn g cs) ∧ Ctr P g (args.toList.map e ++ capsAV cs) M x M'
  | op => evVal P e M op = some (x, M')

theorem does_sound {ρ : Env} {nt : Nat} {tm : Tm} {M M' : AMem} {a : Act} {w : World} {o : Oper} {x : AV} (h : Does P o (opd tm) M x M') (hr : Rep ρ nt tm M a w) {Q : Exit → Act → World → Prop} {K : Act → World → Prop}
    (hK : ∀ ρ' v w', VR ρ' x v → RepM ρ' M' w' → Step M ρ w M' ρ' w' → K (a.put o.dst v) w') : o.wp P a w K Q := by
  unfold Oper.wp
  unfold Does at h
  split at h
  · rename_i t y z hop
    obtain ⟨hs, rfl⟩ := h
    obtain ⟨w', hrun, hm, hst⟩ := run_storeA P hr.mem hs (hr.opd y) (hr.opd z)
    have he : (execOp a.eval o).run P w = .ok .skip w' := by rw [ex_store hop]; simp only [Sem.run_bind, hrun, Result.andThen_ok, Sem.run_pure]
    rw [he, Oper.upon_skip]
    exact hK ρ undef w' rfl hm hst
  · rename_i f args ts hop
    obtain ⟨g, cs, hf, hg⟩ := h
    have hfv := hr.opd f
    rw [hf] at hfv
    obtain ⟨vs, hfe, hcaps⟩ := hfv
    have hargs : All2 (VR ρ) (args.toList.map (opd tm)) (args.toList.map a.eval) := All2_map (fun y => hr.opd y) args.toList
    have hc := hg ρ w _ hr.mem (hargs.append (capsAV_sound hcaps))
    have hea : (args.toList.map a.eval ++ vs.toList).toArray = args.map a.eval ++ vs := by
      apply Array.ext'; simp
    rw [hea] at hc
    have he0 : (execOp a.eval o).run P w = (callFunc g (args.map a.eval ++ vs)).run P w := by
      rw [ex_call hop]
      simp only [resolve, hfe, Deferred.ofValue, Sem.run_bind, Sem.run_pure, Result.andThen_ok, invoke, Array.empty_append]
    rcases hc with ⟨⟨fn, hfn, hname, hbody⟩, hc⟩ | ⟨v, w', hrun, v', ρ', he', hv, hm, hst⟩
    · have he : (execOp a.eval o).run P w = .ok (.enter g (args.map a.eval ++ vs)) w := by
        rw [he0]
        simp only [Sem.run_bind, Sem.run_pure, Result.andThen_ok, callFunc, run_program, hfn, hname, hbody, Bool.false_eq_true, if_false]
      rw [he, Oper.upon_enter]
      refine hc.mono fun e w' ⟨v, ρ', he', hv, hm, hst⟩ => ?_
      subst he'
      exact hK ρ' v w' hv hm hst
    · injection he' with he'; subst he'
      rw [he0, hrun, Oper.upon_value]
      exact hK ρ' v w' hv hm hst
  · obtain ⟨v, w', ρ', hrun, hvr, hm, hst⟩ := evVal_sound hr h
    rw [hrun, Oper.upon_value]
    exact hK ρ' v w' hvr hm hst

theorem map_parts_congr {e e' : Operand → AV} {ps : Array (Nat × Operand)} (h : ∀ x ∈ (ps.toList.map (·.2)).toArray, e x = e' x) : (ps.toList.map fun p => (p.1, e p.2)) = ps.toList.map fun p => (p.1, e' p.2) :=
  List.map_congr_left fun p hp => by rw [h p.2 (by simpa using ⟨p.1, by simpa using hp⟩)]

theorem evVal_congr {e e' : Operand → AV} {M : AMem} {op : Op} (h : ∀ x ∈ op.operands, e x = e' x) : evVal P e M op = evVal P e' M op := by
  cases op
  case build t ps => simp only [evVal]; rw [map_parts_congr (by simpa only [Op.operands] using h)]
  case buildSlice t n ps => simp only [evVal]; rw [map_parts_congr (by simpa only [Op.operands] using h)]
  case slice t x lo hi mx =>
    simp only [Op.operands] at h
    cases mx with
    | some m => rfl
    | none => cases lo <;> cases hi <;> simp_all [evVal]
  case makeFunc fn first captured =>
    simp only [Op.operands] at h
    cases fn <;> simp only [evVal]
    rw [List.map_congr_left (g := e') (l := captured.toList) fun x hx => h x (by simp at hx; simp [hx])]
  case call c =>
    obtain ⟨cal, args, ts⟩ := c
    simp only [Op.operands, Call.operands] at h
    cases cal <;> simp only [evVal]
    rw [List.map_congr_left (g := e') (l := args.toList) fun x hx => h x (by simp at hx; simp [hx])]
  all_goals (first | rfl | (simp only [Op.operands] at h; simp_all [evVal]; done))

theorem Does.congr {e e' : Operand → AV} {o : Oper} {M M' : AMem} {x : AV} (h : ∀ y ∈ o.op.operands, e y = e' y) (hd : Does P o e M x M') : Does P o e' M x M' := by
  unfold Does at hd ⊢
  split at hd
  · rename_i t y z hop
    rw [hop] at h
    simp only [Op.operands] at h
    rw [← h y (by simp), ← h z (by simp)]
    exact hd
  · rename_i f args ts hop
    rw [hop] at h
    simp only [Op.operands, Call.operands] at h
    obtain ⟨g, cs, h1, h2⟩ := hd
    refine ⟨g, cs, by rw [← h f (by simp)]; exact h1, ?_⟩
    rw [← List.map_congr_left (f := e) (l := args.toList) fun x hx => h x (by simp at hx; simp [hx])]
    exact h2
  · rw [← evVal_congr h]; exact hd

/-- Blocks that stay as they are, from some memory on. -/
def Watched (Ms : List AMem) (W : List (Nat × Nat)) : Prop := ∀ p, p ∈ W → ∃ b, ∀ M, M ∈ Ms.drop p.1 → M[p.2]? = some b

def AOpsD (P : Program) (ops : Array Oper) : List (Oper × Plan) → Tm → AMem → List AMem → List (Nat × Nat) → (Tm → AMem → Prop) → Prop
  | [], tm, cur, hist, ws, K => Watched hist ws ∧ K tm cur
  | (o, p) :: rest, tm, cur, hist, ws, K =>
    match wantedA ops o tm with
    | some true =>
      match p with
      | .val => match evVal P (opd tm) [] o.op with
        | some (x, []) => AOpsD P ops rest (putO o.dst x tm) cur hist ws K
        | _ => False
      | .rd lo => match o.op with
        | .load t y => match hist[lo]? with
          | some M => match loadA P t (opd tm y) M with
            | some x => AOpsD P ops rest (putO o.dst x tm) cur hist ws K
            | none => False
          | none => False
        | _ => False
      | .rw lo => match o.op with
        | .load t y => match opd tm y, hist[lo]? with
          | .one (.ptr r ver off), some M => match loadA P t (.one (.ptr r ver off)) M with
            | some x => AOpsD P ops rest (putO o.dst x tm) cur hist ((lo, r) :: ws) K
            | none => False
          | _, _ => False
        | _ => False
      | .ext => match o.op with
        | .store _ _ _ => False
        | .call ⟨.value f, args, _⟩ => match opd tm f with
          | .one (.fn g cs) => ∃ ret extra, Ctr P g (args.toList.map (opd tm) ++ capsAV cs) cur ret (cur ++ extra) ∧ AOpsD P ops rest (putO o.dst ret tm) (cur ++ extra) (hist ++ [cur ++ extra]) ws K
          | _ => False
        | op => match evVal P (opd tm) cur op with
          | some (x, mem') => (∃ extra, mem' = cur ++ extra) ∧ AOpsD P ops rest (putO o.dst x tm) mem' (hist ++ [mem']) ws K
          | none => False
      | .up q => match evVal P (opd tm) cur o.op with
        | some (x, mem') => (∃ A x0 y0, hist[q]? = some A ∧ cur = A ++ x0 ∧ mem' = A ++ y0) ∧ AOpsD P ops rest (putO o.dst x tm) mem' (hist ++ [mem']) ws K
        | none => False
      | .fl => match o.op, o.guard with
        | .alloc t, none => match zeroOf P t with
          | some z => AOpsD P ops rest (putO o.dst (.one (.ptr cur.length 0 0)) tm) (cur ++ [⟨.fix, t, 0, 0, z.cells.toList.map cellOf⟩]) (hist ++ [cur ++ [⟨.fix, t, 0, 0, z.cells.toList.map cellOf⟩]]) ws K
          | none => False
        | _, _ => False
      | .wr => match o.op with
        | .store t x y => match storeA P t (opd tm x) (opd tm y) cur with
          | some mem' => AOpsD P ops rest (putO o.dst (.one .und) tm) mem' (hist ++ [mem']) ws K
          | none => False
        | .call ⟨.value f, args, _⟩ => match opd tm f with
          | .one (.fn g cs) => ∃ ret mem', Ctr P g (args.toList.map (opd tm) ++ capsAV cs) cur ret mem' ∧ AOpsD P ops rest (putO o.dst ret tm) mem' (hist ++ [mem']) ws K
          | _ => False
        | op => match evVal P (opd tm) cur op with
          | some (x, mem') => AOpsD P ops rest (putO o.dst x tm) mem' (hist ++ [mem']) ws K
          | none => False
    | some false => AOpsD P ops rest (putO o.dst (.one .und) tm) cur (if p.chain then hist ++ [cur] else hist) ws K
    | none => False

/-- One operation, as it was reckoned: in 'tm', memory 'M' ahead of it, 'M'' behind it; 'hist': memory behind each of the operations that turn it, as they stand. -/
def OpF (P : Program) (ops : Array Oper) (o : Oper) (p : Plan) (tm : Tm) (hist : List AMem) (W : List (Nat × Nat)) (M : AMem) (x : AV) (M' : AMem) : Prop :=
  (wantedA ops o tm = some false ∧ x = .one .und ∧ M' = M) ∨
  (wantedA ops o tm = some true ∧ match p with
    | .val => M' = M ∧ evVal P (opd tm) [] o.op = some (x, [])
    | .rd lo => M' = M ∧ ∃ t y ML, o.op = .load t y ∧ hist[lo]? = some ML ∧ loadA P t (opd tm y) ML = some x
    | .rw lo => M' = M ∧ ∃ t y ML r ver off, o.op = .load t y ∧ hist[lo]? = some ML ∧ opd tm y = .one (.ptr r ver off) ∧ loadA P t (.one (.ptr r ver off)) ML = some x ∧ (lo, r) ∈ W
    | .ext => (∃ extra, M' = M ++ extra) ∧ Does P o (opd tm) M x M'
    | .fl => o.guard = none ∧ ∃ t z, o.op = .alloc t ∧ zeroOf P t = some z ∧ x = .one (.ptr M.length 0 0) ∧ M' = M ++ [⟨.fix, t, 0, 0, z.cells.toList.map cellOf⟩]
    | .up q => (∃ A : AMem, hist[q]? = some A ∧ ∀ r : Nat, r < A.length → M'[r]? = M[r]?) ∧ Does P o (opd tm) M x M'
    | .wr => Does P o (opd tm) M x M')

/-- The whole reckoning: results xs, and memories (behind each of the operations that turn it). -/
def Run (P : Program) (ops : Array Oper) (W : List (Nat × Nat)) : List (Oper × Plan) → Tm → AMem → List AMem → List AV → List AMem → Tm → AMem → Prop
  | [], tm, cur, hist, xs, Ms, tm', cur' => xs = [] ∧ Ms = hist ∧ tm' = tm ∧ cur' = cur
  | (o, p) :: rest, tm, cur, hist, xs, Ms, tm', cur' => ∃ x M' xs', xs = x :: xs' ∧ OpF P ops o p tm hist W cur x M' ∧
      Run P ops W rest (putO o.dst x tm) M' (if p.chain then hist ++ [M'] else hist) xs' Ms tm' cur'

theorem run_of_aopsD {ops : Array Oper} : ∀ (l : List (Oper × Plan)) (tm : Tm) (cur : AMem) (hist : List AMem) (ws : List (Nat × Nat)) (K : Tm → AMem → Prop), AOpsD P ops l tm cur hist ws K →
    ∃ W xs Ms tm' cur', (∀ p, p ∈ ws → p ∈ W) ∧ Watched Ms W ∧ Run P ops W l tm cur hist xs Ms tm' cur' ∧ K tm' cur'
  | [], tm, cur, hist, ws, K, h => ⟨ws, [], hist, tm, cur, fun _ h => h, h.1, ⟨rfl, rfl, rfl, rfl⟩, h.2⟩
  | (o, p) :: rest, tm, cur, hist, ws, K, h => by
    simp only [AOpsD] at h
    have gow : ∀ x M' ws', (∀ p, p ∈ ws → p ∈ ws') → (∀ W, (∀ p, p ∈ ws' → p ∈ W) → OpF P ops o p tm hist W cur x M') → AOpsD P ops rest (putO o.dst x tm) M' (if p.chain then hist ++ [M'] else hist) ws' K → ∃ W xs Ms tm' cur', (∀ p, p ∈ ws → p ∈ W) ∧ Watched Ms W ∧ Run P ops W ((o, p) :: rest) tm cur hist xs Ms tm' cur' ∧ K tm' cur' := by
      intro x M' ws' hsub h1 h2
      obtain ⟨W, xs, Ms, tm', cur', h5, h6, h3, h4⟩ := run_of_aopsD rest _ _ _ _ K h2
      exact ⟨W, x :: xs, Ms, tm', cur', fun p hp => h5 p (hsub p hp), h6, ⟨x, M', xs, rfl, h1 W h5, h3⟩, h4⟩
    have go : ∀ x M', (∀ W, OpF P ops o p tm hist W cur x M') → AOpsD P ops rest (putO o.dst x tm) M' (if p.chain then hist ++ [M'] else hist) ws K → ∃ W xs Ms tm' cur', (∀ p, p ∈ ws → p ∈ W) ∧ Watched Ms W ∧ Run P ops W ((o, p) :: rest) tm cur hist xs Ms tm' cur' ∧ K tm' cur' :=
      fun x M' h1 h2 => gow x M' ws (fun _ h => h) (fun W _ => h1 W) h2
    split at h
    · rename_i hw
      split at h
      · split at h
        · rename_i x he
          exact go x cur (fun W => .inr ⟨hw, rfl, he⟩) h
        · exact h.elim
      · rename_i lo
        split at h
        · rename_i t y hop
          split at h
          · rename_i M hM
            split at h
            · rename_i x hx
              exact go x cur (fun W => .inr ⟨hw, rfl, t, y, M, hop, hM, hx⟩) h
            · exact h.elim
          · exact h.elim
        · exact h.elim
      · rename_i lo
        split at h
        · rename_i t y hop
          split at h
          · rename_i r ver off M hy hM
            split at h
            · rename_i x hx
              exact gow x cur ((lo, r) :: ws) (fun p hp => List.mem_cons_of_mem _ hp) (fun W hW => .inr ⟨hw, rfl, t, y, M, r, ver, off, hop, hM, hy, hx, hW _ (by simp)⟩) h
            · exact h.elim
          · exact h.elim
        · exact h.elim
      · split at h
        · exact h.elim
        · rename_i f args ts hop
          split at h
          · rename_i g cs hf
            obtain ⟨ret, extra, hc, h⟩ := h
            refine go ret (cur ++ extra) (fun W => .inr ⟨hw, ⟨extra, rfl⟩, ?_⟩) h
            unfold Does; rw [hop]; exact ⟨g, cs, hf, hc⟩
          · exact h.elim
        · rename_i hop1 hop2
          split at h
          · rename_i x mem' he
            refine go x mem' (fun W => .inr ⟨hw, h.1, ?_⟩) h.2
            unfold Does
            split
            · rename_i t y z hop; exact absurd hop (hop1 t y z)
            · rename_i f args ts hop; exact absurd hop (hop2 f args ts)
            · exact he
          · exact h.elim
      · rename_i q
        split at h
        · rename_i x mem' he
          obtain ⟨⟨A, x0, y0, hA, hc, hm⟩, h⟩ := h
          refine go x mem' (fun W => .inr ⟨hw, ⟨A, hA, fun r hr => by rw [hm, hc, List.getElem?_append_left hr, List.getElem?_append_left hr]⟩, ?_⟩) h
          unfold Does
          split
          · rename_i hop; rw [hop] at he; simp [evVal] at he
          · rename_i hop; rw [hop] at he; simp [evVal] at he
          · exact he
        · exact h.elim
      · split at h
        · rename_i t hop hg
          split at h
          · rename_i z hz
            exact go _ _ (fun W => .inr ⟨hw, hg, t, z, hop, hz, rfl, rfl⟩) h
          · exact h.elim
        · exact h.elim
      · split at h
        · rename_i t y z hop
          split at h
          · rename_i mem' hs
            refine go (.one .und) mem' (fun W => .inr ⟨hw, ?_⟩) h
            show Does P o (opd tm) cur (.one .und) mem'
            unfold Does; rw [hop]; exact ⟨hs, rfl⟩
          · exact h.elim
        · rename_i f args ts hop
          split at h
          · rename_i g cs hf
            obtain ⟨ret, mem', hc, h⟩ := h
            refine go ret mem' (fun W => .inr ⟨hw, ?_⟩) h
            show Does P o (opd tm) cur ret mem'
            unfold Does; rw [hop]; exact ⟨g, cs, hf, hc⟩
          · exact h.elim
        · rename_i hop1 hop2
          split at h
          · rename_i x mem' he
            refine go x mem' (fun W => .inr ⟨hw, ?_⟩) h
            show Does P o (opd tm) cur x mem'
            unfold Does
            split
            · rename_i t y z hop; exact absurd hop (hop1 t y z)
            · rename_i f args ts hop; exact absurd hop (hop2 f args ts)
            · exact he
          · exact h.elim
    · rename_i hw
      exact go (.one .und) cur (fun W => .inl ⟨hw, rfl, rfl⟩) h
    · exact h.elim

/-- The temporaries behind those of the first n operations that 'sel' picks. -/
def tmSel (l : List (Oper × Plan)) (xs : List AV) (sel : Nat → Bool) (tm : Tm) : Nat → Tm
  | 0 => tm
  | j + 1 => match l[j]?, xs[j]? with
    | some (o, _), some x => if sel j then putO o.dst x (tmSel l xs sel tm j) else tmSel l xs sel tm j
    | _, _ => tmSel l xs sel tm j

/-- How many of the first n operations turn memory. -/
def chBefore (l : List (Oper × Plan)) : Nat → Nat
  | 0 => 0
  | j + 1 => match l[j]? with
    | some (_, p) => if p.chain then chBefore l j + 1 else chBefore l j
    | none => chBefore l j

theorem tmSel_cons {o : Oper} {p : Plan} {l : List (Oper × Plan)} {x : AV} {xs : List AV} {tm : Tm} : ∀ n, tmSel ((o, p) :: l) (x :: xs) (fun _ => true) tm (n + 1) = tmSel l xs (fun _ => true) (putO o.dst x tm) n
  | 0 => by simp [tmSel]
  | n + 1 => by
    rw [tmSel, tmSel_cons n, tmSel]
    simp only [List.getElem?_cons_succ]
theorem chBefore_cons {o : Oper} {p : Plan} {l : List (Oper × Plan)} : ∀ n, chBefore ((o, p) :: l) (n + 1) = chBefore l n + (if p.chain then 1 else 0)
  | 0 => by simp [chBefore]
  | n + 1 => by
    rw [chBefore, chBefore_cons n, chBefore]
    simp only [List.getElem?_cons_succ]
    split
    · split <;> omega
    · rfl

theorem run_prefix {ops : Array Oper} {W : List (Nat × Nat)} : ∀ {l : List (Oper × Plan)} {tm : Tm} {cur : AMem} {hist : List AMem} {xs : List AV} {Ms : List AMem} {tm' : Tm} {cur' : AMem}, Run P ops W l tm cur hist xs Ms tm' cur' → ∃ t, Ms = hist ++ t
  | [], _, _, hist, _, _, _, _, h => ⟨[], by rw [h.2.1]; simp⟩
  | (o, p) :: rest, _, _, hist, _, _, _, _, ⟨x, M', xs', h1, h2, h3⟩ => by
    obtain ⟨t, ht⟩ := run_prefix h3
    split at ht
    · exact ⟨[M'] ++ t, by rw [ht, List.append_assoc]⟩
    · exact ⟨t, ht⟩

/-- The reckoning, operation by operation. -/
theorem run_facts {ops : Array Oper} {W : List (Nat × Nat)} : ∀ {l : List (Oper × Plan)} {tm : Tm} {cur : AMem} {hist : List AMem} {xs : List AV} {Ms : List AMem} {tm' : Tm} {cur' : AMem}, Run P ops W l tm cur hist xs Ms tm' cur' →
    ∀ h0 : Nat, hist.length = h0 + 1 → hist[h0]? = some cur →
    Ms.length = h0 + 1 + chBefore l l.length ∧ tm' = tmSel l xs (fun _ => true) tm l.length ∧ Ms[h0 + chBefore l l.length]? = some cur' ∧
    ∀ i o p, l[i]? = some (o, p) → ∃ x M M', xs[i]? = some x ∧ Ms[h0 + chBefore l i]? = some M ∧ Ms[h0 + chBefore l (i + 1)]? = some M' ∧ OpF P ops o p (tmSel l xs (fun _ => true) tm i) Ms W M x M'
  | [], tm, cur, hist, xs, Ms, tm', cur', ⟨e1, e2, e3, e4⟩, h0, hl, hc => by
    subst e1; subst e2; subst e3; subst e4
    exact ⟨by simp [chBefore, hl], rfl, by simpa [chBefore] using hc, fun i o p h => by simp at h⟩
  | (o, p) :: rest, tm, cur, hist, xs, Ms, tm', cur', ⟨x, M', xs', e1, hop, hrun⟩, h0, hl, hc => by
    subst e1
    obtain ⟨t, ht⟩ := run_prefix hrun
    have hpre : ∀ {k : Nat} {M : AMem}, hist[k]? = some M → Ms[k]? = some M := by
      intro k M hk
      have hkl := (List.getElem?_eq_some_iff.1 hk).1
      split at ht
      · rw [ht, List.append_assoc, List.getElem?_append_left hkl]; exact hk
      · rw [ht, List.getElem?_append_left hkl]; exact hk
    have hop' : OpF P ops o p tm Ms W cur x M' := by
      rcases hop with h | ⟨h1, h2⟩
      · exact .inl h
      · refine .inr ⟨h1, ?_⟩
        cases p with
        | rd lo => obtain ⟨e, t, y, ML, q1, q2, q3⟩ := h2; exact ⟨e, t, y, ML, q1, hpre q2, q3⟩
        | rw lo => obtain ⟨e, t, y, ML, r, ver, off, q1, q2, q3⟩ := h2; exact ⟨e, t, y, ML, r, ver, off, q1, hpre q2, q3⟩
        | up q => obtain ⟨⟨A, q1, q2⟩, q3⟩ := h2; exact ⟨⟨A, hpre q1, q2⟩, q3⟩
        | val => exact h2
        | ext => exact h2
        | fl => exact h2
        | wr => exact h2
    have hnc : p.chain = false → M' = cur := by
      intro hp
      rcases hop with h | ⟨h1, h2⟩
      · exact h.2.2
      · cases p with
        | val => exact h2.1
        | rd lo => exact h2.1
        | rw lo => exact h2.1
        | ext => cases hp
        | up q => cases hp
        | fl => cases hp
        | wr => cases hp
    cases hp : p.chain with
    | true =>
      rw [hp] at hrun
      simp only [if_true] at hrun
      obtain ⟨g1, g2, g3, g4⟩ := run_facts hrun (h0 + 1) (by simp [hl]) (by rw [← hl, List.getElem?_append_right (Nat.le_refl _)]; simp)
      refine ⟨by rw [List.length_cons, chBefore_cons, hp]; simp only [if_true]; omega, ?_, ?_, ?_⟩
      · rw [List.length_cons, tmSel_cons]; exact g2
      · rw [List.length_cons, chBefore_cons, hp]; simp only [if_true]; rw [← g3]; congr 1; omega
      · intro i o' p' hi
        cases i with
        | zero =>
          simp at hi
          obtain ⟨rfl, rfl⟩ := hi
          refine ⟨x, cur, M', rfl, by simpa [chBefore] using hpre hc, ?_, hop'⟩
          rw [chBefore_cons, hp]
          simp only [if_true, chBefore, Nat.zero_add]
          split at ht
          · rw [ht, List.append_assoc, ← hl, List.getElem?_append_right (Nat.le_refl _)]; simp
          · rename_i hh; exact absurd hp hh
        | succ i =>
          simp only [List.getElem?_cons_succ] at hi
          obtain ⟨x', M1, M2, q1, q2, q3, q4⟩ := g4 i o' p' hi
          refine ⟨x', M1, M2, by simpa using q1, ?_, ?_, ?_⟩
          · rw [chBefore_cons, hp]; simp only [if_true]; rw [← q2]; congr 1; omega
          · rw [chBefore_cons, hp]; simp only [if_true]; rw [← q3]; congr 1; omega
          · rw [tmSel_cons]; exact q4
    | false =>
      rw [hp] at hrun
      simp only [Bool.false_eq_true, if_false] at hrun
      have hM := hnc hp
      subst hM
      obtain ⟨g1, g2, g3, g4⟩ := run_facts hrun h0 hl hc
      refine ⟨by rw [List.length_cons, chBefore_cons, hp]; simpa using g1, ?_, ?_, ?_⟩
      · rw [List.length_cons, tmSel_cons]; exact g2
      · rw [List.length_cons, chBefore_cons, hp]; simpa using g3
      · intro i o' p' hi
        cases i with
        | zero =>
          simp at hi
          obtain ⟨rfl, rfl⟩ := hi
          refine ⟨x, M', M', rfl, by simpa [chBefore] using hpre hc, ?_, hop'⟩
          rw [chBefore_cons, hp]
          simpa [chBefore] using hpre hc
        | succ i =>
          simp only [List.getElem?_cons_succ] at hi
          obtain ⟨x', M1, M2, q1, q2, q3, q4⟩ := g4 i o' p' hi
          refine ⟨x', M1, M2, by simpa using q1, ?_, ?_, ?_⟩
          · rw [chBefore_cons, hp]; simpa using q2
          · rw [chBefore_cons, hp]; simpa using q3
          · rw [tmSel_cons]; exact q4

end
end Go.Eng
