/-
  ENGINE, PART O: a machine that runs code over abstract states, and that what it says holds; for calls whose arguments are known through and through.
-/
import Derived.Test.YtmjbbnfmhgcfaaaEngN
set_option linter.unusedVariables false
set_option linter.unusedSimpArgs false
namespace Go.Eng
open Go

deriving instance DecidableEq for BK, CV
deriving instance DecidableEq for Blk

def preB : AMem → AMem → Bool
  | [], _ => true
  | a :: as, b :: bs => decide (a = b) && preB as bs
  | _ :: _, [] => false
theorem preB_ok : ∀ {m m' : AMem}, preB m m' = true → ∃ x, m' = m ++ x
  | [], m', _ => ⟨m', rfl⟩
  | a :: as, b :: bs, h => by
    simp only [preB, Bool.and_eq_true, decide_eq_true_eq] at h
    obtain ⟨rfl, h⟩ := h
    obtain ⟨x, rfl⟩ := preB_ok h
    exact ⟨x, rfl⟩
  | _ :: _, [], h => by cases h

abbrev Caller := FuncId → List AV → AMem → Option (AV × AMem)

section
variable (P : Program) (call : Caller)
def rOps (ops : Array Oper) : List Oper → Tm → AMem → Option (Tm × AMem)
  | [], tm, mem => some (tm, mem)
  | o :: rest, tm, mem =>
    match wantedA ops o tm with
    | some true =>
      match o.op with
      | .store t x y => match storeA P t (opd tm x) (opd tm y) mem with
        | some mem' => rOps ops rest (putO o.dst (.one .und) tm) mem'
        | none => none
      | .call ⟨.value f, args, _⟩ => match opd tm f with
        | .one (.fn g cs) => match call g (args.toList.map (opd tm) ++ capsAV cs) mem with
          | some (ret, mem') => rOps ops rest (putO o.dst ret tm) mem'
          | none => none
        | _ => none
      | op => match evVal P (opd tm) mem op with
        | some (x, mem') => rOps ops rest (putO o.dst x tm) mem'
        | none => none
    | some false => rOps ops rest (putO o.dst (.one .und) tm) mem
    | none => none

def sameAt (r : Nat) (b : Blk) : List AMem → Bool
  | [] => true
  | M :: Ms => decide (M[r]? = some b) && sameAt r b Ms
def watchB (Ms : List AMem) : List (Nat × Nat) → Bool
  | [] => true
  | (lo, r) :: W => (match Ms.drop lo with
    | [] => true
    | M :: Ms' => match M[r]? with
      | some b => sameAt r b Ms'
      | none => false) && watchB Ms W
def upB (A : Option AMem) (cur mem' : AMem) : Bool :=
  match A with
  | some B => preB B cur && preB B mem'
  | none => false

def rOpsD (ops : Array Oper) : Pl → Tm → AMem → List AMem → List (Nat × Nat) → Option (Tm × AMem)
  | [], tm, cur, hist, ws => if watchB hist ws = true then some (tm, cur) else none
  | (o, p) :: rest, tm, cur, hist, ws =>
    match wantedA ops o tm with
    | some true =>
      match p with
      | .val => match evVal P (opd tm) [] o.op with
        | some (x, []) => rOpsD ops rest (putO o.dst x tm) cur hist ws
        | _ => none
      | .rd lo => match o.op with
        | .load t y => match hist[lo]? with
          | some M => match loadA P t (opd tm y) M with
            | some x => rOpsD ops rest (putO o.dst x tm) cur hist ws
            | none => none
          | none => none
        | _ => none
      | .rw lo => match o.op with
        | .load t y => match opd tm y, hist[lo]? with
          | .one (.ptr r ver off), some M => match loadA P t (.one (.ptr r ver off)) M with
            | some x => rOpsD ops rest (putO o.dst x tm) cur hist ((lo, r) :: ws)
            | none => none
          | _, _ => none
        | _ => none
      | .ext => match o.op with
        | .store _ _ _ => none
        | .call ⟨.value f, args, _⟩ => match opd tm f with
          | .one (.fn g cs) => match call g (args.toList.map (opd tm) ++ capsAV cs) cur with
            | some (ret, mem') => if preB cur mem' = true then rOpsD ops rest (putO o.dst ret tm) mem' (hist ++ [mem']) ws else none
            | none => none
          | _ => none
        | op => match evVal P (opd tm) cur op with
          | some (x, mem') => if preB cur mem' = true then rOpsD ops rest (putO o.dst x tm) mem' (hist ++ [mem']) ws else none
          | none => none
      | .up q => match evVal P (opd tm) cur o.op with
        | some (x, mem') => if upB hist[q]? cur mem' = true then rOpsD ops rest (putO o.dst x tm) mem' (hist ++ [mem']) ws else none
        | none => none
      | .fl => match o.op, o.guard with
        | .alloc t, none => match zeroOf P t with
          | some z => rOpsD ops rest (putO o.dst (.one (.ptr cur.length 0 0)) tm) (cur ++ [⟨.fix, t, 0, 0, z.cells.toList.map cellOf⟩]) (hist ++ [cur ++ [⟨.fix, t, 0, 0, z.cells.toList.map cellOf⟩]]) ws
          | none => none
        | _, _ => none
      | .wr => match o.op with
        | .store t x y => match storeA P t (opd tm x) (opd tm y) cur with
          | some mem' => rOpsD ops rest (putO o.dst (.one .und) tm) mem' (hist ++ [mem']) ws
          | none => none
        | .call ⟨.value f, args, _⟩ => match opd tm f with
          | .one (.fn g cs) => match call g (args.toList.map (opd tm) ++ capsAV cs) cur with
            | some (ret, mem') => rOpsD ops rest (putO o.dst ret tm) mem' (hist ++ [mem']) ws
            | none => none
          | _ => none
        | op => match evVal P (opd tm) cur op with
          | some (x, mem') => rOpsD ops rest (putO o.dst x tm) mem' (hist ++ [mem']) ws
          | none => none
    | some false => rOpsD ops rest (putO o.dst (.one .und) tm) cur (if p.chain then hist ++ [cur] else hist) ws
    | none => none

def rLoop (c : Tm → AMem → Option (Exit × Tm × AMem)) : Nat → Tm → AMem → Option (Exit × Tm × AMem)
  | 0, _, _ => none
  | n + 1, tm, mem => match c tm mem with
    | some (.normal, tm', mem') => rLoop c n tm' mem'
    | r => r

variable (pls : Nat → List Plan) (nt L : Nat)
def rCode : Code → Tm → AMem → Option (Exit × Tm × AMem)
  | .skip, tm, mem => some (.normal, tm, mem)
  | .ret, tm, mem => some (.ret, tm, mem)
  | .exit id, tm, mem => some (.exit id, tm, mem)
  | .seq x y, tm, mem => match rCode x tm mem with
    | some (.normal, tm', mem') => rCode y tm' mem'
    | r => r
  | .block id c, tm, mem => match rCode c tm mem with
    | some (.exit id', tm', mem') => if id' = id then some (.normal, tm', mem') else some (.exit id', tm', mem')
    | r => r
  | .cond c x y, tm, mem => match opd tm c with
    | .one (.bool true) => rCode x tm mem
    | .one (.bool false) => rCode y tm mem
    | _ => none
  | .loop c, tm, mem => rLoop (rCode c) L tm mem
  | .region id ops false, tm, mem => if ops.toList.all (dstOk nt) = true then (rOps P call ops ops.toList tm mem).map fun x => (.normal, x.1, x.2) else none
  | .region id ops true, tm, mem => if (pls id).length = ops.toList.length ∧ planOk nt (ops.toList.zip (pls id)) = true then
      (rOpsD P call ops (ops.toList.zip (pls id)) tm mem [mem] []).map fun x => (.normal, x.1, x.2) else none
  | _, _, _ => none
end

def rFunc (P : Program) (pls : Nat → Nat → List Plan) (L : Nat) : Nat → Caller
  | 0, _, _, _ => none
  | n + 1, g, args, mem => match P.funcs[g]? with
    | some fn => match fn.body with
      | some c => if (fn.name == "runtime.NumGoroutine") = false then
          match rCode P (rFunc P pls L n) (pls g) fn.ntmps L c (enterTm 0 args) mem with
          | some (.normal, tm, m) => (resA P fn.results.toList tm m).map fun x => (x, m)
          | some (.ret, tm, m) => (resA P fn.results.toList tm m).map fun x => (x, m)
          | _ => none
        else none
      | none => none
    | none => none

def CallOk (P : Program) (call : Caller) : Prop := ∀ g args mem ret mem', call g args mem = some (ret, mem') → Ctr P g args mem ret mem'

section
variable {P : Program} {call : Caller}
theorem rOps_ok (hc : CallOk P call) {ops : Array Oper} : ∀ (l : List Oper) (tm : Tm) (mem : AMem) (tm' : Tm) (mem' : AMem) (K : Tm → AMem → Prop), rOps P call ops l tm mem = some (tm', mem') → K tm' mem' → AOps P ops l tm mem K
  | [], tm, mem, tm', mem', K, h, hk => by
    simp only [rOps, Option.some.injEq, Prod.mk.injEq] at h
    obtain ⟨rfl, rfl⟩ := h; exact hk
  | o :: rest, tm, mem, tm', mem', K, h, hk => by
    rw [rOps] at h
    rw [AOps]
    split at h
    · rename_i hw
      rw [hw]
      simp only
      split at h
      · rename_i t x y hop
        split at h
        · rename_i m1 hs
          rw [hop]; simp only [hs]
          exact rOps_ok hc rest _ _ _ _ K h hk
        · cases h
      · rename_i f args ts hop
        split at h
        · rename_i g cs hf
          split at h
          · rename_i ret m1 hcall
            rw [hop]; simp only [hf]
            exact ⟨ret, m1, hc _ _ _ _ _ hcall, rOps_ok hc rest _ _ _ _ K h hk⟩
          · cases h
        · cases h
      · rename_i h1 h2
        split at h
        · rename_i x m1 hv
          split
          · rename_i t x y hop; exact absurd hop (h1 t x y)
          · rename_i f args ts hop; exact absurd hop (h2 f args ts)
          · simp only [hv]
            exact rOps_ok hc rest _ _ _ _ K h hk
        · cases h
    · rename_i hw
      rw [hw]
      exact rOps_ok hc rest _ _ _ _ K h hk
    · cases h

theorem sameAt_ok {r : Nat} {b : Blk} : ∀ {Ms : List AMem}, sameAt r b Ms = true → allAt r b Ms
  | [], _ => trivial
  | M :: Ms, h => by
    simp only [sameAt, Bool.and_eq_true, decide_eq_true_eq] at h
    exact ⟨h.1, sameAt_ok h.2⟩
theorem watchB_ok {Ms : List AMem} : ∀ {W : List (Nat × Nat)}, watchB Ms W = true → watchS Ms W
  | [], _ => trivial
  | (lo, r) :: W, h => by
    simp only [watchB, Bool.and_eq_true] at h
    refine ⟨?_, watchB_ok h.2⟩
    have h1 := h.1
    split
    · trivial
    · rename_i M Ms' hd
      rw [hd] at h1
      simp only at h1
      split
      · rename_i b hm; rw [hm] at h1; exact sameAt_ok h1
      · rename_i hm; rw [hm] at h1; cases h1
theorem upB_ok {A : Option AMem} {cur mem' : AMem} (h : upB A cur mem' = true) : ∃ B x0 y0, A = some B ∧ cur = B ++ x0 ∧ mem' = B ++ y0 := by
  unfold upB at h
  split at h
  · rename_i B
    simp only [Bool.and_eq_true] at h
    obtain ⟨x0, hx⟩ := preB_ok h.1
    obtain ⟨y0, hy⟩ := preB_ok h.2
    exact ⟨B, x0, y0, rfl, hx, hy⟩
  · cases h

theorem rOpsD_ok (hc : CallOk P call) {ops : Array Oper} : ∀ (l : Pl) (tm : Tm) (cur : AMem) (hist : List AMem) (ws : List (Nat × Nat)) (tm' : Tm) (mem' : AMem) (K : Tm → AMem → Prop),
    rOpsD P call ops l tm cur hist ws = some (tm', mem') → K tm' mem' → AOpsD P ops l tm cur hist ws K
  | [], tm, cur, hist, ws, tm', mem', K, h, hk => by
    simp only [rOpsD] at h
    split at h
    · rename_i hw
      simp only [Option.some.injEq, Prod.mk.injEq] at h
      obtain ⟨rfl, rfl⟩ := h; exact ⟨watchS_ok (watchB_ok hw), hk⟩
    · cases h
  | (o, p) :: rest, tm, cur, hist, ws, tm', mem', K, h, hk => by
    rw [rOpsD.eq_def] at h
    simp only at h
    rw [AOpsD.eq_def]
    simp only
    split at h
    · rename_i hw
      rw [hw]
      simp only
      cases p with
      | val =>
        simp only at h ⊢
        split at h
        · rename_i x hv; rw [hv]; exact rOpsD_ok hc rest _ _ _ _ _ _ K h hk
        · cases h
      | rd lo =>
        simp only at h ⊢
        split at h
        · rename_i t y hop
          split at h
          · rename_i M hM
            split at h
            · rename_i x hx
              rw [hop]; simp only [hM, hx]; exact rOpsD_ok hc rest _ _ _ _ _ _ K h hk
            · cases h
          · cases h
        · cases h
      | rw lo =>
        simp only at h ⊢
        split at h
        · rename_i t y hop
          split at h
          · rename_i r ver off M hy hM
            split at h
            · rename_i x hx
              rw [hop]; simp only [hy, hM, hx]; exact rOpsD_ok hc rest _ _ _ _ _ _ K h hk
            · cases h
          · cases h
        · cases h
      | ext =>
        simp only at h ⊢
        split at h
        · cases h
        · rename_i f args ts hop
          split at h
          · rename_i g cs hf
            split at h
            · rename_i ret m1 hcall
              split at h
              · rename_i hp
                obtain ⟨extra, rfl⟩ := preB_ok hp
                rw [hop]; simp only [hf]
                exact ⟨ret, extra, hc _ _ _ _ _ hcall, rOpsD_ok hc rest _ _ _ _ _ _ K h hk⟩
              · cases h
            · cases h
          · cases h
        · rename_i h1 h2
          split at h
          · rename_i x m1 hv
            split at h
            · rename_i hp
              split
              · rename_i t x y hop; exact absurd hop (h1 t x y)
              · rename_i f args ts hop; exact absurd hop (h2 f args ts)
              · simp only [hv]
                exact ⟨preB_ok hp, rOpsD_ok hc rest _ _ _ _ _ _ K h hk⟩
            · cases h
          · cases h
      | up q =>
        simp only at h ⊢
        split at h
        · rename_i x m1 hv
          split at h
          · rename_i hp
            rw [hv]
            exact ⟨upB_ok hp, rOpsD_ok hc rest _ _ _ _ _ _ K h hk⟩
          · cases h
        · cases h
      | fl =>
        simp only at h ⊢
        split at h
        · rename_i t hop hg
          split at h
          · rename_i z hz
            rw [hop, hg]; simp only [hz]; exact rOpsD_ok hc rest _ _ _ _ _ _ K h hk
          · cases h
        · cases h
      | wr =>
        simp only at h ⊢
        split at h
        · rename_i t x y hop
          split at h
          · rename_i m1 hs
            rw [hop]; simp only [hs]; exact rOpsD_ok hc rest _ _ _ _ _ _ K h hk
          · cases h
        · rename_i f args ts hop
          split at h
          · rename_i g cs hf
            split at h
            · rename_i ret m1 hcall
              rw [hop]; simp only [hf]
              exact ⟨ret, m1, hc _ _ _ _ _ hcall, rOpsD_ok hc rest _ _ _ _ _ _ K h hk⟩
            · cases h
          · cases h
        · rename_i h1 h2
          split at h
          · rename_i x m1 hv
            split
            · rename_i t x y hop; exact absurd hop (h1 t x y)
            · rename_i f args ts hop; exact absurd hop (h2 f args ts)
            · simp only [hv]
              exact rOpsD_ok hc rest _ _ _ _ _ _ K h hk
          · cases h
    · rename_i hw
      rw [hw]
      exact rOpsD_ok hc rest _ _ _ _ _ _ K h hk
    · cases h

variable {pls : Nat → List Plan} {nt L : Nat}

theorem rLoop_ok {c : Code} {f : Tm → AMem → Option (Exit × Tm × AMem)} (hf : ∀ tm mem ex tm' mem' (Q : Exit → Tm → AMem → Prop), f tm mem = some (ex, tm', mem') → Q ex tm' mem' → AW P nt c tm mem Q) :
    ∀ (n : Nat) (tm : Tm) (mem : AMem) (ex : Exit) (tm' : Tm) (mem' : AMem) (Q : Exit → Tm → AMem → Prop), rLoop f n tm mem = some (ex, tm', mem') → Q ex tm' mem' → ARounds P nt c Q n tm mem
  | 0, _, _, _, _, _, _, h, _ => by cases h
  | n + 1, tm, mem, ex, tm', mem', Q, h, hq => by
    simp only [rLoop] at h
    split at h
    · rename_i tm1 mem1 h1
      exact hf _ _ _ _ _ _ h1 (rLoop_ok hf n _ _ _ _ _ Q h hq)
    · rename_i r hne
      have hex : ex ≠ .normal := by rintro rfl; exact hne _ _ h
      refine hf _ _ _ _ _ _ h ?_
      cases ex with
      | normal => exact absurd rfl hex
      | _ => exact hq

theorem rCode_ok (hc : CallOk P call) (hfol : P.follows .mixedOrders = true) : ∀ (c : Code) (tm : Tm) (mem : AMem) (ex : Exit) (tm' : Tm) (mem' : AMem) (Q : Exit → Tm → AMem → Prop),
    rCode P call pls nt L c tm mem = some (ex, tm', mem') → Q ex tm' mem' → AW P nt c tm mem Q := by
  intro c
  induction c with
  | skip => intro tm mem ex tm' mem' Q h hq; simp only [rCode, Option.some.injEq, Prod.mk.injEq] at h; obtain ⟨rfl, rfl, rfl⟩ := h; exact AW.skip hq
  | ret => intro tm mem ex tm' mem' Q h hq; simp only [rCode, Option.some.injEq, Prod.mk.injEq] at h; obtain ⟨rfl, rfl, rfl⟩ := h; exact AW.ret hq
  | exit id => intro tm mem ex tm' mem' Q h hq; simp only [rCode, Option.some.injEq, Prod.mk.injEq] at h; obtain ⟨rfl, rfl, rfl⟩ := h; exact AW.exit hq
  | seq x y ihx ihy =>
    intro tm mem ex tm' mem' Q h hq
    simp only [rCode] at h
    split at h
    · rename_i tm1 mem1 h1
      exact AW.seq (ihx _ _ _ _ _ _ h1 (ihy _ _ _ _ _ _ h hq))
    · rename_i r hne
      have hex : ex ≠ .normal := by rintro rfl; exact hne _ _ h
      refine AW.seq (ihx _ _ _ _ _ _ h ?_)
      cases ex with
      | normal => exact absurd rfl hex
      | _ => exact hq
  | block id c ih =>
    intro tm mem ex tm' mem' Q h hq
    simp only [rCode] at h
    refine AW.block ?_
    split at h
    · rename_i id' tm1 mem1 h1
      refine ih _ _ _ _ _ _ h1 ?_
      split at h
      · rename_i he
        simp only [Option.some.injEq, Prod.mk.injEq] at h; obtain ⟨rfl, rfl, rfl⟩ := h
        subst he; exact InB_here hq
      · rename_i he
        simp only [Option.some.injEq, Prod.mk.injEq] at h; obtain ⟨rfl, rfl, rfl⟩ := h
        exact InB_far he hq
    · rename_i r hne
      refine ih _ _ _ _ _ _ h ?_
      cases ex with
      | exit id' => exact absurd h (hne _ _ _)
      | _ => exact hq
  | cond c x y ihx ihy =>
    intro tm mem ex tm' mem' Q h hq
    simp only [rCode] at h
    split at h
    · rename_i hb; exact AW.cond_t hb (ihx _ _ _ _ _ _ h hq)
    · rename_i hb; exact AW.cond_f hb (ihy _ _ _ _ _ _ h hq)
    · cases h
  | loop c ih =>
    intro tm mem ex tm' mem' Q h hq
    simp only [rCode] at h
    exact AW.rounds L (rLoop_ok ih _ _ _ _ _ _ _ h hq)
  | region id ops b =>
    intro tm mem ex tm' mem' Q h hq
    cases b with
    | false =>
      simp only [rCode] at h
      split at h
      · rename_i hd
        simp only [Option.map_eq_some_iff, Prod.mk.injEq] at h
        obtain ⟨⟨tm1, mem1⟩, h1, rfl, rfl, rfl⟩ := h
        have h2 : AOps P ops ops.toList tm mem (Q .normal) := rOps_ok hc _ _ _ _ _ _ h1 hq
        have h3 := AW.region (P := P) (nt := nt) (id := id) (l := ops.toList) (tm := tm) (mem := mem) (Q := Q) hd (by simpa using h2)
        simpa using h3
      · cases h
    | true =>
      simp only [rCode] at h
      split at h
      · rename_i hd
        simp only [Option.map_eq_some_iff, Prod.mk.injEq] at h
        obtain ⟨⟨tm1, mem1⟩, h1, rfl, rfl, rfl⟩ := h
        have h2 := rOpsD_ok hc _ _ _ _ _ _ _ (Q .normal) h1 hq
        have h3 := AW.draw (P := P) (nt := nt) (id := id) (l := ops.toList) (tm := tm) (mem := mem) (Q := Q) (pls id) hfol hd.1 hd.2 (by simpa using h2)
        simpa using h3
      · cases h
  | _ => intro tm mem ex tm' mem' Q h hq; simp only [rCode] at h; cases h
end

theorem Hands.all {x : AV} {mem : AMem} {L : Nat} : Hands L x mem x mem := fun ρ v w hv hm => ⟨ρ, hv, hm, fun _ _ _ _ h => h⟩

theorem rFunc_ok {P : Program} {pls : Nat → Nat → List Plan} {L : Nat} (hfol : P.follows .mixedOrders = true) : ∀ n : Nat, CallOk P (rFunc P pls L n)
  | 0 => fun g args mem ret mem' h => by cases h
  | n + 1 => fun g args mem ret mem' h => by
    simp only [rFunc] at h
    split at h
    · rename_i fn hfn
      split at h
      · rename_i c hb
        split at h
        · rename_i hname
          have ok := rFunc_ok (P := P) (pls := pls) (L := L) hfol n
          split at h
          · rename_i tm m hr
            simp only [Option.map_eq_some_iff, Prod.mk.injEq] at h
            obtain ⟨x, hx, rfl, rfl⟩ := h
            exact Ctr.of_body hfn hb hname fun hw => rCode_ok ok hfol _ _ _ _ _ _ _ hr ⟨.inl rfl, x, hx, Hands.all⟩
          · rename_i tm m hr
            simp only [Option.map_eq_some_iff, Prod.mk.injEq] at h
            obtain ⟨x, hx, rfl, rfl⟩ := h
            exact Ctr.of_body hfn hb hname fun hw => rCode_ok ok hfol _ _ _ _ _ _ _ hr ⟨.inr rfl, x, hx, Hands.all⟩
          · cases h
        · cases h
      · cases h
    · cases h

/-- What is reckoned with no memory at hand, and leads to none, holds in every memory. -/
theorem Ctr.closed {P : Program} {f : FuncId} {args : List AV} {ret : AV} {mem' : AMem} (h : Ctr P f args [] ret mem') (ha : ∀ a, a ∈ args → a.below 0 = true) (hr : ret.below 0 = true) (m : AMem) : Ctr P f args m ret m := by
  refine fun ρ w vs hm hargs => ?_
  have h0 : RepM (ρ.upto 0) [] w := ⟨fun r b h => by simp at h, fun r v _ => by simp [Env.upto], fun r b v h => by simp at h, fun r s b c h => by simp at h⟩
  have hargs' : ∀ {as : List AV} {vs : List Value}, (∀ a, a ∈ as → a.below 0 = true) → All2 (VR ρ) as vs → All2 (VR (ρ.upto 0)) as vs := by
    intro as
    induction as with
    | nil => intro vs _ h; cases vs with
      | nil => trivial
      | cons _ _ => exact h.elim
    | cons a as ih => intro vs hb h; cases vs with
      | nil => exact h.elim
      | cons v vs => exact ⟨h.1.upto (hb a List.mem_cons_self), ih (fun a ha => hb a (List.mem_cons_of_mem _ ha)) h.2⟩
  refine (h _ w vs h0 (hargs' ha hargs)).mono ?_
  rintro e w' ⟨v, ρ', rfl, hv, hm', hs⟩
  have hfr : ∀ n, n < w.heap.size → w'.heap[n]? = w.heap[n]? := fun n hn => hs.frame n hn fun r b x k hb => by simp at hb
  have hm2 : RepM ρ m w' := by
    refine ⟨fun r b hb => ?_, hm.dom, hm.domv, hm.sep⟩
    exact (hm.blk r b hb).heap hs.size fun x k hx hne hlt => hfr _ hlt
  refine ⟨v, ρ, rfl, ?_, hm2, ?_⟩
  · exact (hv.upto hr).mono (fun r v x hx => by simp [Env.upto] at hx)
  · exact ⟨hs.os, hs.tape, hs.output, hs.size, Nat.le_refl _, fun _ _ _ _ h => h, fun r b b' h h' => by rw [h] at h'; injection h' with h'; rw [h'], fun r b h _ => h, fun n hn _ => hfr n hn, fun r b x k h hk hx => .inr ⟨r, b, x, k, h, hk, hx, rfl⟩⟩

/-- A call whose arguments are known, reckoned by the machine. -/
theorem Ctr.run {P : Program} {f : FuncId} {args : List AV} {ret : AV} (pls : Nat → Nat → List Plan) (L n : Nat) (hfol : P.follows .mixedOrders = true) (h : ((rFunc P pls L n f args []).map (·.1)) = some ret) (ha : ∀ a, a ∈ args → a.below 0 = true) (hr : ret.below 0 = true) (m : AMem) : Ctr P f args m ret m := by
  rw [Option.map_eq_some_iff] at h
  obtain ⟨⟨x, mem'⟩, h1, rfl⟩ := h
  exact Ctr.closed (rFunc_ok hfol n _ _ _ _ _ h1) ha hr m
end Go.Eng
