/- Walks and facts of this seat's program over abstract states, printed by programs of mine; no conditions but those that each theorem names. -/
import Derived.Test.YtmjbbnfmhgcfaaaDoorM2
import Derived.ScopeJumps
import Derived.Scope
import Derived.JoinedCond
import Derived.LaidMore
import Derived.Stop.Joined
/-
  ENGINE, PART O: a machine that runs code over abstract states, and that what it says holds; for calls whose arguments are known through and through.
-/
set_option linter.unusedVariables false
set_option linter.unusedSimpArgs false
namespace Go.Eng
open Go

deriving instance DecidableEq for CV
deriving instance DecidableEq for BK
deriving instance DecidableEq for Blk

def preB : AMem → AMem → Bool
  | [], _ => true
  | a :: xa, b :: bs => decide (a = b) && preB xa bs
  | _ :: _, [] => false
theorem preB_ok : ∀ {m m' : AMem}, preB m m' = true → ∃ x, m' = m ++ x
  | [], m', _ => ⟨m', rfl⟩
  | a :: xa, b :: bs, h => by
    simp only [preB, Bool.and_eq_true, decide_eq_true_eq] at h
    obtain ⟨rfl, h⟩ := h
    obtain ⟨x, rfl⟩ := preB_ok h
    exact ⟨x, rfl⟩
  | _ :: _, [], h => by cases h

abbrev Caller := FuncId → List AV → AMem → Option (AV × AMem)

section
variable (P : Program) (call : Caller)
def rOps (ops : Array Oper) : List Oper → Tm → AMem → Option (Tm × AMem)
  | [], tm, mem => some (tm, mem)
  | o :: rest, tm, mem =>
    match wantedA ops o tm with
    | some true =>
      match o.op with
      | .store t x y => match storeA P t (opd tm x) (opd tm y) mem with
        | some mem' => rOps ops rest (putO o.dst (.one .und) tm) mem'
        | none => none
      | .call ⟨.value f, args, _⟩ => match opd tm f with
        | .one (.fn g cs) => match call g (args.toList.map (opd tm) ++ capsAV cs) mem with
          | some (ret, mem') => rOps ops rest (putO o.dst ret tm) mem'
          | none => none
        | _ => none
      | op => match evVal P (opd tm) mem op with
        | some (x, mem') => rOps ops rest (putO o.dst x tm) mem'
        | none => none
    | some false => rOps ops rest (putO o.dst (.one .und) tm) mem
    | none => none

def sameAt (r : Nat) (b : Blk) : List AMem → Bool
  | [] => true
  | M :: Ms => decide (M[r]? = some b) && sameAt r b Ms
def watchB (Ms : List AMem) : List (Nat × Nat) → Bool
  | [] => true
  | (lo, r) :: W => (match Ms.drop lo with
    | [] => true
    | M :: Ms' => match M[r]? with
      | some b => sameAt r b Ms'
      | none => false) && watchB Ms W
def upB (A : Option AMem) (cur mem' : AMem) : Bool :=
  match A with
  | some B => preB B cur && preB B mem'
  | none => false

def rOpsD (ops : Array Oper) : Pl → Tm → AMem → List AMem → List (Nat × Nat) → Option (Tm × AMem)
  | [], tm, cur, hist, ws => if watchB hist ws = true then some (tm, cur) else none
  | (o, p) :: rest, tm, cur, hist, ws =>
    match wantedA ops o tm with
    | some true =>
      match p with
      | .val => match evVal P (opd tm) [] o.op with
        | some (x, []) => rOpsD ops rest (putO o.dst x tm) cur hist ws
        | _ => none
      | .rd lo => match o.op with
        | .load t y => match hist[lo]? with
          | some M => match loadA P t (opd tm y) M with
            | some x => rOpsD ops rest (putO o.dst x tm) cur hist ws
            | none => none
          | none => none
        | _ => none
      | .rw lo => match o.op with
        | .load t y => match opd tm y, hist[lo]? with
          | .one (.ptr r ver off), some M => match loadA P t (.one (.ptr r ver off)) M with
            | some x => rOpsD ops rest (putO o.dst x tm) cur hist ((lo, r) :: ws)
            | none => none
          | _, _ => none
        | _ => none
      | .ext => match o.op with
        | .store _ _ _ => none
        | .call ⟨.value f, args, _⟩ => match opd tm f with
          | .one (.fn g cs) => match call g (args.toList.map (opd tm) ++ capsAV cs) cur with
            | some (ret, mem') => if preB cur mem' = true then rOpsD ops rest (putO o.dst ret tm) mem' (hist ++ [mem']) ws else none
            | none => none
          | _ => none
        | op => match evVal P (opd tm) cur op with
          | some (x, mem') => if preB cur mem' = true then rOpsD ops rest (putO o.dst x tm) mem' (hist ++ [mem']) ws else none
          | none => none
      | .up q => match evVal P (opd tm) cur o.op with
        | some (x, mem') => if upB hist[q]? cur mem' = true then rOpsD ops rest (putO o.dst x tm) mem' (hist ++ [mem']) ws else none
        | none => none
      | .fl => match o.op, o.guard with
        | .alloc t, none => match zeroOf P t with
          | some z => rOpsD ops rest (putO o.dst (.one (.ptr cur.length 0 0)) tm) (cur ++ [⟨.fix, t, 0, 0, z.cells.toList.map cellOf⟩]) (hist ++ [cur ++ [⟨.fix, t, 0, 0, z.cells.toList.map cellOf⟩]]) ws
          | none => none
        | _, _ => none
      | .wr => match o.op with
        | .store t x y => match storeA P t (opd tm x) (opd tm y) cur with
          | some mem' => rOpsD ops rest (putO o.dst (.one .und) tm) mem' (hist ++ [mem']) ws
          | none => none
        | .call ⟨.value f, args, _⟩ => match opd tm f with
          | .one (.fn g cs) => match call g (args.toList.map (opd tm) ++ capsAV cs) cur with
            | some (ret, mem') => rOpsD ops rest (putO o.dst ret tm) mem' (hist ++ [mem']) ws
            | none => none
          | _ => none
        | op => match evVal P (opd tm) cur op with
          | some (x, mem') => rOpsD ops rest (putO o.dst x tm) mem' (hist ++ [mem']) ws
          | none => none
    | some false => rOpsD ops rest (putO o.dst (.one .und) tm) cur (if p.chain then hist ++ [cur] else hist) ws
    | none => none

def rLoop (c : Tm → AMem → Option (Exit × Tm × AMem)) : Nat → Tm → AMem → Option (Exit × Tm × AMem)
  | 0, _, _ => none
  | n + 1, tm, mem => match c tm mem with
    | some (.normal, tm', mem') => rLoop c n tm' mem'
    | r => r

variable (pls : Nat → List Plan) (nt L : Nat)
def rCode : Code → Tm → AMem → Option (Exit × Tm × AMem)
  | .skip, tm, mem => some (.normal, tm, mem)
  | .ret, tm, mem => some (.ret, tm, mem)
  | .exit id, tm, mem => some (.exit id, tm, mem)
  | .seq x y, tm, mem => match rCode x tm mem with
    | some (.normal, tm', mem') => rCode y tm' mem'
    | r => r
  | .block id c, tm, mem => match rCode c tm mem with
    | some (.exit id', tm', mem') => if id' = id then some (.normal, tm', mem') else some (.exit id', tm', mem')
    | r => r
  | .cond c x y, tm, mem => match opd tm c with
    | .one (.bool true) => rCode x tm mem
    | .one (.bool false) => rCode y tm mem
    | _ => none
  | .loop c, tm, mem => rLoop (rCode c) L tm mem
  | .region id ops false, tm, mem => if ops.toList.all (dstOk nt) = true then (rOps P call ops ops.toList tm mem).map fun x => (.normal, x.1, x.2) else none
  | .region id ops true, tm, mem => if (pls id).length = ops.toList.length ∧ planOk nt (ops.toList.zip (pls id)) = true then
      (rOpsD P call ops (ops.toList.zip (pls id)) tm mem [mem] []).map fun x => (.normal, x.1, x.2) else none
  | _, _, _ => none
end

def rFunc (P : Program) (pls : Nat → Nat → List Plan) (L : Nat) : Nat → Caller
  | 0, _, _, _ => none
  | n + 1, g, args, mem => match P.funcs[g]? with
    | some fn => match fn.body with
      | some c => if (fn.name == "runtime.NumGoroutine") = false then
          match rCode P (rFunc P pls L n) (pls g) fn.ntmps L c (enterTm 0 args) mem with
          | some (.normal, tm, m) => (resA P fn.results.toList tm m).map fun x => (x, m)
          | some (.ret, tm, m) => (resA P fn.results.toList tm m).map fun x => (x, m)
          | _ => none
        else none
      | none => none
    | none => none

def CallOk (P : Program) (call : Caller) : Prop := ∀ g args mem ret mem', call g args mem = some (ret, mem') → Ctr P g args mem ret mem'

section
variable {P : Program} {call : Caller}
theorem rOps_ok (hc : CallOk P call) {ops : Array Oper} : ∀ (l : List Oper) (tm : Tm) (mem : AMem) (tm' : Tm) (mem' : AMem) (K : Tm → AMem → Prop), rOps P call ops l tm mem = some (tm', mem') → K tm' mem' → AOps P ops l tm mem K
  | [], tm, mem, tm', mem', K, h, hk => by
    simp only [rOps, Option.some.injEq, Prod.mk.injEq] at h
    obtain ⟨rfl, rfl⟩ := h; exact hk
  | o :: rest, tm, mem, tm', mem', K, h, hk => by
    rw [rOps] at h
    rw [AOps]
    split at h
    · rename_i hw
      rw [hw]
      simp only
      split at h
      · rename_i t x y hop
        split at h
        · rename_i m1 hs
          rw [hop]; simp only [hs]
          exact rOps_ok hc rest _ _ _ _ K h hk
        · cases h
      · rename_i f args ts hop
        split at h
        · rename_i g cs hf
          split at h
          · rename_i ret m1 hcall
            rw [hop]; simp only [hf]
            exact ⟨ret, m1, hc _ _ _ _ _ hcall, rOps_ok hc rest _ _ _ _ K h hk⟩
          · cases h
        · cases h
      · rename_i h1 h2
        split at h
        · rename_i x m1 hv
          split
          · rename_i t x y hop; exact absurd hop (h1 t x y)
          · rename_i f args ts hop; exact absurd hop (h2 f args ts)
          · simp only [hv]
            exact rOps_ok hc rest _ _ _ _ K h hk
        · cases h
    · rename_i hw
      rw [hw]
      exact rOps_ok hc rest _ _ _ _ K h hk
    · cases h

theorem sameAt_ok {r : Nat} {b : Blk} : ∀ {Ms : List AMem}, sameAt r b Ms = true → allAt r b Ms
  | [], _ => trivial
  | M :: Ms, h => by
    simp only [sameAt, Bool.and_eq_true, decide_eq_true_eq] at h
    exact ⟨h.1, sameAt_ok h.2⟩
theorem watchB_ok {Ms : List AMem} : ∀ {W : List (Nat × Nat)}, watchB Ms W = true → watchS Ms W
  | [], _ => trivial
  | (lo, r) :: W, h => by
    simp only [watchB, Bool.and_eq_true] at h
    refine ⟨?_, watchB_ok h.2⟩
    have h1 := h.1
    split
    · trivial
    · rename_i M Ms' hd
      rw [hd] at h1
      simp only at h1
      split
      · rename_i b hm; rw [hm] at h1; exact sameAt_ok h1
      · rename_i hm; rw [hm] at h1; cases h1
theorem upB_ok {A : Option AMem} {cur mem' : AMem} (h : upB A cur mem' = true) : ∃ B x0 y0, A = some B ∧ cur = B ++ x0 ∧ mem' = B ++ y0 := by
  unfold upB at h
  split at h
  · rename_i B
    simp only [Bool.and_eq_true] at h
    obtain ⟨x0, hx⟩ := preB_ok h.1
    obtain ⟨y0, hy⟩ := preB_ok h.2
    exact ⟨B, x0, y0, rfl, hx, hy⟩
  · cases h

theorem rOpsD_ok (hc : CallOk P call) {ops : Array Oper} : ∀ (l : Pl) (tm : Tm) (cur : AMem) (hist : List AMem) (ws : List (Nat × Nat)) (tm' : Tm) (mem' : AMem) (K : Tm → AMem → Prop),
    rOpsD P call ops l tm cur hist ws = some (tm', mem') → K tm' mem' → AOpsD P ops l tm cur hist ws K
  | [], tm, cur, hist, ws, tm', mem', K, h, hk => by
    simp only [rOpsD] at h
    split at h
    · rename_i hw
      simp only [Option.some.injEq, Prod.mk.injEq] at h
      obtain ⟨rfl, rfl⟩ := h; exact ⟨watchS_ok (watchB_ok hw), hk⟩
    · cases h
  | (o, p) :: rest, tm, cur, hist, ws, tm', mem', K, h, hk => by
    rw [rOpsD.eq_def] at h
    simp only at h
    rw [AOpsD.eq_def]
    simp only
    split at h
    · rename_i hw
      rw [hw]
      simp only
      cases p with
      | val =>
        simp only at h ⊢
        split at h
        · rename_i x hv; rw [hv]; exact rOpsD_ok hc rest _ _ _ _ _ _ K h hk
        · cases h
      | rd lo =>
        simp only at h ⊢
        split at h
        · rename_i t y hop
          split at h
          · rename_i M hM
            split at h
            · rename_i x hx
              rw [hop]; simp only [hM, hx]; exact rOpsD_ok hc rest _ _ _ _ _ _ K h hk
            · cases h
          · cases h
        · cases h
      | rw lo =>
        simp only at h ⊢
        split at h
        · rename_i t y hop
          split at h
          · rename_i r ver off M hy hM
            split at h
            · rename_i x hx
              rw [hop]; simp only [hy, hM, hx]; exact rOpsD_ok hc rest _ _ _ _ _ _ K h hk
            · cases h
          · cases h
        · cases h
      | ext =>
        simp only at h ⊢
        split at h
        · cases h
        · rename_i f args ts hop
          split at h
          · rename_i g cs hf
            split at h
            · rename_i ret m1 hcall
              split at h
              · rename_i hp
                obtain ⟨extra, rfl⟩ := preB_ok hp
                rw [hop]; simp only [hf]
                exact ⟨ret, extra, hc _ _ _ _ _ hcall, rOpsD_ok hc rest _ _ _ _ _ _ K h hk⟩
              · cases h
            · cases h
          · cases h
        · rename_i h1 h2
          split at h
          · rename_i x m1 hv
            split at h
            · rename_i hp
              split
              · rename_i t x y hop; exact absurd hop (h1 t x y)
              · rename_i f args ts hop; exact absurd hop (h2 f args ts)
              · simp only [hv]
                exact ⟨preB_ok hp, rOpsD_ok hc rest _ _ _ _ _ _ K h hk⟩
            · cases h
          · cases h
      | up q =>
        simp only at h ⊢
        split at h
        · rename_i x m1 hv
          split at h
          · rename_i hp
            rw [hv]
            exact ⟨upB_ok hp, rOpsD_ok hc rest _ _ _ _ _ _ K h hk⟩
          · cases h
        · cases h
      | fl =>
        simp only at h ⊢
        split at h
        · rename_i t hop hg
          split at h
          · rename_i z hz
            rw [hop, hg]; simp only [hz]; exact rOpsD_ok hc rest _ _ _ _ _ _ K h hk
          · cases h
        · cases h
      | wr =>
        simp only at h ⊢
        split at h
        · rename_i t x y hop
          split at h
          · rename_i m1 hs
            rw [hop]; simp only [hs]; exact rOpsD_ok hc rest _ _ _ _ _ _ K h hk
          · cases h
        · rename_i f args ts hop
          split at h
          · rename_i g cs hf
            split at h
            · rename_i ret m1 hcall
              rw [hop]; simp only [hf]
              exact ⟨ret, m1, hc _ _ _ _ _ hcall, rOpsD_ok hc rest _ _ _ _ _ _ K h hk⟩
            · cases h
          · cases h
        · rename_i h1 h2
          split at h
          · rename_i x m1 hv
            split
            · rename_i t x y hop; exact absurd hop (h1 t x y)
            · rename_i f args ts hop; exact absurd hop (h2 f args ts)
            · simp only [hv]
              exact rOpsD_ok hc rest _ _ _ _ _ _ K h hk
          · cases h
    · rename_i hw
      rw [hw]
      exact rOpsD_ok hc rest _ _ _ _ _ _ K h hk
    · cases h

variable {pls : Nat → List Plan} {nt L : Nat}

theorem rLoop_ok {c : Code} {f : Tm → AMem → Option (Exit × Tm × AMem)} (hf : ∀ tm mem ex tm' mem' (Q : Exit → Tm → AMem → Prop), f tm mem = some (ex, tm', mem') → Q ex tm' mem' → AW P nt c tm mem Q) :
    ∀ (n : Nat) (tm : Tm) (mem : AMem) (ex : Exit) (tm' : Tm) (mem' : AMem) (Q : Exit → Tm → AMem → Prop), rLoop f n tm mem = some (ex, tm', mem') → Q ex tm' mem' → ARounds P nt c Q n tm mem
  | 0, _, _, _, _, _, _, h, _ => by cases h
  | n + 1, tm, mem, ex, tm', mem', Q, h, hq => by
    simp only [rLoop] at h
    split at h
    · rename_i tm1 mem1 h1
      exact hf _ _ _ _ _ _ h1 (rLoop_ok hf n _ _ _ _ _ Q h hq)
    · rename_i r hne
      have hex : ex ≠ .normal := by rintro rfl; exact hne _ _ h
      refine hf _ _ _ _ _ _ h ?_
      cases ex with
      | normal => exact absurd rfl hex
      | _ => exact hq

theorem rCode_ok (hc : CallOk P call) (hfol : P.follows .mixedOrders = true) : ∀ (c : Code) (tm : Tm) (mem : AMem) (ex : Exit) (tm' : Tm) (mem' : AMem) (Q : Exit → Tm → AMem → Prop),
    rCode P call pls nt L c tm mem = some (ex, tm', mem') → Q ex tm' mem' → AW P nt c tm mem Q := by
  intro c
  induction c with
  | skip => intro tm mem ex tm' mem' Q h hq; simp only [rCode, Option.some.injEq, Prod.mk.injEq] at h; obtain ⟨rfl, rfl, rfl⟩ := h; exact AW.skip hq
  | ret => intro tm mem ex tm' mem' Q h hq; simp only [rCode, Option.some.injEq, Prod.mk.injEq] at h; obtain ⟨rfl, rfl, rfl⟩ := h; exact AW.ret hq
  | exit id => intro tm mem ex tm' mem' Q h hq; simp only [rCode, Option.some.injEq, Prod.mk.injEq] at h; obtain ⟨rfl, rfl, rfl⟩ := h; exact AW.exit hq
  | seq x y ihx ihy =>
    intro tm mem ex tm' mem' Q h hq
    simp only [rCode] at h
    split at h
    · rename_i tm1 mem1 h1
      exact AW.seq (ihx _ _ _ _ _ _ h1 (ihy _ _ _ _ _ _ h hq))
    · rename_i r hne
      have hex : ex ≠ .normal := by rintro rfl; exact hne _ _ h
      refine AW.seq (ihx _ _ _ _ _ _ h ?_)
      cases ex with
      | normal => exact absurd rfl hex
      | _ => exact hq
  | block id c ih =>
    intro tm mem ex tm' mem' Q h hq
    simp only [rCode] at h
    refine AW.block ?_
    split at h
    · rename_i id' tm1 mem1 h1
      refine ih _ _ _ _ _ _ h1 ?_
      split at h
      · rename_i he
        simp only [Option.some.injEq, Prod.mk.injEq] at h; obtain ⟨rfl, rfl, rfl⟩ := h
        subst he; exact InB_here hq
      · rename_i he
        simp only [Option.some.injEq, Prod.mk.injEq] at h; obtain ⟨rfl, rfl, rfl⟩ := h
        exact InB_far he hq
    · rename_i r hne
      refine ih _ _ _ _ _ _ h ?_
      cases ex with
      | exit id' => exact absurd h (hne _ _ _)
      | _ => exact hq
  | cond c x y ihx ihy =>
    intro tm mem ex tm' mem' Q h hq
    simp only [rCode] at h
    split at h
    · rename_i hb; exact AW.cond_t hb (ihx _ _ _ _ _ _ h hq)
    · rename_i hb; exact AW.cond_f hb (ihy _ _ _ _ _ _ h hq)
    · cases h
  | loop c ih =>
    intro tm mem ex tm' mem' Q h hq
    simp only [rCode] at h
    exact AW.rounds L (rLoop_ok ih _ _ _ _ _ _ _ h hq)
  | region id ops b =>
    intro tm mem ex tm' mem' Q h hq
    cases b with
    | false =>
      simp only [rCode] at h
      split at h
      · rename_i hd
        simp only [Option.map_eq_some_iff, Prod.mk.injEq] at h
        obtain ⟨⟨tm1, mem1⟩, h1, rfl, rfl, rfl⟩ := h
        have h2 : AOps P ops ops.toList tm mem (Q .normal) := rOps_ok hc _ _ _ _ _ _ h1 hq
        have h3 := AW.region (P := P) (nt := nt) (id := id) (l := ops.toList) (tm := tm) (mem := mem) (Q := Q) hd (by simpa using h2)
        simpa using h3
      · cases h
    | true =>
      simp only [rCode] at h
      split at h
      · rename_i hd
        simp only [Option.map_eq_some_iff, Prod.mk.injEq] at h
        obtain ⟨⟨tm1, mem1⟩, h1, rfl, rfl, rfl⟩ := h
        have h2 := rOpsD_ok hc _ _ _ _ _ _ _ (Q .normal) h1 hq
        have h3 := AW.draw (P := P) (nt := nt) (id := id) (l := ops.toList) (tm := tm) (mem := mem) (Q := Q) (pls id) hfol hd.1 hd.2 (by simpa using h2)
        simpa using h3
      · cases h
  | _ => intro tm mem ex tm' mem' Q h hq; simp only [rCode] at h; cases h
end

theorem Hands.all {x : AV} {mem : AMem} {L : Nat} : Hands L x mem x mem := fun ρ v w hv hm => ⟨ρ, hv, hm, fun _ _ _ _ h => h⟩

theorem rFunc_ok {P : Program} {pls : Nat → Nat → List Plan} {L : Nat} (hfol : P.follows .mixedOrders = true) : ∀ n : Nat, CallOk P (rFunc P pls L n)
  | 0 => fun g args mem ret mem' h => by cases h
  | n + 1 => fun g args mem ret mem' h => by
    simp only [rFunc] at h
    split at h
    · rename_i fn hfn
      split at h
      · rename_i c hb
        split at h
        · rename_i hname
          have ok := rFunc_ok (P := P) (pls := pls) (L := L) hfol n
          split at h
          · rename_i tm m hr
            simp only [Option.map_eq_some_iff, Prod.mk.injEq] at h
            obtain ⟨x, hx, rfl, rfl⟩ := h
            exact Ctr.of_body hfn hb hname fun hw => rCode_ok ok hfol _ _ _ _ _ _ _ hr ⟨.inl rfl, x, hx, Hands.all⟩
          · rename_i tm m hr
            simp only [Option.map_eq_some_iff, Prod.mk.injEq] at h
            obtain ⟨x, hx, rfl, rfl⟩ := h
            exact Ctr.of_body hfn hb hname fun hw => rCode_ok ok hfol _ _ _ _ _ _ _ hr ⟨.inr rfl, x, hx, Hands.all⟩
          · cases h
        · cases h
      · cases h
    · cases h

/-- What is reckoned with no memory at hand, and leads to none, holds in every memory. -/
theorem Ctr.closed {P : Program} {f : FuncId} {args : List AV} {ret : AV} {mem' : AMem} (h : Ctr P f args [] ret mem') (ha : ∀ a, a ∈ args → a.below 0 = true) (hr : ret.below 0 = true) (m : AMem) : Ctr P f args m ret m := by
  refine fun ρ w vs hm hargs => ?_
  have h0 : RepM (ρ.upto 0) [] w := ⟨fun r b h => by simp at h, fun r v _ => by simp [Env.upto], fun r b v h => by simp at h, fun r s b c h => by simp at h⟩
  have hargs' : ∀ {xa : List AV} {vs : List Value}, (∀ a, a ∈ xa → a.below 0 = true) → All2 (VR ρ) xa vs → All2 (VR (ρ.upto 0)) xa vs := by
    intro xa
    induction xa with
    | nil => intro vs _ h; cases vs with
      | nil => trivial
      | cons _ _ => exact h.elim
    | cons a xa ih => intro vs hb h; cases vs with
      | nil => exact h.elim
      | cons v vs => exact ⟨h.1.upto (hb a List.mem_cons_self), ih (fun a ha => hb a (List.mem_cons_of_mem _ ha)) h.2⟩
  refine (h _ w vs h0 (hargs' ha hargs)).mono ?_
  rintro e w' ⟨v, ρ', rfl, hv, hm', hs⟩
  have hfr : ∀ n, n < w.heap.size → w'.heap[n]? = w.heap[n]? := fun n hn => hs.frame n hn fun r b x k hb => by simp at hb
  have hm2 : RepM ρ m w' := by
    refine ⟨fun r b hb => ?_, hm.dom, hm.domv, hm.sep⟩
    exact (hm.blk r b hb).heap hs.size fun x k hx hne hlt => hfr _ hlt
  refine ⟨v, ρ, rfl, ?_, hm2, ?_⟩
  · exact (hv.upto hr).mono (fun r v x hx => by simp [Env.upto] at hx)
  · exact ⟨hs.os, hs.tape, hs.output, hs.size, Nat.le_refl _, fun _ _ _ _ h => h, fun r b b' h h' => by rw [h] at h'; injection h' with h'; rw [h'], fun r b h _ => h, fun n hn _ => hfr n hn, fun r b x k h hk hx => .inr ⟨r, b, x, k, h, hk, hx, rfl⟩⟩

/-- A call whose arguments are known, reckoned by the machine. -/
theorem Ctr.run {P : Program} {f : FuncId} {args : List AV} {ret : AV} (pls : Nat → Nat → List Plan) (L n : Nat) (hfol : P.follows .mixedOrders = true) (h : ((rFunc P pls L n f args []).map (·.1)) = some ret) (ha : ∀ a, a ∈ args → a.below 0 = true) (hr : ret.below 0 = true) (m : AMem) : Ctr P f args m ret m := by
  rw [Option.map_eq_some_iff] at h
  obtain ⟨⟨x, mem'⟩, h1, rfl⟩ := h
  exact Ctr.closed (rFunc_ok hfol n _ _ _ _ _ h1) ha hr m
end Go.Eng

/-
  ENGINE, PART P: a nil slice taken as a row of our own with nothing in it; loops whose rounds make blocks.
-/
set_option linter.unusedVariables false
set_option linter.unusedSimpArgs false
namespace Go.Eng
open Go

theorem set_self {α : Type} : ∀ {l : List α} {j : Nat} {v : α}, l[j]? = some v → l.set j v = l
  | [], _, _, _ => rfl
  | x :: l, 0, v, h => by simp at h; subst h; rfl
  | x :: l, j + 1, v, h => by simp at h; simp [set_self h]
theorem All2.set_left {α β : Type} {R : α → β → Prop} {xa : List α} {bs : List β} (h : All2 R xa bs) {j : Nat} {a : α} {b : β} (hb : bs[j]? = some b) (hr : R a b) : All2 R (xa.set j a) bs := by
  have := h.set (i := j) hr
  rwa [set_self hb] at this

section
variable {P : Program} {nt : Nat} {tm : Tm} {mem : AMem}
theorem nil_row {ρ : Env} {L : Nat} {v : Value} (h : VC ρ .nils v) : VC (ρ.set L 0 (none, 0)) (.sl L 0 0 0) v := by
  have e : v = .slice none 0 0 := h
  subst e
  exact ⟨none, 0, none, 0, Env.set_same _ _ _ _, rfl, Nat.le_refl _, fun h => by omega, fun _ => ⟨rfl, rfl⟩⟩

theorem Rep.nilRow {ρ : Env} {a : Act} {w : World} (hr : Rep ρ nt tm mem a w) (ty esz : Nat) (mem1 : AMem) (hlen : mem1.length = mem.length) (hk : ∀ (r : Nat) (b1 : Blk), mem1[r]? = some b1 → ∃ b, mem[r]? = some b ∧ b1.kind = b.kind ∧ b1.ver = b.ver ∧ (b.kind = .ro → b1 = b))
    (hb : ∀ (r : Nat) (b1 : Blk), mem1[r]? = some b1 → BlkR (ρ.set mem.length 0 (none, 0)) w r b1) (tm1 : Tm) (ht : ∀ i, VR (ρ.set mem.length 0 (none, 0)) (Tm.get tm1 i) (a.tmps.getD i undef)) :
    Rep (ρ.set mem.length 0 (none, 0)) nt tm1 (mem1 ++ [⟨.grow, ty, 0, esz, []⟩]) a w ∧ ∀ m0 ρ0 w0, Step m0 ρ0 w0 mem ρ w → Step m0 ρ0 w0 (mem1 ++ [⟨.grow, ty, 0, esz, []⟩]) (ρ.set mem.length 0 (none, 0)) w := by
  have hle : ρ.le (ρ.set mem.length 0 (none, 0)) := Env.le_set (hr.mem.dom _ _ (Nat.le_refl _))
  have hgt : ∀ {s : Nat} {d : Blk}, (mem1 ++ [⟨.grow, ty, 0, esz, []⟩])[s]? = some d → (s < mem.length ∧ mem1[s]? = some d) ∨ (s = mem.length ∧ d = ⟨.grow, ty, 0, esz, []⟩) := by
    intro s d hd
    rcases Nat.lt_or_ge s mem1.length with h | h
    · rw [List.getElem?_append_left h] at hd; exact .inl ⟨by omega, hd⟩
    · rw [List.getElem?_append_right h] at hd
      have hl := (List.getElem?_eq_some_iff.1 hd).1
      simp at hl
      have : s = mem.length := by omega
      subst this
      simp [hlen] at hd
      exact .inr ⟨rfl, hd.symm⟩
  have hoth : ∀ {s v : Nat}, s < mem.length → ρ.set mem.length 0 (none, 0) s v = ρ s v := fun {s v} h => Env.set_other ρ _ (by omega)
  refine ⟨⟨hr.size, ht, ⟨?_, ?_, ?_, ?_⟩⟩, ?_⟩
  · intro s d hd
    rcases hgt hd with ⟨_, h1⟩ | ⟨rfl, rfl⟩
    · exact hb s d h1
    · exact .inl ⟨rfl, Env.set_same _ _ _ _⟩
  · intro s v hs
    simp at hs
    rw [Env.set_other ρ _ (by omega)]
    exact hr.mem.dom s v (by omega)
  · intro s d v hd hv
    rcases hgt hd with ⟨hl, h1⟩ | ⟨rfl, rfl⟩
    · obtain ⟨b, h2, _, h3, _⟩ := hk s d h1
      rw [hoth hl]; exact hr.mem.domv s b v h2 (by omega)
    · simp only at hv
      rw [Env.set_other ρ _ (by omega)]
      exact hr.mem.dom _ _ (Nat.le_refl _)
  · intro s t d e hd he hst hkd hne x y k1 k2 hx hy
    rcases hgt hd with ⟨hl, h1⟩ | ⟨rfl, rfl⟩
    · rcases hgt he with ⟨hl', h1'⟩ | ⟨rfl, rfl⟩
      · obtain ⟨b, h2, h3, h4, h5⟩ := hk s d h1
        obtain ⟨b', h2', h3', h4', h5'⟩ := hk t e h1'
        rw [hoth hl, h4] at hx
        rw [hoth hl', h4'] at hy
        exact hr.mem.sep s t b b' h2 h2' hst (by rw [← h3]; exact hkd) (fun h => by rw [← h5' h]; exact hne (by rw [h3']; exact h)) x y k1 k2 hx hy
      · simp only [Env.set_same] at hy
        injection hy with hy; injection hy with hy _; cases hy
    · simp only [Env.set_same] at hx
      injection hx with hx; injection hx with hx _; cases hx
  · intro m0 ρ0 w0 hs
    refine ⟨hs.os, hs.tape, hs.output, hs.size, ?_, fun r hr v x hx => hle _ _ _ (hs.ext r hr v x hx), ?_, ?_, ?_, ?_⟩
    · have := hs.len; simp; omega
    · intro r b b' hb0 hb'
      have hl0 := (List.getElem?_eq_some_iff.1 hb0).1
      have := hs.len
      rcases hgt hb' with ⟨hl, h1⟩ | ⟨rfl, rfl⟩
      · obtain ⟨b2, h2, h3, _, _⟩ := hk r b' h1
        rw [h3]; exact hs.kind r b b2 hb0 h2
      · omega
    · intro r b' hb' hro
      rcases hgt hb' with ⟨hl, h1⟩ | ⟨rfl, rfl⟩
      · obtain ⟨b2, h2, h3, _, h5⟩ := hk r b' h1
        have e := h5 (by rw [← h3]; exact hro)
        subst e
        exact hs.ro r b' h2 hro
      · cases hro
    · exact hs.frame
    · intro r b' x k hb' hkd hx
      rcases hgt hb' with ⟨hl, h1⟩ | ⟨rfl, rfl⟩
      · obtain ⟨b2, h2, h3, h4, h5⟩ := hk r b' h1
        rw [hoth hl, h4] at hx
        exact hs.fresh r b2 x k h2 (by rw [← h3]; exact hkd) hx
      · simp only [Env.set_same] at hx
        injection hx with hx; injection hx with hx _; cases hx

theorem BlkR.nilCell {ρ ρ' : Env} (hle : ρ.le ρ') {w : World} {r : Nat} {b : Blk} (hb : BlkR ρ w r b) (hk : b.kind ≠ .ro) {j : Nat} (hj : b.cells[j]? = some .nils) {c : CV} (hc : ∀ v, VC ρ .nils v → VC ρ' c v) : BlkR ρ' w r { b with cells := b.cells.set j c } := by
  obtain ⟨kind, ty, ver, esz, cells⟩ := b
  cases kind with
  | fix =>
    obtain ⟨n, cs, k, h1, h2, h3, hkk⟩ := hb
    obtain ⟨v, hv, hr⟩ := h3.get hj
    exact ⟨n, cs, k, hle _ _ _ h1, h2, (h3.mono fun _ _ => VC.mono hle).set_left hv (hc v hr), hkk⟩
  | grow =>
    rcases hb with ⟨h1, h2⟩ | ⟨n, cs, cap, xs, sp, h1, h2, h3, hcm, h4, h5⟩
    · simp only at h1; subst h1; simp at hj
    · obtain ⟨v, hv, hr⟩ := h5.get hj
      exact .inr ⟨n, cs, cap, xs, sp, hle _ _ _ h1, h2, h3, hcm, h4, (h5.mono fun _ _ => VC.mono hle).set_left hv (hc v hr)⟩
  | ro => exact absurd rfl hk
  | map ka va clock es => obtain ⟨n, o, k, _, _, _, h⟩ := hb; simp only at h; subst h; simp at hj
  | iter rm since seen last => obtain ⟨n, N, k, k', _, _, _, h⟩ := hb; simp only at h; subst h; simp at hj

/-- A nil slice in a cell of a block of our own, taken as a row with nothing in it. -/
theorem AW.nilCell {c : Code} {Q : Exit → Tm → AMem → Prop} (ty esz : Nat) (r j : Nat) {b : Blk} (hb : mem[r]? = some b) (hk : b.kind ≠ .ro) (hj : b.cells[j]? = some .nils)
    (h : AW P nt c tm (mem.set r { b with cells := b.cells.set j (.sl mem.length 0 0 0) } ++ [⟨.grow, ty, 0, esz, []⟩]) Q) : AW P nt c tm mem Q := by
  intro ρ a w hr
  have hle : ρ.le (ρ.set mem.length 0 (none, 0)) := Env.le_set (hr.mem.dom _ _ (Nat.le_refl _))
  have hrl := (List.getElem?_eq_some_iff.1 hb).1
  have hgt : ∀ {s : Nat} {d : Blk}, (mem.set r { b with cells := b.cells.set j (.sl mem.length 0 0 0) })[s]? = some d → (s ≠ r ∧ mem[s]? = some d) ∨ (s = r ∧ d = { b with cells := b.cells.set j (.sl mem.length 0 0 0) }) := by
    intro s d hd
    by_cases hs : s = r
    · subst hs; rw [List.getElem?_set_self hrl] at hd; injection hd with hd; exact .inr ⟨rfl, hd.symm⟩
    · rw [List.getElem?_set_ne (fun e => hs e.symm)] at hd; exact .inl ⟨hs, hd⟩
  obtain ⟨h1, h2⟩ := hr.nilRow ty esz (mem.set r { b with cells := b.cells.set j (.sl mem.length 0 0 0) }) (by simp) (fun s d hd => by
      rcases hgt hd with ⟨_, h1⟩ | ⟨e1, e2⟩
      · exact ⟨d, h1, rfl, rfl, fun _ => rfl⟩
      · subst e1; subst e2; exact ⟨b, hb, rfl, rfl, fun h => absurd h hk⟩) (fun s d hd => by
      rcases hgt hd with ⟨_, h1⟩ | ⟨e1, e2⟩
      · exact (hr.mem.blk s d h1).mono hle
      · subst e1; subst e2; exact (hr.mem.blk s b hb).nilCell hle hk hj fun v hv => nil_row hv) tm (fun i => (hr.tm i).mono hle)
  refine wp_mono (h _ a w h1) ?_
  rintro e a' w' ⟨ρ2, tm2, mem2, hr2, hs2, hd, hq⟩
  exact ⟨ρ2, tm2, mem2, hr2, (h2 mem ρ w (Step.refl _ _ _)).trans hs2, hd, hq⟩

/-- The same of a temporary. -/
theorem AW.nilTm {c : Code} {Q : Exit → Tm → AMem → Prop} (ty esz : Nat) (d : Nat) (hd : Tm.get tm d = .one .nils)
    (h : AW P nt c ((d, .one (.sl mem.length 0 0 0)) :: tm) (mem ++ [⟨.grow, ty, 0, esz, []⟩]) Q) : AW P nt c tm mem Q := by
  intro ρ a w hr
  have hle : ρ.le (ρ.set mem.length 0 (none, 0)) := Env.le_set (hr.mem.dom _ _ (Nat.le_refl _))
  obtain ⟨h1, h2⟩ := hr.nilRow ty esz mem rfl (fun s d hd => ⟨d, hd, rfl, rfl, fun _ => rfl⟩) (fun s d hd => (hr.mem.blk s d hd).mono hle) ((d, .one (.sl mem.length 0 0 0)) :: tm) (fun i => by
    rw [Tm.get_put]
    by_cases hi : i = d
    · subst hi
      rw [if_pos rfl]
      have := hr.tm i
      rw [hd] at this
      exact nil_row this
    · rw [if_neg hi]; exact (hr.tm i).mono hle)
  refine wp_mono (h _ a w h1) ?_
  rintro e a' w' ⟨ρ2, tm2, mem2, hr2, hs2, hd, hq⟩
  exact ⟨ρ2, tm2, mem2, hr2, (h2 mem ρ w (Step.refl _ _ _)).trans hs2, hd, hq⟩

/-- A loop whose rounds may make blocks. -/
theorem AW.loopE {ι : Type} {c : Code} {Q : Exit → Tm → AMem → Prop} (keep : List Nat) (m0 : AMem) (I : ι → Prop) (V : ι → Tm) (U : ι → List (Nat × Blk)) (E : ι → AMem) (μ : ι → Nat) (i : ι) (hi : I i) (hv : Keeps tm (V i)) (hm : setAll m0 (U i) ++ E i = mem)
    (hE : ∀ i j, I i → I j → μ j < μ i → (E i).length ≤ (E j).length)
    (h : ∀ i, I i → AW P nt c (V i ++ keepL tm keep) (setAll m0 (U i) ++ E i) (Thn (fun tm' mem' => ∃ j, I j ∧ μ j < μ i ∧ Weak nt tm' mem' (V j ++ keepL tm keep) (setAll m0 (U j) ++ E j)) Q)) : AW P nt (.loop c) tm mem Q := by
  refine AW.weak (tm' := V i ++ keepL tm keep) (Keeps.append hv (keeps_keepL _ _)) ?_
  refine AW.loop (ι := { i // I i }) (fun j => V j.1 ++ keepL tm keep) (fun j => setAll m0 (U j.1) ++ E j.1) (fun j => μ j.1) ⟨i, hi⟩ rfl hm fun ⟨j, hj⟩ => ?_
  refine (h j hj).mono fun e tm' mem' hq => ?_
  cases e with
  | normal =>
    obtain ⟨k, hk, hlt, hw⟩ := hq
    exact ⟨⟨k, hk⟩, hlt, hw, by simp only [List.length_append, setAll_len]; have := hE j k hj hk hlt; omega⟩
  | _ => exact hq

def nilC (L : Nat) (c c' : CV) : Prop := c' = c ∨ (c = .nils ∧ c' = .sl L 0 0 0)
def nilV (L : Nat) : AV → AV → Prop
  | .one c, .one c' => nilC L c c'
  | .agg cs, .agg cs' => All2 (nilC L) cs cs'
  | .tup ts, .tup ts' => All2 (fun t t' => t.1 = t'.1 ∧ All2 (nilC L) t.2 t'.2) ts ts'
  | _, _ => False
theorem AW.loopE0 {ι : Type} {c : Code} {Q : Exit → Tm → AMem → Prop} (keep : List Nat) (I : ι → Prop) (V : ι → Tm) (U : ι → List (Nat × Blk)) (E : ι → AMem) (μ : ι → Nat) (i : ι) (hi : I i) (hv : Keeps tm (V i)) (hm : setAll mem (U i) ++ E i = mem)
    (hE : ∀ i j, I i → I j → μ j < μ i → (E i).length ≤ (E j).length)
    (h : ∀ i, I i → AW P nt c (V i ++ keepL tm keep) (setAll mem (U i) ++ E i) (Thn (fun tm' mem' => ∃ j, I j ∧ μ j < μ i ∧ Weak nt tm' mem' (V j ++ keepL tm keep) (setAll mem (U j) ++ E j)) Q)) : AW P nt (.loop c) tm mem Q :=
  AW.loopE keep mem I V U E μ i hi hv hm hE h

theorem nilC_sound {ρ : Env} {L : Nat} (hle : ρ.le (ρ.set L 0 (none, 0))) {c c' : CV} {v : Value} (h : nilC L c c') (hv : VC ρ c v) : VC (ρ.set L 0 (none, 0)) c' v := by
  rcases h with rfl | ⟨rfl, rfl⟩
  · exact hv.mono hle
  · exact nil_row hv
theorem nilL_sound {ρ : Env} {L : Nat} (hle : ρ.le (ρ.set L 0 (none, 0))) : ∀ {cs cs' : List CV} {vs : List Value}, All2 (nilC L) cs cs' → All2 (VC ρ) cs vs → All2 (VC (ρ.set L 0 (none, 0))) cs' vs
  | [], [], [], _, _ => trivial
  | c :: cs, c' :: cs', v :: vs, h, hv => ⟨nilC_sound hle h.1 hv.1, nilL_sound hle h.2 hv.2⟩
  | [], _ :: _, _, h, _ => h.elim
  | _ :: _, [], _, h, _ => h.elim
  | [], [], _ :: _, _, h => h.elim
  | _ :: _, _ :: _, [], _, h => h.elim
theorem nilT_sound {ρ : Env} {L : Nat} (hle : ρ.le (ρ.set L 0 (none, 0))) {t t' : Bool × List CV} {v : Value} (h : t.1 = t'.1 ∧ All2 (nilC L) t.2 t'.2) (hv : TV ρ t v) : TV (ρ.set L 0 (none, 0)) t' v := by
  obtain ⟨b, cs⟩ := t
  obtain ⟨b', cs'⟩ := t'
  obtain ⟨h1, h2⟩ := h
  simp only at h1 h2
  subst h1
  cases b with
  | true => obtain ⟨vs, e, hvs⟩ := hv; exact ⟨vs, e, nilL_sound hle h2 hvs⟩
  | false =>
    match cs, cs', h2, hv with
    | [], [], _, _ => trivial
    | [c], [c'], h2, hv => exact nilC_sound hle h2.1 hv
    | _ :: _ :: _, _ :: _ :: _, _, _ => trivial
    | [], _ :: _, h2, _ => exact h2.elim
    | _ :: _, [], h2, _ => exact h2.elim
    | [_], _ :: _ :: _, h2, _ => exact h2.2.elim
    | _ :: _ :: _, [_], h2, _ => exact h2.2.elim
theorem nilTs_sound {ρ : Env} {L : Nat} (hle : ρ.le (ρ.set L 0 (none, 0))) : ∀ {ts ts' : List (Bool × List CV)} {vs : List Value}, All2 (fun t t' => t.1 = t'.1 ∧ All2 (nilC L) t.2 t'.2) ts ts' → All2 (TV ρ) ts vs → All2 (TV (ρ.set L 0 (none, 0))) ts' vs
  | [], [], [], _, _ => trivial
  | c :: cs, c' :: cs', v :: vs, h, hv => ⟨nilT_sound hle h.1 hv.1, nilTs_sound hle h.2 hv.2⟩
  | [], _ :: _, _, h, _ => h.elim
  | _ :: _, [], _, h, _ => h.elim
  | [], [], _ :: _, _, h => h.elim
  | _ :: _, _ :: _, [], _, h => h.elim
theorem nilV_sound {ρ : Env} {L : Nat} (hle : ρ.le (ρ.set L 0 (none, 0))) {x x' : AV} {v : Value} (h : nilV L x x') (hv : VR ρ x v) : VR (ρ.set L 0 (none, 0)) x' v := by
  match x, x', h, hv with
  | .one c, .one c', h, hv => exact nilC_sound hle h hv
  | .agg cs, .agg cs', h, hv => obtain ⟨vs, e, hvs⟩ := hv; exact ⟨vs, e, nilL_sound hle h hvs⟩
  | .tup ts, .tup ts', h, hv => obtain ⟨vs, e, hvs⟩ := hv; exact ⟨vs, e, nilTs_sound hle h hvs⟩
  | .one _, .agg _, h, _ => exact h.elim
  | .one _, .tup _, h, _ => exact h.elim
  | .agg _, .one _, h, _ => exact h.elim
  | .agg _, .tup _, h, _ => exact h.elim
  | .tup _, .one _, h, _ => exact h.elim
  | .tup _, .agg _, h, _ => exact h.elim

/-- A nil slice that is handed back, taken as a row with nothing in it. -/
theorem Ctr.nil {f : FuncId} {args : List AV} {m m' : AMem} {ret ret' : AV} (h : Ctr P f args m ret m') (ty esz : Nat) (hv : nilV m'.length ret ret') : Ctr P f args m ret' (m' ++ [⟨.grow, ty, 0, esz, []⟩]) := by
  refine fun ρ w vs hm hargs => (h ρ w vs hm hargs).mono ?_
  rintro e w' ⟨v, ρ', rfl, hvr, hm', hs⟩
  have hle : ρ'.le (ρ'.set m'.length 0 (none, 0)) := Env.le_set (hm'.dom _ _ (Nat.le_refl _))
  have hr : Rep ρ' 0 [] m' ⟨#[], []⟩ w' := ⟨by simp, fun i => trivial, hm'⟩
  obtain ⟨h1, h2⟩ := hr.nilRow ty esz m' rfl (fun s d hd => ⟨d, hd, rfl, rfl, fun _ => rfl⟩) (fun s d hd => (hm'.blk s d hd).mono hle) [] (fun i => trivial)
  exact ⟨v, _, rfl, nilV_sound hle hv hvr, h1.mem, h2 _ _ _ hs⟩
end

theorem all2_cons {α β : Type} {R : α → β → Prop} {t : α} {ts : List α} {l : List β} (h : All2 R (t :: ts) l) : ∃ a xa, l = a :: xa ∧ R t a ∧ All2 R ts xa := by
  cases l with
  | nil => exact h.elim
  | cons a xa => exact ⟨a, xa, rfl, h.1, h.2⟩
theorem all2_nil {α β : Type} {R : α → β → Prop} {l : List β} (h : All2 R ([] : List α) l) : l = [] := by
  cases l with
  | nil => rfl
  | cons a xa => exact h.elim
theorem chain6 (p1 p2 p3 p4 p5 p6 : Prop) : (p1 ∧ p2 ∧ p3 ∧ p4 ∧ p5 ∧ p6) ∨ (p1 ∧ p2 ∧ p3 ∧ p4 ∧ p5 ∧ ¬p6) ∨ (p1 ∧ p2 ∧ p3 ∧ p4 ∧ ¬p5 ∧ True) ∨ (p1 ∧ p2 ∧ p3 ∧ ¬p4 ∧ True ∧ True) ∨ (p1 ∧ p2 ∧ ¬p3 ∧ True ∧ True ∧ True) ∨ (p1 ∧ ¬p2 ∧ True ∧ True ∧ True ∧ True) ∨ (¬p1 ∧ True ∧ True ∧ True ∧ True ∧ True) := by
  rcases Classical.em p1 with h | h <;> rcases chain5 p2 p3 p4 p5 p6 with h' | h' | h' | h' | h' | h' <;> simp [h, h']
theorem chain7 (p1 p2 p3 p4 p5 p6 p7 : Prop) : (p1 ∧ p2 ∧ p3 ∧ p4 ∧ p5 ∧ p6 ∧ p7) ∨ (p1 ∧ p2 ∧ p3 ∧ p4 ∧ p5 ∧ p6 ∧ ¬p7) ∨ (p1 ∧ p2 ∧ p3 ∧ p4 ∧ p5 ∧ ¬p6 ∧ True) ∨ (p1 ∧ p2 ∧ p3 ∧ p4 ∧ ¬p5 ∧ True ∧ True) ∨ (p1 ∧ p2 ∧ p3 ∧ ¬p4 ∧ True ∧ True ∧ True) ∨ (p1 ∧ p2 ∧ ¬p3 ∧ True ∧ True ∧ True ∧ True) ∨ (p1 ∧ ¬p2 ∧ True ∧ True ∧ True ∧ True ∧ True) ∨ (¬p1 ∧ True ∧ True ∧ True ∧ True ∧ True ∧ True) := by
  rcases Classical.em p1 with h | h <;> rcases chain6 p2 p3 p4 p5 p6 p7 with h' | h' | h' | h' | h' | h' | h' <;> simp [h, h']
theorem chain8 (p1 p2 p3 p4 p5 p6 p7 p8 : Prop) : (p1 ∧ p2 ∧ p3 ∧ p4 ∧ p5 ∧ p6 ∧ p7 ∧ p8) ∨ (p1 ∧ p2 ∧ p3 ∧ p4 ∧ p5 ∧ p6 ∧ p7 ∧ ¬p8) ∨ (p1 ∧ p2 ∧ p3 ∧ p4 ∧ p5 ∧ p6 ∧ ¬p7 ∧ True) ∨ (p1 ∧ p2 ∧ p3 ∧ p4 ∧ p5 ∧ ¬p6 ∧ True ∧ True) ∨ (p1 ∧ p2 ∧ p3 ∧ p4 ∧ ¬p5 ∧ True ∧ True ∧ True) ∨ (p1 ∧ p2 ∧ p3 ∧ ¬p4 ∧ True ∧ True ∧ True ∧ True) ∨ (p1 ∧ p2 ∧ ¬p3 ∧ True ∧ True ∧ True ∧ True ∧ True) ∨ (p1 ∧ ¬p2 ∧ True ∧ True ∧ True ∧ True ∧ True ∧ True) ∨ (¬p1 ∧ True ∧ True ∧ True ∧ True ∧ True ∧ True ∧ True) := by
  rcases Classical.em p1 with h | h <;> rcases chain7 p2 p3 p4 p5 p6 p7 p8 with h' | h' | h' | h' | h' | h' | h' | h' <;> simp [h, h']
end Go.Eng

/-
  ENGINE, PART Q: a region that draws its order, where operations that make memory are left unordered: it is parted by which of two comes first, and each part is reckoned in an order of its own.
-/
set_option linter.unusedVariables false
set_option linter.unusedSimpArgs false
namespace Go.Eng
open Go

def bef (σ : List Nat) (i j : Nat) : Prop := σ.idxOf i < σ.idxOf j

/-- An order in which the operations of a region may run. -/
structure Lin (ops : Array Oper) (σ : List Nat) : Prop where
  nd : σ.Nodup
  all : ∀ i, i ∈ σ ↔ i < ops.size
  ord : ∀ (j : Nat) (o : Oper), ops[j]? = some o → ∀ e, e ∈ o.after → Region.binds .any e = true → bef σ e.on j

def backB (ops : List Oper) : Bool := (List.range ops.length).all fun j => match ops[j]? with
  | some o => o.after.all fun e => !Region.binds .any e || decide (e.on < j)
  | none => true
theorem backB_ok {l : List Oper} (h : backB l = true) : ∀ (j : Nat) (o : Oper), l.toArray[j]? = some o → ∀ e, e ∈ o.after → Region.binds .any e = true → e.on < j := by
  intro j o hj e he hb
  have hj' : l[j]? = some o := by simpa using hj
  have h1 := List.all_eq_true.1 h j (List.mem_range.2 (List.getElem?_eq_some_iff.1 hj').1)
  rw [hj'] at h1
  have h2 := Array.all_eq_true_iff_forall_mem.1 h1 e he
  simpa [hb] using h2

theorem idxOf_cons' (i : Nat) (σ : List Nat) (k : Nat) : (i :: σ).idxOf k = if k = i then 0 else σ.idxOf k + 1 := by
  rw [List.idxOf_cons]
  by_cases h : k = i
  · subst h; simp
  · have h1 : (i == k) = false := by simpa using fun e => h e.symm
    rw [if_neg h, h1]; rfl

theorem get_idxOf : ∀ {σ : List Nat} {i : Nat}, i ∈ σ → σ[σ.idxOf i]? = some i
  | k :: σ, i, h => by
    rw [idxOf_cons']
    by_cases e : i = k
    · subst e; simp
    · rw [if_neg e]
      rcases List.mem_cons.1 h with h | h
      · exact absurd h e
      · simpa using get_idxOf h

theorem getD_set (l : Array Bool) (i k : Nat) (d : Bool) (hi : i < l.size) : (l.setIfInBounds i true).getD k d = if k = i then true else l.getD k d := by
  simp only [Array.getD_eq_getD_getElem?]
  by_cases h : k = i
  · subst h; simp [Array.getElem?_setIfInBounds_self_of_lt, hi]
  · rw [if_neg h, Array.getElem?_setIfInBounds_ne (fun e => h e.symm)]

def unl (n : Nat) (listed : Array Bool) : Nat := (List.range n).countP fun i => !listed.getD i true

theorem go_facts {ops : Array Oper} (hback : ∀ (j : Nat) (o : Oper), ops[j]? = some o → ∀ e, e ∈ o.after → Region.binds .any e = true → e.on < j) :
    ∀ (fuel t : Nat) (listed : Array Bool), listed.size = ops.size → unl ops.size listed ≤ fuel →
      (∀ i, i ∈ Region.linearise.go .any ops fuel t listed [] ↔ (i < ops.size ∧ listed.getD i true = false)) ∧ (Region.linearise.go .any ops fuel t listed []).Nodup ∧
      ∀ (j : Nat) (o : Oper), ops[j]? = some o → listed.getD j true = false → ∀ e, e ∈ o.after → Region.binds .any e = true → listed.getD e.on false = true ∨ bef (Region.linearise.go .any ops fuel t listed []) e.on j := by
  have hnone : ∀ (listed : Array Bool), listed.size = ops.size → Region.ready .any ops listed = [] → ∀ j, j < ops.size → listed.getD j true = true := by
    intro listed hsz hr j
    induction j using Nat.strongRecOn with
    | _ j ih =>
      intro hj
      cases hl : listed.getD j true with
      | true => rfl
      | false =>
        exfalso
        have hm : j ∈ Region.ready .any ops listed := by
          simp only [Region.ready, List.mem_filter, List.mem_range]
          refine ⟨hj, ?_⟩
          rw [hl, Array.getElem?_eq_getElem hj]
          simp only [Bool.not_false, Option.map_some, Option.getD_some, Bool.true_and]
          refine Array.all_eq_true_iff_forall_mem.2 fun e he => ?_
          cases hb : Region.binds .any e with
          | false => rfl
          | true =>
            have hlt := hback j _ (Array.getElem?_eq_getElem hj) e he hb
            have h1 := ih e.on hlt (by omega)
            simp only [Bool.not_true, Bool.false_or]
            have : e.on < listed.size := by omega
            simpa [Array.getD_eq_getD_getElem?, this] using h1
        rw [hr] at hm
        cases hm
  intro fuel
  induction fuel with
  | zero =>
    intro t listed hsz hc
    have h0 : ∀ i, i < ops.size → listed.getD i true = true := fun i hi => by
      cases hl : listed.getD i true with
      | true => rfl
      | false =>
        have : 0 < unl ops.size listed := List.countP_pos_iff.2 ⟨i, List.mem_range.2 hi, by simp only [hl, Bool.not_false]⟩
        omega
    simp only [Region.linearise.go]
    refine ⟨fun i => ⟨fun h => (by simp at h), fun h => ?_⟩, (by simp), fun j o hj hl e he hb => ?_⟩
    · have := h0 i h.1; rw [this] at h; cases h.2
    · have := h0 j (Array.getElem?_eq_some_iff.1 hj).1; rw [this] at hl; cases hl
  | succ fuel ih =>
    intro t listed hsz hc
    simp only [Region.linearise.go]
    change (∀ i, i ∈ (match (Region.ready .any ops listed)[t % (Region.ready .any ops listed).length]? with
      | some i => Region.linearise.go .any ops fuel (t / (Region.ready .any ops listed).length) (listed.setIfInBounds i true) [i]
      | none => [].reverse) ↔ (i < ops.size ∧ listed.getD i true = false)) ∧ (match (Region.ready .any ops listed)[t % (Region.ready .any ops listed).length]? with
      | some i => Region.linearise.go .any ops fuel (t / (Region.ready .any ops listed).length) (listed.setIfInBounds i true) [i]
      | none => [].reverse).Nodup ∧ ∀ (j : Nat) (o : Oper), ops[j]? = some o → listed.getD j true = false → ∀ e, e ∈ o.after → Region.binds .any e = true → listed.getD e.on false = true ∨ bef (match (Region.ready .any ops listed)[t % (Region.ready .any ops listed).length]? with
      | some i => Region.linearise.go .any ops fuel (t / (Region.ready .any ops listed).length) (listed.setIfInBounds i true) [i]
      | none => [].reverse) e.on j
    cases hi : (Region.ready .any ops listed)[t % (Region.ready .any ops listed).length]? with
    | none =>
      have hnil : Region.ready .any ops listed = [] := by
        cases hr : Region.ready .any ops listed with
        | nil => rfl
        | cons x xs =>
          rw [hr] at hi
          have hlt : t % (x :: xs).length < (x :: xs).length := Nat.mod_lt _ (by simp)
          simp at hi
          simp at hlt
          omega
      have h0 := hnone listed hsz hnil
      refine ⟨fun i => ⟨fun h => (by simp at h), fun h => ?_⟩, (by simp), fun j o hj hl e he hb => ?_⟩
      · have := h0 i h.1; rw [this] at h; cases h.2
      · have := h0 j (Array.getElem?_eq_some_iff.1 hj).1; rw [this] at hl; cases hl
    | some i =>
      have hm := List.mem_of_getElem? hi
      simp only [Region.ready, List.mem_filter, List.mem_range, Bool.and_eq_true, Bool.not_eq_true'] at hm
      obtain ⟨hil, hiu, hie⟩ := hm
      simp only []
      rw [linearise_go_acc, List.reverse_singleton, List.singleton_append]
      have hsz' : (listed.setIfInBounds i true).size = ops.size := by simpa using hsz
      have hget : ∀ k d, (listed.setIfInBounds i true).getD k d = if k = i then true else listed.getD k d := fun k d => getD_set _ _ _ _ (by omega)
      have hcnt : unl ops.size (listed.setIfInBounds i true) < unl ops.size listed := by
        refine countP_lt (fun k _ hk => ?_) i (List.mem_range.2 hil) (by rw [hiu]; rfl) (by rw [hget, if_pos rfl]; rfl)
        rw [hget] at hk
        by_cases e : k = i
        · rw [if_pos e] at hk; cases hk
        · rw [if_neg e] at hk; exact hk
      obtain ⟨h1, h2, h3⟩ := ih (t / (Region.ready .any ops listed).length) (listed.setIfInBounds i true) hsz' (by omega)
      generalize Region.linearise.go .any ops fuel (t / (Region.ready .any ops listed).length) (listed.setIfInBounds i true) [] = τ at *
      have hin : i ∉ τ := fun h => by
        have := ((h1 i).1 h).2
        rw [hget, if_pos rfl] at this; cases this
      refine ⟨fun k => ?_, List.nodup_cons.2 ⟨hin, h2⟩, fun j o hj hl e he hb => ?_⟩
      · rw [List.mem_cons, h1 k, hget]
        by_cases e : k = i
        · subst e; simp [hil, hiu]
        · rw [if_neg e]; simp [e]
      · unfold bef
        rw [idxOf_cons', idxOf_cons']
        by_cases ej : j = i
        · subst ej
          rw [hj] at hie
          simp only [Option.map_some, Option.getD_some] at hie
          have := Array.all_eq_true_iff_forall_mem.1 hie e he
          simp only [hb, Bool.not_true, Bool.false_or] at this
          exact .inl this
        · rw [if_neg ej]
          rcases h3 j o hj (by rw [hget, if_neg ej]; exact hl) e he hb with h | h
          · rw [hget] at h
            by_cases eo : e.on = i
            · exact .inr (by rw [if_pos eo]; omega)
            · rw [if_neg eo] at h; exact .inl h
          · right
            unfold bef at h
            split <;> omega

theorem lin_of {ops : Array Oper} (hback : ∀ (j : Nat) (o : Oper), ops[j]? = some o → ∀ e, e ∈ o.after → Region.binds .any e = true → e.on < j) (t : Nat) : Lin ops (Region.linearise .any ops t) := by
  have hrep : ∀ k, (Array.replicate ops.size false).getD k false = false := fun k => by
    simp only [Array.getD_eq_getD_getElem?, Array.getElem?_replicate]; split <;> rfl
  have hrep' : ∀ k, k < ops.size → (Array.replicate ops.size false).getD k true = false := fun k hk => by
    simp only [Array.getD_eq_getD_getElem?, Array.getElem?_replicate]; rw [if_pos hk]; rfl
  have h := go_facts hback ops.size t (Array.replicate ops.size false) (by simp) (by
    unfold unl
    have := List.countP_le_length (p := fun i => !(Array.replicate ops.size false).getD i true) (l := List.range ops.size)
    simpa using this)
  refine ⟨h.2.1, fun i => ?_, fun j o hj e he hb => ?_⟩
  · rw [show Region.linearise .any ops t = Region.linearise.go .any ops ops.size t (Array.replicate ops.size false) [] from rfl, h.1 i]
    exact ⟨fun h => h.1, fun h => ⟨h, hrep' i h⟩⟩
  · rcases h.2.2 j o hj (hrep' j (Array.getElem?_eq_some_iff.1 hj).1) e he hb with h1 | h1
    · rw [hrep] at h1; cases h1
    · exact h1

theorem wpAny_lin {P : Program} {ops : Array Oper} {Q : Exit → Act → World → Prop} {σ : List Nat} (hl : Lin ops σ) :
    ∀ (suf pre : List Nat) (fuel : Nat) (listed : Array Bool) (a : Act) (w : World), pre ++ suf = σ → listed.size = ops.size → (∀ k, k < ops.size → listed.getD k false = decide (k ∈ pre)) → suf.length ≤ fuel →
      wpAny P .any ops Q fuel listed a w → wpOps P ops Q suf a w := by
  intro suf
  induction suf with
  | nil =>
    intro pre fuel listed a w hp hsz hli hf h
    have hr : Region.ready .any ops listed = [] := by
      refine List.eq_nil_iff_forall_not_mem.2 fun i hi => ?_
      simp only [Region.ready, List.mem_filter, List.mem_range, Bool.and_eq_true, Bool.not_eq_true'] at hi
      have h1 := hli i hi.1
      have h2 : i ∈ pre := by rw [List.append_nil] at hp; rw [hp]; exact (hl.all i).2 hi.1
      have h3 : listed.getD i true = true := by
        have : i < listed.size := by have := hi.1; omega
        simp only [decide_eq_true h2] at h1
        simpa [Array.getD_eq_getD_getElem?, this] using h1
      rw [h3] at hi
      cases hi.2.1
    cases fuel with
    | zero => exact h.2
    | succ f => exact h.1 hr
  | cons i suf ih =>
    intro pre fuel listed a w hp hsz hli hf h
    have hnd := hl.nd
    rw [← hp] at hnd
    have hil : i < ops.size := (hl.all i).1 (by rw [← hp]; simp)
    have hip : i ∉ pre := fun hh => (List.nodup_append.1 hnd).2.2 i hh i List.mem_cons_self rfl
    have hidx : σ.idxOf i = pre.length := by
      rw [← hp, List.idxOf_append, if_neg hip]; simp
    have hrd : i ∈ Region.ready .any ops listed := by
      simp only [Region.ready, List.mem_filter, List.mem_range, Bool.and_eq_true, Bool.not_eq_true']
      refine ⟨hil, ?_, ?_⟩
      · have h1 := hli i hil
        rw [decide_eq_false hip] at h1
        have : i < listed.size := by omega
        simpa [Array.getD_eq_getD_getElem?, this] using h1
      · rw [Array.getElem?_eq_getElem hil]
        simp only [Option.map_some, Option.getD_some]
        refine Array.all_eq_true_iff_forall_mem.2 fun e he => ?_
        cases hb : Region.binds .any e with
        | false => rfl
        | true =>
          have h1 := hl.ord i _ (Array.getElem?_eq_getElem hil) e he hb
          unfold bef at h1
          rw [hidx] at h1
          have hmem : e.on ∈ pre := by
            rw [← hp, List.idxOf_append] at h1
            by_cases hm : e.on ∈ pre
            · exact hm
            · rw [if_neg hm] at h1; omega
          have hlt : e.on < ops.size := (hl.all _).1 (by rw [← hp]; exact List.mem_append_left _ hmem)
          simp only [Bool.not_true, Bool.false_or]
          rw [hli _ hlt, decide_eq_true hmem]
    cases fuel with
    | zero => simp at hf
    | succ f =>
      rw [wpOps_cons]
      refine wpOp_mono (fun a w => ih (pre ++ [i]) f (listed.setIfInBounds i true) a w (by simpa using hp) (by simpa using hsz) (fun k hk => ?_) (by simpa using hf)) (h.2 i hrd)
      rw [getD_set _ _ _ _ (by omega), hli k hk]
      by_cases e : k = i
      · subst e; simp
      · rw [if_neg e]; simp [e]

/-- The operations in another order, some of them bound to come behind others. -/
def reAft (π : List Nat) (ext : List (Nat × Nat)) (i : Nat) (af : Array Edge) : Array Edge := ((af.toList.map fun e : Edge => (⟨π.idxOf e.on, e.ground⟩ : Edge)) ++ ((ext.filter fun p => p.2 == i).map fun p => (⟨π.idxOf p.1, .data⟩ : Edge))).toArray
def reOp (π : List Nat) (ext : List (Nat × Nat)) (i : Nat) (o : Oper) : Oper :=
  ⟨o.dst, o.op, o.type, o.pos, reAft π ext i o.after, o.guard.map fun g => (π.idxOf g.1, g.2)⟩
def permL (ops : List Oper) (π : List Nat) (ext : List (Nat × Nat)) : List Oper := π.map fun i => reOp π ext i (ops[i]?.getD default)
def permOk (n : Nat) (π : List Nat) : Bool := decide (π.length = n) && π.all (fun i => decide (i < n)) && (List.range n).all (fun i => π.contains i) && decide π.Nodup

section
variable {ops : List Oper} {π : List Nat} {ext : List (Nat × Nat)}
theorem permOk_facts {n : Nat} (h : permOk n π = true) : π.length = n ∧ (∀ i, i ∈ π ↔ i < n) ∧ π.Nodup := by
  simp only [permOk, Bool.and_eq_true, decide_eq_true_eq, List.all_eq_true, List.mem_range, List.contains_iff_mem] at h
  obtain ⟨⟨⟨h1, h2⟩, h3⟩, h4⟩ := h
  exact ⟨h1, fun i => ⟨h2 i, h3 i⟩, h4⟩
theorem permL_get {n : Nat} (hn : ops.length = n) (h : permOk n π = true) {i : Nat} {o : Oper} (ho : ops[i]? = some o) : (permL ops π ext)[π.idxOf i]? = some (reOp π ext i o) := by
  obtain ⟨h1, h2, h3⟩ := permOk_facts h
  have hi : i < n := by rw [← hn]; exact (List.getElem?_eq_some_iff.1 ho).1
  have hm := (h2 i).2 hi
  unfold permL
  rw [List.getElem?_map, get_idxOf hm]
  simp [ho]
theorem idx_inj {n : Nat} (h : permOk n π = true) {i j : Nat} (hi : i < n) (he : π.idxOf i = π.idxOf j) : i = j := by
  obtain ⟨h1, h2, h3⟩ := permOk_facts h
  have hm := (h2 i).2 hi
  have e1 := get_idxOf hm
  have hj : j ∈ π := by
    refine List.idxOf_lt_length_iff.1 ?_
    rw [← he]; exact List.idxOf_lt_length_iff.2 hm
  have e2 := get_idxOf hj
  rw [← he, e1] at e2
  injection e2
theorem idxOf_map {n : Nat} (h : permOk n π = true) : ∀ (σ : List Nat), (∀ k, k ∈ σ → k < n) → ∀ {i : Nat}, i < n → (σ.map fun k => π.idxOf k).idxOf (π.idxOf i) = σ.idxOf i
  | [], _, i, _ => rfl
  | k :: σ, hs, i, hi => by
    rw [List.map_cons, idxOf_cons', idxOf_cons', idxOf_map h σ (fun k hk => hs k (List.mem_cons_of_mem _ hk)) hi]
    by_cases e : i = k
    · subst e; simp
    · rw [if_neg e, if_neg fun he => e (idx_inj h hi he)]

theorem Lin.perm {σ : List Nat} (hl : Lin ops.toArray σ) (h : permOk ops.length π = true) (he : ∀ p, p ∈ ext → bef σ p.1 p.2 ∧ p.1 < ops.length) (hb : ∀ (j : Nat) (o : Oper), ops.toArray[j]? = some o → ∀ e, e ∈ o.after → Region.binds .any e = true → e.on < j) :
    Lin (permL ops π ext).toArray (σ.map fun k => π.idxOf k) := by
  obtain ⟨h1, h2, h3⟩ := permOk_facts h
  have hlt : ∀ k, k ∈ σ → k < ops.length := fun k hk => by simpa using (hl.all k).1 hk
  have hsz : (permL ops π ext).toArray.size = ops.length := by simp [permL, h1]
  have hmapnd : ∀ τ : List Nat, (∀ k, k ∈ τ → k < ops.length) → τ.Nodup → (τ.map fun k => π.idxOf k).Nodup := by
    intro τ
    induction τ with
    | nil => intro _ _; simp
    | cons k τ ih =>
      intro hk hnd
      obtain ⟨hk1, hk2⟩ := List.nodup_cons.1 hnd
      rw [List.map_cons]
      refine List.nodup_cons.2 ⟨fun hm => ?_, ih (fun k hk' => hk k (List.mem_cons_of_mem _ hk')) hk2⟩
      obtain ⟨k', hk', e⟩ := List.mem_map.1 hm
      have := idx_inj h (hk k' (List.mem_cons_of_mem _ hk')) e
      subst this; exact hk1 hk'
  refine ⟨hmapnd σ hlt hl.nd, fun i => ?_, fun j o hj e hee hbe => ?_⟩
  · rw [hsz, List.mem_map]
    constructor
    · rintro ⟨k, hk, rfl⟩
      rw [← h1]; exact List.idxOf_lt_length_iff.2 ((h2 k).2 (hlt k hk))
    · intro hi
      have hi' : i < π.length := by omega
      refine ⟨π[i], (hl.all _).2 (by simpa using (h2 _).1 (List.getElem_mem hi')), h3.idxOf_getElem i hi'⟩
  · have hj' : (permL ops π ext)[j]? = some o := by simpa using hj
    unfold permL at hj'
    rw [List.getElem?_map, Option.map_eq_some_iff] at hj'
    obtain ⟨i, hi, rfl⟩ := hj'
    have hil : i < ops.length := (h2 i).1 (List.mem_of_getElem? hi)
    have hji : π.idxOf i = j := by
      obtain ⟨hjl, e⟩ := List.getElem?_eq_some_iff.1 hi
      rw [← e]; exact h3.idxOf_getElem j hjl
    have ho : ops[i]? = some (ops[i]'hil) := List.getElem?_eq_getElem hil
    rw [ho] at hee
    simp only [Option.getD_some, reOp, reAft, List.mem_toArray, List.mem_append, List.mem_map, List.mem_filter] at hee
    unfold bef
    rw [← hji, idxOf_map h σ hlt hil]
    rcases hee with ⟨e0, he0, rfl⟩ | ⟨p, ⟨hp, hpi⟩, rfl⟩
    · have hb0 : Region.binds .any e0 = true := by simpa [Region.binds] using hbe
      have hlt0 := hb i _ (by rw [List.getElem?_toArray]; exact ho) e0 (by simpa using he0) hb0
      simp only
      rw [idxOf_map h σ hlt (by omega)]
      exact hl.ord i _ (by rw [List.getElem?_toArray]; exact ho) e0 (by simpa using he0) hb0
    · have hpe : p.2 = i := by simpa using hpi
      simp only
      rw [idxOf_map h σ hlt (he p hp).2, ← hpe]
      exact (he p hp).1

theorem wpOp_perm {P : Program} {Q : Exit → Act → World → Prop} (h : permOk ops.length π = true) {i : Nat} (hi : i < ops.length) {K : Act → World → Prop} {a : Act} {w : World}
    (hw : wpOp P (permL ops π ext).toArray Q (π.idxOf i) K a w) : wpOp P ops.toArray Q i K a w := by
  obtain ⟨h1, h2, h3⟩ := permOk_facts h
  have ho : ops[i]? = some (ops[i]'hi) := List.getElem?_eq_getElem hi
  generalize ops[i]'hi = o at ho
  have hy : ∀ g, yielded (permL ops π ext).toArray a.tmps (π.idxOf g) = yielded ops.toArray a.tmps g := by
    intro g
    unfold yielded
    rcases Nat.lt_or_ge g ops.length with hg | hg
    · have hg' : ops[g]? = some (ops[g]'hg) := List.getElem?_eq_getElem hg
      simp only [List.getElem?_toArray, permL_get rfl h hg', hg', reOp, Option.bind_some]
    · have e1 : ops[g]? = none := List.getElem?_eq_none hg
      have e2 : (permL ops π ext)[π.idxOf g]? = none := List.getElem?_eq_none (by
        have : g ∉ π := fun hm => by have := (h2 g).1 hm; omega
        rw [List.idxOf_eq_length this]; simp [permL])
      simp only [List.getElem?_toArray, e1, e2]
  have hwant : Region.wanted (reOp π ext i o) (yielded (permL ops π ext).toArray a.tmps) = Region.wanted o (yielded ops.toArray a.tmps) := by
    simp only [Region.wanted, reOp]
    cases o.guard with
    | none => rfl
    | some g => simp only [Option.map_some, hy]
  unfold wpOp at hw ⊢
  simp only [List.getElem?_toArray, permL_get rfl h ho, hwant] at hw
  simp only [List.getElem?_toArray, ho]
  exact hw

theorem wpOps_perm {P : Program} {Q : Exit → Act → World → Prop} (h : permOk ops.length π = true) : ∀ (σ : List Nat), (∀ k, k ∈ σ → k < ops.length) → ∀ (a : Act) (w : World), wpOps P (permL ops π ext).toArray Q (σ.map fun k => π.idxOf k) a w → wpOps P ops.toArray Q σ a w
  | [], _, a, w, hw => hw
  | i :: σ, hs, a, w, hw => by
    rw [List.map_cons, wpOps_cons] at hw
    rw [wpOps_cons]
    exact wpOp_perm h (hs i List.mem_cons_self) (wpOp_mono (fun a w => wpOps_perm h σ (fun k hk => hs k (List.mem_cons_of_mem _ hk)) a w) hw)
end

section
variable {P : Program} {nt : Nat} {tm : Tm} {mem : AMem}
/-- All orders in which, of some pairs, the one comes ahead of the other. -/
def DX (P : Program) (nt : Nat) (ops : List Oper) (ext : List (Nat × Nat)) (tm : Tm) (mem : AMem) (K : Tm → AMem → Prop) : Prop :=
  ∀ ρ a w, Rep ρ nt tm mem a w → ∀ QQ : Exit → Act → World → Prop, (∀ ρ' tm' mem' a' w', Rep ρ' nt tm' mem' a' w' → Step mem ρ w mem' ρ' w' → a'.defers = a.defers → K tm' mem' → QQ .normal a' w') →
    ∀ σ, Lin ops.toArray σ → (∀ p, p ∈ ext → bef σ p.1 p.2) → wpOps P ops.toArray QQ σ a w

theorem AW.drawX {id : Nat} {l : List Oper} {Q : Exit → Tm → AMem → Prop} (hf : P.follows .mixedOrders = true) (hb : backB l = true) (h : DX P nt l [] tm mem (Q .normal)) : AW P nt (.region id l.toArray true) tm mem Q := by
  intro ρ a w hr
  refine wp_region_draw fun t => ?_
  simp only [Region.schedule, hf, Bool.true_or, if_true]
  exact h ρ a _ hr.drew _ (fun ρ' tm' mem' a' w' r s d k => ⟨ρ', tm', mem', r, ⟨s.os, s.tape, s.output, s.size, s.len, s.ext, s.kind, s.ro, s.frame, s.fresh⟩, d, k⟩) _ (lin_of (backB_ok hb) t) (fun p hp => by cases hp)

theorem DX.split {l : List Oper} {ext : List (Nat × Nat)} {K : Tm → AMem → Prop} (i j : Nat) (hn : i ≠ j ∧ i < l.length ∧ j < l.length) (h1 : DX P nt l ((i, j) :: ext) tm mem K) (h2 : DX P nt l ((j, i) :: ext) tm mem K) : DX P nt l ext tm mem K := by
  intro ρ a w hr QQ hQ σ hl he
  obtain ⟨hne, hi, hj⟩ := hn
  have hmi : i ∈ σ := (hl.all i).2 (by simpa using hi)
  have hmj : j ∈ σ := (hl.all j).2 (by simpa using hj)
  have hneq : σ.idxOf i ≠ σ.idxOf j := fun e => by
    have e1 := get_idxOf hmi
    have e2 := get_idxOf hmj
    rw [e, e2] at e1
    injection e1 with e1
    exact hne e1.symm
  rcases Nat.lt_or_ge (σ.idxOf i) (σ.idxOf j) with h | h
  · exact h1 ρ a w hr QQ hQ σ hl fun p hp => by
      rcases List.mem_cons.1 hp with rfl | hp
      · exact h
      · exact he p hp
  · exact h2 ρ a w hr QQ hQ σ hl fun p hp => by
      rcases List.mem_cons.1 hp with rfl | hp
      · unfold bef; simp only; omega
      · exact he p hp

def dxOk (nt : Nat) (l : List Oper) (π : List Nat) (ext : List (Nat × Nat)) (l' : List Oper) (pl : List Plan) : Bool :=
  permOk l.length π && backB l && ext.all (fun p => decide (p.1 < l.length)) && decide (pl.length = l'.length) && planOk nt (l'.zip pl)

theorem DX.run {l l' : List Oper} {ext : List (Nat × Nat)} {K : Tm → AMem → Prop} (π : List Nat) (pl : List Plan) (hl' : permL l π ext = l') (hok : dxOk nt l π ext l' pl = true)
    (h : AOpsD P l'.toArray (l'.zip pl) tm mem [mem] [] K) : DX P nt l ext tm mem K := by
  intro ρ a w hr QQ hQ σ hl he
  subst hl'
  simp only [dxOk, Bool.and_eq_true, List.all_eq_true, decide_eq_true_eq] at hok
  obtain ⟨⟨⟨⟨h1, h2⟩, h3⟩, h4⟩, h5⟩ := hok
  have hlt : ∀ k, k ∈ σ → k < l.length := fun k hk => by simpa using (hl.all k).1 hk
  refine wpOps_perm (ext := ext) h1 σ hlt a w ?_
  have hlin := hl.perm h1 (fun p hp => ⟨he p hp, h3 p hp⟩) (backB_ok h2)
  have he' : (permL l π ext).toArray = opsOf ((permL l π ext).zip pl) := by
    unfold opsOf
    rw [show (fun x : Oper × Plan => x.1) = Prod.fst from rfl, List.map_fst_zip (by omega)]
  have hs := aopsD_sound (P := P) h5 (by rw [he'] at h; exact h) hr (Q := QQ) hQ
  rw [← he'] at hs
  refine wpAny_lin hlin (σ.map fun k => π.idxOf k) [] _ _ a w rfl (by simp) (fun k hk => ?_) ?_ hs
  · simp only [Array.getD_eq_getD_getElem?, Array.getElem?_replicate]
    rw [if_pos hk]; rfl
  · have hperm : ∀ (n : Nat) (τ : List Nat), τ.Nodup → (∀ k, k ∈ τ → k < n) → τ.length ≤ n := by
      intro n
      induction n with
      | zero => intro τ _ hk; cases τ with
        | nil => simp
        | cons x τ => exact absurd (hk x List.mem_cons_self) (by omega)
      | succ n ih =>
        intro τ hnd hk
        have h6 : (τ.erase n).length ≤ n := ih _ (hnd.erase n) fun k hk' => by
          have hkm := List.mem_of_mem_erase hk'
          have := hk k hkm
          have : k ≠ n := fun e => by subst e; exact (List.Nodup.not_mem_erase hnd) hk'
          omega
        have := List.length_erase (a := n) (l := τ)
        split at this <;> omega
    exact hperm _ _ hlin.nd fun k hk => (hlin.all k).1 hk
end
end Go.Eng

/-
  ENGINE, PART R: a scope in which the run jumps back to one label.
-/
set_option linter.unusedVariables false
set_option linter.unusedSimpArgs false
namespace Go.Eng
open Go

theorem least {p : Nat → Prop} : ∀ n, p n → ∃ k, p k ∧ ∀ m, m < k → ¬ p m := by
  intro n
  induction n using Nat.strongRecOn with
  | _ n ih =>
    intro hn
    by_cases h : ∃ m, m < n ∧ p m
    · obtain ⟨m, hm, hp⟩ := h; exact ih m hm hp
    · exact ⟨n, hn, fun m hm hp => h ⟨m, hm, hp⟩⟩

def Jmp (l : Nat) (J : Tm → AMem → Prop) (Q : Exit → Tm → AMem → Prop) : Exit → Tm → AMem → Prop
  | .goto l', tm, mem => l' = l ∧ J tm mem
  | e, tm, mem => Q e tm mem

section
variable {P : Program} {nt : Nat} {tm : Tm} {mem : AMem} {Q : Exit → Tm → AMem → Prop}
theorem AW.label {l : Nat} (h : Q .normal tm mem) : AW P nt (.label l) tm mem Q := fun ρ a w hr => by
  have h1 := AW.skip (P := P) (nt := nt) (tm := tm) (mem := mem) (Q := Q) h ρ a w hr
  intro b k cs
  obtain ⟨e, a', w', q, r⟩ := h1 b k cs
  exact ⟨.normal, a, w, ⟨ρ, tm, mem, hr, Step.refl _ _ _, rfl, h⟩, .one step_label⟩
theorem AW.goto {l : Nat} (h : Q (.goto l) tm mem) : AW P nt (.goto l) tm mem Q := fun ρ a w hr b k cs =>
  ⟨.goto l, a, w, ⟨ρ, tm, mem, hr, Step.refl _ _ _, rfl, h⟩, fun k' hk => .one (step_goto hk)⟩

theorem AW.scope {ι : Type} {c rest : Code} (l : Nat) (hf : findLabel c l = some rest) (T : ι → Tm) (M : ι → AMem) (μ : ι → Nat)
    (pass : ∀ i, AW P nt rest (T i) (M i) (Jmp l (fun tm' mem' => ∃ j, μ j < μ i ∧ Weak nt tm' mem' (T j) (M j) ∧ (M i).length ≤ (M j).length) Q))
    (first : AW P nt c tm mem (Jmp l (fun tm' mem' => ∃ j, Weak nt tm' mem' (T j) (M j) ∧ mem.length ≤ (M j).length) Q)) : AW P nt (.scope c) tm mem Q := by
  intro ρ a w hr
  let JJ : Nat → Act → World → Prop := fun n a' w' => ∃ i ρ', μ i = n ∧ Rep ρ' nt (T i) (M i) a' w' ∧ Step mem ρ w (M i) ρ' w' ∧ a'.defers = a.defers ∧ mem.length ≤ (M i).length
  let J : Act → World → Prop := fun a' w' => ∃ n, JJ n a' w'
  have hle : ∀ a' w', ∃ n, J a' w' → JJ n a' w' ∧ ∀ m, m < n → ¬ JJ m a' w' := fun a' w' => by
    by_cases h : J a' w'
    · obtain ⟨n, hn⟩ := h
      obtain ⟨k, h1, h2⟩ := least (p := fun n => JJ n a' w') n hn
      exact ⟨k, fun _ => ⟨h1, h2⟩⟩
    · exact ⟨0, fun h' => absurd h' h⟩
  let μ' : Act → World → Nat := fun a' w' => Classical.choose (hle a' w')
  have hμ : ∀ a' w', J a' w' → JJ (μ' a' w') a' w' ∧ ∀ m, JJ m a' w' → μ' a' w' ≤ m := fun a' w' h => by
    have := Classical.choose_spec (hle a' w') h
    exact ⟨this.1, fun m hm => Nat.le_of_not_lt fun hlt => this.2 m hlt hm⟩
  refine wp_scope_jumps l J μ' hf (wp_mono (first ρ a w hr) ?_) ?_
  · rintro e a' w' ⟨ρ', tm', mem', hr', hs, hd, hq⟩
    cases e with
    | goto l' =>
      obtain ⟨rfl, j, hw, hl⟩ := hq
      obtain ⟨ρ2, hr2, hs2⟩ := hw ρ' a' w' hr'
      exact ⟨rfl, μ j, j, ρ2, rfl, hr2, hs2 _ _ _ hl hs, hd, hl⟩
    | _ => exact ⟨ρ', tm', mem', hr', hs, hd, hq⟩
  · intro a1 w1 hJ
    obtain ⟨⟨i, ρ1, hi, hr1, hs1, hd1, hl1⟩, hmin⟩ := hμ a1 w1 hJ
    refine wp_mono (pass i ρ1 a1 w1 hr1) ?_
    rintro e a' w' ⟨ρ', tm', mem', hr', hs, hd, hq⟩
    cases e with
    | goto l' =>
      obtain ⟨rfl, j, hlt, hw, hl⟩ := hq
      obtain ⟨ρ2, hr2, hs2⟩ := hw ρ' a' w' hr'
      have hl' : mem.length ≤ (M j).length := Nat.le_trans hl1 hl
      have hJJ : JJ (μ j) a' w' := ⟨j, ρ2, rfl, hr2, hs2 _ _ _ hl' (hs1.trans hs), hd.trans hd1, hl'⟩
      have hJ' : J a' w' := ⟨_, hJJ⟩
      refine ⟨rfl, hJ', ?_⟩
      have := (hμ a' w' hJ').2 _ hJJ
      omega
    | _ => exact ⟨ρ', tm', mem', hr', hs1.trans hs, hd.trans hd1, hq⟩

/-- The fall into the label: what holds of every pass holds of this one. -/
theorem AW.fall {ι : Type} {c : Code} {l : Nat} {T : ι → Tm} {M : ι → AMem} {μ : ι → Nat} {L : Nat} (i : ι) (hw : Weak nt tm mem (T i) (M i)) (hlen : mem.length ≤ (M i).length) (hL : L ≤ (M i).length)
    (h : AW P nt c (T i) (M i) (Jmp l (fun tm' mem' => ∃ j, μ j < μ i ∧ Weak nt tm' mem' (T j) (M j) ∧ (M i).length ≤ (M j).length) Q)) :
    AW P nt c tm mem (Jmp l (fun tm' mem' => ∃ j, Weak nt tm' mem' (T j) (M j) ∧ L ≤ (M j).length) Q) := by
  intro ρ a w hr
  obtain ⟨ρ', hr', hs⟩ := hw ρ a w hr
  refine wp_mono (h ρ' a w hr') ?_
  rintro e a' w' ⟨ρ2, tm2, mem2, hr2, hs2, hd, hq⟩
  refine ⟨ρ2, tm2, mem2, hr2, (hs mem ρ w hlen (Step.refl _ _ _)).trans hs2, hd, ?_⟩
  cases e with
  | goto l' => obtain ⟨rfl, j, _, hw2, hl2⟩ := hq; exact ⟨rfl, j, hw2, Nat.le_trans hL hl2⟩
  | _ => exact hq

theorem AW.scopeI {ι : Type} {c R : Code} (l : Nat) (hf : findLabel c l = some (.seq .skip R)) (I : ι → Prop) (T : ι → Tm) (M : ι → AMem) (μ : ι → Nat)
    (pass : ∀ i, I i → AW P nt R (T i) (M i) (Jmp l (fun tm' mem' => ∃ j, I j ∧ μ j < μ i ∧ Weak nt tm' mem' (T j) (M j) ∧ (M i).length ≤ (M j).length) Q))
    (first : (∀ i, I i → AW P nt R (T i) (M i) (Jmp l (fun tm' mem' => ∃ j, I j ∧ μ j < μ i ∧ Weak nt tm' mem' (T j) (M j) ∧ (M i).length ≤ (M j).length) Q)) →
      ∀ J : Tm → AMem → Prop, (∀ j tm' mem', I j → Weak nt tm' mem' (T j) (M j) → mem.length ≤ (M j).length → J tm' mem') → AW P nt c tm mem (Jmp l J Q)) : AW P nt (.scope c) tm mem Q := by
  refine AW.scope (ι := { i // I i }) l hf (fun i => T i.1) (fun i => M i.1) (fun i => μ i.1) (fun i => ?_) ?_
  · refine AW.seq (AW.skip ?_)
    refine (pass i.1 i.2).mono fun e tm' mem' hq => ?_
    cases e with
    | goto l' => obtain ⟨rfl, j, hj, h1, h2, h3⟩ := hq; exact ⟨rfl, ⟨j, hj⟩, h1, h2, h3⟩
    | _ => exact hq
  · refine (first pass (fun tm' mem' => ∃ j, I j ∧ Weak nt tm' mem' (T j) (M j) ∧ mem.length ≤ (M j).length) fun j _ _ h1 h2 h3 => ⟨j, h1, h2, h3⟩).mono fun e tm' mem' hq => ?_
    cases e with
    | goto l' => obtain ⟨rfl, j, hj, h2, h3⟩ := hq; exact ⟨rfl, ⟨j, hj⟩, h2, h3⟩
    | _ => exact hq
theorem AW.fallI {ι : Type} {R : Code} {l : Nat} {I : ι → Prop} {T : ι → Tm} {M : ι → AMem} {μ : ι → Nat} {L : Nat} {J : Tm → AMem → Prop}
    (pass : ∀ i, I i → AW P nt R (T i) (M i) (Jmp l (fun tm' mem' => ∃ j, I j ∧ μ j < μ i ∧ Weak nt tm' mem' (T j) (M j) ∧ (M i).length ≤ (M j).length) Q))
    (hJ : ∀ j tm' mem', I j → Weak nt tm' mem' (T j) (M j) → L ≤ (M j).length → J tm' mem')
    (i : ι) (hi : I i) (hlen : mem.length ≤ (M i).length) (hL : L ≤ (M i).length) (hw : Weak nt tm mem (T i) (M i)) :
    AW P nt (.seq (.label l) R) tm mem (Jmp l J Q) := by
  refine AW.seq (AW.label ?_)
  intro ρ a w hr
  obtain ⟨ρ', hr', hs⟩ := hw ρ a w hr
  refine wp_mono (pass i hi ρ' a w hr') ?_
  rintro e a' w' ⟨ρ2, tm2, mem2, hr2, hs2, hd, hq⟩
  refine ⟨ρ2, tm2, mem2, hr2, (hs mem ρ w hlen (Step.refl _ _ _)).trans hs2, hd, ?_⟩
  cases e with
  | goto l' => obtain ⟨rfl, j, hj, _, hw2, hl2⟩ := hq; exact ⟨rfl, hJ j _ _ hj hw2 (Nat.le_trans hL hl2)⟩
  | _ => exact hq
theorem Jmp_n {l : Nat} {J : Tm → AMem → Prop} {tm' : Tm} {m' : AMem} (h : Q .normal tm' m') : Jmp l J Q .normal tm' m' := h
theorem Jmp_r {l : Nat} {J : Tm → AMem → Prop} {tm' : Tm} {m' : AMem} (h : Q .ret tm' m') : Jmp l J Q .ret tm' m' := h
theorem Jmp_e {l id : Nat} {J : Tm → AMem → Prop} {tm' : Tm} {m' : AMem} (h : Q (.exit id) tm' m') : Jmp l J Q (.exit id) tm' m' := h
theorem Jmp_g {l : Nat} {J : Tm → AMem → Prop} {tm' : Tm} {m' : AMem} (h : J tm' m') : Jmp l J Q (.goto l) tm' m' := ⟨rfl, h⟩
theorem Thn_g {K : Tm → AMem → Prop} {tm' : Tm} {m' : AMem} {l : Nat} (h : Q (.goto l) tm' m') : Thn K Q (.goto l) tm' m' := h
theorem InB_g {id : Nat} {tm' : Tm} {m' : AMem} {l : Nat} (h : Q (.goto l) tm' m') : InB id Q (.goto l) tm' m' := h
end
end Go.Eng

/-
  ENGINE, PART S: the machine of part O, with scopes in which the run jumps back to a label.
-/
set_option linter.unusedVariables false
set_option linter.unusedSimpArgs false
namespace Go.Eng
open Go

def rJump (run : Code → Tm → AMem → Option (Exit × Tm × AMem)) (l : Nat) (rest : Code) : Nat → Tm → AMem → Option (Exit × Tm × AMem)
  | 0, _, _ => none
  | n + 1, tm, mem => match run rest tm mem with
    | some (.goto l', tm', mem') => if l' = l ∧ mem.length ≤ mem'.length then rJump run l rest n tm' mem' else none
    | r => r

section
variable (P : Program) (call : Caller) (pls : Nat → List Plan) (nt L : Nat) (jump : Code → Tm → AMem → Option (Exit × Tm × AMem))
def rCodeS : Code → Tm → AMem → Option (Exit × Tm × AMem)
  | .skip, tm, mem => some (.normal, tm, mem)
  | .ret, tm, mem => some (.ret, tm, mem)
  | .exit id, tm, mem => some (.exit id, tm, mem)
  | .seq x y, tm, mem => match rCodeS x tm mem with
    | some (.normal, tm', mem') => rCodeS y tm' mem'
    | r => r
  | .block id c, tm, mem => match rCodeS c tm mem with
    | some (.exit id', tm', mem') => if id' = id then some (.normal, tm', mem') else some (.exit id', tm', mem')
    | r => r
  | .cond c x y, tm, mem => match opd tm c with
    | .one (.bool true) => rCodeS x tm mem
    | .one (.bool false) => rCodeS y tm mem
    | _ => none
  | .loop c, tm, mem => rLoop (rCodeS c) L tm mem
  | .region id ops false, tm, mem => if ops.toList.all (dstOk nt) = true then (rOps P call ops ops.toList tm mem).map fun x => (.normal, x.1, x.2) else none
  | .region id ops true, tm, mem => if (pls id).length = ops.toList.length ∧ planOk nt (ops.toList.zip (pls id)) = true then
      (rOpsD P call ops (ops.toList.zip (pls id)) tm mem [mem] []).map fun x => (.normal, x.1, x.2) else none
  | .label l, tm, mem => some (.normal, tm, mem)
  | .goto l, tm, mem => some (.goto l, tm, mem)
  | .scope c, tm, mem => match rCodeS c tm mem with
    | some (.goto l, tm', mem') => match findLabel c l with
      | some rest => if mem.length ≤ mem'.length then rJump jump l rest L tm' mem' else none
      | none => none
    | r => r
  | _, _, _ => none
end

def rFuncS (P : Program) (pls : Nat → Nat → List Plan) (L : Nat) : Nat → Caller
  | 0, _, _, _ => none
  | n + 1, g, args, mem => match P.funcs[g]? with
    | some fn => match fn.body with
      | some c => if (fn.name == "runtime.NumGoroutine") = false then
          match rCodeS P (rFuncS P pls L n) (pls g) fn.ntmps L (rCodeS P (rFuncS P pls L n) (pls g) fn.ntmps L (fun _ _ _ => none)) c (enterTm 0 args) mem with
          | some (.normal, tm, m) => (resA P fn.results.toList tm m).map fun x => (x, m)
          | some (.ret, tm, m) => (resA P fn.results.toList tm m).map fun x => (x, m)
          | _ => none
        else none
      | none => none
    | none => none


/-- So many passes more from the label. -/
def Rn (P : Program) (nt l : Nat) (rest : Code) (Q : Exit → Tm → AMem → Prop) : Nat → Tm → AMem → Prop
  | 0, _, _ => False
  | n + 1, tm, mem => AW P nt rest tm mem (Jmp l (fun tm' mem' => mem.length ≤ mem'.length ∧ Rn P nt l rest Q n tm' mem') Q)
def JumpOk (P : Program) (nt : Nat) (jump : Code → Tm → AMem → Option (Exit × Tm × AMem)) : Prop :=
  ∀ c tm mem ex tm' mem' (Q : Exit → Tm → AMem → Prop), jump c tm mem = some (ex, tm', mem') → Q ex tm' mem' → AW P nt c tm mem Q
section
variable {P : Program} {call : Caller} {pls : Nat → List Plan} {nt L : Nat}
theorem rJump_ok {jump : Code → Tm → AMem → Option (Exit × Tm × AMem)} (hj : JumpOk P nt jump) {l : Nat} {rest : Code} : ∀ (n : Nat) (tm : Tm) (mem : AMem) (ex : Exit) (tm' : Tm) (mem' : AMem) (Q : Exit → Tm → AMem → Prop),
    rJump jump l rest n tm mem = some (ex, tm', mem') → Q ex tm' mem' → Rn P nt l rest Q n tm mem
  | 0, _, _, _, _, _, _, h, _ => by cases h
  | n + 1, tm, mem, ex, tm', mem', Q, h, hq => by
    simp only [rJump] at h
    rw [Rn]
    split at h
    · rename_i l' tm1 mem1 h1
      split at h
      · rename_i hle
        obtain ⟨rfl, hle⟩ := hle
        exact hj _ _ _ _ _ _ _ h1 ⟨rfl, hle, rJump_ok hj n _ _ _ _ _ Q h hq⟩
      · cases h
    · rename_i r hne
      refine hj _ _ _ _ _ _ _ h ?_
      cases ex with
      | goto l' => exact absurd h (hne _ _ _)
      | _ => exact hq
theorem Weak.rfl0 {tm : Tm} {mem : AMem} : Weak nt tm mem tm mem := fun ρ a w hr => ⟨ρ, hr, fun _ _ _ _ h => h⟩
theorem AW.scopeNo {c : Code} {tm : Tm} {mem : AMem} {Q : Exit → Tm → AMem → Prop} (h : AW P nt c tm mem (fun e tm' mem' => (∀ l, e ≠ .goto l) ∧ Q e tm' mem')) : AW P nt (.scope c) tm mem Q := by
  intro ρ a w hr
  refine wp_scope_straight (wp_mono (h ρ a w hr) ?_)
  rintro e a' w' ⟨ρ', tm', mem', hr', hs, hd, hne, hq⟩
  cases e with
  | goto l' => exact absurd rfl (hne l')
  | _ => exact ⟨ρ', tm', mem', hr', hs, hd, hq⟩
theorem AW.scopeRun {c rest : Code} {tm : Tm} {mem : AMem} {Q : Exit → Tm → AMem → Prop} (l : Nat) (hf : findLabel c l = some rest) (n : Nat)
    (h : AW P nt c tm mem (Jmp l (fun tm' mem' => mem.length ≤ mem'.length ∧ Rn P nt l rest Q n tm' mem') Q)) : AW P nt (.scope c) tm mem Q := by
  refine AW.scope (ι := { x : Nat × Tm × AMem // Rn P nt l rest Q x.1 x.2.1 x.2.2 }) l hf (fun x => x.1.2.1) (fun x => x.1.2.2) (fun x => x.1.1) (fun x => ?_) ?_
  · obtain ⟨⟨n, tm1, mem1⟩, hx⟩ := x
    cases n with
    | zero => exact hx.elim
    | succ n =>
      refine AW.mono hx fun e tm' mem' hq => ?_
      cases e with
      | goto l' => obtain ⟨rfl, hle, hr⟩ := hq; exact ⟨rfl, ⟨(n, tm', mem'), hr⟩, Nat.lt_succ_self n, Weak.rfl0, hle⟩
      | _ => exact hq
  · refine h.mono fun e tm' mem' hq => ?_
    cases e with
    | goto l' => obtain ⟨rfl, hle, hr⟩ := hq; exact ⟨rfl, ⟨(n, tm', mem'), hr⟩, Weak.rfl0, hle⟩
    | _ => exact hq
theorem rCodeS_ok (hc : CallOk P call) {jump : Code → Tm → AMem → Option (Exit × Tm × AMem)} (hj : JumpOk P nt jump) (hfol : P.follows .mixedOrders = true) : ∀ (c : Code) (tm : Tm) (mem : AMem) (ex : Exit) (tm' : Tm) (mem' : AMem) (Q : Exit → Tm → AMem → Prop),
    rCodeS P call pls nt L jump c tm mem = some (ex, tm', mem') → Q ex tm' mem' → AW P nt c tm mem Q := by
  intro c
  induction c with
  | skip => intro tm mem ex tm' mem' Q h hq; simp only [rCodeS, Option.some.injEq, Prod.mk.injEq] at h; obtain ⟨rfl, rfl, rfl⟩ := h; exact AW.skip hq
  | ret => intro tm mem ex tm' mem' Q h hq; simp only [rCodeS, Option.some.injEq, Prod.mk.injEq] at h; obtain ⟨rfl, rfl, rfl⟩ := h; exact AW.ret hq
  | exit id => intro tm mem ex tm' mem' Q h hq; simp only [rCodeS, Option.some.injEq, Prod.mk.injEq] at h; obtain ⟨rfl, rfl, rfl⟩ := h; exact AW.exit hq
  | seq x y ihx ihy =>
    intro tm mem ex tm' mem' Q h hq
    simp only [rCodeS] at h
    split at h
    · rename_i tm1 mem1 h1
      exact AW.seq (ihx _ _ _ _ _ _ h1 (ihy _ _ _ _ _ _ h hq))
    · rename_i r hne
      have hex : ex ≠ .normal := by rintro rfl; exact hne _ _ h
      refine AW.seq (ihx _ _ _ _ _ _ h ?_)
      cases ex with
      | normal => exact absurd rfl hex
      | _ => exact hq
  | block id c ih =>
    intro tm mem ex tm' mem' Q h hq
    simp only [rCodeS] at h
    refine AW.block ?_
    split at h
    · rename_i id' tm1 mem1 h1
      refine ih _ _ _ _ _ _ h1 ?_
      split at h
      · rename_i he
        simp only [Option.some.injEq, Prod.mk.injEq] at h; obtain ⟨rfl, rfl, rfl⟩ := h
        subst he; exact InB_here hq
      · rename_i he
        simp only [Option.some.injEq, Prod.mk.injEq] at h; obtain ⟨rfl, rfl, rfl⟩ := h
        exact InB_far he hq
    · rename_i r hne
      refine ih _ _ _ _ _ _ h ?_
      cases ex with
      | exit id' => exact absurd h (hne _ _ _)
      | _ => exact hq
  | cond c x y ihx ihy =>
    intro tm mem ex tm' mem' Q h hq
    simp only [rCodeS] at h
    split at h
    · rename_i hb; exact AW.cond_t hb (ihx _ _ _ _ _ _ h hq)
    · rename_i hb; exact AW.cond_f hb (ihy _ _ _ _ _ _ h hq)
    · cases h
  | loop c ih =>
    intro tm mem ex tm' mem' Q h hq
    simp only [rCodeS] at h
    exact AW.rounds L (rLoop_ok ih _ _ _ _ _ _ _ h hq)
  | region id ops b =>
    intro tm mem ex tm' mem' Q h hq
    cases b with
    | false =>
      simp only [rCodeS] at h
      split at h
      · rename_i hd
        simp only [Option.map_eq_some_iff, Prod.mk.injEq] at h
        obtain ⟨⟨tm1, mem1⟩, h1, rfl, rfl, rfl⟩ := h
        have h2 : AOps P ops ops.toList tm mem (Q .normal) := rOps_ok hc _ _ _ _ _ _ h1 hq
        have h3 := AW.region (P := P) (nt := nt) (id := id) (l := ops.toList) (tm := tm) (mem := mem) (Q := Q) hd (by simpa using h2)
        simpa using h3
      · cases h
    | true =>
      simp only [rCodeS] at h
      split at h
      · rename_i hd
        simp only [Option.map_eq_some_iff, Prod.mk.injEq] at h
        obtain ⟨⟨tm1, mem1⟩, h1, rfl, rfl, rfl⟩ := h
        have h2 := rOpsD_ok hc _ _ _ _ _ _ _ (Q .normal) h1 hq
        have h3 := AW.draw (P := P) (nt := nt) (id := id) (l := ops.toList) (tm := tm) (mem := mem) (Q := Q) (pls id) hfol hd.1 hd.2 (by simpa using h2)
        simpa using h3
      · cases h
  | label l => intro tm mem ex tm' mem' Q h hq; simp only [rCodeS, Option.some.injEq, Prod.mk.injEq] at h; obtain ⟨rfl, rfl, rfl⟩ := h; exact AW.label hq
  | goto l => intro tm mem ex tm' mem' Q h hq; simp only [rCodeS, Option.some.injEq, Prod.mk.injEq] at h; obtain ⟨rfl, rfl, rfl⟩ := h; exact AW.goto hq
  | scope c ih =>
    intro tm mem ex tm' mem' Q h hq
    simp only [rCodeS] at h
    split at h
    · rename_i l tm1 mem1 h1
      split at h
      · rename_i rest hf
        split at h
        · rename_i hle
          have h2 := rJump_ok hj L tm1 mem1 ex tm' mem' Q h hq
          exact AW.scopeRun l hf L (ih _ _ _ _ _ (Jmp l (fun tm' mem' => mem.length ≤ mem'.length ∧ Rn P nt l rest Q L tm' mem') Q) h1 ⟨rfl, hle, h2⟩)
        · cases h
      · cases h
    · rename_i r hne
      exact AW.scopeNo (ih _ _ _ _ _ _ h ⟨fun l e => by subst e; exact hne _ _ _ h, hq⟩)
  | _ => intro tm mem ex tm' mem' Q h hq; simp only [rCodeS] at h; cases h
end
theorem rFuncS_ok {P : Program} {pls : Nat → Nat → List Plan} {L : Nat} (hfol : P.follows .mixedOrders = true) : ∀ n : Nat, CallOk P (rFuncS P pls L n)
  | 0 => fun g args mem ret mem' h => by cases h
  | n + 1 => fun g args mem ret mem' h => by
    simp only [rFuncS] at h
    split at h
    · rename_i fn hfn
      split at h
      · rename_i c hb
        split at h
        · rename_i hname
          have ok := rFuncS_ok (P := P) (pls := pls) (L := L) hfol n
          split at h
          · rename_i tm m hr
            simp only [Option.map_eq_some_iff, Prod.mk.injEq] at h
            obtain ⟨x, hx, rfl, rfl⟩ := h
            exact Ctr.of_body hfn hb hname fun hw => rCodeS_ok ok (rCodeS_ok ok (fun c tm mem ex tm' mem' Q h _ => by cases h) hfol) hfol _ _ _ _ _ _ _ hr ⟨.inl rfl, x, hx, Hands.all⟩
          · rename_i tm m hr
            simp only [Option.map_eq_some_iff, Prod.mk.injEq] at h
            obtain ⟨x, hx, rfl, rfl⟩ := h
            exact Ctr.of_body hfn hb hname fun hw => rCodeS_ok ok (rCodeS_ok ok (fun c tm mem ex tm' mem' Q h _ => by cases h) hfol) hfol _ _ _ _ _ _ _ hr ⟨.inr rfl, x, hx, Hands.all⟩
          · cases h
        · cases h
      · cases h
    · cases h

/-- A call whose arguments are known, reckoned by the machine. -/
theorem Ctr.runS {P : Program} {f : FuncId} {args : List AV} {ret : AV} (pls : Nat → Nat → List Plan) (L n : Nat) (hfol : P.follows .mixedOrders = true) (h : ((rFuncS P pls L n f args []).map (·.1)) = some ret) (ha : ∀ a, a ∈ args → a.below 0 = true) (hr : ret.below 0 = true) (m : AMem) : Ctr P f args m ret m := by
  rw [Option.map_eq_some_iff] at h
  obtain ⟨⟨x, mem'⟩, h1, rfl⟩ := h
  exact Ctr.closed (rFuncS_ok hfol n _ _ _ _ _ h1) ha hr m
end Go.Eng

/-
  ENGINE, PART T: a row of our own is cut short (what lies behind is spare).
-/
set_option linter.unusedVariables false
namespace Go.Eng
open Go
variable {P : Program} {nt : Nat} {tm : Tm} {mem : AMem}
theorem All2.take_left {α β : Type} {R : α → β → Prop} : ∀ {xa : List α} {bs : List β} (k : Nat), All2 R xa bs → ∃ xs sp, bs = xs ++ sp ∧ All2 R (xa.take k) xs
  | xa, bs, 0, _ => ⟨[], bs, rfl, by rw [List.take_zero]; trivial⟩
  | [], [], _ + 1, _ => ⟨[], [], rfl, trivial⟩
  | a :: xa, b :: bs, k + 1, h => by
    obtain ⟨xs, sp, e, h2⟩ := All2.take_left k h.2
    exact ⟨b :: xs, sp, by rw [e]; rfl, h.1, h2⟩
theorem BlkR.cut {ρ : Env} {w : World} {r : Nat} {b : Blk} (hb : BlkR ρ w r b) (hk : b.kind = .grow) (k : Nat) : BlkR ρ w r { b with cells := b.cells.take k } := by
  obtain ⟨kind, ty, ver, esz, cells⟩ := b
  simp only at hk
  subst hk
  rcases hb with ⟨h1, h2⟩ | ⟨n, c, cap, xs, sp, h1, h2, h3, h4, h5, h6⟩
  · simp only at h1; subst h1; exact .inl ⟨by simp, h2⟩
  · obtain ⟨ys, tp, e, h7⟩ := All2.take_left k h6
    exact .inr ⟨n, c, cap, ys, tp ++ sp, h1, h2, h3, h4, by rw [h5, e, List.append_assoc], h7⟩
theorem AW.cut {c : Code} {Q : Exit → Tm → AMem → Prop} (r k : Nat) {b : Blk} (hb : mem[r]? = some b) (hk : b.kind = .grow)
    (h : AW P nt c tm (mem.set r { b with cells := b.cells.take k }) Q) : AW P nt c tm mem Q := by
  intro ρ a w hr
  have hrl := (List.getElem?_eq_some_iff.1 hb).1
  have hgt : ∀ {s : Nat} {d : Blk}, (mem.set r { b with cells := b.cells.take k })[s]? = some d → (s ≠ r ∧ mem[s]? = some d) ∨ (s = r ∧ d = { b with cells := b.cells.take k }) := by
    intro s d hd
    by_cases hs : s = r
    · subst hs; rw [List.getElem?_set_self hrl] at hd; injection hd with hd; exact .inr ⟨rfl, hd.symm⟩
    · rw [List.getElem?_set_ne (fun e => hs e.symm)] at hd; exact .inl ⟨hs, hd⟩
  have hold : ∀ {s : Nat} {d : Blk}, (mem.set r { b with cells := b.cells.take k })[s]? = some d → ∃ d0, mem[s]? = some d0 ∧ d0.kind = d.kind ∧ d0.ver = d.ver ∧ (d.kind = .ro → d0 = d) := by
    intro s d hd
    rcases hgt hd with ⟨_, h1⟩ | ⟨e1, e2⟩
    · exact ⟨d, h1, rfl, rfl, fun _ => rfl⟩
    · subst e1; subst e2; exact ⟨b, hb, rfl, rfl, fun h => by rw [hk] at h; cases h⟩
  have hm : RepM ρ (mem.set r { b with cells := b.cells.take k }) w := by
    refine ⟨fun s d hd => ?_, fun s v hs => hr.mem.dom s v (by simpa using hs), fun s d v hd hv => ?_, fun s t d e hd he hne hkd hke x y i j hx hy => ?_⟩
    · rcases hgt hd with ⟨_, h1⟩ | ⟨e1, e2⟩
      · exact hr.mem.blk s d h1
      · subst e1; subst e2; exact (hr.mem.blk s b hb).cut hk k
    · obtain ⟨d0, h1, _, h3, _⟩ := hold hd
      exact hr.mem.domv s d0 v h1 (by omega)
    · obtain ⟨d0, h1, h2, h3, _⟩ := hold hd
      obtain ⟨e0, g1, g2, g3, g4⟩ := hold he
      refine hr.mem.sep s t d0 e0 h1 g1 hne (by rw [h2]; exact hkd) (fun hro => ?_) x y i j (by rw [h3]; exact hx) (by rw [g3]; exact hy)
      rw [g4 (by rw [← g2]; exact hro)]; exact hke (by rw [← g2]; exact hro)
  refine wp_mono (h ρ a w ⟨hr.size, hr.tm, hm⟩) ?_
  rintro e a' w' ⟨ρ2, tm2, mem2, hr2, hs2, hd, hq⟩
  refine ⟨ρ2, tm2, mem2, hr2, ?_, hd, hq⟩
  refine ⟨hs2.os, hs2.tape, hs2.output, hs2.size, by have := hs2.len; simpa using this, fun s hs v x hx => hs2.ext s (by simpa using hs) v x hx, fun s d d' h1 h2 => ?_, fun s d' h1 h2 => ?_, fun n hn hne => ?_, fun s d' x i h1 h2 h3 => ?_⟩
  · by_cases hs : s = r
    · subst hs
      rw [hb] at h1; injection h1 with h1; subst h1
      exact hs2.kind s { b with cells := b.cells.take k } d' (List.getElem?_set_self hrl) h2
    · exact hs2.kind s d d' (by rw [List.getElem?_set_ne (fun e => hs e.symm)]; exact h1) h2
  · have := hs2.ro s d' h1 h2
    rcases hgt this with ⟨_, h3⟩ | ⟨e1, e2⟩
    · exact h3
    · subst e2; rw [hk] at h2; cases h2
  · refine hs2.frame n hn fun s d x i h1 h2 h3 => ?_
    obtain ⟨d0, g1, g2, g3, _⟩ := hold h1
    exact hne s d0 x i g1 (by rw [g2]; exact h2) (by rw [g3]; exact h3)
  · rcases hs2.fresh s d' x i h1 h2 h3 with h | ⟨t, d, y, l, h1, h2, h3, h4⟩
    · exact .inl h
    · obtain ⟨d0, g1, g2, g3, _⟩ := hold h1
      exact .inr ⟨t, d0, y, l, g1, by rw [g2]; exact h2, by rw [g3]; exact h3, h4⟩
end Go.Eng

/-
  ENGINE, PART U: a row held against nil, of which nothing more is known; a nil row taken as one of our own, of any version.
-/
set_option linter.unusedVariables false
namespace Go.Eng
open Go
variable {P : Program}
theorem aops_app {nt : Nat} {ops : Array Oper} {last : List Oper} : ∀ (l : List Oper) (tm : Tm) (mem : AMem) (K : Tm → AMem → Prop), l.all (dstOk nt) = true → AOps P ops l tm mem K →
    ∀ (ρ : Env) (a : Act) (w : World) (Q : Exit → Act → World → Prop), Rep ρ nt tm mem a w →
      (∀ ρ' tm' mem' a' w', Rep ρ' nt tm' mem' a' w' → Step mem ρ w mem' ρ' w' → a'.defers = a.defers → K tm' mem' → wpList P ops Q last a' w') → wpList P ops Q (l ++ last) a w
  | [], tm, mem, K, _, h, ρ, a, w, Q, hr, hQ => hQ ρ tm mem a w hr (Step.refl _ _ _) rfl h
  | o :: rest, tm, mem, K, hd, h, ρ, a, w, Q, hr, hQ => by
    simp only [List.all_cons, Bool.and_eq_true] at hd
    have hdef : ∀ v, (a.put o.dst v).defers = a.defers := fun v => by cases o.dst <;> rfl
    simp only [AOps] at h
    rw [List.cons_append]
    unfold wpList
    split at h
    · rename_i hw
      rw [if_pos (wantedA_sound hr hw)]
      refine .inl ?_
      unfold Oper.wp
      split at h
      · rename_i t x y hop
        split at h
        · rename_i mem' hs
          obtain ⟨w', hrun, hm, hst⟩ := run_storeA P hr.mem hs (hr.opd x) (hr.opd y)
          have he : (execOp a.eval o).run P w = .ok .skip w' := by rw [ex_store hop]; simp only [Sem.run_bind, hrun, Result.andThen_ok, Sem.run_pure]
          rw [he, Oper.upon_skip]
          refine aops_app rest _ mem' K hd.2 h ρ _ w' Q ((hr.step hst hm).putO hd.1 (x := .one .und) rfl) fun ρ' tm' mem'' a' w'' r s d k => hQ ρ' tm' mem'' a' w'' r (hst.trans s) (d.trans (hdef _)) k
        · exact h.elim
      · rename_i f args ts hop
        split at h
        · rename_i g cs hf
          obtain ⟨ret, mem', hg, h⟩ := h
          have hfv := hr.opd f
          rw [hf] at hfv
          obtain ⟨vs, hfe, hcaps⟩ := hfv
          have hargs : All2 (VR ρ) (args.toList.map (opd tm)) (args.toList.map a.eval) := All2_map (fun y => hr.opd y) args.toList
          have hc := hg ρ w _ hr.mem (hargs.append (capsAV_sound hcaps))
          have hea : (args.toList.map a.eval ++ vs.toList).toArray = args.map a.eval ++ vs := by
            apply Array.ext'; simp
          rw [hea] at hc
          have he0 : (execOp a.eval o).run P w = (callFunc g (args.map a.eval ++ vs)).run P w := by
            rw [ex_call hop]
            simp only [resolve, hfe, Deferred.ofValue, Sem.run_bind, Sem.run_pure, Result.andThen_ok, invoke, Array.empty_append]
          rcases hc with ⟨⟨fn, hfn, hname, hbody⟩, hc⟩ | ⟨v, w', hrun, v', ρ', he', hv, hm, hst⟩
          · have he : (execOp a.eval o).run P w = .ok (.enter g (args.map a.eval ++ vs)) w := by
              rw [he0]
              simp only [Sem.run_bind, Sem.run_pure, Result.andThen_ok, callFunc, run_program, hfn, hname, hbody, Bool.false_eq_true, if_false]
            rw [he, Oper.upon_enter]
            refine hc.mono fun e w' ⟨v, ρ', he', hv, hm, hst⟩ => ?_
            subst he'
            exact aops_app rest _ mem' K hd.2 h ρ' _ w' Q ((hr.step hst hm).putO hd.1 hv) fun ρ'' tm' mem'' a' w'' r s d k => hQ ρ'' tm' mem'' a' w'' r (hst.trans s) (d.trans (hdef _)) k
          · injection he' with he'; subst he'
            rw [he0, hrun, Oper.upon_value]
            exact aops_app rest _ mem' K hd.2 h ρ' _ w' Q ((hr.step hst hm).putO hd.1 hv) fun ρ'' tm' mem'' a' w'' r s d k => hQ ρ'' tm' mem'' a' w'' r (hst.trans s) (d.trans (hdef _)) k
        · exact h.elim
      · split at h
        · rename_i x mem' hv
          obtain ⟨v, w', ρ', hrun, hvr, hm, hst⟩ := evVal_sound hr hv
          have hup : ∀ K', Oper.upon P o a K' Q ((execOp a.eval o).run P w) = K' (a.put o.dst v) w' := fun K' => by
            rcases hrun with hrun | ⟨hrun, rfl⟩
            · rw [hrun, Oper.upon_value]
            · rw [hrun, Oper.upon_skip]
          rw [hup]
          exact aops_app rest _ mem' K hd.2 h ρ' _ w' Q ((hr.step hst hm).putO hd.1 hvr) fun ρ'' tm' mem'' a' w'' r s d k => hQ ρ'' tm' mem'' a' w'' r (hst.trans s) (d.trans (hdef _)) k
        · exact h.elim
    · rename_i hw
      rw [if_neg (by rw [wantedA_sound hr hw]; simp)]
      exact aops_app rest _ mem K hd.2 h ρ _ w Q (hr.putO hd.1 (x := .one .und) rfl) fun ρ'' tm' mem'' a' w'' r s d k => hQ ρ'' tm' mem'' a' w'' r s (d.trans (hdef _)) k
    · exact h.elim


def nilEqA (P : Program) (f : Operand → AV) : Op → Bool
  | .binOp .eql t x y _ => match P.underlying t, f x, f y with
    | some (.slice _), .one (.sl _ _ _ _), .one .nils => true
    | _, _, _ => false
  | _ => false
theorem run_eqNil {ρ : Env} {t e : TypeId} {r v off len : Nat} {u x : Value} (ht : P.underlying t = some (.slice e)) (hx : VR ρ (.one (.sl r v off len)) u) (hy : VR ρ (.one .nils) x) (o1 o2 : Operand) (w : World) :
    ∃ b, ((do eqGuard .eql t o1 o2 u x; binOp .eql t u x) : Sem Value).run P w = .ok (.bool b) w := by
  have e2 : x = _ := hy
  subst e2
  obtain ⟨A, c0, B, c, _, rfl, _, _, _⟩ := hx
  refine ⟨B.isNone, ?_⟩
  cases B with
  | none => exact (eq_pair P (fun op h => by rw [eqGuard_at_slice]; rfl) rfl rfl (fun d => by simp [Op.equalIn, run_underlying ht])).1
  | some a => exact (eq_pair P (fun op h => by rw [eqGuard_at_slice]; rfl) rfl rfl (fun d => by simp [Op.equalIn, run_underlying ht])).1
variable {nt : Nat} {tm : Tm} {mem : AMem}
theorem AW.eqNil {id : Nat} {o1 o2 : Oper} {Q : Exit → Tm → AMem → Prop} (hd : [o1, o2].all (dstOk nt) = true)
    (h : AOps P [o1, o2].toArray [o1] tm mem fun tm' mem' => wantedA [o1, o2].toArray o2 tm' = some true ∧ nilEqA P (opd tm') o2.op = true ∧ ∀ b, Q .normal (putO o2.dst (.one (.bool b)) tm') mem') :
    AW P nt (.region id [o1, o2].toArray false) tm mem Q := by
  intro ρ a w hr
  refine wp_region_lit ?_
  simp only [List.all_cons, List.all_nil, Bool.and_true, Bool.and_eq_true] at hd
  refine aops_app (last := [o2]) [o1] tm mem _ (by simp [hd.1]) h ρ a w _ hr fun ρ' tm' mem' a' w' r s d k => ?_
  obtain ⟨hw, hn, hq⟩ := k
  unfold wpList
  rw [if_pos (wantedA_sound r hw)]
  refine .inl ?_
  unfold nilEqA at hn
  split at hn
  · rename_i t x y yt hop
    split at hn
    · rename_i e rr vv oo ll ht hx hy
      have h1 := r.opd x
      have h2 := r.opd y
      rw [hx] at h1
      rw [hy] at h2
      obtain ⟨b, hb⟩ := run_eqNil ht h1 h2 x y w'
      have he : (execOp a'.eval o2).run P w' = .ok (.value (.bool b)) w' := by
        rw [ex_binOp hop]
        simp only [Sem.run_bind] at hb ⊢
        rw [hb]; rfl
      unfold Oper.wp
      rw [he, Oper.upon_value]
      unfold wpList
      exact ⟨ρ', _, mem', r.putO hd.2 (x := .one (.bool b)) rfl, s, by cases o2.dst <;> exact d, hq b⟩
    · cases hn
  · cases hn
theorem nil_rowV {ver : Nat} {ρ : Env} {L : Nat} {v : Value} (h : VC ρ .nils v) : VC (ρ.set L ver (none, 0)) (.sl L ver 0 0) v := by
  have e : v = .slice none 0 0 := h
  subst e
  exact ⟨none, 0, none, 0, Env.set_same _ _ _ _, rfl, Nat.le_refl _, fun h => by omega, fun _ => ⟨rfl, rfl⟩⟩

theorem Rep.nilRowV (ver : Nat) {ρ : Env} {a : Act} {w : World} (hr : Rep ρ nt tm mem a w) (ty esz : Nat) (mem1 : AMem) (hlen : mem1.length = mem.length) (hk : ∀ (r : Nat) (b1 : Blk), mem1[r]? = some b1 → ∃ b, mem[r]? = some b ∧ b1.kind = b.kind ∧ b1.ver = b.ver ∧ (b.kind = .ro → b1 = b))
    (hb : ∀ (r : Nat) (b1 : Blk), mem1[r]? = some b1 → BlkR (ρ.set mem.length ver (none, 0)) w r b1) (tm1 : Tm) (ht : ∀ i, VR (ρ.set mem.length ver (none, 0)) (Tm.get tm1 i) (a.tmps.getD i undef)) :
    Rep (ρ.set mem.length ver (none, 0)) nt tm1 (mem1 ++ [⟨.grow, ty, ver, esz, []⟩]) a w ∧ ∀ m0 ρ0 w0, Step m0 ρ0 w0 mem ρ w → Step m0 ρ0 w0 (mem1 ++ [⟨.grow, ty, ver, esz, []⟩]) (ρ.set mem.length ver (none, 0)) w := by
  have hle : ρ.le (ρ.set mem.length ver (none, 0)) := Env.le_set (hr.mem.dom _ _ (Nat.le_refl _))
  have hgt : ∀ {s : Nat} {d : Blk}, (mem1 ++ [⟨.grow, ty, ver, esz, []⟩])[s]? = some d → (s < mem.length ∧ mem1[s]? = some d) ∨ (s = mem.length ∧ d = ⟨.grow, ty, ver, esz, []⟩) := by
    intro s d hd
    rcases Nat.lt_or_ge s mem1.length with h | h
    · rw [List.getElem?_append_left h] at hd; exact .inl ⟨by omega, hd⟩
    · rw [List.getElem?_append_right h] at hd
      have hl := (List.getElem?_eq_some_iff.1 hd).1
      simp at hl
      have : s = mem.length := by omega
      subst this
      simp [hlen] at hd
      exact .inr ⟨rfl, hd.symm⟩
  have hoth : ∀ {s v : Nat}, s < mem.length → ρ.set mem.length ver (none, 0) s v = ρ s v := fun {s v} h => Env.set_other ρ _ (by omega)
  refine ⟨⟨hr.size, ht, ⟨?_, ?_, ?_, ?_⟩⟩, ?_⟩
  · intro s d hd
    rcases hgt hd with ⟨_, h1⟩ | ⟨rfl, rfl⟩
    · exact hb s d h1
    · exact .inl ⟨rfl, Env.set_same _ _ _ _⟩
  · intro s v hs
    simp at hs
    rw [Env.set_other ρ _ (by omega)]
    exact hr.mem.dom s v (by omega)
  · intro s d v hd hv
    rcases hgt hd with ⟨hl, h1⟩ | ⟨rfl, rfl⟩
    · obtain ⟨b, h2, _, h3, _⟩ := hk s d h1
      rw [hoth hl]; exact hr.mem.domv s b v h2 (by omega)
    · simp only at hv
      rw [Env.set_other ρ _ (by omega)]
      exact hr.mem.dom _ _ (Nat.le_refl _)
  · intro s t d e hd he hst hkd hne x y k1 k2 hx hy
    rcases hgt hd with ⟨hl, h1⟩ | ⟨rfl, rfl⟩
    · rcases hgt he with ⟨hl', h1'⟩ | ⟨rfl, rfl⟩
      · obtain ⟨b, h2, h3, h4, h5⟩ := hk s d h1
        obtain ⟨b', h2', h3', h4', h5'⟩ := hk t e h1'
        rw [hoth hl, h4] at hx
        rw [hoth hl', h4'] at hy
        exact hr.mem.sep s t b b' h2 h2' hst (by rw [← h3]; exact hkd) (fun h => by rw [← h5' h]; exact hne (by rw [h3']; exact h)) x y k1 k2 hx hy
      · simp only [Env.set_same] at hy
        injection hy with hy; injection hy with hy _; cases hy
    · simp only [Env.set_same] at hx
      injection hx with hx; injection hx with hx _; cases hx
  · intro m0 ρ0 w0 hs
    refine ⟨hs.os, hs.tape, hs.output, hs.size, ?_, fun r hr v x hx => hle _ _ _ (hs.ext r hr v x hx), ?_, ?_, ?_, ?_⟩
    · have := hs.len; simp; omega
    · intro r b b' hb0 hb'
      have hl0 := (List.getElem?_eq_some_iff.1 hb0).1
      have := hs.len
      rcases hgt hb' with ⟨hl, h1⟩ | ⟨rfl, rfl⟩
      · obtain ⟨b2, h2, h3, _, _⟩ := hk r b' h1
        rw [h3]; exact hs.kind r b b2 hb0 h2
      · omega
    · intro r b' hb' hro
      rcases hgt hb' with ⟨hl, h1⟩ | ⟨rfl, rfl⟩
      · obtain ⟨b2, h2, h3, _, h5⟩ := hk r b' h1
        have e := h5 (by rw [← h3]; exact hro)
        subst e
        exact hs.ro r b' h2 hro
      · cases hro
    · exact hs.frame
    · intro r b' x k hb' hkd hx
      rcases hgt hb' with ⟨hl, h1⟩ | ⟨rfl, rfl⟩
      · obtain ⟨b2, h2, h3, h4, h5⟩ := hk r b' h1
        rw [hoth hl, h4] at hx
        exact hs.fresh r b2 x k h2 (by rw [← h3]; exact hkd) hx
      · simp only [Env.set_same] at hx
        injection hx with hx; injection hx with hx _; cases hx

/-- The same of a temporary. -/
theorem AW.nilTmV {c : Code} {Q : Exit → Tm → AMem → Prop} (ty esz : Nat) (ver : Nat) (d : Nat) (hd : Tm.get tm d = .one .nils)
    (h : AW P nt c ((d, .one (.sl mem.length ver 0 0)) :: tm) (mem ++ [⟨.grow, ty, ver, esz, []⟩]) Q) : AW P nt c tm mem Q := by
  intro ρ a w hr
  have hle : ρ.le (ρ.set mem.length ver (none, 0)) := Env.le_set (hr.mem.dom _ _ (Nat.le_refl _))
  obtain ⟨h1, h2⟩ := hr.nilRowV ver ty esz mem rfl (fun s d hd => ⟨d, hd, rfl, rfl, fun _ => rfl⟩) (fun s d hd => (hr.mem.blk s d hd).mono hle) ((d, .one (.sl mem.length ver 0 0)) :: tm) (fun i => by
    rw [Tm.get_put]
    by_cases hi : i = d
    · subst hi
      rw [if_pos rfl]
      have := hr.tm i
      rw [hd] at this
      exact nil_rowV this
    · rw [if_neg hi]; exact (hr.tm i).mono hle)
  refine wp_mono (h _ a w h1) ?_
  rintro e a' w' ⟨ρ2, tm2, mem2, hr2, hs2, hd, hq⟩
  exact ⟨ρ2, tm2, mem2, hr2, (h2 mem ρ w (Step.refl _ _ _)).trans hs2, hd, hq⟩

end Go.Eng

/-
  ENGINE, PART V: from a contract to a row that bears a condition of its own and lists variables with what they hold.
-/
set_option linter.unusedVariables false
namespace Go.Eng
open Go
variable {H : Type} {enc : TypeId × Value → H}
theorem returns_row_cond {a : Assume} {C : Checked} {os : Os} {f : FuncId} {fn : Func} {s : OpenSpec} {k : (H : Type) → List (DataW H) → Bool} (hk : s.cond = some k) {F : Stop.Interp} {conds : List PathCond} {apart fresh handsOn again : Bool} {laid : List (String × DataW Unit)}
    (own : ownKnob C.prog.godebug = none) (started : os.Started) (noInit : C.prog.inits.idxOf? f = none) (hfn : C.prog.funcs[f]? = some fn)
    (witness : ∃ (w : World) (tape : Tape) (i : Input), w.os = os ∧ (w.forCall tape i).Shaped C.prog ∧ i.vars = [] ∧ Input.okWide C.prog (w.forCall tape i) .any w.heap.size f i ∧
      s.preRow enc C.prog fn conds apart laid (w.forCall tape i).memory i.args ∧ a.holds C.prog (lone (Frame.enter C.prog f i.args .normal) [] (w.forCall tape i)))
    (contract : ∀ (W : World) (base : Nat) (args : Array Value) (ds gs : List (DataW H)) (before : List MemPlace),
      (∀ (j : Nat) t v, fn.params[j]? = some t → args[j]? = some v → Value.okWide C.prog W .any base t v) →
      DataW.Whole enc C.prog fn.params.toList s.vars apart W args.toList ds gs before → k H (ds ++ gs) = true →
      Calls C.prog f args W fun e W' => ∃ v, e = .returned v ∧ (s.at F).post enc C.prog fn apart fresh handsOn again W args v W') :
    ReturnsInHanded a C os f .any (s.preRow enc C.prog fn conds apart laid) ((s.at F).post enc C.prog fn apart fresh handsOn again) := by
  refine returnsInHanded_of_calls own started noInit witness ?_
  intro w tape i _ _ _ hok hpre hholds
  obtain ⟨_, _, _, fn', hfn', _, _, _, _, hval⟩ := hok
  have e : fn' = fn := Option.some.inj (hfn'.symm.trans hfn)
  subst e
  obtain ⟨ds, gs, before, hw, hc, hkk⟩ := (OpenSpec.pre_some hk conds apart _ _).1 hpre.1.1
  have hw' := DataW.Whole.of_heap (w' := w.forCall tape i) (by rfl) hw
  refine (contract (w.forCall tape i) w.heap.size i.args ds gs before hval hw' hkk).mono fun e W' ⟨v, he, hp⟩ => ?_
  subst he
  exact ChangeSpec.post_blind hp
theorem witness_row {C : Checked} {os : Os} {f : FuncId} {fn : Func} {s : OpenSpec} {k : (H : Type) → List (DataW H) → Bool} (hk : s.cond = some k) {conds : List PathCond} {apart : Bool} {laid : List (String × DataW Unit)} (modest : Bool) (w0 : World) (args : Array Value) (fuel : Nat) (hos : w0.os = os)
    (hsh : (w0.forCall (fun _ _ => 0) ⟨#[], args, []⟩).Shaped C.prog)
    (hok : Input.okWideB C.prog (w0.forCall (fun _ _ => 0) ⟨#[], args, []⟩) f ⟨#[], args, []⟩ = true)
    {x : List (DataW H) × List (DataW H) × List MemPlace} (hx : DataW.whole enc C.prog (w0.forCall (fun _ _ => 0) ⟨#[], args, []⟩).memory fn.params.toList s.vars apart args.toList fuel = some x)
    (hconds : conds.all (PathCond.test C.prog ⟨fn.params.toList, x.1, s.bare.plain.varTypes C.prog, x.2.1⟩) = true) (hkk : k H (x.1 ++ x.2.1) = true)
    (hl : laidMetH C.prog laid (w0.forCall (fun _ _ => 0) ⟨#[], args, []⟩).memory)
    (hsz : s.bare.sizedB enc C.prog fn apart (w0.forCall (fun _ _ => 0) ⟨#[], args, []⟩).memory args fuel = true := by kernel_rfl) :
    ∃ (w : World) (tape : Tape) (i : Input), w.os = os ∧ (w.forCall tape i).Shaped C.prog ∧ i.vars = [] ∧ Input.okWide C.prog (w.forCall tape i) .any w.heap.size f i ∧
      s.preRow enc C.prog fn conds apart laid (w.forCall tape i).memory i.args ∧ ({ modest := modest } : Assume).holds C.prog (lone (Frame.enter C.prog f i.args .normal) [] (w.forCall tape i)) :=
  ⟨w0, fun _ _ => 0, ⟨#[], args, []⟩, hos, hsh, (Input.okWide_of_okWideB (base := 0) hok).1, (Input.okWide_of_okWideB hok).2,
    ⟨⟨(OpenSpec.pre_some hk conds apart _ _).2 ⟨x.1, x.2.1, x.2.2, DataW.Whole_of_whole hx, hconds, hkk⟩, hl⟩, sizedMet_of_sizedB hsz⟩, by
    simp only [Assume.holds]
    exact ⟨by simp, by simp, fun _ => Modest.zero, by simp, by simp⟩⟩
end Go.Eng

/-
  ENGINE, PART W: what a row of our own holds is handed on to another one (which bears a new version then); results beside a memory that was written.
-/
set_option linter.unusedVariables false
namespace Go.Eng
open Go
variable {P : Program} {nt : Nat} {tm : Tm} {mem : AMem}
theorem RetP.dropM {m1 : AMem} {L : Nat} {rs : List ResultVar} {ret : AV} {extra : AMem} {ex : Exit} (hl : m1.length = L) (hex : ex = .normal ∨ ex = .ret) (hres : resA P rs tm (m1 ++ extra) = some ret) (hb : ret.below L = true) (hw : MWf L m1) :
    RetP P rs L ret m1 ex tm (m1 ++ extra) := by
  subst hl; exact RetP.drop hex hres hb hw
theorem RetP.dropM0 {m1 : AMem} {L : Nat} {rs : List ResultVar} {ret : AV} {ex : Exit} (hl : m1.length = L) (hex : ex = .normal ∨ ex = .ret) (hres : resA P rs tm m1 = some ret) (hb : ret.below L = true) (hw : MWf L m1) :
    RetP P rs L ret m1 ex tm m1 := by
  subst hl; exact RetP.drop0 hex hres hb hw
theorem AW.moveP {c : Code} {Q : Exit → Tm → AMem → Prop} (old new d n : Nat) {b e : Blk} (hb : mem[old]? = some b) (hbk : b.kind = .grow) (he : mem[new]? = some e) (hek : e.kind = .grow) (hne : old ≠ new) (hd : Tm.get tm d = .one (.sl new e.ver 0 n))
    (h : ∀ ρ2 a w, ρ2 old (b.ver + 1) = ρ2 new e.ver → Rep ρ2 nt ((d, .one (.sl old (b.ver + 1) 0 n)) :: tm) ((mem.set old ⟨.grow, e.ty, b.ver + 1, e.esz, e.cells⟩).set new ⟨.grow, e.ty, e.ver + 1, e.esz, []⟩) a w →
      c.wp P (fun ex a' w' => ∃ ρ' tm' mem', Rep ρ' nt tm' mem' a' w' ∧ Step ((mem.set old ⟨.grow, e.ty, b.ver + 1, e.esz, e.cells⟩).set new ⟨.grow, e.ty, e.ver + 1, e.esz, []⟩) ρ2 w mem' ρ' w' ∧ a'.defers = a.defers ∧ Q ex tm' mem') a w) : AW P nt c tm mem Q := by
  intro ρ a w hr
  have hol := (List.getElem?_eq_some_iff.1 hb).1
  have hnl := (List.getElem?_eq_some_iff.1 he).1
  obtain ⟨x0, hx0⟩ : ∃ x, ρ new e.ver = some x := by
    have h1 := hr.tm d
    rw [hd] at h1
    obtain ⟨A, c0, B, cc, h2, _⟩ := h1
    exact ⟨_, h2⟩
  have hle1 : ρ.le (ρ.set old (b.ver + 1) x0) := Env.le_set (hr.mem.domv old b _ hb (by omega))
  have hle2 : (ρ.set old (b.ver + 1) x0).le ((ρ.set old (b.ver + 1) x0).set new (e.ver + 1) (none, 0)) := Env.le_set (by
    rw [Env.set_other ρ _ (fun hc => hne hc.1.symm)]; exact hr.mem.domv new e _ he (by omega))
  have hle : ρ.le ((ρ.set old (b.ver + 1) x0).set new (e.ver + 1) (none, 0)) := fun r v x hx => hle2 r v x (hle1 r v x hx)
  generalize hρ : (ρ.set old (b.ver + 1) x0).set new (e.ver + 1) (none, 0) = ρ2 at *
  have eo : ρ2 old (b.ver + 1) = some x0 := by rw [← hρ, Env.set_other _ _ (fun hc => hne hc.1), Env.set_same]
  have en : ρ2 new (e.ver + 1) = some (none, 0) := by rw [← hρ, Env.set_same]
  have eq : ∀ r v, r ≠ old → r ≠ new → ρ2 r v = ρ r v := fun r v h1 h2 => by rw [← hρ, Env.set_other _ _ (fun hc => h2 hc.1), Env.set_other _ _ (fun hc => h1 hc.1)]
  have hgt : ∀ {s : Nat} {q : Blk}, ((mem.set old ⟨.grow, e.ty, b.ver + 1, e.esz, e.cells⟩).set new ⟨.grow, e.ty, e.ver + 1, e.esz, []⟩)[s]? = some q →
      (s ≠ old ∧ s ≠ new ∧ mem[s]? = some q) ∨ (s = old ∧ q = ⟨.grow, e.ty, b.ver + 1, e.esz, e.cells⟩) ∨ (s = new ∧ q = ⟨.grow, e.ty, e.ver + 1, e.esz, []⟩) := by
    intro s q hq
    by_cases h1 : s = new
    · subst h1; rw [List.getElem?_set_self (by simpa using hnl)] at hq; injection hq with hq; exact .inr (.inr ⟨rfl, hq.symm⟩)
    · rw [List.getElem?_set_ne (fun h => h1 h.symm)] at hq
      by_cases h2 : s = old
      · subst h2; rw [List.getElem?_set_self hol] at hq; injection hq with hq; exact .inr (.inl ⟨rfl, hq.symm⟩)
      · rw [List.getElem?_set_ne (fun h => h2 h.symm)] at hq; exact .inl ⟨h2, h1, hq⟩
  have hblk : BlkR ρ2 w old ⟨.grow, e.ty, b.ver + 1, e.esz, e.cells⟩ := by
    have h1 := hr.mem.blk new e he
    obtain ⟨kind, ty, ver, esz, cells⟩ := e
    simp only at hek; subst hek
    rcases h1 with ⟨q1, q2⟩ | ⟨q, c1, cap, xs, sp, q1, q2, q3, q4, q5, q6⟩
    · refine .inl ⟨q1, ?_⟩
      rw [eo, ← hx0]; exact q2
    · refine .inr ⟨q, c1, cap, xs, sp, ?_, q2, q3, q4, q5, q6.mono fun _ _ => VC.mono hle⟩
      rw [eo, ← hx0]; exact q1
  have hsrc : ∀ {s : Nat} {q : Blk} {x : Addr} {k : Nat}, ((mem.set old ⟨.grow, e.ty, b.ver + 1, e.esz, e.cells⟩).set new ⟨.grow, e.ty, e.ver + 1, e.esz, []⟩)[s]? = some q → ρ2 s q.ver = some (some x, k) →
      ∃ s0 q0, mem[s0]? = some q0 ∧ ρ s0 q0.ver = some (some x, k) ∧ q0.kind = q.kind ∧ (s0 = s ∧ q0 = q ∨ s = old ∧ s0 = new) ∧ s ≠ new := by
    intro s q x k hq hx
    rcases hgt hq with ⟨h1, h2, h3⟩ | ⟨rfl, rfl⟩ | ⟨rfl, rfl⟩
    · rw [eq s _ h1 h2] at hx; exact ⟨s, q, h3, hx, rfl, .inl ⟨rfl, rfl⟩, h2⟩
    · simp only at hx; rw [eo, ← hx0] at hx; exact ⟨new, e, he, hx, hek, .inr ⟨rfl, rfl⟩, hne⟩
    · simp only at hx; rw [en] at hx; injection hx with hx; injection hx with hx _; cases hx
  have hm : RepM ρ2 ((mem.set old ⟨.grow, e.ty, b.ver + 1, e.esz, e.cells⟩).set new ⟨.grow, e.ty, e.ver + 1, e.esz, []⟩) w := by
    refine ⟨fun s q hq => ?_, fun s v hs => ?_, fun s q v hq hv => ?_, fun s t q u hq hu hst hqk huk x y i j hx hy => ?_⟩
    · rcases hgt hq with ⟨_, _, h3⟩ | ⟨rfl, rfl⟩ | ⟨rfl, rfl⟩
      · exact (hr.mem.blk s q h3).mono hle
      · exact hblk
      · exact .inl ⟨rfl, en⟩
    · simp only [List.length_set] at hs
      rw [eq s v (by omega) (by omega)]; exact hr.mem.dom s v hs
    · rcases hgt hq with ⟨h1, h2, h3⟩ | ⟨rfl, rfl⟩ | ⟨rfl, rfl⟩
      · rw [eq s v h1 h2]; exact hr.mem.domv s q v h3 hv
      · simp only at hv
        rw [← hρ, Env.set_other _ _ (fun hc => hne hc.1), Env.set_other _ _ (fun hc => by omega)]
        exact hr.mem.domv _ b v hb (by omega)
      · simp only at hv
        rw [← hρ, Env.set_other _ _ (fun hc => by omega), Env.set_other _ _ (fun hc => hne hc.1.symm)]
        exact hr.mem.domv _ e v he (by omega)
    · obtain ⟨s0, q0, g1, g2, g3, g4, g5⟩ := hsrc hq hx
      obtain ⟨t0, u0, f1, f2, f3, f4, f5⟩ := hsrc hu hy
      refine hr.mem.sep s0 t0 q0 u0 g1 f1 ?_ (by rw [g3]; exact hqk) (fun hro => ?_) x y i j g2 f2
      · rcases g4 with ⟨rfl, _⟩ | ⟨rfl, rfl⟩ <;> rcases f4 with ⟨rfl, _⟩ | ⟨rfl, rfl⟩
        · exact hst
        · exact g5
        · exact fun h => f5 h.symm
        · exact absurd rfl hst
      · rcases f4 with ⟨_, rfl⟩ | ⟨_, rfl⟩
        · exact huk hro
        · rw [he] at f1; injection f1 with f1; subst f1; rw [hek] at hro; cases hro
  refine wp_mono (h ρ2 a w (by rw [eo]; exact (hle new e.ver x0 hx0).symm) ⟨hr.size, fun i => ?_, hm⟩) ?_
  · rw [Tm.get_put]
    split
    · rename_i hi
      subst hi
      have h1 := hr.tm i
      rw [hd] at h1
      obtain ⟨A, c0, B, cc, h2, h3, h4, h5, h6⟩ := h1
      exact ⟨A, c0, B, cc, by rw [eo, ← hx0]; exact h2, h3, h4, h5, h6⟩
    · exact (hr.tm i).mono hle
  · rintro ee a' w' ⟨ρ3, tm2, mem2, hr2, hs2, hdd, hq⟩
    refine ⟨ρ3, tm2, mem2, hr2, ?_, hdd, hq⟩
    refine ⟨hs2.os, hs2.tape, hs2.output, hs2.size, by have := hs2.len; simpa using this, fun s hs v x hx => hs2.ext s (by simpa using hs) v x (hle s v x hx), fun s q q' h1 h2 => ?_, fun s q' h1 h2 => ?_, fun n1 hn hn2 => ?_, fun s q' x i h1 h2 h3 => ?_⟩
    · by_cases e1 : s = new
      · subst e1
        rw [he] at h1; injection h1 with h1; subst h1
        rw [hek]; exact hs2.kind s ⟨.grow, e.ty, e.ver + 1, e.esz, []⟩ q' (List.getElem?_set_self (by simpa using hnl)) h2
      · by_cases e2 : s = old
        · subst e2
          rw [hb] at h1; injection h1 with h1; subst h1
          rw [hbk]; exact hs2.kind s ⟨.grow, e.ty, b.ver + 1, e.esz, e.cells⟩ q' (by rw [List.getElem?_set_ne (fun h => e1 h.symm)]; exact List.getElem?_set_self hol) h2
        · exact hs2.kind s q q' (by rw [List.getElem?_set_ne (fun h => e1 h.symm), List.getElem?_set_ne (fun h => e2 h.symm)]; exact h1) h2
    · have := hs2.ro s q' h1 h2
      rcases hgt this with ⟨_, _, h3⟩ | ⟨_, rfl⟩ | ⟨_, rfl⟩
      · exact h3
      · cases h2
      · cases h2
    · refine hs2.frame n1 hn fun s q x i h1 h2 h3 => ?_
      obtain ⟨s0, q0, g1, g2, g3, _, _⟩ := hsrc h1 h3
      exact hn2 s0 q0 x i g1 (by rw [g3]; exact h2) g2
    · rcases hs2.fresh s q' x i h1 h2 h3 with h | ⟨t, q, y, l, g1, g2, g3, g4⟩
      · exact .inl h
      · obtain ⟨s0, q0, f1, f2, f3, _, _⟩ := hsrc g1 g3
        exact .inr ⟨s0, q0, y, l, f1, by rw [f3]; exact g2, f2, g4⟩
theorem AW.move {c : Code} {Q : Exit → Tm → AMem → Prop} (old new d n : Nat) {b e : Blk} (hb : mem[old]? = some b) (hbk : b.kind = .grow) (he : mem[new]? = some e) (hek : e.kind = .grow) (hne : old ≠ new) (hd : Tm.get tm d = .one (.sl new e.ver 0 n))
    (h : AW P nt c ((d, .one (.sl old (b.ver + 1) 0 n)) :: tm) ((mem.set old ⟨.grow, e.ty, b.ver + 1, e.esz, e.cells⟩).set new ⟨.grow, e.ty, e.ver + 1, e.esz, []⟩) Q) : AW P nt c tm mem Q :=
  AW.moveP old new d n hb hbk he hek hne hd fun ρ2 a w _ hr => h ρ2 a w hr
theorem BlkR.recell {ρ : Env} {w : World} {r : Nat} {b : Blk} (hb : BlkR ρ w r b) (hk : b.kind ≠ .ro) {j : Nat} {c0 c : CV} (hj : b.cells[j]? = some c0) (hc : ∀ v, VC ρ c0 v → VC ρ c v) : BlkR ρ w r { b with cells := b.cells.set j c } := by
  obtain ⟨kind, ty, ver, esz, cells⟩ := b
  cases kind with
  | fix =>
    obtain ⟨n, cs, k, h1, h2, h3, hkk⟩ := hb
    obtain ⟨v, hv, hr⟩ := h3.get hj
    exact ⟨n, cs, k, h1, h2, h3.set_left hv (hc v hr), hkk⟩
  | grow =>
    rcases hb with ⟨h1, h2⟩ | ⟨n, cs, cap, xs, sp, h1, h2, h3, hcm, h4, h5⟩
    · simp only at h1; subst h1; simp at hj
    · obtain ⟨v, hv, hr⟩ := h5.get hj
      exact .inr ⟨n, cs, cap, xs, sp, h1, h2, h3, hcm, h4, h5.set_left hv (hc v hr)⟩
  | ro => exact absurd rfl hk
  | map ka va clock es => obtain ⟨n, o, k, _, _, _, h⟩ := hb; simp only at h; subst h; simp at hj
  | iter rm since seen last => obtain ⟨n, N, k, k', _, _, _, h⟩ := hb; simp only at h; subst h; simp at hj
theorem RepM.recell {ρ : Env} {w : World} (h : RepM ρ mem w) {r j : Nat} {b : Blk} {c0 c : CV} (hb : mem[r]? = some b) (hk : b.kind ≠ .ro) (hj : b.cells[j]? = some c0) (hc : ∀ v, VC ρ c0 v → VC ρ c v) :
    RepM ρ (mem.set r { b with cells := b.cells.set j c }) w ∧ Step mem ρ w (mem.set r { b with cells := b.cells.set j c }) ρ w := by
  have hrl := (List.getElem?_eq_some_iff.1 hb).1
  have hold : ∀ {s : Nat} {d : Blk}, (mem.set r { b with cells := b.cells.set j c })[s]? = some d → ∃ d0, mem[s]? = some d0 ∧ d0.kind = d.kind ∧ d0.ver = d.ver ∧ (d.kind = .ro → d0 = d) ∧ BlkR ρ w s d := by
    intro s d hd
    by_cases hs : s = r
    · subst hs; rw [List.getElem?_set_self hrl] at hd; injection hd with hd; subst hd
      exact ⟨b, hb, rfl, rfl, fun h => absurd h hk, (h.blk s b hb).recell hk hj hc⟩
    · rw [List.getElem?_set_ne (fun e => hs e.symm)] at hd
      exact ⟨d, hd, rfl, rfl, fun _ => rfl, h.blk s d hd⟩
  refine ⟨⟨fun s d hd => ?_, fun s v hs => h.dom s v (by simpa using hs), fun s d v hd hv => ?_, fun s t d e hd he hne hkd hke x y i k hx hy => ?_⟩,
    ⟨rfl, rfl, rfl, Nat.le_refl _, by simp, fun _ _ _ _ h => h, fun s d d' h1 h2 => ?_, fun s d h1 h2 => ?_, fun _ _ _ => rfl, fun s d x k h1 h2 h3 => ?_⟩⟩
  · obtain ⟨_, _, _, _, _, h5⟩ := hold hd; exact h5
  · obtain ⟨d0, h1, _, h3, _⟩ := hold hd; exact h.domv s d0 v h1 (by rw [h3]; exact hv)
  · obtain ⟨d0, h1, h2, h3, _⟩ := hold hd
    obtain ⟨e0, f1, f2, f3, f4, _⟩ := hold he
    exact h.sep s t d0 e0 h1 f1 hne (by rw [h2]; exact hkd) (fun hro => by rw [f4 (by rw [← f2]; exact hro)]; exact hke (by rw [← f2]; exact hro)) x y i k (by rw [h3]; exact hx) (by rw [f3]; exact hy)
  · obtain ⟨d0, h3, h4, _⟩ := hold h2; rw [h1] at h3; injection h3 with h3; rw [h3, h4]
  · obtain ⟨d0, h3, _, _, h5, _⟩ := hold h1; rw [← h5 h2]; exact h3
  · obtain ⟨d0, f1, f2, f3, _⟩ := hold h1; exact .inr ⟨s, d0, x, k, f1, by rw [f2]; exact h2, by rw [f3]; exact h3, rfl⟩
/-- The same where a cell of a block of our own leads to the row, too. -/
theorem AW.moveC {c : Code} {Q : Exit → Tm → AMem → Prop} (old new d n rp j : Nat) {b e p : Blk} (hb : mem[old]? = some b) (hbk : b.kind = .grow) (he : mem[new]? = some e) (hek : e.kind = .grow) (hne : old ≠ new) (hd : Tm.get tm d = .one (.sl new e.ver 0 n))
    (hp : mem[rp]? = some p) (hpk : p.kind ≠ .ro) (hpo : rp ≠ old) (hpn : rp ≠ new) (hpj : p.cells[j]? = some (.sl new e.ver 0 n))
    (h : AW P nt c ((d, .one (.sl old (b.ver + 1) 0 n)) :: tm) (((mem.set old ⟨.grow, e.ty, b.ver + 1, e.esz, e.cells⟩).set new ⟨.grow, e.ty, e.ver + 1, e.esz, []⟩).set rp { p with cells := p.cells.set j (.sl old (b.ver + 1) 0 n) }) Q) : AW P nt c tm mem Q :=
  AW.moveP old new d n hb hbk he hek hne hd fun ρ2 a w heq hr => by
    obtain ⟨g1, g2⟩ := hr.mem.recell (r := rp) (j := j) (c := .sl old (b.ver + 1) 0 n) (b := p) (by rw [List.getElem?_set_ne (fun e => hpn e.symm), List.getElem?_set_ne (fun e => hpo e.symm)]; exact hp) hpk hpj (fun v hv => by
      obtain ⟨A, c0, B, cc, h2, h3⟩ := hv
      exact ⟨A, c0, B, cc, by rw [heq]; exact h2, h3⟩)
    refine wp_mono (h ρ2 a w ⟨hr.size, hr.tm, g1⟩) ?_
    rintro ee a' w' ⟨ρ3, tm2, mem2, hr2, hs2, hdd, hq⟩
    exact ⟨ρ3, tm2, mem2, hr2, g2.trans hs2, hdd, hq⟩
end Go.Eng

set_option linter.unusedSimpArgs false
set_option linter.unusedVariables false
set_option maxRecDepth 100000
set_option maxHeartbeats 4000000
namespace Go.Proofs.YtmjbbnfmhgcfaaaDoor
open Go Go.Eng

theorem wi {x : Int} (h : -9223372036854775808 ≤ x ∧ x ≤ 9223372036854775807) : IntKind.i64.wrap x = x := by rw [IntKind.wrap_i64]; omega
theorem w32 (x : Int) : IntKind.u32.wrap x = x % 4294967296 := by simp [IntKind.wrap, IntKind.signed, IntKind.bits]
theorem w8 (x : Int) : IntKind.u8.wrap x = x % 256 := by simp [IntKind.wrap, IntKind.signed, IntKind.bits]
/-- Bytes; words; a number's bits. -/
def u8l (bs : List Int) : List CV := bs.map (CV.int .u8)
theorem u8l_len (bs : List Int) : (u8l bs).length = bs.length := by simp [u8l]
theorem u8l_app (a b : List Int) : u8l a ++ u8l b = u8l (a ++ b) := by simp [u8l]
theorem u8l_vals (bs : List Int) : (u8l bs).all CV.isVal = true := by
  simp only [u8l, List.all_map, List.all_eq_true]; intro x _; rfl
theorem u8l_below (L : Nat) (bs : List Int) : (u8l bs).all (CV.below L) = true := by
  simp only [u8l, List.all_map, List.all_eq_true]; intro x _; rfl
def byB (bs : List Int) (i : Nat) : Int := bs.getD i 0
theorem u8l_get {bs : List Int} {i : Nat} (h : i < bs.length) : (u8l bs)[i]? = some (.int .u8 (byB bs i)) := by
  simp only [u8l, List.getElem?_map, byB, List.getD_eq_getElem?_getD, List.getElem?_eq_getElem h]; rfl
theorem u8l_take (bs : List Int) (n : Nat) : (u8l bs).take n = u8l (bs.take n) := by simp [u8l]
theorem u8l_drop (bs : List Int) (n : Nat) : (u8l bs).drop n = u8l (bs.drop n) := by simp [u8l]
def ul (xs : List Int) : List CV := xs.map (CV.int .u32)
theorem ul_len (xs : List Int) : (ul xs).length = xs.length := by simp [ul]
theorem ul_get {xs : List Int} {i : Nat} (h : i < xs.length) : (ul xs)[i]? = some (.int .u32 (xs.getD i 0)) := by
  simp only [ul, List.getElem?_map, List.getD_eq_getElem?_getD, List.getElem?_eq_getElem h]; rfl
theorem ul_set (xs : List Int) (i : Nat) (x : Int) : (ul xs).set i (.int .u32 x) = ul (xs.set i x) := by simp [ul, List.map_set]
theorem ul_vals (xs : List Int) : (ul xs).all CV.isVal = true := by
  simp only [ul, List.all_map, List.all_eq_true]; intro x _; rfl
theorem ul_below (L : Nat) (xs : List Int) : (ul xs).all (CV.below L) = true := by
  simp only [ul, List.all_map, List.all_eq_true]; intro x _; rfl
def R32 (x : Int) : Prop := 0 ≤ x ∧ x ≤ 4294967295
theorem r32w (x : Int) : R32 (IntKind.u32.wrap x) := by unfold R32; rw [w32]; omega
theorem r32b (op : BinOp) (x y : Int) : R32 (bits op .u32 x y) := r32w _
theorem or_comm (x y : Int) : bits .or .u32 x y = bits .or .u32 y x := by unfold bits; simp only; rw [BitVec.or_comm]
theorem ofInt32 {x : Int} (h : R32 x) : (BitVec.ofInt 32 x).toNat = x.toNat := by
  have := h.1; have := h.2
  rw [BitVec.toNat_ofInt]; omega
theorem or_add {x y : Int} (k : Nat) (q : Int) (hx : R32 x) (hy : 0 ≤ y) (e : x = 2 ^ k * q) (hq : 0 ≤ q) (hlt : y < 2 ^ k) (hk : k ≤ 32) : bits .or .u32 x y = x + y := by
  have h2 : (2 : Int) ^ k ≤ 4294967296 := by
    have := Nat.pow_le_pow_right (n := 2) (by omega) hk
    have e2 : ((2 ^ k : Nat) : Int) = (2 : Int) ^ k := by simp
    rw [← e2]; omega
  have hy' : R32 y := ⟨hy, by omega⟩
  have hn : x.toNat ||| y.toNat = x.toNat + y.toNat := by
    have ex : x.toNat = 2 ^ k * q.toNat := by
      have e2 : ((2 ^ k * q.toNat : Nat) : Int) = x := by rw [e]; simp [Int.natCast_mul, Int.toNat_of_nonneg hq]
      omega
    have ylt : y.toNat < 2 ^ k := by
      have e2 : ((2 ^ k : Nat) : Int) = (2 : Int) ^ k := by simp
      omega
    rw [ex, Nat.two_pow_add_eq_or_of_lt ylt]
  have hor : (BitVec.ofInt 32 x ||| BitVec.ofInt 32 y).toNat = x.toNat + y.toNat := by
    rw [BitVec.toNat_or, ofInt32 hx, ofInt32 hy', hn]
  have hlt2 : x.toNat + y.toNat < 2 ^ 32 := by rw [← hor]; exact (BitVec.ofInt 32 x ||| BitVec.ofInt 32 y).isLt
  show IntKind.u32.wrap ((BitVec.ofInt 32 x ||| BitVec.ofInt 32 y).toNat : Int) = x + y
  rw [hor, w32]; have := hx.1; omega
theorem xor_max {e : Int} (h : R32 e) : bits .xor .u32 4294967295 e = 4294967295 - e := by
  have h1 : BitVec.ofInt 32 4294967295 = BitVec.allOnes 32 := by decide
  have h2 : (BitVec.ofInt 32 4294967295 ^^^ BitVec.ofInt 32 e).toNat = 2 ^ 32 - 1 - e.toNat := by
    rw [h1, BitVec.allOnes_xor, BitVec.toNat_not, ofInt32 h]
  show IntKind.u32.wrap ((BitVec.ofInt 32 4294967295 ^^^ BitVec.ofInt 32 e).toNat : Int) = _
  rw [h2, w32]; have := h.1; have := h.2; omega
/-- Turned to the right. -/
def rotR (x : Int) (n : Nat) : Int := bits .or .u32 (x.fdiv (2 ^ n)) (IntKind.u32.wrap (x * 2 ^ (32 - n)))
theorem and31 : ∀ n : Fin 32, 1 ≤ n.val → bits .and .u64 (IntKind.u64.wrap (-(n.val : Int))) 31 = 32 - (n.val : Int) := by decide +kernel
theorem and31' {n : Nat} (h : 1 ≤ n ∧ n ≤ 31) : bits .and .u64 (IntKind.u64.wrap (-(n : Int))) 31 = 32 - (n : Int) := and31 ⟨n, by omega⟩ h.1
def s0 (x : Int) : Int := bits .xor .u32 (bits .xor .u32 (rotR x 7) (rotR x 18)) (x.fdiv 8)
def s1 (x : Int) : Int := bits .xor .u32 (bits .xor .u32 (rotR x 17) (rotR x 19)) (x.fdiv 1024)
def S0 (x : Int) : Int := bits .xor .u32 (bits .xor .u32 (rotR x 2) (rotR x 13)) (rotR x 22)
def S1 (x : Int) : Int := bits .xor .u32 (bits .xor .u32 (rotR x 6) (rotR x 11)) (rotR x 25)
def chF (e f g : Int) : Int := bits .xor .u32 (bits .and .u32 e f) (bits .and .u32 (bits .xor .u32 4294967295 e) g)
def maF (a b c : Int) : Int := bits .xor .u32 (bits .xor .u32 (bits .and .u32 a b) (bits .and .u32 a c)) (bits .and .u32 b c)
def a32 (x y : Int) : Int := IntKind.u32.wrap (x + y)
structure S8 where
  (a b c d e f g h : Int)
def t1F (K W : List Int) (i : Nat) (s : S8) : Int := a32 (a32 (a32 (a32 s.h (S1 s.e)) (chF s.e s.f s.g)) (K.getD i 0)) (W.getD i 0)
def rdF (K W : List Int) (i : Nat) (s : S8) : S8 := ⟨a32 (t1F K W i s) (a32 (S0 s.a) (maF s.a s.b s.c)), s.a, s.b, s.c, a32 s.d (t1F K W i s), s.e, s.f, s.g⟩
def rd (K W : List Int) (s : S8) : Nat → S8
  | 0 => s
  | i + 1 => rdF K W i (rd K W s i)
def wordV (bs : List Int) (o : Nat) : Int := byB bs o * 16777216 + byB bs (o + 1) * 65536 + byB bs (o + 2) * 256 + byB bs (o + 3)
def mixF (w : List Int) (i : Nat) : Int := a32 (a32 (a32 (w.getD (i - 16) 0) (s0 (w.getD (i - 15) 0))) (w.getD (i - 7) 0)) (s1 (w.getD (i - 2) 0))
def sch (bs : List Int) (o : Nat) : Nat → List Int
  | 0 => List.replicate 64 0
  | i + 1 => (sch bs o i).set i (if i < 16 then wordV bs (o + 4 * i) else mixF (sch bs o i) i)
theorem sch_len (bs : List Int) (o : Nat) : ∀ i, (sch bs o i).length = 64
  | 0 => by simp [sch]
  | i + 1 => by simp [sch, sch_len bs o i]
def add8 (s t : S8) : S8 := ⟨a32 s.a t.a, a32 s.b t.b, a32 s.c t.c, a32 s.d t.d, a32 s.e t.e, a32 s.f t.f, a32 s.g t.g, a32 s.h t.h⟩
/-- A block stirred in. -/
def comp (K : List Int) (s : S8) (bs : List Int) (o : Nat) : S8 := add8 s (rd K (sch bs o 64) s 64)
theorem p2_32 {n : Nat} (h : n ≤ 32) : (2 : Int) ^ min n IntKind.u32.bits = 2 ^ n := by rw [show IntKind.u32.bits = 32 from rfl, Nat.min_eq_left h]
theorem turn_c (x : Int) (n : Nat) (m : AMem) (h : 1 ≤ n ∧ n ≤ 31) : Ctr Tryd.prog 27 [.one (.int .u32 x), .one (.int .u64 (n : Int))] m (.one (.int .u32 (rotR x n))) m := by
  refine Ctr.enter Tryd.func27 rfl (by decide) (rs := [.tmp 4]) (nt := 13) rfl rfl fun hwf Q hQ => ?_
  have e1 : IntKind.u64.wrap (32 - (n : Int)) = ((32 - n : Nat) : Int) := by rw [IntKind.wrap_u64]; omega
  have q1 := p2_32 (n := n) (by omega)
  have q2 := p2_32 (n := 32 - n) (by omega)
  have c1 : ¬ (n : Int) < 0 := by omega
  have c2 : ¬ ((32 - n : Nat) : Int) < 0 := by omega
  iterate 2
    refine AW.seq_k fun K hK => ?_
    refine AW.region (by decide) ?_
    simp only [push_cast, Nat.reduceAdd, Nat.reduceMul, Nat.reduceSub, Nat.reduceLeDiff, Nat.reduceLT, Nat.reduceEqDiff, Nat.reduceBEq, Nat.reduceBNe, Nat.reduceMod, Nat.reduceDiv, Int.reduceLE, Int.reduceLT, Int.reduceToNat, Int.reduceAdd, Int.reduceSub, Int.reduceMul, Int.reduceNeg, Int.reduceEq, Int.reduceBEq, Int.reduceBNe, ↓reduceIte, reduceCtorEq, String.reduceBNe, String.reduceEq, reduceDIte, Nat.reducePow, e1, q1, q2, c1, c2]
    refine Thn_n ?_
    refine hK _ _ ?_
    clear hK K
  refine AW.ret ?_
  refine hQ _ _ _ ?_
  first | refine RetP.drop0 (Or.inr rfl) ?_ ?_ hwf | refine RetP.drop (Or.inr rfl) ?_ ?_ hwf
  · simp only [resA, resOne, resTv, AV.tv, push_cast, Nat.reduceAdd, Nat.reduceMul, Nat.reduceSub, Nat.reduceLeDiff, Nat.reduceLT, Nat.reduceEqDiff, Nat.reduceBEq, Nat.reduceBNe, Nat.reduceMod, Nat.reduceDiv, Int.reduceLE, Int.reduceLT, Int.reduceToNat, Int.reduceAdd, Int.reduceSub, Int.reduceMul, Int.reduceNeg, Int.reduceEq, Int.reduceBEq, Int.reduceBNe, ↓reduceIte, reduceCtorEq, String.reduceBNe, String.reduceEq, reduceDIte, Nat.reducePow, e1, q1, q2, c1, c2, rotR]
  · rfl
theorem rot_c (x : Int) (n : Nat) (m : AMem) (h : 1 ≤ n ∧ n ≤ 31) : Ctr Tryd.prog 34 [.one (.int .u32 x), .one (.int .i64 (-(n : Int)))] m (.one (.int .u32 (rotR x n))) m := by
  refine Ctr.enter Tryd.func34 rfl (by decide) (rs := [.tmp 4]) (nt := 17) rfl rfl fun hwf Q hQ => ?_
  have e0 := and31' h
  have e3 : 32 - (n : Int) = ((32 - n : Nat) : Int) := by omega
  rw [e3] at e0
  have e1 : IntKind.u64.wrap (32 - ((32 - n : Nat) : Int)) = (n : Int) := by rw [IntKind.wrap_u64]; omega
  have q1 := p2_32 (n := n) (by omega)
  have q2 := p2_32 (n := 32 - n) (by omega)
  have c1 : ¬ (n : Int) < 0 := by omega
  have c2 : ¬ ((32 - n : Nat) : Int) < 0 := by omega
  have oc := or_comm (x.fdiv (2 ^ n)) (IntKind.u32.wrap (x * 2 ^ (32 - n)))
  iterate 3
    refine AW.seq_k fun K hK => ?_
    refine AW.region (by decide) ?_
    simp only [push_cast, Nat.reduceAdd, Nat.reduceMul, Nat.reduceSub, Nat.reduceLeDiff, Nat.reduceLT, Nat.reduceEqDiff, Nat.reduceBEq, Nat.reduceBNe, Nat.reduceMod, Nat.reduceDiv, Int.reduceLE, Int.reduceLT, Int.reduceToNat, Int.reduceAdd, Int.reduceSub, Int.reduceMul, Int.reduceNeg, Int.reduceEq, Int.reduceBEq, Int.reduceBNe, ↓reduceIte, reduceCtorEq, String.reduceBNe, String.reduceEq, reduceDIte, Nat.reducePow, e0, e1, q1, q2, c1, c2]
    refine Thn_n ?_
    refine hK _ _ ?_
    clear hK K
  refine AW.ret ?_
  refine hQ _ _ _ ?_
  first | refine RetP.drop0 (Or.inr rfl) ?_ ?_ hwf | refine RetP.drop (Or.inr rfl) ?_ ?_ hwf
  · simp only [resA, resOne, resTv, AV.tv, push_cast, Nat.reduceAdd, Nat.reduceMul, Nat.reduceSub, Nat.reduceLeDiff, Nat.reduceLT, Nat.reduceEqDiff, Nat.reduceBEq, Nat.reduceBNe, Nat.reduceMod, Nat.reduceDiv, Int.reduceLE, Int.reduceLT, Int.reduceToNat, Int.reduceAdd, Int.reduceSub, Int.reduceMul, Int.reduceNeg, Int.reduceEq, Int.reduceBEq, Int.reduceBNe, ↓reduceIte, reduceCtorEq, String.reduceBNe, String.reduceEq, reduceDIte, Nat.reducePow, e0, e1, q1, q2, c1, c2, rotR, oc]
  · rfl
end Go.Proofs.YtmjbbnfmhgcfaaaDoor

set_option linter.unusedSimpArgs false
set_option linter.unusedVariables false
set_option maxRecDepth 100000
set_option maxHeartbeats 4000000
namespace Go.Proofs.YtmjbbnfmhgcfaaaDoor
open Go Go.Eng

def KW : List Int := [1116352408, 1899447441, 3049323471, 3921009573, 961987163, 1508970993, 2453635748, 2870763221, 3624381080, 310598401, 607225278, 1426881987, 1925078388, 2162078206, 2614888103, 3248222580, 3835390401, 4022224774, 264347078, 604807628, 770255983, 1249150122, 1555081692, 1996064986, 2554220882, 2821834349, 2952996808, 3210313671, 3336571891, 3584528711, 113926993, 338241895, 666307205, 773529912, 1294757372, 1396182291, 1695183700, 1986661051, 2177026350, 2456956037, 2730485921, 2820302411, 3259730800, 3345764771, 3516065817, 3600352804, 4094571909, 275423344, 430227734, 506948616, 659060556, 883997877, 958139571, 1322822218, 1537002063, 1747873779, 1955562222, 2024104815, 2227730452, 2361852424, 2428436474, 2756734187, 3204031479, 3329325298]
def IV : S8 := ⟨1779033703, 3144134277, 1013904242, 2773480762, 1359893119, 2600822924, 528734635, 1541459225⟩
def pS (m : AMem) (rp : Nat) (S : S8) (b : CV) (n : Int) : AMem := m.set rp ⟨.fix, 66, 0, 0, [.int .u32 (S).a, .int .u32 (S).b, .int .u32 (S).c, .int .u32 (S).d, .int .u32 (S).e, .int .u32 (S).f, .int .u32 (S).g, .int .u32 (S).h, b, .int .u64 n]⟩
theorem pS_len (m : AMem) (rp : Nat) (S : S8) (b : CV) (n : Int) : (pS m rp S b n).length = m.length := List.length_set
theorem pS_wf {L : Nat} {m : AMem} (rp : Nat) (S : S8) {b : CV} (n : Int) (hb : b.below L = true) (h : MWf L m) : MWf L (pS m rp S b n) := fun x hx => by
  rcases List.mem_or_eq_of_mem_set hx with h1 | rfl
  · exact h x h1
  · show List.all [.int .u32 (S).a, .int .u32 (S).b, .int .u32 (S).c, .int .u32 (S).d, .int .u32 (S).e, .int .u32 (S).f, .int .u32 (S).g, .int .u32 (S).h, b, .int .u64 n] (CV.below L) = true
    simp only [List.all_cons, List.all_nil]; rw [hb]; rfl
def fourL (n : Int) : List Int := [IntKind.u8.wrap (n.fdiv 16777216), IntKind.u8.wrap (n.fdiv 65536), IntKind.u8.wrap (n.fdiv 256), IntKind.u8.wrap n]
theorem setL_full {α : Type} : ∀ {vs l : List α}, l.length = vs.length → setL l 0 vs = vs := by
  have h : ∀ (vs l pre : List α), l.length = vs.length → setL (pre ++ l) pre.length vs = pre ++ vs := by
    intro vs
    induction vs with
    | nil => intro l pre h; cases l with
      | nil => rfl
      | cons => simp at h
    | cons v vs ih =>
      intro l pre h
      cases l with
      | nil => simp at h
      | cons x l =>
        have := ih l (pre ++ [v]) (by simpa using h)
        simp only [setL]
        rw [List.set_append_right _ _ (Nat.le_refl _), Nat.sub_self, List.set_cons_zero]
        simpa using this
  intro vs l hl
  exact h vs l [] hl
theorem wordV_or {b0 b1 b2 b3 : Int} (h0 : 0 ≤ b0 ∧ b0 ≤ 255) (h1 : 0 ≤ b1 ∧ b1 ≤ 255) (h2 : 0 ≤ b2 ∧ b2 ≤ 255) (h3 : 0 ≤ b3 ∧ b3 ≤ 255) :
    bits .or .u32 (bits .or .u32 (bits .or .u32 (b0 * 16777216) (b1 * 65536)) (b2 * 256)) b3 = b0 * 16777216 + b1 * 65536 + b2 * 256 + b3 := by
  have e1 : bits .or .u32 (b0 * 16777216) (b1 * 65536) = b0 * 16777216 + b1 * 65536 := or_add 24 b0 ⟨by omega, by omega⟩ (by omega) (by omega) h0.1 (by omega) (by decide)
  have e2 : bits .or .u32 (b0 * 16777216 + b1 * 65536) (b2 * 256) = b0 * 16777216 + b1 * 65536 + b2 * 256 := or_add 16 (b0 * 256 + b1) ⟨by omega, by omega⟩ (by omega) (by omega) (by omega) (by omega) (by decide)
  rw [e1, e2]
  exact or_add 8 (b0 * 65536 + b1 * 256 + b2) ⟨by omega, by omega⟩ (by omega) (by omega) (by omega) (by omega) (by decide)
theorem words_c (m : AMem) : Ctr Tryd.prog 32 [] m (.agg (ul KW)) m := by
  refine Ctr.enter Tryd.func32 rfl (by decide) (rs := [.cell 0 29]) (nt := 2) rfl rfl fun hwf Q hQ => ?_
  iterate 2
    refine AW.seq_k fun K hK => ?_
    refine AW.region (by decide) ?_
    simp only [push_cast, Nat.reduceAdd, Nat.reduceMul, Nat.reduceSub, Nat.reduceLeDiff, Nat.reduceLT, Nat.reduceEqDiff, Nat.reduceBEq, Nat.reduceBNe, Nat.reduceMod, Nat.reduceDiv, Int.reduceLE, Int.reduceLT, Int.reduceToNat, Int.reduceAdd, Int.reduceSub, Int.reduceMul, Int.reduceNeg, Int.reduceEq, Int.reduceBEq, Int.reduceBNe, ↓reduceIte, reduceCtorEq, String.reduceBNe, String.reduceEq, reduceDIte, Nat.reducePow]
    refine Thn_n ?_
    refine hK _ _ ?_
    clear hK K
  refine AW.ret ?_
  refine hQ _ _ _ ?_
  first | refine RetP.drop0 (Or.inr rfl) ?_ ?_ hwf | refine RetP.drop (Or.inr rfl) ?_ ?_ hwf
  · simp only [resA, resOne, resTv, AV.tv, push_cast, Nat.reduceAdd, Nat.reduceMul, Nat.reduceSub, Nat.reduceLeDiff, Nat.reduceLT, Nat.reduceEqDiff, Nat.reduceBEq, Nat.reduceBNe, Nat.reduceMod, Nat.reduceDiv, Int.reduceLE, Int.reduceLT, Int.reduceToNat, Int.reduceAdd, Int.reduceSub, Int.reduceMul, Int.reduceNeg, Int.reduceEq, Int.reduceBEq, Int.reduceBNe, ↓reduceIte, reduceCtorEq, String.reduceBNe, String.reduceEq, reduceDIte, Nat.reducePow, ul, KW]
  · rfl
theorem new_c (m : AMem) : Ctr Tryd.prog 20 [] m (.one (.ptr m.length 0 0)) (m ++ [⟨.fix, 66, 0, 0, [.int .u32 (IV).a, .int .u32 (IV).b, .int .u32 (IV).c, .int .u32 (IV).d, .int .u32 (IV).e, .int .u32 (IV).f, .int .u32 (IV).g, .int .u32 (IV).h, .nils, .int .u64 0]⟩]) := by
  refine Ctr.enter Tryd.func20 rfl (by decide) (rs := [.tmp 0]) (nt := 4) rfl rfl fun hwf Q hQ => ?_
  iterate 2
    refine AW.seq_k fun K hK => ?_
    refine AW.region (by decide) ?_
    simp only [push_cast, Nat.reduceAdd, Nat.reduceMul, Nat.reduceSub, Nat.reduceLeDiff, Nat.reduceLT, Nat.reduceEqDiff, Nat.reduceBEq, Nat.reduceBNe, Nat.reduceMod, Nat.reduceDiv, Int.reduceLE, Int.reduceLT, Int.reduceToNat, Int.reduceAdd, Int.reduceSub, Int.reduceMul, Int.reduceNeg, Int.reduceEq, Int.reduceBEq, Int.reduceBNe, ↓reduceIte, reduceCtorEq, String.reduceBNe, String.reduceEq, reduceDIte, Nat.reducePow]
    refine Thn_n ?_
    refine hK _ _ ?_
    clear hK K
  refine AW.ret ?_
  refine hQ _ _ _ ?_
  refine RetP.pick [(m.length, 0)] (Or.inr rfl) ?_ ?_ ?_ hwf ?_
  · simp only [resA, resOne, resTv, AV.tv, push_cast, Nat.reduceAdd, Nat.reduceMul, Nat.reduceSub, Nat.reduceLeDiff, Nat.reduceLT, Nat.reduceEqDiff, Nat.reduceBEq, Nat.reduceBNe, Nat.reduceMod, Nat.reduceDiv, Int.reduceLE, Int.reduceLT, Int.reduceToNat, Int.reduceAdd, Int.reduceSub, Int.reduceMul, Int.reduceNeg, Int.reduceEq, Int.reduceBEq, Int.reduceBNe, ↓reduceIte, reduceCtorEq, String.reduceBNe, String.reduceEq, reduceDIte, Nat.reducePow]
    simp [renV, renT, renL, renC, renIdx]
  · simp only [picks, push_cast, Nat.reduceAdd, Nat.reduceMul, Nat.reduceSub, Nat.reduceLeDiff, Nat.reduceLT, Nat.reduceEqDiff, Nat.reduceBEq, Nat.reduceBNe, Nat.reduceMod, Nat.reduceDiv, Int.reduceLE, Int.reduceLT, Int.reduceToNat, Int.reduceAdd, Int.reduceSub, Int.reduceMul, Int.reduceNeg, Int.reduceEq, Int.reduceBEq, Int.reduceBNe, ↓reduceIte, reduceCtorEq, String.reduceBNe, String.reduceEq, reduceDIte, Nat.reducePow]; rfl
  · simp [distinctFrom]
  · exact MWf_one rfl
  
theorem four_c (n : Int) (m : AMem) : Ctr Tryd.prog 29 [.one (.int .u32 n)] m (.one (.sl m.length 0 0 4)) (m ++ [⟨.grow, 5, 0, 1, u8l (fourL n)⟩]) := by
  refine Ctr.enter Tryd.func29 rfl (by decide) (rs := [.tmp 2]) (nt := 15) rfl rfl fun hwf Q hQ => ?_
  have q1 := p2_32 (n := 24) (by decide)
  have q2 := p2_32 (n := 16) (by decide)
  have q3 := p2_32 (n := 8) (by decide)
  have q4 : (2:Int)^24 = 16777216 := by decide
  have q5 : (2:Int)^16 = 65536 := by decide
  have q6 : (2:Int)^8 = 256 := by decide
  iterate 2
    refine AW.seq_k fun K hK => ?_
    refine AW.region (by decide) ?_
    simp only [push_cast, Nat.reduceAdd, Nat.reduceMul, Nat.reduceSub, Nat.reduceLeDiff, Nat.reduceLT, Nat.reduceEqDiff, Nat.reduceBEq, Nat.reduceBNe, Nat.reduceMod, Nat.reduceDiv, Int.reduceLE, Int.reduceLT, Int.reduceToNat, Int.reduceAdd, Int.reduceSub, Int.reduceMul, Int.reduceNeg, Int.reduceEq, Int.reduceBEq, Int.reduceBNe, ↓reduceIte, reduceCtorEq, String.reduceBNe, String.reduceEq, reduceDIte, Nat.reducePow, q1, q2, q3, q4, q5, q6]
    refine Thn_n ?_
    refine hK _ _ ?_
    clear hK K
  refine AW.ret ?_
  refine hQ _ _ _ ?_
  refine RetP.pick [(m.length, 0)] (Or.inr rfl) ?_ ?_ ?_ hwf ?_
  · simp only [resA, resOne, resTv, AV.tv, push_cast, Nat.reduceAdd, Nat.reduceMul, Nat.reduceSub, Nat.reduceLeDiff, Nat.reduceLT, Nat.reduceEqDiff, Nat.reduceBEq, Nat.reduceBNe, Nat.reduceMod, Nat.reduceDiv, Int.reduceLE, Int.reduceLT, Int.reduceToNat, Int.reduceAdd, Int.reduceSub, Int.reduceMul, Int.reduceNeg, Int.reduceEq, Int.reduceBEq, Int.reduceBNe, ↓reduceIte, reduceCtorEq, String.reduceBNe, String.reduceEq, reduceDIte, Nat.reducePow]
    simp [renV, renT, renL, renC, renIdx]
  · simp only [picks, push_cast, Nat.reduceAdd, Nat.reduceMul, Nat.reduceSub, Nat.reduceLeDiff, Nat.reduceLT, Nat.reduceEqDiff, Nat.reduceBEq, Nat.reduceBNe, Nat.reduceMod, Nat.reduceDiv, Int.reduceLE, Int.reduceLT, Int.reduceToNat, Int.reduceAdd, Int.reduceSub, Int.reduceMul, Int.reduceNeg, Int.reduceEq, Int.reduceBEq, Int.reduceBNe, ↓reduceIte, reduceCtorEq, String.reduceBNe, String.reduceEq, reduceDIte, Nat.reducePow]; rfl
  · simp [distinctFrom]
  · exact MWf_one (u8l_below _ _)
  
theorem word_c (rb v off len : Nat) (bs : List Int) (m : AMem) (hb : ∃ k ez, m[rb]? = some ⟨k, 5, v, ez, u8l bs⟩) (hl : 4 ≤ len) (hf : off + len ≤ bs.length) (hu : ∀ i, 0 ≤ byB bs i ∧ byB bs i ≤ 255) : Ctr Tryd.prog 33 [.one (.sl rb v off len)] m (.one (.int .u32 (wordV bs off))) m := by
  refine Ctr.enter Tryd.func33 rfl (by decide) (rs := [.tmp 2]) (nt := 25) rfl rfl fun hwf Q hQ => ?_
  obtain ⟨k0, ez, hb⟩ := hb
  have lb := get_lt hb
  have g0 := u8l_get (bs := bs) (i := off) (by omega)
  have u0 := hu (off)
  have x0 : IntKind.u32.wrap (byB bs (off)) = byB bs (off) := by rw [w32]; omega
  have c0 : (0 : Int) < (len : Int) := by omega
  have g1 := u8l_get (bs := bs) (i := off + 1) (by omega)
  have u1 := hu (off + 1)
  have x1 : IntKind.u32.wrap (byB bs (off + 1)) = byB bs (off + 1) := by rw [w32]; omega
  have c1 : (1 : Int) < (len : Int) := by omega
  have g2 := u8l_get (bs := bs) (i := off + 2) (by omega)
  have u2 := hu (off + 2)
  have x2 : IntKind.u32.wrap (byB bs (off + 2)) = byB bs (off + 2) := by rw [w32]; omega
  have c2 : (2 : Int) < (len : Int) := by omega
  have g3 := u8l_get (bs := bs) (i := off + 3) (by omega)
  have u3 := hu (off + 3)
  have x3 : IntKind.u32.wrap (byB bs (off + 3)) = byB bs (off + 3) := by rw [w32]; omega
  have c3 : (3 : Int) < (len : Int) := by omega
  have q1 := p2_32 (n := 24) (by decide)
  have q2 := p2_32 (n := 16) (by decide)
  have q3 := p2_32 (n := 8) (by decide)
  have q4 : (2:Int)^24 = 16777216 := by decide
  have q5 : (2:Int)^16 = 65536 := by decide
  have q6 : (2:Int)^8 = 256 := by decide
  have y0 : IntKind.u32.wrap (byB bs off * 16777216) = byB bs off * 16777216 := by rw [w32]; omega
  have y1 : IntKind.u32.wrap (byB bs (off + 1) * 65536) = byB bs (off + 1) * 65536 := by rw [w32]; omega
  have y2 : IntKind.u32.wrap (byB bs (off + 2) * 256) = byB bs (off + 2) * 256 := by rw [w32]; omega
  have hw := wordV_or u0 u1 u2 u3
  refine AW.seq_k fun K hK => ?_
  refine AW.region (by decide) ?_
  simp only [push_cast, Nat.reduceAdd, Nat.reduceMul, Nat.reduceSub, Nat.reduceLeDiff, Nat.reduceLT, Nat.reduceEqDiff, Nat.reduceBEq, Nat.reduceBNe, Nat.reduceMod, Nat.reduceDiv, Int.reduceLE, Int.reduceLT, Int.reduceToNat, Int.reduceAdd, Int.reduceSub, Int.reduceMul, Int.reduceNeg, Int.reduceEq, Int.reduceBEq, Int.reduceBNe, ↓reduceIte, reduceCtorEq, String.reduceBNe, String.reduceEq, reduceDIte, Nat.reducePow, hb, lk_old hb, g0, g1, g2, g3, x0, x1, x2, x3, c0, c1, c2, c3, q1, q2, q3, q4, q5, q6, y0, y1, y2]
  refine Thn_n ?_
  refine hK _ _ ?_
  clear hK K
  refine AW.seq_k fun K hK => ?_
  refine AW.draw [.val, .val, .rd 0, .val, .val, .val, .val, .rd 0, .val, .val, .val, .val, .val, .rd 0, .val, .val, .val, .val, .val, .rd 0, .val, .val, .val] fol (by decide) (by kernel_rfl) ?_
  simp only [push_cast, Nat.reduceAdd, Nat.reduceMul, Nat.reduceSub, Nat.reduceLeDiff, Nat.reduceLT, Nat.reduceEqDiff, Nat.reduceBEq, Nat.reduceBNe, Nat.reduceMod, Nat.reduceDiv, Int.reduceLE, Int.reduceLT, Int.reduceToNat, Int.reduceAdd, Int.reduceSub, Int.reduceMul, Int.reduceNeg, Int.reduceEq, Int.reduceBEq, Int.reduceBNe, ↓reduceIte, reduceCtorEq, String.reduceBNe, String.reduceEq, reduceDIte, Nat.reducePow, hb, lk_old hb, g0, g1, g2, g3, x0, x1, x2, x3, c0, c1, c2, c3, q1, q2, q3, q4, q5, q6, y0, y1, y2]
  refine Thn_n ?_
  refine hK _ _ ?_
  clear hK K
  refine AW.ret ?_
  refine hQ _ _ _ ?_
  first | refine RetP.drop0 (Or.inr rfl) ?_ ?_ hwf | refine RetP.drop (Or.inr rfl) ?_ ?_ hwf
  · simp only [resA, resOne, resTv, AV.tv, push_cast, Nat.reduceAdd, Nat.reduceMul, Nat.reduceSub, Nat.reduceLeDiff, Nat.reduceLT, Nat.reduceEqDiff, Nat.reduceBEq, Nat.reduceBNe, Nat.reduceMod, Nat.reduceDiv, Int.reduceLE, Int.reduceLT, Int.reduceToNat, Int.reduceAdd, Int.reduceSub, Int.reduceMul, Int.reduceNeg, Int.reduceEq, Int.reduceBEq, Int.reduceBNe, ↓reduceIte, reduceCtorEq, String.reduceBNe, String.reduceEq, reduceDIte, Nat.reducePow, hb, lk_old hb, g0, g1, g2, g3, x0, x1, x2, x3, c0, c1, c2, c3, q1, q2, q3, q4, q5, q6, y0, y1, y2, wordV, hw]
  · rfl
end Go.Proofs.YtmjbbnfmhgcfaaaDoor

set_option linter.unusedSimpArgs false
set_option linter.unusedVariables false
set_option maxRecDepth 100000
set_option maxHeartbeats 4000000
namespace Go.Proofs.YtmjbbnfmhgcfaaaDoor
open Go Go.Eng

def w64 (x : Int) : Int := IntKind.u64.wrap x
def u64l (xs : List Int) : List CV := xs.map (CV.int .u64)
theorem u64l_len (xs : List Int) : (u64l xs).length = xs.length := by simp [u64l]
theorem u64l_get {xs : List Int} {i : Nat} (h : i < xs.length) : (u64l xs)[i]? = some (.int .u64 (xs.getD i 0)) := by
  simp only [u64l, List.getElem?_map, List.getD_eq_getElem?_getD, List.getElem?_eq_getElem h]; rfl
theorem u64l_set (xs : List Int) (i : Nat) (x : Int) : (u64l xs).set i (.int .u64 x) = u64l (xs.set i x) := by simp [u64l, List.map_set]
theorem u64l_below (L : Nat) (xs : List Int) : (u64l xs).all (CV.below L) = true := by
  simp only [u64l, List.all_map, List.all_eq_true]; intro x _; rfl
theorem u64l_snoc (xs : List Int) (x : Int) : u64l xs ++ [.int .u64 x] = u64l (xs ++ [x]) := by simp [u64l]
theorem u64l_zero (n : Nat) : zeros (.int .u64 0) n = u64l (List.replicate n 0) := by
  simp only [zeros, u64l, List.map_replicate, Value.cells]
  apply List.ext_getElem?
  intro i
  simp [Nat.mod_one, cellOf, List.getElem?_replicate, List.getElem?_range']
  split <;> simp_all
def halfI (x n : Int) : Bool :=
  let a := w64 (x.tdiv 4294967296)
  let b := x.tmod 4294967296
  let high := w64 (w64 (a * a) + w64 ((w64 (w64 (2 * a) * b)).tdiv 4294967296))
  let low := w64 ((w64 (w64 (2 * a) * b)).tmod 4294967296 * 4294967296)
  let sum := w64 (low + w64 (b * b))
  let h2 := if sum < low then w64 (high + 1) else high
  if h2 < n then true else if h2 = n then sum == 0 else false
def bitR (b : Int) : Nat → Int
  | 0 => b
  | t + 1 => w64 ((bitR b t).tdiv 2)
def rootX (n : Int) : Nat → Int
  | 0 => 0
  | t + 1 => if halfI (w64 (rootX n t + bitR 68719476736 t)) n then w64 (rootX n t + bitR 68719476736 t) else rootX n t
def rootI (n : Int) : Int := IntKind.u32.wrap ((rootX n 37).tmod 4294967296)
theorem bitR_pos : ∀ k : Fin 37, 0 < bitR 68719476736 k.val := by decide +kernel
theorem bitR_end : bitR 68719476736 37 = 0 := by decide +kernel
theorem bitC_pos : ∀ k : Fin 36, 0 < bitR 34359738368 k.val := by decide +kernel
theorem bitC_end : bitR 34359738368 36 = 0 := by decide +kernel
theorem half_c (x n : Int) (m : AMem) : Ctr Tryd.prog 25 [.one (.int .u64 x), .one (.int .u64 n)] m (.one (.bool (halfI x n))) m := by
  refine Ctr.enter Tryd.func25 rfl (by decide) (rs := [.tmp 4]) (nt := 51) rfl rfl fun hwf Q hQ => ?_
  iterate 5
    refine AW.seq_k fun K hK => ?_
    refine AW.region (by decide) ?_
    simp only [push_cast, Nat.reduceAdd, Nat.reduceMul, Nat.reduceSub, Nat.reduceLeDiff, Nat.reduceLT, Nat.reduceEqDiff, Nat.reduceBEq, Nat.reduceBNe, Nat.reduceMod, Nat.reduceDiv, Int.reduceLE, Int.reduceLT, Int.reduceToNat, Int.reduceAdd, Int.reduceSub, Int.reduceMul, Int.reduceNeg, Int.reduceEq, Int.reduceBEq, Int.reduceBNe, ↓reduceIte, reduceCtorEq, String.reduceBNe, String.reduceEq, reduceDIte, Nat.reducePow]
    refine Thn_n ?_
    refine hK _ _ ?_
    clear hK K
  refine AW.seq_k fun K hK => ?_
  refine AW.seq_k fun K hK => ?_
  refine AW.region (by decide) ?_
  simp only [push_cast, Nat.reduceAdd, Nat.reduceMul, Nat.reduceSub, Nat.reduceLeDiff, Nat.reduceLT, Nat.reduceEqDiff, Nat.reduceBEq, Nat.reduceBNe, Nat.reduceMod, Nat.reduceDiv, Int.reduceLE, Int.reduceLT, Int.reduceToNat, Int.reduceAdd, Int.reduceSub, Int.reduceMul, Int.reduceNeg, Int.reduceEq, Int.reduceBEq, Int.reduceBNe, ↓reduceIte, reduceCtorEq, String.reduceBNe, String.reduceEq, reduceDIte, Nat.reducePow]
  refine Thn_n ?_
  refine hK _ _ ?_
  clear hK K
  refine AW.cond rfl (fun h36 => ?_) (fun h36 => ?_)
  · have hs := of_decide_eq_true h36
    rcases Int.lt_trichotomy (IntKind.u64.wrap (IntKind.u64.wrap (IntKind.u64.wrap (IntKind.u64.wrap (x.tdiv 4294967296) * IntKind.u64.wrap (x.tdiv 4294967296)) + IntKind.u64.wrap ((IntKind.u64.wrap (IntKind.u64.wrap (2 * IntKind.u64.wrap (x.tdiv 4294967296)) * x.tmod 4294967296)).tdiv 4294967296)) + 1)) n with hc | hc | hc
    · refine AW.region (by decide) ?_
      simp only [push_cast, Nat.reduceAdd, Nat.reduceMul, Nat.reduceSub, Nat.reduceLeDiff, Nat.reduceLT, Nat.reduceEqDiff, Nat.reduceBEq, Nat.reduceBNe, Nat.reduceMod, Nat.reduceDiv, Int.reduceLE, Int.reduceLT, Int.reduceToNat, Int.reduceAdd, Int.reduceSub, Int.reduceMul, Int.reduceNeg, Int.reduceEq, Int.reduceBEq, Int.reduceBNe, ↓reduceIte, reduceCtorEq, String.reduceBNe, String.reduceEq, reduceDIte, Nat.reducePow, hs, hc]
      refine Thn_n ?_
      refine hK _ _ ?_
      clear hK K
      refine AW.seq_k fun K hK => ?_
      refine AW.region (by decide) ?_
      simp only [push_cast, Nat.reduceAdd, Nat.reduceMul, Nat.reduceSub, Nat.reduceLeDiff, Nat.reduceLT, Nat.reduceEqDiff, Nat.reduceBEq, Nat.reduceBNe, Nat.reduceMod, Nat.reduceDiv, Int.reduceLE, Int.reduceLT, Int.reduceToNat, Int.reduceAdd, Int.reduceSub, Int.reduceMul, Int.reduceNeg, Int.reduceEq, Int.reduceBEq, Int.reduceBNe, ↓reduceIte, reduceCtorEq, String.reduceBNe, String.reduceEq, reduceDIte, Nat.reducePow, hs, hc]
      refine Thn_n ?_
      refine hK _ _ ?_
      clear hK K
      refine AW.ret ?_
      refine hQ _ _ _ ?_
      first | refine RetP.drop0 (Or.inr rfl) ?_ ?_ hwf | refine RetP.drop (Or.inr rfl) ?_ ?_ hwf
      · simp only [resA, resOne, resTv, AV.tv, push_cast, Nat.reduceAdd, Nat.reduceMul, Nat.reduceSub, Nat.reduceLeDiff, Nat.reduceLT, Nat.reduceEqDiff, Nat.reduceBEq, Nat.reduceBNe, Nat.reduceMod, Nat.reduceDiv, Int.reduceLE, Int.reduceLT, Int.reduceToNat, Int.reduceAdd, Int.reduceSub, Int.reduceMul, Int.reduceNeg, Int.reduceEq, Int.reduceBEq, Int.reduceBNe, ↓reduceIte, reduceCtorEq, String.reduceBNe, String.reduceEq, reduceDIte, Nat.reducePow, hs, hc, halfI, w64]
      · rfl
    · have c1 : (n == n) = true := beq_self_eq_true n
      refine AW.region (by decide) ?_
      simp only [push_cast, Nat.reduceAdd, Nat.reduceMul, Nat.reduceSub, Nat.reduceLeDiff, Nat.reduceLT, Nat.reduceEqDiff, Nat.reduceBEq, Nat.reduceBNe, Nat.reduceMod, Nat.reduceDiv, Int.reduceLE, Int.reduceLT, Int.reduceToNat, Int.reduceAdd, Int.reduceSub, Int.reduceMul, Int.reduceNeg, Int.reduceEq, Int.reduceBEq, Int.reduceBNe, ↓reduceIte, reduceCtorEq, String.reduceBNe, String.reduceEq, reduceDIte, Nat.reducePow, hs, hc, c1, Int.lt_irrefl]
      refine Thn_n ?_
      refine hK _ _ ?_
      clear hK K
      refine AW.seq_k fun K hK => ?_
      refine AW.region (by decide) ?_
      simp only [push_cast, Nat.reduceAdd, Nat.reduceMul, Nat.reduceSub, Nat.reduceLeDiff, Nat.reduceLT, Nat.reduceEqDiff, Nat.reduceBEq, Nat.reduceBNe, Nat.reduceMod, Nat.reduceDiv, Int.reduceLE, Int.reduceLT, Int.reduceToNat, Int.reduceAdd, Int.reduceSub, Int.reduceMul, Int.reduceNeg, Int.reduceEq, Int.reduceBEq, Int.reduceBNe, ↓reduceIte, reduceCtorEq, String.reduceBNe, String.reduceEq, reduceDIte, Nat.reducePow, hs, hc, c1, Int.lt_irrefl]
      refine Thn_n ?_
      refine hK _ _ ?_
      clear hK K
      refine AW.ret ?_
      refine hQ _ _ _ ?_
      first | refine RetP.drop0 (Or.inr rfl) ?_ ?_ hwf | refine RetP.drop (Or.inr rfl) ?_ ?_ hwf
      · simp only [resA, resOne, resTv, AV.tv, push_cast, Nat.reduceAdd, Nat.reduceMul, Nat.reduceSub, Nat.reduceLeDiff, Nat.reduceLT, Nat.reduceEqDiff, Nat.reduceBEq, Nat.reduceBNe, Nat.reduceMod, Nat.reduceDiv, Int.reduceLE, Int.reduceLT, Int.reduceToNat, Int.reduceAdd, Int.reduceSub, Int.reduceMul, Int.reduceNeg, Int.reduceEq, Int.reduceBEq, Int.reduceBNe, ↓reduceIte, reduceCtorEq, String.reduceBNe, String.reduceEq, reduceDIte, Nat.reducePow, hs, hc, c1, Int.lt_irrefl, halfI, w64]
      · rfl
    · have c1 : ¬ (IntKind.u64.wrap (IntKind.u64.wrap (IntKind.u64.wrap (IntKind.u64.wrap (x.tdiv 4294967296) * IntKind.u64.wrap (x.tdiv 4294967296)) + IntKind.u64.wrap ((IntKind.u64.wrap (IntKind.u64.wrap (2 * IntKind.u64.wrap (x.tdiv 4294967296)) * x.tmod 4294967296)).tdiv 4294967296)) + 1)) < n := by omega
      have c2 : ((IntKind.u64.wrap (IntKind.u64.wrap (IntKind.u64.wrap (IntKind.u64.wrap (x.tdiv 4294967296) * IntKind.u64.wrap (x.tdiv 4294967296)) + IntKind.u64.wrap ((IntKind.u64.wrap (IntKind.u64.wrap (2 * IntKind.u64.wrap (x.tdiv 4294967296)) * x.tmod 4294967296)).tdiv 4294967296)) + 1)) == n) = false := by simp; omega
      have c3 : ¬ (IntKind.u64.wrap (IntKind.u64.wrap (IntKind.u64.wrap (IntKind.u64.wrap (x.tdiv 4294967296) * IntKind.u64.wrap (x.tdiv 4294967296)) + IntKind.u64.wrap ((IntKind.u64.wrap (IntKind.u64.wrap (2 * IntKind.u64.wrap (x.tdiv 4294967296)) * x.tmod 4294967296)).tdiv 4294967296)) + 1)) = n := by omega
      refine AW.region (by decide) ?_
      simp only [push_cast, Nat.reduceAdd, Nat.reduceMul, Nat.reduceSub, Nat.reduceLeDiff, Nat.reduceLT, Nat.reduceEqDiff, Nat.reduceBEq, Nat.reduceBNe, Nat.reduceMod, Nat.reduceDiv, Int.reduceLE, Int.reduceLT, Int.reduceToNat, Int.reduceAdd, Int.reduceSub, Int.reduceMul, Int.reduceNeg, Int.reduceEq, Int.reduceBEq, Int.reduceBNe, ↓reduceIte, reduceCtorEq, String.reduceBNe, String.reduceEq, reduceDIte, Nat.reducePow, hs, c1, c2, c3]
      refine Thn_n ?_
      refine hK _ _ ?_
      clear hK K
      refine AW.seq_k fun K hK => ?_
      refine AW.region (by decide) ?_
      simp only [push_cast, Nat.reduceAdd, Nat.reduceMul, Nat.reduceSub, Nat.reduceLeDiff, Nat.reduceLT, Nat.reduceEqDiff, Nat.reduceBEq, Nat.reduceBNe, Nat.reduceMod, Nat.reduceDiv, Int.reduceLE, Int.reduceLT, Int.reduceToNat, Int.reduceAdd, Int.reduceSub, Int.reduceMul, Int.reduceNeg, Int.reduceEq, Int.reduceBEq, Int.reduceBNe, ↓reduceIte, reduceCtorEq, String.reduceBNe, String.reduceEq, reduceDIte, Nat.reducePow, hs, c1, c2, c3]
      refine Thn_n ?_
      refine hK _ _ ?_
      clear hK K
      refine AW.ret ?_
      refine hQ _ _ _ ?_
      first | refine RetP.drop0 (Or.inr rfl) ?_ ?_ hwf | refine RetP.drop (Or.inr rfl) ?_ ?_ hwf
      · simp only [resA, resOne, resTv, AV.tv, push_cast, Nat.reduceAdd, Nat.reduceMul, Nat.reduceSub, Nat.reduceLeDiff, Nat.reduceLT, Nat.reduceEqDiff, Nat.reduceBEq, Nat.reduceBNe, Nat.reduceMod, Nat.reduceDiv, Int.reduceLE, Int.reduceLT, Int.reduceToNat, Int.reduceAdd, Int.reduceSub, Int.reduceMul, Int.reduceNeg, Int.reduceEq, Int.reduceBEq, Int.reduceBNe, ↓reduceIte, reduceCtorEq, String.reduceBNe, String.reduceEq, reduceDIte, Nat.reducePow, hs, c1, c2, c3, halfI, w64]
      · rfl
  · have hs := of_decide_eq_false h36
    rcases Int.lt_trichotomy (IntKind.u64.wrap (IntKind.u64.wrap (IntKind.u64.wrap (x.tdiv 4294967296) * IntKind.u64.wrap (x.tdiv 4294967296)) + IntKind.u64.wrap ((IntKind.u64.wrap (IntKind.u64.wrap (2 * IntKind.u64.wrap (x.tdiv 4294967296)) * x.tmod 4294967296)).tdiv 4294967296))) n with hc | hc | hc
    · refine AW.skip ?_
      refine Thn_n ?_
      refine hK _ _ ?_
      clear hK K
      refine AW.seq_k fun K hK => ?_
      refine AW.region (by decide) ?_
      simp only [push_cast, Nat.reduceAdd, Nat.reduceMul, Nat.reduceSub, Nat.reduceLeDiff, Nat.reduceLT, Nat.reduceEqDiff, Nat.reduceBEq, Nat.reduceBNe, Nat.reduceMod, Nat.reduceDiv, Int.reduceLE, Int.reduceLT, Int.reduceToNat, Int.reduceAdd, Int.reduceSub, Int.reduceMul, Int.reduceNeg, Int.reduceEq, Int.reduceBEq, Int.reduceBNe, ↓reduceIte, reduceCtorEq, String.reduceBNe, String.reduceEq, reduceDIte, Nat.reducePow, hs, hc]
      refine Thn_n ?_
      refine hK _ _ ?_
      clear hK K
      refine AW.ret ?_
      refine hQ _ _ _ ?_
      first | refine RetP.drop0 (Or.inr rfl) ?_ ?_ hwf | refine RetP.drop (Or.inr rfl) ?_ ?_ hwf
      · simp only [resA, resOne, resTv, AV.tv, push_cast, Nat.reduceAdd, Nat.reduceMul, Nat.reduceSub, Nat.reduceLeDiff, Nat.reduceLT, Nat.reduceEqDiff, Nat.reduceBEq, Nat.reduceBNe, Nat.reduceMod, Nat.reduceDiv, Int.reduceLE, Int.reduceLT, Int.reduceToNat, Int.reduceAdd, Int.reduceSub, Int.reduceMul, Int.reduceNeg, Int.reduceEq, Int.reduceBEq, Int.reduceBNe, ↓reduceIte, reduceCtorEq, String.reduceBNe, String.reduceEq, reduceDIte, Nat.reducePow, hs, hc, halfI, w64]
      · rfl
    · have c1 : (n == n) = true := beq_self_eq_true n
      refine AW.skip ?_
      refine Thn_n ?_
      refine hK _ _ ?_
      clear hK K
      refine AW.seq_k fun K hK => ?_
      refine AW.region (by decide) ?_
      simp only [push_cast, Nat.reduceAdd, Nat.reduceMul, Nat.reduceSub, Nat.reduceLeDiff, Nat.reduceLT, Nat.reduceEqDiff, Nat.reduceBEq, Nat.reduceBNe, Nat.reduceMod, Nat.reduceDiv, Int.reduceLE, Int.reduceLT, Int.reduceToNat, Int.reduceAdd, Int.reduceSub, Int.reduceMul, Int.reduceNeg, Int.reduceEq, Int.reduceBEq, Int.reduceBNe, ↓reduceIte, reduceCtorEq, String.reduceBNe, String.reduceEq, reduceDIte, Nat.reducePow, hs, hc, c1, Int.lt_irrefl]
      refine Thn_n ?_
      refine hK _ _ ?_
      clear hK K
      refine AW.ret ?_
      refine hQ _ _ _ ?_
      first | refine RetP.drop0 (Or.inr rfl) ?_ ?_ hwf | refine RetP.drop (Or.inr rfl) ?_ ?_ hwf
      · simp only [resA, resOne, resTv, AV.tv, push_cast, Nat.reduceAdd, Nat.reduceMul, Nat.reduceSub, Nat.reduceLeDiff, Nat.reduceLT, Nat.reduceEqDiff, Nat.reduceBEq, Nat.reduceBNe, Nat.reduceMod, Nat.reduceDiv, Int.reduceLE, Int.reduceLT, Int.reduceToNat, Int.reduceAdd, Int.reduceSub, Int.reduceMul, Int.reduceNeg, Int.reduceEq, Int.reduceBEq, Int.reduceBNe, ↓reduceIte, reduceCtorEq, String.reduceBNe, String.reduceEq, reduceDIte, Nat.reducePow, hs, hc, c1, Int.lt_irrefl, halfI, w64]
      · rfl
    · have c1 : ¬ (IntKind.u64.wrap (IntKind.u64.wrap (IntKind.u64.wrap (x.tdiv 4294967296) * IntKind.u64.wrap (x.tdiv 4294967296)) + IntKind.u64.wrap ((IntKind.u64.wrap (IntKind.u64.wrap (2 * IntKind.u64.wrap (x.tdiv 4294967296)) * x.tmod 4294967296)).tdiv 4294967296))) < n := by omega
      have c2 : ((IntKind.u64.wrap (IntKind.u64.wrap (IntKind.u64.wrap (x.tdiv 4294967296) * IntKind.u64.wrap (x.tdiv 4294967296)) + IntKind.u64.wrap ((IntKind.u64.wrap (IntKind.u64.wrap (2 * IntKind.u64.wrap (x.tdiv 4294967296)) * x.tmod 4294967296)).tdiv 4294967296))) == n) = false := by simp; omega
      have c3 : ¬ (IntKind.u64.wrap (IntKind.u64.wrap (IntKind.u64.wrap (x.tdiv 4294967296) * IntKind.u64.wrap (x.tdiv 4294967296)) + IntKind.u64.wrap ((IntKind.u64.wrap (IntKind.u64.wrap (2 * IntKind.u64.wrap (x.tdiv 4294967296)) * x.tmod 4294967296)).tdiv 4294967296))) = n := by omega
      refine AW.skip ?_
      refine Thn_n ?_
      refine hK _ _ ?_
      clear hK K
      refine AW.seq_k fun K hK => ?_
      refine AW.region (by decide) ?_
      simp only [push_cast, Nat.reduceAdd, Nat.reduceMul, Nat.reduceSub, Nat.reduceLeDiff, Nat.reduceLT, Nat.reduceEqDiff, Nat.reduceBEq, Nat.reduceBNe, Nat.reduceMod, Nat.reduceDiv, Int.reduceLE, Int.reduceLT, Int.reduceToNat, Int.reduceAdd, Int.reduceSub, Int.reduceMul, Int.reduceNeg, Int.reduceEq, Int.reduceBEq, Int.reduceBNe, ↓reduceIte, reduceCtorEq, String.reduceBNe, String.reduceEq, reduceDIte, Nat.reducePow, hs, c1, c2, c3]
      refine Thn_n ?_
      refine hK _ _ ?_
      clear hK K
      refine AW.ret ?_
      refine hQ _ _ _ ?_
      first | refine RetP.drop0 (Or.inr rfl) ?_ ?_ hwf | refine RetP.drop (Or.inr rfl) ?_ ?_ hwf
      · simp only [resA, resOne, resTv, AV.tv, push_cast, Nat.reduceAdd, Nat.reduceMul, Nat.reduceSub, Nat.reduceLeDiff, Nat.reduceLT, Nat.reduceEqDiff, Nat.reduceBEq, Nat.reduceBNe, Nat.reduceMod, Nat.reduceDiv, Int.reduceLE, Int.reduceLT, Int.reduceToNat, Int.reduceAdd, Int.reduceSub, Int.reduceMul, Int.reduceNeg, Int.reduceEq, Int.reduceBEq, Int.reduceBNe, ↓reduceIte, reduceCtorEq, String.reduceBNe, String.reduceEq, reduceDIte, Nat.reducePow, hs, c1, c2, c3, halfI, w64]
      · rfl
theorem root_c (n : Int) (m : AMem) : Ctr Tryd.prog 16 [.one (.int .u64 n)] m (.one (.int .u32 (rootI n))) m := by
  refine Ctr.enter Tryd.func16 rfl (by decide) (rs := [.tmp 2]) (nt := 20) rfl rfl fun hwf Q hQ => ?_
  iterate 2
    refine AW.seq_k fun K hK => ?_
    refine AW.region (by decide) ?_
    simp only [push_cast, Nat.reduceAdd, Nat.reduceMul, Nat.reduceSub, Nat.reduceLeDiff, Nat.reduceLT, Nat.reduceEqDiff, Nat.reduceBEq, Nat.reduceBNe, Nat.reduceMod, Nat.reduceDiv, Int.reduceLE, Int.reduceLT, Int.reduceToNat, Int.reduceAdd, Int.reduceSub, Int.reduceMul, Int.reduceNeg, Int.reduceEq, Int.reduceBEq, Int.reduceBNe, ↓reduceIte, reduceCtorEq, String.reduceBNe, String.reduceEq, reduceDIte, Nat.reducePow, w64]
    refine Thn_n ?_
    refine hK _ _ ?_
    clear hK K
  refine AW.seq_k fun K hK => ?_
  refine AW.seq_k fun K hK => ?_
  refine AW.region (by decide) ?_
  simp only [push_cast, Nat.reduceAdd, Nat.reduceMul, Nat.reduceSub, Nat.reduceLeDiff, Nat.reduceLT, Nat.reduceEqDiff, Nat.reduceBEq, Nat.reduceBNe, Nat.reduceMod, Nat.reduceDiv, Int.reduceLE, Int.reduceLT, Int.reduceToNat, Int.reduceAdd, Int.reduceSub, Int.reduceMul, Int.reduceNeg, Int.reduceEq, Int.reduceBEq, Int.reduceBNe, ↓reduceIte, reduceCtorEq, String.reduceBNe, String.reduceEq, reduceDIte, Nat.reducePow, w64]
  refine Thn_n ?_
  refine hK _ _ ?_
  clear hK K
  refine AW.block ?_
  refine AW.loopK [0] (fun t => t ≤ (37 : Nat)) (fun t => [(3, .one (.int .u64 (rootX n t))), (4, .one (.int .u64 (bitR 68719476736 t)))]) (fun t => []) (fun t => 37 - t) 0 (by omega) ?_ ?_ fun t hi5 => ?_
  · first | rfl | (simp only [Keeps, Tm.get_cons, Nat.reduceEqDiff, ↓reduceIte, if_true, if_false, ite_true, ite_false, true_and, and_true, and_self, reduceCtorEq, bitR, rootX] <;> rfl)
  · first | rfl | (simp only [setAll, push_cast, Nat.reduceAdd, Nat.reduceMul, Nat.reduceSub, Nat.reduceLeDiff, Nat.reduceLT, Nat.reduceEqDiff, Nat.reduceBEq, Nat.reduceBNe, Nat.reduceMod, Nat.reduceDiv, Int.reduceLE, Int.reduceLT, Int.reduceToNat, Int.reduceAdd, Int.reduceSub, Int.reduceMul, Int.reduceNeg, Int.reduceEq, Int.reduceBEq, Int.reduceBNe, ↓reduceIte, reduceCtorEq, String.reduceBNe, String.reduceEq, reduceDIte, Nat.reducePow, w64, bitR, rootX] <;> rfl)
  have ht : t ≤ 37 := hi5
  try simp only [keepL, setAll, push_cast, Nat.reduceAdd, Nat.reduceMul, Nat.reduceSub, Nat.reduceLeDiff, Nat.reduceLT, Nat.reduceEqDiff, Nat.reduceBEq, Nat.reduceBNe, Nat.reduceMod, Nat.reduceDiv, Int.reduceLE, Int.reduceLT, Int.reduceToNat, Int.reduceAdd, Int.reduceSub, Int.reduceMul, Int.reduceNeg, Int.reduceEq, Int.reduceBEq, Int.reduceBNe, ↓reduceIte, reduceCtorEq, String.reduceBNe, String.reduceEq, reduceDIte, Nat.reducePow, w64]
  refine AW.seq_k fun K hK => ?_
  refine AW.seq_k fun K hK => ?_
  refine AW.region (by decide) ?_
  simp only [push_cast, Nat.reduceAdd, Nat.reduceMul, Nat.reduceSub, Nat.reduceLeDiff, Nat.reduceLT, Nat.reduceEqDiff, Nat.reduceBEq, Nat.reduceBNe, Nat.reduceMod, Nat.reduceDiv, Int.reduceLE, Int.reduceLT, Int.reduceToNat, Int.reduceAdd, Int.reduceSub, Int.reduceMul, Int.reduceNeg, Int.reduceEq, Int.reduceBEq, Int.reduceBNe, ↓reduceIte, reduceCtorEq, String.reduceBNe, String.reduceEq, reduceDIte, Nat.reducePow, w64]
  refine Thn_n ?_
  refine hK _ _ ?_
  clear hK K
  refine AW.cond rfl (fun h6 => ?_) (fun h6 => ?_)
  · have hlt : t < 37 := by
      have h1 := of_decide_eq_true h6
      rcases Nat.lt_or_ge t 37 with h | h
      · exact h
      · obtain rfl : t = 37 := by omega
        rw [bitR_end] at h1; exact absurd h1 (by decide)
    refine AW.skip ?_
    refine Thn_n ?_
    refine hK _ _ ?_
    clear hK K
    refine AW.seq_k fun K hK => ?_
    refine AW.block ?_
    refine AW.seq_k fun K hK => ?_
    refine AW.region (by decide) ?_
    simp only [push_cast, Nat.reduceAdd, Nat.reduceMul, Nat.reduceSub, Nat.reduceLeDiff, Nat.reduceLT, Nat.reduceEqDiff, Nat.reduceBEq, Nat.reduceBNe, Nat.reduceMod, Nat.reduceDiv, Int.reduceLE, Int.reduceLT, Int.reduceToNat, Int.reduceAdd, Int.reduceSub, Int.reduceMul, Int.reduceNeg, Int.reduceEq, Int.reduceBEq, Int.reduceBNe, ↓reduceIte, reduceCtorEq, String.reduceBNe, String.reduceEq, reduceDIte, Nat.reducePow, w64]
    refine CThen.by (half_c _ _ _) ?_
    simp only [push_cast, Nat.reduceAdd, Nat.reduceMul, Nat.reduceSub, Nat.reduceLeDiff, Nat.reduceLT, Nat.reduceEqDiff, Nat.reduceBEq, Nat.reduceBNe, Nat.reduceMod, Nat.reduceDiv, Int.reduceLE, Int.reduceLT, Int.reduceToNat, Int.reduceAdd, Int.reduceSub, Int.reduceMul, Int.reduceNeg, Int.reduceEq, Int.reduceBEq, Int.reduceBNe, ↓reduceIte, reduceCtorEq, String.reduceBNe, String.reduceEq, reduceDIte, Nat.reducePow, w64]
    refine Thn_n ?_
    refine hK _ _ ?_
    clear hK K
    refine AW.cond rfl (fun h13 => ?_) (fun h13 => ?_)
    · have hnx : rootX n (t + 1) = IntKind.u64.wrap (rootX n t + bitR 68719476736 t) := by simp only [rootX, w64]; exact if_pos h13
      refine AW.region (by decide) ?_
      simp only [push_cast, Nat.reduceAdd, Nat.reduceMul, Nat.reduceSub, Nat.reduceLeDiff, Nat.reduceLT, Nat.reduceEqDiff, Nat.reduceBEq, Nat.reduceBNe, Nat.reduceMod, Nat.reduceDiv, Int.reduceLE, Int.reduceLT, Int.reduceToNat, Int.reduceAdd, Int.reduceSub, Int.reduceMul, Int.reduceNeg, Int.reduceEq, Int.reduceBEq, Int.reduceBNe, ↓reduceIte, reduceCtorEq, String.reduceBNe, String.reduceEq, reduceDIte, Nat.reducePow, w64]
      refine InB_n ?_
      refine Thn_n ?_
      refine hK _ _ ?_
      clear hK K
      refine AW.region (by decide) ?_
      simp only [push_cast, Nat.reduceAdd, Nat.reduceMul, Nat.reduceSub, Nat.reduceLeDiff, Nat.reduceLT, Nat.reduceEqDiff, Nat.reduceBEq, Nat.reduceBNe, Nat.reduceMod, Nat.reduceDiv, Int.reduceLE, Int.reduceLT, Int.reduceToNat, Int.reduceAdd, Int.reduceSub, Int.reduceMul, Int.reduceNeg, Int.reduceEq, Int.reduceBEq, Int.reduceBNe, ↓reduceIte, reduceCtorEq, String.reduceBNe, String.reduceEq, reduceDIte, Nat.reducePow, w64]
      refine Thn_n ?_
      refine ⟨t + 1, hlt, by omega, ?_⟩
      try simp only [keepL, setAll, push_cast, Nat.reduceAdd, Nat.reduceMul, Nat.reduceSub, Nat.reduceLeDiff, Nat.reduceLT, Nat.reduceEqDiff, Nat.reduceBEq, Nat.reduceBNe, Nat.reduceMod, Nat.reduceDiv, Int.reduceLE, Int.reduceLT, Int.reduceToNat, Int.reduceAdd, Int.reduceSub, Int.reduceMul, Int.reduceNeg, Int.reduceEq, Int.reduceBEq, Int.reduceBNe, ↓reduceIte, reduceCtorEq, String.reduceBNe, String.reduceEq, reduceDIte, Nat.reducePow, w64, bitR, w64, hnx]
      exact Weak.same (by simp only [Keeps, Tm.get_cons, Nat.reduceEqDiff, ↓reduceIte, if_true, if_false, ite_true, ite_false, true_and, and_true, and_self, reduceCtorEq, bitR, w64, hnx]) (by first | rfl | simp only [Keeps, Tm.get_cons, Nat.reduceEqDiff, ↓reduceIte, if_true, if_false, ite_true, ite_false, true_and, and_true, and_self, reduceCtorEq, bitR, w64, hnx])
    · have hnx : rootX n (t + 1) = rootX n t := by simp only [rootX, w64]; exact if_neg (by rw [h13]; decide)
      refine AW.skip ?_
      refine InB_n ?_
      refine Thn_n ?_
      refine hK _ _ ?_
      clear hK K
      refine AW.region (by decide) ?_
      simp only [push_cast, Nat.reduceAdd, Nat.reduceMul, Nat.reduceSub, Nat.reduceLeDiff, Nat.reduceLT, Nat.reduceEqDiff, Nat.reduceBEq, Nat.reduceBNe, Nat.reduceMod, Nat.reduceDiv, Int.reduceLE, Int.reduceLT, Int.reduceToNat, Int.reduceAdd, Int.reduceSub, Int.reduceMul, Int.reduceNeg, Int.reduceEq, Int.reduceBEq, Int.reduceBNe, ↓reduceIte, reduceCtorEq, String.reduceBNe, String.reduceEq, reduceDIte, Nat.reducePow, w64]
      refine Thn_n ?_
      refine ⟨t + 1, hlt, by omega, ?_⟩
      try simp only [keepL, setAll, push_cast, Nat.reduceAdd, Nat.reduceMul, Nat.reduceSub, Nat.reduceLeDiff, Nat.reduceLT, Nat.reduceEqDiff, Nat.reduceBEq, Nat.reduceBNe, Nat.reduceMod, Nat.reduceDiv, Int.reduceLE, Int.reduceLT, Int.reduceToNat, Int.reduceAdd, Int.reduceSub, Int.reduceMul, Int.reduceNeg, Int.reduceEq, Int.reduceBEq, Int.reduceBNe, ↓reduceIte, reduceCtorEq, String.reduceBNe, String.reduceEq, reduceDIte, Nat.reducePow, w64, bitR, w64, hnx]
      exact Weak.same (by simp only [Keeps, Tm.get_cons, Nat.reduceEqDiff, ↓reduceIte, if_true, if_false, ite_true, ite_false, true_and, and_true, and_self, reduceCtorEq, bitR, w64, hnx]) (by first | rfl | simp only [Keeps, Tm.get_cons, Nat.reduceEqDiff, ↓reduceIte, if_true, if_false, ite_true, ite_false, true_and, and_true, and_self, reduceCtorEq, bitR, w64, hnx])
  · have hte : t = 37 := by
      have h1 := of_decide_eq_false h6
      rcases Nat.lt_or_ge t 37 with h | h
      · exact absurd (bitR_pos ⟨t, h⟩) h1
      · omega
    subst hte
    refine AW.exit ?_
    refine Thn_e ?_
    clear hK K
    refine Thn_e ?_
    refine InB_here ?_
    refine Thn_n ?_
    refine hK _ _ ?_
    clear hK K
    refine AW.seq_k fun K hK => ?_
    refine AW.region (by decide) ?_
    simp only [push_cast, Nat.reduceAdd, Nat.reduceMul, Nat.reduceSub, Nat.reduceLeDiff, Nat.reduceLT, Nat.reduceEqDiff, Nat.reduceBEq, Nat.reduceBNe, Nat.reduceMod, Nat.reduceDiv, Int.reduceLE, Int.reduceLT, Int.reduceToNat, Int.reduceAdd, Int.reduceSub, Int.reduceMul, Int.reduceNeg, Int.reduceEq, Int.reduceBEq, Int.reduceBNe, ↓reduceIte, reduceCtorEq, String.reduceBNe, String.reduceEq, reduceDIte, Nat.reducePow, w64]
    refine Thn_n ?_
    refine hK _ _ ?_
    clear hK K
    refine AW.ret ?_
    refine hQ _ _ _ ?_
    first | refine RetP.drop0 (Or.inr rfl) ?_ ?_ hwf | refine RetP.drop (Or.inr rfl) ?_ ?_ hwf
    · simp only [resA, resOne, resTv, AV.tv, push_cast, Nat.reduceAdd, Nat.reduceMul, Nat.reduceSub, Nat.reduceLeDiff, Nat.reduceLT, Nat.reduceEqDiff, Nat.reduceBEq, Nat.reduceBNe, Nat.reduceMod, Nat.reduceDiv, Int.reduceLE, Int.reduceLT, Int.reduceToNat, Int.reduceAdd, Int.reduceSub, Int.reduceMul, Int.reduceNeg, Int.reduceEq, Int.reduceBEq, Int.reduceBNe, ↓reduceIte, reduceCtorEq, String.reduceBNe, String.reduceEq, reduceDIte, Nat.reducePow, w64, rootI]
    · rfl
def splX (x : Int) : Nat → Int
  | 0 => x
  | i + 1 => w64 ((splX x i).tdiv 65536)
def splL (x : Int) : Nat → List Int
  | 0 => []
  | i + 1 => splL x i ++ [(splX x i).tmod 65536]
theorem splL_len (x : Int) : ∀ i, (splL x i).length = i
  | 0 => rfl
  | i + 1 => by simp [splL, splL_len x i]
def prJ (o a b : List Int) (i : Nat) : Nat → List Int × Int
  | 0 => (o, 0)
  | k + 1 => (((prJ o a b i k).1).set (i + k) ((w64 (w64 (((prJ o a b i k).1).getD (i + k) 0 + w64 (a.getD i 0 * b.getD k 0)) + (prJ o a b i k).2)).tmod 65536),
      w64 ((w64 (w64 (((prJ o a b i k).1).getD (i + k) 0 + w64 (a.getD i 0 * b.getD k 0)) + (prJ o a b i k).2)).tdiv 65536))
def prI (a b : List Int) : Nat → List Int
  | 0 => List.replicate (a.length + b.length) 0
  | i + 1 => ((prJ (prI a b i) a b i b.length).1).set (i + b.length) (w64 (((prJ (prI a b i) a b i b.length).1).getD (i + b.length) 0 + (prJ (prI a b i) a b i b.length).2))
theorem prJ_len (o a b : List Int) (i : Nat) : ∀ k, ((prJ o a b i k).1).length = o.length
  | 0 => rfl
  | k + 1 => by simp only [prJ, List.length_set, prJ_len o a b i k]
theorem prI_len (a b : List Int) : ∀ i, (prI a b i).length = a.length + b.length
  | 0 => by simp [prI]
  | i + 1 => by simp only [prI, List.length_set, prJ_len, prI_len a b i]
def thJ (c w : List Int) : Nat → Bool
  | 0 => true
  | j + 1 => if c.getD j 0 = w.getD j 0 then thJ c w j else decide (c.getD j 0 < w.getD j 0)
def prodI (a b : List Int) : List Int := prI a b a.length
def cubL (x : Int) : List Int := prodI (prodI (splL x 4) (splL x 4)) (splL x 4)
def wantL (n : Int) : List Int := (List.replicate 12 0).set 6 n
def thirdI (x n : Int) : Bool := thJ (cubL x) (wantL n) 12
theorem cubL_len (x : Int) : (cubL x).length = 12 := by simp [cubL, prodI, prI_len, splL_len]
def cubeX (n : Int) : Nat → Int
  | 0 => 0
  | t + 1 => if thirdI (w64 (cubeX n t + bitR 34359738368 t)) n then w64 (cubeX n t + bitR 34359738368 t) else cubeX n t
def cubeI (n : Int) : Int := IntKind.u32.wrap ((cubeX n 36).tmod 4294967296)
theorem split_c (x : Int) (m : AMem) : Ctr Tryd.prog 31 [.one (.int .u64 x)] m (.one (.sl m.length 0 0 4)) (m ++ [⟨.grow, 50, 0, 1, u64l (splL x 4)⟩]) := by
  refine Ctr.enter Tryd.func31 rfl (by decide) (rs := [.tmp 2]) (nt := 17) rfl rfl fun hwf Q hQ => ?_
  iterate 2
    refine AW.seq_k fun K hK => ?_
    refine AW.region (by decide) ?_
    simp only [push_cast, Nat.reduceAdd, Nat.reduceMul, Nat.reduceSub, Nat.reduceLeDiff, Nat.reduceLT, Nat.reduceEqDiff, Nat.reduceBEq, Nat.reduceBNe, Nat.reduceMod, Nat.reduceDiv, Int.reduceLE, Int.reduceLT, Int.reduceToNat, Int.reduceAdd, Int.reduceSub, Int.reduceMul, Int.reduceNeg, Int.reduceEq, Int.reduceBEq, Int.reduceBNe, ↓reduceIte, reduceCtorEq, String.reduceBNe, String.reduceEq, reduceDIte, Nat.reducePow, u64l_len]
    refine Thn_n ?_
    refine hK _ _ ?_
    clear hK K
  refine AW.seq_k fun K hK => ?_
  refine AW.seq_k fun K hK => ?_
  refine AW.nilTm 50 1 3 (by simp only [push_cast, Nat.reduceAdd, Nat.reduceMul, Nat.reduceSub, Nat.reduceLeDiff, Nat.reduceLT, Nat.reduceEqDiff, Nat.reduceBEq, Nat.reduceBNe, Nat.reduceMod, Nat.reduceDiv, Int.reduceLE, Int.reduceLT, Int.reduceToNat, Int.reduceAdd, Int.reduceSub, Int.reduceMul, Int.reduceNeg, Int.reduceEq, Int.reduceBEq, Int.reduceBNe, ↓reduceIte, reduceCtorEq, String.reduceBNe, String.reduceEq, reduceDIte, Nat.reducePow]) ?_
  try simp only [push_cast, Nat.reduceAdd, Nat.reduceMul, Nat.reduceSub, Nat.reduceLeDiff, Nat.reduceLT, Nat.reduceEqDiff, Nat.reduceBEq, Nat.reduceBNe, Nat.reduceMod, Nat.reduceDiv, Int.reduceLE, Int.reduceLT, Int.reduceToNat, Int.reduceAdd, Int.reduceSub, Int.reduceMul, Int.reduceNeg, Int.reduceEq, Int.reduceBEq, Int.reduceBNe, ↓reduceIte, reduceCtorEq, String.reduceBNe, String.reduceEq, reduceDIte, Nat.reducePow]
  refine AW.region (by decide) ?_
  simp only [push_cast, Nat.reduceAdd, Nat.reduceMul, Nat.reduceSub, Nat.reduceLeDiff, Nat.reduceLT, Nat.reduceEqDiff, Nat.reduceBEq, Nat.reduceBNe, Nat.reduceMod, Nat.reduceDiv, Int.reduceLE, Int.reduceLT, Int.reduceToNat, Int.reduceAdd, Int.reduceSub, Int.reduceMul, Int.reduceNeg, Int.reduceEq, Int.reduceBEq, Int.reduceBNe, ↓reduceIte, reduceCtorEq, String.reduceBNe, String.reduceEq, reduceDIte, Nat.reducePow, u64l_len]
  refine Thn_n ?_
  refine hK _ _ ?_
  clear hK K
  refine AW.block ?_
  refine AW.loopK [] (fun i => i ≤ (4 : Nat)) (fun i => [(0, .one (.int .u64 (splX x i))), (3, .one (.sl m.length i 0 i)), (4, .one (.int .i64 (i : Int)))]) (fun i => [(m.length, ⟨.grow, 50, i, 1, u64l (splL x i)⟩)]) (fun i => 4 - i) 0 (by omega) ?_ ?_ fun i hi5 => ?_
  · first | rfl | (simp only [Keeps, Tm.get_cons, Nat.reduceEqDiff, ↓reduceIte, if_true, if_false, ite_true, ite_false, true_and, and_true, and_self, reduceCtorEq, splX, splL, u64l, List.map_nil, Int.natCast_zero] <;> rfl)
  · first | rfl | (simp only [setAll, push_cast, Nat.reduceAdd, Nat.reduceMul, Nat.reduceSub, Nat.reduceLeDiff, Nat.reduceLT, Nat.reduceEqDiff, Nat.reduceBEq, Nat.reduceBNe, Nat.reduceMod, Nat.reduceDiv, Int.reduceLE, Int.reduceLT, Int.reduceToNat, Int.reduceAdd, Int.reduceSub, Int.reduceMul, Int.reduceNeg, Int.reduceEq, Int.reduceBEq, Int.reduceBNe, ↓reduceIte, reduceCtorEq, String.reduceBNe, String.reduceEq, reduceDIte, Nat.reducePow, u64l_len, splX, splL, u64l, List.map_nil, Int.natCast_zero] <;> rfl)
  have hi4 : i ≤ 4 := hi5
  have hll := splL_len x i
  have q1 : i + 1 ≤ 140737488355328 := by omega
  have q2 : (i + 1) * 8 ≤ 140737488355328 := by omega
  try simp only [keepL, setAll, push_cast, Nat.reduceAdd, Nat.reduceMul, Nat.reduceSub, Nat.reduceLeDiff, Nat.reduceLT, Nat.reduceEqDiff, Nat.reduceBEq, Nat.reduceBNe, Nat.reduceMod, Nat.reduceDiv, Int.reduceLE, Int.reduceLT, Int.reduceToNat, Int.reduceAdd, Int.reduceSub, Int.reduceMul, Int.reduceNeg, Int.reduceEq, Int.reduceBEq, Int.reduceBNe, ↓reduceIte, reduceCtorEq, String.reduceBNe, String.reduceEq, reduceDIte, Nat.reducePow, u64l_len]
  refine AW.seq_k fun K hK => ?_
  refine AW.seq_k fun K hK => ?_
  refine AW.region (by decide) ?_
  simp only [push_cast, Nat.reduceAdd, Nat.reduceMul, Nat.reduceSub, Nat.reduceLeDiff, Nat.reduceLT, Nat.reduceEqDiff, Nat.reduceBEq, Nat.reduceBNe, Nat.reduceMod, Nat.reduceDiv, Int.reduceLE, Int.reduceLT, Int.reduceToNat, Int.reduceAdd, Int.reduceSub, Int.reduceMul, Int.reduceNeg, Int.reduceEq, Int.reduceBEq, Int.reduceBNe, ↓reduceIte, reduceCtorEq, String.reduceBNe, String.reduceEq, reduceDIte, Nat.reducePow, u64l_len]
  refine Thn_n ?_
  refine hK _ _ ?_
  clear hK K
  refine AW.cond rfl (fun h6 => ?_) (fun h6 => ?_)
  · have hlt : i < 4 := by have := of_decide_eq_true h6; omega
    refine AW.skip ?_
    refine Thn_n ?_
    refine hK _ _ ?_
    clear hK K
    refine AW.seq_k fun K hK => ?_
    refine AW.block ?_
    refine AW.seq_k fun K hK => ?_
    refine AW.region (by decide) ?_
    simp only [push_cast, Nat.reduceAdd, Nat.reduceMul, Nat.reduceSub, Nat.reduceLeDiff, Nat.reduceLT, Nat.reduceEqDiff, Nat.reduceBEq, Nat.reduceBNe, Nat.reduceMod, Nat.reduceDiv, Int.reduceLE, Int.reduceLT, Int.reduceToNat, Int.reduceAdd, Int.reduceSub, Int.reduceMul, Int.reduceNeg, Int.reduceEq, Int.reduceBEq, Int.reduceBNe, ↓reduceIte, reduceCtorEq, String.reduceBNe, String.reduceEq, reduceDIte, Nat.reducePow, u64l_len, hll, q1, q2]
    refine Thn_n ?_
    refine hK _ _ ?_
    clear hK K
    refine AW.region (by decide) ?_
    simp only [push_cast, Nat.reduceAdd, Nat.reduceMul, Nat.reduceSub, Nat.reduceLeDiff, Nat.reduceLT, Nat.reduceEqDiff, Nat.reduceBEq, Nat.reduceBNe, Nat.reduceMod, Nat.reduceDiv, Int.reduceLE, Int.reduceLT, Int.reduceToNat, Int.reduceAdd, Int.reduceSub, Int.reduceMul, Int.reduceNeg, Int.reduceEq, Int.reduceBEq, Int.reduceBNe, ↓reduceIte, reduceCtorEq, String.reduceBNe, String.reduceEq, reduceDIte, Nat.reducePow, u64l_len, hll, q1, q2]
    refine InB_n ?_
    refine Thn_n ?_
    refine hK _ _ ?_
    clear hK K
    refine AW.region (by decide) ?_
    simp only [push_cast, Nat.reduceAdd, Nat.reduceMul, Nat.reduceSub, Nat.reduceLeDiff, Nat.reduceLT, Nat.reduceEqDiff, Nat.reduceBEq, Nat.reduceBNe, Nat.reduceMod, Nat.reduceDiv, Int.reduceLE, Int.reduceLT, Int.reduceToNat, Int.reduceAdd, Int.reduceSub, Int.reduceMul, Int.reduceNeg, Int.reduceEq, Int.reduceBEq, Int.reduceBNe, ↓reduceIte, reduceCtorEq, String.reduceBNe, String.reduceEq, reduceDIte, Nat.reducePow, u64l_len, hll, q1, q2]
    refine Thn_n ?_
    have hwi : IntKind.i64.wrap ((i:Int)+1) = (i:Int)+1 := wi (by omega)
    refine ⟨i + 1, hlt, by omega, ?_⟩
    try simp only [keepL, setAll, push_cast, Nat.reduceAdd, Nat.reduceMul, Nat.reduceSub, Nat.reduceLeDiff, Nat.reduceLT, Nat.reduceEqDiff, Nat.reduceBEq, Nat.reduceBNe, Nat.reduceMod, Nat.reduceDiv, Int.reduceLE, Int.reduceLT, Int.reduceToNat, Int.reduceAdd, Int.reduceSub, Int.reduceMul, Int.reduceNeg, Int.reduceEq, Int.reduceBEq, Int.reduceBNe, ↓reduceIte, reduceCtorEq, String.reduceBNe, String.reduceEq, reduceDIte, Nat.reducePow, u64l_len, hll, q1, q2, hwi, splX, splL, w64, u64l_snoc]
    exact Weak.to (extra := [_]) (by simp only [Keeps, Tm.get_cons, Nat.reduceEqDiff, ↓reduceIte, if_true, if_false, ite_true, ite_false, true_and, and_true, and_self, reduceCtorEq, hwi, splX, splL, w64, u64l_snoc]) (by first | rfl | (simp only [List.append_assoc, List.cons_append, List.nil_append]; rfl)) (by first | rfl | (simp [AV.below, CV.below, u64l_below]; done) | (simp [AV.below, CV.below, u64l_below]; omega)) (by
      first | exact hwf | refine MWf.app (hwf.grow (by simp)) ?_
      repeat (first | exact MWf_nil | (refine MWf_cons ?_ ?_; · first | rfl | (simp [CV.below, u64l_below]; done) | (simp [CV.below, u64l_below]; omega))))
  · have hie : i = 4 := by have := of_decide_eq_false h6; omega
    subst hie
    refine AW.exit ?_
    refine Thn_e ?_
    clear hK K
    refine Thn_e ?_
    refine InB_here ?_
    refine Thn_n ?_
    refine hK _ _ ?_
    clear hK K
    refine AW.seq_k fun K hK => ?_
    refine AW.region (by decide) ?_
    simp only [push_cast, Nat.reduceAdd, Nat.reduceMul, Nat.reduceSub, Nat.reduceLeDiff, Nat.reduceLT, Nat.reduceEqDiff, Nat.reduceBEq, Nat.reduceBNe, Nat.reduceMod, Nat.reduceDiv, Int.reduceLE, Int.reduceLT, Int.reduceToNat, Int.reduceAdd, Int.reduceSub, Int.reduceMul, Int.reduceNeg, Int.reduceEq, Int.reduceBEq, Int.reduceBNe, ↓reduceIte, reduceCtorEq, String.reduceBNe, String.reduceEq, reduceDIte, Nat.reducePow, u64l_len]
    refine Thn_n ?_
    refine hK _ _ ?_
    clear hK K
    refine AW.ret ?_
    refine hQ _ _ _ ?_
    refine RetP.pick [(m.length, 4)] (Or.inr rfl) ?_ ?_ ?_ hwf ?_
    · simp only [resA, resOne, resTv, AV.tv, push_cast, Nat.reduceAdd, Nat.reduceMul, Nat.reduceSub, Nat.reduceLeDiff, Nat.reduceLT, Nat.reduceEqDiff, Nat.reduceBEq, Nat.reduceBNe, Nat.reduceMod, Nat.reduceDiv, Int.reduceLE, Int.reduceLT, Int.reduceToNat, Int.reduceAdd, Int.reduceSub, Int.reduceMul, Int.reduceNeg, Int.reduceEq, Int.reduceBEq, Int.reduceBNe, ↓reduceIte, reduceCtorEq, String.reduceBNe, String.reduceEq, reduceDIte, Nat.reducePow]
      simp [renV, renT, renL, renC, renIdx]
    · simp only [picks, push_cast, Nat.reduceAdd, Nat.reduceMul, Nat.reduceSub, Nat.reduceLeDiff, Nat.reduceLT, Nat.reduceEqDiff, Nat.reduceBEq, Nat.reduceBNe, Nat.reduceMod, Nat.reduceDiv, Int.reduceLE, Int.reduceLT, Int.reduceToNat, Int.reduceAdd, Int.reduceSub, Int.reduceMul, Int.reduceNeg, Int.reduceEq, Int.reduceBEq, Int.reduceBNe, ↓reduceIte, reduceCtorEq, String.reduceBNe, String.reduceEq, reduceDIte, Nat.reducePow] <;> rfl
    · simp [distinctFrom]
    · exact MWf_one (u64l_below _ _)
    
theorem product_c (ra va rb vb : Nat) (a b : List Int) (m : AMem) (ha : (∃ k ez, m[ra]? = some ⟨k, 50, va, ez, u64l a⟩)) (hb : (∃ k ez, m[rb]? = some ⟨k, 50, vb, ez, u64l b⟩)) (la : a.length ≤ 100) (lb : b.length ≤ 100) : Ctr Tryd.prog 30 [.one (.sl ra va 0 a.length), .one (.sl rb vb 0 b.length)] m (.one (.sl m.length 0 0 (a.length + b.length))) (m ++ [⟨.grow, 50, 0, 1, u64l (prodI a b)⟩]) := by
  refine Ctr.enter Tryd.func30 rfl (by decide) (rs := [.tmp 4]) (nt := 71) rfl rfl fun hwf Q hQ => ?_
  obtain ⟨k1, e1, ha⟩ := ha
  obtain ⟨k2, e2, hb⟩ := hb
  have lra := get_lt ha
  have lrb := get_lt hb
  have ws : IntKind.i64.wrap ((a.length : Int) + (b.length : Int)) = ((a.length + b.length : Nat) : Int) := by rw [IntKind.wrap_i64]; omega
  have n0 : (0 : Int) ≤ (a.length : Int) + (b.length : Int) := by omega
  have n1 : 8 * ((a.length : Int) + (b.length : Int)) ≤ 281474976710656 := by omega
  have n2 : (a.length : Int) + (b.length : Int) ≤ 281474976710656 := by omega
  have n3 : ((a.length : Int) + (b.length : Int)).toNat = a.length + b.length := by omega
  have hz := u64l_zero (a.length + b.length)
  simp only [push_cast, Nat.reduceAdd, Nat.reduceMul, Nat.reduceSub, Nat.reduceLeDiff, Nat.reduceLT, Nat.reduceEqDiff, Nat.reduceBEq, Nat.reduceBNe, Nat.reduceMod, Nat.reduceDiv, Int.reduceLE, Int.reduceLT, Int.reduceToNat, Int.reduceAdd, Int.reduceSub, Int.reduceMul, Int.reduceNeg, Int.reduceEq, Int.reduceBEq, Int.reduceBNe, ↓reduceIte, reduceCtorEq, String.reduceBNe, String.reduceEq, reduceDIte, Nat.reducePow] at hz ws
  iterate 2
    refine AW.seq_k fun K hK => ?_
    refine AW.region (by decide) ?_
    simp only [push_cast, Nat.reduceAdd, Nat.reduceMul, Nat.reduceSub, Nat.reduceLeDiff, Nat.reduceLT, Nat.reduceEqDiff, Nat.reduceBEq, Nat.reduceBNe, Nat.reduceMod, Nat.reduceDiv, Int.reduceLE, Int.reduceLT, Int.reduceToNat, Int.reduceAdd, Int.reduceSub, Int.reduceMul, Int.reduceNeg, Int.reduceEq, Int.reduceBEq, Int.reduceBNe, ↓reduceIte, reduceCtorEq, String.reduceBNe, String.reduceEq, reduceDIte, Nat.reducePow, ws, n0, n1, n2, n3, hz, ha, lk_old ha, hb, lk_old hb, u64l_len, Int.le_refl, Nat.le_refl, w64, u64l_set]
    refine Thn_n ?_
    refine hK _ _ ?_
    clear hK K
  refine AW.seq_k fun K hK => ?_
  refine AW.seq_k fun K hK => ?_
  refine AW.region (by decide) ?_
  simp only [push_cast, Nat.reduceAdd, Nat.reduceMul, Nat.reduceSub, Nat.reduceLeDiff, Nat.reduceLT, Nat.reduceEqDiff, Nat.reduceBEq, Nat.reduceBNe, Nat.reduceMod, Nat.reduceDiv, Int.reduceLE, Int.reduceLT, Int.reduceToNat, Int.reduceAdd, Int.reduceSub, Int.reduceMul, Int.reduceNeg, Int.reduceEq, Int.reduceBEq, Int.reduceBNe, ↓reduceIte, reduceCtorEq, String.reduceBNe, String.reduceEq, reduceDIte, Nat.reducePow, ws, n0, n1, n2, n3, hz, ha, lk_old ha, hb, lk_old hb, u64l_len, Int.le_refl, Nat.le_refl, w64, u64l_set]
  refine Thn_n ?_
  refine hK _ _ ?_
  clear hK K
  refine AW.block ?_
  refine AW.loopK [0, 1, 5] (fun i => i ≤ a.length) (fun i => [(6, .one (.int .i64 (i : Int)))]) (fun i => [(m.length, ⟨.grow, 50, 0, 1, u64l (prI a b i)⟩)]) (fun i => a.length - i) 0 (by omega) ?_ ?_ fun i hi5 => ?_
  · first | rfl | (simp only [Keeps, Tm.get_cons, Nat.reduceEqDiff, ↓reduceIte, if_true, if_false, ite_true, ite_false, true_and, and_true, and_self, reduceCtorEq, prI, Int.natCast_zero] <;> rfl)
  · first | rfl | (simp only [setAll, push_cast, Nat.reduceAdd, Nat.reduceMul, Nat.reduceSub, Nat.reduceLeDiff, Nat.reduceLT, Nat.reduceEqDiff, Nat.reduceBEq, Nat.reduceBNe, Nat.reduceMod, Nat.reduceDiv, Int.reduceLE, Int.reduceLT, Int.reduceToNat, Int.reduceAdd, Int.reduceSub, Int.reduceMul, Int.reduceNeg, Int.reduceEq, Int.reduceBEq, Int.reduceBNe, ↓reduceIte, reduceCtorEq, String.reduceBNe, String.reduceEq, reduceDIte, Nat.reducePow, ws, n0, n1, n2, n3, hz, ha, lk_old ha, hb, lk_old hb, u64l_len, Int.le_refl, Nat.le_refl, w64, u64l_set, prI, Int.natCast_zero] <;> rfl)
  have hi : i ≤ a.length := hi5
  have hpl := prI_len a b i
  try simp only [keepL, setAll, push_cast, Nat.reduceAdd, Nat.reduceMul, Nat.reduceSub, Nat.reduceLeDiff, Nat.reduceLT, Nat.reduceEqDiff, Nat.reduceBEq, Nat.reduceBNe, Nat.reduceMod, Nat.reduceDiv, Int.reduceLE, Int.reduceLT, Int.reduceToNat, Int.reduceAdd, Int.reduceSub, Int.reduceMul, Int.reduceNeg, Int.reduceEq, Int.reduceBEq, Int.reduceBNe, ↓reduceIte, reduceCtorEq, String.reduceBNe, String.reduceEq, reduceDIte, Nat.reducePow, ws, n0, n1, n2, n3, hz, ha, lk_old ha, hb, lk_old hb, u64l_len, Int.le_refl, Nat.le_refl, w64, u64l_set]
  refine AW.seq_k fun K hK => ?_
  refine AW.seq_k fun K hK => ?_
  refine AW.region (by decide) ?_
  simp only [push_cast, Nat.reduceAdd, Nat.reduceMul, Nat.reduceSub, Nat.reduceLeDiff, Nat.reduceLT, Nat.reduceEqDiff, Nat.reduceBEq, Nat.reduceBNe, Nat.reduceMod, Nat.reduceDiv, Int.reduceLE, Int.reduceLT, Int.reduceToNat, Int.reduceAdd, Int.reduceSub, Int.reduceMul, Int.reduceNeg, Int.reduceEq, Int.reduceBEq, Int.reduceBNe, ↓reduceIte, reduceCtorEq, String.reduceBNe, String.reduceEq, reduceDIte, Nat.reducePow, ws, n0, n1, n2, n3, hz, ha, lk_old ha, hb, lk_old hb, u64l_len, Int.le_refl, Nat.le_refl, w64, u64l_set]
  refine Thn_n ?_
  refine hK _ _ ?_
  clear hK K
  refine AW.cond rfl (fun h19 => ?_) (fun h19 => ?_)
  · have hlt : i < a.length := by have := of_decide_eq_true h19; omega
    have c1 : (0 : Int) ≤ (i : Int) := by omega
    have c2 : (i : Int) < (a.length : Int) := by omega
    have ga := u64l_get hlt
    refine AW.skip ?_
    refine Thn_n ?_
    refine hK _ _ ?_
    clear hK K
    refine AW.seq_k fun K hK => ?_
    refine AW.block ?_
    refine AW.seq_k fun K hK => ?_
    refine AW.region (by decide) ?_
    simp only [push_cast, Nat.reduceAdd, Nat.reduceMul, Nat.reduceSub, Nat.reduceLeDiff, Nat.reduceLT, Nat.reduceEqDiff, Nat.reduceBEq, Nat.reduceBNe, Nat.reduceMod, Nat.reduceDiv, Int.reduceLE, Int.reduceLT, Int.reduceToNat, Int.reduceAdd, Int.reduceSub, Int.reduceMul, Int.reduceNeg, Int.reduceEq, Int.reduceBEq, Int.reduceBNe, ↓reduceIte, reduceCtorEq, String.reduceBNe, String.reduceEq, reduceDIte, Nat.reducePow, ws, n0, n1, n2, n3, hz, ha, lk_old ha, hb, lk_old hb, u64l_len, Int.le_refl, Nat.le_refl, w64, u64l_set, c1, c2, ga]
    refine Thn_n ?_
    refine hK _ _ ?_
    clear hK K
    refine AW.seq_k fun K hK => ?_
    refine AW.seq_k fun K hK => ?_
    refine AW.region (by decide) ?_
    simp only [push_cast, Nat.reduceAdd, Nat.reduceMul, Nat.reduceSub, Nat.reduceLeDiff, Nat.reduceLT, Nat.reduceEqDiff, Nat.reduceBEq, Nat.reduceBNe, Nat.reduceMod, Nat.reduceDiv, Int.reduceLE, Int.reduceLT, Int.reduceToNat, Int.reduceAdd, Int.reduceSub, Int.reduceMul, Int.reduceNeg, Int.reduceEq, Int.reduceBEq, Int.reduceBNe, ↓reduceIte, reduceCtorEq, String.reduceBNe, String.reduceEq, reduceDIte, Nat.reducePow, ws, n0, n1, n2, n3, hz, ha, lk_old ha, hb, lk_old hb, u64l_len, Int.le_refl, Nat.le_refl, w64, u64l_set, c1, c2, ga]
    refine Thn_n ?_
    refine hK _ _ ?_
    clear hK K
    refine AW.block ?_
    refine AW.loopK [0, 1, 5, 6] (fun k => k ≤ b.length) (fun k => [(7, .one (.int .u64 (prJ (prI a b i) a b i k).2)), (8, .one (.int .i64 (k : Int)))]) (fun k => [(m.length, ⟨.grow, 50, 0, 1, u64l (prJ (prI a b i) a b i k).1⟩)]) (fun k => b.length - k) 0 (by omega) ?_ ?_ fun k hi12 => ?_
    · first | rfl | (simp only [Keeps, Tm.get_cons, Nat.reduceEqDiff, ↓reduceIte, if_true, if_false, ite_true, ite_false, true_and, and_true, and_self, reduceCtorEq, prJ, Int.natCast_zero] <;> rfl)
    · first | rfl | (simp only [setAll, push_cast, Nat.reduceAdd, Nat.reduceMul, Nat.reduceSub, Nat.reduceLeDiff, Nat.reduceLT, Nat.reduceEqDiff, Nat.reduceBEq, Nat.reduceBNe, Nat.reduceMod, Nat.reduceDiv, Int.reduceLE, Int.reduceLT, Int.reduceToNat, Int.reduceAdd, Int.reduceSub, Int.reduceMul, Int.reduceNeg, Int.reduceEq, Int.reduceBEq, Int.reduceBNe, ↓reduceIte, reduceCtorEq, String.reduceBNe, String.reduceEq, reduceDIte, Nat.reducePow, ws, n0, n1, n2, n3, hz, ha, lk_old ha, hb, lk_old hb, u64l_len, Int.le_refl, Nat.le_refl, w64, u64l_set, c1, c2, ga, prJ, Int.natCast_zero] <;> rfl)
    have hk : k ≤ b.length := hi12
    have hjl := prJ_len (prI a b i) a b i k
    try simp only [keepL, setAll, push_cast, Nat.reduceAdd, Nat.reduceMul, Nat.reduceSub, Nat.reduceLeDiff, Nat.reduceLT, Nat.reduceEqDiff, Nat.reduceBEq, Nat.reduceBNe, Nat.reduceMod, Nat.reduceDiv, Int.reduceLE, Int.reduceLT, Int.reduceToNat, Int.reduceAdd, Int.reduceSub, Int.reduceMul, Int.reduceNeg, Int.reduceEq, Int.reduceBEq, Int.reduceBNe, ↓reduceIte, reduceCtorEq, String.reduceBNe, String.reduceEq, reduceDIte, Nat.reducePow, ws, n0, n1, n2, n3, hz, ha, lk_old ha, hb, lk_old hb, u64l_len, Int.le_refl, Nat.le_refl, w64, u64l_set, c1, c2, ga]
    refine AW.seq_k fun K hK => ?_
    refine AW.seq_k fun K hK => ?_
    refine AW.region (by decide) ?_
    simp only [push_cast, Nat.reduceAdd, Nat.reduceMul, Nat.reduceSub, Nat.reduceLeDiff, Nat.reduceLT, Nat.reduceEqDiff, Nat.reduceBEq, Nat.reduceBNe, Nat.reduceMod, Nat.reduceDiv, Int.reduceLE, Int.reduceLT, Int.reduceToNat, Int.reduceAdd, Int.reduceSub, Int.reduceMul, Int.reduceNeg, Int.reduceEq, Int.reduceBEq, Int.reduceBNe, ↓reduceIte, reduceCtorEq, String.reduceBNe, String.reduceEq, reduceDIte, Nat.reducePow, ws, n0, n1, n2, n3, hz, ha, lk_old ha, hb, lk_old hb, u64l_len, Int.le_refl, Nat.le_refl, w64, u64l_set, c1, c2, ga]
    refine Thn_n ?_
    refine hK _ _ ?_
    clear hK K
    refine AW.cond rfl (fun h25 => ?_) (fun h25 => ?_)
    · have hltk : k < b.length := by have := of_decide_eq_true h25; omega
      have c3 : (0 : Int) ≤ (k : Int) := by omega
      have c4 : (k : Int) < (b.length : Int) := by omega
      have gb := u64l_get hltk
      have w1 : IntKind.i64.wrap ((i : Int) + (k : Int)) = (i : Int) + (k : Int) := wi (by omega)
      have c5 : (0 : Int) ≤ (i : Int) + (k : Int) := by omega
      have c6 : (i : Int) + (k : Int) < (a.length : Int) + (b.length : Int) := by omega
      have c7 : ((i : Int) + (k : Int)).toNat = i + k := by omega
      have gj := u64l_get (xs := (prJ (prI a b i) a b i k).1) (i := i + k) (by omega)
      have c8 : i + k + 1 ≤ ((prJ (prI a b i) a b i k).1).length := by omega
      simp only [Nat.add_assoc] at c8
      refine AW.skip ?_
      refine Thn_n ?_
      refine hK _ _ ?_
      clear hK K
      refine AW.seq_k fun K hK => ?_
      refine AW.block ?_
      refine AW.seq_k fun K hK => ?_
      refine AW.draw [.val, .val, .val, .val, .val, .rd 0, .val, .val, .val, .rd 0, .val, .val, .val, .rd 0, .val, .val, .val, .val, .val] fol (by decide) (by kernel_rfl) ?_
      simp only [push_cast, Nat.reduceAdd, Nat.reduceMul, Nat.reduceSub, Nat.reduceLeDiff, Nat.reduceLT, Nat.reduceEqDiff, Nat.reduceBEq, Nat.reduceBNe, Nat.reduceMod, Nat.reduceDiv, Int.reduceLE, Int.reduceLT, Int.reduceToNat, Int.reduceAdd, Int.reduceSub, Int.reduceMul, Int.reduceNeg, Int.reduceEq, Int.reduceBEq, Int.reduceBNe, ↓reduceIte, reduceCtorEq, String.reduceBNe, String.reduceEq, reduceDIte, Nat.reducePow, ws, n0, n1, n2, n3, hz, ha, lk_old ha, hb, lk_old hb, u64l_len, Int.le_refl, Nat.le_refl, w64, u64l_set, c1, c2, ga, c3, c4, c5, c6, c7, c8, gb, w1, gj]
      refine Thn_n ?_
      refine hK _ _ ?_
      clear hK K
      refine AW.seq_k fun K hK => ?_
      refine AW.region (by decide) ?_
      simp only [push_cast, Nat.reduceAdd, Nat.reduceMul, Nat.reduceSub, Nat.reduceLeDiff, Nat.reduceLT, Nat.reduceEqDiff, Nat.reduceBEq, Nat.reduceBNe, Nat.reduceMod, Nat.reduceDiv, Int.reduceLE, Int.reduceLT, Int.reduceToNat, Int.reduceAdd, Int.reduceSub, Int.reduceMul, Int.reduceNeg, Int.reduceEq, Int.reduceBEq, Int.reduceBNe, ↓reduceIte, reduceCtorEq, String.reduceBNe, String.reduceEq, reduceDIte, Nat.reducePow, ws, n0, n1, n2, n3, hz, ha, lk_old ha, hb, lk_old hb, u64l_len, Int.le_refl, Nat.le_refl, w64, u64l_set, c1, c2, ga, c3, c4, c5, c6, c7, c8, gb, w1, gj]
      refine Thn_n ?_
      refine hK _ _ ?_
      clear hK K
      refine AW.region (by decide) ?_
      simp only [push_cast, Nat.reduceAdd, Nat.reduceMul, Nat.reduceSub, Nat.reduceLeDiff, Nat.reduceLT, Nat.reduceEqDiff, Nat.reduceBEq, Nat.reduceBNe, Nat.reduceMod, Nat.reduceDiv, Int.reduceLE, Int.reduceLT, Int.reduceToNat, Int.reduceAdd, Int.reduceSub, Int.reduceMul, Int.reduceNeg, Int.reduceEq, Int.reduceBEq, Int.reduceBNe, ↓reduceIte, reduceCtorEq, String.reduceBNe, String.reduceEq, reduceDIte, Nat.reducePow, ws, n0, n1, n2, n3, hz, ha, lk_old ha, hb, lk_old hb, u64l_len, Int.le_refl, Nat.le_refl, w64, u64l_set, c1, c2, ga, c3, c4, c5, c6, c7, c8, gb, w1, gj]
      refine InB_n ?_
      refine Thn_n ?_
      refine hK _ _ ?_
      clear hK K
      refine AW.region (by decide) ?_
      simp only [push_cast, Nat.reduceAdd, Nat.reduceMul, Nat.reduceSub, Nat.reduceLeDiff, Nat.reduceLT, Nat.reduceEqDiff, Nat.reduceBEq, Nat.reduceBNe, Nat.reduceMod, Nat.reduceDiv, Int.reduceLE, Int.reduceLT, Int.reduceToNat, Int.reduceAdd, Int.reduceSub, Int.reduceMul, Int.reduceNeg, Int.reduceEq, Int.reduceBEq, Int.reduceBNe, ↓reduceIte, reduceCtorEq, String.reduceBNe, String.reduceEq, reduceDIte, Nat.reducePow, ws, n0, n1, n2, n3, hz, ha, lk_old ha, hb, lk_old hb, u64l_len, Int.le_refl, Nat.le_refl, w64, u64l_set, c1, c2, ga, c3, c4, c5, c6, c7, c8, gb, w1, gj]
      refine Thn_n ?_
      have hwi : IntKind.i64.wrap ((k:Int)+1) = (k:Int)+1 := wi (by omega)
      have hj1 : (prJ (prI a b i) a b i (k + 1)).1 = ((prJ (prI a b i) a b i k).1).set (i + k) ((w64 (w64 (((prJ (prI a b i) a b i k).1).getD (i + k) 0 + w64 (a.getD i 0 * b.getD k 0)) + (prJ (prI a b i) a b i k).2)).tmod 65536) := rfl
      have hj2 : (prJ (prI a b i) a b i (k + 1)).2 = w64 ((w64 (w64 (((prJ (prI a b i) a b i k).1).getD (i + k) 0 + w64 (a.getD i 0 * b.getD k 0)) + (prJ (prI a b i) a b i k).2)).tdiv 65536) := rfl
      refine ⟨k + 1, hltk, by omega, ?_⟩
      try simp only [keepL, setAll, push_cast, Nat.reduceAdd, Nat.reduceMul, Nat.reduceSub, Nat.reduceLeDiff, Nat.reduceLT, Nat.reduceEqDiff, Nat.reduceBEq, Nat.reduceBNe, Nat.reduceMod, Nat.reduceDiv, Int.reduceLE, Int.reduceLT, Int.reduceToNat, Int.reduceAdd, Int.reduceSub, Int.reduceMul, Int.reduceNeg, Int.reduceEq, Int.reduceBEq, Int.reduceBNe, ↓reduceIte, reduceCtorEq, String.reduceBNe, String.reduceEq, reduceDIte, Nat.reducePow, ws, n0, n1, n2, n3, hz, ha, lk_old ha, hb, lk_old hb, u64l_len, Int.le_refl, Nat.le_refl, w64, u64l_set, c1, c2, ga, c3, c4, c5, c6, c7, c8, gb, w1, gj, hwi, hj1, hj2]
      exact Weak.same (by simp only [Keeps, Tm.get_cons, Nat.reduceEqDiff, ↓reduceIte, if_true, if_false, ite_true, ite_false, true_and, and_true, and_self, reduceCtorEq, hwi, hj1, hj2]) (by first | rfl | simp only [Keeps, Tm.get_cons, Nat.reduceEqDiff, ↓reduceIte, if_true, if_false, ite_true, ite_false, true_and, and_true, and_self, reduceCtorEq, hwi, hj1, hj2])
    · have hke : k = b.length := by have := of_decide_eq_false h25; omega
      subst hke
      have w1 : IntKind.i64.wrap ((i : Int) + (b.length : Int)) = (i : Int) + (b.length : Int) := wi (by omega)
      have c5 : (0 : Int) ≤ (i : Int) + (b.length : Int) := by omega
      have c6 : (i : Int) + (b.length : Int) < (a.length : Int) + (b.length : Int) := by omega
      have c7 : ((i : Int) + (b.length : Int)).toNat = i + b.length := by omega
      have gj := u64l_get (xs := (prJ (prI a b i) a b i b.length).1) (i := i + b.length) (by omega)
      have c8 : i + b.length + 1 ≤ ((prJ (prI a b i) a b i b.length).1).length := by omega
      simp only [Nat.add_assoc] at c8
      refine AW.exit ?_
      refine Thn_e ?_
      clear hK K
      refine Thn_e ?_
      refine InB_here ?_
      refine Thn_n ?_
      refine hK _ _ ?_
      clear hK K
      refine AW.region (by decide) ?_
      simp only [push_cast, Nat.reduceAdd, Nat.reduceMul, Nat.reduceSub, Nat.reduceLeDiff, Nat.reduceLT, Nat.reduceEqDiff, Nat.reduceBEq, Nat.reduceBNe, Nat.reduceMod, Nat.reduceDiv, Int.reduceLE, Int.reduceLT, Int.reduceToNat, Int.reduceAdd, Int.reduceSub, Int.reduceMul, Int.reduceNeg, Int.reduceEq, Int.reduceBEq, Int.reduceBNe, ↓reduceIte, reduceCtorEq, String.reduceBNe, String.reduceEq, reduceDIte, Nat.reducePow, ws, n0, n1, n2, n3, hz, ha, lk_old ha, hb, lk_old hb, u64l_len, Int.le_refl, Nat.le_refl, w64, u64l_set, c1, c2, ga, w1, c5, c6, c7, c8, gj]
      refine InB_n ?_
      refine Thn_n ?_
      refine hK _ _ ?_
      clear hK K
      refine AW.region (by decide) ?_
      simp only [push_cast, Nat.reduceAdd, Nat.reduceMul, Nat.reduceSub, Nat.reduceLeDiff, Nat.reduceLT, Nat.reduceEqDiff, Nat.reduceBEq, Nat.reduceBNe, Nat.reduceMod, Nat.reduceDiv, Int.reduceLE, Int.reduceLT, Int.reduceToNat, Int.reduceAdd, Int.reduceSub, Int.reduceMul, Int.reduceNeg, Int.reduceEq, Int.reduceBEq, Int.reduceBNe, ↓reduceIte, reduceCtorEq, String.reduceBNe, String.reduceEq, reduceDIte, Nat.reducePow, ws, n0, n1, n2, n3, hz, ha, lk_old ha, hb, lk_old hb, u64l_len, Int.le_refl, Nat.le_refl, w64, u64l_set, c1, c2, ga, w1, c5, c6, c7, c8, gj]
      refine Thn_n ?_
      have hwi : IntKind.i64.wrap ((i:Int)+1) = (i:Int)+1 := wi (by omega)
      have hnx : prI a b (i + 1) = ((prJ (prI a b i) a b i b.length).1).set (i + b.length) (w64 (((prJ (prI a b i) a b i b.length).1).getD (i + b.length) 0 + (prJ (prI a b i) a b i b.length).2)) := rfl
      refine ⟨i + 1, hlt, by omega, ?_⟩
      try simp only [keepL, setAll, push_cast, Nat.reduceAdd, Nat.reduceMul, Nat.reduceSub, Nat.reduceLeDiff, Nat.reduceLT, Nat.reduceEqDiff, Nat.reduceBEq, Nat.reduceBNe, Nat.reduceMod, Nat.reduceDiv, Int.reduceLE, Int.reduceLT, Int.reduceToNat, Int.reduceAdd, Int.reduceSub, Int.reduceMul, Int.reduceNeg, Int.reduceEq, Int.reduceBEq, Int.reduceBNe, ↓reduceIte, reduceCtorEq, String.reduceBNe, String.reduceEq, reduceDIte, Nat.reducePow, ws, n0, n1, n2, n3, hz, ha, lk_old ha, hb, lk_old hb, u64l_len, Int.le_refl, Nat.le_refl, w64, u64l_set, c1, c2, ga, w1, c5, c6, c7, c8, gj, hwi, hnx]
      exact Weak.same (by simp only [Keeps, Tm.get_cons, Nat.reduceEqDiff, ↓reduceIte, if_true, if_false, ite_true, ite_false, true_and, and_true, and_self, reduceCtorEq, hwi, hnx]) (by first | rfl | simp only [Keeps, Tm.get_cons, Nat.reduceEqDiff, ↓reduceIte, if_true, if_false, ite_true, ite_false, true_and, and_true, and_self, reduceCtorEq, hwi, hnx])
  · have hie : i = a.length := by have := of_decide_eq_false h19; omega
    subst hie
    refine AW.exit ?_
    refine Thn_e ?_
    clear hK K
    refine Thn_e ?_
    refine InB_here ?_
    refine Thn_n ?_
    refine hK _ _ ?_
    clear hK K
    refine AW.seq_k fun K hK => ?_
    refine AW.region (by decide) ?_
    simp only [push_cast, Nat.reduceAdd, Nat.reduceMul, Nat.reduceSub, Nat.reduceLeDiff, Nat.reduceLT, Nat.reduceEqDiff, Nat.reduceBEq, Nat.reduceBNe, Nat.reduceMod, Nat.reduceDiv, Int.reduceLE, Int.reduceLT, Int.reduceToNat, Int.reduceAdd, Int.reduceSub, Int.reduceMul, Int.reduceNeg, Int.reduceEq, Int.reduceBEq, Int.reduceBNe, ↓reduceIte, reduceCtorEq, String.reduceBNe, String.reduceEq, reduceDIte, Nat.reducePow, ws, n0, n1, n2, n3, hz, ha, lk_old ha, hb, lk_old hb, u64l_len, Int.le_refl, Nat.le_refl, w64, u64l_set]
    refine Thn_n ?_
    refine hK _ _ ?_
    clear hK K
    refine AW.ret ?_
    refine hQ _ _ _ ?_
    refine RetP.pick [(m.length, 0)] (Or.inr rfl) ?_ ?_ ?_ hwf ?_
    · simp only [resA, resOne, resTv, AV.tv, push_cast, Nat.reduceAdd, Nat.reduceMul, Nat.reduceSub, Nat.reduceLeDiff, Nat.reduceLT, Nat.reduceEqDiff, Nat.reduceBEq, Nat.reduceBNe, Nat.reduceMod, Nat.reduceDiv, Int.reduceLE, Int.reduceLT, Int.reduceToNat, Int.reduceAdd, Int.reduceSub, Int.reduceMul, Int.reduceNeg, Int.reduceEq, Int.reduceBEq, Int.reduceBNe, ↓reduceIte, reduceCtorEq, String.reduceBNe, String.reduceEq, reduceDIte, Nat.reducePow]
      simp [renV, renT, renL, renC, renIdx]
    · simp only [picks, push_cast, Nat.reduceAdd, Nat.reduceMul, Nat.reduceSub, Nat.reduceLeDiff, Nat.reduceLT, Nat.reduceEqDiff, Nat.reduceBEq, Nat.reduceBNe, Nat.reduceMod, Nat.reduceDiv, Int.reduceLE, Int.reduceLT, Int.reduceToNat, Int.reduceAdd, Int.reduceSub, Int.reduceMul, Int.reduceNeg, Int.reduceEq, Int.reduceBEq, Int.reduceBNe, ↓reduceIte, reduceCtorEq, String.reduceBNe, String.reduceEq, reduceDIte, Nat.reducePow] <;> rfl
    · simp [distinctFrom]
    · exact MWf_one (u64l_below _ _)
    
end Go.Proofs.YtmjbbnfmhgcfaaaDoor

set_option linter.unusedSimpArgs false
set_option linter.unusedVariables false
set_option maxRecDepth 100000
set_option maxHeartbeats 4000000
namespace Go.Proofs.YtmjbbnfmhgcfaaaDoor
open Go Go.Eng

theorem prod44_c (ra va rb vb : Nat) (x : Int) (m : AMem) (ha : (∃ k ez, m[ra]? = some ⟨k, 50, va, ez, u64l (splL x 4)⟩)) (hb : (∃ k ez, m[rb]? = some ⟨k, 50, vb, ez, u64l (splL x 4)⟩)) : Ctr Tryd.prog 30 [.one (.sl ra va 0 4), .one (.sl rb vb 0 4)] m (.one (.sl m.length 0 0 8)) (m ++ [⟨.grow, 50, 0, 1, u64l (prodI (splL x 4) (splL x 4))⟩]) := by
  have l1 : (prodI (splL x 4) (splL x 4)).length = 8 := by simp [prodI, prI_len, splL_len]
  have h := product_c ra va rb vb (splL x 4) (splL x 4) m ha hb (by first | (rw [splL_len]; decide) | (rw [l1]; decide)) (by rw [splL_len]; decide)
  simpa only [splL_len, l1] using h
theorem prod84_c (ra va rb vb : Nat) (x : Int) (m : AMem) (ha : (∃ k ez, m[ra]? = some ⟨k, 50, va, ez, u64l (prodI (splL x 4) (splL x 4))⟩)) (hb : (∃ k ez, m[rb]? = some ⟨k, 50, vb, ez, u64l (splL x 4)⟩)) : Ctr Tryd.prog 30 [.one (.sl ra va 0 8), .one (.sl rb vb 0 4)] m (.one (.sl m.length 0 0 12)) (m ++ [⟨.grow, 50, 0, 1, u64l (prodI (prodI (splL x 4) (splL x 4)) (splL x 4))⟩]) := by
  have l1 : (prodI (splL x 4) (splL x 4)).length = 8 := by simp [prodI, prI_len, splL_len]
  have h := product_c ra va rb vb (prodI (splL x 4) (splL x 4)) (splL x 4) m ha hb (by first | (rw [splL_len]; decide) | (rw [l1]; decide)) (by rw [splL_len]; decide)
  simpa only [splL_len, l1] using h
theorem third_c (x n : Int) (m : AMem) : Ctr Tryd.prog 26 [.one (.int .u64 x), .one (.int .u64 n)] m (.one (.bool (thirdI x n))) m := by
  refine Ctr.enter Tryd.func26 rfl (by decide) (rs := [.tmp 4]) (nt := 49) rfl rfl fun hwf Q hQ => ?_
  have hs12 : (((12 : Nat) : Nat) : Int) - 1 = 11 := by decide
  have hw : u64l (wantL n) = [.int .u64 0, .int .u64 0, .int .u64 0, .int .u64 0, .int .u64 0, .int .u64 0, .int .u64 n, .int .u64 0, .int .u64 0, .int .u64 0, .int .u64 0, .int .u64 0] := rfl
  have hcl := cubL_len x
  have hwl : (wantL n).length = 12 := rfl
  have hc : prodI (prodI (splL x 4) (splL x 4)) (splL x 4) = cubL x := rfl
  have hth : thirdI x n = thJ (cubL x) (wantL n) 12 := rfl
  refine AW.seq_k fun K hK => ?_
  refine AW.region (by decide) ?_
  simp only [push_cast, Nat.reduceAdd, Nat.reduceMul, Nat.reduceSub, Nat.reduceLeDiff, Nat.reduceLT, Nat.reduceEqDiff, Nat.reduceBEq, Nat.reduceBNe, Nat.reduceMod, Nat.reduceDiv, Int.reduceLE, Int.reduceLT, Int.reduceToNat, Int.reduceAdd, Int.reduceSub, Int.reduceMul, Int.reduceNeg, Int.reduceEq, Int.reduceBEq, Int.reduceBNe, ↓reduceIte, reduceCtorEq, String.reduceBNe, String.reduceEq, reduceDIte, Nat.reducePow, u64l_len, hc]
  refine Thn_n ?_
  refine hK _ _ ?_
  clear hK K
  refine AW.seq_k fun K hK => ?_
  refine AW.region (by decide) ?_
  iterate 2
    simp only [push_cast, Nat.reduceAdd, Nat.reduceMul, Nat.reduceSub, Nat.reduceLeDiff, Nat.reduceLT, Nat.reduceEqDiff, Nat.reduceBEq, Nat.reduceBNe, Nat.reduceMod, Nat.reduceDiv, Int.reduceLE, Int.reduceLT, Int.reduceToNat, Int.reduceAdd, Int.reduceSub, Int.reduceMul, Int.reduceNeg, Int.reduceEq, Int.reduceBEq, Int.reduceBNe, ↓reduceIte, reduceCtorEq, String.reduceBNe, String.reduceEq, reduceDIte, Nat.reducePow, u64l_len, hc]
    refine CThen.by (split_c _ _) ?_
  simp only [push_cast, Nat.reduceAdd, Nat.reduceMul, Nat.reduceSub, Nat.reduceLeDiff, Nat.reduceLT, Nat.reduceEqDiff, Nat.reduceBEq, Nat.reduceBNe, Nat.reduceMod, Nat.reduceDiv, Int.reduceLE, Int.reduceLT, Int.reduceToNat, Int.reduceAdd, Int.reduceSub, Int.reduceMul, Int.reduceNeg, Int.reduceEq, Int.reduceBEq, Int.reduceBNe, ↓reduceIte, reduceCtorEq, String.reduceBNe, String.reduceEq, reduceDIte, Nat.reducePow, u64l_len, hc]
  refine CThen.by (prod44_c m.length 0 (m.length + 1) 0 x _ ⟨.grow, 1, by simp only [push_cast, Nat.reduceAdd, Nat.reduceMul, Nat.reduceSub, Nat.reduceLeDiff, Nat.reduceLT, Nat.reduceEqDiff, Nat.reduceBEq, Nat.reduceBNe, Nat.reduceMod, Nat.reduceDiv, Int.reduceLE, Int.reduceLT, Int.reduceToNat, Int.reduceAdd, Int.reduceSub, Int.reduceMul, Int.reduceNeg, Int.reduceEq, Int.reduceBEq, Int.reduceBNe, ↓reduceIte, reduceCtorEq, String.reduceBNe, String.reduceEq, reduceDIte, Nat.reducePow]⟩ ⟨.grow, 1, by simp only [push_cast, Nat.reduceAdd, Nat.reduceMul, Nat.reduceSub, Nat.reduceLeDiff, Nat.reduceLT, Nat.reduceEqDiff, Nat.reduceBEq, Nat.reduceBNe, Nat.reduceMod, Nat.reduceDiv, Int.reduceLE, Int.reduceLT, Int.reduceToNat, Int.reduceAdd, Int.reduceSub, Int.reduceMul, Int.reduceNeg, Int.reduceEq, Int.reduceBEq, Int.reduceBNe, ↓reduceIte, reduceCtorEq, String.reduceBNe, String.reduceEq, reduceDIte, Nat.reducePow]⟩) ?_
  simp only [push_cast, Nat.reduceAdd, Nat.reduceMul, Nat.reduceSub, Nat.reduceLeDiff, Nat.reduceLT, Nat.reduceEqDiff, Nat.reduceBEq, Nat.reduceBNe, Nat.reduceMod, Nat.reduceDiv, Int.reduceLE, Int.reduceLT, Int.reduceToNat, Int.reduceAdd, Int.reduceSub, Int.reduceMul, Int.reduceNeg, Int.reduceEq, Int.reduceBEq, Int.reduceBNe, ↓reduceIte, reduceCtorEq, String.reduceBNe, String.reduceEq, reduceDIte, Nat.reducePow, u64l_len, hc]
  refine Thn_n ?_
  refine hK _ _ ?_
  clear hK K
  refine AW.seq_k fun K hK => ?_
  refine AW.region (by decide) ?_
  simp only [push_cast, Nat.reduceAdd, Nat.reduceMul, Nat.reduceSub, Nat.reduceLeDiff, Nat.reduceLT, Nat.reduceEqDiff, Nat.reduceBEq, Nat.reduceBNe, Nat.reduceMod, Nat.reduceDiv, Int.reduceLE, Int.reduceLT, Int.reduceToNat, Int.reduceAdd, Int.reduceSub, Int.reduceMul, Int.reduceNeg, Int.reduceEq, Int.reduceBEq, Int.reduceBNe, ↓reduceIte, reduceCtorEq, String.reduceBNe, String.reduceEq, reduceDIte, Nat.reducePow, u64l_len, hc]
  refine CThen.by (split_c _ _) ?_
  simp only [push_cast, Nat.reduceAdd, Nat.reduceMul, Nat.reduceSub, Nat.reduceLeDiff, Nat.reduceLT, Nat.reduceEqDiff, Nat.reduceBEq, Nat.reduceBNe, Nat.reduceMod, Nat.reduceDiv, Int.reduceLE, Int.reduceLT, Int.reduceToNat, Int.reduceAdd, Int.reduceSub, Int.reduceMul, Int.reduceNeg, Int.reduceEq, Int.reduceBEq, Int.reduceBNe, ↓reduceIte, reduceCtorEq, String.reduceBNe, String.reduceEq, reduceDIte, Nat.reducePow, u64l_len, hc]
  refine CThen.by (prod84_c (m.length + 2) 0 (m.length + 3) 0 x _ ⟨.grow, 1, by simp only [push_cast, Nat.reduceAdd, Nat.reduceMul, Nat.reduceSub, Nat.reduceLeDiff, Nat.reduceLT, Nat.reduceEqDiff, Nat.reduceBEq, Nat.reduceBNe, Nat.reduceMod, Nat.reduceDiv, Int.reduceLE, Int.reduceLT, Int.reduceToNat, Int.reduceAdd, Int.reduceSub, Int.reduceMul, Int.reduceNeg, Int.reduceEq, Int.reduceBEq, Int.reduceBNe, ↓reduceIte, reduceCtorEq, String.reduceBNe, String.reduceEq, reduceDIte, Nat.reducePow]⟩ ⟨.grow, 1, by simp only [push_cast, Nat.reduceAdd, Nat.reduceMul, Nat.reduceSub, Nat.reduceLeDiff, Nat.reduceLT, Nat.reduceEqDiff, Nat.reduceBEq, Nat.reduceBNe, Nat.reduceMod, Nat.reduceDiv, Int.reduceLE, Int.reduceLT, Int.reduceToNat, Int.reduceAdd, Int.reduceSub, Int.reduceMul, Int.reduceNeg, Int.reduceEq, Int.reduceBEq, Int.reduceBNe, ↓reduceIte, reduceCtorEq, String.reduceBNe, String.reduceEq, reduceDIte, Nat.reducePow]⟩) ?_
  iterate 2
    simp only [push_cast, Nat.reduceAdd, Nat.reduceMul, Nat.reduceSub, Nat.reduceLeDiff, Nat.reduceLT, Nat.reduceEqDiff, Nat.reduceBEq, Nat.reduceBNe, Nat.reduceMod, Nat.reduceDiv, Int.reduceLE, Int.reduceLT, Int.reduceToNat, Int.reduceAdd, Int.reduceSub, Int.reduceMul, Int.reduceNeg, Int.reduceEq, Int.reduceBEq, Int.reduceBNe, ↓reduceIte, reduceCtorEq, String.reduceBNe, String.reduceEq, reduceDIte, Nat.reducePow, u64l_len, hc]
    refine Thn_n ?_
    refine hK _ _ ?_
    clear hK K
    refine AW.seq_k fun K hK => ?_
    refine AW.region (by decide) ?_
  simp only [push_cast, Nat.reduceAdd, Nat.reduceMul, Nat.reduceSub, Nat.reduceLeDiff, Nat.reduceLT, Nat.reduceEqDiff, Nat.reduceBEq, Nat.reduceBNe, Nat.reduceMod, Nat.reduceDiv, Int.reduceLE, Int.reduceLT, Int.reduceToNat, Int.reduceAdd, Int.reduceSub, Int.reduceMul, Int.reduceNeg, Int.reduceEq, Int.reduceBEq, Int.reduceBNe, ↓reduceIte, reduceCtorEq, String.reduceBNe, String.reduceEq, reduceDIte, Nat.reducePow, u64l_len, hc]
  refine Thn_n ?_
  refine hK _ _ ?_
  clear hK K
  refine AW.seq_k fun K hK => ?_
  refine AW.seq_k fun K hK => ?_
  refine AW.region (by decide) ?_
  simp only [push_cast, Nat.reduceAdd, Nat.reduceMul, Nat.reduceSub, Nat.reduceLeDiff, Nat.reduceLT, Nat.reduceEqDiff, Nat.reduceBEq, Nat.reduceBNe, Nat.reduceMod, Nat.reduceDiv, Int.reduceLE, Int.reduceLT, Int.reduceToNat, Int.reduceAdd, Int.reduceSub, Int.reduceMul, Int.reduceNeg, Int.reduceEq, Int.reduceBEq, Int.reduceBNe, ↓reduceIte, reduceCtorEq, String.reduceBNe, String.reduceEq, reduceDIte, Nat.reducePow, u64l_len, hc]
  refine Thn_n ?_
  refine hK _ _ ?_
  clear hK K
  refine AW.block ?_
  refine AW.loopK [6, 7] (fun i => i ≤ (12 : Nat) ∧ thirdI x n = thJ (cubL x) (wantL n) i) (fun i => [(8, .one (.int .i64 ((i : Int) - 1)))]) (fun i => [(m.length + 5, ⟨.grow, 50, 0, 1, u64l (wantL n)⟩)]) (fun i => i) 12 ⟨by decide, hth⟩ ?_ ?_ fun i hi8 => ?_
  · first | rfl | (simp only [Keeps, Tm.get_cons, Nat.reduceEqDiff, ↓reduceIte, if_true, if_false, ite_true, ite_false, true_and, and_true, and_self, reduceCtorEq, hw, hs12] <;> rfl)
  · first | rfl | (simp only [setAll, push_cast, Nat.reduceAdd, Nat.reduceMul, Nat.reduceSub, Nat.reduceLeDiff, Nat.reduceLT, Nat.reduceEqDiff, Nat.reduceBEq, Nat.reduceBNe, Nat.reduceMod, Nat.reduceDiv, Int.reduceLE, Int.reduceLT, Int.reduceToNat, Int.reduceAdd, Int.reduceSub, Int.reduceMul, Int.reduceNeg, Int.reduceEq, Int.reduceBEq, Int.reduceBNe, ↓reduceIte, reduceCtorEq, String.reduceBNe, String.reduceEq, reduceDIte, Nat.reducePow, u64l_len, hc, hw, hs12] <;> rfl)
  obtain ⟨hi12, hit⟩ := hi8
  try simp only [keepL, setAll, push_cast, Nat.reduceAdd, Nat.reduceMul, Nat.reduceSub, Nat.reduceLeDiff, Nat.reduceLT, Nat.reduceEqDiff, Nat.reduceBEq, Nat.reduceBNe, Nat.reduceMod, Nat.reduceDiv, Int.reduceLE, Int.reduceLT, Int.reduceToNat, Int.reduceAdd, Int.reduceSub, Int.reduceMul, Int.reduceNeg, Int.reduceEq, Int.reduceBEq, Int.reduceBNe, ↓reduceIte, reduceCtorEq, String.reduceBNe, String.reduceEq, reduceDIte, Nat.reducePow, u64l_len, hc]
  refine AW.seq_k fun K hK => ?_
  refine AW.seq_k fun K hK => ?_
  refine AW.region (by decide) ?_
  simp only [push_cast, Nat.reduceAdd, Nat.reduceMul, Nat.reduceSub, Nat.reduceLeDiff, Nat.reduceLT, Nat.reduceEqDiff, Nat.reduceBEq, Nat.reduceBNe, Nat.reduceMod, Nat.reduceDiv, Int.reduceLE, Int.reduceLT, Int.reduceToNat, Int.reduceAdd, Int.reduceSub, Int.reduceMul, Int.reduceNeg, Int.reduceEq, Int.reduceBEq, Int.reduceBNe, ↓reduceIte, reduceCtorEq, String.reduceBNe, String.reduceEq, reduceDIte, Nat.reducePow, u64l_len, hc]
  refine Thn_n ?_
  refine hK _ _ ?_
  clear hK K
  refine AW.cond rfl (fun h28 => ?_) (fun h28 => ?_)
  · obtain ⟨j, rfl⟩ : ∃ j, i = j + 1 := ⟨i - 1, by have := of_decide_eq_true h28; omega⟩
    have hj1 : ((j + 1 : Nat) : Int) - 1 = (j : Int) := by omega
    simp only [push_cast, Nat.reduceAdd, Nat.reduceMul, Nat.reduceSub, Nat.reduceLeDiff, Nat.reduceLT, Nat.reduceEqDiff, Nat.reduceBEq, Nat.reduceBNe, Nat.reduceMod, Nat.reduceDiv, Int.reduceLE, Int.reduceLT, Int.reduceToNat, Int.reduceAdd, Int.reduceSub, Int.reduceMul, Int.reduceNeg, Int.reduceEq, Int.reduceBEq, Int.reduceBNe, ↓reduceIte, reduceCtorEq, String.reduceBNe, String.reduceEq, reduceDIte, Nat.reducePow] at hj1
    have c1 : (0 : Int) ≤ (j : Int) := by omega
    have c2 : (j : Int) < 12 := by omega
    have g1 := u64l_get (xs := cubL x) (i := j) (by omega)
    have g2 := u64l_get (xs := wantL n) (i := j) (by omega)
    refine AW.skip ?_
    refine Thn_n ?_
    refine hK _ _ ?_
    clear hK K
    refine AW.seq_k fun K hK => ?_
    refine AW.block ?_
    refine AW.seq_k fun K hK => ?_
    refine AW.draw [.val, .val, .val, .rd 0, .val, .val, .val, .rd 0, .val] fol (by decide) (by kernel_rfl) ?_
    simp only [push_cast, Nat.reduceAdd, Nat.reduceMul, Nat.reduceSub, Nat.reduceLeDiff, Nat.reduceLT, Nat.reduceEqDiff, Nat.reduceBEq, Nat.reduceBNe, Nat.reduceMod, Nat.reduceDiv, Int.reduceLE, Int.reduceLT, Int.reduceToNat, Int.reduceAdd, Int.reduceSub, Int.reduceMul, Int.reduceNeg, Int.reduceEq, Int.reduceBEq, Int.reduceBNe, ↓reduceIte, reduceCtorEq, String.reduceBNe, String.reduceEq, reduceDIte, Nat.reducePow, u64l_len, hc, hj1, c1, c2, g1, g2]
    refine Thn_n ?_
    refine hK _ _ ?_
    clear hK K
    refine AW.cond rfl (fun h39 => ?_) (fun h39 => ?_)
    · have hne : ¬ (cubL x).getD j 0 = (wantL n).getD j 0 := by simpa using h39
      have hres : thirdI x n = decide ((cubL x).getD j 0 < (wantL n).getD j 0) := by rw [hit]; simp only [thJ, if_neg hne]
      refine AW.seq_k fun K hK => ?_
      refine AW.draw [.val, .val, .val, .rd 0, .val, .val, .val, .rd 0, .val, .val] fol (by decide) (by kernel_rfl) ?_
      simp only [push_cast, Nat.reduceAdd, Nat.reduceMul, Nat.reduceSub, Nat.reduceLeDiff, Nat.reduceLT, Nat.reduceEqDiff, Nat.reduceBEq, Nat.reduceBNe, Nat.reduceMod, Nat.reduceDiv, Int.reduceLE, Int.reduceLT, Int.reduceToNat, Int.reduceAdd, Int.reduceSub, Int.reduceMul, Int.reduceNeg, Int.reduceEq, Int.reduceBEq, Int.reduceBNe, ↓reduceIte, reduceCtorEq, String.reduceBNe, String.reduceEq, reduceDIte, Nat.reducePow, u64l_len, hc, hj1, c1, c2, g1, g2, hres]
      refine Thn_n ?_
      refine hK _ _ ?_
      clear hK K
      refine AW.ret ?_
      refine InB_r ?_
      refine Thn_r ?_
      refine Thn_r ?_
      refine InB_r ?_
      refine Thn_r ?_
      refine hQ _ _ _ ?_
      first | refine RetP.drop0 (Or.inr rfl) ?_ ?_ hwf | refine RetP.drop (Or.inr rfl) ?_ ?_ hwf
      · simp only [resA, resOne, resTv, AV.tv, push_cast, Nat.reduceAdd, Nat.reduceMul, Nat.reduceSub, Nat.reduceLeDiff, Nat.reduceLT, Nat.reduceEqDiff, Nat.reduceBEq, Nat.reduceBNe, Nat.reduceMod, Nat.reduceDiv, Int.reduceLE, Int.reduceLT, Int.reduceToNat, Int.reduceAdd, Int.reduceSub, Int.reduceMul, Int.reduceNeg, Int.reduceEq, Int.reduceBEq, Int.reduceBNe, ↓reduceIte, reduceCtorEq, String.reduceBNe, String.reduceEq, reduceDIte, Nat.reducePow, u64l_len, hc, hj1, c1, c2, g1, g2, hres]
      · rfl
    · have hne : (cubL x).getD j 0 = (wantL n).getD j 0 := by simpa using h39
      have hnx : thirdI x n = thJ (cubL x) (wantL n) j := by rw [hit]; simp only [thJ, if_pos hne]
      refine AW.skip ?_
      refine InB_n ?_
      refine Thn_n ?_
      refine hK _ _ ?_
      clear hK K
      refine AW.region (by decide) ?_
      simp only [push_cast, Nat.reduceAdd, Nat.reduceMul, Nat.reduceSub, Nat.reduceLeDiff, Nat.reduceLT, Nat.reduceEqDiff, Nat.reduceBEq, Nat.reduceBNe, Nat.reduceMod, Nat.reduceDiv, Int.reduceLE, Int.reduceLT, Int.reduceToNat, Int.reduceAdd, Int.reduceSub, Int.reduceMul, Int.reduceNeg, Int.reduceEq, Int.reduceBEq, Int.reduceBNe, ↓reduceIte, reduceCtorEq, String.reduceBNe, String.reduceEq, reduceDIte, Nat.reducePow, u64l_len, hc, hj1, c1, c2, g1, g2]
      refine Thn_n ?_
      have hwi : IntKind.i64.wrap ((j : Int) - 1) = (j : Int) - 1 := by rw [IntKind.wrap_i64]; omega
      refine ⟨j, ⟨by omega, hnx⟩, by omega, ?_⟩
      try simp only [keepL, setAll, push_cast, Nat.reduceAdd, Nat.reduceMul, Nat.reduceSub, Nat.reduceLeDiff, Nat.reduceLT, Nat.reduceEqDiff, Nat.reduceBEq, Nat.reduceBNe, Nat.reduceMod, Nat.reduceDiv, Int.reduceLE, Int.reduceLT, Int.reduceToNat, Int.reduceAdd, Int.reduceSub, Int.reduceMul, Int.reduceNeg, Int.reduceEq, Int.reduceBEq, Int.reduceBNe, ↓reduceIte, reduceCtorEq, String.reduceBNe, String.reduceEq, reduceDIte, Nat.reducePow, u64l_len, hc, hj1, c1, c2, g1, g2, hwi]
      exact Weak.same (by simp only [Keeps, Tm.get_cons, Nat.reduceEqDiff, ↓reduceIte, if_true, if_false, ite_true, ite_false, true_and, and_true, and_self, reduceCtorEq, hwi]) (by first | rfl | simp only [Keeps, Tm.get_cons, Nat.reduceEqDiff, ↓reduceIte, if_true, if_false, ite_true, ite_false, true_and, and_true, and_self, reduceCtorEq, hwi])
  · have hie : i = 0 := by have := of_decide_eq_false h28; omega
    subst hie
    have hres : thirdI x n = true := hit
    refine AW.exit ?_
    refine Thn_e ?_
    clear hK K
    refine Thn_e ?_
    refine InB_here ?_
    refine Thn_n ?_
    refine hK _ _ ?_
    clear hK K
    refine AW.seq_k fun K hK => ?_
    refine AW.region (by decide) ?_
    simp only [push_cast, Nat.reduceAdd, Nat.reduceMul, Nat.reduceSub, Nat.reduceLeDiff, Nat.reduceLT, Nat.reduceEqDiff, Nat.reduceBEq, Nat.reduceBNe, Nat.reduceMod, Nat.reduceDiv, Int.reduceLE, Int.reduceLT, Int.reduceToNat, Int.reduceAdd, Int.reduceSub, Int.reduceMul, Int.reduceNeg, Int.reduceEq, Int.reduceBEq, Int.reduceBNe, ↓reduceIte, reduceCtorEq, String.reduceBNe, String.reduceEq, reduceDIte, Nat.reducePow, u64l_len, hc, hres]
    refine Thn_n ?_
    refine hK _ _ ?_
    clear hK K
    refine AW.ret ?_
    refine hQ _ _ _ ?_
    first | refine RetP.drop0 (Or.inr rfl) ?_ ?_ hwf | refine RetP.drop (Or.inr rfl) ?_ ?_ hwf
    · simp only [resA, resOne, resTv, AV.tv, push_cast, Nat.reduceAdd, Nat.reduceMul, Nat.reduceSub, Nat.reduceLeDiff, Nat.reduceLT, Nat.reduceEqDiff, Nat.reduceBEq, Nat.reduceBNe, Nat.reduceMod, Nat.reduceDiv, Int.reduceLE, Int.reduceLT, Int.reduceToNat, Int.reduceAdd, Int.reduceSub, Int.reduceMul, Int.reduceNeg, Int.reduceEq, Int.reduceBEq, Int.reduceBNe, ↓reduceIte, reduceCtorEq, String.reduceBNe, String.reduceEq, reduceDIte, Nat.reducePow, u64l_len, hc, hres]
    · rfl
theorem cube_c (n : Int) (m : AMem) : Ctr Tryd.prog 17 [.one (.int .u64 n)] m (.one (.int .u32 (cubeI n))) m := by
  refine Ctr.enter Tryd.func17 rfl (by decide) (rs := [.tmp 2]) (nt := 20) rfl rfl fun hwf Q hQ => ?_
  iterate 2
    refine AW.seq_k fun K hK => ?_
    refine AW.region (by decide) ?_
    simp only [push_cast, Nat.reduceAdd, Nat.reduceMul, Nat.reduceSub, Nat.reduceLeDiff, Nat.reduceLT, Nat.reduceEqDiff, Nat.reduceBEq, Nat.reduceBNe, Nat.reduceMod, Nat.reduceDiv, Int.reduceLE, Int.reduceLT, Int.reduceToNat, Int.reduceAdd, Int.reduceSub, Int.reduceMul, Int.reduceNeg, Int.reduceEq, Int.reduceBEq, Int.reduceBNe, ↓reduceIte, reduceCtorEq, String.reduceBNe, String.reduceEq, reduceDIte, Nat.reducePow, w64]
    refine Thn_n ?_
    refine hK _ _ ?_
    clear hK K
  refine AW.seq_k fun K hK => ?_
  refine AW.seq_k fun K hK => ?_
  refine AW.region (by decide) ?_
  simp only [push_cast, Nat.reduceAdd, Nat.reduceMul, Nat.reduceSub, Nat.reduceLeDiff, Nat.reduceLT, Nat.reduceEqDiff, Nat.reduceBEq, Nat.reduceBNe, Nat.reduceMod, Nat.reduceDiv, Int.reduceLE, Int.reduceLT, Int.reduceToNat, Int.reduceAdd, Int.reduceSub, Int.reduceMul, Int.reduceNeg, Int.reduceEq, Int.reduceBEq, Int.reduceBNe, ↓reduceIte, reduceCtorEq, String.reduceBNe, String.reduceEq, reduceDIte, Nat.reducePow, w64]
  refine Thn_n ?_
  refine hK _ _ ?_
  clear hK K
  refine AW.block ?_
  refine AW.loopK [0] (fun t => t ≤ (36 : Nat)) (fun t => [(3, .one (.int .u64 (cubeX n t))), (4, .one (.int .u64 (bitR 34359738368 t)))]) (fun t => []) (fun t => 36 - t) 0 (by omega) ?_ ?_ fun t hi5 => ?_
  · first | rfl | (simp only [Keeps, Tm.get_cons, Nat.reduceEqDiff, ↓reduceIte, if_true, if_false, ite_true, ite_false, true_and, and_true, and_self, reduceCtorEq, bitR, cubeX] <;> rfl)
  · first | rfl | (simp only [setAll, push_cast, Nat.reduceAdd, Nat.reduceMul, Nat.reduceSub, Nat.reduceLeDiff, Nat.reduceLT, Nat.reduceEqDiff, Nat.reduceBEq, Nat.reduceBNe, Nat.reduceMod, Nat.reduceDiv, Int.reduceLE, Int.reduceLT, Int.reduceToNat, Int.reduceAdd, Int.reduceSub, Int.reduceMul, Int.reduceNeg, Int.reduceEq, Int.reduceBEq, Int.reduceBNe, ↓reduceIte, reduceCtorEq, String.reduceBNe, String.reduceEq, reduceDIte, Nat.reducePow, w64, bitR, cubeX] <;> rfl)
  have ht : t ≤ 36 := hi5
  try simp only [keepL, setAll, push_cast, Nat.reduceAdd, Nat.reduceMul, Nat.reduceSub, Nat.reduceLeDiff, Nat.reduceLT, Nat.reduceEqDiff, Nat.reduceBEq, Nat.reduceBNe, Nat.reduceMod, Nat.reduceDiv, Int.reduceLE, Int.reduceLT, Int.reduceToNat, Int.reduceAdd, Int.reduceSub, Int.reduceMul, Int.reduceNeg, Int.reduceEq, Int.reduceBEq, Int.reduceBNe, ↓reduceIte, reduceCtorEq, String.reduceBNe, String.reduceEq, reduceDIte, Nat.reducePow, w64]
  refine AW.seq_k fun K hK => ?_
  refine AW.seq_k fun K hK => ?_
  refine AW.region (by decide) ?_
  simp only [push_cast, Nat.reduceAdd, Nat.reduceMul, Nat.reduceSub, Nat.reduceLeDiff, Nat.reduceLT, Nat.reduceEqDiff, Nat.reduceBEq, Nat.reduceBNe, Nat.reduceMod, Nat.reduceDiv, Int.reduceLE, Int.reduceLT, Int.reduceToNat, Int.reduceAdd, Int.reduceSub, Int.reduceMul, Int.reduceNeg, Int.reduceEq, Int.reduceBEq, Int.reduceBNe, ↓reduceIte, reduceCtorEq, String.reduceBNe, String.reduceEq, reduceDIte, Nat.reducePow, w64]
  refine Thn_n ?_
  refine hK _ _ ?_
  clear hK K
  refine AW.cond rfl (fun h6 => ?_) (fun h6 => ?_)
  · have hlt : t < 36 := by
      have h1 := of_decide_eq_true h6
      rcases Nat.lt_or_ge t 36 with h | h
      · exact h
      · obtain rfl : t = 36 := by omega
        rw [bitC_end] at h1; exact absurd h1 (by decide)
    refine AW.skip ?_
    refine Thn_n ?_
    refine hK _ _ ?_
    clear hK K
    refine AW.seq_k fun K hK => ?_
    refine AW.block ?_
    refine AW.seq_k fun K hK => ?_
    refine AW.region (by decide) ?_
    simp only [push_cast, Nat.reduceAdd, Nat.reduceMul, Nat.reduceSub, Nat.reduceLeDiff, Nat.reduceLT, Nat.reduceEqDiff, Nat.reduceBEq, Nat.reduceBNe, Nat.reduceMod, Nat.reduceDiv, Int.reduceLE, Int.reduceLT, Int.reduceToNat, Int.reduceAdd, Int.reduceSub, Int.reduceMul, Int.reduceNeg, Int.reduceEq, Int.reduceBEq, Int.reduceBNe, ↓reduceIte, reduceCtorEq, String.reduceBNe, String.reduceEq, reduceDIte, Nat.reducePow, w64]
    refine CThen.by (third_c _ _ _) ?_
    simp only [push_cast, Nat.reduceAdd, Nat.reduceMul, Nat.reduceSub, Nat.reduceLeDiff, Nat.reduceLT, Nat.reduceEqDiff, Nat.reduceBEq, Nat.reduceBNe, Nat.reduceMod, Nat.reduceDiv, Int.reduceLE, Int.reduceLT, Int.reduceToNat, Int.reduceAdd, Int.reduceSub, Int.reduceMul, Int.reduceNeg, Int.reduceEq, Int.reduceBEq, Int.reduceBNe, ↓reduceIte, reduceCtorEq, String.reduceBNe, String.reduceEq, reduceDIte, Nat.reducePow, w64]
    refine Thn_n ?_
    refine hK _ _ ?_
    clear hK K
    refine AW.cond rfl (fun h13 => ?_) (fun h13 => ?_)
    · have hnx : cubeX n (t + 1) = IntKind.u64.wrap (cubeX n t + bitR 34359738368 t) := by simp only [cubeX, w64]; exact if_pos h13
      refine AW.region (by decide) ?_
      simp only [push_cast, Nat.reduceAdd, Nat.reduceMul, Nat.reduceSub, Nat.reduceLeDiff, Nat.reduceLT, Nat.reduceEqDiff, Nat.reduceBEq, Nat.reduceBNe, Nat.reduceMod, Nat.reduceDiv, Int.reduceLE, Int.reduceLT, Int.reduceToNat, Int.reduceAdd, Int.reduceSub, Int.reduceMul, Int.reduceNeg, Int.reduceEq, Int.reduceBEq, Int.reduceBNe, ↓reduceIte, reduceCtorEq, String.reduceBNe, String.reduceEq, reduceDIte, Nat.reducePow, w64]
      refine InB_n ?_
      refine Thn_n ?_
      refine hK _ _ ?_
      clear hK K
      refine AW.region (by decide) ?_
      simp only [push_cast, Nat.reduceAdd, Nat.reduceMul, Nat.reduceSub, Nat.reduceLeDiff, Nat.reduceLT, Nat.reduceEqDiff, Nat.reduceBEq, Nat.reduceBNe, Nat.reduceMod, Nat.reduceDiv, Int.reduceLE, Int.reduceLT, Int.reduceToNat, Int.reduceAdd, Int.reduceSub, Int.reduceMul, Int.reduceNeg, Int.reduceEq, Int.reduceBEq, Int.reduceBNe, ↓reduceIte, reduceCtorEq, String.reduceBNe, String.reduceEq, reduceDIte, Nat.reducePow, w64]
      refine Thn_n ?_
      refine ⟨t + 1, hlt, by omega, ?_⟩
      try simp only [keepL, setAll, push_cast, Nat.reduceAdd, Nat.reduceMul, Nat.reduceSub, Nat.reduceLeDiff, Nat.reduceLT, Nat.reduceEqDiff, Nat.reduceBEq, Nat.reduceBNe, Nat.reduceMod, Nat.reduceDiv, Int.reduceLE, Int.reduceLT, Int.reduceToNat, Int.reduceAdd, Int.reduceSub, Int.reduceMul, Int.reduceNeg, Int.reduceEq, Int.reduceBEq, Int.reduceBNe, ↓reduceIte, reduceCtorEq, String.reduceBNe, String.reduceEq, reduceDIte, Nat.reducePow, w64, bitR, w64, hnx]
      exact Weak.same (by simp only [Keeps, Tm.get_cons, Nat.reduceEqDiff, ↓reduceIte, if_true, if_false, ite_true, ite_false, true_and, and_true, and_self, reduceCtorEq, bitR, w64, hnx]) (by first | rfl | simp only [Keeps, Tm.get_cons, Nat.reduceEqDiff, ↓reduceIte, if_true, if_false, ite_true, ite_false, true_and, and_true, and_self, reduceCtorEq, bitR, w64, hnx])
    · have hnx : cubeX n (t + 1) = cubeX n t := by simp only [cubeX, w64]; exact if_neg (by rw [h13]; decide)
      refine AW.skip ?_
      refine InB_n ?_
      refine Thn_n ?_
      refine hK _ _ ?_
      clear hK K
      refine AW.region (by decide) ?_
      simp only [push_cast, Nat.reduceAdd, Nat.reduceMul, Nat.reduceSub, Nat.reduceLeDiff, Nat.reduceLT, Nat.reduceEqDiff, Nat.reduceBEq, Nat.reduceBNe, Nat.reduceMod, Nat.reduceDiv, Int.reduceLE, Int.reduceLT, Int.reduceToNat, Int.reduceAdd, Int.reduceSub, Int.reduceMul, Int.reduceNeg, Int.reduceEq, Int.reduceBEq, Int.reduceBNe, ↓reduceIte, reduceCtorEq, String.reduceBNe, String.reduceEq, reduceDIte, Nat.reducePow, w64]
      refine Thn_n ?_
      refine ⟨t + 1, hlt, by omega, ?_⟩
      try simp only [keepL, setAll, push_cast, Nat.reduceAdd, Nat.reduceMul, Nat.reduceSub, Nat.reduceLeDiff, Nat.reduceLT, Nat.reduceEqDiff, Nat.reduceBEq, Nat.reduceBNe, Nat.reduceMod, Nat.reduceDiv, Int.reduceLE, Int.reduceLT, Int.reduceToNat, Int.reduceAdd, Int.reduceSub, Int.reduceMul, Int.reduceNeg, Int.reduceEq, Int.reduceBEq, Int.reduceBNe, ↓reduceIte, reduceCtorEq, String.reduceBNe, String.reduceEq, reduceDIte, Nat.reducePow, w64, bitR, w64, hnx]
      exact Weak.same (by simp only [Keeps, Tm.get_cons, Nat.reduceEqDiff, ↓reduceIte, if_true, if_false, ite_true, ite_false, true_and, and_true, and_self, reduceCtorEq, bitR, w64, hnx]) (by first | rfl | simp only [Keeps, Tm.get_cons, Nat.reduceEqDiff, ↓reduceIte, if_true, if_false, ite_true, ite_false, true_and, and_true, and_self, reduceCtorEq, bitR, w64, hnx])
  · have hte : t = 36 := by
      have h1 := of_decide_eq_false h6
      rcases Nat.lt_or_ge t 36 with h | h
      · exact absurd (bitC_pos ⟨t, h⟩) h1
      · omega
    subst hte
    refine AW.exit ?_
    refine Thn_e ?_
    clear hK K
    refine Thn_e ?_
    refine InB_here ?_
    refine Thn_n ?_
    refine hK _ _ ?_
    clear hK K
    refine AW.seq_k fun K hK => ?_
    refine AW.region (by decide) ?_
    simp only [push_cast, Nat.reduceAdd, Nat.reduceMul, Nat.reduceSub, Nat.reduceLeDiff, Nat.reduceLT, Nat.reduceEqDiff, Nat.reduceBEq, Nat.reduceBNe, Nat.reduceMod, Nat.reduceDiv, Int.reduceLE, Int.reduceLT, Int.reduceToNat, Int.reduceAdd, Int.reduceSub, Int.reduceMul, Int.reduceNeg, Int.reduceEq, Int.reduceBEq, Int.reduceBNe, ↓reduceIte, reduceCtorEq, String.reduceBNe, String.reduceEq, reduceDIte, Nat.reducePow, w64]
    refine Thn_n ?_
    refine hK _ _ ?_
    clear hK K
    refine AW.ret ?_
    refine hQ _ _ _ ?_
    first | refine RetP.drop0 (Or.inr rfl) ?_ ?_ hwf | refine RetP.drop (Or.inr rfl) ?_ ?_ hwf
    · simp only [resA, resOne, resTv, AV.tv, push_cast, Nat.reduceAdd, Nat.reduceMul, Nat.reduceSub, Nat.reduceLeDiff, Nat.reduceLT, Nat.reduceEqDiff, Nat.reduceBEq, Nat.reduceBNe, Nat.reduceMod, Nat.reduceDiv, Int.reduceLE, Int.reduceLT, Int.reduceToNat, Int.reduceAdd, Int.reduceSub, Int.reduceMul, Int.reduceNeg, Int.reduceEq, Int.reduceBEq, Int.reduceBNe, ↓reduceIte, reduceCtorEq, String.reduceBNe, String.reduceEq, reduceDIte, Nat.reducePow, w64, cubeI]
    · rfl
def pfl (L : List Int) (p : Int) : Nat → Bool
  | 0 => true
  | i + 1 => if p.tmod (L.getD i 0) = 0 then false else pfl L p i
def prL : Nat → List Int
  | 0 => []
  | k + 1 => if pfl (prL k) ((k : Int) + 2) (prL k).length then prL k ++ [(k : Int) + 2] else prL k
theorem prL_pos : ∀ k, ∀ x, x ∈ prL k → 2 ≤ x
  | 0, x, h => by cases h
  | k + 1, x, h => by
    simp only [prL] at h
    split at h
    · rcases List.mem_append.1 h with h | h
      · exact prL_pos k x h
      · simp at h; omega
    · exact prL_pos k x h
theorem prL_mono : ∀ (d k : Nat), (prL k).length ≤ (prL (k + d)).length
  | 0, k => Nat.le_refl _
  | d + 1, k => by
    have := prL_mono d k
    rw [show k + (d + 1) = (k + d) + 1 from rfl]
    simp only [prL]
    split
    · rw [List.length_append]; omega
    · exact this
theorem prL_309 : (prL 309).length = 63 := by decide +kernel
theorem prL_310 : (prL 310).length = 64 := by decide +kernel
theorem primes_c (m : AMem) : Ctr Tryd.prog 15 [.one (.int .i64 64)] m (.one (.sl m.length 0 0 64)) (m ++ [⟨.grow, 50, 0, 1, u64l (prL 310)⟩]) := by
  refine Ctr.enter Tryd.func15 rfl (by decide) (rs := [.tmp 2]) (nt := 32) rfl rfl fun hwf Q hQ => ?_
  iterate 2
    refine AW.seq_k fun K hK => ?_
    refine AW.region (by decide) ?_
    simp only [push_cast, Nat.reduceAdd, Nat.reduceMul, Nat.reduceSub, Nat.reduceLeDiff, Nat.reduceLT, Nat.reduceEqDiff, Nat.reduceBEq, Nat.reduceBNe, Nat.reduceMod, Nat.reduceDiv, Int.reduceLE, Int.reduceLT, Int.reduceToNat, Int.reduceAdd, Int.reduceSub, Int.reduceMul, Int.reduceNeg, Int.reduceEq, Int.reduceBEq, Int.reduceBNe, ↓reduceIte, reduceCtorEq, String.reduceBNe, String.reduceEq, reduceDIte, Nat.reducePow, u64l_len]
    refine Thn_n ?_
    refine hK _ _ ?_
    clear hK K
  refine AW.seq_k fun K hK => ?_
  refine AW.seq_k fun K hK => ?_
  refine AW.nilTm 50 1 3 (by simp only [push_cast, Nat.reduceAdd, Nat.reduceMul, Nat.reduceSub, Nat.reduceLeDiff, Nat.reduceLT, Nat.reduceEqDiff, Nat.reduceBEq, Nat.reduceBNe, Nat.reduceMod, Nat.reduceDiv, Int.reduceLE, Int.reduceLT, Int.reduceToNat, Int.reduceAdd, Int.reduceSub, Int.reduceMul, Int.reduceNeg, Int.reduceEq, Int.reduceBEq, Int.reduceBNe, ↓reduceIte, reduceCtorEq, String.reduceBNe, String.reduceEq, reduceDIte, Nat.reducePow]) ?_
  try simp only [push_cast, Nat.reduceAdd, Nat.reduceMul, Nat.reduceSub, Nat.reduceLeDiff, Nat.reduceLT, Nat.reduceEqDiff, Nat.reduceBEq, Nat.reduceBNe, Nat.reduceMod, Nat.reduceDiv, Int.reduceLE, Int.reduceLT, Int.reduceToNat, Int.reduceAdd, Int.reduceSub, Int.reduceMul, Int.reduceNeg, Int.reduceEq, Int.reduceBEq, Int.reduceBNe, ↓reduceIte, reduceCtorEq, String.reduceBNe, String.reduceEq, reduceDIte, Nat.reducePow]
  refine AW.region (by decide) ?_
  simp only [push_cast, Nat.reduceAdd, Nat.reduceMul, Nat.reduceSub, Nat.reduceLeDiff, Nat.reduceLT, Nat.reduceEqDiff, Nat.reduceBEq, Nat.reduceBNe, Nat.reduceMod, Nat.reduceDiv, Int.reduceLE, Int.reduceLT, Int.reduceToNat, Int.reduceAdd, Int.reduceSub, Int.reduceMul, Int.reduceNeg, Int.reduceEq, Int.reduceBEq, Int.reduceBNe, ↓reduceIte, reduceCtorEq, String.reduceBNe, String.reduceEq, reduceDIte, Nat.reducePow, u64l_len]
  refine Thn_n ?_
  refine hK _ _ ?_
  clear hK K
  refine AW.block ?_
  refine AW.loopK [0] (fun k => k ≤ (310 : Nat)) (fun k => [(3, .one (.sl m.length (prL k).length 0 (prL k).length)), (4, .one (.int .u64 ((k : Int) + 2)))]) (fun k => [(m.length, ⟨.grow, 50, (prL k).length, 1, u64l (prL k)⟩)]) (fun k => 310 - k) 0 (by omega) ?_ ?_ fun k hi5 => ?_
  · first | rfl | (simp only [Keeps, Tm.get_cons, Nat.reduceEqDiff, ↓reduceIte, if_true, if_false, ite_true, ite_false, true_and, and_true, and_self, reduceCtorEq, prL, u64l, List.map_nil, List.length_nil, Int.natCast_zero, Int.zero_add] <;> rfl)
  · first | rfl | (simp only [setAll, push_cast, Nat.reduceAdd, Nat.reduceMul, Nat.reduceSub, Nat.reduceLeDiff, Nat.reduceLT, Nat.reduceEqDiff, Nat.reduceBEq, Nat.reduceBNe, Nat.reduceMod, Nat.reduceDiv, Int.reduceLE, Int.reduceLT, Int.reduceToNat, Int.reduceAdd, Int.reduceSub, Int.reduceMul, Int.reduceNeg, Int.reduceEq, Int.reduceBEq, Int.reduceBNe, ↓reduceIte, reduceCtorEq, String.reduceBNe, String.reduceEq, reduceDIte, Nat.reducePow, u64l_len, prL, u64l, List.map_nil, List.length_nil, Int.natCast_zero, Int.zero_add] <;> rfl)
  have hk : k ≤ 310 := hi5
  have hmon : k ≤ 309 → (prL k).length ≤ 63 := fun h => by have := prL_mono (309 - k) k; rw [show k + (309 - k) = 309 by omega, prL_309] at this; exact this
  try simp only [keepL, setAll, push_cast, Nat.reduceAdd, Nat.reduceMul, Nat.reduceSub, Nat.reduceLeDiff, Nat.reduceLT, Nat.reduceEqDiff, Nat.reduceBEq, Nat.reduceBNe, Nat.reduceMod, Nat.reduceDiv, Int.reduceLE, Int.reduceLT, Int.reduceToNat, Int.reduceAdd, Int.reduceSub, Int.reduceMul, Int.reduceNeg, Int.reduceEq, Int.reduceBEq, Int.reduceBNe, ↓reduceIte, reduceCtorEq, String.reduceBNe, String.reduceEq, reduceDIte, Nat.reducePow, u64l_len]
  refine AW.seq_k fun K hK => ?_
  refine AW.seq_k fun K hK => ?_
  refine AW.region (by decide) ?_
  simp only [push_cast, Nat.reduceAdd, Nat.reduceMul, Nat.reduceSub, Nat.reduceLeDiff, Nat.reduceLT, Nat.reduceEqDiff, Nat.reduceBEq, Nat.reduceBNe, Nat.reduceMod, Nat.reduceDiv, Int.reduceLE, Int.reduceLT, Int.reduceToNat, Int.reduceAdd, Int.reduceSub, Int.reduceMul, Int.reduceNeg, Int.reduceEq, Int.reduceBEq, Int.reduceBNe, ↓reduceIte, reduceCtorEq, String.reduceBNe, String.reduceEq, reduceDIte, Nat.reducePow, u64l_len]
  refine Thn_n ?_
  refine hK _ _ ?_
  clear hK K
  refine AW.cond rfl (fun h10 => ?_) (fun h10 => ?_)
  · have hlt : k < 310 := by
      have h1 := of_decide_eq_true h10
      rcases Nat.lt_or_ge k 310 with h | h
      · exact h
      · obtain rfl : k = 310 := by omega
        rw [prL_310] at h1; omega
    have h63 := hmon (by omega)
    have hwk : IntKind.u64.wrap ((k : Int) + 2 + 1) = ((k + 1 : Nat) : Int) + 2 := by rw [IntKind.wrap_u64]; omega
    simp only [push_cast, Nat.reduceAdd, Nat.reduceMul, Nat.reduceSub, Nat.reduceLeDiff, Nat.reduceLT, Nat.reduceEqDiff, Nat.reduceBEq, Nat.reduceBNe, Nat.reduceMod, Nat.reduceDiv, Int.reduceLE, Int.reduceLT, Int.reduceToNat, Int.reduceAdd, Int.reduceSub, Int.reduceMul, Int.reduceNeg, Int.reduceEq, Int.reduceBEq, Int.reduceBNe, ↓reduceIte, reduceCtorEq, String.reduceBNe, String.reduceEq, reduceDIte, Nat.reducePow] at hwk
    have q1 : (prL k).length + 1 ≤ 140737488355328 := by omega
    have q2 : ((prL k).length + 1) * 8 ≤ 140737488355328 := by omega
    refine AW.skip ?_
    refine Thn_n ?_
    refine hK _ _ ?_
    clear hK K
    refine AW.seq_k fun K hK => ?_
    refine AW.block ?_
    refine AW.seq_k fun K hK => ?_
    refine AW.region (by decide) ?_
    simp only [push_cast, Nat.reduceAdd, Nat.reduceMul, Nat.reduceSub, Nat.reduceLeDiff, Nat.reduceLT, Nat.reduceEqDiff, Nat.reduceBEq, Nat.reduceBNe, Nat.reduceMod, Nat.reduceDiv, Int.reduceLE, Int.reduceLT, Int.reduceToNat, Int.reduceAdd, Int.reduceSub, Int.reduceMul, Int.reduceNeg, Int.reduceEq, Int.reduceBEq, Int.reduceBNe, ↓reduceIte, reduceCtorEq, String.reduceBNe, String.reduceEq, reduceDIte, Nat.reducePow, u64l_len, q1, q2]
    refine Thn_n ?_
    refine hK _ _ ?_
    clear hK K
    refine AW.seq_k fun K hK => ?_
    refine AW.seq_k fun K hK => ?_
    refine AW.region (by decide) ?_
    simp only [push_cast, Nat.reduceAdd, Nat.reduceMul, Nat.reduceSub, Nat.reduceLeDiff, Nat.reduceLT, Nat.reduceEqDiff, Nat.reduceBEq, Nat.reduceBNe, Nat.reduceMod, Nat.reduceDiv, Int.reduceLE, Int.reduceLT, Int.reduceToNat, Int.reduceAdd, Int.reduceSub, Int.reduceMul, Int.reduceNeg, Int.reduceEq, Int.reduceBEq, Int.reduceBNe, ↓reduceIte, reduceCtorEq, String.reduceBNe, String.reduceEq, reduceDIte, Nat.reducePow, u64l_len, q1, q2]
    refine Thn_n ?_
    refine hK _ _ ?_
    clear hK K
    refine AW.block ?_
    refine AW.loopK [0, 3, 4] (fun i => i ≤ (prL k).length) (fun i => [(5, .one (.bool (pfl (prL k) ((k : Int) + 2) i))), (6, .one (.int .i64 (i : Int)))]) (fun i => []) (fun i => (prL k).length - i) 0 (by omega) ?_ ?_ fun i hi12 => ?_
    · first | rfl | (simp only [Keeps, Tm.get_cons, Nat.reduceEqDiff, ↓reduceIte, if_true, if_false, ite_true, ite_false, true_and, and_true, and_self, reduceCtorEq, pfl, Int.natCast_zero] <;> rfl)
    · first | rfl | (simp only [setAll, push_cast, Nat.reduceAdd, Nat.reduceMul, Nat.reduceSub, Nat.reduceLeDiff, Nat.reduceLT, Nat.reduceEqDiff, Nat.reduceBEq, Nat.reduceBNe, Nat.reduceMod, Nat.reduceDiv, Int.reduceLE, Int.reduceLT, Int.reduceToNat, Int.reduceAdd, Int.reduceSub, Int.reduceMul, Int.reduceNeg, Int.reduceEq, Int.reduceBEq, Int.reduceBNe, ↓reduceIte, reduceCtorEq, String.reduceBNe, String.reduceEq, reduceDIte, Nat.reducePow, u64l_len, q1, q2, pfl, Int.natCast_zero] <;> rfl)
    try simp only [keepL, setAll, push_cast, Nat.reduceAdd, Nat.reduceMul, Nat.reduceSub, Nat.reduceLeDiff, Nat.reduceLT, Nat.reduceEqDiff, Nat.reduceBEq, Nat.reduceBNe, Nat.reduceMod, Nat.reduceDiv, Int.reduceLE, Int.reduceLT, Int.reduceToNat, Int.reduceAdd, Int.reduceSub, Int.reduceMul, Int.reduceNeg, Int.reduceEq, Int.reduceBEq, Int.reduceBNe, ↓reduceIte, reduceCtorEq, String.reduceBNe, String.reduceEq, reduceDIte, Nat.reducePow, u64l_len, q1, q2]
    refine AW.seq_k fun K hK => ?_
    refine AW.seq_k fun K hK => ?_
    refine AW.region (by decide) ?_
    simp only [push_cast, Nat.reduceAdd, Nat.reduceMul, Nat.reduceSub, Nat.reduceLeDiff, Nat.reduceLT, Nat.reduceEqDiff, Nat.reduceBEq, Nat.reduceBNe, Nat.reduceMod, Nat.reduceDiv, Int.reduceLE, Int.reduceLT, Int.reduceToNat, Int.reduceAdd, Int.reduceSub, Int.reduceMul, Int.reduceNeg, Int.reduceEq, Int.reduceBEq, Int.reduceBNe, ↓reduceIte, reduceCtorEq, String.reduceBNe, String.reduceEq, reduceDIte, Nat.reducePow, u64l_len, q1, q2]
    refine Thn_n ?_
    refine hK _ _ ?_
    clear hK K
    refine AW.cond rfl (fun h16 => ?_) (fun h16 => ?_)
    · have hlti : i < (prL k).length := by have := of_decide_eq_true h16; omega
      have c1 : (0 : Int) ≤ (i : Int) := by omega
      have c2 : (i : Int) < ((prL k).length : Int) := by omega
      have g := u64l_get hlti
      have hge : 2 ≤ (prL k).getD i 0 := prL_pos k _ (by rw [List.getD_eq_getElem?_getD, List.getElem?_eq_getElem hlti]; exact List.getElem_mem hlti)
      have c3 : ¬ (prL k).getD i 0 = 0 := by omega
      refine AW.skip ?_
      refine Thn_n ?_
      refine hK _ _ ?_
      clear hK K
      refine AW.seq_k fun K hK => ?_
      refine AW.block ?_
      refine AW.seq_k fun K hK => ?_
      refine AW.region (by decide) ?_
      simp only [push_cast, Nat.reduceAdd, Nat.reduceMul, Nat.reduceSub, Nat.reduceLeDiff, Nat.reduceLT, Nat.reduceEqDiff, Nat.reduceBEq, Nat.reduceBNe, Nat.reduceMod, Nat.reduceDiv, Int.reduceLE, Int.reduceLT, Int.reduceToNat, Int.reduceAdd, Int.reduceSub, Int.reduceMul, Int.reduceNeg, Int.reduceEq, Int.reduceBEq, Int.reduceBNe, ↓reduceIte, reduceCtorEq, String.reduceBNe, String.reduceEq, reduceDIte, Nat.reducePow, u64l_len, q1, q2, c1, c2, c3, g]
      refine Thn_n ?_
      refine hK _ _ ?_
      clear hK K
      refine AW.cond rfl (fun h25 => ?_) (fun h25 => ?_)
      · have hpf : pfl (prL k) ((k : Int) + 2) (i + 1) = false := by simp only [pfl]; exact if_pos (by simpa using h25)
        refine AW.region (by decide) ?_
        simp only [push_cast, Nat.reduceAdd, Nat.reduceMul, Nat.reduceSub, Nat.reduceLeDiff, Nat.reduceLT, Nat.reduceEqDiff, Nat.reduceBEq, Nat.reduceBNe, Nat.reduceMod, Nat.reduceDiv, Int.reduceLE, Int.reduceLT, Int.reduceToNat, Int.reduceAdd, Int.reduceSub, Int.reduceMul, Int.reduceNeg, Int.reduceEq, Int.reduceBEq, Int.reduceBNe, ↓reduceIte, reduceCtorEq, String.reduceBNe, String.reduceEq, reduceDIte, Nat.reducePow, u64l_len, q1, q2, c1, c2, c3, g]
        refine InB_n ?_
        refine Thn_n ?_
        refine hK _ _ ?_
        clear hK K
        refine AW.region (by decide) ?_
        simp only [push_cast, Nat.reduceAdd, Nat.reduceMul, Nat.reduceSub, Nat.reduceLeDiff, Nat.reduceLT, Nat.reduceEqDiff, Nat.reduceBEq, Nat.reduceBNe, Nat.reduceMod, Nat.reduceDiv, Int.reduceLE, Int.reduceLT, Int.reduceToNat, Int.reduceAdd, Int.reduceSub, Int.reduceMul, Int.reduceNeg, Int.reduceEq, Int.reduceBEq, Int.reduceBNe, ↓reduceIte, reduceCtorEq, String.reduceBNe, String.reduceEq, reduceDIte, Nat.reducePow, u64l_len, q1, q2, c1, c2, c3, g]
        refine Thn_n ?_
        have hwi : IntKind.i64.wrap ((i:Int)+1) = (i:Int)+1 := wi (by omega)
        refine ⟨i + 1, hlti, by omega, ?_⟩
        try simp only [keepL, setAll, push_cast, Nat.reduceAdd, Nat.reduceMul, Nat.reduceSub, Nat.reduceLeDiff, Nat.reduceLT, Nat.reduceEqDiff, Nat.reduceBEq, Nat.reduceBNe, Nat.reduceMod, Nat.reduceDiv, Int.reduceLE, Int.reduceLT, Int.reduceToNat, Int.reduceAdd, Int.reduceSub, Int.reduceMul, Int.reduceNeg, Int.reduceEq, Int.reduceBEq, Int.reduceBNe, ↓reduceIte, reduceCtorEq, String.reduceBNe, String.reduceEq, reduceDIte, Nat.reducePow, u64l_len, q1, q2, c1, c2, c3, g, hwi, hpf]
        exact Weak.same (by simp only [Keeps, Tm.get_cons, Nat.reduceEqDiff, ↓reduceIte, if_true, if_false, ite_true, ite_false, true_and, and_true, and_self, reduceCtorEq, hwi, hpf]) (by first | rfl | simp only [Keeps, Tm.get_cons, Nat.reduceEqDiff, ↓reduceIte, if_true, if_false, ite_true, ite_false, true_and, and_true, and_self, reduceCtorEq, hwi, hpf])
      · have hpf : pfl (prL k) ((k : Int) + 2) (i + 1) = pfl (prL k) ((k : Int) + 2) i := by simp only [pfl]; exact if_neg (by simpa using h25)
        refine AW.skip ?_
        refine InB_n ?_
        refine Thn_n ?_
        refine hK _ _ ?_
        clear hK K
        refine AW.region (by decide) ?_
        simp only [push_cast, Nat.reduceAdd, Nat.reduceMul, Nat.reduceSub, Nat.reduceLeDiff, Nat.reduceLT, Nat.reduceEqDiff, Nat.reduceBEq, Nat.reduceBNe, Nat.reduceMod, Nat.reduceDiv, Int.reduceLE, Int.reduceLT, Int.reduceToNat, Int.reduceAdd, Int.reduceSub, Int.reduceMul, Int.reduceNeg, Int.reduceEq, Int.reduceBEq, Int.reduceBNe, ↓reduceIte, reduceCtorEq, String.reduceBNe, String.reduceEq, reduceDIte, Nat.reducePow, u64l_len, q1, q2, c1, c2, c3, g]
        refine Thn_n ?_
        have hwi : IntKind.i64.wrap ((i:Int)+1) = (i:Int)+1 := wi (by omega)
        refine ⟨i + 1, hlti, by omega, ?_⟩
        try simp only [keepL, setAll, push_cast, Nat.reduceAdd, Nat.reduceMul, Nat.reduceSub, Nat.reduceLeDiff, Nat.reduceLT, Nat.reduceEqDiff, Nat.reduceBEq, Nat.reduceBNe, Nat.reduceMod, Nat.reduceDiv, Int.reduceLE, Int.reduceLT, Int.reduceToNat, Int.reduceAdd, Int.reduceSub, Int.reduceMul, Int.reduceNeg, Int.reduceEq, Int.reduceBEq, Int.reduceBNe, ↓reduceIte, reduceCtorEq, String.reduceBNe, String.reduceEq, reduceDIte, Nat.reducePow, u64l_len, q1, q2, c1, c2, c3, g, hwi, hpf]
        exact Weak.same (by simp only [Keeps, Tm.get_cons, Nat.reduceEqDiff, ↓reduceIte, if_true, if_false, ite_true, ite_false, true_and, and_true, and_self, reduceCtorEq, hwi, hpf]) (by first | rfl | simp only [Keeps, Tm.get_cons, Nat.reduceEqDiff, ↓reduceIte, if_true, if_false, ite_true, ite_false, true_and, and_true, and_self, reduceCtorEq, hwi, hpf])
    · have hie : i = (prL k).length := by have := of_decide_eq_false h16; omega
      subst hie
      refine AW.exit ?_
      refine Thn_e ?_
      clear hK K
      refine Thn_e ?_
      refine InB_here ?_
      refine Thn_n ?_
      refine hK _ _ ?_
      clear hK K
      refine AW.seq_k fun K hK => ?_
      refine AW.region (by decide) ?_
      simp only [push_cast, Nat.reduceAdd, Nat.reduceMul, Nat.reduceSub, Nat.reduceLeDiff, Nat.reduceLT, Nat.reduceEqDiff, Nat.reduceBEq, Nat.reduceBNe, Nat.reduceMod, Nat.reduceDiv, Int.reduceLE, Int.reduceLT, Int.reduceToNat, Int.reduceAdd, Int.reduceSub, Int.reduceMul, Int.reduceNeg, Int.reduceEq, Int.reduceBEq, Int.reduceBNe, ↓reduceIte, reduceCtorEq, String.reduceBNe, String.reduceEq, reduceDIte, Nat.reducePow, u64l_len, q1, q2]
      refine Thn_n ?_
      refine hK _ _ ?_
      clear hK K
      refine AW.cond rfl (fun h26 => ?_) (fun h26 => ?_)
      · have hnx : prL (k + 1) = prL k ++ [(k : Int) + 2] := by simp only [prL]; exact if_pos h26
        have hsn := u64l_snoc (prL k) ((k : Int) + 2)
        have hnl : (prL k ++ [(k : Int) + 2]).length = (prL k).length + 1 := by rw [List.length_append]; rfl
        refine AW.region (by decide) ?_
        simp only [push_cast, Nat.reduceAdd, Nat.reduceMul, Nat.reduceSub, Nat.reduceLeDiff, Nat.reduceLT, Nat.reduceEqDiff, Nat.reduceBEq, Nat.reduceBNe, Nat.reduceMod, Nat.reduceDiv, Int.reduceLE, Int.reduceLT, Int.reduceToNat, Int.reduceAdd, Int.reduceSub, Int.reduceMul, Int.reduceNeg, Int.reduceEq, Int.reduceBEq, Int.reduceBNe, ↓reduceIte, reduceCtorEq, String.reduceBNe, String.reduceEq, reduceDIte, Nat.reducePow, u64l_len, q1, q2, hsn, hnl]
        refine InB_n ?_
        refine Thn_n ?_
        refine hK _ _ ?_
        clear hK K
        refine AW.region (by decide) ?_
        simp only [push_cast, Nat.reduceAdd, Nat.reduceMul, Nat.reduceSub, Nat.reduceLeDiff, Nat.reduceLT, Nat.reduceEqDiff, Nat.reduceBEq, Nat.reduceBNe, Nat.reduceMod, Nat.reduceDiv, Int.reduceLE, Int.reduceLT, Int.reduceToNat, Int.reduceAdd, Int.reduceSub, Int.reduceMul, Int.reduceNeg, Int.reduceEq, Int.reduceBEq, Int.reduceBNe, ↓reduceIte, reduceCtorEq, String.reduceBNe, String.reduceEq, reduceDIte, Nat.reducePow, u64l_len, q1, q2, hsn, hnl]
        refine Thn_n ?_
        refine ⟨k + 1, hlt, by omega, ?_⟩
        try simp only [keepL, setAll, push_cast, Nat.reduceAdd, Nat.reduceMul, Nat.reduceSub, Nat.reduceLeDiff, Nat.reduceLT, Nat.reduceEqDiff, Nat.reduceBEq, Nat.reduceBNe, Nat.reduceMod, Nat.reduceDiv, Int.reduceLE, Int.reduceLT, Int.reduceToNat, Int.reduceAdd, Int.reduceSub, Int.reduceMul, Int.reduceNeg, Int.reduceEq, Int.reduceBEq, Int.reduceBNe, ↓reduceIte, reduceCtorEq, String.reduceBNe, String.reduceEq, reduceDIte, Nat.reducePow, u64l_len, q1, q2, hsn, hnl, hwk, hnx]
        first
          | exact Weak.same (by simp only [Keeps, Tm.get_cons, Nat.reduceEqDiff, ↓reduceIte, if_true, if_false, ite_true, ite_false, true_and, and_true, and_self, reduceCtorEq, hwk, hnx]) (by first | rfl | simp only [Keeps, Tm.get_cons, Nat.reduceEqDiff, ↓reduceIte, if_true, if_false, ite_true, ite_false, true_and, and_true, and_self, reduceCtorEq, hwk, hnx])
          | exact Weak.to (extra := [_]) (by simp only [Keeps, Tm.get_cons, Nat.reduceEqDiff, ↓reduceIte, if_true, if_false, ite_true, ite_false, true_and, and_true, and_self, reduceCtorEq, hwk, hnx]) (by first | rfl | (simp only [List.append_assoc, List.cons_append, List.nil_append]; rfl)) (by first | rfl | (simp [AV.below, CV.below, u64l_below]; done) | (simp [AV.below, CV.below, u64l_below]; omega)) (by
              first | exact hwf | refine MWf.app (hwf.grow (by simp)) ?_
              repeat (first | exact MWf_nil | (refine MWf_cons ?_ ?_; · first | rfl | (simp [CV.below, u64l_below]; done) | (simp [CV.below, u64l_below]; omega))))
      · have hnx : prL (k + 1) = prL k := by simp only [prL]; exact if_neg (by rw [h26]; decide)
        refine AW.skip ?_
        refine InB_n ?_
        refine Thn_n ?_
        refine hK _ _ ?_
        clear hK K
        refine AW.region (by decide) ?_
        simp only [push_cast, Nat.reduceAdd, Nat.reduceMul, Nat.reduceSub, Nat.reduceLeDiff, Nat.reduceLT, Nat.reduceEqDiff, Nat.reduceBEq, Nat.reduceBNe, Nat.reduceMod, Nat.reduceDiv, Int.reduceLE, Int.reduceLT, Int.reduceToNat, Int.reduceAdd, Int.reduceSub, Int.reduceMul, Int.reduceNeg, Int.reduceEq, Int.reduceBEq, Int.reduceBNe, ↓reduceIte, reduceCtorEq, String.reduceBNe, String.reduceEq, reduceDIte, Nat.reducePow, u64l_len, q1, q2]
        refine Thn_n ?_
        refine ⟨k + 1, hlt, by omega, ?_⟩
        try simp only [keepL, setAll, push_cast, Nat.reduceAdd, Nat.reduceMul, Nat.reduceSub, Nat.reduceLeDiff, Nat.reduceLT, Nat.reduceEqDiff, Nat.reduceBEq, Nat.reduceBNe, Nat.reduceMod, Nat.reduceDiv, Int.reduceLE, Int.reduceLT, Int.reduceToNat, Int.reduceAdd, Int.reduceSub, Int.reduceMul, Int.reduceNeg, Int.reduceEq, Int.reduceBEq, Int.reduceBNe, ↓reduceIte, reduceCtorEq, String.reduceBNe, String.reduceEq, reduceDIte, Nat.reducePow, u64l_len, q1, q2, hwk, hnx]
        first
          | exact Weak.same (by simp only [Keeps, Tm.get_cons, Nat.reduceEqDiff, ↓reduceIte, if_true, if_false, ite_true, ite_false, true_and, and_true, and_self, reduceCtorEq, hwk, hnx]) (by first | rfl | simp only [Keeps, Tm.get_cons, Nat.reduceEqDiff, ↓reduceIte, if_true, if_false, ite_true, ite_false, true_and, and_true, and_self, reduceCtorEq, hwk, hnx])
          | exact Weak.to (extra := [_]) (by simp only [Keeps, Tm.get_cons, Nat.reduceEqDiff, ↓reduceIte, if_true, if_false, ite_true, ite_false, true_and, and_true, and_self, reduceCtorEq, hwk, hnx]) (by first | rfl | (simp only [List.append_assoc, List.cons_append, List.nil_append]; rfl)) (by first | rfl | (simp [AV.below, CV.below, u64l_below]; done) | (simp [AV.below, CV.below, u64l_below]; omega)) (by
              first | exact hwf | refine MWf.app (hwf.grow (by simp)) ?_
              repeat (first | exact MWf_nil | (refine MWf_cons ?_ ?_; · first | rfl | (simp [CV.below, u64l_below]; done) | (simp [CV.below, u64l_below]; omega))))
  · have hke : k = 310 := by
      have h1 := of_decide_eq_false h10
      rcases Nat.lt_or_ge k 310 with h | h
      · have := hmon (by omega); omega
      · omega
    subst hke
    have hl := prL_310
    refine AW.exit ?_
    refine Thn_e ?_
    clear hK K
    refine Thn_e ?_
    refine InB_here ?_
    refine Thn_n ?_
    refine hK _ _ ?_
    clear hK K
    refine AW.seq_k fun K hK => ?_
    refine AW.region (by decide) ?_
    simp only [push_cast, Nat.reduceAdd, Nat.reduceMul, Nat.reduceSub, Nat.reduceLeDiff, Nat.reduceLT, Nat.reduceEqDiff, Nat.reduceBEq, Nat.reduceBNe, Nat.reduceMod, Nat.reduceDiv, Int.reduceLE, Int.reduceLT, Int.reduceToNat, Int.reduceAdd, Int.reduceSub, Int.reduceMul, Int.reduceNeg, Int.reduceEq, Int.reduceBEq, Int.reduceBNe, ↓reduceIte, reduceCtorEq, String.reduceBNe, String.reduceEq, reduceDIte, Nat.reducePow, u64l_len, hl]
    refine Thn_n ?_
    refine hK _ _ ?_
    clear hK K
    refine AW.ret ?_
    refine hQ _ _ _ ?_
    refine RetP.pick [(m.length, 64)] (Or.inr rfl) ?_ ?_ ?_ hwf ?_
    · simp only [resA, resOne, resTv, AV.tv, push_cast, Nat.reduceAdd, Nat.reduceMul, Nat.reduceSub, Nat.reduceLeDiff, Nat.reduceLT, Nat.reduceEqDiff, Nat.reduceBEq, Nat.reduceBNe, Nat.reduceMod, Nat.reduceDiv, Int.reduceLE, Int.reduceLT, Int.reduceToNat, Int.reduceAdd, Int.reduceSub, Int.reduceMul, Int.reduceNeg, Int.reduceEq, Int.reduceBEq, Int.reduceBNe, ↓reduceIte, reduceCtorEq, String.reduceBNe, String.reduceEq, reduceDIte, Nat.reducePow]
      simp [renV, renT, renL, renC, renIdx]
    · simp only [picks, push_cast, Nat.reduceAdd, Nat.reduceMul, Nat.reduceSub, Nat.reduceLeDiff, Nat.reduceLT, Nat.reduceEqDiff, Nat.reduceBEq, Nat.reduceBNe, Nat.reduceMod, Nat.reduceDiv, Int.reduceLE, Int.reduceLT, Int.reduceToNat, Int.reduceAdd, Int.reduceSub, Int.reduceMul, Int.reduceNeg, Int.reduceEq, Int.reduceBEq, Int.reduceBNe, ↓reduceIte, reduceCtorEq, String.reduceBNe, String.reduceEq, reduceDIte, Nat.reducePow] <;> rfl
    · simp [distinctFrom]
    · exact MWf_one (u64l_below _ _)
    
end Go.Proofs.YtmjbbnfmhgcfaaaDoor
