/- Walks and facts of this seat's program over abstract states, printed by programs of mine; no conditions but those that each theorem names. -/
import Derived.Test.YtdeacicnfglhdaaGreatDoorM3
import Derived.ScopeJumps
import Derived.Scope
import Derived.JoinedCond
import Derived.LaidMore
import Derived.Stop.Joined
import Derived.Laws.Externs
set_option linter.unusedVariables false
set_option linter.unusedSimpArgs false
namespace Go.Eng
open Go
deriving instance DecidableEq for CV
deriving instance DecidableEq for BK
deriving instance DecidableEq for Blk
def preB : AMem → AMem → Bool
 | [], _ => true
 | a :: xa, b :: bs => decide (a = b) && preB xa bs
 | _ :: _, [] => false
theorem preB_ok : ∀ {m m' : AMem}, preB m m' = true → ∃ x, m' = m ++ x
 | [], m', _ => ⟨m', rfl⟩
 | a :: xa, b :: bs, h => by
  simp only [preB, Bool.and_eq_true, decide_eq_true_eq] at h
  obtain ⟨rfl, h⟩ := h
  obtain ⟨x, rfl⟩ := preB_ok h
  exact ⟨x, rfl⟩
 | _ :: _, [], h => by cases h
abbrev Caller := FuncId → List AV → AMem → Option (AV × AMem)
section
variable (P : Program) (call : Caller)
def rOps (ops : Array Oper) : List Oper → Tm → AMem → Option (Tm × AMem)
 | [], tm, mem => some (tm, mem)
 | o :: rest, tm, mem =>
  match wantedA ops o tm with
  | some true =>
   match o.op with
   | .store t x y => match storeA P t (opd tm x) (opd tm y) mem with
    | some mem' => rOps ops rest (putO o.dst (.one .und) tm) mem'
    | none => none
   | .call ⟨.value f, args, _⟩ => match opd tm f with
    | .one (.fn g cs) => match call g (args.toList.map (opd tm) ++ capsAV cs) mem with
     | some (ret, mem') => rOps ops rest (putO o.dst ret tm) mem'
     | none => none
    | _ => none
   | op => match evVal P (opd tm) mem op with
    | some (x, mem') => rOps ops rest (putO o.dst x tm) mem'
    | none => none
  | some false => rOps ops rest (putO o.dst (.one .und) tm) mem
  | none => none
def sameAt (r : Nat) (b : Blk) : List AMem → Bool
 | [] => true
 | M :: Ms => decide (M[r]? = some b) && sameAt r b Ms
def watchB (Ms : List AMem) : List (Nat × Nat) → Bool
 | [] => true
 | (lo, r) :: W => (match Ms.drop lo with
  | [] => true
  | M :: Ms' => match M[r]? with
   | some b => sameAt r b Ms'
   | none => false) && watchB Ms W
def upB (A : Option AMem) (cur mem' : AMem) : Bool :=
 match A with
 | some B => preB B cur && preB B mem'
 | none => false
def rOpsD (ops : Array Oper) : Pl → Tm → AMem → List AMem → List (Nat × Nat) → Option (Tm × AMem)
 | [], tm, cur, hist, ws => if watchB hist ws = true then some (tm, cur) else none
 | (o, p) :: rest, tm, cur, hist, ws =>
  match wantedA ops o tm with
  | some true =>
   match p with
   | .val => match evVal P (opd tm) [] o.op with
    | some (x, []) => rOpsD ops rest (putO o.dst x tm) cur hist ws
    | _ => none
   | .rd lo => match o.op with
    | .load t y => match hist[lo]? with
     | some M => match loadA P t (opd tm y) M with
      | some x => rOpsD ops rest (putO o.dst x tm) cur hist ws
      | none => none
     | none => none
    | _ => none
   | .rw lo => match o.op with
    | .load t y => match opd tm y, hist[lo]? with
     | .one (.ptr r ver off), some M => match loadA P t (.one (.ptr r ver off)) M with
      | some x => rOpsD ops rest (putO o.dst x tm) cur hist ((lo, r) :: ws)
      | none => none
     | _, _ => none
    | _ => none
   | .ext => match o.op with
    | .store _ _ _ => none
    | .call ⟨.value f, args, _⟩ => match opd tm f with
     | .one (.fn g cs) => match call g (args.toList.map (opd tm) ++ capsAV cs) cur with
      | some (ret, mem') => if preB cur mem' = true then rOpsD ops rest (putO o.dst ret tm) mem' (hist ++ [mem']) ws else none
      | none => none
     | _ => none
    | op => match evVal P (opd tm) cur op with
     | some (x, mem') => if preB cur mem' = true then rOpsD ops rest (putO o.dst x tm) mem' (hist ++ [mem']) ws else none
     | none => none
   | .up q => match evVal P (opd tm) cur o.op with
    | some (x, mem') => if upB hist[q]? cur mem' = true then rOpsD ops rest (putO o.dst x tm) mem' (hist ++ [mem']) ws else none
    | none => none
   | .fl => match o.op, o.guard with
    | .alloc t, none => match zeroOf P t with
     | some z => rOpsD ops rest (putO o.dst (.one (.ptr cur.length 0 0)) tm) (cur ++ [⟨.fix, t, 0, 0, z.cells.toList.map cellOf⟩]) (hist ++ [cur ++ [⟨.fix, t, 0, 0, z.cells.toList.map cellOf⟩]]) ws
     | none => none
    | _, _ => none
   | .wr => match o.op with
    | .store t x y => match storeA P t (opd tm x) (opd tm y) cur with
     | some mem' => rOpsD ops rest (putO o.dst (.one .und) tm) mem' (hist ++ [mem']) ws
     | none => none
    | .call ⟨.value f, args, _⟩ => match opd tm f with
     | .one (.fn g cs) => match call g (args.toList.map (opd tm) ++ capsAV cs) cur with
      | some (ret, mem') => rOpsD ops rest (putO o.dst ret tm) mem' (hist ++ [mem']) ws
      | none => none
     | _ => none
    | op => match evVal P (opd tm) cur op with
     | some (x, mem') => rOpsD ops rest (putO o.dst x tm) mem' (hist ++ [mem']) ws
     | none => none
  | some false => rOpsD ops rest (putO o.dst (.one .und) tm) cur (if p.chain then hist ++ [cur] else hist) ws
  | none => none
def rLoop (c : Tm → AMem → Option (Exit × Tm × AMem)) : Nat → Tm → AMem → Option (Exit × Tm × AMem)
 | 0, _, _ => none
 | n + 1, tm, mem => match c tm mem with
  | some (.normal, tm', mem') => rLoop c n tm' mem'
  | r => r
variable (pls : Nat → List Plan) (nt L : Nat)
def rCode : Code → Tm → AMem → Option (Exit × Tm × AMem)
 | .skip, tm, mem => some (.normal, tm, mem)
 | .ret, tm, mem => some (.ret, tm, mem)
 | .exit id, tm, mem => some (.exit id, tm, mem)
 | .seq x y, tm, mem => match rCode x tm mem with
  | some (.normal, tm', mem') => rCode y tm' mem'
  | r => r
 | .block id c, tm, mem => match rCode c tm mem with
  | some (.exit id', tm', mem') => if id' = id then some (.normal, tm', mem') else some (.exit id', tm', mem')
  | r => r
 | .cond c x y, tm, mem => match opd tm c with
  | .one (.bool true) => rCode x tm mem
  | .one (.bool false) => rCode y tm mem
  | _ => none
 | .loop c, tm, mem => rLoop (rCode c) L tm mem
 | .region id ops false, tm, mem => if ops.toList.all (dstOk nt) = true then (rOps P call ops ops.toList tm mem).map fun x => (.normal, x.1, x.2) else none
 | .region id ops true, tm, mem => if (pls id).length = ops.toList.length ∧ planOk nt (ops.toList.zip (pls id)) = true then
   (rOpsD P call ops (ops.toList.zip (pls id)) tm mem [mem] []).map fun x => (.normal, x.1, x.2) else none
 | _, _, _ => none
end
def rFunc (P : Program) (pls : Nat → Nat → List Plan) (L : Nat) : Nat → Caller
 | 0, _, _, _ => none
 | n + 1, g, args, mem => match P.funcs[g]? with
  | some fn => match fn.body with
   | some c => if (fn.name == "runtime.NumGoroutine") = false then
     match rCode P (rFunc P pls L n) (pls g) fn.ntmps L c (enterTm 0 args) mem with
     | some (.normal, tm, m) => (resA P fn.results.toList tm m).map fun x => (x, m)
     | some (.ret, tm, m) => (resA P fn.results.toList tm m).map fun x => (x, m)
     | _ => none
    else none
   | none => none
  | none => none
def CallOk (P : Program) (call : Caller) : Prop := ∀ g args mem ret mem', call g args mem = some (ret, mem') → Ctr P g args mem ret mem'
section
variable {P : Program} {call : Caller}
theorem rOps_ok (hc : CallOk P call) {ops : Array Oper} : ∀ (l : List Oper) (tm : Tm) (mem : AMem) (tm' : Tm) (mem' : AMem) (K : Tm → AMem → Prop), rOps P call ops l tm mem = some (tm', mem') → K tm' mem' → AOps P ops l tm mem K
 | [], tm, mem, tm', mem', K, h, hk => by
  simp only [rOps, Option.some.injEq, Prod.mk.injEq] at h
  obtain ⟨rfl, rfl⟩ := h; exact hk
 | o :: rest, tm, mem, tm', mem', K, h, hk => by
  rw [rOps] at h
  rw [AOps]
  split at h
  ·rename_i hw
   rw [hw]
   simp only
   split at h
   ·rename_i t x y hop
    split at h
    ·rename_i m1 hs
     rw [hop]; simp only [hs]
     exact rOps_ok hc rest _ _ _ _ K h hk
    ·cases h
   ·rename_i f args ts hop
    split at h
    ·rename_i g cs hf
     split at h
     ·rename_i ret m1 hcall
      rw [hop]; simp only [hf]
      exact ⟨ret, m1, hc _ _ _ _ _ hcall, rOps_ok hc rest _ _ _ _ K h hk⟩
     ·cases h
    ·cases h
   ·rename_i h1 h2
    split at h
    ·rename_i x m1 hv
     split
     ·rename_i t x y hop; exact absurd hop (h1 t x y)
     ·rename_i f args ts hop; exact absurd hop (h2 f args ts)
     ·simp only [hv]
      exact rOps_ok hc rest _ _ _ _ K h hk
    ·cases h
  ·rename_i hw
   rw [hw]
   exact rOps_ok hc rest _ _ _ _ K h hk
  ·cases h
theorem sameAt_ok {r : Nat} {b : Blk} : ∀ {Ms : List AMem}, sameAt r b Ms = true → allAt r b Ms
 | [], _ => trivial
 | M :: Ms, h => by
  simp only [sameAt, Bool.and_eq_true, decide_eq_true_eq] at h
  exact ⟨h.1, sameAt_ok h.2⟩
theorem watchB_ok {Ms : List AMem} : ∀ {W : List (Nat × Nat)}, watchB Ms W = true → watchS Ms W
 | [], _ => trivial
 | (lo, r) :: W, h => by
  simp only [watchB, Bool.and_eq_true] at h
  refine ⟨?_, watchB_ok h.2⟩
  have h1 := h.1
  split
  ·trivial
  ·rename_i M Ms' hd
   rw [hd] at h1
   simp only at h1
   split
   ·rename_i b hm; rw [hm] at h1; exact sameAt_ok h1
   ·rename_i hm; rw [hm] at h1; cases h1
theorem upB_ok {A : Option AMem} {cur mem' : AMem} (h : upB A cur mem' = true) : ∃ B x0 y0, A = some B ∧ cur = B ++ x0 ∧ mem' = B ++ y0 := by
 unfold upB at h
 split at h
 ·rename_i B
  simp only [Bool.and_eq_true] at h
  obtain ⟨x0, hx⟩ := preB_ok h.1
  obtain ⟨y0, hy⟩ := preB_ok h.2
  exact ⟨B, x0, y0, rfl, hx, hy⟩
 ·cases h
theorem rOpsD_ok (hc : CallOk P call) {ops : Array Oper} : ∀ (l : Pl) (tm : Tm) (cur : AMem) (hist : List AMem) (ws : List (Nat × Nat)) (tm' : Tm) (mem' : AMem) (K : Tm → AMem → Prop),
  rOpsD P call ops l tm cur hist ws = some (tm', mem') → K tm' mem' → AOpsD P ops l tm cur hist ws K
 | [], tm, cur, hist, ws, tm', mem', K, h, hk => by
  simp only [rOpsD] at h
  split at h
  ·rename_i hw
   simp only [Option.some.injEq, Prod.mk.injEq] at h
   obtain ⟨rfl, rfl⟩ := h; exact ⟨watchS_ok (watchB_ok hw), hk⟩
  ·cases h
 | (o, p) :: rest, tm, cur, hist, ws, tm', mem', K, h, hk => by
  rw [rOpsD.eq_def] at h
  simp only at h
  rw [AOpsD.eq_def]
  simp only
  split at h
  ·rename_i hw
   rw [hw]
   simp only
   cases p with
   | val =>
    simp only at h ⊢
    split at h
    ·rename_i x hv; rw [hv]; exact rOpsD_ok hc rest _ _ _ _ _ _ K h hk
    ·cases h
   | rd lo =>
    simp only at h ⊢
    split at h
    ·rename_i t y hop
     split at h
     ·rename_i M hM
      split at h
      ·rename_i x hx
       rw [hop]; simp only [hM, hx]; exact rOpsD_ok hc rest _ _ _ _ _ _ K h hk
      ·cases h
     ·cases h
    ·cases h
   | rw lo =>
    simp only at h ⊢
    split at h
    ·rename_i t y hop
     split at h
     ·rename_i r ver off M hy hM
      split at h
      ·rename_i x hx
       rw [hop]; simp only [hy, hM, hx]; exact rOpsD_ok hc rest _ _ _ _ _ _ K h hk
      ·cases h
     ·cases h
    ·cases h
   | ext =>
    simp only at h ⊢
    split at h
    ·cases h
    ·rename_i f args ts hop
     split at h
     ·rename_i g cs hf
      split at h
      ·rename_i ret m1 hcall
       split at h
       ·rename_i hp
        obtain ⟨extra, rfl⟩ := preB_ok hp
        rw [hop]; simp only [hf]
        exact ⟨ret, extra, hc _ _ _ _ _ hcall, rOpsD_ok hc rest _ _ _ _ _ _ K h hk⟩
       ·cases h
      ·cases h
     ·cases h
    ·rename_i h1 h2
     split at h
     ·rename_i x m1 hv
      split at h
      ·rename_i hp
       split
       ·rename_i t x y hop; exact absurd hop (h1 t x y)
       ·rename_i f args ts hop; exact absurd hop (h2 f args ts)
       ·simp only [hv]
        exact ⟨preB_ok hp, rOpsD_ok hc rest _ _ _ _ _ _ K h hk⟩
      ·cases h
     ·cases h
   | up q =>
    simp only at h ⊢
    split at h
    ·rename_i x m1 hv
     split at h
     ·rename_i hp
      rw [hv]
      exact ⟨upB_ok hp, rOpsD_ok hc rest _ _ _ _ _ _ K h hk⟩
     ·cases h
    ·cases h
   | fl =>
    simp only at h ⊢
    split at h
    ·rename_i t hop hg
     split at h
     ·rename_i z hz
      rw [hop, hg]; simp only [hz]; exact rOpsD_ok hc rest _ _ _ _ _ _ K h hk
     ·cases h
    ·cases h
   | wr =>
    simp only at h ⊢
    split at h
    ·rename_i t x y hop
     split at h
     ·rename_i m1 hs
      rw [hop]; simp only [hs]; exact rOpsD_ok hc rest _ _ _ _ _ _ K h hk
     ·cases h
    ·rename_i f args ts hop
     split at h
     ·rename_i g cs hf
      split at h
      ·rename_i ret m1 hcall
       rw [hop]; simp only [hf]
       exact ⟨ret, m1, hc _ _ _ _ _ hcall, rOpsD_ok hc rest _ _ _ _ _ _ K h hk⟩
      ·cases h
     ·cases h
    ·rename_i h1 h2
     split at h
     ·rename_i x m1 hv
      split
      ·rename_i t x y hop; exact absurd hop (h1 t x y)
      ·rename_i f args ts hop; exact absurd hop (h2 f args ts)
      ·simp only [hv]
       exact rOpsD_ok hc rest _ _ _ _ _ _ K h hk
     ·cases h
  ·rename_i hw
   rw [hw]
   exact rOpsD_ok hc rest _ _ _ _ _ _ K h hk
  ·cases h
variable {pls : Nat → List Plan} {nt L : Nat}
theorem rLoop_ok {c : Code} {f : Tm → AMem → Option (Exit × Tm × AMem)} (hf : ∀ tm mem ex tm' mem' (Q : Exit → Tm → AMem → Prop), f tm mem = some (ex, tm', mem') → Q ex tm' mem' → AW P nt c tm mem Q) :
  ∀ (n : Nat) (tm : Tm) (mem : AMem) (ex : Exit) (tm' : Tm) (mem' : AMem) (Q : Exit → Tm → AMem → Prop), rLoop f n tm mem = some (ex, tm', mem') → Q ex tm' mem' → ARounds P nt c Q n tm mem
 | 0, _, _, _, _, _, _, h, _ => by cases h
 | n + 1, tm, mem, ex, tm', mem', Q, h, hq => by
  simp only [rLoop] at h
  split at h
  ·rename_i tm1 mem1 h1
   exact hf _ _ _ _ _ _ h1 (rLoop_ok hf n _ _ _ _ _ Q h hq)
  ·rename_i r hne
   have hex : ex ≠ .normal := by rintro rfl; exact hne _ _ h
   refine hf _ _ _ _ _ _ h ?_
   cases ex with
   | normal => exact absurd rfl hex
   | _ => exact hq
theorem rCode_ok (hc : CallOk P call) (hfol : P.follows .mixedOrders = true) : ∀ (c : Code) (tm : Tm) (mem : AMem) (ex : Exit) (tm' : Tm) (mem' : AMem) (Q : Exit → Tm → AMem → Prop),
  rCode P call pls nt L c tm mem = some (ex, tm', mem') → Q ex tm' mem' → AW P nt c tm mem Q := by
 intro c
 induction c with
 | skip => intro tm mem ex tm' mem' Q h hq; simp only [rCode, Option.some.injEq, Prod.mk.injEq] at h; obtain ⟨rfl, rfl, rfl⟩ := h; exact AW.skip hq
 | ret => intro tm mem ex tm' mem' Q h hq; simp only [rCode, Option.some.injEq, Prod.mk.injEq] at h; obtain ⟨rfl, rfl, rfl⟩ := h; exact AW.ret hq
 | exit id => intro tm mem ex tm' mem' Q h hq; simp only [rCode, Option.some.injEq, Prod.mk.injEq] at h; obtain ⟨rfl, rfl, rfl⟩ := h; exact AW.exit hq
 | seq x y ihx ihy =>
  intro tm mem ex tm' mem' Q h hq
  simp only [rCode] at h
  split at h
  ·rename_i tm1 mem1 h1
   exact AW.seq (ihx _ _ _ _ _ _ h1 (ihy _ _ _ _ _ _ h hq))
  ·rename_i r hne
   have hex : ex ≠ .normal := by rintro rfl; exact hne _ _ h
   refine AW.seq (ihx _ _ _ _ _ _ h ?_)
   cases ex with
   | normal => exact absurd rfl hex
   | _ => exact hq
 | block id c ih =>
  intro tm mem ex tm' mem' Q h hq
  simp only [rCode] at h
  refine AW.block ?_
  split at h
  ·rename_i id' tm1 mem1 h1
   refine ih _ _ _ _ _ _ h1 ?_
   split at h
   ·rename_i he
    simp only [Option.some.injEq, Prod.mk.injEq] at h; obtain ⟨rfl, rfl, rfl⟩ := h
    subst he; exact InB_here hq
   ·rename_i he
    simp only [Option.some.injEq, Prod.mk.injEq] at h; obtain ⟨rfl, rfl, rfl⟩ := h
    exact InB_far he hq
  ·rename_i r hne
   refine ih _ _ _ _ _ _ h ?_
   cases ex with
   | exit id' => exact absurd h (hne _ _ _)
   | _ => exact hq
 | cond c x y ihx ihy =>
  intro tm mem ex tm' mem' Q h hq
  simp only [rCode] at h
  split at h
  ·rename_i hb; exact AW.cond_t hb (ihx _ _ _ _ _ _ h hq)
  ·rename_i hb; exact AW.cond_f hb (ihy _ _ _ _ _ _ h hq)
  ·cases h
 | loop c ih =>
  intro tm mem ex tm' mem' Q h hq
  simp only [rCode] at h
  exact AW.rounds L (rLoop_ok ih _ _ _ _ _ _ _ h hq)
 | region id ops b =>
  intro tm mem ex tm' mem' Q h hq
  cases b with
  | false =>
   simp only [rCode] at h
   split at h
   ·rename_i hd
    simp only [Option.map_eq_some_iff, Prod.mk.injEq] at h
    obtain ⟨⟨tm1, mem1⟩, h1, rfl, rfl, rfl⟩ := h
    have h2 : AOps P ops ops.toList tm mem (Q .normal) := rOps_ok hc _ _ _ _ _ _ h1 hq
    have h3 := AW.region (P := P) (nt := nt) (id := id) (l := ops.toList) (tm := tm) (mem := mem) (Q := Q) hd (by simpa using h2)
    simpa using h3
   ·cases h
  | true =>
   simp only [rCode] at h
   split at h
   ·rename_i hd
    simp only [Option.map_eq_some_iff, Prod.mk.injEq] at h
    obtain ⟨⟨tm1, mem1⟩, h1, rfl, rfl, rfl⟩ := h
    have h2 := rOpsD_ok hc _ _ _ _ _ _ _ (Q .normal) h1 hq
    have h3 := AW.draw (P := P) (nt := nt) (id := id) (l := ops.toList) (tm := tm) (mem := mem) (Q := Q) (pls id) hfol hd.1 hd.2 (by simpa using h2)
    simpa using h3
   ·cases h
 | _ => intro tm mem ex tm' mem' Q h hq; simp only [rCode] at h; cases h
end
theorem Hands.all {x : AV} {mem : AMem} {L : Nat} : Hands L x mem x mem := fun ρ v w hv hm => ⟨ρ, hv, hm, fun _ _ _ _ h => h⟩
theorem rFunc_ok {P : Program} {pls : Nat → Nat → List Plan} {L : Nat} (hfol : P.follows .mixedOrders = true) : ∀ n : Nat, CallOk P (rFunc P pls L n)
 | 0 => fun g args mem ret mem' h => by cases h
 | n + 1 => fun g args mem ret mem' h => by
  simp only [rFunc] at h
  split at h
  ·rename_i fn hfn
   split at h
   ·rename_i c hb
    split at h
    ·rename_i hname
     have ok := rFunc_ok (P := P) (pls := pls) (L := L) hfol n
     split at h
     ·rename_i tm m hr
      simp only [Option.map_eq_some_iff, Prod.mk.injEq] at h
      obtain ⟨x, hx, rfl, rfl⟩ := h
      exact Ctr.of_body hfn hb hname fun hw => rCode_ok ok hfol _ _ _ _ _ _ _ hr ⟨.inl rfl, x, hx, Hands.all⟩
     ·rename_i tm m hr
      simp only [Option.map_eq_some_iff, Prod.mk.injEq] at h
      obtain ⟨x, hx, rfl, rfl⟩ := h
      exact Ctr.of_body hfn hb hname fun hw => rCode_ok ok hfol _ _ _ _ _ _ _ hr ⟨.inr rfl, x, hx, Hands.all⟩
     ·cases h
    ·cases h
   ·cases h
  ·cases h
theorem Ctr.closed {P : Program} {f : FuncId} {args : List AV} {ret : AV} {mem' : AMem} (h : Ctr P f args [] ret mem') (ha : ∀ a, a ∈ args → a.below 0 = true) (hr : ret.below 0 = true) (m : AMem) : Ctr P f args m ret m := by
 refine fun ρ w vs hm hargs => ?_
 have h0 : RepM (ρ.upto 0) [] w := ⟨fun r b h => by simp at h, fun r v _ => by simp [Env.upto], fun r b v h => by simp at h, fun r s b c h => by simp at h⟩
 have hargs' : ∀ {xa : List AV} {vs : List Value}, (∀ a, a ∈ xa → a.below 0 = true) → All2 (VR ρ) xa vs → All2 (VR (ρ.upto 0)) xa vs := by
  intro xa
  induction xa with
  | nil => intro vs _ h; cases vs with
   | nil => trivial
   | cons _ _ => exact h.elim
  | cons a xa ih => intro vs hb h; cases vs with
   | nil => exact h.elim
   | cons v vs => exact ⟨h.1.upto (hb a List.mem_cons_self), ih (fun a ha => hb a (List.mem_cons_of_mem _ ha)) h.2⟩
 refine (h _ w vs h0 (hargs' ha hargs)).mono ?_
 rintro e w' ⟨v, ρ', rfl, hv, hm', hs⟩
 have hfr : ∀ n, n < w.heap.size → w'.heap[n]? = w.heap[n]? := fun n hn => hs.frame n hn fun r b x k hb => by simp at hb
 have hm2 : RepM ρ m w' := by
  refine ⟨fun r b hb => ?_, hm.dom, hm.domv, hm.sep⟩
  exact (hm.blk r b hb).heap hs.size fun x k hx hne hlt => hfr _ hlt
 refine ⟨v, ρ, rfl, ?_, hm2, ?_⟩
 ·exact (hv.upto hr).mono (fun r v x hx => by simp [Env.upto] at hx)
 ·exact ⟨hs.os, hs.tape, hs.output, hs.size, Nat.le_refl _, fun _ _ _ _ h => h, fun r b b' h h' => by rw [h] at h'; injection h' with h'; rw [h'], fun r b h _ => h, fun n hn _ => hfr n hn, fun r b x k h hk hx => .inr ⟨r, b, x, k, h, hk, hx, rfl⟩⟩
theorem Ctr.run {P : Program} {f : FuncId} {args : List AV} {ret : AV} (pls : Nat → Nat → List Plan) (L n : Nat) (hfol : P.follows .mixedOrders = true) (h : ((rFunc P pls L n f args []).map (·.1)) = some ret) (ha : ∀ a, a ∈ args → a.below 0 = true) (hr : ret.below 0 = true) (m : AMem) : Ctr P f args m ret m := by
 rw [Option.map_eq_some_iff] at h
 obtain ⟨⟨x, mem'⟩, h1, rfl⟩ := h
 exact Ctr.closed (rFunc_ok hfol n _ _ _ _ _ h1) ha hr m
theorem set_self {α : Type} : ∀ {l : List α} {j : Nat} {v : α}, l[j]? = some v → l.set j v = l
 | [], _, _, _ => rfl
 | x :: l, 0, v, h => by simp at h; subst h; rfl
 | x :: l, j + 1, v, h => by simp at h; simp [set_self h]
theorem All2.set_left {α β : Type} {R : α → β → Prop} {xa : List α} {bs : List β} (h : All2 R xa bs) {j : Nat} {a : α} {b : β} (hb : bs[j]? = some b) (hr : R a b) : All2 R (xa.set j a) bs := by
 have := h.set (i := j) hr
 rwa [set_self hb] at this
section
variable {P : Program} {nt : Nat} {tm : Tm} {mem : AMem}
theorem nil_row {ρ : Env} {L : Nat} {v : Value} (h : VC ρ .nils v) : VC (ρ.set L 0 (none, 0)) (.sl L 0 0 0) v := by
 have e : v = .slice none 0 0 := h
 subst e
 exact ⟨none, 0, none, 0, Env.set_same _ _ _ _, rfl, Nat.le_refl _, fun h => by omega, fun _ => ⟨rfl, rfl⟩⟩
theorem Rep.nilRow {ρ : Env} {a : Act} {w : World} (hr : Rep ρ nt tm mem a w) (ty esz : Nat) (mem1 : AMem) (hlen : mem1.length = mem.length) (hk : ∀ (r : Nat) (b1 : Blk), mem1[r]? = some b1 → ∃ b, mem[r]? = some b ∧ b1.kind = b.kind ∧ b1.ver = b.ver ∧ (b.kind = .ro → b1 = b))
  (hb : ∀ (r : Nat) (b1 : Blk), mem1[r]? = some b1 → BlkR (ρ.set mem.length 0 (none, 0)) w r b1) (tm1 : Tm) (ht : ∀ i, VR (ρ.set mem.length 0 (none, 0)) (Tm.get tm1 i) (a.tmps.getD i undef)) :
  Rep (ρ.set mem.length 0 (none, 0)) nt tm1 (mem1 ++ [⟨.grow, ty, 0, esz, []⟩]) a w ∧ ∀ m0 ρ0 w0, Step m0 ρ0 w0 mem ρ w → Step m0 ρ0 w0 (mem1 ++ [⟨.grow, ty, 0, esz, []⟩]) (ρ.set mem.length 0 (none, 0)) w := by
 have hle : ρ.le (ρ.set mem.length 0 (none, 0)) := Env.le_set (hr.mem.dom _ _ (Nat.le_refl _))
 have hgt : ∀ {s : Nat} {d : Blk}, (mem1 ++ [⟨.grow, ty, 0, esz, []⟩])[s]? = some d → (s < mem.length ∧ mem1[s]? = some d) ∨ (s = mem.length ∧ d = ⟨.grow, ty, 0, esz, []⟩) := by
  intro s d hd
  rcases Nat.lt_or_ge s mem1.length with h | h
  ·rw [List.getElem?_append_left h] at hd; exact .inl ⟨by omega, hd⟩
  ·rw [List.getElem?_append_right h] at hd
   have hl := (List.getElem?_eq_some_iff.1 hd).1
   simp at hl
   have : s = mem.length := by omega
   subst this
   simp [hlen] at hd
   exact .inr ⟨rfl, hd.symm⟩
 have hoth : ∀ {s v : Nat}, s < mem.length → ρ.set mem.length 0 (none, 0) s v = ρ s v := fun {s v} h => Env.set_other ρ _ (by omega)
 refine ⟨⟨hr.size, ht, ⟨?_, ?_, ?_, ?_⟩⟩, ?_⟩
 ·intro s d hd
  rcases hgt hd with ⟨_, h1⟩ | ⟨rfl, rfl⟩
  ·exact hb s d h1
  ·exact .inl ⟨rfl, Env.set_same _ _ _ _⟩
 ·intro s v hs
  simp at hs
  rw [Env.set_other ρ _ (by omega)]
  exact hr.mem.dom s v (by omega)
 ·intro s d v hd hv
  rcases hgt hd with ⟨hl, h1⟩ | ⟨rfl, rfl⟩
  ·obtain ⟨b, h2, _, h3, _⟩ := hk s d h1
   rw [hoth hl]; exact hr.mem.domv s b v h2 (by omega)
  ·simp only at hv
   rw [Env.set_other ρ _ (by omega)]
   exact hr.mem.dom _ _ (Nat.le_refl _)
 ·intro s t d e hd he hst hkd hne x y k1 k2 hx hy
  rcases hgt hd with ⟨hl, h1⟩ | ⟨rfl, rfl⟩
  ·rcases hgt he with ⟨hl', h1'⟩ | ⟨rfl, rfl⟩
   ·obtain ⟨b, h2, h3, h4, h5⟩ := hk s d h1
    obtain ⟨b', h2', h3', h4', h5'⟩ := hk t e h1'
    rw [hoth hl, h4] at hx
    rw [hoth hl', h4'] at hy
    exact hr.mem.sep s t b b' h2 h2' hst (by rw [← h3]; exact hkd) (fun h => by rw [← h5' h]; exact hne (by rw [h3']; exact h)) x y k1 k2 hx hy
   ·simp only [Env.set_same] at hy
    injection hy with hy; injection hy with hy _; cases hy
  ·simp only [Env.set_same] at hx
   injection hx with hx; injection hx with hx _; cases hx
 ·intro m0 ρ0 w0 hs
  refine ⟨hs.os, hs.tape, hs.output, hs.size, ?_, fun r hr v x hx => hle _ _ _ (hs.ext r hr v x hx), ?_, ?_, ?_, ?_⟩
  ·have := hs.len; simp; omega
  ·intro r b b' hb0 hb'
   have hl0 := (List.getElem?_eq_some_iff.1 hb0).1
   have := hs.len
   rcases hgt hb' with ⟨hl, h1⟩ | ⟨rfl, rfl⟩
   ·obtain ⟨b2, h2, h3, _, _⟩ := hk r b' h1
    rw [h3]; exact hs.kind r b b2 hb0 h2
   ·omega
  ·intro r b' hb' hro
   rcases hgt hb' with ⟨hl, h1⟩ | ⟨rfl, rfl⟩
   ·obtain ⟨b2, h2, h3, _, h5⟩ := hk r b' h1
    have e := h5 (by rw [← h3]; exact hro)
    subst e
    exact hs.ro r b' h2 hro
   ·cases hro
  ·exact hs.frame
  ·intro r b' x k hb' hkd hx
   rcases hgt hb' with ⟨hl, h1⟩ | ⟨rfl, rfl⟩
   ·obtain ⟨b2, h2, h3, h4, h5⟩ := hk r b' h1
    rw [hoth hl, h4] at hx
    exact hs.fresh r b2 x k h2 (by rw [← h3]; exact hkd) hx
   ·simp only [Env.set_same] at hx
    injection hx with hx; injection hx with hx _; cases hx
theorem BlkR.nilCell {ρ ρ' : Env} (hle : ρ.le ρ') {w : World} {r : Nat} {b : Blk} (hb : BlkR ρ w r b) (hk : b.kind ≠ .ro) {j : Nat} (hj : b.cells[j]? = some .nils) {c : CV} (hc : ∀ v, VC ρ .nils v → VC ρ' c v) : BlkR ρ' w r { b with cells := b.cells.set j c } := by
 obtain ⟨kind, ty, ver, esz, cells⟩ := b
 cases kind with
 | fix =>
  obtain ⟨n, cs, k, h1, h2, h3, hkk⟩ := hb
  obtain ⟨v, hv, hr⟩ := h3.get hj
  exact ⟨n, cs, k, hle _ _ _ h1, h2, (h3.mono fun _ _ => VC.mono hle).set_left hv (hc v hr), hkk⟩
 | grow =>
  rcases hb with ⟨h1, h2⟩ | ⟨n, cs, cap, xs, sp, h1, h2, h3, hcm, h4, h5⟩
  ·simp only at h1; subst h1; simp at hj
  ·obtain ⟨v, hv, hr⟩ := h5.get hj
   exact .inr ⟨n, cs, cap, xs, sp, hle _ _ _ h1, h2, h3, hcm, h4, (h5.mono fun _ _ => VC.mono hle).set_left hv (hc v hr)⟩
 | ro => exact absurd rfl hk
 | map ka va clock es => obtain ⟨n, o, k, _, _, _, h⟩ := hb; simp only at h; subst h; simp at hj
 | iter rm since seen last => obtain ⟨n, N, k, k', _, _, _, h⟩ := hb; simp only at h; subst h; simp at hj
theorem AW.nilCell {c : Code} {Q : Exit → Tm → AMem → Prop} (ty esz : Nat) (r j : Nat) {b : Blk} (hb : mem[r]? = some b) (hk : b.kind ≠ .ro) (hj : b.cells[j]? = some .nils)
  (h : AW P nt c tm (mem.set r { b with cells := b.cells.set j (.sl mem.length 0 0 0) } ++ [⟨.grow, ty, 0, esz, []⟩]) Q) : AW P nt c tm mem Q := by
 intro ρ a w hr
 have hle : ρ.le (ρ.set mem.length 0 (none, 0)) := Env.le_set (hr.mem.dom _ _ (Nat.le_refl _))
 have hrl := (List.getElem?_eq_some_iff.1 hb).1
 have hgt : ∀ {s : Nat} {d : Blk}, (mem.set r { b with cells := b.cells.set j (.sl mem.length 0 0 0) })[s]? = some d → (s ≠ r ∧ mem[s]? = some d) ∨ (s = r ∧ d = { b with cells := b.cells.set j (.sl mem.length 0 0 0) }) := by
  intro s d hd
  by_cases hs : s = r
  ·subst hs; rw [List.getElem?_set_self hrl] at hd; injection hd with hd; exact .inr ⟨rfl, hd.symm⟩
  ·rw [List.getElem?_set_ne (fun e => hs e.symm)] at hd; exact .inl ⟨hs, hd⟩
 obtain ⟨h1, h2⟩ := hr.nilRow ty esz (mem.set r { b with cells := b.cells.set j (.sl mem.length 0 0 0) }) (by simp) (fun s d hd => by
   rcases hgt hd with ⟨_, h1⟩ | ⟨e1, e2⟩
   ·exact ⟨d, h1, rfl, rfl, fun _ => rfl⟩
   ·subst e1; subst e2; exact ⟨b, hb, rfl, rfl, fun h => absurd h hk⟩) (fun s d hd => by
   rcases hgt hd with ⟨_, h1⟩ | ⟨e1, e2⟩
   ·exact (hr.mem.blk s d h1).mono hle
   ·subst e1; subst e2; exact (hr.mem.blk s b hb).nilCell hle hk hj fun v hv => nil_row hv) tm (fun i => (hr.tm i).mono hle)
 refine wp_mono (h _ a w h1) ?_
 rintro e a' w' ⟨ρ2, tm2, mem2, hr2, hs2, hd, hq⟩
 exact ⟨ρ2, tm2, mem2, hr2, (h2 mem ρ w (Step.refl _ _ _)).trans hs2, hd, hq⟩
theorem AW.nilTm {c : Code} {Q : Exit → Tm → AMem → Prop} (ty esz : Nat) (d : Nat) (hd : Tm.get tm d = .one .nils)
  (h : AW P nt c ((d, .one (.sl mem.length 0 0 0)) :: tm) (mem ++ [⟨.grow, ty, 0, esz, []⟩]) Q) : AW P nt c tm mem Q := by
 intro ρ a w hr
 have hle : ρ.le (ρ.set mem.length 0 (none, 0)) := Env.le_set (hr.mem.dom _ _ (Nat.le_refl _))
 obtain ⟨h1, h2⟩ := hr.nilRow ty esz mem rfl (fun s d hd => ⟨d, hd, rfl, rfl, fun _ => rfl⟩) (fun s d hd => (hr.mem.blk s d hd).mono hle) ((d, .one (.sl mem.length 0 0 0)) :: tm) (fun i => by
  rw [Tm.get_put]
  by_cases hi : i = d
  ·subst hi
   rw [if_pos rfl]
   have := hr.tm i
   rw [hd] at this
   exact nil_row this
  ·rw [if_neg hi]; exact (hr.tm i).mono hle)
 refine wp_mono (h _ a w h1) ?_
 rintro e a' w' ⟨ρ2, tm2, mem2, hr2, hs2, hd, hq⟩
 exact ⟨ρ2, tm2, mem2, hr2, (h2 mem ρ w (Step.refl _ _ _)).trans hs2, hd, hq⟩
theorem AW.loopE {ι : Type} {c : Code} {Q : Exit → Tm → AMem → Prop} (keep : List Nat) (m0 : AMem) (I : ι → Prop) (V : ι → Tm) (U : ι → List (Nat × Blk)) (E : ι → AMem) (μ : ι → Nat) (i : ι) (hi : I i) (hv : Keeps tm (V i)) (hm : setAll m0 (U i) ++ E i = mem)
  (hE : ∀ i j, I i → I j → μ j < μ i → (E i).length ≤ (E j).length)
  (h : ∀ i, I i → AW P nt c (V i ++ keepL tm keep) (setAll m0 (U i) ++ E i) (Thn (fun tm' mem' => ∃ j, I j ∧ μ j < μ i ∧ Weak nt tm' mem' (V j ++ keepL tm keep) (setAll m0 (U j) ++ E j)) Q)) : AW P nt (.loop c) tm mem Q := by
 refine AW.weak (tm' := V i ++ keepL tm keep) (Keeps.append hv (keeps_keepL _ _)) ?_
 refine AW.loop (ι := { i // I i }) (fun j => V j.1 ++ keepL tm keep) (fun j => setAll m0 (U j.1) ++ E j.1) (fun j => μ j.1) ⟨i, hi⟩ rfl hm fun ⟨j, hj⟩ => ?_
 refine (h j hj).mono fun e tm' mem' hq => ?_
 cases e with
 | normal =>
  obtain ⟨k, hk, hlt, hw⟩ := hq
  exact ⟨⟨k, hk⟩, hlt, hw, by simp only [List.length_append, setAll_len]; have := hE j k hj hk hlt; omega⟩
 | _ => exact hq
def nilC (L : Nat) (c c' : CV) : Prop := c' = c ∨ (c = .nils ∧ c' = .sl L 0 0 0)
def nilV (L : Nat) : AV → AV → Prop
 | .one c, .one c' => nilC L c c'
 | .agg cs, .agg cs' => All2 (nilC L) cs cs'
 | .tup ts, .tup ts' => All2 (fun t t' => t.1 = t'.1 ∧ All2 (nilC L) t.2 t'.2) ts ts'
 | _, _ => False
theorem AW.loopE0 {ι : Type} {c : Code} {Q : Exit → Tm → AMem → Prop} (keep : List Nat) (I : ι → Prop) (V : ι → Tm) (U : ι → List (Nat × Blk)) (E : ι → AMem) (μ : ι → Nat) (i : ι) (hi : I i) (hv : Keeps tm (V i)) (hm : setAll mem (U i) ++ E i = mem)
  (hE : ∀ i j, I i → I j → μ j < μ i → (E i).length ≤ (E j).length)
  (h : ∀ i, I i → AW P nt c (V i ++ keepL tm keep) (setAll mem (U i) ++ E i) (Thn (fun tm' mem' => ∃ j, I j ∧ μ j < μ i ∧ Weak nt tm' mem' (V j ++ keepL tm keep) (setAll mem (U j) ++ E j)) Q)) : AW P nt (.loop c) tm mem Q :=
 AW.loopE keep mem I V U E μ i hi hv hm hE h
theorem nilC_sound {ρ : Env} {L : Nat} (hle : ρ.le (ρ.set L 0 (none, 0))) {c c' : CV} {v : Value} (h : nilC L c c') (hv : VC ρ c v) : VC (ρ.set L 0 (none, 0)) c' v := by
 rcases h with rfl | ⟨rfl, rfl⟩
 ·exact hv.mono hle
 ·exact nil_row hv
theorem nilL_sound {ρ : Env} {L : Nat} (hle : ρ.le (ρ.set L 0 (none, 0))) : ∀ {cs cs' : List CV} {vs : List Value}, All2 (nilC L) cs cs' → All2 (VC ρ) cs vs → All2 (VC (ρ.set L 0 (none, 0))) cs' vs
 | [], [], [], _, _ => trivial
 | c :: cs, c' :: cs', v :: vs, h, hv => ⟨nilC_sound hle h.1 hv.1, nilL_sound hle h.2 hv.2⟩
 | [], _ :: _, _, h, _ => h.elim
 | _ :: _, [], _, h, _ => h.elim
 | [], [], _ :: _, _, h => h.elim
 | _ :: _, _ :: _, [], _, h => h.elim
theorem nilT_sound {ρ : Env} {L : Nat} (hle : ρ.le (ρ.set L 0 (none, 0))) {t t' : Bool × List CV} {v : Value} (h : t.1 = t'.1 ∧ All2 (nilC L) t.2 t'.2) (hv : TV ρ t v) : TV (ρ.set L 0 (none, 0)) t' v := by
 obtain ⟨b, cs⟩ := t
 obtain ⟨b', cs'⟩ := t'
 obtain ⟨h1, h2⟩ := h
 simp only at h1 h2
 subst h1
 cases b with
 | true => obtain ⟨vs, e, hvs⟩ := hv; exact ⟨vs, e, nilL_sound hle h2 hvs⟩
 | false =>
  match cs, cs', h2, hv with
  | [], [], _, _ => trivial
  | [c], [c'], h2, hv => exact nilC_sound hle h2.1 hv
  | _ :: _ :: _, _ :: _ :: _, _, _ => trivial
  | [], _ :: _, h2, _ => exact h2.elim
  | _ :: _, [], h2, _ => exact h2.elim
  | [_], _ :: _ :: _, h2, _ => exact h2.2.elim
  | _ :: _ :: _, [_], h2, _ => exact h2.2.elim
theorem nilTs_sound {ρ : Env} {L : Nat} (hle : ρ.le (ρ.set L 0 (none, 0))) : ∀ {ts ts' : List (Bool × List CV)} {vs : List Value}, All2 (fun t t' => t.1 = t'.1 ∧ All2 (nilC L) t.2 t'.2) ts ts' → All2 (TV ρ) ts vs → All2 (TV (ρ.set L 0 (none, 0))) ts' vs
 | [], [], [], _, _ => trivial
 | c :: cs, c' :: cs', v :: vs, h, hv => ⟨nilT_sound hle h.1 hv.1, nilTs_sound hle h.2 hv.2⟩
 | [], _ :: _, _, h, _ => h.elim
 | _ :: _, [], _, h, _ => h.elim
 | [], [], _ :: _, _, h => h.elim
 | _ :: _, _ :: _, [], _, h => h.elim
theorem nilV_sound {ρ : Env} {L : Nat} (hle : ρ.le (ρ.set L 0 (none, 0))) {x x' : AV} {v : Value} (h : nilV L x x') (hv : VR ρ x v) : VR (ρ.set L 0 (none, 0)) x' v := by
 match x, x', h, hv with
 | .one c, .one c', h, hv => exact nilC_sound hle h hv
 | .agg cs, .agg cs', h, hv => obtain ⟨vs, e, hvs⟩ := hv; exact ⟨vs, e, nilL_sound hle h hvs⟩
 | .tup ts, .tup ts', h, hv => obtain ⟨vs, e, hvs⟩ := hv; exact ⟨vs, e, nilTs_sound hle h hvs⟩
 | .one _, .agg _, h, _ => exact h.elim
 | .one _, .tup _, h, _ => exact h.elim
 | .agg _, .one _, h, _ => exact h.elim
 | .agg _, .tup _, h, _ => exact h.elim
 | .tup _, .one _, h, _ => exact h.elim
 | .tup _, .agg _, h, _ => exact h.elim
theorem Ctr.nil {f : FuncId} {args : List AV} {m m' : AMem} {ret ret' : AV} (h : Ctr P f args m ret m') (ty esz : Nat) (hv : nilV m'.length ret ret') : Ctr P f args m ret' (m' ++ [⟨.grow, ty, 0, esz, []⟩]) := by
 refine fun ρ w vs hm hargs => (h ρ w vs hm hargs).mono ?_
 rintro e w' ⟨v, ρ', rfl, hvr, hm', hs⟩
 have hle : ρ'.le (ρ'.set m'.length 0 (none, 0)) := Env.le_set (hm'.dom _ _ (Nat.le_refl _))
 have hr : Rep ρ' 0 [] m' ⟨#[], []⟩ w' := ⟨by simp, fun i => trivial, hm'⟩
 obtain ⟨h1, h2⟩ := hr.nilRow ty esz m' rfl (fun s d hd => ⟨d, hd, rfl, rfl, fun _ => rfl⟩) (fun s d hd => (hm'.blk s d hd).mono hle) [] (fun i => trivial)
 exact ⟨v, _, rfl, nilV_sound hle hv hvr, h1.mem, h2 _ _ _ hs⟩
end
theorem all2_cons {α β : Type} {R : α → β → Prop} {t : α} {ts : List α} {l : List β} (h : All2 R (t :: ts) l) : ∃ a xa, l = a :: xa ∧ R t a ∧ All2 R ts xa := by
 cases l with
 | nil => exact h.elim
 | cons a xa => exact ⟨a, xa, rfl, h.1, h.2⟩
theorem all2_nil {α β : Type} {R : α → β → Prop} {l : List β} (h : All2 R ([] : List α) l) : l = [] := by
 cases l with
 | nil => rfl
 | cons a xa => exact h.elim
theorem chain6 (p1 p2 p3 p4 p5 p6 : Prop) : (p1 ∧ p2 ∧ p3 ∧ p4 ∧ p5 ∧ p6) ∨ (p1 ∧ p2 ∧ p3 ∧ p4 ∧ p5 ∧ ¬p6) ∨ (p1 ∧ p2 ∧ p3 ∧ p4 ∧ ¬p5 ∧ True) ∨ (p1 ∧ p2 ∧ p3 ∧ ¬p4 ∧ True ∧ True) ∨ (p1 ∧ p2 ∧ ¬p3 ∧ True ∧ True ∧ True) ∨ (p1 ∧ ¬p2 ∧ True ∧ True ∧ True ∧ True) ∨ (¬p1 ∧ True ∧ True ∧ True ∧ True ∧ True) := by
 rcases Classical.em p1 with h | h <;> rcases chain5 p2 p3 p4 p5 p6 with h' | h' | h' | h' | h' | h' <;> simp [h, h']
theorem chain7 (p1 p2 p3 p4 p5 p6 p7 : Prop) : (p1 ∧ p2 ∧ p3 ∧ p4 ∧ p5 ∧ p6 ∧ p7) ∨ (p1 ∧ p2 ∧ p3 ∧ p4 ∧ p5 ∧ p6 ∧ ¬p7) ∨ (p1 ∧ p2 ∧ p3 ∧ p4 ∧ p5 ∧ ¬p6 ∧ True) ∨ (p1 ∧ p2 ∧ p3 ∧ p4 ∧ ¬p5 ∧ True ∧ True) ∨ (p1 ∧ p2 ∧ p3 ∧ ¬p4 ∧ True ∧ True ∧ True) ∨ (p1 ∧ p2 ∧ ¬p3 ∧ True ∧ True ∧ True ∧ True) ∨ (p1 ∧ ¬p2 ∧ True ∧ True ∧ True ∧ True ∧ True) ∨ (¬p1 ∧ True ∧ True ∧ True ∧ True ∧ True ∧ True) := by
 rcases Classical.em p1 with h | h <;> rcases chain6 p2 p3 p4 p5 p6 p7 with h' | h' | h' | h' | h' | h' | h' <;> simp [h, h']
theorem chain8 (p1 p2 p3 p4 p5 p6 p7 p8 : Prop) : (p1 ∧ p2 ∧ p3 ∧ p4 ∧ p5 ∧ p6 ∧ p7 ∧ p8) ∨ (p1 ∧ p2 ∧ p3 ∧ p4 ∧ p5 ∧ p6 ∧ p7 ∧ ¬p8) ∨ (p1 ∧ p2 ∧ p3 ∧ p4 ∧ p5 ∧ p6 ∧ ¬p7 ∧ True) ∨ (p1 ∧ p2 ∧ p3 ∧ p4 ∧ p5 ∧ ¬p6 ∧ True ∧ True) ∨ (p1 ∧ p2 ∧ p3 ∧ p4 ∧ ¬p5 ∧ True ∧ True ∧ True) ∨ (p1 ∧ p2 ∧ p3 ∧ ¬p4 ∧ True ∧ True ∧ True ∧ True) ∨ (p1 ∧ p2 ∧ ¬p3 ∧ True ∧ True ∧ True ∧ True ∧ True) ∨ (p1 ∧ ¬p2 ∧ True ∧ True ∧ True ∧ True ∧ True ∧ True) ∨ (¬p1 ∧ True ∧ True ∧ True ∧ True ∧ True ∧ True ∧ True) := by
 rcases Classical.em p1 with h | h <;> rcases chain7 p2 p3 p4 p5 p6 p7 p8 with h' | h' | h' | h' | h' | h' | h' | h' <;> simp [h, h']
def bef (σ : List Nat) (i j : Nat) : Prop := σ.idxOf i < σ.idxOf j
structure Lin (ops : Array Oper) (σ : List Nat) : Prop where
 nd : σ.Nodup
 all : ∀ i, i ∈ σ ↔ i < ops.size
 ord : ∀ (j : Nat) (o : Oper), ops[j]? = some o → ∀ e, e ∈ o.after → Region.binds .any e = true → bef σ e.on j
def backB (ops : List Oper) : Bool := (List.range ops.length).all fun j => match ops[j]? with
 | some o => o.after.all fun e => !Region.binds .any e || decide (e.on < j)
 | none => true
theorem backB_ok {l : List Oper} (h : backB l = true) : ∀ (j : Nat) (o : Oper), l.toArray[j]? = some o → ∀ e, e ∈ o.after → Region.binds .any e = true → e.on < j := by
 intro j o hj e he hb
 have hj' : l[j]? = some o := by simpa using hj
 have h1 := List.all_eq_true.1 h j (List.mem_range.2 (List.getElem?_eq_some_iff.1 hj').1)
 rw [hj'] at h1
 have h2 := Array.all_eq_true_iff_forall_mem.1 h1 e he
 simpa [hb] using h2
theorem idxOf_cons' (i : Nat) (σ : List Nat) (k : Nat) : (i :: σ).idxOf k = if k = i then 0 else σ.idxOf k + 1 := by
 rw [List.idxOf_cons]
 by_cases h : k = i
 ·subst h; simp
 ·have h1 : (i == k) = false := by simpa using fun e => h e.symm
  rw [if_neg h, h1]; rfl
theorem get_idxOf : ∀ {σ : List Nat} {i : Nat}, i ∈ σ → σ[σ.idxOf i]? = some i
 | k :: σ, i, h => by
  rw [idxOf_cons']
  by_cases e : i = k
  ·subst e; simp
  ·rw [if_neg e]
   rcases List.mem_cons.1 h with h | h
   ·exact absurd h e
   ·simpa using get_idxOf h
theorem getD_set (l : Array Bool) (i k : Nat) (d : Bool) (hi : i < l.size) : (l.setIfInBounds i true).getD k d = if k = i then true else l.getD k d := by
 simp only [Array.getD_eq_getD_getElem?]
 by_cases h : k = i
 ·subst h; simp [Array.getElem?_setIfInBounds_self_of_lt, hi]
 ·rw [if_neg h, Array.getElem?_setIfInBounds_ne (fun e => h e.symm)]
theorem wpAny_lin {P : Program} {ops : Array Oper} {Q : Exit → Act → World → Prop} {σ : List Nat} (hl : Lin ops σ) :
  ∀ (suf pre : List Nat) (fuel : Nat) (listed : Array Bool) (a : Act) (w : World), pre ++ suf = σ → listed.size = ops.size → (∀ k, k < ops.size → listed.getD k false = decide (k ∈ pre)) → suf.length ≤ fuel →
   wpAny P .any ops Q fuel listed a w → wpOps P ops Q suf a w := by
 intro suf
 induction suf with
 | nil =>
  intro pre fuel listed a w hp hsz hli hf h
  have hr : Region.ready .any ops listed = [] := by
   refine List.eq_nil_iff_forall_not_mem.2 fun i hi => ?_
   simp only [Region.ready, List.mem_filter, List.mem_range, Bool.and_eq_true, Bool.not_eq_true'] at hi
   have h1 := hli i hi.1
   have h2 : i ∈ pre := by rw [List.append_nil] at hp; rw [hp]; exact (hl.all i).2 hi.1
   have h3 : listed.getD i true = true := by
    have : i < listed.size := by have := hi.1; omega
    simp only [decide_eq_true h2] at h1
    simpa [Array.getD_eq_getD_getElem?, this] using h1
   rw [h3] at hi
   cases hi.2.1
  cases fuel with
  | zero => exact h.2
  | succ f => exact h.1 hr
 | cons i suf ih =>
  intro pre fuel listed a w hp hsz hli hf h
  have hnd := hl.nd
  rw [← hp] at hnd
  have hil : i < ops.size := (hl.all i).1 (by rw [← hp]; simp)
  have hip : i ∉ pre := fun hh => (List.nodup_append.1 hnd).2.2 i hh i List.mem_cons_self rfl
  have hidx : σ.idxOf i = pre.length := by
   rw [← hp, List.idxOf_append, if_neg hip]; simp
  have hrd : i ∈ Region.ready .any ops listed := by
   simp only [Region.ready, List.mem_filter, List.mem_range, Bool.and_eq_true, Bool.not_eq_true']
   refine ⟨hil, ?_, ?_⟩
   ·have h1 := hli i hil
    rw [decide_eq_false hip] at h1
    have : i < listed.size := by omega
    simpa [Array.getD_eq_getD_getElem?, this] using h1
   ·rw [Array.getElem?_eq_getElem hil]
    simp only [Option.map_some, Option.getD_some]
    refine Array.all_eq_true_iff_forall_mem.2 fun e he => ?_
    cases hb : Region.binds .any e with
    | false => rfl
    | true =>
     have h1 := hl.ord i _ (Array.getElem?_eq_getElem hil) e he hb
     unfold bef at h1
     rw [hidx] at h1
     have hmem : e.on ∈ pre := by
      rw [← hp, List.idxOf_append] at h1
      by_cases hm : e.on ∈ pre
      ·exact hm
      ·rw [if_neg hm] at h1; omega
     have hlt : e.on < ops.size := (hl.all _).1 (by rw [← hp]; exact List.mem_append_left _ hmem)
     simp only [Bool.not_true, Bool.false_or]
     rw [hli _ hlt, decide_eq_true hmem]
  cases fuel with
  | zero => simp at hf
  | succ f =>
   rw [wpOps_cons]
   refine wpOp_mono (fun a w => ih (pre ++ [i]) f (listed.setIfInBounds i true) a w (by simpa using hp) (by simpa using hsz) (fun k hk => ?_) (by simpa using hf)) (h.2 i hrd)
   rw [getD_set _ _ _ _ (by omega), hli k hk]
   by_cases e : k = i
   ·subst e; simp
   ·rw [if_neg e]; simp [e]
def reAft (π : List Nat) (ext : List (Nat × Nat)) (i : Nat) (af : Array Edge) : Array Edge := ((af.toList.map fun e : Edge => (⟨π.idxOf e.on, e.ground⟩ : Edge)) ++ ((ext.filter fun p => p.2 == i).map fun p => (⟨π.idxOf p.1, .data⟩ : Edge))).toArray
def reOp (π : List Nat) (ext : List (Nat × Nat)) (i : Nat) (o : Oper) : Oper :=
 ⟨o.dst, o.op, o.type, o.pos, reAft π ext i o.after, o.guard.map fun g => (π.idxOf g.1, g.2)⟩
def permL (ops : List Oper) (π : List Nat) (ext : List (Nat × Nat)) : List Oper := π.map fun i => reOp π ext i (ops[i]?.getD default)
def permOk (n : Nat) (π : List Nat) : Bool := decide (π.length = n) && π.all (fun i => decide (i < n)) && (List.range n).all (fun i => π.contains i) && decide π.Nodup
section
variable {ops : List Oper} {π : List Nat} {ext : List (Nat × Nat)}
theorem permOk_facts {n : Nat} (h : permOk n π = true) : π.length = n ∧ (∀ i, i ∈ π ↔ i < n) ∧ π.Nodup := by
 simp only [permOk, Bool.and_eq_true, decide_eq_true_eq, List.all_eq_true, List.mem_range, List.contains_iff_mem] at h
 obtain ⟨⟨⟨h1, h2⟩, h3⟩, h4⟩ := h
 exact ⟨h1, fun i => ⟨h2 i, h3 i⟩, h4⟩
theorem permL_get {n : Nat} (hn : ops.length = n) (h : permOk n π = true) {i : Nat} {o : Oper} (ho : ops[i]? = some o) : (permL ops π ext)[π.idxOf i]? = some (reOp π ext i o) := by
 obtain ⟨h1, h2, h3⟩ := permOk_facts h
 have hi : i < n := by rw [← hn]; exact (List.getElem?_eq_some_iff.1 ho).1
 have hm := (h2 i).2 hi
 unfold permL
 rw [List.getElem?_map, get_idxOf hm]
 simp [ho]
theorem idx_inj {n : Nat} (h : permOk n π = true) {i j : Nat} (hi : i < n) (he : π.idxOf i = π.idxOf j) : i = j := by
 obtain ⟨h1, h2, h3⟩ := permOk_facts h
 have hm := (h2 i).2 hi
 have e1 := get_idxOf hm
 have hj : j ∈ π := by
  refine List.idxOf_lt_length_iff.1 ?_
  rw [← he]; exact List.idxOf_lt_length_iff.2 hm
 have e2 := get_idxOf hj
 rw [← he, e1] at e2
 injection e2
theorem idxOf_map {n : Nat} (h : permOk n π = true) : ∀ (σ : List Nat), (∀ k, k ∈ σ → k < n) → ∀ {i : Nat}, i < n → (σ.map fun k => π.idxOf k).idxOf (π.idxOf i) = σ.idxOf i
 | [], _, i, _ => rfl
 | k :: σ, hs, i, hi => by
  rw [List.map_cons, idxOf_cons', idxOf_cons', idxOf_map h σ (fun k hk => hs k (List.mem_cons_of_mem _ hk)) hi]
  by_cases e : i = k
  ·subst e; simp
  ·rw [if_neg e, if_neg fun he => e (idx_inj h hi he)]
theorem Lin.perm {σ : List Nat} (hl : Lin ops.toArray σ) (h : permOk ops.length π = true) (he : ∀ p, p ∈ ext → bef σ p.1 p.2 ∧ p.1 < ops.length) (hb : ∀ (j : Nat) (o : Oper), ops.toArray[j]? = some o → ∀ e, e ∈ o.after → Region.binds .any e = true → e.on < j) :
  Lin (permL ops π ext).toArray (σ.map fun k => π.idxOf k) := by
 obtain ⟨h1, h2, h3⟩ := permOk_facts h
 have hlt : ∀ k, k ∈ σ → k < ops.length := fun k hk => by simpa using (hl.all k).1 hk
 have hsz : (permL ops π ext).toArray.size = ops.length := by simp [permL, h1]
 have hmapnd : ∀ τ : List Nat, (∀ k, k ∈ τ → k < ops.length) → τ.Nodup → (τ.map fun k => π.idxOf k).Nodup := by
  intro τ
  induction τ with
  | nil => intro _ _; simp
  | cons k τ ih =>
   intro hk hnd
   obtain ⟨hk1, hk2⟩ := List.nodup_cons.1 hnd
   rw [List.map_cons]
   refine List.nodup_cons.2 ⟨fun hm => ?_, ih (fun k hk' => hk k (List.mem_cons_of_mem _ hk')) hk2⟩
   obtain ⟨k', hk', e⟩ := List.mem_map.1 hm
   have := idx_inj h (hk k' (List.mem_cons_of_mem _ hk')) e
   subst this; exact hk1 hk'
 refine ⟨hmapnd σ hlt hl.nd, fun i => ?_, fun j o hj e hee hbe => ?_⟩
 ·rw [hsz, List.mem_map]
  constructor
  ·rintro ⟨k, hk, rfl⟩
   rw [← h1]; exact List.idxOf_lt_length_iff.2 ((h2 k).2 (hlt k hk))
  ·intro hi
   have hi' : i < π.length := by omega
   refine ⟨π[i], (hl.all _).2 (by simpa using (h2 _).1 (List.getElem_mem hi')), h3.idxOf_getElem i hi'⟩
 ·have hj' : (permL ops π ext)[j]? = some o := by simpa using hj
  unfold permL at hj'
  rw [List.getElem?_map, Option.map_eq_some_iff] at hj'
  obtain ⟨i, hi, rfl⟩ := hj'
  have hil : i < ops.length := (h2 i).1 (List.mem_of_getElem? hi)
  have hji : π.idxOf i = j := by
   obtain ⟨hjl, e⟩ := List.getElem?_eq_some_iff.1 hi
   rw [← e]; exact h3.idxOf_getElem j hjl
  have ho : ops[i]? = some (ops[i]'hil) := List.getElem?_eq_getElem hil
  rw [ho] at hee
  simp only [Option.getD_some, reOp, reAft, List.mem_toArray, List.mem_append, List.mem_map, List.mem_filter] at hee
  unfold bef
  rw [← hji, idxOf_map h σ hlt hil]
  rcases hee with ⟨e0, he0, rfl⟩ | ⟨p, ⟨hp, hpi⟩, rfl⟩
  ·have hb0 : Region.binds .any e0 = true := by simpa [Region.binds] using hbe
   have hlt0 := hb i _ (by rw [List.getElem?_toArray]; exact ho) e0 (by simpa using he0) hb0
   simp only
   rw [idxOf_map h σ hlt (by omega)]
   exact hl.ord i _ (by rw [List.getElem?_toArray]; exact ho) e0 (by simpa using he0) hb0
  ·have hpe : p.2 = i := by simpa using hpi
   simp only
   rw [idxOf_map h σ hlt (he p hp).2, ← hpe]
   exact (he p hp).1
theorem wpOp_perm {P : Program} {Q : Exit → Act → World → Prop} (h : permOk ops.length π = true) {i : Nat} (hi : i < ops.length) {K : Act → World → Prop} {a : Act} {w : World}
  (hw : wpOp P (permL ops π ext).toArray Q (π.idxOf i) K a w) : wpOp P ops.toArray Q i K a w := by
 obtain ⟨h1, h2, h3⟩ := permOk_facts h
 have ho : ops[i]? = some (ops[i]'hi) := List.getElem?_eq_getElem hi
 generalize ops[i]'hi = o at ho
 have hy : ∀ g, yielded (permL ops π ext).toArray a.tmps (π.idxOf g) = yielded ops.toArray a.tmps g := by
  intro g
  unfold yielded
  rcases Nat.lt_or_ge g ops.length with hg | hg
  ·have hg' : ops[g]? = some (ops[g]'hg) := List.getElem?_eq_getElem hg
   simp only [List.getElem?_toArray, permL_get rfl h hg', hg', reOp, Option.bind_some]
  ·have e1 : ops[g]? = none := List.getElem?_eq_none hg
   have e2 : (permL ops π ext)[π.idxOf g]? = none := List.getElem?_eq_none (by
    have : g ∉ π := fun hm => by have := (h2 g).1 hm; omega
    rw [List.idxOf_eq_length this]; simp [permL])
   simp only [List.getElem?_toArray, e1, e2]
 have hwant : Region.wanted (reOp π ext i o) (yielded (permL ops π ext).toArray a.tmps) = Region.wanted o (yielded ops.toArray a.tmps) := by
  simp only [Region.wanted, reOp]
  cases o.guard with
  | none => rfl
  | some g => simp only [Option.map_some, hy]
 unfold wpOp at hw ⊢
 simp only [List.getElem?_toArray, permL_get rfl h ho, hwant] at hw
 simp only [List.getElem?_toArray, ho]
 exact hw
theorem wpOps_perm {P : Program} {Q : Exit → Act → World → Prop} (h : permOk ops.length π = true) : ∀ (σ : List Nat), (∀ k, k ∈ σ → k < ops.length) → ∀ (a : Act) (w : World), wpOps P (permL ops π ext).toArray Q (σ.map fun k => π.idxOf k) a w → wpOps P ops.toArray Q σ a w
 | [], _, a, w, hw => hw
 | i :: σ, hs, a, w, hw => by
  rw [List.map_cons, wpOps_cons] at hw
  rw [wpOps_cons]
  exact wpOp_perm h (hs i List.mem_cons_self) (wpOp_mono (fun a w => wpOps_perm h σ (fun k hk => hs k (List.mem_cons_of_mem _ hk)) a w) hw)
end
section
variable {P : Program} {nt : Nat} {tm : Tm} {mem : AMem}
def DX (P : Program) (nt : Nat) (ops : List Oper) (ext : List (Nat × Nat)) (tm : Tm) (mem : AMem) (K : Tm → AMem → Prop) : Prop :=
 ∀ ρ a w, Rep ρ nt tm mem a w → ∀ QQ : Exit → Act → World → Prop, (∀ ρ' tm' mem' a' w', Rep ρ' nt tm' mem' a' w' → Step mem ρ w mem' ρ' w' → a'.defers = a.defers → K tm' mem' → QQ .normal a' w') →
  ∀ σ, Lin ops.toArray σ → (∀ p, p ∈ ext → bef σ p.1 p.2) → wpOps P ops.toArray QQ σ a w
theorem DX.split {l : List Oper} {ext : List (Nat × Nat)} {K : Tm → AMem → Prop} (i j : Nat) (hn : i ≠ j ∧ i < l.length ∧ j < l.length) (h1 : DX P nt l ((i, j) :: ext) tm mem K) (h2 : DX P nt l ((j, i) :: ext) tm mem K) : DX P nt l ext tm mem K := by
 intro ρ a w hr QQ hQ σ hl he
 obtain ⟨hne, hi, hj⟩ := hn
 have hmi : i ∈ σ := (hl.all i).2 (by simpa using hi)
 have hmj : j ∈ σ := (hl.all j).2 (by simpa using hj)
 have hneq : σ.idxOf i ≠ σ.idxOf j := fun e => by
  have e1 := get_idxOf hmi
  have e2 := get_idxOf hmj
  rw [e, e2] at e1
  injection e1 with e1
  exact hne e1.symm
 rcases Nat.lt_or_ge (σ.idxOf i) (σ.idxOf j) with h | h
 ·exact h1 ρ a w hr QQ hQ σ hl fun p hp => by
   rcases List.mem_cons.1 hp with rfl | hp
   ·exact h
   ·exact he p hp
 ·exact h2 ρ a w hr QQ hQ σ hl fun p hp => by
   rcases List.mem_cons.1 hp with rfl | hp
   ·unfold bef; simp only; omega
   ·exact he p hp
def dxOk (nt : Nat) (l : List Oper) (π : List Nat) (ext : List (Nat × Nat)) (l' : List Oper) (pl : List Plan) : Bool :=
 permOk l.length π && backB l && ext.all (fun p => decide (p.1 < l.length)) && decide (pl.length = l'.length) && planOk nt (l'.zip pl)
theorem DX.run {l l' : List Oper} {ext : List (Nat × Nat)} {K : Tm → AMem → Prop} (π : List Nat) (pl : List Plan) (hl' : permL l π ext = l') (hok : dxOk nt l π ext l' pl = true)
  (h : AOpsD P l'.toArray (l'.zip pl) tm mem [mem] [] K) : DX P nt l ext tm mem K := by
 intro ρ a w hr QQ hQ σ hl he
 subst hl'
 simp only [dxOk, Bool.and_eq_true, List.all_eq_true, decide_eq_true_eq] at hok
 obtain ⟨⟨⟨⟨h1, h2⟩, h3⟩, h4⟩, h5⟩ := hok
 have hlt : ∀ k, k ∈ σ → k < l.length := fun k hk => by simpa using (hl.all k).1 hk
 refine wpOps_perm (ext := ext) h1 σ hlt a w ?_
 have hlin := hl.perm h1 (fun p hp => ⟨he p hp, h3 p hp⟩) (backB_ok h2)
 have he' : (permL l π ext).toArray = opsOf ((permL l π ext).zip pl) := by
  unfold opsOf
  rw [show (fun x : Oper × Plan => x.1) = Prod.fst from rfl, List.map_fst_zip (by omega)]
 have hs := aopsD_sound (P := P) h5 (by rw [he'] at h; exact h) hr (Q := QQ) hQ
 rw [← he'] at hs
 refine wpAny_lin hlin (σ.map fun k => π.idxOf k) [] _ _ a w rfl (by simp) (fun k hk => ?_) ?_ hs
 ·simp only [Array.getD_eq_getD_getElem?, Array.getElem?_replicate]
  rw [if_pos hk]; rfl
 ·have hperm : ∀ (n : Nat) (τ : List Nat), τ.Nodup → (∀ k, k ∈ τ → k < n) → τ.length ≤ n := by
   intro n
   induction n with
   | zero => intro τ _ hk; cases τ with
    | nil => simp
    | cons x τ => exact absurd (hk x List.mem_cons_self) (by omega)
   | succ n ih =>
    intro τ hnd hk
    have h6 : (τ.erase n).length ≤ n := ih _ (hnd.erase n) fun k hk' => by
     have hkm := List.mem_of_mem_erase hk'
     have := hk k hkm
     have : k ≠ n := fun e => by subst e; exact (List.Nodup.not_mem_erase hnd) hk'
     omega
    have := List.length_erase (a := n) (l := τ)
    split at this <;> omega
  exact hperm _ _ hlin.nd fun k hk => (hlin.all k).1 hk
end
section
variable {P : Program} {nt : Nat} {tm : Tm} {mem : AMem} {Q : Exit → Tm → AMem → Prop}
end
section
variable (P : Program) (call : Caller) (pls : Nat → List Plan) (nt L : Nat) (jump : Code → Tm → AMem → Option (Exit × Tm × AMem))
end
section
variable {P : Program} {call : Caller} {pls : Nat → List Plan} {nt L : Nat}
end
end Go.Eng
set_option maxRecDepth 100000
set_option maxHeartbeats 4000000
namespace Go.Proofs.YtdeacicnfglhdaaGreatDoor
open Go Go.Eng
def il : Nat → (Nat → Int) → List CV
 | 0, _ => []
 | n + 1, f => il n f ++ [.int .i64 (f n)]
theorem il_len : ∀ (n : Nat) (f : Nat → Int), (il n f).length = n
 | 0, _ => rfl
 | n + 1, f => by simp only [il, List.length_append, il_len n f, List.length_cons, List.length_nil]
theorem il_get : ∀ {n : Nat} {f : Nat → Int} {i : Nat}, i < n → (il n f)[i]? = some (.int .i64 (f i))
 | n + 1, f, i, hi => by
  simp only [il]
  rcases Nat.lt_or_ge i n with h | h
  ·rw [List.getElem?_append_left (by rw [il_len]; omega)]; exact il_get h
  ·have e : i = n := by omega
   subst e
   rw [List.getElem?_append_right (by rw [il_len]; omega), il_len, Nat.sub_self]; rfl
theorem il_vals : ∀ (n : Nat) (f : Nat → Int), (il n f).all CV.isVal = true
 | 0, _ => rfl
 | n + 1, f => by simp only [il, List.all_append, il_vals n f, List.all_cons, List.all_nil, CV.isVal]; rfl
theorem il_below : ∀ (L n : Nat) (f : Nat → Int), (il n f).all (CV.below L) = true
 | _, 0, _ => rfl
 | L, n + 1, f => by simp only [il, List.all_append, il_below L n f, List.all_cons, List.all_nil, CV.below]; rfl
theorem ext_get {α : Type} {a b : List α} (h : ∀ i : Nat, a[i]? = b[i]?) : a = b := List.ext_getElem? h
theorem il_of {cells : List CV} {n : Nat} {f : Nat → Int} (hl : cells.length = n) (h : ∀ i, i < n → cells[i]? = some (.int .i64 (f i))) : cells = il n f := by
 refine ext_get fun j => ?_
 rcases Nat.lt_or_ge j n with hj | hj
 ·rw [h j hj, il_get hj]
 ·rw [List.getElem?_eq_none (by omega), List.getElem?_eq_none (by rw [il_len]; omega)]
theorem il_congr {n : Nat} {f g : Nat → Int} (h : ∀ i, i < n → f i = g i) : il n f = il n g := il_of (il_len n f) fun i hi => by rw [il_get hi, h i hi]
def bl : Nat → (Nat → Bool) → List CV
 | 0, _ => []
 | n + 1, f => bl n f ++ [.bool (f n)]
theorem bl_len : ∀ (n : Nat) (f : Nat → Bool), (bl n f).length = n
 | 0, _ => rfl
 | n + 1, f => by simp only [bl, List.length_append, bl_len n f, List.length_cons, List.length_nil]
theorem bl_get : ∀ {n : Nat} {f : Nat → Bool} {i : Nat}, i < n → (bl n f)[i]? = some (.bool (f i))
 | n + 1, f, i, hi => by
  simp only [bl]
  rcases Nat.lt_or_ge i n with h | h
  ·rw [List.getElem?_append_left (by rw [bl_len]; omega)]; exact bl_get h
  ·have e : i = n := by omega
   subst e
   rw [List.getElem?_append_right (by rw [bl_len]; omega), bl_len, Nat.sub_self]; rfl
theorem bl_of {cells : List CV} {n : Nat} {f : Nat → Bool} (hl : cells.length = n) (h : ∀ i, i < n → cells[i]? = some (.bool (f i))) : cells = bl n f := by
 refine ext_get fun j => ?_
 rcases Nat.lt_or_ge j n with hj | hj
 ·rw [h j hj, bl_get hj]
 ·rw [List.getElem?_eq_none (by omega), List.getElem?_eq_none (by rw [bl_len]; omega)]
theorem bl_below (L n : Nat) (f : Nat → Bool) : (bl n f).all (CV.below L) = true := by
 refine List.all_eq_true.2 fun c hc => ?_
 obtain ⟨i, hi⟩ := List.getElem?_of_mem hc
 have hlt := (List.getElem?_eq_some_iff.1 hi).1
 rw [bl_len] at hlt
 rw [bl_get hlt] at hi
 injection hi with hi; subst hi; rfl
def updB (f : Nat → Bool) (j : Nat) (b : Bool) : Nat → Bool := fun i => if i = j then b else f i
theorem bl_set {n : Nat} {f : Nat → Bool} {j : Nat} {b : Bool} : (bl n f).set j (.bool b) = bl n (updB f j b) := by
 refine bl_of (by rw [List.length_set, bl_len]) fun i hi => ?_
 rw [List.getElem?_set]
 by_cases e : j = i
 ·subst e; rw [if_pos rfl, if_pos (by rw [bl_len]; exact hi)]; simp [updB]
 ·rw [if_neg e, bl_get hi]; simp only [updB]; rw [if_neg (fun h => e h.symm)]
def rl : Nat → (Nat → Nat) → (Nat → Nat) → (Nat → Nat) → List CV
 | 0, _, _, _ => []
 | n + 1, r, vv, ln => rl n r vv ln ++ [.sl (r n) (vv n) 0 (ln n)]
structure IntsAt (m : AMem) (r v n : Nat) (f : Nat → Int) : Prop where
 hb : ∃ k ez, m[r]? = some ⟨k, 3, v, ez, il n f⟩
structure BoolsAt (m : AMem) (r v n : Nat) (f : Nat → Bool) : Prop where
 hb : ∃ k ez, m[r]? = some ⟨k, 4, v, ez, bl n f⟩
structure RowsAt (m : AMem) (r vp n : Nat) (ln : Nat → Nat) (q : Nat → Nat → Int) : Prop where
 hb : ∃ k ez rr vv, m[r]? = some ⟨k, 27, vp, ez, rl n rr vv ln⟩ ∧ ∀ i, i < n → IntsAt m (rr i) (vv i) (ln i) (q i)
theorem IntsAt.mono {m : AMem} {r v n : Nat} {f : Nat → Int} (h : IntsAt m r v n f) (x : AMem) : IntsAt (m ++ x) r v n f := by
 obtain ⟨k, ez, hb⟩ := h.hb; exact ⟨k, ez, lk_old hb x⟩
theorem BoolsAt.mono {m : AMem} {r v n : Nat} {f : Nat → Bool} (h : BoolsAt m r v n f) (x : AMem) : BoolsAt (m ++ x) r v n f := by
 obtain ⟨k, ez, hb⟩ := h.hb; exact ⟨k, ez, lk_old hb x⟩
theorem RowsAt.mono {m : AMem} {r vp n : Nat} {ln : Nat → Nat} {q : Nat → Nat → Int} (h : RowsAt m r vp n ln q) (x : AMem) : RowsAt (m ++ x) r vp n ln q := by
 obtain ⟨k, ez, rr, vv, hb, hr⟩ := h.hb; exact ⟨k, ez, rr, vv, lk_old hb x, fun i hi => (hr i hi).mono x⟩
end Go.Proofs.YtdeacicnfglhdaaGreatDoor
namespace Go.Eng
section
variable {α : Type} (key : α → Int)
def swF (f : Nat → α) (i j : Nat) : Nat → α := fun x => if x = i then f j else if x = j then f i else f x
def PermOn (a b : Nat) (f g : Nat → α) : Prop := ∃ s t : Nat → Nat, (∀ x, s (t x) = x) ∧ (∀ x, t (s x) = x) ∧ (∀ x, ¬ (a ≤ x ∧ x < b) → s x = x) ∧ ∀ x, g x = f (s x)
theorem PermOn.refl (a b : Nat) (f : Nat → α) : PermOn a b f f := ⟨id, id, fun _ => rfl, fun _ => rfl, fun _ _ => rfl, fun _ => rfl⟩
variable {a b : Nat} {f g h : Nat → α}
theorem PermOn.trans : PermOn a b f g → PermOn a b g h → PermOn a b f h
 | ⟨s, t, h1, h2, h3, h4⟩, ⟨s', t', g1, g2, g3, g4⟩ => ⟨fun x => s (s' x), fun x => t' (t x), fun x => by show s (s' (t' (t x))) = x; rw [g1, h1], fun x => by show t' (t (s (s' x))) = x; rw [h2, g2], fun x hx => by show s (s' x) = x; rw [g3 x hx, h3 x hx], fun x => by rw [g4, h4]⟩
theorem PermOn.wide {a' b' : Nat} (ha : a' ≤ a) (hb : b ≤ b') : PermOn a b f g → PermOn a' b' f g
 | ⟨s, t, h1, h2, h3, h4⟩ => ⟨s, t, h1, h2, fun x hx => h3 x (by omega), h4⟩
theorem PermOn.out (h : PermOn a b f g) {x : Nat} (hx : ¬ (a ≤ x ∧ x < b)) : g x = f x := by
 obtain ⟨s, t, h1, h2, h3, h4⟩ := h
 rw [h4, h3 x hx]
theorem PermOn.src (h : PermOn a b f g) {x : Nat} (hx : a ≤ x ∧ x < b) : ∃ y, a ≤ y ∧ y < b ∧ g x = f y := by
 obtain ⟨s, t, h1, h2, h3, h4⟩ := h
 refine Classical.byContradiction fun hn => hn ⟨s x, ?_⟩
 have key : a ≤ s x ∧ s x < b := Classical.byContradiction fun hc => by
  have e1 := h3 _ hc
  have e2 := congrArg t e1
  rw [h2, h2] at e2
  exact hc (by rw [e2]; exact hx)
 exact ⟨key.1, key.2, h4 x⟩
theorem PermOn.dst (h : PermOn a b f g) {y : Nat} (hy : a ≤ y ∧ y < b) : ∃ x, a ≤ x ∧ x < b ∧ g x = f y := by
 obtain ⟨s, t, h1, h2, h3, h4⟩ := h
 have key : a ≤ t y ∧ t y < b := Classical.byContradiction fun hc => by
  have e1 := h3 _ hc
  rw [h1] at e1
  exact hc (by rw [← e1]; exact hy)
 exact ⟨t y, key.1, key.2, by rw [h4, h1]⟩
theorem PermOn.swap {i j : Nat} (hi : a ≤ i ∧ i < b) (hj : a ≤ j ∧ j < b) : PermOn a b f (swF f i j) := by
 refine ⟨fun x => if x = i then j else if x = j then i else x, fun x => if x = i then j else if x = j then i else x, fun x => ?_, fun x => ?_, fun x hx => ?_, fun x => ?_⟩
 ·dsimp only; repeat' split
  all_goals omega
 ·dsimp only; repeat' split
  all_goals omega
 ·dsimp only
  rw [if_neg (by omega), if_neg (by omega)]
 ·dsimp only [swF]; repeat' split
  all_goals rfl
def KSrt (f : Nat → α) (a b : Nat) : Prop := ∀ i j, a ≤ i → i < j → j < b → key (f i) ≤ key (f j)
theorem KSrt.le (h : KSrt key f a b) {i j : Nat} (h1 : a ≤ i) (h2 : i ≤ j) (h3 : j < b) : key (f i) ≤ key (f j) := by
 rcases Nat.lt_or_ge i j with h4 | h4
 ·exact h i j h1 h4 h3
 ·rw [show i = j by omega]; exact Int.le_refl _
theorem KSrt.congr (h : KSrt key f a b) (hg : ∀ x, a ≤ x → x < b → g x = f x) : KSrt key g a b := fun i j h1 h2 h3 => by rw [hg i h1 (by omega), hg j (by omega) h3]; exact h i j h1 h2 h3
def sink (a : Nat) : Nat → (Nat → α) → (Nat → α)
 | 0, f => f
 | j + 1, f => if a < j + 1 ∧ key (f (j + 1)) < key (f j) then sink a j (swF f (j + 1) j) else f
theorem sink_srt (a : Nat) : ∀ (j : Nat) (f : Nat → α) (e : Nat), a ≤ j → j < e → (∀ x y, a ≤ x → x < y → y < e → x ≠ j → y ≠ j → key (f x) ≤ key (f y)) → (∀ y, j < y → y < e → key (f j) ≤ key (f y)) → KSrt key (sink key a j f) a e
 | 0, f, e, h1, h2, h3, h4 => fun x y h5 h6 h7 => by
  rcases Nat.eq_zero_or_pos x with h8 | h8
  ·subst h8; exact h4 y h6 h7
  ·exact h3 x y h5 h6 h7 (by omega) (by omega)
 | j + 1, f, e, h1, h2, h3, h4 => by
  unfold sink
  split
  ·rename_i hc
   refine sink_srt a j _ e (by omega) (by omega) (fun x y h5 h6 h7 h8 h9 => ?_) (fun y h5 h6 => ?_)
   ·unfold swF
    rw [if_neg h8, if_neg h9]
    by_cases hx : x = j + 1
    ·rw [if_pos hx, if_neg (by omega)]
     exact h3 j y (by omega) (by omega) h7 (by omega) (by omega)
    ·rw [if_neg hx]
     by_cases hy : y = j + 1
     ·rw [if_pos hy]
      exact h3 x j h5 (by omega) (by omega) hx (by omega)
     ·rw [if_neg hy]
      exact h3 x y h5 h6 h7 hx hy
   ·unfold swF
    rw [if_neg (show ¬ j = j + 1 by omega), if_pos rfl, if_neg (show ¬ y = j by omega)]
    by_cases hy : y = j + 1
    ·rw [if_pos hy]; omega
    ·rw [if_neg hy]; exact h4 y (by omega) h6
  ·rename_i hc
   intro x y h5 h6 h7
   by_cases hx : x = j + 1
   ·subst hx; exact h4 y h6 h7
   ·by_cases hy : y = j + 1
    ·subst hy
     have h8 : ¬ key (f (j + 1)) < key (f j) := fun h9 => hc ⟨by omega, h9⟩
     rcases Nat.lt_or_ge x j with h9 | h9
     ·have := h3 x j h5 h9 (by omega) hx (by omega)
      omega
     ·rw [show x = j by omega]; omega
    ·exact h3 x y h5 h6 h7 hx hy
theorem sink_perm (a : Nat) : ∀ (j : Nat) (f : Nat → α) (e : Nat), a ≤ j → j < e → PermOn a e f (sink key a j f)
 | 0, f, e, _, _ => PermOn.refl a e f
 | j + 1, f, e, h1, h2 => by
  unfold sink
  split
  ·exact (PermOn.swap ⟨h1, h2⟩ ⟨by omega, by omega⟩).trans (sink_perm a j _ e (by omega) (by omega))
  ·exact PermOn.refl a e f
def insS (a : Nat) : Nat → (Nat → α) → (Nat → α)
 | 0, f => f
 | k + 1, f => sink key a (a + k + 1) (insS a k f)
theorem insS_srt (a : Nat) (f : Nat → α) : ∀ k, KSrt key (insS key a k f) a (a + k + 1)
 | 0 => fun x y h1 h2 h3 => by omega
 | k + 1 => sink_srt key a (a + k + 1) _ _ (by omega) (by omega) (fun x y h1 h2 h3 h4 h5 => insS_srt a f k x y h1 h2 (by omega)) (fun y h1 h2 => by omega)
theorem insS_perm (a : Nat) (f : Nat → α) : ∀ k, PermOn a (a + k + 1) f (insS key a k f)
 | 0 => PermOn.refl _ _ _
 | k + 1 => ((insS_perm a f k).wide (by omega) (by omega)).trans (sink_perm key a (a + k + 1) _ _ (by omega) (by omega))
def KBlk (f : Nat → α) (w lo n : Nat) : Prop := ∀ i j, lo ≤ i → i < j → j < n → i / w = j / w → key (f i) ≤ key (f j)
theorem KBlk.at {w lo n k c d : Nat} (hw : 0 < w) (h : KBlk key f w lo n) (hlo : lo ≤ c) (hc : c = k * w) (hd : d ≤ c + w) (hn : d ≤ n) : KSrt key f c d := fun i j h1 h2 h3 => by
 refine h i j (by omega) h2 (by omega) ?_
 have e1 : i / w = k := Nat.div_eq_of_lt_le (by omega) (by rw [Nat.succ_mul]; omega)
 have e2 : j / w = k := Nat.div_eq_of_lt_le (by omega) (by rw [Nat.succ_mul]; omega)
 rw [e1, e2]
theorem KBlk.all {w n : Nat} (h : KBlk key f w 0 n) (hn : n ≤ w) : KSrt key f 0 n := fun i j h1 h2 h3 => h i j h1 h2 h3 (by rw [Nat.div_eq_of_lt (by omega), Nat.div_eq_of_lt (by omega)])
end
def catC : Nat → (Nat → List CV) → List CV
 | 0, _ => []
 | n + 1, F => catC n F ++ F n
section
variable {F G : Nat → List CV} {w n k : Nat}
theorem catC_len (h : ∀ i, (F i).length = w) : ∀ n, (catC n F).length = n * w
 | 0 => by simp [catC]
 | n + 1 => by rw [catC, List.length_append, catC_len h n, h n, Nat.succ_mul]
theorem catC_congr : ∀ {n : Nat}, (∀ k, k < n → F k = G k) → catC n F = catC n G
 | 0, _ => rfl
 | n + 1, h => by rw [catC, catC, catC_congr fun k hk => h k (by omega), h n (by omega)]
theorem catC_split (h : ∀ i, (F i).length = w) : ∀ {n k : Nat}, k < n → ∃ T, catC n F = catC k F ++ (F k ++ T) ∧ ∀ v : List CV, catC n (fun i => if i = k then v else F i) = catC k F ++ (v ++ T)
 | n + 1, k, hk => by
  rcases Nat.lt_or_ge k n with h1 | h1
  ·obtain ⟨T, h2, h3⟩ := catC_split h h1
   refine ⟨T ++ F n, by rw [catC, h2, List.append_assoc, List.append_assoc], fun v => ?_⟩
   rw [catC, h3 v, if_neg (show ¬ n = k by omega), List.append_assoc, List.append_assoc]
  ·have e : k = n := by omega
   subst e
   refine ⟨[], by simp [catC], fun v => ?_⟩
   simp only [catC, List.append_nil, if_true]
   rw [catC_congr (G := F) fun i hi => if_neg (by omega)]
theorem catC_at (h : ∀ i, (F i).length = w) (hk : k < n) : ((catC n F).drop (k * w)).take w = F k := by
 obtain ⟨T, h2, _⟩ := catC_split h hk
 rw [h2, List.drop_left' (catC_len h k), List.take_left' (h k)]
theorem catC_in (h : ∀ i, (F i).length = w) (hk : k < n) {a b : Nat} (hab : a + b ≤ w) : ((catC n F).drop (k * w + a)).take b = ((F k).drop a).take b := by
 have h1 := congrArg (fun l => (l.drop a).take b) (catC_at h hk)
 simp only [List.drop_take, List.drop_drop, List.take_take] at h1
 rwa [show min b (w - a) = b by omega] at h1
theorem catC_get (h : ∀ i, (F i).length = w) (hk : k < n) {a : Nat} (ha : a < w) : (catC n F)[k * w + a]? = (F k)[a]? := by
 obtain ⟨T, h2, _⟩ := catC_split h hk
 have hl := catC_len h k
 have hf := h k
 rw [h2, List.getElem?_append_right (by omega), hl, Nat.add_sub_cancel_left, List.getElem?_append_left (by omega)]
theorem catC_snoc (v : List CV) : catC n F ++ v = catC (n + 1) (fun i => if i = n then v else F i) := by
 rw [catC, if_pos rfl, catC_congr (G := F) fun i hi => if_neg (by omega)]
theorem catC_all (p : CV → Bool) (h : ∀ i, (F i).all p = true) : ∀ n, (catC n F).all p = true
 | 0 => rfl
 | n + 1 => by rw [catC, List.all_append, catC_all p h n, h n]; rfl
end
variable {P : Program} {nt : Nat} {tm : Tm} {mem : AMem}
variable {P : Program}
variable {nt : Nat} {tm : Tm} {mem : AMem}
variable {H : Type} {enc : TypeId × Value → H}
theorem returns_row_cond {a : Assume} {C : Checked} {os : Os} {f : FuncId} {fn : Func} {s : OpenSpec} {k : (H : Type) → List (DataW H) → Bool} (hk : s.cond = some k) {F : Stop.Interp} {conds : List PathCond} {apart fresh handsOn again : Bool} {laid : List (String × DataW Unit)}
  (own : ownKnob C.prog.godebug = none) (started : os.Started) (noInit : C.prog.inits.idxOf? f = none) (hfn : C.prog.funcs[f]? = some fn)
  (witness : ∃ (w : World) (tape : Tape) (i : Input), w.os = os ∧ (w.forCall tape i).Shaped C.prog ∧ i.vars = [] ∧ Input.okWide C.prog (w.forCall tape i) .any w.heap.size f i ∧
   s.preRow enc C.prog fn conds apart laid (w.forCall tape i).memory i.args ∧ a.holds C.prog (lone (Frame.enter C.prog f i.args .normal) [] (w.forCall tape i)))
  (contract : ∀ (W : World) (base : Nat) (args : Array Value) (ds gs : List (DataW H)) (before : List MemPlace),
   (∀ (j : Nat) t v, fn.params[j]? = some t → args[j]? = some v → Value.okWide C.prog W .any base t v) →
   DataW.Whole enc C.prog fn.params.toList s.vars apart W args.toList ds gs before → k H (ds ++ gs) = true →
   Calls C.prog f args W fun e W' => ∃ v, e = .returned v ∧ (s.at F).post enc C.prog fn apart fresh handsOn again W args v W') :
  ReturnsInHanded a C os f .any (s.preRow enc C.prog fn conds apart laid) ((s.at F).post enc C.prog fn apart fresh handsOn again) := by
 refine returnsInHanded_of_calls own started noInit witness ?_
 intro w tape i _ _ _ hok hpre hholds
 obtain ⟨_, _, _, fn', hfn', _, _, _, _, hval⟩ := hok
 have e : fn' = fn := Option.some.inj (hfn'.symm.trans hfn)
 subst e
 obtain ⟨ds, gs, before, hw, hc, hkk⟩ := (OpenSpec.pre_some hk conds apart _ _).1 hpre.1.1
 have hw' := DataW.Whole.of_heap (w' := w.forCall tape i) (by rfl) hw
 refine (contract (w.forCall tape i) w.heap.size i.args ds gs before hval hw' hkk).mono fun e W' ⟨v, he, hp⟩ => ?_
 subst he
 exact ChangeSpec.post_blind hp
theorem witness_row {C : Checked} {os : Os} {f : FuncId} {fn : Func} {s : OpenSpec} {k : (H : Type) → List (DataW H) → Bool} (hk : s.cond = some k) {conds : List PathCond} {apart : Bool} {laid : List (String × DataW Unit)} (modest : Bool) (w0 : World) (args : Array Value) (fuel : Nat) (hos : w0.os = os)
  (hsh : (w0.forCall (fun _ _ => 0) ⟨#[], args, []⟩).Shaped C.prog)
  (hok : Input.okWideB C.prog (w0.forCall (fun _ _ => 0) ⟨#[], args, []⟩) f ⟨#[], args, []⟩ = true)
  {x : List (DataW H) × List (DataW H) × List MemPlace} (hx : DataW.whole enc C.prog (w0.forCall (fun _ _ => 0) ⟨#[], args, []⟩).memory fn.params.toList s.vars apart args.toList fuel = some x)
  (hconds : conds.all (PathCond.test C.prog ⟨fn.params.toList, x.1, s.bare.plain.varTypes C.prog, x.2.1⟩) = true) (hkk : k H (x.1 ++ x.2.1) = true)
  (hl : laidMetH C.prog laid (w0.forCall (fun _ _ => 0) ⟨#[], args, []⟩).memory)
  (hsz : s.bare.sizedB enc C.prog fn apart (w0.forCall (fun _ _ => 0) ⟨#[], args, []⟩).memory args fuel = true := by kernel_rfl) :
  ∃ (w : World) (tape : Tape) (i : Input), w.os = os ∧ (w.forCall tape i).Shaped C.prog ∧ i.vars = [] ∧ Input.okWide C.prog (w.forCall tape i) .any w.heap.size f i ∧
   s.preRow enc C.prog fn conds apart laid (w.forCall tape i).memory i.args ∧ ({ modest := modest } : Assume).holds C.prog (lone (Frame.enter C.prog f i.args .normal) [] (w.forCall tape i)) :=
 ⟨w0, fun _ _ => 0, ⟨#[], args, []⟩, hos, hsh, (Input.okWide_of_okWideB (base := 0) hok).1, (Input.okWide_of_okWideB hok).2,
  ⟨⟨(OpenSpec.pre_some hk conds apart _ _).2 ⟨x.1, x.2.1, x.2.2, DataW.Whole_of_whole hx, hconds, hkk⟩, hl⟩, sizedMet_of_sizedB hsz⟩, by
  simp only [Assume.holds]
  exact ⟨by simp, by simp, fun _ => Modest.zero, by simp, by simp⟩⟩
variable {P : Program} {nt : Nat} {tm : Tm} {mem : AMem}
theorem RetP.dropM {m1 : AMem} {L : Nat} {rs : List ResultVar} {ret : AV} {extra : AMem} {ex : Exit} (hl : m1.length = L) (hex : ex = .normal ∨ ex = .ret) (hres : resA P rs tm (m1 ++ extra) = some ret) (hb : ret.below L = true) (hw : MWf L m1) :
  RetP P rs L ret m1 ex tm (m1 ++ extra) := by
 subst hl; exact RetP.drop hex hres hb hw
theorem RetP.dropM0 {m1 : AMem} {L : Nat} {rs : List ResultVar} {ret : AV} {ex : Exit} (hl : m1.length = L) (hex : ex = .normal ∨ ex = .ret) (hres : resA P rs tm m1 = some ret) (hb : ret.below L = true) (hw : MWf L m1) :
  RetP P rs L ret m1 ex tm m1 := by
 subst hl; exact RetP.drop0 hex hres hb hw
theorem AW.moveP {c : Code} {Q : Exit → Tm → AMem → Prop} (old new d n : Nat) {b e : Blk} (hb : mem[old]? = some b) (hbk : b.kind = .grow) (he : mem[new]? = some e) (hek : e.kind = .grow) (hne : old ≠ new) (hd : Tm.get tm d = .one (.sl new e.ver 0 n))
  (h : ∀ ρ2 a w, ρ2 old (b.ver + 1) = ρ2 new e.ver → Rep ρ2 nt ((d, .one (.sl old (b.ver + 1) 0 n)) :: tm) ((mem.set old ⟨.grow, e.ty, b.ver + 1, e.esz, e.cells⟩).set new ⟨.grow, e.ty, e.ver + 1, e.esz, []⟩) a w →
   c.wp P (fun ex a' w' => ∃ ρ' tm' mem', Rep ρ' nt tm' mem' a' w' ∧ Step ((mem.set old ⟨.grow, e.ty, b.ver + 1, e.esz, e.cells⟩).set new ⟨.grow, e.ty, e.ver + 1, e.esz, []⟩) ρ2 w mem' ρ' w' ∧ a'.defers = a.defers ∧ Q ex tm' mem') a w) : AW P nt c tm mem Q := by
 intro ρ a w hr
 have hol := (List.getElem?_eq_some_iff.1 hb).1
 have hnl := (List.getElem?_eq_some_iff.1 he).1
 obtain ⟨x0, hx0⟩ : ∃ x, ρ new e.ver = some x := by
  have h1 := hr.tm d
  rw [hd] at h1
  obtain ⟨A, c0, B, cc, h2, _⟩ := h1
  exact ⟨_, h2⟩
 have hle1 : ρ.le (ρ.set old (b.ver + 1) x0) := Env.le_set (hr.mem.domv old b _ hb (by omega))
 have hle2 : (ρ.set old (b.ver + 1) x0).le ((ρ.set old (b.ver + 1) x0).set new (e.ver + 1) (none, 0)) := Env.le_set (by
  rw [Env.set_other ρ _ (fun hc => hne hc.1.symm)]; exact hr.mem.domv new e _ he (by omega))
 have hle : ρ.le ((ρ.set old (b.ver + 1) x0).set new (e.ver + 1) (none, 0)) := fun r v x hx => hle2 r v x (hle1 r v x hx)
 generalize hρ : (ρ.set old (b.ver + 1) x0).set new (e.ver + 1) (none, 0) = ρ2 at *
 have eo : ρ2 old (b.ver + 1) = some x0 := by rw [← hρ, Env.set_other _ _ (fun hc => hne hc.1), Env.set_same]
 have en : ρ2 new (e.ver + 1) = some (none, 0) := by rw [← hρ, Env.set_same]
 have eq : ∀ r v, r ≠ old → r ≠ new → ρ2 r v = ρ r v := fun r v h1 h2 => by rw [← hρ, Env.set_other _ _ (fun hc => h2 hc.1), Env.set_other _ _ (fun hc => h1 hc.1)]
 have hgt : ∀ {s : Nat} {q : Blk}, ((mem.set old ⟨.grow, e.ty, b.ver + 1, e.esz, e.cells⟩).set new ⟨.grow, e.ty, e.ver + 1, e.esz, []⟩)[s]? = some q →
   (s ≠ old ∧ s ≠ new ∧ mem[s]? = some q) ∨ (s = old ∧ q = ⟨.grow, e.ty, b.ver + 1, e.esz, e.cells⟩) ∨ (s = new ∧ q = ⟨.grow, e.ty, e.ver + 1, e.esz, []⟩) := by
  intro s q hq
  by_cases h1 : s = new
  ·subst h1; rw [List.getElem?_set_self (by simpa using hnl)] at hq; injection hq with hq; exact .inr (.inr ⟨rfl, hq.symm⟩)
  ·rw [List.getElem?_set_ne (fun h => h1 h.symm)] at hq
   by_cases h2 : s = old
   ·subst h2; rw [List.getElem?_set_self hol] at hq; injection hq with hq; exact .inr (.inl ⟨rfl, hq.symm⟩)
   ·rw [List.getElem?_set_ne (fun h => h2 h.symm)] at hq; exact .inl ⟨h2, h1, hq⟩
 have hblk : BlkR ρ2 w old ⟨.grow, e.ty, b.ver + 1, e.esz, e.cells⟩ := by
  have h1 := hr.mem.blk new e he
  obtain ⟨kind, ty, ver, esz, cells⟩ := e
  simp only at hek; subst hek
  rcases h1 with ⟨q1, q2⟩ | ⟨q, c1, cap, xs, sp, q1, q2, q3, q4, q5, q6⟩
  ·refine .inl ⟨q1, ?_⟩
   rw [eo, ← hx0]; exact q2
  ·refine .inr ⟨q, c1, cap, xs, sp, ?_, q2, q3, q4, q5, q6.mono fun _ _ => VC.mono hle⟩
   rw [eo, ← hx0]; exact q1
 have hsrc : ∀ {s : Nat} {q : Blk} {x : Addr} {k : Nat}, ((mem.set old ⟨.grow, e.ty, b.ver + 1, e.esz, e.cells⟩).set new ⟨.grow, e.ty, e.ver + 1, e.esz, []⟩)[s]? = some q → ρ2 s q.ver = some (some x, k) →
   ∃ s0 q0, mem[s0]? = some q0 ∧ ρ s0 q0.ver = some (some x, k) ∧ q0.kind = q.kind ∧ (s0 = s ∧ q0 = q ∨ s = old ∧ s0 = new) ∧ s ≠ new := by
  intro s q x k hq hx
  rcases hgt hq with ⟨h1, h2, h3⟩ | ⟨rfl, rfl⟩ | ⟨rfl, rfl⟩
  ·rw [eq s _ h1 h2] at hx; exact ⟨s, q, h3, hx, rfl, .inl ⟨rfl, rfl⟩, h2⟩
  ·simp only at hx; rw [eo, ← hx0] at hx; exact ⟨new, e, he, hx, hek, .inr ⟨rfl, rfl⟩, hne⟩
  ·simp only at hx; rw [en] at hx; injection hx with hx; injection hx with hx _; cases hx
 have hm : RepM ρ2 ((mem.set old ⟨.grow, e.ty, b.ver + 1, e.esz, e.cells⟩).set new ⟨.grow, e.ty, e.ver + 1, e.esz, []⟩) w := by
  refine ⟨fun s q hq => ?_, fun s v hs => ?_, fun s q v hq hv => ?_, fun s t q u hq hu hst hqk huk x y i j hx hy => ?_⟩
  ·rcases hgt hq with ⟨_, _, h3⟩ | ⟨rfl, rfl⟩ | ⟨rfl, rfl⟩
   ·exact (hr.mem.blk s q h3).mono hle
   ·exact hblk
   ·exact .inl ⟨rfl, en⟩
  ·simp only [List.length_set] at hs
   rw [eq s v (by omega) (by omega)]; exact hr.mem.dom s v hs
  ·rcases hgt hq with ⟨h1, h2, h3⟩ | ⟨rfl, rfl⟩ | ⟨rfl, rfl⟩
   ·rw [eq s v h1 h2]; exact hr.mem.domv s q v h3 hv
   ·simp only at hv
    rw [← hρ, Env.set_other _ _ (fun hc => hne hc.1), Env.set_other _ _ (fun hc => by omega)]
    exact hr.mem.domv _ b v hb (by omega)
   ·simp only at hv
    rw [← hρ, Env.set_other _ _ (fun hc => by omega), Env.set_other _ _ (fun hc => hne hc.1.symm)]
    exact hr.mem.domv _ e v he (by omega)
  ·obtain ⟨s0, q0, g1, g2, g3, g4, g5⟩ := hsrc hq hx
   obtain ⟨t0, u0, f1, f2, f3, f4, f5⟩ := hsrc hu hy
   refine hr.mem.sep s0 t0 q0 u0 g1 f1 ?_ (by rw [g3]; exact hqk) (fun hro => ?_) x y i j g2 f2
   ·rcases g4 with ⟨rfl, _⟩ | ⟨rfl, rfl⟩ <;> rcases f4 with ⟨rfl, _⟩ | ⟨rfl, rfl⟩
    ·exact hst
    ·exact g5
    ·exact fun h => f5 h.symm
    ·exact absurd rfl hst
   ·rcases f4 with ⟨_, rfl⟩ | ⟨_, rfl⟩
    ·exact huk hro
    ·rw [he] at f1; injection f1 with f1; subst f1; rw [hek] at hro; cases hro
 refine wp_mono (h ρ2 a w (by rw [eo]; exact (hle new e.ver x0 hx0).symm) ⟨hr.size, fun i => ?_, hm⟩) ?_
 ·rw [Tm.get_put]
  split
  ·rename_i hi
   subst hi
   have h1 := hr.tm i
   rw [hd] at h1
   obtain ⟨A, c0, B, cc, h2, h3, h4, h5, h6⟩ := h1
   exact ⟨A, c0, B, cc, by rw [eo, ← hx0]; exact h2, h3, h4, h5, h6⟩
  ·exact (hr.tm i).mono hle
 ·rintro ee a' w' ⟨ρ3, tm2, mem2, hr2, hs2, hdd, hq⟩
  refine ⟨ρ3, tm2, mem2, hr2, ?_, hdd, hq⟩
  refine ⟨hs2.os, hs2.tape, hs2.output, hs2.size, by have := hs2.len; simpa using this, fun s hs v x hx => hs2.ext s (by simpa using hs) v x (hle s v x hx), fun s q q' h1 h2 => ?_, fun s q' h1 h2 => ?_, fun n1 hn hn2 => ?_, fun s q' x i h1 h2 h3 => ?_⟩
  ·by_cases e1 : s = new
   ·subst e1
    rw [he] at h1; injection h1 with h1; subst h1
    rw [hek]; exact hs2.kind s ⟨.grow, e.ty, e.ver + 1, e.esz, []⟩ q' (List.getElem?_set_self (by simpa using hnl)) h2
   ·by_cases e2 : s = old
    ·subst e2
     rw [hb] at h1; injection h1 with h1; subst h1
     rw [hbk]; exact hs2.kind s ⟨.grow, e.ty, b.ver + 1, e.esz, e.cells⟩ q' (by rw [List.getElem?_set_ne (fun h => e1 h.symm)]; exact List.getElem?_set_self hol) h2
    ·exact hs2.kind s q q' (by rw [List.getElem?_set_ne (fun h => e1 h.symm), List.getElem?_set_ne (fun h => e2 h.symm)]; exact h1) h2
  ·have := hs2.ro s q' h1 h2
   rcases hgt this with ⟨_, _, h3⟩ | ⟨_, rfl⟩ | ⟨_, rfl⟩
   ·exact h3
   ·cases h2
   ·cases h2
  ·refine hs2.frame n1 hn fun s q x i h1 h2 h3 => ?_
   obtain ⟨s0, q0, g1, g2, g3, _, _⟩ := hsrc h1 h3
   exact hn2 s0 q0 x i g1 (by rw [g3]; exact h2) g2
  ·rcases hs2.fresh s q' x i h1 h2 h3 with h | ⟨t, q, y, l, g1, g2, g3, g4⟩
   ·exact .inl h
   ·obtain ⟨s0, q0, f1, f2, f3, _, _⟩ := hsrc g1 g3
    exact .inr ⟨s0, q0, y, l, f1, by rw [f3]; exact g2, f2, g4⟩
theorem AW.move {c : Code} {Q : Exit → Tm → AMem → Prop} (old new d n : Nat) {b e : Blk} (hb : mem[old]? = some b) (hbk : b.kind = .grow) (he : mem[new]? = some e) (hek : e.kind = .grow) (hne : old ≠ new) (hd : Tm.get tm d = .one (.sl new e.ver 0 n))
  (h : AW P nt c ((d, .one (.sl old (b.ver + 1) 0 n)) :: tm) ((mem.set old ⟨.grow, e.ty, b.ver + 1, e.esz, e.cells⟩).set new ⟨.grow, e.ty, e.ver + 1, e.esz, []⟩) Q) : AW P nt c tm mem Q :=
 AW.moveP old new d n hb hbk he hek hne hd fun ρ2 a w _ hr => h ρ2 a w hr
variable {P : Program} {m m' : AMem}
variable {P : Program} {nt : Nat} {tm : Tm} {mem : AMem} {Q : Exit → Tm → AMem → Prop}
section
variable {P : Program} {nt : Nat} {tm : Tm} {mem : AMem} {Q : Exit → Tm → AMem → Prop}
end
end Go.Eng
namespace Go.Proofs.YtdeacicnfglhdaaGreatDoor
open Go Go.Eng
theorem wi {x : Int} (h : -9223372036854775808 ≤ x ∧ x ≤ 9223372036854775807) : IntKind.i64.wrap x = x := by rw [IntKind.wrap_i64]; omega
def c5C (x : Nat → Int) : List CV := [.int .i64 (x 0), .int .i64 (x 1), .int .i64 (x 2), .int .i64 (x 3), .int .i64 (x 4)]
def addF (x y : Nat → Int) : Nat → Int := fun j => x j + y j
def sumF (X : Nat → Nat → Int) : Nat → Nat → Int
 | 0 => fun _ => 0
 | n + 1 => addF (sumF X n) (X n)
def c5R (ty v n : Nat) (X : Nat → Nat → Int) : Blk := ⟨.grow, ty, v, 5, catC n fun i => c5C (X i)⟩
def Sm (X : Nat → Nat → Int) : Prop := ∀ i j, 0 ≤ X i j ∧ X i j ≤ 10000000000
theorem sumF_b {X : Nat → Nat → Int} (h : Sm X) (j : Nat) : ∀ n, 0 ≤ sumF X n j ∧ sumF X n j ≤ 10000000000 * (n : Int)
 | 0 => ⟨Int.le_refl _, Int.le_refl _⟩
 | n + 1 => by
  have := sumF_b h j n
  have := h n j
  show 0 ≤ sumF X n j + X n j ∧ sumF X n j + X n j ≤ _
  omega
theorem catC5_len (X : Nat → Nat → Int) (n : Nat) : (catC n fun i => c5C (X i)).length = n * 5 := catC_len (w := 5) (F := fun i => c5C (X i)) (fun _ => rfl) n
theorem catC5_at {X : Nat → Nat → Int} {n k : Nat} (h : k < n) : ((catC n fun i => c5C (X i)).drop (k * 5)).take 5 = c5C (X k) := catC_at (w := 5) (F := fun i => c5C (X i)) (fun _ => rfl) h
theorem c5_below (L : Nat) (x : Nat → Int) : (c5C x).all (CV.below L) = true := rfl
theorem c5_vals (x : Nat → Int) : (c5C x).all CV.isVal = true := rfl
theorem c5R_below (L n : Nat) (X : Nat → Nat → Int) : (catC n fun i => c5C (X i)).all (CV.below L) = true := catC_all _ (fun i => c5_below L (X i)) n
theorem cadd_c (x y : Nat → Int) (m : AMem) (hx : ∀ j, 0 ≤ x j ∧ x j ≤ 1000000000000000) (hy : ∀ j, 0 ≤ y j ∧ y j ≤ 1000000000000000) : Ctr Tryz.prog 20 [.agg (c5C x), .agg (c5C y)] m (.agg (c5C (addF x y))) m := by
 refine Ctr.enter Tryz.func20 rfl (by decide) (rs := [.cell 4 34]) (nt := 31) rfl rfl fun hwf Q hQ => ?_
 have w := fun j => (show IntKind.i64.wrap (x j + y j) = x j + y j from wi (by have := hx j; have := hy j; omega))
 refine AW.sr 2 fun K hK => ?_
 simp only [push_cast, simprocAttr, c5C, addF, w]
 apply hK;clear hK K
 refine AW.ret ?_
 refine hQ _ _ _ ?_
 first | refine RetP.drop0 (Or.inr rfl) ?_ ?_ hwf | refine RetP.drop (Or.inr rfl) ?_ ?_ hwf
 · simp only [resA, resOne, resTv, AV.tv, push_cast, simprocAttr, c5C, addF, w]
 · rfl
theorem radd_c (x y : Nat → Int) (m : AMem) (hx : ∀ j, 0 ≤ x j ∧ x j ≤ 1000000000000000) (hy : ∀ j, 0 ≤ y j ∧ y j ≤ 1000000000000000) : Ctr Tryz.prog 5 [.agg (c5C x), .agg (c5C y)] m (.agg (c5C (addF x y))) m := by
 refine Ctr.enter Tryz.func5 rfl (by decide) (rs := [.cell 4 29]) (nt := 20) rfl rfl fun hwf Q hQ => ?_
 have w := fun j => (show IntKind.i64.wrap (x j + y j) = x j + y j from wi (by have := hx j; have := hy j; omega))
 refine AW.sr 1 fun K hK => ?_
 simp only [push_cast, simprocAttr, c5C, addF, w]
 apply hK;clear hK K
 refine AW.seq_k fun K hK => ?_
 refine AW.sr 1 fun K hK => ?_
 simp only [push_cast, simprocAttr, c5C, addF, w]
 apply hK;clear hK K
 refine AW.block ?_
 refine AW.rounds 6 ?_
 iterate 5
  refine ARounds.succ fun K hK => ?_
  refine AW.seq_k fun K hK => ?_
  refine AW.sr 1 fun K hK => ?_
  simp only [push_cast, simprocAttr, c5C, addF, w]
  apply hK;clear hK K
  refine AW.cond_t rfl ?_
  refine AW.skip ?_
  apply hK;clear hK K
  refine AW.seq_k fun K hK => ?_
  refine AW.block ?_
  refine AW.draw [.val, .val, .val, .rd 0, .val, .val, .rd 0, .val, .val, .wr] fol (by decide) (by kernel_rfl) ?_
  simp only [push_cast, simprocAttr, c5C, addF, w]
  refine InB_n ?_
  apply hK;clear hK K
  refine AW.rg ?_
  simp only [push_cast, simprocAttr, c5C, addF, w]
  apply hK;clear hK K
 refine ARounds.succ fun K hK => ?_
 refine AW.seq_k fun K hK => ?_
 refine AW.sr 1 fun K hK => ?_
 simp only [push_cast, simprocAttr, c5C, addF, w]
 apply hK;clear hK K
 refine AW.cond_f rfl ?_
 refine AW.exit ?_
 refine Thn_e ?_
 clear hK K
 refine Thn_e ?_
 clear hK K
 refine InB_here ?_
 apply hK;clear hK K
 refine AW.sr 1 fun K hK => ?_
 simp only [push_cast, simprocAttr, c5C, addF, w]
 apply hK;clear hK K
 refine AW.ret ?_
 refine hQ _ _ _ ?_
 first | refine RetP.drop0 (Or.inr rfl) ?_ ?_ hwf | refine RetP.drop (Or.inr rfl) ?_ ?_ hwf
 · simp only [resA, resOne, resTv, AV.tv, push_cast, simprocAttr, c5C, addF, w]
 · rfl
theorem from_c (x : Nat → Int) (m : AMem) : Ctr Tryz.prog 7 [.agg (c5C x)] m (.agg (c5C x)) m := by
 refine Ctr.enter Tryz.func7 rfl (by decide) (rs := [.cell 2 29]) (nt := 14) rfl rfl fun hwf Q hQ => ?_
 refine AW.sr 2 fun K hK => ?_
 simp only [push_cast, simprocAttr, c5C]
 apply hK;clear hK K
 refine AW.ret ?_
 refine hQ _ _ _ ?_
 first | refine RetP.drop0 (Or.inr rfl) ?_ ?_ hwf | refine RetP.drop (Or.inr rfl) ?_ ?_ hwf
 · simp only [resA, resOne, resTv, AV.tv, push_cast, simprocAttr, c5C]
 · rfl
def slotsZ (x : Int) : Int := if x < 4 then 0 else min (x / 4) 512
theorem tdiv4 (x : Int) : x.tdiv 4 = if x < 0 then -((-x) / 4) else x / 4 := by
 split
 ·have e : (-(-x)).tdiv 4 = -((-x) / 4) := by rw [Int.neg_tdiv, Int.tdiv_eq_ediv_of_nonneg (by omega)]
  rwa [Int.neg_neg] at e
 ·exact Int.tdiv_eq_ediv_of_nonneg (by omega)
theorem slotsZ_eq (x : Int) (h1 : -9223372036854775808 ≤ x) (h2 : x ≤ 9223372036854775807) : maxI 0 (minI (IntKind.i64.wrap (x.tdiv 4)) 512) = slotsZ x := by
 have hd := tdiv4 x
 have h3 : IntKind.i64.wrap (x.tdiv 4) = x.tdiv 4 := wi (by rw [hd]; split <;> omega)
 rw [h3]
 unfold slotsZ maxI minI
 rw [hd]; (repeat' split) <;> omega
def fitsB (x : Nat → Int) (n : Int) : Bool := decide (x 3 ≤ slotsZ n) && decide (x 4 ≤ n - slotsZ n)
theorem slotsZ_b (x : Int) : 0 ≤ slotsZ x ∧ slotsZ x ≤ 512 := by unfold slotsZ; split <;> omega
theorem slots_c (x : Int) (m : AMem) (h1 : -9223372036854775808 ≤ x) (h2 : x ≤ 9223372036854775807) : Ctr Tryz.prog 40 [.one (.int .i64 x)] m (.one (.int .i64 (slotsZ x))) m := by
 refine Ctr.enter Tryz.func40 rfl (by decide) (rs := [.tmp 2]) (nt := 7) rfl rfl fun hwf Q hQ => ?_
 have e := slotsZ_eq x h1 h2
 refine AW.sr 2 fun K hK => ?_
 simp only [push_cast, simprocAttr, e]
 apply hK;clear hK K
 refine AW.ret ?_
 refine hQ _ _ _ ?_
 first | refine RetP.drop0 (Or.inr rfl) ?_ ?_ hwf | refine RetP.drop (Or.inr rfl) ?_ ?_ hwf
 · simp only [resA, resOne, resTv, AV.tv, push_cast, simprocAttr, e]
 · rfl
theorem rslots_c (x : Int) (m : AMem) (h1 : -9223372036854775808 ≤ x) (h2 : x ≤ 9223372036854775807) : Ctr Tryz.prog 41 [.one (.int .i64 x)] m (.one (.int .i64 (slotsZ x))) m := by
 refine Ctr.enter Tryz.func41 rfl (by decide) (rs := [.tmp 2]) (nt := 10) rfl rfl fun hwf Q hQ => ?_
 have hd := tdiv4 x
 obtain ⟨q, hq⟩ : ∃ q, q = x.tdiv 4 := ⟨_, rfl⟩
 have h3 : IntKind.i64.wrap q = q := wi (by rw [hq, hd]; split <;> omega)
 have hqs := hq.symm
 refine AW.sr 2 fun K hK => ?_
 simp only [push_cast, simprocAttr, hqs, h3]
 apply hK;clear hK K
 refine AW.seq_k fun K hK => ?_
 refine AW.sr 1 fun K hK => ?_
 simp only [push_cast, simprocAttr, hqs, h3]
 apply hK;clear hK K
 refine AW.cond rfl (fun h6 => ?_) (fun h6 => ?_)
 ·have e : slotsZ x = 0 := by have := of_decide_eq_true h6; unfold slotsZ; rw [← hq] at hd; (repeat' split at hd) <;> (repeat' split) <;> omega
  refine AW.sr 1 fun K hK => ?_
  simp only [push_cast, simprocAttr, hqs, h3, e]
  apply hK;clear hK K
  refine AW.ret ?_
  refine Thn_r ?_
  refine hQ _ _ _ ?_
  first | refine RetP.drop0 (Or.inr rfl) ?_ ?_ hwf | refine RetP.drop (Or.inr rfl) ?_ ?_ hwf
  · simp only [resA, resOne, resTv, AV.tv, push_cast, simprocAttr, hqs, h3, e]
  · rfl
 ·have g6 := of_decide_eq_false h6
  refine AW.skip ?_
  apply hK;clear hK K
  refine AW.seq_k fun K hK => ?_
  refine AW.sr 1 fun K hK => ?_
  simp only [push_cast, simprocAttr, hqs, h3]
  apply hK;clear hK K
  refine AW.cond rfl (fun h8 => ?_) (fun h8 => ?_)
  ·have e : slotsZ x = 512 := by have := of_decide_eq_true h8; unfold slotsZ; rw [← hq] at hd; (repeat' split at hd) <;> (repeat' split) <;> omega
   refine AW.sr 1 fun K hK => ?_
   simp only [push_cast, simprocAttr, hqs, h3, e]
   apply hK;clear hK K
   refine AW.ret ?_
   refine Thn_r ?_
   refine hQ _ _ _ ?_
   first | refine RetP.drop0 (Or.inr rfl) ?_ ?_ hwf | refine RetP.drop (Or.inr rfl) ?_ ?_ hwf
   · simp only [resA, resOne, resTv, AV.tv, push_cast, simprocAttr, hqs, h3, e]
   · rfl
  ·have e : slotsZ x = q := by have := of_decide_eq_false h8; unfold slotsZ; rw [← hq] at hd; (repeat' split at hd) <;> (repeat' split) <;> omega
   refine AW.skip ?_
   apply hK;clear hK K
   refine AW.sr 1 fun K hK => ?_
   simp only [push_cast, simprocAttr, hqs, h3, e]
   apply hK;clear hK K
   refine AW.ret ?_
   refine hQ _ _ _ ?_
   first | refine RetP.drop0 (Or.inr rfl) ?_ ?_ hwf | refine RetP.drop (Or.inr rfl) ?_ ?_ hwf
   · simp only [resA, resOne, resTv, AV.tv, push_cast, simprocAttr, hqs, h3, e]
   · rfl
theorem cfits_ct (x : Nat → Int) (n : Int) (m : AMem) (h1 : -9223372036854775808 ≤ n) (h2 : n ≤ 9223372036854775807) (q : x 3 ≤ slotsZ n) : Ctr Tryz.prog 21 [.agg (c5C x), .one (.int .i64 n)] m (.one (.bool (fitsB x n))) m := by
 refine Ctr.enter Tryz.func21 rfl (by decide) (rs := [.tmp 4]) (nt := 20) rfl rfl fun hwf Q hQ => ?_
 have w := (show IntKind.i64.wrap (n - slotsZ n) = n - slotsZ n from wi (by have := slotsZ_b n; have hz : n < 4 → slotsZ n = 0 := fun h => if_pos h; omega))
 refine AW.sr 3 fun K hK => ?_
 simp only [push_cast, simprocAttr, c5C, fitsB, w, q, decide_true, decide_false, Bool.true_and, Bool.false_and]
 refine CThen.by (slots_c n _ (by omega) (by omega)) ?_
 simp only [push_cast, simprocAttr, c5C, fitsB, w, q, decide_true, decide_false, Bool.true_and, Bool.false_and]
 apply hK;clear hK K
 refine AW.ret ?_
 refine hQ _ _ _ ?_
 first | refine RetP.drop0 (Or.inr rfl) ?_ ?_ hwf | refine RetP.drop (Or.inr rfl) ?_ ?_ hwf
 · simp only [resA, resOne, resTv, AV.tv, push_cast, simprocAttr, c5C, fitsB, w, q, decide_true, decide_false, Bool.true_and, Bool.false_and]
 · rfl
theorem cfits_cf (x : Nat → Int) (n : Int) (m : AMem) (h1 : -9223372036854775808 ≤ n) (h2 : n ≤ 9223372036854775807) (q : ¬ x 3 ≤ slotsZ n) : Ctr Tryz.prog 21 [.agg (c5C x), .one (.int .i64 n)] m (.one (.bool (fitsB x n))) m := by
 refine Ctr.enter Tryz.func21 rfl (by decide) (rs := [.tmp 4]) (nt := 20) rfl rfl fun hwf Q hQ => ?_
 have w := (show IntKind.i64.wrap (n - slotsZ n) = n - slotsZ n from wi (by have := slotsZ_b n; have hz : n < 4 → slotsZ n = 0 := fun h => if_pos h; omega))
 refine AW.sr 3 fun K hK => ?_
 simp only [push_cast, simprocAttr, c5C, fitsB, w, q, decide_true, decide_false, Bool.true_and, Bool.false_and]
 refine CThen.by (slots_c n _ (by omega) (by omega)) ?_
 simp only [push_cast, simprocAttr, c5C, fitsB, w, q, decide_true, decide_false, Bool.true_and, Bool.false_and]
 apply hK;clear hK K
 refine AW.ret ?_
 refine hQ _ _ _ ?_
 first | refine RetP.drop0 (Or.inr rfl) ?_ ?_ hwf | refine RetP.drop (Or.inr rfl) ?_ ?_ hwf
 · simp only [resA, resOne, resTv, AV.tv, push_cast, simprocAttr, c5C, fitsB, w, q, decide_true, decide_false, Bool.true_and, Bool.false_and]
 · rfl
theorem cfits_c (x : Nat → Int) (n : Int) (m : AMem) (h1 : -9223372036854775808 ≤ n) (h2 : n ≤ 9223372036854775807) : Ctr Tryz.prog 21 [.agg (c5C x), .one (.int .i64 n)] m (.one (.bool (fitsB x n))) m := by
 rcases Classical.em (x 3 ≤ slotsZ n) with q | q
 ·exact cfits_ct x n m h1 h2 q
 ·exact cfits_cf x n m h1 h2 q
theorem rfits_ct (x : Nat → Int) (n : Int) (m : AMem) (h1 : -9223372036854775808 ≤ n) (h2 : n ≤ 9223372036854775807) (q : x 3 ≤ slotsZ n) : Ctr Tryz.prog 22 [.agg (c5C x), .one (.int .i64 n)] m (.one (.bool (fitsB x n))) m := by
 refine Ctr.enter Tryz.func22 rfl (by decide) (rs := [.tmp 4]) (nt := 20) rfl rfl fun hwf Q hQ => ?_
 have w := (show IntKind.i64.wrap (n - slotsZ n) = n - slotsZ n from wi (by have := slotsZ_b n; have hz : n < 4 → slotsZ n = 0 := fun h => if_pos h; omega))
 refine AW.sr 3 fun K hK => ?_
 simp only [push_cast, simprocAttr, c5C, fitsB, w, q, decide_true, decide_false, Bool.true_and, Bool.false_and]
 refine CThen.by (rslots_c n _ (by omega) (by omega)) ?_
 simp only [push_cast, simprocAttr, c5C, fitsB, w, q, decide_true, decide_false, Bool.true_and, Bool.false_and]
 apply hK;clear hK K
 refine AW.ret ?_
 refine hQ _ _ _ ?_
 first | refine RetP.drop0 (Or.inr rfl) ?_ ?_ hwf | refine RetP.drop (Or.inr rfl) ?_ ?_ hwf
 · simp only [resA, resOne, resTv, AV.tv, push_cast, simprocAttr, c5C, fitsB, w, q, decide_true, decide_false, Bool.true_and, Bool.false_and]
 · rfl
theorem rfits_cf (x : Nat → Int) (n : Int) (m : AMem) (h1 : -9223372036854775808 ≤ n) (h2 : n ≤ 9223372036854775807) (q : ¬ x 3 ≤ slotsZ n) : Ctr Tryz.prog 22 [.agg (c5C x), .one (.int .i64 n)] m (.one (.bool (fitsB x n))) m := by
 refine Ctr.enter Tryz.func22 rfl (by decide) (rs := [.tmp 4]) (nt := 20) rfl rfl fun hwf Q hQ => ?_
 have w := (show IntKind.i64.wrap (n - slotsZ n) = n - slotsZ n from wi (by have := slotsZ_b n; have hz : n < 4 → slotsZ n = 0 := fun h => if_pos h; omega))
 refine AW.sr 3 fun K hK => ?_
 simp only [push_cast, simprocAttr, c5C, fitsB, w, q, decide_true, decide_false, Bool.true_and, Bool.false_and]
 refine CThen.by (rslots_c n _ (by omega) (by omega)) ?_
 simp only [push_cast, simprocAttr, c5C, fitsB, w, q, decide_true, decide_false, Bool.true_and, Bool.false_and]
 apply hK;clear hK K
 refine AW.ret ?_
 refine hQ _ _ _ ?_
 first | refine RetP.drop0 (Or.inr rfl) ?_ ?_ hwf | refine RetP.drop (Or.inr rfl) ?_ ?_ hwf
 · simp only [resA, resOne, resTv, AV.tv, push_cast, simprocAttr, c5C, fitsB, w, q, decide_true, decide_false, Bool.true_and, Bool.false_and]
 · rfl
theorem rfits_c (x : Nat → Int) (n : Int) (m : AMem) (h1 : -9223372036854775808 ≤ n) (h2 : n ≤ 9223372036854775807) : Ctr Tryz.prog 22 [.agg (c5C x), .one (.int .i64 n)] m (.one (.bool (fitsB x n))) m := by
 rcases Classical.em (x 3 ≤ slotsZ n) with q | q
 ·exact rfits_ct x n m h1 h2 q
 ·exact rfits_cf x n m h1 h2 q
theorem csum_c (r v n : Nat) (X : Nat → Nat → Int) (m : AMem) (hr : m[r]? = some (c5R 34 v n X)) (hX : Sm X) (hn : n ≤ 100) : Ctr Tryz.prog 8 [.one (.sl r v 0 n)] m (.agg (c5C (sumF X n))) m := by
 refine Ctr.enter Tryz.func8 rfl (by decide) (rs := [.cell 2 34]) (nt := 17) rfl rfl fun hwf Q hQ => ?_
 have lr := get_lt hr
 have gl := catC5_len X n
 have e0 : c5C (sumF X 0) = [.int .i64 0, .int .i64 0, .int .i64 0, .int .i64 0, .int .i64 0] := rfl
 have l5 : ∀ x, (c5C x).length = 5 := fun _ => rfl
 have t5 : ∀ x, (c5C x).take 5 = c5C x := fun _ => rfl
 have z5 : ∀ x y, setL (c5C x) 0 (c5C y) = c5C y := fun _ _ => rfl
 have z6 : ∀ y, setL [.int .i64 0, .int .i64 0, .int .i64 0, .int .i64 0, .int .i64 0] 0 (c5C y) = c5C y := fun _ => rfl
 refine AW.sr 2 fun K hK => ?_
 have pk_1 : _ ∧ _ ∧ _ ∧ _ ∧ _ ∧ _ ∧ _ := ⟨hr, lk_old hr, gl, l5, t5, z5, z6⟩
 simp only [push_cast, simprocAttr, c5R, c5_vals, pk_1]
 apply hK;clear hK K
 refine AW.seq_k fun K hK => ?_
 refine AW.sr 1 fun K hK => ?_
 simp only [push_cast, simprocAttr, c5R, c5_vals, pk_1]
 apply hK;clear hK K
 refine AW.block ?_
 refine AW.loopK [2, 3, 6, 7] (fun i => i ≤ n) (fun i => [(8, .one (.int .i64 (i : Int)))]) (fun i => [(m.length + 1, ⟨.fix, 34, 0, 0, c5C (sumF X i)⟩)]) (fun i => n - i) 0 (by omega) ?_ ?_ fun i hi2 => ?_
 · first | rfl | (simp only [KS, simprocAttr, e0, Int.natCast_zero] <;> repeat' (first | rfl | apply And.intro))
 · simp only [setAll, push_cast, simprocAttr, e0] <;> rfl
 try simp only [keepL, setAll, push_cast, simprocAttr, c5R, c5_vals, pk_1]
 refine AW.sr 1 fun K hK => ?_
 simp only [push_cast, simprocAttr, c5R, c5_vals, pk_1]
 apply hK;clear hK K
 refine AW.seq_k fun K hK => ?_
 refine AW.cond rfl (fun h9 => ?_) (fun h9 => ?_)
 ·have hlt : i < n := by have := of_decide_eq_true h9; omega
  have c1 : (0 : Int) ≤ (i : Int) := by omega
  have c2 : (i : Int) < (n : Int) := by omega
  have c3 : i * 5 + 5 ≤ n * 5 := by omega
  have ga := catC5_at (X := X) hlt
  have hst : addF (sumF X i) (X i) = sumF X (i + 1) := rfl
  refine AW.skip ?_
  apply hK;clear hK K
  refine AW.seq_k fun K hK => ?_
  refine AW.block ?_
  refine AW.sr 1 fun K hK => ?_
  have pk_2 : _ ∧ _ ∧ _ ∧ _ ∧ _ := ⟨pk_1, c1, c2, c3, ga⟩
  simp only [push_cast, simprocAttr, c5R, c5_vals, pk_2]
  apply hK;clear hK K
  refine AW.rg ?_
  simp only [push_cast, simprocAttr, c5R, c5_vals, pk_2]
  refine CThen.by (cadd_c (sumF X i) (X i) _ (fun j => by have := sumF_b hX j i; omega) (fun j => by have := hX i j; omega)) ?_
  simp only [push_cast, simprocAttr, c5R, c5_vals, pk_2]
  refine InB_n ?_
  apply hK;clear hK K
  refine AW.rg ?_
  simp only [push_cast, simprocAttr, c5R, c5_vals, pk_2]
  refine Thn_n ?_
  have hwi : IntKind.i64.wrap ((i:Int)+1) = (i:Int)+1 := wi (by omega)
  refine ⟨i + 1, by omega, by omega, ?_⟩
  try simp only [keepL, setAll, push_cast, simprocAttr, c5R, c5_vals, pk_2, hwi, hst]
  exact Weak.to (extra := [_]) (by simp only [KS, simprocAttr, hwi, hst]) (by first | rfl | (simp only [List.append_assoc, List.cons_append, List.nil_append]; rfl)) (by first | rfl | (simp [AV.below, CV.below, c5_below]; done) | (simp [AV.below, CV.below, c5_below]; omega)) (by
    first | exact hwf | refine MWf.app (hwf.grow (by simp)) ?_
    repeat (first | exact MWf_nil | (refine MWf_cons ?_ ?_; · first | rfl | (simp [CV.below, c5_below]; done) | (simp [CV.below, c5_below]; omega))))
 ·have hin : i = n := by have := of_decide_eq_false h9; omega
  rw [hin]
  refine AW.exit ?_
  refine Thn_e ?_
  clear hK K
  refine Thn_e ?_
  refine InB_here ?_
  apply hK;clear hK K
  refine AW.sr 1 fun K hK => ?_
  simp only [push_cast, simprocAttr, c5R, c5_vals, pk_1]
  apply hK;clear hK K
  refine AW.ret ?_
  refine hQ _ _ _ ?_
  first | refine RetP.drop0 (Or.inr rfl) ?_ ?_ hwf | refine RetP.drop (Or.inr rfl) ?_ ?_ hwf
  · simp only [resA, resOne, resTv, AV.tv, push_cast, simprocAttr, c5R, c5_vals, pk_1]
  · rfl
def iL (l : List Int) : List CV := l.map (CV.int .i64)
theorem iL_len (l : List Int) : (iL l).length = l.length := List.length_map _
theorem iL_snoc (l : List Int) (x : Int) : iL l ++ [.int .i64 x] = iL (l ++ [x]) := by simp [iL]
theorem iL_at {l : List Int} {i : Nat} {x : Int} (h : l[i]? = some x) : (iL l)[i]? = some (.int .i64 x) := by simp [iL, h]
theorem iL_below (L : Nat) (l : List Int) : (iL l).all (CV.below L) = true := by simp only [iL, List.all_map, List.all_eq_true]; intro _ _; rfl
theorem iL_vals (l : List Int) : (iL l).all CV.isVal = true := by simp only [iL, List.all_map, List.all_eq_true]; intro _ _; rfl
def admS (X : Nat → Nat → Int) (b : Int) : Nat → (Nat → Int) × List Int
 | 0 => (fun _ => 0, [])
 | i + 1 => if (admS X b i).2.length < 8 ∧ fitsB (addF (admS X b i).1 (X i)) b = true then (addF (admS X b i).1 (X i), (admS X b i).2 ++ [(i : Int)]) else admS X b i
theorem admS_b {X : Nat → Nat → Int} {b : Int} (h : Sm X) (j : Nat) : ∀ n, 0 ≤ (admS X b n).1 j ∧ (admS X b n).1 j ≤ 10000000000 * (n : Int)
 | 0 => ⟨Int.le_refl _, Int.le_refl _⟩
 | n + 1 => by
  have h1 := admS_b (b := b) h j n
  have h2 := h n j
  unfold admS
  split
  ·show 0 ≤ (admS X b n).1 j + X n j ∧ (admS X b n).1 j + X n j ≤ _
   omega
  ·omega
theorem admS_len {X : Nat → Nat → Int} {b : Int} : ∀ n, (admS X b n).2.length ≤ n
 | 0 => Nat.le_refl _
 | n + 1 => by
  have h1 := admS_len (X := X) (b := b) n
  unfold admS
  split
  ·simp; omega
  ·omega
theorem isame_c (r1 v1 r2 v2 : Nat) (l : List Int) (m : AMem) (ha : ∃ k e, m[r1]? = some ⟨k, 3, v1, e, iL l⟩) (hb : ∃ k e, m[r2]? = some ⟨k, 3, v2, e, iL l⟩) (hn : l.length ≤ 100) : Ctr Tryz.prog 9 [.one (.sl r1 v1 0 l.length), .one (.sl r2 v2 0 l.length)] m (.one (.bool true)) m := by
 refine Ctr.enter Tryz.func9 rfl (by decide) (rs := [.tmp 4]) (nt := 26) rfl rfl fun hwf Q hQ => ?_
 obtain ⟨k1, e1, ha⟩ := ha
 obtain ⟨k2, e2, hb⟩ := hb
 have gl := iL_len l
 obtain ⟨n, hn0⟩ : ∃ n, n = l.length := ⟨_, rfl⟩
 rw [← hn0] at gl hn ⊢
 have bq : ∀ z : Int, (z != z) = false := fun z => bne_self_eq_false z
 refine AW.sr 1 fun K hK => ?_
 have pk_1 : _ ∧ _ ∧ _ ∧ _ := ⟨ha, hb, gl, bq⟩
 simp only [push_cast, simprocAttr, pk_1]
 apply hK;clear hK K
 refine AW.seq_k fun K hK => ?_
 refine AW.sr 1 fun K hK => ?_
 simp only [push_cast, simprocAttr, pk_1]
 apply hK;clear hK K
 refine AW.cond_f rfl ?_
 refine AW.skip ?_
 apply hK;clear hK K
 refine AW.seq_k fun K hK => ?_
 refine AW.sr 1 fun K hK => ?_
 simp only [push_cast, simprocAttr, pk_1]
 apply hK;clear hK K
 refine AW.block ?_
 refine AW.loopK [0, 1, 12] (fun i => i ≤ n) (fun i => [(13, .one (.int .i64 (i : Int)))]) (fun i => []) (fun i => n - i) 0 (by omega) ?_ ?_ fun i hi3 => ?_
 · first | rfl | (simp only [KS, simprocAttr, Int.natCast_zero] <;> repeat' (first | rfl | apply And.intro))
 · first | rfl | (simp only [setAll, push_cast, simprocAttr, pk_1, Int.natCast_zero] <;> rfl)
 try simp only [keepL, setAll, push_cast, simprocAttr, pk_1]
 refine AW.sr 1 fun K hK => ?_
 simp only [push_cast, simprocAttr, pk_1]
 apply hK;clear hK K
 refine AW.seq_k fun K hK => ?_
 refine AW.cond rfl (fun h14 => ?_) (fun h14 => ?_)
 ·have hlt : i < n := by have := of_decide_eq_true h14; omega
  have c1 : (0 : Int) ≤ (i : Int) := by omega
  have c2 : (i : Int) < (n : Int) := by omega
  obtain ⟨x, hx⟩ : ∃ x, l[i]? = some x := ⟨_, List.getElem?_eq_getElem (by omega)⟩
  have gx := iL_at hx
  refine AW.skip ?_
  apply hK;clear hK K
  refine AW.seq_k fun K hK => ?_
  refine AW.block ?_
  refine AW.sr 1 fun K hK => ?_
  have pk_2 : _ ∧ _ ∧ _ ∧ _ ∧ _ := ⟨pk_1, c1, c2, gx, hlt⟩
  simp only [push_cast, simprocAttr, pk_2]
  apply hK;clear hK K
  refine AW.seq_k fun K hK => ?_
  refine AW.draw [.val, .val, .val, .rd 0, .val, .val, .val, .rd 0, .val] fol (by decide) (by kernel_rfl) ?_
  simp only [push_cast, simprocAttr, pk_2]
  apply hK;clear hK K
  refine AW.cond_f rfl ?_
  refine AW.skip ?_
  refine InB_n ?_
  apply hK;clear hK K
  refine AW.rg ?_
  simp only [push_cast, simprocAttr, pk_2]
  refine Thn_n ?_
  have hwi : IntKind.i64.wrap ((i:Int)+1) = (i:Int)+1 := wi (by omega)
  refine ⟨i + 1, by omega, by omega, ?_⟩
  try simp only [keepL, setAll, push_cast, simprocAttr, pk_2, hwi]
  exact Weak.same (by simp only [KS, simprocAttr, hwi]) (by first | rfl | simp only [KS, simprocAttr, hwi])
 ·have hin := True.intro
  refine AW.exit ?_
  refine Thn_e ?_
  clear hK K
  refine Thn_e ?_
  refine InB_here ?_
  apply hK;clear hK K
  refine AW.sr 1 fun K hK => ?_
  simp only [push_cast, simprocAttr, pk_1]
  apply hK;clear hK K
  refine AW.ret ?_
  refine hQ _ _ _ ?_
  first | refine RetP.drop0 (Or.inr rfl) ?_ ?_ hwf | refine RetP.drop (Or.inr rfl) ?_ ?_ hwf
  · simp only [resA, resOne, resTv, AV.tv, push_cast, simprocAttr, pk_1]
  · rfl
theorem cadm_c (r v n : Nat) (X : Nat → Nat → Int) (b : Int) (m : AMem) (hr : m[r]? = some (c5R 34 v n X)) (hX : Sm X) (hn : n ≤ 100) (h1 : -9223372036854775808 ≤ b) (h2 : b ≤ 9223372036854775807) : Ctr Tryz.prog 10 [.one (.int .i64 b), .one (.sl r v 0 n)] m (.one (.sl m.length 0 0 (admS X b n).2.length)) (m ++ [⟨.grow, 3, 0, 1, iL ((admS X b n).2)⟩]) := by
 refine Ctr.enter Tryz.func10 rfl (by decide) (rs := [.tmp 4]) (nt := 35) rfl rfl fun hwf Q hQ => ?_
 have lr := get_lt hr
 have gl := catC5_len X n
 have l5 : ∀ x, (c5C x).length = 5 := fun _ => rfl
 have t5 : ∀ x, (c5C x).take 5 = c5C x := fun _ => rfl
 have z5 : ∀ x y, setL (c5C x) 0 (c5C y) = c5C y := fun _ _ => rfl
 have z6 : ∀ y, setL [.int .i64 0, .int .i64 0, .int .i64 0, .int .i64 0, .int .i64 0] 0 (c5C y) = c5C y := fun _ => rfl
 obtain ⟨S, hS⟩ : ∃ S : Nat → Nat → Int, S = fun i => (admS X b i).1 := ⟨_, rfl⟩
 obtain ⟨O, hO⟩ : ∃ O : Nat → List Int, O = fun i => (admS X b i).2 := ⟨_, rfl⟩
 have hS0 : c5C (S 0) = [.int .i64 0, .int .i64 0, .int .i64 0, .int .i64 0, .int .i64 0] := by rw [hS]; rfl
 have hO0 : O 0 = [] := by rw [hO]; rfl
 have hSb : ∀ i j, 0 ≤ S i j ∧ S i j ≤ 10000000000 * (i : Int) := fun i j => by rw [hS]; exact admS_b hX j i
 have hOl : ∀ i, (O i).length ≤ i := fun i => by rw [hO]; exact admS_len i
 have hOn : (admS X b n).2 = O n := by rw [hO]
 have hSt : ∀ i, (O i).length < 8 → fitsB (addF (S i) (X i)) b = true → S (i + 1) = addF (S i) (X i) ∧ O (i + 1) = O i ++ [(i : Int)] := fun i q1 q2 => by
   rw [hS, hO] at *
   have : admS X b (i + 1) = (addF (admS X b i).1 (X i), (admS X b i).2 ++ [(i : Int)]) := if_pos ⟨q1, q2⟩
   dsimp only; rw [this]; exact ⟨rfl, rfl⟩
 have hSn : ∀ i, ¬ ((O i).length < 8 ∧ fitsB (addF (S i) (X i)) b = true) → S (i + 1) = S i ∧ O (i + 1) = O i := fun i q => by
   rw [hS, hO] at *
   have : admS X b (i + 1) = admS X b i := if_neg q
   dsimp only; rw [this]; exact ⟨rfl, rfl⟩
 rw [hOn] at hQ
 have hlt0 : ∀ k, ¬ m.length + k < m.length := fun k => by omega
 have ill := fun l => iL_len l
 refine AW.sr 3 fun K hK => ?_
 have pk_3 : _ ∧ _ ∧ _ ∧ _ ∧ _ ∧ _ ∧ _ ∧ _ := ⟨hr, lk_old hr, gl, l5, t5, z5, z6, ill⟩
 simp only [push_cast, simprocAttr, c5R, c5_vals, iL_vals, pk_3]
 apply hK;clear hK K
 refine AW.seq_k fun K hK => ?_
 refine AW.sr 1 fun K hK => ?_
 simp only [push_cast, simprocAttr, c5R, c5_vals, iL_vals, pk_3]
 apply hK;clear hK K
 refine AW.block ?_
 refine AW.nilTm 3 1 6 rfl ?_
 try simp only [push_cast, simprocAttr, c5R, c5_vals, iL_vals, pk_3]
 refine AW.loopK [0, 5, 10, 11] (fun i => i ≤ n) (fun i => [(6, .one (.sl (m.length + 1) (O i).length 0 (O i).length)), (12, .one (.int .i64 (i : Int)))]) (fun i => [(m.length, ⟨.fix, 34, 0, 0, c5C (S i)⟩), (m.length + 1, ⟨.grow, 3, (O i).length, 1, iL (O i)⟩)]) (fun i => n - i) 0 (by omega) ?_ ?_ fun i hi2 => ?_
 · first | rfl | (simp only [KS, simprocAttr, hS0, hO0, Int.natCast_zero, List.length_nil] <;> repeat' (first | rfl | apply And.intro))
 · simp only [setAll, push_cast, simprocAttr, hS0, hO0] <;> rfl
 try simp only [keepL, setAll, push_cast, simprocAttr, c5R, c5_vals, iL_vals, pk_3]
 refine AW.sr 1 fun K hK => ?_
 simp only [push_cast, simprocAttr, c5R, c5_vals, iL_vals, pk_3]
 apply hK;clear hK K
 refine AW.seq_k fun K hK => ?_
 refine AW.cond rfl (fun h13 => ?_) (fun h13 => ?_)
 ·have hlt : i < n := by have := of_decide_eq_true h13; omega
  have c1 : (0 : Int) ≤ (i : Int) := by omega
  have c2 : (i : Int) < (n : Int) := by omega
  have c3 : i * 5 + 5 ≤ n * 5 := by omega
  have ga := catC5_at (X := X) hlt
  have hol := hOl i
  have q1 : (O i).length ≤ 140737488355327 := by omega
  have q2 : ((O i).length + 1) * 8 ≤ 140737488355328 := by omega
  refine AW.skip ?_
  apply hK;clear hK K
  refine AW.seq_k fun K hK => ?_
  refine AW.block ?_
  refine AW.sr 2 fun K hK => ?_
  have pk_4 : _ ∧ _ ∧ _ ∧ _ ∧ _ ∧ _ ∧ _ := ⟨pk_3, c1, c2, c3, ga, q1, q2⟩
  simp only [push_cast, simprocAttr, c5R, c5_vals, iL_vals, pk_4]
  refine CThen.by (cadd_c (S i) (X i) _ (fun j => by have := hSb i j; omega) (fun j => by have := hX i j; omega)) ?_
  simp only [push_cast, simprocAttr, c5R, c5_vals, iL_vals, pk_4]
  apply hK;clear hK K
  refine AW.seq_k fun K hK => ?_
  have h7 : (¬ (O i).length < 8) ∨ ((O i).length < 8 ∧ fitsB (addF (S i) (X i)) b = true) ∨ ((O i).length < 8 ∧ fitsB (addF (S i) (X i)) b = false) := by
    cases fitsB (addF (S i) (X i)) b <;> simp <;> omega
  rcases h7 with q8 | ⟨q8, qf⟩ | ⟨q8, qf⟩
  ·have g8 : ¬ ((O i).length : Int) < 8 := by omega
   obtain ⟨hs1, hs2⟩ := hSn i (fun h => q8 h.1)
   have hs3 := True.intro
   refine AW.rg ?_
   simp only [push_cast, simprocAttr, c5R, c5_vals, iL_vals, pk_4, g8]
   apply hK;clear hK K
   refine AW.cond_f rfl ?_
   refine AW.skip ?_
   refine InB_n ?_
   apply hK;clear hK K
   refine AW.rg ?_
   simp only [push_cast, simprocAttr, c5R, c5_vals, iL_vals, pk_4, g8]
   refine Thn_n ?_
   have hwi : IntKind.i64.wrap ((i:Int)+1) = (i:Int)+1 := wi (by omega)
   refine ⟨i + 1, by omega, by omega, ?_⟩
   try simp only [keepL, setAll, push_cast, simprocAttr, c5R, c5_vals, iL_vals, pk_4, g8, hwi, hs1, hs2, hs3]
   first
    | exact Weak.to (extra := [_, _]) (by simp only [KS, simprocAttr, hwi, hs1, hs2, hs3]) (by first | rfl | (simp only [List.append_assoc, List.cons_append, List.nil_append]; rfl)) (by first | rfl | (simp [AV.below, CV.below]; done) | (simp [AV.below, CV.below]; omega)) (by first | exact hwf | exact MWf.app (hwf.grow (by simp)) (MWf_cons (c5_below _ _) (MWf_cons (iL_below _ _) MWf_nil)))
    | exact Weak.to (extra := [_, _, _]) (by simp only [KS, simprocAttr, hwi, hs1, hs2, hs3]) (by first | rfl | (simp only [List.append_assoc, List.cons_append, List.nil_append]; rfl)) (by first | rfl | (simp [AV.below, CV.below]; done) | (simp [AV.below, CV.below]; omega)) (by first | exact hwf | exact MWf.app (hwf.grow (by simp)) (MWf_cons (c5_below _ _) (MWf_cons (iL_below _ _) MWf_nil)))
  ·have g8 : ((O i).length : Int) < 8 := by omega
   obtain ⟨hs1, hs2⟩ := hSt i q8 qf
   have hs3 : (O i ++ [(i : Int)]).length = (O i).length + 1 := by simp
   refine AW.rg ?_
   simp only [push_cast, simprocAttr, c5R, c5_vals, iL_vals, pk_4, g8, qf, iL_snoc]
   refine CThen.by (cfits_c (addF (S i) (X i)) b _ h1 h2) ?_
   simp only [push_cast, simprocAttr, c5R, c5_vals, iL_vals, pk_4, g8, qf, iL_snoc]
   apply hK;clear hK K
   refine AW.cond_t rfl ?_
   refine AW.sr 1 fun K hK => ?_
   simp only [push_cast, simprocAttr, c5R, c5_vals, iL_vals, pk_4, g8, qf, iL_snoc]
   apply hK;clear hK K
   refine AW.rg ?_
   simp only [push_cast, simprocAttr, c5R, c5_vals, iL_vals, pk_4, g8, qf, iL_snoc]
   refine InB_n ?_
   apply hK;clear hK K
   refine AW.rg ?_
   simp only [push_cast, simprocAttr, c5R, c5_vals, iL_vals, pk_4, g8, qf, iL_snoc]
   refine Thn_n ?_
   have hwi : IntKind.i64.wrap ((i:Int)+1) = (i:Int)+1 := wi (by omega)
   refine ⟨i + 1, by omega, by omega, ?_⟩
   try simp only [keepL, setAll, push_cast, simprocAttr, c5R, c5_vals, iL_vals, pk_4, g8, qf, iL_snoc, hwi, hs1, hs2, hs3]
   first
    | exact Weak.to (extra := [_, _]) (by simp only [KS, simprocAttr, hwi, hs1, hs2, hs3]) (by first | rfl | (simp only [List.append_assoc, List.cons_append, List.nil_append]; rfl)) (by first | rfl | (simp [AV.below, CV.below]; done) | (simp [AV.below, CV.below]; omega)) (by first | exact hwf | exact MWf.app (hwf.grow (by simp)) (MWf_cons (c5_below _ _) (MWf_cons (iL_below _ _) MWf_nil)))
    | exact Weak.to (extra := [_, _, _]) (by simp only [KS, simprocAttr, hwi, hs1, hs2, hs3]) (by first | rfl | (simp only [List.append_assoc, List.cons_append, List.nil_append]; rfl)) (by first | rfl | (simp [AV.below, CV.below]; done) | (simp [AV.below, CV.below]; omega)) (by first | exact hwf | exact MWf.app (hwf.grow (by simp)) (MWf_cons (c5_below _ _) (MWf_cons (iL_below _ _) MWf_nil)))
  ·have g8 : ((O i).length : Int) < 8 := by omega
   obtain ⟨hs1, hs2⟩ := hSn i (fun h => by rw [qf] at h; exact absurd h.2 (by decide))
   have hs3 := True.intro
   refine AW.rg ?_
   simp only [push_cast, simprocAttr, c5R, c5_vals, iL_vals, pk_4, g8, qf]
   refine CThen.by (cfits_c (addF (S i) (X i)) b _ h1 h2) ?_
   simp only [push_cast, simprocAttr, c5R, c5_vals, iL_vals, pk_4, g8, qf]
   apply hK;clear hK K
   refine AW.cond_f rfl ?_
   refine AW.skip ?_
   refine InB_n ?_
   apply hK;clear hK K
   refine AW.rg ?_
   simp only [push_cast, simprocAttr, c5R, c5_vals, iL_vals, pk_4, g8, qf]
   refine Thn_n ?_
   have hwi : IntKind.i64.wrap ((i:Int)+1) = (i:Int)+1 := wi (by omega)
   refine ⟨i + 1, by omega, by omega, ?_⟩
   try simp only [keepL, setAll, push_cast, simprocAttr, c5R, c5_vals, iL_vals, pk_4, g8, qf, hwi, hs1, hs2, hs3]
   first
    | exact Weak.to (extra := [_, _]) (by simp only [KS, simprocAttr, hwi, hs1, hs2, hs3]) (by first | rfl | (simp only [List.append_assoc, List.cons_append, List.nil_append]; rfl)) (by first | rfl | (simp [AV.below, CV.below]; done) | (simp [AV.below, CV.below]; omega)) (by first | exact hwf | exact MWf.app (hwf.grow (by simp)) (MWf_cons (c5_below _ _) (MWf_cons (iL_below _ _) MWf_nil)))
    | exact Weak.to (extra := [_, _, _]) (by simp only [KS, simprocAttr, hwi, hs1, hs2, hs3]) (by first | rfl | (simp only [List.append_assoc, List.cons_append, List.nil_append]; rfl)) (by first | rfl | (simp [AV.below, CV.below]; done) | (simp [AV.below, CV.below]; omega)) (by first | exact hwf | exact MWf.app (hwf.grow (by simp)) (MWf_cons (c5_below _ _) (MWf_cons (iL_below _ _) MWf_nil)))
 ·have hin : i = n := by have := of_decide_eq_false h13; omega
  subst hin
  refine AW.exit ?_
  refine Thn_e ?_
  clear hK K
  refine Thn_e ?_
  refine InB_here ?_
  apply hK;clear hK K
  refine AW.sr 1 fun K hK => ?_
  simp only [push_cast, simprocAttr, c5R, c5_vals, iL_vals, pk_3]
  apply hK;clear hK K
  refine AW.ret ?_
  refine hQ _ _ _ ?_
  refine RetP.pick [(m.length + 1, (O i).length)] (Or.inr rfl) ?_ ?_ ?_ hwf ?_
  · simp only [resA, resOne, resTv, AV.tv, push_cast, simprocAttr]
    simp [renV, renT, renL, renC, renIdx, hlt0]
  · simp only [picks, push_cast, simprocAttr]
  · simp [distinctFrom]
  · exact MWf_cons (iL_below _ _) MWf_nil
structure RA where
 (s : Nat → Int) (t : Nat → Bool) (k : Nat)
def radS (X : Nat → Nat → Int) (b : Int) (p : Nat → Nat) : Nat → RA
 | 0 => ⟨fun _ => 0, fun _ => false, 0⟩
 | i + 1 => if (radS X b p i).k < 8 ∧ fitsB (addF (radS X b p i).s (X (p i))) b = true then ⟨addF (radS X b p i).s (X (p i)), updB (radS X b p i).t (p i) true, (radS X b p i).k + 1⟩ else radS X b p i
def outL (f : Nat → Bool) : Nat → List Int
 | 0 => []
 | n + 1 => if f n = true then outL f n ++ [(n : Int)] else outL f n
def ordL (p : Nat → Nat) (n : Nat) : List Int := (List.range n).map fun i => ((p i : Nat) : Int)
theorem ordL_len (p : Nat → Nat) (n : Nat) : (ordL p n).length = n := by simp [ordL]
theorem ordL_at {p : Nat → Nat} {n i : Nat} (h : i < n) : (ordL p n)[i]? = some ((p i : Nat) : Int) := by simp [ordL, h]
theorem outL_len (f : Nat → Bool) : ∀ n, (outL f n).length ≤ n
 | 0 => Nat.le_refl _
 | n + 1 => by
  have := outL_len f n
  unfold outL
  split
  ·simp; omega
  ·omega
theorem radS_b {X : Nat → Nat → Int} {b : Int} {p : Nat → Nat} (h : Sm X) (j : Nat) : ∀ n, 0 ≤ (radS X b p n).s j ∧ (radS X b p n).s j ≤ 10000000000 * (n : Int)
 | 0 => ⟨Int.le_refl _, Int.le_refl _⟩
 | n + 1 => by
  have h1 := radS_b (b := b) (p := p) h j n
  have h2 := h (p n) j
  unfold radS
  split
  ·show 0 ≤ (radS X b p n).s j + X (p n) j ∧ (radS X b p n).s j + X (p n) j ≤ _
   omega
  ·omega
theorem radS_k {X : Nat → Nat → Int} {b : Int} {p : Nat → Nat} : ∀ n, (radS X b p n).k ≤ n
 | 0 => Nat.le_refl _
 | n + 1 => by
  have h1 := radS_k (X := X) (b := b) (p := p) n
  unfold radS
  split
  ·show _ + 1 ≤ n + 1; omega
  ·omega
theorem zeros_b (n : Nat) : zeros (.bool false) n = bl n fun _ => false := by
 refine bl_of (by simp [zeros]) fun i hi => ?_
 unfold zeros
 rw [List.getElem?_map, List.getElem?_range hi]
 simp only [Option.map_some, Value.cells]
 have hm : i % (#[Value.bool false] : Array Value).size = 0 := by show i % 1 = 0; omega
 rw [hm]; rfl
theorem bl_vals (n : Nat) (f : Nat → Bool) : (bl n f).all CV.isVal = true := by
 refine List.all_eq_true.2 fun c hc => ?_
 obtain ⟨i, hi⟩ := List.getElem?_of_mem hc
 have hlt := (List.getElem?_eq_some_iff.1 hi).1
 rw [bl_len] at hlt
 rw [bl_get hlt] at hi
 injection hi with hi; subst hi; rfl
theorem radm_c (r v n ro vo : Nat) (X : Nat → Nat → Int) (p : Nat → Nat) (b : Int) (m : AMem) (hr : m[r]? = some (c5R 29 v n X)) (ho : ∃ k e, m[ro]? = some ⟨k, 3, vo, e, iL (ordL p n)⟩) (hp : ∀ i, i < n → p i < n) (hX : Sm X) (hn : n ≤ 100) (h1 : -9223372036854775808 ≤ b) (h2 : b ≤ 9223372036854775807) : Ctr Tryz.prog 11 [.one (.int .i64 b), .one (.sl r v 0 n), .one (.sl ro vo 0 n)] m (.one (.sl m.length 0 0 (outL (radS X b p n).t n).length)) (m ++ [⟨.grow, 3, 0, 1, iL (outL (radS X b p n).t n)⟩]) := by
 refine Ctr.enter Tryz.func11 rfl (by decide) (rs := [.tmp 6]) (nt := 63) rfl rfl fun hwf Q hQ => ?_
 obtain ⟨ko, eo, ho⟩ := ho
 have lr := get_lt hr
 have lo := get_lt ho
 have gl := catC5_len X n
 have l5 : ∀ x, (c5C x).length = 5 := fun _ => rfl
 have t5 : ∀ x, (c5C x).take 5 = c5C x := fun _ => rfl
 have z5 : ∀ x y, setL (c5C x) 0 (c5C y) = c5C y := fun _ _ => rfl
 have z6 : ∀ y, setL [.int .i64 0, .int .i64 0, .int .i64 0, .int .i64 0, .int .i64 0] 0 (c5C y) = c5C y := fun _ => rfl
 obtain ⟨S, hS⟩ : ∃ S : Nat → Nat → Int, S = fun i => (radS X b p i).s := ⟨_, rfl⟩
 obtain ⟨O, hO⟩ : ∃ O : Nat → Nat → Bool, O = fun i => (radS X b p i).t := ⟨_, rfl⟩
 obtain ⟨KK, hK0⟩ : ∃ KK : Nat → Nat, KK = fun i => (radS X b p i).k := ⟨_, rfl⟩
 have hS0 : c5C (S 0) = [.int .i64 0, .int .i64 0, .int .i64 0, .int .i64 0, .int .i64 0] := by rw [hS]; rfl
 have hO0 : O 0 = fun _ => false := by rw [hO]; rfl
 have hKz : KK 0 = 0 := by rw [hK0]; rfl
 have hSb : ∀ i j, 0 ≤ S i j ∧ S i j ≤ 10000000000 * (i : Int) := fun i j => by rw [hS]; exact radS_b hX j i
 have hKl : ∀ i, KK i ≤ i := fun i => by rw [hK0]; exact radS_k i
 have hOn : (radS X b p n).t = O n := by rw [hO]
 have hSt : ∀ i, KK i < 8 → fitsB (addF (S i) (X (p i))) b = true → S (i + 1) = addF (S i) (X (p i)) ∧ O (i + 1) = updB (O i) (p i) true ∧ KK (i + 1) = KK i + 1 := fun i q1 q2 => by
   rw [hS, hO, hK0] at *
   have : radS X b p (i + 1) = ⟨addF (radS X b p i).s (X (p i)), updB (radS X b p i).t (p i) true, (radS X b p i).k + 1⟩ := if_pos ⟨q1, q2⟩
   dsimp only; rw [this]; exact ⟨rfl, rfl, rfl⟩
 have hSn : ∀ i, ¬ (KK i < 8 ∧ fitsB (addF (S i) (X (p i))) b = true) → S (i + 1) = S i ∧ O (i + 1) = O i ∧ KK (i + 1) = KK i := fun i q => by
   rw [hS, hO, hK0] at *
   have : radS X b p (i + 1) = radS X b p i := if_neg q
   dsimp only; rw [this]; exact ⟨rfl, rfl, rfl⟩
 rw [hOn] at hQ
 have hlt0 : ∀ k, ¬ m.length + k < m.length := fun k => by omega
 have ill := fun l => iL_len l
 have oll := ordL_len p n
 have bll := fun n f => bl_len n f
 have zb : zeros (.bool false) ((n : Int).toNat * 1) = bl n fun _ => false := by rw [Int.toNat_natCast, Nat.mul_one]; exact zeros_b n
 have q0 : (0 : Int) ≤ (n : Int) := by omega
 have q3 : (n : Int) ≤ 281474976710656 := by omega
 have q4 : (1 : Int) * (n : Int) ≤ 281474976710656 := by omega
 refine AW.sr 4 fun K hK => ?_
 have pk_1 : _ ∧ _ ∧ _ ∧ _ ∧ _ ∧ _ ∧ _ ∧ _ ∧ _ ∧ _ ∧ _ ∧ _ ∧ _ ∧ _ ∧ _ := ⟨hr, lk_old hr, ho, lk_old ho, gl, l5, t5, z5, z6, ill, oll, bll, q0, q3, q4⟩
 simp only [push_cast, simprocAttr, c5R, c5_vals, iL_vals, bl_vals, ↓zb, Int.le_refl, Nat.le_refl, Int.toNat_natCast, bl_set, pk_1]
 apply hK;clear hK K
 refine AW.seq_k fun K hK => ?_
 refine AW.sr 1 fun K hK => ?_
 simp only [push_cast, simprocAttr, c5R, c5_vals, iL_vals, bl_vals, ↓zb, Int.le_refl, Nat.le_refl, Int.toNat_natCast, bl_set, pk_1]
 apply hK;clear hK K
 refine AW.block ?_
 refine AW.loopK [0, 1, 2, 7, 8] (fun i => i ≤ n) (fun i => [(9, .one (.int .i64 (KK i : Int))), (10, .one (.int .i64 (i : Int)))]) (fun i => [(m.length, ⟨.fix, 29, 0, 0, c5C (S i)⟩), (m.length + 1, ⟨.grow, 4, 0, 1, bl n (O i)⟩)]) (fun i => n - i) 0 (by omega) ?_ ?_ fun i hi2 => ?_
 · first | rfl | (simp only [KS, simprocAttr, hS0, hO0, hKz, Int.natCast_zero] <;> repeat' (first | rfl | apply And.intro))
 · simp only [setAll, push_cast, simprocAttr, hS0, hO0] <;> rfl
 try simp only [keepL, setAll, push_cast, simprocAttr, c5R, c5_vals, iL_vals, bl_vals, ↓zb, Int.le_refl, Nat.le_refl, Int.toNat_natCast, bl_set, pk_1]
 refine AW.seq_k fun K hK => ?_
 refine AW.sr 1 fun K hK => ?_
 simp only [push_cast, simprocAttr, c5R, c5_vals, iL_vals, bl_vals, ↓zb, Int.le_refl, Nat.le_refl, Int.toNat_natCast, bl_set, pk_1]
 apply hK;clear hK K
 refine AW.cond rfl (fun h20 => ?_) (fun h20 => ?_)
 ·have hlt : i < n := by have := of_decide_eq_true h20; omega
  have c1 : (0 : Int) ≤ (i : Int) := by omega
  have c2 : (i : Int) < (n : Int) := by omega
  have c3 : i * 5 + 5 ≤ n * 5 := by omega
  have hpi := hp i hlt
  have hpi1 : p i + 1 ≤ n := hpi
  have ga := catC5_at (X := X) hpi
  have go := iL_at (ordL_at (p := p) hlt)
  have d1 : (0 : Int) ≤ ((p i : Nat) : Int) := by omega
  have d2 : ((p i : Nat) : Int) < (n : Int) := by omega
  have d3 : p i * 5 + 5 ≤ n * 5 := by omega
  have hkl := hKl i
  have wk : IntKind.i64.wrap ((KK i : Int) + 1) = (KK i : Int) + 1 := wi (by omega)
  refine AW.skip ?_
  apply hK;clear hK K
  refine AW.seq_k fun K hK => ?_
  refine AW.block ?_
  refine AW.seq_k fun K hK => ?_
  refine AW.draw [.rd 0, .val, .val, .val, .val, .rd 0, .val, .rd 0, .ext, .fl, .wr] fol (by decide) (by kernel_rfl) ?_
  have pk_2 : _ ∧ _ ∧ _ ∧ _ ∧ _ ∧ _ ∧ _ ∧ _ ∧ _ ∧ _ ∧ _ ∧ _ ∧ _ := ⟨pk_1, c1, c2, c3, ga, go, hlt, d1, d2, d3, hpi, hpi1, wk⟩
  simp only [push_cast, simprocAttr, c5R, c5_vals, iL_vals, bl_vals, ↓zb, Int.le_refl, Nat.le_refl, Int.toNat_natCast, bl_set, pk_2]
  refine DCall.by0 (radd_c (S i) (X (p i)) _ (fun j => by have := hSb i j; omega) (fun j => by have := hX (p i) j; omega)) ?_
  simp only [push_cast, simprocAttr, c5R, c5_vals, iL_vals, bl_vals, ↓zb, Int.le_refl, Nat.le_refl, Int.toNat_natCast, bl_set, pk_2]
  apply hK;clear hK K
  refine AW.seq_k fun K hK => ?_
  have h8 : (¬ KK i < 8) ∨ (KK i < 8 ∧ fitsB (addF (S i) (X (p i))) b = true) ∨ (KK i < 8 ∧ fitsB (addF (S i) (X (p i))) b = false) := by
    cases fitsB (addF (S i) (X (p i))) b <;> simp <;> omega
  rcases h8 with q8 | ⟨q8, qf⟩ | ⟨q8, qf⟩
  ·have g8 : ¬ (KK i : Int) < 8 := by omega
   obtain ⟨hs1, hs2, hs3⟩ := hSn i (fun h => q8 h.1)
   refine AW.rg ?_
   simp only [push_cast, simprocAttr, c5R, c5_vals, iL_vals, bl_vals, ↓zb, Int.le_refl, Nat.le_refl, Int.toNat_natCast, bl_set, pk_2, g8]
   apply hK;clear hK K
   refine AW.cond_f rfl ?_
   refine AW.skip ?_
   refine InB_n ?_
   apply hK;clear hK K
   refine AW.rg ?_
   simp only [push_cast, simprocAttr, c5R, c5_vals, iL_vals, bl_vals, ↓zb, Int.le_refl, Nat.le_refl, Int.toNat_natCast, bl_set, pk_2, g8]
   refine Thn_n ?_
   have hwi : IntKind.i64.wrap ((i:Int)+1) = (i:Int)+1 := wi (by omega)
   refine ⟨i + 1, by omega, by omega, ?_⟩
   try simp only [keepL, setAll, push_cast, simprocAttr, c5R, c5_vals, iL_vals, bl_vals, ↓zb, Int.le_refl, Nat.le_refl, Int.toNat_natCast, bl_set, pk_2, g8, hwi, hs1, hs2, hs3]
   first
    | exact Weak.to (extra := [_]) (by simp only [KS, simprocAttr, hwi, hs1, hs2, hs3]) (by first | rfl | (simp only [List.append_assoc, List.cons_append, List.nil_append]; rfl)) (by first | rfl | (simp [AV.below, CV.below]; done) | (simp [AV.below, CV.below]; omega)) (by first | exact hwf | exact MWf.app (hwf.grow (by simp)) (MWf_cons (c5_below _ _) (MWf_cons (bl_below _ _ _) MWf_nil)))
    | exact Weak.to (extra := [_, _]) (by simp only [KS, simprocAttr, hwi, hs1, hs2, hs3]) (by first | rfl | (simp only [List.append_assoc, List.cons_append, List.nil_append]; rfl)) (by first | rfl | (simp [AV.below, CV.below]; done) | (simp [AV.below, CV.below]; omega)) (by first | exact hwf | exact MWf.app (hwf.grow (by simp)) (MWf_cons (c5_below _ _) (MWf_cons (bl_below _ _ _) MWf_nil)))
    | exact Weak.to (extra := [_, _, _]) (by simp only [KS, simprocAttr, hwi, hs1, hs2, hs3]) (by first | rfl | (simp only [List.append_assoc, List.cons_append, List.nil_append]; rfl)) (by first | rfl | (simp [AV.below, CV.below]; done) | (simp [AV.below, CV.below]; omega)) (by first | exact hwf | exact MWf.app (hwf.grow (by simp)) (MWf_cons (c5_below _ _) (MWf_cons (bl_below _ _ _) MWf_nil)))
  ·have g8 : (KK i : Int) < 8 := by omega
   obtain ⟨hs1, hs2, hs3⟩ := hSt i q8 qf
   refine AW.rg ?_
   simp only [push_cast, simprocAttr, c5R, c5_vals, iL_vals, bl_vals, ↓zb, Int.le_refl, Nat.le_refl, Int.toNat_natCast, bl_set, pk_2, g8, qf]
   refine CThen.by (rfits_c (addF (S i) (X (p i))) b _ h1 h2) ?_
   simp only [push_cast, simprocAttr, c5R, c5_vals, iL_vals, bl_vals, ↓zb, Int.le_refl, Nat.le_refl, Int.toNat_natCast, bl_set, pk_2, g8, qf]
   apply hK;clear hK K
   refine AW.cond_t rfl ?_
   refine AW.sr 2 fun K hK => ?_
   simp only [push_cast, simprocAttr, c5R, c5_vals, iL_vals, bl_vals, ↓zb, Int.le_refl, Nat.le_refl, Int.toNat_natCast, bl_set, pk_2, g8, qf]
   apply hK;clear hK K
   refine AW.rg ?_
   simp only [push_cast, simprocAttr, c5R, c5_vals, iL_vals, bl_vals, ↓zb, Int.le_refl, Nat.le_refl, Int.toNat_natCast, bl_set, pk_2, g8, qf]
   refine InB_n ?_
   apply hK;clear hK K
   refine AW.rg ?_
   simp only [push_cast, simprocAttr, c5R, c5_vals, iL_vals, bl_vals, ↓zb, Int.le_refl, Nat.le_refl, Int.toNat_natCast, bl_set, pk_2, g8, qf]
   refine Thn_n ?_
   have hwi : IntKind.i64.wrap ((i:Int)+1) = (i:Int)+1 := wi (by omega)
   refine ⟨i + 1, by omega, by omega, ?_⟩
   try simp only [keepL, setAll, push_cast, simprocAttr, c5R, c5_vals, iL_vals, bl_vals, ↓zb, Int.le_refl, Nat.le_refl, Int.toNat_natCast, bl_set, pk_2, g8, qf, hwi, hs1, hs2, hs3]
   first
    | exact Weak.to (extra := [_]) (by simp only [KS, simprocAttr, hwi, hs1, hs2, hs3]) (by first | rfl | (simp only [List.append_assoc, List.cons_append, List.nil_append]; rfl)) (by first | rfl | (simp [AV.below, CV.below]; done) | (simp [AV.below, CV.below]; omega)) (by first | exact hwf | exact MWf.app (hwf.grow (by simp)) (MWf_cons (c5_below _ _) (MWf_cons (bl_below _ _ _) MWf_nil)))
    | exact Weak.to (extra := [_, _]) (by simp only [KS, simprocAttr, hwi, hs1, hs2, hs3]) (by first | rfl | (simp only [List.append_assoc, List.cons_append, List.nil_append]; rfl)) (by first | rfl | (simp [AV.below, CV.below]; done) | (simp [AV.below, CV.below]; omega)) (by first | exact hwf | exact MWf.app (hwf.grow (by simp)) (MWf_cons (c5_below _ _) (MWf_cons (bl_below _ _ _) MWf_nil)))
    | exact Weak.to (extra := [_, _, _]) (by simp only [KS, simprocAttr, hwi, hs1, hs2, hs3]) (by first | rfl | (simp only [List.append_assoc, List.cons_append, List.nil_append]; rfl)) (by first | rfl | (simp [AV.below, CV.below]; done) | (simp [AV.below, CV.below]; omega)) (by first | exact hwf | exact MWf.app (hwf.grow (by simp)) (MWf_cons (c5_below _ _) (MWf_cons (bl_below _ _ _) MWf_nil)))
  ·have g8 : (KK i : Int) < 8 := by omega
   obtain ⟨hs1, hs2, hs3⟩ := hSn i (fun h => by rw [qf] at h; exact absurd h.2 (by decide))
   refine AW.rg ?_
   simp only [push_cast, simprocAttr, c5R, c5_vals, iL_vals, bl_vals, ↓zb, Int.le_refl, Nat.le_refl, Int.toNat_natCast, bl_set, pk_2, g8, qf]
   refine CThen.by (rfits_c (addF (S i) (X (p i))) b _ h1 h2) ?_
   simp only [push_cast, simprocAttr, c5R, c5_vals, iL_vals, bl_vals, ↓zb, Int.le_refl, Nat.le_refl, Int.toNat_natCast, bl_set, pk_2, g8, qf]
   apply hK;clear hK K
   refine AW.cond_f rfl ?_
   refine AW.skip ?_
   refine InB_n ?_
   apply hK;clear hK K
   refine AW.rg ?_
   simp only [push_cast, simprocAttr, c5R, c5_vals, iL_vals, bl_vals, ↓zb, Int.le_refl, Nat.le_refl, Int.toNat_natCast, bl_set, pk_2, g8, qf]
   refine Thn_n ?_
   have hwi : IntKind.i64.wrap ((i:Int)+1) = (i:Int)+1 := wi (by omega)
   refine ⟨i + 1, by omega, by omega, ?_⟩
   try simp only [keepL, setAll, push_cast, simprocAttr, c5R, c5_vals, iL_vals, bl_vals, ↓zb, Int.le_refl, Nat.le_refl, Int.toNat_natCast, bl_set, pk_2, g8, qf, hwi, hs1, hs2, hs3]
   first
    | exact Weak.to (extra := [_]) (by simp only [KS, simprocAttr, hwi, hs1, hs2, hs3]) (by first | rfl | (simp only [List.append_assoc, List.cons_append, List.nil_append]; rfl)) (by first | rfl | (simp [AV.below, CV.below]; done) | (simp [AV.below, CV.below]; omega)) (by first | exact hwf | exact MWf.app (hwf.grow (by simp)) (MWf_cons (c5_below _ _) (MWf_cons (bl_below _ _ _) MWf_nil)))
    | exact Weak.to (extra := [_, _]) (by simp only [KS, simprocAttr, hwi, hs1, hs2, hs3]) (by first | rfl | (simp only [List.append_assoc, List.cons_append, List.nil_append]; rfl)) (by first | rfl | (simp [AV.below, CV.below]; done) | (simp [AV.below, CV.below]; omega)) (by first | exact hwf | exact MWf.app (hwf.grow (by simp)) (MWf_cons (c5_below _ _) (MWf_cons (bl_below _ _ _) MWf_nil)))
    | exact Weak.to (extra := [_, _, _]) (by simp only [KS, simprocAttr, hwi, hs1, hs2, hs3]) (by first | rfl | (simp only [List.append_assoc, List.cons_append, List.nil_append]; rfl)) (by first | rfl | (simp [AV.below, CV.below]; done) | (simp [AV.below, CV.below]; omega)) (by first | exact hwf | exact MWf.app (hwf.grow (by simp)) (MWf_cons (c5_below _ _) (MWf_cons (bl_below _ _ _) MWf_nil)))
 ·have hin : i = n := by have := of_decide_eq_false h20; omega
  rw [hin]
  refine AW.exit ?_
  refine Thn_e ?_
  clear hK K
  refine Thn_e ?_
  refine InB_here ?_
  apply hK;clear hK K
  refine AW.sr 1 fun K hK => ?_
  simp only [push_cast, simprocAttr, c5R, c5_vals, iL_vals, bl_vals, ↓zb, Int.le_refl, Nat.le_refl, Int.toNat_natCast, bl_set, pk_1]
  apply hK;clear hK K
  refine AW.seq_k fun K hK => ?_
  refine AW.sr 1 fun K hK => ?_
  simp only [push_cast, simprocAttr, c5R, c5_vals, iL_vals, bl_vals, ↓zb, Int.le_refl, Nat.le_refl, Int.toNat_natCast, bl_set, pk_1]
  apply hK;clear hK K
  refine AW.block ?_
  refine AW.nilTm 3 1 12 rfl ?_
  try simp only [push_cast, simprocAttr, c5R, c5_vals, iL_vals, bl_vals, ↓zb, Int.le_refl, Nat.le_refl, Int.toNat_natCast, bl_set, pk_1]
  refine AW.loopK [1, 8] (fun j => j ≤ n) (fun j => [(12, .one (.sl (m.length + 2) (outL (O n) j).length 0 (outL (O n) j).length)), (13, .one (.int .i64 (j : Int)))]) (fun j => [(m.length + 2, ⟨.grow, 3, (outL (O n) j).length, 1, iL (outL (O n) j)⟩)]) (fun j => n - j) 0 (by omega) ?_ ?_ fun j hi8 => ?_
  · first | rfl | (simp only [KS, simprocAttr, outL, Int.natCast_zero, List.length_nil] <;> repeat' (first | rfl | apply And.intro))
  · simp only [setAll, push_cast, simprocAttr, outL] <;> rfl
  try simp only [keepL, setAll, push_cast, simprocAttr, c5R, c5_vals, iL_vals, bl_vals, ↓zb, Int.le_refl, Nat.le_refl, Int.toNat_natCast, bl_set, pk_1]
  refine AW.seq_k fun K hK => ?_
  refine AW.sr 1 fun K hK => ?_
  simp only [push_cast, simprocAttr, c5R, c5_vals, iL_vals, bl_vals, ↓zb, Int.le_refl, Nat.le_refl, Int.toNat_natCast, bl_set, pk_1]
  apply hK;clear hK K
  refine AW.cond rfl (fun h51 => ?_) (fun h51 => ?_)
  ·have hlt : j < n := by have := of_decide_eq_true h51; omega
   have c1 : (0 : Int) ≤ (j : Int) := by omega
   have c2 : (j : Int) < (n : Int) := by omega
   have gb := bl_get (f := O n) hlt
   have hol := outL_len (O n) j
   have q1 : (outL (O n) j).length ≤ 140737488355327 := by omega
   have q2 : ((outL (O n) j).length + 1) * 8 ≤ 140737488355328 := by omega
   refine AW.skip ?_
   apply hK;clear hK K
   refine AW.seq_k fun K hK => ?_
   refine AW.block ?_
   refine AW.sr 1 fun K hK => ?_
   have pk_3 : _ ∧ _ ∧ _ ∧ _ ∧ _ ∧ _ ∧ _ := ⟨pk_1, c1, c2, gb, q1, q2, hlt⟩
   simp only [push_cast, simprocAttr, c5R, c5_vals, iL_vals, bl_vals, ↓zb, Int.le_refl, Nat.le_refl, Int.toNat_natCast, bl_set, iL_snoc, pk_3]
   apply hK;clear hK K
   refine AW.cond rfl (fun h57 => ?_) (fun h57 => ?_)
   ·have hu : outL (O n) (j + 1) = outL (O n) j ++ [(j : Int)] := if_pos h57
    have hu2 : (outL (O n) j ++ [(j : Int)]).length = (outL (O n) j).length + 1 := by simp
    refine AW.rg ?_
    simp only [push_cast, simprocAttr, c5R, c5_vals, iL_vals, bl_vals, ↓zb, Int.le_refl, Nat.le_refl, Int.toNat_natCast, bl_set, iL_snoc, pk_3]
    refine InB_n ?_
    apply hK;clear hK K
    refine AW.rg ?_
    simp only [push_cast, simprocAttr, c5R, c5_vals, iL_vals, bl_vals, ↓zb, Int.le_refl, Nat.le_refl, Int.toNat_natCast, bl_set, iL_snoc, pk_3]
    refine Thn_n ?_
    have hwi : IntKind.i64.wrap ((j:Int)+1) = (j:Int)+1 := wi (by omega)
    refine ⟨j + 1, by omega, by omega, ?_⟩
    try simp only [keepL, setAll, push_cast, simprocAttr, c5R, c5_vals, iL_vals, bl_vals, ↓zb, Int.le_refl, Nat.le_refl, Int.toNat_natCast, bl_set, iL_snoc, pk_3, hwi, hu, hu2]
    first
     | exact Weak.same (by simp only [KS, simprocAttr, hwi, hu, hu2]) (by first | rfl | simp only [KS, simprocAttr, hwi, hu, hu2])
     | exact Weak.to (extra := [_]) (by simp only [KS, simprocAttr, hwi, hu, hu2]) (by first | rfl | (simp only [List.append_assoc, List.cons_append, List.nil_append]; rfl)) (by first | rfl | (simp [AV.below, CV.below]; done) | (simp [AV.below, CV.below]; omega)) (by first | exact hwf | exact MWf.app (hwf.grow (by simp)) (MWf_cons (c5_below _ _) (MWf_cons (bl_below _ _ _) (MWf_cons (iL_below _ _) MWf_nil))))
   ·have hu : outL (O n) (j + 1) = outL (O n) j := if_neg (by rw [h57]; decide)
    have hu2 := True.intro
    refine AW.skip ?_
    refine InB_n ?_
    apply hK;clear hK K
    refine AW.rg ?_
    simp only [push_cast, simprocAttr, c5R, c5_vals, iL_vals, bl_vals, ↓zb, Int.le_refl, Nat.le_refl, Int.toNat_natCast, bl_set, iL_snoc, pk_3]
    refine Thn_n ?_
    have hwi : IntKind.i64.wrap ((j:Int)+1) = (j:Int)+1 := wi (by omega)
    refine ⟨j + 1, by omega, by omega, ?_⟩
    try simp only [keepL, setAll, push_cast, simprocAttr, c5R, c5_vals, iL_vals, bl_vals, ↓zb, Int.le_refl, Nat.le_refl, Int.toNat_natCast, bl_set, iL_snoc, pk_3, hwi, hu, hu2]
    first
     | exact Weak.same (by simp only [KS, simprocAttr, hwi, hu, hu2]) (by first | rfl | simp only [KS, simprocAttr, hwi, hu, hu2])
     | exact Weak.to (extra := [_]) (by simp only [KS, simprocAttr, hwi, hu, hu2]) (by first | rfl | (simp only [List.append_assoc, List.cons_append, List.nil_append]; rfl)) (by first | rfl | (simp [AV.below, CV.below]; done) | (simp [AV.below, CV.below]; omega)) (by first | exact hwf | exact MWf.app (hwf.grow (by simp)) (MWf_cons (c5_below _ _) (MWf_cons (bl_below _ _ _) (MWf_cons (iL_below _ _) MWf_nil))))
  ·have hjn : j = n := by have := of_decide_eq_false h51; omega
   rw [hjn]
   refine AW.exit ?_
   refine Thn_e ?_
   clear hK K
   refine Thn_e ?_
   refine InB_here ?_
   apply hK;clear hK K
   refine AW.sr 1 fun K hK => ?_
   simp only [push_cast, simprocAttr, c5R, c5_vals, iL_vals, bl_vals, ↓zb, Int.le_refl, Nat.le_refl, Int.toNat_natCast, bl_set, pk_1]
   apply hK;clear hK K
   refine AW.ret ?_
   refine hQ _ _ _ ?_
   refine RetP.pick [(m.length + 2, (outL (O n) n).length)] (by first | exact Or.inr rfl | exact Or.inl rfl) ?_ ?_ ?_ hwf ?_
   · simp only [resA, resOne, resTv, AV.tv, push_cast, simprocAttr]
     simp [renV, renT, renL, renC, renIdx, hlt0]
   · simp only [picks, push_cast, simprocAttr]
   · simp [distinctFrom]
   · exact MWf_cons (iL_below _ _) MWf_nil
theorem mk_self {m l : AMem} {r : Nat} (h : l.length = m.length) (hr : r < m.length) (b : Blk) : (l.set r b)[r]? = some b := List.getElem?_set_self (by omega)
theorem mk_olds {m l : AMem} {r : Nat} (h : l.length = m.length) (hr : r < m.length) (L : AMem) (b : Blk) : (l ++ L).set r b = l.set r b ++ L := List.set_append_left _ _ (by rw [h]; exact hr)
theorem mk_old {m l : AMem} {r : Nat} (h : l.length = m.length) (hr : r < m.length) (L : AMem) : (l ++ L)[r]? = l[r]? := List.getElem?_append_left (by omega)
theorem set_self {l : AMem} {r : Nat} {b : Blk} (h : l[r]? = some b) : l.set r b = l := by
 refine List.ext_getElem? fun i => ?_
 rw [List.getElem?_set]
 split
 ·rename_i e; subst e; rw [h]; rw [if_pos (get_lt h)]
 ·rfl
theorem MWf_setB {L : Nat} {m : AMem} {r : Nat} {b : Blk} (h : MWf L m) (hb : b.cells.all (CV.below L) = true) (hk : b.kind.below L = true) : MWf L (m.set r b) := fun c hc => by
 rcases List.mem_or_eq_of_mem_set hc with h1 | h1
 ·exact h c h1
 ·rw [h1]; exact blk_below hk hb
theorem il_set1 {n : Nat} {f : Nat → Int} {j : Nat} {x : Int} : (il n f).set j (.int .i64 x) = il n (fun i => if i = j then x else f i) := by
 refine il_of (by rw [List.length_set, il_len]) fun i hi => ?_
 rw [List.getElem?_set]
 by_cases e : j = i
 ·subst e; rw [if_pos rfl, if_pos (by rw [il_len]; exact hi)]; simp
 ·rw [if_neg e, il_get hi, if_neg (fun h => e h.symm)]
theorem il_sw {α : Type} {e : α → Int} {n : Nat} (g : Nat → α) {j y : Nat} (hj : j < n) (hy : y < n) : ((il n fun i => e (g i)).set j (.int .i64 (e (g y)))).set y (.int .i64 (e (g j))) = il n fun i => e (swF g j y i) := by
 rw [il_set1, il_set1]
 refine il_congr fun i _ => ?_
 unfold swF
 by_cases h1 : i = j
 ·rw [if_pos h1, if_pos h1]
  by_cases h2 : i = y
  ·rw [if_pos h2, ← h2, h1]
  ·rw [if_neg h2]
 ·rw [if_neg h1, if_neg h1]
  split <;> rfl
section
variable {α : Type} (key : α → Int)
theorem sink_go {f : Nat → α} {a y : Nat} (h1 : a < y + 1) (h2 : key (f (y + 1)) < key (f y)) : sink key a y (swF f (y + 1) y) = sink key a (y + 1) f := by
 show _ = (if a < y + 1 ∧ key (f (y + 1)) < key (f y) then _ else _)
 rw [if_pos ⟨h1, h2⟩]
theorem sink_end {f : Nat → α} {a y : Nat} (h2 : ¬ key (f (y + 1)) < key (f y)) : sink key a (y + 1) f = f := by
 show (if a < y + 1 ∧ key (f (y + 1)) < key (f y) then _ else _) = _
 rw [if_neg fun h => h2 h.2]
variable {key}
theorem sink_stop {f : Nat → α} {a : Nat} : ∀ {j : Nat}, j ≤ a → sink key a j f = f
 | 0, _ => rfl
 | j + 1, h => by
  show (if a < j + 1 ∧ key (f (j + 1)) < key (f j) then _ else _) = _
  rw [if_neg fun h2 => by omega]
end
def Lt (n N : Nat) (f : Nat → Nat) : Prop := ∀ x, x < n → f x < N
theorem Lt.perm {n N : Nat} {f g : Nat → Nat} (h : Lt n N f) (hp : PermOn 0 n f g) : Lt n N g := fun x hx => by
 obtain ⟨y, _, h2, h3⟩ := hp.src (x := x) ⟨Nat.zero_le _, hx⟩
 rw [h3]; exact h y h2
theorem Lt.sw {n N : Nat} {f : Nat → Nat} (h : Lt n N f) {i j : Nat} (hi : i < n) (hj : j < n) : Lt n N (swF f i j) := fun x hx => by
 unfold swF; (repeat' split) <;> first | exact h _ hi | exact h _ hj | exact h _ hx
theorem ch1_c (N : Nat) (a b : Nat) (m : AMem) (ha : a < N) (hbb : b < N) (r0 v0 rb : Nat) (X : Nat → Nat → Int) (hX : Sm X) (hN : N ≤ 1000) (hb : m[rb]? = some ⟨.fix, 23, 0, 0, [.sl r0 v0 0 N]⟩) (h0 : m[r0]? = some (c5R 34 v0 N X)) : Ctr Tryz.prog 24 [.one (.int .i64 (a : Int)), .one (.int .i64 (b : Int)), .one (.ptr rb 0 0)] m (.one (.int .i64 (X a 4 - X b 4))) m := by
 refine Ctr.enter Tryz.func24 rfl (by decide) (rs := [.tmp 5]) (nt := 17) rfl rfl fun hwf Q hQ => ?_
 have gl := catC5_len X N
 have ga := catC_get (w := 5) (F := fun i => c5C (X i)) (n := N) (k := a) (a := 4) (fun _ => rfl) ha (by decide)
 have gb := catC_get (w := 5) (F := fun i => c5C (X i)) (n := N) (k := b) (a := 4) (fun _ => rfl) hbb (by decide)
 have ga : (catC N fun i => c5C (X i))[a * 5 + 4]? = some (.int .i64 (X a 4)) := ga
 have gb : (catC N fun i => c5C (X i))[b * 5 + 4]? = some (.int .i64 (X b 4)) := gb
 have w : IntKind.i64.wrap (X a 4 - X b 4) = X a 4 - X b 4 := wi (by have := hX a 4; have := hX b 4; omega)
 have a0 : (0 : Int) ≤ (a : Int) := by omega
 have a1 : (a : Int) < (N : Int) := by omega
 have b0 : (0 : Int) ≤ (b : Int) := by omega
 have b1 : (b : Int) < (N : Int) := by omega
 have a2 : a * 5 + 5 ≤ N * 5 := by omega
 have b2 : b * 5 + 5 ≤ N * 5 := by omega
 have a3 : a * 5 + 4 + 1 ≤ N * 5 := by omega
 have b3 : b * 5 + 4 + 1 ≤ N * 5 := by omega
 refine AW.sr 1 fun K hK => ?_
 have pk_1 : _ ∧ _ ∧ _ ∧ _ ∧ _ ∧ _ ∧ _ ∧ _ ∧ _ ∧ _ ∧ _ ∧ _ ∧ _ ∧ _ ∧ _ ∧ _ := ⟨hb, h0, gl, ga, gb, w, a0, a1, b0, b1, a2, b2, a3, b3, ha, hbb⟩
 simp only [push_cast, simprocAttr, c5R, pk_1]
 apply hK;clear hK K
 refine AW.seq_k fun K hK => ?_
 refine AW.draw [.rd 0, .val, .val, .val, .rd 0, .rd 0, .val, .val, .val, .rd 0, .val, .val] fol (by decide) (by kernel_rfl) ?_
 simp only [push_cast, simprocAttr, c5R, pk_1]
 apply hK;clear hK K
 refine AW.ret ?_
 refine hQ _ _ _ ?_
 first | refine RetP.drop0 (Or.inr rfl) ?_ ?_ hwf | refine RetP.drop (Or.inr rfl) ?_ ?_ hwf
 · simp only [resA, resOne, resTv, AV.tv, push_cast, simprocAttr, c5R, pk_1]
 · rfl
theorem insc_c (rs v n : Nat) (f : Nat → Nat) (m : AMem) (hr : m[rs]? = some ⟨.grow, 3, v, 1, il n (fun z => (((f) z : Nat) : Int))⟩) (hn : n ≤ 1000) (A B : Nat) (hB : B ≤ n) (hA : A ≤ n) (r0 v0 N rb : Nat) (X : Nat → Nat → Int) (hX : Sm X) (hN : N ≤ 1000) (hb : m[rb]? = some ⟨.fix, 23, 0, 0, [.sl r0 v0 0 N]⟩) (h0 : m[r0]? = some (c5R 34 v0 N X)) (hf : Lt n N f) (nb : rb ≠ rs) (n0 : r0 ≠ rs) : Ctr Tryz.prog 67 [.one (.sl rs v 0 n), .one (.int .i64 (A : Int)), .one (.int .i64 (B : Int)), .one (.fn 24 [(rb, 0, 0)])] m (.tup []) (m.set rs ⟨.grow, 3, v, 1, il n (fun z => (((insS (fun e => X e 4) A (B - A - 1) f) z : Nat) : Int))⟩) := by
 refine Ctr.enter Tryz.func67 rfl (by decide) (rs := []) (nt := 53) rfl rfl fun hwf Q hQ => ?_
 have obx := fun (b : Blk) => (show (m.set rs b)[rb]? = some ⟨.fix, 23, 0, 0, [.sl r0 v0 0 N]⟩ from by rw [List.getElem?_set_ne nb.symm]; exact hb)
 have ob0 := fun (b : Blk) => (show (m.set rs b)[r0]? = some (c5R 34 v0 N X) from by rw [List.getElem?_set_ne n0.symm]; exact h0)
 have lr := get_lt hr
 have gS := fun (l : AMem) (b : Blk) (e : l.length = m.length) => mk_self (m := m) (l := l) (r := rs) e lr b
 have sS := fun (l L : AMem) (e : l.length = m.length) => mk_olds (m := m) (l := l) (r := rs) e lr L
 have kS := fun (l L : AMem) (e : l.length = m.length) => mk_old (m := m) (l := l) (r := rs) e lr L
 have hr2 : m.set rs ⟨.grow, 3, v, 1, il n (fun z => (((f) z : Nat) : Int))⟩ = m := set_self hr
 have hwfM : ∀ g : Nat → Nat, MWf m.length (m.set rs ⟨.grow, 3, v, 1, il n (fun z => (((g) z : Nat) : Int))⟩) := fun g => MWf_setB hwf (il_below _ _ _) rfl
 have ill := il_len n
 obtain ⟨a1, ha1⟩ : ∃ z : Nat, z = A + 1 := ⟨_, rfl⟩
 have wa1 : IntKind.i64.wrap ((A : Int) + 1) = (a1 : Int) := by rw [wi (by omega)]; omega
 have hst0 : m.set rs ⟨.grow, 3, v, 1, il n (fun z => (((insS (fun e => X e 4) A (a1 - A - 1) f) z : Nat) : Int))⟩ = m := by rw [show a1 - A - 1 = 0 by omega]; exact hr2
 refine AW.sr 1 fun K hK => ?_
 have pk_2 : _ ∧ _ ∧ _ ∧ _ ∧ _ ∧ _ ∧ _ ∧ _ ∧ _ ∧ _ ∧ _ ∧ _ := ⟨gS, sS, kS, hr, ill, wa1, hb, lk_old hb, h0, lk_old h0, obx, ob0⟩
 simp only [push_cast, simprocAttr, List.set_set, List.length_set, pk_2]
 apply hK;clear hK K
 refine AW.block ?_
 refine AW.loopK [0, 1, 2, 3] (fun i => A + 1 ≤ i ∧ (i ≤ B ∨ i = A + 1)) (fun i => [(8, .one (.int .i64 (i : Int)))]) (fun i => [(rs, ⟨.grow, 3, v, 1, il n (fun z => (((insS (fun e => X e 4) A (i - A - 1) f) z : Nat) : Int))⟩)]) (fun i => B - i) a1 (by omega) ?_ ?_ fun i hi1 => ?_
 · first | rfl | (simp only [KS, simprocAttr, wa1] <;> repeat' (first | rfl | apply And.intro))
 · exact hst0
 try simp only [keepL, setAll, push_cast, simprocAttr, List.set_set, List.length_set, pk_2]
 refine AW.seq_k fun K hK => ?_
 refine AW.sr 1 fun K hK => ?_
 simp only [push_cast, simprocAttr, List.set_set, List.length_set, pk_2]
 apply hK;clear hK K
 refine AW.cond rfl (fun h14 => ?_) (fun h14 => ?_)
 ·have hlt : i < B := by have := of_decide_eq_true h14; omega
  refine AW.skip ?_
  apply hK;clear hK K
  refine AW.seq_k fun K hK => ?_
  refine AW.block ?_
  refine AW.sr 1 fun K hK => ?_
  simp only [push_cast, simprocAttr, List.set_set, List.length_set, pk_2]
  apply hK;clear hK K
  refine AW.block ?_
  refine AW.loopK [0, 1, 2, 3, 8] (fun (q : Nat × (Nat → Nat)) => A ≤ q.1 ∧ q.1 ≤ i ∧ sink (fun e => X e 4) A q.1 q.2 = insS (fun e => X e 4) A (i - A) f ∧ Lt n N (q.2)) (fun (q : Nat × (Nat → Nat)) => [(9, .one (.int .i64 (q.1 : Int)))]) (fun (q : Nat × (Nat → Nat)) => [(rs, ⟨.grow, 3, v, 1, il n (fun z => (((q.2) z : Nat) : Int))⟩)]) (fun (q : Nat × (Nat → Nat)) => q.1) (i, insS (fun e => X e 4) A (i - A - 1) f) ⟨by show A ≤ i; omega, Nat.le_refl _, by show sink (fun e => X e 4) A i _ = _; rw [show i - A = (i - A - 1) + 1 by omega, insS, show A + (i - A - 1) + 1 = i by omega]; rfl, hf.perm ((insS_perm (fun e => X e 4) A f (i - A - 1)).wide (Nat.zero_le _) (by omega))⟩ ?_ ?_ fun (q : Nat × (Nat → Nat)) hi4 => ?_
  · first | rfl | (simp only [KS, simprocAttr] <;> repeat' (first | rfl | apply And.intro))
  · first | rfl | (simp only [setAll, push_cast, simprocAttr, List.set_set, List.length_set, pk_2] <;> rfl)
  obtain ⟨j, g⟩ := q
  obtain ⟨i1, i2, i3, i4⟩ := hi4
  simp only at i1 i2 i3 i4
  try simp only [keepL, setAll, push_cast, simprocAttr, List.set_set, List.length_set, pk_2]
  refine AW.seq_k fun K hK => ?_
  refine AW.seq_k fun K hK => ?_
  rcases Nat.lt_or_ge A j with hj | hj
  ·have cj : (A : Int) < (j : Int) := by omega
   obtain ⟨y, hy⟩ : ∃ z : Nat, z = j - 1 := ⟨_, rfl⟩
   have wy : IntKind.i64.wrap ((j : Int) - 1) = (y : Int) := by rw [wi (by omega)]; omega
   have gj := il_get (f := fun z => ((g z : Nat) : Int)) (n := n) (i := j) (by omega)
   have c0j : (0 : Int) ≤ (j : Int) := by omega
   have c1j : (j : Int) < (n : Int) := by omega
   have c2j : j < n := by omega
   have c3j : j + 1 ≤ n := by omega
   have gy := il_get (f := fun z => ((g z : Nat) : Int)) (n := n) (i := y) (by omega)
   have c0y : (0 : Int) ≤ (y : Int) := by omega
   have c1y : (y : Int) < (n : Int) := by omega
   have c2y : y < n := by omega
   have c3y : y + 1 ≤ n := by omega
   refine AW.draw [.val, .val, .val, .val, .val, .val, .val, .val, .rd 0, .val, .val, .val, .val, .rd 0, .ext, .val, .val] fol (by decide) (by kernel_rfl) ?_
   have pk_3 : _ ∧ _ ∧ _ ∧ _ ∧ _ ∧ _ ∧ _ ∧ _ ∧ _ ∧ _ ∧ _ ∧ _ ∧ _ := ⟨pk_2, cj, wy, gj, c0j, c1j, c2j, c3j, gy, c0y, c1y, c2y, c3y⟩
   simp only [push_cast, simprocAttr, List.set_set, List.length_set, pk_3]
   refine DCall.by0 (ch1_c N (g j) (g y) _ (i4 j (by omega)) (i4 y (by omega)) r0 v0 rb X hX hN (by first | exact obx _ | exact lk_old (obx _) _) (by first | exact ob0 _ | exact lk_old (ob0 _) _)) ?_
   simp only [push_cast, simprocAttr, List.set_set, List.length_set, pk_3]
   apply hK;clear hK K
   refine AW.cond rfl (fun h34 => ?_) (fun h34 => ?_)
   ·have hk : X (g j) 4 < X (g y) 4 := by have := of_decide_eq_true h34; omega
    have hjy : j = y + 1 := by omega
    have hsw : ((il n fun z => ((g z : Nat) : Int)).set j (.int .i64 (((g y : Nat) : Int)))).set y (.int .i64 (((g j : Nat) : Int))) = il n fun z => ((swF g j y z : Nat) : Int) := il_sw (e := fun x => ((x : Nat) : Int)) g (by omega) (by omega)
    obtain ⟨nx, hnx, hnI, hnmu⟩ : ∃ nx : Nat × (Nat → Nat), nx = (y, swF g j y) ∧ (A ≤ nx.1 ∧ nx.1 ≤ i ∧ sink (fun e => X e 4) A nx.1 nx.2 = insS (fun e => X e 4) A (i - A) f ∧ Lt n N (nx.2)) ∧ nx.1 < j := ⟨_, rfl, ⟨by show A ≤ y; omega, by show y ≤ i; omega, by show sink (fun e => X e 4) A y (swF g j y) = _; rw [hjy] at i3 hk ⊢; rw [sink_go (fun e => X e 4) (by omega) hk]; exact i3, i4.sw (by omega) (by omega)⟩, by show y < j; omega⟩
    refine AW.skip ?_
    apply hK;clear hK K
    refine AW.seq_k fun K hK => ?_
    refine AW.block ?_
    refine AW.draw [.val, .val, .val, .val, .val, .val, .val, .val, .val, .rd 0, .val, .val, .val, .rd 0, .val, .wr, .val, .wr] fol (by decide) (by kernel_rfl) ?_
    simp only [push_cast, simprocAttr, List.set_set, List.length_set, pk_3, hsw]
    refine InB_n ?_
    apply hK;clear hK K
    refine AW.rg ?_
    simp only [push_cast, simprocAttr, List.set_set, List.length_set, pk_3, hsw]
    refine Thn_n ?_
    refine ⟨nx, hnI, hnmu, ?_⟩
    try simp only [keepL, setAll, push_cast, simprocAttr, List.set_set, List.length_set, pk_3, hsw, hnx]
    exact Weak.same (by simp only [KS, simprocAttr, hnx]) (by first | rfl | simp only [KS, simprocAttr, hnx])
   ·have hk : ¬ X (g j) 4 < X (g y) 4 := by have := of_decide_eq_false h34; omega
    have hjy : j = y + 1 := by omega
    have hE : sink (fun e => X e 4) A j g = g := by rw [hjy] at hk ⊢; exact sink_end (fun e => X e 4) hk
    refine AW.exit ?_
    refine Thn_e ?_
    clear hK K
    refine Thn_e ?_
    refine InB_here ?_
    refine InB_n ?_
    apply hK;clear hK K
    refine AW.rg ?_
    simp only [push_cast, simprocAttr, List.set_set, List.length_set, pk_3]
    refine Thn_n ?_
    obtain ⟨i1, hi1⟩ : ∃ z : Nat, z = i + 1 := ⟨_, rfl⟩
    have wi1 : IntKind.i64.wrap ((i : Int) + 1) = (i1 : Int) := by rw [wi (by omega)]; omega
    have hnx : insS (fun e => X e 4) A (i1 - A - 1) f = g := by rw [show i1 - A - 1 = i - A by omega, ← i3, hE]
    refine ⟨i1, by omega, by omega, ?_⟩
    try simp only [keepL, setAll, push_cast, simprocAttr, List.set_set, List.length_set, pk_3, wi1, hnx]
    exact Weak.same (by simp only [KS, simprocAttr, wi1, hnx]) (by first | rfl | simp only [KS, simprocAttr, wi1, hnx])
  ·have cj : ¬ (A : Int) < (j : Int) := by omega
   have hE : sink (fun e => X e 4) A j g = g := sink_stop (by omega)
   refine AW.draw [.val, .val, .val, .val, .val, .val, .val, .val, .rd 0, .val, .val, .val, .val, .rd 0, .ext, .val, .val] fol (by decide) (by kernel_rfl) ?_
   simp only [push_cast, simprocAttr, List.set_set, List.length_set, pk_2, cj]
   apply hK;clear hK K
   refine AW.cond_f rfl ?_
   refine AW.exit ?_
   refine Thn_e ?_
   clear hK K
   refine Thn_e ?_
   refine InB_here ?_
   refine InB_n ?_
   apply hK;clear hK K
   refine AW.rg ?_
   simp only [push_cast, simprocAttr, List.set_set, List.length_set, pk_2, cj]
   refine Thn_n ?_
   obtain ⟨i1, hi1⟩ : ∃ z : Nat, z = i + 1 := ⟨_, rfl⟩
   have wi1 : IntKind.i64.wrap ((i : Int) + 1) = (i1 : Int) := by rw [wi (by omega)]; omega
   have hnx : insS (fun e => X e 4) A (i1 - A - 1) f = g := by rw [show i1 - A - 1 = i - A by omega, ← i3, hE]
   refine ⟨i1, by omega, by omega, ?_⟩
   try simp only [keepL, setAll, push_cast, simprocAttr, List.set_set, List.length_set, pk_2, cj, wi1, hnx]
   exact Weak.same (by simp only [KS, simprocAttr, wi1, hnx]) (by first | rfl | simp only [KS, simprocAttr, wi1, hnx])
 ·have hge : B ≤ i := by have := of_decide_eq_false h14; omega
  have hfin : insS (fun e => X e 4) A (i - A - 1) f = insS (fun e => X e 4) A (B - A - 1) f := by rw [show i - A - 1 = B - A - 1 by omega]
  refine AW.exit ?_
  refine Thn_e ?_
  clear hK K
  refine Thn_e ?_
  refine InB_here ?_
  refine hQ _ _ _ ?_
  rw [hfin]
  first | refine RetP.dropM0 (by rw [List.length_set]) (by first | exact Or.inr rfl | exact Or.inl rfl) ?_ ?_ (hwfM _) | refine RetP.dropM (by rw [List.length_set]) (by first | exact Or.inr rfl | exact Or.inl rfl) ?_ ?_ (hwfM _)
  · rfl
  · rfl
theorem stable_c (rs v n : Nat) (f : Nat → Nat) (m : AMem) (hr : m[rs]? = some ⟨.grow, 3, v, 1, il n (fun z => ((f z : Nat) : Int))⟩) (hn : n ≤ 12) (r0 v0 N rb : Nat) (X : Nat → Nat → Int) (hX : Sm X) (hN : N ≤ 1000) (hb : m[rb]? = some ⟨.fix, 23, 0, 0, [.sl r0 v0 0 N]⟩) (h0 : m[r0]? = some (c5R 34 v0 N X)) (hf : Lt n N f) (nb : rb ≠ rs) (n0 : r0 ≠ rs) : Ctr Tryz.prog 42 [.one (.sl rs v 0 n), .one (.int .i64 (n : Int)), .one (.fn 24 [(rb, 0, 0)])] m (.tup []) (m.set rs ⟨.grow, 3, v, 1, il n (fun z => ((insS (fun e => X e 4) 0 (n - 1) f z : Nat) : Int))⟩) := by
 refine Ctr.enter Tryz.func42 rfl (by decide) (rs := []) (nt := 63) rfl rfl fun hwf Q hQ => ?_
 have hwfM : MWf m.length (m.set rs ⟨.grow, 3, v, 1, il n (fun z => ((insS (fun e => X e 4) 0 (n - 1) f z : Nat) : Int))⟩) := MWf_setB hwf (il_below _ _ _) rfl
 have g1 : ¬ (20 : Int) ≤ (n : Int) := by omega
 have g2 : ¬ (20 : Int) < (n : Int) := by omega
 have e1 : n - 0 - 1 = n - 1 := by omega
 refine AW.sr 2 fun K hK => ?_
 simp only [push_cast, simprocAttr, g1, g2]
 apply hK;clear hK K
 refine AW.seq_k fun K hK => ?_
 refine AW.block ?_
 refine AW.rounds 1 ?_
 refine ARounds.succ fun K hK => ?_
 refine AW.seq_k fun K hK => ?_
 refine AW.sr 1 fun K hK => ?_
 simp only [push_cast, simprocAttr, g1, g2]
 apply hK;clear hK K
 refine AW.cond_f rfl ?_
 refine AW.exit ?_
 refine Thn_e ?_
 clear hK K
 refine Thn_e ?_
 clear hK K
 refine InB_here ?_
 apply hK;clear hK K
 refine AW.sr 1 fun K hK => ?_
 simp only [push_cast, simprocAttr, g1, g2]
 refine CThen.by ((by have h := insc_c rs v n f m hr (by omega) 0 n (Nat.le_refl _) (Nat.zero_le _) r0 v0 N rb X hX hN hb h0 hf nb n0; rw [e1] at h; exact h)) ?_
 simp only [push_cast, simprocAttr, g1, g2]
 apply hK;clear hK K
 refine AW.block ?_
 refine AW.rounds 1 ?_
 refine ARounds.succ fun K hK => ?_
 refine AW.seq_k fun K hK => ?_
 refine AW.sr 1 fun K hK => ?_
 simp only [push_cast, simprocAttr, g1, g2]
 apply hK;clear hK K
 refine AW.cond_f rfl ?_
 refine AW.exit ?_
 refine Thn_e ?_
 clear hK K
 refine Thn_e ?_
 clear hK K
 refine InB_here ?_
 refine hQ _ _ _ ?_
 first | refine RetP.dropM0 (by rw [List.length_set]) (by first | exact Or.inr rfl | exact Or.inl rfl) ?_ ?_ hwfM | refine RetP.dropM (by rw [List.length_set]) (by first | exact Or.inr rfl | exact Or.inl rfl) ?_ ?_ hwfM
 · rfl
 · rfl
theorem sstable_c (rs v n : Nat) (f : Nat → Nat) (m : AMem) (hr : m[rs]? = some ⟨.grow, 3, v, 1, il n (fun z => ((f z : Nat) : Int))⟩) (hn : n ≤ 12) (r0 v0 N rb : Nat) (X : Nat → Nat → Int) (hX : Sm X) (hN : N ≤ 1000) (hb : m[rb]? = some ⟨.fix, 23, 0, 0, [.sl r0 v0 0 N]⟩) (h0 : m[r0]? = some (c5R 34 v0 N X)) (hf : Lt n N f) (nb : rb ≠ rs) (n0 : r0 ≠ rs) : Ctr Tryz.prog 23 [.one (.sl rs v 0 n), .one (.fn 24 [(rb, 0, 0)])] m (.tup []) (m.set rs ⟨.grow, 3, v, 1, il n (fun z => ((insS (fun e => X e 4) 0 (n - 1) f z : Nat) : Int))⟩) := by
 refine Ctr.enter Tryz.func23 rfl (by decide) (rs := []) (nt := 9) rfl rfl fun hwf Q hQ => ?_
 have hwfM : MWf m.length (m.set rs ⟨.grow, 3, v, 1, il n (fun z => ((insS (fun e => X e 4) 0 (n - 1) f z : Nat) : Int))⟩) := MWf_setB hwf (il_below _ _ _) rfl
 refine AW.rg ?_
 simp only [push_cast, simprocAttr]
 refine CThen.by (stable_c rs v n f m hr hn r0 v0 N rb X hX hN hb h0 hf nb n0) ?_
 simp only [push_cast, simprocAttr]
 refine hQ _ _ _ ?_
 first | refine RetP.dropM0 (by rw [List.length_set]) (by first | exact Or.inr rfl | exact Or.inl rfl) ?_ ?_ hwfM | refine RetP.dropM (by rw [List.length_set]) (by first | exact Or.inr rfl | exact Or.inl rfl) ?_ ?_ hwfM
 · rfl
 · rfl
theorem nan_c (x : Int) (m : AMem) : Ctr Tryz.prog 106 [.one (.int .i64 x)] m (.one (.bool false)) m := by
 refine Ctr.enter Tryz.func106 rfl (by decide) (rs := [.tmp 2]) (nt := 6) rfl rfl fun hwf Q hQ => ?_
 have bq := bne_self_eq_false x
 refine AW.sr 2 fun K hK => ?_
 simp only [push_cast, simprocAttr, bq]
 apply hK;clear hK K
 refine AW.ret ?_
 refine hQ _ _ _ ?_
 first | refine RetP.drop0 (Or.inr rfl) ?_ ?_ hwf | refine RetP.drop (Or.inr rfl) ?_ ?_ hwf
 · simp only [resA, resOne, resTv, AV.tv, push_cast, simprocAttr, bq]
 · rfl
theorem less_c (x y : Int) (m : AMem) : Ctr Tryz.prog 75 [.one (.int .i64 x), .one (.int .i64 y)] m (.one (.bool (decide (x < y)))) m := by
 refine Ctr.enter Tryz.func75 rfl (by decide) (rs := [.tmp 4]) (nt := 17) rfl rfl fun hwf Q hQ => ?_
 refine AW.sr 2 fun K hK => ?_
 simp only [push_cast, simprocAttr]
 refine CThen.by (nan_c x _) ?_
 simp only [push_cast, simprocAttr]
 apply hK;clear hK K
 refine AW.ret ?_
 refine hQ _ _ _ ?_
 first | refine RetP.drop0 (Or.inr rfl) ?_ ?_ hwf | refine RetP.drop (Or.inr rfl) ?_ ?_ hwf
 · simp only [resA, resOne, resTv, AV.tv, push_cast, simprocAttr]
 · rfl
def Any {α : Type} (f : Nat → α) : Prop := True
theorem inso_c (rs v n : Nat) (f : Nat → Int) (m : AMem) (hr : m[rs]? = some ⟨.grow, 3, v, 1, il n (fun z => (f) z)⟩) (hn : n ≤ 1000) (A B : Nat) (hB : B ≤ n) (hA : A ≤ n) : Ctr Tryz.prog 69 [.one (.sl rs v 0 n), .one (.int .i64 (A : Int)), .one (.int .i64 (B : Int))] m (.tup []) (m.set rs ⟨.grow, 3, v, 1, il n (fun z => (insS (fun e : Int => e) A (B - A - 1) f) z)⟩) := by
 refine Ctr.enter Tryz.func69 rfl (by decide) (rs := []) (nt := 49) rfl rfl fun hwf Q hQ => ?_
 have lr := get_lt hr
 have gS := fun (l : AMem) (b : Blk) (e : l.length = m.length) => mk_self (m := m) (l := l) (r := rs) e lr b
 have sS := fun (l L : AMem) (e : l.length = m.length) => mk_olds (m := m) (l := l) (r := rs) e lr L
 have kS := fun (l L : AMem) (e : l.length = m.length) => mk_old (m := m) (l := l) (r := rs) e lr L
 have hr2 : m.set rs ⟨.grow, 3, v, 1, il n (fun z => (f) z)⟩ = m := set_self hr
 have hwfM : ∀ g : Nat → Int, MWf m.length (m.set rs ⟨.grow, 3, v, 1, il n (fun z => (g) z)⟩) := fun g => MWf_setB hwf (il_below _ _ _) rfl
 have ill := il_len n
 obtain ⟨a1, ha1⟩ : ∃ z : Nat, z = A + 1 := ⟨_, rfl⟩
 have wa1 : IntKind.i64.wrap ((A : Int) + 1) = (a1 : Int) := by rw [wi (by omega)]; omega
 have hst0 : m.set rs ⟨.grow, 3, v, 1, il n (fun z => (insS (fun e : Int => e) A (a1 - A - 1) f) z)⟩ = m := by rw [show a1 - A - 1 = 0 by omega]; exact hr2
 refine AW.sr 1 fun K hK => ?_
 have pk_1 : _ ∧ _ ∧ _ ∧ _ ∧ _ ∧ _ := ⟨gS, sS, kS, hr, ill, wa1⟩
 simp only [push_cast, simprocAttr, List.set_set, List.length_set, pk_1]
 apply hK;clear hK K
 refine AW.block ?_
 refine AW.loopK [0, 1, 2] (fun i => A + 1 ≤ i ∧ (i ≤ B ∨ i = A + 1)) (fun i => [(6, .one (.int .i64 (i : Int)))]) (fun i => [(rs, ⟨.grow, 3, v, 1, il n (fun z => (insS (fun e : Int => e) A (i - A - 1) f) z)⟩)]) (fun i => B - i) a1 (by omega) ?_ ?_ fun i hi1 => ?_
 · first | rfl | (simp only [KS, simprocAttr, wa1] <;> repeat' (first | rfl | apply And.intro))
 · exact hst0
 try simp only [keepL, setAll, push_cast, simprocAttr, List.set_set, List.length_set, pk_1]
 refine AW.seq_k fun K hK => ?_
 refine AW.sr 1 fun K hK => ?_
 simp only [push_cast, simprocAttr, List.set_set, List.length_set, pk_1]
 apply hK;clear hK K
 refine AW.cond rfl (fun h12 => ?_) (fun h12 => ?_)
 ·have hlt : i < B := by have := of_decide_eq_true h12; omega
  refine AW.skip ?_
  apply hK;clear hK K
  refine AW.seq_k fun K hK => ?_
  refine AW.block ?_
  refine AW.sr 1 fun K hK => ?_
  simp only [push_cast, simprocAttr, List.set_set, List.length_set, pk_1]
  apply hK;clear hK K
  refine AW.block ?_
  refine AW.loopK [0, 1, 2, 6] (fun (q : Nat × (Nat → Int)) => A ≤ q.1 ∧ q.1 ≤ i ∧ sink (fun e : Int => e) A q.1 q.2 = insS (fun e : Int => e) A (i - A) f ∧ Any (q.2)) (fun (q : Nat × (Nat → Int)) => [(7, .one (.int .i64 (q.1 : Int)))]) (fun (q : Nat × (Nat → Int)) => [(rs, ⟨.grow, 3, v, 1, il n (fun z => (q.2) z)⟩)]) (fun (q : Nat × (Nat → Int)) => q.1) (i, insS (fun e : Int => e) A (i - A - 1) f) ⟨by show A ≤ i; omega, Nat.le_refl _, by show sink (fun e : Int => e) A i _ = _; rw [show i - A = (i - A - 1) + 1 by omega, insS, show A + (i - A - 1) + 1 = i by omega]; rfl, trivial⟩ ?_ ?_ fun (q : Nat × (Nat → Int)) hi4 => ?_
  · first | rfl | (simp only [KS, simprocAttr] <;> repeat' (first | rfl | apply And.intro))
  · first | rfl | (simp only [setAll, push_cast, simprocAttr, List.set_set, List.length_set, pk_1] <;> rfl)
  obtain ⟨j, g⟩ := q
  obtain ⟨i1, i2, i3, i4⟩ := hi4
  simp only at i1 i2 i3 i4
  try simp only [keepL, setAll, push_cast, simprocAttr, List.set_set, List.length_set, pk_1]
  refine AW.seq_k fun K hK => ?_
  refine AW.seq_k fun K hK => ?_
  rcases Nat.lt_or_ge A j with hj | hj
  ·have cj : (A : Int) < (j : Int) := by omega
   obtain ⟨y, hy⟩ : ∃ z : Nat, z = j - 1 := ⟨_, rfl⟩
   have wy : IntKind.i64.wrap ((j : Int) - 1) = (y : Int) := by rw [wi (by omega)]; omega
   have gj := il_get (f := fun z => g z) (n := n) (i := j) (by omega)
   have c0j : (0 : Int) ≤ (j : Int) := by omega
   have c1j : (j : Int) < (n : Int) := by omega
   have c2j : j < n := by omega
   have c3j : j + 1 ≤ n := by omega
   have gy := il_get (f := fun z => g z) (n := n) (i := y) (by omega)
   have c0y : (0 : Int) ≤ (y : Int) := by omega
   have c1y : (y : Int) < (n : Int) := by omega
   have c2y : y < n := by omega
   have c3y : y + 1 ≤ n := by omega
   refine AW.draw [.val, .val, .val, .val, .val, .val, .val, .rd 0, .val, .val, .val, .val, .rd 0, .ext, .val] fol (by decide) (by kernel_rfl) ?_
   have pk_2 : _ ∧ _ ∧ _ ∧ _ ∧ _ ∧ _ ∧ _ ∧ _ ∧ _ ∧ _ ∧ _ ∧ _ ∧ _ := ⟨pk_1, cj, wy, gj, c0j, c1j, c2j, c3j, gy, c0y, c1y, c2y, c3y⟩
   simp only [push_cast, simprocAttr, List.set_set, List.length_set, pk_2]
   refine DCall.by0 (less_c (g j) (g y) _) ?_
   simp only [push_cast, simprocAttr, List.set_set, List.length_set, pk_2]
   apply hK;clear hK K
   refine AW.cond rfl (fun h30 => ?_) (fun h30 => ?_)
   ·have hk : g j < g y := by have := of_decide_eq_true h30; omega
    have hjy : j = y + 1 := by omega
    have hsw : ((il n fun z => g z).set j (.int .i64 (g y))).set y (.int .i64 (g j)) = il n fun z => swF g j y z := il_sw (e := fun x => x) g (by omega) (by omega)
    obtain ⟨nx, hnx, hnI, hnmu⟩ : ∃ nx : Nat × (Nat → Int), nx = (y, swF g j y) ∧ (A ≤ nx.1 ∧ nx.1 ≤ i ∧ sink (fun e : Int => e) A nx.1 nx.2 = insS (fun e : Int => e) A (i - A) f ∧ Any (nx.2)) ∧ nx.1 < j := ⟨_, rfl, ⟨by show A ≤ y; omega, by show y ≤ i; omega, by show sink (fun e : Int => e) A y (swF g j y) = _; rw [hjy] at i3 hk ⊢; rw [sink_go (fun e : Int => e) (by omega) hk]; exact i3, trivial⟩, by show y < j; omega⟩
    refine AW.skip ?_
    apply hK;clear hK K
    refine AW.seq_k fun K hK => ?_
    refine AW.block ?_
    refine AW.draw [.val, .val, .val, .val, .val, .val, .val, .val, .val, .rd 0, .val, .val, .val, .rd 0, .val, .wr, .val, .wr] fol (by decide) (by kernel_rfl) ?_
    simp only [push_cast, simprocAttr, List.set_set, List.length_set, pk_2, hsw]
    refine InB_n ?_
    apply hK;clear hK K
    refine AW.rg ?_
    simp only [push_cast, simprocAttr, List.set_set, List.length_set, pk_2, hsw]
    refine Thn_n ?_
    refine ⟨nx, hnI, hnmu, ?_⟩
    try simp only [keepL, setAll, push_cast, simprocAttr, List.set_set, List.length_set, pk_2, hsw, hnx]
    exact Weak.same (by simp only [KS, simprocAttr, hnx]) (by first | rfl | simp only [KS, simprocAttr, hnx])
   ·have hk : ¬ g j < g y := by have := of_decide_eq_false h30; omega
    have hjy : j = y + 1 := by omega
    have hE : sink (fun e : Int => e) A j g = g := by rw [hjy] at hk ⊢; exact sink_end (fun e : Int => e) hk
    refine AW.exit ?_
    refine Thn_e ?_
    clear hK K
    refine Thn_e ?_
    refine InB_here ?_
    refine InB_n ?_
    apply hK;clear hK K
    refine AW.rg ?_
    simp only [push_cast, simprocAttr, List.set_set, List.length_set, pk_2]
    refine Thn_n ?_
    obtain ⟨i1, hi1⟩ : ∃ z : Nat, z = i + 1 := ⟨_, rfl⟩
    have wi1 : IntKind.i64.wrap ((i : Int) + 1) = (i1 : Int) := by rw [wi (by omega)]; omega
    have hnx : insS (fun e : Int => e) A (i1 - A - 1) f = g := by rw [show i1 - A - 1 = i - A by omega, ← i3, hE]
    refine ⟨i1, by omega, by omega, ?_⟩
    try simp only [keepL, setAll, push_cast, simprocAttr, List.set_set, List.length_set, pk_2, wi1, hnx]
    exact Weak.same (by simp only [KS, simprocAttr, wi1, hnx]) (by first | rfl | simp only [KS, simprocAttr, wi1, hnx])
  ·have cj : ¬ (A : Int) < (j : Int) := by omega
   have hE : sink (fun e : Int => e) A j g = g := sink_stop (by omega)
   refine AW.draw [.val, .val, .val, .val, .val, .val, .val, .rd 0, .val, .val, .val, .val, .rd 0, .ext, .val] fol (by decide) (by kernel_rfl) ?_
   simp only [push_cast, simprocAttr, List.set_set, List.length_set, pk_1, cj]
   apply hK;clear hK K
   refine AW.cond_f rfl ?_
   refine AW.exit ?_
   refine Thn_e ?_
   clear hK K
   refine Thn_e ?_
   refine InB_here ?_
   refine InB_n ?_
   apply hK;clear hK K
   refine AW.rg ?_
   simp only [push_cast, simprocAttr, List.set_set, List.length_set, pk_1, cj]
   refine Thn_n ?_
   obtain ⟨i1, hi1⟩ : ∃ z : Nat, z = i + 1 := ⟨_, rfl⟩
   have wi1 : IntKind.i64.wrap ((i : Int) + 1) = (i1 : Int) := by rw [wi (by omega)]; omega
   have hnx : insS (fun e : Int => e) A (i1 - A - 1) f = g := by rw [show i1 - A - 1 = i - A by omega, ← i3, hE]
   refine ⟨i1, by omega, by omega, ?_⟩
   try simp only [keepL, setAll, push_cast, simprocAttr, List.set_set, List.length_set, pk_1, cj, wi1, hnx]
   exact Weak.same (by simp only [KS, simprocAttr, wi1, hnx]) (by first | rfl | simp only [KS, simprocAttr, wi1, hnx])
 ·have hge : B ≤ i := by have := of_decide_eq_false h12; omega
  have hfin : insS (fun e : Int => e) A (i - A - 1) f = insS (fun e : Int => e) A (B - A - 1) f := by rw [show i - A - 1 = B - A - 1 by omega]
  refine AW.exit ?_
  refine Thn_e ?_
  clear hK K
  refine Thn_e ?_
  refine InB_here ?_
  refine hQ _ _ _ ?_
  rw [hfin]
  first | refine RetP.dropM0 (by rw [List.length_set]) (by first | exact Or.inr rfl | exact Or.inl rfl) ?_ ?_ (hwfM _) | refine RetP.dropM (by rw [List.length_set]) (by first | exact Or.inr rfl | exact Or.inl rfl) ?_ ?_ (hwfM _)
  · rfl
  · rfl
def pls_len_0 : Nat → Nat → List Plan := fun f r =>
 match f with
 | _ => []
theorem len_0 (m : AMem) : Ctr Tryz.prog 44 [.one (.int .u64 0)] m (.one (.int .i64 0)) m :=
 Ctr.run pls_len_0 100 30 fol (by kernel_rfl) (by first | (simp; done) | (simp; exact ⟨rfl, rfl⟩) | (simp; rfl) | rfl) rfl m
def pls_len_1 : Nat → Nat → List Plan := fun f r =>
 match f with
 | _ => []
theorem len_1 (m : AMem) : Ctr Tryz.prog 44 [.one (.int .u64 1)] m (.one (.int .i64 1)) m :=
 Ctr.run pls_len_1 100 30 fol (by kernel_rfl) (by first | (simp; done) | (simp; exact ⟨rfl, rfl⟩) | (simp; rfl) | rfl) rfl m
def pls_len_2 : Nat → Nat → List Plan := fun f r =>
 match f with
 | _ => []
theorem len_2 (m : AMem) : Ctr Tryz.prog 44 [.one (.int .u64 2)] m (.one (.int .i64 2)) m :=
 Ctr.run pls_len_2 100 30 fol (by kernel_rfl) (by first | (simp; done) | (simp; exact ⟨rfl, rfl⟩) | (simp; rfl) | rfl) rfl m
def pls_len_3 : Nat → Nat → List Plan := fun f r =>
 match f with
 | _ => []
theorem len_3 (m : AMem) : Ctr Tryz.prog 44 [.one (.int .u64 3)] m (.one (.int .i64 2)) m :=
 Ctr.run pls_len_3 100 30 fol (by kernel_rfl) (by first | (simp; done) | (simp; exact ⟨rfl, rfl⟩) | (simp; rfl) | rfl) rfl m
def pls_len_4 : Nat → Nat → List Plan := fun f r =>
 match f with
 | _ => []
theorem len_4 (m : AMem) : Ctr Tryz.prog 44 [.one (.int .u64 4)] m (.one (.int .i64 3)) m :=
 Ctr.run pls_len_4 100 30 fol (by kernel_rfl) (by first | (simp; done) | (simp; exact ⟨rfl, rfl⟩) | (simp; rfl) | rfl) rfl m
def pls_len_5 : Nat → Nat → List Plan := fun f r =>
 match f with
 | _ => []
theorem len_5 (m : AMem) : Ctr Tryz.prog 44 [.one (.int .u64 5)] m (.one (.int .i64 3)) m :=
 Ctr.run pls_len_5 100 30 fol (by kernel_rfl) (by first | (simp; done) | (simp; exact ⟨rfl, rfl⟩) | (simp; rfl) | rfl) rfl m
def pls_len_6 : Nat → Nat → List Plan := fun f r =>
 match f with
 | _ => []
theorem len_6 (m : AMem) : Ctr Tryz.prog 44 [.one (.int .u64 6)] m (.one (.int .i64 3)) m :=
 Ctr.run pls_len_6 100 30 fol (by kernel_rfl) (by first | (simp; done) | (simp; exact ⟨rfl, rfl⟩) | (simp; rfl) | rfl) rfl m
def pls_len_7 : Nat → Nat → List Plan := fun f r =>
 match f with
 | _ => []
theorem len_7 (m : AMem) : Ctr Tryz.prog 44 [.one (.int .u64 7)] m (.one (.int .i64 3)) m :=
 Ctr.run pls_len_7 100 30 fol (by kernel_rfl) (by first | (simp; done) | (simp; exact ⟨rfl, rfl⟩) | (simp; rfl) | rfl) rfl m
def pls_len_8 : Nat → Nat → List Plan := fun f r =>
 match f with
 | _ => []
theorem len_8 (m : AMem) : Ctr Tryz.prog 44 [.one (.int .u64 8)] m (.one (.int .i64 4)) m :=
 Ctr.run pls_len_8 100 30 fol (by kernel_rfl) (by first | (simp; done) | (simp; exact ⟨rfl, rfl⟩) | (simp; rfl) | rfl) rfl m
def pls_len_9 : Nat → Nat → List Plan := fun f r =>
 match f with
 | _ => []
theorem len_9 (m : AMem) : Ctr Tryz.prog 44 [.one (.int .u64 9)] m (.one (.int .i64 4)) m :=
 Ctr.run pls_len_9 100 30 fol (by kernel_rfl) (by first | (simp; done) | (simp; exact ⟨rfl, rfl⟩) | (simp; rfl) | rfl) rfl m
def pls_len_10 : Nat → Nat → List Plan := fun f r =>
 match f with
 | _ => []
theorem len_10 (m : AMem) : Ctr Tryz.prog 44 [.one (.int .u64 10)] m (.one (.int .i64 4)) m :=
 Ctr.run pls_len_10 100 30 fol (by kernel_rfl) (by first | (simp; done) | (simp; exact ⟨rfl, rfl⟩) | (simp; rfl) | rfl) rfl m
def pls_len_11 : Nat → Nat → List Plan := fun f r =>
 match f with
 | _ => []
theorem len_11 (m : AMem) : Ctr Tryz.prog 44 [.one (.int .u64 11)] m (.one (.int .i64 4)) m :=
 Ctr.run pls_len_11 100 30 fol (by kernel_rfl) (by first | (simp; done) | (simp; exact ⟨rfl, rfl⟩) | (simp; rfl) | rfl) rfl m
def pls_len_12 : Nat → Nat → List Plan := fun f r =>
 match f with
 | _ => []
theorem len_12 (m : AMem) : Ctr Tryz.prog 44 [.one (.int .u64 12)] m (.one (.int .i64 4)) m :=
 Ctr.run pls_len_12 100 30 fol (by kernel_rfl) (by first | (simp; done) | (simp; exact ⟨rfl, rfl⟩) | (simp; rfl) | rfl) rfl m
theorem len_c (m : AMem) : ∀ n : Nat, n ≤ 12 → ∃ z, Ctr Tryz.prog 44 [.one (.int .u64 (n : Int))] m (.one (.int .i64 z)) m
 | 0, _ => ⟨0, len_0 m⟩
 | 1, _ => ⟨1, len_1 m⟩
 | 2, _ => ⟨2, len_2 m⟩
 | 3, _ => ⟨2, len_3 m⟩
 | 4, _ => ⟨3, len_4 m⟩
 | 5, _ => ⟨3, len_5 m⟩
 | 6, _ => ⟨3, len_6 m⟩
 | 7, _ => ⟨3, len_7 m⟩
 | 8, _ => ⟨4, len_8 m⟩
 | 9, _ => ⟨4, len_9 m⟩
 | 10, _ => ⟨4, len_10 m⟩
 | 11, _ => ⟨4, len_11 m⟩
 | 12, _ => ⟨4, len_12 m⟩
 | n + 13, h => absurd h (by omega)
theorem pdq_c (rs v n : Nat) (f : Nat → Int) (m : AMem) (hr : m[rs]? = some ⟨.grow, 3, v, 1, il n (fun z => f z)⟩) (hn : n ≤ 12) (z : Int) : Ctr Tryz.prog 43 [.one (.sl rs v 0 n), .one (.int .i64 0), .one (.int .i64 (n : Int)), .one (.int .i64 z)] m (.tup []) (m.set rs ⟨.grow, 3, v, 1, il n (fun z => insS (fun e : Int => e) 0 (n - 1) f z)⟩) := by
 refine Ctr.enter Tryz.func43 rfl (by decide) (rs := []) (nt := 134) rfl rfl fun hwf Q hQ => ?_
 have hwfM : MWf m.length (m.set rs ⟨.grow, 3, v, 1, il n (fun z => insS (fun e : Int => e) 0 (n - 1) f z)⟩) := MWf_setB hwf (il_below _ _ _) rfl
 have w : IntKind.i64.wrap ((n : Int) - 0) = (n : Int) := by rw [wi (by omega)]; omega
 have g1 : (n : Int) ≤ 12 := by omega
 have e1 : n - 0 - 1 = n - 1 := by omega
 refine AW.sr 2 fun K hK => ?_
 simp only [push_cast, simprocAttr, w, g1]
 apply hK;clear hK K
 refine AW.block ?_
 refine AW.rounds 2 ?_
 refine ARounds.succ fun K hK => ?_
 refine AW.block ?_
 refine AW.sr 1 fun K hK => ?_
 simp only [push_cast, simprocAttr, w, g1]
 apply hK;clear hK K
 refine AW.seq_k fun K hK => ?_
 refine AW.sr 1 fun K hK => ?_
 simp only [push_cast, simprocAttr, w, g1]
 apply hK;clear hK K
 refine AW.cond_t rfl ?_
 refine AW.sr 1 fun K hK => ?_
 simp only [push_cast, simprocAttr, w, g1]
 refine CThen.by ((by have h := inso_c rs v n f m hr (by omega) 0 n (Nat.le_refl _) (Nat.zero_le _); rw [e1] at h; exact h)) ?_
 simp only [push_cast, simprocAttr, w, g1]
 apply hK;clear hK K
 refine AW.ret ?_
 refine Thn_r ?_
 refine InB_r ?_
 refine Thn_r ?_
 refine InB_r ?_
 refine hQ _ _ _ ?_
 first | refine RetP.dropM0 (by rw [List.length_set]) (by first | exact Or.inr rfl | exact Or.inl rfl) ?_ ?_ hwfM | refine RetP.dropM (by rw [List.length_set]) (by first | exact Or.inr rfl | exact Or.inl rfl) ?_ ?_ hwfM
 · rfl
 · rfl
theorem sort_c (rs v n : Nat) (f : Nat → Int) (m : AMem) (hr : m[rs]? = some ⟨.grow, 3, v, 1, il n (fun z => f z)⟩) (hn : n ≤ 12) : Ctr Tryz.prog 25 [.one (.sl rs v 0 n)] m (.tup []) (m.set rs ⟨.grow, 3, v, 1, il n (fun z => insS (fun e : Int => e) 0 (n - 1) f z)⟩) := by
 refine Ctr.enter Tryz.func25 rfl (by decide) (rs := []) (nt := 11) rfl rfl fun hwf Q hQ => ?_
 have hwfM : MWf m.length (m.set rs ⟨.grow, 3, v, 1, il n (fun z => insS (fun e : Int => e) 0 (n - 1) f z)⟩) := MWf_setB hwf (il_below _ _ _) rfl
 obtain ⟨z, hz⟩ := len_c m n hn
 have w : IntKind.u64.wrap (n : Int) = (n : Int) := by rw [IntKind.wrap_u64]; omega
 refine AW.sr 1 fun K hK => ?_
 simp only [push_cast, simprocAttr, w]
 apply hK;clear hK K
 refine AW.rg ?_
 simp only [push_cast, simprocAttr, w]
 refine CThen.by (hz) ?_
 simp only [push_cast, simprocAttr, w]
 refine CThen.by (pdq_c rs v n f m hr hn z) ?_
 simp only [push_cast, simprocAttr, w]
 refine hQ _ _ _ ?_
 first | refine RetP.dropM0 (by rw [List.length_set]) (by first | exact Or.inr rfl | exact Or.inl rfl) ?_ ?_ hwfM | refine RetP.dropM (by rw [List.length_set]) (by first | exact Or.inr rfl | exact Or.inl rfl) ?_ ?_ hwfM
 · rfl
 · rfl
theorem rise_eq : ∀ {l k : List Int}, l.Pairwise (· < ·) → k.Pairwise (· < ·) → (∀ x, x ∈ l ↔ x ∈ k) → l = k
 | [], [], _, _, _ => rfl
 | [], b :: k, _, _, h => absurd ((h b).2 List.mem_cons_self) (by simp)
 | a :: l, [], _, _, h => absurd ((h a).1 List.mem_cons_self) (by simp)
 | a :: l, b :: k, h1, h2, h => by
  rw [List.pairwise_cons] at h1 h2
  have e : a = b := by
   rcases List.mem_cons.1 ((h a).1 List.mem_cons_self) with q | q
   ·exact q
   ·rcases List.mem_cons.1 ((h b).2 List.mem_cons_self) with r | r
    ·exact r.symm
    ·have := h2.1 a q; have := h1.1 b r; omega
  subst e
  rw [rise_eq h1.2 h2.2 fun x => ⟨fun hx => ?_, fun hx => ?_⟩]
  ·rcases List.mem_cons.1 ((h x).1 (List.mem_cons_of_mem _ hx)) with q | q
   ·have := h1.1 x hx; omega
   ·exact q
  ·rcases List.mem_cons.1 ((h x).2 (List.mem_cons_of_mem _ hx)) with q | q
   ·have := h2.1 x hx; omega
   ·exact q
def mapR (f : Nat → Int) (n : Nat) : List Int := (List.range n).map f
theorem mapR_mem {f : Nat → Int} {n : Nat} {x : Int} : x ∈ mapR f n ↔ ∃ i, i < n ∧ f i = x := by simp [mapR]
theorem mapR_rise {f : Nat → Int} {n : Nat} (h : ∀ i j, i < j → j < n → f i < f j) : (mapR f n).Pairwise (· < ·) := by
 unfold mapR
 rw [List.pairwise_map]
 refine List.Pairwise.imp_of_mem (fun {a b} _ hb hab => h a b hab (by simpa using hb)) List.pairwise_lt_range
theorem mapR_inj {f g : Nat → Int} {n : Nat} (h : mapR f n = mapR g n) {i : Nat} (hi : i < n) : f i = g i := by
 have := congrArg (fun l : List Int => l[i]?) h
 simpa [mapR, hi] using this
def lexK (B : Nat → Int) (e : Nat) : Int := B e * 1000 + (e : Int)
theorem lexK_inj {B : Nat → Int} {a b : Nat} (ha : a < 1000) (hb : b < 1000) (h : lexK B a = lexK B b) : a = b := by
 unfold lexK at h
 have h1 : (B a * 1000 + (a : Int)) % 1000 = (B b * 1000 + (b : Int)) % 1000 := by rw [h]
 omega
theorem sink_lex {B : Nat → Int} {e : Nat} (he : e < 1000) : ∀ (j : Nat) (h : Nat → Nat), h j = e → (∀ x, x < j → h x < e) → sink B 0 j h = sink (lexK B) 0 j h
 | 0, h, _, _ => rfl
 | j + 1, h, h1, h2 => by
  show (if 0 < j + 1 ∧ B (h (j + 1)) < B (h j) then sink B 0 j (swF h (j + 1) j) else h) = (if 0 < j + 1 ∧ lexK B (h (j + 1)) < lexK B (h j) then sink (lexK B) 0 j (swF h (j + 1) j) else h)
  have hj := h2 j (by omega)
  have iff : B (h (j + 1)) < B (h j) ↔ lexK B (h (j + 1)) < lexK B (h j) := by unfold lexK; rw [h1]; omega
  by_cases hc : B (h (j + 1)) < B (h j)
  ·rw [if_pos ⟨by omega, hc⟩, if_pos ⟨by omega, iff.1 hc⟩]
   refine sink_lex he j _ ?_ fun x hx => ?_
   ·unfold swF; rw [if_neg (by omega), if_pos rfl]; exact h1
   ·unfold swF; rw [if_neg (by omega), if_neg (by omega)]; exact h2 x (by omega)
  ·rw [if_neg (fun q => hc q.2), if_neg (fun q => hc (iff.2 q.2))]
theorem insS_lex {B : Nat → Int} : ∀ k, k < 1000 → insS B 0 k (id : Nat → Nat) = insS (lexK B) 0 k id
 | 0, _ => rfl
 | k + 1, hk => by
  have ih := insS_lex (B := B) k (by omega)
  show sink B 0 (0 + k + 1) (insS B 0 k id) = sink (lexK B) 0 (0 + k + 1) (insS (lexK B) 0 k id)
  rw [ih]
  have hp := insS_perm (lexK B) 0 (id : Nat → Nat) k
  refine sink_lex (e := k + 1) hk _ _ ?_ fun x hx => ?_
  ·rw [hp.out (by omega)]; show 0 + k + 1 = k + 1; omega
  ·obtain ⟨y, _, h2, h3⟩ := hp.src (x := x) ⟨Nat.zero_le _, by omega⟩
   rw [h3]; show y < k + 1; omega
structure Ord (B : Nat → Int) (n : Nat) (g : Nat → Nat) : Prop where
 lt : ∀ i, i < n → g i < n
 up : ∀ i j, i < j → j < n → lexK B (g i) < lexK B (g j)
 all : ∀ e, e < n → ∃ i, i < n ∧ g i = e
theorem Ord.eq {B : Nat → Int} {n : Nat} {g p : Nat → Nat} (hn : n ≤ 1000) (hg : Ord B n g) (hp : Ord B n p) {i : Nat} (hi : i < n) : g i = p i := by
 have e : mapR (fun i => lexK B (g i)) n = mapR (fun i => lexK B (p i)) n := by
  refine rise_eq (mapR_rise hg.up) (mapR_rise hp.up) fun x => ?_
  rw [mapR_mem, mapR_mem]
  constructor
  ·rintro ⟨a, ha, rfl⟩
   obtain ⟨c, hc, h⟩ := hp.all _ (hg.lt a ha)
   exact ⟨c, hc, by rw [h]⟩
  ·rintro ⟨a, ha, rfl⟩
   obtain ⟨c, hc, h⟩ := hg.all _ (hp.lt a ha)
   exact ⟨c, hc, by rw [h]⟩
 have := hg.lt i hi
 have := hp.lt i hi
 exact lexK_inj (B := B) (by omega) (by omega) (mapR_inj e hi)
theorem insS_ord (B : Nat → Int) {n : Nat} (hn : n ≤ 1000) : Ord B n (insS B 0 (n - 1) id) := by
 rcases Nat.eq_zero_or_pos n with h0 | h0
 ·subst h0; exact ⟨fun i h => absurd h (by omega), fun i j _ h => absurd h (by omega), fun e h => absurd h (by omega)⟩
 have e := insS_lex (B := B) (n - 1) (by omega)
 have hp := insS_perm (lexK B) 0 (id : Nat → Nat) (n - 1)
 have hs := insS_srt (lexK B) 0 (id : Nat → Nat) (n - 1)
 rw [← e] at hp hs
 rw [show 0 + (n - 1) + 1 = n by omega] at hp hs
 have lt : ∀ i, i < n → insS B 0 (n - 1) id i < n := fun i hi => by
  obtain ⟨y, _, h2, h3⟩ := hp.src (x := i) ⟨Nat.zero_le _, hi⟩
  rw [h3]; exact h2
 refine ⟨lt, fun i j hij hj => ?_, fun x hx => ?_⟩
 ·have h1 := hs i j (Nat.zero_le _) hij hj
  rcases Int.lt_or_le (lexK B (insS B 0 (n - 1) id i)) (lexK B (insS B 0 (n - 1) id j)) with h2 | h2
  ·exact h2
  ·have h3 := lexK_inj (B := B) (by have := lt i (by omega); omega) (by have := lt j hj; omega) (Int.le_antisymm h1 h2)
   obtain ⟨s, t, q1, q2, q3, q4⟩ := hp
   rw [q4 i, q4 j] at h3
   have h4 : s i = s j := h3
   have := congrArg t h4
   rw [q2, q2] at this; omega
 ·obtain ⟨i, _, h2, h3⟩ := hp.dst (y := x) ⟨Nat.zero_le _, hx⟩
  exact ⟨i, h2, h3⟩
def bstF (B : Nat → Int) (u : Nat → Bool) : Nat → Int
 | 0 => -1
 | i + 1 => if u i = false ∧ (bstF B u i < 0 ∨ B i < B (bstF B u i).toNat) then (i : Int) else bstF B u i
def byS (B : Nat → Int) (n : Nat) : Nat → (Nat → Bool) × (Nat → Nat)
 | 0 => (fun _ => false, fun _ => 0)
 | k + 1 => (updB (byS B n k).1 (bstF B (byS B n k).1 n).toNat true, fun i => if i = k then (bstF B (byS B n k).1 n).toNat else (byS B n k).2 i)
theorem bst_spec {B : Nat → Int} {u : Nat → Bool} : ∀ m, (bstF B u m = -1 ∧ ∀ e, e < m → u e = true) ∨ ∃ a : Nat, bstF B u m = (a : Int) ∧ a < m ∧ u a = false ∧ ∀ e, e < m → u e = false → B a < B e ∨ (B a = B e ∧ a ≤ e)
 | 0 => .inl ⟨rfl, fun e h => absurd h (by omega)⟩
 | m + 1 => by
  unfold bstF
  rcases bst_spec (B := B) (u := u) m with ⟨h1, h2⟩ | ⟨a, h1, h2, h3, h4⟩
  ·rw [h1]
   cases hu : u m with
   | true =>
    rw [if_neg (fun h => by cases h.1)]
    exact .inl ⟨rfl, fun e he => by
     rcases Nat.lt_or_ge e m with q | q
     ·exact h2 e q
     ·rw [show e = m by omega]; exact hu⟩
   | false =>
    rw [if_pos ⟨rfl, .inl (by decide)⟩]
    refine .inr ⟨m, rfl, by omega, hu, fun e he hue => ?_⟩
    rcases Nat.lt_or_ge e m with q | q
    ·rw [h2 e q] at hue; cases hue
    ·rw [show e = m by omega]; exact .inr ⟨rfl, Nat.le_refl _⟩
  ·rw [h1, Int.toNat_natCast]
   by_cases hc : u m = false ∧ ((a : Int) < 0 ∨ B m < B a)
   ·rw [if_pos hc]
    have hb : B m < B a := hc.2.resolve_left (by omega)
    refine .inr ⟨m, rfl, by omega, hc.1, fun e he hue => ?_⟩
    rcases Nat.lt_or_ge e m with q | q
    ·rcases h4 e q hue with r | ⟨r, _⟩
     ·exact .inl (by omega)
     ·exact .inl (by omega)
    ·rw [show e = m by omega]; exact .inr ⟨rfl, Nat.le_refl _⟩
   ·rw [if_neg hc]
    refine .inr ⟨a, rfl, by omega, h3, fun e he hue => ?_⟩
    rcases Nat.lt_or_ge e m with q | q
    ·exact h4 e q hue
    ·have em : e = m := by omega
     subst em
     have hb : ¬ B e < B a := fun h => hc ⟨hue, .inr h⟩
     rcases Int.lt_or_le (B a) (B e) with r | r
     ·exact .inl r
     ·exact .inr ⟨by omega, by omega⟩
def cntB (u : Nat → Bool) : Nat → Nat
 | 0 => 0
 | i + 1 => cntB u i + if u i = true then 1 else 0
theorem cntB_le (u : Nat → Bool) : ∀ n, cntB u n ≤ n
 | 0 => Nat.le_refl _
 | n + 1 => by have := cntB_le u n; unfold cntB; split <;> omega
theorem cntB_all {u : Nat → Bool} : ∀ n, (∀ e, e < n → u e = true) → cntB u n = n
 | 0, _ => rfl
 | n + 1, h => by unfold cntB; rw [cntB_all n fun e he => h e (by omega), if_pos (h n (by omega))]
theorem cntB_full {u : Nat → Bool} : ∀ n, cntB u n = n → ∀ e, e < n → u e = true
 | 0, _, e, h => absurd h (by omega)
 | n + 1, h, e, he => by
  unfold cntB at h
  have := cntB_le u n
  split at h
  ·rename_i hu
   rcases Nat.lt_or_ge e n with q | q
   ·exact cntB_full n (by omega) e q
   ·rw [show e = n by omega]; exact hu
  ·omega
theorem cntB_out {u : Nat → Bool} {j : Nat} {b : Bool} : ∀ n, n ≤ j → cntB (updB u j b) n = cntB u n
 | 0, _ => rfl
 | n + 1, h => by
  unfold cntB
  rw [cntB_out n (by omega), show updB u j b n = u n from if_neg (by omega)]
theorem cntB_upd {u : Nat → Bool} {j : Nat} (hu : u j = false) : ∀ n, j < n → cntB (updB u j true) n = cntB u n + 1
 | 0, h => absurd h (by omega)
 | n + 1, h => by
  unfold cntB
  rcases Nat.lt_or_ge j n with q | q
  ·rw [cntB_upd hu n q, show updB u j true n = u n from if_neg (by omega)]; omega
  ·have e : j = n := by omega
   subst e
   rw [cntB_out _ (Nat.le_refl _), show updB u j true j = true from if_pos rfl, hu]; rfl
theorem cntB_0 : ∀ n, cntB (fun _ => false) n = 0
 | 0 => rfl
 | n + 1 => by unfold cntB; rw [cntB_0 n]; rfl
structure ByI (B : Nat → Int) (n k : Nat) (u : Nat → Bool) (p : Nat → Nat) : Prop where
 us : ∀ e, u e = true ↔ ∃ i, i < k ∧ p i = e
 lt : ∀ i, i < k → p i < n
 up : ∀ i j, i < j → j < k → lexK B (p i) < lexK B (p j)
 le : ∀ i, i < k → ∀ e, e < n → u e = false → lexK B (p i) < lexK B e
 ct : cntB u n = k
theorem byS_I (B : Nat → Int) {n : Nat} (hn : n ≤ 1000) : ∀ k, k ≤ n → ByI B n k (byS B n k).1 (byS B n k).2
 | 0, _ => by
  refine ⟨fun e => ⟨fun h => (by cases h), fun ⟨i, h, _⟩ => absurd h (by omega)⟩, fun i h => absurd h (by omega), fun i j _ h => absurd h (by omega), fun i h => absurd h (by omega), ?_⟩
  exact cntB_0 n
 | k + 1, hk => by
  have ih := byS_I B hn k (by omega)
  obtain ⟨u, hu⟩ : ∃ u, u = (byS B n k).1 := ⟨_, rfl⟩
  obtain ⟨p, hp⟩ : ∃ p, p = (byS B n k).2 := ⟨_, rfl⟩
  show ByI B n (k + 1) (updB (byS B n k).1 (bstF B (byS B n k).1 n).toNat true) (fun i => if i = k then (bstF B (byS B n k).1 n).toNat else (byS B n k).2 i)
  rw [← hu, ← hp] at ih ⊢
  rcases bst_spec (B := B) (u := u) n with ⟨_, h2⟩ | ⟨a, h1, h2, h3, h4⟩
  ·have := cntB_all n h2
   have := ih.ct
   omega
  ·rw [h1, Int.toNat_natCast]
   have ha : ∀ e, e < n → u e = false → e ≠ a → lexK B a < lexK B e := fun e he hue hne => by
    unfold lexK
    rcases h4 e he hue with q | ⟨q, r⟩ <;> omega
   refine ⟨fun e => ?_, fun i hi => ?_, fun i j hij hj => ?_, fun i hi e he hue => ?_, by rw [cntB_upd h3 n h2, ih.ct]⟩
   ·by_cases hea : e = a
    ·rw [show updB u a true e = true from if_pos hea]
     exact ⟨fun _ => ⟨k, by omega, by rw [if_pos rfl]; exact hea.symm⟩, fun _ => rfl⟩
    ·rw [show updB u a true e = u e from if_neg hea, ih.us]
     constructor
     ·rintro ⟨i, hi, q⟩; exact ⟨i, by omega, by rw [if_neg (by omega)]; exact q⟩
     ·rintro ⟨i, hi, q⟩
      by_cases hik : i = k
      ·rw [if_pos hik] at q; exact absurd q.symm hea
      ·rw [if_neg hik] at q; exact ⟨i, by omega, q⟩
   ·show (if i = k then a else p i) < n
    split
    ·exact h2
    ·exact ih.lt i (by omega)
   ·show lexK B (if i = k then a else p i) < lexK B (if j = k then a else p j)
    rw [if_neg (by omega)]
    split
    ·exact ih.le i (by omega) a h2 h3
    ·exact ih.up i j hij (by omega)
   ·have hea : e ≠ a := fun h => by rw [show updB u a true e = true from if_pos h] at hue; cases hue
    rw [show updB u a true e = u e from if_neg hea] at hue
    show lexK B (if i = k then a else p i) < lexK B e
    split
    ·exact ha e he hue hea
    ·exact ih.le i (by omega) e he hue
theorem byS_ord (B : Nat → Int) {n : Nat} (hn : n ≤ 1000) : Ord B n (byS B n n).2 := by
 have h := byS_I B hn n (Nat.le_refl _)
 exact ⟨h.lt, h.up, fun e he => (h.us e).1 (cntB_full n h.ct e he)⟩
theorem admS_mem {X : Nat → Nat → Int} {b : Int} : ∀ (i : Nat) (a : Int), a ∈ (admS X b i).2 → ∃ j : Nat, j < i ∧ a = (j : Int)
 | 0, a, h => by cases h
 | i + 1, a, h => by
  unfold admS at h
  split at h
  ·rcases List.mem_append.1 h with q | q
   ·obtain ⟨j, h1, h2⟩ := admS_mem i a q; exact ⟨j, by omega, h2⟩
   ·rw [List.mem_singleton] at q; exact ⟨i, by omega, q⟩
  ·obtain ⟨j, h1, h2⟩ := admS_mem i a h; exact ⟨j, by omega, h2⟩
theorem admS_rise {X : Nat → Nat → Int} {b : Int} : ∀ i : Nat, (admS X b i).2.Pairwise (· < ·)
 | 0 => List.Pairwise.nil
 | i + 1 => by
  unfold admS
  split
  ·rw [List.pairwise_append]
   refine ⟨admS_rise i, by simp, fun x hx y hy => ?_⟩
   rw [List.mem_singleton] at hy
   obtain ⟨j, h1, h2⟩ := admS_mem i x hx
   omega
  ·exact admS_rise i
theorem radS_eq {X : Nat → Nat → Int} {b : Int} {g : Nat → Nat} : ∀ i : Nat, (radS X b g i).s = (admS (fun i => X (g i)) b i).1 ∧ (radS X b g i).k = (admS (fun i => X (g i)) b i).2.length ∧
  ∀ e, (radS X b g i).t e = true ↔ ∃ j : Nat, (j : Int) ∈ (admS (fun i => X (g i)) b i).2 ∧ g j = e
 | 0 => ⟨rfl, rfl, fun e => ⟨fun h => (by cases h), fun ⟨j, h, _⟩ => (by cases h)⟩⟩
 | i + 1 => by
  obtain ⟨h1, h2, h3⟩ := radS_eq (X := X) (b := b) (g := g) i
  unfold radS admS
  rw [h1, h2]
  split
  ·refine ⟨rfl, by simp, fun e => ?_⟩
   show updB (radS X b g i).t (g i) true e = true ↔ _
   unfold updB
   by_cases he : e = g i
   ·rw [if_pos he]
    exact ⟨fun _ => ⟨i, List.mem_append_right _ (List.mem_singleton_self _), he.symm⟩, fun _ => rfl⟩
   ·rw [if_neg he, h3]
    constructor
    ·rintro ⟨j, q1, q2⟩; exact ⟨j, List.mem_append_left _ q1, q2⟩
    ·rintro ⟨j, q1, q2⟩
     rcases List.mem_append.1 q1 with q | q
     ·exact ⟨j, q, q2⟩
     ·rw [List.mem_singleton] at q
      have : j = i := by omega
      subst this; exact absurd q2.symm he
  ·exact ⟨h1, h2, h3⟩
theorem outL_mem {f : Nat → Bool} : ∀ {n : Nat} {x : Int}, x ∈ outL f n ↔ ∃ e : Nat, e < n ∧ f e = true ∧ x = (e : Int)
 | 0, x => ⟨fun h => (by cases h), fun ⟨e, h, _⟩ => absurd h (by omega)⟩
 | n + 1, x => by
  have ih := outL_mem (f := f) (n := n) (x := x)
  unfold outL
  split
  ·rename_i hf
   rw [List.mem_append, List.mem_singleton, ih]
   constructor
   ·rintro (⟨e, a, b, c⟩ | h)
    ·exact ⟨e, by omega, b, c⟩
    ·exact ⟨n, by omega, hf, h⟩
   ·rintro ⟨e, a, b, c⟩
    rcases Nat.lt_or_ge e n with q | q
    ·exact .inl ⟨e, q, b, c⟩
    ·exact .inr (by rw [c, show e = n by omega])
  ·rename_i hf
   rw [ih]
   constructor
   ·rintro ⟨e, a, b, c⟩; exact ⟨e, by omega, b, c⟩
   ·rintro ⟨e, a, b, c⟩
    rcases Nat.lt_or_ge e n with q | q
    ·exact ⟨e, q, b, c⟩
    ·rw [show e = n by omega] at b; exact absurd b hf
theorem outL_rise {f : Nat → Bool} : ∀ n : Nat, (outL f n).Pairwise (· < ·)
 | 0 => List.Pairwise.nil
 | n + 1 => by
  unfold outL
  split
  ·rw [List.pairwise_append]
   refine ⟨outL_rise n, by simp, fun x hx y hy => ?_⟩
   rw [List.mem_singleton] at hy
   obtain ⟨e, h1, _, h2⟩ := outL_mem.1 hx
   omega
  ·exact outL_rise n
theorem adm_id (X : Nat → Nat → Int) (b : Int) (n : Nat) : outL (radS X b id n).t n = (admS X b n).2 := by
 refine rise_eq (outL_rise n) (admS_rise n) fun x => ?_
 rw [outL_mem]
 obtain ⟨_, _, h⟩ := radS_eq (X := X) (b := b) (g := id) n
 constructor
 ·rintro ⟨e, _, h2, h3⟩
  obtain ⟨j, q1, q2⟩ := (h e).1 h2
  have : j = e := q2
  subst this; rw [h3]; exact q1
 ·intro hx
  obtain ⟨j, h1, h2⟩ := admS_mem n x hx
  exact ⟨j, h1, (h j).2 ⟨j, by rw [← h2]; exact hx, rfl⟩, h2⟩
theorem radS_congr {X : Nat → Nat → Int} {b : Int} {g p : Nat → Nat} : ∀ n, (∀ i, i < n → g i = p i) → radS X b g n = radS X b p n
 | 0, _ => rfl
 | n + 1, h => by unfold radS; rw [radS_congr n fun i hi => h i (by omega), h n (by omega)]
def gO (X : Nat → Nat → Int) (n : Nat) : Nat → Nat := insS (fun e => X e 4) 0 (n - 1) id
def chA (X : Nat → Nat → Int) (b : Int) (n : Nat) : List Int := (admS (fun i => X (gO X n i)) b n).2
def chF (X : Nat → Nat → Int) (b : Int) (n : Nat) (z : Nat) : Int := ((gO X n ((chA X b n).getD z 0).toNat : Nat) : Int)
def chL (X : Nat → Nat → Int) (b : Int) (n : Nat) : List Int := mapR (insS (fun e : Int => e) 0 ((chA X b n).length - 1) (chF X b n)) (chA X b n).length
theorem cheap_eq (X : Nat → Nat → Int) (b : Int) {n : Nat} (hn : n ≤ 1000) : chL X b n = outL (radS X b (byS (fun e => X e 4) n n).2 n).t n := by
 have hg : Ord (fun e => X e 4) n (gO X n) := insS_ord _ hn
 have hp := byS_ord (fun e => X e 4) hn
 rw [← radS_congr (X := X) (b := b) n fun i hi => hg.eq hn hp hi]
 obtain ⟨_, _, h⟩ := radS_eq (X := X) (b := b) (g := gO X n) n
 obtain ⟨L, hL⟩ : ∃ L, L = chA X b n := ⟨_, rfl⟩
 have hLr : L.Pairwise (· < ·) := by rw [hL]; exact admS_rise n
 have hLm : ∀ a, a ∈ L → ∃ j : Nat, j < n ∧ a = (j : Int) := fun a ha => by rw [hL] at ha; exact admS_mem n a ha
 obtain ⟨f, hf⟩ : ∃ f, f = chF X b n := ⟨_, rfl⟩
 have hfv : ∀ z, f z = ((gO X n (L.getD z 0).toNat : Nat) : Int) := fun z => by rw [hf, hL]; rfl
 have ginj : ∀ i j, i < n → j < n → gO X n i = gO X n j → i = j := fun i j hi hj e => by
  rcases Nat.lt_trichotomy i j with q | q | q
  ·have := hg.up i j q hj; rw [e] at this; omega
  ·exact q
  ·have := hg.up j i q hi; rw [e] at this; omega
 have Lat : ∀ z, z < L.length → ∃ j : Nat, j < n ∧ L.getD z 0 = (j : Int) ∧ (j : Int) ∈ L := fun z hz => by
  have h1 : L.getD z 0 ∈ L := by rw [List.getD_eq_getElem?_getD, List.getElem?_eq_getElem hz]; exact List.getElem_mem _
  obtain ⟨j, a, c⟩ := hLm _ h1
  exact ⟨j, a, c, by rw [← c]; exact h1⟩
 have Linj : ∀ y z, y < L.length → z < L.length → L.getD y 0 = L.getD z 0 → y = z := fun y z hy hz e => by
  rw [List.getD_eq_getElem?_getD, List.getD_eq_getElem?_getD, List.getElem?_eq_getElem hy, List.getElem?_eq_getElem hz] at e
  simp only [Option.getD_some] at e
  have hh := List.pairwise_iff_getElem.1 hLr
  rcases Nat.lt_trichotomy y z with q | q | q
  ·have := hh y z hy hz q; omega
  ·exact q
  ·have := hh z y hz hy q; omega
 unfold chL
 rw [← hL, ← hf]
 have hp2 := insS_perm (fun e : Int => e) 0 f (L.length - 1)
 have hs2 := insS_srt (fun e : Int => e) 0 f (L.length - 1)
 rcases Nat.eq_zero_or_pos L.length with h0 | h0
 ·rw [h0]
  refine rise_eq List.Pairwise.nil (outL_rise n) fun x => ⟨fun hx => (by cases hx), fun hx => ?_⟩
  obtain ⟨e, h1, h2, h3⟩ := outL_mem.1 hx
  obtain ⟨j, q1, _⟩ := (h e).1 h2
  have q1 : (j : Int) ∈ chA X b n := q1
  rw [← hL, List.eq_nil_of_length_eq_zero h0] at q1; cases q1
 rw [show 0 + (L.length - 1) + 1 = L.length by omega] at hp2 hs2
 refine rise_eq (mapR_rise fun i j hij hj => ?_) (outL_rise n) fun x => ?_
 ·have h1 := hs2 i j (Nat.zero_le _) hij hj
  rcases Int.lt_or_le (insS (fun e : Int => e) 0 (L.length - 1) f i) (insS (fun e : Int => e) 0 (L.length - 1) f j) with q | q
  ·exact q
  ·have he := Int.le_antisymm h1 q
   have hsi := hp2
   obtain ⟨s, t, p1, p2, p3, p4⟩ := hsi
   have sl : ∀ x, x < L.length → s x < L.length := fun x hx => Classical.byContradiction fun hc => by
    have := p3 (s x) (by omega)
    have e2 := congrArg t this
    rw [p2, p2] at e2; omega
   rw [p4 i, p4 j] at he
   have he : f (s i) = f (s j) := he
   rw [hfv, hfv] at he
   obtain ⟨a, a1, a2, _⟩ := Lat (s i) (sl i (by omega))
   obtain ⟨c, c1, c2, _⟩ := Lat (s j) (sl j hj)
   have hac : a = c := by
    rw [a2, c2, Int.toNat_natCast, Int.toNat_natCast] at he
    exact ginj a c a1 c1 (by omega)
   have := Linj (s i) (s j) (sl i (by omega)) (sl j hj) (by rw [a2, c2, hac])
   have e2 := congrArg t this
   rw [p2, p2] at e2; omega
 ·rw [mapR_mem, outL_mem]
  constructor
  ·rintro ⟨z, hz, rfl⟩
   obtain ⟨y, _, y2, y3⟩ := hp2.src (x := z) ⟨Nat.zero_le _, hz⟩
   obtain ⟨a, a1, a2, a3⟩ := Lat y y2
   refine ⟨gO X n a, hg.lt a a1, (h _).2 ⟨a, ?_, rfl⟩, ?_⟩
   ·show (a : Int) ∈ chA X b n; rw [← hL]; exact a3
   ·rw [y3, hfv, a2, Int.toNat_natCast]
  ·rintro ⟨e, h1, h2, rfl⟩
   obtain ⟨j, q1, q2⟩ := (h e).1 h2
   have q1 : (j : Int) ∈ chA X b n := q1
   rw [← hL] at q1
   obtain ⟨y, hy, hye⟩ := List.getElem_of_mem q1
   obtain ⟨x, _, x2, x3⟩ := hp2.dst (y := y) ⟨Nat.zero_le _, hy⟩
   refine ⟨x, x2, ?_⟩
   rw [x3, hfv, List.getD_eq_getElem?_getD, List.getElem?_eq_getElem hy, Option.getD_some, hye, Int.toNat_natCast, q2]
theorem il_iL (f : Nat → Int) : ∀ n : Nat, il n f = iL (mapR f n)
 | 0 => rfl
 | n + 1 => by
  show il n f ++ [.int .i64 (f n)] = _
  rw [il_iL f n, mapR, mapR, List.range_succ, List.map_append, iL, iL, List.map_append]; rfl
theorem cheap_c (r v n : Nat) (X : Nat → Nat → Int) (b : Int) (m : AMem) (hr : m[r]? = some (c5R 34 v n X)) (hX : Sm X) (hn : n ≤ 12) (h1 : -9223372036854775808 ≤ b) (h2 : b ≤ 9223372036854775807) : Ctr Tryz.prog 12 [.one (.int .i64 b), .one (.sl r v 0 n)] m (.one (.sl m.length 0 0 (chL X b n).length)) (m ++ [⟨.grow, 3, 0, 1, iL (chL X b n)⟩]) := by
 refine Ctr.enter Tryz.func12 rfl (by decide) (rs := [.tmp 4]) (nt := 60) rfl rfl fun hwf Q hQ => ?_
 have lr := get_lt hr
 have gl := catC5_len X n
 have l5 : ∀ x, (c5C x).length = 5 := fun _ => rfl
 have t5 : ∀ x, (c5C x).take 5 = c5C x := fun _ => rfl
 have z6 : ∀ y, setL [.int .i64 0, .int .i64 0, .int .i64 0, .int .i64 0, .int .i64 0] 0 (c5C y) = c5C y := fun _ => rfl
 have hlt0 : ∀ k, ¬ m.length + k < m.length := fun k => by omega
 have ill := fun n f => il_len n f
 have ivl := fun n f => il_vals n f
 have e0 : il 0 (fun z => ((id z : Nat) : Int)) = [] := rfl
 obtain ⟨g, hg⟩ : ∃ g, g = gO X n := ⟨_, rfl⟩
 obtain ⟨Y, hY⟩ : ∃ Y : Nat → Nat → Int, Y = fun i => X (g i) := ⟨_, rfl⟩
 obtain ⟨L, hL⟩ : ∃ L, L = chA X b n := ⟨_, rfl⟩
 have hLa : (admS Y b n).2 = L := by rw [hL, hY, hg]; rfl
 have hSY : Sm Y := fun i j => by rw [hY]; exact hX _ j
 obtain ⟨cf, hcf⟩ : ∃ f, f = chF X b n := ⟨_, rfl⟩
 have hcv : ∀ z, cf z = ((g (L.getD z 0).toNat : Nat) : Int) := fun z => by rw [hcf, hL, hg]; rfl
 have hLl : L.length ≤ n := by rw [← hLa]; exact admS_len n
 have hgl : ∀ i, i < n → g i < n := by rw [hg]; exact (insS_ord (fun e => X e 4) (by omega)).lt
 have hch : chL X b n = mapR (insS (fun e : Int => e) 0 (L.length - 1) cf) L.length := by rw [hcf, hL]; rfl
 have hcl : (chL X b n).length = L.length := by rw [hch]; simp [mapR]
 rw [hcl, hch, ← il_iL] at hQ
 have iLl := iL_len L
 have eY : ∀ i, c5C (X (g i)) = c5C (Y i) := fun i => by rw [hY]
 have ga0 : ∀ i, insS (fun e => X e 4) 0 (n - 1) id i = g i := fun i => by rw [hg]; rfl
 refine AW.sr 2 fun K hK => ?_
 have pk_1 : _ ∧ _ ∧ _ ∧ _ ∧ _ ∧ _ ∧ _ ∧ _ ∧ _ ∧ _ := ⟨hr, lk_old hr, gl, l5, t5, z6, ill, ivl, iLl, ga0⟩
 simp only [push_cast, simprocAttr, c5R, c5_vals, pk_1]
 apply hK;clear hK K
 refine AW.seq_k fun K hK => ?_
 refine AW.sr 1 fun K hK => ?_
 simp only [push_cast, simprocAttr, c5R, c5_vals, pk_1]
 apply hK;clear hK K
 refine AW.block ?_
 refine AW.loopK [0, 3, 15] (fun i => i ≤ n) (fun i => [(5, .one (.sl (m.length + 1) i 0 i)), (16, .one (.int .i64 (i : Int)))]) (fun i => [(m.length + 1, ⟨.grow, 3, i, 1, il i (fun z => ((id z : Nat) : Int))⟩)]) (fun i => n - i) 0 (by omega) ?_ ?_ fun i hi2 => ?_
 · first | rfl | (simp only [KS, simprocAttr, e0, Int.natCast_zero] <;> repeat' (first | rfl | apply And.intro))
 · simp only [setAll, push_cast, simprocAttr, e0] <;> rfl
 try simp only [keepL, setAll, push_cast, simprocAttr, c5R, c5_vals, pk_1]
 refine AW.sr 1 fun K hK => ?_
 simp only [push_cast, simprocAttr, c5R, c5_vals, pk_1]
 apply hK;clear hK K
 refine AW.seq_k fun K hK => ?_
 refine AW.cond rfl (fun h17 => ?_) (fun h17 => ?_)
 ·have hlt : i < n := by have := of_decide_eq_true h17; omega
  have c1 : (0 : Int) ≤ (i : Int) := by omega
  have c2 : (i : Int) < (n : Int) := by omega
  have q1 : i ≤ 140737488355327 := by omega
  have q2 : (i + 1) * 8 ≤ 140737488355328 := by omega
  have hap : il i (fun z => ((id z : Nat) : Int)) ++ [.int .i64 (i : Int)] = il (i + 1) (fun z => ((id z : Nat) : Int)) := rfl
  refine AW.skip ?_
  apply hK;clear hK K
  refine AW.seq_k fun K hK => ?_
  refine AW.block ?_
  refine AW.sr 1 fun K hK => ?_
  have pk_2 : _ ∧ _ ∧ _ ∧ _ ∧ _ := ⟨pk_1, c1, c2, q1, q2⟩
  simp only [push_cast, simprocAttr, c5R, c5_vals, pk_2]
  apply hK;clear hK K
  refine AW.rg ?_
  simp only [push_cast, simprocAttr, c5R, c5_vals, pk_2]
  refine InB_n ?_
  apply hK;clear hK K
  refine AW.rg ?_
  simp only [push_cast, simprocAttr, c5R, c5_vals, pk_2]
  refine Thn_n ?_
  have hwi : IntKind.i64.wrap ((i:Int)+1) = (i:Int)+1 := wi (by omega)
  refine ⟨i + 1, by omega, by omega, ?_⟩
  try simp only [keepL, setAll, push_cast, simprocAttr, c5R, c5_vals, pk_2, hwi, hap]
  exact Weak.to (extra := [_]) (by simp only [KS, simprocAttr, hwi, hap]) (by first | rfl | (simp only [List.append_assoc, List.cons_append, List.nil_append]; rfl)) (by first | rfl | (simp [AV.below, CV.below]; done) | (simp [AV.below, CV.below]; omega)) (by first | exact hwf | exact MWf.app (hwf.grow (by simp)) (MWf_cons (by simp [CV.below]; omega) (MWf_cons (il_below _ _ _) MWf_nil)))
 ·have hin : i = n := by have := of_decide_eq_false h17; omega
  rw [hin]
  refine AW.exit ?_
  refine Thn_e ?_
  clear hK K
  refine Thn_e ?_
  refine InB_here ?_
  apply hK;clear hK K
  refine AW.sr 2 fun K hK => ?_
  simp only [push_cast, simprocAttr, c5R, c5_vals, pk_1]
  refine CThen.by (sstable_c (m.length + 1) n n id _ (by rw [lk_app]; rfl) hn r v n m.length X hX (by omega) (by rw [lk_app0]; rfl) (lk_old hr _) (fun x hx => hx) (by omega) (by omega)) ?_
  simp only [push_cast, simprocAttr, c5R, c5_vals, pk_1]
  apply hK;clear hK K
  refine AW.seq_k fun K hK => ?_
  refine AW.sr 1 fun K hK => ?_
  simp only [push_cast, simprocAttr, c5R, c5_vals, pk_1]
  apply hK;clear hK K
  refine AW.block ?_
  refine AW.nilTm 34 5 7 rfl ?_
  try simp only [push_cast, simprocAttr, c5R, c5_vals, pk_1]
  refine AW.loopK [0, 3, 5, 27, 28] (fun i => i ≤ n) (fun i => [(7, .one (.sl (m.length + 2) i 0 i)), (29, .one (.int .i64 (i : Int)))]) (fun i => [(m.length + 2, ⟨.grow, 34, i, 5, catC i fun z => c5C (Y z)⟩)]) (fun i => n - i) 0 (by omega) ?_ ?_ fun i hi6 => ?_
  · first | rfl | (simp only [KS, simprocAttr, catC, Int.natCast_zero] <;> repeat' (first | rfl | apply And.intro))
  · simp only [setAll, push_cast, simprocAttr, catC] <;> rfl
  try simp only [keepL, setAll, push_cast, simprocAttr, c5R, c5_vals, pk_1]
  refine AW.sr 1 fun K hK => ?_
  simp only [push_cast, simprocAttr, c5R, c5_vals, pk_1]
  apply hK;clear hK K
  refine AW.seq_k fun K hK => ?_
  refine AW.cond rfl (fun h30 => ?_) (fun h30 => ?_)
  ·have hlt : i < n := by have := of_decide_eq_true h30; omega
   have c1 : (0 : Int) ≤ (i : Int) := by omega
   have c2 : (i : Int) < (n : Int) := by omega
   have hgi := hgl i hlt
   have gg := il_get (f := fun z => ((g z : Nat) : Int)) hlt
   have ga := catC5_at (X := X) hgi
   have d1 : (0 : Int) ≤ ((g i : Nat) : Int) := by omega
   have d2 : ((g i : Nat) : Int) < (n : Int) := by omega
   have d3 : g i * 5 + 5 ≤ n * 5 := by omega
   have gyl := catC5_len Y i
   have q1 : i ≤ 140737488355327 := by omega
   have q2 : (i + 1) * 40 ≤ 140737488355328 := by omega
   have hap : (catC i fun z => c5C (Y z)) ++ c5C (Y i) = catC (i + 1) fun z => c5C (Y z) := rfl
   have hi1 : i + 1 ≤ n := hlt
   refine AW.skip ?_
   apply hK;clear hK K
   refine AW.seq_k fun K hK => ?_
   refine AW.block ?_
   refine AW.sr 1 fun K hK => ?_
   have pk_3 : _ ∧ _ ∧ _ ∧ _ ∧ _ ∧ _ ∧ _ ∧ _ ∧ _ ∧ _ ∧ _ ∧ _ ∧ _ ∧ _ ∧ _ := ⟨pk_1, c1, c2, gg, ga, d1, d2, d3, gyl, q1, q2, eY, hi1, hlt, hgi⟩
   simp only [push_cast, simprocAttr, c5R, c5_vals, pk_3]
   apply hK;clear hK K
   refine AW.rg ?_
   simp only [push_cast, simprocAttr, c5R, c5_vals, pk_3]
   refine InB_n ?_
   apply hK;clear hK K
   refine AW.rg ?_
   simp only [push_cast, simprocAttr, c5R, c5_vals, pk_3]
   refine Thn_n ?_
   have hwi : IntKind.i64.wrap ((i:Int)+1) = (i:Int)+1 := wi (by omega)
   refine ⟨i + 1, by omega, by omega, ?_⟩
   try simp only [keepL, setAll, push_cast, simprocAttr, c5R, c5_vals, pk_3, hwi, hap]
   exact Weak.to (extra := [_]) (by simp only [KS, simprocAttr, hwi, hap]) (by first | rfl | (simp only [List.append_assoc, List.cons_append, List.nil_append]; rfl)) (by first | rfl | (simp [AV.below, CV.below]; done) | (simp [AV.below, CV.below]; omega)) (by first | exact hwf | exact MWf.app (hwf.grow (by simp)) (MWf_cons (by simp [CV.below]; omega) (MWf_cons (il_below _ _ _) (MWf_cons (c5R_below _ _ _) MWf_nil))))
  ·have hin : i = n := by have := of_decide_eq_false h30; omega
   rw [hin]
   refine AW.exit ?_
   refine Thn_e ?_
   clear hK K
   refine Thn_e ?_
   refine InB_here ?_
   apply hK;clear hK K
   refine AW.sr 1 fun K hK => ?_
   simp only [push_cast, simprocAttr, c5R, c5_vals, pk_1]
   apply hK;clear hK K
   refine AW.seq_k fun K hK => ?_
   refine AW.sr 1 fun K hK => ?_
   simp only [push_cast, simprocAttr, c5R, c5_vals, pk_1]
   refine CThen.by ((by have h := fun M q => cadm_c (m.length + 2) n n Y b M q hSY (by omega) h1 h2; rw [hLa] at h; exact h _ (by rw [lk_app]; rfl))) ?_
   simp only [push_cast, simprocAttr, c5R, c5_vals, pk_1]
   apply hK;clear hK K
   refine AW.block ?_
   refine AW.nilTm 3 1 10 rfl ?_
   try simp only [push_cast, simprocAttr, c5R, c5_vals, pk_1]
   refine AW.loopK [5, 43, 44] (fun j => j ≤ L.length) (fun j => [(10, .one (.sl (m.length + 4) j 0 j)), (45, .one (.int .i64 (j : Int)))]) (fun j => [(m.length + 4, ⟨.grow, 3, j, 1, il j cf⟩)]) (fun j => L.length - j) 0 (by omega) ?_ ?_ fun j hi10 => ?_
   · first | rfl | (simp only [KS, simprocAttr, il, Int.natCast_zero] <;> repeat' (first | rfl | apply And.intro))
   · simp only [setAll, push_cast, simprocAttr, il] <;> rfl
   try simp only [keepL, setAll, push_cast, simprocAttr, c5R, c5_vals, pk_1]
   refine AW.sr 1 fun K hK => ?_
   simp only [push_cast, simprocAttr, c5R, c5_vals, pk_1]
   apply hK;clear hK K
   refine AW.seq_k fun K hK => ?_
   refine AW.cond rfl (fun h46 => ?_) (fun h46 => ?_)
   ·have hlt : j < L.length := by have := of_decide_eq_true h46; omega
    have c1 : (0 : Int) ≤ (j : Int) := by omega
    have c2 : (j : Int) < (L.length : Int) := by omega
    have hjl : L.getD j 0 ∈ L := by rw [List.getD_eq_getElem?_getD, List.getElem?_eq_getElem hlt]; exact List.getElem_mem _
    obtain ⟨a, ha1, ha2⟩ := admS_mem (X := Y) (b := b) n _ (by rw [hLa]; exact hjl)
    have hga := hgl a ha1
    have hLj : L[j]? = some (a : Int) := by rw [← ha2, List.getD_eq_getElem?_getD, List.getElem?_eq_getElem hlt]; rfl
    have gLj := iL_at hLj
    have gg := il_get (f := fun z => ((g z : Nat) : Int)) ha1
    have d1 : (0 : Int) ≤ (a : Int) := by omega
    have d2 : (a : Int) < (n : Int) := by omega
    have d3 : a + 1 ≤ n := ha1
    have hcj : cf j = ((g a : Nat) : Int) := by rw [hcv, ha2, Int.toNat_natCast]
    have hap : il j cf ++ [.int .i64 ((g a : Nat) : Int)] = il (j + 1) cf := by rw [← hcj]; rfl
    have q1 : j ≤ 140737488355327 := by omega
    have q2 : (j + 1) * 8 ≤ 140737488355328 := by omega
    have hj1 : j + 1 ≤ L.length := hlt
    refine AW.skip ?_
    apply hK;clear hK K
    refine AW.seq_k fun K hK => ?_
    refine AW.block ?_
    refine AW.sr 1 fun K hK => ?_
    have pk_4 : _ ∧ _ ∧ _ ∧ _ ∧ _ ∧ _ ∧ _ ∧ _ ∧ _ ∧ _ ∧ _ ∧ _ ∧ _ := ⟨pk_1, c1, c2, gLj, gg, d1, d2, d3, q1, q2, hlt, hj1, ha1⟩
    simp only [push_cast, simprocAttr, c5R, c5_vals, pk_4]
    apply hK;clear hK K
    refine AW.rg ?_
    simp only [push_cast, simprocAttr, c5R, c5_vals, pk_4]
    refine InB_n ?_
    apply hK;clear hK K
    refine AW.rg ?_
    simp only [push_cast, simprocAttr, c5R, c5_vals, pk_4]
    refine Thn_n ?_
    have hwi : IntKind.i64.wrap ((j:Int)+1) = (j:Int)+1 := wi (by omega)
    refine ⟨j + 1, by omega, by omega, ?_⟩
    try simp only [keepL, setAll, push_cast, simprocAttr, c5R, c5_vals, pk_4, hwi, hap]
    exact Weak.to (extra := [_]) (by simp only [KS, simprocAttr, hwi, hap]) (by first | rfl | (simp only [List.append_assoc, List.cons_append, List.nil_append]; rfl)) (by first | rfl | (simp [AV.below, CV.below]; done) | (simp [AV.below, CV.below]; omega)) (by first | exact hwf | exact MWf.app (hwf.grow (by simp)) (MWf_cons (by simp [CV.below]; omega) (MWf_cons (il_below _ _ _) (MWf_cons (c5R_below _ _ _) (MWf_cons (iL_below _ _) (MWf_cons (il_below _ _ _) MWf_nil))))))
   ·have hin : j = L.length := by have := of_decide_eq_false h46; omega
    rw [hin]
    refine AW.exit ?_
    refine Thn_e ?_
    clear hK K
    refine Thn_e ?_
    refine InB_here ?_
    apply hK;clear hK K
    refine AW.sr 2 fun K hK => ?_
    simp only [push_cast, simprocAttr, c5R, c5_vals, pk_1]
    refine CThen.by (sort_c (m.length + 4) L.length L.length cf _ (by rw [lk_app]; rfl) (by omega)) ?_
    simp only [push_cast, simprocAttr, c5R, c5_vals, pk_1]
    apply hK;clear hK K
    refine AW.ret ?_
    refine hQ _ _ _ ?_
    refine RetP.pick [(m.length + 4, L.length)] (by first | exact Or.inr rfl | exact Or.inl rfl) ?_ ?_ ?_ hwf ?_
    · simp only [resA, resOne, resTv, AV.tv, push_cast, simprocAttr]
      simp [renV, renT, renL, renC, renIdx, hlt0]
    · simp only [picks, push_cast, simprocAttr]
    · simp [distinctFrom]
    · exact MWf_cons (il_below _ _ _) MWf_nil
theorem iL_ord (p : Nat → Nat) (n : Nat) : il n (fun i => ((p i : Nat) : Int)) = iL (ordL p n) := il_iL _ n
theorem byb_c (r v n : Nat) (X : Nat → Nat → Int) (m : AMem) (hr : m[r]? = some (c5R 29 v n X)) (hn : n ≤ 100) : Ctr Tryz.prog 13 [.one (.sl r v 0 n)] m (.one (.sl m.length 0 0 n)) (m ++ [⟨.grow, 3, 0, 1, iL (ordL (byS (fun e => X e 4) n n).2 n)⟩]) := by
 refine Ctr.enter Tryz.func13 rfl (by decide) (rs := [.tmp 2]) (nt := 54) rfl rfl fun hwf Q hQ => ?_
 have lr := get_lt hr
 have gl := catC5_len X n
 have hlt0 : ∀ k, ¬ m.length + k < m.length := fun k => by omega
 have ill := fun n f => il_len n f
 have bll := fun n f => bl_len n f
 have ivl := fun n f => il_vals n f
 have zb : zeros (.bool false) ((n : Int).toNat * 1) = bl n fun _ => false := by rw [Int.toNat_natCast, Nat.mul_one]; exact zeros_b n
 have q0 : (0 : Int) ≤ (n : Int) := by omega
 have q3 : (n : Int) ≤ 281474976710656 := by omega
 have q4 : (1 : Int) * (n : Int) ≤ 281474976710656 := by omega
 obtain ⟨B, hB⟩ : ∃ B : Nat → Int, B = fun e => X e 4 := ⟨_, rfl⟩
 have hBx : ∀ e, X e 4 = B e := fun e => by rw [hB]
 obtain ⟨u, hu⟩ : ∃ u : Nat → Nat → Bool, u = fun k => (byS B n k).1 := ⟨_, rfl⟩
 obtain ⟨p, hp⟩ : ∃ p : Nat → Nat → Nat, p = fun k => (byS B n k).2 := ⟨_, rfl⟩
 have hI : ∀ k, k ≤ n → ByI B n k (u k) (p k) := fun k hk => by rw [hu, hp]; exact byS_I B (by omega) k hk
 have hu0 : u 0 = fun _ => false := by rw [hu]; rfl
 have hu1 : ∀ k, u (k + 1) = updB (u k) (bstF B (u k) n).toNat true := fun k => by rw [hu]; rfl
 have hp1 : ∀ k, p (k + 1) = fun i => if i = k then (bstF B (u k) n).toNat else p k i := fun k => by rw [hp, hu]; rfl
 rw [← hB, ← iL_ord] at hQ
 have hpn : (byS B n n).2 = p n := by rw [hp]
 rw [hpn] at hQ
 have eX : ∀ e, (c5C (X e))[4]? = some (.int .i64 (B e)) := fun e => by rw [← hBx]; rfl
 refine AW.sr 3 fun K hK => ?_
 have pk_1 : _ ∧ _ ∧ _ ∧ _ ∧ _ ∧ _ ∧ _ ∧ _ ∧ _ := ⟨hr, lk_old hr, gl, ill, bll, ivl, q0, q3, q4⟩
 simp only [push_cast, simprocAttr, c5R, bl_vals, ↓zb, Int.le_refl, Nat.le_refl, Int.toNat_natCast, bl_set, pk_1]
 apply hK;clear hK K
 refine AW.seq_k fun K hK => ?_
 refine AW.sr 1 fun K hK => ?_
 simp only [push_cast, simprocAttr, c5R, bl_vals, ↓zb, Int.le_refl, Nat.le_refl, Int.toNat_natCast, bl_set, pk_1]
 apply hK;clear hK K
 refine AW.block ?_
 refine AW.nilTm 3 1 3 rfl ?_
 try simp only [push_cast, simprocAttr, c5R, bl_vals, ↓zb, Int.le_refl, Nat.le_refl, Int.toNat_natCast, bl_set, pk_1]
 refine AW.loopK [0, 4] (fun k => k ≤ n) (fun k => [(3, .one (.sl (m.length + 1) k 0 k)), (5, .one (.int .i64 (k : Int)))]) (fun k => [(m.length, ⟨.grow, 4, 0, 1, bl n (u k)⟩), (m.length + 1, ⟨.grow, 3, k, 1, il k (fun i => ((p k i : Nat) : Int))⟩)]) (fun k => n - k) 0 (by omega) ?_ ?_ fun k hi2 => ?_
 · first | rfl | (simp only [KS, simprocAttr, hu0, il, Int.natCast_zero] <;> repeat' (first | rfl | apply And.intro))
 · simp only [setAll, push_cast, simprocAttr, hu0, il] <;> rfl
 try simp only [keepL, setAll, push_cast, simprocAttr, c5R, bl_vals, ↓zb, Int.le_refl, Nat.le_refl, Int.toNat_natCast, bl_set, pk_1]
 refine AW.seq_k fun K hK => ?_
 refine AW.sr 1 fun K hK => ?_
 simp only [push_cast, simprocAttr, c5R, bl_vals, ↓zb, Int.le_refl, Nat.le_refl, Int.toNat_natCast, bl_set, pk_1]
 apply hK;clear hK K
 refine AW.cond rfl (fun h14 => ?_) (fun h14 => ?_)
 ·have hkn : k < n := by have := of_decide_eq_true h14; omega
  refine AW.skip ?_
  apply hK;clear hK K
  refine AW.seq_k fun K hK => ?_
  refine AW.block ?_
  refine AW.sr 1 fun K hK => ?_
  simp only [push_cast, simprocAttr, c5R, bl_vals, ↓zb, Int.le_refl, Nat.le_refl, Int.toNat_natCast, bl_set, pk_1]
  apply hK;clear hK K
  refine AW.seq_k fun K hK => ?_
  refine AW.sr 1 fun K hK => ?_
  simp only [push_cast, simprocAttr, c5R, bl_vals, ↓zb, Int.le_refl, Nat.le_refl, Int.toNat_natCast, bl_set, pk_1]
  apply hK;clear hK K
  refine AW.block ?_
  refine AW.loopK [0, 3, 4, 5] (fun i => i ≤ n) (fun i => [(6, .one (.int .i64 (bstF B (u k) i))), (7, .one (.int .i64 (i : Int)))]) (fun i => []) (fun i => n - i) 0 (by omega) ?_ ?_ fun i hi6 => ?_
  · first | rfl | (simp only [KS, simprocAttr, bstF, Int.natCast_zero] <;> repeat' (first | rfl | apply And.intro))
  · first | rfl | (simp only [setAll, push_cast, simprocAttr, c5R, bl_vals, ↓zb, Int.le_refl, Nat.le_refl, Int.toNat_natCast, bl_set, pk_1, bstF, Int.natCast_zero] <;> rfl)
  try simp only [keepL, setAll, push_cast, simprocAttr, c5R, bl_vals, ↓zb, Int.le_refl, Nat.le_refl, Int.toNat_natCast, bl_set, pk_1]
  refine AW.seq_k fun K hK => ?_
  refine AW.sr 1 fun K hK => ?_
  simp only [push_cast, simprocAttr, c5R, bl_vals, ↓zb, Int.le_refl, Nat.le_refl, Int.toNat_natCast, bl_set, pk_1]
  apply hK;clear hK K
  refine AW.cond rfl (fun h20 => ?_) (fun h20 => ?_)
  ·have hlt : i < n := by have := of_decide_eq_true h20; omega
   have c1 : (0 : Int) ≤ (i : Int) := by omega
   have c2 : (i : Int) < (n : Int) := by omega
   have gb := bl_get (f := u k) hlt
   have gx := catC_get (w := 5) (F := fun i => c5C (X i)) (n := n) (k := i) (a := 4) (fun _ => rfl) hlt (by decide)
   have gx : (catC n fun i => c5C (X i))[i * 5 + 4]? = some (.int .i64 (B i)) := gx.trans (eX i)
   have d1 : i * 5 + 5 ≤ n * 5 := by omega
   have d2 : i * 5 + 4 + 1 ≤ n * 5 := by omega
   have hsp := bst_spec (B := B) (u := u k) i
   refine AW.skip ?_
   apply hK;clear hK K
   refine AW.seq_k fun K hK => ?_
   refine AW.block ?_
   refine AW.seq_k fun K hK => ?_
   have hcs : (u k i = true) ∨ (u k i = false ∧ bstF B (u k) i = -1) ∨ (∃ a : Nat, u k i = false ∧ bstF B (u k) i = (a : Int) ∧ a < n ∧ B i < B a) ∨ (∃ a : Nat, u k i = false ∧ bstF B (u k) i = (a : Int) ∧ a < n ∧ ¬ B i < B a) := by
     cases hui : u k i with
     | true => exact .inl rfl
     | false =>
       rcases hsp with ⟨e1, _⟩ | ⟨a, e1, e2, _⟩
       · exact .inr (.inl ⟨rfl, e1⟩)
       · by_cases hb : B i < B a
         · exact .inr (.inr (.inl ⟨a, rfl, e1, by omega, hb⟩))
         · exact .inr (.inr (.inr ⟨a, rfl, e1, by omega, hb⟩))
   rcases hcs with g1 | ⟨g1, g2⟩ | ⟨a, g1, g2, g3, g4⟩ | ⟨a, g1, g2, g3, g4⟩
   ·have hb1 : bstF B (u k) (i + 1) = bstF B (u k) i := if_neg (fun h => by rw [g1] at h; cases h.1)
    refine AW.draw [.val, .val, .val, .rd 0, .val, .val, .val, .val, .val, .val, .val, .val, .val, .rd 0, .val, .val, .val, .val, .rd 0, .val, .val, .val] fol (by decide) (by kernel_rfl) ?_
    have pk_2 : _ ∧ _ ∧ _ ∧ _ ∧ _ ∧ _ ∧ _ ∧ _ ∧ _ := ⟨pk_1, c1, c2, hlt, gb, gx, d1, d2, g1⟩
    simp only [push_cast, simprocAttr, c5R, bl_vals, ↓zb, Int.le_refl, Nat.le_refl, Int.toNat_natCast, bl_set, pk_2]
    apply hK;clear hK K
    refine AW.cond_f rfl ?_
    refine AW.skip ?_
    refine InB_n ?_
    apply hK;clear hK K
    refine AW.rg ?_
    simp only [push_cast, simprocAttr, c5R, bl_vals, ↓zb, Int.le_refl, Nat.le_refl, Int.toNat_natCast, bl_set, pk_2]
    refine Thn_n ?_
    have hwi : IntKind.i64.wrap ((i:Int)+1) = (i:Int)+1 := wi (by omega)
    refine ⟨i + 1, by omega, by omega, ?_⟩
    try simp only [keepL, setAll, push_cast, simprocAttr, c5R, bl_vals, ↓zb, Int.le_refl, Nat.le_refl, Int.toNat_natCast, bl_set, pk_2, hwi, hb1]
    exact Weak.same (by simp only [KS, simprocAttr, hwi, hb1]) (by first | rfl | simp only [KS, simprocAttr, hwi, hb1])
   ·have hb1 : bstF B (u k) (i + 1) = (i : Int) := if_pos ⟨g1, .inl (by rw [g2]; decide)⟩
    have g5 : (-1 : Int) < 0 := by decide
    refine AW.draw [.val, .val, .val, .rd 0, .val, .val, .val, .val, .val, .val, .val, .val, .val, .rd 0, .val, .val, .val, .val, .rd 0, .val, .val, .val] fol (by decide) (by kernel_rfl) ?_
    have pk_3 : _ ∧ _ ∧ _ ∧ _ ∧ _ ∧ _ ∧ _ ∧ _ ∧ _ ∧ _ ∧ _ := ⟨pk_1, c1, c2, hlt, gb, gx, d1, d2, g1, g2, g5⟩
    simp only [push_cast, simprocAttr, c5R, bl_vals, ↓zb, Int.le_refl, Nat.le_refl, Int.toNat_natCast, bl_set, pk_3]
    apply hK;clear hK K
    refine AW.cond_t rfl ?_
    refine AW.rg ?_
    simp only [push_cast, simprocAttr, c5R, bl_vals, ↓zb, Int.le_refl, Nat.le_refl, Int.toNat_natCast, bl_set, pk_3]
    refine InB_n ?_
    apply hK;clear hK K
    refine AW.rg ?_
    simp only [push_cast, simprocAttr, c5R, bl_vals, ↓zb, Int.le_refl, Nat.le_refl, Int.toNat_natCast, bl_set, pk_3]
    refine Thn_n ?_
    have hwi : IntKind.i64.wrap ((i:Int)+1) = (i:Int)+1 := wi (by omega)
    refine ⟨i + 1, by omega, by omega, ?_⟩
    try simp only [keepL, setAll, push_cast, simprocAttr, c5R, bl_vals, ↓zb, Int.le_refl, Nat.le_refl, Int.toNat_natCast, bl_set, pk_3, hwi, hb1]
    exact Weak.same (by simp only [KS, simprocAttr, hwi, hb1]) (by first | rfl | simp only [KS, simprocAttr, hwi, hb1])
   ·have g5 : ¬ (a : Int) < 0 := by omega
    have e1 : (0 : Int) ≤ (a : Int) := by omega
    have e2 : (a : Int) < (n : Int) := by omega
    have e3 : a * 5 + 5 ≤ n * 5 := by omega
    have e4 : a * 5 + 4 + 1 ≤ n * 5 := by omega
    have ga := catC_get (w := 5) (F := fun i => c5C (X i)) (n := n) (k := a) (a := 4) (fun _ => rfl) g3 (by decide)
    have ga : (catC n fun i => c5C (X i))[a * 5 + 4]? = some (.int .i64 (B a)) := ga.trans (eX a)
    have hb1 : bstF B (u k) (i + 1) = (i : Int) := if_pos ⟨g1, .inr (by rw [g2, Int.toNat_natCast]; exact g4)⟩
    refine AW.draw [.val, .val, .val, .rd 0, .val, .val, .val, .val, .val, .val, .val, .val, .val, .rd 0, .val, .val, .val, .val, .rd 0, .val, .val, .val] fol (by decide) (by kernel_rfl) ?_
    have pk_4 : _ ∧ _ ∧ _ ∧ _ ∧ _ ∧ _ ∧ _ ∧ _ ∧ _ ∧ _ ∧ _ ∧ _ ∧ _ ∧ _ ∧ _ ∧ _ ∧ _ ∧ _ := ⟨pk_1, c1, c2, hlt, gb, gx, d1, d2, g1, g2, g5, e1, e2, e3, e4, ga, g4, g3⟩
    simp only [push_cast, simprocAttr, c5R, bl_vals, ↓zb, Int.le_refl, Nat.le_refl, Int.toNat_natCast, bl_set, pk_4]
    apply hK;clear hK K
    refine AW.cond_t rfl ?_
    refine AW.rg ?_
    simp only [push_cast, simprocAttr, c5R, bl_vals, ↓zb, Int.le_refl, Nat.le_refl, Int.toNat_natCast, bl_set, pk_4]
    refine InB_n ?_
    apply hK;clear hK K
    refine AW.rg ?_
    simp only [push_cast, simprocAttr, c5R, bl_vals, ↓zb, Int.le_refl, Nat.le_refl, Int.toNat_natCast, bl_set, pk_4]
    refine Thn_n ?_
    have hwi : IntKind.i64.wrap ((i:Int)+1) = (i:Int)+1 := wi (by omega)
    refine ⟨i + 1, by omega, by omega, ?_⟩
    try simp only [keepL, setAll, push_cast, simprocAttr, c5R, bl_vals, ↓zb, Int.le_refl, Nat.le_refl, Int.toNat_natCast, bl_set, pk_4, hwi, hb1]
    exact Weak.same (by simp only [KS, simprocAttr, hwi, hb1]) (by first | rfl | simp only [KS, simprocAttr, hwi, hb1])
   ·have g5 : ¬ (a : Int) < 0 := by omega
    have e1 : (0 : Int) ≤ (a : Int) := by omega
    have e2 : (a : Int) < (n : Int) := by omega
    have e3 : a * 5 + 5 ≤ n * 5 := by omega
    have e4 : a * 5 + 4 + 1 ≤ n * 5 := by omega
    have ga := catC_get (w := 5) (F := fun i => c5C (X i)) (n := n) (k := a) (a := 4) (fun _ => rfl) g3 (by decide)
    have ga : (catC n fun i => c5C (X i))[a * 5 + 4]? = some (.int .i64 (B a)) := ga.trans (eX a)
    have hb1 : bstF B (u k) (i + 1) = bstF B (u k) i := if_neg (fun h => by rw [g2, Int.toNat_natCast] at h; exact h.2.elim g5 g4)
    refine AW.draw [.val, .val, .val, .rd 0, .val, .val, .val, .val, .val, .val, .val, .val, .val, .rd 0, .val, .val, .val, .val, .rd 0, .val, .val, .val] fol (by decide) (by kernel_rfl) ?_
    have pk_5 : _ ∧ _ ∧ _ ∧ _ ∧ _ ∧ _ ∧ _ ∧ _ ∧ _ ∧ _ ∧ _ ∧ _ ∧ _ ∧ _ ∧ _ ∧ _ ∧ _ ∧ _ := ⟨pk_1, c1, c2, hlt, gb, gx, d1, d2, g1, g2, g5, e1, e2, e3, e4, ga, g4, g3⟩
    simp only [push_cast, simprocAttr, c5R, bl_vals, ↓zb, Int.le_refl, Nat.le_refl, Int.toNat_natCast, bl_set, pk_5]
    apply hK;clear hK K
    refine AW.cond_f rfl ?_
    refine AW.skip ?_
    refine InB_n ?_
    apply hK;clear hK K
    refine AW.rg ?_
    simp only [push_cast, simprocAttr, c5R, bl_vals, ↓zb, Int.le_refl, Nat.le_refl, Int.toNat_natCast, bl_set, pk_5]
    refine Thn_n ?_
    have hwi : IntKind.i64.wrap ((i:Int)+1) = (i:Int)+1 := wi (by omega)
    refine ⟨i + 1, by omega, by omega, ?_⟩
    try simp only [keepL, setAll, push_cast, simprocAttr, c5R, bl_vals, ↓zb, Int.le_refl, Nat.le_refl, Int.toNat_natCast, bl_set, pk_5, hwi, hb1]
    exact Weak.same (by simp only [KS, simprocAttr, hwi, hb1]) (by first | rfl | simp only [KS, simprocAttr, hwi, hb1])
  ·have hin : i = n := by have := of_decide_eq_false h20; omega
   subst hin
   obtain ⟨a, ha, ha2, ha3, _⟩ : ∃ a : Nat, bstF B (u k) i = (a : Int) ∧ a < i ∧ u k a = false ∧ True := by
     rcases bst_spec (B := B) (u := u k) i with ⟨_, h2⟩ | ⟨a, e1, e2, e3, _⟩
     · have := cntB_all i h2
       have := (hI k (by omega)).ct
       omega
     · exact ⟨a, e1, e2, e3, trivial⟩
   have d1 : (0 : Int) ≤ (a : Int) := by omega
   have d2 : (a : Int) < (i : Int) := by omega
   have d3 : a + 1 ≤ i := ha2
   have hnu : updB (u k) a true = u (k + 1) := by rw [hu1, ha, Int.toNat_natCast]
   have hap : il k (fun i => ((p k i : Nat) : Int)) ++ [.int .i64 (a : Int)] = il (k + 1) (fun i => ((p (k + 1) i : Nat) : Int)) := by
     rw [hp1, ha, Int.toNat_natCast]
     show _ = il k _ ++ [.int .i64 ((if k = k then a else p k k : Nat) : Int)]
     rw [if_pos rfl]
     congr 1
     exact il_congr fun j hj => by show _ = ((if j = k then a else p k j : Nat) : Int); rw [if_neg (by omega)]
   have q1 : k ≤ 140737488355327 := by omega
   have q2 : (k + 1) * 8 ≤ 140737488355328 := by omega
   refine AW.exit ?_
   refine Thn_e ?_
   clear hK K
   refine Thn_e ?_
   refine InB_here ?_
   apply hK;clear hK K
   refine AW.sr 1 fun K hK => ?_
   have pk_6 : _ ∧ _ ∧ _ ∧ _ ∧ _ ∧ _ ∧ _ ∧ _ := ⟨pk_1, ha, d1, d2, d3, ha2, q1, q2⟩
   simp only [push_cast, simprocAttr, c5R, bl_vals, ↓zb, Int.le_refl, Nat.le_refl, Int.toNat_natCast, bl_set, pk_6]
   apply hK;clear hK K
   refine AW.rg ?_
   simp only [push_cast, simprocAttr, c5R, bl_vals, ↓zb, Int.le_refl, Nat.le_refl, Int.toNat_natCast, bl_set, pk_6]
   refine InB_n ?_
   apply hK;clear hK K
   refine AW.rg ?_
   simp only [push_cast, simprocAttr, c5R, bl_vals, ↓zb, Int.le_refl, Nat.le_refl, Int.toNat_natCast, bl_set, pk_6]
   refine Thn_n ?_
   have hwi : IntKind.i64.wrap ((k:Int)+1) = (k:Int)+1 := wi (by omega)
   refine ⟨k + 1, by omega, by omega, ?_⟩
   try simp only [keepL, setAll, push_cast, simprocAttr, c5R, bl_vals, ↓zb, Int.le_refl, Nat.le_refl, Int.toNat_natCast, bl_set, pk_6, hwi, hnu, hap]
   exact Weak.to (extra := [_]) (by simp only [KS, simprocAttr, hwi, hnu, hap]) (by first | rfl | (simp only [List.append_assoc, List.cons_append, List.nil_append]; rfl)) (by first | rfl | (simp [AV.below, CV.below]; done) | (simp [AV.below, CV.below]; omega)) (by first | exact hwf | exact MWf.app (hwf.grow (by simp)) (MWf_cons (bl_below _ _ _) (MWf_cons (il_below _ _ _) MWf_nil)))
 ·have hin : k = n := by have := of_decide_eq_false h14; omega
  rw [hin]
  refine AW.exit ?_
  refine Thn_e ?_
  clear hK K
  refine Thn_e ?_
  refine InB_here ?_
  apply hK;clear hK K
  refine AW.sr 1 fun K hK => ?_
  simp only [push_cast, simprocAttr, c5R, bl_vals, ↓zb, Int.le_refl, Nat.le_refl, Int.toNat_natCast, bl_set, pk_1]
  apply hK;clear hK K
  refine AW.ret ?_
  refine hQ _ _ _ ?_
  refine RetP.pick [(m.length + 1, n)] (by first | exact Or.inr rfl | exact Or.inl rfl) ?_ ?_ ?_ hwf ?_
  · simp only [resA, resOne, resTv, AV.tv, push_cast, simprocAttr]
    simp [renV, renT, renL, renC, renIdx, hlt0]
  · simp only [picks, push_cast, simprocAttr]
  · simp [distinctFrom]
  · exact MWf_cons (il_below _ _ _) MWf_nil
structure SC where
 (w h sm dp fr sh sd : Int) (sk : Nat → Int) (ey lk wd : Int) (np nt nj nx : Nat) (pk : Nat → Int) (pc : Nat → Nat → Int) (pr : Nat → Int) (tw : Nat → Int) (kn : Nat → Nat) (kt : Nat → Nat → Int) (kv : Nat → Nat → Nat → Int)
 (jp jm jt js : Nat → Int) (xj xp xk : Nat → Int) (xv : Nat → Nat → Nat → Int) (xr : Nat → Int)
def c3C (f : Nat → Int) : List CV := [.int .i64 (f 0), .int .i64 (f 1), .int .i64 (f 2)]
def hdC (s : SC) : List CV := .int .i64 s.w :: .int .i64 s.h :: .int .i64 s.sm :: .int .i64 s.dp :: .int .i64 s.fr :: .int .i64 s.sh :: .int .u64 s.sd :: c3C s.sk
structure RWs where
 (p vp t vt j vj x vx : Nat) (k vk : Nat → Nat)
def tlC (s : SC) (R : RWs) : List CV := [.int .i64 s.ey, .int .i64 s.lk, .int .i64 s.wd, .sl R.p R.vp 0 s.np, .sl R.t R.vt 0 s.nt, .sl R.j R.vj 0 s.nj, .sl R.x R.vx 0 s.nx]
def scC (s : SC) (R : RWs) : List CV := hdC s ++ tlC s R
def pC (s : SC) (i : Nat) : List CV := [.int .i64 (s.pk i), .int .i64 (s.pc i 0), .int .i64 (s.pc i 1), .int .i64 (s.pc i 2), .int .i64 (s.pr i)]
def tC (s : SC) (R : RWs) (i : Nat) : List CV := [.int .i64 (s.tw i), .sl (R.k i) (R.vk i) 0 (s.kn i)]
def kC (s : SC) (i j : Nat) : List CV := [.int .i64 (s.kt i j), .int .i64 (s.kv i j 0), .int .i64 (s.kv i j 1), .int .i64 (s.kv i j 2)]
def jC (s : SC) (i : Nat) : List CV := [.int .i64 (s.jp i), .int .i64 (s.jm i), .int .i64 (s.jt i), .int .i64 (s.js i)]
def xC (s : SC) (i : Nat) : List CV := .int .i64 (s.xj i) :: .int .i64 (s.xp i) :: .int .i64 (s.xk i) :: (c3C (s.xv i 0) ++ (c3C (s.xv i 1) ++ (c3C (s.xv i 2) ++ [.int .i64 (s.xr i)])))
def inB (x lo hi : Int) : Bool := decide (lo ≤ x) && decide (x ≤ hi)
def boxB (f : Nat → Int) (lo hi : Int) : Bool := decide (lo ≤ f 0 ∧ f 0 ≤ hi ∧ lo ≤ f 1 ∧ f 1 ≤ hi ∧ lo ≤ f 2 ∧ f 2 ≤ hi)
theorem inB_iff {x lo hi : Int} : inB x lo hi = true ↔ lo ≤ x ∧ x ≤ hi := by simp [inB]
theorem in_t (x lo hi : Int) (m : AMem) (g : lo ≤ x) : Ctr Tryz.prog 45 [.one (.int .i64 x), .one (.int .i64 lo), .one (.int .i64 hi)] m (.one (.bool (inB x lo hi))) m := by
 refine Ctr.enter Tryz.func45 rfl (by decide) (rs := [.tmp 6]) (nt := 15) rfl rfl fun hwf Q hQ => ?_
 refine AW.sr 2 fun K hK => ?_
 simp only [push_cast, simprocAttr, inB, g, decide_true, decide_false, Bool.true_and, Bool.false_and]
 apply hK;clear hK K
 refine AW.ret ?_
 refine hQ _ _ _ ?_
 first | refine RetP.drop0 (Or.inr rfl) ?_ ?_ hwf | refine RetP.drop (Or.inr rfl) ?_ ?_ hwf
 · simp only [resA, resOne, resTv, AV.tv, push_cast, simprocAttr, inB, g, decide_true, decide_false, Bool.true_and, Bool.false_and]
 · rfl
theorem in_f (x lo hi : Int) (m : AMem) (g : ¬ lo ≤ x) : Ctr Tryz.prog 45 [.one (.int .i64 x), .one (.int .i64 lo), .one (.int .i64 hi)] m (.one (.bool (inB x lo hi))) m := by
 refine Ctr.enter Tryz.func45 rfl (by decide) (rs := [.tmp 6]) (nt := 15) rfl rfl fun hwf Q hQ => ?_
 refine AW.sr 2 fun K hK => ?_
 simp only [push_cast, simprocAttr, inB, g, decide_true, decide_false, Bool.true_and, Bool.false_and]
 apply hK;clear hK K
 refine AW.ret ?_
 refine hQ _ _ _ ?_
 first | refine RetP.drop0 (Or.inr rfl) ?_ ?_ hwf | refine RetP.drop (Or.inr rfl) ?_ ?_ hwf
 · simp only [resA, resOne, resTv, AV.tv, push_cast, simprocAttr, inB, g, decide_true, decide_false, Bool.true_and, Bool.false_and]
 · rfl
theorem in_c (x lo hi : Int) (m : AMem) : Ctr Tryz.prog 45 [.one (.int .i64 x), .one (.int .i64 lo), .one (.int .i64 hi)] m (.one (.bool (inB x lo hi))) m := by
 by_cases g : lo ≤ x
 ·exact in_t x lo hi m g
 ·exact in_f x lo hi m g
theorem light_c (f : Nat → Int) (m : AMem) : Ctr Tryz.prog 46 [.agg (c3C f)] m (.one (.bool (boxB f (0) (1048576)))) m := by
 refine Ctr.enter Tryz.func46 rfl (by decide) (rs := [.tmp 2]) (nt := 18) rfl rfl fun hwf Q hQ => ?_
 refine AW.sr 1 fun K hK => ?_
 simp only [push_cast, simprocAttr, c3C]
 apply hK;clear hK K
 refine AW.seq_k fun K hK => ?_
 refine AW.sr 1 fun K hK => ?_
 simp only [push_cast, simprocAttr, c3C]
 apply hK;clear hK K
 refine AW.block ?_
 refine AW.rounds 4 ?_
 refine ARounds.succ fun K hK => ?_
 refine AW.seq_k fun K hK => ?_
 refine AW.sr 1 fun K hK => ?_
 simp only [push_cast, simprocAttr, c3C]
 apply hK;clear hK K
 refine AW.cond_t rfl ?_
 refine AW.skip ?_
 apply hK;clear hK K
 refine AW.seq_k fun K hK => ?_
 refine AW.block ?_
 refine AW.seq_k fun K hK => ?_
 have hk0 : f 0 < 0 ∨ (¬ f 0 < 0 ∧ 1048576 < f 0) ∨ (¬ f 0 < 0 ∧ ¬ 1048576 < f 0) := by omega
 rcases hk0 with g0 | ⟨g0, f0⟩ | ⟨g0, f0⟩
 ·rw [show boxB f (0) (1048576) = false from decide_eq_false (by omega)] at hQ
  refine AW.rg ?_
  simp only [push_cast, simprocAttr, c3C, g0]
  apply hK;clear hK K
  refine AW.cond_t rfl ?_
  refine AW.sr 1 fun K hK => ?_
  simp only [push_cast, simprocAttr, c3C, g0]
  apply hK;clear hK K
  refine AW.ret ?_
  refine InB_r ?_
  refine Thn_r ?_
  refine Thn_r ?_
  refine InB_r ?_
  refine Thn_r ?_
  refine hQ _ _ _ ?_
  first
  | (refine RetP.drop0 (Or.inr rfl) ?_ ?_ hwf
     · simp only [resA, resOne, resTv, AV.tv, push_cast, simprocAttr]
     · rfl)
  | (refine RetP.drop (Or.inr rfl) ?_ ?_ hwf
     · simp only [resA, resOne, resTv, AV.tv, push_cast, simprocAttr]
     · rfl)
  | (rw [show boxB f (0) (1048576) = true from decide_eq_true (by omega)] at * ; refine RetP.drop (Or.inr rfl) ?_ ?_ hwf
     · simp only [resA, resOne, resTv, AV.tv, push_cast, simprocAttr]
     · rfl)
 ·rw [show boxB f (0) (1048576) = false from decide_eq_false (by omega)] at hQ
  refine AW.rg ?_
  simp only [push_cast, simprocAttr, c3C, g0, f0]
  apply hK;clear hK K
  refine AW.cond_t rfl ?_
  refine AW.sr 1 fun K hK => ?_
  simp only [push_cast, simprocAttr, c3C, g0, f0]
  apply hK;clear hK K
  refine AW.ret ?_
  refine InB_r ?_
  refine Thn_r ?_
  refine Thn_r ?_
  refine InB_r ?_
  refine Thn_r ?_
  refine hQ _ _ _ ?_
  first
  | (refine RetP.drop0 (Or.inr rfl) ?_ ?_ hwf
     · simp only [resA, resOne, resTv, AV.tv, push_cast, simprocAttr]
     · rfl)
  | (refine RetP.drop (Or.inr rfl) ?_ ?_ hwf
     · simp only [resA, resOne, resTv, AV.tv, push_cast, simprocAttr]
     · rfl)
  | (rw [show boxB f (0) (1048576) = true from decide_eq_true (by omega)] at * ; refine RetP.drop (Or.inr rfl) ?_ ?_ hwf
     · simp only [resA, resOne, resTv, AV.tv, push_cast, simprocAttr]
     · rfl)
 ·have ok0 := True.intro
  refine AW.rg ?_
  simp only [push_cast, simprocAttr, c3C, g0, f0]
  apply hK;clear hK K
  refine AW.cond_f rfl ?_
  refine AW.skip ?_
  refine InB_n ?_
  apply hK;clear hK K
  refine AW.rg ?_
  simp only [push_cast, simprocAttr, c3C, g0, f0]
  apply hK;clear hK K
  refine ARounds.succ fun K hK => ?_
  refine AW.seq_k fun K hK => ?_
  refine AW.sr 1 fun K hK => ?_
  simp only [push_cast, simprocAttr, c3C]
  apply hK;clear hK K
  refine AW.cond_t rfl ?_
  refine AW.skip ?_
  apply hK;clear hK K
  refine AW.seq_k fun K hK => ?_
  refine AW.block ?_
  refine AW.seq_k fun K hK => ?_
  have hk1 : f 1 < 0 ∨ (¬ f 1 < 0 ∧ 1048576 < f 1) ∨ (¬ f 1 < 0 ∧ ¬ 1048576 < f 1) := by omega
  rcases hk1 with g1 | ⟨g1, f1⟩ | ⟨g1, f1⟩
  ·rw [show boxB f (0) (1048576) = false from decide_eq_false (by omega)] at hQ
   refine AW.rg ?_
   simp only [push_cast, simprocAttr, c3C, g1]
   apply hK;clear hK K
   refine AW.cond_t rfl ?_
   refine AW.sr 1 fun K hK => ?_
   simp only [push_cast, simprocAttr, c3C, g1]
   apply hK;clear hK K
   refine AW.ret ?_
   refine InB_r ?_
   refine Thn_r ?_
   refine Thn_r ?_
   refine InB_r ?_
   refine Thn_r ?_
   refine hQ _ _ _ ?_
   first
   | (refine RetP.drop0 (Or.inr rfl) ?_ ?_ hwf
      · simp only [resA, resOne, resTv, AV.tv, push_cast, simprocAttr]
      · rfl)
   | (refine RetP.drop (Or.inr rfl) ?_ ?_ hwf
      · simp only [resA, resOne, resTv, AV.tv, push_cast, simprocAttr]
      · rfl)
   | (rw [show boxB f (0) (1048576) = true from decide_eq_true (by omega)] at * ; refine RetP.drop (Or.inr rfl) ?_ ?_ hwf
      · simp only [resA, resOne, resTv, AV.tv, push_cast, simprocAttr]
      · rfl)
  ·rw [show boxB f (0) (1048576) = false from decide_eq_false (by omega)] at hQ
   refine AW.rg ?_
   simp only [push_cast, simprocAttr, c3C, g1, f1]
   apply hK;clear hK K
   refine AW.cond_t rfl ?_
   refine AW.sr 1 fun K hK => ?_
   simp only [push_cast, simprocAttr, c3C, g1, f1]
   apply hK;clear hK K
   refine AW.ret ?_
   refine InB_r ?_
   refine Thn_r ?_
   refine Thn_r ?_
   refine InB_r ?_
   refine Thn_r ?_
   refine hQ _ _ _ ?_
   first
   | (refine RetP.drop0 (Or.inr rfl) ?_ ?_ hwf
      · simp only [resA, resOne, resTv, AV.tv, push_cast, simprocAttr]
      · rfl)
   | (refine RetP.drop (Or.inr rfl) ?_ ?_ hwf
      · simp only [resA, resOne, resTv, AV.tv, push_cast, simprocAttr]
      · rfl)
   | (rw [show boxB f (0) (1048576) = true from decide_eq_true (by omega)] at * ; refine RetP.drop (Or.inr rfl) ?_ ?_ hwf
      · simp only [resA, resOne, resTv, AV.tv, push_cast, simprocAttr]
      · rfl)
  ·have ok1 := True.intro
   refine AW.rg ?_
   simp only [push_cast, simprocAttr, c3C, g1, f1]
   apply hK;clear hK K
   refine AW.cond_f rfl ?_
   refine AW.skip ?_
   refine InB_n ?_
   apply hK;clear hK K
   refine AW.rg ?_
   simp only [push_cast, simprocAttr, c3C, g1, f1]
   apply hK;clear hK K
   refine ARounds.succ fun K hK => ?_
   refine AW.seq_k fun K hK => ?_
   refine AW.sr 1 fun K hK => ?_
   simp only [push_cast, simprocAttr, c3C]
   apply hK;clear hK K
   refine AW.cond_t rfl ?_
   refine AW.skip ?_
   apply hK;clear hK K
   refine AW.seq_k fun K hK => ?_
   refine AW.block ?_
   refine AW.seq_k fun K hK => ?_
   have hk2 : f 2 < 0 ∨ (¬ f 2 < 0 ∧ 1048576 < f 2) ∨ (¬ f 2 < 0 ∧ ¬ 1048576 < f 2) := by omega
   rcases hk2 with g2 | ⟨g2, f2⟩ | ⟨g2, f2⟩
   ·rw [show boxB f (0) (1048576) = false from decide_eq_false (by omega)] at hQ
    refine AW.rg ?_
    simp only [push_cast, simprocAttr, c3C, g2]
    apply hK;clear hK K
    refine AW.cond_t rfl ?_
    refine AW.sr 1 fun K hK => ?_
    simp only [push_cast, simprocAttr, c3C, g2]
    apply hK;clear hK K
    refine AW.ret ?_
    refine InB_r ?_
    refine Thn_r ?_
    refine Thn_r ?_
    refine InB_r ?_
    refine Thn_r ?_
    refine hQ _ _ _ ?_
    first
    | (refine RetP.drop0 (Or.inr rfl) ?_ ?_ hwf
       · simp only [resA, resOne, resTv, AV.tv, push_cast, simprocAttr]
       · rfl)
    | (refine RetP.drop (Or.inr rfl) ?_ ?_ hwf
       · simp only [resA, resOne, resTv, AV.tv, push_cast, simprocAttr]
       · rfl)
    | (rw [show boxB f (0) (1048576) = true from decide_eq_true (by omega)] at * ; refine RetP.drop (Or.inr rfl) ?_ ?_ hwf
       · simp only [resA, resOne, resTv, AV.tv, push_cast, simprocAttr]
       · rfl)
   ·rw [show boxB f (0) (1048576) = false from decide_eq_false (by omega)] at hQ
    refine AW.rg ?_
    simp only [push_cast, simprocAttr, c3C, g2, f2]
    apply hK;clear hK K
    refine AW.cond_t rfl ?_
    refine AW.sr 1 fun K hK => ?_
    simp only [push_cast, simprocAttr, c3C, g2, f2]
    apply hK;clear hK K
    refine AW.ret ?_
    refine InB_r ?_
    refine Thn_r ?_
    refine Thn_r ?_
    refine InB_r ?_
    refine Thn_r ?_
    refine hQ _ _ _ ?_
    first
    | (refine RetP.drop0 (Or.inr rfl) ?_ ?_ hwf
       · simp only [resA, resOne, resTv, AV.tv, push_cast, simprocAttr]
       · rfl)
    | (refine RetP.drop (Or.inr rfl) ?_ ?_ hwf
       · simp only [resA, resOne, resTv, AV.tv, push_cast, simprocAttr]
       · rfl)
    | (rw [show boxB f (0) (1048576) = true from decide_eq_true (by omega)] at * ; refine RetP.drop (Or.inr rfl) ?_ ?_ hwf
       · simp only [resA, resOne, resTv, AV.tv, push_cast, simprocAttr]
       · rfl)
   ·have ok2 := True.intro
    refine AW.rg ?_
    simp only [push_cast, simprocAttr, c3C, g2, f2]
    apply hK;clear hK K
    refine AW.cond_f rfl ?_
    refine AW.skip ?_
    refine InB_n ?_
    apply hK;clear hK K
    refine AW.rg ?_
    simp only [push_cast, simprocAttr, c3C, g2, f2]
    apply hK;clear hK K
    refine ARounds.succ fun K hK => ?_
    refine AW.seq_k fun K hK => ?_
    refine AW.sr 1 fun K hK => ?_
    simp only [push_cast, simprocAttr, c3C]
    apply hK;clear hK K
    refine AW.cond_f rfl ?_
    refine AW.exit ?_
    refine Thn_e ?_
    clear hK K
    refine Thn_e ?_
    clear hK K
    refine InB_here ?_
    apply hK;clear hK K
    refine AW.sr 1 fun K hK => ?_
    simp only [push_cast, simprocAttr, c3C]
    apply hK;clear hK K
    refine AW.ret ?_
    refine hQ _ _ _ ?_
    first
    | (refine RetP.drop0 (Or.inr rfl) ?_ ?_ hwf
       · simp only [resA, resOne, resTv, AV.tv, push_cast, simprocAttr]
       · rfl)
    | (refine RetP.drop (Or.inr rfl) ?_ ?_ hwf
       · simp only [resA, resOne, resTv, AV.tv, push_cast, simprocAttr]
       · rfl)
    | (rw [show boxB f (0) (1048576) = true from decide_eq_true (by omega)] at * ; refine RetP.drop (Or.inr rfl) ?_ ?_ hwf
       · simp only [resA, resOne, resTv, AV.tv, push_cast, simprocAttr]
       · rfl)
theorem point_c (f : Nat → Int) (m : AMem) : Ctr Tryz.prog 48 [.agg (c3C f)] m (.one (.bool (boxB f (-16777216) (16777216)))) m := by
 refine Ctr.enter Tryz.func48 rfl (by decide) (rs := [.tmp 2]) (nt := 18) rfl rfl fun hwf Q hQ => ?_
 refine AW.sr 1 fun K hK => ?_
 simp only [push_cast, simprocAttr, c3C]
 apply hK;clear hK K
 refine AW.seq_k fun K hK => ?_
 refine AW.sr 1 fun K hK => ?_
 simp only [push_cast, simprocAttr, c3C]
 apply hK;clear hK K
 refine AW.block ?_
 refine AW.rounds 4 ?_
 refine ARounds.succ fun K hK => ?_
 refine AW.seq_k fun K hK => ?_
 refine AW.sr 1 fun K hK => ?_
 simp only [push_cast, simprocAttr, c3C]
 apply hK;clear hK K
 refine AW.cond_t rfl ?_
 refine AW.skip ?_
 apply hK;clear hK K
 refine AW.seq_k fun K hK => ?_
 refine AW.block ?_
 refine AW.seq_k fun K hK => ?_
 have hk0 : f 0 < -16777216 ∨ (¬ f 0 < -16777216 ∧ 16777216 < f 0) ∨ (¬ f 0 < -16777216 ∧ ¬ 16777216 < f 0) := by omega
 rcases hk0 with g0 | ⟨g0, f0⟩ | ⟨g0, f0⟩
 ·rw [show boxB f (-16777216) (16777216) = false from decide_eq_false (by omega)] at hQ
  refine AW.rg ?_
  simp only [push_cast, simprocAttr, c3C, g0]
  apply hK;clear hK K
  refine AW.cond_t rfl ?_
  refine AW.sr 1 fun K hK => ?_
  simp only [push_cast, simprocAttr, c3C, g0]
  apply hK;clear hK K
  refine AW.ret ?_
  refine InB_r ?_
  refine Thn_r ?_
  refine Thn_r ?_
  refine InB_r ?_
  refine Thn_r ?_
  refine hQ _ _ _ ?_
  first
  | (refine RetP.drop0 (Or.inr rfl) ?_ ?_ hwf
     · simp only [resA, resOne, resTv, AV.tv, push_cast, simprocAttr]
     · rfl)
  | (refine RetP.drop (Or.inr rfl) ?_ ?_ hwf
     · simp only [resA, resOne, resTv, AV.tv, push_cast, simprocAttr]
     · rfl)
  | (rw [show boxB f (-16777216) (16777216) = true from decide_eq_true (by omega)] at * ; refine RetP.drop (Or.inr rfl) ?_ ?_ hwf
     · simp only [resA, resOne, resTv, AV.tv, push_cast, simprocAttr]
     · rfl)
 ·rw [show boxB f (-16777216) (16777216) = false from decide_eq_false (by omega)] at hQ
  refine AW.rg ?_
  simp only [push_cast, simprocAttr, c3C, g0, f0]
  apply hK;clear hK K
  refine AW.cond_t rfl ?_
  refine AW.sr 1 fun K hK => ?_
  simp only [push_cast, simprocAttr, c3C, g0, f0]
  apply hK;clear hK K
  refine AW.ret ?_
  refine InB_r ?_
  refine Thn_r ?_
  refine Thn_r ?_
  refine InB_r ?_
  refine Thn_r ?_
  refine hQ _ _ _ ?_
  first
  | (refine RetP.drop0 (Or.inr rfl) ?_ ?_ hwf
     · simp only [resA, resOne, resTv, AV.tv, push_cast, simprocAttr]
     · rfl)
  | (refine RetP.drop (Or.inr rfl) ?_ ?_ hwf
     · simp only [resA, resOne, resTv, AV.tv, push_cast, simprocAttr]
     · rfl)
  | (rw [show boxB f (-16777216) (16777216) = true from decide_eq_true (by omega)] at * ; refine RetP.drop (Or.inr rfl) ?_ ?_ hwf
     · simp only [resA, resOne, resTv, AV.tv, push_cast, simprocAttr]
     · rfl)
 ·have ok0 := True.intro
  refine AW.rg ?_
  simp only [push_cast, simprocAttr, c3C, g0, f0]
  apply hK;clear hK K
  refine AW.cond_f rfl ?_
  refine AW.skip ?_
  refine InB_n ?_
  apply hK;clear hK K
  refine AW.rg ?_
  simp only [push_cast, simprocAttr, c3C, g0, f0]
  apply hK;clear hK K
  refine ARounds.succ fun K hK => ?_
  refine AW.seq_k fun K hK => ?_
  refine AW.sr 1 fun K hK => ?_
  simp only [push_cast, simprocAttr, c3C]
  apply hK;clear hK K
  refine AW.cond_t rfl ?_
  refine AW.skip ?_
  apply hK;clear hK K
  refine AW.seq_k fun K hK => ?_
  refine AW.block ?_
  refine AW.seq_k fun K hK => ?_
  have hk1 : f 1 < -16777216 ∨ (¬ f 1 < -16777216 ∧ 16777216 < f 1) ∨ (¬ f 1 < -16777216 ∧ ¬ 16777216 < f 1) := by omega
  rcases hk1 with g1 | ⟨g1, f1⟩ | ⟨g1, f1⟩
  ·rw [show boxB f (-16777216) (16777216) = false from decide_eq_false (by omega)] at hQ
   refine AW.rg ?_
   simp only [push_cast, simprocAttr, c3C, g1]
   apply hK;clear hK K
   refine AW.cond_t rfl ?_
   refine AW.sr 1 fun K hK => ?_
   simp only [push_cast, simprocAttr, c3C, g1]
   apply hK;clear hK K
   refine AW.ret ?_
   refine InB_r ?_
   refine Thn_r ?_
   refine Thn_r ?_
   refine InB_r ?_
   refine Thn_r ?_
   refine hQ _ _ _ ?_
   first
   | (refine RetP.drop0 (Or.inr rfl) ?_ ?_ hwf
      · simp only [resA, resOne, resTv, AV.tv, push_cast, simprocAttr]
      · rfl)
   | (refine RetP.drop (Or.inr rfl) ?_ ?_ hwf
      · simp only [resA, resOne, resTv, AV.tv, push_cast, simprocAttr]
      · rfl)
   | (rw [show boxB f (-16777216) (16777216) = true from decide_eq_true (by omega)] at * ; refine RetP.drop (Or.inr rfl) ?_ ?_ hwf
      · simp only [resA, resOne, resTv, AV.tv, push_cast, simprocAttr]
      · rfl)
  ·rw [show boxB f (-16777216) (16777216) = false from decide_eq_false (by omega)] at hQ
   refine AW.rg ?_
   simp only [push_cast, simprocAttr, c3C, g1, f1]
   apply hK;clear hK K
   refine AW.cond_t rfl ?_
   refine AW.sr 1 fun K hK => ?_
   simp only [push_cast, simprocAttr, c3C, g1, f1]
   apply hK;clear hK K
   refine AW.ret ?_
   refine InB_r ?_
   refine Thn_r ?_
   refine Thn_r ?_
   refine InB_r ?_
   refine Thn_r ?_
   refine hQ _ _ _ ?_
   first
   | (refine RetP.drop0 (Or.inr rfl) ?_ ?_ hwf
      · simp only [resA, resOne, resTv, AV.tv, push_cast, simprocAttr]
      · rfl)
   | (refine RetP.drop (Or.inr rfl) ?_ ?_ hwf
      · simp only [resA, resOne, resTv, AV.tv, push_cast, simprocAttr]
      · rfl)
   | (rw [show boxB f (-16777216) (16777216) = true from decide_eq_true (by omega)] at * ; refine RetP.drop (Or.inr rfl) ?_ ?_ hwf
      · simp only [resA, resOne, resTv, AV.tv, push_cast, simprocAttr]
      · rfl)
  ·have ok1 := True.intro
   refine AW.rg ?_
   simp only [push_cast, simprocAttr, c3C, g1, f1]
   apply hK;clear hK K
   refine AW.cond_f rfl ?_
   refine AW.skip ?_
   refine InB_n ?_
   apply hK;clear hK K
   refine AW.rg ?_
   simp only [push_cast, simprocAttr, c3C, g1, f1]
   apply hK;clear hK K
   refine ARounds.succ fun K hK => ?_
   refine AW.seq_k fun K hK => ?_
   refine AW.sr 1 fun K hK => ?_
   simp only [push_cast, simprocAttr, c3C]
   apply hK;clear hK K
   refine AW.cond_t rfl ?_
   refine AW.skip ?_
   apply hK;clear hK K
   refine AW.seq_k fun K hK => ?_
   refine AW.block ?_
   refine AW.seq_k fun K hK => ?_
   have hk2 : f 2 < -16777216 ∨ (¬ f 2 < -16777216 ∧ 16777216 < f 2) ∨ (¬ f 2 < -16777216 ∧ ¬ 16777216 < f 2) := by omega
   rcases hk2 with g2 | ⟨g2, f2⟩ | ⟨g2, f2⟩
   ·rw [show boxB f (-16777216) (16777216) = false from decide_eq_false (by omega)] at hQ
    refine AW.rg ?_
    simp only [push_cast, simprocAttr, c3C, g2]
    apply hK;clear hK K
    refine AW.cond_t rfl ?_
    refine AW.sr 1 fun K hK => ?_
    simp only [push_cast, simprocAttr, c3C, g2]
    apply hK;clear hK K
    refine AW.ret ?_
    refine InB_r ?_
    refine Thn_r ?_
    refine Thn_r ?_
    refine InB_r ?_
    refine Thn_r ?_
    refine hQ _ _ _ ?_
    first
    | (refine RetP.drop0 (Or.inr rfl) ?_ ?_ hwf
       · simp only [resA, resOne, resTv, AV.tv, push_cast, simprocAttr]
       · rfl)
    | (refine RetP.drop (Or.inr rfl) ?_ ?_ hwf
       · simp only [resA, resOne, resTv, AV.tv, push_cast, simprocAttr]
       · rfl)
    | (rw [show boxB f (-16777216) (16777216) = true from decide_eq_true (by omega)] at * ; refine RetP.drop (Or.inr rfl) ?_ ?_ hwf
       · simp only [resA, resOne, resTv, AV.tv, push_cast, simprocAttr]
       · rfl)
   ·rw [show boxB f (-16777216) (16777216) = false from decide_eq_false (by omega)] at hQ
    refine AW.rg ?_
    simp only [push_cast, simprocAttr, c3C, g2, f2]
    apply hK;clear hK K
    refine AW.cond_t rfl ?_
    refine AW.sr 1 fun K hK => ?_
    simp only [push_cast, simprocAttr, c3C, g2, f2]
    apply hK;clear hK K
    refine AW.ret ?_
    refine InB_r ?_
    refine Thn_r ?_
    refine Thn_r ?_
    refine InB_r ?_
    refine Thn_r ?_
    refine hQ _ _ _ ?_
    first
    | (refine RetP.drop0 (Or.inr rfl) ?_ ?_ hwf
       · simp only [resA, resOne, resTv, AV.tv, push_cast, simprocAttr]
       · rfl)
    | (refine RetP.drop (Or.inr rfl) ?_ ?_ hwf
       · simp only [resA, resOne, resTv, AV.tv, push_cast, simprocAttr]
       · rfl)
    | (rw [show boxB f (-16777216) (16777216) = true from decide_eq_true (by omega)] at * ; refine RetP.drop (Or.inr rfl) ?_ ?_ hwf
       · simp only [resA, resOne, resTv, AV.tv, push_cast, simprocAttr]
       · rfl)
   ·have ok2 := True.intro
    refine AW.rg ?_
    simp only [push_cast, simprocAttr, c3C, g2, f2]
    apply hK;clear hK K
    refine AW.cond_f rfl ?_
    refine AW.skip ?_
    refine InB_n ?_
    apply hK;clear hK K
    refine AW.rg ?_
    simp only [push_cast, simprocAttr, c3C, g2, f2]
    apply hK;clear hK K
    refine ARounds.succ fun K hK => ?_
    refine AW.seq_k fun K hK => ?_
    refine AW.sr 1 fun K hK => ?_
    simp only [push_cast, simprocAttr, c3C]
    apply hK;clear hK K
    refine AW.cond_f rfl ?_
    refine AW.exit ?_
    refine Thn_e ?_
    clear hK K
    refine Thn_e ?_
    clear hK K
    refine InB_here ?_
    apply hK;clear hK K
    refine AW.sr 1 fun K hK => ?_
    simp only [push_cast, simprocAttr, c3C]
    apply hK;clear hK K
    refine AW.ret ?_
    refine hQ _ _ _ ?_
    first
    | (refine RetP.drop0 (Or.inr rfl) ?_ ?_ hwf
       · simp only [resA, resOne, resTv, AV.tv, push_cast, simprocAttr]
       · rfl)
    | (refine RetP.drop (Or.inr rfl) ?_ ?_ hwf
       · simp only [resA, resOne, resTv, AV.tv, push_cast, simprocAttr]
       · rfl)
    | (rw [show boxB f (-16777216) (16777216) = true from decide_eq_true (by omega)] at * ; refine RetP.drop (Or.inr rfl) ?_ ?_ hwf
       · simp only [resA, resOne, resTv, AV.tv, push_cast, simprocAttr]
       · rfl)
def HdR (s : SC) : Prop := inB s.w 1 64 = true ∧ inB s.h 1 64 = true ∧ inB s.sm 1 16 = true ∧ inB s.dp 1 6 = true ∧ inB s.fr 1 32 = true ∧ 0 ≤ s.sh ∧ s.sh ≤ 65536 ∧ boxB s.sk 0 1048576 = true
instance (s : SC) : Decidable (HdR s) := by unfold HdR; exact inferInstance
def PaR (s : SC) (i : Nat) : Prop := inB (s.pk i) 0 3 = true ∧ boxB (s.pc i) 0 1048576 = true ∧ 0 ≤ s.pr i ∧ s.pr i ≤ 65536
instance (s : SC) (i : Nat) : Decidable (PaR s i) := by unfold PaR; exact inferInstance
def JoR (s : SC) (i : Nat) : Prop := inB (s.jp i) (-1) ((i : Int) - 1) = true ∧ inB (s.jm i) (-1) ((s.nt : Int) - 1) = true ∧ inB (s.jt i) (-1) ((s.nt : Int) - 1) = true ∧ 1 ≤ s.js i ∧ s.js i ≤ 4194304
instance (s : SC) (i : Nat) : Decidable (JoR s i) := by unfold JoR; exact inferInstance
def LeR (s : SC) : Prop := inB s.ey 0 ((s.nt : Int) - 1) = true ∧ inB s.lk 0 ((s.nt : Int) - 1) = true ∧ 1 ≤ s.wd ∧ s.wd ≤ 524288
instance (s : SC) : Decidable (LeR s) := by unfold LeR; exact inferInstance
theorem rhd_c (s : SC) (m : AMem) : Ctr Tryz.prog 26 [.agg (hdC s)] m (.one (.bool (decide (HdR s)))) m := by
 refine Ctr.enter Tryz.func26 rfl (by decide) (rs := [.tmp 2]) (nt := 41) rfl rfl fun hwf Q hQ => ?_
 rcases chain8 (inB s.w 1 64 = true) (inB s.h 1 64 = true) (inB s.sm 1 16 = true) (inB s.dp 1 6 = true) (inB s.fr 1 32 = true) (0 ≤ s.sh) (s.sh ≤ 65536) (boxB s.sk 0 1048576 = true) with ⟨g1, g2, g3, g4, g5, g6, g7, g8⟩ | ⟨g1, g2, g3, g4, g5, g6, g7, g8⟩ | ⟨g1, g2, g3, g4, g5, g6, g7, g8⟩ | ⟨g1, g2, g3, g4, g5, g6, g7, g8⟩ | ⟨g1, g2, g3, g4, g5, g6, g7, g8⟩ | ⟨g1, g2, g3, g4, g5, g6, g7, g8⟩ | ⟨g1, g2, g3, g4, g5, g6, g7, g8⟩ | ⟨g1, g2, g3, g4, g5, g6, g7, g8⟩ | ⟨g1, g2, g3, g4, g5, g6, g7, g8⟩ <;>
 (
 try simp only [Bool.not_eq_true, Bool.not_eq_false, Classical.not_not] at g1 g2 g3 g4 g5 g6 g7 g8
 first
 | (have hz : (HdR s) := ⟨g1, g2, g3, g4, g5, g6, g7, g8⟩
    rw [decide_eq_true hz] at hQ)
 | (have hz : ¬ (HdR s) := fun ⟨q1, q2, q3, q4, q5, q6, q7, q8⟩ => by
      first | exact g1 q1 | (rw [g1] at q1; exact absurd q1 (by decide)) | exact g2 q2 | (rw [g2] at q2; exact absurd q2 (by decide)) | exact g3 q3 | (rw [g3] at q3; exact absurd q3 (by decide)) | exact g4 q4 | (rw [g4] at q4; exact absurd q4 (by decide)) | exact g5 q5 | (rw [g5] at q5; exact absurd q5 (by decide)) | exact g6 q6 | (rw [g6] at q6; exact absurd q6 (by decide)) | exact g7 q7 | (rw [g7] at q7; exact absurd q7 (by decide)) | exact g8 q8 | (rw [g8] at q8; exact absurd q8 (by decide))
    rw [decide_eq_false hz] at hQ)
 refine AW.sr 2 fun K hK => ?_
 have pk_1 : _ ∧ _ ∧ _ ∧ _ ∧ _ ∧ _ ∧ _ ∧ _ := ⟨g1, g2, g3, g4, g5, g6, g7, g8⟩
 simp only [push_cast, simprocAttr, hdC, c3C, pk_1]
 refine CThen.by (in_c _ _ _ _) ?_
 simp only [push_cast, simprocAttr, hdC, c3C, pk_1]
 iterate 2
  try (refine CThen.by (in_c _ _ _ _) ?_; simp only [push_cast, simprocAttr, hdC, c3C, pk_1])
  try (refine CThen.by (in_c _ _ _ _) ?_; simp only [push_cast, simprocAttr, hdC, c3C, pk_1])
 try (refine CThen.by (light_c _ _) ?_; simp only [push_cast, simprocAttr, hdC, c3C, pk_1])
 apply hK;clear hK K
 refine AW.ret ?_
 refine hQ _ _ _ ?_
 first | refine RetP.drop0 (Or.inr rfl) ?_ ?_ hwf | refine RetP.drop (Or.inr rfl) ?_ ?_ hwf
 · simp only [resA, resOne, resTv, AV.tv, push_cast, simprocAttr, hdC, c3C, pk_1]
 · rfl
 )
theorem rpa_c (s : SC) (i : Nat) (m : AMem) : Ctr Tryz.prog 27 [.agg (pC s i)] m (.one (.bool (decide (PaR s i)))) m := by
 refine Ctr.enter Tryz.func27 rfl (by decide) (rs := [.tmp 2]) (nt := 21) rfl rfl fun hwf Q hQ => ?_
 rcases chain4 (inB (s.pk i) 0 3 = true) (boxB (s.pc i) 0 1048576 = true) (0 ≤ s.pr i) (s.pr i ≤ 65536) with ⟨g1, g2, g3, g4⟩ | ⟨g1, g2, g3, g4⟩ | ⟨g1, g2, g3, g4⟩ | ⟨g1, g2, g3, g4⟩ | ⟨g1, g2, g3, g4⟩ <;>
 (
 try simp only [Bool.not_eq_true, Bool.not_eq_false, Classical.not_not] at g1 g2 g3 g4
 first
 | (have hz : (PaR s i) := ⟨g1, g2, g3, g4⟩
    rw [decide_eq_true hz] at hQ)
 | (have hz : ¬ (PaR s i) := fun ⟨q1, q2, q3, q4⟩ => by
      first | exact g1 q1 | (rw [g1] at q1; exact absurd q1 (by decide)) | exact g2 q2 | (rw [g2] at q2; exact absurd q2 (by decide)) | exact g3 q3 | (rw [g3] at q3; exact absurd q3 (by decide)) | exact g4 q4 | (rw [g4] at q4; exact absurd q4 (by decide))
    rw [decide_eq_false hz] at hQ)
 refine AW.sr 2 fun K hK => ?_
 have pk_2 : _ ∧ _ ∧ _ ∧ _ := ⟨g1, g2, g3, g4⟩
 simp only [push_cast, simprocAttr, pC, c3C, pk_2]
 refine CThen.by (in_c _ _ _ _) ?_
 simp only [push_cast, simprocAttr, pC, c3C, pk_2]
 try (refine CThen.by (light_c (s.pc i) _) ?_; simp only [push_cast, simprocAttr, pC, c3C, pk_2])
 apply hK;clear hK K
 refine AW.ret ?_
 refine hQ _ _ _ ?_
 first | refine RetP.drop0 (Or.inr rfl) ?_ ?_ hwf | refine RetP.drop (Or.inr rfl) ?_ ?_ hwf
 · simp only [resA, resOne, resTv, AV.tv, push_cast, simprocAttr, pC, c3C, pk_2]
 · rfl
 )
theorem rle_c (s : SC) (R : RWs) (m : AMem) (hn : s.nt ≤ 1000000000000) : Ctr Tryz.prog 31 [.agg (scC s R)] m (.one (.bool (decide (LeR s)))) m := by
 refine Ctr.enter Tryz.func31 rfl (by decide) (rs := [.tmp 2]) (nt := 29) rfl rfl fun hwf Q hQ => ?_
 have w := (show IntKind.i64.wrap ((s.nt : Int) - 1) = (s.nt : Int) - 1 from wi (by omega))
 rcases chain4 (inB s.ey 0 ((s.nt : Int) - 1) = true) (inB s.lk 0 ((s.nt : Int) - 1) = true) (1 ≤ s.wd) (s.wd ≤ 524288) with ⟨g1, g2, g3, g4⟩ | ⟨g1, g2, g3, g4⟩ | ⟨g1, g2, g3, g4⟩ | ⟨g1, g2, g3, g4⟩ | ⟨g1, g2, g3, g4⟩ <;>
 (
 try simp only [Bool.not_eq_true, Bool.not_eq_false, Classical.not_not] at g1 g2 g3 g4
 first
 | (have hz : (LeR s) := ⟨g1, g2, g3, g4⟩
    rw [decide_eq_true hz] at hQ)
 | (have hz : ¬ (LeR s) := fun ⟨q1, q2, q3, q4⟩ => by
      first | exact g1 q1 | (rw [g1] at q1; exact absurd q1 (by decide)) | exact g2 q2 | (rw [g2] at q2; exact absurd q2 (by decide)) | exact g3 q3 | (rw [g3] at q3; exact absurd q3 (by decide)) | exact g4 q4 | (rw [g4] at q4; exact absurd q4 (by decide))
    rw [decide_eq_false hz] at hQ)
 refine AW.sr 2 fun K hK => ?_
 have pk_1 : _ ∧ _ ∧ _ ∧ _ ∧ _ := ⟨g1, g2, g3, g4, w⟩
 simp only [push_cast, simprocAttr, scC, hdC, tlC, c3C, pk_1]
 refine CThen.by (in_c _ _ _ _) ?_
 simp only [push_cast, simprocAttr, scC, hdC, tlC, c3C, pk_1]
 try (refine CThen.by (in_c _ _ _ _) ?_; simp only [push_cast, simprocAttr, scC, hdC, tlC, c3C, pk_1])
 apply hK;clear hK K
 refine AW.ret ?_
 refine hQ _ _ _ ?_
 first | refine RetP.drop0 (Or.inr rfl) ?_ ?_ hwf | refine RetP.drop (Or.inr rfl) ?_ ?_ hwf
 · simp only [resA, resOne, resTv, AV.tv, push_cast, simprocAttr, scC, hdC, tlC, c3C, pk_1]
 · rfl
 )
theorem rjo_c (s : SC) (R : RWs) (i : Nat) (m : AMem) (hn : s.nt ≤ 1000000000000) (hj : ∃ k e, m[R.j]? = some ⟨k, 110, R.vj, e, catC s.nj (jC s)⟩) (hi : i < s.nj) (hnj : s.nj ≤ 1000000000000) : Ctr Tryz.prog 29 [.agg (scC s R), .one (.int .i64 (i : Int))] m (.one (.bool (decide (JoR s i)))) m := by
 refine Ctr.enter Tryz.func29 rfl (by decide) (rs := [.tmp 4]) (nt := 44) rfl rfl fun hwf Q hQ => ?_
 obtain ⟨kj, ej, hj⟩ := hj
 have lj := get_lt hj
 have w := (show IntKind.i64.wrap ((s.nt : Int) - 1) = (s.nt : Int) - 1 from wi (by omega))
 have w2 := (show IntKind.i64.wrap ((i : Int) - 1) = (i : Int) - 1 from wi (by omega))
 have jl : (catC s.nj (jC s)).length = s.nj * 4 := catC_len (w := 4) (F := jC s) (fun _ => rfl) _
 have ja : ((catC s.nj (jC s)).drop (i * 4)).take 4 = jC s i := catC_at (w := 4) (F := jC s) (fun _ => rfl) hi
 have c1 : (0 : Int) ≤ (i : Int) := by omega
 have c2 : (i : Int) < (s.nj : Int) := by omega
 have c3 : i * 4 + 4 ≤ s.nj * 4 := by omega
 have ej0 : jC s i = [.int .i64 (s.jp i), .int .i64 (s.jm i), .int .i64 (s.jt i), .int .i64 (s.js i)] := rfl
 rcases chain5 (inB (s.jp i) (-1) ((i : Int) - 1) = true) (inB (s.jm i) (-1) ((s.nt : Int) - 1) = true) (inB (s.jt i) (-1) ((s.nt : Int) - 1) = true) (1 ≤ s.js i) (s.js i ≤ 4194304) with ⟨g1, g2, g3, g4, g5⟩ | ⟨g1, g2, g3, g4, g5⟩ | ⟨g1, g2, g3, g4, g5⟩ | ⟨g1, g2, g3, g4, g5⟩ | ⟨g1, g2, g3, g4, g5⟩ | ⟨g1, g2, g3, g4, g5⟩ <;>
 (
 try simp only [Bool.not_eq_true, Bool.not_eq_false, Classical.not_not] at g1 g2 g3 g4 g5
 first
 | (have hz : (JoR s i) := ⟨g1, g2, g3, g4, g5⟩
    rw [decide_eq_true hz] at hQ)
 | (have hz : ¬ (JoR s i) := fun ⟨q1, q2, q3, q4, q5⟩ => by
      first | exact g1 q1 | (rw [g1] at q1; exact absurd q1 (by decide)) | exact g2 q2 | (rw [g2] at q2; exact absurd q2 (by decide)) | exact g3 q3 | (rw [g3] at q3; exact absurd q3 (by decide)) | exact g4 q4 | (rw [g4] at q4; exact absurd q4 (by decide)) | exact g5 q5 | (rw [g5] at q5; exact absurd q5 (by decide))
    rw [decide_eq_false hz] at hQ)
 refine AW.sr 3 fun K hK => ?_
 have pk_2 : _ ∧ _ ∧ _ ∧ _ ∧ _ ∧ _ ∧ _ ∧ _ ∧ _ ∧ _ ∧ _ ∧ _ ∧ _ ∧ _ ∧ _ := ⟨g1, g2, g3, g4, g5, w, w2, hj, lk_old hj, jl, ja, c1, c2, c3, ej0⟩
 simp only [push_cast, simprocAttr, scC, hdC, tlC, c3C, pk_2]
 refine CThen.by (in_c _ _ _ _) ?_
 simp only [push_cast, simprocAttr, scC, hdC, tlC, c3C, pk_2]
 try (refine CThen.by (in_c _ _ _ _) ?_; simp only [push_cast, simprocAttr, scC, hdC, tlC, c3C, pk_2])
 try (refine CThen.by (in_c _ _ _ _) ?_; simp only [push_cast, simprocAttr, scC, hdC, tlC, c3C, pk_2])
 apply hK;clear hK K
 refine AW.ret ?_
 refine hQ _ _ _ ?_
 first | refine RetP.drop0 (Or.inr rfl) ?_ ?_ hwf | refine RetP.drop (Or.inr rfl) ?_ ?_ hwf
 · simp only [resA, resOne, resTv, AV.tv, push_cast, simprocAttr, scC, hdC, tlC, c3C, pk_2]
 · rfl
 )
end Go.Proofs.YtdeacicnfglhdaaGreatDoor
