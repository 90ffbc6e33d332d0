/-
  ENGINE, PART S: the machine of part O, with scopes in which the run jumps back to a label.
-/
import Derived.Test.YtmjbbnfmhgcfaaaEngR
import Derived.Scope
set_option linter.unusedVariables false
set_option linter.unusedSimpArgs false
namespace Go.Eng
open Go

def rJump (run : Code → Tm → AMem → Option (Exit × Tm × AMem)) (l : Nat) (rest : Code) : Nat → Tm → AMem → Option (Exit × Tm × AMem)
  | 0, _, _ => none
  | n + 1, tm, mem => match run rest tm mem with
    | some (.goto l', tm', mem') => if l' = l ∧ mem.length ≤ mem'.length then rJump run l rest n tm' mem' else none
    | r => r

section
variable (P : Program) (call : Caller) (pls : Nat → List Plan) (nt L : Nat) (jump : Code → Tm → AMem → Option (Exit × Tm × AMem))
def rCodeS : Code → Tm → AMem → Option (Exit × Tm × AMem)
  | .skip, tm, mem => some (.normal, tm, mem)
  | .ret, tm, mem => some (.ret, tm, mem)
  | .exit id, tm, mem => some (.exit id, tm, mem)
  | .seq x y, tm, mem => match rCodeS x tm mem with
    | some (.normal, tm', mem') => rCodeS y tm' mem'
    | r => r
  | .block id c, tm, mem => match rCodeS c tm mem with
    | some (.exit id', tm', mem') => if id' = id then some (.normal, tm', mem') else some (.exit id', tm', mem')
    | r => r
  | .cond c x y, tm, mem => match opd tm c with
    | .one (.bool true) => rCodeS x tm mem
    | .one (.bool false) => rCodeS y tm mem
    | _ => none
  | .loop c, tm, mem => rLoop (rCodeS c) L tm mem
  | .region id ops false, tm, mem => if ops.toList.all (dstOk nt) = true then (rOps P call ops ops.toList tm mem).map fun x => (.normal, x.1, x.2) else none
  | .region id ops true, tm, mem => if (pls id).length = ops.toList.length ∧ planOk nt (ops.toList.zip (pls id)) = true then
      (rOpsD P call ops (ops.toList.zip (pls id)) tm mem [mem] []).map fun x => (.normal, x.1, x.2) else none
  | .label l, tm, mem => some (.normal, tm, mem)
  | .goto l, tm, mem => some (.goto l, tm, mem)
  | .scope c, tm, mem => match rCodeS c tm mem with
    | some (.goto l, tm', mem') => match findLabel c l with
      | some rest => if mem.length ≤ mem'.length then rJump jump l rest L tm' mem' else none
      | none => none
    | r => r
  | _, _, _ => none
end

def rFuncS (P : Program) (pls : Nat → Nat → List Plan) (L : Nat) : Nat → Caller
  | 0, _, _, _ => none
  | n + 1, g, args, mem => match P.funcs[g]? with
    | some fn => match fn.body with
      | some c => if (fn.name == "runtime.NumGoroutine") = false then
          match rCodeS P (rFuncS P pls L n) (pls g) fn.ntmps L (rCodeS P (rFuncS P pls L n) (pls g) fn.ntmps L (fun _ _ _ => none)) c (enterTm 0 args) mem with
          | some (.normal, tm, m) => (resA P fn.results.toList tm m).map fun x => (x, m)
          | some (.ret, tm, m) => (resA P fn.results.toList tm m).map fun x => (x, m)
          | _ => none
        else none
      | none => none
    | none => none


/-- So many passes more from the label. -/
def Rn (P : Program) (nt l : Nat) (rest : Code) (Q : Exit → Tm → AMem → Prop) : Nat → Tm → AMem → Prop
  | 0, _, _ => False
  | n + 1, tm, mem => AW P nt rest tm mem (Jmp l (fun tm' mem' => mem.length ≤ mem'.length ∧ Rn P nt l rest Q n tm' mem') Q)
def JumpOk (P : Program) (nt : Nat) (jump : Code → Tm → AMem → Option (Exit × Tm × AMem)) : Prop :=
  ∀ c tm mem ex tm' mem' (Q : Exit → Tm → AMem → Prop), jump c tm mem = some (ex, tm', mem') → Q ex tm' mem' → AW P nt c tm mem Q
section
variable {P : Program} {call : Caller} {pls : Nat → List Plan} {nt L : Nat}
theorem rJump_ok {jump : Code → Tm → AMem → Option (Exit × Tm × AMem)} (hj : JumpOk P nt jump) {l : Nat} {rest : Code} : ∀ (n : Nat) (tm : Tm) (mem : AMem) (ex : Exit) (tm' : Tm) (mem' : AMem) (Q : Exit → Tm → AMem → Prop),
    rJump jump l rest n tm mem = some (ex, tm', mem') → Q ex tm' mem' → Rn P nt l rest Q n tm mem
  | 0, _, _, _, _, _, _, h, _ => by cases h
  | n + 1, tm, mem, ex, tm', mem', Q, h, hq => by
    simp only [rJump] at h
    rw [Rn]
    split at h
    · rename_i l' tm1 mem1 h1
      split at h
      · rename_i hle
        obtain ⟨rfl, hle⟩ := hle
        exact hj _ _ _ _ _ _ _ h1 ⟨rfl, hle, rJump_ok hj n _ _ _ _ _ Q h hq⟩
      · cases h
    · rename_i r hne
      refine hj _ _ _ _ _ _ _ h ?_
      cases ex with
      | goto l' => exact absurd h (hne _ _ _)
      | _ => exact hq
theorem Weak.rfl0 {tm : Tm} {mem : AMem} : Weak nt tm mem tm mem := fun ρ a w hr => ⟨ρ, hr, fun _ _ _ _ h => h⟩
theorem AW.scopeNo {c : Code} {tm : Tm} {mem : AMem} {Q : Exit → Tm → AMem → Prop} (h : AW P nt c tm mem (fun e tm' mem' => (∀ l, e ≠ .goto l) ∧ Q e tm' mem')) : AW P nt (.scope c) tm mem Q := by
  intro ρ a w hr
  refine wp_scope_straight (wp_mono (h ρ a w hr) ?_)
  rintro e a' w' ⟨ρ', tm', mem', hr', hs, hd, hne, hq⟩
  cases e with
  | goto l' => exact absurd rfl (hne l')
  | _ => exact ⟨ρ', tm', mem', hr', hs, hd, hq⟩
theorem AW.scopeRun {c rest : Code} {tm : Tm} {mem : AMem} {Q : Exit → Tm → AMem → Prop} (l : Nat) (hf : findLabel c l = some rest) (n : Nat)
    (h : AW P nt c tm mem (Jmp l (fun tm' mem' => mem.length ≤ mem'.length ∧ Rn P nt l rest Q n tm' mem') Q)) : AW P nt (.scope c) tm mem Q := by
  refine AW.scope (ι := { x : Nat × Tm × AMem // Rn P nt l rest Q x.1 x.2.1 x.2.2 }) l hf (fun x => x.1.2.1) (fun x => x.1.2.2) (fun x => x.1.1) (fun x => ?_) ?_
  · obtain ⟨⟨n, tm1, mem1⟩, hx⟩ := x
    cases n with
    | zero => exact hx.elim
    | succ n =>
      refine AW.mono hx fun e tm' mem' hq => ?_
      cases e with
      | goto l' => obtain ⟨rfl, hle, hr⟩ := hq; exact ⟨rfl, ⟨(n, tm', mem'), hr⟩, Nat.lt_succ_self n, Weak.rfl0, hle⟩
      | _ => exact hq
  · refine h.mono fun e tm' mem' hq => ?_
    cases e with
    | goto l' => obtain ⟨rfl, hle, hr⟩ := hq; exact ⟨rfl, ⟨(n, tm', mem'), hr⟩, Weak.rfl0, hle⟩
    | _ => exact hq
theorem rCodeS_ok (hc : CallOk P call) {jump : Code → Tm → AMem → Option (Exit × Tm × AMem)} (hj : JumpOk P nt jump) (hfol : P.follows .mixedOrders = true) : ∀ (c : Code) (tm : Tm) (mem : AMem) (ex : Exit) (tm' : Tm) (mem' : AMem) (Q : Exit → Tm → AMem → Prop),
    rCodeS P call pls nt L jump c tm mem = some (ex, tm', mem') → Q ex tm' mem' → AW P nt c tm mem Q := by
  intro c
  induction c with
  | skip => intro tm mem ex tm' mem' Q h hq; simp only [rCodeS, Option.some.injEq, Prod.mk.injEq] at h; obtain ⟨rfl, rfl, rfl⟩ := h; exact AW.skip hq
  | ret => intro tm mem ex tm' mem' Q h hq; simp only [rCodeS, Option.some.injEq, Prod.mk.injEq] at h; obtain ⟨rfl, rfl, rfl⟩ := h; exact AW.ret hq
  | exit id => intro tm mem ex tm' mem' Q h hq; simp only [rCodeS, Option.some.injEq, Prod.mk.injEq] at h; obtain ⟨rfl, rfl, rfl⟩ := h; exact AW.exit hq
  | seq x y ihx ihy =>
    intro tm mem ex tm' mem' Q h hq
    simp only [rCodeS] at h
    split at h
    · rename_i tm1 mem1 h1
      exact AW.seq (ihx _ _ _ _ _ _ h1 (ihy _ _ _ _ _ _ h hq))
    · rename_i r hne
      have hex : ex ≠ .normal := by rintro rfl; exact hne _ _ h
      refine AW.seq (ihx _ _ _ _ _ _ h ?_)
      cases ex with
      | normal => exact absurd rfl hex
      | _ => exact hq
  | block id c ih =>
    intro tm mem ex tm' mem' Q h hq
    simp only [rCodeS] at h
    refine AW.block ?_
    split at h
    · rename_i id' tm1 mem1 h1
      refine ih _ _ _ _ _ _ h1 ?_
      split at h
      · rename_i he
        simp only [Option.some.injEq, Prod.mk.injEq] at h; obtain ⟨rfl, rfl, rfl⟩ := h
        subst he; exact InB_here hq
      · rename_i he
        simp only [Option.some.injEq, Prod.mk.injEq] at h; obtain ⟨rfl, rfl, rfl⟩ := h
        exact InB_far he hq
    · rename_i r hne
      refine ih _ _ _ _ _ _ h ?_
      cases ex with
      | exit id' => exact absurd h (hne _ _ _)
      | _ => exact hq
  | cond c x y ihx ihy =>
    intro tm mem ex tm' mem' Q h hq
    simp only [rCodeS] at h
    split at h
    · rename_i hb; exact AW.cond_t hb (ihx _ _ _ _ _ _ h hq)
    · rename_i hb; exact AW.cond_f hb (ihy _ _ _ _ _ _ h hq)
    · cases h
  | loop c ih =>
    intro tm mem ex tm' mem' Q h hq
    simp only [rCodeS] at h
    exact AW.rounds L (rLoop_ok ih _ _ _ _ _ _ _ h hq)
  | region id ops b =>
    intro tm mem ex tm' mem' Q h hq
    cases b with
    | false =>
      simp only [rCodeS] at h
      split at h
      · rename_i hd
        simp only [Option.map_eq_some_iff, Prod.mk.injEq] at h
        obtain ⟨⟨tm1, mem1⟩, h1, rfl, rfl, rfl⟩ := h
        have h2 : AOps P ops ops.toList tm mem (Q .normal) := rOps_ok hc _ _ _ _ _ _ h1 hq
        have h3 := AW.region (P := P) (nt := nt) (id := id) (l := ops.toList) (tm := tm) (mem := mem) (Q := Q) hd (by simpa using h2)
        simpa using h3
      · cases h
    | true =>
      simp only [rCodeS] at h
      split at h
      · rename_i hd
        simp only [Option.map_eq_some_iff, Prod.mk.injEq] at h
        obtain ⟨⟨tm1, mem1⟩, h1, rfl, rfl, rfl⟩ := h
        have h2 := rOpsD_ok hc _ _ _ _ _ _ _ (Q .normal) h1 hq
        have h3 := AW.draw (P := P) (nt := nt) (id := id) (l := ops.toList) (tm := tm) (mem := mem) (Q := Q) (pls id) hfol hd.1 hd.2 (by simpa using h2)
        simpa using h3
      · cases h
  | label l => intro tm mem ex tm' mem' Q h hq; simp only [rCodeS, Option.some.injEq, Prod.mk.injEq] at h; obtain ⟨rfl, rfl, rfl⟩ := h; exact AW.label hq
  | goto l => intro tm mem ex tm' mem' Q h hq; simp only [rCodeS, Option.some.injEq, Prod.mk.injEq] at h; obtain ⟨rfl, rfl, rfl⟩ := h; exact AW.goto hq
  | scope c ih =>
    intro tm mem ex tm' mem' Q h hq
    simp only [rCodeS] at h
    split at h
    · rename_i l tm1 mem1 h1
      split at h
      · rename_i rest hf
        split at h
        · rename_i hle
          have h2 := rJump_ok hj L tm1 mem1 ex tm' mem' Q h hq
          exact AW.scopeRun l hf L (ih _ _ _ _ _ (Jmp l (fun tm' mem' => mem.length ≤ mem'.length ∧ Rn P nt l rest Q L tm' mem') Q) h1 ⟨rfl, hle, h2⟩)
        · cases h
      · cases h
    · rename_i r hne
      exact AW.scopeNo (ih _ _ _ _ _ _ h ⟨fun l e => by subst e; exact hne _ _ _ h, hq⟩)
  | _ => intro tm mem ex tm' mem' Q h hq; simp only [rCodeS] at h; cases h
end
theorem rFuncS_ok {P : Program} {pls : Nat → Nat → List Plan} {L : Nat} (hfol : P.follows .mixedOrders = true) : ∀ n : Nat, CallOk P (rFuncS P pls L n)
  | 0 => fun g args mem ret mem' h => by cases h
  | n + 1 => fun g args mem ret mem' h => by
    simp only [rFuncS] at h
    split at h
    · rename_i fn hfn
      split at h
      · rename_i c hb
        split at h
        · rename_i hname
          have ok := rFuncS_ok (P := P) (pls := pls) (L := L) hfol n
          split at h
          · rename_i tm m hr
            simp only [Option.map_eq_some_iff, Prod.mk.injEq] at h
            obtain ⟨x, hx, rfl, rfl⟩ := h
            exact Ctr.of_body hfn hb hname fun hw => rCodeS_ok ok (rCodeS_ok ok (fun c tm mem ex tm' mem' Q h _ => by cases h) hfol) hfol _ _ _ _ _ _ _ hr ⟨.inl rfl, x, hx, Hands.all⟩
          · rename_i tm m hr
            simp only [Option.map_eq_some_iff, Prod.mk.injEq] at h
            obtain ⟨x, hx, rfl, rfl⟩ := h
            exact Ctr.of_body hfn hb hname fun hw => rCodeS_ok ok (rCodeS_ok ok (fun c tm mem ex tm' mem' Q h _ => by cases h) hfol) hfol _ _ _ _ _ _ _ hr ⟨.inr rfl, x, hx, Hands.all⟩
          · cases h
        · cases h
      · cases h
    · cases h

/-- A call whose arguments are known, reckoned by the machine. -/
theorem Ctr.runS {P : Program} {f : FuncId} {args : List AV} {ret : AV} (pls : Nat → Nat → List Plan) (L n : Nat) (hfol : P.follows .mixedOrders = true) (h : ((rFuncS P pls L n f args []).map (·.1)) = some ret) (ha : ∀ a, a ∈ args → a.below 0 = true) (hr : ret.below 0 = true) (m : AMem) : Ctr P f args m ret m := by
  rw [Option.map_eq_some_iff] at h
  obtain ⟨⟨x, mem'⟩, h1, rfl⟩ := h
  exact Ctr.closed (rFuncS_ok hfol n _ _ _ _ _ h1) ha hr m
end Go.Eng
