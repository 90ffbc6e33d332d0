/-
  ENGINE, PART G: the operations together; lists of operations with calls; code; functions.
-/
import Derived.Test.YtmjbbnfmhgcfaaaEngF
set_option linter.unusedVariables false
set_option linter.unusedSimpArgs false
namespace Go.Eng
open Go

section
variable (P : Program)

def builtinA (b : Builtin) (ts : List TypeId) (xs : List AV) (mem : AMem) : Option (AV × AMem) :=
  match b, ts, xs with
  | .len, [t], [x] => (lenA P t x).map fun z => (z, mem)
  | .append, [t, t'], [s, x] => if t = t' then appendA P t s x mem else none
  | .copy, [t, _], [s, x] => copyA P t s x mem
  | .unsafeSliceData, [_], [x] => (usdA x).map fun z => (z, mem)
  | .unsafeString, [t, _], [x, n] => usA P t x n mem
  | .min, _, xs => (mm minI xs).map fun z => (z, mem)
  | .max, _, xs => (mm maxI xs).map fun z => (z, mem)
  | _, _, _ => none

def evVal (e : Operand → AV) (mem : AMem) : Op → Option (AV × AMem)
  | .move x => some (e x, mem)
  | .assign x => some (e x, mem)
  | .pick c a b => match e c with
    | .one (.bool c) => some (selA c (e a) (e b), mem)
    | _ => none
  | .alloc t => allocA P t mem
  | .box t x => boxA t (e x) mem
  | .build t ps => (buildA P t (ps.toList.map fun p => (p.1, e p.2))).map fun z => (z, mem)
  | .buildSlice t n ps => buildSliceA P t n (ps.toList.map fun p => (p.1, e p.2)) mem
  | .load t x => (loadA P t (e x) mem).map fun z => (z, mem)
  | .nilCheck x => match e x with
    | .one (.ptr r v o) => some (.one (.ptr r v o), mem)
    | .one (.fn f cs) => some (.one (.fn f cs), mem)
    | _ => none
  | .binOp op t x y _ => (binA P op t (e x) (e y)).map fun z => (z, mem)
  | .unOp op _ x => (unA op (e x)).map fun z => (z, mem)
  | .convert s d x => convS P s d (e x) mem
  | .slice t x lo hi none => (sliceM P t (e x) (lo.map e) (hi.map e) mem).map fun z => (z, mem)
  | .fieldAddr t x f => (fieldAddrA P t (e x) f).map fun z => (z, mem)
  | .field t x f => (fieldA P t (e x) f).map fun z => (z, mem)
  | .indexAddr t x i => (indexAddrA P t (e x) (e i)).map fun z => (z, mem)
  | .index t x i => (indexA P t (e x) (e i)).map fun z => (z, mem)
  | .extract x i => (extractA (e x) i).map fun z => (z, mem)
  | .makeFunc (.func f) first caps => if first.size = 0 then (capsA (caps.toList.map e)).map fun cs => (.one (.fn f cs), mem) else none
  | .makeSlice t l c => makeA P t (e l) (e c) mem
  | .call ⟨.builtin b, args, ts⟩ => builtinA P b ts.toList (args.toList.map e) mem
  | _ => none

variable {P}

theorem All2_map {α β γ : Type} {R : β → γ → Prop} {f : α → β} {g : α → γ} (h : ∀ x, R (f x) (g x)) : ∀ l : List α, All2 R (l.map f) (l.map g)
  | [] => trivial
  | x :: l => ⟨h x, All2_map h l⟩

section
variable {e : Operand → Value} {o : Oper}
theorem ex_move {x : Operand} (h : o.op = .move x) : execOp e o = pure (.value (e x)) := by simp only [execOp, h]
theorem ex_assign {x : Operand} (h : o.op = .assign x) : execOp e o = pure (.value (e x)) := by simp only [execOp, h]
theorem ex_pick {c x y : Operand} (h : o.op = .pick c x y) : execOp e o = (do pure (.value (if ← asBool (e c) then e x else e y))) := by simp only [execOp, h]
theorem ex_alloc {t : TypeId} (h : o.op = .alloc t) : execOp e o = (do pure (.value (← Instr.alloc t true (.tuple #[])))) := by simp only [execOp, h]
theorem ex_box {t : TypeId} {x : Operand} (h : o.op = .box t x) : execOp e o = (do pure (.value (← Instr.box t (e x)))) := by simp only [execOp, h]
theorem ex_build {t : TypeId} {ps : Array (Nat × Operand)} (h : o.op = .build t ps) : execOp e o = (do pure (.value (← Instr.build t (ps.map fun (i, x) => (i, e x))))) := by simp only [execOp, h]
theorem ex_buildSlice {t n : Nat} {ps : Array (Nat × Operand)} (h : o.op = .buildSlice t n ps) : execOp e o = (do pure (.value (← Instr.buildSlice t n (ps.map fun (i, x) => (i, e x))))) := by simp only [execOp, h]
theorem ex_load {t : TypeId} {x : Operand} (h : o.op = .load t x) : execOp e o = (do pure (.value (← Instr.loadAt t (e x)))) := by simp only [execOp, h]
theorem ex_store {t : TypeId} {x y : Operand} (h : o.op = .store t x y) : execOp e o = (do Instr.storeAt t (e x) (e y); pure .skip) := by simp only [execOp, h]
theorem ex_nil_ptr {x : Operand} {a : Addr} (h : o.op = .nilCheck x) (hx : e x = .pointer (some a)) : execOp e o = pure (.value (.pointer (some a))) := by simp only [execOp, h, hx]
theorem ex_nil_func {x : Operand} {f : FuncId} {c : Array Value} (h : o.op = .nilCheck x) (hx : e x = .func (.func f) #[] c) : execOp e o = pure (.value (.func (.func f) #[] c)) := by simp only [execOp, h, hx]
theorem ex_binOp {op : BinOp} {t yt : TypeId} {x y : Operand} (h : o.op = .binOp op t x y yt) : execOp e o = (do pure (.value (← (do eqGuard op t x y (e x) (e y); binOp op t (e x) (e y))))) := by simp only [execOp, h]
theorem ex_unOp {op : UnOp} {t : TypeId} {x : Operand} (h : o.op = .unOp op t x) : execOp e o = (do pure (.value (← Op.unary op (e x)))) := by simp only [execOp, h]
theorem ex_convert {t s : TypeId} {x : Operand} (h : o.op = .convert t s x) : execOp e o = (do pure (.value (← convert t s (e x)))) := by simp only [execOp, h]
theorem ex_slice {t : TypeId} {x : Operand} {lo hi mx : Option Operand} (h : o.op = .slice t x lo hi mx) : execOp e o = (do pure (.value (← Instr.sliceAt t (e x) (lo.map e) (hi.map e) (mx.map e)))) := by simp only [execOp, h]
theorem ex_fieldAddr {t : TypeId} {x : Operand} {f : Nat} (h : o.op = .fieldAddr t x f) : execOp e o = (do pure (.value (← Instr.fieldAt t (e x) f))) := by simp only [execOp, h]
theorem ex_field {t : TypeId} {x : Operand} {f : Nat} (h : o.op = .field t x f) : execOp e o = (do pure (.value (← Instr.field t (e x) f))) := by simp only [execOp, h]
theorem ex_indexAddr {t : TypeId} {x i : Operand} (h : o.op = .indexAddr t x i) : execOp e o = (do pure (.value (← Instr.indexAt t (e x) (e i)))) := by simp only [execOp, h]
theorem ex_index {t : TypeId} {x i : Operand} (h : o.op = .index t x i) : execOp e o = (do pure (.value (← Instr.index t (e x) (e i)))) := by simp only [execOp, h]
theorem ex_extract {x : Operand} {i : Nat} (h : o.op = .extract x i) : execOp e o = (do pure (.value (← Instr.extract (e x) i))) := by simp only [execOp, h]
theorem ex_makeFunc {fn : Fn} {f c : Array Operand} (h : o.op = .makeFunc fn f c) : execOp e o = (do pure (.value (← Instr.makeFunc fn (f.map e) (c.map e)))) := by simp only [execOp, h]
theorem ex_makeSlice {t : TypeId} {l c : Operand} (h : o.op = .makeSlice t l c) : execOp e o = (do pure (.value (← Instr.makeSlice t (e l) (e c)))) := by simp only [execOp, h]
theorem ex_call {c : Call} (h : o.op = .call c) : execOp e o = (do let d ← resolve e c o.type; invoke d.target d.args) := by simp only [execOp, h]
end

theorem evVal_sound {ρ : Env} {nt : Nat} {tm : Tm} {mem mem' : AMem} {a : Act} {w : World} (hr : Rep ρ nt tm mem a w) {o : Oper} {x : AV} (h : evVal P (opd tm) mem o.op = some (x, mem')) :
    ∃ v w' ρ', (execOp a.eval o).run P w = .ok (.value v) w' ∧ VR ρ' x v ∧ RepM ρ' mem' w' ∧ Step mem ρ w mem' ρ' w' := by
  have pure_ok : ∀ {s : Sem Value} {z : AV}, mem' = mem → x = z → (∃ v, s.run P w = .ok v w ∧ VR ρ z v) → ∃ v w' ρ', (do pure (Next.value (← s)) : Sem Next).run P w = .ok (.value v) w' ∧ VR ρ' x v ∧ RepM ρ' mem' w' ∧ Step mem ρ w mem' ρ' w' := by
    rintro s z rfl rfl ⟨v, h1, h2⟩
    exact ⟨v, w, ρ, by simp [h1], h2, hr.mem, Step.refl _ _ _⟩
  have mem_ok : ∀ {s : Sem Value}, (∃ v w' ρ', s.run P w = .ok v w' ∧ VR ρ' x v ∧ RepM ρ' mem' w' ∧ Step mem ρ w mem' ρ' w') → ∃ v w' ρ', (do pure (Next.value (← s)) : Sem Next).run P w = .ok (.value v) w' ∧ VR ρ' x v ∧ RepM ρ' mem' w' ∧ Step mem ρ w mem' ρ' w' := by
    rintro s ⟨v, w', ρ', h1, h2, h3, h4⟩
    exact ⟨v, w', ρ', by simp [h1], h2, h3, h4⟩
  have mp : ∀ {y : Option AV} {z : AV × AMem}, (y.map fun z => (z, mem)) = some z → ∃ q, y = some q ∧ q = z.1 ∧ z.2 = mem := by
    intro y z h
    simp only [Option.map_eq_some_iff] at h
    obtain ⟨q, hq, rfl⟩ := h
    exact ⟨q, hq, rfl, rfl⟩
  have hparts : ∀ ps : Array (Nat × Operand), All2 (fun (p : Nat × AV) (q : Nat × Value) => p.1 = q.1 ∧ VR ρ p.2 q.2) (ps.toList.map fun p => (p.1, opd tm p.2)) (ps.toList.map fun p => (p.1, a.eval p.2)) :=
    fun ps => All2_map (fun p => ⟨rfl, hr.opd p.2⟩) _
  generalize hop : o.op = op at h
  unfold evVal at h
  split at h
  · injection h with h; injection h with h1 h2; subst h1; subst h2
    rw [ex_move hop]
    exact ⟨_, w, ρ, rfl, hr.opd _, hr.mem, Step.refl _ _ _⟩
  · injection h with h; injection h with h1 h2; subst h1; subst h2
    rw [ex_assign hop]
    exact ⟨_, w, ρ, rfl, hr.opd _, hr.mem, Step.refl _ _ _⟩
  · rename_i c p q
    split at h
    · rename_i cb hc
      injection h with h; injection h with h1 h2; subst h1; subst h2
      have hcv := hr.opd c
      rw [hc] at hcv
      have e : a.eval c = .bool cb := hcv
      rw [ex_pick hop]
      refine ⟨if cb = true then a.eval p else a.eval q, w, ρ, ?_, VR_selA (hr.opd p) (hr.opd q), hr.mem, Step.refl _ _ _⟩
      simp only [e, asBool, Sem.run_bind, Sem.run_pure, Result.andThen_ok]
    · cases h
  · rw [ex_alloc hop]; exact mem_ok (run_allocA P hr.mem h)
  · rw [ex_box hop]; exact mem_ok (run_boxA P hr.mem h (hr.opd _))
  · rename_i t ps
    obtain ⟨q, hq, e1, e2⟩ := mp h
    rw [ex_build hop]
    refine pure_ok e2 e1.symm ?_
    have := run_build P hq (hparts ps) w
    rwa [show (ps.toList.map fun p => (p.1, a.eval p.2)).toArray = ps.map fun (i, x) => (i, a.eval x) by rw [← Array.toList_map]] at this
  · rename_i t n ps
    rw [ex_buildSlice hop]
    refine mem_ok ?_
    have := run_buildSliceA P hr.mem h (hparts ps)
    rwa [show (ps.toList.map fun p => (p.1, a.eval p.2)).toArray = ps.map fun (i, x) => (i, a.eval x) by rw [← Array.toList_map]] at this
  · obtain ⟨q, hq, e1, e2⟩ := mp h
    rw [ex_load hop]
    exact pure_ok e2 e1.symm (run_loadA P hr.mem hq (hr.opd _))
  · rename_i y
    split at h
    · rename_i r v off hy
      injection h with h; injection h with h1 h2; subst h1; subst h2
      have hv := hr.opd y
      rw [hy] at hv
      obtain ⟨ad, k, hk, e⟩ := hv
      rw [ex_nil_ptr hop e]
      exact ⟨_, w, ρ, rfl, ⟨ad, k, hk, rfl⟩, hr.mem, Step.refl _ _ _⟩
    · rename_i f cs hy
      injection h with h; injection h with h1 h2; subst h1; subst h2
      have hv := hr.opd y
      rw [hy] at hv
      obtain ⟨vs, e, hall⟩ := hv
      rw [ex_nil_func hop e]
      exact ⟨_, w, ρ, rfl, ⟨vs, rfl, hall⟩, hr.mem, Step.refl _ _ _⟩
    · cases h
  · obtain ⟨q, hq, e1, e2⟩ := mp h
    rw [ex_binOp hop]
    exact pure_ok e2 e1.symm (run_binA P hq (hr.opd _) (hr.opd _) _ _ w)
  · obtain ⟨q, hq, e1, e2⟩ := mp h
    rw [ex_unOp hop]
    exact pure_ok e2 e1.symm (run_unA P hq (hr.opd _) w)
  · rw [ex_convert hop]
    exact mem_ok (run_convS P hr.mem h (hr.opd _))
  · rename_i t y lo hi
    obtain ⟨q, hq, e1, e2⟩ := mp h
    rw [ex_slice hop]
    refine pure_ok e2 e1.symm (run_sliceM P hr.mem hq (hr.opd y) (ulo := lo.map a.eval) (uhi := hi.map a.eval) ?_ ?_ ?_ ?_)
    · intro z hz; cases lo with
      | none => cases hz
      | some l => injection hz with hz; subst hz; exact ⟨_, rfl, hr.opd l⟩
    · intro hz; cases lo with
      | none => rfl
      | some l => cases hz
    · intro z hz; cases hi with
      | none => cases hz
      | some l => injection hz with hz; subst hz; exact ⟨_, rfl, hr.opd l⟩
    · intro hz; cases hi with
      | none => rfl
      | some l => cases hz
  · obtain ⟨q, hq, e1, e2⟩ := mp h
    rw [ex_fieldAddr hop]
    exact pure_ok e2 e1.symm (run_fieldAddrA P hq (hr.opd _) w)
  · obtain ⟨q, hq, e1, e2⟩ := mp h
    rw [ex_field hop]
    exact pure_ok e2 e1.symm (run_fieldA P hq (hr.opd _) w)
  · obtain ⟨q, hq, e1, e2⟩ := mp h
    rw [ex_indexAddr hop]
    exact pure_ok e2 e1.symm (run_indexAddrA P hq (hr.opd _) (hr.opd _) w)
  · obtain ⟨q, hq, e1, e2⟩ := mp h
    rw [ex_index hop]
    exact pure_ok e2 e1.symm (run_indexA P hq (hr.opd _) (hr.opd _) w)
  · obtain ⟨q, hq, e1, e2⟩ := mp h
    rw [ex_extract hop]
    exact pure_ok e2 e1.symm (run_extractA P hq (hr.opd _) w)
  · rename_i f first caps
    split at h
    · rename_i hf
      simp only [Option.map_eq_some_iff] at h
      obtain ⟨cs, hcs, h⟩ := h
      injection h with h1 h2; subst h1; subst h2
      have h0 : first = #[] := Array.eq_empty_of_size_eq_zero hf
      subst h0
      rw [ex_makeFunc hop]
      refine ⟨.func (.func f) #[] (caps.map a.eval), w, ρ, by simp [Instr.makeFunc], ⟨_, rfl, ?_⟩, hr.mem, Step.refl _ _ _⟩
      rw [Array.toList_map]
      exact VR_capsA (All2_map (fun y => hr.opd y) caps.toList) hcs
    · cases h
  · rw [ex_makeSlice hop]; exact mem_ok (run_makeA P hr.mem h (hr.opd _) (hr.opd _))
  · rename_i b args ts
    have hargs : All2 (VR ρ) (args.toList.map (opd tm)) (args.toList.map a.eval) := All2_map (fun y => hr.opd y) args.toList
    have hea : args.map a.eval = (args.toList.map a.eval).toArray := by rw [← Array.toList_map]
    rw [ex_call hop]
    have hres : ∀ {s : Sem Value}, (∀ cs, builtin b ts o.type cs (args.map a.eval) = (do pure (Next.value (← s)))) → (do let d ← resolve a.eval ⟨.builtin b, args, ts⟩ o.type; invoke d.target d.args : Sem Next).run P w = (do pure (Next.value (← s)) : Sem Next).run P w := by
      intro s hb
      simp only [resolve, Sem.run_bind, Sem.run_pure, Result.andThen_ok, invoke, hb]
    unfold builtinA at h
    split at h
    · rename_i t y hts hxs
      obtain ⟨q, hq, e1, e2⟩ := mp h
      have hts' : ts = #[t] := by rw [← Array.toArray_toList (xs := ts), hts]
      rw [hxs] at hargs
      generalize hvs : args.toList.map a.eval = vs at hargs hea
      match vs, hargs with
      | [u], hargs =>
        rw [hres (s := Builtin.len_ ts o.type (args.map a.eval)) (fun cs => rfl)]
        refine pure_ok e2 e1.symm ?_
        rw [hea, hts']
        exact run_lenA P hq hargs.1 w
    · rename_i t t' s y hts hxs
      split at h
      · rename_i htt
        subst htt
        have hts' : ts = #[t, t] := by rw [← Array.toArray_toList (xs := ts), hts]
        rw [hxs] at hargs
        generalize hvs : args.toList.map a.eval = vs at hargs hea
        match vs, hargs with
        | [u1, u2], hargs =>
          rw [hres (s := Builtin.append_ ts o.type (args.map a.eval)) (fun cs => rfl)]
          refine mem_ok ?_
          rw [hea, hts']
          exact run_appendA P hr.mem h hargs.1 hargs.2.1
      · cases h
    · rename_i t t' s y hts hxs
      have hts' : ts = #[t, t'] := by rw [← Array.toArray_toList (xs := ts), hts]
      rw [hxs] at hargs
      generalize hvs : args.toList.map a.eval = vs at hargs hea
      match vs, hargs with
      | [u1, u2], hargs =>
        rw [hres (s := Builtin.copy_ ts o.type (args.map a.eval)) (fun cs => rfl)]
        refine mem_ok ?_
        rw [hea, hts']
        exact run_copyA P hr.mem h hargs.1 hargs.2.1
    · rename_i t y hts hxs
      obtain ⟨q, hq, e1, e2⟩ := mp h
      have hts' : ts = #[t] := by rw [← Array.toArray_toList (xs := ts), hts]
      rw [hxs] at hargs
      generalize hvs : args.toList.map a.eval = vs at hargs hea
      match vs, hargs with
      | [u], hargs =>
        rw [hres (s := Builtin.unsafeSliceData_ ts o.type (args.map a.eval)) (fun cs => rfl)]
        refine pure_ok e2 e1.symm ?_
        rw [hea, hts']
        exact run_usdA P hq hargs.1 w
    · rename_i t t' y n hts hxs
      have hts' : ts = #[t, t'] := by rw [← Array.toArray_toList (xs := ts), hts]
      rw [hxs] at hargs
      generalize hvs : args.toList.map a.eval = vs at hargs hea
      match vs, hargs with
      | [u1, u2], hargs =>
        rw [hres (s := Builtin.unsafeString_ ts o.type (args.map a.eval)) (fun cs => rfl)]
        refine mem_ok ?_
        rw [hea, hts']
        exact run_usA P hr.mem h hargs.1 hargs.2.1
    · obtain ⟨q, hq, e1, e2⟩ := mp h
      rw [hres (s := Builtin.min_ ts o.type (args.map a.eval)) (fun cs => rfl)]
      refine pure_ok e2 e1.symm ?_
      rw [hea]
      exact run_min P hq hargs w
    · obtain ⟨q, hq, e1, e2⟩ := mp h
      rw [hres (s := Builtin.max_ ts o.type (args.map a.eval)) (fun cs => rfl)]
      refine pure_ok e2 e1.symm ?_
      rw [hea]
      exact run_max P hq hargs w
    · cases h
  · cases h

/-- A CONTRACT: called with such values over such memory, the function returns this, and memory is then that. -/
def Bodied (P : Program) (f : FuncId) : Prop := ∃ fn, P.funcs[f]? = some fn ∧ (fn.name == "runtime.NumGoroutine") = false ∧ fn.body.isNone = false
/-- A call, of a function with a body, or of one that the model itself answers. -/
def CallsV (P : Program) (f : FuncId) (vs : Array Value) (w : World) (K : Ending → World → Prop) : Prop :=
  (Bodied P f ∧ Calls P f vs w K) ∨ ∃ v w', (callFunc f vs).run P w = .ok (.value v) w' ∧ K (.returned v) w'
theorem CallsV.mono {f : FuncId} {vs : Array Value} {w : World} {K K' : Ending → World → Prop} (h : CallsV P f vs w K) (hk : ∀ e w', K e w' → K' e w') : CallsV P f vs w K' := by
  rcases h with ⟨h1, h2⟩ | ⟨v, w', h1, h2⟩
  · exact .inl ⟨h1, h2.mono hk⟩
  · exact .inr ⟨v, w', h1, hk _ _ h2⟩
theorem CallsV.calls {f : FuncId} {vs : Array Value} {w : World} {K : Ending → World → Prop} (h : CallsV P f vs w K) (hb : Bodied P f) : Calls P f vs w K := by
  rcases h with ⟨_, h2⟩ | ⟨v, w', h1, h2⟩
  · exact h2
  · obtain ⟨fn, hfn, hname, hbody⟩ := hb
    simp only [callFunc, Sem.run_bind, run_program, Result.andThen_ok, hfn, hname, hbody, Bool.false_eq_true, if_false, Sem.run_pure] at h1
    injection h1 with h1 _
    cases h1
def Ctr (P : Program) (f : FuncId) (args : List AV) (mem : AMem) (ret : AV) (mem' : AMem) : Prop :=
  ∀ ρ w vs, RepM ρ mem w → All2 (VR ρ) args vs → CallsV P f vs.toArray w fun e w' => ∃ v ρ', e = .returned v ∧ VR ρ' ret v ∧ RepM ρ' mem' w' ∧ Step mem ρ w mem' ρ' w'

def putO (d : Option Tmp) (x : AV) (tm : Tm) : Tm :=
  match d with
  | some d => (d, x) :: tm
  | none => tm

def dstOk (nt : Nat) (o : Oper) : Bool :=
  match o.dst with
  | some d => decide (d < nt)
  | none => true

/-- Is the operation wanted? -/
def wantedA (ops : Array Oper) (o : Oper) (tm : Tm) : Option Bool :=
  match o.guard with
  | none => some true
  | some (j, want) => match (ops[j]?).bind (·.dst) with
    | some t => match Tm.get tm t with
      | .one (.bool b) => some (b == want)
      | .one .und => some false
      | _ => none
    | none => none

theorem wantedA_sound {ρ : Env} {nt : Nat} {tm : Tm} {mem : AMem} {a : Act} {w : World} (hr : Rep ρ nt tm mem a w) {ops : Array Oper} {o : Oper} {b : Bool} (h : wantedA ops o tm = some b) :
    Region.wanted o (yielded ops a.tmps) = b := by
  unfold wantedA at h
  unfold Region.wanted
  cases hg : o.guard with
  | none => rw [hg] at h; simp at h; simp [h]
  | some jw =>
    obtain ⟨j, want⟩ := jw
    rw [hg] at h
    simp only at h ⊢
    cases hd : (ops[j]?).bind (·.dst) with
    | none => rw [hd] at h; cases h
    | some t =>
      rw [hd] at h
      simp only at h
      have hv := hr.tm t
      split at h
      · rename_i p hp
        rw [hp] at hv
        have e : a.tmps.getD t undef = .bool p := hv
        injection h with h
        have e' : a.tmps[t]? = some (.bool p) := by
          rw [Array.getD_eq_getD_getElem?] at e
          cases hq : a.tmps[t]? with
          | none => rw [hq] at e; simp [undef] at e
          | some q => rw [hq] at e; simpa using e
        subst h
        simp only [yielded, hd, Option.bind_some, e']
        cases p <;> cases want <;> rfl
      · rename_i hp
        rw [hp] at hv
        have e : a.tmps.getD t undef = undef := hv
        injection h with h
        subst h
        rw [Array.getD_eq_getD_getElem?] at e
        simp only [yielded, hd, Option.bind_some]
        cases hq : a.tmps[t]? with
        | none => rfl
        | some q => rw [hq] at e; simp at e; subst e; rfl
      · cases h

def capsAV (cs : List (Nat × Nat × Nat)) : List AV := cs.map fun c => .one (.ptr c.1 c.2.1 c.2.2)

def AOps (P : Program) (ops : Array Oper) : List Oper → Tm → AMem → (Tm → AMem → Prop) → Prop
  | [], tm, mem, K => K tm mem
  | o :: rest, tm, mem, K =>
    match wantedA ops o tm with
    | some true =>
      match o.op with
      | .store t x y => match storeA P t (opd tm x) (opd tm y) mem with
        | some mem' => AOps P ops rest (putO o.dst (.one .und) tm) mem' K
        | none => False
      | .call ⟨.value f, args, _⟩ => match opd tm f with
        | .one (.fn g cs) => ∃ ret mem', Ctr P g (args.toList.map (opd tm) ++ capsAV cs) mem ret mem' ∧ AOps P ops rest (putO o.dst ret tm) mem' K
        | _ => False
      | op => match evVal P (opd tm) mem op with
        | some (x, mem') => AOps P ops rest (putO o.dst x tm) mem' K
        | none => False
    | some false => AOps P ops rest (putO o.dst (.one .und) tm) mem K
    | none => False

theorem Rep.putO {ρ : Env} {nt : Nat} {tm : Tm} {mem : AMem} {a : Act} {w : World} (h : Rep ρ nt tm mem a w) {o : Oper} (hd : dstOk nt o = true) {x : AV} {v : Value} (hv : VR ρ x v) :
    Rep ρ nt (Eng.putO o.dst x tm) mem (a.put o.dst v) w := by
  unfold Eng.putO
  unfold dstOk at hd
  cases e : o.dst with
  | none => exact h
  | some d => rw [e] at hd; exact h.put (by simpa using hd) hv

theorem capsAV_sound {ρ : Env} : ∀ {cs : List (Nat × Nat × Nat)} {vs : List Value}, All2 (CapR ρ) cs vs → All2 (VR ρ) (capsAV cs) vs
  | [], [], _ => trivial
  | (r, v, o) :: cs, x :: vs, h => ⟨h.1, capsAV_sound h.2⟩
  | [], _ :: _, h => h.elim
  | _ :: _, [], h => h.elim

theorem aops_sound {nt : Nat} {ops : Array Oper} : ∀ (l : List Oper) (tm : Tm) (mem : AMem) (K : Tm → AMem → Prop), l.all (dstOk nt) = true → AOps P ops l tm mem K →
    ∀ (ρ : Env) (a : Act) (w : World) (Q : Exit → Act → World → Prop), Rep ρ nt tm mem a w →
      (∀ ρ' tm' mem' a' w', Rep ρ' nt tm' mem' a' w' → Step mem ρ w mem' ρ' w' → a'.defers = a.defers → K tm' mem' → Q .normal a' w') → wpList P ops Q l a w
  | [], tm, mem, K, _, h, ρ, a, w, Q, hr, hQ => hQ ρ tm mem a w hr (Step.refl _ _ _) rfl h
  | o :: rest, tm, mem, K, hd, h, ρ, a, w, Q, hr, hQ => by
    simp only [List.all_cons, Bool.and_eq_true] at hd
    have hdef : ∀ v, (a.put o.dst v).defers = a.defers := fun v => by cases o.dst <;> rfl
    simp only [AOps] at h
    unfold wpList
    split at h
    · rename_i hw
      rw [if_pos (wantedA_sound hr hw)]
      refine .inl ?_
      unfold Oper.wp
      split at h
      · rename_i t x y hop
        split at h
        · rename_i mem' hs
          obtain ⟨w', hrun, hm, hst⟩ := run_storeA P hr.mem hs (hr.opd x) (hr.opd y)
          have he : (execOp a.eval o).run P w = .ok .skip w' := by rw [ex_store hop]; simp only [Sem.run_bind, hrun, Result.andThen_ok, Sem.run_pure]
          rw [he, Oper.upon_skip]
          refine aops_sound rest _ mem' K hd.2 h ρ _ w' Q ((hr.step hst hm).putO hd.1 (x := .one .und) rfl) fun ρ' tm' mem'' a' w'' r s d k => hQ ρ' tm' mem'' a' w'' r (hst.trans s) (d.trans (hdef _)) k
        · exact h.elim
      · rename_i f args ts hop
        split at h
        · rename_i g cs hf
          obtain ⟨ret, mem', hg, h⟩ := h
          have hfv := hr.opd f
          rw [hf] at hfv
          obtain ⟨vs, hfe, hcaps⟩ := hfv
          have hargs : All2 (VR ρ) (args.toList.map (opd tm)) (args.toList.map a.eval) := All2_map (fun y => hr.opd y) args.toList
          have hc := hg ρ w _ hr.mem (hargs.append (capsAV_sound hcaps))
          have hea : (args.toList.map a.eval ++ vs.toList).toArray = args.map a.eval ++ vs := by
            apply Array.ext'; simp
          rw [hea] at hc
          have he0 : (execOp a.eval o).run P w = (callFunc g (args.map a.eval ++ vs)).run P w := by
            rw [ex_call hop]
            simp only [resolve, hfe, Deferred.ofValue, Sem.run_bind, Sem.run_pure, Result.andThen_ok, invoke, Array.empty_append]
          rcases hc with ⟨⟨fn, hfn, hname, hbody⟩, hc⟩ | ⟨v, w', hrun, v', ρ', he', hv, hm, hst⟩
          · have he : (execOp a.eval o).run P w = .ok (.enter g (args.map a.eval ++ vs)) w := by
              rw [he0]
              simp only [Sem.run_bind, Sem.run_pure, Result.andThen_ok, callFunc, run_program, hfn, hname, hbody, Bool.false_eq_true, if_false]
            rw [he, Oper.upon_enter]
            refine hc.mono fun e w' ⟨v, ρ', he', hv, hm, hst⟩ => ?_
            subst he'
            exact aops_sound rest _ mem' K hd.2 h ρ' _ w' Q ((hr.step hst hm).putO hd.1 hv) fun ρ'' tm' mem'' a' w'' r s d k => hQ ρ'' tm' mem'' a' w'' r (hst.trans s) (d.trans (hdef _)) k
          · injection he' with he'; subst he'
            rw [he0, hrun, Oper.upon_value]
            exact aops_sound rest _ mem' K hd.2 h ρ' _ w' Q ((hr.step hst hm).putO hd.1 hv) fun ρ'' tm' mem'' a' w'' r s d k => hQ ρ'' tm' mem'' a' w'' r (hst.trans s) (d.trans (hdef _)) k
        · exact h.elim
      · split at h
        · rename_i x mem' hv
          obtain ⟨v, w', ρ', hrun, hvr, hm, hst⟩ := evVal_sound hr hv
          rw [hrun, Oper.upon_value]
          exact aops_sound rest _ mem' K hd.2 h ρ' _ w' Q ((hr.step hst hm).putO hd.1 hvr) fun ρ'' tm' mem'' a' w'' r s d k => hQ ρ'' tm' mem'' a' w'' r (hst.trans s) (d.trans (hdef _)) k
        · exact h.elim
    · rename_i hw
      rw [if_neg (by rw [wantedA_sound hr hw]; simp)]
      exact aops_sound rest _ mem K hd.2 h ρ _ w Q (hr.putO hd.1 (x := .one .und) rfl) fun ρ'' tm' mem'' a' w'' r s d k => hQ ρ'' tm' mem'' a' w'' r s (d.trans (hdef _)) k
    · exact h.elim

/-- CODE over abstract states. -/
def AW (P : Program) (nt : Nat) (c : Code) (tm : Tm) (mem : AMem) (Q : Exit → Tm → AMem → Prop) : Prop :=
  ∀ ρ a w, Rep ρ nt tm mem a w → c.wp P (fun ex a' w' => ∃ ρ' tm' mem', Rep ρ' nt tm' mem' a' w' ∧ Step mem ρ w mem' ρ' w' ∧ a'.defers = a.defers ∧ Q ex tm' mem') a w

def Thn (K : Tm → AMem → Prop) (Q : Exit → Tm → AMem → Prop) : Exit → Tm → AMem → Prop
  | .normal, tm, mem => K tm mem
  | e, tm, mem => Q e tm mem

def InB (id : Nat) (Q : Exit → Tm → AMem → Prop) : Exit → Tm → AMem → Prop
  | .exit id', tm, mem => if id' = id then Q .normal tm mem else Q (.exit id') tm mem
  | e, tm, mem => Q e tm mem

variable {nt : Nat} {tm : Tm} {mem : AMem} {Q : Exit → Tm → AMem → Prop}

theorem AW.seq {x y : Code} (h : AW P nt x tm mem (Thn (fun tm' mem' => AW P nt y tm' mem' Q) Q)) : AW P nt (.seq x y) tm mem Q := by
  intro ρ a w hr
  refine wp_seq (wp_mono (h ρ a w hr) ?_)
  rintro e a' w' ⟨ρ', tm', mem', hr', hs, hd, hq⟩
  cases e with
  | normal =>
    refine wp_mono (hq ρ' a' w' hr') ?_
    rintro e a'' w'' ⟨ρ'', tm'', mem'', hr'', hs', hd', hq'⟩
    exact ⟨ρ'', tm'', mem'', hr'', hs.trans hs', hd'.trans hd, hq'⟩
  | _ => exact ⟨ρ', tm', mem', hr', hs, hd, hq⟩

theorem AW.skip (h : Q .normal tm mem) : AW P nt .skip tm mem Q := fun ρ a w hr => wp_skip ⟨ρ, tm, mem, hr, Step.refl _ _ _, rfl, h⟩
theorem AW.ret (h : Q .ret tm mem) : AW P nt .ret tm mem Q := fun ρ a w hr => wp_ret ⟨ρ, tm, mem, hr, Step.refl _ _ _, rfl, h⟩
theorem AW.exit {id : Nat} (h : Q (.exit id) tm mem) : AW P nt (.exit id) tm mem Q := fun ρ a w hr => wp_exit ⟨ρ, tm, mem, hr, Step.refl _ _ _, rfl, h⟩

theorem AW.block {id : Nat} {c : Code} (h : AW P nt c tm mem (InB id Q)) : AW P nt (.block id c) tm mem Q := by
  intro ρ a w hr
  refine wp_block (wp_mono (h ρ a w hr) ?_)
  rintro e a' w' ⟨ρ', tm', mem', hr', hs, hd, hq⟩
  cases e with
  | exit id' =>
    simp only [Exit.inBlock]
    simp only [InB] at hq
    split
    · rename_i he; rw [if_pos he] at hq; exact ⟨ρ', tm', mem', hr', hs, hd, hq⟩
    · rename_i he; rw [if_neg he] at hq; exact ⟨ρ', tm', mem', hr', hs, hd, hq⟩
  | _ => exact ⟨ρ', tm', mem', hr', hs, hd, hq⟩

theorem AW.cond {c : Operand} {x y : Code} {b : Bool} (hc : opd tm c = .one (.bool b)) (ht : b = true → AW P nt x tm mem Q) (hf : b = false → AW P nt y tm mem Q) : AW P nt (.cond c x y) tm mem Q := by
  intro ρ a w hr
  have hv := hr.opd c
  rw [hc] at hv
  have e : a.eval c = .bool b := hv
  exact wp_cond_split e (fun h => ht h ρ a w hr) (fun h => hf h ρ a w hr)

theorem AW.region {id : Nat} {l : List Oper} (hd : l.all (dstOk nt) = true) (h : AOps P l.toArray l tm mem (Q .normal)) : AW P nt (.region id l.toArray false) tm mem Q := by
  intro ρ a w hr
  refine wp_region_lit ?_
  exact aops_sound l tm mem _ hd h ρ a w _ hr fun ρ' tm' mem' a' w' r s d k => ⟨ρ', tm', mem', r, s, d, k⟩

theorem AW.mono {c : Code} {Q' : Exit → Tm → AMem → Prop} (h : AW P nt c tm mem Q) (hq : ∀ e tm mem, Q e tm mem → Q' e tm mem) : AW P nt c tm mem Q' := fun ρ a w hr =>
  wp_mono (h ρ a w hr) fun e a' w' ⟨ρ', tm', mem', hr', hs, hd, hq'⟩ => ⟨ρ', tm', mem', hr', hs, hd, hq _ _ _ hq'⟩

/-- FORGETTING: what stands for the same world, and says less. -/
def Weak (nt : Nat) (tm : Tm) (mem : AMem) (tm' : Tm) (mem' : AMem) : Prop :=
  ∀ ρ a w, Rep ρ nt tm mem a w → ∃ ρ', Rep ρ' nt tm' mem' a w ∧ ∀ m0 ρ0 w0, m0.length ≤ mem'.length → Step m0 ρ0 w0 mem ρ w → Step m0 ρ0 w0 mem' ρ' w

theorem Weak.refl : Weak nt tm mem tm mem := fun ρ a w h => ⟨ρ, h, fun _ _ _ _ s => s⟩

theorem AW.loop {ι : Type} {c : Code} (T : ι → Tm) (M : ι → AMem) (μ : ι → Nat) (i : ι) (ht : T i = tm) (hm : M i = mem)
    (h : ∀ i, AW P nt c (T i) (M i) (Thn (fun tm' mem' => ∃ j, μ j < μ i ∧ Weak nt tm' mem' (T j) (M j) ∧ (M i).length ≤ (M j).length) Q)) : AW P nt (.loop c) tm mem Q := by
  subst ht; subst hm
  intro ρ a w hr
  refine wp_loop_rounds (μ i + 1) ?_
  have key : ∀ n i, μ i ≤ n → ∀ ρ a w, Rep ρ nt (T i) (M i) a w →
      Code.rounds P c (fun ex a' w' => ∃ ρ' tm' mem', Rep ρ' nt tm' mem' a' w' ∧ Step (M i) ρ w mem' ρ' w' ∧ a'.defers = a.defers ∧ Q ex tm' mem') (n + 1) a w := by
    intro n
    induction n with
    | zero =>
      intro i hn ρ a w hr
      refine wp_mono (h i ρ a w hr) ?_
      rintro e a' w' ⟨ρ', tm', mem', hr', hs, hd, hq⟩
      cases e with
      | normal => obtain ⟨j, hj, _⟩ := hq; omega
      | _ => exact ⟨ρ', tm', mem', hr', hs, hd, hq⟩
    | succ n ih =>
      intro i hn ρ a w hr
      refine wp_mono (h i ρ a w hr) ?_
      rintro e a' w' ⟨ρ', tm', mem', hr', hs, hd, hq⟩
      cases e with
      | normal =>
        obtain ⟨j, hj, hweak, hlen⟩ := hq
        obtain ⟨ρ2, hr2, hs2⟩ := hweak ρ' a' w' hr'
        have hs3 := hs2 _ _ _ hlen hs
        have := ih j (by omega) ρ2 a' w' hr2
        have mono : ∀ (n : Nat) (Q1 Q2 : Exit → Act → World → Prop), (∀ e a w, Q1 e a w → Q2 e a w) → ∀ a w, Code.rounds P c Q1 n a w → Code.rounds P c Q2 n a w := by
          intro n Q1 Q2 hQ
          induction n with
          | zero => intro a w h; exact h
          | succ n ihn =>
            intro a w h
            refine wp_mono h ?_
            intro e a w h
            cases e with
            | normal => exact ihn a w h
            | _ => exact hQ _ _ _ h
        refine mono _ _ _ ?_ a' w' this
        rintro e a'' w'' ⟨ρ'', tm'', mem'', hr'', hs', hd', hq'⟩
        exact ⟨ρ'', tm'', mem'', hr'', hs3.trans hs', hd'.trans hd, hq'⟩
      | _ => exact ⟨ρ', tm', mem', hr', hs, hd, hq⟩
  exact key (μ i) i (Nat.le_refl _) ρ a w hr

end
end Go.Eng
