/-
  ENGINE, PART C: the operations that turn no memory: operands, parts of aggregates, arithmetic, comparisons, conversions, addresses, slices of slices.
-/
import Derived.Test.YtmjbbnfmhgcfaaaEngB
set_option linter.unusedVariables false
set_option linter.unusedSimpArgs false
namespace Go.Eng
open Go

def CV.isVal : CV → Bool
  | .und => false
  | .junk => false
  | _ => true

theorem CV.one_of_isVal {ρ : Env} {c : CV} {v : Value} (h : c.isVal = true) (hv : VC ρ c v) : v.oneCell' = true ∧ v.cells = #[v] := by
  cases c <;> simp [CV.isVal] at h
  case bool b => have e : v = _ := hv; subst e; exact ⟨rfl, rfl⟩
  case int k n => have e : v = _ := hv; subst e; exact ⟨rfl, rfl⟩
  case str s => have e : v = _ := hv; subst e; exact ⟨rfl, rfl⟩
  case ptr r ver off => obtain ⟨a, k, _, e⟩ := hv; subst e; exact ⟨rfl, rfl⟩
  case nilp => have e : v = _ := hv; subst e; exact ⟨rfl, rfl⟩
  case sl r ver off len => obtain ⟨A, c0, B, c, _, e, _⟩ := hv; subst e; exact ⟨rfl, rfl⟩
  case nils => have e : v = _ := hv; subst e; exact ⟨rfl, rfl⟩
  case fn f caps => obtain ⟨vs, e, _⟩ := hv; subst e; exact ⟨rfl, rfl⟩
  case nilf => have e : v = _ := hv; subst e; exact ⟨rfl, rfl⟩
  case nili => have e : v = _ := hv; subst e; exact ⟨rfl, rfl⟩

def cellOf : Value → CV
  | .bool b => .bool b
  | .int k n => .int k n
  | .string s => .str s
  | .pointer none => .nilp
  | .slice none 0 0 => .nils
  | .nilFunc => .nilf
  | .nilIface => .nili
  | _ => .junk

def ofV : Value → AV
  | .agg cs => .agg (cs.toList.map cellOf)
  | v => .one (cellOf v)

theorem VC_cellOf (ρ : Env) (v : Value) : VC ρ (cellOf v) v := by
  unfold cellOf
  split <;> first | rfl | trivial
theorem All2_cellOf (ρ : Env) : ∀ l : List Value, All2 (VC ρ) (l.map cellOf) l
  | [] => trivial
  | v :: l => ⟨VC_cellOf ρ v, All2_cellOf ρ l⟩
theorem VR_ofV (ρ : Env) (v : Value) : VR ρ (ofV v) v := by
  unfold ofV
  split
  · rename_i cs; exact ⟨cs, rfl, All2_cellOf ρ _⟩
  · exact VC_cellOf ρ v

def opd (tm : List (Nat × AV)) : Operand → AV
  | .tmp t => Tm.get tm t
  | .const v => ofV v
  | .global _ => .one .junk
  | .func f => .one (.fn f [])

theorem Rep.opd {ρ : Env} {nt : Nat} {tm : Tm} {mem : AMem} {a : Act} {w : World} (h : Rep ρ nt tm mem a w) (x : Operand) : VR ρ (Eng.opd tm x) (a.eval x) := by
  cases x with
  | tmp t => exact h.tm t
  | const v => exact VR_ofV ρ v
  | global g => trivial
  | func f => exact ⟨#[], rfl, trivial⟩

/-- The cells of a value that may be laid into memory whole. -/
def AV.cells : AV → Option (List CV)
  | .one c => if c.isVal then some [c] else none
  | .agg cs => some cs
  | .tup _ => none

theorem VR.cells {ρ : Env} {x : AV} {v : Value} (h : VR ρ x v) {cs : List CV} (hc : x.cells = some cs) : All2 (VC ρ) cs v.cells.toList := by
  cases x with
  | one c =>
    simp only [AV.cells] at hc
    split at hc
    · rename_i hv
      injection hc with hc
      subst hc
      rw [(CV.one_of_isVal hv h).2]
      exact ⟨h, trivial⟩
    · cases hc
  | agg cs' =>
    injection hc with hc
    subst hc
    obtain ⟨vs, rfl, h2⟩ := h
    exact h2
  | tup ts => cases hc

theorem All2.one_of_isVal {ρ : Env} : ∀ {cs : List CV} {vs : List Value}, All2 (VC ρ) cs vs → cs.all CV.isVal = true → ∀ v ∈ vs, v.oneCell' = true
  | [], [], _, _, v, hv => by cases hv
  | c :: cs, u :: vs, h, ha, v, hv => by
    simp only [List.all_cons, Bool.and_eq_true] at ha
    rcases List.mem_cons.1 hv with rfl | hv
    · exact (CV.one_of_isVal ha.1 h.1).1
    · exact All2.one_of_isVal h.2 ha.2 v hv
  | [], _ :: _, h, _, _, _ => h.elim
  | _ :: _, [], h, _, _, _ => h.elim

section
variable (P : Program)

def szOf (t : TypeId) : Option Nat := (P.info? t).map (·.size)
def byOf (t : TypeId) : Option Nat := (P.info? t).map (·.bytes)
def zeroOf (t : TypeId) : Option Value := (P.info? t).bind (·.zero)
def aggOf (t : TypeId) : Option Bool := (P.underlying t).map fun | .struct _ => true | .array _ _ => true | _ => false

theorem run_sizeOf {t : TypeId} {n : Nat} (h : szOf P t = some n) (w : World) : (sizeOf t).run P w = .ok n w := by
  unfold szOf at h
  simp only [Option.map_eq_some_iff] at h
  obtain ⟨i, hi, rfl⟩ := h
  simp [sizeOf, typeInfo, hi]
theorem run_isAgg {t : TypeId} {b : Bool} (h : aggOf P t = some b) (w : World) : (isAgg t).run P w = .ok b w := by
  unfold aggOf at h
  simp only [Option.map_eq_some_iff] at h
  obtain ⟨d, hd, hb⟩ := h
  cases d <;> simp at hb <;> subst hb <;> simp [isAgg, run_underlying hd]
theorem run_zeroValue {t : TypeId} {z : Value} (h : zeroOf P t = some z) (w : World) : (zeroValue t).run P w = .ok z w := by
  unfold zeroOf at h
  simp only [Option.bind_eq_some_iff] at h
  obtain ⟨i, hi, hz⟩ := h
  simp [zeroValue, typeInfo, hi, hz]

/-- A part of an aggregate. -/
def partA (t : TypeId) (cs : List CV) (off : Nat) : Option AV :=
  match aggOf P t with
  | some true => match szOf P t with
    | some n => (ldCells cs off n).map .agg
    | none => none
  | some false => (cs[off]?).map .one
  | none => none

theorem ldCells_eq : ∀ {cells : List CV} {n off : Nat} {cs : List CV}, ldCells cells off n = some cs → off + n ≤ cells.length + (if n = 0 then off else 0) ∧ cs = (cells.drop off).take n
  | cells, 0, off, cs, h => by simp [ldCells] at h; subst h; simp
  | cells, n + 1, off, cs, h => by
    simp only [ldCells] at h
    split at h
    · rename_i c hc
      simp only [Option.map_eq_some_iff] at h
      obtain ⟨cs', h', rfl⟩ := h
      obtain ⟨h1, h2⟩ := ldCells_eq h'
      obtain ⟨hlt, hce⟩ := List.getElem?_eq_some_iff.1 hc
      refine ⟨?_, ?_⟩
      · rw [if_neg (by omega)]
        by_cases hn : n = 0
        · subst hn; omega
        · rw [if_neg hn] at h1; omega
      · rw [List.drop_eq_getElem_cons hlt, List.take_succ_cons, hce, ← h2]
    · cases h

theorem run_part {ρ : Env} {t : TypeId} {cs : List CV} {vs : Array Value} {off : Nat} {x : AV} (h : partA P t cs off = some x) (hcs : All2 (VC ρ) cs vs.toList) (w : World) :
    ∃ v, (part t vs off).run P w = .ok v w ∧ VR ρ x v := by
  unfold partA at h
  cases hb : aggOf P t with
  | none => rw [hb] at h; cases h
  | some b =>
    rw [hb] at h
    cases b with
    | true =>
      simp only at h
      cases hn : szOf P t with
      | none => rw [hn] at h; cases h
      | some n =>
        rw [hn] at h
        simp only [Option.map_eq_some_iff] at h
        obtain ⟨cs', hl, rfl⟩ := h
        obtain ⟨_, he⟩ := ldCells_eq hl
        refine ⟨.agg (vs.extract off (off + n)), ?_, _, rfl, ?_⟩
        · simp [part, run_isAgg P hb, run_sizeOf P hn]
        · subst he
          have := (hcs.drop off).take n
          simpa [Array.toList_extract, List.extract_eq_take_drop] using this
    | false =>
      simp only [Option.map_eq_some_iff] at h
      obtain ⟨c, hc, rfl⟩ := h
      obtain ⟨v, hv, hr⟩ := hcs.get hc
      refine ⟨v, ?_, hr⟩
      have hv' : vs[off]? = some v := by simpa using hv
      simp [part, run_isAgg P hb, hv']

/-- An aggregate out of its parts. -/
def afill (place : Nat → Option (Nat × Nat)) (cells : List CV) : List (Nat × AV) → Option (List CV)
  | [] => some cells
  | (i, x) :: rest =>
    match place i with
    | some (off, size) => match x.cells with
      | some cs => if cs.length = size ∧ off + cs.length ≤ cells.length then afill place (setL cells off cs) rest else none
      | none => none
    | none => none

theorem foldl_setL (off : Nat) : ∀ (l : List Value) (j : Nat) (cs : Array Value), ((l.zipIdx j).foldl (fun cs (c, j) => cs.setIfInBounds (off + j) c) cs).toList = setL cs.toList (off + j) l
  | [], _, _ => rfl
  | v :: l, j, cs => by
    simp only [List.zipIdx_cons, List.foldl_cons, setL]
    rw [foldl_setL off l (j + 1)]
    simp [Nat.add_assoc]

theorem fill_sound {ρ : Env} {place : Nat → Option (Nat × Nat)} : ∀ {parts : List (Nat × AV)} {vparts : List (Nat × Value)} {cells : List CV} {vcells : Array Value} {out : List CV},
    All2 (fun (p : Nat × AV) (q : Nat × Value) => p.1 = q.1 ∧ VR ρ p.2 q.2) parts vparts → All2 (VC ρ) cells vcells.toList → afill place cells parts = some out →
    ∃ vout : Array Value, Instr.fill place vcells vparts = some vout ∧ All2 (VC ρ) out vout.toList
  | [], [], cells, vcells, out, _, hc, h => by
    simp [afill] at h; subst h
    exact ⟨vcells, rfl, hc⟩
  | (i, x) :: parts, (j, v) :: vparts, cells, vcells, out, hp, hc, h => by
    obtain ⟨⟨hij, hx⟩, hp⟩ := hp
    simp only at hij hx
    subst hij
    simp only [afill] at h
    split at h
    · rename_i off size hpl
      split at h
      · rename_i cs hcs
        split at h
        · rename_i hsz
          have hvc := hx.cells hcs
          have hl := hvc.length
          have hcl := hc.length
          simp at hl hcl
          have hset : All2 (VC ρ) (setL cells off cs) (v.cells.zipIdx.foldl (fun cs (c, j) => cs.setIfInBounds (off + j) c) vcells).toList := by
            rw [← Array.foldl_toList, Array.toList_zipIdx, foldl_setL off v.cells.toList 0 vcells]
            exact hc.setL _ hvc
          obtain ⟨vout, h1, h2⟩ := fill_sound hp hset h
          refine ⟨vout, ?_, h2⟩
          simp only [Instr.fill, hpl]
          rw [if_neg]
          · exact h1
          · simp only [Bool.or_eq_true, decide_eq_true_eq, not_or]
            omega
        · cases h
      · cases h
    · cases h
  | [], _ :: _, _, _, _, h, _, _ => h.elim
  | _ :: _, [], _, _, _, h, _, _ => h.elim

def buildA (t : TypeId) (parts : List (Nat × AV)) : Option AV :=
  match zeroOf P t, P.underlying t with
  | some z, some (.struct fields) =>
    if fields.toList.all (fun f => (szOf P f.type).isSome) then
      (afill (fun i => (fields[i]?).bind fun f => (szOf P f.type).map fun n => (f.offset, n)) (z.cells.toList.map cellOf) parts).map .agg
    else none
  | some z, some (.array _ elem) => match szOf P elem with
    | some size => (afill (fun i => some (i * size, size)) (z.cells.toList.map cellOf) parts).map .agg
    | none => none
  | _, _ => none

theorem mapM_places (w : World) : ∀ (l : List Field), l.all (fun f => (szOf P f.type).isSome) = true →
    ((l.mapM fun f => (sizeOf f.type >>= fun n => pure (f.offset, n)) : Sem (List (Nat × Nat)))).run P w = .ok (l.map fun f => (f.offset, (szOf P f.type).getD 0)) w
  | [], _ => by simp
  | f :: l, h => by
    simp only [List.all_cons, Bool.and_eq_true] at h
    obtain ⟨n, hn⟩ := Option.isSome_iff_exists.1 h.1
    simp only [List.mapM_cons, Sem.run_bind, run_sizeOf P hn, mapM_places w l h.2, Result.andThen_ok, Sem.run_pure, List.map_cons, hn, Option.getD_some]
theorem mapM_placesA (w : World) (fields : Array Field) (h : fields.toList.all (fun f => (szOf P f.type).isSome) = true) :
    ((fields.mapM fun f => (sizeOf f.type >>= fun n => pure (f.offset, n)) : Sem (Array (Nat × Nat)))).run P w = .ok (fields.toList.map fun f => (f.offset, (szOf P f.type).getD 0)).toArray w := by
  obtain ⟨l⟩ := fields
  simp only [List.mapM_toArray, Sem.run_map]
  rw [mapM_places P w l h]
  rfl

theorem run_build {ρ : Env} {t : TypeId} {parts : List (Nat × AV)} {vparts : List (Nat × Value)} {x : AV} (h : buildA P t parts = some x)
    (hp : All2 (fun (p : Nat × AV) (q : Nat × Value) => p.1 = q.1 ∧ VR ρ p.2 q.2) parts vparts) (w : World) :
    ∃ v, (Instr.build t vparts.toArray).run P w = .ok v w ∧ VR ρ x v := by
  unfold buildA at h
  split at h
  · rename_i z fields hz hu
    split at h
    · rename_i hall
      simp only [Option.map_eq_some_iff] at h
      obtain ⟨out, hf, rfl⟩ := h
      obtain ⟨vout, h1, h2⟩ := fill_sound (vcells := z.cells) hp (All2_cellOf ρ _) hf
      refine ⟨.agg vout, ?_, vout, rfl, h2⟩
      have hm := mapM_placesA P w fields hall
      simp only [Instr.build, Sem.run_bind, run_zeroValue P hz, run_underlying hu, Result.andThen_ok]
      rw [hm, Result.andThen_ok]
      have hpl : (fun i : Nat => ((fields.toList.map fun f => (f.offset, (szOf P f.type).getD 0)).toArray)[i]?) = fun i => (fields[i]?).bind fun f => (szOf P f.type).map fun n => (f.offset, n) := by
        funext i
        simp only [List.getElem?_toArray, List.getElem?_map, Array.getElem?_toList]
        cases hfi : fields[i]? with
        | none => rfl
        | some f =>
          have hmem : f ∈ fields.toList := by
            have := Array.mem_of_getElem? hfi
            simpa using this
          obtain ⟨n, hn⟩ := Option.isSome_iff_exists.1 (List.all_eq_true.1 hall f hmem)
          simp [hn]
      rw [hpl, h1]
      rfl
    · cases h
  · rename_i z n elem hz hu
    split at h
    · rename_i size hs
      simp only [Option.map_eq_some_iff] at h
      obtain ⟨out, hf, rfl⟩ := h
      obtain ⟨vout, h1, h2⟩ := fill_sound (vcells := z.cells) hp (All2_cellOf ρ _) hf
      refine ⟨.agg vout, ?_, vout, rfl, h2⟩
      simp only [Instr.build, Sem.run_bind, run_zeroValue P hz, run_underlying hu, run_sizeOf P hs, Result.andThen_ok, h1]
      rfl
    · cases h
  · cases h

end
end Go.Eng
