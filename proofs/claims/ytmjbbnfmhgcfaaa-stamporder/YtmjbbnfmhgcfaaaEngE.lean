/-
  ENGINE, PART E: one operation over abstract values and memory, and that the model's operation does the same.
-/
import Derived.Test.YtmjbbnfmhgcfaaaEngD
import Derived.Maps.AppendAt
set_option linter.unusedVariables false
set_option linter.unusedSimpArgs false
namespace Go.Eng
open Go

section
variable (P : Program)

def selA (c : Bool) (x y : AV) : AV :=
  match x, y with
  | .one (.bool p), .one (.bool q) => .one (.bool (bif c then p else q))
  | x, y => bif c then x else y

theorem VR_selA {ρ : Env} {c : Bool} {x y : AV} {u v : Value} (hx : VR ρ x u) (hy : VR ρ y v) : VR ρ (selA c x y) (if c = true then u else v) := by
  unfold selA
  split
  · have e1 : u = _ := hx
    have e2 : v = _ := hy
    subst e1; subst e2
    cases c <;> rfl
  · cases c
    · exact hy
    · exact hx

def loadA (t : TypeId) (x : AV) (mem : AMem) : Option AV :=
  match x with
  | .one (.ptr r ver off) => match mem[r]? with
    | some b => if ver = b.ver then partA P t b.cells off else none
    | none => none
  | _ => none

theorem run_loadA {ρ : Env} {mem : AMem} {w : World} (hm : RepM ρ mem w) {t : TypeId} {x z : AV} {u : Value} (h : loadA P t x mem = some z) (hx : VR ρ x u) :
    ∃ v, (Instr.loadAt t u).run P w = .ok v w ∧ VR ρ z v := by
  unfold loadA at h
  split at h
  · rename_i r ver off
    obtain ⟨a, k, ha, rfl⟩ := hx
    split at h
    · rename_i b hb
      split at h
      · rename_i hv
        subst hv
        have hbk := hm.blk r b hb
        unfold partA at h
        split at h
        · rename_i hagg
          split at h
          · rename_i n hn
            simp only [Option.map_eq_some_iff] at h
            obtain ⟨cs, hl, rfl⟩ := h
            obtain ⟨vs, hrun, hall⟩ := run_ldCells (P := P) hbk ha off n 0 cs #[] hl
            refine ⟨.agg vs.toArray, ?_, _, rfl, by simpa using hall⟩
            simp only [Array.empty_append] at hrun
            simp only [Instr.loadAt, Instr.sureAddr, loadVar, Sem.run_bind, Sem.run_pure, Result.andThen_ok, run_isAgg P hagg, if_true, run_sizeOf P hn, loadCells, hrun]
          · cases h
        · rename_i hagg
          simp only [Option.map_eq_some_iff] at h
          obtain ⟨c, hc, rfl⟩ := h
          obtain ⟨v, hv, hr⟩ := cells_at hbk ha hc
          refine ⟨v, ?_, hr⟩
          simp only [Instr.loadAt, Instr.sureAddr, loadVar, Sem.run_bind, Sem.run_pure, Result.andThen_ok, run_isAgg P hagg, Bool.false_eq_true, if_false, run_load, hv]
        · cases h
      · cases h
    · cases h
  · cases h

def storeA (t : TypeId) (x y : AV) (mem : AMem) : Option AMem :=
  match x with
  | .one (.ptr r ver off) => match mem[r]? with
    | some b => match b.kind with
      | .ro => none
      | _ => match y.cells, szOf P t with
        | some cs, some n => if ver = b.ver ∧ cs.length = n ∧ off + cs.length ≤ b.cells.length ∧ cs.all CV.isVal = true then some (mem.set r { b with cells := setL b.cells off cs }) else none
        | _, _ => none
    | none => none
  | _ => none

theorem run_storeA {ρ : Env} {mem mem' : AMem} {w : World} (hm : RepM ρ mem w) {t : TypeId} {x y : AV} {u v : Value} (h : storeA P t x y mem = some mem') (hx : VR ρ x u) (hy : VR ρ y v) :
    ∃ w', (Instr.storeAt t u v).run P w = .ok () w' ∧ RepM ρ mem' w' ∧ Step mem ρ w mem' ρ w' := by
  unfold storeA at h
  split at h
  · rename_i r ver off
    obtain ⟨a, k, ha, rfl⟩ := hx
    split at h
    · rename_i b hb
      split at h
      · cases h
      · rename_i hk
        split at h
        · rename_i cs n hcs hn
          split at h
          · rename_i hc
            obtain ⟨hv, hlen, hoff, hall⟩ := hc
            subst hv
            injection h with h
            subst h
            have hvs := hy.cells hcs
            have hone := All2.one_of_isVal hvs hall
            obtain ⟨w', hrun, h1, h2⟩ := hm.store (P := P) hb hk ha hvs hoff hone
            refine ⟨w', ?_, h1, h2⟩
            have hsz : ¬ (v.cells.size ≠ n) := by have := hvs.length; simp at this; omega
            simp only [Instr.storeAt, Instr.sureAddr, storeVar, Sem.run_bind, Sem.run_pure, Result.andThen_ok, run_sizeOf P hn, if_neg hsz, hrun]
          · cases h
        · cases h
    · cases h
  · cases h

def unA (op : UnOp) (x : AV) : Option AV :=
  match op, x with
  | .neg, .one (.int k n) => some (.one (.int k (k.wrap (0 - n))))
  | .xor, .one (.int k n) => some (.one (.int k (bits .xor k (if k.signed then -1 else k.max) n)))
  | .not, .one (.bool b) => some (.one (.bool !b))
  | _, _ => none

theorem run_unA {ρ : Env} {op : UnOp} {x z : AV} {u : Value} (h : unA op x = some z) (hx : VR ρ x u) (w : World) : ∃ v, (Op.unary op u).run P w = .ok v w ∧ VR ρ z v := by
  unfold unA at h
  split at h
  · have e : u = _ := hx
    subst e
    injection h with h; subst h
    exact ⟨_, rfl, rfl⟩
  · have e : u = _ := hx
    subst e
    injection h with h; subst h
    exact ⟨_, rfl, rfl⟩
  · have e : u = _ := hx
    subst e
    injection h with h; subst h
    exact ⟨_, rfl, rfl⟩
  · cases h

def convA (src dst : TypeId) (x : AV) : Option AV :=
  match P.underlying src, P.underlying dst, x with
  | some _, some (.int k), .one (.int _ n) => some (.one (.int k (k.wrap n)))
  | some _, some .string, .one (.str s) => some (.one (.str s))
  | _, _, _ => none

theorem run_convA {ρ : Env} {src dst : TypeId} {x z : AV} {u : Value} (h : convA P src dst x = some z) (hx : VR ρ x u) (w : World) : ∃ v, (convert src dst u).run P w = .ok v w ∧ VR ρ z v := by
  unfold convA at h
  split at h
  · rename_i d k k' n hs hd
    have e : u = _ := hx
    subst e
    injection h with h; subst h
    exact ⟨_, by simp only [convert, Sem.run_bind, run_underlying hs, run_underlying hd, Result.andThen_ok, Conv.intToInt, Sem.run_pure], rfl⟩
  · rename_i d s hs hd
    have e : u = _ := hx
    subst e
    injection h with h; subst h
    exact ⟨_, by simp only [convert, Sem.run_bind, run_underlying hs, run_underlying hd, Result.andThen_ok, Sem.run_pure], rfl⟩
  · cases h

def fieldAddrA (s : TypeId) (x : AV) (f : Nat) : Option AV :=
  match P.underlying s, x with
  | some (.struct fs), .one (.ptr r ver off) => match fs[f]? with
    | some fl => match szOf P fl.type with
      | some n => if n = 0 then none else some (.one (.ptr r ver (off + fl.offset)))
      | none => none
    | none => none
  | _, _ => none

theorem run_fieldAddrA {ρ : Env} {s : TypeId} {x z : AV} {f : Nat} {u : Value} (h : fieldAddrA P s x f = some z) (hx : VR ρ x u) (w : World) : ∃ v, (Instr.fieldAt s u f).run P w = .ok v w ∧ VR ρ z v := by
  unfold fieldAddrA at h
  split at h
  · rename_i fs r ver off hu
    obtain ⟨a, k, ha, rfl⟩ := hx
    split at h
    · rename_i fl hf
      split at h
      · rename_i n hn
        split at h
        · cases h
        · rename_i hn0
          injection h with h; subst h
          refine ⟨_, ?_, a, k, ha, rfl⟩
          simp only [Instr.fieldAt, Sem.run_bind, run_underlying hu, Result.andThen_ok, hf, Instr.sureAddr, Sem.run_pure, fieldPlace, run_sizeOf P hn, if_neg hn0, addr_add_add]
      · cases h
    · cases h
  · cases h

def fieldA (t : TypeId) (x : AV) (f : Nat) : Option AV :=
  match P.underlying t, x with
  | some (.struct fs), .agg cs => match fs[f]? with
    | some fl => partA P fl.type cs fl.offset
    | none => none
  | _, _ => none

theorem run_fieldA {ρ : Env} {t : TypeId} {x z : AV} {f : Nat} {u : Value} (h : fieldA P t x f = some z) (hx : VR ρ x u) (w : World) : ∃ v, (Instr.field t u f).run P w = .ok v w ∧ VR ρ z v := by
  unfold fieldA at h
  split at h
  · rename_i fs cs hu
    obtain ⟨vs, rfl, hall⟩ := hx
    split at h
    · rename_i fl hf
      obtain ⟨v, hv, hr⟩ := run_part P h hall w
      refine ⟨v, ?_, hr⟩
      simp only [Instr.field, Sem.run_bind, run_underlying hu, Result.andThen_ok, hf, asAgg, Sem.run_pure, hv]
    · cases h
  · cases h

def indexAddrA (t : TypeId) (x i : AV) : Option AV :=
  match P.underlying t, x, i with
  | some (.array len elem), .one (.ptr r ver off), .one (.int _ i) => match szOf P elem with
    | some n => if 0 ≤ i ∧ i < (len : Int) then some (.one (.ptr r ver (off + i.toNat * n))) else none
    | none => none
  | some (.slice elem), .one (.sl r ver off len), .one (.int _ i) => match szOf P elem with
    | some n => if 0 ≤ i ∧ i < (len : Int) then some (.one (.ptr r ver (off + i.toNat * n))) else none
    | none => none
  | _, _, _ => none

theorem run_indexAddrA {ρ : Env} {t : TypeId} {x i z : AV} {u j : Value} (h : indexAddrA P t x i = some z) (hx : VR ρ x u) (hi : VR ρ i j) (w : World) : ∃ v, (Instr.indexAt t u j).run P w = .ok v w ∧ VR ρ z v := by
  unfold indexAddrA at h
  split at h
  · rename_i len elem r ver off k i hu
    obtain ⟨a, kk, ha, rfl⟩ := hx
    have e : j = _ := hi
    subst e
    split at h
    · rename_i n hn
      split at h
      · rename_i hb
        injection h with h; subst h
        refine ⟨_, ?_, a, kk, ha, rfl⟩
        simp [Instr.indexAt, asIntOf, run_underlying hu, Instr.sureAddr, hb.1, hb.2, run_sizeOf P hn, addr_add_add]
      · cases h
    · cases h
  · rename_i elem r ver off len k i hu
    obtain ⟨A, c0, B, c, ha, rfl, hlen, hB, h0⟩ := hx
    have e : j = _ := hi
    subst e
    split at h
    · rename_i n hn
      split at h
      · rename_i hb
        injection h with h; subst h
        obtain ⟨a, rfl, rfl⟩ := hB (by omega)
        refine ⟨_, ?_, a, c0, ha, rfl⟩
        simp [Instr.indexAt, asIntOf, run_underlying hu, Instr.sureAddr, hb.1, hb.2, run_sizeOf P hn, addr_add_add]
      · cases h
    · cases h
  · cases h

def indexA (t : TypeId) (x i : AV) : Option AV :=
  match P.underlying t, x, i with
  | some (.array len elem), .agg cs, .one (.int _ i) => match szOf P elem with
    | some n => if 0 ≤ i ∧ i < (len : Int) then partA P elem cs (i.toNat * n) else none
    | none => none
  | some .string, .one (.str s), .one (.int _ i) => if 0 ≤ i then (s[i.toNat]?).map fun b => .one (.int .u8 b.toNat) else none
  | _, _, _ => none

theorem run_indexA {ρ : Env} {t : TypeId} {x i z : AV} {u j : Value} (h : indexA P t x i = some z) (hx : VR ρ x u) (hi : VR ρ i j) (w : World) : ∃ v, (Instr.index t u j).run P w = .ok v w ∧ VR ρ z v := by
  unfold indexA at h
  split at h
  · rename_i len elem cs k i hu
    obtain ⟨vs, rfl, hall⟩ := hx
    have e : j = _ := hi
    subst e
    split at h
    · rename_i n hn
      split at h
      · rename_i hb
        obtain ⟨v, hv, hr⟩ := run_part P h hall w
        refine ⟨v, ?_, hr⟩
        simp [Instr.index, asIntOf, run_underlying hu, hb.1, hb.2, run_sizeOf P hn, hv]
      · cases h
    · cases h
  · rename_i s k i hu
    have e : j = _ := hi
    subst e
    have e : u = _ := hx
    subst e
    split at h
    · rename_i hb
      simp only [Option.map_eq_some_iff] at h
      obtain ⟨b, hs, rfl⟩ := h
      refine ⟨_, ?_, rfl⟩
      simp [Instr.index, asIntOf, run_underlying hu, hb, hs]
    · cases h
  · cases h

/-- A bound of a slice expression. -/
def bndA (x : Option AV) (dflt : Int) : Option Int :=
  match x with
  | none => some dflt
  | some (.one (.int _ i)) => some i
  | some _ => none

def sliceA (t : TypeId) (x : AV) (lo hi : Option AV) : Option AV :=
  match P.underlying t, x with
  | some (.slice elem), .one (.sl r ver off len) => match szOf P elem, bndA lo 0, bndA hi len with
    | some n, some l, some h => if n ≠ 0 ∧ 0 ≤ l ∧ l ≤ h ∧ h ≤ (len : Int) then some (.one (.sl r ver (off + l.toNat * n) (h.toNat - l.toNat))) else none
    | _, _, _ => none
  | some .string, .one (.str s) => match bndA lo 0, bndA hi s.size with
    | some l, some h => if 0 ≤ l ∧ l ≤ h ∧ h ≤ (s.size : Int) then some (.one (.str (s.extract l.toNat h.toNat))) else none
    | _, _ => none
  | _, _ => none

theorem run_sliceBound (k : IntKind) (i : Int) (y : Nat) (code : BoundsCode) (h0 : 0 ≤ i) (h1 : i ≤ (y : Int)) (w : World) : (Instr.sliceBound (.int k i) y code).run P w = .ok i.toNat w := by
  simp [Instr.sliceBound, asIntOf, h0, h1]

theorem run_sliceBounds {ρ : Env} {isSlice : Bool} {len cap : Nat} {lo hi : Option AV} {ulo uhi : Option Value} {l h : Int} (hl : bndA lo 0 = some l) (hh : bndA hi len = some h) (h0 : 0 ≤ l) (h1 : l ≤ h) (h2 : h ≤ (len : Int)) (hc : len ≤ cap)
    (hlo : ∀ x, lo = some x → ∃ u, ulo = some u ∧ VR ρ x u) (hlo' : lo = none → ulo = none) (hhi : ∀ x, hi = some x → ∃ u, uhi = some u ∧ VR ρ x u) (hhi' : hi = none → uhi = none) (w : World) :
    (Instr.sliceBounds isSlice len cap ulo uhi none).run P w = .ok (l.toNat, h.toNat, cap) w := by
  have hu : (uhi = none ∧ h = len) ∨ ∃ k, uhi = some (.int k h) := by
    cases hi with
    | none => left; simp [bndA] at hh; exact ⟨hhi' rfl, hh.symm⟩
    | some x =>
      obtain ⟨u, hu, hr⟩ := hhi x rfl
      unfold bndA at hh
      split at hh
      · rename_i e; cases e
      · rename_i k i e
        injection e with e; subst e
        injection hh with hh; subst hh
        exact .inr ⟨k, by rw [hu]; have : u = _ := hr; rw [this]⟩
      · cases hh
  have hv : (ulo = none ∧ l = 0) ∨ ∃ k, ulo = some (.int k l) := by
    cases lo with
    | none => left; simp [bndA] at hl; exact ⟨hlo' rfl, hl.symm⟩
    | some x =>
      obtain ⟨u, hu, hr⟩ := hlo x rfl
      unfold bndA at hl
      split at hl
      · rename_i e; cases e
      · rename_i k i e
        injection e with e; subst e
        injection hl with hl; subst hl
        exact .inr ⟨k, by rw [hu]; have : u = _ := hr; rw [this]⟩
      · cases hl
  rcases hu with ⟨rfl, rfl⟩ | ⟨k1, rfl⟩ <;> rcases hv with ⟨rfl, rfl⟩ | ⟨k2, rfl⟩
  · simp [Instr.sliceBounds]
  · simp [Instr.sliceBounds, run_sliceBound P k2 l len _ h0 h1]
  · have := run_sliceBound P k1 h cap (if isSlice = true then BoundsCode.sliceAcap else BoundsCode.sliceAlen) (by omega) (by omega) w
    simp [Instr.sliceBounds, this]
  · have := run_sliceBound P k1 h cap (if isSlice = true then BoundsCode.sliceAcap else BoundsCode.sliceAlen) (by omega) (by omega) w
    have h3 := run_sliceBound P k2 l h.toNat BoundsCode.sliceB h0 (by omega) w
    simp [Instr.sliceBounds, this, h3]

theorem run_sliceA {ρ : Env} {t : TypeId} {x z : AV} {u : Value} {lo hi : Option AV} {ulo uhi : Option Value} (h : sliceA P t x lo hi = some z) (hx : VR ρ x u)
    (hlo : ∀ x, lo = some x → ∃ u, ulo = some u ∧ VR ρ x u) (hlo' : lo = none → ulo = none) (hhi : ∀ x, hi = some x → ∃ u, uhi = some u ∧ VR ρ x u) (hhi' : hi = none → uhi = none) (w : World) :
    ∃ v, (Instr.sliceAt t u ulo uhi none).run P w = .ok v w ∧ VR ρ z v := by
  unfold sliceA at h
  split at h
  · rename_i elem r ver off len hu
    obtain ⟨A, c0, B, c, ha, rfl, hlen, hB, h0⟩ := hx
    split at h
    · rename_i n l hh hn hl hhh
      split at h
      · rename_i hb
        obtain ⟨hn0, b0, b1, b2⟩ := hb
        injection h with h; subst h
        have hr := run_sliceBounds P (isSlice := true) hl hhh b0 b1 b2 hlen hlo hlo' hhi hhi' w
        refine ⟨.slice (if c = l.toNat then B else B.map (·.add (l.toNat * n))) (hh.toNat - l.toNat) (c - l.toNat), ?_, ?_⟩
        · simp only [Instr.sliceAt, Instr.slice, Sem.run_bind, run_underlying hu, Result.andThen_ok, hr, run_sizeOf P hn, Sem.run_pure]
        · refine ⟨A, c0, _, _, ha, rfl, by omega, fun hpos => ?_, fun hz => ?_⟩
          · obtain ⟨a, rfl, rfl⟩ := hB (by omega)
            refine ⟨a, rfl, ?_⟩
            rw [if_neg (by omega)]
            simp [addr_add_add]
          · have hl0 : l.toNat = 0 := by
              rcases Nat.eq_zero_or_pos l.toNat with h | h
              · exact h
              · have := Nat.mul_pos h (Nat.pos_of_ne_zero hn0); omega
            obtain ⟨hBA, hcc⟩ := h0 (by omega)
            subst hBA; subst hcc
            refine ⟨?_, by omega⟩
            rw [hl0]
            split
            · rfl
            · cases B <;> simp [Addr.add]
      · cases h
    · cases h
  · rename_i s hu
    have e : u = _ := hx
    subst e
    split at h
    · rename_i l hh hl hhh
      split at h
      · rename_i hb
        obtain ⟨b0, b1, b2⟩ := hb
        injection h with h; subst h
        have hr := run_sliceBounds P (isSlice := false) hl hhh b0 b1 b2 (Nat.le_refl _) hlo hlo' hhi hhi' w
        refine ⟨.string (s.extract l.toNat hh.toNat), ?_, rfl⟩
        simp only [Instr.sliceAt, Instr.slice, Sem.run_bind, run_underlying hu, Result.andThen_ok, hr, Sem.run_pure, Option.isSome_none, Bool.false_eq_true, if_false]
      · cases h
    · cases h
  · cases h

def extractA (x : AV) (i : Nat) : Option AV :=
  match x with
  | .tup ts => match ts[i]? with
    | some (true, cs) => some (.agg cs)
    | some (false, [c]) => some (.one c)
    | _ => none
  | _ => none

theorem run_extractA {ρ : Env} {x z : AV} {i : Nat} {u : Value} (h : extractA x i = some z) (hx : VR ρ x u) (w : World) : ∃ v, (Instr.extract u i).run P w = .ok v w ∧ VR ρ z v := by
  unfold extractA at h
  split at h
  · rename_i ts
    obtain ⟨vs, rfl, hall⟩ := hx
    split at h
    · rename_i cs he
      injection h with h; subst h
      obtain ⟨v, hv, hr⟩ := hall.get he
      have hv' : vs[i]? = some v := by simpa using hv
      exact ⟨v, by simp [Instr.extract, hv'], hr⟩
    · rename_i c he
      injection h with h; subst h
      obtain ⟨v, hv, hr⟩ := hall.get he
      have hv' : vs[i]? = some v := by simpa using hv
      exact ⟨v, by simp [Instr.extract, hv'], hr⟩
    · cases h
  · cases h

def capsA : List AV → Option (List (Nat × Nat × Nat))
  | [] => some []
  | .one (.ptr r ver off) :: l => (capsA l).map ((r, ver, off) :: ·)
  | _ :: _ => none

theorem VR_capsA {ρ : Env} : ∀ {xs : List AV} {vs : List Value} {cs : List (Nat × Nat × Nat)}, All2 (VR ρ) xs vs → capsA xs = some cs → All2 (CapR ρ) cs vs
  | [], [], cs, _, h => by simp [capsA] at h; subst h; trivial
  | x :: xs, v :: vs, cs, hr, h => by
    unfold capsA at h
    split at h
    · rename_i e; cases e
    · rename_i r ver off l e
      injection e with e1 e2
      subst e1; subst e2
      simp only [Option.map_eq_some_iff] at h
      obtain ⟨cs', h', rfl⟩ := h
      exact ⟨hr.1, VR_capsA hr.2 h'⟩
    · cases h
  | [], _ :: _, _, h, _ => h.elim
  | _ :: _, [], _, h, _ => h.elim

/-- len, min, max: builtins that turn nothing. -/
def lenA (t : TypeId) (x : AV) : Option AV :=
  match P.underlying t, x with
  | some .string, .one (.str s) => some (.one (.int .i64 s.size))
  | some (.array n _), _ => some (.one (.int .i64 n))
  | some (.slice _), .one (.sl _ _ _ len) => some (.one (.int .i64 len))
  | some (.slice _), .one .nils => some (.one (.int .i64 0))
  | _, _ => none

theorem run_lenA {ρ : Env} {t ty : TypeId} {x z : AV} {u : Value} (h : lenA P t x = some z) (hx : VR ρ x u) (w : World) : ∃ v, (Builtin.len_ #[t] ty #[u]).run P w = .ok v w ∧ VR ρ z v := by
  unfold lenA at h
  split at h
  · rename_i s hu
    have e : u = _ := hx
    subst e
    injection h with h; subst h
    exact ⟨_, by simp [Builtin.len_, run_underlying hu, goInt], rfl⟩
  · rename_i n e' hu
    injection h with h; subst h
    exact ⟨.int .i64 n, by simp [Builtin.len_, run_underlying hu, goInt], rfl⟩
  · rename_i e' r ver off len hu
    obtain ⟨A, c0, B, c, ha, rfl, _⟩ := hx
    injection h with h; subst h
    exact ⟨_, by simp [Builtin.len_, run_underlying hu, goInt], rfl⟩
  · rename_i e' hu
    have e : u = _ := hx
    subst e
    injection h with h; subst h
    exact ⟨_, by simp [Builtin.len_, run_underlying hu, goInt], rfl⟩
  · cases h

def minI (a b : Int) : Int := if b < a then b else a
def maxI (a b : Int) : Int := if a < b then b else a

def mmA (f : Int → Int → Int) (k : IntKind) : Int → List AV → Option AV
  | a, [] => some (.one (.int k a))
  | a, .one (.int _ b) :: r => mmA f k (f a b) r
  | _, _ => none

theorem mm_foldl {ρ : Env} (f : Int → Int → Int) (g : Value → Value → Sem Value) (hg : ∀ k a k' b, g (.int k a) (.int k' b) = pure (.int k (f a b))) (w : World) (k : IntKind) :
    ∀ {xs : List AV} {vs : List Value} {a : Int} {z : AV}, mmA f k a xs = some z → All2 (VR ρ) xs vs → ∃ q, (vs.foldlM g (.int k a)).run P w = .ok q w ∧ VR ρ z q
  | [], [], a, z, h, _ => by
    simp [mmA] at h; subst h
    exact ⟨.int k a, by simp, rfl⟩
  | x :: xs, v :: vs, a, z, h, hx => by
    unfold mmA at h
    split at h
    · rename_i e; cases e
    · rename_i a' k' b r e1
      injection e1 with e1 e2
      subst e1; subst e2
      have e1 : v = _ := hx.1
      subst e1
      obtain ⟨q, hq, hr⟩ := mm_foldl f g hg w k h hx.2
      exact ⟨q, by simpa [List.foldlM_cons, hg] using hq, hr⟩
    · cases h
  | [], _ :: _, _, _, _, h => h.elim
  | _ :: _, [], _, _, _, h => h.elim

def mm (f : Int → Int → Int) : List AV → Option AV
  | .one (.int k a) :: r => mmA f k a r
  | _ => none

theorem run_min {ρ : Env} {ts : Array TypeId} {ty : TypeId} {xs : List AV} {vs : List Value} {z : AV} (h : mm minI xs = some z) (hx : All2 (VR ρ) xs vs) (w : World) : ∃ q, (Builtin.min_ ts ty vs.toArray).run P w = .ok q w ∧ VR ρ z q := by
  unfold mm at h
  split at h
  · rename_i k a r
    match vs, hx with
    | v :: vs, hx =>
      have e1 : v = _ := hx.1
      subst e1
      obtain ⟨q, hq, hr⟩ := mm_foldl P minI Builtin.min2 (fun _ _ _ _ => rfl) w k h hx.2
      exact ⟨q, by simpa [Builtin.min_] using hq, hr⟩
  · cases h

theorem run_max {ρ : Env} {ts : Array TypeId} {ty : TypeId} {xs : List AV} {vs : List Value} {z : AV} (h : mm maxI xs = some z) (hx : All2 (VR ρ) xs vs) (w : World) : ∃ q, (Builtin.max_ ts ty vs.toArray).run P w = .ok q w ∧ VR ρ z q := by
  unfold mm at h
  split at h
  · rename_i k a r
    match vs, hx with
    | v :: vs, hx =>
      have e1 : v = _ := hx.1
      subst e1
      obtain ⟨q, hq, hr⟩ := mm_foldl P maxI Builtin.max2 (fun _ _ _ _ => rfl) w k h hx.2
      exact ⟨q, by simpa [Builtin.max_] using hq, hr⟩
  · cases h

end
end Go.Eng
