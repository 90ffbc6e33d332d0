/-
  ENGINE, PART F: operations that make or turn memory: new variables, literals of slices, make, append, copy.
-/
import Derived.Test.YtmjbbnfmhgcfaaaEngE
import Derived.Lib.UnsafeStr
import Derived.Lib.Builder
import Derived.Lib.ConvBytes
set_option linter.unusedVariables false
set_option linter.unusedSimpArgs false
namespace Go.Eng
open Go

section
variable (P : Program)

def allocA (t : TypeId) (mem : AMem) : Option (AV × AMem) :=
  match zeroOf P t with
  | some z => some (.one (.ptr mem.length 0 0), mem ++ [⟨.fix, t, 0, 0, z.cells.toList.map cellOf⟩])
  | none => none

theorem run_allocA {ρ : Env} {mem mem' : AMem} {w : World} (hm : RepM ρ mem w) {t : TypeId} {z : AV} (h : allocA P t mem = some (z, mem')) :
    ∃ v w' ρ', (Instr.alloc t true (.tuple #[])).run P w = .ok v w' ∧ VR ρ' z v ∧ RepM ρ' mem' w' ∧ Step mem ρ w mem' ρ' w' := by
  unfold allocA at h
  split at h
  · rename_i z0 hz
    injection h with h
    injection h with h1 h2
    subst h1; subst h2
    obtain ⟨g1, g2, g3⟩ := hm.newFix t 0 (z0.cells.toList.map cellOf) z0.cells (All2_cellOf ρ _)
    refine ⟨_, _, _, ?_, g3, g1, g2⟩
    simp only [Instr.alloc, Sem.run_bind, run_zeroValue P hz, Result.andThen_ok, newVar, newRow, run_newObj, Sem.run_pure]
    rfl
  · cases h

def boxA (t : TypeId) (x : AV) (mem : AMem) : Option (AV × AMem) :=
  match x.cells with
  | some cs => some (.one (.ptr mem.length 0 0), mem ++ [⟨.fix, t, 0, 0, cs⟩])
  | none => none

theorem run_boxA {ρ : Env} {mem mem' : AMem} {w : World} (hm : RepM ρ mem w) {t : TypeId} {x z : AV} {u : Value} (h : boxA t x mem = some (z, mem')) (hx : VR ρ x u) :
    ∃ v w' ρ', (Instr.box t u).run P w = .ok v w' ∧ VR ρ' z v ∧ RepM ρ' mem' w' ∧ Step mem ρ w mem' ρ' w' := by
  unfold boxA at h
  split at h
  · rename_i cs hcs
    injection h with h
    injection h with h1 h2
    subst h1; subst h2
    obtain ⟨g1, g2, g3⟩ := hm.newFix t 0 cs u.cells (hx.cells hcs)
    refine ⟨_, _, _, ?_, g3, g1, g2⟩
    simp only [Instr.box, Sem.run_bind, newVar, newRow, run_newObj, Result.andThen_ok, Sem.run_pure]
    rfl
  · cases h

/-- So many cells, the zero value's over and over. -/
def zeros (z : Value) (n : Nat) : List CV := (List.range n).map fun i => cellOf (z.cells[i % z.cells.size]!)

def buildSliceA (t : TypeId) (len : Nat) (parts : List (Nat × AV)) (mem : AMem) : Option (AV × AMem) :=
  match P.underlying t with
  | some (.slice e) => match szOf P e, zeroOf P e with
    | some size, some z =>
      if 0 < size ∧ len * size ≤ 16777216 ∧ len ≤ 16777216 then
        match afill (fun i => some (i * size, size)) (zeros z (len * size)) parts with
        | some cs => some (.one (.sl mem.length 0 0 len), mem ++ [⟨.grow, e, 0, size, cs⟩])
        | none => none
      else none
    | _, _ => none
  | _ => none

theorem afill_length {place : Nat → Option (Nat × Nat)} : ∀ {parts : List (Nat × AV)} {cells out : List CV}, afill place cells parts = some out → out.length = cells.length
  | [], cells, out, h => by simp [afill] at h; rw [h]
  | (i, x) :: rest, cells, out, h => by
    simp only [afill] at h
    split at h
    · split at h
      · split at h
        · rw [afill_length h, setL_length]
        · cases h
      · cases h
    · cases h

theorem All2_zeros (ρ : Env) (z : Value) (n : Nat) : All2 (VC ρ) (zeros z n) ((Array.range n).map (z.cells[· % z.cells.size]!)).toList := by
  simp only [zeros, Array.toList_map, Array.toList_range]
  induction (List.range n) with
  | nil => trivial
  | cons i l ih => exact ⟨VC_cellOf ρ _, ih⟩

theorem run_buildSliceA {ρ : Env} {mem mem' : AMem} {w : World} (hm : RepM ρ mem w) {t : TypeId} {len : Nat} {parts : List (Nat × AV)} {vparts : List (Nat × Value)} {z : AV}
    (h : buildSliceA P t len parts mem = some (z, mem')) (hp : All2 (fun (p : Nat × AV) (q : Nat × Value) => p.1 = q.1 ∧ VR ρ p.2 q.2) parts vparts) :
    ∃ v w' ρ', (Instr.buildSlice t len vparts.toArray).run P w = .ok v w' ∧ VR ρ' z v ∧ RepM ρ' mem' w' ∧ Step mem ρ w mem' ρ' w' := by
  unfold buildSliceA at h
  split at h
  · rename_i e hu
    split at h
    · rename_i size z0 hs hz
      split at h
      · rename_i hb
        split at h
        · rename_i cs hcs
          injection h with h
          injection h with h1 h2
          subst h1; subst h2
          have hzs := All2_zeros ρ z0 (len * size)
          obtain ⟨vout, hf, hall⟩ := fill_sound hp hzs hcs
          have hl := hall.length
          have hl2 := afill_length hcs
          simp [zeros] at hl2
          have hsz : vout.size = len * size := by rw [← hl2, hl, Array.length_toList]
          obtain ⟨g1, g2, g3⟩ := hm.newRow e size cs vout vout.toList [] len len (by omega) hsz (by simp) hall (Nat.le_refl _) (by simp only [maxLen]; omega)
          refine ⟨_, _, _, ?_, g3, g1, g2⟩
          have hn : ¬ (len * size > 2 ^ 24) := by omega
          simp only [Instr.buildSlice, Sem.run_bind, run_underlying hu, run_sizeOf P hs, Result.andThen_ok, if_neg hn, Sem.run_ite, Sem.run_pure, List.toList_toArray]
          by_cases h0 : len * size = 0
          · rw [if_pos h0]
            have e0 : (Array.range (len * size)).map ((#[] : Array Value)[· % (#[] : Array Value).size]!) = (Array.range (len * size)).map (z0.cells[· % z0.cells.size]!) := by rw [h0, Array.range_zero']; simp
            rw [e0, hf]
            rfl
          · rw [if_neg h0]
            simp only [run_zeroValue P hz, Result.andThen_ok, hf]
            rfl
        · cases h
      · cases h
    · cases h
  · cases h

def makeA (t : TypeId) (l c : AV) (mem : AMem) : Option (AV × AMem) :=
  match P.underlying t with
  | some (.slice e) => match szOf P e, byOf P e, zeroOf P e, l, c with
    | some size, some bytes, some z, .one (.int _ l), .one (.int _ c) =>
      if 0 < size ∧ 0 ≤ l ∧ l ≤ c ∧ (bytes : Int) * c ≤ 281474976710656 ∧ c ≤ 281474976710656 then some (.one (.sl mem.length 0 0 l.toNat), mem ++ [⟨.grow, e, 0, size, zeros z (l.toNat * size)⟩])
      else none
    | _, _, _, _, _ => none
  | _ => none

theorem take_zeros (z : Value) (m n : Nat) (h : m ≤ n) : ((Array.range n).map (z.cells[· % z.cells.size]!)).toList = ((Array.range m).map (z.cells[· % z.cells.size]!)).toList ++ (((Array.range n).map (z.cells[· % z.cells.size]!)).toList.drop m) := by
  conv => lhs; rw [← List.take_append_drop m ((Array.range n).map (z.cells[· % z.cells.size]!)).toList]
  congr 1
  simp only [Array.toList_map, Array.toList_range, ← List.map_take, List.take_range]
  rw [Nat.min_eq_left h]

theorem run_makeA {ρ : Env} {mem mem' : AMem} {w : World} (hm : RepM ρ mem w) {t : TypeId} {l c z : AV} {ul uc : Value} (h : makeA P t l c mem = some (z, mem')) (hl : VR ρ l ul) (hc : VR ρ c uc) :
    ∃ v w' ρ', (Instr.makeSlice t ul uc).run P w = .ok v w' ∧ VR ρ' z v ∧ RepM ρ' mem' w' ∧ Step mem ρ w mem' ρ' w' := by
  unfold makeA at h
  split at h
  · rename_i e hu
    split at h
    · rename_i size bytes z0 kl l kc c hs hby hz
      split at h
      · rename_i hb
        obtain ⟨bz, b0, b1, b2, b3⟩ := hb
        injection h with h
        injection h with h1 h2
        subst h1; subst h2
        have e1 : ul = _ := hl
        have e2 : uc = _ := hc
        subst e1; subst e2
        unfold szOf at hs; unfold byOf at hby; unfold zeroOf at hz
        simp only [Option.map_eq_some_iff, Option.bind_eq_some_iff] at hs hby hz
        obtain ⟨i, hi, rfl⟩ := hs
        obtain ⟨i', hi', rfl⟩ := hby
        obtain ⟨i'', hi'', hz⟩ := hz
        rw [hi] at hi' hi''
        injection hi' with e'; injection hi'' with e''
        subst e'; subst e''
        have hr := run_make (P := P) w t e i z0 hu hi hz kl kc l c b0 b1 b2 (by omega)
        have hle : l.toNat * i.size ≤ c.toNat * i.size := Nat.mul_le_mul_right _ (by omega)
        obtain ⟨g1, g2, g3⟩ := hm.newRow e i.size (zeros z0 (l.toNat * i.size)) (madeCells z0.cells (c.toNat * i.size)) _ _ c.toNat l.toNat (by omega) (size_madeCells _ _) (take_zeros z0 _ _ hle) (All2_zeros ρ z0 _) (by omega) (by simp only [maxLen]; omega)
        exact ⟨_, _, _, hr, g3, g1, g2⟩
      · cases h
    · cases h
  · cases h

/-- What an append or a copy takes from its source: how many elements, their cells. -/
def srcA (size : Nat) (x : AV) (mem : AMem) : Option (Nat × List CV) :=
  match x with
  | .one (.sl r ver off m) => match mem[r]? with
    | some b => if ver = b.ver ∧ off + m * size ≤ b.cells.length then some (m, (b.cells.drop off).take (m * size)) else none
    | none => none
  | .one .nils => some (0, [])
  | _ => none

theorem srcA_sound {ρ : Env} {mem : AMem} {w : World} (hm : RepM ρ mem w) {size : Nat} {x : AV} {u : Value} {m : Nat} {cs : List CV} (h : srcA size x mem = some (m, cs)) (hx : VR ρ x u) :
    ∃ (B : Option Addr) (c : Nat) (vs : List Value), u = .slice B m c ∧ m ≤ c ∧ All2 (VC ρ) cs vs ∧ vs.length = m * size ∧ (B = none → m = 0) ∧ (∀ a, B = some a → ∀ (j : Nat) (v : Value), vs[j]? = some v → w.cell? (a.add j) = some v) := by
  unfold srcA at h
  split at h
  · rename_i r ver off m'
    obtain ⟨A, c0, B, c, ha, rfl, hlen, hB, h0⟩ := hx
    split at h
    · rename_i b hb
      split at h
      · rename_i hc
        obtain ⟨hv, hbound⟩ := hc
        subst hv
        injection h with h
        injection h with h1 h2
        subst h1; subst h2
        have hbk := hm.blk r b hb
        have hcl : ((b.cells.drop off).take (m' * size)).length = m' * size := by simp; omega
        by_cases hm0 : m' = 0
        · subst hm0
          refine ⟨B, c, [], rfl, hlen, ?_, by simp, fun _ => rfl, fun a _ j v hj => by simp at hj⟩
          simp [All2]
        · obtain ⟨a, rfl, rfl⟩ := hB (by omega)
          have hget : ∀ (j : Nat) (x : CV), ((b.cells.drop off).take (m' * size))[j]? = some x → ∃ v, w.cell? (a.add (off + j)) = some v ∧ VC ρ x v := by
            intro j x hj
            refine cells_at hbk ha ?_
            have hjl := (List.getElem?_eq_some_iff.1 hj).1
            rw [hcl] at hjl
            rw [List.getElem?_take_of_lt hjl, List.getElem?_drop] at hj
            exact hj
          have hex : ∀ (l : List CV) (k : Nat), (∀ (j : Nat) (x : CV), l[j]? = some x → ∃ v, w.cell? (a.add (k + j)) = some v ∧ VC ρ x v) →
              ∃ vs : List Value, All2 (VC ρ) l vs ∧ ∀ (j : Nat) (v : Value), vs[j]? = some v → w.cell? (a.add (k + j)) = some v := by
            intro l
            induction l with
            | nil => intro k _; exact ⟨[], trivial, fun j v hj => by simp at hj⟩
            | cons x l ih =>
              intro k hl
              obtain ⟨v, hv, hr⟩ := hl 0 x rfl
              obtain ⟨vs, h1, h2⟩ := ih (k + 1) (fun j y hj => by
                obtain ⟨v, hv, hr⟩ := hl (j + 1) y (by simpa using hj)
                exact ⟨v, by rw [show k + 1 + j = k + (j + 1) by omega]; exact hv, hr⟩)
              refine ⟨v :: vs, ⟨hr, h1⟩, fun j y hj => ?_⟩
              cases j with
              | zero => simp at hj; subst hj; exact hv
              | succ j => rw [show k + (j + 1) = k + 1 + j by omega]; exact h2 j y (by simpa using hj)
          obtain ⟨vs, h1, h2⟩ := hex _ off hget
          refine ⟨some (a.add off), c, vs, rfl, hlen, h1, ?_, (fun e => by cases e), fun a' ha' j v hj => ?_⟩
          · rw [← h1.length, hcl]
          · injection ha' with ha'
            subst ha'
            rw [addr_add_add]
            exact h2 j v hj
      · cases h
    · cases h
  · have e : u = _ := hx
    subst e
    injection h with h
    injection h with h1 h2
    subst h1; subst h2
    exact ⟨none, 0, [], rfl, Nat.le_refl _, trivial, by simp, (fun _ => rfl), (fun a e => by cases e)⟩
  · cases h

/-- Bytes as a text. -/
def bytesA : List CV → Option (List Int)
  | [] => some []
  | .int .u8 n :: r => (bytesA r).map (n :: ·)
  | _ => none
def strB (ns : List Int) : ByteArray := ns.foldl (fun r n => r.push (UInt8.ofNat n.toNat)) ByteArray.empty
theorem bytesA_sound {ρ : Env} : ∀ {cs : List CV} {ns : List Int} {vs : List Value}, bytesA cs = some ns → All2 (VC ρ) cs vs → vs = ns.map (Value.int .u8)
  | [], ns, [], h, _ => by simp [bytesA] at h; subst h; rfl
  | [], _, _ :: _, _, h => h.elim
  | .int .u8 n :: r, ns, v :: vs, h, hv => by
    simp only [bytesA, Option.map_eq_some_iff] at h
    obtain ⟨ns', h', rfl⟩ := h
    have e : v = .int .u8 n := hv.1
    rw [bytesA_sound h' hv.2, e]; rfl
  | _ :: _, _, [], _, h => h.elim
def convM (src dst : TypeId) (x : AV) (mem : AMem) : Option AV :=
  match P.underlying src, P.underlying dst with
  | some (.slice el), some .string => match P.underlying el with
    | some (.int .u8) => match srcA 1 x mem with
      | some (_, cs) => (bytesA cs).map fun ns => .one (.str (strB ns))
      | none => none
    | _ => none
  | some (.pointer t), some .unsafePointer => match x with
    | .one (.ptr r ver off) => match mem[r]?, szOf P t with
      | some ⟨.fix, _, v, _, cells⟩, some k => if v = ver ∧ off < cells.length ∧ k ≠ 0 then some x else none
      | _, _ => none
    | _ => none
  | some .unsafePointer, some (.pointer t) => match x with
    | .one (.ptr r ver off) => match mem[r]?, szOf P t with
      | some ⟨.fix, ty, v, _, cells⟩, some _ => if v = ver ∧ liesAt P P.depth ty (cells.length / P.cellsOf ty) off t 1 = true then some x else none
      | _, _ => none
    | _ => none
  | _, _ => convA P src dst x
theorem run_convM {ρ : Env} {mem : AMem} {w : World} (hm : RepM ρ mem w) {src dst : TypeId} {x z : AV} {u : Value} (h : convM P src dst x mem = some z) (hx : VR ρ x u) : ∃ v, (convert src dst u).run P w = .ok v w ∧ VR ρ z v := by
  unfold convM at h
  split at h
  · rename_i el hs hd
    split at h
    · rename_i he
      split at h
      · rename_i n cs hsrc
        simp only [Option.map_eq_some_iff] at h
        obtain ⟨ns, hb, rfl⟩ := h
        obtain ⟨B, c, vs, rfl, _, hall, hlen, hnone, hcell⟩ := srcA_sound hm hsrc hx
        have hvs := bytesA_sound hb hall
        refine ⟨.string (strB ns), ?_, rfl⟩
        rw [run_convert_bytes_string w src dst el B n c hs he hd]
        cases B with
        | none =>
          have h0 := hnone rfl
          subst h0
          have : ns = [] := by
            have : ns.length = 0 := by rw [hvs] at hlen; simpa using hlen
            exact List.eq_nil_of_length_eq_zero this
          subst this
          rfl
        | some a =>
          refine run_bytesToString w a n c ns ?_
          have h1 := run_loadCells_list (P := P) (w := w) a vs (hcell a rfl)
          rw [show vs.length = n by omega, hvs] at h1
          exact h1
      · cases h
    · cases h
  · rename_i t hs hd
    split at h
    · rename_i r ver off
      split at h
      · rename_i ty v esz cells k hb hsz
        split at h
        · rename_i hc
          obtain ⟨rfl, hoff, hk⟩ := hc
          injection h with h; subst h
          obtain ⟨a, kk, ha, rfl⟩ := id hx
          obtain ⟨n, c, k2, h1, h2, h3, h4⟩ := hm.blk r _ hb
          rw [h1] at ha; injection ha with ha; injection ha with ha1 ha2
          injection ha1 with ha1
          subst ha1
          unfold szOf at hsz
          simp only [Option.map_eq_some_iff] at hsz
          obtain ⟨i, hi, rfl⟩ := hsz
          have hcs : c.size = cells.length := by rw [← Array.length_toList]; exact h3.length.symm
          have hadd : ((⟨n, 0, none⟩ : Addr).add off) = ⟨n, off, none⟩ := by
            unfold Addr.add; split
            · rename_i h; rw [h]
            · simp
          rw [hadd] at hx ⊢
          exact ⟨_, Lib.run_to_unsafe w ⟨n, off, none⟩ hs hd hi hk (e := ty) (cells := c.size) (by simp [World.shape?, h2]) (by rw [hcs]; exact hoff), hx⟩
        · cases h
      · cases h
    · cases h
  · rename_i t hs hd
    split at h
    · rename_i r ver off
      split at h
      · rename_i ty v esz cells k hb hsz
        split at h
        · rename_i hc
          obtain ⟨rfl, hlies⟩ := hc
          injection h with h; subst h
          obtain ⟨a, kk, ha, rfl⟩ := id hx
          obtain ⟨n, c, k2, h1, h2, h3, h4⟩ := hm.blk r _ hb
          rw [h1] at ha; injection ha with ha; injection ha with ha1 ha2
          injection ha1 with ha1
          subst ha1
          unfold szOf at hsz
          simp only [Option.map_eq_some_iff] at hsz
          obtain ⟨i, hi, _⟩ := hsz
          have hcs : c.size = cells.length := by rw [← Array.length_toList]; exact h3.length.symm
          have hadd : ((⟨n, 0, none⟩ : Addr).add off) = ⟨n, off, none⟩ := by
            unfold Addr.add; split
            · rename_i h; rw [h]
            · simp
          rw [hadd] at hx ⊢
          exact ⟨_, Lib.run_from_unsafe w ⟨n, off, none⟩ hs hd hi (e := ty) (cells := c.size) (by simp [World.shape?, h2]) (by rw [hcs]; exact hlies), hx⟩
        · cases h
      · cases h
    · cases h
  · exact run_convA P h hx w

theorem convM_nil {src dst : TypeId} {x z : AV} {M : AMem} (h : convM P src dst x [] = some z) : convM P src dst x M = some z := by
  unfold convM at h ⊢
  split
  · rename_i el hs hd
    simp only [hs, hd] at h
    split
    · rename_i he
      simp only [he] at h
      split at h
      · rename_i n cs hsrc
        have e : srcA 1 x M = some (n, cs) := by
          unfold srcA at hsrc ⊢
          split at hsrc
          · simp at hsrc
          · exact hsrc
          · cases hsrc
        simp only [e]
        exact h
      · cases h
    · rename_i hne
      split at h
      · rename_i he; exact absurd he hne
      · cases h
  · rename_i t hs hd
    simp only [hs, hd] at h
    split at h
    · simp at h
    · cases h
  · rename_i t hs hd
    simp only [hs, hd] at h
    split at h
    · simp at h
    · cases h
  · rename_i h1 h2 h3
    split at h
    · rename_i el hs hd; exact (h1 el hs hd).elim
    · rename_i t hs hd; exact (h2 t hs hd).elim
    · rename_i t hs hd; exact (h3 t hs hd).elim
    · exact h
/-- A slice of an array behind a pointer: memory tells how long the array is. -/
def sliceM (t : TypeId) (x : AV) (lo hi : Option AV) (mem : AMem) : Option AV :=
  match P.underlying t, x with
  | some (.array n elem), .one (.ptr r ver off) => match mem[r]?, szOf P elem, bndA lo 0, bndA hi n with
    | some ⟨.fix, _, v, _, cells⟩, some 1, some l, some h => if v = ver ∧ (off = 0 → cells.length = n) ∧ 0 ≤ l ∧ l ≤ h ∧ h ≤ (n : Int) then some (.one (.sl r ver (off + l.toNat) (h.toNat - l.toNat))) else none
    | _, _, _, _ => none
  | _, _ => sliceA P t x lo hi
theorem run_sliceM {ρ : Env} {mem : AMem} {w : World} (hm : RepM ρ mem w) {t : TypeId} {x z : AV} {u : Value} {lo hi : Option AV} {ulo uhi : Option Value} (h : sliceM P t x lo hi mem = some z) (hx : VR ρ x u)
    (hlo : ∀ x, lo = some x → ∃ u, ulo = some u ∧ VR ρ x u) (hlo' : lo = none → ulo = none) (hhi : ∀ x, hi = some x → ∃ u, uhi = some u ∧ VR ρ x u) (hhi' : hi = none → uhi = none) :
    ∃ v, (Instr.sliceAt t u ulo uhi none).run P w = .ok v w ∧ VR ρ z v := by
  unfold sliceM at h
  split at h
  · rename_i n elem r ver off hu
    split at h
    · rename_i ty v esz cells l hh hb hsz hl hhh
      split at h
      · rename_i hc
        obtain ⟨hv, hlen, b0, b1, b2⟩ := hc
        subst hv
        injection h with h; subst h
        obtain ⟨a, k, ha, rfl⟩ := hx
        have hr := run_sliceBounds P (ρ := ρ) (isSlice := false) (len := n) (cap := n) hl hhh b0 b1 b2 (Nat.le_refl _) hlo hlo' hhi hhi' w
        refine ⟨.slice (some (if n = l.toNat then a.add off else (a.add off).add (l.toNat * 1))) (hh.toNat - l.toNat) (n - l.toNat), ?_, ?_⟩
        · simp only [Instr.sliceAt, Sem.run_bind, run_underlying hu, Result.andThen_ok, Instr.sureAddr, Sem.run_pure, hr, run_sizeOf P hsz]
        · refine ⟨some a, k, _, _, ha, rfl, by omega, fun hpos => ⟨a, rfl, ?_⟩, fun hz => ?_⟩
          · rw [if_neg (by omega), addr_add_add, Nat.mul_one]
          · have h1 : off = 0 := by omega
            have h2 : l.toNat = 0 := by omega
            subst h1
            obtain ⟨n', c, k', q1, q2, q3, q4⟩ := hm.blk r _ hb
            have ha' := ha
            rw [q1] at ha'; injection ha' with ha'; injection ha' with e1 e2; injection e1 with e1
            subst e1; subst e2
            have hcl := q3.length
            have hln := hlen rfl
            simp only [Array.length_toList] at hcl
            refine ⟨?_, by rw [h2, q4, ← hcl, hln]; omega⟩
            rw [h2]
            split <;> simp [Addr.add]
      · cases h
    · cases h
  · exact run_sliceA P h hx hlo hlo' hhi hhi' w
theorem sliceM_nil {t : TypeId} {x z : AV} {lo hi : Option AV} {M : AMem} (h : sliceM P t x lo hi [] = some z) : sliceM P t x lo hi M = some z := by
  unfold sliceM at h ⊢
  split
  · rename_i n elem r ver off hu
    simp only [hu] at h
    split at h
    · rename_i hb _ _ _; simp at hb
    · cases h
  · rename_i hne
    split at h
    · rename_i n elem r ver off hu; exact (hne n elem r ver off hu rfl).elim
    · exact h
def BK.isRo : BK → Bool
  | .ro => true
  | _ => false
theorem BK.isRo_no {k : BK} (h : k.isRo = false) : k ≠ .ro := by rintro rfl; cases h
/-- What a copy takes over. -/
def copyA (td : TypeId) (d x : AV) (mem : AMem) : Option (AV × AMem) :=
  match P.underlying td, d with
  | some (.slice e), .one (.sl r ver off n) => match szOf P e, mem[r]?, srcA 1 x mem with
    | some 1, some b, some (m, cs) => if b.kind.isRo = false ∧ ver = b.ver ∧ off + min m n ≤ b.cells.length ∧ cs.all CV.isVal = true ∧ 0 < min m n then
        some (.one (.int .i64 ((min m n : Nat) : Int)), mem.set r { b with cells := setL b.cells off (cs.take (min m n)) }) else none
    | _, _, _ => none
  | _, _ => none
theorem run_copyA {ρ : Env} {mem mem' : AMem} {w : World} (hm : RepM ρ mem w) {td ts ty : TypeId} {d x z : AV} {ud ux : Value} (h : copyA P td d x mem = some (z, mem')) (hd : VR ρ d ud) (hx : VR ρ x ux) :
    ∃ v w' ρ', (Builtin.copy_ #[td, ts] ty #[ud, ux]).run P w = .ok v w' ∧ VR ρ' z v ∧ RepM ρ' mem' w' ∧ Step mem ρ w mem' ρ' w' := by
  unfold copyA at h
  split at h
  · rename_i e r ver off n hu
    split at h
    · rename_i b m cs hsz hb hsrc
      split at h
      · rename_i hc
        obtain ⟨hk, hv, hfit, hval, hpos⟩ := hc
        subst hv
        injection h with h; injection h with h1 h2; subst h1; subst h2
        obtain ⟨A, c0, B, c, ha, rfl, hlen, hB, _⟩ := hd
        obtain ⟨B2, c2, vs, rfl, hmc, hvs, hvl, hBn, hcell⟩ := srcA_sound hm hsrc hx
        obtain ⟨a, rfl, rfl⟩ := hB (by omega)
        have hone := All2.one_of_isVal hvs hval
        have hcl := hvs.length
        cases B2 with
        | none => have := hBn rfl; omega
        | some a2 =>
          have hvt := hvs.take (min m n)
          have hl : (vs.take (min m n)).length = min m n := by rw [List.length_take]; omega
          obtain ⟨w', hst, g1, g2⟩ := hm.store (P := P) (off := off) hb (BK.isRo_no hk) ha hvt (by rw [hvt.length, hl]; exact hfit) (fun v hv => hone v (List.mem_of_mem_take hv))
          have hld := run_loadCells_list (P := P) w a2 (vs.take (min m n)) (fun j v hj => hcell a2 rfl j v (by
            have hjl := (List.getElem?_eq_some_iff.1 hj).1
            rw [hl] at hjl
            rwa [List.getElem?_take_of_lt hjl] at hj))
          rw [hl] at hld
          unfold szOf at hsz
          cases hq : P.info? e with
          | none => simp [hq] at hsz
          | some i =>
            have hi : i.size = 1 := by simpa [hq] using hsz
            have hmin : Nat.min m n = min m n := rfl
            exact ⟨.int .i64 ((min m n : Nat) : Int), w', ρ, by simp [Builtin.copy_, run_underlying hu, Builtin.lenOf, Builtin.firstCells, sizeOf, typeInfo, hq, hi, hmin, hld, hst, goInt], rfl, g1, g2⟩
      · cases h
    · cases h
  · cases h
theorem run_append_src {w : World} (base : Nat) (t ty e : TypeId) (i : TypeInfo) (z : Value) (ht : P.underlying t = some (.slice e)) (hi : P.info? e = some i) (hz : i.zero = some z)
    (hzs : z.cells.size = i.size) (hsz : 0 < i.size) (v : Value) (n : Nat) (xs : List Value) (hown : w.ownsRow base e i.size v n xs)
    (B : Option Addr) (m c : Nat) (vs : List Value) (hl : vs.length = m * i.size) (hB : B = none → m = 0) (hcell : ∀ a, B = some a → ∀ (j : Nat) (u : Value), vs[j]? = some u → w.cell? (a.add j) = some u) (h1 : ∀ u ∈ vs, u.oneCell' = true)
    (h63 : n + m ≤ maxLen) (hbytes : (n + m) * i.bytes ≤ 140737488355328) (hbase : base ≤ w.heap.size) :
    ∃ v' w', (Builtin.append_ #[t, t] ty #[v, .slice B m c]).run P w = .ok v' w' ∧ w'.ownsRow base e i.size v' (n + m) (xs ++ vs) ∧ w.grownBy w' v.ownBlock ∧
      (v'.ownBlock = v.ownBlock ∨ v'.ownBlock = some w.heap.size) := by
  cases B with
  | none =>
    have hm := hB rfl
    subst hm
    have hv : vs = [] := List.eq_nil_of_length_eq_zero (by simpa using hl)
    subst hv
    refine ⟨v, w, ?_, by simpa using hown, ⟨rfl, rfl, rfl, Nat.le_refl _, fun _ _ _ => rfl⟩, .inl rfl⟩
    rcases hown.2 with ⟨rfl, rfl⟩ | ⟨g, cap, cur, rfl, _, _, hnc, _⟩
    · simp [Builtin.append_, run_underlying ht, sizeOf, typeInfo, hi, Builtin.lenOf, Builtin.firstCells]
    · simp [Builtin.append_, run_underlying ht, sizeOf, typeInfo, hi, Builtin.lenOf, Builtin.firstCells, hnc, storeCells]
  | some a =>
    obtain ⟨v', w', hrun, h2, h3, _, h5⟩ := run_append_own_at (P := P) w base t ty e i z i.size i.bytes ht hi hz rfl rfl hzs hsz v n xs hown a m c vs hl (hcell a rfl) h1 h63 hbytes hbase
    exact ⟨v', w', hrun, h2, h3, h5⟩

def appendA (t : TypeId) (s x : AV) (mem : AMem) : Option (AV × AMem) :=
  match P.underlying t with
  | some (.slice e) => match szOf P e, byOf P e, zeroOf P e with
    | some size, some bytes, some z =>
      if z.cells.size = size ∧ 0 < size then
        match srcA size x mem with
        | some (m, cs) =>
          if cs.all CV.isVal = true then
            match s with
            | .one .nils => if m ≤ 140737488355328 ∧ m * bytes ≤ 140737488355328 then some (.one (.sl mem.length 0 0 m), mem ++ [⟨.grow, e, 0, size, cs⟩]) else none
            | .one (.sl r ver off n) => match mem[r]? with
              | some b => match b.kind with
                | .grow => if ver = b.ver ∧ b.ty = e ∧ b.esz = size ∧ off = 0 ∧ b.cells.length = n * size ∧ n + m ≤ 140737488355328 ∧ (n + m) * bytes ≤ 140737488355328 then
                    some (.one (.sl r (b.ver + 1) 0 (n + m)), mem.set r ⟨.grow, e, b.ver + 1, size, b.cells ++ cs⟩) else none
                | _ => none
              | none => none
            | _ => none
          else none
        | none => none
      else none
    | _, _, _ => none
  | _ => none

theorem blk_of_owns {ρ : Env} {w : World} {base : Nat} {e : TypeId} {size : Nat} {v : Value} {n : Nat} {xs : List Value} {r ver : Nat} {cells : List CV} (h : w.ownsRow base e size v n xs) (hsz : 0 < size) (hc : All2 (VC ρ) cells xs) :
    ∃ A cap, v = .slice A n cap ∧ n ≤ cap ∧ (A = none → cap = 0 ∧ n = 0) ∧ (∀ x, A = some x → v.ownBlock = some x.block) ∧ ∀ ρ' : Env, (∀ c u, VC ρ c u → VC ρ' c u) → ρ' r ver = some (A, cap) → BlkR ρ' w r ⟨.grow, e, ver, size, cells⟩ := by
  rcases h.2 with ⟨rfl, rfl⟩ | ⟨g, cap, cur, rfl, hbg, hg, hnc, hcm, hcs, htake⟩
  · have hx : xs = [] := List.eq_nil_of_length_eq_zero (by simpa using h.1)
    subst hx
    have hcc : cells = [] := by cases cells with | nil => rfl | cons a b => exact hc.elim
    subst hcc
    exact ⟨none, 0, rfl, Nat.le_refl _, (fun _ => ⟨rfl, rfl⟩), (fun x e => by cases e), fun ρ' _ hr => .inl ⟨rfl, hr⟩⟩
  · refine ⟨some ⟨g, 0, none⟩, cap, rfl, hnc, (fun e => by cases e), (fun x e => by injection e with e; subst e; rfl), fun ρ' hle hr => .inr ⟨g, cur, cap, xs, cur.toList.drop (n * size), hr, by show _ = some (Obj.cells cur e (fzOf size cur.size)); rw [fzOf_pos (by omega)]; exact hg, by show _ = cap * unitOf size; rw [unitOf_pos (by omega)]; exact hcs, hcm, ?_, hc.mono hle⟩⟩
    rw [← htake]
    exact (List.take_append_drop _ _).symm

theorem run_appendA {ρ : Env} {mem mem' : AMem} {w : World} (hm : RepM ρ mem w) {t ty : TypeId} {s x z : AV} {us ux : Value} (h : appendA P t s x mem = some (z, mem')) (hs : VR ρ s us) (hx : VR ρ x ux) :
    ∃ v w' ρ', (Builtin.append_ #[t, t] ty #[us, ux]).run P w = .ok v w' ∧ VR ρ' z v ∧ RepM ρ' mem' w' ∧ Step mem ρ w mem' ρ' w' := by
  unfold appendA at h
  split at h
  · rename_i e hu
    split at h
    · rename_i size bytes z0 hsz hby hz
      unfold szOf at hsz; unfold byOf at hby; unfold zeroOf at hz
      simp only [Option.map_eq_some_iff, Option.bind_eq_some_iff] at hsz hby hz
      obtain ⟨i, hi, rfl⟩ := hsz
      obtain ⟨i', hi', rfl⟩ := hby
      obtain ⟨i'', hi'', hz⟩ := hz
      rw [hi] at hi' hi''
      injection hi' with e'; injection hi'' with e''
      subst e'; subst e''
      split at h
      · rename_i hzc
        split at h
        · rename_i m cs hsrc
          split at h
          · rename_i hall
            obtain ⟨B, c, vs, rfl, hmc, hvs, hvl, hB, hcell⟩ := srcA_sound hm hsrc hx
            have hone := All2.one_of_isVal hvs hall
            split at h
            · split at h
              · rename_i hb
                injection h with h
                injection h with h1 h2
                subst h1; subst h2
                have e : us = _ := hs
                subst e
                obtain ⟨v', w', hrun, hown, hgr, hblk⟩ := run_append_src P (w := w) 0 t ty e i z0 hu hi hz hzc.1 hzc.2 (.slice none 0 0) 0 [] (World.ownsRow_nil w 0 e i.size) B m c vs hvl hB hcell hone
                  (by simp only [maxLen]; omega) (by simpa using hb.2) (Nat.zero_le _)
                simp only [Nat.zero_add, List.nil_append] at hown
                obtain ⟨A, cap, rfl, hmcap, hA, hAb, hbr⟩ := blk_of_owns (r := mem.length) (ver := 0) hown hzc.2 hvs
                have hle : ρ.le (ρ.set mem.length 0 (A, cap)) := Env.le_set (hm.dom _ _ (Nat.le_refl _))
                have hAge : ∀ x, A = some x → w.heap.size ≤ x.block := by
                  intro x hx
                  have := hAb x hx
                  rcases hblk with h | h
                  · rw [this] at h; simp [Value.ownBlock] at h
                  · rw [this] at h; injection h with h; omega
                obtain ⟨g1, g2⟩ := hm.new' (w' := w') hgr.os hgr.tape hgr.output hgr.size (fun k hk => hgr.block k hk (by simp [Value.ownBlock])) ⟨.grow, e, 0, i.size, cs⟩ A cap hAge (by simp) (hbr _ (fun _ _ => VC.mono hle) (Env.set_same _ _ _ _))
                refine ⟨_, _, _, hrun, ⟨A, cap, A, cap, Env.set_same _ _ _ _, rfl, hmcap, fun hpos => ?_, fun _ => ⟨rfl, rfl⟩⟩, g1, g2⟩
                cases A with
                | none => have := (hA rfl).2; omega
                | some a => exact ⟨a, rfl, by simp [Addr.add]⟩
              · cases h
            · rename_i r ver off n
              split at h
              · rename_i b hb
                split at h
                · rename_i hk
                  split at h
                  · rename_i hc
                    obtain ⟨c1, c2, c3, c4, c5, c6, c7⟩ := hc
                    subst c1; subst c4
                    injection h with h
                    injection h with h1 h2
                    subst h1; subst h2
                    obtain ⟨A0, k0, B0, c0', ha, rfl, hlen0, hB0, h00⟩ := hs
                    obtain ⟨rfl, rfl⟩ := h00 rfl
                    have hbk := hm.blk r b hb
                    unfold BlkR at hbk
                    rw [hk] at hbk
                    simp only at hbk
                    obtain ⟨xs, hxs, hown⟩ : ∃ xs, All2 (VC ρ) b.cells xs ∧ w.ownsRow 0 e i.size (.slice B0 n c0') n xs := by
                      rcases hbk with ⟨q1, q2⟩ | ⟨g, cc, cap, xs, sp, q1, q2, q3, q4, q5, q6⟩
                      · rw [q2] at ha; injection ha with ha; injection ha with ha1 ha2
                        subst ha1; subst ha2
                        have hn0 : n = 0 := by
                          rw [q1] at c5
                          rcases Nat.mul_eq_zero.1 c5.symm with h | h
                          · exact h
                          · omega
                        subst hn0
                        exact ⟨[], by rw [q1]; trivial, World.ownsRow_nil w 0 e i.size⟩
                      · rw [q1] at ha; injection ha with ha; injection ha with ha1 ha2
                        subst ha1; subst ha2
                        have hxl : xs.length = n * i.size := by rw [← q6.length, c5]
                        refine ⟨xs, q6, hxl, .inr ⟨g, cap, cc, rfl, Nat.zero_le _, by rw [← c2]; rw [fzOf_pos (by omega)] at q2; exact q2, hlen0, q4, by rw [← c3]; rw [unitOf_pos (by omega)] at q3; exact q3, ?_⟩⟩
                        rw [q5, ← hxl, List.take_left]
                    obtain ⟨v', w', hrun, hown', hgr, hblk⟩ := run_append_src P (w := w) 0 t ty e i z0 hu hi hz hzc.1 hzc.2 (.slice B0 n c0') n xs hown B m c vs hvl hB hcell hone (by simp only [maxLen]; omega) c7 (Nat.zero_le _)
                    obtain ⟨A, cap, rfl, hmcap, hA, hAb, hbr⟩ := blk_of_owns (r := r) (ver := b.ver + 1) hown' hzc.2 (hxs.append hvs)
                    have hle : ρ.le (ρ.set r (b.ver + 1) (A, cap)) := Env.le_set (hm.domv r b _ hb (by omega))
                    have hAge : ∀ x, A = some x → w.heap.size ≤ x.block ∨ ∃ y l, ρ r b.ver = some (some y, l) ∧ y.block = x.block := by
                      intro x hx
                      have h1 := hAb x hx
                      rcases hblk with h | h
                      · rw [h1] at h
                        cases B0 with
                        | none => simp [Value.ownBlock] at h
                        | some y => simp [Value.ownBlock] at h; exact .inr ⟨y, _, ha, h.symm⟩
                      · rw [h1] at h; injection h with h; exact .inl (by omega)
                    obtain ⟨g1, g2⟩ := hm.regrow (w' := w') hgr.os hgr.tape hgr.output hgr.size hb hk (fun k hk1 hne => hgr.block k hk1 (fun e => by
                        cases B0 with
                        | none => simp [Value.ownBlock] at e
                        | some y => simp [Value.ownBlock] at e; exact hne y _ ha e.symm)) ⟨.grow, e, b.ver + 1, i.size, b.cells ++ cs⟩ rfl rfl A cap hAge (hbr _ (fun _ _ => VC.mono hle) (Env.set_same _ _ _ _))
                    refine ⟨_, _, _, hrun, ⟨A, cap, A, cap, Env.set_same _ _ _ _, rfl, hmcap, fun hpos => ?_, fun _ => ⟨rfl, rfl⟩⟩, g1, g2⟩
                    cases A with
                    | none => have := (hA rfl).2; omega
                    | some a => exact ⟨a, rfl, by simp [Addr.add]⟩
                  · cases h
                · cases h
              · cases h
            · cases h
          · cases h
        · cases h
      · cases h
    · cases h
  · cases h

/-- Bytes that are bytes. -/
def byteOk (ns : List Int) : Bool := ns.all fun x => decide (0 ≤ x ∧ x ≤ 255)
theorem strB_eq (ns : List Int) : strB ns = ⟨(ns.map fun n => UInt8.ofNat n.toNat).toArray⟩ := by
  have h : ∀ (ns : List Int) (r : ByteArray), ns.foldl (fun r n => r.push (UInt8.ofNat n.toNat)) r = ⟨r.data ++ (ns.map fun n => UInt8.ofNat n.toNat).toArray⟩ := by
    intro ns
    induction ns with
    | nil => intro r; simp
    | cons n ns ih => intro r; rw [List.foldl_cons, ih]; congr 1; simp [ByteArray.push]
  unfold strB; rw [h]
  have : ByteArray.empty.data = #[] := rfl
  rw [this, Array.empty_append]
def usdA (x : AV) : Option AV :=
  match x with
  | .one .nils => some (.one .nilp)
  | .one (.sl r ver off n) => if 0 < n then some (.one (.ptr r ver off)) else none
  | _ => none
theorem run_usdA {ρ : Env} {t ty : TypeId} {x z : AV} {u : Value} (h : usdA x = some z) (hx : VR ρ x u) (w : World) : ∃ v, (Builtin.unsafeSliceData_ #[t] ty #[u]).run P w = .ok v w ∧ VR ρ z v := by
  unfold usdA at h
  split at h
  · injection h with h; subst h
    have e : u = _ := hx
    subst e
    exact ⟨_, Lib.run_unsafeSliceData_nil w _ _ _ _, rfl⟩
  · rename_i r ver off n
    split at h
    · rename_i hn
      injection h with h; subst h
      obtain ⟨A, c0, B, c, h1, rfl, hc, h2, _⟩ := hx
      obtain ⟨a, rfl, rfl⟩ := h2 hn
      exact ⟨_, Lib.run_unsafeSliceData_row w _ _ _ _ _ (by omega), a, c0, h1, rfl⟩
    · cases h
  · cases h
def usA (t : TypeId) (x n : AV) (mem : AMem) : Option (AV × AMem) :=
  match x, n with
  | .one .nilp, .one (.int .i64 n) => if n = 0 then some (.one (.str ByteArray.empty), mem) else none
  | .one (.ptr r ver off), .one (.int .i64 n) => match mem[r]? with
    | some b => match b.kind with
      | .grow => match bytesA b.cells, P.underlying t with
        | some ns, some (.pointer e) => if e = b.ty ∧ P.cellsOf b.ty = 1 ∧ ver = b.ver ∧ off = 0 ∧ b.esz = 1 ∧ ((ns.length : Nat) : Int) = n ∧ 0 < n ∧ byteOk ns = true then
            some (.one (.str (strB ns)), mem.set r ⟨.grow, b.ty, b.ver + 1, 1, []⟩) else none
        | _, _ => none
      | _ => none
    | none => none
  | _, _ => none
theorem run_usA {ρ : Env} {mem mem' : AMem} {w : World} (hm : RepM ρ mem w) {t t2 ty : TypeId} {x n z : AV} {ux un : Value} (h : usA P t x n mem = some (z, mem')) (hx : VR ρ x ux) (hn : VR ρ n un) :
    ∃ v w' ρ', (Builtin.unsafeString_ #[t, t2] ty #[ux, un]).run P w = .ok v w' ∧ VR ρ' z v ∧ RepM ρ' mem' w' ∧ Step mem ρ w mem' ρ' w' := by
  unfold usA at h
  split at h
  · rename_i n
    have e1 : ux = _ := hx
    have e2 : un = _ := hn
    subst e1; subst e2
    split at h
    · rename_i h0; subst h0
      injection h with h; injection h with h1 h2; subst h1; subst h2
      exact ⟨_, w, ρ, Lib.run_unsafeString_none w _ _ _ _, rfl, hm, Step.refl _ _ _⟩
    · cases h
  · rename_i r ver off n
    have e2 : un = _ := hn
    subst e2
    split at h
    · rename_i b hb
      split at h
      · rename_i hk
        split at h
        · rename_i ns e hns hp
          split at h
          · rename_i hc
            obtain ⟨rfl, hcell, rfl, rfl, hez, hlen, hpos, hok⟩ := hc
            injection h with h; injection h with h1 h2; subst h1; subst h2
            obtain ⟨a, kk, ha, rfl⟩ := hx
            have hbk := hm.blk r b hb
            unfold BlkR at hbk
            rw [hk] at hbk
            simp only at hbk
            rcases hbk with ⟨q1, q2⟩ | ⟨g, cc, cap, xs, sp, q1, q2, q3, q4, q5, q6⟩
            · rw [q2] at ha; injection ha with ha; injection ha with ha1 ha2; cases ha1
            · rw [q1] at ha; injection ha with ha; injection ha with ha1 ha2
              injection ha1 with ha1
              subst ha1
              rw [fzOf_pos (by omega)] at q2
              rw [unitOf_pos (by omega)] at q3
              have hxs := bytesA_sound hns q6
              have hg : g < w.heap.size := by
                rcases Nat.lt_or_ge g w.heap.size with h | h
                · exact h
                · rw [Array.getElem?_eq_none h] at q2; cases q2
              have hbyte : ∀ x, x ∈ ns → 0 ≤ x ∧ x ≤ 255 := fun x hx => by
                have := List.all_eq_true.1 hok x hx; simpa using this
              have hxl : xs.length = ns.length := by rw [hxs]; simp
              have hcs' : xs.length ≤ cc.size := by
                rw [← Array.length_toList, q5]; simp
              have hcap : xs.length ≤ cap := by rw [q3, hez] at hcs'; omega
              generalize hl : (ns.map fun n => UInt8.ofNat n.toNat) = l
              have hll : l.length = ns.length := by rw [← hl]; simp
              have hcl : ∀ j x, l[j]? = some x → w.cell? ((⟨g, 0, none⟩ : Addr).add j) = some (.int .u8 x.toNat) := fun j x hj => by
                rw [← hl, List.getElem?_map, Option.map_eq_some_iff] at hj
                obtain ⟨y, hy, rfl⟩ := hj
                have hx1 : xs[j]? = some (.int .u8 y) := by rw [hxs, List.getElem?_map, hy]; rfl
                have hx2 : cc[j]? = some (.int .u8 y) := by
                  rw [← Array.getElem?_toList, q5, List.getElem?_append_left (List.getElem?_eq_some_iff.1 hx1).1]; exact hx1
                have hb2 := hbyte y (List.mem_of_getElem? hy)
                have hy2 : (((UInt8.ofNat y.toNat).toNat : Nat) : Int) = y := by
                  rw [UInt8.toNat_ofNat']; omega
                rw [hy2]
                have : w.cell? ((⟨g, 0, none⟩ : Addr).add j) = cc[j]? := by
                  have hadd : ((⟨g, 0, none⟩ : Addr).add j) = ⟨g, j, none⟩ := by
                    unfold Addr.add; split
                    · rename_i h; rw [h]
                    · simp
                  rw [hadd]; simp [World.cell?, q2]
                rw [this]; exact hx2
              have hne : l ≠ [] := fun e => by
                rw [e] at hll; simp at hll; omega
              have hrun := Lib.run_unsafeString_row (P := P) w t t2 ty b.ty hp hcell g cc.size (by simp [World.shape?, q2]) l hne (by omega) (by unfold maxLen at q4; omega) hcl
              have hn1 : n = (l.length : Int) := by rw [hll]; exact hlen.symm
              have hadd : (⟨g, 0, none⟩ : Addr).add 0 = ⟨g, 0, none⟩ := by simp [Addr.add]
              rw [hn1, hadd]
              have hs : strB ns = ⟨l.toArray⟩ := by rw [strB_eq, hl]
              have hfr : ∀ k, k ≠ g → (w.freeze ⟨g, 0, none⟩ l.length).heap[k]? = w.heap[k]? := fun k hk1 => by
                unfold World.freeze
                split
                · rfl
                · simp only [Array.getElem?_modify]; rw [if_neg (fun e => hk1 e.symm)]
              obtain ⟨g1, g2⟩ := hm.regrow (w' := w.freeze ⟨g, 0, none⟩ l.length) (by unfold World.freeze; split <;> rfl) (by unfold World.freeze; split <;> rfl) (by unfold World.freeze; split <;> rfl) (by unfold World.freeze; split <;> simp)
                hb hk (fun k hk1 hne => hfr k fun e => hne _ _ q1 e.symm) ⟨.grow, b.ty, b.ver + 1, 1, []⟩ rfl rfl none 0 (fun x hx => by cases hx) (.inl ⟨rfl, Env.set_same _ _ _ _⟩)
              exact ⟨_, _, _, hrun, hs ▸ rfl, g1, g2⟩
          · cases h
        · cases h
      · cases h
    · cases h
  · cases h

/-- A text's bytes, as cells. -/
def strC (s : ByteArray) : List CV := s.data.toList.map fun b => .int .u8 b.toNat
/-- Conversions that make, or mark, a row. -/
def convS (src dst : TypeId) (x : AV) (mem : AMem) : Option (AV × AMem) :=
  match P.underlying src, P.underlying dst with
  | some (.slice _), some (.slice e) => match P.underlying e, x with
    | some (.int .u8), .one (.sl r ver off n) => match mem[r]? with
      | some b => match b.kind with
        | .grow => if src = dst ∧ ver = b.ver ∧ b.esz = 1 ∧ 0 < n then some (x, mem.set r ⟨.grow, b.ty, b.ver, 0, b.cells⟩) else none
        | _ => none
      | none => none
    | _, _ => none
  | some .string, some (.slice e) => match P.underlying e, x with
    | some (.int .u8), .one (.str s) => if s.size ≤ 140737488355328 then some (.one (.sl mem.length 0 0 s.size), mem ++ [⟨.grow, e, 0, 0, strC s⟩]) else none
    | _, _ => none
  | _, _ => (convM P src dst x mem).map fun z => (z, mem)
theorem strC_sound {ρ : Env} : ∀ l : List UInt8, All2 (VC ρ) (l.map fun b => CV.int .u8 b.toNat) (l.map fun b => Value.int .u8 b.toNat)
  | [] => trivial
  | _ :: l => ⟨rfl, strC_sound l⟩
theorem run_convS {ρ : Env} {mem mem' : AMem} {w : World} (hm : RepM ρ mem w) {src dst : TypeId} {x z : AV} {u : Value} (h : convS P src dst x mem = some (z, mem')) (hx : VR ρ x u) :
    ∃ v w' ρ', (convert src dst u).run P w = .ok v w' ∧ VR ρ' z v ∧ RepM ρ' mem' w' ∧ Step mem ρ w mem' ρ' w' := by
  unfold convS at h
  split at h
  · rename_i e0 e hs hd
    split at h
    · rename_i r ver off n he
      split at h
      · rename_i b hb
        split at h
        · rename_i hk
          split at h
          · rename_i hc
            obtain ⟨rfl, rfl, hez, hpos⟩ := hc
            injection h with h; injection h with h1 h2; subst h1; subst h2
            obtain ⟨A, c0, B, c, h1, rfl, hnc, hB, h00⟩ := id hx
            obtain ⟨a, rfl, rfl⟩ := hB hpos
            have hbk := hm.blk r b hb
            unfold BlkR at hbk
            rw [hk] at hbk
            simp only at hbk
            rcases hbk with ⟨q1, q2⟩ | ⟨g, cc, cap, xs, sp, q1, q2, q3, q4, q5, q6⟩
            · rw [q2] at h1; injection h1 with h1; injection h1 with h1 _; cases h1
            · rw [q1] at h1; injection h1 with h1; injection h1 with h1 h2
              injection h1 with h1; subst h1
              rw [fzOf_pos (by omega)] at q2
              rw [unitOf_pos (by omega), hez, Nat.mul_one] at q3
              have hadd : ((⟨g, 0, none⟩ : Addr).add off) = ⟨g, off, none⟩ := by
                unfold Addr.add; split
                · rename_i h; rw [h]
                · simp
              rw [hadd] at hx ⊢
              have hrl : r < mem.length := (List.getElem?_eq_some_iff.1 hb).1
              have hsh : w.shape? g = some (b.ty, cc.size) := by simp [World.shape?, q2]
              have hun : e0 = e := by rw [hs] at hd; injection hd with hd; injection hd
              subst hun
              generalize hw' : w.freeze ⟨g, cc.size, none⟩ 1 = w'
              have hrun : (convert src src (.slice (some ⟨g, off, none⟩) n c)).run P w = .ok (.slice (some ⟨g, off, none⟩) n c) w' := by
                rw [← hw']
                simp [convert, run_underlying hs, run_underlying he, markStringish, hsh]
              have hg' : w'.heap[g]? = some (.cells cc b.ty (cc.size, cc.size + 1)) := by
                rw [← hw']
                unfold World.freeze
                rw [if_neg (by decide)]
                simp [Array.getElem?_modify, q2]
              have hfr : ∀ k, k ≠ g → w'.heap[k]? = w.heap[k]? := fun k hk1 => by
                rw [← hw']
                unfold World.freeze
                rw [if_neg (by decide)]
                simp only [Array.getElem?_modify]; rw [if_neg (fun e => hk1 e.symm)]
              have hsz : w'.heap.size = w.heap.size := by
                rw [← hw']
                unfold World.freeze
                rw [if_neg (by decide)]; simp
              have hrest : w'.os = w.os ∧ w'.tape = w.tape ∧ w'.output = w.output := by
                rw [← hw']
                unfold World.freeze
                rw [if_neg (by decide)]; exact ⟨rfl, rfl, rfl⟩
              have hgt : ∀ {s : Nat} {d : Blk}, (mem.set r ⟨.grow, b.ty, b.ver, 0, b.cells⟩)[s]? = some d → (s ≠ r ∧ mem[s]? = some d) ∨ (s = r ∧ d = ⟨.grow, b.ty, b.ver, 0, b.cells⟩) := by
                intro s d hd
                by_cases hs : s = r
                · subst hs; rw [List.getElem?_set_self hrl] at hd; injection hd with hd; exact .inr ⟨rfl, hd.symm⟩
                · rw [List.getElem?_set_ne (fun e => hs e.symm)] at hd; exact .inl ⟨hs, hd⟩
              have hkr : b.kind ≠ .ro := by rw [hk]; intro e; cases e
              refine ⟨_, w', ρ, hrun, hx, ⟨fun s d hd => ?_, fun s v hs => hm.dom s v (by simpa using hs), fun s d v hd hv => ?_, fun s t d e2 hd he2 hne hkd hke x y i k hxx hyy => ?_⟩,
                ⟨hrest.1, hrest.2.1, hrest.2.2, by omega, by simp, fun _ _ _ _ h => h, fun s d d' h1 h2 => ?_, fun s d h1 h2 => ?_, fun n1 hn1 hne1 => ?_, fun s d x k h1 h2 h3 => ?_⟩⟩
              · rcases hgt hd with ⟨hs1, h1⟩ | ⟨e1, e2⟩
                · refine (hm.blk s d h1).heap (by omega) fun x l hx hne _ => hfr _ ?_
                  exact fun e => hm.sep r s b d hb h1 (fun e => hs1 e.symm) hkr hne _ _ _ _ q1 hx e.symm
                · subst e1; subst e2
                  refine .inr ⟨g, cc, cap, xs, sp, q1, hg', ?_, q4, q5, q6⟩
                  show cc.size = cap * unitOf 0
                  rw [show unitOf 0 = 1 from rfl, Nat.mul_one]; exact q3
              · rcases hgt hd with ⟨_, h1⟩ | ⟨e1, e2⟩
                · exact hm.domv s d v h1 hv
                · subst e1; subst e2; exact hm.domv s b v hb hv
              · rcases hgt hd with ⟨_, h1⟩ | ⟨e1, e2⟩ <;> rcases hgt he2 with ⟨_, h3⟩ | ⟨e3, e4⟩
                · exact hm.sep s t d e2 h1 h3 hne hkd hke x y i k hxx hyy
                · subst e3; subst e4; exact hm.sep s t d b h1 hb hne hkd (fun e => absurd e hkr) x y i k hxx hyy
                · subst e1; subst e2; exact hm.sep s t b _ hb h3 hne hkr hke x y i k hxx hyy
                · exact absurd (e1.trans e3.symm) hne
              · rcases hgt h2 with ⟨_, h3⟩ | ⟨e1, e2⟩
                · rw [h1] at h3; injection h3 with h3; rw [h3]
                · subst e1; subst e2; rw [hb] at h1; injection h1 with h1; rw [← h1, hk]
              · rcases hgt h1 with ⟨_, h3⟩ | ⟨e1, e2⟩
                · exact h3
                · subst e2; cases h2
              · exact hfr n1 (fun e => hne1 r b _ _ hb hkr q1 (by rw [e]))
              · rcases hgt h1 with ⟨_, h4⟩ | ⟨e1, e2⟩
                · exact .inr ⟨s, d, x, k, h4, h2, h3, rfl⟩
                · subst e1; subst e2; exact .inr ⟨s, b, x, k, hb, hkr, h3, rfl⟩
          · cases h
        · cases h
      · cases h
    · cases h
  · rename_i e hs hd
    split at h
    · rename_i s he
      split at h
      · rename_i hsz
        injection h with h; injection h with h1 h2; subst h1; subst h2
        have e1 : u = _ := hx
        subst e1
        have hrun := Lib.run_convert_string_bytes (P := P) w src dst e s hs hd he
        have hcm := grownCap_le_maxLen w s.size 0 e (by unfold maxLen; omega)
        have hcg := grownCap_ge w s.size 0 e
        have hcs : (Lib.bytesCells w e s).size = grownCap w s.size 0 e := by
          simp only [Lib.bytesCells, Array.size_append, Array.size_map, Array.size_replicate]
          have : s.data.size = s.size := rfl
          omega
        obtain ⟨g1, g2⟩ := hm.new' (w' := Lib.bytesWorld w e s) (by unfold Lib.bytesWorld World.freeze; rfl) (by unfold Lib.bytesWorld World.freeze; rfl) (by unfold Lib.bytesWorld World.freeze; rfl)
          (by rw [Lib.bytesWorld_size]; omega) (fun k hk => Lib.bytesWorld_at_old w e s k hk) ⟨.grow, e, 0, 0, strC s⟩ (some ⟨w.heap.size, 0, none⟩) (grownCap w s.size 0 e) (fun x hx => by injection hx with hx; rw [← hx]; exact Nat.le_refl _) (by simp)
          (.inr ⟨w.heap.size, Lib.bytesCells w e s, grownCap w s.size 0 e, s.data.toList.map fun b => Value.int .u8 b.toNat, _, Env.set_same _ _ _ _, Lib.bytesWorld_at_new w e s, by show _ = _ * unitOf 0; rw [show unitOf 0 = 1 from rfl, Nat.mul_one]; exact hcs, hcm, by simp only [Lib.bytesCells, Array.toList_append, Array.toList_map]; rfl, strC_sound _⟩)
        refine ⟨_, _, _, hrun, ⟨_, _, _, _, Env.set_same _ _ _ _, rfl, hcg, fun _ => ⟨_, rfl, by simp [Addr.add]⟩, fun _ => ⟨rfl, rfl⟩⟩, g1, g2⟩
      · cases h
    · cases h
  · simp only [Option.map_eq_some_iff] at h
    obtain ⟨q, hq, h⟩ := h
    injection h with h1 h2; subst h1; subst h2
    obtain ⟨v, h1, h2⟩ := run_convM P hm hq hx
    exact ⟨v, w, ρ, h1, h2, hm, Step.refl _ _ _⟩
theorem convS_nil {src dst : TypeId} {x z : AV} {M : AMem} (h : convS P src dst x [] = some (z, [])) : convS P src dst x M = some (z, M) := by
  unfold convS at h ⊢
  split
  · rename_i e0 e hs hd
    simp only [hs, hd] at h
    split at h
    · simp at h
    · cases h
  · rename_i e hs hd
    simp only [hs, hd] at h
    split at h
    · split at h
      · injection h with h; injection h with _ h; simp at h
      · cases h
    · cases h
  · rename_i h1 h2
    split at h
    · rename_i e0 e hs hd; exact (h1 e0 e hs hd).elim
    · rename_i e hs hd; exact (h2 e hs hd).elim
    · simp only [Option.map_eq_some_iff, Prod.mk.injEq] at h ⊢
      obtain ⟨a, h3, h4⟩ := h
      exact ⟨a, convM_nil P h3, h4.1, trivial⟩

end
end Go.Eng
