/-
  ENGINE, PART F: operations that make or turn memory: new variables, literals of slices, make, append, copy.
-/
import Derived.Test.YtgbehbaecdepjaaEngE
set_option linter.unusedVariables false
set_option linter.unusedSimpArgs false
namespace Go.Eng
open Go

section
variable (P : Program)

def allocA (t : TypeId) (mem : AMem) : Option (AV × AMem) :=
  match zeroOf P t with
  | some z => some (.one (.ptr mem.length 0 0), mem ++ [⟨.fix, t, 0, 0, z.cells.toList.map cellOf⟩])
  | none => none

theorem run_allocA {ρ : Env} {mem mem' : AMem} {w : World} (hm : RepM ρ mem w) {t : TypeId} {z : AV} (h : allocA P t mem = some (z, mem')) :
    ∃ v w' ρ', (Instr.alloc t true (.tuple #[])).run P w = .ok v w' ∧ VR ρ' z v ∧ RepM ρ' mem' w' ∧ Step mem ρ w mem' ρ' w' := by
  unfold allocA at h
  split at h
  · rename_i z0 hz
    injection h with h
    injection h with h1 h2
    subst h1; subst h2
    obtain ⟨g1, g2, g3⟩ := hm.newFix t 0 (z0.cells.toList.map cellOf) z0.cells (All2_cellOf ρ _)
    refine ⟨_, _, _, ?_, g3, g1, g2⟩
    simp only [Instr.alloc, Sem.run_bind, run_zeroValue P hz, Result.andThen_ok, newVar, newRow, run_newObj, Sem.run_pure]
    rfl
  · cases h

def boxA (t : TypeId) (x : AV) (mem : AMem) : Option (AV × AMem) :=
  match x.cells with
  | some cs => some (.one (.ptr mem.length 0 0), mem ++ [⟨.fix, t, 0, 0, cs⟩])
  | none => none

theorem run_boxA {ρ : Env} {mem mem' : AMem} {w : World} (hm : RepM ρ mem w) {t : TypeId} {x z : AV} {u : Value} (h : boxA t x mem = some (z, mem')) (hx : VR ρ x u) :
    ∃ v w' ρ', (Instr.box t u).run P w = .ok v w' ∧ VR ρ' z v ∧ RepM ρ' mem' w' ∧ Step mem ρ w mem' ρ' w' := by
  unfold boxA at h
  split at h
  · rename_i cs hcs
    injection h with h
    injection h with h1 h2
    subst h1; subst h2
    obtain ⟨g1, g2, g3⟩ := hm.newFix t 0 cs u.cells (hx.cells hcs)
    refine ⟨_, _, _, ?_, g3, g1, g2⟩
    simp only [Instr.box, Sem.run_bind, newVar, newRow, run_newObj, Result.andThen_ok, Sem.run_pure]
    rfl
  · cases h

/-- So many cells, the zero value's over and over. -/
def zeros (z : Value) (n : Nat) : List CV := (List.range n).map fun i => cellOf (z.cells[i % z.cells.size]!)

def buildSliceA (t : TypeId) (len : Nat) (parts : List (Nat × AV)) (mem : AMem) : Option (AV × AMem) :=
  match P.underlying t with
  | some (.slice e) => match szOf P e, zeroOf P e with
    | some size, some z =>
      if len * size ≤ 16777216 ∧ len ≤ 16777216 then
        match afill (fun i => some (i * size, size)) (zeros z (len * size)) parts with
        | some cs => some (.one (.sl mem.length 0 0 len), mem ++ [⟨.grow, e, 0, size, cs⟩])
        | none => none
      else none
    | _, _ => none
  | _ => none

theorem afill_length {place : Nat → Option (Nat × Nat)} : ∀ {parts : List (Nat × AV)} {cells out : List CV}, afill place cells parts = some out → out.length = cells.length
  | [], cells, out, h => by simp [afill] at h; rw [h]
  | (i, x) :: rest, cells, out, h => by
    simp only [afill] at h
    split at h
    · split at h
      · split at h
        · rw [afill_length h, setL_length]
        · cases h
      · cases h
    · cases h

theorem All2_zeros (ρ : Env) (z : Value) (n : Nat) : All2 (VC ρ) (zeros z n) ((Array.range n).map (z.cells[· % z.cells.size]!)).toList := by
  simp only [zeros, Array.toList_map, Array.toList_range]
  induction (List.range n) with
  | nil => trivial
  | cons i l ih => exact ⟨VC_cellOf ρ _, ih⟩

theorem run_buildSliceA {ρ : Env} {mem mem' : AMem} {w : World} (hm : RepM ρ mem w) {t : TypeId} {len : Nat} {parts : List (Nat × AV)} {vparts : List (Nat × Value)} {z : AV}
    (h : buildSliceA P t len parts mem = some (z, mem')) (hp : All2 (fun (p : Nat × AV) (q : Nat × Value) => p.1 = q.1 ∧ VR ρ p.2 q.2) parts vparts) :
    ∃ v w' ρ', (Instr.buildSlice t len vparts.toArray).run P w = .ok v w' ∧ VR ρ' z v ∧ RepM ρ' mem' w' ∧ Step mem ρ w mem' ρ' w' := by
  unfold buildSliceA at h
  split at h
  · rename_i e hu
    split at h
    · rename_i size z0 hs hz
      split at h
      · rename_i hb
        split at h
        · rename_i cs hcs
          injection h with h
          injection h with h1 h2
          subst h1; subst h2
          have hzs := All2_zeros ρ z0 (len * size)
          obtain ⟨vout, hf, hall⟩ := fill_sound hp hzs hcs
          have hl := hall.length
          have hl2 := afill_length hcs
          simp [zeros] at hl2
          have hsz : vout.size = len * size := by rw [← hl2, hl, Array.length_toList]
          obtain ⟨g1, g2, g3⟩ := hm.newRow e size cs vout vout.toList [] len len hsz (by simp) hall (Nat.le_refl _) (by simp only [maxLen]; omega)
          refine ⟨_, _, _, ?_, g3, g1, g2⟩
          have hn : ¬ (len * size > 2 ^ 24) := by omega
          simp only [Instr.buildSlice, Sem.run_bind, run_underlying hu, run_sizeOf P hs, Result.andThen_ok, if_neg hn, Sem.run_ite, Sem.run_pure, List.toList_toArray]
          by_cases h0 : len * size = 0
          · rw [if_pos h0]
            have e0 : (Array.range (len * size)).map ((#[] : Array Value)[· % (#[] : Array Value).size]!) = (Array.range (len * size)).map (z0.cells[· % z0.cells.size]!) := by rw [h0, Array.range_zero']; simp
            rw [e0, hf]
            rfl
          · rw [if_neg h0]
            simp only [run_zeroValue P hz, Result.andThen_ok, hf]
            rfl
        · cases h
      · cases h
    · cases h
  · cases h

def makeA (t : TypeId) (l c : AV) (mem : AMem) : Option (AV × AMem) :=
  match P.underlying t with
  | some (.slice e) => match szOf P e, byOf P e, zeroOf P e, l, c with
    | some size, some bytes, some z, .one (.int _ l), .one (.int _ c) =>
      if 0 ≤ l ∧ l ≤ c ∧ (bytes : Int) * c ≤ 281474976710656 ∧ c ≤ 281474976710656 then some (.one (.sl mem.length 0 0 l.toNat), mem ++ [⟨.grow, e, 0, size, zeros z (l.toNat * size)⟩])
      else none
    | _, _, _, _, _ => none
  | _ => none

theorem take_zeros (z : Value) (m n : Nat) (h : m ≤ n) : ((Array.range n).map (z.cells[· % z.cells.size]!)).toList = ((Array.range m).map (z.cells[· % z.cells.size]!)).toList ++ (((Array.range n).map (z.cells[· % z.cells.size]!)).toList.drop m) := by
  conv => lhs; rw [← List.take_append_drop m ((Array.range n).map (z.cells[· % z.cells.size]!)).toList]
  congr 1
  simp only [Array.toList_map, Array.toList_range, ← List.map_take, List.take_range]
  rw [Nat.min_eq_left h]

theorem run_makeA {ρ : Env} {mem mem' : AMem} {w : World} (hm : RepM ρ mem w) {t : TypeId} {l c z : AV} {ul uc : Value} (h : makeA P t l c mem = some (z, mem')) (hl : VR ρ l ul) (hc : VR ρ c uc) :
    ∃ v w' ρ', (Instr.makeSlice t ul uc).run P w = .ok v w' ∧ VR ρ' z v ∧ RepM ρ' mem' w' ∧ Step mem ρ w mem' ρ' w' := by
  unfold makeA at h
  split at h
  · rename_i e hu
    split at h
    · rename_i size bytes z0 kl l kc c hs hby hz
      split at h
      · rename_i hb
        obtain ⟨b0, b1, b2, b3⟩ := hb
        injection h with h
        injection h with h1 h2
        subst h1; subst h2
        have e1 : ul = _ := hl
        have e2 : uc = _ := hc
        subst e1; subst e2
        unfold szOf at hs; unfold byOf at hby; unfold zeroOf at hz
        simp only [Option.map_eq_some_iff, Option.bind_eq_some_iff] at hs hby hz
        obtain ⟨i, hi, rfl⟩ := hs
        obtain ⟨i', hi', rfl⟩ := hby
        obtain ⟨i'', hi'', hz⟩ := hz
        rw [hi] at hi' hi''
        injection hi' with e'; injection hi'' with e''
        subst e'; subst e''
        have hr := run_make (P := P) w t e i z0 hu hi hz kl kc l c b0 b1 b2 (by omega)
        have hle : l.toNat * i.size ≤ c.toNat * i.size := Nat.mul_le_mul_right _ (by omega)
        obtain ⟨g1, g2, g3⟩ := hm.newRow e i.size (zeros z0 (l.toNat * i.size)) (madeCells z0.cells (c.toNat * i.size)) _ _ c.toNat l.toNat (size_madeCells _ _) (take_zeros z0 _ _ hle) (All2_zeros ρ z0 _) (by omega) (by simp only [maxLen]; omega)
        exact ⟨_, _, _, hr, g3, g1, g2⟩
      · cases h
    · cases h
  · cases h

/-- What an append or a copy takes from its source: how many elements, their cells. -/
def srcA (size : Nat) (x : AV) (mem : AMem) : Option (Nat × List CV) :=
  match x with
  | .one (.sl r ver off m) => match mem[r]? with
    | some b => if ver = b.ver ∧ off + m * size ≤ b.cells.length then some (m, (b.cells.drop off).take (m * size)) else none
    | none => none
  | .one .nils => some (0, [])
  | _ => none

theorem srcA_sound {ρ : Env} {mem : AMem} {w : World} (hm : RepM ρ mem w) {size : Nat} {x : AV} {u : Value} {m : Nat} {cs : List CV} (h : srcA size x mem = some (m, cs)) (hx : VR ρ x u) :
    ∃ (B : Option Addr) (c : Nat) (vs : List Value), u = .slice B m c ∧ m ≤ c ∧ All2 (VC ρ) cs vs ∧ vs.length = m * size ∧ (B = none → m = 0) ∧ (∀ a, B = some a → ∀ (j : Nat) (v : Value), vs[j]? = some v → w.cell? (a.add j) = some v) := by
  unfold srcA at h
  split at h
  · rename_i r ver off m'
    obtain ⟨A, c0, B, c, ha, rfl, hlen, hB, h0⟩ := hx
    split at h
    · rename_i b hb
      split at h
      · rename_i hc
        obtain ⟨hv, hbound⟩ := hc
        subst hv
        injection h with h
        injection h with h1 h2
        subst h1; subst h2
        have hbk := hm.blk r b hb
        have hcl : ((b.cells.drop off).take (m' * size)).length = m' * size := by simp; omega
        by_cases hm0 : m' = 0
        · subst hm0
          refine ⟨B, c, [], rfl, hlen, ?_, by simp, fun _ => rfl, fun a _ j v hj => by simp at hj⟩
          simp [All2]
        · obtain ⟨a, rfl, rfl⟩ := hB (by omega)
          have hget : ∀ (j : Nat) (x : CV), ((b.cells.drop off).take (m' * size))[j]? = some x → ∃ v, w.cell? (a.add (off + j)) = some v ∧ VC ρ x v := by
            intro j x hj
            refine cells_at hbk ha ?_
            have hjl := (List.getElem?_eq_some_iff.1 hj).1
            rw [hcl] at hjl
            rw [List.getElem?_take_of_lt hjl, List.getElem?_drop] at hj
            exact hj
          have hex : ∀ (l : List CV) (k : Nat), (∀ (j : Nat) (x : CV), l[j]? = some x → ∃ v, w.cell? (a.add (k + j)) = some v ∧ VC ρ x v) →
              ∃ vs : List Value, All2 (VC ρ) l vs ∧ ∀ (j : Nat) (v : Value), vs[j]? = some v → w.cell? (a.add (k + j)) = some v := by
            intro l
            induction l with
            | nil => intro k _; exact ⟨[], trivial, fun j v hj => by simp at hj⟩
            | cons x l ih =>
              intro k hl
              obtain ⟨v, hv, hr⟩ := hl 0 x rfl
              obtain ⟨vs, h1, h2⟩ := ih (k + 1) (fun j y hj => by
                obtain ⟨v, hv, hr⟩ := hl (j + 1) y (by simpa using hj)
                exact ⟨v, by rw [show k + 1 + j = k + (j + 1) by omega]; exact hv, hr⟩)
              refine ⟨v :: vs, ⟨hr, h1⟩, fun j y hj => ?_⟩
              cases j with
              | zero => simp at hj; subst hj; exact hv
              | succ j => rw [show k + (j + 1) = k + 1 + j by omega]; exact h2 j y (by simpa using hj)
          obtain ⟨vs, h1, h2⟩ := hex _ off hget
          refine ⟨some (a.add off), c, vs, rfl, hlen, h1, ?_, (fun e => by cases e), fun a' ha' j v hj => ?_⟩
          · rw [← h1.length, hcl]
          · injection ha' with ha'
            subst ha'
            rw [addr_add_add]
            exact h2 j v hj
      · cases h
    · cases h
  · have e : u = _ := hx
    subst e
    injection h with h
    injection h with h1 h2
    subst h1; subst h2
    exact ⟨none, 0, [], rfl, Nat.le_refl _, trivial, by simp, (fun _ => rfl), (fun a e => by cases e)⟩
  · cases h

/-- Bytes as a text. -/
def bytesA : List CV → Option (List Int)
  | [] => some []
  | .int .u8 n :: r => (bytesA r).map (n :: ·)
  | _ => none
def strB (ns : List Int) : ByteArray := ns.foldl (fun r n => r.push (UInt8.ofNat n.toNat)) ByteArray.empty
theorem bytesA_sound {ρ : Env} : ∀ {cs : List CV} {ns : List Int} {vs : List Value}, bytesA cs = some ns → All2 (VC ρ) cs vs → vs = ns.map (Value.int .u8)
  | [], ns, [], h, _ => by simp [bytesA] at h; subst h; rfl
  | [], _, _ :: _, _, h => h.elim
  | .int .u8 n :: r, ns, v :: vs, h, hv => by
    simp only [bytesA, Option.map_eq_some_iff] at h
    obtain ⟨ns', h', rfl⟩ := h
    have e : v = .int .u8 n := hv.1
    rw [bytesA_sound h' hv.2, e]; rfl
  | _ :: _, _, [], _, h => h.elim
def convM (src dst : TypeId) (x : AV) (mem : AMem) : Option AV :=
  match P.underlying src, P.underlying dst with
  | some (.slice el), some .string => match P.underlying el with
    | some (.int .u8) => match srcA 1 x mem with
      | some (_, cs) => (bytesA cs).map fun ns => .one (.str (strB ns))
      | none => none
    | _ => none
  | _, _ => convA P src dst x
theorem run_convM {ρ : Env} {mem : AMem} {w : World} (hm : RepM ρ mem w) {src dst : TypeId} {x z : AV} {u : Value} (h : convM P src dst x mem = some z) (hx : VR ρ x u) : ∃ v, (convert src dst u).run P w = .ok v w ∧ VR ρ z v := by
  unfold convM at h
  split at h
  · rename_i el hs hd
    split at h
    · rename_i he
      split at h
      · rename_i n cs hsrc
        simp only [Option.map_eq_some_iff] at h
        obtain ⟨ns, hb, rfl⟩ := h
        obtain ⟨B, c, vs, rfl, _, hall, hlen, hnone, hcell⟩ := srcA_sound hm hsrc hx
        have hvs := bytesA_sound hb hall
        refine ⟨.string (strB ns), ?_, rfl⟩
        rw [run_convert_bytes_string w src dst el B n c hs he hd]
        cases B with
        | none =>
          have h0 := hnone rfl
          subst h0
          have : ns = [] := by
            have : ns.length = 0 := by rw [hvs] at hlen; simpa using hlen
            exact List.eq_nil_of_length_eq_zero this
          subst this
          rfl
        | some a =>
          refine run_bytesToString w a n c ns ?_
          have h1 := run_loadCells_list (P := P) (w := w) a vs (hcell a rfl)
          rw [show vs.length = n by omega, hvs] at h1
          exact h1
      · cases h
    · cases h
  · exact run_convA P h hx w

theorem convM_nil {src dst : TypeId} {x z : AV} {M : AMem} (h : convM P src dst x [] = some z) : convM P src dst x M = some z := by
  unfold convM at h ⊢
  split
  · rename_i el hs hd
    simp only [hs, hd] at h
    split
    · rename_i he
      simp only [he] at h
      split at h
      · rename_i n cs hsrc
        have e : srcA 1 x M = some (n, cs) := by
          unfold srcA at hsrc ⊢
          split at hsrc
          · simp at hsrc
          · exact hsrc
          · cases hsrc
        simp only [e]
        exact h
      · cases h
    · rename_i hne
      split at h
      · rename_i he; exact absurd he hne
      · cases h
  · rename_i hne
    split at h
    · rename_i el hs hd; exact (hne el hs hd).elim
    · exact h
theorem run_append_src {w : World} (base : Nat) (t ty e : TypeId) (i : TypeInfo) (z : Value) (ht : P.underlying t = some (.slice e)) (hi : P.info? e = some i) (hz : i.zero = some z)
    (hzs : z.cells.size = i.size) (hsz : 0 < i.size) (v : Value) (n : Nat) (xs : List Value) (hown : w.ownsRow base e i.size v n xs)
    (B : Option Addr) (m c : Nat) (vs : List Value) (hl : vs.length = m * i.size) (hB : B = none → m = 0) (hcell : ∀ a, B = some a → ∀ (j : Nat) (u : Value), vs[j]? = some u → w.cell? (a.add j) = some u) (h1 : ∀ u ∈ vs, u.oneCell' = true)
    (h63 : n + m ≤ maxLen) (hbytes : (n + m) * i.bytes ≤ 140737488355328) (hbase : base ≤ w.heap.size) :
    ∃ v' w', (Builtin.append_ #[t, t] ty #[v, .slice B m c]).run P w = .ok v' w' ∧ w'.ownsRow base e i.size v' (n + m) (xs ++ vs) ∧ w.grownBy w' v.ownBlock ∧
      (v'.ownBlock = v.ownBlock ∨ v'.ownBlock = some w.heap.size) := by
  cases B with
  | none =>
    have hm := hB rfl
    subst hm
    have hv : vs = [] := List.eq_nil_of_length_eq_zero (by simpa using hl)
    subst hv
    refine ⟨v, w, ?_, by simpa using hown, ⟨rfl, rfl, rfl, Nat.le_refl _, fun _ _ _ => rfl⟩, .inl rfl⟩
    rcases hown.2 with ⟨rfl, rfl⟩ | ⟨g, cap, cur, rfl, _, _, hnc, _⟩
    · simp [Builtin.append_, run_underlying ht, sizeOf, typeInfo, hi, Builtin.lenOf, Builtin.firstCells]
    · simp [Builtin.append_, run_underlying ht, sizeOf, typeInfo, hi, Builtin.lenOf, Builtin.firstCells, hnc, storeCells]
  | some a =>
    obtain ⟨v', w', hrun, h2, h3, _, h5⟩ := run_append_own_at (P := P) w base t ty e i z i.size i.bytes ht hi hz rfl rfl hzs hsz v n xs hown a m c vs hl (hcell a rfl) h1 h63 hbytes hbase
    exact ⟨v', w', hrun, h2, h3, h5⟩

def appendA (t : TypeId) (s x : AV) (mem : AMem) : Option (AV × AMem) :=
  match P.underlying t with
  | some (.slice e) => match szOf P e, byOf P e, zeroOf P e with
    | some size, some bytes, some z =>
      if z.cells.size = size ∧ 0 < size then
        match srcA size x mem with
        | some (m, cs) =>
          if cs.all CV.isVal = true then
            match s with
            | .one .nils => if m ≤ 140737488355328 ∧ m * bytes ≤ 140737488355328 then some (.one (.sl mem.length 0 0 m), mem ++ [⟨.grow, e, 0, size, cs⟩]) else none
            | .one (.sl r ver off n) => match mem[r]? with
              | some b => match b.kind with
                | .grow => if ver = b.ver ∧ b.ty = e ∧ b.esz = size ∧ off = 0 ∧ b.cells.length = n * size ∧ n + m ≤ 140737488355328 ∧ (n + m) * bytes ≤ 140737488355328 then
                    some (.one (.sl r (b.ver + 1) 0 (n + m)), mem.set r ⟨.grow, e, b.ver + 1, size, b.cells ++ cs⟩) else none
                | _ => none
              | none => none
            | _ => none
          else none
        | none => none
      else none
    | _, _, _ => none
  | _ => none

theorem blk_of_owns {ρ : Env} {w : World} {base : Nat} {e : TypeId} {size : Nat} {v : Value} {n : Nat} {xs : List Value} {r ver : Nat} {cells : List CV} (h : w.ownsRow base e size v n xs) (hsz : 0 < size) (hc : All2 (VC ρ) cells xs) :
    ∃ A cap, v = .slice A n cap ∧ n ≤ cap ∧ (A = none → cap = 0 ∧ n = 0) ∧ (∀ x, A = some x → v.ownBlock = some x.block) ∧ ∀ ρ' : Env, (∀ c u, VC ρ c u → VC ρ' c u) → ρ' r ver = some (A, cap) → BlkR ρ' w r ⟨.grow, e, ver, size, cells⟩ := by
  rcases h.2 with ⟨rfl, rfl⟩ | ⟨g, cap, cur, rfl, hbg, hg, hnc, hcm, hcs, htake⟩
  · have hx : xs = [] := List.eq_nil_of_length_eq_zero (by simpa using h.1)
    subst hx
    have hcc : cells = [] := by cases cells with | nil => rfl | cons a b => exact hc.elim
    subst hcc
    exact ⟨none, 0, rfl, Nat.le_refl _, (fun _ => ⟨rfl, rfl⟩), (fun x e => by cases e), fun ρ' _ hr => .inl ⟨rfl, hr⟩⟩
  · refine ⟨some ⟨g, 0, none⟩, cap, rfl, hnc, (fun e => by cases e), (fun x e => by injection e with e; subst e; rfl), fun ρ' hle hr => .inr ⟨g, cur, cap, xs, cur.toList.drop (n * size), hr, hg, hcs, hcm, ?_, hc.mono hle⟩⟩
    rw [← htake]
    exact (List.take_append_drop _ _).symm

theorem run_appendA {ρ : Env} {mem mem' : AMem} {w : World} (hm : RepM ρ mem w) {t ty : TypeId} {s x z : AV} {us ux : Value} (h : appendA P t s x mem = some (z, mem')) (hs : VR ρ s us) (hx : VR ρ x ux) :
    ∃ v w' ρ', (Builtin.append_ #[t, t] ty #[us, ux]).run P w = .ok v w' ∧ VR ρ' z v ∧ RepM ρ' mem' w' ∧ Step mem ρ w mem' ρ' w' := by
  unfold appendA at h
  split at h
  · rename_i e hu
    split at h
    · rename_i size bytes z0 hsz hby hz
      unfold szOf at hsz; unfold byOf at hby; unfold zeroOf at hz
      simp only [Option.map_eq_some_iff, Option.bind_eq_some_iff] at hsz hby hz
      obtain ⟨i, hi, rfl⟩ := hsz
      obtain ⟨i', hi', rfl⟩ := hby
      obtain ⟨i'', hi'', hz⟩ := hz
      rw [hi] at hi' hi''
      injection hi' with e'; injection hi'' with e''
      subst e'; subst e''
      split at h
      · rename_i hzc
        split at h
        · rename_i m cs hsrc
          split at h
          · rename_i hall
            obtain ⟨B, c, vs, rfl, hmc, hvs, hvl, hB, hcell⟩ := srcA_sound hm hsrc hx
            have hone := All2.one_of_isVal hvs hall
            split at h
            · split at h
              · rename_i hb
                injection h with h
                injection h with h1 h2
                subst h1; subst h2
                have e : us = _ := hs
                subst e
                obtain ⟨v', w', hrun, hown, hgr, hblk⟩ := run_append_src P (w := w) 0 t ty e i z0 hu hi hz hzc.1 hzc.2 (.slice none 0 0) 0 [] (World.ownsRow_nil w 0 e i.size) B m c vs hvl hB hcell hone
                  (by simp only [maxLen]; omega) (by simpa using hb.2) (Nat.zero_le _)
                simp only [Nat.zero_add, List.nil_append] at hown
                obtain ⟨A, cap, rfl, hmcap, hA, hAb, hbr⟩ := blk_of_owns (r := mem.length) (ver := 0) hown hzc.2 hvs
                have hle : ρ.le (ρ.set mem.length 0 (A, cap)) := Env.le_set (hm.dom _ _ (Nat.le_refl _))
                have hAge : ∀ x, A = some x → w.heap.size ≤ x.block := by
                  intro x hx
                  have := hAb x hx
                  rcases hblk with h | h
                  · rw [this] at h; simp [Value.ownBlock] at h
                  · rw [this] at h; injection h with h; omega
                obtain ⟨g1, g2⟩ := hm.new' (w' := w') hgr.os hgr.tape hgr.output hgr.size (fun k hk => hgr.block k hk (by simp [Value.ownBlock])) ⟨.grow, e, 0, i.size, cs⟩ A cap hAge (by simp) (hbr _ (fun _ _ => VC.mono hle) (Env.set_same _ _ _ _))
                refine ⟨_, _, _, hrun, ⟨A, cap, A, cap, Env.set_same _ _ _ _, rfl, hmcap, fun hpos => ?_, fun _ => ⟨rfl, rfl⟩⟩, g1, g2⟩
                cases A with
                | none => have := (hA rfl).2; omega
                | some a => exact ⟨a, rfl, by simp [Addr.add]⟩
              · cases h
            · rename_i r ver off n
              split at h
              · rename_i b hb
                split at h
                · rename_i hk
                  split at h
                  · rename_i hc
                    obtain ⟨c1, c2, c3, c4, c5, c6, c7⟩ := hc
                    subst c1; subst c4
                    injection h with h
                    injection h with h1 h2
                    subst h1; subst h2
                    obtain ⟨A0, k0, B0, c0', ha, rfl, hlen0, hB0, h00⟩ := hs
                    obtain ⟨rfl, rfl⟩ := h00 rfl
                    have hbk := hm.blk r b hb
                    unfold BlkR at hbk
                    rw [hk] at hbk
                    simp only at hbk
                    obtain ⟨xs, hxs, hown⟩ : ∃ xs, All2 (VC ρ) b.cells xs ∧ w.ownsRow 0 e i.size (.slice B0 n c0') n xs := by
                      rcases hbk with ⟨q1, q2⟩ | ⟨g, cc, cap, xs, sp, q1, q2, q3, q4, q5, q6⟩
                      · rw [q2] at ha; injection ha with ha; injection ha with ha1 ha2
                        subst ha1; subst ha2
                        have hn0 : n = 0 := by
                          rw [q1] at c5
                          rcases Nat.mul_eq_zero.1 c5.symm with h | h
                          · exact h
                          · omega
                        subst hn0
                        exact ⟨[], by rw [q1]; trivial, World.ownsRow_nil w 0 e i.size⟩
                      · rw [q1] at ha; injection ha with ha; injection ha with ha1 ha2
                        subst ha1; subst ha2
                        have hxl : xs.length = n * i.size := by rw [← q6.length, c5]
                        refine ⟨xs, q6, hxl, .inr ⟨g, cap, cc, rfl, Nat.zero_le _, by rw [← c2]; exact q2, hlen0, q4, by rw [← c3]; exact q3, ?_⟩⟩
                        rw [q5, ← hxl, List.take_left]
                    obtain ⟨v', w', hrun, hown', hgr, hblk⟩ := run_append_src P (w := w) 0 t ty e i z0 hu hi hz hzc.1 hzc.2 (.slice B0 n c0') n xs hown B m c vs hvl hB hcell hone (by simp only [maxLen]; omega) c7 (Nat.zero_le _)
                    obtain ⟨A, cap, rfl, hmcap, hA, hAb, hbr⟩ := blk_of_owns (r := r) (ver := b.ver + 1) hown' hzc.2 (hxs.append hvs)
                    have hle : ρ.le (ρ.set r (b.ver + 1) (A, cap)) := Env.le_set (hm.domv r b _ hb (by omega))
                    have hAge : ∀ x, A = some x → w.heap.size ≤ x.block ∨ ∃ y l, ρ r b.ver = some (some y, l) ∧ y.block = x.block := by
                      intro x hx
                      have h1 := hAb x hx
                      rcases hblk with h | h
                      · rw [h1] at h
                        cases B0 with
                        | none => simp [Value.ownBlock] at h
                        | some y => simp [Value.ownBlock] at h; exact .inr ⟨y, _, ha, h.symm⟩
                      · rw [h1] at h; injection h with h; exact .inl (by omega)
                    obtain ⟨g1, g2⟩ := hm.regrow (w' := w') hgr.os hgr.tape hgr.output hgr.size hb hk (fun k hk1 hne => hgr.block k hk1 (fun e => by
                        cases B0 with
                        | none => simp [Value.ownBlock] at e
                        | some y => simp [Value.ownBlock] at e; exact hne y _ ha e.symm)) ⟨.grow, e, b.ver + 1, i.size, b.cells ++ cs⟩ rfl rfl A cap hAge (hbr _ (fun _ _ => VC.mono hle) (Env.set_same _ _ _ _))
                    refine ⟨_, _, _, hrun, ⟨A, cap, A, cap, Env.set_same _ _ _ _, rfl, hmcap, fun hpos => ?_, fun _ => ⟨rfl, rfl⟩⟩, g1, g2⟩
                    cases A with
                    | none => have := (hA rfl).2; omega
                    | some a => exact ⟨a, rfl, by simp [Addr.add]⟩
                  · cases h
                · cases h
              · cases h
            · cases h
          · cases h
        · cases h
      · cases h
    · cases h
  · cases h

end
end Go.Eng
