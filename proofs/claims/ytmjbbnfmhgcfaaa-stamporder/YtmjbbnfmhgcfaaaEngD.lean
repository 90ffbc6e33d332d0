/-
  ENGINE, PART D: comparisons of aggregates, binary and unary operators, conversions of integers, addresses, slices.
-/
import Derived.Test.YtmjbbnfmhgcfaaaEngC
import Derived.LaidEqlPtr
set_option linter.unusedVariables false
set_option linter.unusedSimpArgs false
namespace Go.Eng
open Go

section
variable (P : Program)

def eqParts (eq : TypeId → AV → AV → Option Bool) (xs ys : List CV) : List (TypeId × Nat) → Option Bool
  | [] => some true
  | (t, off) :: r =>
    match partA P t xs off, partA P t ys off with
    | some a, some b => match eq t a b, eqParts eq xs ys r with
      | some p, some q => some (p && q)
      | _, _ => none
    | _, _ => none

def eqV : Nat → TypeId → AV → AV → Option Bool
  | 0, _, _, _ => none
  | d + 1, t, x, y =>
    match P.underlying t, x, y with
    | some .bool, .one (.bool a), .one (.bool b) => some (a == b)
    | some (.int _), .one (.int k a), .one (.int k' b) => if k = k' then some (a == b) else none
    | some .string, .one (.str a), .one (.str b) => some (a.toList == b.toList)
    | some (.struct fs), .agg xs, .agg ys =>
      if P.stoodInHeld t = false ∧ (fs.toList.all fun f => f.name != "_") = true then eqParts P (eqV d) xs ys (fs.toList.map fun f => (f.type, f.offset)) else none
    | some (.array n e), .agg xs, .agg ys => match szOf P e with
      | some k => eqParts P (eqV d) xs ys ((List.range' 0 n).map fun i => (e, i * k))
      | none => none
    | _, _, _ => none

def eqL (d : Nat) (xs ys : Array Value) : List (TypeId × Nat) → Sem Bool
  | [] => pure true
  | (t, off) :: r => do
    let a ← part t xs off
    let b ← part t ys off
    let e ← Op.equalIn d t a b
    if (!e) = true then pure false else eqL d xs ys r

theorem eqFields_eqL (d : Nat) (xs ys : Array Value) : ∀ fs : List Field, (fs.all fun f => f.name != "_") = true → Op.eqFields d xs ys fs = eqL d xs ys (fs.map fun f => (f.type, f.offset))
  | [], _ => rfl
  | f :: fs, h => by
    simp only [List.all_cons, Bool.and_eq_true, bne_iff_ne] at h
    simp only [Op.eqFields, List.map_cons, eqL, if_pos h.1, eqFields_eqL d xs ys fs h.2]

theorem run_equalIn_array (d : Nat) (t e : TypeId) (n k : Nat) (xs ys : Array Value) (ht : P.underlying t = some (.array n e)) (hk : szOf P e = some k) (w : World) :
    (Op.equalIn (d + 1) t (.agg xs) (.agg ys)).run P w = (eqL d xs ys ((List.range' 0 n).map fun i => (e, i * k))).run P w := by
  simp only [Op.equalIn, Sem.run_bind, run_underlying ht, Result.andThen_ok, run_sizeOf P hk]
  rw [Std.Legacy.Range.forIn_eq_forIn_range']
  simp only [Std.Legacy.Range.size, Nat.sub_zero, Nat.add_sub_cancel, Nat.div_one]
  generalize List.range' 0 n = l
  induction l generalizing w with
  | nil => simp [eqL]
  | cons i l ih =>
    simp only [List.forIn_cons, List.map_cons, eqL, Sem.run_bind, Sem.run_ite]
    generalize (part e xs (i * k)).run P w = r1
    cases r1 with
    | ok a w1 =>
      simp only [Result.andThen_ok]
      generalize (part e ys (i * k)).run P w1 = r2
      cases r2 with
      | ok b w2 =>
        simp only [Result.andThen_ok]
        generalize (Op.equalIn d e a b).run P w2 = r3
        cases r3 with
        | ok r w3 =>
          cases r
          · simp only [Result.andThen_ok, Bool.not_false, if_true, Sem.run_pure]
          · simp only [Result.andThen_ok, Bool.not_true, Bool.false_eq_true, if_false, Sem.run_pure]
            exact ih w3
        | halt x w3 => simp [Result.andThen]
      | halt x w2 => simp [Result.andThen]
    | halt x w1 => simp [Result.andThen]

theorem run_eqL {ρ : Env} {d : Nat} {eq : TypeId → AV → AV → Option Bool} (heq : ∀ (t : TypeId) (x y : AV) (u v : Value) (b : Bool) (w : World), eq t x y = some b → VR ρ x u → VR ρ y v → (Op.equalIn d t u v).run P w = .ok b w)
    {xs ys : List CV} {us vs : Array Value} (hx : All2 (VC ρ) xs us.toList) (hy : All2 (VC ρ) ys vs.toList) (w : World) :
    ∀ {l : List (TypeId × Nat)} {b : Bool}, eqParts P eq xs ys l = some b → (eqL d us vs l).run P w = .ok b w
  | [], b, h => by simp [eqParts] at h; subst h; simp [eqL]
  | (t, off) :: r, b, h => by
    simp only [eqParts] at h
    split at h
    · rename_i a c ha hc
      split at h
      · rename_i p q hp hq
        injection h with h
        subst h
        obtain ⟨u, hu, hu'⟩ := run_part P ha hx w
        obtain ⟨v, hv, hv'⟩ := run_part P hc hy w
        simp only [eqL, Sem.run_bind, hu, hv, Result.andThen_ok, heq t a c u v p w hp hu' hv', Sem.run_ite]
        cases p with
        | false => simp
        | true => simpa using run_eqL heq hx hy w hq
      · cases h
    · cases h

theorem run_eqV {ρ : Env} : ∀ (d : Nat) (t : TypeId) (x y : AV) (u v : Value) (b : Bool) (w : World), eqV P d t x y = some b → VR ρ x u → VR ρ y v → (Op.equalIn d t u v).run P w = .ok b w
  | 0, _, _, _, _, _, _, _, h, _, _ => by simp [eqV] at h
  | d + 1, t, x, y, u, v, b, w, h, hu, hv => by
    simp only [eqV] at h
    split at h
    · rename_i p q ht
      have e1 : u = _ := hu
      have e2 : v = _ := hv
      subst e1; subst e2
      injection h with h; subst h
      exact run_equalIn_bool w d t p q ht
    · rename_i k0 k p k' q ht
      have e1 : u = _ := hu
      have e2 : v = _ := hv
      subst e1; subst e2
      split at h
      · rename_i hk
        subst hk
        injection h with h; subst h
        exact run_equalIn_int w d t k k0 p q ht
      · cases h
    · rename_i p q ht
      have e1 : u = _ := hu
      have e2 : v = _ := hv
      subst e1; subst e2
      injection h with h; subst h
      exact run_equalIn_string w d t p q ht
    · rename_i fs xs ys ht
      obtain ⟨us, rfl, hx⟩ := hu
      obtain ⟨vs, rfl, hy⟩ := hv
      split at h
      · rename_i hc
        have hf : P.fieldsOf t = fs := by unfold Program.fieldsOf; rw [ht]
        rw [run_equalIn_struct w d t us vs (by rw [hf]; exact ht) hc.1, hf, eqFields_eqL d us vs _ hc.2]
        exact run_eqL P (fun t x y u v b w => run_eqV d t x y u v b w) hx hy w h
      · cases h
    · rename_i n e xs ys ht
      obtain ⟨us, rfl, hx⟩ := hu
      obtain ⟨vs, rfl, hy⟩ := hv
      split at h
      · rename_i k hk
        rw [run_equalIn_array P d t e n k us vs ht hk]
        exact run_eqL P (fun t x y u v b w => run_eqV d t x y u v b w) hx hy w h
      · cases h
    · cases h

/-- Comparison of two values that are neither integers nor strings. -/
def eqA (t : TypeId) : AV → AV → Option Bool
  | .one (.bool a), .one (.bool b) => match P.underlying t with | some .bool => some (a == b) | _ => none
  | .agg xs, .agg ys => if P.eqGuardType P.depth t = false then eqV P 10000 t (.agg xs) (.agg ys) else none
  | .one .nils, .one .nils => match P.underlying t with | some (.slice _) => some true | _ => none
  | .one (.sl _ _ _ len), .one .nils => match P.underlying t with | some (.slice _) => if 0 < len then some false else none | _ => none
  | .one .nilp, .one .nilp => match P.underlying t with | some (.pointer _) => some true | _ => none
  | .one (.ptr r v o), .one (.ptr r' v' o') => match P.underlying t with | some (.pointer e) => if r = r' ∧ v = v' ∧ o = o' ∧ (P.info? e).isSome = true then some true else none | _ => none
  | .one (.ptr _ _ _), .one .nilp => match P.underlying t with | some (.pointer _) => some false | _ => none
  | .one .nilf, .one .nilf => match P.underlying t with | some (.func _ _ _) => some true | _ => none
  | .one (.fn _ _), .one .nilf => match P.underlying t with | some (.func _ _ _) => some false | _ => none
  | _, _ => none

def intA (op : BinOp) (k : IntKind) (a b : Int) : Option AV :=
  match op with
  | .add => some (.one (.int k (k.wrap (a + b))))
  | .sub => some (.one (.int k (k.wrap (a - b))))
  | .mul => some (.one (.int k (k.wrap (a * b))))
  | .quo => if b = 0 then none else some (.one (.int k (k.wrap (a.tdiv b))))
  | .rem => if b = 0 then none else some (.one (.int k (a.tmod b)))
  | .and => some (.one (.int k (bits .and k a b)))
  | .or => some (.one (.int k (bits .or k a b)))
  | .xor => some (.one (.int k (bits .xor k a b)))
  | .andNot => some (.one (.int k (bits .andNot k a b)))
  | .lss => some (.one (.bool (decide (a < b))))
  | .leq => some (.one (.bool (decide (a ≤ b))))
  | .gtr => some (.one (.bool (decide (b < a))))
  | .geq => some (.one (.bool (decide (b ≤ a))))
  | .eql => some (.one (.bool (a == b)))
  | .neq => some (.one (.bool (a != b)))
  | _ => none

def shA (op : BinOp) (k : IntKind) (a b : Int) : Option AV :=
  if b < 0 then none else
  match op with
  | .shl => some (.one (.int k (k.wrap (a * 2 ^ (min b.toNat k.bits)))))
  | .shr => some (.one (.int k (a.fdiv (2 ^ (min b.toNat k.bits)))))
  | _ => none

def strA (op : BinOp) (a b : ByteArray) : Option AV :=
  match op with
  | .add => if a.size + b.size ≤ 9223372036854775807 then some (.one (.str (a ++ b))) else none
  | .lss => some (.one (.bool (Op.bytesLess a.toList b.toList)))
  | .leq => some (.one (.bool (Op.bytesLess a.toList b.toList || a.toList == b.toList)))
  | .gtr => some (.one (.bool !(Op.bytesLess a.toList b.toList || a.toList == b.toList)))
  | .geq => some (.one (.bool !(Op.bytesLess a.toList b.toList)))
  | .eql => some (.one (.bool (a.toList == b.toList)))
  | .neq => some (.one (.bool !(a.toList == b.toList)))
  | _ => none

def isShift : BinOp → Bool
  | .shl => true
  | .shr => true
  | _ => false

def binA (op : BinOp) (t : TypeId) (x y : AV) : Option AV :=
  match x, y with
  | .one (.int k a), .one (.int k' b) => if isShift op then shA op k a b else if k = k' then intA op k a b else none
  | .one (.str a), .one (.str b) => strA op a b
  | x, y => match op with
    | .eql => (eqA P t x y).map fun b => .one (.bool b)
    | .neq => (eqA P t x y).map fun b => .one (.bool !b)
    | _ => none

theorem run_intA {ρ : Env} {op : BinOp} {k : IntKind} {a b : Int} {z : AV} (hs : isShift op = false) (h : intA op k a b = some z) (t : TypeId) (o1 o2 : Operand) (w : World) :
    ∃ r, ((do eqGuard op t o1 o2 (.int k a) (.int k b); binOp op t (.int k a) (.int k b)) : Sem Value).run P w = .ok r w ∧ VR ρ z r := by
  cases op <;> simp only [isShift] at hs <;> simp only [intA] at h <;> first
    | (injection h with h; subst h; refine ⟨_, ?_, rfl⟩; simp only [eqGuard_at_int, binOp_add, binOp_sub, binOp_mul, binOp_and, binOp_or, binOp_xor, binOp_andNot, binOp_eql, binOp_neq, binOp_lss, binOp_leq, binOp_gtr, binOp_geq, intBits_and, intBits_or, intBits_xor, intBits_andNot, Sem.run_bind, Sem.run_pure, Result.andThen_ok, Op.intArith, gt_iff_lt, ge_iff_le]; done)
    | (split at h
       · cases h
       · rename_i hb
         injection h with h; subst h; exact ⟨_, by simp only [eqGuard_at_int, binOp_quo, binOp_rem, Sem.run_bind, Sem.run_pure, Result.andThen_ok, Op.intDiv, if_neg hb], rfl⟩)
    | cases h
    | cases hs

theorem run_shA {ρ : Env} {op : BinOp} {k k' : IntKind} {a b : Int} {z : AV} (h : shA op k a b = some z) (t : TypeId) (o1 o2 : Operand) (w : World) :
    ∃ r, ((do eqGuard op t o1 o2 (.int k a) (.int k' b); binOp op t (.int k a) (.int k' b)) : Sem Value).run P w = .ok r w ∧ VR ρ z r := by
  unfold shA at h
  split at h
  · cases h
  · rename_i hb
    split at h
    · injection h with h; subst h; exact ⟨_, by simp only [eqGuard_at_int, binOp_shl, Sem.run_bind, Sem.run_pure, Result.andThen_ok, Op.shift, if_neg hb], rfl⟩
    · injection h with h; subst h; exact ⟨_, by simp only [eqGuard_at_int, binOp_shr, Sem.run_bind, Sem.run_pure, Result.andThen_ok, Op.shift, if_neg hb], rfl⟩
    · cases h

theorem run_strA {ρ : Env} {op : BinOp} {a b : ByteArray} {z : AV} (h : strA op a b = some z) (t : TypeId) (o1 o2 : Operand) (w : World) :
    ∃ r, ((do eqGuard op t o1 o2 (.string a) (.string b); binOp op t (.string a) (.string b)) : Sem Value).run P w = .ok r w ∧ VR ρ z r := by
  have hb : binOp op t (.string a) (.string b) = Op.stringOp op a b := by cases op <;> rfl
  simp only [eqGuard_at_string, hb, Sem.run_bind, Sem.run_pure, Result.andThen_ok]
  cases op <;> simp only [strA] at h <;> first
    | (split at h
       · rename_i hsz
         injection h with h; subst h
         refine ⟨_, ?_, rfl⟩
         have : ¬ (((a.size + b.size : Nat) : Int) > IntKind.i64.max) := by rw [IntKind.max_i64]; omega
         simp only [Op.stringOp, if_neg this, Sem.run_pure]
       · cases h)
    | (injection h with h; subst h; exact ⟨_, by simp only [Op.stringOp, Sem.run_pure], rfl⟩)
    | cases h

theorem eq_pair {t : TypeId} {u v : Value} {b : Bool} {o1 o2 : Operand} {w : World} (he : ∀ op, (op = .eql ∨ op = .neq) → (eqGuard op t o1 o2 u v).run P w = .ok () w)
    (h1 : binOp .eql t u v = (Op.equal t u v >>= fun b => pure (.bool b))) (h2 : binOp .neq t u v = (Op.equal t u v >>= fun b => pure (.bool !b)))
    (hr : ∀ d, (Op.equalIn (d + 1) t u v).run P w = .ok b w) :
    ((do eqGuard .eql t o1 o2 u v; binOp .eql t u v) : Sem Value).run P w = .ok (.bool b) w ∧ ((do eqGuard .neq t o1 o2 u v; binOp .neq t u v) : Sem Value).run P w = .ok (.bool !b) w := by
  have hq : (Op.equal t u v).run P w = .ok b w := hr 9999
  constructor
  · simp only [Sem.run_bind, he _ (.inl rfl), Result.andThen_ok, h1, hq, Sem.run_pure]
  · simp only [Sem.run_bind, he _ (.inr rfl), Result.andThen_ok, h2, hq, Sem.run_pure]

theorem run_eqA {ρ : Env} {t : TypeId} {x y : AV} {u v : Value} {b : Bool} (h : eqA P t x y = some b) (hx : VR ρ x u) (hy : VR ρ y v) (o1 o2 : Operand) (w : World) :
    ((do eqGuard .eql t o1 o2 u v; binOp .eql t u v) : Sem Value).run P w = .ok (.bool b) w ∧ ((do eqGuard .neq t o1 o2 u v; binOp .neq t u v) : Sem Value).run P w = .ok (.bool !b) w := by
  unfold eqA at h
  split at h
  · rename_i a c
    have e1 : u = _ := hx
    have e2 : v = _ := hy
    subst e1; subst e2
    split at h
    · rename_i ht
      injection h with h; subst h
      exact eq_pair P (fun op h => by rw [eqGuard_at_bool]; rfl) rfl rfl (fun d => run_equalIn_bool w d t a c ht)
    · cases h
  · rename_i xs ys
    split at h
    · rename_i hg
      have hr := run_eqV P 10000 t (.agg xs) (.agg ys) u v b w h hx hy
      obtain ⟨us, rfl, _⟩ := hx
      obtain ⟨vs, rfl, _⟩ := hy
      constructor
      · simp only [Sem.run_bind, run_eqGuard_agg w .eql t o1 o2 us vs hg, Result.andThen_ok, run_eql_struct, hr]
      · simp only [Sem.run_bind, run_eqGuard_agg w .neq t o1 o2 us vs hg, Result.andThen_ok, run_neq_struct, hr]
    · cases h
  · have e1 : u = _ := hx
    have e2 : v = _ := hy
    subst e1; subst e2
    split at h
    · rename_i ht
      injection h with h; subst h
      exact eq_pair P (fun op h => by rw [eqGuard_at_slice]; rfl) rfl rfl (fun d => by simp [Op.equalIn, run_underlying ht])
    · cases h
  · have e2 : v = _ := hy
    subst e2
    obtain ⟨A, c0, B, c, _, rfl, _, hlen, _⟩ := hx
    split at h
    · rename_i ht
      split at h
      · rename_i hl
        injection h with h; subst h
        obtain ⟨a, _, rfl⟩ := hlen hl
        exact eq_pair P (fun op h => by rw [eqGuard_at_slice]; rfl) rfl rfl (fun d => by simp [Op.equalIn, run_underlying ht])
      · cases h
    · cases h
  · have e1 : u = _ := hx
    have e2 : v = _ := hy
    subst e1; subst e2
    split at h
    · rename_i ht
      injection h with h; subst h
      exact eq_pair P (fun op h => by rw [eqGuard_at_pointer]; rfl) rfl rfl (fun d => by simp [Op.equalIn, run_underlying ht])
    · cases h
  · rename_i r ver o r' ver' o'
    obtain ⟨a, k, h1, rfl⟩ := hx
    obtain ⟨a', k', h2, rfl⟩ := hy
    split at h
    · rename_i e ht
      split at h
      · rename_i hc
        obtain ⟨rfl, rfl, rfl, hi⟩ := hc
        rw [h1] at h2; injection h2 with h2; injection h2 with h2 _; injection h2 with h2; subst h2
        injection h with h; subst h
        obtain ⟨j, hj⟩ := Option.isSome_iff_exists.1 hi
        exact eq_pair P (fun op h => by rw [eqGuard_at_pointer]; rfl) rfl rfl (fun d => by simp [Op.equalIn, run_underlying ht, sizeOf, typeInfo, hj, run_sameAddr_same])
      · cases h
    · cases h
  · have e2 : v = _ := hy
    subst e2
    obtain ⟨a, k, _, rfl⟩ := hx
    split at h
    · rename_i ht
      injection h with h; subst h
      exact eq_pair P (fun op h => by rw [eqGuard_at_pointer]; rfl) rfl rfl (fun d => by simp [Op.equalIn, run_underlying ht])
    · cases h
  · have e1 : u = _ := hx
    have e2 : v = _ := hy
    subst e1; subst e2
    split at h
    · rename_i ht
      injection h with h; subst h
      exact eq_pair P (fun op h => by rw [eqGuard_at_nilFunc]; rfl) rfl rfl (fun d => by simp [Op.equalIn, run_underlying ht])
    · cases h
  · have e2 : v = _ := hy
    subst e2
    obtain ⟨vs, rfl, _⟩ := hx
    split at h
    · rename_i ht
      injection h with h; subst h
      exact eq_pair P (fun op h => by rw [eqGuard_at_func]; rfl) rfl rfl (fun d => by simp [Op.equalIn, run_underlying ht])
    · cases h
  · cases h

theorem run_binA {ρ : Env} {op : BinOp} {t : TypeId} {x y : AV} {u v : Value} {z : AV} (h : binA P op t x y = some z) (hx : VR ρ x u) (hy : VR ρ y v) (o1 o2 : Operand) (w : World) :
    ∃ r, ((do eqGuard op t o1 o2 u v; binOp op t u v) : Sem Value).run P w = .ok r w ∧ VR ρ z r := by
  unfold binA at h
  split at h
  · rename_i k a k' b
    have e1 : u = _ := hx
    have e2 : v = _ := hy
    subst e1; subst e2
    split at h
    · exact run_shA P h t o1 o2 w
    · rename_i hs
      split at h
      · rename_i hk; subst hk
        exact run_intA P (by simpa using hs) h t o1 o2 w
      · cases h
  · rename_i a b
    have e1 : u = _ := hx
    have e2 : v = _ := hy
    subst e1; subst e2
    exact run_strA P h t o1 o2 w
  · split at h
    · simp only [Option.map_eq_some_iff] at h
      obtain ⟨b, hb, rfl⟩ := h
      exact ⟨_, (run_eqA P hb hx hy o1 o2 w).1, rfl⟩
    · simp only [Option.map_eq_some_iff] at h
      obtain ⟨b, hb, rfl⟩ := h
      exact ⟨_, (run_eqA P hb hx hy o1 o2 w).2, rfl⟩
    · cases h

end
end Go.Eng
