/- Walks and facts of this seat's program over abstract states, printed by a program of mine; no conditions but those that each theorem names. -/
import Derived.Test.YtmjbbnfmhgcfaaaFc
import Derived.Test.YtmjbbnfmhgcfaaaEngW
set_option linter.unusedSimpArgs false
set_option linter.unusedVariables false
set_option maxRecDepth 100000
set_option maxHeartbeats 4000000
namespace Go.Proofs.Ytmjbbnfmhgcfaaa
open Go Go.Eng

theorem wi {x : Int} (h : -9223372036854775808 ≤ x ∧ x ≤ 9223372036854775807) : IntKind.i64.wrap x = x := by rw [IntKind.wrap_i64]; omega
theorem w32 (x : Int) : IntKind.u32.wrap x = x % 4294967296 := by simp [IntKind.wrap, IntKind.signed, IntKind.bits]
theorem w8 (x : Int) : IntKind.u8.wrap x = x % 256 := by simp [IntKind.wrap, IntKind.signed, IntKind.bits]
/-- Bytes; words; a number's bits. -/
def u8l (bs : List Int) : List CV := bs.map (CV.int .u8)
theorem u8l_len (bs : List Int) : (u8l bs).length = bs.length := by simp [u8l]
theorem u8l_app (a b : List Int) : u8l a ++ u8l b = u8l (a ++ b) := by simp [u8l]
theorem u8l_vals (bs : List Int) : (u8l bs).all CV.isVal = true := by
  simp only [u8l, List.all_map, List.all_eq_true]; intro x _; rfl
theorem u8l_below (L : Nat) (bs : List Int) : (u8l bs).all (CV.below L) = true := by
  simp only [u8l, List.all_map, List.all_eq_true]; intro x _; rfl
def byB (bs : List Int) (i : Nat) : Int := bs.getD i 0
theorem u8l_get {bs : List Int} {i : Nat} (h : i < bs.length) : (u8l bs)[i]? = some (.int .u8 (byB bs i)) := by
  simp only [u8l, List.getElem?_map, byB, List.getD_eq_getElem?_getD, List.getElem?_eq_getElem h]; rfl
theorem u8l_take (bs : List Int) (n : Nat) : (u8l bs).take n = u8l (bs.take n) := by simp [u8l]
theorem u8l_drop (bs : List Int) (n : Nat) : (u8l bs).drop n = u8l (bs.drop n) := by simp [u8l]
def ul (xs : List Int) : List CV := xs.map (CV.int .u32)
theorem ul_len (xs : List Int) : (ul xs).length = xs.length := by simp [ul]
theorem ul_get {xs : List Int} {i : Nat} (h : i < xs.length) : (ul xs)[i]? = some (.int .u32 (xs.getD i 0)) := by
  simp only [ul, List.getElem?_map, List.getD_eq_getElem?_getD, List.getElem?_eq_getElem h]; rfl
theorem ul_set (xs : List Int) (i : Nat) (x : Int) : (ul xs).set i (.int .u32 x) = ul (xs.set i x) := by simp [ul, List.map_set]
theorem ul_vals (xs : List Int) : (ul xs).all CV.isVal = true := by
  simp only [ul, List.all_map, List.all_eq_true]; intro x _; rfl
theorem ul_below (L : Nat) (xs : List Int) : (ul xs).all (CV.below L) = true := by
  simp only [ul, List.all_map, List.all_eq_true]; intro x _; rfl
def R32 (x : Int) : Prop := 0 ≤ x ∧ x ≤ 4294967295
theorem r32w (x : Int) : R32 (IntKind.u32.wrap x) := by unfold R32; rw [w32]; omega
theorem r32b (op : BinOp) (x y : Int) : R32 (bits op .u32 x y) := r32w _
theorem or_comm (x y : Int) : bits .or .u32 x y = bits .or .u32 y x := by unfold bits; simp only; rw [BitVec.or_comm]
theorem ofInt32 {x : Int} (h : R32 x) : (BitVec.ofInt 32 x).toNat = x.toNat := by
  have := h.1; have := h.2
  rw [BitVec.toNat_ofInt]; omega
theorem or_add {x y : Int} (k : Nat) (q : Int) (hx : R32 x) (hy : 0 ≤ y) (e : x = 2 ^ k * q) (hq : 0 ≤ q) (hlt : y < 2 ^ k) (hk : k ≤ 32) : bits .or .u32 x y = x + y := by
  have h2 : (2 : Int) ^ k ≤ 4294967296 := by
    have := Nat.pow_le_pow_right (n := 2) (by omega) hk
    have e2 : ((2 ^ k : Nat) : Int) = (2 : Int) ^ k := by simp
    rw [← e2]; omega
  have hy' : R32 y := ⟨hy, by omega⟩
  have hn : x.toNat ||| y.toNat = x.toNat + y.toNat := by
    have ex : x.toNat = 2 ^ k * q.toNat := by
      have e2 : ((2 ^ k * q.toNat : Nat) : Int) = x := by rw [e]; simp [Int.natCast_mul, Int.toNat_of_nonneg hq]
      omega
    have ylt : y.toNat < 2 ^ k := by
      have e2 : ((2 ^ k : Nat) : Int) = (2 : Int) ^ k := by simp
      omega
    rw [ex, Nat.two_pow_add_eq_or_of_lt ylt]
  have hor : (BitVec.ofInt 32 x ||| BitVec.ofInt 32 y).toNat = x.toNat + y.toNat := by
    rw [BitVec.toNat_or, ofInt32 hx, ofInt32 hy', hn]
  have hlt2 : x.toNat + y.toNat < 2 ^ 32 := by rw [← hor]; exact (BitVec.ofInt 32 x ||| BitVec.ofInt 32 y).isLt
  show IntKind.u32.wrap ((BitVec.ofInt 32 x ||| BitVec.ofInt 32 y).toNat : Int) = x + y
  rw [hor, w32]; have := hx.1; omega
theorem xor_max {e : Int} (h : R32 e) : bits .xor .u32 4294967295 e = 4294967295 - e := by
  have h1 : BitVec.ofInt 32 4294967295 = BitVec.allOnes 32 := by decide
  have h2 : (BitVec.ofInt 32 4294967295 ^^^ BitVec.ofInt 32 e).toNat = 2 ^ 32 - 1 - e.toNat := by
    rw [h1, BitVec.allOnes_xor, BitVec.toNat_not, ofInt32 h]
  show IntKind.u32.wrap ((BitVec.ofInt 32 4294967295 ^^^ BitVec.ofInt 32 e).toNat : Int) = _
  rw [h2, w32]; have := h.1; have := h.2; omega
/-- Turned to the right. -/
def rotR (x : Int) (n : Nat) : Int := bits .or .u32 (x.fdiv (2 ^ n)) (IntKind.u32.wrap (x * 2 ^ (32 - n)))
theorem and31 : ∀ n : Fin 32, 1 ≤ n.val → bits .and .u64 (IntKind.u64.wrap (-(n.val : Int))) 31 = 32 - (n.val : Int) := by decide +kernel
theorem and31' {n : Nat} (h : 1 ≤ n ∧ n ≤ 31) : bits .and .u64 (IntKind.u64.wrap (-(n : Int))) 31 = 32 - (n : Int) := and31 ⟨n, by omega⟩ h.1
def s0 (x : Int) : Int := bits .xor .u32 (bits .xor .u32 (rotR x 7) (rotR x 18)) (x.fdiv 8)
def s1 (x : Int) : Int := bits .xor .u32 (bits .xor .u32 (rotR x 17) (rotR x 19)) (x.fdiv 1024)
def S0 (x : Int) : Int := bits .xor .u32 (bits .xor .u32 (rotR x 2) (rotR x 13)) (rotR x 22)
def S1 (x : Int) : Int := bits .xor .u32 (bits .xor .u32 (rotR x 6) (rotR x 11)) (rotR x 25)
def chF (e f g : Int) : Int := bits .xor .u32 (bits .and .u32 e f) (bits .and .u32 (bits .xor .u32 4294967295 e) g)
def maF (a b c : Int) : Int := bits .xor .u32 (bits .xor .u32 (bits .and .u32 a b) (bits .and .u32 a c)) (bits .and .u32 b c)
def a32 (x y : Int) : Int := IntKind.u32.wrap (x + y)
structure S8 where
  (a b c d e f g h : Int)
def t1F (K W : List Int) (i : Nat) (s : S8) : Int := a32 (a32 (a32 (a32 s.h (S1 s.e)) (chF s.e s.f s.g)) (K.getD i 0)) (W.getD i 0)
def rdF (K W : List Int) (i : Nat) (s : S8) : S8 := ⟨a32 (t1F K W i s) (a32 (S0 s.a) (maF s.a s.b s.c)), s.a, s.b, s.c, a32 s.d (t1F K W i s), s.e, s.f, s.g⟩
def rd (K W : List Int) (s : S8) : Nat → S8
  | 0 => s
  | i + 1 => rdF K W i (rd K W s i)
def wordV (bs : List Int) (o : Nat) : Int := byB bs o * 16777216 + byB bs (o + 1) * 65536 + byB bs (o + 2) * 256 + byB bs (o + 3)
def mixF (w : List Int) (i : Nat) : Int := a32 (a32 (a32 (w.getD (i - 16) 0) (s0 (w.getD (i - 15) 0))) (w.getD (i - 7) 0)) (s1 (w.getD (i - 2) 0))
def sch (bs : List Int) (o : Nat) : Nat → List Int
  | 0 => List.replicate 64 0
  | i + 1 => (sch bs o i).set i (if i < 16 then wordV bs (o + 4 * i) else mixF (sch bs o i) i)
theorem sch_len (bs : List Int) (o : Nat) : ∀ i, (sch bs o i).length = 64
  | 0 => by simp [sch]
  | i + 1 => by simp [sch, sch_len bs o i]
def add8 (s t : S8) : S8 := ⟨a32 s.a t.a, a32 s.b t.b, a32 s.c t.c, a32 s.d t.d, a32 s.e t.e, a32 s.f t.f, a32 s.g t.g, a32 s.h t.h⟩
/-- A block stirred in. -/
def comp (K : List Int) (s : S8) (bs : List Int) (o : Nat) : S8 := add8 s (rd K (sch bs o 64) s 64)
theorem p2_32 {n : Nat} (h : n ≤ 32) : (2 : Int) ^ min n IntKind.u32.bits = 2 ^ n := by rw [show IntKind.u32.bits = 32 from rfl, Nat.min_eq_left h]
theorem turn_c (x : Int) (n : Nat) (m : AMem) (h : 1 ≤ n ∧ n ≤ 31) : Ctr Try.prog 33 [.one (.int .u32 x), .one (.int .u64 (n : Int))] m (.one (.int .u32 (rotR x n))) m := by
  refine Ctr.enter Try.func33 rfl (by decide) (rs := [.tmp 4]) (nt := 13) rfl rfl fun hwf Q hQ => ?_
  have e1 : IntKind.u64.wrap (32 - (n : Int)) = ((32 - n : Nat) : Int) := by rw [IntKind.wrap_u64]; omega
  have q1 := p2_32 (n := n) (by omega)
  have q2 := p2_32 (n := 32 - n) (by omega)
  have c1 : ¬ (n : Int) < 0 := by omega
  have c2 : ¬ ((32 - n : Nat) : Int) < 0 := by omega
  iterate 2
    refine AW.seq_k fun K hK => ?_
    refine AW.region (by decide) ?_
    simp only [push_cast, simprocAttr, e1, q1, q2, c1, c2]
    refine Thn_n ?_
    refine hK _ _ ?_
    clear hK K
  refine AW.ret ?_
  refine hQ _ _ _ ?_
  first | refine RetP.drop0 (Or.inr rfl) ?_ ?_ hwf | refine RetP.drop (Or.inr rfl) ?_ ?_ hwf
  · simp only [resA, resOne, resTv, AV.tv, push_cast, simprocAttr, e1, q1, q2, c1, c2, rotR]
  · rfl
theorem rot_c (x : Int) (n : Nat) (m : AMem) (h : 1 ≤ n ∧ n ≤ 31) : Ctr Try.prog 42 [.one (.int .u32 x), .one (.int .i64 (-(n : Int)))] m (.one (.int .u32 (rotR x n))) m := by
  refine Ctr.enter Try.func42 rfl (by decide) (rs := [.tmp 4]) (nt := 17) rfl rfl fun hwf Q hQ => ?_
  have e0 := and31' h
  have e3 : 32 - (n : Int) = ((32 - n : Nat) : Int) := by omega
  rw [e3] at e0
  have e1 : IntKind.u64.wrap (32 - ((32 - n : Nat) : Int)) = (n : Int) := by rw [IntKind.wrap_u64]; omega
  have q1 := p2_32 (n := n) (by omega)
  have q2 := p2_32 (n := 32 - n) (by omega)
  have c1 : ¬ (n : Int) < 0 := by omega
  have c2 : ¬ ((32 - n : Nat) : Int) < 0 := by omega
  have oc := or_comm (x.fdiv (2 ^ n)) (IntKind.u32.wrap (x * 2 ^ (32 - n)))
  iterate 3
    refine AW.seq_k fun K hK => ?_
    refine AW.region (by decide) ?_
    simp only [push_cast, simprocAttr, e0, e1, q1, q2, c1, c2]
    refine Thn_n ?_
    refine hK _ _ ?_
    clear hK K
  refine AW.ret ?_
  refine hQ _ _ _ ?_
  first | refine RetP.drop0 (Or.inr rfl) ?_ ?_ hwf | refine RetP.drop (Or.inr rfl) ?_ ?_ hwf
  · simp only [resA, resOne, resTv, AV.tv, push_cast, simprocAttr, e0, e1, q1, q2, c1, c2, rotR, oc]
  · rfl
end Go.Proofs.Ytmjbbnfmhgcfaaa
