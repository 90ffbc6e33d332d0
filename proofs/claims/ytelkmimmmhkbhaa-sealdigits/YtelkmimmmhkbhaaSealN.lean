/- Walks and facts of this seat's program over abstract states, printed by a program of mine; no conditions but those that each theorem names. -/
import Derived.Test.YtelkmimmmhkbhaaSealM
set_option linter.unusedSimpArgs false
set_option linter.unusedVariables false
set_option maxRecDepth 100000
set_option maxHeartbeats 4000000
namespace Go.Proofs.Ytelkmimmmhkbhaa
open Go Go.Eng

def R8 (S : S8) : Prop := R32 S.a ∧ R32 S.b ∧ R32 S.c ∧ R32 S.d ∧ R32 S.e ∧ R32 S.f ∧ R32 S.g ∧ R32 S.h
theorem a32r (x y : Int) : R32 (a32 x y) := r32w _
theorem rdF_r {K W : List Int} {i : Nat} {s : S8} (h : R8 s) : R8 (rdF K W i s) := ⟨a32r _ _, h.1, h.2.1, h.2.2.1, a32r _ _, h.2.2.2.2.1, h.2.2.2.2.2.1, h.2.2.2.2.2.2.1⟩
theorem rd_r {K W : List Int} {s : S8} (h : R8 s) : ∀ i, R8 (rd K W s i)
  | 0 => h
  | i + 1 => rdF_r (rd_r h i)
theorem add8_r (s t : S8) : R8 (add8 s t) := ⟨a32r _ _, a32r _ _, a32r _ _, a32r _ _, a32r _ _, a32r _ _, a32r _ _, a32r _ _⟩
theorem compN_r {S : S8} (h : R8 S) (bs : List Int) : ∀ k, R8 (compN S bs k)
  | 0 => h
  | k + 1 => add8_r _ _
theorem iv_r : R8 IV := by
  refine ⟨?_, ?_, ?_, ?_, ?_, ?_, ?_, ?_⟩ <;> (constructor <;> decide)
theorem a32_assoc (x y z : Int) : IntKind.u32.wrap (IntKind.u32.wrap (x + y) + z) = IntKind.u32.wrap (x + IntKind.u32.wrap (y + z)) := by
  simp only [w32]; omega
def byK (x : Int) (k : Nat) : Int := IntKind.u8.wrap (x.fdiv (2 ^ (8 * (7 - k))))
def beL (x : Int) : Nat → List Int
  | 0 => []
  | k + 1 => beL x k ++ [byK x k]
theorem beL_8 {x : Int} (h : 0 ≤ x ∧ x < 18446744073709551616) : beL x 8 = fourL (IntKind.u32.wrap (x.fdiv 4294967296)) ++ fourL (IntKind.u32.wrap x) := by
  have f : ∀ (y : Int) (k : Nat), y.fdiv ((2 : Int) ^ k) = y / (2 : Int) ^ k := fun y k => Int.fdiv_eq_ediv_of_nonneg _ (by have : (0:Int) ≤ 2 ^ k := Int.pow_nonneg (by omega); exact this)
  simp only [beL, byK, fourL, List.nil_append, List.append_assoc, List.cons_append, f]
  have g : ∀ (y c : Int), 0 ≤ c → y.fdiv c = y / c := fun y c h => Int.fdiv_eq_ediv_of_nonneg _ h
  simp only [g _ 4294967296 (by omega), g _ 16777216 (by omega), g _ 65536 (by omega), g _ 256 (by omega), w8, w32, List.cons.injEq, and_true]
  have p7 : (2 : Int) ^ (8 * (7 - 0)) = 72057594037927936 := by decide
  have p6 : (2 : Int) ^ (8 * (7 - 1)) = 281474976710656 := by decide
  have p5 : (2 : Int) ^ (8 * (7 - 2)) = 1099511627776 := by decide
  have p4 : (2 : Int) ^ (8 * (7 - 3)) = 4294967296 := by decide
  have p3 : (2 : Int) ^ (8 * (7 - 4)) = 16777216 := by decide
  have p2 : (2 : Int) ^ (8 * (7 - 5)) = 65536 := by decide
  have p1 : (2 : Int) ^ (8 * (7 - 6)) = 256 := by decide
  have p0 : (2 : Int) ^ (8 * (7 - 7)) = 1 := by decide
  rw [p7, p6, p5, p4, p3, p2, p1, p0]
  refine ⟨?_, ?_, ?_, ?_, ?_, ?_, ?_, ?_⟩ <;> omega
/-- The text with its end, and how long it is. -/
def refL (bs : List Int) (k : Nat) : List Int := padL bs (padz bs.length) ++ beL (IntKind.u64.wrap ((bs.length : Int) * 8)) k
theorem beL_len (x : Int) : ∀ k, (beL x k).length = k
  | 0 => rfl
  | k + 1 => by simp [beL, beL_len x k]
theorem refL_len (bs : List Int) (k : Nat) : (refL bs k).length = bs.length + 1 + padz bs.length + k := by simp only [refL, List.length_append, padL_len, beL_len]
theorem refL_succ (bs : List Int) (k : Nat) : u8l (refL bs k) ++ [.int .u8 (byK (IntKind.u64.wrap ((bs.length : Int) * 8)) k)] = u8l (refL bs (k + 1)) := by
  simp only [refL, beL, u8l, List.map_append, List.append_assoc, List.map_cons, List.map_nil]
theorem byK_ok (x : Int) (k : Nat) : 0 ≤ byK x k ∧ byK x k ≤ 255 := by unfold byK; rw [w8]; omega
theorem beL_ok (x : Int) : ∀ k, U8ok (beL x k)
  | 0 => U8ok.nil
  | k + 1 => (beL_ok x k).app fun y hy => by simp only [List.mem_cons, List.not_mem_nil, or_false] at hy; subst hy; exact byK_ok x k
theorem refL_ok {bs : List Int} (h : U8ok bs) (k : Nat) : U8ok (refL bs k) := (padL_ok h _).app (beL_ok _ _)
/-- The document's bytes are the press's. -/
theorem ref_sha (bs : List Int) (hl : bs.length ≤ 1000000) : digL (compN IV (refL bs 8) ((refL bs 8).length / 64)) = shaL bs := by
  have hk : bs.length / 64 * 64 ≤ bs.length := by omega
  have e1 : lastL (absS P0 bs) = (refL bs 8).drop (64 * (bs.length / 64)) := by
    have hp : padz (bs.drop (64 * (bs.length / 64))).length = padz bs.length := by unfold padz; rw [List.length_drop]; omega
    have hb := beL_8 (x := IntKind.u64.wrap ((bs.length : Int) * 8)) (by rw [IntKind.wrap_u64]; omega)
    have hn : (absS P0 bs).n = (bs.length : Int) := by
      show IntKind.u64.wrap (0 + (bs.length : Int)) = _
      rw [IntKind.wrap_u64]; omega
    have hr : (absS P0 bs).r = bs.drop (64 * (bs.length / 64)) := rfl
    have hm : 8 * (bs.length : Int) = (bs.length : Int) * 8 := by omega
    simp only [lastL, hr, hp, hn, refL, hb, hiW, loW, hm, padL, List.append_assoc]
    rw [List.drop_append_of_le_length (by omega)]
  have e2 : (absS P0 bs).S = compN IV (refL bs 8) (bs.length / 64) := by
    show compN IV bs (bs.length / 64) = _
    have : refL bs 8 = bs ++ (128 :: List.replicate (padz bs.length) 0 ++ beL (IntKind.u64.wrap ((bs.length : Int) * 8)) 8) := by simp only [refL, padL, List.append_assoc, List.cons_append]
    rw [this, compN_app IV bs _ _ (by omega)]
  unfold shaL finS
  rw [e1, e2, compN_drop]
  congr 2
  rw [List.length_drop]
  have := refL_len bs 8
  have := padz_ok bs.length
  omega
theorem u8lset (xs : List Int) (i : Nat) (x : Int) : (u8l xs).set i (.int .u8 x) = u8l (xs.set i x) := by simp [u8l, List.map_set]
def dQ (S : S8) (i : Nat) : List Int := (digL S).take i ++ List.replicate (32 - i) 0
theorem dQ_set (S : S8) : ∀ {i : Nat}, i < 32 → (dQ S i).set i (IntKind.u8.wrap ((hF S (i / 4)).fdiv (2 ^ (8 * (3 - i % 4))))) = dQ S (i + 1) := by
  intro i hi
  have h := tbA_set (A := []) (f := digL S) (n := 32) (i := i) hi hi
  simp only [List.length_nil, Nat.zero_add, tbA, List.nil_append] at h
  have hv : ∀ i : Nat, i < 32 → (digL S).getD i 0 = IntKind.u8.wrap ((hF S (i / 4)).fdiv (2 ^ (8 * (3 - i % 4)))) := by
    have f1 : ∀ y : Int, y.fdiv 1 = y := fun y => by rw [Int.fdiv_eq_ediv_of_nonneg _ (by omega)]; omega
    intro i hi
    match i, hi with
    | 0, _ => rfl | 1, _ => rfl | 2, _ => rfl | 3, _ => show IntKind.u8.wrap S.a = IntKind.u8.wrap (S.a.fdiv 1); rw [f1]
    | 4, _ => rfl | 5, _ => rfl | 6, _ => rfl | 7, _ => show IntKind.u8.wrap S.b = IntKind.u8.wrap (S.b.fdiv 1); rw [f1]
    | 8, _ => rfl | 9, _ => rfl | 10, _ => rfl | 11, _ => show IntKind.u8.wrap S.c = IntKind.u8.wrap (S.c.fdiv 1); rw [f1]
    | 12, _ => rfl | 13, _ => rfl | 14, _ => rfl | 15, _ => show IntKind.u8.wrap S.d = IntKind.u8.wrap (S.d.fdiv 1); rw [f1]
    | 16, _ => rfl | 17, _ => rfl | 18, _ => rfl | 19, _ => show IntKind.u8.wrap S.e = IntKind.u8.wrap (S.e.fdiv 1); rw [f1]
    | 20, _ => rfl | 21, _ => rfl | 22, _ => rfl | 23, _ => show IntKind.u8.wrap S.f = IntKind.u8.wrap (S.f.fdiv 1); rw [f1]
    | 24, _ => rfl | 25, _ => rfl | 26, _ => rfl | 27, _ => show IntKind.u8.wrap S.g = IntKind.u8.wrap (S.g.fdiv 1); rw [f1]
    | 28, _ => rfl | 29, _ => rfl | 30, _ => rfl | 31, _ => show IntKind.u8.wrap S.h = IntKind.u8.wrap (S.h.fdiv 1); rw [f1]
    | n + 32, h => omega
  rw [← hv i hi]; exact h
theorem dQ_len (S : S8) {i : Nat} (h : i ≤ 32) : (dQ S i).length = 32 := by
  have : (digL S).length = 32 := rfl
  simp only [dQ, List.length_append, List.length_take, List.length_replicate, this]; omega
end Go.Proofs.Ytelkmimmmhkbhaa
