/- Walks and facts of this seat's program over abstract states, printed by programs of mine; no conditions but those that each theorem names. -/
import Derived.Test.YtdkfbbjpblfclaaM5
set_option linter.unusedSimpArgs false
set_option linter.unusedVariables false
set_option maxRecDepth 100000
set_option maxHeartbeats 4000000
namespace Go.Proofs.Ytdkfbbjpblfclaa
open Go Go.Eng

/-- What a device's first blocks tell. -/
structure GoodS (D : DS) (n k : Nat) (f : Nat → SL) (i : Nat) : Prop where
  b : ¬ vis D.S D.E i = zB
  d : decS (vis D.S D.E i) = f i
  o : decO (vis D.S D.E i) = true
  s : (f i).size ≤ 262144
  fr : (k : Int) ≤ (f i).fr
  e : (f i).fr + needZ (f i).size ≤ (n : Int)
  h : shaL ((datL D (f i).fr.toNat (needZ (f i).size).toNat).take (f i).size.toNat) = (f i).sum
structure Good (D : DS) (n k : Nat) (f : Nat → SL) : Prop where
  ok : ∀ i, OkS (f i)
  at_ : ∀ i, i < k → (vis D.S D.E i = zB ∧ f i = zS) ∨ GoodS D n k f i
  two : ∀ i j, i < k → j < i → ¬ (f j).kind = 0 → ¬ vis D.S D.E i = zB → ¬ (f j).key = (f i).key
  out : ∀ i, k ≤ i → f i = zS
def preF (f : Nat → SL) (i : Nat) : Nat → SL := fun j => if j < i then f j else zS
theorem preF_ok {f : Nat → SL} (h : ∀ i, OkS (f i)) (i : Nat) : ∀ j, OkS (preF f i j) := fun j => by
  unfold preF; split
  · exact h j
  · exact zS_ok
theorem preF_up (f : Nat → SL) (i : Nat) : upF (preF f i) i (f i) = preF f (i + 1) := funext fun j => by
  unfold upF preF
  repeat' split
  all_goals first | rfl | omega | (subst_vars; rfl)
theorem preF_z {f : Nat → SL} {i : Nat} (h : f i = zS) : preF f i = preF f (i + 1) := funext fun j => by
  unfold preF
  repeat' split
  all_goals first | rfl | omega | (rw [show j = i by omega]; exact h.symm)
theorem Good.miss {D : DS} {n k : Nat} {f : Nat → SL} (h : Good D n k f) {i : Nat} (hi : i < k) (hb : ¬ vis D.S D.E i = zB) : fnd (fdB (f i).key) (preF f i) k < 0 := by
  rcases Int.lt_or_le (fnd (fdB (f i).key) (preF f i) k) 0 with h1 | h1
  · exact h1
  · obtain ⟨j, hj, _, hp, _⟩ := fnd_pos h1
    unfold fdB preF at hp
    rw [Bool.and_eq_true, decide_eq_true_iff, decide_eq_true_iff] at hp
    split at hp
    · rename_i hji; exact absurd hp.2 (h.two i j hi hji hp.1 hb)
    · exact absurd rfl hp.1
theorem Good.fin {D : DS} {n k : Nat} {f : Nat → SL} (h : Good D n k f) : preF f k = f := funext fun j => by
  unfold preF; split
  · rfl
  · rename_i hj; exact (h.out j (by omega)).symm
theorem byB_ok {l : List Int} (h : U8ok l) : ∀ i, 0 ≤ byB l i ∧ byB l i ≤ 255 := fun i => by
  unfold byB
  rw [List.getD_eq_getElem?_getD]
  cases e : l[i]? with
  | none => exact ⟨Int.le_refl _, by decide⟩
  | some x => exact h x (List.mem_of_getElem? e)
theorem datL_ok {D : DS} (h : ∀ i, U8ok (vis D.S D.E i)) (k : Nat) : ∀ N, U8ok (datL D k N)
  | 0 => fun x hx => by cases hx
  | N + 1 => fun x hx => by
    have e : datL D k (N + 1) = datL D k N ++ vis D.S D.E (k + N) := rfl
    rw [e] at hx
    rcases List.mem_append.1 hx with h1 | h1
    · exact datL_ok h k N x h1
    · exact h _ x h1
theorem zeros_slots (z : Value) (arr : Array Value) (hz : z.cells = arr) (hs : arr.size = 67) (hl : slC zS = arr.toList.map cellOf) (k : Nat) : zeros z (k * 67) = cC k (fun _ => zS) := by
  unfold zeros
  rw [hz]
  refine List.ext_getElem? fun i => ?_
  have hF : ∀ j, ((fun _ : Nat => slC zS) j).length = 67 := fun _ => rfl
  rcases Nat.lt_or_ge i (k * 67) with h | h
  · rw [List.getElem?_map, List.getElem?_range h]
    have h1 := catC_get (F := fun _ => slC zS) (n := k) (k := i / 67) (a := i % 67) hF (by omega) (Nat.mod_lt _ (by decide))
    rw [show i / 67 * 67 + i % 67 = i by omega] at h1
    unfold cC
    rw [h1, Option.map_some, hs]
    have hm : i % 67 < arr.size := by rw [hs]; exact Nat.mod_lt _ (by decide)
    rw [hl, List.getElem?_map, Array.getElem?_toList, Array.getElem?_eq_getElem hm, Option.map_some, getElem!_pos arr _ hm]
  · rw [List.getElem?_eq_none (by simp; omega), List.getElem?_eq_none (by unfold cC; rw [catC_len hF]; omega)]
def zSV : Value := .agg #[.int .i64 0, .int .u8 0, .int .u8 0, .int .u8 0, .int .u8 0, .int .u8 0, .int .u8 0, .int .u8 0, .int .u8 0, .int .u8 0, .int .u8 0, .int .u8 0, .int .u8 0, .int .u8 0, .int .u8 0, .int .u8 0, .int .u8 0, .int .u8 0, .int .u8 0, .int .u8 0, .int .u8 0, .int .u8 0, .int .u8 0, .int .u8 0, .int .u8 0, .int .u8 0, .int .u8 0, .int .u8 0, .int .u8 0, .int .u8 0, .int .u8 0, .int .u8 0, .int .u8 0, .int .u8 0, .int .u8 0, .int .u8 0, .int .u8 0, .int .u8 0, .int .u8 0, .int .u8 0, .int .u8 0, .int .u8 0, .int .u8 0, .int .u8 0, .int .u8 0, .int .u8 0, .int .u8 0, .int .u8 0, .int .u8 0, .int .u8 0, .int .u8 0, .int .u8 0, .int .u8 0, .int .u8 0, .int .u8 0, .int .u8 0, .int .u8 0, .int .u8 0, .int .u8 0, .int .u8 0, .int .u8 0, .int .u8 0, .int .u8 0, .int .u8 0, .int .u8 0, .int .i64 0, .int .i64 0]
theorem zrow (k : Nat) : zeros zSV (k * 67) = cC k (fun _ => zS) := zeros_slots zSV _ rfl rfl rfl k
theorem slotsZ_nat (n : Nat) (hn : n ≤ 8192) : slotsZ (n : Int) = ((min (n / 4) 512 : Nat) : Int) := by unfold slotsZ; split <;> omega
theorem open_c (rd rs rm n k : Nat) (D : DS) (f : Nat → SL) (m : AMem) (hd : HasD m rd rs rm n D) (hwd : WfD n D) (hdn : D.down = false) (hn : n ≤ 8192) (hk : (k : Int) = slotsZ (n : Int)) (hu : ∀ i, U8ok (vis D.S D.E i)) (hg : Good D n k f) : Ctr Try.prog 7 [.one (.ptr rd 0 0)] m (.tup [(false, [.ptr (m.length + 1) 0 0]), (false, [.int .i64 0])]) (m ++ [rS 0 k f, vtB rd m.length ⟨k, f, (k : Int), 0⟩]) := by
  refine Ctr.enter Try.func7 rfl (by decide) (rs := [.tmp 2, .tmp 3]) (nt := 108) rfl rfl fun hwf Q hQ => ?_
  have hrd := hd.d
  have ld := get_lt hrd
  have hkn : k ≤ 512 ∧ k ≤ n := by have := slotsZ_nat n hn; omega
  have hke := hk.symm
  have hko := hg.ok
  have zr : zeros zSV ((k : Int).toNat * 67) = cC k (fun _ => zS) := by rw [Int.toNat_natCast]; exact zrow k
  have zr0 : cC k (preF f 0) = cC k (fun _ => zS) := catC_congr fun i _ => by unfold preF; rw [if_neg (by omega)]
  unfold zSV at zr
  have q1 : (67 : Int) * (k : Int) ≤ 281474976710656 := by omega
  have q2 : (k : Int) ≤ 281474976710656 := by omega
  have q3 : (0 : Int) ≤ (k : Int) := by omega
  have q4 : (88 : Int) * (k : Int) ≤ 281474976710656 := by omega
  have vl := fun i => visD_len hwd i
  have lu := fun i => (show (u8l (vis D.S D.E i)).length = 128 by rw [u8l_len]; exact vl i)
  have tu := fun i => List.take_of_length_le (Nat.le_of_eq (lu i))
  have vu := fun i => u8l_vals (vis D.S D.E i)
  have sl := fun i => slC_len (hko i).w
  have f0 := fun i => slC_0 (f i)
  have f1 := fun i => slC_1 (hko i).w
  have f2 := fun i => slC_2 (hko i).w
  have f3 := fun i => slC_3 (hko i).w
  have f4 := fun i => slC_4 (hko i).w
  have t67 := fun i => slC_take (hko i).w
  have zb := fun i => zb0 (sl i)
  have hfin := hg.fin
  have sb : ∀ i, setL [CV.int .u8 0, CV.int .u8 0, CV.int .u8 0, CV.int .u8 0, CV.int .u8 0, CV.int .u8 0, CV.int .u8 0, CV.int .u8 0, CV.int .u8 0, CV.int .u8 0, CV.int .u8 0, CV.int .u8 0, CV.int .u8 0, CV.int .u8 0, CV.int .u8 0, CV.int .u8 0, CV.int .u8 0, CV.int .u8 0, CV.int .u8 0, CV.int .u8 0, CV.int .u8 0, CV.int .u8 0, CV.int .u8 0, CV.int .u8 0, CV.int .u8 0, CV.int .u8 0, CV.int .u8 0, CV.int .u8 0, CV.int .u8 0, CV.int .u8 0, CV.int .u8 0, CV.int .u8 0, CV.int .u8 0, CV.int .u8 0, CV.int .u8 0, CV.int .u8 0, CV.int .u8 0, CV.int .u8 0, CV.int .u8 0, CV.int .u8 0, CV.int .u8 0, CV.int .u8 0, CV.int .u8 0, CV.int .u8 0, CV.int .u8 0, CV.int .u8 0, CV.int .u8 0, CV.int .u8 0, CV.int .u8 0, CV.int .u8 0, CV.int .u8 0, CV.int .u8 0, CV.int .u8 0, CV.int .u8 0, CV.int .u8 0, CV.int .u8 0, CV.int .u8 0, CV.int .u8 0, CV.int .u8 0, CV.int .u8 0, CV.int .u8 0, CV.int .u8 0, CV.int .u8 0, CV.int .u8 0, CV.int .u8 0, CV.int .u8 0, CV.int .u8 0, CV.int .u8 0, CV.int .u8 0, CV.int .u8 0, CV.int .u8 0, CV.int .u8 0, CV.int .u8 0, CV.int .u8 0, CV.int .u8 0, CV.int .u8 0, CV.int .u8 0, CV.int .u8 0, CV.int .u8 0, CV.int .u8 0, CV.int .u8 0, CV.int .u8 0, CV.int .u8 0, CV.int .u8 0, CV.int .u8 0, CV.int .u8 0, CV.int .u8 0, CV.int .u8 0, CV.int .u8 0, CV.int .u8 0, CV.int .u8 0, CV.int .u8 0, CV.int .u8 0, CV.int .u8 0, CV.int .u8 0, CV.int .u8 0, CV.int .u8 0, CV.int .u8 0, CV.int .u8 0, CV.int .u8 0, CV.int .u8 0, CV.int .u8 0, CV.int .u8 0, CV.int .u8 0, CV.int .u8 0, CV.int .u8 0, CV.int .u8 0, CV.int .u8 0, CV.int .u8 0, CV.int .u8 0, CV.int .u8 0, CV.int .u8 0, CV.int .u8 0, CV.int .u8 0, CV.int .u8 0, CV.int .u8 0, CV.int .u8 0, CV.int .u8 0, CV.int .u8 0, CV.int .u8 0, CV.int .u8 0, CV.int .u8 0, CV.int .u8 0, CV.int .u8 0, CV.int .u8 0, CV.int .u8 0, CV.int .u8 0, CV.int .u8 0] 0 (u8l (vis D.S D.E i)) = u8l (vis D.S D.E i) := fun i => setL_full (by rw [lu i]; rfl)
  
  refine AW.seq_k fun K hK => ?_
  refine AW.region (by decide) ?_
  simp only [push_cast, simprocAttr, hrd, lk_old hrd, hke, ↓zr, q1, q2, q3, q4, Int.le_refl, Int.toNat_natCast, vl, lu, tu, vu, sl, f0, f1, f2, f3, f4, t67, zb, sb, slC_vals, u8l_len, rS]
  refine Thn_n ?_
  refine hK _ _ ?_
  clear hK K
  refine AW.seq_k fun K hK => ?_
  refine AW.seq_k fun K hK => ?_
  refine AW.region (by decide) ?_
  simp only [push_cast, simprocAttr, hrd, lk_old hrd, hke, ↓zr, q1, q2, q3, q4, Int.le_refl, Int.toNat_natCast, vl, lu, tu, vu, sl, f0, f1, f2, f3, f4, t67, zb, sb, slC_vals, u8l_len, rS]
  refine Thn_n ?_
  refine hK _ _ ?_
  clear hK K
  refine AW.cond_f rfl ?_
  refine AW.skip ?_
  refine Thn_n ?_
  refine hK _ _ ?_
  clear hK K
  refine AW.seq_k fun K hK => ?_
  refine AW.drawX fol (by kernel_rfl) ?_
  refine DX.split 4 6 (by decide) ?_ ?_
  focus
    refine DX.run [0, 1, 2, 3, 4, 5, 6, 7, 8, 9, 10] [.val, .val, .ext, .ext, .ext, .val, .ext, .ext, .val, .ext, .val] (by simp only [permL, reOp, List.idxOf_cons, push_cast, simprocAttr, hrd, lk_old hrd, hke, ↓zr, q1, q2, q3, q4, Int.le_refl, Int.toNat_natCast, vl, lu, tu, vu, sl, f0, f1, f2, f3, f4, t67, zb, sb, slC_vals, u8l_len, rS]; first | done | rfl) (by kernel_rfl) ?_
    iterate 2
      simp only [push_cast, simprocAttr, hrd, lk_old hrd, hke, ↓zr, q1, q2, q3, q4, Int.le_refl, Int.toNat_natCast, vl, lu, tu, vu, sl, f0, f1, f2, f3, f4, t67, zb, sb, slC_vals, u8l_len, rS]
      refine DCall.by0 ((by first | exact blocks_c rd rs rm n D _ hrd | exact blocks_c rd rs rm n D _ (lk_old hrd _))) ?_
      simp only [push_cast, simprocAttr, hrd, lk_old hrd, hke, ↓zr, q1, q2, q3, q4, Int.le_refl, Int.toNat_natCast, vl, lu, tu, vu, sl, f0, f1, f2, f3, f4, t67, zb, sb, slC_vals, u8l_len, rS]
      refine DCall.by0 (slots_c (n : Int) _ (by omega) (by omega)) ?_
      simp only [push_cast, simprocAttr, hrd, lk_old hrd, hke, ↓zr, q1, q2, q3, q4, Int.le_refl, Int.toNat_natCast, vl, lu, tu, vu, sl, f0, f1, f2, f3, f4, t67, zb, sb, slC_vals, u8l_len, rS]
      refine DExt.by (by first | rfl | exact (List.append_nil _).symm | (simp only [List.append_assoc, List.cons_append, List.nil_append]; rfl)) ?_
    simp only [push_cast, simprocAttr, hrd, lk_old hrd, hke, ↓zr, q1, q2, q3, q4, Int.le_refl, Int.toNat_natCast, vl, lu, tu, vu, sl, f0, f1, f2, f3, f4, t67, zb, sb, slC_vals, u8l_len, rS]
    skip
  rotate_left 1
  focus
    refine DX.split 4 7 (by decide) ?_ ?_
    focus
      refine DX.run [0, 1, 2, 3, 5, 6, 4, 7, 8, 9, 10] [.val, .val, .ext, .ext, .val, .ext, .ext, .ext, .val, .ext, .val] (by simp only [permL, reOp, List.idxOf_cons, push_cast, simprocAttr, hrd, lk_old hrd, hke, ↓zr, q1, q2, q3, q4, Int.le_refl, Int.toNat_natCast, vl, lu, tu, vu, sl, f0, f1, f2, f3, f4, t67, zb, sb, slC_vals, u8l_len, rS]; first | done | rfl) (by kernel_rfl) ?_
      simp only [push_cast, simprocAttr, hrd, lk_old hrd, hke, ↓zr, q1, q2, q3, q4, Int.le_refl, Int.toNat_natCast, vl, lu, tu, vu, sl, f0, f1, f2, f3, f4, t67, zb, sb, slC_vals, u8l_len, rS]
      refine DCall.by0 ((by first | exact blocks_c rd rs rm n D _ hrd | exact blocks_c rd rs rm n D _ (lk_old hrd _))) ?_
      simp only [push_cast, simprocAttr, hrd, lk_old hrd, hke, ↓zr, q1, q2, q3, q4, Int.le_refl, Int.toNat_natCast, vl, lu, tu, vu, sl, f0, f1, f2, f3, f4, t67, zb, sb, slC_vals, u8l_len, rS]
      refine DCall.by0 (slots_c (n : Int) _ (by omega) (by omega)) ?_
      simp only [push_cast, simprocAttr, hrd, lk_old hrd, hke, ↓zr, q1, q2, q3, q4, Int.le_refl, Int.toNat_natCast, vl, lu, tu, vu, sl, f0, f1, f2, f3, f4, t67, zb, sb, slC_vals, u8l_len, rS]
      refine DCall.by0 ((by first | exact blocks_c rd rs rm n D _ hrd | exact blocks_c rd rs rm n D _ (lk_old hrd _))) ?_
      simp only [push_cast, simprocAttr, hrd, lk_old hrd, hke, ↓zr, q1, q2, q3, q4, Int.le_refl, Int.toNat_natCast, vl, lu, tu, vu, sl, f0, f1, f2, f3, f4, t67, zb, sb, slC_vals, u8l_len, rS]
      refine DExt.by (by first | rfl | exact (List.append_nil _).symm | (simp only [List.append_assoc, List.cons_append, List.nil_append]; rfl)) ?_
      simp only [push_cast, simprocAttr, hrd, lk_old hrd, hke, ↓zr, q1, q2, q3, q4, Int.le_refl, Int.toNat_natCast, vl, lu, tu, vu, sl, f0, f1, f2, f3, f4, t67, zb, sb, slC_vals, u8l_len, rS]
      refine DCall.by0 (slots_c (n : Int) _ (by omega) (by omega)) ?_
      simp only [push_cast, simprocAttr, hrd, lk_old hrd, hke, ↓zr, q1, q2, q3, q4, Int.le_refl, Int.toNat_natCast, vl, lu, tu, vu, sl, f0, f1, f2, f3, f4, t67, zb, sb, slC_vals, u8l_len, rS]
      refine DExt.by (by first | rfl | exact (List.append_nil _).symm | (simp only [List.append_assoc, List.cons_append, List.nil_append]; rfl)) ?_
      simp only [push_cast, simprocAttr, hrd, lk_old hrd, hke, ↓zr, q1, q2, q3, q4, Int.le_refl, Int.toNat_natCast, vl, lu, tu, vu, sl, f0, f1, f2, f3, f4, t67, zb, sb, slC_vals, u8l_len, rS]
      skip
    rotate_left 1
    focus
      refine DX.run [0, 1, 2, 3, 5, 6, 7, 4, 8, 9, 10] [.val, .val, .ext, .ext, .val, .ext, .ext, .ext, .val, .ext, .val] (by simp only [permL, reOp, List.idxOf_cons, push_cast, simprocAttr, hrd, lk_old hrd, hke, ↓zr, q1, q2, q3, q4, Int.le_refl, Int.toNat_natCast, vl, lu, tu, vu, sl, f0, f1, f2, f3, f4, t67, zb, sb, slC_vals, u8l_len, rS]; first | done | rfl) (by kernel_rfl) ?_
      iterate 2
        simp only [push_cast, simprocAttr, hrd, lk_old hrd, hke, ↓zr, q1, q2, q3, q4, Int.le_refl, Int.toNat_natCast, vl, lu, tu, vu, sl, f0, f1, f2, f3, f4, t67, zb, sb, slC_vals, u8l_len, rS]
        refine DCall.by0 ((by first | exact blocks_c rd rs rm n D _ hrd | exact blocks_c rd rs rm n D _ (lk_old hrd _))) ?_
        simp only [push_cast, simprocAttr, hrd, lk_old hrd, hke, ↓zr, q1, q2, q3, q4, Int.le_refl, Int.toNat_natCast, vl, lu, tu, vu, sl, f0, f1, f2, f3, f4, t67, zb, sb, slC_vals, u8l_len, rS]
        refine DCall.by0 (slots_c (n : Int) _ (by omega) (by omega)) ?_
      iterate 2
        simp only [push_cast, simprocAttr, hrd, lk_old hrd, hke, ↓zr, q1, q2, q3, q4, Int.le_refl, Int.toNat_natCast, vl, lu, tu, vu, sl, f0, f1, f2, f3, f4, t67, zb, sb, slC_vals, u8l_len, rS]
        refine DExt.by (by first | rfl | exact (List.append_nil _).symm | (simp only [List.append_assoc, List.cons_append, List.nil_append]; rfl)) ?_
      simp only [push_cast, simprocAttr, hrd, lk_old hrd, hke, ↓zr, q1, q2, q3, q4, Int.le_refl, Int.toNat_natCast, vl, lu, tu, vu, sl, f0, f1, f2, f3, f4, t67, zb, sb, slC_vals, u8l_len, rS]
      skip
    rotate_left 1
  rotate_left 2
  all_goals (
  refine Thn_n ?_
  refine hK _ _ ?_
  clear hK K
  refine AW.seq_k fun K hK => ?_
  refine AW.seq_k fun K hK => ?_
  refine AW.region (by decide) ?_
  simp only [push_cast, simprocAttr, hrd, lk_old hrd, hke, ↓zr, q1, q2, q3, q4, Int.le_refl, Int.toNat_natCast, vl, lu, tu, vu, sl, f0, f1, f2, f3, f4, t67, zb, sb, slC_vals, u8l_len, rS]
  refine Thn_n ?_
  refine hK _ _ ?_
  clear hK K
  refine AW.block ?_
  refine AW.loopK [0, 4, 28] (fun i => i ≤ k) (fun i => [(29, .one (.int .i64 (i : Int)))]) (fun i => [(m.length, rS 0 k (preF f i))]) (fun i => k - i) 0 (by omega) ?_ ?_ fun i hi7 => ?_
  · first | rfl | (simp only [Keeps, Tm.get_cons, Nat.reduceEqDiff, ↓reduceIte, if_true, if_false, ite_true, ite_false, true_and, and_true, and_self, reduceCtorEq, zr0] <;> repeat' (first | rfl | apply And.intro))
  · first | rfl | (simp only [setAll, push_cast, simprocAttr, hrd, lk_old hrd, hke, ↓zr, q1, q2, q3, q4, Int.le_refl, Int.toNat_natCast, vl, lu, tu, vu, sl, f0, f1, f2, f3, f4, t67, zb, sb, slC_vals, u8l_len, rS, zr0] <;> rfl)
  try simp only [keepL, setAll, push_cast, simprocAttr, hrd, lk_old hrd, hke, ↓zr, q1, q2, q3, q4, Int.le_refl, Int.toNat_natCast, vl, lu, tu, vu, sl, f0, f1, f2, f3, f4, t67, zb, sb, slC_vals, u8l_len, rS]
  refine AW.seq_k fun K hK => ?_
  refine AW.region (by decide) ?_
  simp only [push_cast, simprocAttr, hrd, lk_old hrd, hke, ↓zr, q1, q2, q3, q4, Int.le_refl, Int.toNat_natCast, vl, lu, tu, vu, sl, f0, f1, f2, f3, f4, t67, zb, sb, slC_vals, u8l_len, rS]
  refine Thn_n ?_
  refine hK _ _ ?_
  clear hK K
  refine AW.seq_k fun K hK => ?_
  refine AW.cond rfl (fun h30 => ?_) (fun h30 => ?_)
  · have hlt : i < k := by have := of_decide_eq_true h30; omega
    have zq : eqParts Try.prog (eqV Try.prog 9999) (u8l (vis D.S D.E i)) [CV.int .u8 0, CV.int .u8 0, CV.int .u8 0, CV.int .u8 0, CV.int .u8 0, CV.int .u8 0, CV.int .u8 0, CV.int .u8 0, CV.int .u8 0, CV.int .u8 0, CV.int .u8 0, CV.int .u8 0, CV.int .u8 0, CV.int .u8 0, CV.int .u8 0, CV.int .u8 0, CV.int .u8 0, CV.int .u8 0, CV.int .u8 0, CV.int .u8 0, CV.int .u8 0, CV.int .u8 0, CV.int .u8 0, CV.int .u8 0, CV.int .u8 0, CV.int .u8 0, CV.int .u8 0, CV.int .u8 0, CV.int .u8 0, CV.int .u8 0, CV.int .u8 0, CV.int .u8 0, CV.int .u8 0, CV.int .u8 0, CV.int .u8 0, CV.int .u8 0, CV.int .u8 0, CV.int .u8 0, CV.int .u8 0, CV.int .u8 0, CV.int .u8 0, CV.int .u8 0, CV.int .u8 0, CV.int .u8 0, CV.int .u8 0, CV.int .u8 0, CV.int .u8 0, CV.int .u8 0, CV.int .u8 0, CV.int .u8 0, CV.int .u8 0, CV.int .u8 0, CV.int .u8 0, CV.int .u8 0, CV.int .u8 0, CV.int .u8 0, CV.int .u8 0, CV.int .u8 0, CV.int .u8 0, CV.int .u8 0, CV.int .u8 0, CV.int .u8 0, CV.int .u8 0, CV.int .u8 0, CV.int .u8 0, CV.int .u8 0, CV.int .u8 0, CV.int .u8 0, CV.int .u8 0, CV.int .u8 0, CV.int .u8 0, CV.int .u8 0, CV.int .u8 0, CV.int .u8 0, CV.int .u8 0, CV.int .u8 0, CV.int .u8 0, CV.int .u8 0, CV.int .u8 0, CV.int .u8 0, CV.int .u8 0, CV.int .u8 0, CV.int .u8 0, CV.int .u8 0, CV.int .u8 0, CV.int .u8 0, CV.int .u8 0, CV.int .u8 0, CV.int .u8 0, CV.int .u8 0, CV.int .u8 0, CV.int .u8 0, CV.int .u8 0, CV.int .u8 0, CV.int .u8 0, CV.int .u8 0, CV.int .u8 0, CV.int .u8 0, CV.int .u8 0, CV.int .u8 0, CV.int .u8 0, CV.int .u8 0, CV.int .u8 0, CV.int .u8 0, CV.int .u8 0, CV.int .u8 0, CV.int .u8 0, CV.int .u8 0, CV.int .u8 0, CV.int .u8 0, CV.int .u8 0, CV.int .u8 0, CV.int .u8 0, CV.int .u8 0, CV.int .u8 0, CV.int .u8 0, CV.int .u8 0, CV.int .u8 0, CV.int .u8 0, CV.int .u8 0, CV.int .u8 0, CV.int .u8 0, CV.int .u8 0, CV.int .u8 0, CV.int .u8 0, CV.int .u8 0, CV.int .u8 0, CV.int .u8 0] (List.map (fun i => (5, i)) (List.range' 0 128)) = some (decide (vis D.S D.E i = zB)) := eqpn (ys := zB) (vl i) rfl
    have c0 : (0 : Int) ≤ (i : Int) := by omega
    have c1 : (i : Int) < (k : Int) := by omega
    have c2 : i * 67 + 67 ≤ k * 67 := by omega
    have cl := cC_len (preF_ok hko i) k
    refine AW.skip ?_
    refine Thn_n ?_
    refine hK _ _ ?_
    clear hK K
    refine AW.seq_k fun K hK => ?_
    refine AW.block ?_
    refine AW.seq_k fun K hK => ?_
    refine AW.region (by decide) ?_
    simp only [push_cast, simprocAttr, hrd, lk_old hrd, hke, ↓zr, q1, q2, q3, q4, Int.le_refl, Int.toNat_natCast, vl, lu, tu, vu, sl, f0, f1, f2, f3, f4, t67, zb, sb, slC_vals, u8l_len, rS, zq, c0, c1, c2, cl]
    refine Thn_n ?_
    refine hK _ _ ?_
    clear hK K
    refine AW.seq_k fun K hK => ?_
    refine AW.region (by decide) ?_
    simp only [push_cast, simprocAttr, hrd, lk_old hrd, hke, ↓zr, q1, q2, q3, q4, Int.le_refl, Int.toNat_natCast, vl, lu, tu, vu, sl, f0, f1, f2, f3, f4, t67, zb, sb, slC_vals, u8l_len, rS, zq, c0, c1, c2, cl]
    refine CThen.by (rd_ok rd rs rm n i D _ (hd.mono _) hwd hdn (by omega)) ?_
    simp only [push_cast, simprocAttr, hrd, lk_old hrd, hke, ↓zr, q1, q2, q3, q4, Int.le_refl, Int.toNat_natCast, vl, lu, tu, vu, sl, f0, f1, f2, f3, f4, t67, zb, sb, slC_vals, u8l_len, rS, zq, c0, c1, c2, cl]
    refine Thn_n ?_
    refine hK _ _ ?_
    clear hK K
    refine AW.seq_k fun K hK => ?_
    refine AW.seq_k fun K hK => ?_
    refine AW.region (by decide) ?_
    simp only [push_cast, simprocAttr, hrd, lk_old hrd, hke, ↓zr, q1, q2, q3, q4, Int.le_refl, Int.toNat_natCast, vl, lu, tu, vu, sl, f0, f1, f2, f3, f4, t67, zb, sb, slC_vals, u8l_len, rS, zq, c0, c1, c2, cl]
    refine Thn_n ?_
    refine hK _ _ ?_
    clear hK K
    refine AW.cond_f rfl ?_
    refine AW.skip ?_
    refine Thn_n ?_
    refine hK _ _ ?_
    clear hK K
    refine AW.seq_k fun K hK => ?_
    refine AW.seq_k fun K hK => ?_
    refine AW.region (by decide) ?_
    simp only [push_cast, simprocAttr, hrd, lk_old hrd, hke, ↓zr, q1, q2, q3, q4, Int.le_refl, Int.toNat_natCast, vl, lu, tu, vu, sl, f0, f1, f2, f3, f4, t67, zb, sb, slC_vals, u8l_len, rS, zq, c0, c1, c2, cl]
    refine Thn_n ?_
    refine hK _ _ ?_
    clear hK K
    refine AW.cond rfl (fun h43 => ?_) (fun h43 => ?_)
    · have hz : vis D.S D.E i = zB := of_decide_eq_true h43
      have hfz : f i = zS := (hg.at_ i hlt).elim (fun h => h.2) (fun h => absurd hz h.b)
      have hnx : preF f i = preF f (i + 1) := preF_z hfz
      refine AW.exit ?_
      refine Thn_e ?_
      clear hK K
      refine InB_here ?_
      refine Thn_n ?_
      refine hK _ _ ?_
      clear hK K
      refine AW.region (by decide) ?_
      simp only [push_cast, simprocAttr, hrd, lk_old hrd, hke, ↓zr, q1, q2, q3, q4, Int.le_refl, Int.toNat_natCast, vl, lu, tu, vu, sl, f0, f1, f2, f3, f4, t67, zb, sb, slC_vals, u8l_len, rS, zq, c0, c1, c2, cl]
      refine Thn_n ?_
      have hwi : IntKind.i64.wrap ((i:Int)+1) = (i:Int)+1 := wi (by omega)
      refine ⟨i + 1, by omega, by omega, ?_⟩
      try simp only [keepL, setAll, push_cast, simprocAttr, hrd, lk_old hrd, hke, ↓zr, q1, q2, q3, q4, Int.le_refl, Int.toNat_natCast, vl, lu, tu, vu, sl, f0, f1, f2, f3, f4, t67, zb, sb, slC_vals, u8l_len, rS, zq, c0, c1, c2, cl, hwi, hnx]
      first
        | exact Weak.to (extra := [_]) (by simp only [Keeps, Tm.get_cons, Nat.reduceEqDiff, ↓reduceIte, if_true, if_false, ite_true, ite_false, true_and, and_true, and_self, reduceCtorEq, hwi, hnx]) (by first | rfl | (simp only [List.append_assoc, List.cons_append, List.nil_append]; rfl)) (by first | rfl | (simp [AV.below, CV.below]; done) | (simp [AV.below, CV.below]; omega)) (by first | exact hwf | exact MWf.app (hwf.grow (by simp)) (MWf_cons (cC_below _ _ _) (MWf_cons (by simp [CV.below] <;> omega) MWf_nil)))
        | exact Weak.to (extra := [_, _, _, _]) (by simp only [Keeps, Tm.get_cons, Nat.reduceEqDiff, ↓reduceIte, if_true, if_false, ite_true, ite_false, true_and, and_true, and_self, reduceCtorEq, hwi, hnx]) (by first | rfl | (simp only [List.append_assoc, List.cons_append, List.nil_append]; rfl)) (by first | rfl | (simp [AV.below, CV.below]; done) | (simp [AV.below, CV.below]; omega)) (by first | exact hwf | exact MWf.app (hwf.grow (by simp)) (MWf_cons (cC_below _ _ _) (MWf_cons (by simp [CV.below] <;> omega) MWf_nil)))
    · have hz : ¬ vis D.S D.E i = zB := of_decide_eq_false h43
      have G : GoodS D n k f i := (hg.at_ i hlt).elim (fun h => absurd h.1 hz) id
      have dq := G.d
      have oq := G.o
      have hs1 := G.s
      have hf1 := G.fr
      have he1 := G.e
      have o := hko i
      have o0 := o.f0
      have o2 := o.s0
      obtain ⟨nb0, nb1⟩ := needZ_b o2 o.s1
      have g1 : ¬ (262144 : Int) < (f i).size := by omega
      have g2 : ¬ (f i).fr < (k : Int) := by omega
      have g3 : ¬ (n : Int) < (f i).fr + needZ (f i).size := by omega
      have w71 : IntKind.i64.wrap ((f i).fr + needZ (f i).size) = (f i).fr + needZ (f i).size := wi (by omega)
      have hm := (fnd_neg (hg.miss hlt hz)).1
      have cst : setL (cC k (preF f i)) (i * 67) (slC (f i)) = cC k (preF f (i + 1)) := by rw [cC_set (preF_ok hko i) hlt o, preF_up]
      obtain ⟨kk, hkk⟩ : ∃ q : Nat, q = (f i).fr.toNat := ⟨_, rfl⟩
      obtain ⟨N, hN⟩ : ∃ q : Nat, q = (needZ (f i).size).toNat := ⟨_, rfl⟩
      obtain ⟨z, hzz⟩ : ∃ q : Nat, q = (f i).size.toNat := ⟨_, rfl⟩
      have hsum := G.h
      rw [← hkk, ← hN, ← hzz] at hsum
      have hNz : (N : Int) = needZ (f i).size := by omega
      obtain ⟨nn1, nn2⟩ := needZ_nat hNz o2
      have dl := datL_len hwd kk N
      obtain ⟨bs, hbs⟩ : ∃ bs, bs = (datL D kk N).take z := ⟨_, rfl⟩
      rw [← hbs] at hsum
      have bl : bs.length = z := by rw [hbs, List.length_take, dl]; omega
      have bo : U8ok bs := fun x hx => datL_ok hu kk N x (by rw [hbs] at hx; exact List.mem_of_mem_take hx)
      have eq := eqpn (shaL_len bs) o.w.s
      rw [decide_eq_true hsum] at eq
      have hz2 := hzz.symm
      have hnx := True.intro
      refine AW.skip ?_
      refine Thn_n ?_
      refine hK _ _ ?_
      clear hK K
      refine AW.seq_k fun K hK => ?_
      refine AW.region (by decide) ?_
      simp only [push_cast, simprocAttr, hrd, lk_old hrd, hke, ↓zr, q1, q2, q3, q4, Int.le_refl, Int.toNat_natCast, vl, lu, tu, vu, sl, f0, f1, f2, f3, f4, t67, zb, sb, slC_vals, u8l_len, rS, zq, c0, c1, c2, cl, dq, oq, g1, g2, g3, w71, hm, cst, eq, hz2]
      refine CThen.by (dec_c (vis D.S D.E i) _ (vl i) (byB_ok (hu i))) ?_
      simp only [push_cast, simprocAttr, hrd, lk_old hrd, hke, ↓zr, q1, q2, q3, q4, Int.le_refl, Int.toNat_natCast, vl, lu, tu, vu, sl, f0, f1, f2, f3, f4, t67, zb, sb, slC_vals, u8l_len, rS, zq, c0, c1, c2, cl, dq, oq, g1, g2, g3, w71, hm, cst, eq, hz2]
      refine Thn_n ?_
      refine hK _ _ ?_
      clear hK K
      refine AW.seq_k fun K hK => ?_
      refine AW.seq_k fun K hK => ?_
      refine AW.draw [.val, .val, .val, .val, .rd 0, .val, .val, .val, .val, .rd 0, .val, .val, .val, .rd 0, .val, .val, .val, .val, .rd 0, .val, .rd 0, .ext, .val, .val, .ext, .val, .val, .val, .val, .val, .rd 2, .ext, .val, .val] fol (by decide) (by kernel_rfl) ?_
      simp only [push_cast, simprocAttr, hrd, lk_old hrd, hke, ↓zr, q1, q2, q3, q4, Int.le_refl, Int.toNat_natCast, vl, lu, tu, vu, sl, f0, f1, f2, f3, f4, t67, zb, sb, slC_vals, u8l_len, rS, zq, c0, c1, c2, cl, dq, oq, g1, g2, g3, w71, hm, cst, eq, hz2]
      refine DCall.by0 (need_c (f i).size _ (by omega)) ?_
      simp only [push_cast, simprocAttr, hrd, lk_old hrd, hke, ↓zr, q1, q2, q3, q4, Int.le_refl, Int.toNat_natCast, vl, lu, tu, vu, sl, f0, f1, f2, f3, f4, t67, zb, sb, slC_vals, u8l_len, rS, zq, c0, c1, c2, cl, dq, oq, g1, g2, g3, w71, hm, cst, eq, hz2]
      refine DCall.by0 (blocks_c rd rs rm n D _ (lk_old hrd _)) ?_
      simp only [push_cast, simprocAttr, hrd, lk_old hrd, hke, ↓zr, q1, q2, q3, q4, Int.le_refl, Int.toNat_natCast, vl, lu, tu, vu, sl, f0, f1, f2, f3, f4, t67, zb, sb, slC_vals, u8l_len, rS, zq, c0, c1, c2, cl, dq, oq, g1, g2, g3, w71, hm, cst, eq, hz2]
      refine DCall.by0 (find_c (m.length + 1) m.length rd ⟨k, preF f i, (k : Int), 0⟩ _ ⟨by rw [lk_app]; rfl, by rw [lk_app0]; rfl⟩ (preF_ok hko i) (by exact hkn.1) (f i).key o.w.k) ?_
      simp only [push_cast, simprocAttr, hrd, lk_old hrd, hke, ↓zr, q1, q2, q3, q4, Int.le_refl, Int.toNat_natCast, vl, lu, tu, vu, sl, f0, f1, f2, f3, f4, t67, zb, sb, slC_vals, u8l_len, rS, zq, c0, c1, c2, cl, dq, oq, g1, g2, g3, w71, hm, cst, eq, hz2]
      refine Thn_n ?_
      refine hK _ _ ?_
      clear hK K
      refine AW.cond_f rfl ?_
      refine AW.skip ?_
      refine Thn_n ?_
      refine hK _ _ ?_
      clear hK K
      refine AW.seq_k fun K hK => ?_
      refine AW.draw [.val, .val, .val, .rd 0, .val, .rd 0, .val, .wr] fol (by decide) (by kernel_rfl) ?_
      simp only [push_cast, simprocAttr, hrd, lk_old hrd, hke, ↓zr, q1, q2, q3, q4, Int.le_refl, Int.toNat_natCast, vl, lu, tu, vu, sl, f0, f1, f2, f3, f4, t67, zb, sb, slC_vals, u8l_len, rS, zq, c0, c1, c2, cl, dq, oq, g1, g2, g3, w71, hm, cst, eq, hz2]
      refine Thn_n ?_
      refine hK _ _ ?_
      clear hK K
      refine AW.seq_k fun K hK => ?_
      refine AW.region (by decide) ?_
      simp only [push_cast, simprocAttr, hrd, lk_old hrd, hke, ↓zr, q1, q2, q3, q4, Int.le_refl, Int.toNat_natCast, vl, lu, tu, vu, sl, f0, f1, f2, f3, f4, t67, zb, sb, slC_vals, u8l_len, rS, zq, c0, c1, c2, cl, dq, oq, g1, g2, g3, w71, hm, cst, eq, hz2]
      refine CThen.by (load_c (m.length + 1) m.length rd ⟨k, preF f (i + 1), (k : Int), 0⟩ (f i) kk N _ (by rw [lk_app]; rfl) rs rm n D (hd.mono _) hwd hdn hn o.w (by omega) o2 hs1 hNz (by omega)) ?_
      simp only [push_cast, simprocAttr, hrd, lk_old hrd, hke, ↓zr, q1, q2, q3, q4, Int.le_refl, Int.toNat_natCast, vl, lu, tu, vu, sl, f0, f1, f2, f3, f4, t67, zb, sb, slC_vals, u8l_len, rS, zq, c0, c1, c2, cl, dq, oq, g1, g2, g3, w71, hm, cst, eq, hz2]
      refine Thn_n ?_
      refine hK _ _ ?_
      clear hK K
      refine AW.seq_k fun K hK => ?_
      refine AW.draw [.val, .val, .val, .val, .ext, .ext, .val, .rd 0, .val, .val] fol (by decide) (by kernel_rfl) ?_
      simp only [push_cast, simprocAttr, hrd, lk_old hrd, hke, ↓zr, q1, q2, q3, q4, Int.le_refl, Int.toNat_natCast, vl, lu, tu, vu, sl, f0, f1, f2, f3, f4, t67, zb, sb, slC_vals, u8l_len, rS, zq, c0, c1, c2, cl, dq, oq, g1, g2, g3, w71, hm, cst, eq, hz2]
      refine DExt.by (by first | rfl | exact (List.append_nil _).symm | (simp only [List.append_assoc, List.cons_append, List.nil_append]; rfl)) ?_
      simp only [push_cast, simprocAttr, hrd, lk_old hrd, hke, ↓zr, q1, q2, q3, q4, Int.le_refl, Int.toNat_natCast, vl, lu, tu, vu, sl, f0, f1, f2, f3, f4, t67, zb, sb, slC_vals, u8l_len, rS, zq, c0, c1, c2, cl, dq, oq, g1, g2, g3, w71, hm, cst, eq, hz2]
      refine DCall.by0 (of1_c (m.length + 5) 0 0 (.sl (m.length + 4) 0 0 z) bs [.sl (m.length + 4) 0 0 z] .grow 1 _ (by rw [lk_app]; rfl) rfl (.row (X := datL D kk N) (by rw [lk_app]; rfl) bl.symm (by omega) (by rw [List.drop_zero, bl, hbs])) (by omega) bo) ?_
      simp only [push_cast, simprocAttr, hrd, lk_old hrd, hke, ↓zr, q1, q2, q3, q4, Int.le_refl, Int.toNat_natCast, vl, lu, tu, vu, sl, f0, f1, f2, f3, f4, t67, zb, sb, slC_vals, u8l_len, rS, zq, c0, c1, c2, cl, dq, oq, g1, g2, g3, w71, hm, cst, eq, hz2]
      refine Thn_n ?_
      refine hK _ _ ?_
      clear hK K
      refine AW.cond_f rfl ?_
      refine AW.skip ?_
      refine InB_n ?_
      refine Thn_n ?_
      refine hK _ _ ?_
      clear hK K
      refine AW.region (by decide) ?_
      simp only [push_cast, simprocAttr, hrd, lk_old hrd, hke, ↓zr, q1, q2, q3, q4, Int.le_refl, Int.toNat_natCast, vl, lu, tu, vu, sl, f0, f1, f2, f3, f4, t67, zb, sb, slC_vals, u8l_len, rS, zq, c0, c1, c2, cl, dq, oq, g1, g2, g3, w71, hm, cst, eq, hz2]
      refine Thn_n ?_
      have hwi : IntKind.i64.wrap ((i:Int)+1) = (i:Int)+1 := wi (by omega)
      refine ⟨i + 1, by omega, by omega, ?_⟩
      try simp only [keepL, setAll, push_cast, simprocAttr, hrd, lk_old hrd, hke, ↓zr, q1, q2, q3, q4, Int.le_refl, Int.toNat_natCast, vl, lu, tu, vu, sl, f0, f1, f2, f3, f4, t67, zb, sb, slC_vals, u8l_len, rS, zq, c0, c1, c2, cl, dq, oq, g1, g2, g3, w71, hm, cst, eq, hz2, hwi, hnx]
      first
        | exact Weak.to (extra := [_]) (by simp only [Keeps, Tm.get_cons, Nat.reduceEqDiff, ↓reduceIte, if_true, if_false, ite_true, ite_false, true_and, and_true, and_self, reduceCtorEq, hwi, hnx]) (by first | rfl | (simp only [List.append_assoc, List.cons_append, List.nil_append]; rfl)) (by first | rfl | (simp [AV.below, CV.below]; done) | (simp [AV.below, CV.below]; omega)) (by first | exact hwf | exact MWf.app (hwf.grow (by simp)) (MWf_cons (cC_below _ _ _) (MWf_cons (by simp [CV.below] <;> omega) MWf_nil)))
        | exact Weak.to (extra := [_, _, _, _]) (by simp only [Keeps, Tm.get_cons, Nat.reduceEqDiff, ↓reduceIte, if_true, if_false, ite_true, ite_false, true_and, and_true, and_self, reduceCtorEq, hwi, hnx]) (by first | rfl | (simp only [List.append_assoc, List.cons_append, List.nil_append]; rfl)) (by first | rfl | (simp [AV.below, CV.below]; done) | (simp [AV.below, CV.below]; omega)) (by first | exact hwf | exact MWf.app (hwf.grow (by simp)) (MWf_cons (cC_below _ _ _) (MWf_cons (by simp [CV.below] <;> omega) MWf_nil)))
  · have hin : i = k := by have := of_decide_eq_false h30; omega
    subst hin
    refine AW.exit ?_
    refine Thn_e ?_
    clear hK K
    refine Thn_e ?_
    refine InB_here ?_
    refine Thn_n ?_
    refine hK _ _ ?_
    clear hK K
    refine AW.seq_k fun K hK => ?_
    refine AW.region (by decide) ?_
    simp only [push_cast, simprocAttr, hrd, lk_old hrd, hke, ↓zr, q1, q2, q3, q4, Int.le_refl, Int.toNat_natCast, vl, lu, tu, vu, sl, f0, f1, f2, f3, f4, t67, zb, sb, slC_vals, u8l_len, rS]
    refine Thn_n ?_
    refine hK _ _ ?_
    clear hK K
    refine AW.ret ?_
    refine hQ _ _ _ ?_
    simp only [hfin]
    refine ⟨Or.inr rfl, _, ?_, Hands.all⟩
    simp only [resA, resOne, resTv, AV.tv, push_cast, simprocAttr]
  )
end Go.Proofs.Ytdkfbbjpblfclaa

set_option linter.unusedSimpArgs false
set_option linter.unusedVariables false
set_option maxRecDepth 100000
set_option maxHeartbeats 4000000
namespace Go.Proofs.Ytdkfbbjpblfclaa
open Go Go.Eng

/-- How many slots are taken; how many blocks. -/
def cntF (f : Nat → SL) : Nat → Int
  | 0 => 0
  | k + 1 => cntF f k + if (f k).kind = 0 then 0 else 1
theorem cntF_b (f : Nat → SL) : ∀ k : Nat, 0 ≤ cntF f k ∧ cntF f k ≤ (k : Int)
  | 0 => ⟨Int.le_refl _, Int.le_refl _⟩
  | k + 1 => by have := cntF_b f k; unfold cntF; split <;> omega
def usGo (g : Nat → SL) : Nat → Nat → Int → Int → Int
  | 0, _, _, a => a
  | r + 1, i, p, a => usGo g r (i + 1) (maxI p ((g i).fr + needZ (g i).size)) (a + maxI 0 ((g i).fr + needZ (g i).size - maxI p (g i).fr))
noncomputable def VS.us (V : VS) : Int := usGo V.tg V.tk.length 0 V.data 0
theorem used_c (rv rl rd : Nat) (V : VS) (m : AMem) (h : HasV m rv rl rd V) (hf : ∀ i, OkS (V.f i)) (hk : V.k ≤ 512) (h0 : V.dead = 0) (hd0 : 0 ≤ V.data) (hd1 : V.data ≤ 512) : Ctr Try.prog 13 [.one (.ptr rv 0 0)] m (.tup [(false, [.int .i64 (cntF V.f V.k)]), (false, [.int .i64 V.us])]) m := by
  refine Ctr.enter Try.func13 rfl (by decide) (rs := [.tmp 2, .tmp 3]) (nt := 60) rfl rfl fun hwf Q hQ => ?_
  have hv := h.v
  have hl := h.l
  have lv := get_lt hv
  have ll := get_lt hl
  have gl : (cC V.k V.f).length = V.k * 67 := cC_len hf V.k
  have hup : ∀ X : AMem, Ctr Try.prog 31 [.one (.ptr rv 0 0)] (m ++ X) (.one (.int .i64 0)) (m ++ X) := fun X => by
    have := vup_c rv rl rd V (m ++ X) (lk_old hv X)
    rwa [h0] at this
  have hup0 : Ctr Try.prog 31 [.one (.ptr rv 0 0)] m (.one (.int .i64 0)) m := by have := hup []; rwa [List.append_nil] at this
  have sl := fun i => slC_len (hf i).w
  have f0 := fun i => slC_0 (V.f i)
  have zb := fun i => zb0 (sl i)
  have gok := tg_ok hf hk
  have sl2 := fun i => slC_len (gok i).w
  have f3 := fun i => slC_3 (gok i).w
  have f4 := fun i => slC_4 (gok i).w
  have zb2 := fun i => zb0 (sl2 i)
  have cl : (cC V.tk.length V.tg).length = V.tk.length * 67 := cC_len gok _
  obtain ⟨c, hc⟩ : ∃ q : Nat, q = V.tk.length := ⟨_, rfl⟩
  have hus : V.us = usGo V.tg c 0 V.data 0 := by rw [hc]; rfl
  rw [hus] at hQ
  rw [← hc] at cl
  have hck : c ≤ 512 := by rw [hc]; exact Nat.le_trans (tkL_len V.f V.k) hk
  have hc2 := hc.symm
  
  refine AW.seq_k fun K hK => ?_
  refine AW.region (by decide) ?_
  simp only [push_cast, simprocAttr, hv, hl, lk_old hv, lk_old hl, vtB, rS, gl, sl, f0, zb, sl2, f3, f4, zb2, slC_vals, cl, hc2]
  refine Thn_n ?_
  refine hK _ _ ?_
  clear hK K
  refine AW.seq_k fun K hK => ?_
  refine AW.seq_k fun K hK => ?_
  refine AW.region (by decide) ?_
  simp only [push_cast, simprocAttr, hv, hl, lk_old hv, lk_old hl, vtB, rS, gl, sl, f0, zb, sl2, f3, f4, zb2, slC_vals, cl, hc2]
  refine CThen.by (hup0) ?_
  simp only [push_cast, simprocAttr, hv, hl, lk_old hv, lk_old hl, vtB, rS, gl, sl, f0, zb, sl2, f3, f4, zb2, slC_vals, cl, hc2]
  refine Thn_n ?_
  refine hK _ _ ?_
  clear hK K
  refine AW.cond_f rfl ?_
  refine AW.skip ?_
  refine Thn_n ?_
  refine hK _ _ ?_
  clear hK K
  refine AW.seq_k fun K hK => ?_
  refine AW.seq_k fun K hK => ?_
  refine AW.region (by decide) ?_
  simp only [push_cast, simprocAttr, hv, hl, lk_old hv, lk_old hl, vtB, rS, gl, sl, f0, zb, sl2, f3, f4, zb2, slC_vals, cl, hc2]
  refine Thn_n ?_
  refine hK _ _ ?_
  clear hK K
  refine AW.block ?_
  refine AW.loopK [0, 3, 16, 17] (fun i => i ≤ V.k) (fun i => [(2, .one (.int .i64 (cntF V.f i))), (18, .one (.int .i64 (i : Int)))]) (fun i => []) (fun i => V.k - i) 0 (by omega) ?_ ?_ fun i hi6 => ?_
  · first | rfl | (simp only [Keeps, Tm.get_cons, Nat.reduceEqDiff, ↓reduceIte, if_true, if_false, ite_true, ite_false, true_and, and_true, and_self, reduceCtorEq, cntF] <;> repeat' (first | rfl | apply And.intro))
  · first | rfl | (simp only [setAll, push_cast, simprocAttr, hv, hl, lk_old hv, lk_old hl, vtB, rS, gl, sl, f0, zb, sl2, f3, f4, zb2, slC_vals, cl, hc2, cntF] <;> rfl)
  try simp only [keepL, setAll, push_cast, simprocAttr, hv, hl, lk_old hv, lk_old hl, vtB, rS, gl, sl, f0, zb, sl2, f3, f4, zb2, slC_vals, cl, hc2]
  refine AW.seq_k fun K hK => ?_
  refine AW.region (by decide) ?_
  simp only [push_cast, simprocAttr, hv, hl, lk_old hv, lk_old hl, vtB, rS, gl, sl, f0, zb, sl2, f3, f4, zb2, slC_vals, cl, hc2]
  refine Thn_n ?_
  refine hK _ _ ?_
  clear hK K
  refine AW.seq_k fun K hK => ?_
  refine AW.cond rfl (fun h19 => ?_) (fun h19 => ?_)
  · have hlt : i < V.k := by have := of_decide_eq_true h19; omega
    have lx := cC_at (n := V.k) (f := V.f) hf hlt
    have c0 : (0 : Int) ≤ (i : Int) := by omega
    have c1 : (i : Int) < (V.k : Int) := by omega
    have c2 : i * 67 + 67 ≤ V.k * 67 := by omega
    obtain ⟨m0, m1⟩ := cntF_b V.f i
    refine AW.skip ?_
    refine Thn_n ?_
    refine hK _ _ ?_
    clear hK K
    refine AW.seq_k fun K hK => ?_
    refine AW.block ?_
    iterate 2
      refine AW.seq_k fun K hK => ?_
      refine AW.region (by decide) ?_
      simp only [push_cast, simprocAttr, hv, hl, lk_old hv, lk_old hl, vtB, rS, gl, sl, f0, zb, sl2, f3, f4, zb2, slC_vals, cl, hc2, lx, c0, c1, c2]
      refine Thn_n ?_
      refine hK _ _ ?_
      clear hK K
    refine AW.cond rfl (fun h24 => ?_) (fun h24 => ?_)
    · have kz : ¬ (V.f i).kind = 0 := by simpa using h24
      have wm : IntKind.i64.wrap (cntF V.f i + 1) = cntF V.f i + 1 := wi (by omega)
      have hnx : cntF V.f (i + 1) = cntF V.f i + 1 := by show cntF V.f i + _ = _; rw [if_neg kz]
      refine AW.region (by decide) ?_
      simp only [push_cast, simprocAttr, hv, hl, lk_old hv, lk_old hl, vtB, rS, gl, sl, f0, zb, sl2, f3, f4, zb2, slC_vals, cl, hc2, lx, c0, c1, c2, wm]
      refine InB_n ?_
      refine Thn_n ?_
      refine hK _ _ ?_
      clear hK K
      refine AW.region (by decide) ?_
      simp only [push_cast, simprocAttr, hv, hl, lk_old hv, lk_old hl, vtB, rS, gl, sl, f0, zb, sl2, f3, f4, zb2, slC_vals, cl, hc2, lx, c0, c1, c2, wm]
      refine Thn_n ?_
      have hwi : IntKind.i64.wrap ((i:Int)+1) = (i:Int)+1 := wi (by omega)
      refine ⟨i + 1, by omega, by omega, ?_⟩
      try simp only [keepL, setAll, push_cast, simprocAttr, hv, hl, lk_old hv, lk_old hl, vtB, rS, gl, sl, f0, zb, sl2, f3, f4, zb2, slC_vals, cl, hc2, lx, c0, c1, c2, wm, hwi, hnx]
      exact Weak.to (extra := [_]) (by simp only [Keeps, Tm.get_cons, Nat.reduceEqDiff, ↓reduceIte, if_true, if_false, ite_true, ite_false, true_and, and_true, and_self, reduceCtorEq, hwi, hnx]) (by first | rfl | (simp only [List.append_assoc, List.cons_append, List.nil_append]; rfl)) (by first | rfl | (simp [AV.below, CV.below]; done) | (simp [AV.below, CV.below]; omega)) (by
        first | exact hwf | refine MWf.app (hwf.grow (by simp)) ?_
        repeat (first | exact MWf_nil | (refine MWf_cons ?_ ?_; · first | rfl | (simp [CV.below]; done) | (simp [CV.below]; omega))))
    · have kz : (V.f i).kind = 0 := by simpa using h24
      have hnx : cntF V.f (i + 1) = cntF V.f i := by show cntF V.f i + _ = _; rw [if_pos kz, Int.add_zero]
      refine AW.skip ?_
      refine InB_n ?_
      refine Thn_n ?_
      refine hK _ _ ?_
      clear hK K
      refine AW.region (by decide) ?_
      simp only [push_cast, simprocAttr, hv, hl, lk_old hv, lk_old hl, vtB, rS, gl, sl, f0, zb, sl2, f3, f4, zb2, slC_vals, cl, hc2, lx, c0, c1, c2]
      refine Thn_n ?_
      have hwi : IntKind.i64.wrap ((i:Int)+1) = (i:Int)+1 := wi (by omega)
      refine ⟨i + 1, by omega, by omega, ?_⟩
      try simp only [keepL, setAll, push_cast, simprocAttr, hv, hl, lk_old hv, lk_old hl, vtB, rS, gl, sl, f0, zb, sl2, f3, f4, zb2, slC_vals, cl, hc2, lx, c0, c1, c2, hwi, hnx]
      exact Weak.to (extra := [_]) (by simp only [Keeps, Tm.get_cons, Nat.reduceEqDiff, ↓reduceIte, if_true, if_false, ite_true, ite_false, true_and, and_true, and_self, reduceCtorEq, hwi, hnx]) (by first | rfl | (simp only [List.append_assoc, List.cons_append, List.nil_append]; rfl)) (by first | rfl | (simp [AV.below, CV.below]; done) | (simp [AV.below, CV.below]; omega)) (by
        first | exact hwf | refine MWf.app (hwf.grow (by simp)) ?_
        repeat (first | exact MWf_nil | (refine MWf_cons ?_ ?_; · first | rfl | (simp [CV.below]; done) | (simp [CV.below]; omega))))
  · have hin : i = V.k := by have := of_decide_eq_false h19; omega
    subst hin
    refine AW.exit ?_
    refine Thn_e ?_
    clear hK K
    refine Thn_e ?_
    refine InB_here ?_
    refine Thn_n ?_
    refine hK _ _ ?_
    clear hK K
    refine AW.seq_k fun K hK => ?_
    refine AW.region (by decide) ?_
    simp only [push_cast, simprocAttr, hv, hl, lk_old hv, lk_old hl, vtB, rS, gl, sl, f0, zb, sl2, f3, f4, zb2, slC_vals, cl, hc2]
    refine Thn_n ?_
    refine hK _ _ ?_
    clear hK K
    refine AW.seq_k fun K hK => ?_
    refine AW.seq_k fun K hK => ?_
    refine AW.region (by decide) ?_
    simp only [push_cast, simprocAttr, hv, hl, lk_old hv, lk_old hl, vtB, rS, gl, sl, f0, zb, sl2, f3, f4, zb2, slC_vals, cl, hc2]
    refine CThen.by (taken_c rv rl rd V _ h hf hk) ?_
    simp only [push_cast, simprocAttr, hv, hl, lk_old hv, lk_old hl, vtB, rS, gl, sl, f0, zb, sl2, f3, f4, zb2, slC_vals, cl, hc2]
    refine Thn_n ?_
    refine hK _ _ ?_
    clear hK K
    refine AW.block ?_
    refine AW.loopK [2, 33, 34] (fun (q : Nat × Int × Int) => q.1 ≤ c ∧ 0 ≤ q.2.1 ∧ q.2.1 ≤ 4400000000 ∧ 0 ≤ q.2.2 ∧ q.2.2 ≤ 4400000000 * (q.1 : Int) ∧ usGo V.tg (c - q.1) q.1 q.2.1 q.2.2 = usGo V.tg c 0 V.data 0) (fun (q : Nat × Int × Int) => [(3, .one (.int .i64 q.2.2)), (6, .one (.int .i64 q.2.1)), (35, .one (.int .i64 (q.1 : Int)))]) (fun (q : Nat × Int × Int) => []) (fun (q : Nat × Int × Int) => c - q.1) (0, V.data, 0) ⟨Nat.zero_le _, hd0, by show V.data ≤ _; omega, Int.le_refl _, by show (0 : Int) ≤ 4400000000 * ((0 : Nat) : Int); omega, rfl⟩ ?_ ?_ fun (q : Nat × Int × Int) hi15 => ?_
    · first | rfl | (simp only [Keeps, Tm.get_cons, Nat.reduceEqDiff, ↓reduceIte, if_true, if_false, ite_true, ite_false, true_and, and_true, and_self, reduceCtorEq] <;> repeat' (first | rfl | apply And.intro))
    · first | rfl | (simp only [setAll, push_cast, simprocAttr, hv, hl, lk_old hv, lk_old hl, vtB, rS, gl, sl, f0, zb, sl2, f3, f4, zb2, slC_vals, cl, hc2] <;> rfl)
    obtain ⟨i, p, a⟩ := q
    obtain ⟨i1, i2, i3, i4, i5, i6⟩ := hi15
    simp only at i1 i2 i3 i4 i5 i6
    try simp only [keepL, setAll, push_cast, simprocAttr, hv, hl, lk_old hv, lk_old hl, vtB, rS, gl, sl, f0, zb, sl2, f3, f4, zb2, slC_vals, cl, hc2]
    refine AW.seq_k fun K hK => ?_
    refine AW.region (by decide) ?_
    simp only [push_cast, simprocAttr, hv, hl, lk_old hv, lk_old hl, vtB, rS, gl, sl, f0, zb, sl2, f3, f4, zb2, slC_vals, cl, hc2]
    refine Thn_n ?_
    refine hK _ _ ?_
    clear hK K
    refine AW.seq_k fun K hK => ?_
    refine AW.cond rfl (fun h36 => ?_) (fun h36 => ?_)
    · have hlt : i < c := by have := of_decide_eq_true h36; omega
      have o := gok i
      have o0 := o.f0
      have o1 := o.f1
      have z0 := o.s0
      have z1 := o.s1
      obtain ⟨b0, b1⟩ := needZ_b z0 z1
      have lx := cC_at (n := c) (f := V.tg) gok hlt
      have c0 : (0 : Int) ≤ (i : Int) := by omega
      have c1 : (i : Int) < (c : Int) := by omega
      have c2 : i * 67 + 67 ≤ c * 67 := by omega
      have w2 : IntKind.i64.wrap ((V.tg i).fr + needZ (V.tg i).size) = (V.tg i).fr + needZ (V.tg i).size := wi (by omega)
      have x0 : 0 ≤ maxI p (V.tg i).fr := maxI_0 i2
      have x1 : maxI p (V.tg i).fr ≤ 4400000000 := maxI_b i3 (by omega)
      have w3 : IntKind.i64.wrap ((V.tg i).fr + needZ (V.tg i).size - maxI p (V.tg i).fr) = (V.tg i).fr + needZ (V.tg i).size - maxI p (V.tg i).fr := wi (by omega)
      have y0 : 0 ≤ maxI 0 ((V.tg i).fr + needZ (V.tg i).size - maxI p (V.tg i).fr) := maxI_0 (Int.le_refl _)
      have y1 : maxI 0 ((V.tg i).fr + needZ (V.tg i).size - maxI p (V.tg i).fr) ≤ 4400000000 := maxI_b (by omega) (by omega)
      have w4 : IntKind.i64.wrap (a + maxI 0 ((V.tg i).fr + needZ (V.tg i).size - maxI p (V.tg i).fr)) = a + maxI 0 ((V.tg i).fr + needZ (V.tg i).size - maxI p (V.tg i).fr) := wi (by omega)
      obtain ⟨nx, hnx, hnI, hnmu⟩ : ∃ nx : Nat × Int × Int, nx = (i + 1, maxI p ((V.tg i).fr + needZ (V.tg i).size), a + maxI 0 ((V.tg i).fr + needZ (V.tg i).size - maxI p (V.tg i).fr)) ∧ (nx.1 ≤ c ∧ 0 ≤ nx.2.1 ∧ nx.2.1 ≤ 4400000000 ∧ 0 ≤ nx.2.2 ∧ nx.2.2 ≤ 4400000000 * (nx.1 : Int) ∧ usGo V.tg (c - nx.1) nx.1 nx.2.1 nx.2.2 = usGo V.tg c 0 V.data 0) ∧ c - nx.1 < c - i := ⟨_, rfl, ⟨by show i + 1 ≤ c; omega, maxI_0 i2, maxI_b i3 (by omega), by show 0 ≤ a + maxI 0 _; omega, by show a + maxI 0 _ ≤ 4400000000 * ((i + 1 : Nat) : Int); omega, by rw [← i6, show c - i = (c - (i + 1)) + 1 by omega]; rfl⟩, by show c - (i + 1) < c - i; omega⟩
      refine AW.skip ?_
      refine Thn_n ?_
      refine hK _ _ ?_
      clear hK K
      refine AW.seq_k fun K hK => ?_
      refine AW.block ?_
      refine AW.seq_k fun K hK => ?_
      refine AW.region (by decide) ?_
      simp only [push_cast, simprocAttr, hv, hl, lk_old hv, lk_old hl, vtB, rS, gl, sl, f0, zb, sl2, f3, f4, zb2, slC_vals, cl, hc2, lx, c0, c1, c2, w2, w3, w4]
      refine Thn_n ?_
      refine hK _ _ ?_
      clear hK K
      refine AW.seq_k fun K hK => ?_
      refine AW.draw [.val, .rd 0, .val, .rd 0, .ext, .val, .val] fol (by decide) (by kernel_rfl) ?_
      simp only [push_cast, simprocAttr, hv, hl, lk_old hv, lk_old hl, vtB, rS, gl, sl, f0, zb, sl2, f3, f4, zb2, slC_vals, cl, hc2, lx, c0, c1, c2, w2, w3, w4]
      refine DCall.by0 (need_c (V.tg i).size _ (by omega)) ?_
      simp only [push_cast, simprocAttr, hv, hl, lk_old hv, lk_old hl, vtB, rS, gl, sl, f0, zb, sl2, f3, f4, zb2, slC_vals, cl, hc2, lx, c0, c1, c2, w2, w3, w4]
      refine Thn_n ?_
      refine hK _ _ ?_
      clear hK K
      refine AW.seq_k fun K hK => ?_
      refine AW.region (by decide) ?_
      simp only [push_cast, simprocAttr, hv, hl, lk_old hv, lk_old hl, vtB, rS, gl, sl, f0, zb, sl2, f3, f4, zb2, slC_vals, cl, hc2, lx, c0, c1, c2, w2, w3, w4]
      refine Thn_n ?_
      refine hK _ _ ?_
      clear hK K
      refine AW.region (by decide) ?_
      simp only [push_cast, simprocAttr, hv, hl, lk_old hv, lk_old hl, vtB, rS, gl, sl, f0, zb, sl2, f3, f4, zb2, slC_vals, cl, hc2, lx, c0, c1, c2, w2, w3, w4]
      refine InB_n ?_
      refine Thn_n ?_
      refine hK _ _ ?_
      clear hK K
      refine AW.region (by decide) ?_
      simp only [push_cast, simprocAttr, hv, hl, lk_old hv, lk_old hl, vtB, rS, gl, sl, f0, zb, sl2, f3, f4, zb2, slC_vals, cl, hc2, lx, c0, c1, c2, w2, w3, w4]
      refine Thn_n ?_
      have hwi : IntKind.i64.wrap ((i:Int)+1) = (i:Int)+1 := wi (by omega)
      refine ⟨nx, hnI, hnmu, ?_⟩
      try simp only [keepL, setAll, push_cast, simprocAttr, hv, hl, lk_old hv, lk_old hl, vtB, rS, gl, sl, f0, zb, sl2, f3, f4, zb2, slC_vals, cl, hc2, lx, c0, c1, c2, w2, w3, w4, hnx, hwi]
      exact Weak.to (extra := [_]) (by simp only [Keeps, Tm.get_cons, Nat.reduceEqDiff, ↓reduceIte, if_true, if_false, ite_true, ite_false, true_and, and_true, and_self, reduceCtorEq, hnx, hwi]) (by first | rfl | (simp only [List.append_assoc, List.cons_append, List.nil_append]; rfl)) (by first | rfl | (simp [AV.below, CV.below]; done) | (simp [AV.below, CV.below]; omega)) (by first | exact hwf | exact MWf.app (hwf.grow (by simp)) (MWf_one (cC_below _ _ _)))
    · have hin : c = i := by have := of_decide_eq_false h36; omega
      have hfin : usGo V.tg c 0 V.data 0 = a := by rw [← i6, hin, Nat.sub_self]; rfl
      refine AW.exit ?_
      refine Thn_e ?_
      clear hK K
      refine Thn_e ?_
      refine InB_here ?_
      refine Thn_n ?_
      refine hK _ _ ?_
      clear hK K
      refine AW.seq_k fun K hK => ?_
      refine AW.region (by decide) ?_
      simp only [push_cast, simprocAttr, hv, hl, lk_old hv, lk_old hl, vtB, rS, gl, sl, f0, zb, sl2, f3, f4, zb2, slC_vals, cl, hc2, hfin]
      refine Thn_n ?_
      refine hK _ _ ?_
      clear hK K
      refine AW.ret ?_
      refine hQ _ _ _ ?_
      first | refine RetP.drop0 (Or.inr rfl) ?_ ?_ hwf | refine RetP.drop (Or.inr rfl) ?_ ?_ hwf
      · simp only [resA, resOne, resTv, AV.tv, push_cast, simprocAttr, hv, hl, lk_old hv, lk_old hl, vtB, rS, gl, sl, f0, zb, sl2, f3, f4, zb2, slC_vals, cl, hc2, hfin]
      · rfl
end Go.Proofs.Ytdkfbbjpblfclaa

set_option linter.unusedSimpArgs false
set_option linter.unusedVariables false
set_option maxRecDepth 100000
set_option maxHeartbeats 4000000
namespace Go.Proofs.Ytdkfbbjpblfclaa
open Go Go.Eng

/-- A device whose power doesn't go. -/
structure Liv (n : Nat) (D : DS) : Prop where
  f : D.fuse = -1
  d : D.down = false
  w : WfD n D
theorem Liv.z {n : Nat} {D : DS} (h : Liv n D) : ¬ D.fuse = 0 := by rw [h.f]; decide
theorem spD_liv {n : Nat} {D : DS} (h : Liv n D) : (spD D).fuse = -1 ∧ (spD D).down = false := by
  unfold spD
  rw [if_neg h.z]
  exact ⟨by show (if 0 < D.fuse then _ else D.fuse) = -1; rw [if_neg (by rw [h.f]; decide)]; exact h.f, h.d⟩
theorem Liv.wr {n : Nat} {D : DS} (h : Liv n D) {k : Nat} {v : List Int} (hk : k < n) (hv : v.length = 128) : wrS D k v = (wrD D (k : Int) v, 0) ∧ Liv n (wrD D (k : Int) v) :=
  ⟨if_neg h.z, (spD_liv h).1, (spD_liv h).2, wrD_wf h.w (by omega) (by omega) hv⟩
theorem Liv.sy {n : Nat} {D : DS} (h : Liv n D) : syS D = (syD D, 0) ∧ Liv n (syD D) := ⟨if_neg h.z, (spD_liv h).1, (spD_liv h).2, syD_wf h.w⟩
theorem Liv.lay {n k : Nat} {bl : Nat → List Int} (hb : ∀ i, (bl i).length = 128) : ∀ (r i : Nat) (D : DS), Liv n D → k + i + r ≤ n → (layS k bl r i D).2 = 0 ∧ Liv n (layS k bl r i D).1
  | 0, i, D, h, _ => by
    show (syS D).2 = 0 ∧ Liv n (syS D).1
    rw [h.sy.1]; exact ⟨rfl, h.sy.2⟩
  | r + 1, i, D, h, hk => by
    unfold layS
    rw [if_neg h.z]
    exact Liv.lay hb r (i + 1) _ (h.wr (by omega) (hb i)).2 (by omega)
theorem Liv.d0 (n : Nat) : Liv n D0 := ⟨rfl, rfl, d0_wf n⟩
/-- The slot is written. -/
def wsD (D : DS) (fr : Nat) (s : SL) : DS := syD (wrD D (fr : Int) (encB s))
theorem Liv.ws {n : Nat} {D : DS} (h : Liv n D) {V : VS} {fr : Nat} {s : SL} (hf : fr < n) (hs : WfS s) : wsS V D fr s = ({ V with f := upF V.f fr s }, wsD D fr s, 0) ∧ Liv n (wsD D fr s) := by
  have h1 := h.wr hf (encB_len hs)
  have h2 := h1.2.sy
  unfold wsS
  rw [h1.1]
  dsimp only
  rw [h2.1]
  exact ⟨rfl, h2.2⟩
theorem fnd_none {p : SL → Bool} {f : Nat → SL} : ∀ {k : Nat}, (∀ i, i < k → p (f i) = false) → fnd p f k = -1
  | 0, _ => rfl
  | k + 1, h => by
    have ih := fnd_none (p := p) (f := f) (k := k) fun i hi => h i (by omega)
    show (if 0 ≤ fnd p f k then fnd p f k else if p (f k) = true then (k : Int) else -1) = -1
    rw [ih, if_neg (by decide), if_neg (by rw [h k (by omega)]; decide)]
theorem fnd_first {p : SL → Bool} {f : Nat → SL} {i k : Nat} (hi : i < k) (h : p (f i) = true) (hb : ∀ j, j < i → p (f j) = false) : fnd p f k = (i : Int) :=
  fnd_hit (by rw [fnd_none hb]; decide) h hi
def V0 (k : Nat) : VS := ⟨k, fun _ => zS, (k : Int), 0⟩
theorem good0 (n k : Nat) : Good D0 n k (fun _ => zS) := ⟨fun _ => zS_ok, fun i _ => .inl ⟨rfl, rfl⟩, fun i j _ _ h => absurd rfl h, fun _ _ => rfl⟩
theorem zB_ok : U8ok zB := fun x hx => by
  rw [List.eq_of_mem_replicate hx]; omega
theorem d0_ok : ∀ i, U8ok (vis D0.S D0.E i) := fun _ => zB_ok
def kyL (x : Int) : List Int := (x % 9) :: 7 :: List.replicate 30 0
/-- A device and its vault, side by side, newly made. -/
theorem fresh_b (m : AMem) (n : Nat) (V : VS) (D : DS) (L : AMem) : HasB (m ++ rowD n D :: mapD D :: drB m.length (m.length + 1) n D :: rS 0 V.k V.f :: vtB (m.length + 2) (m.length + 3) V :: L) (m.length + 4) (m.length + 3) (m.length + 2) m.length (m.length + 1) n V D :=
  ⟨⟨by rw [lk_app]; rfl, by rw [lk_app]; rfl⟩, ⟨by rw [lk_app]; rfl, by rw [lk_app0]; rfl, by rw [lk_app]; rfl⟩⟩
theorem fresh_set (m : AMem) (n : Nat) (V V' : VS) (D D' : DS) (L : AMem) : setB (m ++ rowD n D :: mapD D :: drB m.length (m.length + 1) n D :: rS 0 V.k V.f :: vtB (m.length + 2) (m.length + 3) V :: L) (m.length + 4) (m.length + 3) (m.length + 2) m.length (m.length + 1) n V' D' = m ++ rowD n D' :: mapD D' :: drB m.length (m.length + 1) n D' :: rS 0 V'.k V'.f :: vtB (m.length + 2) (m.length + 3) V' :: L := by
  unfold setB setV setD
  rw [set_app, set_app, set_app, set_app0, set_app]
  rfl
theorem put_dup (rv rl rd rs rm n : Nat) (V : VS) (D : DS) (m : AMem) (hB : HasB m rv rl rd rs rm n V D) (hf : ∀ i, OkS (V.f i)) (hk : V.k ≤ 512) (h0 : V.dead = 0) (kind : Int) (hkd : kind = 1 ∨ kind = 2) (key : List Int) (hkey : key.length = 32) (rp vp len : Nat) (bs : List Int) (hp : ∃ kk ez, m[rp]? = some ⟨kk, 5, vp, ez, u8l bs⟩) (hlen : bs.length = len) (hl2 : len ≤ 262144) (ho : U8ok bs) (hL : Liv n D) (hn : n ≤ 8192) (hd0 : 0 ≤ V.data) (hd1 : V.data ≤ 512) (hmiss : fnd (fdB key) V.f V.k < 0) (hkn : V.k ≤ n) (fr : Nat) (hfr : fnd (fun s => s.kind == 0) V.f V.k = (fr : Int)) (k : Nat) (hpl : plZ V n (shaL bs) (len : Int) = (k : Int)) (hk8 : k ≤ 8192) (hlb : plB V (shaL bs) (len : Int) = true) : Ctr Try.prog 10 [.one (.ptr rv 0 0), .one (.int .i64 kind), .agg (u8l key), .one (.sl rp vp 0 len)] m (.one (.int .i64 0)) (setB m rv rl rd rs rm n { V with f := upF V.f fr ⟨kind, key, shaL bs, (len : Int), (k : Int)⟩ } (wsD D fr ⟨kind, key, shaL bs, (len : Int), (k : Int)⟩)) := by
  have h := put_L rv rl rd rs rm n V D m hB hf hk h0 kind hkd key hkey rp vp len bs hp hlen hl2 ho hL.w hL.d hn hd0 hd1 hmiss hkn fr hfr k hpl hk8 hlb
  have hfn : fr < n := by
    obtain ⟨i, h1, h2, _⟩ := fnd_pos (p := fun s => s.kind == 0) (f := V.f) (k := V.k) (by omega)
    omega
  have sw : WfS ⟨kind, key, shaL bs, (len : Int), (k : Int)⟩ := ⟨hkey, shaL_len bs⟩
  rw [(hL.ws hfn sw).1] at h
  exact h
theorem put_new (rv rl rd rs rm n : Nat) (V : VS) (D : DS) (m : AMem) (hB : HasB m rv rl rd rs rm n V D) (hf : ∀ i, OkS (V.f i)) (hk : V.k ≤ 512) (h0 : V.dead = 0) (kind : Int) (hkd : kind = 1 ∨ kind = 2) (key : List Int) (hkey : key.length = 32) (rp vp len : Nat) (bs : List Int) (hp : ∃ kk ez, m[rp]? = some ⟨kk, 5, vp, ez, u8l bs⟩) (hlen : bs.length = len) (hl2 : len ≤ 262144) (ho : U8ok bs) (hL : Liv n D) (hn : n ≤ 8192) (hd0 : 0 ≤ V.data) (hd1 : V.data ≤ 512) (hmiss : fnd (fdB key) V.f V.k < 0) (hkn : V.k ≤ n) (fr : Nat) (hfr : fnd (fun s => s.kind == 0) V.f V.k = (fr : Int)) (k : Nat) (hpl : plZ V n (shaL bs) (len : Int) = (k : Int)) (hk8 : k ≤ 8192) (hlb : plB V (shaL bs) (len : Int) = false) (N : Nat) (hN : (N : Int) = needZ (len : Int)) (hkN : k + N ≤ n) : Ctr Try.prog 10 [.one (.ptr rv 0 0), .one (.int .i64 kind), .agg (u8l key), .one (.sl rp vp 0 len)] m (.one (.int .i64 0)) (setB m rv rl rd rs rm n { V with f := upF V.f fr ⟨kind, key, shaL bs, (len : Int), (k : Int)⟩ } (wsD (layS k (chB bs) N 0 D).1 fr ⟨kind, key, shaL bs, (len : Int), (k : Int)⟩)) := by
  have h := put_U rv rl rd rs rm n V D m hB hf hk h0 kind hkd key hkey rp vp len bs hp hlen hl2 ho hL.w hL.d hn hd0 hd1 hmiss hkn fr hfr k hpl hk8 hlb N hN hkN
  have hfn : fr < n := by
    obtain ⟨i, h1, h2, _⟩ := fnd_pos (p := fun s => s.kind == 0) (f := V.f) (k := V.k) (by omega)
    omega
  have sw : WfS ⟨kind, key, shaL bs, (len : Int), (k : Int)⟩ := ⟨hkey, shaL_len bs⟩
  have hl := Liv.lay (n := n) (k := k) (bl := chB bs) (fun i => padB_len _) N 0 D hL (by omega)
  rw [if_neg (by rw [hl.1]; decide), (hl.2.ws hfn sw).1] at h
  exact h
theorem key_c (x : Int) (m : AMem) (h0 : 0 ≤ x) (h1 : x ≤ 255) : Ctr Try.prog 16 [.one (.int .u8 x)] m (.agg (u8l (kyL x))) m := by
  refine Ctr.enter Try.func16 rfl (by decide) (rs := [.cell 2 37]) (nt := 6) rfl rfl fun hwf Q hQ => ?_
  have w : x.tmod 9 = x % 9 := Int.tmod_eq_emod_of_nonneg h0
  have e : u8l (kyL x) = [CV.int .u8 (x % 9), CV.int .u8 7, CV.int .u8 0, CV.int .u8 0, CV.int .u8 0, CV.int .u8 0, CV.int .u8 0, CV.int .u8 0, CV.int .u8 0, CV.int .u8 0, CV.int .u8 0, CV.int .u8 0, CV.int .u8 0, CV.int .u8 0, CV.int .u8 0, CV.int .u8 0, CV.int .u8 0, CV.int .u8 0, CV.int .u8 0, CV.int .u8 0, CV.int .u8 0, CV.int .u8 0, CV.int .u8 0, CV.int .u8 0, CV.int .u8 0, CV.int .u8 0, CV.int .u8 0, CV.int .u8 0, CV.int .u8 0, CV.int .u8 0, CV.int .u8 0, CV.int .u8 0] := rfl
  rw [e] at hQ
  iterate 2
    refine AW.seq_k fun K hK => ?_
    refine AW.region (by decide) ?_
    simp only [push_cast, simprocAttr, w]
    refine Thn_n ?_
    refine hK _ _ ?_
    clear hK K
  refine AW.ret ?_
  refine hQ _ _ _ ?_
  first | refine RetP.drop0 (Or.inr rfl) ?_ ?_ hwf | refine RetP.drop (Or.inr rfl) ?_ ?_ hwf
  · simp only [resA, resOne, resTv, AV.tv, push_cast, simprocAttr, w]
  · rfl
end Go.Proofs.Ytdkfbbjpblfclaa

set_option linter.unusedSimpArgs false
set_option linter.unusedVariables false
set_option maxRecDepth 100000
set_option maxHeartbeats 4000000
namespace Go.Proofs.Ytdkfbbjpblfclaa
open Go Go.Eng

def zr (n : Nat) : List Int := List.replicate n 0
theorem zr_ok (n : Nat) : U8ok (zr n) := fun x hx => by rw [List.eq_of_mem_replicate hx]; omega
def aS1 : SL := ⟨2, kyL 1, shaL (zr 129), 129, 10⟩
def aS2 : SL := ⟨2, kyL 2, shaL (zr 129), 129, 10⟩
def aV1 : VS := { V0 10 with f := upF (V0 10).f 0 aS1 }
def aV2 : VS := { aV1 with f := upF aV1.f 1 aS2 }
theorem aS1_ok : OkS aS1 := ⟨⟨rfl, shaL_len _⟩, by decide, by decide, by decide, by decide⟩
theorem aS2_ok : OkS aS2 := ⟨⟨rfl, shaL_len _⟩, by decide, by decide, by decide, by decide⟩
theorem aV1_ok : ∀ i, OkS (aV1.f i) := upF_ok (fun _ => zS_ok) aS1_ok 0
theorem aV2_ok : ∀ i, OkS (aV2.f i) := upF_ok aV1_ok aS2_ok 1
theorem v0_find (key : List Int) : fnd (fdB key) (V0 10).f (V0 10).k < 0 := by rw [fnd_none fun i _ => rfl]; decide
theorem v0_free : fnd (fun s => s.kind == 0) (V0 10).f (V0 10).k = ((0 : Nat) : Int) := fnd_first (by decide) rfl fun j h => by omega
theorem tk0 (k : Nat) : tkL (fun _ => zS) k = [] := by
  induction k with
  | zero => rfl
  | succ k ih => unfold tkL; rw [ih]; rfl
theorem v0_tk (k : Nat) : (V0 k).tk = [] := tk0 k
theorem v0_plB (k : Nat) (sum : List Int) (size : Int) : plB (V0 k) sum size = false := by
  unfold plB; rw [fnd_none fun i _ => rfl]; rfl
theorem v0_pl (k n : Nat) (sum : List Int) (size : Int) (h : needZ size ≤ (n : Int) - (k : Int)) : plZ (V0 k) n sum size = (k : Int) := by
  unfold plZ
  rw [if_neg (by rw [fnd_none fun i _ => rfl]; decide), v0_tk]
  show (if (n : Int) - (k : Int) < needZ size then -1 else (k : Int)) = (k : Int)
  rw [if_neg (by omega)]
theorem v1_find : fnd (fdB (kyL 2)) aV1.f aV1.k < 0 := by
  rw [fnd_none fun i _ => ?_]; decide
  show fdB (kyL 2) (if i = 0 then aS1 else zS) = false
  split
  · decide
  · rfl
theorem v1_free : fnd (fun s => s.kind == 0) aV1.f aV1.k = ((1 : Nat) : Int) := fnd_first (by decide) rfl fun j h => by
  obtain rfl : j = 0 := by omega
  rfl
theorem v1_hit : fnd (pcB (shaL (zr 129)) 129) aV1.f aV1.k = ((0 : Nat) : Int) := fnd_first (by decide) (by
  show pcB (shaL (zr 129)) 129 aS1 = true
  simp [pcB, aS1]) fun j h => by omega
theorem v1_plB : plB aV1 (shaL (zr 129)) 129 = true := by unfold plB; rw [v1_hit]; rfl
theorem v1_pl : plZ aV1 40 (shaL (zr 129)) 129 = ((10 : Nat) : Int) := by
  unfold plZ; rw [v1_hit]; rfl
theorem v2_cnt : cntF aV2.f aV2.k = 2 := rfl
theorem v2_tk : aV2.tk = [aS1, aS2] := rfl
theorem v2_us : aV2.us = 2 := by
  have hp := (tg_spec (V := aV2) aV2_ok (by decide)).2
  have hl : aV2.tk.length = 2 := rfl
  have ha : ∀ i, i < 2 → (aV2.tg i).fr = 10 ∧ (aV2.tg i).size = 129 := fun i hi => by
    obtain ⟨y, h1, h2, h3⟩ := hp.src (x := i) ⟨Nat.zero_le _, by rw [hl]; exact hi⟩
    rw [h3, v2_tk]
    rw [hl] at h2
    have : y = 0 ∨ y = 1 := by omega
    rcases this with rfl | rfl <;> exact ⟨rfl, rfl⟩
  obtain ⟨a0, b0⟩ := ha 0 (by decide)
  obtain ⟨a1, b1⟩ := ha 1 (by decide)
  unfold VS.us
  rw [hl]
  simp only [usGo, a0, b0, a1, b1]
  decide
theorem l129 : (zr 129).length = 129 := rfl
theorem awk1 (m L : AMem) : Ctr Try.prog 10 [.one (.ptr (m.length + 4) 0 0), .one (.int .i64 2), .agg (u8l (kyL 1)), .one (.sl (m.length + 5) 0 0 129)] (m ++ rowD 40 D0 :: mapD D0 :: drB m.length (m.length + 1) 40 D0 :: rS 0 (V0 10).k (V0 10).f :: vtB (m.length + 2) (m.length + 3) (V0 10) :: ⟨.grow, 5, 0, 1, u8l (zr 129)⟩ :: L) (.one (.int .i64 0)) (m ++ rowD 40 (wsD (layS 10 (chB (zr 129)) 2 0 D0).1 0 aS1) :: mapD (wsD (layS 10 (chB (zr 129)) 2 0 D0).1 0 aS1) :: drB m.length (m.length + 1) 40 (wsD (layS 10 (chB (zr 129)) 2 0 D0).1 0 aS1) :: rS 0 (aV1).k (aV1).f :: vtB (m.length + 2) (m.length + 3) (aV1) :: ⟨.grow, 5, 0, 1, u8l (zr 129)⟩ :: L) := by
  have hB := fresh_b m 40 (V0 10) D0 (⟨.grow, 5, 0, 1, u8l (zr 129)⟩ :: L)
  have h := put_new (m.length + 4) (m.length + 3) (m.length + 2) m.length (m.length + 1) 40 (V0 10) D0 _ hB (fun _ => zS_ok) (by decide) rfl 2 (.inr rfl) (kyL 1) rfl (m.length + 5) 0 129 (zr 129) ⟨.grow, 1, by rw [lk_app]; rfl⟩ l129 (by decide) (zr_ok _) (Liv.d0 40) (by decide) (by decide) (by decide) (v0_find _) (by decide) 0 v0_free 10 (v0_pl 10 40 _ _ (by decide)) (by decide) (v0_plB 10 _ _) 2 (by decide) (by decide)
  rw [fresh_set] at h
  exact h
theorem awk2 (m L : AMem) (D : DS) (hL : Liv 40 D) : Ctr Try.prog 10 [.one (.ptr (m.length + 4) 0 0), .one (.int .i64 2), .agg (u8l (kyL 2)), .one (.sl (m.length + 6) 0 0 129)] (m ++ rowD 40 D :: mapD D :: drB m.length (m.length + 1) 40 D :: rS 0 (aV1).k (aV1).f :: vtB (m.length + 2) (m.length + 3) (aV1) :: ⟨.grow, 5, 0, 1, u8l (zr 129)⟩ :: ⟨.grow, 5, 0, 1, u8l (zr 129)⟩ :: L) (.one (.int .i64 0)) (m ++ rowD 40 (wsD D 1 aS2) :: mapD (wsD D 1 aS2) :: drB m.length (m.length + 1) 40 (wsD D 1 aS2) :: rS 0 (aV2).k (aV2).f :: vtB (m.length + 2) (m.length + 3) (aV2) :: ⟨.grow, 5, 0, 1, u8l (zr 129)⟩ :: ⟨.grow, 5, 0, 1, u8l (zr 129)⟩ :: L) := by
  have hB := fresh_b m 40 aV1 D (⟨.grow, 5, 0, 1, u8l (zr 129)⟩ :: ⟨.grow, 5, 0, 1, u8l (zr 129)⟩ :: L)
  have h := put_dup (m.length + 4) (m.length + 3) (m.length + 2) m.length (m.length + 1) 40 aV1 D _ hB aV1_ok (by decide) rfl 2 (.inr rfl) (kyL 2) rfl (m.length + 6) 0 129 (zr 129) ⟨.grow, 1, by rw [lk_app]; rfl⟩ l129 (by decide) (zr_ok _) hL (by decide) (by decide) (by decide) v1_find (by decide) 1 v1_free 10 v1_pl (by decide) v1_plB
  rw [fresh_set] at h
  exact h
theorem awake_c (m : AMem) : Ctr Try.prog 8 [] m (.one (.bool true)) m := by
  refine Ctr.enter Try.func8 rfl (by decide) (rs := [.tmp 0]) (nt := 51) rfl rfl fun hwf Q hQ => ?_
  have ez : [CV.int .u8 0, CV.int .u8 0, CV.int .u8 0, CV.int .u8 0, CV.int .u8 0, CV.int .u8 0, CV.int .u8 0, CV.int .u8 0, CV.int .u8 0, CV.int .u8 0, CV.int .u8 0, CV.int .u8 0, CV.int .u8 0, CV.int .u8 0, CV.int .u8 0, CV.int .u8 0, CV.int .u8 0, CV.int .u8 0, CV.int .u8 0, CV.int .u8 0, CV.int .u8 0, CV.int .u8 0, CV.int .u8 0, CV.int .u8 0, CV.int .u8 0, CV.int .u8 0, CV.int .u8 0, CV.int .u8 0, CV.int .u8 0, CV.int .u8 0, CV.int .u8 0, CV.int .u8 0, CV.int .u8 0, CV.int .u8 0, CV.int .u8 0, CV.int .u8 0, CV.int .u8 0, CV.int .u8 0, CV.int .u8 0, CV.int .u8 0, CV.int .u8 0, CV.int .u8 0, CV.int .u8 0, CV.int .u8 0, CV.int .u8 0, CV.int .u8 0, CV.int .u8 0, CV.int .u8 0, CV.int .u8 0, CV.int .u8 0, CV.int .u8 0, CV.int .u8 0, CV.int .u8 0, CV.int .u8 0, CV.int .u8 0, CV.int .u8 0, CV.int .u8 0, CV.int .u8 0, CV.int .u8 0, CV.int .u8 0, CV.int .u8 0, CV.int .u8 0, CV.int .u8 0, CV.int .u8 0, CV.int .u8 0, CV.int .u8 0, CV.int .u8 0, CV.int .u8 0, CV.int .u8 0, CV.int .u8 0, CV.int .u8 0, CV.int .u8 0, CV.int .u8 0, CV.int .u8 0, CV.int .u8 0, CV.int .u8 0, CV.int .u8 0, CV.int .u8 0, CV.int .u8 0, CV.int .u8 0, CV.int .u8 0, CV.int .u8 0, CV.int .u8 0, CV.int .u8 0, CV.int .u8 0, CV.int .u8 0, CV.int .u8 0, CV.int .u8 0, CV.int .u8 0, CV.int .u8 0, CV.int .u8 0, CV.int .u8 0, CV.int .u8 0, CV.int .u8 0, CV.int .u8 0, CV.int .u8 0, CV.int .u8 0, CV.int .u8 0, CV.int .u8 0, CV.int .u8 0, CV.int .u8 0, CV.int .u8 0, CV.int .u8 0, CV.int .u8 0, CV.int .u8 0, CV.int .u8 0, CV.int .u8 0, CV.int .u8 0, CV.int .u8 0, CV.int .u8 0, CV.int .u8 0, CV.int .u8 0, CV.int .u8 0, CV.int .u8 0, CV.int .u8 0, CV.int .u8 0, CV.int .u8 0, CV.int .u8 0, CV.int .u8 0, CV.int .u8 0, CV.int .u8 0, CV.int .u8 0, CV.int .u8 0, CV.int .u8 0, CV.int .u8 0, CV.int .u8 0, CV.int .u8 0, CV.int .u8 0, CV.int .u8 0] = u8l (zr 129) := rfl
  have sl8 : slotsZ 8 = 2 := by decide
  have c2 := v2_cnt
  have u2 := v2_us
  have hL1 : Liv 40 (wsD (layS 10 (chB (zr 129)) 2 0 D0).1 0 aS1) := ((Liv.lay (n := 40) (k := 10) (bl := chB (zr 129)) (fun i => padB_len _) 2 0 D0 (Liv.d0 40) (by decide)).2.ws (V := V0 10) (fr := 0) (s := aS1) (by decide) aS1_ok.w).2
  
  refine AW.seq_k fun K hK => ?_
  refine AW.region (by decide) ?_
  simp only [push_cast, simprocAttr, c2, u2, sl8, ez]
  refine Thn_n ?_
  refine hK _ _ ?_
  clear hK K
  refine AW.seq_k fun K hK => ?_
  refine AW.region (by decide) ?_
  simp only [push_cast, simprocAttr, c2, u2, sl8, ez]
  refine CThen.by (dnew_c 40 _ (by decide) (by decide)) ?_
  simp only [push_cast, simprocAttr, c2, u2, sl8, ez]
  refine Thn_n ?_
  refine hK _ _ ?_
  clear hK K
  refine AW.seq_k fun K hK => ?_
  refine AW.region (by decide) ?_
  simp only [push_cast, simprocAttr, c2, u2, sl8, ez]
  refine CThen.by (open_c (m.length + 2) m.length (m.length + 1) 40 10 D0 (fun _ => zS) _ ⟨by rw [lk_app]; rfl, by rw [lk_app0]; rfl, by rw [lk_app]; rfl⟩ (d0_wf 40) rfl (by decide) (by decide) d0_ok (good0 40 10)) ?_
  simp only [push_cast, simprocAttr, c2, u2, sl8, ez]
  refine Thn_n ?_
  refine hK _ _ ?_
  clear hK K
  refine AW.seq_k fun K hK => ?_
  refine AW.seq_k fun K hK => ?_
  refine AW.drawX fol (by kernel_rfl) ?_
  refine DX.split 8 9 (by decide) ?_ ?_
  focus
    refine DX.split 15 16 (by decide) ?_ ?_
    focus
      refine DX.run [0, 1, 2, 3, 4, 5, 6, 7, 8, 9, 10, 11, 12, 13, 14, 15, 16, 17, 18, 19] [.val, .val, .val, .val, .val, .val, .val, .val, .ext, .ext, .wr, .val, .val, .val, .val, .ext, .ext, .wr, .val, .val] (by simp only [permL, reOp, List.idxOf_cons, push_cast, simprocAttr, c2, u2, sl8, ez]; first | done | rfl) (by kernel_rfl) ?_
      simp only [push_cast, simprocAttr, c2, u2, sl8, ez]
      refine DCall.by0 (key_c 1 _ (by decide) (by decide)) ?_
      simp only [push_cast, simprocAttr, c2, u2, sl8, ez]
      refine DExt.by (by first | rfl | exact (List.append_nil _).symm | (simp only [List.append_assoc, List.cons_append, List.nil_append]; rfl)) ?_
      simp only [push_cast, simprocAttr, c2, u2, sl8, ez]
      refine DCallW.by (awk1 m []) ?_
      simp only [push_cast, simprocAttr, c2, u2, sl8, ez]
      refine DCall.by0 (key_c 2 _ (by decide) (by decide)) ?_
      simp only [push_cast, simprocAttr, c2, u2, sl8, ez]
      refine DExt.by (by first | rfl | exact (List.append_nil _).symm | (simp only [List.append_assoc, List.cons_append, List.nil_append]; rfl)) ?_
      simp only [push_cast, simprocAttr, c2, u2, sl8, ez]
      refine DCallW.by (awk2 m [] _ hL1) ?_
      simp only [push_cast, simprocAttr, c2, u2, sl8, ez]
      skip
    rotate_left 1
    focus
      refine DX.run [0, 1, 2, 3, 4, 5, 6, 7, 8, 9, 10, 11, 12, 13, 14, 16, 15, 17, 18, 19] [.val, .val, .val, .val, .val, .val, .val, .val, .ext, .ext, .wr, .val, .val, .val, .val, .ext, .ext, .wr, .val, .val] (by simp only [permL, reOp, List.idxOf_cons, push_cast, simprocAttr, c2, u2, sl8, ez]; first | done | rfl) (by kernel_rfl) ?_
      simp only [push_cast, simprocAttr, c2, u2, sl8, ez]
      refine DCall.by0 (key_c 1 _ (by decide) (by decide)) ?_
      simp only [push_cast, simprocAttr, c2, u2, sl8, ez]
      refine DExt.by (by first | rfl | exact (List.append_nil _).symm | (simp only [List.append_assoc, List.cons_append, List.nil_append]; rfl)) ?_
      simp only [push_cast, simprocAttr, c2, u2, sl8, ez]
      refine DCallW.by (awk1 m []) ?_
      simp only [push_cast, simprocAttr, c2, u2, sl8, ez]
      refine DExt.by (by first | rfl | exact (List.append_nil _).symm | (simp only [List.append_assoc, List.cons_append, List.nil_append]; rfl)) ?_
      simp only [push_cast, simprocAttr, c2, u2, sl8, ez]
      refine DCall.by0 (key_c 2 _ (by decide) (by decide)) ?_
      simp only [push_cast, simprocAttr, c2, u2, sl8, ez]
      refine DCallW.by (awk2 m [] _ hL1) ?_
      simp only [push_cast, simprocAttr, c2, u2, sl8, ez]
      skip
    rotate_left 1
  rotate_left 2
  focus
    refine DX.split 15 16 (by decide) ?_ ?_
    focus
      refine DX.run [0, 1, 2, 3, 4, 5, 6, 7, 9, 8, 10, 11, 12, 13, 14, 15, 16, 17, 18, 19] [.val, .val, .val, .val, .val, .val, .val, .val, .ext, .ext, .wr, .val, .val, .val, .val, .ext, .ext, .wr, .val, .val] (by simp only [permL, reOp, List.idxOf_cons, push_cast, simprocAttr, c2, u2, sl8, ez]; first | done | rfl) (by kernel_rfl) ?_
      simp only [push_cast, simprocAttr, c2, u2, sl8, ez]
      refine DExt.by (by first | rfl | exact (List.append_nil _).symm | (simp only [List.append_assoc, List.cons_append, List.nil_append]; rfl)) ?_
      simp only [push_cast, simprocAttr, c2, u2, sl8, ez]
      refine DCall.by0 (key_c 1 _ (by decide) (by decide)) ?_
      simp only [push_cast, simprocAttr, c2, u2, sl8, ez]
      refine DCallW.by (awk1 m []) ?_
      simp only [push_cast, simprocAttr, c2, u2, sl8, ez]
      refine DCall.by0 (key_c 2 _ (by decide) (by decide)) ?_
      simp only [push_cast, simprocAttr, c2, u2, sl8, ez]
      refine DExt.by (by first | rfl | exact (List.append_nil _).symm | (simp only [List.append_assoc, List.cons_append, List.nil_append]; rfl)) ?_
      simp only [push_cast, simprocAttr, c2, u2, sl8, ez]
      refine DCallW.by (awk2 m [] _ hL1) ?_
      simp only [push_cast, simprocAttr, c2, u2, sl8, ez]
      skip
    rotate_left 1
    focus
      refine DX.run [0, 1, 2, 3, 4, 5, 6, 7, 9, 8, 10, 11, 12, 13, 14, 16, 15, 17, 18, 19] [.val, .val, .val, .val, .val, .val, .val, .val, .ext, .ext, .wr, .val, .val, .val, .val, .ext, .ext, .wr, .val, .val] (by simp only [permL, reOp, List.idxOf_cons, push_cast, simprocAttr, c2, u2, sl8, ez]; first | done | rfl) (by kernel_rfl) ?_
      simp only [push_cast, simprocAttr, c2, u2, sl8, ez]
      refine DExt.by (by first | rfl | exact (List.append_nil _).symm | (simp only [List.append_assoc, List.cons_append, List.nil_append]; rfl)) ?_
      simp only [push_cast, simprocAttr, c2, u2, sl8, ez]
      refine DCall.by0 (key_c 1 _ (by decide) (by decide)) ?_
      simp only [push_cast, simprocAttr, c2, u2, sl8, ez]
      refine DCallW.by (awk1 m []) ?_
      simp only [push_cast, simprocAttr, c2, u2, sl8, ez]
      refine DExt.by (by first | rfl | exact (List.append_nil _).symm | (simp only [List.append_assoc, List.cons_append, List.nil_append]; rfl)) ?_
      simp only [push_cast, simprocAttr, c2, u2, sl8, ez]
      refine DCall.by0 (key_c 2 _ (by decide) (by decide)) ?_
      simp only [push_cast, simprocAttr, c2, u2, sl8, ez]
      refine DCallW.by (awk2 m [] _ hL1) ?_
      simp only [push_cast, simprocAttr, c2, u2, sl8, ez]
      skip
    rotate_left 1
  rotate_left 2
  all_goals (
  refine Thn_n ?_
  refine hK _ _ ?_
  clear hK K
  refine AW.cond_f rfl ?_
  refine AW.skip ?_
  refine Thn_n ?_
  refine hK _ _ ?_
  clear hK K
  refine AW.seq_k fun K hK => ?_
  refine AW.region (by decide) ?_
  simp only [push_cast, simprocAttr, c2, u2, sl8, ez]
  refine CThen.by (used_c (m.length + 4) (m.length + 3) (m.length + 2) aV2 _ ⟨by rw [lk_app]; rfl, by rw [lk_app]; rfl⟩ aV2_ok (by decide) rfl (by decide) (by decide)) ?_
  simp only [push_cast, simprocAttr, c2, u2, sl8, ez]
  refine Thn_n ?_
  refine hK _ _ ?_
  clear hK K
  refine AW.seq_k fun K hK => ?_
  refine AW.region (by decide) ?_
  simp only [push_cast, simprocAttr, c2, u2, sl8, ez]
  refine CThen.by (slots_c 8 _ (by decide) (by decide)) ?_
  simp only [push_cast, simprocAttr, c2, u2, sl8, ez]
  refine Thn_n ?_
  refine hK _ _ ?_
  clear hK K
  refine AW.ret ?_
  refine hQ _ _ _ ?_
  first | refine RetP.drop0 (Or.inr rfl) ?_ ?_ hwf | refine RetP.drop (Or.inr rfl) ?_ ?_ hwf
  · simp only [resA, resOne, resTv, AV.tv, push_cast, simprocAttr, c2, u2, sl8, ez]
  · rfl
  )
end Go.Proofs.Ytdkfbbjpblfclaa

set_option linter.unusedSimpArgs false
set_option linter.unusedVariables false
set_option maxRecDepth 100000
set_option maxHeartbeats 4000000
namespace Go.Proofs.Ytdkfbbjpblfclaa
open Go Go.Eng

theorem open_nil (m : AMem) : Ctr Try.prog 7 [.one .nilp] m (.tup [(false, [.nilp]), (false, [.int .i64 2])]) m := by
  refine Ctr.enter Try.func7 rfl (by decide) (rs := [.tmp 2, .tmp 3]) (nt := 108) rfl rfl fun hwf Q hQ => ?_
  refine AW.seq_k fun K hK => ?_
  refine AW.region (by decide) ?_
  simp only [push_cast, simprocAttr]
  refine Thn_n ?_
  refine hK _ _ ?_
  clear hK K
  refine AW.seq_k fun K hK => ?_
  refine AW.seq_k fun K hK => ?_
  refine AW.region (by decide) ?_
  simp only [push_cast, simprocAttr]
  refine Thn_n ?_
  refine hK _ _ ?_
  clear hK K
  refine AW.cond_t rfl ?_
  refine AW.seq_k fun K hK => ?_
  refine AW.region (by decide) ?_
  simp only [push_cast, simprocAttr]
  refine Thn_n ?_
  refine hK _ _ ?_
  clear hK K
  refine AW.ret ?_
  refine Thn_r ?_
  refine hQ _ _ _ ?_
  first | refine RetP.drop0 (Or.inr rfl) ?_ ?_ hwf | refine RetP.drop (Or.inr rfl) ?_ ?_ hwf
  · simp only [resA, resOne, resTv, AV.tv, push_cast, simprocAttr]
  · rfl
theorem get_nil (key : List Int) (hkey : key.length = 32) (m : AMem) : Ctr Try.prog 14 [.one .nilp, .agg (u8l key)] m (.tup [(false, [.nils]), (false, [.int .i64 2])]) m := by
  refine Ctr.enter Try.func14 rfl (by decide) (rs := [.tmp 4, .tmp 5]) (nt := 50) rfl rfl fun hwf Q hQ => ?_
  have kl : (u8l key).length = 32 := by rw [u8l_len]; exact hkey
  have kv := u8l_vals key
  refine AW.seq_k fun K hK => ?_
  refine AW.region (by decide) ?_
  simp only [push_cast, simprocAttr, kl, kv]
  refine Thn_n ?_
  refine hK _ _ ?_
  clear hK K
  refine AW.seq_k fun K hK => ?_
  refine AW.seq_k fun K hK => ?_
  refine AW.region (by decide) ?_
  simp only [push_cast, simprocAttr, kl, kv]
  refine CThen.by (vup_nil _) ?_
  simp only [push_cast, simprocAttr, kl, kv]
  refine Thn_n ?_
  refine hK _ _ ?_
  clear hK K
  refine AW.seq_k fun K hK => ?_
  refine AW.region (by decide) ?_
  simp only [push_cast, simprocAttr, kl, kv]
  refine Thn_n ?_
  refine hK _ _ ?_
  clear hK K
  refine AW.cond_t rfl ?_
  refine AW.seq_k fun K hK => ?_
  refine AW.region (by decide) ?_
  simp only [push_cast, simprocAttr, kl, kv]
  refine Thn_n ?_
  refine hK _ _ ?_
  clear hK K
  refine AW.ret ?_
  refine Thn_r ?_
  refine hQ _ _ _ ?_
  first | refine RetP.drop0 (Or.inr rfl) ?_ ?_ hwf | refine RetP.drop (Or.inr rfl) ?_ ?_ hwf
  · simp only [resA, resOne, resTv, AV.tv, push_cast, simprocAttr, kl, kv]
  · rfl
theorem put_nil (key : List Int) (hkey : key.length = 32) (m : AMem) (k : Int) (a : AV) : Ctr Try.prog 10 [.one .nilp, .one (.int .i64 k), .agg (u8l key), a] m (.one (.int .i64 2)) m := by
  refine Ctr.enter Try.func10 rfl (by decide) (rs := [.tmp 8]) (nt := 138) rfl rfl fun hwf Q hQ => ?_
  have kl : (u8l key).length = 32 := by rw [u8l_len]; exact hkey
  have kv := u8l_vals key
  refine AW.seq_k fun K hK => ?_
  refine AW.region (by decide) ?_
  simp only [push_cast, simprocAttr, kl, kv]
  refine Thn_n ?_
  refine hK _ _ ?_
  clear hK K
  refine AW.seq_k fun K hK => ?_
  refine AW.seq_k fun K hK => ?_
  refine AW.region (by decide) ?_
  simp only [push_cast, simprocAttr, kl, kv]
  refine CThen.by (vup_nil _) ?_
  simp only [push_cast, simprocAttr, kl, kv]
  refine Thn_n ?_
  refine hK _ _ ?_
  clear hK K
  refine AW.seq_k fun K hK => ?_
  refine AW.region (by decide) ?_
  simp only [push_cast, simprocAttr, kl, kv]
  refine Thn_n ?_
  refine hK _ _ ?_
  clear hK K
  refine AW.cond_t rfl ?_
  refine AW.seq_k fun K hK => ?_
  refine AW.region (by decide) ?_
  simp only [push_cast, simprocAttr, kl, kv]
  refine Thn_n ?_
  refine hK _ _ ?_
  clear hK K
  refine AW.ret ?_
  refine Thn_r ?_
  refine hQ _ _ _ ?_
  first | refine RetP.drop0 (Or.inr rfl) ?_ ?_ hwf | refine RetP.drop (Or.inr rfl) ?_ ?_ hwf
  · simp only [resA, resOne, resTv, AV.tv, push_cast, simprocAttr, kl, kv]
  · rfl
theorem used_nil (m : AMem) : Ctr Try.prog 13 [.one .nilp] m (.tup [(false, [.int .i64 0]), (false, [.int .i64 0])]) m := by
  refine Ctr.enter Try.func13 rfl (by decide) (rs := [.tmp 2, .tmp 3]) (nt := 60) rfl rfl fun hwf Q hQ => ?_
  refine AW.seq_k fun K hK => ?_
  refine AW.region (by decide) ?_
  simp only [push_cast, simprocAttr]
  refine Thn_n ?_
  refine hK _ _ ?_
  clear hK K
  refine AW.seq_k fun K hK => ?_
  refine AW.seq_k fun K hK => ?_
  refine AW.region (by decide) ?_
  simp only [push_cast, simprocAttr]
  refine CThen.by (vup_nil _) ?_
  simp only [push_cast, simprocAttr]
  refine Thn_n ?_
  refine hK _ _ ?_
  clear hK K
  refine AW.cond_t rfl ?_
  refine AW.seq_k fun K hK => ?_
  refine AW.region (by decide) ?_
  simp only [push_cast, simprocAttr]
  refine Thn_n ?_
  refine hK _ _ ?_
  clear hK K
  refine AW.ret ?_
  refine Thn_r ?_
  refine hQ _ _ _ ?_
  first | refine RetP.drop0 (Or.inr rfl) ?_ ?_ hwf | refine RetP.drop (Or.inr rfl) ?_ ?_ hwf
  · simp only [resA, resOne, resTv, AV.tv, push_cast, simprocAttr]
  · rfl
theorem drop_nil (m : AMem) : Ctr Try.prog 18 [.one .nilp, .one .nils] m (.one (.int .i64 2)) m := by
  refine Ctr.enter Try.func18 rfl (by decide) (rs := [.tmp 4]) (nt := 79) rfl rfl fun hwf Q hQ => ?_
  refine AW.seq_k fun K hK => ?_
  refine AW.region (by decide) ?_
  simp only [push_cast, simprocAttr]
  refine Thn_n ?_
  refine hK _ _ ?_
  clear hK K
  refine AW.seq_k fun K hK => ?_
  refine AW.seq_k fun K hK => ?_
  refine AW.region (by decide) ?_
  simp only [push_cast, simprocAttr]
  refine CThen.by (vup_nil _) ?_
  simp only [push_cast, simprocAttr]
  refine Thn_n ?_
  refine hK _ _ ?_
  clear hK K
  refine AW.seq_k fun K hK => ?_
  refine AW.region (by decide) ?_
  simp only [push_cast, simprocAttr]
  refine Thn_n ?_
  refine hK _ _ ?_
  clear hK K
  refine AW.cond_t rfl ?_
  refine AW.seq_k fun K hK => ?_
  refine AW.region (by decide) ?_
  simp only [push_cast, simprocAttr]
  refine Thn_n ?_
  refine hK _ _ ?_
  clear hK K
  refine AW.ret ?_
  refine Thn_r ?_
  refine hQ _ _ _ ?_
  first | refine RetP.drop0 (Or.inr rfl) ?_ ?_ hwf | refine RetP.drop (Or.inr rfl) ?_ ?_ hwf
  · simp only [resA, resOne, resTv, AV.tv, push_cast, simprocAttr]
  · rfl
theorem has_nil (key : List Int) (hkey : key.length = 32) (m : AMem) : Ctr Try.prog 22 [.one .nilp, .agg (u8l key)] m (.one (.bool false)) m := by
  refine Ctr.enter Try.func22 rfl (by decide) (rs := [.tmp 4]) (nt := 14) rfl rfl fun hwf Q hQ => ?_
  have kl : (u8l key).length = 32 := by rw [u8l_len]; exact hkey
  have kv := u8l_vals key
  refine AW.seq_k fun K hK => ?_
  refine AW.region (by decide) ?_
  simp only [push_cast, simprocAttr, kl, kv]
  refine Thn_n ?_
  refine hK _ _ ?_
  clear hK K
  refine AW.seq_k fun K hK => ?_
  refine AW.region (by decide) ?_
  simp only [push_cast, simprocAttr, kl, kv]
  refine CThen.by (vup_nil _) ?_
  simp only [push_cast, simprocAttr, kl, kv]
  refine Thn_n ?_
  refine hK _ _ ?_
  clear hK K
  refine AW.ret ?_
  refine hQ _ _ _ ?_
  first | refine RetP.drop0 (Or.inr rfl) ?_ ?_ hwf | refine RetP.drop (Or.inr rfl) ?_ ?_ hwf
  · simp only [resA, resOne, resTv, AV.tv, push_cast, simprocAttr, kl, kv]
  · rfl
theorem keys_nil (k : Int) (m : AMem) : Ctr Try.prog 23 [.one .nilp, .one (.int .i64 k)] m (.one .nils) m := by
  refine Ctr.enter Try.func23 rfl (by decide) (rs := [.tmp 4]) (nt := 37) rfl rfl fun hwf Q hQ => ?_
  iterate 2
    refine AW.seq_k fun K hK => ?_
    refine AW.region (by decide) ?_
    simp only [push_cast, simprocAttr]
    refine Thn_n ?_
    refine hK _ _ ?_
    clear hK K
  refine AW.seq_k fun K hK => ?_
  refine AW.seq_k fun K hK => ?_
  refine AW.region (by decide) ?_
  simp only [push_cast, simprocAttr]
  refine CThen.by (vup_nil _) ?_
  simp only [push_cast, simprocAttr]
  refine Thn_n ?_
  refine hK _ _ ?_
  clear hK K
  refine AW.cond_t rfl ?_
  refine AW.seq_k fun K hK => ?_
  refine AW.region (by decide) ?_
  simp only [push_cast, simprocAttr]
  refine Thn_n ?_
  refine hK _ _ ?_
  clear hK K
  refine AW.ret ?_
  refine Thn_r ?_
  refine hQ _ _ _ ?_
  first | refine RetP.drop0 (Or.inr rfl) ?_ ?_ hwf | refine RetP.drop (Or.inr rfl) ?_ ?_ hwf
  · simp only [resA, resOne, resTv, AV.tv, push_cast, simprocAttr]
  · rfl
theorem tdiv4 (x : Int) : x.tdiv 4 = if x < 0 then -((-x) / 4) else x / 4 := by
  split
  · have e : (-(-x)).tdiv 4 = -((-x) / 4) := by rw [Int.neg_tdiv, Int.tdiv_eq_ediv_of_nonneg (by omega)]
    rwa [Int.neg_neg] at e
  · exact Int.tdiv_eq_ediv_of_nonneg (by omega)
theorem rslots_c (x : Int) (m : AMem) (h1 : -9223372036854775808 ≤ x) (h2 : x ≤ 9223372036854775807) : Ctr Try.prog 24 [.one (.int .i64 x)] m (.one (.int .i64 (slotsZ x))) m := by
  refine Ctr.enter Try.func24 rfl (by decide) (rs := [.tmp 2]) (nt := 10) rfl rfl fun hwf Q hQ => ?_
  have hd := tdiv4 x
  have w : IntKind.i64.wrap (x.tdiv 4) = x.tdiv 4 := wi (by rw [hd]; split <;> omega)
  iterate 2
    refine AW.seq_k fun K hK => ?_
    refine AW.region (by decide) ?_
    simp only [push_cast, simprocAttr, w]
    refine Thn_n ?_
    refine hK _ _ ?_
    clear hK K
  refine AW.seq_k fun K hK => ?_
  refine AW.seq_k fun K hK => ?_
  refine AW.region (by decide) ?_
  simp only [push_cast, simprocAttr, w]
  refine Thn_n ?_
  refine hK _ _ ?_
  clear hK K
  refine AW.cond rfl (fun h6 => ?_) (fun h6 => ?_)
  · have hs : slotsZ x = 0 := by
      have := of_decide_eq_true h6
      rw [hd] at this; unfold slotsZ; split at this <;> (split <;> omega)
    refine AW.seq_k fun K hK => ?_
    refine AW.region (by decide) ?_
    simp only [push_cast, simprocAttr, w, hs]
    refine Thn_n ?_
    refine hK _ _ ?_
    clear hK K
    refine AW.ret ?_
    refine Thn_r ?_
    refine hQ _ _ _ ?_
    first | refine RetP.drop0 (Or.inr rfl) ?_ ?_ hwf | refine RetP.drop (Or.inr rfl) ?_ ?_ hwf
    · simp only [resA, resOne, resTv, AV.tv, push_cast, simprocAttr, w, hs]
    · rfl
  · have h6b := of_decide_eq_false h6
    refine AW.skip ?_
    refine Thn_n ?_
    refine hK _ _ ?_
    clear hK K
    refine AW.seq_k fun K hK => ?_
    refine AW.seq_k fun K hK => ?_
    refine AW.region (by decide) ?_
    simp only [push_cast, simprocAttr, w]
    refine Thn_n ?_
    refine hK _ _ ?_
    clear hK K
    refine AW.cond rfl (fun h8 => ?_) (fun h8 => ?_)
    · have hs : slotsZ x = 512 := by
        have := of_decide_eq_true h8
        rw [hd] at this h6b; unfold slotsZ; split at this <;> (split <;> omega)
      refine AW.seq_k fun K hK => ?_
      refine AW.region (by decide) ?_
      simp only [push_cast, simprocAttr, w, hs]
      refine Thn_n ?_
      refine hK _ _ ?_
      clear hK K
      refine AW.ret ?_
      refine Thn_r ?_
      refine hQ _ _ _ ?_
      first | refine RetP.drop0 (Or.inr rfl) ?_ ?_ hwf | refine RetP.drop (Or.inr rfl) ?_ ?_ hwf
      · simp only [resA, resOne, resTv, AV.tv, push_cast, simprocAttr, w, hs]
      · rfl
    · have hs : slotsZ x = x.tdiv 4 := by
        have := of_decide_eq_false h8
        rw [hd] at this h6b ⊢; unfold slotsZ; split at this <;> (split <;> omega)
      refine AW.skip ?_
      refine Thn_n ?_
      refine hK _ _ ?_
      clear hK K
      refine AW.seq_k fun K hK => ?_
      refine AW.region (by decide) ?_
      simp only [push_cast, simprocAttr, w, hs]
      refine Thn_n ?_
      refine hK _ _ ?_
      clear hK K
      refine AW.ret ?_
      refine hQ _ _ _ ?_
      first | refine RetP.drop0 (Or.inr rfl) ?_ ?_ hwf | refine RetP.drop (Or.inr rfl) ?_ ?_ hwf
      · simp only [resA, resOne, resTv, AV.tv, push_cast, simprocAttr, w, hs]
      · rfl
theorem rneed_c (x : Int) (m : AMem) (h1 : 0 < x) (h2 : x ≤ 1099511627776) : Ctr Try.prog 21 [.one (.int .i64 x)] m (.one (.int .i64 (needZ x))) m := by
  refine Ctr.enter Try.func21 rfl (by decide) (rs := [.tmp 2]) (nt := 13) rfl rfl fun hwf Q hQ => ?_
  have g : ¬ x ≤ 0 := by omega
  have e1 : x.tmod 128 = x % 128 := Int.tmod_eq_emod_of_nonneg (by omega)
  have e2 : x.tdiv 128 = x / 128 := Int.tdiv_eq_ediv_of_nonneg (by omega)
  have w1 : IntKind.i64.wrap (x / 128) = x / 128 := wi (by omega)
  have w2 : IntKind.i64.wrap (x / 128 + 1) = x / 128 + 1 := wi (by omega)
  refine AW.seq_k fun K hK => ?_
  refine AW.region (by decide) ?_
  simp only [push_cast, simprocAttr, g, e1, e2, w1, w2]
  refine Thn_n ?_
  refine hK _ _ ?_
  clear hK K
  refine AW.seq_k fun K hK => ?_
  refine AW.seq_k fun K hK => ?_
  refine AW.region (by decide) ?_
  simp only [push_cast, simprocAttr, g, e1, e2, w1, w2]
  refine Thn_n ?_
  refine hK _ _ ?_
  clear hK K
  refine AW.cond_f rfl ?_
  refine AW.skip ?_
  refine Thn_n ?_
  refine hK _ _ ?_
  clear hK K
  refine AW.seq_k fun K hK => ?_
  refine AW.seq_k fun K hK => ?_
  refine AW.region (by decide) ?_
  simp only [push_cast, simprocAttr, g, e1, e2, w1, w2]
  refine Thn_n ?_
  refine hK _ _ ?_
  clear hK K
  refine AW.cond rfl (fun h7 => ?_) (fun h7 => ?_)
  · have hm : x % 128 = 0 := by simpa using h7
    have hs : needZ x = x / 128 := by unfold needZ; omega
    refine AW.seq_k fun K hK => ?_
    refine AW.region (by decide) ?_
    simp only [push_cast, simprocAttr, g, e1, e2, w1, w2, hs]
    refine Thn_n ?_
    refine hK _ _ ?_
    clear hK K
    refine AW.ret ?_
    refine Thn_r ?_
    refine hQ _ _ _ ?_
    first | refine RetP.drop0 (Or.inr rfl) ?_ ?_ hwf | refine RetP.drop (Or.inr rfl) ?_ ?_ hwf
    · simp only [resA, resOne, resTv, AV.tv, push_cast, simprocAttr, g, e1, e2, w1, w2, hs]
    · rfl
  · have hm : ¬ x % 128 = 0 := by simpa using h7
    have hs : needZ x = x / 128 + 1 := by unfold needZ; omega
    refine AW.skip ?_
    refine Thn_n ?_
    refine hK _ _ ?_
    clear hK K
    refine AW.seq_k fun K hK => ?_
    refine AW.region (by decide) ?_
    simp only [push_cast, simprocAttr, g, e1, e2, w1, w2, hs]
    refine Thn_n ?_
    refine hK _ _ ?_
    clear hK K
    refine AW.ret ?_
    refine hQ _ _ _ ?_
    first | refine RetP.drop0 (Or.inr rfl) ?_ ?_ hwf | refine RetP.drop (Or.inr rfl) ?_ ?_ hwf
    · simp only [resA, resOne, resTv, AV.tv, push_cast, simprocAttr, g, e1, e2, w1, w2, hs]
    · rfl
theorem nil_lo (kd : Int) (a : AV) (n : Int) (m : AMem) (h1 : -9223372036854775808 ≤ n) (h2 : n ≤ 9223372036854775807) (h : n ≤ 0) : Ctr Try.prog 5 [.one (.int .i64 kd), a, .one (.int .i64 n)] m (.one (.bool true)) m := by
  refine Ctr.enter Try.func5 rfl (by decide) (rs := [.tmp 6]) (nt := 98) rfl rfl fun hwf Q hQ => ?_
  have ez : [CV.int .u8 0, CV.int .u8 0, CV.int .u8 0, CV.int .u8 0, CV.int .u8 0, CV.int .u8 0, CV.int .u8 0, CV.int .u8 0, CV.int .u8 0, CV.int .u8 0, CV.int .u8 0, CV.int .u8 0, CV.int .u8 0, CV.int .u8 0, CV.int .u8 0, CV.int .u8 0, CV.int .u8 0, CV.int .u8 0, CV.int .u8 0, CV.int .u8 0, CV.int .u8 0, CV.int .u8 0, CV.int .u8 0, CV.int .u8 0, CV.int .u8 0, CV.int .u8 0, CV.int .u8 0, CV.int .u8 0, CV.int .u8 0, CV.int .u8 0, CV.int .u8 0, CV.int .u8 0] = u8l zL := rfl
  have g1 : ¬ 0 < n := by omega
  have g2 : ¬ (1099511627776 : Int) ≤ n := by omega
  have nz : needZ n = 0 := by unfold needZ; omega
  
  iterate 2
    refine AW.seq_k fun K hK => ?_
    refine AW.region (by decide) ?_
    simp only [push_cast, simprocAttr, ez, g1, g2, nz]
    refine Thn_n ?_
    refine hK _ _ ?_
    clear hK K
  refine AW.seq_k fun K hK => ?_
  refine AW.region (by decide) ?_
  simp only [push_cast, simprocAttr, ez, g1, g2, nz]
  refine CThen.by (open_nil _) ?_
  simp only [push_cast, simprocAttr, ez, g1, g2, nz]
  refine Thn_n ?_
  refine hK _ _ ?_
  clear hK K
  refine AW.seq_k fun K hK => ?_
  refine AW.region (by decide) ?_
  simp only [push_cast, simprocAttr, ez, g1, g2, nz]
  refine CThen.by (get_nil zL rfl _) ?_
  simp only [push_cast, simprocAttr, ez, g1, g2, nz]
  refine Thn_n ?_
  refine hK _ _ ?_
  clear hK K
  refine AW.seq_k fun K hK => ?_
  refine AW.region (by decide) ?_
  simp only [push_cast, simprocAttr, ez, g1, g2, nz]
  refine CThen.by (used_nil _) ?_
  simp only [push_cast, simprocAttr, ez, g1, g2, nz]
  refine Thn_n ?_
  refine hK _ _ ?_
  clear hK K
  refine AW.seq_k fun K hK => ?_
  refine AW.region (by decide) ?_
  simp only [push_cast, simprocAttr, ez, g1, g2, nz]
  refine Thn_n ?_
  refine hK _ _ ?_
  clear hK K
  refine AW.seq_k fun K hK => ?_
  refine AW.seq_k fun K hK => ?_
  refine AW.region (by decide) ?_
  simp only [push_cast, simprocAttr, ez, g1, g2, nz]
  refine Thn_n ?_
  refine hK _ _ ?_
  clear hK K
  refine AW.cond_f rfl ?_
  refine AW.skip ?_
  refine Thn_n ?_
  refine hK _ _ ?_
  clear hK K
  refine AW.seq_k fun K hK => ?_
  refine AW.region (by decide) ?_
  simp only [push_cast, simprocAttr, ez, g1, g2, nz]
  refine CThen.by (awake_c _) ?_
  simp only [push_cast, simprocAttr, ez, g1, g2, nz]
  refine CThen.by (put_nil zL rfl _ kd a) ?_
  simp only [push_cast, simprocAttr, ez, g1, g2, nz]
  refine CThen.by (drop_nil _) ?_
  simp only [push_cast, simprocAttr, ez, g1, g2, nz]
  refine CThen.by (has_nil zL rfl _) ?_
  simp only [push_cast, simprocAttr, ez, g1, g2, nz]
  refine CThen.by (keys_nil kd _) ?_
  simp only [push_cast, simprocAttr, ez, g1, g2, nz]
  refine CThen.by (slots_c n _ h1 h2) ?_
  simp only [push_cast, simprocAttr, ez, g1, g2, nz]
  refine CThen.by (rslots_c n _ h1 h2) ?_
  simp only [push_cast, simprocAttr, ez, g1, g2, nz]
  refine CThen.by (need_c n _ (by omega)) ?_
  simp only [push_cast, simprocAttr, ez, g1, g2, nz]
  refine Thn_n ?_
  refine hK _ _ ?_
  clear hK K
  refine AW.ret ?_
  refine hQ _ _ _ ?_
  first | refine RetP.drop0 (Or.inr rfl) ?_ ?_ hwf | refine RetP.drop (Or.inr rfl) ?_ ?_ hwf
  · simp only [resA, resOne, resTv, AV.tv, push_cast, simprocAttr, ez, g1, g2, nz]
  · rfl
theorem nil_mid (kd : Int) (a : AV) (n : Int) (m : AMem) (h1 : -9223372036854775808 ≤ n) (h2 : n ≤ 9223372036854775807) (h : 0 < n) (h3 : n < 1099511627776) : Ctr Try.prog 5 [.one (.int .i64 kd), a, .one (.int .i64 n)] m (.one (.bool true)) m := by
  refine Ctr.enter Try.func5 rfl (by decide) (rs := [.tmp 6]) (nt := 98) rfl rfl fun hwf Q hQ => ?_
  have ez : [CV.int .u8 0, CV.int .u8 0, CV.int .u8 0, CV.int .u8 0, CV.int .u8 0, CV.int .u8 0, CV.int .u8 0, CV.int .u8 0, CV.int .u8 0, CV.int .u8 0, CV.int .u8 0, CV.int .u8 0, CV.int .u8 0, CV.int .u8 0, CV.int .u8 0, CV.int .u8 0, CV.int .u8 0, CV.int .u8 0, CV.int .u8 0, CV.int .u8 0, CV.int .u8 0, CV.int .u8 0, CV.int .u8 0, CV.int .u8 0, CV.int .u8 0, CV.int .u8 0, CV.int .u8 0, CV.int .u8 0, CV.int .u8 0, CV.int .u8 0, CV.int .u8 0, CV.int .u8 0] = u8l zL := rfl
  have g1 : 0 < n := h
  have g3 : n < 1099511627776 := h3
  have g2 : ¬ (1099511627776 : Int) ≤ n := by omega
  have nz : needZ n = needZ n := rfl
  
  iterate 2
    refine AW.seq_k fun K hK => ?_
    refine AW.region (by decide) ?_
    simp only [push_cast, simprocAttr, ez, g1, g2, g3]
    refine Thn_n ?_
    refine hK _ _ ?_
    clear hK K
  refine AW.seq_k fun K hK => ?_
  refine AW.region (by decide) ?_
  simp only [push_cast, simprocAttr, ez, g1, g2, g3]
  refine CThen.by (open_nil _) ?_
  simp only [push_cast, simprocAttr, ez, g1, g2, g3]
  refine Thn_n ?_
  refine hK _ _ ?_
  clear hK K
  refine AW.seq_k fun K hK => ?_
  refine AW.region (by decide) ?_
  simp only [push_cast, simprocAttr, ez, g1, g2, g3]
  refine CThen.by (get_nil zL rfl _) ?_
  simp only [push_cast, simprocAttr, ez, g1, g2, g3]
  refine Thn_n ?_
  refine hK _ _ ?_
  clear hK K
  refine AW.seq_k fun K hK => ?_
  refine AW.region (by decide) ?_
  simp only [push_cast, simprocAttr, ez, g1, g2, g3]
  refine CThen.by (used_nil _) ?_
  simp only [push_cast, simprocAttr, ez, g1, g2, g3]
  refine Thn_n ?_
  refine hK _ _ ?_
  clear hK K
  refine AW.seq_k fun K hK => ?_
  refine AW.region (by decide) ?_
  simp only [push_cast, simprocAttr, ez, g1, g2, g3]
  refine Thn_n ?_
  refine hK _ _ ?_
  clear hK K
  refine AW.seq_k fun K hK => ?_
  refine AW.seq_k fun K hK => ?_
  refine AW.region (by decide) ?_
  simp only [push_cast, simprocAttr, ez, g1, g2, g3]
  refine Thn_n ?_
  refine hK _ _ ?_
  clear hK K
  refine AW.cond_t rfl ?_
  refine AW.region (by decide) ?_
  simp only [push_cast, simprocAttr, ez, g1, g2, g3]
  refine CThen.by (rneed_c n _ (by omega) (by omega)) ?_
  simp only [push_cast, simprocAttr, ez, g1, g2, g3]
  refine Thn_n ?_
  refine hK _ _ ?_
  clear hK K
  refine AW.seq_k fun K hK => ?_
  refine AW.region (by decide) ?_
  simp only [push_cast, simprocAttr, ez, g1, g2, g3]
  refine CThen.by (awake_c _) ?_
  simp only [push_cast, simprocAttr, ez, g1, g2, g3]
  refine CThen.by (put_nil zL rfl _ kd a) ?_
  simp only [push_cast, simprocAttr, ez, g1, g2, g3]
  refine CThen.by (drop_nil _) ?_
  simp only [push_cast, simprocAttr, ez, g1, g2, g3]
  refine CThen.by (has_nil zL rfl _) ?_
  simp only [push_cast, simprocAttr, ez, g1, g2, g3]
  refine CThen.by (keys_nil kd _) ?_
  simp only [push_cast, simprocAttr, ez, g1, g2, g3]
  refine CThen.by (slots_c n _ h1 h2) ?_
  simp only [push_cast, simprocAttr, ez, g1, g2, g3]
  refine CThen.by (rslots_c n _ h1 h2) ?_
  simp only [push_cast, simprocAttr, ez, g1, g2, g3]
  refine CThen.by (need_c n _ (by omega)) ?_
  simp only [push_cast, simprocAttr, ez, g1, g2, g3]
  refine Thn_n ?_
  refine hK _ _ ?_
  clear hK K
  refine AW.ret ?_
  refine hQ _ _ _ ?_
  first | refine RetP.drop0 (Or.inr rfl) ?_ ?_ hwf | refine RetP.drop (Or.inr rfl) ?_ ?_ hwf
  · simp only [resA, resOne, resTv, AV.tv, push_cast, simprocAttr, ez, g1, g2, g3]
  · rfl
theorem nil_hi (kd : Int) (a : AV) (n : Int) (m : AMem) (h1 : -9223372036854775808 ≤ n) (h2 : n ≤ 9223372036854775807) (h : 1099511627776 ≤ n) : Ctr Try.prog 5 [.one (.int .i64 kd), a, .one (.int .i64 n)] m (.one (.bool true)) m := by
  refine Ctr.enter Try.func5 rfl (by decide) (rs := [.tmp 6]) (nt := 98) rfl rfl fun hwf Q hQ => ?_
  have ez : [CV.int .u8 0, CV.int .u8 0, CV.int .u8 0, CV.int .u8 0, CV.int .u8 0, CV.int .u8 0, CV.int .u8 0, CV.int .u8 0, CV.int .u8 0, CV.int .u8 0, CV.int .u8 0, CV.int .u8 0, CV.int .u8 0, CV.int .u8 0, CV.int .u8 0, CV.int .u8 0, CV.int .u8 0, CV.int .u8 0, CV.int .u8 0, CV.int .u8 0, CV.int .u8 0, CV.int .u8 0, CV.int .u8 0, CV.int .u8 0, CV.int .u8 0, CV.int .u8 0, CV.int .u8 0, CV.int .u8 0, CV.int .u8 0, CV.int .u8 0, CV.int .u8 0, CV.int .u8 0] = u8l zL := rfl
  have g1 : 0 < n := by omega
  have g3 : ¬ n < 1099511627776 := by omega
  have g2 : (1099511627776 : Int) ≤ n := h
  have nz : True := trivial
  
  iterate 2
    refine AW.seq_k fun K hK => ?_
    refine AW.region (by decide) ?_
    simp only [push_cast, simprocAttr, ez, g1, g2, g3]
    refine Thn_n ?_
    refine hK _ _ ?_
    clear hK K
  refine AW.seq_k fun K hK => ?_
  refine AW.region (by decide) ?_
  simp only [push_cast, simprocAttr, ez, g1, g2, g3]
  refine CThen.by (open_nil _) ?_
  simp only [push_cast, simprocAttr, ez, g1, g2, g3]
  refine Thn_n ?_
  refine hK _ _ ?_
  clear hK K
  refine AW.seq_k fun K hK => ?_
  refine AW.region (by decide) ?_
  simp only [push_cast, simprocAttr, ez, g1, g2, g3]
  refine CThen.by (get_nil zL rfl _) ?_
  simp only [push_cast, simprocAttr, ez, g1, g2, g3]
  refine Thn_n ?_
  refine hK _ _ ?_
  clear hK K
  refine AW.seq_k fun K hK => ?_
  refine AW.region (by decide) ?_
  simp only [push_cast, simprocAttr, ez, g1, g2, g3]
  refine CThen.by (used_nil _) ?_
  simp only [push_cast, simprocAttr, ez, g1, g2, g3]
  refine Thn_n ?_
  refine hK _ _ ?_
  clear hK K
  refine AW.seq_k fun K hK => ?_
  refine AW.region (by decide) ?_
  simp only [push_cast, simprocAttr, ez, g1, g2, g3]
  refine Thn_n ?_
  refine hK _ _ ?_
  clear hK K
  refine AW.seq_k fun K hK => ?_
  refine AW.seq_k fun K hK => ?_
  refine AW.region (by decide) ?_
  simp only [push_cast, simprocAttr, ez, g1, g2, g3]
  refine Thn_n ?_
  refine hK _ _ ?_
  clear hK K
  refine AW.cond_f rfl ?_
  refine AW.skip ?_
  refine Thn_n ?_
  refine hK _ _ ?_
  clear hK K
  refine AW.seq_k fun K hK => ?_
  refine AW.region (by decide) ?_
  simp only [push_cast, simprocAttr, ez, g1, g2, g3]
  refine CThen.by (awake_c _) ?_
  simp only [push_cast, simprocAttr, ez, g1, g2, g3]
  refine CThen.by (put_nil zL rfl _ kd a) ?_
  simp only [push_cast, simprocAttr, ez, g1, g2, g3]
  refine CThen.by (drop_nil _) ?_
  simp only [push_cast, simprocAttr, ez, g1, g2, g3]
  refine CThen.by (has_nil zL rfl _) ?_
  simp only [push_cast, simprocAttr, ez, g1, g2, g3]
  refine CThen.by (keys_nil kd _) ?_
  simp only [push_cast, simprocAttr, ez, g1, g2, g3]
  refine CThen.by (slots_c n _ h1 h2) ?_
  simp only [push_cast, simprocAttr, ez, g1, g2, g3]
  refine CThen.by (rslots_c n _ h1 h2) ?_
  simp only [push_cast, simprocAttr, ez, g1, g2, g3]
  refine Thn_n ?_
  refine hK _ _ ?_
  clear hK K
  refine AW.ret ?_
  refine hQ _ _ _ ?_
  first | refine RetP.drop0 (Or.inr rfl) ?_ ?_ hwf | refine RetP.drop (Or.inr rfl) ?_ ?_ hwf
  · simp only [resA, resOne, resTv, AV.tv, push_cast, simprocAttr, ez, g1, g2, g3]
  · rfl
end Go.Proofs.Ytdkfbbjpblfclaa
