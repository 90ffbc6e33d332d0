/- Walks and facts of this seat's program over abstract states, printed by a program of mine; no conditions but those that each theorem names. -/
import Derived.Test.YtgbehbaecdepjaaFilmR
import Derived.Test.YtgbehbaecdepjaaFilmF
set_option linter.unusedSimpArgs false
set_option linter.unusedVariables false
set_option maxRecDepth 100000
set_option maxHeartbeats 4000000
namespace Go.Proofs.Ytgbehbaecdepjaa
open Go Go.Eng

/-- Bytes as a number, the lowest first; what is left of bytes. -/
def valL : List Int → Int
  | [] => 0
  | x :: l => x + 256 * valL l
structure Rest (bs : List Int) (s : Nat × Int) (xs : List Int) : Prop where
  e : s.2 = 0
  le : s.1 ≤ bs.length
  d : bs.drop s.1 = xs
theorem byB_drop {bs : List Int} {p : Nat} {x : Int} {l : List Int} (h : bs.drop p = x :: l) : byB bs p = x ∧ bs.drop (p + 1) = l := by
  constructor
  · unfold byB; rw [List.getD_eq_getElem?_getD]
    have := congrArg (fun l => l[0]?) h
    simp only [List.getElem?_drop, Nat.add_zero, List.getElem?_cons_zero] at this
    rw [this]; rfl
  · have := congrArg (List.drop 1) h
    rw [List.drop_drop] at this
    simpa using this
theorem numV_val {bs : List Int} : ∀ {ys : List Int} {p : Nat} {zs : List Int}, bs.drop p = ys ++ zs → numV bs p ys.length = valL ys ∧ bs.drop (p + ys.length) = zs
  | [], p, zs, h => ⟨rfl, by simpa using h⟩
  | x :: ys, p, zs, h => by
    obtain ⟨h1, h2⟩ := byB_drop (show bs.drop p = x :: (ys ++ zs) from h)
    obtain ⟨h3, h4⟩ := numV_val h2
    exact ⟨by simp only [List.length_cons, numV, valL, h1, h3], by rw [List.length_cons, show p + (ys.length + 1) = p + 1 + ys.length by omega]; exact h4⟩
theorem Rest.rd {bs : List Int} {s : Nat × Int} {ys zs : List Int} (h : Rest bs s (ys ++ zs)) {k : Nat} (hk : ys.length = k) : rdV bs k s = valL ys ∧ Rest bs (rdS bs.length k s) zs := by
  obtain ⟨e, le, d⟩ := h
  obtain ⟨h1, h2⟩ := numV_val d
  have hl := congrArg List.length d
  simp only [List.length_drop, List.length_append] at hl
  have hf : s.1 + k ≤ bs.length := by omega
  have hs : rdS bs.length k s = (s.1 + k, 0) := by unfold rdS; rw [if_pos e, if_pos hf]
  refine ⟨by unfold rdV; rw [if_pos e, if_pos hf, ← hk, h1], ?_⟩
  rw [hs]; exact ⟨rfl, hf, by rw [← hk]; exact h2⟩
theorem wrap8 (x : Int) : IntKind.u8.wrap x = x % 256 := by simp [IntKind.wrap, IntKind.signed, IntKind.bits]
theorem numL2 (x : Int) : numL x 2 = [x % 256, x / 256 % 256] := by simp [numL, shN, wrap8]
theorem numL5 (x : Int) : numL x 5 = [x % 256, x / 256 % 256, x / 256 / 256 % 256, x / 256 / 256 / 256 % 256, x / 256 / 256 / 256 / 256 % 256] := by simp [numL, shN, wrap8]
theorem val2u {x : Int} (h : 0 ≤ x ∧ x ≤ 65535) : valL (numL (IntKind.u64.wrap x) 2) = x := by
  rw [IntKind.wrap_u64, numL2]; simp only [valL]; omega
theorem val2 {x : Int} (h : -32768 ≤ x ∧ x ≤ 32767) : sg2 (valL (numL (IntKind.u64.wrap x) 2)) = x := by
  rw [IntKind.wrap_u64, numL2]; simp only [valL]; unfold sg2; split <;> omega
theorem val5 {x : Int} (h : -2147483648 ≤ x ∧ x ≤ 2147483648) : sg5 (valL (numL (IntKind.u64.wrap x) 5)) = x := by
  rw [IntKind.wrap_u64, numL5]; simp only [valL]; unfold sg5; split <;> omega
def okN (x : Int) : Prop := -2147483648 ≤ x ∧ x ≤ 2147483648
theorem over_no {x : Int} (h : okN x) : overB x = false := by
  unfold overB; rw [decide_eq_false (by have := h.2; omega), decide_eq_false (by have := h.1; omega)]; rfl
theorem Rest.fix {bs : List Int} {s : Nat × Int} {zs : List Int} {x : Int} (hx : okN x) (h : Rest bs s (numL (IntKind.u64.wrap x) 5 ++ zs)) : fixV bs s = x ∧ Rest bs (fixS bs s) zs := by
  obtain ⟨h1, h2⟩ := h.rd (numL_len _ 5)
  have hv := val5 hx
  rw [← h1] at hv
  unfold fixV fixS; rw [hv, over_no hx]; exact ⟨rfl, h2⟩
theorem Rest.vec {bs : List Int} {s : Nat × Int} {zs : List Int} {g : Nat → Int} (hx : ∀ k, k < 3 → okN (g k)) (h : Rest bs s (catL 5 g 3 ++ zs)) : (∀ k, k < 3 → v3V bs s k = g k) ∧ Rest bs (v3S bs s) zs := by
  simp only [catL, List.nil_append, List.append_assoc] at h
  obtain ⟨a0, h0⟩ := h.fix (hx 0 (by omega))
  obtain ⟨a1, h1⟩ := h0.fix (hx 1 (by omega))
  obtain ⟨a2, h2⟩ := h1.fix (hx 2 (by omega))
  refine ⟨fun k hk => ?_, h2⟩
  have e : (v3S bs s).2 = 0 := h2.e
  unfold v3V
  rw [if_pos e]
  match k, hk with
  | 0, _ => exact a0
  | 1, _ => exact a1
  | 2, _ => exact a2
theorem Rest.it {bs : List Int} {f : Nat × Int → Nat × Int} {cat seg : Nat → List Int} {P : Nat → Nat × Int → Prop} {N : Nat} (h0 : cat 0 = []) (hs : ∀ i, cat (i + 1) = cat i ++ seg i)
    (step : ∀ i s zs, i < N → Rest bs s (seg i ++ zs) → P i s ∧ Rest bs (f s) zs) : ∀ n, n ≤ N → ∀ s zs, Rest bs s (cat n ++ zs) → (∀ i, i < n → P i (it f s i)) ∧ Rest bs (it f s n) zs
  | 0, _, s, zs, h => ⟨fun i hi => absurd hi (by omega), by rw [h0] at h; exact h⟩
  | n + 1, hn, s, zs, h => by
    rw [hs, List.append_assoc] at h
    obtain ⟨a, b⟩ := Rest.it h0 hs step n (by omega) s _ h
    obtain ⟨c, d⟩ := step n _ zs (by omega) b
    refine ⟨fun i hi => ?_, d⟩
    rcases Nat.lt_or_ge i n with h | h
    · exact a i h
    · rw [show i = n by omega]; exact c
theorem hsS_it {bs : List Int} {s : Nat × Int} : ∀ i, hsS bs s i = it (v3S bs) (shS bs s) i
  | 0 => rfl
  | i + 1 => by show v3S bs (hsS bs s i) = v3S bs (it (v3S bs) (shS bs s) i); rw [hsS_it i]
theorem it_vec {bs : List Int} {n : Nat} {G : Nat → Nat → Int} (hG : ∀ i, i < n → ∀ k, k < 3 → okN (G i k)) {s : Nat × Int} {zs : List Int} (h : Rest bs s (catV G n ++ zs)) :
    (∀ i, i < n → ∀ k, k < 3 → v3V bs (it (v3S bs) s i) k = G i k) ∧ Rest bs (it (v3S bs) s n) zs :=
  Rest.it (cat := catV G) (seg := fun i => catL 5 (G i) 3) (P := fun i s => ∀ k, k < 3 → v3V bs s k = G i k) rfl (fun _ => rfl) (fun i s zs hi h => h.vec (hG i hi)) n (Nat.le_refl _) s zs h
theorem it_fix {bs : List Int} {n : Nat} {f : Nat → Int} (hG : ∀ i, i < n → okN (f i)) {s : Nat × Int} {zs : List Int} (h : Rest bs s (catL 5 f n ++ zs)) :
    (∀ i, i < n → fixV bs (it (fixS bs) s i) = f i) ∧ Rest bs (it (fixS bs) s n) zs :=
  Rest.it (cat := catL 5 f) (seg := fun i => numL (IntKind.u64.wrap (f i)) 5) (P := fun i s => fixV bs s = f i) rfl (fun _ => rfl) (fun i s zs hi h => h.fix (hG i hi)) n (Nat.le_refl _) s zs h
theorem it_two {bs : List Int} {n : Nat} {f : Nat → Int} (hG : ∀ i, i < n → -32768 ≤ f i ∧ f i ≤ 32767) {s : Nat × Int} {zs : List Int} (h : Rest bs s (catL 2 f n ++ zs)) :
    (∀ i, i < n → sg2 (rdV bs 2 (it (rdS bs.length 2) s i)) = f i) ∧ Rest bs (it (rdS bs.length 2) s n) zs :=
  Rest.it (cat := catL 2 f) (seg := fun i => numL (IntKind.u64.wrap (f i)) 2) (P := fun i s => sg2 (rdV bs 2 s) = f i) rfl (fun _ => rfl) (fun i s zs hi h => by
    obtain ⟨a, b⟩ := h.rd (numL_len _ 2)
    exact ⟨by rw [a]; exact val2 (hG i hi), b⟩) n (Nat.le_refl _) s zs h
/-- Are a film's numbers held? -/
structure HeldP (nL nD nN nB : Nat) (GL GN GB : Nat → Nat → Int) (fD : Nat → Int) : Prop where
  d : ∀ i, i < nD → okN (fD i)
  l : ∀ i, i < nL → ∀ k, k < 3 → okN (GL i k)
  b : ∀ i, i < nB → ∀ k, k < 3 → okN (GB i k)
  n : ∀ i, i < nN → ∀ k, k < 3 → okN (GN i k)
/-- What is read of a film's bytes. -/
structure Back (bs : List Int) (W H : Int) (n : Nat) (GL GN GB : Nat → Nat → Int) (fD fS fF : Nat → Int) : Prop where
  ok : okB bs = true
  w : rdV bs 2 (0, 0) = W
  h : rdV bs 2 (rdS bs.length 2 (0, 0)) = H
  np : npS bs (0, 0) = n
  gl : dl n (GH bs (0, 0)) = dl n GL
  gn : dl n (xN bs) = dl n GN
  gb : dl n (xB bs) = dl n GB
  fd : il n (xD bs) = il n fD
  fs : il n (xS bs) = il n fS
  ff : il n (xF bs) = il n fF
theorem back_film {W H : Int} {n : Nat} {GL GN GB : Nat → Nat → Int} {fD fS fF : Nat → Int} (hr : filmR W H n n n n n n fS fF = true) (hh : HeldP n n n n GL GN GB fD) {bs : List Int}
    (hb : bs = catL 2 (wh W H) 2 ++ (catV GL n ++ (catL 5 fD n ++ (catV GN n ++ (catV GB n ++ (catL 2 fS n ++ catL 2 fF n)))))) : Back bs W H n GL GN GB fD fS fF := by
  have hr0 := hr
  unfold filmR at hr
  simp only [Bool.and_eq_true, decide_eq_true_eq] at hr
  obtain ⟨hsh, _, hok⟩ := hr
  have hwh := shR_wh hsh
  have hz : szR W H = true := by unfold shR at hsh; simp only [Bool.and_eq_true] at hsh; exact hsh.1
  obtain ⟨w1, w2, w3, w4⟩ := szR_iff.1 hz
  have hnW : W.toNat * H.toNat = n := by
    have h1 : W.toNat ≤ 64 := by omega
    have h2 : H.toNat ≤ 64 := by omega
    have h3 : W.toNat * H.toNat ≤ 64 * 64 := Nat.mul_le_mul h1 h2
    have e : W * H = ((W.toNat * H.toNat : Nat) : Int) := by rw [Int.natCast_mul, Int.toNat_of_nonneg (by omega), Int.toNat_of_nonneg (by omega)]
    rw [e] at hwh
    generalize W.toNat * H.toNat = z at *
    rw [wi (by omega)] at hwh
    omega
  have hn : n ≤ 4096 := by rw [← hnW]; exact Nat.mul_le_mul (show W.toNat ≤ 64 by omega) (show H.toNat ≤ 64 by omega)
  have r0 : Rest bs (0, 0) (numL (IntKind.u64.wrap W) 2 ++ (numL (IntKind.u64.wrap H) 2 ++ (catV GL n ++ (catL 5 fD n ++ (catV GN n ++ (catV GB n ++ (catL 2 fS n ++ catL 2 fF n))))))) := ⟨rfl, Nat.zero_le _, by rw [← List.append_assoc, ← catL_2, ← hb]; rfl⟩
  obtain ⟨a1, r1⟩ := r0.rd (numL_len _ 2)
  obtain ⟨a2, r2⟩ := r1.rd (numL_len _ 2)
  rw [val2u (by omega)] at a1 a2
  have hnp : npS bs (0, 0) = n := by unfold npS; rw [a1, a2]; exact hnW
  have hsS0 : shS bs (0, 0) = rdS bs.length 2 (rdS bs.length 2 (0, 0)) := by
    unfold shS; rw [if_neg]
    rintro ⟨_, h⟩
    unfold szS at h; rw [a1, a2, hz] at h; cases h
  obtain ⟨b1, q1⟩ := it_vec hh.l r2
  rw [← hsS0] at q1 b1
  rw [← hsS_it, ← hnp] at q1
  rw [hnp] at q1
  have e0 : hsS bs (0, 0) n = hsS bs (0, 0) (npS bs (0, 0)) := by rw [hnp]
  rw [e0] at q1
  obtain ⟨b2, q2⟩ := it_fix hh.d q1
  have e1 : it (fixS bs) (hsS bs (0, 0) (npS bs (0, 0))) n = D1 bs := by unfold D1; rw [hnp]
  rw [e1] at q2
  obtain ⟨b3, q3⟩ := it_vec hh.n q2
  have e2 : it (v3S bs) (D1 bs) n = D2 bs := by unfold D2; rw [hnp]
  rw [e2] at q3
  obtain ⟨b4, q4⟩ := it_vec hh.b q3
  have e3 : it (v3S bs) (D2 bs) n = D3 bs := by unfold D3; rw [hnp]
  rw [e3] at q4
  obtain ⟨b5, q5⟩ := it_two (fun i hi => by have := hok i hi; unfold okP at this; omega) q4
  have e4 : it (rdS bs.length 2) (D3 bs) n = D4 bs := by unfold D4; rw [hnp]
  rw [e4] at q5
  rw [← List.append_nil (catL 2 fF n)] at q5
  obtain ⟨b6, q6⟩ := it_two (fun i hi => by have := hok i hi; unfold okP at this; omega) q5
  have e5 : it (rdS bs.length 2) (D4 bs) n = D5 bs := by unfold D5; rw [hnp]
  rw [e5] at q6
  have hend : ¬ (D5 bs).1 < bs.length := by
    have := congrArg List.length q6.d
    simp only [List.length_drop, List.length_nil] at this
    omega
  have xs : ∀ i, i < n → xS bs i = fS i := b5
  have xf : ∀ i, i < n → xF bs i = fF i := b6
  have hrg : rgB bs = true := by
    unfold rgB; rw [a1, a2, hnp]
    rw [← hr0]; unfold filmR
    have : (∀ i, i < n → okP n (xS bs) (xF bs) i) ↔ ∀ i, i < n → okP n fS fF i :=
      ⟨fun h i hi => by have := h i hi; unfold okP at this ⊢; rw [xs i hi, xf i hi] at this; exact this, fun h i hi => by have := h i hi; unfold okP at this ⊢; rw [xs i hi, xf i hi]; exact this⟩
    rw [decide_eq_decide.2 this]
  refine ⟨by unfold okB; rw [decide_eq_true q6.e, decide_eq_true hend, hrg]; rfl, a1, a2, hnp, dl_congr fun i k hi hk => ?_, dl_congr fun i k hi hk => b3 i hi k hk, dl_congr fun i k hi hk => b4 i hi k hk, il_congr b2, il_congr xs, il_congr xf⟩
  show v3V bs (hsS bs (0, 0) i) k = _
  rw [hsS_it]; exact b1 i hi k hk
theorem drop_cons {bs : List Int} {p : Nat} (h : p < bs.length) : bs.drop p = byB bs p :: bs.drop (p + 1) := by
  rw [List.drop_eq_getElem_cons h]
  congr 1
  unfold byB; rw [List.getD_eq_getElem?_getD, List.getElem?_eq_getElem h]; rfl
theorem rdS_ok {n k : Nat} {s : Nat × Int} (h : (rdS n k s).2 = 0) : s.2 = 0 ∧ s.1 + k ≤ n ∧ rdS n k s = (s.1 + k, 0) := by
  unfold rdS at h ⊢
  split at h
  · rename_i h0
    split at h
    · rename_i h1; rw [if_pos h0, if_pos h1]; exact ⟨h0, h1, rfl⟩
    · exact absurd h (by simp)
  · rename_i h0; exact absurd h h0
theorem seg2_ {bs : List Int} {s : Nat × Int} (hu : ∀ i, 0 ≤ byB bs i ∧ byB bs i ≤ 255) (h : (rdS bs.length 2 s).2 = 0) : rdV bs 2 s = byB bs s.1 + 256 * byB bs (s.1 + 1) ∧ bs.drop s.1 = [byB bs s.1, byB bs (s.1 + 1)] ++ bs.drop (rdS bs.length 2 s).1 := by
  obtain ⟨h0, h1, h2⟩ := rdS_ok h
  refine ⟨by unfold rdV; rw [if_pos h0, if_pos h1]; simp only [numV]; omega, ?_⟩
  rw [h2, drop_cons (show s.1 < bs.length by omega), drop_cons (show s.1 + 1 < bs.length by omega)]; rfl
theorem seg2u {bs : List Int} {s : Nat × Int} (hu : ∀ i, 0 ≤ byB bs i ∧ byB bs i ≤ 255) (h : (rdS bs.length 2 s).2 = 0) : bs.drop s.1 = numL (IntKind.u64.wrap (rdV bs 2 s)) 2 ++ bs.drop (rdS bs.length 2 s).1 := by
  obtain ⟨h1, h2⟩ := seg2_ hu h
  have u0 := hu s.1; have u1 := hu (s.1 + 1)
  rw [h2, IntKind.wrap_u64, numL2, h1]
  congr 2
  · omega
  · congr 1; omega
theorem seg2 {bs : List Int} {s : Nat × Int} (hu : ∀ i, 0 ≤ byB bs i ∧ byB bs i ≤ 255) (h : (rdS bs.length 2 s).2 = 0) : bs.drop s.1 = numL (IntKind.u64.wrap (sg2 (rdV bs 2 s))) 2 ++ bs.drop (rdS bs.length 2 s).1 := by
  obtain ⟨h1, h2⟩ := seg2_ hu h
  have u0 := hu s.1; have u1 := hu (s.1 + 1)
  rw [h2, IntKind.wrap_u64, numL2, h1]
  unfold sg2
  congr 2
  · split <;> omega
  · congr 1; split <;> omega
theorem flS_ne {x : Int} {s : Nat × Int} (hx : ¬ x = 0) : ¬ (flS x s).2 = 0 := by
  unfold flS; split
  · exact hx
  · rename_i h; exact h
theorem fixS_ok {bs : List Int} {s : Nat × Int} (h : (fixS bs s).2 = 0) : overB (sg5 (rdV bs 5 s)) = false ∧ fixS bs s = rdS bs.length 5 s ∧ fixV bs s = sg5 (rdV bs 5 s) := by
  unfold fixS fixV at *
  cases ho : overB (sg5 (rdV bs 5 s))
  · exact ⟨rfl, rfl, rfl⟩
  · rw [ho] at h; exact absurd h (flS_ne (by decide))
theorem seg5 {bs : List Int} {s : Nat × Int} (hu : ∀ i, 0 ≤ byB bs i ∧ byB bs i ≤ 255) (h : (fixS bs s).2 = 0) : bs.drop s.1 = numL (IntKind.u64.wrap (fixV bs s)) 5 ++ bs.drop (fixS bs s).1 := by
  obtain ⟨_, e1, e2⟩ := fixS_ok h
  rw [e1] at h ⊢; rw [e2]
  obtain ⟨h0, h1, h2⟩ := rdS_ok h
  have u0 := hu s.1; have u1 := hu (s.1 + 1); have u2 := hu (s.1 + 1 + 1); have u3 := hu (s.1 + 1 + 1 + 1); have u4 := hu (s.1 + 1 + 1 + 1 + 1)
  have e : rdV bs 5 s = byB bs s.1 + 256 * (byB bs (s.1 + 1) + 256 * (byB bs (s.1 + 1 + 1) + 256 * (byB bs (s.1 + 1 + 1 + 1) + 256 * (byB bs (s.1 + 1 + 1 + 1 + 1) + 256 * 0)))) := by
    unfold rdV; rw [if_pos h0, if_pos h1]; rfl
  rw [h2, drop_cons (show s.1 < bs.length by omega), drop_cons (show s.1 + 1 < bs.length by omega), drop_cons (show s.1 + 1 + 1 < bs.length by omega), drop_cons (show s.1 + 1 + 1 + 1 < bs.length by omega), drop_cons (show s.1 + 1 + 1 + 1 + 1 < bs.length by omega), IntKind.wrap_u64, numL5, e]
  generalize byB bs s.1 = b0 at *
  generalize byB bs (s.1 + 1) = b1 at *
  generalize byB bs (s.1 + 1 + 1) = b2 at *
  generalize byB bs (s.1 + 1 + 1 + 1) = b3 at *
  generalize byB bs (s.1 + 1 + 1 + 1 + 1) = b4 at *
  have hx : ∀ v w : Int, (v = w ∨ v = w - 1099511627776) → 0 ≤ w → w < 1099511627776 → v % 18446744073709551616 % 256 = w % 256 ∧ v % 18446744073709551616 / 256 % 256 = w / 256 % 256 ∧ v % 18446744073709551616 / 256 / 256 % 256 = w / 256 / 256 % 256 ∧ v % 18446744073709551616 / 256 / 256 / 256 % 256 = w / 256 / 256 / 256 % 256 ∧ v % 18446744073709551616 / 256 / 256 / 256 / 256 % 256 = w / 256 / 256 / 256 / 256 % 256 := by
    intro v w h h3 h4
    obtain ⟨K, hK⟩ : ∃ K : Int, v % 18446744073709551616 = w + 1099511627776 * K := by
      rcases h with h | h
      · exact ⟨0, by omega⟩
      · exact ⟨if w = w then 16777215 else 0, by rw [if_pos rfl]; omega⟩
    generalize v % 18446744073709551616 = u at hK ⊢
    subst hK
    refine ⟨?_, ?_, ?_, ?_, ?_⟩ <;> omega
  obtain ⟨y0, y1, y2, y3, y4⟩ := hx (sg5 (b0 + 256 * (b1 + 256 * (b2 + 256 * (b3 + 256 * (b4 + 256 * 0)))))) (b0 + 256 * (b1 + 256 * (b2 + 256 * (b3 + 256 * (b4 + 256 * 0))))) (by unfold sg5; split; exact .inr rfl; exact .inl rfl) (by omega) (by omega)
  rw [y0, y1, y2, y3, y4]
  rw [show (b0 + 256 * (b1 + 256 * (b2 + 256 * (b3 + 256 * (b4 + 256 * 0))))) % 256 = b0 by omega, show (b0 + 256 * (b1 + 256 * (b2 + 256 * (b3 + 256 * (b4 + 256 * 0))))) / 256 = b1 + 256 * (b2 + 256 * (b3 + 256 * (b4 + 256 * 0))) by omega, show (b1 + 256 * (b2 + 256 * (b3 + 256 * (b4 + 256 * 0)))) / 256 = b2 + 256 * (b3 + 256 * (b4 + 256 * 0)) by omega, show (b2 + 256 * (b3 + 256 * (b4 + 256 * 0))) / 256 = b3 + 256 * (b4 + 256 * 0) by omega, show (b3 + 256 * (b4 + 256 * 0)) / 256 = b4 + 256 * 0 by omega]
  rw [show (b1 + 256 * (b2 + 256 * (b3 + 256 * (b4 + 256 * 0)))) % 256 = b1 by omega, show (b2 + 256 * (b3 + 256 * (b4 + 256 * 0))) % 256 = b2 by omega, show (b3 + 256 * (b4 + 256 * 0)) % 256 = b3 by omega, show (b4 + 256 * 0) % 256 = b4 by omega]
  rfl
theorem segV {bs : List Int} {s : Nat × Int} (hu : ∀ i, 0 ≤ byB bs i ∧ byB bs i ≤ 255) (h : (v3S bs s).2 = 0) : bs.drop s.1 = catL 5 (v3V bs s) 3 ++ bs.drop (v3S bs s).1 := by
  have g2 : (fixS bs (fixS bs s)).2 = 0 := Classical.not_not.1 fun hc => by unfold v3S at h; rw [fixS_err hc] at h; exact hc h
  have g1 : (fixS bs s).2 = 0 := Classical.not_not.1 fun hc => by rw [fixS_err hc] at g2; exact hc g2
  have e : catL 5 (v3V bs s) 3 = numL (IntKind.u64.wrap (fixV bs s)) 5 ++ (numL (IntKind.u64.wrap (fixV bs (fixS bs s))) 5 ++ numL (IntKind.u64.wrap (fixV bs (fixS bs (fixS bs s)))) 5) := by
    have v0 : v3V bs s 0 = fixV bs s := by unfold v3V; exact if_pos h
    have v1 : v3V bs s 1 = fixV bs (fixS bs s) := by unfold v3V; exact if_pos h
    have v2 : v3V bs s 2 = fixV bs (fixS bs (fixS bs s)) := by unfold v3V; exact if_pos h
    simp only [catL, List.nil_append, List.append_assoc]; rw [v0, v1, v2]
  rw [e, List.append_assoc, List.append_assoc, seg5 hu g1, seg5 hu g2, seg5 hu (s := fixS bs (fixS bs s)) h]
  rfl
theorem it_seg {bs : List Int} {f : Nat × Int → Nat × Int} {cat seg : Nat → List Int} {s : Nat × Int} (h0 : cat 0 = []) (hs : ∀ i, cat (i + 1) = cat i ++ seg i) (hf : ∀ s : Nat × Int, ¬ s.2 = 0 → f s = s)
    (step : ∀ i, (it f s (i + 1)).2 = 0 → bs.drop (it f s i).1 = seg i ++ bs.drop (it f s (i + 1)).1) : ∀ n, (it f s n).2 = 0 → bs.drop s.1 = cat n ++ bs.drop (it f s n).1
  | 0, _ => by rw [h0]; rfl
  | n + 1, h => by
    rw [hs, List.append_assoc, ← step n h]
    exact it_seg h0 hs hf step n (it_ok hf (Nat.le_succ n) h)
theorem sheet_bytes {bs : List Int} (hu : ∀ i, 0 ≤ byB bs i ∧ byB bs i ≤ 255) (h : (hsS bs (0, 0) (npS bs (0, 0))).2 = 0) : szS bs (0, 0) = true ∧
    bs = catL 2 (wh (rdV bs 2 (0, 0)) (rdV bs 2 (rdS bs.length 2 (0, 0)))) 2 ++ (catV (GH bs (0, 0)) (npS bs (0, 0)) ++ bs.drop (hsS bs (0, 0) (npS bs (0, 0))).1) := by
  have g0 : (shS bs (0, 0)).2 = 0 := Classical.not_not.1 fun hc => by
    have := hs_err (i := 0) hc (npS bs (0, 0)); rw [Nat.zero_add] at this; rw [this] at h; exact hc h
  have hz : szS bs (0, 0) = true ∧ shS bs (0, 0) = rdS bs.length 2 (rdS bs.length 2 (0, 0)) := by
    unfold shS at g0 ⊢
    split at g0
    · exact absurd g0 (flS_ne (by decide))
    · rename_i hc
      rw [if_neg hc]
      refine ⟨?_, rfl⟩
      cases hq : szS bs (0, 0)
      · exact absurd ⟨g0, hq⟩ hc
      · rfl
  refine ⟨hz.1, ?_⟩
  rw [hz.2] at g0
  have g1 : (rdS bs.length 2 (0, 0)).2 = 0 := Classical.not_not.1 fun hc => by rw [rdS_err hc] at g0; exact hc g0
  have s0 := seg2u hu g1
  have s1 := seg2u hu g0
  have h' := h
  rw [hsS_it] at h'
  have s2 := it_seg (bs := bs) (f := v3S bs) (cat := catV (GH bs (0, 0))) (seg := fun i => catL 5 (GH bs (0, 0) i) 3) (s := shS bs (0, 0)) rfl (fun _ => rfl) ve (fun i hi => by
    show bs.drop (it (v3S bs) (shS bs (0, 0)) i).1 = catL 5 (v3V bs (hsS bs (0, 0) i)) 3 ++ bs.drop (v3S bs (it (v3S bs) (shS bs (0, 0)) i)).1
    rw [hsS_it]; exact segV hu hi) _ h'
  rw [hz.2, ← hz.2, ← hsS_it, hz.2] at s2
  rw [catL_2, List.append_assoc, ← s2, ← s1, ← s0]
  rfl
theorem film_bytes {bs : List Int} (hu : ∀ i, 0 ≤ byB bs i ∧ byB bs i ≤ 255) (h : okB bs = true) : rgB bs = true ∧
    catL 2 (wh (rdV bs 2 (0, 0)) (rdV bs 2 (rdS bs.length 2 (0, 0)))) 2 ++ (catV (GH bs (0, 0)) (npS bs (0, 0)) ++ (catL 5 (xD bs) (npS bs (0, 0)) ++ (catV (xN bs) (npS bs (0, 0)) ++ (catV (xB bs) (npS bs (0, 0)) ++ (catL 2 (xS bs) (npS bs (0, 0)) ++ catL 2 (xF bs) (npS bs (0, 0))))))) = bs := by
  unfold okB at h
  simp only [Bool.and_eq_true, decide_eq_true_eq] at h
  obtain ⟨h5, hend, hrg⟩ := h
  refine ⟨hrg, ?_⟩
  obtain ⟨h4, h3, h2, h1, h0⟩ := Dok h5
  have t0 := (sheet_bytes hu h0).2
  have t1 := it_seg (bs := bs) (f := fixS bs) (cat := catL 5 (xD bs)) (seg := fun i => numL (IntKind.u64.wrap (xD bs i)) 5) (s := hsS bs (0, 0) (npS bs (0, 0))) rfl (fun _ => rfl) fe (fun i hi => seg5 hu hi) _ h1
  have t2 := it_seg (bs := bs) (f := v3S bs) (cat := catV (xN bs)) (seg := fun i => catL 5 (xN bs i) 3) (s := D1 bs) rfl (fun _ => rfl) ve (fun i hi => segV hu hi) _ h2
  have t3 := it_seg (bs := bs) (f := v3S bs) (cat := catV (xB bs)) (seg := fun i => catL 5 (xB bs i) 3) (s := D2 bs) rfl (fun _ => rfl) ve (fun i hi => segV hu hi) _ h3
  have t4 := it_seg (bs := bs) (f := rdS bs.length 2) (cat := catL 2 (xS bs)) (seg := fun i => numL (IntKind.u64.wrap (xS bs i)) 2) (s := D3 bs) rfl (fun _ => rfl) re (fun i hi => seg2 hu hi) _ h4
  have t5 := it_seg (bs := bs) (f := rdS bs.length 2) (cat := catL 2 (xF bs)) (seg := fun i => numL (IntKind.u64.wrap (xF bs i)) 2) (s := D4 bs) rfl (fun _ => rfl) re (fun i hi => seg2 hu hi) _ h5
  have z : bs.drop (it (rdS bs.length 2) (D4 bs) (npS bs (0, 0))).1 = [] := List.drop_eq_nil_of_le (by have : ¬ (it (rdS bs.length 2) (D4 bs) (npS bs (0, 0))).1 < bs.length := hend; omega)
  rw [z, List.append_nil] at t5
  have t0' := t0
  rw [t1] at t0'
  have t2' : bs.drop (it (fixS bs) (hsS bs (0, 0) (npS bs (0, 0))) (npS bs (0, 0))).1 = catV (xN bs) (npS bs (0, 0)) ++ bs.drop (D2 bs).1 := t2
  have t3' : bs.drop (D2 bs).1 = catV (xB bs) (npS bs (0, 0)) ++ bs.drop (D3 bs).1 := t3
  have t4' : bs.drop (D3 bs).1 = catL 2 (xS bs) (npS bs (0, 0)) ++ bs.drop (D4 bs).1 := t4
  rw [t2', t3', t4', t5] at t0'
  exact t0'.symm
end Go.Proofs.Ytgbehbaecdepjaa
