/- Walks and facts of this seat's program over abstract states, printed by programs of mine; no conditions but those that each theorem names. -/
import Derived.Test.YtdkfbbjpblfclaaM5
set_option linter.unusedSimpArgs false
set_option linter.unusedVariables false
set_option maxRecDepth 100000
set_option maxHeartbeats 4000000
namespace Go.Proofs.Ytdkfbbjpblfclaa
open Go Go.Eng

theorem set64 {A B : List CV} (ha : A.length = 32) (hb : B.length = 32) (a b x y : CV) : ((A ++ (B ++ [a, b])).set 64 x).set 65 y = A ++ (B ++ [x, y]) := by
  simp [List.set_append, ha, hb]
theorem put_L (rv rl rd rs rm n : Nat) (V : VS) (D : DS) (m : AMem) (hB : HasB m rv rl rd rs rm n V D) (hf : ∀ i, OkS (V.f i)) (hk : V.k ≤ 512) (h0 : V.dead = 0) (kind : Int) (hkd : kind = 1 ∨ kind = 2) (key : List Int) (hkey : key.length = 32) (rp vp len : Nat) (bs : List Int) (hp : ∃ kk ez, m[rp]? = some ⟨kk, 5, vp, ez, u8l bs⟩) (hlen : bs.length = len) (hl2 : len ≤ 262144) (ho : U8ok bs) (hwd : WfD n D) (hdn : D.down = false) (hn : n ≤ 8192) (hd0 : 0 ≤ V.data) (hd1 : V.data ≤ 512) (hmiss : fnd (fdB key) V.f V.k < 0) (hkn : V.k ≤ n) (fr : Nat) (hfr : fnd (fun s => s.kind == 0) V.f V.k = (fr : Int)) (k : Nat) (hpl : plZ V n (shaL bs) (len : Int) = (k : Int)) (hk8 : k ≤ 8192) (hlb : plB V (shaL bs) (len : Int) = true) : Ctr Try.prog 10 [.one (.ptr rv 0 0), .one (.int .i64 kind), .agg (u8l key), .one (.sl rp vp 0 len)] m (.one (.int .i64 (wsS V D fr ⟨kind, key, shaL bs, (len : Int), (k : Int)⟩).2.2)) (setB m rv rl rd rs rm n (wsS V D fr ⟨kind, key, shaL bs, (len : Int), (k : Int)⟩).1 (wsS V D fr ⟨kind, key, shaL bs, (len : Int), (k : Int)⟩).2.1) := by
  refine Ctr.enter Try.func10 rfl (by decide) (rs := [.tmp 8]) (nt := 138) rfl rfl fun hwf Q hQ => ?_
  obtain ⟨kk, ez, hp⟩ := hp
  have h := hB.v
  have hv := h.v
  have hl := h.l
  have lv := get_lt hv
  have ll := get_lt hl
  have lpp := get_lt hp
  have gl : (cC V.k V.f).length = V.k * 67 := cC_len hf V.k
  have hup : ∀ X : AMem, Ctr Try.prog 31 [.one (.ptr rv 0 0)] (m ++ X) (.one (.int .i64 0)) (m ++ X) := fun X => by
    have := vup_c rv rl rd V (m ++ X) (lk_old hv X)
    rwa [h0] at this
  have kl : (u8l key).length = 32 := by rw [u8l_len]; exact hkey
  have kt : (u8l key).take 32 = u8l key := List.take_of_length_le (by omega)
  have kv := u8l_vals key
  have ksl : (u8l (shaL bs)).length = 32 := by rw [u8l_len]; exact shaL_len bs
  have kst : (u8l (shaL bs)).take 32 = u8l (shaL bs) := List.take_of_length_le (by omega)
  have ksv := u8l_vals (shaL bs)
  have kz : setL [CV.int .u8 0, CV.int .u8 0, CV.int .u8 0, CV.int .u8 0, CV.int .u8 0, CV.int .u8 0, CV.int .u8 0, CV.int .u8 0, CV.int .u8 0, CV.int .u8 0, CV.int .u8 0, CV.int .u8 0, CV.int .u8 0, CV.int .u8 0, CV.int .u8 0, CV.int .u8 0, CV.int .u8 0, CV.int .u8 0, CV.int .u8 0, CV.int .u8 0, CV.int .u8 0, CV.int .u8 0, CV.int .u8 0, CV.int .u8 0, CV.int .u8 0, CV.int .u8 0, CV.int .u8 0, CV.int .u8 0, CV.int .u8 0, CV.int .u8 0, CV.int .u8 0, CV.int .u8 0] 0 (u8l (shaL bs)) = u8l (shaL bs) := setL_full (by rw [ksl]; rfl)
  have ul : (u8l bs).length = len := by rw [u8l_len]; exact hlen
  have lng : ¬ (262144 : Int) < (len : Int) := by omega
  have sl := fun i => slC_len (hf i).w
  have f0 := fun i => slC_0 (V.f i)
  have f2 := fun i => slC_2 (hf i).w
  have hm1 := (fnd_neg hmiss).1
  have hd := hB.d
  have hrd := hd.d
  have ld := get_lt hd.d
  have lr := get_lt hd.r
  have lm := get_lt hd.m
  have sdl := fun D' => setD_len m rd rs rm n D'
  have sdh := fun D' => hd.set D'
  have sda : ∀ D1 D2 X, setD (setD m rd rs rm n D1 ++ X) rd rs rm n D2 = setD m rd rs rm n D2 ++ X := fun D1 D2 X => by rw [setD_app (hd.set D1), setD_twice hd]
  have sd0 : ∀ D2 X, setD (m ++ X) rd rs rm n D2 = setD m rd rs rm n D2 ++ X := fun D2 X => setD_app hd D2 X
  have sdt : ∀ D1 D2, setD (setD m rd rs rm n D1) rd rs rm n D2 = setD m rd rs rm n D2 := fun D1 D2 => setD_twice hd D1 D2
  have sdf : ∀ D', ((m.set rd (drB rs rm n D')).set rs (rowD n D')).set rm (mapD D') = setD m rd rs rm n D' := fun _ => rfl
  have sdd : ∀ D', (setD m rd rs rm n D')[rd]? = some (drB rs rm n D') := fun D' => (hd.set D').d
  have gS := fun (D' : DS) (L : AMem) => mk_lk0 (m := m) (l := setD m rd rs rm n D') (setD_len m rd rs rm n D') L
  have kS := fun (D' : DS) (L : AMem) (k : Nat) => mk_lk (m := m) (l := setD m rd rs rm n D') (setD_len m rd rs rm n D') L k
  have tS := fun (D' : DS) (L : AMem) (k : Nat) (b : Blk) => mk_set (m := m) (l := setD m rd rs rm n D') (setD_len m rd rs rm n D') L k b
  have t0S := fun (D' : DS) (L : AMem) (b : Blk) => mk_set0 (m := m) (l := setD m rd rs rm n D') (setD_len m rd rs rm n D') L b
  have hwfD := fun D' => setD_wf (rd := rd) (n := n) hwf lr lm D'
  have hfk : fr < V.k := by
    obtain ⟨i, h1, h2, _⟩ := fnd_pos (p := fun s => s.kind == 0) (f := V.f) (k := V.k) (by omega)
    omega
  have hfz : ¬ (fr : Int) < 0 := by omega
  have hkz : ¬ (k : Int) < 0 := by omega
  obtain ⟨s, hs⟩ : ∃ s : SL, s = ⟨kind, key, shaL bs, (len : Int), (k : Int)⟩ := ⟨_, rfl⟩
  have sw : WfS s := by rw [hs]; exact ⟨hkey, shaL_len bs⟩
  have so : OkS s := by rw [hs]; exact ⟨⟨hkey, shaL_len bs⟩, by show (0 : Int) ≤ (k : Int); omega, by show (k : Int) ≤ 4294967295; omega, by show (0 : Int) ≤ (len : Int); omega, by show (len : Int) ≤ 4294967295; omega⟩
  have sfold : CV.int .i64 kind :: (u8l key ++ (u8l (shaL bs) ++ [CV.int .i64 (len : Int), CV.int .i64 (k : Int)])) = slC s := by rw [hs]; rfl
  have s64 : ((u8l key ++ (u8l (shaL bs) ++ [CV.int .i64 0, CV.int .i64 0])).set 64 (CV.int .i64 (len : Int))).set 65 (CV.int .i64 (k : Int)) = u8l key ++ (u8l (shaL bs) ++ [CV.int .i64 (len : Int), CV.int .i64 (k : Int)]) := by
    exact set64 kl ksl _ _ _ _
  have sslen := slC_len sw
  have sstk := slC_take sw
  have ssz := zb0 sslen
  have b1 := fun x => zb1 x hkey
  have b2 := fun x => zb2 x hkey (shaL_len bs)
  have b3 := fun x => zb1l x _ kl
  have cst := cC_set (n := V.k) (k := fr) hf hfk so
  have c0 : (0 : Int) ≤ (fr : Int) := by omega
  have c1 : (fr : Int) < (V.k : Int) := by omega
  have c2 : fr * 67 + 67 ≤ V.k * 67 := by omega
  have ovv := fun D' => (hB.setD D').v.v
  have ovl := fun D' => (hB.setD D').v.l
  have ovd := fun D' => (hB.setD D').d.d
  have sV := fun (D' : DS) (L : AMem) (b : Blk) => mk_olds (m := m) (l := setD m rd rs rm n D') (r := rv) (sdl D') lv L b
  have sL := fun (D' : DS) (L : AMem) (b : Blk) => mk_olds (m := m) (l := setD m rd rs rm n D') (r := rl) (sdl D') ll L b
  have kV := fun (D' : DS) (L : AMem) => mk_old (m := m) (l := setD m rd rs rm n D') (r := rv) (sdl D') lv L
  have kL := fun (D' : DS) (L : AMem) => mk_old (m := m) (l := setD m rd rs rm n D') (r := rl) (sdl D') ll L
  have fB : ∀ D', (setD m rd rs rm n D').set rl ⟨.grow, 82, 0, 67, cC V.k (upF V.f fr s)⟩ = setB m rv rl rd rs rm n { V with f := upF V.f fr s } D' := fun D' => setB_f hB D' _
  have dB : ∀ D' (e : Int), (setD m rd rs rm n D').set rv ⟨.fix, 77, 0, 0, [.ptr rd 0 0, .sl rl 0 0 V.k, .int .i64 V.data, .int .i64 e]⟩ = setB m rv rl rd rs rm n { V with dead := e } D' := fun D' e => setB_dead hB D' e
  rw [← hs] at hQ
  have hdn1 : D.down = false := hdn
  have hw1 : WfD n D := hwd
  
  refine AW.seq_k fun K hK => ?_
  refine AW.region (by decide) ?_
  simp only [push_cast, simprocAttr, hv, hl, lk_old hv, lk_old hl, hp, lk_old hp, vtB, rS, gl, kl, kt, kv, ksl, kst, ksv, kz, ul, lng, u8l_len, slC_vals, s64, hm1, hfr, hfz, hkz, hpl, sfold, sslen, sstk, ssz, b1, b2, b3, cst, c0, c1, c2, ovv, ovl, sV, sL, kV, kL, fB, dB, sdl, sda, sd0, sdt, sdf, gS, kS, tS, t0S, hlb]
  refine Thn_n ?_
  refine hK _ _ ?_
  clear hK K
  refine AW.seq_k fun K hK => ?_
  refine AW.seq_k fun K hK => ?_
  refine AW.region (by decide) ?_
  simp only [push_cast, simprocAttr, hv, hl, lk_old hv, lk_old hl, hp, lk_old hp, vtB, rS, gl, kl, kt, kv, ksl, kst, ksv, kz, ul, lng, u8l_len, slC_vals, s64, hm1, hfr, hfz, hkz, hpl, sfold, sslen, sstk, ssz, b1, b2, b3, cst, c0, c1, c2, ovv, ovl, sV, sL, kV, kL, fB, dB, sdl, sda, sd0, sdt, sdf, gS, kS, tS, t0S, hlb]
  refine CThen.by (hup _) ?_
  simp only [push_cast, simprocAttr, hv, hl, lk_old hv, lk_old hl, hp, lk_old hp, vtB, rS, gl, kl, kt, kv, ksl, kst, ksv, kz, ul, lng, u8l_len, slC_vals, s64, hm1, hfr, hfz, hkz, hpl, sfold, sslen, sstk, ssz, b1, b2, b3, cst, c0, c1, c2, ovv, ovl, sV, sL, kV, kL, fB, dB, sdl, sda, sd0, sdt, sdf, gS, kS, tS, t0S, hlb]
  refine Thn_n ?_
  refine hK _ _ ?_
  clear hK K
  refine AW.seq_k fun K hK => ?_
  refine AW.region (by decide) ?_
  simp only [push_cast, simprocAttr, hv, hl, lk_old hv, lk_old hl, hp, lk_old hp, vtB, rS, gl, kl, kt, kv, ksl, kst, ksv, kz, ul, lng, u8l_len, slC_vals, s64, hm1, hfr, hfz, hkz, hpl, sfold, sslen, sstk, ssz, b1, b2, b3, cst, c0, c1, c2, ovv, ovl, sV, sL, kV, kL, fB, dB, sdl, sda, sd0, sdt, sdf, gS, kS, tS, t0S, hlb]
  refine Thn_n ?_
  refine hK _ _ ?_
  clear hK K
  refine AW.cond_f rfl ?_
  refine AW.skip ?_
  refine Thn_n ?_
  refine hK _ _ ?_
  clear hK K
  refine AW.seq_k fun K hK => ?_
  refine AW.region (by decide) ?_
  simp only [push_cast, simprocAttr, hv, hl, lk_old hv, lk_old hl, hp, lk_old hp, vtB, rS, gl, kl, kt, kv, ksl, kst, ksv, kz, ul, lng, u8l_len, slC_vals, s64, hm1, hfr, hfz, hkz, hpl, sfold, sslen, sstk, ssz, b1, b2, b3, cst, c0, c1, c2, ovv, ovl, sV, sL, kV, kL, fB, dB, sdl, sda, sd0, sdt, sdf, gS, kS, tS, t0S, hlb]
  refine CThen.by (of1_c (m.length + 1) 0 0 (.sl rp vp 0 len) bs [.sl rp vp 0 len] .grow 1 _ (by rw [lk_app]; rfl) rfl (.all (lk_old hp _) hlen.symm) (by omega) ho) ?_
  simp only [push_cast, simprocAttr, hv, hl, lk_old hv, lk_old hl, hp, lk_old hp, vtB, rS, gl, kl, kt, kv, ksl, kst, ksv, kz, ul, lng, u8l_len, slC_vals, s64, hm1, hfr, hfz, hkz, hpl, sfold, sslen, sstk, ssz, b1, b2, b3, cst, c0, c1, c2, ovv, ovl, sV, sL, kV, kL, fB, dB, sdl, sda, sd0, sdt, sdf, gS, kS, tS, t0S, hlb]
  refine Thn_n ?_
  refine hK _ _ ?_
  clear hK K
  refine AW.seq_k fun K hK => ?_
  refine AW.region (by decide) ?_
  simp only [push_cast, simprocAttr, hv, hl, lk_old hv, lk_old hl, hp, lk_old hp, vtB, rS, gl, kl, kt, kv, ksl, kst, ksv, kz, ul, lng, u8l_len, slC_vals, s64, hm1, hfr, hfz, hkz, hpl, sfold, sslen, sstk, ssz, b1, b2, b3, cst, c0, c1, c2, ovv, ovl, sV, sL, kV, kL, fB, dB, sdl, sda, sd0, sdt, sdf, gS, kS, tS, t0S, hlb]
  refine CThen.by (find_c rv rl rd V _ (h.mono _) hf hk key hkey) ?_
  simp only [push_cast, simprocAttr, hv, hl, lk_old hv, lk_old hl, hp, lk_old hp, vtB, rS, gl, kl, kt, kv, ksl, kst, ksv, kz, ul, lng, u8l_len, slC_vals, s64, hm1, hfr, hfz, hkz, hpl, sfold, sslen, sstk, ssz, b1, b2, b3, cst, c0, c1, c2, ovv, ovl, sV, sL, kV, kL, fB, dB, sdl, sda, sd0, sdt, sdf, gS, kS, tS, t0S, hlb]
  refine Thn_n ?_
  refine hK _ _ ?_
  clear hK K
  refine AW.seq_k fun K hK => ?_
  refine AW.block ?_
  refine AW.seq_k fun K hK => ?_
  refine AW.viaJ [0, 1, 3, 6, 10, 11] [(30, .one (.bool false))] [] ?_ ?_
  · rcases hkd with hk1 | hk1
    · have q1 : (kind != 1) = false := by simp [hk1]
      refine AW.region (by decide) ?_
      simp only [push_cast, simprocAttr, hv, hl, lk_old hv, lk_old hl, hp, lk_old hp, vtB, rS, gl, kl, kt, kv, ksl, kst, ksv, kz, ul, lng, u8l_len, slC_vals, s64, hm1, hfr, hfz, hkz, hpl, sfold, sslen, sstk, ssz, b1, b2, b3, cst, c0, c1, c2, ovv, ovl, sV, sL, kV, kL, fB, dB, sdl, sda, sd0, sdt, sdf, gS, kS, tS, t0S, hlb, q1]
      refine Thn_n ?_
      try simp only [keepL, setAll, push_cast, simprocAttr, hv, hl, lk_old hv, lk_old hl, hp, lk_old hp, vtB, rS, gl, kl, kt, kv, ksl, kst, ksv, kz, ul, lng, u8l_len, slC_vals, s64, hm1, hfr, hfz, hkz, hpl, sfold, sslen, sstk, ssz, b1, b2, b3, cst, c0, c1, c2, ovv, ovl, sV, sL, kV, kL, fB, dB, sdl, sda, sd0, sdt, sdf, gS, kS, tS, t0S, hlb, q1, and_self]
      exact Weak.same (by simp only [Keeps, Tm.get_cons, Nat.reduceEqDiff, ↓reduceIte, if_true, if_false, ite_true, ite_false, true_and, and_true, and_self, reduceCtorEq, and_self]) (by first | rfl | simp only [Keeps, Tm.get_cons, Nat.reduceEqDiff, ↓reduceIte, if_true, if_false, ite_true, ite_false, true_and, and_true, and_self, reduceCtorEq, and_self])
    · have q1 : (kind != 1) = true := by rw [hk1]; rfl
      have q2 : (kind != 2) = false := by simp [hk1]
      refine AW.region (by decide) ?_
      simp only [push_cast, simprocAttr, hv, hl, lk_old hv, lk_old hl, hp, lk_old hp, vtB, rS, gl, kl, kt, kv, ksl, kst, ksv, kz, ul, lng, u8l_len, slC_vals, s64, hm1, hfr, hfz, hkz, hpl, sfold, sslen, sstk, ssz, b1, b2, b3, cst, c0, c1, c2, ovv, ovl, sV, sL, kV, kL, fB, dB, sdl, sda, sd0, sdt, sdf, gS, kS, tS, t0S, hlb, q1, q2]
      refine Thn_n ?_
      try simp only [keepL, setAll, push_cast, simprocAttr, hv, hl, lk_old hv, lk_old hl, hp, lk_old hp, vtB, rS, gl, kl, kt, kv, ksl, kst, ksv, kz, ul, lng, u8l_len, slC_vals, s64, hm1, hfr, hfz, hkz, hpl, sfold, sslen, sstk, ssz, b1, b2, b3, cst, c0, c1, c2, ovv, ovl, sV, sL, kV, kL, fB, dB, sdl, sda, sd0, sdt, sdf, gS, kS, tS, t0S, hlb, q1, q2, and_self]
      exact Weak.same (by simp only [Keeps, Tm.get_cons, Nat.reduceEqDiff, ↓reduceIte, if_true, if_false, ite_true, ite_false, true_and, and_true, and_self, reduceCtorEq, and_self]) (by first | rfl | simp only [Keeps, Tm.get_cons, Nat.reduceEqDiff, ↓reduceIte, if_true, if_false, ite_true, ite_false, true_and, and_true, and_self, reduceCtorEq, and_self])
  try simp only [keepL, setAll, push_cast, simprocAttr, hv, hl, lk_old hv, lk_old hl, hp, lk_old hp, vtB, rS, gl, kl, kt, kv, ksl, kst, ksv, kz, ul, lng, u8l_len, slC_vals, s64, hm1, hfr, hfz, hkz, hpl, sfold, sslen, sstk, ssz, b1, b2, b3, cst, c0, c1, c2, ovv, ovl, sV, sL, kV, kL, fB, dB, sdl, sda, sd0, sdt, sdf, gS, kS, tS, t0S, hlb]
  refine Thn_n ?_
  refine hK _ _ ?_
  clear hK K
  refine AW.cond_f rfl ?_
  refine AW.seq_k fun K hK => ?_
  refine AW.region (by decide) ?_
  simp only [push_cast, simprocAttr, hv, hl, lk_old hv, lk_old hl, hp, lk_old hp, vtB, rS, gl, kl, kt, kv, ksl, kst, ksv, kz, ul, lng, u8l_len, slC_vals, s64, hm1, hfr, hfz, hkz, hpl, sfold, sslen, sstk, ssz, b1, b2, b3, cst, c0, c1, c2, ovv, ovl, sV, sL, kV, kL, fB, dB, sdl, sda, sd0, sdt, sdf, gS, kS, tS, t0S, hlb]
  refine Thn_n ?_
  refine hK _ _ ?_
  clear hK K
  refine AW.cond_f rfl ?_
  refine AW.seq_k fun K hK => ?_
  refine AW.draw [.val, .val, .val, .val, .val, .val, .rd 0, .val, .val, .val, .rd 0, .val, .val, .val, .val, .val, .val, .val, .rd 0, .val, .val, .val, .rd 0, .rd 0, .val, .val, .val] fol (by decide) (by kernel_rfl) ?_
  simp only [push_cast, simprocAttr, hv, hl, lk_old hv, lk_old hl, hp, lk_old hp, vtB, rS, gl, kl, kt, kv, ksl, kst, ksv, kz, ul, lng, u8l_len, slC_vals, s64, hm1, hfr, hfz, hkz, hpl, sfold, sslen, sstk, ssz, b1, b2, b3, cst, c0, c1, c2, ovv, ovl, sV, sL, kV, kL, fB, dB, sdl, sda, sd0, sdt, sdf, gS, kS, tS, t0S, hlb]
  refine Thn_n ?_
  refine hK _ _ ?_
  clear hK K
  refine AW.cond_f rfl ?_
  refine AW.seq_k fun K hK => ?_
  refine AW.region (by decide) ?_
  simp only [push_cast, simprocAttr, hv, hl, lk_old hv, lk_old hl, hp, lk_old hp, vtB, rS, gl, kl, kt, kv, ksl, kst, ksv, kz, ul, lng, u8l_len, slC_vals, s64, hm1, hfr, hfz, hkz, hpl, sfold, sslen, sstk, ssz, b1, b2, b3, cst, c0, c1, c2, ovv, ovl, sV, sL, kV, kL, fB, dB, sdl, sda, sd0, sdt, sdf, gS, kS, tS, t0S, hlb]
  refine Thn_n ?_
  refine hK _ _ ?_
  clear hK K
  refine AW.cond_f rfl ?_
  refine AW.skip ?_
  refine InB_n ?_
  refine Thn_n ?_
  refine hK _ _ ?_
  clear hK K
  refine AW.seq_k fun K hK => ?_
  refine AW.region (by decide) ?_
  simp only [push_cast, simprocAttr, hv, hl, lk_old hv, lk_old hl, hp, lk_old hp, vtB, rS, gl, kl, kt, kv, ksl, kst, ksv, kz, ul, lng, u8l_len, slC_vals, s64, hm1, hfr, hfz, hkz, hpl, sfold, sslen, sstk, ssz, b1, b2, b3, cst, c0, c1, c2, ovv, ovl, sV, sL, kV, kL, fB, dB, sdl, sda, sd0, sdt, sdf, gS, kS, tS, t0S, hlb]
  refine CThen.by (ixz_c rl 0 V.k V.f _ (lk_old hl _) hf (by omega)) ?_
  simp only [push_cast, simprocAttr, hv, hl, lk_old hv, lk_old hl, hp, lk_old hp, vtB, rS, gl, kl, kt, kv, ksl, kst, ksv, kz, ul, lng, u8l_len, slC_vals, s64, hm1, hfr, hfz, hkz, hpl, sfold, sslen, sstk, ssz, b1, b2, b3, cst, c0, c1, c2, ovv, ovl, sV, sL, kV, kL, fB, dB, sdl, sda, sd0, sdt, sdf, gS, kS, tS, t0S, hlb]
  refine Thn_n ?_
  refine hK _ _ ?_
  clear hK K
  refine AW.seq_k fun K hK => ?_
  refine AW.region (by decide) ?_
  simp only [push_cast, simprocAttr, hv, hl, lk_old hv, lk_old hl, hp, lk_old hp, vtB, rS, gl, kl, kt, kv, ksl, kst, ksv, kz, ul, lng, u8l_len, slC_vals, s64, hm1, hfr, hfz, hkz, hpl, sfold, sslen, sstk, ssz, b1, b2, b3, cst, c0, c1, c2, ovv, ovl, sV, sL, kV, kL, fB, dB, sdl, sda, sd0, sdt, sdf, gS, kS, tS, t0S, hlb]
  refine CThen.by (place_c rv rl rd V _ (h.mono _) hf hk rs rm n D (lk_old hB.d.d _) hn hd0 hd1 (shaL bs) (len : Int) (shaL_len bs) (by omega) (by omega)) ?_
  simp only [push_cast, simprocAttr, hv, hl, lk_old hv, lk_old hl, hp, lk_old hp, vtB, rS, gl, kl, kt, kv, ksl, kst, ksv, kz, ul, lng, u8l_len, slC_vals, s64, hm1, hfr, hfz, hkz, hpl, sfold, sslen, sstk, ssz, b1, b2, b3, cst, c0, c1, c2, ovv, ovl, sV, sL, kV, kL, fB, dB, sdl, sda, sd0, sdt, sdf, gS, kS, tS, t0S, hlb]
  iterate 2
    refine Thn_n ?_
    refine hK _ _ ?_
    clear hK K
    refine AW.seq_k fun K hK => ?_
    refine AW.seq_k fun K hK => ?_
    refine AW.region (by decide) ?_
    simp only [push_cast, simprocAttr, hv, hl, lk_old hv, lk_old hl, hp, lk_old hp, vtB, rS, gl, kl, kt, kv, ksl, kst, ksv, kz, ul, lng, u8l_len, slC_vals, s64, hm1, hfr, hfz, hkz, hpl, sfold, sslen, sstk, ssz, b1, b2, b3, cst, c0, c1, c2, ovv, ovl, sV, sL, kV, kL, fB, dB, sdl, sda, sd0, sdt, sdf, gS, kS, tS, t0S, hlb]
    refine Thn_n ?_
    refine hK _ _ ?_
    clear hK K
    refine AW.cond_f rfl ?_
    refine AW.skip ?_
  refine Thn_n ?_
  refine hK _ _ ?_
  clear hK K
  refine AW.seq_k fun K hK => ?_
  refine AW.region (by decide) ?_
  simp only [push_cast, simprocAttr, hv, hl, lk_old hv, lk_old hl, hp, lk_old hp, vtB, rS, gl, kl, kt, kv, ksl, kst, ksv, kz, ul, lng, u8l_len, slC_vals, s64, hm1, hfr, hfz, hkz, hpl, sfold, sslen, sstk, ssz, b1, b2, b3, cst, c0, c1, c2, ovv, ovl, sV, sL, kV, kL, fB, dB, sdl, sda, sd0, sdt, sdf, gS, kS, tS, t0S, hlb]
  refine Thn_n ?_
  refine hK _ _ ?_
  clear hK K
  refine AW.seq_k fun K hK => ?_
  refine AW.seq_k fun K hK => ?_
  refine AW.draw [.val, .val, .val, .rd 0, .val, .rd 0, .ext, .wr, .val] fol (by decide) (by kernel_rfl) ?_
  simp only [push_cast, simprocAttr, hv, hl, lk_old hv, lk_old hl, hp, lk_old hp, vtB, rS, gl, kl, kt, kv, ksl, kst, ksv, kz, ul, lng, u8l_len, slC_vals, s64, hm1, hfr, hfz, hkz, hpl, sfold, sslen, sstk, ssz, b1, b2, b3, cst, c0, c1, c2, ovv, ovl, sV, sL, kV, kL, fB, dB, sdl, sda, sd0, sdt, sdf, gS, kS, tS, t0S, hlb]
  refine DCall.by0 (enc_c s _ sw) ?_
  simp only [push_cast, simprocAttr, hv, hl, lk_old hv, lk_old hl, hp, lk_old hp, vtB, rS, gl, kl, kt, kv, ksl, kst, ksv, kz, ul, lng, u8l_len, slC_vals, s64, hm1, hfr, hfz, hkz, hpl, sfold, sslen, sstk, ssz, b1, b2, b3, cst, c0, c1, c2, ovv, ovl, sV, sL, kV, kL, fB, dB, sdl, sda, sd0, sdt, sdf, gS, kS, tS, t0S, hlb]
  refine DCallW.by (wr_any rd rs rm n fr D (encB s) _ (encB_len sw) (by first | exact hB.d.mono _ | exact (sdh _).mono _) hdn1 (by omega)) ?_
  simp only [push_cast, simprocAttr, hv, hl, lk_old hv, lk_old hl, hp, lk_old hp, vtB, rS, gl, kl, kt, kv, ksl, kst, ksv, kz, ul, lng, u8l_len, slC_vals, s64, hm1, hfr, hfz, hkz, hpl, sfold, sslen, sstk, ssz, b1, b2, b3, cst, c0, c1, c2, ovv, ovl, sV, sL, kV, kL, fB, dB, sdl, sda, sd0, sdt, sdf, gS, kS, tS, t0S, hlb]
  refine Thn_n ?_
  refine hK _ _ ?_
  clear hK K
  refine AW.seq_k fun K hK => ?_
  refine AW.region (by decide) ?_
  simp only [push_cast, simprocAttr, hv, hl, lk_old hv, lk_old hl, hp, lk_old hp, vtB, rS, gl, kl, kt, kv, ksl, kst, ksv, kz, ul, lng, u8l_len, slC_vals, s64, hm1, hfr, hfz, hkz, hpl, sfold, sslen, sstk, ssz, b1, b2, b3, cst, c0, c1, c2, ovv, ovl, sV, sL, kV, kL, fB, dB, sdl, sda, sd0, sdt, sdf, gS, kS, tS, t0S, hlb]
  refine Thn_n ?_
  refine hK _ _ ?_
  clear hK K
  refine AW.cond rfl (fun h117 => ?_) (fun h117 => ?_)
  · have hfin : wsS V D fr s = ({ V with dead := (wrS D fr (encB s)).2 }, (wrS D fr (encB s)).1, (wrS D fr (encB s)).2) := by unfold wsS; rw [if_pos h117]
    refine AW.seq_k fun K hK => ?_
    refine AW.region (by decide) ?_
    simp only [push_cast, simprocAttr, hv, hl, lk_old hv, lk_old hl, hp, lk_old hp, vtB, rS, gl, kl, kt, kv, ksl, kst, ksv, kz, ul, lng, u8l_len, slC_vals, s64, hm1, hfr, hfz, hkz, hpl, sfold, sslen, sstk, ssz, b1, b2, b3, cst, c0, c1, c2, ovv, ovl, sV, sL, kV, kL, fB, dB, sdl, sda, sd0, sdt, sdf, gS, kS, tS, t0S, hlb]
    refine CThen.by (vfail_c rv rl rd V (wrS D fr (encB s)).2 _ (lk_old (ovv _) _) h117) ?_
    simp only [push_cast, simprocAttr, hv, hl, lk_old hv, lk_old hl, hp, lk_old hp, vtB, rS, gl, kl, kt, kv, ksl, kst, ksv, kz, ul, lng, u8l_len, slC_vals, s64, hm1, hfr, hfz, hkz, hpl, sfold, sslen, sstk, ssz, b1, b2, b3, cst, c0, c1, c2, ovv, ovl, sV, sL, kV, kL, fB, dB, sdl, sda, sd0, sdt, sdf, gS, kS, tS, t0S, hlb]
    refine Thn_n ?_
    refine hK _ _ ?_
    clear hK K
    refine AW.ret ?_
    refine Thn_r ?_
    refine hQ _ _ _ ?_
    try rw [hfin]
    try dsimp only
    first | refine RetP.dropM0 (setB_len ..) (by first | exact Or.inr rfl | exact Or.inl rfl) ?_ ?_ (hB.wf hwf _ _) | refine RetP.dropM (setB_len ..) (by first | exact Or.inr rfl | exact Or.inl rfl) ?_ ?_ (hB.wf hwf _ _)
    · simp only [resA, resOne, resTv, AV.tv, push_cast, simprocAttr]
    · rfl
  · have w2 := wrS_ok (n := n) h117 hdn1 hw1 (by omega) (encB_len sw)
    refine AW.skip ?_
    refine Thn_n ?_
    refine hK _ _ ?_
    clear hK K
    refine AW.seq_k fun K hK => ?_
    refine AW.seq_k fun K hK => ?_
    refine AW.region (by decide) ?_
    simp only [push_cast, simprocAttr, hv, hl, lk_old hv, lk_old hl, hp, lk_old hp, vtB, rS, gl, kl, kt, kv, ksl, kst, ksv, kz, ul, lng, u8l_len, slC_vals, s64, hm1, hfr, hfz, hkz, hpl, sfold, sslen, sstk, ssz, b1, b2, b3, cst, c0, c1, c2, ovv, ovl, sV, sL, kV, kL, fB, dB, sdl, sda, sd0, sdt, sdf, gS, kS, tS, t0S, hlb]
    refine CThen.by (sy_any rd rs rm n (wrS D fr (encB s)).1 _ ((sdh _).mono _) w2.1 w2.2) ?_
    simp only [push_cast, simprocAttr, hv, hl, lk_old hv, lk_old hl, hp, lk_old hp, vtB, rS, gl, kl, kt, kv, ksl, kst, ksv, kz, ul, lng, u8l_len, slC_vals, s64, hm1, hfr, hfz, hkz, hpl, sfold, sslen, sstk, ssz, b1, b2, b3, cst, c0, c1, c2, ovv, ovl, sV, sL, kV, kL, fB, dB, sdl, sda, sd0, sdt, sdf, gS, kS, tS, t0S, hlb]
    refine Thn_n ?_
    refine hK _ _ ?_
    clear hK K
    refine AW.seq_k fun K hK => ?_
    refine AW.region (by decide) ?_
    simp only [push_cast, simprocAttr, hv, hl, lk_old hv, lk_old hl, hp, lk_old hp, vtB, rS, gl, kl, kt, kv, ksl, kst, ksv, kz, ul, lng, u8l_len, slC_vals, s64, hm1, hfr, hfz, hkz, hpl, sfold, sslen, sstk, ssz, b1, b2, b3, cst, c0, c1, c2, ovv, ovl, sV, sL, kV, kL, fB, dB, sdl, sda, sd0, sdt, sdf, gS, kS, tS, t0S, hlb]
    refine Thn_n ?_
    refine hK _ _ ?_
    clear hK K
    refine AW.cond rfl (fun h127 => ?_) (fun h127 => ?_)
    · have hfin : wsS V D fr s = ({ V with dead := (syS (wrS D fr (encB s)).1).2 }, (syS (wrS D fr (encB s)).1).1, (syS (wrS D fr (encB s)).1).2) := by unfold wsS; rw [if_neg (by rw [h117]; decide), if_pos h127]
      refine AW.seq_k fun K hK => ?_
      refine AW.region (by decide) ?_
      simp only [push_cast, simprocAttr, hv, hl, lk_old hv, lk_old hl, hp, lk_old hp, vtB, rS, gl, kl, kt, kv, ksl, kst, ksv, kz, ul, lng, u8l_len, slC_vals, s64, hm1, hfr, hfz, hkz, hpl, sfold, sslen, sstk, ssz, b1, b2, b3, cst, c0, c1, c2, ovv, ovl, sV, sL, kV, kL, fB, dB, sdl, sda, sd0, sdt, sdf, gS, kS, tS, t0S, hlb]
      refine CThen.by (vfail_c rv rl rd V (syS (wrS D fr (encB s)).1).2 _ (lk_old (ovv _) _) h127) ?_
      simp only [push_cast, simprocAttr, hv, hl, lk_old hv, lk_old hl, hp, lk_old hp, vtB, rS, gl, kl, kt, kv, ksl, kst, ksv, kz, ul, lng, u8l_len, slC_vals, s64, hm1, hfr, hfz, hkz, hpl, sfold, sslen, sstk, ssz, b1, b2, b3, cst, c0, c1, c2, ovv, ovl, sV, sL, kV, kL, fB, dB, sdl, sda, sd0, sdt, sdf, gS, kS, tS, t0S, hlb]
      refine Thn_n ?_
      refine hK _ _ ?_
      clear hK K
      refine AW.ret ?_
      refine Thn_r ?_
      refine hQ _ _ _ ?_
      try rw [hfin]
      try dsimp only
      first | refine RetP.dropM0 (setB_len ..) (by first | exact Or.inr rfl | exact Or.inl rfl) ?_ ?_ (hB.wf hwf _ _) | refine RetP.dropM (setB_len ..) (by first | exact Or.inr rfl | exact Or.inl rfl) ?_ ?_ (hB.wf hwf _ _)
      · simp only [resA, resOne, resTv, AV.tv, push_cast, simprocAttr]
      · rfl
    · have hfin : wsS V D fr s = ({ V with f := upF V.f fr s }, (syS (wrS D fr (encB s)).1).1, 0) := by unfold wsS; rw [if_neg (by rw [h117]; decide), if_neg (by rw [h127]; decide)]
      refine AW.skip ?_
      refine Thn_n ?_
      refine hK _ _ ?_
      clear hK K
      refine AW.seq_k fun K hK => ?_
      refine AW.draw [.val, .val, .val, .rd 0, .val, .rd 0, .val, .wr] fol (by decide) (by kernel_rfl) ?_
      simp only [push_cast, simprocAttr, hv, hl, lk_old hv, lk_old hl, hp, lk_old hp, vtB, rS, gl, kl, kt, kv, ksl, kst, ksv, kz, ul, lng, u8l_len, slC_vals, s64, hm1, hfr, hfz, hkz, hpl, sfold, sslen, sstk, ssz, b1, b2, b3, cst, c0, c1, c2, ovv, ovl, sV, sL, kV, kL, fB, dB, sdl, sda, sd0, sdt, sdf, gS, kS, tS, t0S, hlb]
      refine Thn_n ?_
      refine hK _ _ ?_
      clear hK K
      refine AW.seq_k fun K hK => ?_
      refine AW.region (by decide) ?_
      simp only [push_cast, simprocAttr, hv, hl, lk_old hv, lk_old hl, hp, lk_old hp, vtB, rS, gl, kl, kt, kv, ksl, kst, ksv, kz, ul, lng, u8l_len, slC_vals, s64, hm1, hfr, hfz, hkz, hpl, sfold, sslen, sstk, ssz, b1, b2, b3, cst, c0, c1, c2, ovv, ovl, sV, sL, kV, kL, fB, dB, sdl, sda, sd0, sdt, sdf, gS, kS, tS, t0S, hlb]
      refine Thn_n ?_
      refine hK _ _ ?_
      clear hK K
      refine AW.ret ?_
      refine hQ _ _ _ ?_
      try rw [hfin]
      try dsimp only
      first | refine RetP.dropM0 (setB_len ..) (by first | exact Or.inr rfl | exact Or.inl rfl) ?_ ?_ (hB.wf hwf _ _) | refine RetP.dropM (setB_len ..) (by first | exact Or.inr rfl | exact Or.inl rfl) ?_ ?_ (hB.wf hwf _ _)
      · simp only [resA, resOne, resTv, AV.tv, push_cast, simprocAttr]
      · rfl
theorem put_U (rv rl rd rs rm n : Nat) (V : VS) (D : DS) (m : AMem) (hB : HasB m rv rl rd rs rm n V D) (hf : ∀ i, OkS (V.f i)) (hk : V.k ≤ 512) (h0 : V.dead = 0) (kind : Int) (hkd : kind = 1 ∨ kind = 2) (key : List Int) (hkey : key.length = 32) (rp vp len : Nat) (bs : List Int) (hp : ∃ kk ez, m[rp]? = some ⟨kk, 5, vp, ez, u8l bs⟩) (hlen : bs.length = len) (hl2 : len ≤ 262144) (ho : U8ok bs) (hwd : WfD n D) (hdn : D.down = false) (hn : n ≤ 8192) (hd0 : 0 ≤ V.data) (hd1 : V.data ≤ 512) (hmiss : fnd (fdB key) V.f V.k < 0) (hkn : V.k ≤ n) (fr : Nat) (hfr : fnd (fun s => s.kind == 0) V.f V.k = (fr : Int)) (k : Nat) (hpl : plZ V n (shaL bs) (len : Int) = (k : Int)) (hk8 : k ≤ 8192) (hlb : plB V (shaL bs) (len : Int) = false) (N : Nat) (hN : (N : Int) = needZ (len : Int)) (hkN : k + N ≤ n) : Ctr Try.prog 10 [.one (.ptr rv 0 0), .one (.int .i64 kind), .agg (u8l key), .one (.sl rp vp 0 len)] m (.one (.int .i64 (if ((layS k (chB bs) N 0 D).2 != 0) = true then ({ V with dead := (layS k (chB bs) N 0 D).2 }, (layS k (chB bs) N 0 D).1, (layS k (chB bs) N 0 D).2) else wsS V (layS k (chB bs) N 0 D).1 fr ⟨kind, key, shaL bs, (len : Int), (k : Int)⟩).2.2)) (setB m rv rl rd rs rm n (if ((layS k (chB bs) N 0 D).2 != 0) = true then ({ V with dead := (layS k (chB bs) N 0 D).2 }, (layS k (chB bs) N 0 D).1, (layS k (chB bs) N 0 D).2) else wsS V (layS k (chB bs) N 0 D).1 fr ⟨kind, key, shaL bs, (len : Int), (k : Int)⟩).1 (if ((layS k (chB bs) N 0 D).2 != 0) = true then ({ V with dead := (layS k (chB bs) N 0 D).2 }, (layS k (chB bs) N 0 D).1, (layS k (chB bs) N 0 D).2) else wsS V (layS k (chB bs) N 0 D).1 fr ⟨kind, key, shaL bs, (len : Int), (k : Int)⟩).2.1) := by
  refine Ctr.enter Try.func10 rfl (by decide) (rs := [.tmp 8]) (nt := 138) rfl rfl fun hwf Q hQ => ?_
  obtain ⟨kk, ez, hp⟩ := hp
  have h := hB.v
  have hv := h.v
  have hl := h.l
  have lv := get_lt hv
  have ll := get_lt hl
  have lpp := get_lt hp
  have gl : (cC V.k V.f).length = V.k * 67 := cC_len hf V.k
  have hup : ∀ X : AMem, Ctr Try.prog 31 [.one (.ptr rv 0 0)] (m ++ X) (.one (.int .i64 0)) (m ++ X) := fun X => by
    have := vup_c rv rl rd V (m ++ X) (lk_old hv X)
    rwa [h0] at this
  have kl : (u8l key).length = 32 := by rw [u8l_len]; exact hkey
  have kt : (u8l key).take 32 = u8l key := List.take_of_length_le (by omega)
  have kv := u8l_vals key
  have ksl : (u8l (shaL bs)).length = 32 := by rw [u8l_len]; exact shaL_len bs
  have kst : (u8l (shaL bs)).take 32 = u8l (shaL bs) := List.take_of_length_le (by omega)
  have ksv := u8l_vals (shaL bs)
  have kz : setL [CV.int .u8 0, CV.int .u8 0, CV.int .u8 0, CV.int .u8 0, CV.int .u8 0, CV.int .u8 0, CV.int .u8 0, CV.int .u8 0, CV.int .u8 0, CV.int .u8 0, CV.int .u8 0, CV.int .u8 0, CV.int .u8 0, CV.int .u8 0, CV.int .u8 0, CV.int .u8 0, CV.int .u8 0, CV.int .u8 0, CV.int .u8 0, CV.int .u8 0, CV.int .u8 0, CV.int .u8 0, CV.int .u8 0, CV.int .u8 0, CV.int .u8 0, CV.int .u8 0, CV.int .u8 0, CV.int .u8 0, CV.int .u8 0, CV.int .u8 0, CV.int .u8 0, CV.int .u8 0] 0 (u8l (shaL bs)) = u8l (shaL bs) := setL_full (by rw [ksl]; rfl)
  have ul : (u8l bs).length = len := by rw [u8l_len]; exact hlen
  have lng : ¬ (262144 : Int) < (len : Int) := by omega
  have sl := fun i => slC_len (hf i).w
  have f0 := fun i => slC_0 (V.f i)
  have f2 := fun i => slC_2 (hf i).w
  have hm1 := (fnd_neg hmiss).1
  have hd := hB.d
  have hrd := hd.d
  have ld := get_lt hd.d
  have lr := get_lt hd.r
  have lm := get_lt hd.m
  have sdl := fun D' => setD_len m rd rs rm n D'
  have sdh := fun D' => hd.set D'
  have sda : ∀ D1 D2 X, setD (setD m rd rs rm n D1 ++ X) rd rs rm n D2 = setD m rd rs rm n D2 ++ X := fun D1 D2 X => by rw [setD_app (hd.set D1), setD_twice hd]
  have sd0 : ∀ D2 X, setD (m ++ X) rd rs rm n D2 = setD m rd rs rm n D2 ++ X := fun D2 X => setD_app hd D2 X
  have sdt : ∀ D1 D2, setD (setD m rd rs rm n D1) rd rs rm n D2 = setD m rd rs rm n D2 := fun D1 D2 => setD_twice hd D1 D2
  have sdf : ∀ D', ((m.set rd (drB rs rm n D')).set rs (rowD n D')).set rm (mapD D') = setD m rd rs rm n D' := fun _ => rfl
  have sdd : ∀ D', (setD m rd rs rm n D')[rd]? = some (drB rs rm n D') := fun D' => (hd.set D').d
  have gS := fun (D' : DS) (L : AMem) => mk_lk0 (m := m) (l := setD m rd rs rm n D') (setD_len m rd rs rm n D') L
  have kS := fun (D' : DS) (L : AMem) (k : Nat) => mk_lk (m := m) (l := setD m rd rs rm n D') (setD_len m rd rs rm n D') L k
  have tS := fun (D' : DS) (L : AMem) (k : Nat) (b : Blk) => mk_set (m := m) (l := setD m rd rs rm n D') (setD_len m rd rs rm n D') L k b
  have t0S := fun (D' : DS) (L : AMem) (b : Blk) => mk_set0 (m := m) (l := setD m rd rs rm n D') (setD_len m rd rs rm n D') L b
  have hwfD := fun D' => setD_wf (rd := rd) (n := n) hwf lr lm D'
  have hfk : fr < V.k := by
    obtain ⟨i, h1, h2, _⟩ := fnd_pos (p := fun s => s.kind == 0) (f := V.f) (k := V.k) (by omega)
    omega
  have hfz : ¬ (fr : Int) < 0 := by omega
  have hkz : ¬ (k : Int) < 0 := by omega
  obtain ⟨s, hs⟩ : ∃ s : SL, s = ⟨kind, key, shaL bs, (len : Int), (k : Int)⟩ := ⟨_, rfl⟩
  have sw : WfS s := by rw [hs]; exact ⟨hkey, shaL_len bs⟩
  have so : OkS s := by rw [hs]; exact ⟨⟨hkey, shaL_len bs⟩, by show (0 : Int) ≤ (k : Int); omega, by show (k : Int) ≤ 4294967295; omega, by show (0 : Int) ≤ (len : Int); omega, by show (len : Int) ≤ 4294967295; omega⟩
  have sfold : CV.int .i64 kind :: (u8l key ++ (u8l (shaL bs) ++ [CV.int .i64 (len : Int), CV.int .i64 (k : Int)])) = slC s := by rw [hs]; rfl
  have s64 : ((u8l key ++ (u8l (shaL bs) ++ [CV.int .i64 0, CV.int .i64 0])).set 64 (CV.int .i64 (len : Int))).set 65 (CV.int .i64 (k : Int)) = u8l key ++ (u8l (shaL bs) ++ [CV.int .i64 (len : Int), CV.int .i64 (k : Int)]) := by
    exact set64 kl ksl _ _ _ _
  have sslen := slC_len sw
  have sstk := slC_take sw
  have ssz := zb0 sslen
  have b1 := fun x => zb1 x hkey
  have b2 := fun x => zb2 x hkey (shaL_len bs)
  have b3 := fun x => zb1l x _ kl
  have cst := cC_set (n := V.k) (k := fr) hf hfk so
  have c0 : (0 : Int) ≤ (fr : Int) := by omega
  have c1 : (fr : Int) < (V.k : Int) := by omega
  have c2 : fr * 67 + 67 ≤ V.k * 67 := by omega
  have ovv := fun D' => (hB.setD D').v.v
  have ovl := fun D' => (hB.setD D').v.l
  have ovd := fun D' => (hB.setD D').d.d
  have sV := fun (D' : DS) (L : AMem) (b : Blk) => mk_olds (m := m) (l := setD m rd rs rm n D') (r := rv) (sdl D') lv L b
  have sL := fun (D' : DS) (L : AMem) (b : Blk) => mk_olds (m := m) (l := setD m rd rs rm n D') (r := rl) (sdl D') ll L b
  have kV := fun (D' : DS) (L : AMem) => mk_old (m := m) (l := setD m rd rs rm n D') (r := rv) (sdl D') lv L
  have kL := fun (D' : DS) (L : AMem) => mk_old (m := m) (l := setD m rd rs rm n D') (r := rl) (sdl D') ll L
  have fB : ∀ D', (setD m rd rs rm n D').set rl ⟨.grow, 82, 0, 67, cC V.k (upF V.f fr s)⟩ = setB m rv rl rd rs rm n { V with f := upF V.f fr s } D' := fun D' => setB_f hB D' _
  have dB : ∀ D' (e : Int), (setD m rd rs rm n D').set rv ⟨.fix, 77, 0, 0, [.ptr rd 0 0, .sl rl 0 0 V.k, .int .i64 V.data, .int .i64 e]⟩ = setB m rv rl rd rs rm n { V with dead := e } D' := fun D' e => setB_dead hB D' e
  rw [← hs] at hQ
  have ly := lay_c rv rl rd V (m := m) h rs rm n D hB.d hwd hdn hn k N rp vp len bs ⟨_, _, hp⟩ hlen hl2 hN hkN
  have lyX := fun X : AMem => lay_c rv rl rd V (m := m ++ X) (h.mono X) rs rm n D (hB.d.mono X) hwd hdn hn k N rp vp len bs ⟨_, _, lk_old hp X⟩ hlen hl2 hN hkN
  have lok := layS_ok (k := k) (n := n) (N := N) (bl := chB bs) (fun i => padB_len _) N 0 D
  obtain ⟨D1, hD1⟩ : ∃ q : DS, q = (layS k (chB bs) N 0 D).1 := ⟨_, rfl⟩
  obtain ⟨e1, he1⟩ : ∃ q : Int, q = (layS k (chB bs) N 0 D).2 := ⟨_, rfl⟩
  rw [← hD1, ← he1] at hQ lok
  simp only [← hD1, ← he1] at lyX
  
  refine AW.seq_k fun K hK => ?_
  refine AW.region (by decide) ?_
  simp only [push_cast, simprocAttr, hv, hl, lk_old hv, lk_old hl, hp, lk_old hp, vtB, rS, gl, kl, kt, kv, ksl, kst, ksv, kz, ul, lng, u8l_len, slC_vals, s64, hm1, hfr, hfz, hkz, hpl, sfold, sslen, sstk, ssz, b1, b2, b3, cst, c0, c1, c2, ovv, ovl, sV, sL, kV, kL, fB, dB, sdl, sda, sd0, sdt, sdf, gS, kS, tS, t0S, hlb]
  refine Thn_n ?_
  refine hK _ _ ?_
  clear hK K
  refine AW.seq_k fun K hK => ?_
  refine AW.seq_k fun K hK => ?_
  refine AW.region (by decide) ?_
  simp only [push_cast, simprocAttr, hv, hl, lk_old hv, lk_old hl, hp, lk_old hp, vtB, rS, gl, kl, kt, kv, ksl, kst, ksv, kz, ul, lng, u8l_len, slC_vals, s64, hm1, hfr, hfz, hkz, hpl, sfold, sslen, sstk, ssz, b1, b2, b3, cst, c0, c1, c2, ovv, ovl, sV, sL, kV, kL, fB, dB, sdl, sda, sd0, sdt, sdf, gS, kS, tS, t0S, hlb]
  refine CThen.by (hup _) ?_
  simp only [push_cast, simprocAttr, hv, hl, lk_old hv, lk_old hl, hp, lk_old hp, vtB, rS, gl, kl, kt, kv, ksl, kst, ksv, kz, ul, lng, u8l_len, slC_vals, s64, hm1, hfr, hfz, hkz, hpl, sfold, sslen, sstk, ssz, b1, b2, b3, cst, c0, c1, c2, ovv, ovl, sV, sL, kV, kL, fB, dB, sdl, sda, sd0, sdt, sdf, gS, kS, tS, t0S, hlb]
  refine Thn_n ?_
  refine hK _ _ ?_
  clear hK K
  refine AW.seq_k fun K hK => ?_
  refine AW.region (by decide) ?_
  simp only [push_cast, simprocAttr, hv, hl, lk_old hv, lk_old hl, hp, lk_old hp, vtB, rS, gl, kl, kt, kv, ksl, kst, ksv, kz, ul, lng, u8l_len, slC_vals, s64, hm1, hfr, hfz, hkz, hpl, sfold, sslen, sstk, ssz, b1, b2, b3, cst, c0, c1, c2, ovv, ovl, sV, sL, kV, kL, fB, dB, sdl, sda, sd0, sdt, sdf, gS, kS, tS, t0S, hlb]
  refine Thn_n ?_
  refine hK _ _ ?_
  clear hK K
  refine AW.cond_f rfl ?_
  refine AW.skip ?_
  refine Thn_n ?_
  refine hK _ _ ?_
  clear hK K
  refine AW.seq_k fun K hK => ?_
  refine AW.region (by decide) ?_
  simp only [push_cast, simprocAttr, hv, hl, lk_old hv, lk_old hl, hp, lk_old hp, vtB, rS, gl, kl, kt, kv, ksl, kst, ksv, kz, ul, lng, u8l_len, slC_vals, s64, hm1, hfr, hfz, hkz, hpl, sfold, sslen, sstk, ssz, b1, b2, b3, cst, c0, c1, c2, ovv, ovl, sV, sL, kV, kL, fB, dB, sdl, sda, sd0, sdt, sdf, gS, kS, tS, t0S, hlb]
  refine CThen.by (of1_c (m.length + 1) 0 0 (.sl rp vp 0 len) bs [.sl rp vp 0 len] .grow 1 _ (by rw [lk_app]; rfl) rfl (.all (lk_old hp _) hlen.symm) (by omega) ho) ?_
  simp only [push_cast, simprocAttr, hv, hl, lk_old hv, lk_old hl, hp, lk_old hp, vtB, rS, gl, kl, kt, kv, ksl, kst, ksv, kz, ul, lng, u8l_len, slC_vals, s64, hm1, hfr, hfz, hkz, hpl, sfold, sslen, sstk, ssz, b1, b2, b3, cst, c0, c1, c2, ovv, ovl, sV, sL, kV, kL, fB, dB, sdl, sda, sd0, sdt, sdf, gS, kS, tS, t0S, hlb]
  refine Thn_n ?_
  refine hK _ _ ?_
  clear hK K
  refine AW.seq_k fun K hK => ?_
  refine AW.region (by decide) ?_
  simp only [push_cast, simprocAttr, hv, hl, lk_old hv, lk_old hl, hp, lk_old hp, vtB, rS, gl, kl, kt, kv, ksl, kst, ksv, kz, ul, lng, u8l_len, slC_vals, s64, hm1, hfr, hfz, hkz, hpl, sfold, sslen, sstk, ssz, b1, b2, b3, cst, c0, c1, c2, ovv, ovl, sV, sL, kV, kL, fB, dB, sdl, sda, sd0, sdt, sdf, gS, kS, tS, t0S, hlb]
  refine CThen.by (find_c rv rl rd V _ (h.mono _) hf hk key hkey) ?_
  simp only [push_cast, simprocAttr, hv, hl, lk_old hv, lk_old hl, hp, lk_old hp, vtB, rS, gl, kl, kt, kv, ksl, kst, ksv, kz, ul, lng, u8l_len, slC_vals, s64, hm1, hfr, hfz, hkz, hpl, sfold, sslen, sstk, ssz, b1, b2, b3, cst, c0, c1, c2, ovv, ovl, sV, sL, kV, kL, fB, dB, sdl, sda, sd0, sdt, sdf, gS, kS, tS, t0S, hlb]
  refine Thn_n ?_
  refine hK _ _ ?_
  clear hK K
  refine AW.seq_k fun K hK => ?_
  refine AW.block ?_
  refine AW.seq_k fun K hK => ?_
  refine AW.viaJ [0, 1, 3, 6, 10, 11] [(30, .one (.bool false))] [] ?_ ?_
  · rcases hkd with hk1 | hk1
    · have q1 : (kind != 1) = false := by simp [hk1]
      refine AW.region (by decide) ?_
      simp only [push_cast, simprocAttr, hv, hl, lk_old hv, lk_old hl, hp, lk_old hp, vtB, rS, gl, kl, kt, kv, ksl, kst, ksv, kz, ul, lng, u8l_len, slC_vals, s64, hm1, hfr, hfz, hkz, hpl, sfold, sslen, sstk, ssz, b1, b2, b3, cst, c0, c1, c2, ovv, ovl, sV, sL, kV, kL, fB, dB, sdl, sda, sd0, sdt, sdf, gS, kS, tS, t0S, hlb, q1]
      refine Thn_n ?_
      try simp only [keepL, setAll, push_cast, simprocAttr, hv, hl, lk_old hv, lk_old hl, hp, lk_old hp, vtB, rS, gl, kl, kt, kv, ksl, kst, ksv, kz, ul, lng, u8l_len, slC_vals, s64, hm1, hfr, hfz, hkz, hpl, sfold, sslen, sstk, ssz, b1, b2, b3, cst, c0, c1, c2, ovv, ovl, sV, sL, kV, kL, fB, dB, sdl, sda, sd0, sdt, sdf, gS, kS, tS, t0S, hlb, q1, and_self]
      exact Weak.same (by simp only [Keeps, Tm.get_cons, Nat.reduceEqDiff, ↓reduceIte, if_true, if_false, ite_true, ite_false, true_and, and_true, and_self, reduceCtorEq, and_self]) (by first | rfl | simp only [Keeps, Tm.get_cons, Nat.reduceEqDiff, ↓reduceIte, if_true, if_false, ite_true, ite_false, true_and, and_true, and_self, reduceCtorEq, and_self])
    · have q1 : (kind != 1) = true := by rw [hk1]; rfl
      have q2 : (kind != 2) = false := by simp [hk1]
      refine AW.region (by decide) ?_
      simp only [push_cast, simprocAttr, hv, hl, lk_old hv, lk_old hl, hp, lk_old hp, vtB, rS, gl, kl, kt, kv, ksl, kst, ksv, kz, ul, lng, u8l_len, slC_vals, s64, hm1, hfr, hfz, hkz, hpl, sfold, sslen, sstk, ssz, b1, b2, b3, cst, c0, c1, c2, ovv, ovl, sV, sL, kV, kL, fB, dB, sdl, sda, sd0, sdt, sdf, gS, kS, tS, t0S, hlb, q1, q2]
      refine Thn_n ?_
      try simp only [keepL, setAll, push_cast, simprocAttr, hv, hl, lk_old hv, lk_old hl, hp, lk_old hp, vtB, rS, gl, kl, kt, kv, ksl, kst, ksv, kz, ul, lng, u8l_len, slC_vals, s64, hm1, hfr, hfz, hkz, hpl, sfold, sslen, sstk, ssz, b1, b2, b3, cst, c0, c1, c2, ovv, ovl, sV, sL, kV, kL, fB, dB, sdl, sda, sd0, sdt, sdf, gS, kS, tS, t0S, hlb, q1, q2, and_self]
      exact Weak.same (by simp only [Keeps, Tm.get_cons, Nat.reduceEqDiff, ↓reduceIte, if_true, if_false, ite_true, ite_false, true_and, and_true, and_self, reduceCtorEq, and_self]) (by first | rfl | simp only [Keeps, Tm.get_cons, Nat.reduceEqDiff, ↓reduceIte, if_true, if_false, ite_true, ite_false, true_and, and_true, and_self, reduceCtorEq, and_self])
  try simp only [keepL, setAll, push_cast, simprocAttr, hv, hl, lk_old hv, lk_old hl, hp, lk_old hp, vtB, rS, gl, kl, kt, kv, ksl, kst, ksv, kz, ul, lng, u8l_len, slC_vals, s64, hm1, hfr, hfz, hkz, hpl, sfold, sslen, sstk, ssz, b1, b2, b3, cst, c0, c1, c2, ovv, ovl, sV, sL, kV, kL, fB, dB, sdl, sda, sd0, sdt, sdf, gS, kS, tS, t0S, hlb]
  refine Thn_n ?_
  refine hK _ _ ?_
  clear hK K
  refine AW.cond_f rfl ?_
  refine AW.seq_k fun K hK => ?_
  refine AW.region (by decide) ?_
  simp only [push_cast, simprocAttr, hv, hl, lk_old hv, lk_old hl, hp, lk_old hp, vtB, rS, gl, kl, kt, kv, ksl, kst, ksv, kz, ul, lng, u8l_len, slC_vals, s64, hm1, hfr, hfz, hkz, hpl, sfold, sslen, sstk, ssz, b1, b2, b3, cst, c0, c1, c2, ovv, ovl, sV, sL, kV, kL, fB, dB, sdl, sda, sd0, sdt, sdf, gS, kS, tS, t0S, hlb]
  refine Thn_n ?_
  refine hK _ _ ?_
  clear hK K
  refine AW.cond_f rfl ?_
  refine AW.seq_k fun K hK => ?_
  refine AW.draw [.val, .val, .val, .val, .val, .val, .rd 0, .val, .val, .val, .rd 0, .val, .val, .val, .val, .val, .val, .val, .rd 0, .val, .val, .val, .rd 0, .rd 0, .val, .val, .val] fol (by decide) (by kernel_rfl) ?_
  simp only [push_cast, simprocAttr, hv, hl, lk_old hv, lk_old hl, hp, lk_old hp, vtB, rS, gl, kl, kt, kv, ksl, kst, ksv, kz, ul, lng, u8l_len, slC_vals, s64, hm1, hfr, hfz, hkz, hpl, sfold, sslen, sstk, ssz, b1, b2, b3, cst, c0, c1, c2, ovv, ovl, sV, sL, kV, kL, fB, dB, sdl, sda, sd0, sdt, sdf, gS, kS, tS, t0S, hlb]
  refine Thn_n ?_
  refine hK _ _ ?_
  clear hK K
  refine AW.cond_f rfl ?_
  refine AW.seq_k fun K hK => ?_
  refine AW.region (by decide) ?_
  simp only [push_cast, simprocAttr, hv, hl, lk_old hv, lk_old hl, hp, lk_old hp, vtB, rS, gl, kl, kt, kv, ksl, kst, ksv, kz, ul, lng, u8l_len, slC_vals, s64, hm1, hfr, hfz, hkz, hpl, sfold, sslen, sstk, ssz, b1, b2, b3, cst, c0, c1, c2, ovv, ovl, sV, sL, kV, kL, fB, dB, sdl, sda, sd0, sdt, sdf, gS, kS, tS, t0S, hlb]
  refine Thn_n ?_
  refine hK _ _ ?_
  clear hK K
  refine AW.cond_f rfl ?_
  refine AW.skip ?_
  refine InB_n ?_
  refine Thn_n ?_
  refine hK _ _ ?_
  clear hK K
  refine AW.seq_k fun K hK => ?_
  refine AW.region (by decide) ?_
  simp only [push_cast, simprocAttr, hv, hl, lk_old hv, lk_old hl, hp, lk_old hp, vtB, rS, gl, kl, kt, kv, ksl, kst, ksv, kz, ul, lng, u8l_len, slC_vals, s64, hm1, hfr, hfz, hkz, hpl, sfold, sslen, sstk, ssz, b1, b2, b3, cst, c0, c1, c2, ovv, ovl, sV, sL, kV, kL, fB, dB, sdl, sda, sd0, sdt, sdf, gS, kS, tS, t0S, hlb]
  refine CThen.by (ixz_c rl 0 V.k V.f _ (lk_old hl _) hf (by omega)) ?_
  simp only [push_cast, simprocAttr, hv, hl, lk_old hv, lk_old hl, hp, lk_old hp, vtB, rS, gl, kl, kt, kv, ksl, kst, ksv, kz, ul, lng, u8l_len, slC_vals, s64, hm1, hfr, hfz, hkz, hpl, sfold, sslen, sstk, ssz, b1, b2, b3, cst, c0, c1, c2, ovv, ovl, sV, sL, kV, kL, fB, dB, sdl, sda, sd0, sdt, sdf, gS, kS, tS, t0S, hlb]
  refine Thn_n ?_
  refine hK _ _ ?_
  clear hK K
  refine AW.seq_k fun K hK => ?_
  refine AW.region (by decide) ?_
  simp only [push_cast, simprocAttr, hv, hl, lk_old hv, lk_old hl, hp, lk_old hp, vtB, rS, gl, kl, kt, kv, ksl, kst, ksv, kz, ul, lng, u8l_len, slC_vals, s64, hm1, hfr, hfz, hkz, hpl, sfold, sslen, sstk, ssz, b1, b2, b3, cst, c0, c1, c2, ovv, ovl, sV, sL, kV, kL, fB, dB, sdl, sda, sd0, sdt, sdf, gS, kS, tS, t0S, hlb]
  refine CThen.by (place_c rv rl rd V _ (h.mono _) hf hk rs rm n D (lk_old hB.d.d _) hn hd0 hd1 (shaL bs) (len : Int) (shaL_len bs) (by omega) (by omega)) ?_
  simp only [push_cast, simprocAttr, hv, hl, lk_old hv, lk_old hl, hp, lk_old hp, vtB, rS, gl, kl, kt, kv, ksl, kst, ksv, kz, ul, lng, u8l_len, slC_vals, s64, hm1, hfr, hfz, hkz, hpl, sfold, sslen, sstk, ssz, b1, b2, b3, cst, c0, c1, c2, ovv, ovl, sV, sL, kV, kL, fB, dB, sdl, sda, sd0, sdt, sdf, gS, kS, tS, t0S, hlb]
  refine Thn_n ?_
  refine hK _ _ ?_
  clear hK K
  refine AW.seq_k fun K hK => ?_
  refine AW.seq_k fun K hK => ?_
  refine AW.region (by decide) ?_
  simp only [push_cast, simprocAttr, hv, hl, lk_old hv, lk_old hl, hp, lk_old hp, vtB, rS, gl, kl, kt, kv, ksl, kst, ksv, kz, ul, lng, u8l_len, slC_vals, s64, hm1, hfr, hfz, hkz, hpl, sfold, sslen, sstk, ssz, b1, b2, b3, cst, c0, c1, c2, ovv, ovl, sV, sL, kV, kL, fB, dB, sdl, sda, sd0, sdt, sdf, gS, kS, tS, t0S, hlb]
  refine Thn_n ?_
  refine hK _ _ ?_
  clear hK K
  refine AW.cond_f rfl ?_
  refine AW.skip ?_
  refine Thn_n ?_
  refine hK _ _ ?_
  clear hK K
  refine AW.seq_k fun K hK => ?_
  refine AW.seq_k fun K hK => ?_
  refine AW.region (by decide) ?_
  simp only [push_cast, simprocAttr, hv, hl, lk_old hv, lk_old hl, hp, lk_old hp, vtB, rS, gl, kl, kt, kv, ksl, kst, ksv, kz, ul, lng, u8l_len, slC_vals, s64, hm1, hfr, hfz, hkz, hpl, sfold, sslen, sstk, ssz, b1, b2, b3, cst, c0, c1, c2, ovv, ovl, sV, sL, kV, kL, fB, dB, sdl, sda, sd0, sdt, sdf, gS, kS, tS, t0S, hlb]
  refine Thn_n ?_
  refine hK _ _ ?_
  clear hK K
  refine AW.cond_t rfl ?_
  refine AW.seq_k fun K hK => ?_
  refine AW.region (by decide) ?_
  simp only [push_cast, simprocAttr, hv, hl, lk_old hv, lk_old hl, hp, lk_old hp, vtB, rS, gl, kl, kt, kv, ksl, kst, ksv, kz, ul, lng, u8l_len, slC_vals, s64, hm1, hfr, hfz, hkz, hpl, sfold, sslen, sstk, ssz, b1, b2, b3, cst, c0, c1, c2, ovv, ovl, sV, sL, kV, kL, fB, dB, sdl, sda, sd0, sdt, sdf, gS, kS, tS, t0S, hlb]
  refine CThen.by (lyX _) ?_
  simp only [push_cast, simprocAttr, hv, hl, lk_old hv, lk_old hl, hp, lk_old hp, vtB, rS, gl, kl, kt, kv, ksl, kst, ksv, kz, ul, lng, u8l_len, slC_vals, s64, hm1, hfr, hfz, hkz, hpl, sfold, sslen, sstk, ssz, b1, b2, b3, cst, c0, c1, c2, ovv, ovl, sV, sL, kV, kL, fB, dB, sdl, sda, sd0, sdt, sdf, gS, kS, tS, t0S, hlb]
  refine Thn_n ?_
  refine hK _ _ ?_
  clear hK K
  refine AW.seq_k fun K hK => ?_
  refine AW.region (by decide) ?_
  simp only [push_cast, simprocAttr, hv, hl, lk_old hv, lk_old hl, hp, lk_old hp, vtB, rS, gl, kl, kt, kv, ksl, kst, ksv, kz, ul, lng, u8l_len, slC_vals, s64, hm1, hfr, hfz, hkz, hpl, sfold, sslen, sstk, ssz, b1, b2, b3, cst, c0, c1, c2, ovv, ovl, sV, sL, kV, kL, fB, dB, sdl, sda, sd0, sdt, sdf, gS, kS, tS, t0S, hlb]
  refine Thn_n ?_
  refine hK _ _ ?_
  clear hK K
  refine AW.cond rfl (fun h97 => ?_) (fun h97 => ?_)
  · rw [if_pos h97] at hQ
    have hfin : True := trivial
    refine AW.seq_k fun K hK => ?_
    refine AW.region (by decide) ?_
    simp only [push_cast, simprocAttr, hv, hl, lk_old hv, lk_old hl, hp, lk_old hp, vtB, rS, gl, kl, kt, kv, ksl, kst, ksv, kz, ul, lng, u8l_len, slC_vals, s64, hm1, hfr, hfz, hkz, hpl, sfold, sslen, sstk, ssz, b1, b2, b3, cst, c0, c1, c2, ovv, ovl, sV, sL, kV, kL, fB, dB, sdl, sda, sd0, sdt, sdf, gS, kS, tS, t0S, hlb]
    refine CThen.by (vfail_c rv rl rd V e1 _ (lk_old (ovv _) _) h97) ?_
    simp only [push_cast, simprocAttr, hv, hl, lk_old hv, lk_old hl, hp, lk_old hp, vtB, rS, gl, kl, kt, kv, ksl, kst, ksv, kz, ul, lng, u8l_len, slC_vals, s64, hm1, hfr, hfz, hkz, hpl, sfold, sslen, sstk, ssz, b1, b2, b3, cst, c0, c1, c2, ovv, ovl, sV, sL, kV, kL, fB, dB, sdl, sda, sd0, sdt, sdf, gS, kS, tS, t0S, hlb]
    refine Thn_n ?_
    refine hK _ _ ?_
    clear hK K
    refine AW.ret ?_
    refine Thn_r ?_
    refine hQ _ _ _ ?_
    try rw [hfin]
    try dsimp only
    first | refine RetP.dropM0 (setB_len ..) (by first | exact Or.inr rfl | exact Or.inl rfl) ?_ ?_ (hB.wf hwf _ _) | refine RetP.dropM (setB_len ..) (by first | exact Or.inr rfl | exact Or.inl rfl) ?_ ?_ (hB.wf hwf _ _)
    · simp only [resA, resOne, resTv, AV.tv, push_cast, simprocAttr]
    · rfl
  · rw [if_neg (by rw [h97]; decide)] at hQ
    obtain ⟨hdn1, hw1⟩ := lok h97 hdn hwd (by omega)
    refine AW.skip ?_
    refine Thn_n ?_
    refine hK _ _ ?_
    clear hK K
    refine AW.seq_k fun K hK => ?_
    refine AW.region (by decide) ?_
    simp only [push_cast, simprocAttr, hv, hl, lk_old hv, lk_old hl, hp, lk_old hp, vtB, rS, gl, kl, kt, kv, ksl, kst, ksv, kz, ul, lng, u8l_len, slC_vals, s64, hm1, hfr, hfz, hkz, hpl, sfold, sslen, sstk, ssz, b1, b2, b3, cst, c0, c1, c2, ovv, ovl, sV, sL, kV, kL, fB, dB, sdl, sda, sd0, sdt, sdf, gS, kS, tS, t0S, hlb]
    refine Thn_n ?_
    refine hK _ _ ?_
    clear hK K
    refine AW.seq_k fun K hK => ?_
    refine AW.seq_k fun K hK => ?_
    refine AW.draw [.val, .val, .val, .rd 0, .val, .rd 0, .ext, .wr, .val] fol (by decide) (by kernel_rfl) ?_
    simp only [push_cast, simprocAttr, hv, hl, lk_old hv, lk_old hl, hp, lk_old hp, vtB, rS, gl, kl, kt, kv, ksl, kst, ksv, kz, ul, lng, u8l_len, slC_vals, s64, hm1, hfr, hfz, hkz, hpl, sfold, sslen, sstk, ssz, b1, b2, b3, cst, c0, c1, c2, ovv, ovl, sV, sL, kV, kL, fB, dB, sdl, sda, sd0, sdt, sdf, gS, kS, tS, t0S, hlb]
    refine DCall.by0 (enc_c s _ sw) ?_
    simp only [push_cast, simprocAttr, hv, hl, lk_old hv, lk_old hl, hp, lk_old hp, vtB, rS, gl, kl, kt, kv, ksl, kst, ksv, kz, ul, lng, u8l_len, slC_vals, s64, hm1, hfr, hfz, hkz, hpl, sfold, sslen, sstk, ssz, b1, b2, b3, cst, c0, c1, c2, ovv, ovl, sV, sL, kV, kL, fB, dB, sdl, sda, sd0, sdt, sdf, gS, kS, tS, t0S, hlb]
    refine DCallW.by (wr_any rd rs rm n fr D1 (encB s) _ (encB_len sw) (by first | exact hB.d.mono _ | exact (sdh _).mono _) hdn1 (by omega)) ?_
    simp only [push_cast, simprocAttr, hv, hl, lk_old hv, lk_old hl, hp, lk_old hp, vtB, rS, gl, kl, kt, kv, ksl, kst, ksv, kz, ul, lng, u8l_len, slC_vals, s64, hm1, hfr, hfz, hkz, hpl, sfold, sslen, sstk, ssz, b1, b2, b3, cst, c0, c1, c2, ovv, ovl, sV, sL, kV, kL, fB, dB, sdl, sda, sd0, sdt, sdf, gS, kS, tS, t0S, hlb]
    refine Thn_n ?_
    refine hK _ _ ?_
    clear hK K
    refine AW.seq_k fun K hK => ?_
    refine AW.region (by decide) ?_
    simp only [push_cast, simprocAttr, hv, hl, lk_old hv, lk_old hl, hp, lk_old hp, vtB, rS, gl, kl, kt, kv, ksl, kst, ksv, kz, ul, lng, u8l_len, slC_vals, s64, hm1, hfr, hfz, hkz, hpl, sfold, sslen, sstk, ssz, b1, b2, b3, cst, c0, c1, c2, ovv, ovl, sV, sL, kV, kL, fB, dB, sdl, sda, sd0, sdt, sdf, gS, kS, tS, t0S, hlb]
    refine Thn_n ?_
    refine hK _ _ ?_
    clear hK K
    refine AW.cond rfl (fun h117 => ?_) (fun h117 => ?_)
    · have hfin : wsS V D1 fr s = ({ V with dead := (wrS D1 fr (encB s)).2 }, (wrS D1 fr (encB s)).1, (wrS D1 fr (encB s)).2) := by unfold wsS; rw [if_pos h117]
      refine AW.seq_k fun K hK => ?_
      refine AW.region (by decide) ?_
      simp only [push_cast, simprocAttr, hv, hl, lk_old hv, lk_old hl, hp, lk_old hp, vtB, rS, gl, kl, kt, kv, ksl, kst, ksv, kz, ul, lng, u8l_len, slC_vals, s64, hm1, hfr, hfz, hkz, hpl, sfold, sslen, sstk, ssz, b1, b2, b3, cst, c0, c1, c2, ovv, ovl, sV, sL, kV, kL, fB, dB, sdl, sda, sd0, sdt, sdf, gS, kS, tS, t0S, hlb]
      refine CThen.by (vfail_c rv rl rd V (wrS D1 fr (encB s)).2 _ (lk_old (ovv _) _) h117) ?_
      simp only [push_cast, simprocAttr, hv, hl, lk_old hv, lk_old hl, hp, lk_old hp, vtB, rS, gl, kl, kt, kv, ksl, kst, ksv, kz, ul, lng, u8l_len, slC_vals, s64, hm1, hfr, hfz, hkz, hpl, sfold, sslen, sstk, ssz, b1, b2, b3, cst, c0, c1, c2, ovv, ovl, sV, sL, kV, kL, fB, dB, sdl, sda, sd0, sdt, sdf, gS, kS, tS, t0S, hlb]
      refine Thn_n ?_
      refine hK _ _ ?_
      clear hK K
      refine AW.ret ?_
      refine Thn_r ?_
      refine hQ _ _ _ ?_
      try rw [hfin]
      try dsimp only
      first | refine RetP.dropM0 (setB_len ..) (by first | exact Or.inr rfl | exact Or.inl rfl) ?_ ?_ (hB.wf hwf _ _) | refine RetP.dropM (setB_len ..) (by first | exact Or.inr rfl | exact Or.inl rfl) ?_ ?_ (hB.wf hwf _ _)
      · simp only [resA, resOne, resTv, AV.tv, push_cast, simprocAttr]
      · rfl
    · have w2 := wrS_ok (n := n) h117 hdn1 hw1 (by omega) (encB_len sw)
      refine AW.skip ?_
      refine Thn_n ?_
      refine hK _ _ ?_
      clear hK K
      refine AW.seq_k fun K hK => ?_
      refine AW.seq_k fun K hK => ?_
      refine AW.region (by decide) ?_
      simp only [push_cast, simprocAttr, hv, hl, lk_old hv, lk_old hl, hp, lk_old hp, vtB, rS, gl, kl, kt, kv, ksl, kst, ksv, kz, ul, lng, u8l_len, slC_vals, s64, hm1, hfr, hfz, hkz, hpl, sfold, sslen, sstk, ssz, b1, b2, b3, cst, c0, c1, c2, ovv, ovl, sV, sL, kV, kL, fB, dB, sdl, sda, sd0, sdt, sdf, gS, kS, tS, t0S, hlb]
      refine CThen.by (sy_any rd rs rm n (wrS D1 fr (encB s)).1 _ ((sdh _).mono _) w2.1 w2.2) ?_
      simp only [push_cast, simprocAttr, hv, hl, lk_old hv, lk_old hl, hp, lk_old hp, vtB, rS, gl, kl, kt, kv, ksl, kst, ksv, kz, ul, lng, u8l_len, slC_vals, s64, hm1, hfr, hfz, hkz, hpl, sfold, sslen, sstk, ssz, b1, b2, b3, cst, c0, c1, c2, ovv, ovl, sV, sL, kV, kL, fB, dB, sdl, sda, sd0, sdt, sdf, gS, kS, tS, t0S, hlb]
      refine Thn_n ?_
      refine hK _ _ ?_
      clear hK K
      refine AW.seq_k fun K hK => ?_
      refine AW.region (by decide) ?_
      simp only [push_cast, simprocAttr, hv, hl, lk_old hv, lk_old hl, hp, lk_old hp, vtB, rS, gl, kl, kt, kv, ksl, kst, ksv, kz, ul, lng, u8l_len, slC_vals, s64, hm1, hfr, hfz, hkz, hpl, sfold, sslen, sstk, ssz, b1, b2, b3, cst, c0, c1, c2, ovv, ovl, sV, sL, kV, kL, fB, dB, sdl, sda, sd0, sdt, sdf, gS, kS, tS, t0S, hlb]
      refine Thn_n ?_
      refine hK _ _ ?_
      clear hK K
      refine AW.cond rfl (fun h127 => ?_) (fun h127 => ?_)
      · have hfin : wsS V D1 fr s = ({ V with dead := (syS (wrS D1 fr (encB s)).1).2 }, (syS (wrS D1 fr (encB s)).1).1, (syS (wrS D1 fr (encB s)).1).2) := by unfold wsS; rw [if_neg (by rw [h117]; decide), if_pos h127]
        refine AW.seq_k fun K hK => ?_
        refine AW.region (by decide) ?_
        simp only [push_cast, simprocAttr, hv, hl, lk_old hv, lk_old hl, hp, lk_old hp, vtB, rS, gl, kl, kt, kv, ksl, kst, ksv, kz, ul, lng, u8l_len, slC_vals, s64, hm1, hfr, hfz, hkz, hpl, sfold, sslen, sstk, ssz, b1, b2, b3, cst, c0, c1, c2, ovv, ovl, sV, sL, kV, kL, fB, dB, sdl, sda, sd0, sdt, sdf, gS, kS, tS, t0S, hlb]
        refine CThen.by (vfail_c rv rl rd V (syS (wrS D1 fr (encB s)).1).2 _ (lk_old (ovv _) _) h127) ?_
        simp only [push_cast, simprocAttr, hv, hl, lk_old hv, lk_old hl, hp, lk_old hp, vtB, rS, gl, kl, kt, kv, ksl, kst, ksv, kz, ul, lng, u8l_len, slC_vals, s64, hm1, hfr, hfz, hkz, hpl, sfold, sslen, sstk, ssz, b1, b2, b3, cst, c0, c1, c2, ovv, ovl, sV, sL, kV, kL, fB, dB, sdl, sda, sd0, sdt, sdf, gS, kS, tS, t0S, hlb]
        refine Thn_n ?_
        refine hK _ _ ?_
        clear hK K
        refine AW.ret ?_
        refine Thn_r ?_
        refine hQ _ _ _ ?_
        try rw [hfin]
        try dsimp only
        first | refine RetP.dropM0 (setB_len ..) (by first | exact Or.inr rfl | exact Or.inl rfl) ?_ ?_ (hB.wf hwf _ _) | refine RetP.dropM (setB_len ..) (by first | exact Or.inr rfl | exact Or.inl rfl) ?_ ?_ (hB.wf hwf _ _)
        · simp only [resA, resOne, resTv, AV.tv, push_cast, simprocAttr]
        · rfl
      · have hfin : wsS V D1 fr s = ({ V with f := upF V.f fr s }, (syS (wrS D1 fr (encB s)).1).1, 0) := by unfold wsS; rw [if_neg (by rw [h117]; decide), if_neg (by rw [h127]; decide)]
        refine AW.skip ?_
        refine Thn_n ?_
        refine hK _ _ ?_
        clear hK K
        refine AW.seq_k fun K hK => ?_
        refine AW.draw [.val, .val, .val, .rd 0, .val, .rd 0, .val, .wr] fol (by decide) (by kernel_rfl) ?_
        simp only [push_cast, simprocAttr, hv, hl, lk_old hv, lk_old hl, hp, lk_old hp, vtB, rS, gl, kl, kt, kv, ksl, kst, ksv, kz, ul, lng, u8l_len, slC_vals, s64, hm1, hfr, hfz, hkz, hpl, sfold, sslen, sstk, ssz, b1, b2, b3, cst, c0, c1, c2, ovv, ovl, sV, sL, kV, kL, fB, dB, sdl, sda, sd0, sdt, sdf, gS, kS, tS, t0S, hlb]
        refine Thn_n ?_
        refine hK _ _ ?_
        clear hK K
        refine AW.seq_k fun K hK => ?_
        refine AW.region (by decide) ?_
        simp only [push_cast, simprocAttr, hv, hl, lk_old hv, lk_old hl, hp, lk_old hp, vtB, rS, gl, kl, kt, kv, ksl, kst, ksv, kz, ul, lng, u8l_len, slC_vals, s64, hm1, hfr, hfz, hkz, hpl, sfold, sslen, sstk, ssz, b1, b2, b3, cst, c0, c1, c2, ovv, ovl, sV, sL, kV, kL, fB, dB, sdl, sda, sd0, sdt, sdf, gS, kS, tS, t0S, hlb]
        refine Thn_n ?_
        refine hK _ _ ?_
        clear hK K
        refine AW.ret ?_
        refine hQ _ _ _ ?_
        try rw [hfin]
        try dsimp only
        first | refine RetP.dropM0 (setB_len ..) (by first | exact Or.inr rfl | exact Or.inl rfl) ?_ ?_ (hB.wf hwf _ _) | refine RetP.dropM (setB_len ..) (by first | exact Or.inr rfl | exact Or.inl rfl) ?_ ?_ (hB.wf hwf _ _)
        · simp only [resA, resOne, resTv, AV.tv, push_cast, simprocAttr]
        · rfl
end Go.Proofs.Ytdkfbbjpblfclaa

set_option linter.unusedSimpArgs false
set_option linter.unusedVariables false
set_option maxRecDepth 100000
set_option maxHeartbeats 4000000
namespace Go.Proofs.Ytdkfbbjpblfclaa
open Go Go.Eng

theorem get_none (rv rl rd rs rm n : Nat) (V : VS) (D : DS) (m : AMem) (hB : HasB m rv rl rd rs rm n V D) (hf : ∀ i, OkS (V.f i)) (hk : V.k ≤ 512) (h0 : V.dead = 0) (key : List Int) (hkey : key.length = 32) (hmiss : fnd (fdB key) V.f V.k < 0) : Ctr Try.prog 14 [.one (.ptr rv 0 0), .agg (u8l key)] m (.tup [(false, [.nils]), (false, [.int .i64 6])]) m := by
  refine Ctr.enter Try.func14 rfl (by decide) (rs := [.tmp 4, .tmp 5]) (nt := 50) rfl rfl fun hwf Q hQ => ?_
  have h := hB.v
  have hv := h.v
  have hl := h.l
  have lv := get_lt hv
  have ll := get_lt hl
  have gl : (cC V.k V.f).length = V.k * 67 := cC_len hf V.k
  have hup : ∀ X : AMem, Ctr Try.prog 31 [.one (.ptr rv 0 0)] (m ++ X) (.one (.int .i64 0)) (m ++ X) := fun X => by
    have := vup_c rv rl rd V (m ++ X) (lk_old hv X)
    rwa [h0] at this
  have kl : (u8l key).length = 32 := by rw [u8l_len]; exact hkey
  have kt : (u8l key).take 32 = u8l key := List.take_of_length_le (by omega)
  have kv := u8l_vals key
  have sl := fun i => slC_len (hf i).w
  have f0 := fun i => slC_0 (V.f i)
  have f2 := fun i => slC_2 (hf i).w
  have hm1 := (fnd_neg hmiss).1
  
  refine AW.seq_k fun K hK => ?_
  refine AW.region (by decide) ?_
  simp only [push_cast, simprocAttr, hv, hl, lk_old hv, lk_old hl, vtB, rS, gl, kl, kt, kv, slC_vals, hm1]
  refine Thn_n ?_
  refine hK _ _ ?_
  clear hK K
  refine AW.seq_k fun K hK => ?_
  refine AW.seq_k fun K hK => ?_
  refine AW.region (by decide) ?_
  simp only [push_cast, simprocAttr, hv, hl, lk_old hv, lk_old hl, vtB, rS, gl, kl, kt, kv, slC_vals, hm1]
  refine CThen.by (hup _) ?_
  simp only [push_cast, simprocAttr, hv, hl, lk_old hv, lk_old hl, vtB, rS, gl, kl, kt, kv, slC_vals, hm1]
  refine Thn_n ?_
  refine hK _ _ ?_
  clear hK K
  refine AW.seq_k fun K hK => ?_
  refine AW.region (by decide) ?_
  simp only [push_cast, simprocAttr, hv, hl, lk_old hv, lk_old hl, vtB, rS, gl, kl, kt, kv, slC_vals, hm1]
  refine Thn_n ?_
  refine hK _ _ ?_
  clear hK K
  refine AW.cond_f rfl ?_
  refine AW.skip ?_
  refine Thn_n ?_
  refine hK _ _ ?_
  clear hK K
  refine AW.seq_k fun K hK => ?_
  refine AW.region (by decide) ?_
  simp only [push_cast, simprocAttr, hv, hl, lk_old hv, lk_old hl, vtB, rS, gl, kl, kt, kv, slC_vals, hm1]
  refine CThen.by (find_c rv rl rd V _ (h.mono _) hf hk key hkey) ?_
  simp only [push_cast, simprocAttr, hv, hl, lk_old hv, lk_old hl, vtB, rS, gl, kl, kt, kv, slC_vals, hm1]
  refine Thn_n ?_
  refine hK _ _ ?_
  clear hK K
  refine AW.seq_k fun K hK => ?_
  refine AW.seq_k fun K hK => ?_
  refine AW.region (by decide) ?_
  simp only [push_cast, simprocAttr, hv, hl, lk_old hv, lk_old hl, vtB, rS, gl, kl, kt, kv, slC_vals, hm1]
  refine Thn_n ?_
  refine hK _ _ ?_
  clear hK K
  refine AW.cond_t rfl ?_
  refine AW.seq_k fun K hK => ?_
  refine AW.region (by decide) ?_
  simp only [push_cast, simprocAttr, hv, hl, lk_old hv, lk_old hl, vtB, rS, gl, kl, kt, kv, slC_vals, hm1]
  refine Thn_n ?_
  refine hK _ _ ?_
  clear hK K
  refine AW.ret ?_
  refine Thn_r ?_
  refine hQ _ _ _ ?_
  first | refine RetP.drop0 (Or.inr rfl) ?_ ?_ hwf | refine RetP.drop (Or.inr rfl) ?_ ?_ hwf
  · simp only [resA, resOne, resTv, AV.tv, push_cast, simprocAttr, hv, hl, lk_old hv, lk_old hl, vtB, rS, gl, kl, kt, kv, slC_vals, hm1]
  · rfl
theorem get_ok (rv rl rd rs rm n : Nat) (V : VS) (D : DS) (m : AMem) (hB : HasB m rv rl rd rs rm n V D) (hf : ∀ i, OkS (V.f i)) (hk : V.k ≤ 512) (h0 : V.dead = 0) (key : List Int) (hkey : key.length = 32) (hwd : WfD n D) (hdn : D.down = false) (hn : n ≤ 8192) (a : Nat) (ha : fnd (fdB key) V.f V.k = (a : Int)) (k N z : Nat) (hfk : (V.f a).fr = (k : Int)) (hz : (V.f a).size = (z : Int)) (hz2 : z ≤ 262144) (hN : (N : Int) = needZ (z : Int)) (hkN : k + N ≤ n) (hu : U8ok (datL D k N)) (hs : shaL ((datL D k N).take z) = (V.f a).sum) : Ctr Try.prog 14 [.one (.ptr rv 0 0), .agg (u8l key)] m (.tup [(false, [.sl m.length 0 0 z]), (false, [.int .i64 0])]) (m ++ [⟨.grow, 5, 0, 1, u8l (datL D k N)⟩]) := by
  refine Ctr.enter Try.func14 rfl (by decide) (rs := [.tmp 4, .tmp 5]) (nt := 50) rfl rfl fun hwf Q hQ => ?_
  have h := hB.v
  have hv := h.v
  have hl := h.l
  have lv := get_lt hv
  have ll := get_lt hl
  have gl : (cC V.k V.f).length = V.k * 67 := cC_len hf V.k
  have hup : ∀ X : AMem, Ctr Try.prog 31 [.one (.ptr rv 0 0)] (m ++ X) (.one (.int .i64 0)) (m ++ X) := fun X => by
    have := vup_c rv rl rd V (m ++ X) (lk_old hv X)
    rwa [h0] at this
  have kl : (u8l key).length = 32 := by rw [u8l_len]; exact hkey
  have kt : (u8l key).take 32 = u8l key := List.take_of_length_le (by omega)
  have kv := u8l_vals key
  have sl := fun i => slC_len (hf i).w
  have f0 := fun i => slC_0 (V.f i)
  have f2 := fun i => slC_2 (hf i).w
  have hak : a < V.k := by
    obtain ⟨i, h1, h2, _⟩ := fnd_pos (p := fdB key) (f := V.f) (k := V.k) (by omega)
    omega
  have hlt0 : ∀ k, ¬ m.length + k < m.length := fun k => by omega
  have az : ¬ (a : Int) < 0 := by omega
  have lx := cC_at (n := V.k) (f := V.f) hf hak
  have lx2 : ((cC V.k V.f).drop (a * 67 + 33)).take 32 = u8l (V.f a).sum := (catC_in (F := fun i => slC (V.f i)) (n := V.k) (k := a) (a := 33) (b := 32) (fun i => slC_len (hf i).w) hak (by decide)).trans (f2 a)
  have c0 : (0 : Int) ≤ (a : Int) := by omega
  have c1 : (a : Int) < (V.k : Int) := by omega
  have c2 : a * 67 + 67 ≤ V.k * 67 := by omega
  have c3 : a * 67 + (33 + 32) ≤ V.k * 67 := by omega
  have c4 : a * 67 + 33 + 32 ≤ V.k * 67 := by omega
  obtain ⟨nb1, nb2⟩ := needZ_nat hN (by omega)
  have dl := datL_len hwd k N
  obtain ⟨bs, hbs⟩ : ∃ bs, bs = (datL D k N).take z := ⟨_, rfl⟩
  have bl : bs.length = z := by rw [hbs, List.length_take, dl]; omega
  have bo : U8ok bs := fun x hx => hu x (by rw [hbs] at hx; exact List.mem_of_mem_take hx)
  rw [← hbs] at hs
  have ld := fun X : AMem => load_c rv rl rd V (V.f a) k N (m ++ X) (lk_old hv X) rs rm n D (hB.d.mono X) hwd hdn hn (hf a).w hfk (by omega) (by omega) (by rw [hz]; exact hN) hkN
  simp only [hz, Int.toNat_natCast] at ld
  have eq := eqpn (shaL_len bs) (hf a).w.s
  rw [decide_eq_true hs] at eq
  
  refine AW.seq_k fun K hK => ?_
  refine AW.region (by decide) ?_
  simp only [push_cast, simprocAttr, hv, hl, lk_old hv, lk_old hl, vtB, rS, gl, kl, kt, kv, slC_vals, ha, az, lx, lx2, c0, c1, c2, c3, c4, eq]
  refine Thn_n ?_
  refine hK _ _ ?_
  clear hK K
  refine AW.seq_k fun K hK => ?_
  refine AW.seq_k fun K hK => ?_
  refine AW.region (by decide) ?_
  simp only [push_cast, simprocAttr, hv, hl, lk_old hv, lk_old hl, vtB, rS, gl, kl, kt, kv, slC_vals, ha, az, lx, lx2, c0, c1, c2, c3, c4, eq]
  refine CThen.by (hup _) ?_
  simp only [push_cast, simprocAttr, hv, hl, lk_old hv, lk_old hl, vtB, rS, gl, kl, kt, kv, slC_vals, ha, az, lx, lx2, c0, c1, c2, c3, c4, eq]
  refine Thn_n ?_
  refine hK _ _ ?_
  clear hK K
  refine AW.seq_k fun K hK => ?_
  refine AW.region (by decide) ?_
  simp only [push_cast, simprocAttr, hv, hl, lk_old hv, lk_old hl, vtB, rS, gl, kl, kt, kv, slC_vals, ha, az, lx, lx2, c0, c1, c2, c3, c4, eq]
  refine Thn_n ?_
  refine hK _ _ ?_
  clear hK K
  refine AW.cond_f rfl ?_
  refine AW.skip ?_
  refine Thn_n ?_
  refine hK _ _ ?_
  clear hK K
  refine AW.seq_k fun K hK => ?_
  refine AW.region (by decide) ?_
  simp only [push_cast, simprocAttr, hv, hl, lk_old hv, lk_old hl, vtB, rS, gl, kl, kt, kv, slC_vals, ha, az, lx, lx2, c0, c1, c2, c3, c4, eq]
  refine CThen.by (find_c rv rl rd V _ (h.mono _) hf hk key hkey) ?_
  simp only [push_cast, simprocAttr, hv, hl, lk_old hv, lk_old hl, vtB, rS, gl, kl, kt, kv, slC_vals, ha, az, lx, lx2, c0, c1, c2, c3, c4, eq]
  refine Thn_n ?_
  refine hK _ _ ?_
  clear hK K
  refine AW.seq_k fun K hK => ?_
  refine AW.seq_k fun K hK => ?_
  refine AW.region (by decide) ?_
  simp only [push_cast, simprocAttr, hv, hl, lk_old hv, lk_old hl, vtB, rS, gl, kl, kt, kv, slC_vals, ha, az, lx, lx2, c0, c1, c2, c3, c4, eq]
  refine Thn_n ?_
  refine hK _ _ ?_
  clear hK K
  refine AW.cond_f rfl ?_
  refine AW.skip ?_
  refine Thn_n ?_
  refine hK _ _ ?_
  clear hK K
  refine AW.seq_k fun K hK => ?_
  refine AW.region (by decide) ?_
  simp only [push_cast, simprocAttr, hv, hl, lk_old hv, lk_old hl, vtB, rS, gl, kl, kt, kv, slC_vals, ha, az, lx, lx2, c0, c1, c2, c3, c4, eq]
  refine CThen.by (ld _) ?_
  simp only [push_cast, simprocAttr, hv, hl, lk_old hv, lk_old hl, vtB, rS, gl, kl, kt, kv, slC_vals, ha, az, lx, lx2, c0, c1, c2, c3, c4, eq]
  refine Thn_n ?_
  refine hK _ _ ?_
  clear hK K
  refine AW.seq_k fun K hK => ?_
  refine AW.block ?_
  refine AW.seq_k fun K hK => ?_
  refine AW.region (by decide) ?_
  simp only [push_cast, simprocAttr, hv, hl, lk_old hv, lk_old hl, vtB, rS, gl, kl, kt, kv, slC_vals, ha, az, lx, lx2, c0, c1, c2, c3, c4, eq]
  refine Thn_n ?_
  refine hK _ _ ?_
  clear hK K
  refine AW.cond_f rfl ?_
  refine AW.seq_k fun K hK => ?_
  refine AW.draw [.val, .ext, .ext, .val, .val, .val, .rd 0, .val, .val, .val, .rd 0, .val, .val] fol (by decide) (by kernel_rfl) ?_
  simp only [push_cast, simprocAttr, hv, hl, lk_old hv, lk_old hl, vtB, rS, gl, kl, kt, kv, slC_vals, ha, az, lx, lx2, c0, c1, c2, c3, c4, eq]
  refine DExt.by (by first | rfl | exact (List.append_nil _).symm | (simp only [List.append_assoc, List.cons_append, List.nil_append]; rfl)) ?_
  simp only [push_cast, simprocAttr, hv, hl, lk_old hv, lk_old hl, vtB, rS, gl, kl, kt, kv, slC_vals, ha, az, lx, lx2, c0, c1, c2, c3, c4, eq]
  refine DCall.by0 (of1_c (m.length + 2) 0 0 (.sl (m.length + 1) 0 0 z) bs [.sl (m.length + 1) 0 0 z] .grow 1 _ (by rw [lk_app]; rfl) rfl (.row (X := datL D k N) (by rw [lk_app]; rfl) bl.symm (by omega) (by rw [List.drop_zero, bl, hbs])) (by omega) bo) ?_
  simp only [push_cast, simprocAttr, hv, hl, lk_old hv, lk_old hl, vtB, rS, gl, kl, kt, kv, slC_vals, ha, az, lx, lx2, c0, c1, c2, c3, c4, eq]
  refine Thn_n ?_
  refine hK _ _ ?_
  clear hK K
  refine AW.cond_f rfl ?_
  refine AW.skip ?_
  refine InB_n ?_
  refine Thn_n ?_
  refine hK _ _ ?_
  clear hK K
  refine AW.seq_k fun K hK => ?_
  refine AW.region (by decide) ?_
  simp only [push_cast, simprocAttr, hv, hl, lk_old hv, lk_old hl, vtB, rS, gl, kl, kt, kv, slC_vals, ha, az, lx, lx2, c0, c1, c2, c3, c4, eq]
  refine Thn_n ?_
  refine hK _ _ ?_
  clear hK K
  refine AW.ret ?_
  refine hQ _ _ _ ?_
  refine RetP.pick [(m.length + 1, 0)] (Or.inr rfl) ?_ ?_ ?_ hwf ?_
  · simp only [resA, resOne, resTv, AV.tv, push_cast, simprocAttr]
    simp [renV, renT, renL, renC, renIdx, hlt0]
  · simp only [picks, push_cast, simprocAttr]
  · simp [distinctFrom]
  · exact MWf_one (u8l_below _ _)
  
end Go.Proofs.Ytdkfbbjpblfclaa

set_option linter.unusedSimpArgs false
set_option linter.unusedVariables false
set_option maxRecDepth 100000
set_option maxHeartbeats 4000000
namespace Go.Proofs.Ytdkfbbjpblfclaa
open Go Go.Eng

/-- What a device's first blocks tell. -/
structure GoodS (D : DS) (n k : Nat) (f : Nat → SL) (i : Nat) : Prop where
  b : ¬ vis D.S D.E i = zB
  d : decS (vis D.S D.E i) = f i
  o : decO (vis D.S D.E i) = true
  s : (f i).size ≤ 262144
  fr : (k : Int) ≤ (f i).fr
  e : (f i).fr + needZ (f i).size ≤ (n : Int)
  h : shaL ((datL D (f i).fr.toNat (needZ (f i).size).toNat).take (f i).size.toNat) = (f i).sum
structure Good (D : DS) (n k : Nat) (f : Nat → SL) : Prop where
  ok : ∀ i, OkS (f i)
  at_ : ∀ i, i < k → (vis D.S D.E i = zB ∧ f i = zS) ∨ GoodS D n k f i
  two : ∀ i j, i < k → j < i → ¬ (f j).kind = 0 → ¬ vis D.S D.E i = zB → ¬ (f j).key = (f i).key
  out : ∀ i, k ≤ i → f i = zS
def preF (f : Nat → SL) (i : Nat) : Nat → SL := fun j => if j < i then f j else zS
theorem preF_ok {f : Nat → SL} (h : ∀ i, OkS (f i)) (i : Nat) : ∀ j, OkS (preF f i j) := fun j => by
  unfold preF; split
  · exact h j
  · exact zS_ok
theorem preF_up (f : Nat → SL) (i : Nat) : upF (preF f i) i (f i) = preF f (i + 1) := funext fun j => by
  unfold upF preF
  repeat' split
  all_goals first | rfl | omega | (subst_vars; rfl)
theorem preF_z {f : Nat → SL} {i : Nat} (h : f i = zS) : preF f i = preF f (i + 1) := funext fun j => by
  unfold preF
  repeat' split
  all_goals first | rfl | omega | (rw [show j = i by omega]; exact h.symm)
theorem Good.miss {D : DS} {n k : Nat} {f : Nat → SL} (h : Good D n k f) {i : Nat} (hi : i < k) (hb : ¬ vis D.S D.E i = zB) : fnd (fdB (f i).key) (preF f i) k < 0 := by
  rcases Int.lt_or_le (fnd (fdB (f i).key) (preF f i) k) 0 with h1 | h1
  · exact h1
  · obtain ⟨j, hj, _, hp, _⟩ := fnd_pos h1
    unfold fdB preF at hp
    rw [Bool.and_eq_true, decide_eq_true_iff, decide_eq_true_iff] at hp
    split at hp
    · rename_i hji; exact absurd hp.2 (h.two i j hi hji hp.1 hb)
    · exact absurd rfl hp.1
theorem Good.fin {D : DS} {n k : Nat} {f : Nat → SL} (h : Good D n k f) : preF f k = f := funext fun j => by
  unfold preF; split
  · rfl
  · rename_i hj; exact (h.out j (by omega)).symm
theorem byB_ok {l : List Int} (h : U8ok l) : ∀ i, 0 ≤ byB l i ∧ byB l i ≤ 255 := fun i => by
  unfold byB
  rw [List.getD_eq_getElem?_getD]
  cases e : l[i]? with
  | none => exact ⟨Int.le_refl _, by decide⟩
  | some x => exact h x (List.mem_of_getElem? e)
theorem datL_ok {D : DS} (h : ∀ i, U8ok (vis D.S D.E i)) (k : Nat) : ∀ N, U8ok (datL D k N)
  | 0 => fun x hx => by cases hx
  | N + 1 => fun x hx => by
    have e : datL D k (N + 1) = datL D k N ++ vis D.S D.E (k + N) := rfl
    rw [e] at hx
    rcases List.mem_append.1 hx with h1 | h1
    · exact datL_ok h k N x h1
    · exact h _ x h1
theorem zeros_slots (z : Value) (arr : Array Value) (hz : z.cells = arr) (hs : arr.size = 67) (hl : slC zS = arr.toList.map cellOf) (k : Nat) : zeros z (k * 67) = cC k (fun _ => zS) := by
  unfold zeros
  rw [hz]
  refine List.ext_getElem? fun i => ?_
  have hF : ∀ j, ((fun _ : Nat => slC zS) j).length = 67 := fun _ => rfl
  rcases Nat.lt_or_ge i (k * 67) with h | h
  · rw [List.getElem?_map, List.getElem?_range h]
    have h1 := catC_get (F := fun _ => slC zS) (n := k) (k := i / 67) (a := i % 67) hF (by omega) (Nat.mod_lt _ (by decide))
    rw [show i / 67 * 67 + i % 67 = i by omega] at h1
    unfold cC
    rw [h1, Option.map_some, hs]
    have hm : i % 67 < arr.size := by rw [hs]; exact Nat.mod_lt _ (by decide)
    rw [hl, List.getElem?_map, Array.getElem?_toList, Array.getElem?_eq_getElem hm, Option.map_some, getElem!_pos arr _ hm]
  · rw [List.getElem?_eq_none (by simp; omega), List.getElem?_eq_none (by unfold cC; rw [catC_len hF]; omega)]
def zSV : Value := .agg #[.int .i64 0, .int .u8 0, .int .u8 0, .int .u8 0, .int .u8 0, .int .u8 0, .int .u8 0, .int .u8 0, .int .u8 0, .int .u8 0, .int .u8 0, .int .u8 0, .int .u8 0, .int .u8 0, .int .u8 0, .int .u8 0, .int .u8 0, .int .u8 0, .int .u8 0, .int .u8 0, .int .u8 0, .int .u8 0, .int .u8 0, .int .u8 0, .int .u8 0, .int .u8 0, .int .u8 0, .int .u8 0, .int .u8 0, .int .u8 0, .int .u8 0, .int .u8 0, .int .u8 0, .int .u8 0, .int .u8 0, .int .u8 0, .int .u8 0, .int .u8 0, .int .u8 0, .int .u8 0, .int .u8 0, .int .u8 0, .int .u8 0, .int .u8 0, .int .u8 0, .int .u8 0, .int .u8 0, .int .u8 0, .int .u8 0, .int .u8 0, .int .u8 0, .int .u8 0, .int .u8 0, .int .u8 0, .int .u8 0, .int .u8 0, .int .u8 0, .int .u8 0, .int .u8 0, .int .u8 0, .int .u8 0, .int .u8 0, .int .u8 0, .int .u8 0, .int .u8 0, .int .i64 0, .int .i64 0]
theorem zrow (k : Nat) : zeros zSV (k * 67) = cC k (fun _ => zS) := zeros_slots zSV _ rfl rfl rfl k
theorem slotsZ_nat (n : Nat) (hn : n ≤ 8192) : slotsZ (n : Int) = ((min (n / 4) 512 : Nat) : Int) := by unfold slotsZ; split <;> omega
theorem open_c (rd rs rm n k : Nat) (D : DS) (f : Nat → SL) (m : AMem) (hd : HasD m rd rs rm n D) (hwd : WfD n D) (hdn : D.down = false) (hn : n ≤ 8192) (hk : (k : Int) = slotsZ (n : Int)) (hu : ∀ i, U8ok (vis D.S D.E i)) (hg : Good D n k f) : Ctr Try.prog 7 [.one (.ptr rd 0 0)] m (.tup [(false, [.ptr (m.length + 1) 0 0]), (false, [.int .i64 0])]) (m ++ [rS 0 k f, vtB rd m.length ⟨k, f, (k : Int), 0⟩]) := by
  refine Ctr.enter Try.func7 rfl (by decide) (rs := [.tmp 2, .tmp 3]) (nt := 108) rfl rfl fun hwf Q hQ => ?_
  have hrd := hd.d
  have ld := get_lt hrd
  have hkn : k ≤ 512 ∧ k ≤ n := by have := slotsZ_nat n hn; omega
  have hke := hk.symm
  have hko := hg.ok
  have zr : zeros zSV ((k : Int).toNat * 67) = cC k (fun _ => zS) := by rw [Int.toNat_natCast]; exact zrow k
  have zr0 : cC k (preF f 0) = cC k (fun _ => zS) := catC_congr fun i _ => by unfold preF; rw [if_neg (by omega)]
  unfold zSV at zr
  have q1 : (67 : Int) * (k : Int) ≤ 281474976710656 := by omega
  have q2 : (k : Int) ≤ 281474976710656 := by omega
  have q3 : (0 : Int) ≤ (k : Int) := by omega
  have q4 : (88 : Int) * (k : Int) ≤ 281474976710656 := by omega
  have vl := fun i => visD_len hwd i
  have lu := fun i => (show (u8l (vis D.S D.E i)).length = 128 by rw [u8l_len]; exact vl i)
  have tu := fun i => List.take_of_length_le (Nat.le_of_eq (lu i))
  have vu := fun i => u8l_vals (vis D.S D.E i)
  have sl := fun i => slC_len (hko i).w
  have f0 := fun i => slC_0 (f i)
  have f1 := fun i => slC_1 (hko i).w
  have f2 := fun i => slC_2 (hko i).w
  have f3 := fun i => slC_3 (hko i).w
  have f4 := fun i => slC_4 (hko i).w
  have t67 := fun i => slC_take (hko i).w
  have zb := fun i => zb0 (sl i)
  have hfin := hg.fin
  have sb : ∀ i, setL [CV.int .u8 0, CV.int .u8 0, CV.int .u8 0, CV.int .u8 0, CV.int .u8 0, CV.int .u8 0, CV.int .u8 0, CV.int .u8 0, CV.int .u8 0, CV.int .u8 0, CV.int .u8 0, CV.int .u8 0, CV.int .u8 0, CV.int .u8 0, CV.int .u8 0, CV.int .u8 0, CV.int .u8 0, CV.int .u8 0, CV.int .u8 0, CV.int .u8 0, CV.int .u8 0, CV.int .u8 0, CV.int .u8 0, CV.int .u8 0, CV.int .u8 0, CV.int .u8 0, CV.int .u8 0, CV.int .u8 0, CV.int .u8 0, CV.int .u8 0, CV.int .u8 0, CV.int .u8 0, CV.int .u8 0, CV.int .u8 0, CV.int .u8 0, CV.int .u8 0, CV.int .u8 0, CV.int .u8 0, CV.int .u8 0, CV.int .u8 0, CV.int .u8 0, CV.int .u8 0, CV.int .u8 0, CV.int .u8 0, CV.int .u8 0, CV.int .u8 0, CV.int .u8 0, CV.int .u8 0, CV.int .u8 0, CV.int .u8 0, CV.int .u8 0, CV.int .u8 0, CV.int .u8 0, CV.int .u8 0, CV.int .u8 0, CV.int .u8 0, CV.int .u8 0, CV.int .u8 0, CV.int .u8 0, CV.int .u8 0, CV.int .u8 0, CV.int .u8 0, CV.int .u8 0, CV.int .u8 0, CV.int .u8 0, CV.int .u8 0, CV.int .u8 0, CV.int .u8 0, CV.int .u8 0, CV.int .u8 0, CV.int .u8 0, CV.int .u8 0, CV.int .u8 0, CV.int .u8 0, CV.int .u8 0, CV.int .u8 0, CV.int .u8 0, CV.int .u8 0, CV.int .u8 0, CV.int .u8 0, CV.int .u8 0, CV.int .u8 0, CV.int .u8 0, CV.int .u8 0, CV.int .u8 0, CV.int .u8 0, CV.int .u8 0, CV.int .u8 0, CV.int .u8 0, CV.int .u8 0, CV.int .u8 0, CV.int .u8 0, CV.int .u8 0, CV.int .u8 0, CV.int .u8 0, CV.int .u8 0, CV.int .u8 0, CV.int .u8 0, CV.int .u8 0, CV.int .u8 0, CV.int .u8 0, CV.int .u8 0, CV.int .u8 0, CV.int .u8 0, CV.int .u8 0, CV.int .u8 0, CV.int .u8 0, CV.int .u8 0, CV.int .u8 0, CV.int .u8 0, CV.int .u8 0, CV.int .u8 0, CV.int .u8 0, CV.int .u8 0, CV.int .u8 0, CV.int .u8 0, CV.int .u8 0, CV.int .u8 0, CV.int .u8 0, CV.int .u8 0, CV.int .u8 0, CV.int .u8 0, CV.int .u8 0, CV.int .u8 0, CV.int .u8 0, CV.int .u8 0, CV.int .u8 0, CV.int .u8 0] 0 (u8l (vis D.S D.E i)) = u8l (vis D.S D.E i) := fun i => setL_full (by rw [lu i]; rfl)
  
  refine AW.seq_k fun K hK => ?_
  refine AW.region (by decide) ?_
  simp only [push_cast, simprocAttr, hrd, lk_old hrd, hke, ↓zr, q1, q2, q3, q4, Int.le_refl, Int.toNat_natCast, vl, lu, tu, vu, sl, f0, f1, f2, f3, f4, t67, zb, sb, slC_vals, u8l_len, rS]
  refine Thn_n ?_
  refine hK _ _ ?_
  clear hK K
  refine AW.seq_k fun K hK => ?_
  refine AW.seq_k fun K hK => ?_
  refine AW.region (by decide) ?_
  simp only [push_cast, simprocAttr, hrd, lk_old hrd, hke, ↓zr, q1, q2, q3, q4, Int.le_refl, Int.toNat_natCast, vl, lu, tu, vu, sl, f0, f1, f2, f3, f4, t67, zb, sb, slC_vals, u8l_len, rS]
  refine Thn_n ?_
  refine hK _ _ ?_
  clear hK K
  refine AW.cond_f rfl ?_
  refine AW.skip ?_
  refine Thn_n ?_
  refine hK _ _ ?_
  clear hK K
  refine AW.seq_k fun K hK => ?_
  refine AW.drawX fol (by kernel_rfl) ?_
  refine DX.split 4 6 (by decide) ?_ ?_
  focus
    refine DX.run [0, 1, 2, 3, 4, 5, 6, 7, 8, 9, 10] [.val, .val, .ext, .ext, .ext, .val, .ext, .ext, .val, .ext, .val] (by simp only [permL, reOp, List.idxOf_cons, push_cast, simprocAttr, hrd, lk_old hrd, hke, ↓zr, q1, q2, q3, q4, Int.le_refl, Int.toNat_natCast, vl, lu, tu, vu, sl, f0, f1, f2, f3, f4, t67, zb, sb, slC_vals, u8l_len, rS]; first | done | rfl) (by kernel_rfl) ?_
    iterate 2
      simp only [push_cast, simprocAttr, hrd, lk_old hrd, hke, ↓zr, q1, q2, q3, q4, Int.le_refl, Int.toNat_natCast, vl, lu, tu, vu, sl, f0, f1, f2, f3, f4, t67, zb, sb, slC_vals, u8l_len, rS]
      refine DCall.by0 ((by first | exact blocks_c rd rs rm n D _ hrd | exact blocks_c rd rs rm n D _ (lk_old hrd _))) ?_
      simp only [push_cast, simprocAttr, hrd, lk_old hrd, hke, ↓zr, q1, q2, q3, q4, Int.le_refl, Int.toNat_natCast, vl, lu, tu, vu, sl, f0, f1, f2, f3, f4, t67, zb, sb, slC_vals, u8l_len, rS]
      refine DCall.by0 (slots_c (n : Int) _ (by omega) (by omega)) ?_
      simp only [push_cast, simprocAttr, hrd, lk_old hrd, hke, ↓zr, q1, q2, q3, q4, Int.le_refl, Int.toNat_natCast, vl, lu, tu, vu, sl, f0, f1, f2, f3, f4, t67, zb, sb, slC_vals, u8l_len, rS]
      refine DExt.by (by first | rfl | exact (List.append_nil _).symm | (simp only [List.append_assoc, List.cons_append, List.nil_append]; rfl)) ?_
    simp only [push_cast, simprocAttr, hrd, lk_old hrd, hke, ↓zr, q1, q2, q3, q4, Int.le_refl, Int.toNat_natCast, vl, lu, tu, vu, sl, f0, f1, f2, f3, f4, t67, zb, sb, slC_vals, u8l_len, rS]
    skip
  rotate_left 1
  focus
    refine DX.split 4 7 (by decide) ?_ ?_
    focus
      refine DX.run [0, 1, 2, 3, 5, 6, 4, 7, 8, 9, 10] [.val, .val, .ext, .ext, .val, .ext, .ext, .ext, .val, .ext, .val] (by simp only [permL, reOp, List.idxOf_cons, push_cast, simprocAttr, hrd, lk_old hrd, hke, ↓zr, q1, q2, q3, q4, Int.le_refl, Int.toNat_natCast, vl, lu, tu, vu, sl, f0, f1, f2, f3, f4, t67, zb, sb, slC_vals, u8l_len, rS]; first | done | rfl) (by kernel_rfl) ?_
      simp only [push_cast, simprocAttr, hrd, lk_old hrd, hke, ↓zr, q1, q2, q3, q4, Int.le_refl, Int.toNat_natCast, vl, lu, tu, vu, sl, f0, f1, f2, f3, f4, t67, zb, sb, slC_vals, u8l_len, rS]
      refine DCall.by0 ((by first | exact blocks_c rd rs rm n D _ hrd | exact blocks_c rd rs rm n D _ (lk_old hrd _))) ?_
      simp only [push_cast, simprocAttr, hrd, lk_old hrd, hke, ↓zr, q1, q2, q3, q4, Int.le_refl, Int.toNat_natCast, vl, lu, tu, vu, sl, f0, f1, f2, f3, f4, t67, zb, sb, slC_vals, u8l_len, rS]
      refine DCall.by0 (slots_c (n : Int) _ (by omega) (by omega)) ?_
      simp only [push_cast, simprocAttr, hrd, lk_old hrd, hke, ↓zr, q1, q2, q3, q4, Int.le_refl, Int.toNat_natCast, vl, lu, tu, vu, sl, f0, f1, f2, f3, f4, t67, zb, sb, slC_vals, u8l_len, rS]
      refine DCall.by0 ((by first | exact blocks_c rd rs rm n D _ hrd | exact blocks_c rd rs rm n D _ (lk_old hrd _))) ?_
      simp only [push_cast, simprocAttr, hrd, lk_old hrd, hke, ↓zr, q1, q2, q3, q4, Int.le_refl, Int.toNat_natCast, vl, lu, tu, vu, sl, f0, f1, f2, f3, f4, t67, zb, sb, slC_vals, u8l_len, rS]
      refine DExt.by (by first | rfl | exact (List.append_nil _).symm | (simp only [List.append_assoc, List.cons_append, List.nil_append]; rfl)) ?_
      simp only [push_cast, simprocAttr, hrd, lk_old hrd, hke, ↓zr, q1, q2, q3, q4, Int.le_refl, Int.toNat_natCast, vl, lu, tu, vu, sl, f0, f1, f2, f3, f4, t67, zb, sb, slC_vals, u8l_len, rS]
      refine DCall.by0 (slots_c (n : Int) _ (by omega) (by omega)) ?_
      simp only [push_cast, simprocAttr, hrd, lk_old hrd, hke, ↓zr, q1, q2, q3, q4, Int.le_refl, Int.toNat_natCast, vl, lu, tu, vu, sl, f0, f1, f2, f3, f4, t67, zb, sb, slC_vals, u8l_len, rS]
      refine DExt.by (by first | rfl | exact (List.append_nil _).symm | (simp only [List.append_assoc, List.cons_append, List.nil_append]; rfl)) ?_
      simp only [push_cast, simprocAttr, hrd, lk_old hrd, hke, ↓zr, q1, q2, q3, q4, Int.le_refl, Int.toNat_natCast, vl, lu, tu, vu, sl, f0, f1, f2, f3, f4, t67, zb, sb, slC_vals, u8l_len, rS]
      skip
    rotate_left 1
    focus
      refine DX.run [0, 1, 2, 3, 5, 6, 7, 4, 8, 9, 10] [.val, .val, .ext, .ext, .val, .ext, .ext, .ext, .val, .ext, .val] (by simp only [permL, reOp, List.idxOf_cons, push_cast, simprocAttr, hrd, lk_old hrd, hke, ↓zr, q1, q2, q3, q4, Int.le_refl, Int.toNat_natCast, vl, lu, tu, vu, sl, f0, f1, f2, f3, f4, t67, zb, sb, slC_vals, u8l_len, rS]; first | done | rfl) (by kernel_rfl) ?_
      iterate 2
        simp only [push_cast, simprocAttr, hrd, lk_old hrd, hke, ↓zr, q1, q2, q3, q4, Int.le_refl, Int.toNat_natCast, vl, lu, tu, vu, sl, f0, f1, f2, f3, f4, t67, zb, sb, slC_vals, u8l_len, rS]
        refine DCall.by0 ((by first | exact blocks_c rd rs rm n D _ hrd | exact blocks_c rd rs rm n D _ (lk_old hrd _))) ?_
        simp only [push_cast, simprocAttr, hrd, lk_old hrd, hke, ↓zr, q1, q2, q3, q4, Int.le_refl, Int.toNat_natCast, vl, lu, tu, vu, sl, f0, f1, f2, f3, f4, t67, zb, sb, slC_vals, u8l_len, rS]
        refine DCall.by0 (slots_c (n : Int) _ (by omega) (by omega)) ?_
      iterate 2
        simp only [push_cast, simprocAttr, hrd, lk_old hrd, hke, ↓zr, q1, q2, q3, q4, Int.le_refl, Int.toNat_natCast, vl, lu, tu, vu, sl, f0, f1, f2, f3, f4, t67, zb, sb, slC_vals, u8l_len, rS]
        refine DExt.by (by first | rfl | exact (List.append_nil _).symm | (simp only [List.append_assoc, List.cons_append, List.nil_append]; rfl)) ?_
      simp only [push_cast, simprocAttr, hrd, lk_old hrd, hke, ↓zr, q1, q2, q3, q4, Int.le_refl, Int.toNat_natCast, vl, lu, tu, vu, sl, f0, f1, f2, f3, f4, t67, zb, sb, slC_vals, u8l_len, rS]
      skip
    rotate_left 1
  rotate_left 2
  all_goals (
  refine Thn_n ?_
  refine hK _ _ ?_
  clear hK K
  refine AW.seq_k fun K hK => ?_
  refine AW.seq_k fun K hK => ?_
  refine AW.region (by decide) ?_
  simp only [push_cast, simprocAttr, hrd, lk_old hrd, hke, ↓zr, q1, q2, q3, q4, Int.le_refl, Int.toNat_natCast, vl, lu, tu, vu, sl, f0, f1, f2, f3, f4, t67, zb, sb, slC_vals, u8l_len, rS]
  refine Thn_n ?_
  refine hK _ _ ?_
  clear hK K
  refine AW.block ?_
  refine AW.loopK [0, 4, 28] (fun i => i ≤ k) (fun i => [(29, .one (.int .i64 (i : Int)))]) (fun i => [(m.length, rS 0 k (preF f i))]) (fun i => k - i) 0 (by omega) ?_ ?_ fun i hi7 => ?_
  · first | rfl | (simp only [Keeps, Tm.get_cons, Nat.reduceEqDiff, ↓reduceIte, if_true, if_false, ite_true, ite_false, true_and, and_true, and_self, reduceCtorEq, zr0] <;> repeat' (first | rfl | apply And.intro))
  · first | rfl | (simp only [setAll, push_cast, simprocAttr, hrd, lk_old hrd, hke, ↓zr, q1, q2, q3, q4, Int.le_refl, Int.toNat_natCast, vl, lu, tu, vu, sl, f0, f1, f2, f3, f4, t67, zb, sb, slC_vals, u8l_len, rS, zr0] <;> rfl)
  try simp only [keepL, setAll, push_cast, simprocAttr, hrd, lk_old hrd, hke, ↓zr, q1, q2, q3, q4, Int.le_refl, Int.toNat_natCast, vl, lu, tu, vu, sl, f0, f1, f2, f3, f4, t67, zb, sb, slC_vals, u8l_len, rS]
  refine AW.seq_k fun K hK => ?_
  refine AW.region (by decide) ?_
  simp only [push_cast, simprocAttr, hrd, lk_old hrd, hke, ↓zr, q1, q2, q3, q4, Int.le_refl, Int.toNat_natCast, vl, lu, tu, vu, sl, f0, f1, f2, f3, f4, t67, zb, sb, slC_vals, u8l_len, rS]
  refine Thn_n ?_
  refine hK _ _ ?_
  clear hK K
  refine AW.seq_k fun K hK => ?_
  refine AW.cond rfl (fun h30 => ?_) (fun h30 => ?_)
  · have hlt : i < k := by have := of_decide_eq_true h30; omega
    have zq : eqParts Try.prog (eqV Try.prog 9999) (u8l (vis D.S D.E i)) [CV.int .u8 0, CV.int .u8 0, CV.int .u8 0, CV.int .u8 0, CV.int .u8 0, CV.int .u8 0, CV.int .u8 0, CV.int .u8 0, CV.int .u8 0, CV.int .u8 0, CV.int .u8 0, CV.int .u8 0, CV.int .u8 0, CV.int .u8 0, CV.int .u8 0, CV.int .u8 0, CV.int .u8 0, CV.int .u8 0, CV.int .u8 0, CV.int .u8 0, CV.int .u8 0, CV.int .u8 0, CV.int .u8 0, CV.int .u8 0, CV.int .u8 0, CV.int .u8 0, CV.int .u8 0, CV.int .u8 0, CV.int .u8 0, CV.int .u8 0, CV.int .u8 0, CV.int .u8 0, CV.int .u8 0, CV.int .u8 0, CV.int .u8 0, CV.int .u8 0, CV.int .u8 0, CV.int .u8 0, CV.int .u8 0, CV.int .u8 0, CV.int .u8 0, CV.int .u8 0, CV.int .u8 0, CV.int .u8 0, CV.int .u8 0, CV.int .u8 0, CV.int .u8 0, CV.int .u8 0, CV.int .u8 0, CV.int .u8 0, CV.int .u8 0, CV.int .u8 0, CV.int .u8 0, CV.int .u8 0, CV.int .u8 0, CV.int .u8 0, CV.int .u8 0, CV.int .u8 0, CV.int .u8 0, CV.int .u8 0, CV.int .u8 0, CV.int .u8 0, CV.int .u8 0, CV.int .u8 0, CV.int .u8 0, CV.int .u8 0, CV.int .u8 0, CV.int .u8 0, CV.int .u8 0, CV.int .u8 0, CV.int .u8 0, CV.int .u8 0, CV.int .u8 0, CV.int .u8 0, CV.int .u8 0, CV.int .u8 0, CV.int .u8 0, CV.int .u8 0, CV.int .u8 0, CV.int .u8 0, CV.int .u8 0, CV.int .u8 0, CV.int .u8 0, CV.int .u8 0, CV.int .u8 0, CV.int .u8 0, CV.int .u8 0, CV.int .u8 0, CV.int .u8 0, CV.int .u8 0, CV.int .u8 0, CV.int .u8 0, CV.int .u8 0, CV.int .u8 0, CV.int .u8 0, CV.int .u8 0, CV.int .u8 0, CV.int .u8 0, CV.int .u8 0, CV.int .u8 0, CV.int .u8 0, CV.int .u8 0, CV.int .u8 0, CV.int .u8 0, CV.int .u8 0, CV.int .u8 0, CV.int .u8 0, CV.int .u8 0, CV.int .u8 0, CV.int .u8 0, CV.int .u8 0, CV.int .u8 0, CV.int .u8 0, CV.int .u8 0, CV.int .u8 0, CV.int .u8 0, CV.int .u8 0, CV.int .u8 0, CV.int .u8 0, CV.int .u8 0, CV.int .u8 0, CV.int .u8 0, CV.int .u8 0, CV.int .u8 0, CV.int .u8 0, CV.int .u8 0, CV.int .u8 0, CV.int .u8 0] (List.map (fun i => (5, i)) (List.range' 0 128)) = some (decide (vis D.S D.E i = zB)) := eqpn (ys := zB) (vl i) rfl
    have c0 : (0 : Int) ≤ (i : Int) := by omega
    have c1 : (i : Int) < (k : Int) := by omega
    have c2 : i * 67 + 67 ≤ k * 67 := by omega
    have cl := cC_len (preF_ok hko i) k
    refine AW.skip ?_
    refine Thn_n ?_
    refine hK _ _ ?_
    clear hK K
    refine AW.seq_k fun K hK => ?_
    refine AW.block ?_
    refine AW.seq_k fun K hK => ?_
    refine AW.region (by decide) ?_
    simp only [push_cast, simprocAttr, hrd, lk_old hrd, hke, ↓zr, q1, q2, q3, q4, Int.le_refl, Int.toNat_natCast, vl, lu, tu, vu, sl, f0, f1, f2, f3, f4, t67, zb, sb, slC_vals, u8l_len, rS, zq, c0, c1, c2, cl]
    refine Thn_n ?_
    refine hK _ _ ?_
    clear hK K
    refine AW.seq_k fun K hK => ?_
    refine AW.region (by decide) ?_
    simp only [push_cast, simprocAttr, hrd, lk_old hrd, hke, ↓zr, q1, q2, q3, q4, Int.le_refl, Int.toNat_natCast, vl, lu, tu, vu, sl, f0, f1, f2, f3, f4, t67, zb, sb, slC_vals, u8l_len, rS, zq, c0, c1, c2, cl]
    refine CThen.by (rd_ok rd rs rm n i D _ (hd.mono _) hwd hdn (by omega)) ?_
    simp only [push_cast, simprocAttr, hrd, lk_old hrd, hke, ↓zr, q1, q2, q3, q4, Int.le_refl, Int.toNat_natCast, vl, lu, tu, vu, sl, f0, f1, f2, f3, f4, t67, zb, sb, slC_vals, u8l_len, rS, zq, c0, c1, c2, cl]
    refine Thn_n ?_
    refine hK _ _ ?_
    clear hK K
    refine AW.seq_k fun K hK => ?_
    refine AW.seq_k fun K hK => ?_
    refine AW.region (by decide) ?_
    simp only [push_cast, simprocAttr, hrd, lk_old hrd, hke, ↓zr, q1, q2, q3, q4, Int.le_refl, Int.toNat_natCast, vl, lu, tu, vu, sl, f0, f1, f2, f3, f4, t67, zb, sb, slC_vals, u8l_len, rS, zq, c0, c1, c2, cl]
    refine Thn_n ?_
    refine hK _ _ ?_
    clear hK K
    refine AW.cond_f rfl ?_
    refine AW.skip ?_
    refine Thn_n ?_
    refine hK _ _ ?_
    clear hK K
    refine AW.seq_k fun K hK => ?_
    refine AW.seq_k fun K hK => ?_
    refine AW.region (by decide) ?_
    simp only [push_cast, simprocAttr, hrd, lk_old hrd, hke, ↓zr, q1, q2, q3, q4, Int.le_refl, Int.toNat_natCast, vl, lu, tu, vu, sl, f0, f1, f2, f3, f4, t67, zb, sb, slC_vals, u8l_len, rS, zq, c0, c1, c2, cl]
    refine Thn_n ?_
    refine hK _ _ ?_
    clear hK K
    refine AW.cond rfl (fun h43 => ?_) (fun h43 => ?_)
    · have hz : vis D.S D.E i = zB := of_decide_eq_true h43
      have hfz : f i = zS := (hg.at_ i hlt).elim (fun h => h.2) (fun h => absurd hz h.b)
      have hnx : preF f i = preF f (i + 1) := preF_z hfz
      refine AW.exit ?_
      refine Thn_e ?_
      clear hK K
      refine InB_here ?_
      refine Thn_n ?_
      refine hK _ _ ?_
      clear hK K
      refine AW.region (by decide) ?_
      simp only [push_cast, simprocAttr, hrd, lk_old hrd, hke, ↓zr, q1, q2, q3, q4, Int.le_refl, Int.toNat_natCast, vl, lu, tu, vu, sl, f0, f1, f2, f3, f4, t67, zb, sb, slC_vals, u8l_len, rS, zq, c0, c1, c2, cl]
      refine Thn_n ?_
      have hwi : IntKind.i64.wrap ((i:Int)+1) = (i:Int)+1 := wi (by omega)
      refine ⟨i + 1, by omega, by omega, ?_⟩
      try simp only [keepL, setAll, push_cast, simprocAttr, hrd, lk_old hrd, hke, ↓zr, q1, q2, q3, q4, Int.le_refl, Int.toNat_natCast, vl, lu, tu, vu, sl, f0, f1, f2, f3, f4, t67, zb, sb, slC_vals, u8l_len, rS, zq, c0, c1, c2, cl, hwi, hnx]
      first
        | exact Weak.to (extra := [_]) (by simp only [Keeps, Tm.get_cons, Nat.reduceEqDiff, ↓reduceIte, if_true, if_false, ite_true, ite_false, true_and, and_true, and_self, reduceCtorEq, hwi, hnx]) (by first | rfl | (simp only [List.append_assoc, List.cons_append, List.nil_append]; rfl)) (by first | rfl | (simp [AV.below, CV.below]; done) | (simp [AV.below, CV.below]; omega)) (by first | exact hwf | exact MWf.app (hwf.grow (by simp)) (MWf_cons (cC_below _ _ _) (MWf_cons (by simp [CV.below] <;> omega) MWf_nil)))
        | exact Weak.to (extra := [_, _, _, _]) (by simp only [Keeps, Tm.get_cons, Nat.reduceEqDiff, ↓reduceIte, if_true, if_false, ite_true, ite_false, true_and, and_true, and_self, reduceCtorEq, hwi, hnx]) (by first | rfl | (simp only [List.append_assoc, List.cons_append, List.nil_append]; rfl)) (by first | rfl | (simp [AV.below, CV.below]; done) | (simp [AV.below, CV.below]; omega)) (by first | exact hwf | exact MWf.app (hwf.grow (by simp)) (MWf_cons (cC_below _ _ _) (MWf_cons (by simp [CV.below] <;> omega) MWf_nil)))
    · have hz : ¬ vis D.S D.E i = zB := of_decide_eq_false h43
      have G : GoodS D n k f i := (hg.at_ i hlt).elim (fun h => absurd h.1 hz) id
      have dq := G.d
      have oq := G.o
      have hs1 := G.s
      have hf1 := G.fr
      have he1 := G.e
      have o := hko i
      have o0 := o.f0
      have o2 := o.s0
      obtain ⟨nb0, nb1⟩ := needZ_b o2 o.s1
      have g1 : ¬ (262144 : Int) < (f i).size := by omega
      have g2 : ¬ (f i).fr < (k : Int) := by omega
      have g3 : ¬ (n : Int) < (f i).fr + needZ (f i).size := by omega
      have w71 : IntKind.i64.wrap ((f i).fr + needZ (f i).size) = (f i).fr + needZ (f i).size := wi (by omega)
      have hm := (fnd_neg (hg.miss hlt hz)).1
      have cst : setL (cC k (preF f i)) (i * 67) (slC (f i)) = cC k (preF f (i + 1)) := by rw [cC_set (preF_ok hko i) hlt o, preF_up]
      obtain ⟨kk, hkk⟩ : ∃ q : Nat, q = (f i).fr.toNat := ⟨_, rfl⟩
      obtain ⟨N, hN⟩ : ∃ q : Nat, q = (needZ (f i).size).toNat := ⟨_, rfl⟩
      obtain ⟨z, hzz⟩ : ∃ q : Nat, q = (f i).size.toNat := ⟨_, rfl⟩
      have hsum := G.h
      rw [← hkk, ← hN, ← hzz] at hsum
      have hNz : (N : Int) = needZ (f i).size := by omega
      obtain ⟨nn1, nn2⟩ := needZ_nat hNz o2
      have dl := datL_len hwd kk N
      obtain ⟨bs, hbs⟩ : ∃ bs, bs = (datL D kk N).take z := ⟨_, rfl⟩
      rw [← hbs] at hsum
      have bl : bs.length = z := by rw [hbs, List.length_take, dl]; omega
      have bo : U8ok bs := fun x hx => datL_ok hu kk N x (by rw [hbs] at hx; exact List.mem_of_mem_take hx)
      have eq := eqpn (shaL_len bs) o.w.s
      rw [decide_eq_true hsum] at eq
      have hz2 := hzz.symm
      have hnx := True.intro
      refine AW.skip ?_
      refine Thn_n ?_
      refine hK _ _ ?_
      clear hK K
      refine AW.seq_k fun K hK => ?_
      refine AW.region (by decide) ?_
      simp only [push_cast, simprocAttr, hrd, lk_old hrd, hke, ↓zr, q1, q2, q3, q4, Int.le_refl, Int.toNat_natCast, vl, lu, tu, vu, sl, f0, f1, f2, f3, f4, t67, zb, sb, slC_vals, u8l_len, rS, zq, c0, c1, c2, cl, dq, oq, g1, g2, g3, w71, hm, cst, eq, hz2]
      refine CThen.by (dec_c (vis D.S D.E i) _ (vl i) (byB_ok (hu i))) ?_
      simp only [push_cast, simprocAttr, hrd, lk_old hrd, hke, ↓zr, q1, q2, q3, q4, Int.le_refl, Int.toNat_natCast, vl, lu, tu, vu, sl, f0, f1, f2, f3, f4, t67, zb, sb, slC_vals, u8l_len, rS, zq, c0, c1, c2, cl, dq, oq, g1, g2, g3, w71, hm, cst, eq, hz2]
      refine Thn_n ?_
      refine hK _ _ ?_
      clear hK K
      refine AW.seq_k fun K hK => ?_
      refine AW.seq_k fun K hK => ?_
      refine AW.draw [.val, .val, .val, .val, .rd 0, .val, .val, .val, .val, .rd 0, .val, .val, .val, .rd 0, .val, .val, .val, .val, .rd 0, .val, .rd 0, .ext, .val, .val, .ext, .val, .val, .val, .val, .val, .rd 2, .ext, .val, .val] fol (by decide) (by kernel_rfl) ?_
      simp only [push_cast, simprocAttr, hrd, lk_old hrd, hke, ↓zr, q1, q2, q3, q4, Int.le_refl, Int.toNat_natCast, vl, lu, tu, vu, sl, f0, f1, f2, f3, f4, t67, zb, sb, slC_vals, u8l_len, rS, zq, c0, c1, c2, cl, dq, oq, g1, g2, g3, w71, hm, cst, eq, hz2]
      refine DCall.by0 (need_c (f i).size _ (by omega)) ?_
      simp only [push_cast, simprocAttr, hrd, lk_old hrd, hke, ↓zr, q1, q2, q3, q4, Int.le_refl, Int.toNat_natCast, vl, lu, tu, vu, sl, f0, f1, f2, f3, f4, t67, zb, sb, slC_vals, u8l_len, rS, zq, c0, c1, c2, cl, dq, oq, g1, g2, g3, w71, hm, cst, eq, hz2]
      refine DCall.by0 (blocks_c rd rs rm n D _ (lk_old hrd _)) ?_
      simp only [push_cast, simprocAttr, hrd, lk_old hrd, hke, ↓zr, q1, q2, q3, q4, Int.le_refl, Int.toNat_natCast, vl, lu, tu, vu, sl, f0, f1, f2, f3, f4, t67, zb, sb, slC_vals, u8l_len, rS, zq, c0, c1, c2, cl, dq, oq, g1, g2, g3, w71, hm, cst, eq, hz2]
      refine DCall.by0 (find_c (m.length + 1) m.length rd ⟨k, preF f i, (k : Int), 0⟩ _ ⟨by rw [lk_app]; rfl, by rw [lk_app0]; rfl⟩ (preF_ok hko i) (by exact hkn.1) (f i).key o.w.k) ?_
      simp only [push_cast, simprocAttr, hrd, lk_old hrd, hke, ↓zr, q1, q2, q3, q4, Int.le_refl, Int.toNat_natCast, vl, lu, tu, vu, sl, f0, f1, f2, f3, f4, t67, zb, sb, slC_vals, u8l_len, rS, zq, c0, c1, c2, cl, dq, oq, g1, g2, g3, w71, hm, cst, eq, hz2]
      refine Thn_n ?_
      refine hK _ _ ?_
      clear hK K
      refine AW.cond_f rfl ?_
      refine AW.skip ?_
      refine Thn_n ?_
      refine hK _ _ ?_
      clear hK K
      refine AW.seq_k fun K hK => ?_
      refine AW.draw [.val, .val, .val, .rd 0, .val, .rd 0, .val, .wr] fol (by decide) (by kernel_rfl) ?_
      simp only [push_cast, simprocAttr, hrd, lk_old hrd, hke, ↓zr, q1, q2, q3, q4, Int.le_refl, Int.toNat_natCast, vl, lu, tu, vu, sl, f0, f1, f2, f3, f4, t67, zb, sb, slC_vals, u8l_len, rS, zq, c0, c1, c2, cl, dq, oq, g1, g2, g3, w71, hm, cst, eq, hz2]
      refine Thn_n ?_
      refine hK _ _ ?_
      clear hK K
      refine AW.seq_k fun K hK => ?_
      refine AW.region (by decide) ?_
      simp only [push_cast, simprocAttr, hrd, lk_old hrd, hke, ↓zr, q1, q2, q3, q4, Int.le_refl, Int.toNat_natCast, vl, lu, tu, vu, sl, f0, f1, f2, f3, f4, t67, zb, sb, slC_vals, u8l_len, rS, zq, c0, c1, c2, cl, dq, oq, g1, g2, g3, w71, hm, cst, eq, hz2]
      refine CThen.by (load_c (m.length + 1) m.length rd ⟨k, preF f (i + 1), (k : Int), 0⟩ (f i) kk N _ (by rw [lk_app]; rfl) rs rm n D (hd.mono _) hwd hdn hn o.w (by omega) o2 hs1 hNz (by omega)) ?_
      simp only [push_cast, simprocAttr, hrd, lk_old hrd, hke, ↓zr, q1, q2, q3, q4, Int.le_refl, Int.toNat_natCast, vl, lu, tu, vu, sl, f0, f1, f2, f3, f4, t67, zb, sb, slC_vals, u8l_len, rS, zq, c0, c1, c2, cl, dq, oq, g1, g2, g3, w71, hm, cst, eq, hz2]
      refine Thn_n ?_
      refine hK _ _ ?_
      clear hK K
      refine AW.seq_k fun K hK => ?_
      refine AW.draw [.val, .val, .val, .val, .ext, .ext, .val, .rd 0, .val, .val] fol (by decide) (by kernel_rfl) ?_
      simp only [push_cast, simprocAttr, hrd, lk_old hrd, hke, ↓zr, q1, q2, q3, q4, Int.le_refl, Int.toNat_natCast, vl, lu, tu, vu, sl, f0, f1, f2, f3, f4, t67, zb, sb, slC_vals, u8l_len, rS, zq, c0, c1, c2, cl, dq, oq, g1, g2, g3, w71, hm, cst, eq, hz2]
      refine DExt.by (by first | rfl | exact (List.append_nil _).symm | (simp only [List.append_assoc, List.cons_append, List.nil_append]; rfl)) ?_
      simp only [push_cast, simprocAttr, hrd, lk_old hrd, hke, ↓zr, q1, q2, q3, q4, Int.le_refl, Int.toNat_natCast, vl, lu, tu, vu, sl, f0, f1, f2, f3, f4, t67, zb, sb, slC_vals, u8l_len, rS, zq, c0, c1, c2, cl, dq, oq, g1, g2, g3, w71, hm, cst, eq, hz2]
      refine DCall.by0 (of1_c (m.length + 5) 0 0 (.sl (m.length + 4) 0 0 z) bs [.sl (m.length + 4) 0 0 z] .grow 1 _ (by rw [lk_app]; rfl) rfl (.row (X := datL D kk N) (by rw [lk_app]; rfl) bl.symm (by omega) (by rw [List.drop_zero, bl, hbs])) (by omega) bo) ?_
      simp only [push_cast, simprocAttr, hrd, lk_old hrd, hke, ↓zr, q1, q2, q3, q4, Int.le_refl, Int.toNat_natCast, vl, lu, tu, vu, sl, f0, f1, f2, f3, f4, t67, zb, sb, slC_vals, u8l_len, rS, zq, c0, c1, c2, cl, dq, oq, g1, g2, g3, w71, hm, cst, eq, hz2]
      refine Thn_n ?_
      refine hK _ _ ?_
      clear hK K
      refine AW.cond_f rfl ?_
      refine AW.skip ?_
      refine InB_n ?_
      refine Thn_n ?_
      refine hK _ _ ?_
      clear hK K
      refine AW.region (by decide) ?_
      simp only [push_cast, simprocAttr, hrd, lk_old hrd, hke, ↓zr, q1, q2, q3, q4, Int.le_refl, Int.toNat_natCast, vl, lu, tu, vu, sl, f0, f1, f2, f3, f4, t67, zb, sb, slC_vals, u8l_len, rS, zq, c0, c1, c2, cl, dq, oq, g1, g2, g3, w71, hm, cst, eq, hz2]
      refine Thn_n ?_
      have hwi : IntKind.i64.wrap ((i:Int)+1) = (i:Int)+1 := wi (by omega)
      refine ⟨i + 1, by omega, by omega, ?_⟩
      try simp only [keepL, setAll, push_cast, simprocAttr, hrd, lk_old hrd, hke, ↓zr, q1, q2, q3, q4, Int.le_refl, Int.toNat_natCast, vl, lu, tu, vu, sl, f0, f1, f2, f3, f4, t67, zb, sb, slC_vals, u8l_len, rS, zq, c0, c1, c2, cl, dq, oq, g1, g2, g3, w71, hm, cst, eq, hz2, hwi, hnx]
      first
        | exact Weak.to (extra := [_]) (by simp only [Keeps, Tm.get_cons, Nat.reduceEqDiff, ↓reduceIte, if_true, if_false, ite_true, ite_false, true_and, and_true, and_self, reduceCtorEq, hwi, hnx]) (by first | rfl | (simp only [List.append_assoc, List.cons_append, List.nil_append]; rfl)) (by first | rfl | (simp [AV.below, CV.below]; done) | (simp [AV.below, CV.below]; omega)) (by first | exact hwf | exact MWf.app (hwf.grow (by simp)) (MWf_cons (cC_below _ _ _) (MWf_cons (by simp [CV.below] <;> omega) MWf_nil)))
        | exact Weak.to (extra := [_, _, _, _]) (by simp only [Keeps, Tm.get_cons, Nat.reduceEqDiff, ↓reduceIte, if_true, if_false, ite_true, ite_false, true_and, and_true, and_self, reduceCtorEq, hwi, hnx]) (by first | rfl | (simp only [List.append_assoc, List.cons_append, List.nil_append]; rfl)) (by first | rfl | (simp [AV.below, CV.below]; done) | (simp [AV.below, CV.below]; omega)) (by first | exact hwf | exact MWf.app (hwf.grow (by simp)) (MWf_cons (cC_below _ _ _) (MWf_cons (by simp [CV.below] <;> omega) MWf_nil)))
  · have hin : i = k := by have := of_decide_eq_false h30; omega
    subst hin
    refine AW.exit ?_
    refine Thn_e ?_
    clear hK K
    refine Thn_e ?_
    refine InB_here ?_
    refine Thn_n ?_
    refine hK _ _ ?_
    clear hK K
    refine AW.seq_k fun K hK => ?_
    refine AW.region (by decide) ?_
    simp only [push_cast, simprocAttr, hrd, lk_old hrd, hke, ↓zr, q1, q2, q3, q4, Int.le_refl, Int.toNat_natCast, vl, lu, tu, vu, sl, f0, f1, f2, f3, f4, t67, zb, sb, slC_vals, u8l_len, rS]
    refine Thn_n ?_
    refine hK _ _ ?_
    clear hK K
    refine AW.ret ?_
    refine hQ _ _ _ ?_
    simp only [hfin]
    refine ⟨Or.inr rfl, _, ?_, Hands.all⟩
    simp only [resA, resOne, resTv, AV.tv, push_cast, simprocAttr]
  )
end Go.Proofs.Ytdkfbbjpblfclaa

set_option linter.unusedSimpArgs false
set_option linter.unusedVariables false
set_option maxRecDepth 100000
set_option maxHeartbeats 4000000
namespace Go.Proofs.Ytdkfbbjpblfclaa
open Go Go.Eng

/-- How many slots are taken; how many blocks. -/
def cntF (f : Nat → SL) : Nat → Int
  | 0 => 0
  | k + 1 => cntF f k + if (f k).kind = 0 then 0 else 1
theorem cntF_b (f : Nat → SL) : ∀ k : Nat, 0 ≤ cntF f k ∧ cntF f k ≤ (k : Int)
  | 0 => ⟨Int.le_refl _, Int.le_refl _⟩
  | k + 1 => by have := cntF_b f k; unfold cntF; split <;> omega
def usGo (g : Nat → SL) : Nat → Nat → Int → Int → Int
  | 0, _, _, a => a
  | r + 1, i, p, a => usGo g r (i + 1) (maxI p ((g i).fr + needZ (g i).size)) (a + maxI 0 ((g i).fr + needZ (g i).size - maxI p (g i).fr))
noncomputable def VS.us (V : VS) : Int := usGo V.tg V.tk.length 0 V.data 0
theorem used_c (rv rl rd : Nat) (V : VS) (m : AMem) (h : HasV m rv rl rd V) (hf : ∀ i, OkS (V.f i)) (hk : V.k ≤ 512) (h0 : V.dead = 0) (hd0 : 0 ≤ V.data) (hd1 : V.data ≤ 512) : Ctr Try.prog 13 [.one (.ptr rv 0 0)] m (.tup [(false, [.int .i64 (cntF V.f V.k)]), (false, [.int .i64 V.us])]) m := by
  refine Ctr.enter Try.func13 rfl (by decide) (rs := [.tmp 2, .tmp 3]) (nt := 60) rfl rfl fun hwf Q hQ => ?_
  have hv := h.v
  have hl := h.l
  have lv := get_lt hv
  have ll := get_lt hl
  have gl : (cC V.k V.f).length = V.k * 67 := cC_len hf V.k
  have hup : ∀ X : AMem, Ctr Try.prog 31 [.one (.ptr rv 0 0)] (m ++ X) (.one (.int .i64 0)) (m ++ X) := fun X => by
    have := vup_c rv rl rd V (m ++ X) (lk_old hv X)
    rwa [h0] at this
  have hup0 : Ctr Try.prog 31 [.one (.ptr rv 0 0)] m (.one (.int .i64 0)) m := by have := hup []; rwa [List.append_nil] at this
  have sl := fun i => slC_len (hf i).w
  have f0 := fun i => slC_0 (V.f i)
  have zb := fun i => zb0 (sl i)
  have gok := tg_ok hf hk
  have sl2 := fun i => slC_len (gok i).w
  have f3 := fun i => slC_3 (gok i).w
  have f4 := fun i => slC_4 (gok i).w
  have zb2 := fun i => zb0 (sl2 i)
  have cl : (cC V.tk.length V.tg).length = V.tk.length * 67 := cC_len gok _
  obtain ⟨c, hc⟩ : ∃ q : Nat, q = V.tk.length := ⟨_, rfl⟩
  have hus : V.us = usGo V.tg c 0 V.data 0 := by rw [hc]; rfl
  rw [hus] at hQ
  rw [← hc] at cl
  have hck : c ≤ 512 := by rw [hc]; exact Nat.le_trans (tkL_len V.f V.k) hk
  have hc2 := hc.symm
  
  refine AW.seq_k fun K hK => ?_
  refine AW.region (by decide) ?_
  simp only [push_cast, simprocAttr, hv, hl, lk_old hv, lk_old hl, vtB, rS, gl, sl, f0, zb, sl2, f3, f4, zb2, slC_vals, cl, hc2]
  refine Thn_n ?_
  refine hK _ _ ?_
  clear hK K
  refine AW.seq_k fun K hK => ?_
  refine AW.seq_k fun K hK => ?_
  refine AW.region (by decide) ?_
  simp only [push_cast, simprocAttr, hv, hl, lk_old hv, lk_old hl, vtB, rS, gl, sl, f0, zb, sl2, f3, f4, zb2, slC_vals, cl, hc2]
  refine CThen.by (hup0) ?_
  simp only [push_cast, simprocAttr, hv, hl, lk_old hv, lk_old hl, vtB, rS, gl, sl, f0, zb, sl2, f3, f4, zb2, slC_vals, cl, hc2]
  refine Thn_n ?_
  refine hK _ _ ?_
  clear hK K
  refine AW.cond_f rfl ?_
  refine AW.skip ?_
  refine Thn_n ?_
  refine hK _ _ ?_
  clear hK K
  refine AW.seq_k fun K hK => ?_
  refine AW.seq_k fun K hK => ?_
  refine AW.region (by decide) ?_
  simp only [push_cast, simprocAttr, hv, hl, lk_old hv, lk_old hl, vtB, rS, gl, sl, f0, zb, sl2, f3, f4, zb2, slC_vals, cl, hc2]
  refine Thn_n ?_
  refine hK _ _ ?_
  clear hK K
  refine AW.block ?_
  refine AW.loopK [0, 3, 16, 17] (fun i => i ≤ V.k) (fun i => [(2, .one (.int .i64 (cntF V.f i))), (18, .one (.int .i64 (i : Int)))]) (fun i => []) (fun i => V.k - i) 0 (by omega) ?_ ?_ fun i hi6 => ?_
  · first | rfl | (simp only [Keeps, Tm.get_cons, Nat.reduceEqDiff, ↓reduceIte, if_true, if_false, ite_true, ite_false, true_and, and_true, and_self, reduceCtorEq, cntF] <;> repeat' (first | rfl | apply And.intro))
  · first | rfl | (simp only [setAll, push_cast, simprocAttr, hv, hl, lk_old hv, lk_old hl, vtB, rS, gl, sl, f0, zb, sl2, f3, f4, zb2, slC_vals, cl, hc2, cntF] <;> rfl)
  try simp only [keepL, setAll, push_cast, simprocAttr, hv, hl, lk_old hv, lk_old hl, vtB, rS, gl, sl, f0, zb, sl2, f3, f4, zb2, slC_vals, cl, hc2]
  refine AW.seq_k fun K hK => ?_
  refine AW.region (by decide) ?_
  simp only [push_cast, simprocAttr, hv, hl, lk_old hv, lk_old hl, vtB, rS, gl, sl, f0, zb, sl2, f3, f4, zb2, slC_vals, cl, hc2]
  refine Thn_n ?_
  refine hK _ _ ?_
  clear hK K
  refine AW.seq_k fun K hK => ?_
  refine AW.cond rfl (fun h19 => ?_) (fun h19 => ?_)
  · have hlt : i < V.k := by have := of_decide_eq_true h19; omega
    have lx := cC_at (n := V.k) (f := V.f) hf hlt
    have c0 : (0 : Int) ≤ (i : Int) := by omega
    have c1 : (i : Int) < (V.k : Int) := by omega
    have c2 : i * 67 + 67 ≤ V.k * 67 := by omega
    obtain ⟨m0, m1⟩ := cntF_b V.f i
    refine AW.skip ?_
    refine Thn_n ?_
    refine hK _ _ ?_
    clear hK K
    refine AW.seq_k fun K hK => ?_
    refine AW.block ?_
    iterate 2
      refine AW.seq_k fun K hK => ?_
      refine AW.region (by decide) ?_
      simp only [push_cast, simprocAttr, hv, hl, lk_old hv, lk_old hl, vtB, rS, gl, sl, f0, zb, sl2, f3, f4, zb2, slC_vals, cl, hc2, lx, c0, c1, c2]
      refine Thn_n ?_
      refine hK _ _ ?_
      clear hK K
    refine AW.cond rfl (fun h24 => ?_) (fun h24 => ?_)
    · have kz : ¬ (V.f i).kind = 0 := by simpa using h24
      have wm : IntKind.i64.wrap (cntF V.f i + 1) = cntF V.f i + 1 := wi (by omega)
      have hnx : cntF V.f (i + 1) = cntF V.f i + 1 := by show cntF V.f i + _ = _; rw [if_neg kz]
      refine AW.region (by decide) ?_
      simp only [push_cast, simprocAttr, hv, hl, lk_old hv, lk_old hl, vtB, rS, gl, sl, f0, zb, sl2, f3, f4, zb2, slC_vals, cl, hc2, lx, c0, c1, c2, wm]
      refine InB_n ?_
      refine Thn_n ?_
      refine hK _ _ ?_
      clear hK K
      refine AW.region (by decide) ?_
      simp only [push_cast, simprocAttr, hv, hl, lk_old hv, lk_old hl, vtB, rS, gl, sl, f0, zb, sl2, f3, f4, zb2, slC_vals, cl, hc2, lx, c0, c1, c2, wm]
      refine Thn_n ?_
      have hwi : IntKind.i64.wrap ((i:Int)+1) = (i:Int)+1 := wi (by omega)
      refine ⟨i + 1, by omega, by omega, ?_⟩
      try simp only [keepL, setAll, push_cast, simprocAttr, hv, hl, lk_old hv, lk_old hl, vtB, rS, gl, sl, f0, zb, sl2, f3, f4, zb2, slC_vals, cl, hc2, lx, c0, c1, c2, wm, hwi, hnx]
      exact Weak.to (extra := [_]) (by simp only [Keeps, Tm.get_cons, Nat.reduceEqDiff, ↓reduceIte, if_true, if_false, ite_true, ite_false, true_and, and_true, and_self, reduceCtorEq, hwi, hnx]) (by first | rfl | (simp only [List.append_assoc, List.cons_append, List.nil_append]; rfl)) (by first | rfl | (simp [AV.below, CV.below]; done) | (simp [AV.below, CV.below]; omega)) (by
        first | exact hwf | refine MWf.app (hwf.grow (by simp)) ?_
        repeat (first | exact MWf_nil | (refine MWf_cons ?_ ?_; · first | rfl | (simp [CV.below]; done) | (simp [CV.below]; omega))))
    · have kz : (V.f i).kind = 0 := by simpa using h24
      have hnx : cntF V.f (i + 1) = cntF V.f i := by show cntF V.f i + _ = _; rw [if_pos kz, Int.add_zero]
      refine AW.skip ?_
      refine InB_n ?_
      refine Thn_n ?_
      refine hK _ _ ?_
      clear hK K
      refine AW.region (by decide) ?_
      simp only [push_cast, simprocAttr, hv, hl, lk_old hv, lk_old hl, vtB, rS, gl, sl, f0, zb, sl2, f3, f4, zb2, slC_vals, cl, hc2, lx, c0, c1, c2]
      refine Thn_n ?_
      have hwi : IntKind.i64.wrap ((i:Int)+1) = (i:Int)+1 := wi (by omega)
      refine ⟨i + 1, by omega, by omega, ?_⟩
      try simp only [keepL, setAll, push_cast, simprocAttr, hv, hl, lk_old hv, lk_old hl, vtB, rS, gl, sl, f0, zb, sl2, f3, f4, zb2, slC_vals, cl, hc2, lx, c0, c1, c2, hwi, hnx]
      exact Weak.to (extra := [_]) (by simp only [Keeps, Tm.get_cons, Nat.reduceEqDiff, ↓reduceIte, if_true, if_false, ite_true, ite_false, true_and, and_true, and_self, reduceCtorEq, hwi, hnx]) (by first | rfl | (simp only [List.append_assoc, List.cons_append, List.nil_append]; rfl)) (by first | rfl | (simp [AV.below, CV.below]; done) | (simp [AV.below, CV.below]; omega)) (by
        first | exact hwf | refine MWf.app (hwf.grow (by simp)) ?_
        repeat (first | exact MWf_nil | (refine MWf_cons ?_ ?_; · first | rfl | (simp [CV.below]; done) | (simp [CV.below]; omega))))
  · have hin : i = V.k := by have := of_decide_eq_false h19; omega
    subst hin
    refine AW.exit ?_
    refine Thn_e ?_
    clear hK K
    refine Thn_e ?_
    refine InB_here ?_
    refine Thn_n ?_
    refine hK _ _ ?_
    clear hK K
    refine AW.seq_k fun K hK => ?_
    refine AW.region (by decide) ?_
    simp only [push_cast, simprocAttr, hv, hl, lk_old hv, lk_old hl, vtB, rS, gl, sl, f0, zb, sl2, f3, f4, zb2, slC_vals, cl, hc2]
    refine Thn_n ?_
    refine hK _ _ ?_
    clear hK K
    refine AW.seq_k fun K hK => ?_
    refine AW.seq_k fun K hK => ?_
    refine AW.region (by decide) ?_
    simp only [push_cast, simprocAttr, hv, hl, lk_old hv, lk_old hl, vtB, rS, gl, sl, f0, zb, sl2, f3, f4, zb2, slC_vals, cl, hc2]
    refine CThen.by (taken_c rv rl rd V _ h hf hk) ?_
    simp only [push_cast, simprocAttr, hv, hl, lk_old hv, lk_old hl, vtB, rS, gl, sl, f0, zb, sl2, f3, f4, zb2, slC_vals, cl, hc2]
    refine Thn_n ?_
    refine hK _ _ ?_
    clear hK K
    refine AW.block ?_
    refine AW.loopK [2, 33, 34] (fun (q : Nat × Int × Int) => q.1 ≤ c ∧ 0 ≤ q.2.1 ∧ q.2.1 ≤ 4400000000 ∧ 0 ≤ q.2.2 ∧ q.2.2 ≤ 4400000000 * (q.1 : Int) ∧ usGo V.tg (c - q.1) q.1 q.2.1 q.2.2 = usGo V.tg c 0 V.data 0) (fun (q : Nat × Int × Int) => [(3, .one (.int .i64 q.2.2)), (6, .one (.int .i64 q.2.1)), (35, .one (.int .i64 (q.1 : Int)))]) (fun (q : Nat × Int × Int) => []) (fun (q : Nat × Int × Int) => c - q.1) (0, V.data, 0) ⟨Nat.zero_le _, hd0, by show V.data ≤ _; omega, Int.le_refl _, by show (0 : Int) ≤ 4400000000 * ((0 : Nat) : Int); omega, rfl⟩ ?_ ?_ fun (q : Nat × Int × Int) hi15 => ?_
    · first | rfl | (simp only [Keeps, Tm.get_cons, Nat.reduceEqDiff, ↓reduceIte, if_true, if_false, ite_true, ite_false, true_and, and_true, and_self, reduceCtorEq] <;> repeat' (first | rfl | apply And.intro))
    · first | rfl | (simp only [setAll, push_cast, simprocAttr, hv, hl, lk_old hv, lk_old hl, vtB, rS, gl, sl, f0, zb, sl2, f3, f4, zb2, slC_vals, cl, hc2] <;> rfl)
    obtain ⟨i, p, a⟩ := q
    obtain ⟨i1, i2, i3, i4, i5, i6⟩ := hi15
    simp only at i1 i2 i3 i4 i5 i6
    try simp only [keepL, setAll, push_cast, simprocAttr, hv, hl, lk_old hv, lk_old hl, vtB, rS, gl, sl, f0, zb, sl2, f3, f4, zb2, slC_vals, cl, hc2]
    refine AW.seq_k fun K hK => ?_
    refine AW.region (by decide) ?_
    simp only [push_cast, simprocAttr, hv, hl, lk_old hv, lk_old hl, vtB, rS, gl, sl, f0, zb, sl2, f3, f4, zb2, slC_vals, cl, hc2]
    refine Thn_n ?_
    refine hK _ _ ?_
    clear hK K
    refine AW.seq_k fun K hK => ?_
    refine AW.cond rfl (fun h36 => ?_) (fun h36 => ?_)
    · have hlt : i < c := by have := of_decide_eq_true h36; omega
      have o := gok i
      have o0 := o.f0
      have o1 := o.f1
      have z0 := o.s0
      have z1 := o.s1
      obtain ⟨b0, b1⟩ := needZ_b z0 z1
      have lx := cC_at (n := c) (f := V.tg) gok hlt
      have c0 : (0 : Int) ≤ (i : Int) := by omega
      have c1 : (i : Int) < (c : Int) := by omega
      have c2 : i * 67 + 67 ≤ c * 67 := by omega
      have w2 : IntKind.i64.wrap ((V.tg i).fr + needZ (V.tg i).size) = (V.tg i).fr + needZ (V.tg i).size := wi (by omega)
      have x0 : 0 ≤ maxI p (V.tg i).fr := maxI_0 i2
      have x1 : maxI p (V.tg i).fr ≤ 4400000000 := maxI_b i3 (by omega)
      have w3 : IntKind.i64.wrap ((V.tg i).fr + needZ (V.tg i).size - maxI p (V.tg i).fr) = (V.tg i).fr + needZ (V.tg i).size - maxI p (V.tg i).fr := wi (by omega)
      have y0 : 0 ≤ maxI 0 ((V.tg i).fr + needZ (V.tg i).size - maxI p (V.tg i).fr) := maxI_0 (Int.le_refl _)
      have y1 : maxI 0 ((V.tg i).fr + needZ (V.tg i).size - maxI p (V.tg i).fr) ≤ 4400000000 := maxI_b (by omega) (by omega)
      have w4 : IntKind.i64.wrap (a + maxI 0 ((V.tg i).fr + needZ (V.tg i).size - maxI p (V.tg i).fr)) = a + maxI 0 ((V.tg i).fr + needZ (V.tg i).size - maxI p (V.tg i).fr) := wi (by omega)
      obtain ⟨nx, hnx, hnI, hnmu⟩ : ∃ nx : Nat × Int × Int, nx = (i + 1, maxI p ((V.tg i).fr + needZ (V.tg i).size), a + maxI 0 ((V.tg i).fr + needZ (V.tg i).size - maxI p (V.tg i).fr)) ∧ (nx.1 ≤ c ∧ 0 ≤ nx.2.1 ∧ nx.2.1 ≤ 4400000000 ∧ 0 ≤ nx.2.2 ∧ nx.2.2 ≤ 4400000000 * (nx.1 : Int) ∧ usGo V.tg (c - nx.1) nx.1 nx.2.1 nx.2.2 = usGo V.tg c 0 V.data 0) ∧ c - nx.1 < c - i := ⟨_, rfl, ⟨by show i + 1 ≤ c; omega, maxI_0 i2, maxI_b i3 (by omega), by show 0 ≤ a + maxI 0 _; omega, by show a + maxI 0 _ ≤ 4400000000 * ((i + 1 : Nat) : Int); omega, by rw [← i6, show c - i = (c - (i + 1)) + 1 by omega]; rfl⟩, by show c - (i + 1) < c - i; omega⟩
      refine AW.skip ?_
      refine Thn_n ?_
      refine hK _ _ ?_
      clear hK K
      refine AW.seq_k fun K hK => ?_
      refine AW.block ?_
      refine AW.seq_k fun K hK => ?_
      refine AW.region (by decide) ?_
      simp only [push_cast, simprocAttr, hv, hl, lk_old hv, lk_old hl, vtB, rS, gl, sl, f0, zb, sl2, f3, f4, zb2, slC_vals, cl, hc2, lx, c0, c1, c2, w2, w3, w4]
      refine Thn_n ?_
      refine hK _ _ ?_
      clear hK K
      refine AW.seq_k fun K hK => ?_
      refine AW.draw [.val, .rd 0, .val, .rd 0, .ext, .val, .val] fol (by decide) (by kernel_rfl) ?_
      simp only [push_cast, simprocAttr, hv, hl, lk_old hv, lk_old hl, vtB, rS, gl, sl, f0, zb, sl2, f3, f4, zb2, slC_vals, cl, hc2, lx, c0, c1, c2, w2, w3, w4]
      refine DCall.by0 (need_c (V.tg i).size _ (by omega)) ?_
      simp only [push_cast, simprocAttr, hv, hl, lk_old hv, lk_old hl, vtB, rS, gl, sl, f0, zb, sl2, f3, f4, zb2, slC_vals, cl, hc2, lx, c0, c1, c2, w2, w3, w4]
      refine Thn_n ?_
      refine hK _ _ ?_
      clear hK K
      refine AW.seq_k fun K hK => ?_
      refine AW.region (by decide) ?_
      simp only [push_cast, simprocAttr, hv, hl, lk_old hv, lk_old hl, vtB, rS, gl, sl, f0, zb, sl2, f3, f4, zb2, slC_vals, cl, hc2, lx, c0, c1, c2, w2, w3, w4]
      refine Thn_n ?_
      refine hK _ _ ?_
      clear hK K
      refine AW.region (by decide) ?_
      simp only [push_cast, simprocAttr, hv, hl, lk_old hv, lk_old hl, vtB, rS, gl, sl, f0, zb, sl2, f3, f4, zb2, slC_vals, cl, hc2, lx, c0, c1, c2, w2, w3, w4]
      refine InB_n ?_
      refine Thn_n ?_
      refine hK _ _ ?_
      clear hK K
      refine AW.region (by decide) ?_
      simp only [push_cast, simprocAttr, hv, hl, lk_old hv, lk_old hl, vtB, rS, gl, sl, f0, zb, sl2, f3, f4, zb2, slC_vals, cl, hc2, lx, c0, c1, c2, w2, w3, w4]
      refine Thn_n ?_
      have hwi : IntKind.i64.wrap ((i:Int)+1) = (i:Int)+1 := wi (by omega)
      refine ⟨nx, hnI, hnmu, ?_⟩
      try simp only [keepL, setAll, push_cast, simprocAttr, hv, hl, lk_old hv, lk_old hl, vtB, rS, gl, sl, f0, zb, sl2, f3, f4, zb2, slC_vals, cl, hc2, lx, c0, c1, c2, w2, w3, w4, hnx, hwi]
      exact Weak.to (extra := [_]) (by simp only [Keeps, Tm.get_cons, Nat.reduceEqDiff, ↓reduceIte, if_true, if_false, ite_true, ite_false, true_and, and_true, and_self, reduceCtorEq, hnx, hwi]) (by first | rfl | (simp only [List.append_assoc, List.cons_append, List.nil_append]; rfl)) (by first | rfl | (simp [AV.below, CV.below]; done) | (simp [AV.below, CV.below]; omega)) (by first | exact hwf | exact MWf.app (hwf.grow (by simp)) (MWf_one (cC_below _ _ _)))
    · have hin : c = i := by have := of_decide_eq_false h36; omega
      have hfin : usGo V.tg c 0 V.data 0 = a := by rw [← i6, hin, Nat.sub_self]; rfl
      refine AW.exit ?_
      refine Thn_e ?_
      clear hK K
      refine Thn_e ?_
      refine InB_here ?_
      refine Thn_n ?_
      refine hK _ _ ?_
      clear hK K
      refine AW.seq_k fun K hK => ?_
      refine AW.region (by decide) ?_
      simp only [push_cast, simprocAttr, hv, hl, lk_old hv, lk_old hl, vtB, rS, gl, sl, f0, zb, sl2, f3, f4, zb2, slC_vals, cl, hc2, hfin]
      refine Thn_n ?_
      refine hK _ _ ?_
      clear hK K
      refine AW.ret ?_
      refine hQ _ _ _ ?_
      first | refine RetP.drop0 (Or.inr rfl) ?_ ?_ hwf | refine RetP.drop (Or.inr rfl) ?_ ?_ hwf
      · simp only [resA, resOne, resTv, AV.tv, push_cast, simprocAttr, hv, hl, lk_old hv, lk_old hl, vtB, rS, gl, sl, f0, zb, sl2, f3, f4, zb2, slC_vals, cl, hc2, hfin]
      · rfl
end Go.Proofs.Ytdkfbbjpblfclaa

set_option linter.unusedSimpArgs false
set_option linter.unusedVariables false
set_option maxRecDepth 100000
set_option maxHeartbeats 4000000
namespace Go.Proofs.Ytdkfbbjpblfclaa
open Go Go.Eng

/-- A device whose power doesn't go. -/
structure Liv (n : Nat) (D : DS) : Prop where
  f : D.fuse = -1
  d : D.down = false
  w : WfD n D
theorem Liv.z {n : Nat} {D : DS} (h : Liv n D) : ¬ D.fuse = 0 := by rw [h.f]; decide
theorem spD_liv {n : Nat} {D : DS} (h : Liv n D) : (spD D).fuse = -1 ∧ (spD D).down = false := by
  unfold spD
  rw [if_neg h.z]
  exact ⟨by show (if 0 < D.fuse then _ else D.fuse) = -1; rw [if_neg (by rw [h.f]; decide)]; exact h.f, h.d⟩
theorem Liv.wr {n : Nat} {D : DS} (h : Liv n D) {k : Nat} {v : List Int} (hk : k < n) (hv : v.length = 128) : wrS D k v = (wrD D (k : Int) v, 0) ∧ Liv n (wrD D (k : Int) v) :=
  ⟨if_neg h.z, (spD_liv h).1, (spD_liv h).2, wrD_wf h.w (by omega) (by omega) hv⟩
theorem Liv.sy {n : Nat} {D : DS} (h : Liv n D) : syS D = (syD D, 0) ∧ Liv n (syD D) := ⟨if_neg h.z, (spD_liv h).1, (spD_liv h).2, syD_wf h.w⟩
theorem Liv.lay {n k : Nat} {bl : Nat → List Int} (hb : ∀ i, (bl i).length = 128) : ∀ (r i : Nat) (D : DS), Liv n D → k + i + r ≤ n → (layS k bl r i D).2 = 0 ∧ Liv n (layS k bl r i D).1
  | 0, i, D, h, _ => by
    show (syS D).2 = 0 ∧ Liv n (syS D).1
    rw [h.sy.1]; exact ⟨rfl, h.sy.2⟩
  | r + 1, i, D, h, hk => by
    unfold layS
    rw [if_neg h.z]
    exact Liv.lay hb r (i + 1) _ (h.wr (by omega) (hb i)).2 (by omega)
theorem Liv.d0 (n : Nat) : Liv n D0 := ⟨rfl, rfl, d0_wf n⟩
/-- The slot is written. -/
def wsD (D : DS) (fr : Nat) (s : SL) : DS := syD (wrD D (fr : Int) (encB s))
theorem Liv.ws {n : Nat} {D : DS} (h : Liv n D) {V : VS} {fr : Nat} {s : SL} (hf : fr < n) (hs : WfS s) : wsS V D fr s = ({ V with f := upF V.f fr s }, wsD D fr s, 0) ∧ Liv n (wsD D fr s) := by
  have h1 := h.wr hf (encB_len hs)
  have h2 := h1.2.sy
  unfold wsS
  rw [h1.1]
  dsimp only
  rw [h2.1]
  exact ⟨rfl, h2.2⟩
theorem fnd_none {p : SL → Bool} {f : Nat → SL} : ∀ {k : Nat}, (∀ i, i < k → p (f i) = false) → fnd p f k = -1
  | 0, _ => rfl
  | k + 1, h => by
    have ih := fnd_none (p := p) (f := f) (k := k) fun i hi => h i (by omega)
    show (if 0 ≤ fnd p f k then fnd p f k else if p (f k) = true then (k : Int) else -1) = -1
    rw [ih, if_neg (by decide), if_neg (by rw [h k (by omega)]; decide)]
theorem fnd_first {p : SL → Bool} {f : Nat → SL} {i k : Nat} (hi : i < k) (h : p (f i) = true) (hb : ∀ j, j < i → p (f j) = false) : fnd p f k = (i : Int) :=
  fnd_hit (by rw [fnd_none hb]; decide) h hi
def V0 (k : Nat) : VS := ⟨k, fun _ => zS, (k : Int), 0⟩
theorem good0 (n k : Nat) : Good D0 n k (fun _ => zS) := ⟨fun _ => zS_ok, fun i _ => .inl ⟨rfl, rfl⟩, fun i j _ _ h => absurd rfl h, fun _ _ => rfl⟩
theorem zB_ok : U8ok zB := fun x hx => by
  rw [List.eq_of_mem_replicate hx]; omega
theorem d0_ok : ∀ i, U8ok (vis D0.S D0.E i) := fun _ => zB_ok
def kyL (x : Int) : List Int := (x % 9) :: 7 :: List.replicate 30 0
/-- A device and its vault, side by side, newly made. -/
theorem fresh_b (m : AMem) (n : Nat) (V : VS) (D : DS) (L : AMem) : HasB (m ++ rowD n D :: mapD D :: drB m.length (m.length + 1) n D :: rS 0 V.k V.f :: vtB (m.length + 2) (m.length + 3) V :: L) (m.length + 4) (m.length + 3) (m.length + 2) m.length (m.length + 1) n V D :=
  ⟨⟨by rw [lk_app]; rfl, by rw [lk_app]; rfl⟩, ⟨by rw [lk_app]; rfl, by rw [lk_app0]; rfl, by rw [lk_app]; rfl⟩⟩
theorem fresh_set (m : AMem) (n : Nat) (V V' : VS) (D D' : DS) (L : AMem) : setB (m ++ rowD n D :: mapD D :: drB m.length (m.length + 1) n D :: rS 0 V.k V.f :: vtB (m.length + 2) (m.length + 3) V :: L) (m.length + 4) (m.length + 3) (m.length + 2) m.length (m.length + 1) n V' D' = m ++ rowD n D' :: mapD D' :: drB m.length (m.length + 1) n D' :: rS 0 V'.k V'.f :: vtB (m.length + 2) (m.length + 3) V' :: L := by
  unfold setB setV setD
  rw [set_app, set_app, set_app, set_app0, set_app]
  rfl
theorem put_dup (rv rl rd rs rm n : Nat) (V : VS) (D : DS) (m : AMem) (hB : HasB m rv rl rd rs rm n V D) (hf : ∀ i, OkS (V.f i)) (hk : V.k ≤ 512) (h0 : V.dead = 0) (kind : Int) (hkd : kind = 1 ∨ kind = 2) (key : List Int) (hkey : key.length = 32) (rp vp len : Nat) (bs : List Int) (hp : ∃ kk ez, m[rp]? = some ⟨kk, 5, vp, ez, u8l bs⟩) (hlen : bs.length = len) (hl2 : len ≤ 262144) (ho : U8ok bs) (hL : Liv n D) (hn : n ≤ 8192) (hd0 : 0 ≤ V.data) (hd1 : V.data ≤ 512) (hmiss : fnd (fdB key) V.f V.k < 0) (hkn : V.k ≤ n) (fr : Nat) (hfr : fnd (fun s => s.kind == 0) V.f V.k = (fr : Int)) (k : Nat) (hpl : plZ V n (shaL bs) (len : Int) = (k : Int)) (hk8 : k ≤ 8192) (hlb : plB V (shaL bs) (len : Int) = true) : Ctr Try.prog 10 [.one (.ptr rv 0 0), .one (.int .i64 kind), .agg (u8l key), .one (.sl rp vp 0 len)] m (.one (.int .i64 0)) (setB m rv rl rd rs rm n { V with f := upF V.f fr ⟨kind, key, shaL bs, (len : Int), (k : Int)⟩ } (wsD D fr ⟨kind, key, shaL bs, (len : Int), (k : Int)⟩)) := by
  have h := put_L rv rl rd rs rm n V D m hB hf hk h0 kind hkd key hkey rp vp len bs hp hlen hl2 ho hL.w hL.d hn hd0 hd1 hmiss hkn fr hfr k hpl hk8 hlb
  have hfn : fr < n := by
    obtain ⟨i, h1, h2, _⟩ := fnd_pos (p := fun s => s.kind == 0) (f := V.f) (k := V.k) (by omega)
    omega
  have sw : WfS ⟨kind, key, shaL bs, (len : Int), (k : Int)⟩ := ⟨hkey, shaL_len bs⟩
  rw [(hL.ws hfn sw).1] at h
  exact h
theorem put_new (rv rl rd rs rm n : Nat) (V : VS) (D : DS) (m : AMem) (hB : HasB m rv rl rd rs rm n V D) (hf : ∀ i, OkS (V.f i)) (hk : V.k ≤ 512) (h0 : V.dead = 0) (kind : Int) (hkd : kind = 1 ∨ kind = 2) (key : List Int) (hkey : key.length = 32) (rp vp len : Nat) (bs : List Int) (hp : ∃ kk ez, m[rp]? = some ⟨kk, 5, vp, ez, u8l bs⟩) (hlen : bs.length = len) (hl2 : len ≤ 262144) (ho : U8ok bs) (hL : Liv n D) (hn : n ≤ 8192) (hd0 : 0 ≤ V.data) (hd1 : V.data ≤ 512) (hmiss : fnd (fdB key) V.f V.k < 0) (hkn : V.k ≤ n) (fr : Nat) (hfr : fnd (fun s => s.kind == 0) V.f V.k = (fr : Int)) (k : Nat) (hpl : plZ V n (shaL bs) (len : Int) = (k : Int)) (hk8 : k ≤ 8192) (hlb : plB V (shaL bs) (len : Int) = false) (N : Nat) (hN : (N : Int) = needZ (len : Int)) (hkN : k + N ≤ n) : Ctr Try.prog 10 [.one (.ptr rv 0 0), .one (.int .i64 kind), .agg (u8l key), .one (.sl rp vp 0 len)] m (.one (.int .i64 0)) (setB m rv rl rd rs rm n { V with f := upF V.f fr ⟨kind, key, shaL bs, (len : Int), (k : Int)⟩ } (wsD (layS k (chB bs) N 0 D).1 fr ⟨kind, key, shaL bs, (len : Int), (k : Int)⟩)) := by
  have h := put_U rv rl rd rs rm n V D m hB hf hk h0 kind hkd key hkey rp vp len bs hp hlen hl2 ho hL.w hL.d hn hd0 hd1 hmiss hkn fr hfr k hpl hk8 hlb N hN hkN
  have hfn : fr < n := by
    obtain ⟨i, h1, h2, _⟩ := fnd_pos (p := fun s => s.kind == 0) (f := V.f) (k := V.k) (by omega)
    omega
  have sw : WfS ⟨kind, key, shaL bs, (len : Int), (k : Int)⟩ := ⟨hkey, shaL_len bs⟩
  have hl := Liv.lay (n := n) (k := k) (bl := chB bs) (fun i => padB_len _) N 0 D hL (by omega)
  rw [if_neg (by rw [hl.1]; decide), (hl.2.ws hfn sw).1] at h
  exact h
theorem key_c (x : Int) (m : AMem) (h0 : 0 ≤ x) (h1 : x ≤ 255) : Ctr Try.prog 16 [.one (.int .u8 x)] m (.agg (u8l (kyL x))) m := by
  refine Ctr.enter Try.func16 rfl (by decide) (rs := [.cell 2 37]) (nt := 6) rfl rfl fun hwf Q hQ => ?_
  have w : x.tmod 9 = x % 9 := Int.tmod_eq_emod_of_nonneg h0
  have e : u8l (kyL x) = [CV.int .u8 (x % 9), CV.int .u8 7, CV.int .u8 0, CV.int .u8 0, CV.int .u8 0, CV.int .u8 0, CV.int .u8 0, CV.int .u8 0, CV.int .u8 0, CV.int .u8 0, CV.int .u8 0, CV.int .u8 0, CV.int .u8 0, CV.int .u8 0, CV.int .u8 0, CV.int .u8 0, CV.int .u8 0, CV.int .u8 0, CV.int .u8 0, CV.int .u8 0, CV.int .u8 0, CV.int .u8 0, CV.int .u8 0, CV.int .u8 0, CV.int .u8 0, CV.int .u8 0, CV.int .u8 0, CV.int .u8 0, CV.int .u8 0, CV.int .u8 0, CV.int .u8 0, CV.int .u8 0] := rfl
  rw [e] at hQ
  iterate 2
    refine AW.seq_k fun K hK => ?_
    refine AW.region (by decide) ?_
    simp only [push_cast, simprocAttr, w]
    refine Thn_n ?_
    refine hK _ _ ?_
    clear hK K
  refine AW.ret ?_
  refine hQ _ _ _ ?_
  first | refine RetP.drop0 (Or.inr rfl) ?_ ?_ hwf | refine RetP.drop (Or.inr rfl) ?_ ?_ hwf
  · simp only [resA, resOne, resTv, AV.tv, push_cast, simprocAttr, w]
  · rfl
end Go.Proofs.Ytdkfbbjpblfclaa

set_option linter.unusedSimpArgs false
set_option linter.unusedVariables false
set_option maxRecDepth 100000
set_option maxHeartbeats 4000000
namespace Go.Proofs.Ytdkfbbjpblfclaa
open Go Go.Eng

def zr (n : Nat) : List Int := List.replicate n 0
theorem zr_ok (n : Nat) : U8ok (zr n) := fun x hx => by rw [List.eq_of_mem_replicate hx]; omega
def aS1 : SL := ⟨2, kyL 1, shaL (zr 129), 129, 10⟩
def aS2 : SL := ⟨2, kyL 2, shaL (zr 129), 129, 10⟩
def aV1 : VS := { V0 10 with f := upF (V0 10).f 0 aS1 }
def aV2 : VS := { aV1 with f := upF aV1.f 1 aS2 }
theorem aS1_ok : OkS aS1 := ⟨⟨rfl, shaL_len _⟩, by decide, by decide, by decide, by decide⟩
theorem aS2_ok : OkS aS2 := ⟨⟨rfl, shaL_len _⟩, by decide, by decide, by decide, by decide⟩
theorem aV1_ok : ∀ i, OkS (aV1.f i) := upF_ok (fun _ => zS_ok) aS1_ok 0
theorem aV2_ok : ∀ i, OkS (aV2.f i) := upF_ok aV1_ok aS2_ok 1
theorem v0_find (key : List Int) : fnd (fdB key) (V0 10).f (V0 10).k < 0 := by rw [fnd_none fun i _ => rfl]; decide
theorem v0_free : fnd (fun s => s.kind == 0) (V0 10).f (V0 10).k = ((0 : Nat) : Int) := fnd_first (by decide) rfl fun j h => by omega
theorem tk0 (k : Nat) : tkL (fun _ => zS) k = [] := by
  induction k with
  | zero => rfl
  | succ k ih => unfold tkL; rw [ih]; rfl
theorem v0_tk (k : Nat) : (V0 k).tk = [] := tk0 k
theorem v0_plB (k : Nat) (sum : List Int) (size : Int) : plB (V0 k) sum size = false := by
  unfold plB; rw [fnd_none fun i _ => rfl]; rfl
theorem v0_pl (k n : Nat) (sum : List Int) (size : Int) (h : needZ size ≤ (n : Int) - (k : Int)) : plZ (V0 k) n sum size = (k : Int) := by
  unfold plZ
  rw [if_neg (by rw [fnd_none fun i _ => rfl]; decide), v0_tk]
  show (if (n : Int) - (k : Int) < needZ size then -1 else (k : Int)) = (k : Int)
  rw [if_neg (by omega)]
theorem v1_find : fnd (fdB (kyL 2)) aV1.f aV1.k < 0 := by
  rw [fnd_none fun i _ => ?_]; decide
  show fdB (kyL 2) (if i = 0 then aS1 else zS) = false
  split
  · decide
  · rfl
theorem v1_free : fnd (fun s => s.kind == 0) aV1.f aV1.k = ((1 : Nat) : Int) := fnd_first (by decide) rfl fun j h => by
  obtain rfl : j = 0 := by omega
  rfl
theorem v1_hit : fnd (pcB (shaL (zr 129)) 129) aV1.f aV1.k = ((0 : Nat) : Int) := fnd_first (by decide) (by
  show pcB (shaL (zr 129)) 129 aS1 = true
  simp [pcB, aS1]) fun j h => by omega
theorem v1_plB : plB aV1 (shaL (zr 129)) 129 = true := by unfold plB; rw [v1_hit]; rfl
theorem v1_pl : plZ aV1 40 (shaL (zr 129)) 129 = ((10 : Nat) : Int) := by
  unfold plZ; rw [v1_hit]; rfl
theorem v2_cnt : cntF aV2.f aV2.k = 2 := rfl
theorem v2_tk : aV2.tk = [aS1, aS2] := rfl
theorem v2_us : aV2.us = 2 := by
  have hp := (tg_spec (V := aV2) aV2_ok (by decide)).2
  have hl : aV2.tk.length = 2 := rfl
  have ha : ∀ i, i < 2 → (aV2.tg i).fr = 10 ∧ (aV2.tg i).size = 129 := fun i hi => by
    obtain ⟨y, h1, h2, h3⟩ := hp.src (x := i) ⟨Nat.zero_le _, by rw [hl]; exact hi⟩
    rw [h3, v2_tk]
    rw [hl] at h2
    have : y = 0 ∨ y = 1 := by omega
    rcases this with rfl | rfl <;> exact ⟨rfl, rfl⟩
  obtain ⟨a0, b0⟩ := ha 0 (by decide)
  obtain ⟨a1, b1⟩ := ha 1 (by decide)
  unfold VS.us
  rw [hl]
  simp only [usGo, a0, b0, a1, b1]
  decide
theorem l129 : (zr 129).length = 129 := rfl
theorem awk1 (m L : AMem) : Ctr Try.prog 10 [.one (.ptr (m.length + 4) 0 0), .one (.int .i64 2), .agg (u8l (kyL 1)), .one (.sl (m.length + 5) 0 0 129)] (m ++ rowD 40 D0 :: mapD D0 :: drB m.length (m.length + 1) 40 D0 :: rS 0 (V0 10).k (V0 10).f :: vtB (m.length + 2) (m.length + 3) (V0 10) :: ⟨.grow, 5, 0, 1, u8l (zr 129)⟩ :: L) (.one (.int .i64 0)) (m ++ rowD 40 (wsD (layS 10 (chB (zr 129)) 2 0 D0).1 0 aS1) :: mapD (wsD (layS 10 (chB (zr 129)) 2 0 D0).1 0 aS1) :: drB m.length (m.length + 1) 40 (wsD (layS 10 (chB (zr 129)) 2 0 D0).1 0 aS1) :: rS 0 (aV1).k (aV1).f :: vtB (m.length + 2) (m.length + 3) (aV1) :: ⟨.grow, 5, 0, 1, u8l (zr 129)⟩ :: L) := by
  have hB := fresh_b m 40 (V0 10) D0 (⟨.grow, 5, 0, 1, u8l (zr 129)⟩ :: L)
  have h := put_new (m.length + 4) (m.length + 3) (m.length + 2) m.length (m.length + 1) 40 (V0 10) D0 _ hB (fun _ => zS_ok) (by decide) rfl 2 (.inr rfl) (kyL 1) rfl (m.length + 5) 0 129 (zr 129) ⟨.grow, 1, by rw [lk_app]; rfl⟩ l129 (by decide) (zr_ok _) (Liv.d0 40) (by decide) (by decide) (by decide) (v0_find _) (by decide) 0 v0_free 10 (v0_pl 10 40 _ _ (by decide)) (by decide) (v0_plB 10 _ _) 2 (by decide) (by decide)
  rw [fresh_set] at h
  exact h
theorem awk2 (m L : AMem) (D : DS) (hL : Liv 40 D) : Ctr Try.prog 10 [.one (.ptr (m.length + 4) 0 0), .one (.int .i64 2), .agg (u8l (kyL 2)), .one (.sl (m.length + 6) 0 0 129)] (m ++ rowD 40 D :: mapD D :: drB m.length (m.length + 1) 40 D :: rS 0 (aV1).k (aV1).f :: vtB (m.length + 2) (m.length + 3) (aV1) :: ⟨.grow, 5, 0, 1, u8l (zr 129)⟩ :: ⟨.grow, 5, 0, 1, u8l (zr 129)⟩ :: L) (.one (.int .i64 0)) (m ++ rowD 40 (wsD D 1 aS2) :: mapD (wsD D 1 aS2) :: drB m.length (m.length + 1) 40 (wsD D 1 aS2) :: rS 0 (aV2).k (aV2).f :: vtB (m.length + 2) (m.length + 3) (aV2) :: ⟨.grow, 5, 0, 1, u8l (zr 129)⟩ :: ⟨.grow, 5, 0, 1, u8l (zr 129)⟩ :: L) := by
  have hB := fresh_b m 40 aV1 D (⟨.grow, 5, 0, 1, u8l (zr 129)⟩ :: ⟨.grow, 5, 0, 1, u8l (zr 129)⟩ :: L)
  have h := put_dup (m.length + 4) (m.length + 3) (m.length + 2) m.length (m.length + 1) 40 aV1 D _ hB aV1_ok (by decide) rfl 2 (.inr rfl) (kyL 2) rfl (m.length + 6) 0 129 (zr 129) ⟨.grow, 1, by rw [lk_app]; rfl⟩ l129 (by decide) (zr_ok _) hL (by decide) (by decide) (by decide) v1_find (by decide) 1 v1_free 10 v1_pl (by decide) v1_plB
  rw [fresh_set] at h
  exact h
theorem awake_c (m : AMem) : Ctr Try.prog 8 [] m (.one (.bool true)) m := by
  refine Ctr.enter Try.func8 rfl (by decide) (rs := [.tmp 0]) (nt := 51) rfl rfl fun hwf Q hQ => ?_
  have ez : [CV.int .u8 0, CV.int .u8 0, CV.int .u8 0, CV.int .u8 0, CV.int .u8 0, CV.int .u8 0, CV.int .u8 0, CV.int .u8 0, CV.int .u8 0, CV.int .u8 0, CV.int .u8 0, CV.int .u8 0, CV.int .u8 0, CV.int .u8 0, CV.int .u8 0, CV.int .u8 0, CV.int .u8 0, CV.int .u8 0, CV.int .u8 0, CV.int .u8 0, CV.int .u8 0, CV.int .u8 0, CV.int .u8 0, CV.int .u8 0, CV.int .u8 0, CV.int .u8 0, CV.int .u8 0, CV.int .u8 0, CV.int .u8 0, CV.int .u8 0, CV.int .u8 0, CV.int .u8 0, CV.int .u8 0, CV.int .u8 0, CV.int .u8 0, CV.int .u8 0, CV.int .u8 0, CV.int .u8 0, CV.int .u8 0, CV.int .u8 0, CV.int .u8 0, CV.int .u8 0, CV.int .u8 0, CV.int .u8 0, CV.int .u8 0, CV.int .u8 0, CV.int .u8 0, CV.int .u8 0, CV.int .u8 0, CV.int .u8 0, CV.int .u8 0, CV.int .u8 0, CV.int .u8 0, CV.int .u8 0, CV.int .u8 0, CV.int .u8 0, CV.int .u8 0, CV.int .u8 0, CV.int .u8 0, CV.int .u8 0, CV.int .u8 0, CV.int .u8 0, CV.int .u8 0, CV.int .u8 0, CV.int .u8 0, CV.int .u8 0, CV.int .u8 0, CV.int .u8 0, CV.int .u8 0, CV.int .u8 0, CV.int .u8 0, CV.int .u8 0, CV.int .u8 0, CV.int .u8 0, CV.int .u8 0, CV.int .u8 0, CV.int .u8 0, CV.int .u8 0, CV.int .u8 0, CV.int .u8 0, CV.int .u8 0, CV.int .u8 0, CV.int .u8 0, CV.int .u8 0, CV.int .u8 0, CV.int .u8 0, CV.int .u8 0, CV.int .u8 0, CV.int .u8 0, CV.int .u8 0, CV.int .u8 0, CV.int .u8 0, CV.int .u8 0, CV.int .u8 0, CV.int .u8 0, CV.int .u8 0, CV.int .u8 0, CV.int .u8 0, CV.int .u8 0, CV.int .u8 0, CV.int .u8 0, CV.int .u8 0, CV.int .u8 0, CV.int .u8 0, CV.int .u8 0, CV.int .u8 0, CV.int .u8 0, CV.int .u8 0, CV.int .u8 0, CV.int .u8 0, CV.int .u8 0, CV.int .u8 0, CV.int .u8 0, CV.int .u8 0, CV.int .u8 0, CV.int .u8 0, CV.int .u8 0, CV.int .u8 0, CV.int .u8 0, CV.int .u8 0, CV.int .u8 0, CV.int .u8 0, CV.int .u8 0, CV.int .u8 0, CV.int .u8 0, CV.int .u8 0, CV.int .u8 0, CV.int .u8 0, CV.int .u8 0] = u8l (zr 129) := rfl
  have sl8 : slotsZ 8 = 2 := by decide
  have c2 := v2_cnt
  have u2 := v2_us
  have hL1 : Liv 40 (wsD (layS 10 (chB (zr 129)) 2 0 D0).1 0 aS1) := ((Liv.lay (n := 40) (k := 10) (bl := chB (zr 129)) (fun i => padB_len _) 2 0 D0 (Liv.d0 40) (by decide)).2.ws (V := V0 10) (fr := 0) (s := aS1) (by decide) aS1_ok.w).2
  
  refine AW.seq_k fun K hK => ?_
  refine AW.region (by decide) ?_
  simp only [push_cast, simprocAttr, c2, u2, sl8, ez]
  refine Thn_n ?_
  refine hK _ _ ?_
  clear hK K
  refine AW.seq_k fun K hK => ?_
  refine AW.region (by decide) ?_
  simp only [push_cast, simprocAttr, c2, u2, sl8, ez]
  refine CThen.by (dnew_c 40 _ (by decide) (by decide)) ?_
  simp only [push_cast, simprocAttr, c2, u2, sl8, ez]
  refine Thn_n ?_
  refine hK _ _ ?_
  clear hK K
  refine AW.seq_k fun K hK => ?_
  refine AW.region (by decide) ?_
  simp only [push_cast, simprocAttr, c2, u2, sl8, ez]
  refine CThen.by (open_c (m.length + 2) m.length (m.length + 1) 40 10 D0 (fun _ => zS) _ ⟨by rw [lk_app]; rfl, by rw [lk_app0]; rfl, by rw [lk_app]; rfl⟩ (d0_wf 40) rfl (by decide) (by decide) d0_ok (good0 40 10)) ?_
  simp only [push_cast, simprocAttr, c2, u2, sl8, ez]
  refine Thn_n ?_
  refine hK _ _ ?_
  clear hK K
  refine AW.seq_k fun K hK => ?_
  refine AW.seq_k fun K hK => ?_
  refine AW.drawX fol (by kernel_rfl) ?_
  refine DX.split 8 9 (by decide) ?_ ?_
  focus
    refine DX.split 15 16 (by decide) ?_ ?_
    focus
      refine DX.run [0, 1, 2, 3, 4, 5, 6, 7, 8, 9, 10, 11, 12, 13, 14, 15, 16, 17, 18, 19] [.val, .val, .val, .val, .val, .val, .val, .val, .ext, .ext, .wr, .val, .val, .val, .val, .ext, .ext, .wr, .val, .val] (by simp only [permL, reOp, List.idxOf_cons, push_cast, simprocAttr, c2, u2, sl8, ez]; first | done | rfl) (by kernel_rfl) ?_
      simp only [push_cast, simprocAttr, c2, u2, sl8, ez]
      refine DCall.by0 (key_c 1 _ (by decide) (by decide)) ?_
      simp only [push_cast, simprocAttr, c2, u2, sl8, ez]
      refine DExt.by (by first | rfl | exact (List.append_nil _).symm | (simp only [List.append_assoc, List.cons_append, List.nil_append]; rfl)) ?_
      simp only [push_cast, simprocAttr, c2, u2, sl8, ez]
      refine DCallW.by (awk1 m []) ?_
      simp only [push_cast, simprocAttr, c2, u2, sl8, ez]
      refine DCall.by0 (key_c 2 _ (by decide) (by decide)) ?_
      simp only [push_cast, simprocAttr, c2, u2, sl8, ez]
      refine DExt.by (by first | rfl | exact (List.append_nil _).symm | (simp only [List.append_assoc, List.cons_append, List.nil_append]; rfl)) ?_
      simp only [push_cast, simprocAttr, c2, u2, sl8, ez]
      refine DCallW.by (awk2 m [] _ hL1) ?_
      simp only [push_cast, simprocAttr, c2, u2, sl8, ez]
      skip
    rotate_left 1
    focus
      refine DX.run [0, 1, 2, 3, 4, 5, 6, 7, 8, 9, 10, 11, 12, 13, 14, 16, 15, 17, 18, 19] [.val, .val, .val, .val, .val, .val, .val, .val, .ext, .ext, .wr, .val, .val, .val, .val, .ext, .ext, .wr, .val, .val] (by simp only [permL, reOp, List.idxOf_cons, push_cast, simprocAttr, c2, u2, sl8, ez]; first | done | rfl) (by kernel_rfl) ?_
      simp only [push_cast, simprocAttr, c2, u2, sl8, ez]
      refine DCall.by0 (key_c 1 _ (by decide) (by decide)) ?_
      simp only [push_cast, simprocAttr, c2, u2, sl8, ez]
      refine DExt.by (by first | rfl | exact (List.append_nil _).symm | (simp only [List.append_assoc, List.cons_append, List.nil_append]; rfl)) ?_
      simp only [push_cast, simprocAttr, c2, u2, sl8, ez]
      refine DCallW.by (awk1 m []) ?_
      simp only [push_cast, simprocAttr, c2, u2, sl8, ez]
      refine DExt.by (by first | rfl | exact (List.append_nil _).symm | (simp only [List.append_assoc, List.cons_append, List.nil_append]; rfl)) ?_
      simp only [push_cast, simprocAttr, c2, u2, sl8, ez]
      refine DCall.by0 (key_c 2 _ (by decide) (by decide)) ?_
      simp only [push_cast, simprocAttr, c2, u2, sl8, ez]
      refine DCallW.by (awk2 m [] _ hL1) ?_
      simp only [push_cast, simprocAttr, c2, u2, sl8, ez]
      skip
    rotate_left 1
  rotate_left 2
  focus
    refine DX.split 15 16 (by decide) ?_ ?_
    focus
      refine DX.run [0, 1, 2, 3, 4, 5, 6, 7, 9, 8, 10, 11, 12, 13, 14, 15, 16, 17, 18, 19] [.val, .val, .val, .val, .val, .val, .val, .val, .ext, .ext, .wr, .val, .val, .val, .val, .ext, .ext, .wr, .val, .val] (by simp only [permL, reOp, List.idxOf_cons, push_cast, simprocAttr, c2, u2, sl8, ez]; first | done | rfl) (by kernel_rfl) ?_
      simp only [push_cast, simprocAttr, c2, u2, sl8, ez]
      refine DExt.by (by first | rfl | exact (List.append_nil _).symm | (simp only [List.append_assoc, List.cons_append, List.nil_append]; rfl)) ?_
      simp only [push_cast, simprocAttr, c2, u2, sl8, ez]
      refine DCall.by0 (key_c 1 _ (by decide) (by decide)) ?_
      simp only [push_cast, simprocAttr, c2, u2, sl8, ez]
      refine DCallW.by (awk1 m []) ?_
      simp only [push_cast, simprocAttr, c2, u2, sl8, ez]
      refine DCall.by0 (key_c 2 _ (by decide) (by decide)) ?_
      simp only [push_cast, simprocAttr, c2, u2, sl8, ez]
      refine DExt.by (by first | rfl | exact (List.append_nil _).symm | (simp only [List.append_assoc, List.cons_append, List.nil_append]; rfl)) ?_
      simp only [push_cast, simprocAttr, c2, u2, sl8, ez]
      refine DCallW.by (awk2 m [] _ hL1) ?_
      simp only [push_cast, simprocAttr, c2, u2, sl8, ez]
      skip
    rotate_left 1
    focus
      refine DX.run [0, 1, 2, 3, 4, 5, 6, 7, 9, 8, 10, 11, 12, 13, 14, 16, 15, 17, 18, 19] [.val, .val, .val, .val, .val, .val, .val, .val, .ext, .ext, .wr, .val, .val, .val, .val, .ext, .ext, .wr, .val, .val] (by simp only [permL, reOp, List.idxOf_cons, push_cast, simprocAttr, c2, u2, sl8, ez]; first | done | rfl) (by kernel_rfl) ?_
      simp only [push_cast, simprocAttr, c2, u2, sl8, ez]
      refine DExt.by (by first | rfl | exact (List.append_nil _).symm | (simp only [List.append_assoc, List.cons_append, List.nil_append]; rfl)) ?_
      simp only [push_cast, simprocAttr, c2, u2, sl8, ez]
      refine DCall.by0 (key_c 1 _ (by decide) (by decide)) ?_
      simp only [push_cast, simprocAttr, c2, u2, sl8, ez]
      refine DCallW.by (awk1 m []) ?_
      simp only [push_cast, simprocAttr, c2, u2, sl8, ez]
      refine DExt.by (by first | rfl | exact (List.append_nil _).symm | (simp only [List.append_assoc, List.cons_append, List.nil_append]; rfl)) ?_
      simp only [push_cast, simprocAttr, c2, u2, sl8, ez]
      refine DCall.by0 (key_c 2 _ (by decide) (by decide)) ?_
      simp only [push_cast, simprocAttr, c2, u2, sl8, ez]
      refine DCallW.by (awk2 m [] _ hL1) ?_
      simp only [push_cast, simprocAttr, c2, u2, sl8, ez]
      skip
    rotate_left 1
  rotate_left 2
  all_goals (
  refine Thn_n ?_
  refine hK _ _ ?_
  clear hK K
  refine AW.cond_f rfl ?_
  refine AW.skip ?_
  refine Thn_n ?_
  refine hK _ _ ?_
  clear hK K
  refine AW.seq_k fun K hK => ?_
  refine AW.region (by decide) ?_
  simp only [push_cast, simprocAttr, c2, u2, sl8, ez]
  refine CThen.by (used_c (m.length + 4) (m.length + 3) (m.length + 2) aV2 _ ⟨by rw [lk_app]; rfl, by rw [lk_app]; rfl⟩ aV2_ok (by decide) rfl (by decide) (by decide)) ?_
  simp only [push_cast, simprocAttr, c2, u2, sl8, ez]
  refine Thn_n ?_
  refine hK _ _ ?_
  clear hK K
  refine AW.seq_k fun K hK => ?_
  refine AW.region (by decide) ?_
  simp only [push_cast, simprocAttr, c2, u2, sl8, ez]
  refine CThen.by (slots_c 8 _ (by decide) (by decide)) ?_
  simp only [push_cast, simprocAttr, c2, u2, sl8, ez]
  refine Thn_n ?_
  refine hK _ _ ?_
  clear hK K
  refine AW.ret ?_
  refine hQ _ _ _ ?_
  first | refine RetP.drop0 (Or.inr rfl) ?_ ?_ hwf | refine RetP.drop (Or.inr rfl) ?_ ?_ hwf
  · simp only [resA, resOne, resTv, AV.tv, push_cast, simprocAttr, c2, u2, sl8, ez]
  · rfl
  )
end Go.Proofs.Ytdkfbbjpblfclaa

set_option linter.unusedSimpArgs false
set_option linter.unusedVariables false
set_option maxRecDepth 100000
set_option maxHeartbeats 4000000
namespace Go.Proofs.Ytdkfbbjpblfclaa
open Go Go.Eng

end Go.Proofs.Ytdkfbbjpblfclaa

set_option linter.unusedSimpArgs false
set_option linter.unusedVariables false
set_option maxRecDepth 100000
set_option maxHeartbeats 4000000
namespace Go.Proofs.Ytdkfbbjpblfclaa
open Go Go.Eng

/-- Bytes as a text. -/
theorem strB_go : ∀ (xs : List Int) (b : ByteArray), (xs.foldl (fun r n => r.push (UInt8.ofNat n.toNat)) b).data.toList = b.data.toList ++ xs.map (fun n => UInt8.ofNat n.toNat)
  | [], b => by simp
  | x :: xs, b => by
    rw [List.foldl_cons, strB_go xs]
    simp
theorem strB_data (xs : List Int) : (strB xs).data.toList = xs.map (fun n => UInt8.ofNat n.toNat) := by
  unfold strB; rw [strB_go]; rfl
theorem strB_inj : ∀ {xs ys : List Int}, U8ok xs → U8ok ys → (strB xs) = (strB ys) → xs = ys := by
  intro xs ys hx hy h
  have h1 := congrArg (fun b : ByteArray => b.data.toList) h
  simp only [strB_data] at h1
  have h2 := congrArg (List.map fun b : UInt8 => ((b.toNat : Nat) : Int)) h1
  rw [List.map_map, List.map_map] at h2
  have go : ∀ {zs : List Int}, U8ok zs → zs.map ((fun b : UInt8 => ((b.toNat : Nat) : Int)) ∘ fun n => UInt8.ofNat n.toNat) = zs := fun {zs} hz => by
    have : ∀ z, z ∈ zs → ((fun b : UInt8 => ((b.toNat : Nat) : Int)) ∘ fun n : Int => UInt8.ofNat n.toNat) z = z := fun z hm => by
      have := hz z hm
      show (((UInt8.ofNat z.toNat).toNat : Nat) : Int) = z
      rw [UInt8.toNat_ofNat']; omega
    rw [List.map_congr_left this, List.map_id']
  rwa [go hx, go hy] at h2
theorem toL_iff (a b : ByteArray) : (a.toList == b.toList) = decide (a = b) := by
  rw [Bool.eq_iff_iff, beq_iff_eq, decide_eq_true_iff, ByteArray.toList_eq, ByteArray.toList_eq]
  constructor
  · intro h; cases a; cases b; simp only [ByteArray.mk.injEq]; exact Array.toList_inj.1 h
  · rintro rfl; rfl
theorem bytesA_u8 : ∀ bs : List Int, bytesA (u8l bs) = some bs
  | [] => rfl
  | b :: bs => by
    show bytesA (CV.int .u8 b :: u8l bs) = _
    unfold bytesA
    rw [bytesA_u8 bs]; rfl
/-- A map from sums to texts. -/
abbrev TE := List (Nat × List Int × ByteArray)
def tC (e : Nat × List Int × ByteArray) : Nat × List CV × List CV := (e.1, u8l e.2.1, [.str e.2.2])
def tL (E : TE) : List (Nat × List CV × List CV) := E.map tC
def LT (E : TE) : Prop := ∀ e, e ∈ E → e.2.1.length = 32
def fndT (k : List Int) : TE → Option Nat
  | [] => none
  | e :: E => if k = e.2.1 then some 0 else (fndT k E).map (· + 1)
def lkT (k : List Int) : TE → Option ByteArray
  | [] => none
  | e :: E => if k = e.2.1 then some e.2.2 else lkT k E
theorem keyEq_u8 : ∀ {a b : List Int}, a.length = b.length → keyEqL (u8l a) (u8l b) = some (decide (a = b))
  | [], [], _ => rfl
  | x :: a, y :: b, h => by
    have ih := keyEq_u8 (a := a) (b := b) (by simpa using h)
    show keyEqL (CV.int .u8 x :: u8l a) (CV.int .u8 y :: u8l b) = _
    unfold keyEqL
    rw [ih]
    simp only [ceq, if_true]
    congr 1
    rw [Bool.eq_iff_iff]
    simp [List.cons.injEq]
  | [], _ :: _, h => by simp at h
  | _ :: _, [], h => by simp at h
theorem findL_tL {k : List Int} (hk : k.length = 32) : ∀ {E : TE}, LT E → findL (u8l k) (tL E) = some (fndT k E)
  | [], _ => rfl
  | e :: E, h => by
    have he := h e List.mem_cons_self
    have ih := findL_tL hk (E := E) fun x hx => h x (List.mem_cons_of_mem _ hx)
    show findL (u8l k) (tC e :: tL E) = _
    unfold findL
    rw [show (tC e).2.1 = u8l e.2.1 from rfl, keyEq_u8 (by rw [hk, he])]
    unfold fndT
    by_cases hc : k = e.2.1
    · rw [decide_eq_true hc, if_pos hc]
    · rw [decide_eq_false hc, if_neg hc, ih]; rfl
theorem fndT_none {k : List Int} : ∀ {E : TE}, fndT k E = none → lkT k E = none
  | [], _ => rfl
  | e :: E, h => by
    unfold fndT at h; unfold lkT
    by_cases hc : k = e.2.1
    · rw [if_pos hc] at h; cases h
    · rw [if_neg hc] at h ⊢
      exact fndT_none (by simpa using h)
theorem fndT_some {k : List Int} : ∀ {E : TE} {j : Nat}, fndT k E = some j → ∃ b s, E[j]? = some (b, k, s) ∧ lkT k E = some s
  | [], _, h => by cases h
  | e :: E, j, h => by
    unfold fndT at h; unfold lkT
    by_cases hc : k = e.2.1
    · rw [if_pos hc] at h ⊢
      injection h with h; subst h; subst hc
      exact ⟨e.1, e.2.2, rfl, rfl⟩
    · rw [if_neg hc] at h ⊢
      obtain ⟨i, hi, rfl⟩ := Option.map_eq_some_iff.1 h
      obtain ⟨b, s, h1, h2⟩ := fndT_some hi
      exact ⟨b, s, h1, h2⟩
theorem tL_get {E : TE} {j : Nat} {e : Nat × List Int × ByteArray} (h : E[j]? = some e) : (tL E)[j]? = some (tC e) := by unfold tL; rw [List.getElem?_map, h]; rfl
def upT (ck : Nat) (k : List Int) (s : ByteArray) : TE → TE
  | [] => [(ck, k, s)]
  | e :: E => if k = e.2.1 then (e.1, k, s) :: E else e :: upT ck k s E
def upTc (ck : Nat) (k : List Int) (E : TE) : Nat := if (fndT k E).isSome then ck else ck + 1
theorem upT_none {ck : Nat} {k : List Int} {s : ByteArray} : ∀ {E : TE}, fndT k E = none → tL E ++ [(ck, u8l k, [.str s])] = tL (upT ck k s E)
  | [], _ => rfl
  | e :: E, h => by
    unfold fndT at h; unfold upT
    by_cases hc : k = e.2.1
    · rw [if_pos hc] at h; cases h
    · rw [if_neg hc] at h ⊢
      show tC e :: (tL E ++ _) = tC e :: tL _
      rw [upT_none (by simpa using h)]
theorem upT_some {ck : Nat} {k : List Int} {s : ByteArray} : ∀ {E : TE} {j b : Nat} {x : ByteArray}, fndT k E = some j → E[j]? = some (b, k, x) → (tL E).set j (b, u8l k, [.str s]) = tL (upT ck k s E)
  | [], _, _, _, h, _ => by cases h
  | e :: E, j, b, x, h, hj => by
    unfold fndT at h; unfold upT
    by_cases hc : k = e.2.1
    · rw [if_pos hc] at h ⊢
      injection h with h; subst h
      injection hj with hj; subst hj
      rfl
    · rw [if_neg hc] at h ⊢
      obtain ⟨i, hi, rfl⟩ := Option.map_eq_some_iff.1 h
      show tC e :: (tL E).set i _ = tC e :: tL _
      rw [upT_some hi (by simpa using hj)]
theorem lkT_up {ck : Nat} {k : List Int} {s : ByteArray} (x : List Int) : ∀ E : TE, lkT x (upT ck k s E) = if x = k then some s else lkT x E
  | [] => by
    unfold upT lkT lkT
    by_cases h : x = k <;> simp [h]
  | e :: E => by
    have ih := lkT_up (ck := ck) (k := k) (s := s) x E
    unfold upT
    by_cases hc : k = e.2.1
    · rw [if_pos hc]
      unfold lkT
      by_cases hx : x = k
      · rw [if_pos hx, if_pos hx]
      · rw [if_neg hx, if_neg hx, if_neg (by rw [← hc]; exact hx)]
    · rw [if_neg hc]
      unfold lkT
      by_cases hx : x = e.2.1
      · rw [if_pos hx, if_pos hx, if_neg (fun h => hc (by rw [← h, hx]))]
      · rw [if_neg hx, if_neg hx, ih]
theorem upT_lt {ck : Nat} {k : List Int} {s : ByteArray} (hk : k.length = 32) : ∀ {E : TE}, LT E → LT (upT ck k s E)
  | [], _ => fun e he => by rw [List.mem_singleton.1 he]; exact hk
  | e :: E, h => by
    unfold upT
    split
    · intro x hx
      rcases List.mem_cons.1 hx with rfl | hx
      · exact hk
      · exact h x (List.mem_cons_of_mem _ hx)
    · intro x hx
      rcases List.mem_cons.1 hx with rfl | hx
      · exact h x List.mem_cons_self
      · exact upT_lt hk (fun y hy => h y (List.mem_cons_of_mem _ hy)) x hx
def mapT (ck : Nat) (E : TE) : Blk := ⟨.map true false ck (tL E), 33, 0, 0, []⟩
def clB (E : TE) (bs : List Int) : Bool := match lkT (shaL bs) E with
  | some s => !(s.toList == (strB bs).toList)
  | none => false
theorem tL_below (L ck : Nat) (E : TE) : BK.below L (.map true false ck (tL E)) = true := by
  simp only [BK.below, tL, List.all_map, List.all_eq_true]
  intro e _
  simp only [Function.comp, tC, u8l_below, List.all_cons, List.all_nil, CV.below, Bool.and_self]
theorem clash_none (rt rp vp len ck : Nat) (E : TE) (bs : List Int) (m : AMem) (ht : m[rt]? = some (mapT ck E)) (hE : LT E) (hp : ∃ kk ez, m[rp]? = some ⟨kk, 5, vp, ez, u8l bs⟩) (hlen : bs.length = len) (hl2 : len ≤ 1000000) (ho : U8ok bs) (hf : fndT (shaL bs) E = none) : Ctr Try.prog 9 [.one (.mp rt 0), .one (.sl rp vp 0 len)] m (.one (.bool (clB E bs))) (m.set rt (mapT (upTc ck (shaL bs) E) (upT ck (shaL bs) (strB bs) E))) := by
  refine Ctr.enter Try.func9 rfl (by decide) (rs := [.tmp 4]) (nt := 28) rfl rfl fun hwf Q hQ => ?_
  obtain ⟨kk, ez, hp⟩ := hp
  have lt := get_lt ht
  have lpp := get_lt hp
  have ksl : (u8l (shaL bs)).length = 32 := by rw [u8l_len]; exact shaL_len bs
  have kst : (u8l (shaL bs)).take 32 = u8l (shaL bs) := List.take_of_length_le (by omega)
  have ksv := u8l_vals (shaL bs)
  have kz : setL [CV.int .u8 0, CV.int .u8 0, CV.int .u8 0, CV.int .u8 0, CV.int .u8 0, CV.int .u8 0, CV.int .u8 0, CV.int .u8 0, CV.int .u8 0, CV.int .u8 0, CV.int .u8 0, CV.int .u8 0, CV.int .u8 0, CV.int .u8 0, CV.int .u8 0, CV.int .u8 0, CV.int .u8 0, CV.int .u8 0, CV.int .u8 0, CV.int .u8 0, CV.int .u8 0, CV.int .u8 0, CV.int .u8 0, CV.int .u8 0, CV.int .u8 0, CV.int .u8 0, CV.int .u8 0, CV.int .u8 0, CV.int .u8 0, CV.int .u8 0, CV.int .u8 0, CV.int .u8 0] 0 (u8l (shaL bs)) = u8l (shaL bs) := setL_full (by rw [ksl]; rfl)
  have ksi : (u8l (shaL bs)).all (scI Try.prog 5) = true := by
    simp only [u8l, List.all_map, List.all_eq_true]; intro x _; rfl
  have fl := findL_tL (shaL_len bs) hE
  have ba := bytesA_u8 bs
  have ul : (u8l bs).length = len := by rw [u8l_len]; exact hlen
  have tb : (u8l bs).take len = u8l bs := List.take_of_length_le (by omega)
  have sT := fun (L : AMem) (b : Blk) => mk_olds (m := m) (l := m) (r := rt) rfl lt L b
  have np : rp ≠ rt := by rintro rfl; rw [ht] at hp; simp [mapT] at hp
  have kP := fun (b : Blk) (L : AMem) => (mk_old (m := m) (l := m.set rt b) (r := rp) (by rw [List.length_set]) lpp L).trans ((List.getElem?_set_ne np.symm).trans hp)
  have hw2 : MWf m.length (m.set rt (mapT (upTc ck (shaL bs) E) (upT ck (shaL bs) (strB bs) E))) := MWf_setB hwf rfl (tL_below _ _ _)
  have kP0 := fun (b : Blk) => (List.getElem?_set_ne (l := m) (a := b) np.symm).trans hp
  rw [hf] at fl
  have g3 : upTc ck (shaL bs) E = ck + 1 := by unfold upTc; rw [hf]; rfl
  have g2 := upT_none (ck := ck) (s := strB bs) hf
  have cb : clB E bs = false := by unfold clB; rw [fndT_none hf]
  rw [cb, mapT, g3] at hQ
  rw [mapT, g3] at hw2
  
  refine AW.seq_k fun K hK => ?_
  refine AW.region (by decide) ?_
  simp only [push_cast, simprocAttr, ht, lk_old ht, mapT, hp, lk_old hp, ksl, kst, ksv, kz, ksi, fl, ba, ul, tb, sT, kP, kP0, setMap, g2]
  refine Thn_n ?_
  refine hK _ _ ?_
  clear hK K
  refine AW.seq_k fun K hK => ?_
  refine AW.region (by decide) ?_
  simp only [push_cast, simprocAttr, ht, lk_old ht, mapT, hp, lk_old hp, ksl, kst, ksv, kz, ksi, fl, ba, ul, tb, sT, kP, kP0, setMap, g2]
  refine CThen.by (of1_c (m.length) 0 0 (.sl rp vp 0 len) bs [.sl rp vp 0 len] .grow 1 _ (by rw [lk_app0]; rfl) rfl (.all (lk_old hp _) hlen.symm) (by omega) ho) ?_
  iterate 3
    simp only [push_cast, simprocAttr, ht, lk_old ht, mapT, hp, lk_old hp, ksl, kst, ksv, kz, ksi, fl, ba, ul, tb, sT, kP, kP0, setMap, g2]
    refine Thn_n ?_
    refine hK _ _ ?_
    clear hK K
    refine AW.seq_k fun K hK => ?_
    refine AW.region (by decide) ?_
  simp only [push_cast, simprocAttr, ht, lk_old ht, mapT, hp, lk_old hp, ksl, kst, ksv, kz, ksi, fl, ba, ul, tb, sT, kP, kP0, setMap, g2]
  refine Thn_n ?_
  refine hK _ _ ?_
  clear hK K
  refine AW.ret ?_
  refine hQ _ _ _ ?_
  rw [show mapT _ _ = mapT _ _ from rfl] at *
  first | refine RetP.dropM0 (by rw [List.length_set]) (by first | exact Or.inr rfl | exact Or.inl rfl) ?_ ?_ hw2 | refine RetP.dropM (by rw [List.length_set]) (by first | exact Or.inr rfl | exact Or.inl rfl) ?_ ?_ hw2
  · simp only [resA, resOne, resTv, AV.tv, push_cast, simprocAttr]
  · rfl
theorem clash_some (rt rp vp len ck : Nat) (E : TE) (bs : List Int) (m : AMem) (ht : m[rt]? = some (mapT ck E)) (hE : LT E) (hp : ∃ kk ez, m[rp]? = some ⟨kk, 5, vp, ez, u8l bs⟩) (hlen : bs.length = len) (hl2 : len ≤ 1000000) (ho : U8ok bs) (j : Nat) (hf : fndT (shaL bs) E = some j) : Ctr Try.prog 9 [.one (.mp rt 0), .one (.sl rp vp 0 len)] m (.one (.bool (clB E bs))) (m.set rt (mapT (upTc ck (shaL bs) E) (upT ck (shaL bs) (strB bs) E))) := by
  refine Ctr.enter Try.func9 rfl (by decide) (rs := [.tmp 4]) (nt := 28) rfl rfl fun hwf Q hQ => ?_
  obtain ⟨kk, ez, hp⟩ := hp
  have lt := get_lt ht
  have lpp := get_lt hp
  have ksl : (u8l (shaL bs)).length = 32 := by rw [u8l_len]; exact shaL_len bs
  have kst : (u8l (shaL bs)).take 32 = u8l (shaL bs) := List.take_of_length_le (by omega)
  have ksv := u8l_vals (shaL bs)
  have kz : setL [CV.int .u8 0, CV.int .u8 0, CV.int .u8 0, CV.int .u8 0, CV.int .u8 0, CV.int .u8 0, CV.int .u8 0, CV.int .u8 0, CV.int .u8 0, CV.int .u8 0, CV.int .u8 0, CV.int .u8 0, CV.int .u8 0, CV.int .u8 0, CV.int .u8 0, CV.int .u8 0, CV.int .u8 0, CV.int .u8 0, CV.int .u8 0, CV.int .u8 0, CV.int .u8 0, CV.int .u8 0, CV.int .u8 0, CV.int .u8 0, CV.int .u8 0, CV.int .u8 0, CV.int .u8 0, CV.int .u8 0, CV.int .u8 0, CV.int .u8 0, CV.int .u8 0, CV.int .u8 0] 0 (u8l (shaL bs)) = u8l (shaL bs) := setL_full (by rw [ksl]; rfl)
  have ksi : (u8l (shaL bs)).all (scI Try.prog 5) = true := by
    simp only [u8l, List.all_map, List.all_eq_true]; intro x _; rfl
  have fl := findL_tL (shaL_len bs) hE
  have ba := bytesA_u8 bs
  have ul : (u8l bs).length = len := by rw [u8l_len]; exact hlen
  have tb : (u8l bs).take len = u8l bs := List.take_of_length_le (by omega)
  have sT := fun (L : AMem) (b : Blk) => mk_olds (m := m) (l := m) (r := rt) rfl lt L b
  have np : rp ≠ rt := by rintro rfl; rw [ht] at hp; simp [mapT] at hp
  have kP := fun (b : Blk) (L : AMem) => (mk_old (m := m) (l := m.set rt b) (r := rp) (by rw [List.length_set]) lpp L).trans ((List.getElem?_set_ne np.symm).trans hp)
  have hw2 : MWf m.length (m.set rt (mapT (upTc ck (shaL bs) E) (upT ck (shaL bs) (strB bs) E))) := MWf_setB hwf rfl (tL_below _ _ _)
  have kP0 := fun (b : Blk) => (List.getElem?_set_ne (l := m) (a := b) np.symm).trans hp
  rw [hf] at fl
  obtain ⟨b0, s0, hj, hlk⟩ := fndT_some hf
  have gj := tL_get hj
  unfold tC at gj
  have g3 : upTc ck (shaL bs) E = ck := by unfold upTc; rw [hf]; rfl
  have g2 := upT_some (ck := ck) (s := strB bs) hf hj
  have cb : clB E bs = !(s0.toList == (strB bs).toList) := by unfold clB; rw [hlk]
  rw [cb, mapT, g3] at hQ
  rw [mapT, g3] at hw2
  
  refine AW.seq_k fun K hK => ?_
  refine AW.region (by decide) ?_
  simp only [push_cast, simprocAttr, ht, lk_old ht, mapT, hp, lk_old hp, ksl, kst, ksv, kz, ksi, fl, ba, ul, tb, sT, kP, kP0, setMap, g2, gj]
  refine Thn_n ?_
  refine hK _ _ ?_
  clear hK K
  refine AW.seq_k fun K hK => ?_
  refine AW.region (by decide) ?_
  simp only [push_cast, simprocAttr, ht, lk_old ht, mapT, hp, lk_old hp, ksl, kst, ksv, kz, ksi, fl, ba, ul, tb, sT, kP, kP0, setMap, g2, gj]
  refine CThen.by (of1_c (m.length) 0 0 (.sl rp vp 0 len) bs [.sl rp vp 0 len] .grow 1 _ (by rw [lk_app0]; rfl) rfl (.all (lk_old hp _) hlen.symm) (by omega) ho) ?_
  iterate 3
    simp only [push_cast, simprocAttr, ht, lk_old ht, mapT, hp, lk_old hp, ksl, kst, ksv, kz, ksi, fl, ba, ul, tb, sT, kP, kP0, setMap, g2, gj]
    refine Thn_n ?_
    refine hK _ _ ?_
    clear hK K
    refine AW.seq_k fun K hK => ?_
    refine AW.region (by decide) ?_
  simp only [push_cast, simprocAttr, ht, lk_old ht, mapT, hp, lk_old hp, ksl, kst, ksv, kz, ksi, fl, ba, ul, tb, sT, kP, kP0, setMap, g2, gj]
  refine Thn_n ?_
  refine hK _ _ ?_
  clear hK K
  refine AW.ret ?_
  refine hQ _ _ _ ?_
  rw [show mapT _ _ = mapT _ _ from rfl] at *
  first | refine RetP.dropM0 (by rw [List.length_set]) (by first | exact Or.inr rfl | exact Or.inl rfl) ?_ ?_ hw2 | refine RetP.dropM (by rw [List.length_set]) (by first | exact Or.inr rfl | exact Or.inl rfl) ?_ ?_ hw2
  · simp only [resA, resOne, resTv, AV.tv, push_cast, simprocAttr]
  · rfl
end Go.Proofs.Ytdkfbbjpblfclaa

set_option linter.unusedSimpArgs false
set_option linter.unusedVariables false
set_option maxRecDepth 100000
set_option maxHeartbeats 4000000
namespace Go.Proofs.Ytdkfbbjpblfclaa
open Go Go.Eng

/-- What a device shows behind a sync, a write, blocks one behind the other. -/
theorem vis_sy (D : DS) (i : Nat) : vis (syD D).S (syD D).E i = vis D.S D.E i := by
  show vis (vis D.S D.E) [] i = _
  rw [vis_nil]
theorem vis_wr (D : DS) (k : Nat) (v : List Int) (i : Nat) : vis (wrD D (k : Int) v).S (wrD D (k : Int) v).E i = if i = k then v else vis D.S D.E i := by
  show vis (spD D).S (upE D.ck (k : Int) v D.E) i = _
  rw [spD_S, vis_up]
  rfl
theorem vis_lay {n k : Nat} {bl : Nat → List Int} (hb : ∀ i, (bl i).length = 128) (x : Nat) : ∀ (r i : Nat) (D : DS), Liv n D → k + i + r ≤ n → vis (layS k bl r i D).1.S (layS k bl r i D).1.E x = if k + i ≤ x ∧ x < k + i + r then bl (x - k) else vis D.S D.E x
  | 0, i, D, h, _ => by
    show vis (syS D).1.S (syS D).1.E x = _
    rw [h.sy.1, if_neg (by omega)]
    exact vis_sy D x
  | r + 1, i, D, h, hk => by
    unfold layS
    rw [if_neg h.z, vis_lay hb x r (i + 1) _ (h.wr (by omega) (hb i)).2 (by omega), vis_wr]
    by_cases h1 : k + (i + 1) ≤ x ∧ x < k + (i + 1) + r
    · rw [if_pos h1, if_pos (by omega)]
    · rw [if_neg h1]
      by_cases h2 : x = k + i
      · rw [if_pos h2, if_pos (by omega), show x - k = i by omega]
      · rw [if_neg h2, if_neg (by omega)]
theorem vis_ws (D : DS) (c : Nat) (s : SL) (i : Nat) : vis (wsD D c s).S (wsD D c s).E i = if i = c then encB s else vis D.S D.E i := by
  unfold wsD
  rw [vis_sy, vis_wr]
theorem catB_ch (bs : List Int) : ∀ N, catB N (chB bs) = bs.take (N * 128) ++ List.replicate (N * 128 - bs.length) 0
  | 0 => by simp [catB]
  | N + 1 => by
    show catB N (chB bs) ++ padB (bs.drop (N * 128)) = _
    rw [catB_ch bs N]
    unfold padB
    rcases Nat.lt_or_ge bs.length (N * 128) with h | h
    · rw [List.drop_of_length_le (by omega), List.take_of_length_le (by omega), List.take_of_length_le (show bs.length ≤ (N + 1) * 128 by omega), List.take_nil, List.nil_append, List.length_nil, List.append_assoc, List.replicate_append_replicate]
      congr 2; omega
    · rw [show N * 128 - bs.length = 0 by omega, List.replicate_zero, List.append_nil, ← List.append_assoc, ← List.take_add, List.length_drop]
      rw [show (N + 1) * 128 = N * 128 + 128 by omega]
      congr 2
      omega
theorem datL_put {n : Nat} {D : DS} {bs : List Int} {k N c : Nat} {s : SL} (hL : Liv n D) (hk : k + N ≤ n) (hc : c < k) (hl : bs.length ≤ N * 128) : (datL (wsD (layS k (chB bs) N 0 D).1 c s) k N).take bs.length = bs := by
  have e : datL (wsD (layS k (chB bs) N 0 D).1 c s) k N = catB N (chB bs) := catB_congr fun j hj => by
    rw [vis_ws, if_neg (by omega), vis_lay (n := n) (bl := chB bs) (fun i => padB_len _) (k + j) N 0 D hL (by omega), if_pos (by omega)]
    congr 1; omega
  rw [e, catB_ch, List.take_of_length_le hl, List.take_left]
theorem chB_ok {bs : List Int} (h : U8ok bs) (i : Nat) : U8ok (chB bs i) := fun x hx => by
  unfold chB padB at hx
  rcases List.mem_append.1 hx with h1 | h1
  · exact h x (List.mem_of_mem_drop (List.mem_of_mem_take h1))
  · rw [List.eq_of_mem_replicate h1]; omega
theorem datL_put_ok {n : Nat} {D : DS} {bs : List Int} {k N c : Nat} {s : SL} (hL : Liv n D) (hk : k + N ≤ n) (hc : c < k) (ho : U8ok bs) : U8ok (datL (wsD (layS k (chB bs) N 0 D).1 c s) k N) := by
  have e : datL (wsD (layS k (chB bs) N 0 D).1 c s) k N = catB N (chB bs) := catB_congr fun j hj => by
    rw [vis_ws, if_neg (by omega), vis_lay (n := n) (bl := chB bs) (fun i => padB_len _) (k + j) N 0 D hL (by omega), if_pos (by omega)]
    congr 1; omega
  rw [e]
  clear e
  induction N with
  | zero => intro x hx; cases hx
  | succ N ih =>
    intro x hx
    rcases List.mem_append.1 (show x ∈ catB N (chB bs) ++ chB bs N from hx) with h | h
    · exact ih (by omega) x h
    · exact chB_ok ho N x h
/-- Slots in line, one behind the other. -/
def offF (f : Nat → SL) : Nat → Int
  | 0 => 0
  | j + 1 => offF f j + needZ (f j).size
structure Lin (k : Nat) (V : VS) (c : Nat) : Prop where
  hk : V.k = k
  hd : V.data = (k : Int)
  h0 : V.dead = 0
  ck : c ≤ k
  ok : ∀ j, OkS (V.f j)
  zs : ∀ j, c ≤ j → V.f j = zS
  nz : ∀ j, j < c → ¬ (V.f j).kind = 0
  sz : ∀ j, j < c → 0 < (V.f j).size
  fr : ∀ j, j < c → (V.f j).fr = (k : Int) + offF V.f j
theorem needZ_pos {x : Int} (h : 0 < x) : 1 ≤ needZ x := by unfold needZ; omega
section
variable {k c : Nat} {V : VS}
theorem Lin.off_lt (h : Lin k V c) : ∀ {j i : Nat}, i < j → j ≤ c → offF V.f i < offF V.f j
  | 0, i, h1, _ => by omega
  | j + 1, i, h1, h2 => by
    have hs := needZ_pos (h.sz j (by omega))
    show offF V.f i < offF V.f j + needZ (V.f j).size
    rcases Nat.lt_or_ge i j with h3 | h3
    · have := h.off_lt h3 (by omega); omega
    · rw [show i = j by omega]; omega
theorem Lin.tkp (h : Lin k V c) {j : Nat} (hj : j < c) : tkP (V.f j) = true := by
  unfold tkP; rw [decide_eq_true (h.nz j hj), decide_eq_true (h.sz j hj)]; rfl
theorem Lin.tk1 (h : Lin k V c) : ∀ i, i ≤ c → tkL V.f i = (List.range i).map V.f
  | 0, _ => rfl
  | i + 1, hi => by
    unfold tkL
    rw [if_pos (h.tkp (by omega)), h.tk1 i (by omega), List.range_succ, List.map_append]; rfl
theorem Lin.tk2 (h : Lin k V c) : ∀ j, tkL V.f (c + j) = (List.range c).map V.f
  | 0 => h.tk1 c (Nat.le_refl _)
  | j + 1 => by
    show (if tkP (V.f (c + j)) = true then _ else tkL V.f (c + j)) = _
    rw [h.zs (c + j) (by omega), if_neg (by decide), h.tk2 j]
theorem Lin.tk (h : Lin k V c) : V.tk = (List.range c).map V.f := by
  unfold VS.tk
  have := h.tk2 (k - c)
  rwa [show c + (k - c) = V.k by rw [h.hk]; have := h.ck; omega] at this
theorem Lin.tkl (h : Lin k V c) : V.tk.length = c := by rw [h.tk, List.length_map, List.length_range]
theorem Lin.gl (h : Lin k V c) {j : Nat} (hj : j < c) : gL V.tk j = V.f j := by
  unfold gL; rw [h.tk, List.getD_eq_getElem?_getD, List.getElem?_map, List.getElem?_range hj]; rfl
theorem Lin.tg (h : Lin k V c) (hk5 : k ≤ 512) : ∀ j, j < c → V.tg j = V.f j := by
  obtain ⟨hs, hp⟩ := tg_spec h.ok (by rw [h.hk]; exact hk5)
  rw [h.tkl] at hs hp
  have inj : ∀ x y, x < c → y < c → (V.f x).fr = (V.f y).fr → x = y := fun x y hx hy e => by
    rw [h.fr x hx, h.fr y hy] at e
    rcases Nat.lt_trichotomy x y with h1 | h1 | h1
    · have := h.off_lt h1 (by omega); omega
    · exact h1
    · have := h.off_lt h1 (by omega); omega
  have mono : ∀ x y, x ≤ y → y < c → (V.f x).fr ≤ (V.f y).fr := fun x y hx hy => by
    rw [h.fr x (by omega), h.fr y hy]
    rcases Nat.lt_or_ge x y with h1 | h1
    · have := h.off_lt h1 (by omega); omega
    · rw [show x = y by omega]; omega
  obtain ⟨s, t, s1, s2, s3, s4⟩ := hp
  have hp : PermOn 0 c (gL V.tk) V.tg := ⟨s, t, s1, s2, s3, s4⟩
  have sin : ∀ x, x < c → s x < c := fun x hx => Classical.byContradiction fun hc => by
    have e1 := s3 (s x) (by omega)
    have e2 := congrArg t e1
    rw [s2, s2] at e2
    omega
  intro j
  induction j using Nat.strongRecOn with
  | _ j ih =>
    intro hj
    have hy := sin j hj
    have e : V.tg j = V.f (s j) := by rw [s4, h.gl hy]
    have hge : j ≤ s j := Classical.byContradiction fun hc => by
      have e2 := ih (s j) (by omega) (by omega)
      have e3 : V.tg (s j) = V.f (s (s j)) := by rw [s4, h.gl (sin _ hy)]
      rw [e3] at e2
      have e4 := inj _ _ (sin _ hy) hy (congrArg SL.fr e2)
      have e5 := congrArg t e4
      rw [s2, s2] at e5
      omega
    obtain ⟨x, _, hx, hx2⟩ := hp.dst (y := j) ⟨Nat.zero_le _, hj⟩
    rw [h.gl hj] at hx2
    have hxj : j ≤ x := Classical.byContradiction fun hc => by
      have e2 := ih x (by omega) (by omega)
      rw [hx2] at e2
      have := inj _ _ hj hx (congrArg SL.fr e2)
      omega
    have h1 : (V.tg j).fr ≤ (V.tg x).fr := hs.le SL.fr (Nat.zero_le _) hxj hx
    rw [hx2, e] at h1
    have h2 := mono j (s j) hge hy
    have h3 := inj _ _ hy hj (by omega)
    rw [e, h3]
theorem maxI_le {a b : Int} (h : a ≤ b) : maxI a b = b := by unfold maxI; split <;> omega
theorem maxI_ge {a b : Int} (h : b ≤ a) : maxI a b = a := by unfold maxI; split <;> omega
theorem Lin.rm (h : Lin k V c) (hk5 : k ≤ 512) {nd n : Int} (hn : 0 < nd) : ∀ r i, i + r = c → rmGo V.tg nd n r i ((k : Int) + offF V.f i) = if n - ((k : Int) + offF V.f c) < nd then -1 else (k : Int) + offF V.f c
  | 0, i, e => by
    obtain rfl : i = c := by omega
    rfl
  | r + 1, i, e => by
    have hi : i < c := by omega
    have hs := needZ_pos (h.sz i hi)
    show (if (V.tg i).fr - _ < nd then _ else _) = _
    rw [h.tg hk5 i hi, h.fr i hi, if_pos (by omega), maxI_le (by omega), show (k : Int) + offF V.f i + needZ (V.f i).size = (k : Int) + offF V.f (i + 1) by show _ = (k : Int) + (offF V.f i + needZ (V.f i).size); omega]
    exact h.rm hk5 hn r (i + 1) (by omega)
theorem Lin.usg (h : Lin k V c) (hk5 : k ≤ 512) : ∀ r i a, i + r = c → usGo V.tg r i ((k : Int) + offF V.f i) a = a + (offF V.f c - offF V.f i)
  | 0, i, a, e => by
    obtain rfl : i = c := by omega
    show a = _
    omega
  | r + 1, i, a, e => by
    have hi : i < c := by omega
    have hs := needZ_pos (h.sz i hi)
    have ho : offF V.f (i + 1) = offF V.f i + needZ (V.f i).size := rfl
    show usGo V.tg r (i + 1) (maxI _ ((V.tg i).fr + needZ (V.tg i).size)) (a + maxI 0 ((V.tg i).fr + needZ (V.tg i).size - maxI _ (V.tg i).fr)) = _
    rw [h.tg hk5 i hi, h.fr i hi, maxI_le (show (k : Int) + offF V.f i ≤ (k : Int) + offF V.f i + needZ (V.f i).size by omega), maxI_ge (Int.le_refl _), show (k : Int) + offF V.f i + needZ (V.f i).size = (k : Int) + offF V.f (i + 1) by omega, h.usg hk5 r (i + 1) _ (by omega), maxI_le (by omega)]
    omega
theorem Lin.us (h : Lin k V c) (hk5 : k ≤ 512) : V.us = offF V.f c := by
  have := h.usg hk5 c 0 0 (by omega)
  unfold VS.us
  rw [h.tkl, h.hd]
  rw [show offF V.f 0 = 0 from rfl, Int.add_zero] at this
  rw [this]; omega
theorem Lin.cnt1 (h : Lin k V c) : ∀ i, i ≤ c → cntF V.f i = (i : Int)
  | 0, _ => rfl
  | i + 1, hi => by
    unfold cntF
    rw [h.cnt1 i (by omega), if_neg (h.nz i (by omega))]; omega
theorem Lin.cnt2 (h : Lin k V c) : ∀ j, cntF V.f (c + j) = (c : Int)
  | 0 => h.cnt1 c (Nat.le_refl _)
  | j + 1 => by
    show cntF V.f (c + j) + (if (V.f (c + j)).kind = 0 then 0 else 1) = _
    rw [h.cnt2 j, h.zs (c + j) (by omega)]; rfl
theorem Lin.cnt (h : Lin k V c) : cntF V.f V.k = (c : Int) := by
  have := h.cnt2 (k - c)
  rwa [show c + (k - c) = V.k by rw [h.hk]; have := h.ck; omega] at this
theorem Lin.free (h : Lin k V c) (hc : c < k) : fnd (fun s => s.kind == 0) V.f V.k = (c : Int) := by
  refine fnd_first (by rw [h.hk]; exact hc) ?_ fun j hj => ?_
  · show (V.f c).kind == 0
    rw [h.zs c (Nat.le_refl _)]; rfl
  · show ((V.f j).kind == 0) = false
    simpa using h.nz j hj
theorem Lin.full (h : Lin k V c) (hc : c = k) : fnd (fun s => s.kind == 0) V.f V.k < 0 := by
  rw [fnd_none fun j hj => ?_]; decide
  show ((V.f j).kind == 0) = false
  simpa using h.nz j (by rw [h.hk] at hj; omega)
theorem offF_congr {f g : Nat → SL} : ∀ {j : Nat}, (∀ i, i < j → f i = g i) → offF f j = offF g j
  | 0, _ => rfl
  | j + 1, h => by unfold offF; rw [offF_congr fun i hi => h i (by omega), h j (by omega)]
/-- One more. -/
theorem Lin.more (h : Lin k V c) (hc : c < k) {s : SL} (hs : OkS s) (hkd : ¬ s.kind = 0) (hsz : 0 < s.size) (hfr : s.fr = (k : Int) + offF V.f c) : Lin k { V with f := upF V.f c s } (c + 1) ∧ offF (upF V.f c s) (c + 1) = offF V.f c + needZ s.size := by
  have e1 : ∀ j, j < c → upF V.f c s j = V.f j := fun j hj => if_neg (by omega)
  have e2 : upF V.f c s c = s := if_pos rfl
  have eo : ∀ j, j ≤ c → offF (upF V.f c s) j = offF V.f j := fun j hj => offF_congr fun i hi => e1 i (by omega)
  refine ⟨⟨h.hk, h.hd, h.h0, hc, upF_ok h.ok hs c, fun j hj => ?_, fun j hj => ?_, fun j hj => ?_, fun j hj => ?_⟩, ?_⟩
  · show upF V.f c s j = zS
    rw [show upF V.f c s j = V.f j from if_neg (by omega)]; exact h.zs j (by omega)
  · show ¬ (upF V.f c s j).kind = 0
    rcases Nat.lt_or_ge j c with h1 | h1
    · rw [e1 j h1]; exact h.nz j h1
    · rw [show j = c by omega, e2]; exact hkd
  · show 0 < (upF V.f c s j).size
    rcases Nat.lt_or_ge j c with h1 | h1
    · rw [e1 j h1]; exact h.sz j h1
    · rw [show j = c by omega, e2]; exact hsz
  · show (upF V.f c s j).fr = (k : Int) + offF (upF V.f c s) j
    rw [eo j (by omega)]
    rcases Nat.lt_or_ge j c with h1 | h1
    · rw [e1 j h1]; exact h.fr j h1
    · rw [show j = c by omega, e2]; exact hfr
  · show offF (upF V.f c s) c + needZ (upF V.f c s c).size = _
    rw [eo c (Nat.le_refl _), e2]
theorem Lin.nil (k : Nat) : Lin k (V0 k) 0 := ⟨rfl, rfl, rfl, Nat.zero_le _, fun _ => zS_ok, fun _ _ => rfl, fun j h => by omega, fun j h => by omega, fun j h => by omega⟩
end
end Go.Proofs.Ytdkfbbjpblfclaa

set_option linter.unusedSimpArgs false
set_option linter.unusedVariables false
set_option maxRecDepth 100000
set_option maxHeartbeats 4000000
namespace Go.Proofs.Ytdkfbbjpblfclaa
open Go Go.Eng

theorem clash_c (rt rp vp len ck : Nat) (E : TE) (bs : List Int) (m : AMem) (ht : m[rt]? = some (mapT ck E)) (hE : LT E) (hp : ∃ kk ez, m[rp]? = some ⟨kk, 5, vp, ez, u8l bs⟩) (hlen : bs.length = len) (hl2 : len ≤ 1000000) (ho : U8ok bs) : Ctr Try.prog 9 [.one (.mp rt 0), .one (.sl rp vp 0 len)] m (.one (.bool (clB E bs))) (m.set rt (mapT (upTc ck (shaL bs) E) (upT ck (shaL bs) (strB bs) E))) := by
  rcases hf : fndT (shaL bs) E with _ | j
  · exact clash_none rt rp vp len ck E bs m ht hE hp hlen hl2 ho hf
  · exact clash_some rt rp vp len ck E bs m ht hE hp hlen hl2 ho j hf
/-- The text of a round; its key. -/
def pL (i len : Nat) : List Int := ((List.replicate len 0).set 0 (i : Int)).set (len - 1) (i : Int)
def kR (i : Nat) : List Int := (i : Int) :: 1 :: List.replicate 30 0
theorem pL_len (i len : Nat) : (pL i len).length = len := by simp [pL]
theorem pL_ok {i len : Nat} (hi : i < 60) : U8ok (pL i len) := fun x hx => by
  rcases List.mem_or_eq_of_mem_set hx with h | h
  · rcases List.mem_or_eq_of_mem_set h with h | h
    · rw [List.eq_of_mem_replicate h]; omega
    · omega
  · omega
theorem pL_head {i len : Nat} (h : 0 < len) : (pL i len)[0]? = some (i : Int) := by
  unfold pL
  rcases Nat.lt_or_ge 1 len with h1 | h1
  · rw [List.getElem?_set_ne (by omega), List.getElem?_set_self (by simpa using h)]
  · rw [show len - 1 = 0 by omega, List.getElem?_set_self (by simpa using h)]
theorem pL_ne {i j a b : Nat} (hi : 0 < a) (hj : 0 < b) (h : i ≠ j) : pL i a ≠ pL j b := fun e => by
  have h1 := pL_head (i := i) hi
  rw [e, pL_head hj] at h1
  injection h1 with h1; omega
theorem kR_len (i : Nat) : (kR i).length = 32 := rfl
theorem kR_ne {i j : Nat} (h : i ≠ j) : kR i ≠ kR j := fun e => by
  unfold kR at e; injection e with e _; omega
structure RQS where
  (i c : Nat) (V : VS) (D : DS) (E : TE) (ck : Nat)
structure RInv (n k cnt : Nat) (q : RQS) : Prop where
  i0 : q.i ≤ cnt
  i1 : q.i ≤ 60
  lin : Lin k q.V q.c
  liv : Liv n q.D
  fit : (k : Int) + offF q.V.f q.c ≤ (n : Int)
  lt : LT q.E
  key : ∀ j, j < q.c → ∃ t, t < q.i ∧ (q.V.f j).key = kR t
  txt : ∀ j, j < q.c → ∃ t l, t < q.i ∧ 0 < l ∧ (q.V.f j).sum = shaL (pL t l) ∧ lkT (q.V.f j).sum q.E = some (strB (pL t l))
theorem RInv.miss {n k cnt : Nat} {q : RQS} (h : RInv n k cnt q) : fnd (fdB (kR q.i)) q.V.f q.V.k < 0 := by
  rw [fnd_none fun j hj => ?_]; decide
  unfold fdB
  rw [h.lin.hk] at hj
  rcases Nat.lt_or_ge j q.c with h1 | h1
  · obtain ⟨t, h2, h3⟩ := h.key j h1
    rw [h3, decide_eq_false (kR_ne (by omega)), Bool.and_false]
  · rw [h.lin.zs j h1]; rfl
theorem RInv.fresh {n k cnt : Nat} {q : RQS} (h : RInv n k cnt q) {l : Nat} (hl : 0 < l) (hi : q.i < 60) (hc : clB q.E (pL q.i l) = false) (size : Int) : plB q.V (shaL (pL q.i l)) size = false := by
  unfold plB
  rw [fnd_none fun j hj => ?_]; rfl
  unfold pcB
  rw [h.lin.hk] at hj
  rcases Nat.lt_or_ge j q.c with h1 | h1
  · obtain ⟨t, l2, h2, h3, h4, h5⟩ := h.txt j h1
    rw [show decide ((q.V.f j).sum = shaL (pL q.i l)) = false from decide_eq_false fun e => ?_, Bool.false_and, Bool.and_false]
    unfold clB at hc
    rw [← e, h5] at hc
    simp only [toL_iff, Bool.not_eq_false', decide_eq_true_iff] at hc
    exact pL_ne hl h3 (by omega) (strB_inj (pL_ok hi) (pL_ok (by omega)) hc.symm)
  · rw [h.lin.zs j h1]; rfl
theorem RInv.other {n k cnt : Nat} {q : RQS} (h : RInv n k cnt q) {l : Nat} (hl : 0 < l) (hi : q.i < 60) (hc : clB q.E (pL q.i l) = false) {j : Nat} (hj : j < q.c) : ¬ (q.V.f j).sum = shaL (pL q.i l) := fun e => by
  obtain ⟨t, l2, h2, h3, h4, h5⟩ := h.txt j hj
  unfold clB at hc
  rw [← e, h5] at hc
  simp only [toL_iff, Bool.not_eq_false', decide_eq_true_iff] at hc
  exact pL_ne hl h3 (by omega) (strB_inj (pL_ok hi) (pL_ok (by omega)) hc.symm)
theorem RInv.full {n k cnt i c ck : Nat} {V : VS} {D : DS} {E : TE} (h : RInv n k cnt ⟨i, c, V, D, E, ck⟩) {l : Nat} (hl : 0 < l) (hi : i < 60) (hi2 : i < cnt) (hc : clB E (pL i l) = false) :
    RInv n k cnt ⟨i + 1, c, V, D, upT ck (shaL (pL i l)) (strB (pL i l)) E, upTc ck (shaL (pL i l)) E⟩ :=
  ⟨hi2, hi, h.lin, h.liv, h.fit, upT_lt (shaL_len _) h.lt, fun j hj => by
    obtain ⟨t, h1, h2⟩ := h.key j hj
    exact ⟨t, Nat.lt_succ_of_lt h1, h2⟩, fun j hj => by
    obtain ⟨t, l2, h1, h2, h3, h4⟩ := h.txt j hj
    refine ⟨t, l2, Nat.lt_succ_of_lt h1, h2, h3, ?_⟩
    show lkT (V.f j).sum (upT ck _ _ E) = _
    rw [lkT_up, if_neg (h.other hl hi hc hj)]; exact h4⟩
theorem RInv.room {n k cnt i c ck kk : Nat} {V : VS} {D D2 : DS} {E : TE} (h : RInv n k cnt ⟨i, c, V, D, E, ck⟩) {l : Nat} (hl : 0 < l) (hl2 : l ≤ 900) (hi : i < 60) (hi2 : i < cnt) (hc : clB E (pL i l) = false) (hck : c < k) (hkk : (kk : Int) = (k : Int) + offF V.f c) (hkn : kk ≤ 8192) (hfit : (kk : Int) + needZ (l : Int) ≤ (n : Int)) (hD : Liv n D2) :
    RInv n k cnt ⟨i + 1, c + 1, { V with f := upF V.f c ⟨2, kR i, shaL (pL i l), (l : Int), (kk : Int)⟩ }, D2, upT ck (shaL (pL i l)) (strB (pL i l)) E, upTc ck (shaL (pL i l)) E⟩ := by
  have hf := h.full hl hi hi2 hc
  have hs : OkS ⟨2, kR i, shaL (pL i l), (l : Int), (kk : Int)⟩ := ⟨⟨rfl, shaL_len _⟩, by show (0 : Int) ≤ (kk : Int); omega, by show (kk : Int) ≤ 4294967295; omega, by show (0 : Int) ≤ (l : Int); omega, by show (l : Int) ≤ 4294967295; omega⟩
  obtain ⟨l1, l2⟩ := h.lin.more hck hs (by show ¬ (2 : Int) = 0; decide) (by show (0 : Int) < (l : Int); omega) hkk
  refine ⟨hi2, hi, l1, hD, ?_, hf.lt, fun j hj => ?_, fun j hj => ?_⟩
  · show (k : Int) + offF (upF V.f c _) (c + 1) ≤ _
    rw [l2]
    show (k : Int) + (offF V.f c + needZ (l : Int)) ≤ _
    omega
  · show ∃ t, t < i + 1 ∧ (upF V.f c _ j).key = kR t
    unfold upF
    split
    · exact ⟨i, by omega, rfl⟩
    · exact hf.key j (by show j < c; have : j < c + 1 := hj; omega)
  · show ∃ t l2, t < i + 1 ∧ 0 < l2 ∧ (upF V.f c _ j).sum = _ ∧ lkT (upF V.f c _ j).sum _ = _
    unfold upF
    split
    · refine ⟨i, l, by omega, hl, rfl, ?_⟩
      show lkT (shaL (pL i l)) (upT ck _ _ E) = _
      rw [lkT_up, if_pos rfl]
    · exact hf.txt j (by show j < c; have : j < c + 1 := hj; omega)
theorem RInv.start (n k cnt : Nat) (h : (k : Int) ≤ (n : Int)) : RInv n k cnt ⟨0, 0, V0 k, D0, [], 0⟩ :=
  ⟨Nat.zero_le _, Nat.zero_le _, Lin.nil k, Liv.d0 n, by show (k : Int) + 0 ≤ (n : Int); omega, fun e he => (by cases he), fun j hj => (by cases hj), fun j hj => (by cases hj)⟩
end Go.Proofs.Ytdkfbbjpblfclaa

set_option linter.unusedSimpArgs false
set_option linter.unusedVariables false
set_option maxRecDepth 100000
set_option maxHeartbeats 4000000
namespace Go.Proofs.Ytdkfbbjpblfclaa
open Go Go.Eng

theorem zeros_u8 (n : Nat) : zeros (.int .u8 0) n = u8l (List.replicate n 0) := by
  unfold zeros
  refine List.ext_getElem? fun i => ?_
  simp only [u8l, List.map_replicate, List.getElem?_map, List.getElem?_replicate]
  by_cases h : i < n
  · rw [List.getElem?_range h, if_pos h]
    simp only [Option.map_some, Value.cells]
    have hm : i % (#[Value.int IntKind.u8 0] : Array Value).size = 0 := by show i % 1 = 0; omega
    rw [hm]; rfl
  · rw [List.getElem?_eq_none (by simp; omega), if_neg h]; rfl
theorem u8l_set (l : List Int) (j : Nat) (x : Int) : (u8l l).set j (.int .u8 x) = u8l (l.set j x) := by simp [u8l, List.map_set]
theorem room3 (c k : Nat) (a b : Int) : (c < k ∧ a ≤ b) ∨ (c < k ∧ ¬ a ≤ b) ∨ ¬ c < k := by omega
theorem Lin.pl {k c : Nat} {V : VS} (h : Lin k V c) (hk5 : k ≤ 512) {n : Nat} {sum : List Int} {size : Int} (hs : 0 < size) (hp : plB V sum size = false) : plZ V n sum size = if (n : Int) - ((k : Int) + offF V.f c) < needZ size then -1 else (k : Int) + offF V.f c := by
  unfold plZ
  rw [if_neg (of_decide_eq_false hp), h.tkl, h.hd]
  have := h.rm hk5 (nd := needZ size) (n := (n : Int)) (by have := needZ_pos hs; omega) c 0 (by omega)
  rwa [show (k : Int) + offF V.f 0 = (k : Int) from Int.add_zero _] at this
theorem Lin.find {k c : Nat} {V : VS} (h : Lin k V c) (hc : c < k) {s : SL} (hs : ¬ s.kind = 0) (hm : fnd (fdB s.key) V.f V.k < 0) : fnd (fdB s.key) (upF V.f c s) V.k = (c : Int) := by
  have hm2 := (fnd_neg hm).2
  refine fnd_first (by rw [h.hk]; exact hc) ?_ fun j hj => ?_
  · show fdB s.key (upF V.f c s c) = true
    rw [show upF V.f c s c = s from if_pos rfl]
    unfold fdB; rw [decide_eq_true hs, decide_eq_true rfl]; rfl
  · rw [show upF V.f c s j = V.f j from if_neg (by omega)]
    exact hm2 j (by rw [h.hk]; omega)
theorem clashR (m L : AMem) (n len ck ck2 : Nat) (V : VS) (D : DS) (E E2 : TE) (bs : List Int) (hE : LT E) (hlen : bs.length = len) (hl2 : len ≤ 1000000) (ho : U8ok bs) (h1 : E2 = upT ck (shaL bs) (strB bs) E) (h2 : ck2 = upTc ck (shaL bs) E) : Ctr Try.prog 9 [.one (.mp (m.length + 5) 0), .one (.sl (m.length + 6) 0 0 len)] (m ++ rowD n (D) :: mapD (D) :: drB m.length (m.length + 1) n (D) :: rS 0 (V).k (V).f :: vtB (m.length + 2) (m.length + 3) (V) :: mapT (ck) (E) :: ⟨.grow, 5, 0, 1, u8l bs⟩ :: L) (.one (.bool (clB E bs))) (m ++ rowD n (D) :: mapD (D) :: drB m.length (m.length + 1) n (D) :: rS 0 (V).k (V).f :: vtB (m.length + 2) (m.length + 3) (V) :: mapT (ck2) (E2) :: ⟨.grow, 5, 0, 1, u8l bs⟩ :: L) := by
  have h := clash_c (m.length + 5) (m.length + 6) 0 len ck E bs (m ++ rowD n (D) :: mapD (D) :: drB m.length (m.length + 1) n (D) :: rS 0 (V).k (V).f :: vtB (m.length + 2) (m.length + 3) (V) :: mapT (ck) (E) :: ⟨.grow, 5, 0, 1, u8l bs⟩ :: L) (by rw [lk_app]; rfl) hE ⟨.grow, 1, by rw [lk_app]; rfl⟩ hlen hl2 ho
  rw [set_app, ← h1, ← h2] at h
  exact h
theorem putR (m L : AMem) (n c kk N len ck : Nat) (V V2 : VS) (D D2 : DS) (E : TE) (key bs : List Int) (hf : ∀ i, OkS (V.f i)) (hk : V.k ≤ 512) (h0 : V.dead = 0) (hkey : key.length = 32) (hlen : bs.length = len) (hl2 : len ≤ 262144) (ho : U8ok bs)
    (hL : Liv n D) (hn : n ≤ 8192) (hd0 : 0 ≤ V.data) (hd1 : V.data ≤ 512) (hmiss : fnd (fdB key) V.f V.k < 0) (hkn : V.k ≤ n) (hfr : fnd (fun s => s.kind == 0) V.f V.k = (c : Int)) (hpl : plZ V n (shaL bs) (len : Int) = (kk : Int)) (hk8 : kk ≤ 8192) (hlb : plB V (shaL bs) (len : Int) = false) (hN : (N : Int) = needZ (len : Int)) (hkN : kk + N ≤ n)
    (hV2 : V2 = { V with f := upF V.f c ⟨2, key, shaL bs, (len : Int), (kk : Int)⟩ }) (hD2 : D2 = wsD (layS kk (chB bs) N 0 D).1 c ⟨2, key, shaL bs, (len : Int), (kk : Int)⟩) : Ctr Try.prog 10 [.one (.ptr (m.length + 4) 0 0), .one (.int .i64 2), .agg (u8l key), .one (.sl (m.length + 6) 0 0 len)] (m ++ rowD n (D) :: mapD (D) :: drB m.length (m.length + 1) n (D) :: rS 0 (V).k (V).f :: vtB (m.length + 2) (m.length + 3) (V) :: mapT (ck) (E) :: ⟨.grow, 5, 0, 1, u8l bs⟩ :: L) (.one (.int .i64 0)) (m ++ rowD n (D2) :: mapD (D2) :: drB m.length (m.length + 1) n (D2) :: rS 0 (V2).k (V2).f :: vtB (m.length + 2) (m.length + 3) (V2) :: mapT (ck) (E) :: ⟨.grow, 5, 0, 1, u8l bs⟩ :: L) := by
  have h := put_new (m.length + 4) (m.length + 3) (m.length + 2) m.length (m.length + 1) n V D _ (fresh_b m n V D (mapT ck E :: ⟨.grow, 5, 0, 1, u8l bs⟩ :: L)) hf hk h0 2 (.inr rfl) key hkey (m.length + 6) 0 len bs ⟨.grow, 1, by rw [lk_app]; rfl⟩ hlen hl2 ho hL hn hd0 hd1 hmiss hkn c hfr kk hpl hk8 hlb N hN hkN
  rw [fresh_set, ← hV2, ← hD2] at h
  exact h
theorem room_law (x : Int) (rz cnt : Nat) (xs : List Int) (m : AMem) (hz : ∃ kk ez, m[rz]? = some ⟨kk, 34, 0, ez, xs.map (CV.int .u16)⟩) (hcnt : xs.length = cnt) (hb : ∀ y, y ∈ xs → 0 ≤ y ∧ y ≤ 65535) (hc0 : cnt ≤ 9000000000000) : Ctr Try.prog 3 [.one (.int .i64 x), .one (.sl rz 0 0 cnt)] m (.one (.bool true)) m := by
  refine Ctr.enter Try.func3 rfl (by decide) (rs := [.tmp 4]) (nt := 157) rfl rfl fun hwf Q hQ => ?_
  obtain ⟨kz, ezz, hz⟩ := hz
  have lz := get_lt hz
  have w0 : 0 ≤ IntKind.u64.wrap x := by rw [IntKind.wrap_u64]; omega
  obtain ⟨y, hy⟩ : ∃ y : Nat, (y : Int) = IntKind.u64.wrap x % 400 := ⟨(IntKind.u64.wrap x % 400).toNat, by omega⟩
  have wy : (IntKind.u64.wrap x).tmod 400 = (y : Int) := by rw [Int.tmod_eq_emod_of_nonneg w0]; exact hy.symm
  have wy2 : IntKind.i64.wrap (y : Int) = (y : Int) := wi (by omega)
  obtain ⟨nn, hnn⟩ : ∃ q : Nat, q = 8 + y := ⟨_, rfl⟩
  have wn : IntKind.i64.wrap (8 + (y : Int)) = (nn : Int) := by rw [wi (by omega)]; omega
  obtain ⟨k, hk⟩ : ∃ q : Nat, q = nn / 4 := ⟨_, rfl⟩
  have hkz : (k : Int) = slotsZ (nn : Int) := by rw [slotsZ_nat nn (by omega)]; omega
  have hks := hkz.symm
  have k0 : (V0 k).k = k := rfl
  have hR0 := RInv.start nn k cnt (by omega)
  have e0 : mapT 0 [] = ⟨.map true false 0 [], 33, 0, 0, []⟩ := rfl
  have m0 : ∀ (L : AMem), m ++ rowD nn D0 :: mapD D0 :: drB m.length (m.length + 1) nn D0 :: L = m ++ rowD nn D0 :: mapD D0 :: drB m.length (m.length + 1) nn D0 :: L := fun _ => rfl
  
  iterate 2
    refine AW.seq_k fun K hK => ?_
    refine AW.region (by decide) ?_
    simp only [push_cast, simprocAttr, wy, wy2, wn, hks, hz, lk_old hz]
    refine Thn_n ?_
    refine hK _ _ ?_
    clear hK K
  refine AW.seq_k fun K hK => ?_
  refine AW.region (by decide) ?_
  simp only [push_cast, simprocAttr, wy, wy2, wn, hks, hz, lk_old hz]
  refine CThen.by (dnew_c nn _ (by omega) (by omega)) ?_
  simp only [push_cast, simprocAttr, wy, wy2, wn, hks, hz, lk_old hz]
  refine Thn_n ?_
  refine hK _ _ ?_
  clear hK K
  refine AW.seq_k fun K hK => ?_
  refine AW.region (by decide) ?_
  simp only [push_cast, simprocAttr, wy, wy2, wn, hks, hz, lk_old hz]
  refine CThen.by (open_c (m.length + 2) m.length (m.length + 1) nn k D0 (fun _ => zS) _ ⟨by rw [lk_app]; rfl, by rw [lk_app0]; rfl, by rw [lk_app]; rfl⟩ (d0_wf nn) rfl (by omega) hkz d0_ok (good0 nn k)) ?_
  simp only [push_cast, simprocAttr, wy, wy2, wn, hks, hz, lk_old hz]
  refine Thn_n ?_
  refine hK _ _ ?_
  clear hK K
  refine AW.seq_k fun K hK => ?_
  refine AW.seq_k fun K hK => ?_
  refine AW.region (by decide) ?_
  simp only [push_cast, simprocAttr, wy, wy2, wn, hks, hz, lk_old hz]
  refine CThen.by (awake_c _) ?_
  simp only [push_cast, simprocAttr, wy, wy2, wn, hks, hz, lk_old hz]
  refine Thn_n ?_
  refine hK _ _ ?_
  clear hK K
  refine AW.cond_f rfl ?_
  refine AW.skip ?_
  refine Thn_n ?_
  refine hK _ _ ?_
  clear hK K
  refine AW.seq_k fun K hK => ?_
  refine AW.region (by decide) ?_
  simp only [push_cast, simprocAttr, wy, wy2, wn, hks, hz, lk_old hz]
  refine Thn_n ?_
  refine hK _ _ ?_
  clear hK K
  refine AW.seq_k fun K hK => ?_
  refine AW.seq_k fun K hK => ?_
  refine AW.region (by decide) ?_
  simp only [push_cast, simprocAttr, wy, wy2, wn, hks, hz, lk_old hz]
  refine Thn_n ?_
  refine hK _ _ ?_
  clear hK K
  refine AW.block ?_
  refine AW.loopK [0, 7, 11, 44, 45] (fun (q : RQS) => RInv nn k cnt q) (fun (q : RQS) => [(9, .one (.int .i64 (offF q.V.f q.c))), (10, .one (.int .i64 (q.c : Int))), (46, .one (.int .i64 (q.i : Int)))]) (fun (q : RQS) => [(m.length, rowD nn q.D), (m.length + 1, mapD q.D), (m.length + 2, drB m.length (m.length + 1) nn q.D), (m.length + 3, rS 0 q.V.k q.V.f), (m.length + 4, vtB (m.length + 2) (m.length + 3) q.V), (m.length + 5, mapT q.ck q.E)]) (fun (q : RQS) => cnt - q.i) ⟨0, 0, V0 k, D0, [], 0⟩ hR0 ?_ ?_ fun (q : RQS) hi10 => ?_
  · first | rfl | (simp only [Keeps, Tm.get_cons, Nat.reduceEqDiff, ↓reduceIte, if_true, if_false, ite_true, ite_false, true_and, and_true, and_self, reduceCtorEq] <;> repeat' (first | rfl | apply And.intro))
  · first | rfl | (simp only [setAll, push_cast, simprocAttr, wy, wy2, wn, hks, hz, lk_old hz] <;> rfl)
  obtain ⟨i, c, V, D, E, ck⟩ := q
  have hI : RInv nn k cnt ⟨i, c, V, D, E, ck⟩ := hi10
  have i0 : i ≤ cnt := hI.i0
  have i60 : i ≤ 60 := hI.i1
  have lin : Lin k V c := hI.lin
  have liv : Liv nn D := hI.liv
  have fit : (k : Int) + offF V.f c ≤ (nn : Int) := hI.fit
  have hlt : LT E := hI.lt
  have hck0 := lin.ck
  have hoff : 0 ≤ offF V.f c := by
    rcases Nat.eq_zero_or_pos c with h | h
    · rw [h]; exact Int.le_refl _
    · have := lin.off_lt h (Nat.le_refl _); exact Int.le_of_lt this
  
  try simp only [keepL, setAll, push_cast, simprocAttr, wy, wy2, wn, hks, hz, lk_old hz]
  refine AW.seq_k fun K hK => ?_
  refine AW.region (by decide) ?_
  simp only [push_cast, simprocAttr, wy, wy2, wn, hks, hz, lk_old hz]
  refine Thn_n ?_
  refine hK _ _ ?_
  clear hK K
  refine AW.seq_k fun K hK => ?_
  refine AW.cond rfl (fun h47 => ?_) (fun h47 => ?_)
  · have hic : i < cnt := by have := of_decide_eq_true h47; omega
    obtain ⟨xv, hxv⟩ : ∃ q : Int, q = xs.getD i 0 := ⟨_, rfl⟩
    have hxg : (xs.map (CV.int .u16))[i]? = some (.int .u16 xv) := by rw [List.getElem?_map, List.getElem?_eq_getElem (by omega), hxv, List.getD_eq_getElem?_getD, List.getElem?_eq_getElem (by omega)]; rfl
    have hxb : 0 ≤ xv ∧ xv ≤ 65535 := by
      refine hb xv ?_
      rw [hxv, List.getD_eq_getElem?_getD, List.getElem?_eq_getElem (by omega)]
      exact List.getElem_mem _
    have xl : (xs.map (CV.int .u16)).length = cnt := by rw [List.length_map]; exact hcnt
    have c0 : (0 : Int) ≤ (i : Int) := by omega
    have c1 : (i : Int) < (cnt : Int) := by omega
    have c2 : i < cnt := hic
    refine AW.skip ?_
    refine Thn_n ?_
    refine hK _ _ ?_
    clear hK K
    refine AW.seq_k fun K hK => ?_
    refine AW.block ?_
    refine AW.seq_k fun K hK => ?_
    refine AW.region (by decide) ?_
    simp only [push_cast, simprocAttr, wy, wy2, wn, hks, hz, lk_old hz, hxg, xl, c0, c1, c2]
    refine Thn_n ?_
    refine hK _ _ ?_
    clear hK K
    refine AW.seq_k fun K hK => ?_
    refine AW.seq_k fun K hK => ?_
    refine AW.region (by decide) ?_
    simp only [push_cast, simprocAttr, wy, wy2, wn, hks, hz, lk_old hz, hxg, xl, c0, c1, c2]
    refine Thn_n ?_
    refine hK _ _ ?_
    clear hK K
    refine AW.cond rfl (fun h52 => ?_) (fun h52 => ?_)
    · have hend := True.intro
      refine AW.exit ?_
      refine Thn_e ?_
      clear hK K
      refine InB_far (by decide) ?_
      refine Thn_e ?_
      clear hK K
      refine Thn_e ?_
      refine InB_here ?_
      refine Thn_n ?_
      refine hK _ _ ?_
      clear hK K
      refine AW.seq_k fun K hK => ?_
      refine AW.region (by decide) ?_
      simp only [push_cast, simprocAttr, wy, wy2, wn, hks, hz, lk_old hz, hxg, xl, c0, c1, c2]
      refine Thn_n ?_
      refine hK _ _ ?_
      clear hK K
      refine AW.ret ?_
      refine hQ _ _ _ ?_
      first | refine RetP.drop0 (Or.inr rfl) ?_ ?_ hwf | refine RetP.drop (Or.inr rfl) ?_ ?_ hwf
      · simp only [resA, resOne, resTv, AV.tv, push_cast, simprocAttr, wy, wy2, wn, hks, hz, lk_old hz, hxg, xl, c0, c1, c2]
      · rfl
    · have hi6 : i < 60 := by have := of_decide_eq_false h52; omega
      have w54 : IntKind.i64.wrap xv = xv := wi (by omega)
      have tm : xv.tmod 900 = xv % 900 := Int.tmod_eq_emod_of_nonneg (by omega)
      obtain ⟨ln, hln⟩ : ∃ q : Nat, (q : Int) = 1 + xv % 900 := ⟨(1 + xv % 900).toNat, by omega⟩
      have w55 : IntKind.i64.wrap (xv % 900) = xv % 900 := wi (by omega)
      have w56 : IntKind.i64.wrap (1 + xv % 900) = (ln : Int) := by rw [wi (by omega)]; omega
      have l0 : 0 < ln := by omega
      have l9 : ln ≤ 900 := by omega
      have ql0 : (0 : Int) ≤ (ln : Int) := by omega
      have ql1 : (ln : Int) ≤ 281474976710656 := by omega
      have zu : zeros (.int .u8 0) ((ln : Int).toNat * 1) = u8l (List.replicate ln 0) := by rw [Int.toNat_natCast, Nat.mul_one]; exact zeros_u8 ln
      have ql6 : (1 : Int) * (ln : Int) ≤ 281474976710656 := by omega
      have wb : IntKind.u8.wrap (i : Int) = (i : Int) := by rw [w8]; omega
      obtain ⟨l1, hl1⟩ : ∃ q : Nat, q = ln - 1 := ⟨_, rfl⟩
      have wl1 : IntKind.i64.wrap ((ln : Int) - 1) = (l1 : Int) := by rw [wi (by omega)]; omega
      have ql2 : (0 : Int) ≤ (l1 : Int) := by omega
      have ql3 : (l1 : Int) < (ln : Int) := by omega
      have ql4 : l1 < ln := by omega
      have ql5 : (0 : Int) < (ln : Int) := by omega
      have ql7 : 1 ≤ ln := l0
      have ql8 : l1 + 1 ≤ ln := by omega
      have rl : (List.replicate ln (0 : Int)).length = ln := List.length_replicate
      have pf : ((List.replicate ln 0).set 0 (i : Int)).set l1 (i : Int) = pL i ln := by rw [hl1]; rfl
      have pll := pL_len i ln
      have pok := pL_ok (i := i) (len := ln) hi6
      have pul : (u8l (pL i ln)).length = ln := by rw [u8l_len]; exact pll
      have ptk : (u8l (pL i ln)).take ln = u8l (pL i ln) := List.take_of_length_le (by omega)
      have pba := bytesA_u8 (pL i ln)
      obtain ⟨E2, hE2⟩ : ∃ e, e = upT ck (shaL (pL i ln)) (strB (pL i ln)) E := ⟨_, rfl⟩
      obtain ⟨ck2, hck2⟩ : ∃ e, e = upTc ck (shaL (pL i ln)) E := ⟨_, rfl⟩
      have ekr : [CV.int .u8 (i : Int), CV.int .u8 1, CV.int .u8 0, CV.int .u8 0, CV.int .u8 0, CV.int .u8 0, CV.int .u8 0, CV.int .u8 0, CV.int .u8 0, CV.int .u8 0, CV.int .u8 0, CV.int .u8 0, CV.int .u8 0, CV.int .u8 0, CV.int .u8 0, CV.int .u8 0, CV.int .u8 0, CV.int .u8 0, CV.int .u8 0, CV.int .u8 0, CV.int .u8 0, CV.int .u8 0, CV.int .u8 0, CV.int .u8 0, CV.int .u8 0, CV.int .u8 0, CV.int .u8 0, CV.int .u8 0, CV.int .u8 0, CV.int .u8 0, CV.int .u8 0, CV.int .u8 0] = u8l (kR i) := rfl
      have kr32 : (u8l (kR i)).length = 32 := rfl
      have krt : (u8l (kR i)).take 32 = u8l (kR i) := rfl
      have krv := u8l_vals (kR i)
      have krz : setL [CV.int .u8 0, CV.int .u8 0, CV.int .u8 0, CV.int .u8 0, CV.int .u8 0, CV.int .u8 0, CV.int .u8 0, CV.int .u8 0, CV.int .u8 0, CV.int .u8 0, CV.int .u8 0, CV.int .u8 0, CV.int .u8 0, CV.int .u8 0, CV.int .u8 0, CV.int .u8 0, CV.int .u8 0, CV.int .u8 0, CV.int .u8 0, CV.int .u8 0, CV.int .u8 0, CV.int .u8 0, CV.int .u8 0, CV.int .u8 0, CV.int .u8 0, CV.int .u8 0, CV.int .u8 0, CV.int .u8 0, CV.int .u8 0, CV.int .u8 0, CV.int .u8 0, CV.int .u8 0] 0 (u8l (kR i)) = u8l (kR i) := setL_full rfl
      have nd1 := needZ_pos (x := (ln : Int)) (by omega)
      have nd2 := needZ_b (x := (ln : Int)) (by omega) (by omega)
      have vk5 : V.k ≤ 512 := by rw [lin.hk]; omega
      have vd0 : 0 ≤ V.data := by rw [lin.hd]; omega
      have vd1 : V.data ≤ 512 := by rw [lin.hd]; omega
      have vkn : V.k ≤ nn := by rw [lin.hk]; omega
      have k5 : k ≤ 512 := by omega
      have hmis := hI.miss
      have wkk : IntKind.i64.wrap ((nn : Int) - (k : Int)) = (nn : Int) - (k : Int) := wi (by omega)
      have woff : IntKind.i64.wrap (offF V.f c + needZ (ln : Int)) = offF V.f c + needZ (ln : Int) := wi (by omega)
      have wc1 : IntKind.i64.wrap ((c : Int) + 1) = (c : Int) + 1 := wi (by omega)
      have bq : ∀ z : Int, (z != z) = false := fun z => bne_self_eq_false z
      refine AW.skip ?_
      iterate 2
        refine Thn_n ?_
        refine hK _ _ ?_
        clear hK K
        refine AW.seq_k fun K hK => ?_
        refine AW.region (by decide) ?_
        simp only [push_cast, simprocAttr, wy, wy2, wn, hks, hz, lk_old hz, hxg, xl, c0, c1, c2, w54, tm, w55, w56, ql0, ql1, ql6, Int.toNat_natCast, Int.le_refl, ↓zu, wb, wl1, ql2, ql3, ql4, ql5, ql7, ql8, l0, u8l_set, u8l_len, List.length_set, rl, pf, pll, pul, ptk, pba, ekr, kr32, krt, krv, krz, wkk, woff, wc1, bq]
      refine Thn_n ?_
      refine hK _ _ ?_
      clear hK K
      refine AW.seq_k fun K hK => ?_
      refine AW.seq_k fun K hK => ?_
      refine AW.region (by decide) ?_
      simp only [push_cast, simprocAttr, wy, wy2, wn, hks, hz, lk_old hz, hxg, xl, c0, c1, c2, w54, tm, w55, w56, ql0, ql1, ql6, Int.toNat_natCast, Int.le_refl, ↓zu, wb, wl1, ql2, ql3, ql4, ql5, ql7, ql8, l0, u8l_set, u8l_len, List.length_set, rl, pf, pll, pul, ptk, pba, ekr, kr32, krt, krv, krz, wkk, woff, wc1, bq]
      refine CThen.by (clashR m [] nn ln ck ck2 V D E E2 (pL i ln) hlt pll (by omega) pok hE2 hck2) ?_
      simp only [push_cast, simprocAttr, wy, wy2, wn, hks, hz, lk_old hz, hxg, xl, c0, c1, c2, w54, tm, w55, w56, ql0, ql1, ql6, Int.toNat_natCast, Int.le_refl, ↓zu, wb, wl1, ql2, ql3, ql4, ql5, ql7, ql8, l0, u8l_set, u8l_len, List.length_set, rl, pf, pll, pul, ptk, pba, ekr, kr32, krt, krv, krz, wkk, woff, wc1, bq]
      refine Thn_n ?_
      refine hK _ _ ?_
      clear hK K
      refine AW.cond rfl (fun h71 => ?_) (fun h71 => ?_)
      · have hend := True.intro
        refine AW.seq_k fun K hK => ?_
        refine AW.region (by decide) ?_
        simp only [push_cast, simprocAttr, wy, wy2, wn, hks, hz, lk_old hz, hxg, xl, c0, c1, c2, w54, tm, w55, w56, ql0, ql1, ql6, Int.toNat_natCast, Int.le_refl, ↓zu, wb, wl1, ql2, ql3, ql4, ql5, ql7, ql8, l0, u8l_set, u8l_len, List.length_set, rl, pf, pll, pul, ptk, pba, ekr, kr32, krt, krv, krz, wkk, woff, wc1, bq]
        refine Thn_n ?_
        refine hK _ _ ?_
        clear hK K
        refine AW.ret ?_
        refine Thn_r ?_
        refine InB_r ?_
        refine Thn_r ?_
        refine Thn_r ?_
        refine InB_r ?_
        refine Thn_r ?_
        refine hQ _ _ _ ?_
        first | refine RetP.drop0 (Or.inr rfl) ?_ ?_ hwf | refine RetP.drop (Or.inr rfl) ?_ ?_ hwf
        · simp only [resA, resOne, resTv, AV.tv, push_cast, simprocAttr, wy, wy2, wn, hks, hz, lk_old hz, hxg, xl, c0, c1, c2, w54, tm, w55, w56, ql0, ql1, ql6, Int.toNat_natCast, Int.le_refl, ↓zu, wb, wl1, ql2, ql3, ql4, ql5, ql7, ql8, l0, u8l_set, u8l_len, List.length_set, rl, pf, pll, pul, ptk, pba, ekr, kr32, krt, krv, krz, wkk, woff, wc1, bq]
        · rfl
      · have hcl : clB E (pL i ln) = false := h71
        have hplb := fun sz => hI.fresh l0 hi6 hcl sz
        have hplz := lin.pl (n := nn) k5 (sum := shaL (pL i ln)) (size := (ln : Int)) (by omega) (hplb _)
        have hful := hI.full l0 hi6 hic hcl
        rw [← hE2, ← hck2] at hful
        refine AW.skip ?_
        refine Thn_n ?_
        refine hK _ _ ?_
        clear hK K
        refine AW.seq_k fun K hK => ?_
        refine AW.region (by decide) ?_
        simp only [push_cast, simprocAttr, wy, wy2, wn, hks, hz, lk_old hz, hxg, xl, c0, c1, c2, w54, tm, w55, w56, ql0, ql1, ql6, Int.toNat_natCast, Int.le_refl, ↓zu, wb, wl1, ql2, ql3, ql4, ql5, ql7, ql8, l0, u8l_set, u8l_len, List.length_set, rl, pf, pll, pul, ptk, pba, ekr, kr32, krt, krv, krz, wkk, woff, wc1, bq]
        refine Thn_n ?_
        refine hK _ _ ?_
        clear hK K
        refine AW.seq_k fun K hK => ?_
        rcases room3 c k (offF V.f c + needZ (ln : Int)) ((nn : Int) - (k : Int)) with ⟨h1, h2⟩ | ⟨h1, h2⟩ | h1
        · obtain ⟨kk, hkk⟩ : ∃ q : Nat, (q : Int) = (k : Int) + offF V.f c := ⟨((k : Int) + offF V.f c).toNat, by omega⟩
          obtain ⟨N, hN⟩ : ∃ q : Nat, (q : Int) = needZ (ln : Int) := ⟨(needZ (ln : Int)).toNat, by omega⟩
          have hpk : plZ V nn (shaL (pL i ln)) (ln : Int) = (kk : Int) := by rw [hplz, if_neg (by omega)]; exact hkk.symm
          obtain ⟨V2, hV2⟩ : ∃ v : VS, v = { V with f := upF V.f c ⟨2, kR i, shaL (pL i ln), (ln : Int), (kk : Int)⟩ } := ⟨_, rfl⟩
          obtain ⟨D2, hD2⟩ : ∃ d : DS, d = wsD (layS kk (chB (pL i ln)) N 0 D).1 c ⟨2, kR i, shaL (pL i ln), (ln : Int), (kk : Int)⟩ := ⟨_, rfl⟩
          have sw : WfS ⟨2, kR i, shaL (pL i ln), (ln : Int), (kk : Int)⟩ := ⟨rfl, shaL_len _⟩
          obtain ⟨nb1, nb2⟩ := needZ_nat hN (by omega)
          have liv2 : Liv nn D2 := by
            rw [hD2]
            exact ((Liv.lay (n := nn) (k := kk) (bl := chB (pL i ln)) (fun i => padB_len _) N 0 D liv (by omega)).2.ws (V := V) (fr := c) (by omega) sw).2
          have hI2 := hI.room (kk := kk) (D2 := D2) l0 l9 hi6 hic hcl h1 hkk (by omega) (by omega) liv2
          rw [← hE2, ← hck2, ← hV2] at hI2
          have lin2 : Lin k V2 (c + 1) := hI2.lin
          have ho2 : offF V2.f (c + 1) = offF V.f c + needZ (ln : Int) := by
            rw [hV2]
            exact (lin.more h1 (s := ⟨2, kR i, shaL (pL i ln), (ln : Int), (kk : Int)⟩) ⟨sw, by show (0 : Int) ≤ (kk : Int); omega, by show (kk : Int) ≤ 4294967295; omega, by show (0 : Int) ≤ (ln : Int); omega, by show (ln : Int) ≤ 4294967295; omega⟩ (by show ¬ (2 : Int) = 0; decide) (by show (0 : Int) < (ln : Int); omega) hkk).2
          have hcn2 : cntF V2.f V2.k = (c : Int) + 1 := by rw [lin2.cnt]; omega
          have hus2 : V2.us = offF V.f c + needZ (ln : Int) := by rw [lin2.us k5, ho2]
          have hf2 : fnd (fdB (kR i)) V2.f V2.k = (c : Int) := by
            rw [hV2]; exact lin.find h1 (s := ⟨2, kR i, shaL (pL i ln), (ln : Int), (kk : Int)⟩) (by show ¬ (2 : Int) = 0; decide) hmis
          have hat2 : V2.f c = ⟨2, kR i, shaL (pL i ln), (ln : Int), (kk : Int)⟩ := by rw [hV2]; exact if_pos rfl
          have hdat : (datL D2 kk N).take ln = pL i ln := by
            have := datL_put (n := nn) (D := D) (bs := pL i ln) (k := kk) (N := N) (c := c) (s := ⟨2, kR i, shaL (pL i ln), (ln : Int), (kk : Int)⟩) liv (by omega) (by omega) (by rw [pll]; omega)
            rw [pll, ← hD2] at this; exact this
          have hdok : U8ok (datL D2 kk N) := by
            have := datL_put_ok (n := nn) (D := D) (bs := pL i ln) (k := kk) (N := N) (c := c) (s := ⟨2, kR i, shaL (pL i ln), (ln : Int), (kk : Int)⟩) liv (by omega) (by omega) pok
            rw [← hD2] at this; exact this
          have dl := datL_len liv2.w kk N
          have dul : (u8l (datL D2 kk N)).length = N * 128 := by rw [u8l_len]; exact dl
          have dtk : (u8l (datL D2 kk N)).take ln = u8l (pL i ln) := by rw [u8l_take, hdat]
          have lN : ln ≤ N * 128 := by omega
          have g1 : (c : Int) < (k : Int) := by omega
          obtain ⟨nx, hnx, hnI, hnmu⟩ : ∃ nx : RQS, nx = ⟨i + 1, c + 1, V2, D2, E2, ck2⟩ ∧ RInv nn k cnt nx ∧ cnt - nx.i < cnt - i := ⟨_, rfl, hI2, by show cnt - (i + 1) < cnt - i; omega⟩
          refine AW.region (by decide) ?_
          simp only [push_cast, simprocAttr, wy, wy2, wn, hks, hz, lk_old hz, hxg, xl, c0, c1, c2, w54, tm, w55, w56, ql0, ql1, ql6, Int.toNat_natCast, Int.le_refl, ↓zu, wb, wl1, ql2, ql3, ql4, ql5, ql7, ql8, l0, u8l_set, u8l_len, List.length_set, rl, pf, pll, pul, ptk, pba, ekr, kr32, krt, krv, krz, wkk, woff, wc1, bq, g1, h2, hcn2, hus2, ho2, dul, dtk, lN]
          refine CThen.by (putR m _ nn c kk N ln ck2 V V2 D D2 E2 (kR i) (pL i ln) lin.ok vk5 lin.h0 (kR_len i) pll (by omega) pok liv (by omega) vd0 vd1 hmis vkn (lin.free h1) hpk (by omega) (hplb _) hN (by omega) hV2 hD2) ?_
          simp only [push_cast, simprocAttr, wy, wy2, wn, hks, hz, lk_old hz, hxg, xl, c0, c1, c2, w54, tm, w55, w56, ql0, ql1, ql6, Int.toNat_natCast, Int.le_refl, ↓zu, wb, wl1, ql2, ql3, ql4, ql5, ql7, ql8, l0, u8l_set, u8l_len, List.length_set, rl, pf, pll, pul, ptk, pba, ekr, kr32, krt, krv, krz, wkk, woff, wc1, bq, g1, h2, hcn2, hus2, ho2, dul, dtk, lN]
          refine Thn_n ?_
          refine hK _ _ ?_
          clear hK K
          refine AW.seq_k fun K hK => ?_
          refine AW.region (by decide) ?_
          simp only [push_cast, simprocAttr, wy, wy2, wn, hks, hz, lk_old hz, hxg, xl, c0, c1, c2, w54, tm, w55, w56, ql0, ql1, ql6, Int.toNat_natCast, Int.le_refl, ↓zu, wb, wl1, ql2, ql3, ql4, ql5, ql7, ql8, l0, u8l_set, u8l_len, List.length_set, rl, pf, pll, pul, ptk, pba, ekr, kr32, krt, krv, krz, wkk, woff, wc1, bq, g1, h2, hcn2, hus2, ho2, dul, dtk, lN]
          refine CThen.by (slots_c (nn : Int) _ (by omega) (by omega)) ?_
          simp only [push_cast, simprocAttr, wy, wy2, wn, hks, hz, lk_old hz, hxg, xl, c0, c1, c2, w54, tm, w55, w56, ql0, ql1, ql6, Int.toNat_natCast, Int.le_refl, ↓zu, wb, wl1, ql2, ql3, ql4, ql5, ql7, ql8, l0, u8l_set, u8l_len, List.length_set, rl, pf, pll, pul, ptk, pba, ekr, kr32, krt, krv, krz, wkk, woff, wc1, bq, g1, h2, hcn2, hus2, ho2, dul, dtk, lN]
          refine CThen.by (need_c (ln : Int) _ (by omega)) ?_
          simp only [push_cast, simprocAttr, wy, wy2, wn, hks, hz, lk_old hz, hxg, xl, c0, c1, c2, w54, tm, w55, w56, ql0, ql1, ql6, Int.toNat_natCast, Int.le_refl, ↓zu, wb, wl1, ql2, ql3, ql4, ql5, ql7, ql8, l0, u8l_set, u8l_len, List.length_set, rl, pf, pll, pul, ptk, pba, ekr, kr32, krt, krv, krz, wkk, woff, wc1, bq, g1, h2, hcn2, hus2, ho2, dul, dtk, lN]
          refine CThen.by (slots_c (nn : Int) _ (by omega) (by omega)) ?_
          simp only [push_cast, simprocAttr, wy, wy2, wn, hks, hz, lk_old hz, hxg, xl, c0, c1, c2, w54, tm, w55, w56, ql0, ql1, ql6, Int.toNat_natCast, Int.le_refl, ↓zu, wb, wl1, ql2, ql3, ql4, ql5, ql7, ql8, l0, u8l_set, u8l_len, List.length_set, rl, pf, pll, pul, ptk, pba, ekr, kr32, krt, krv, krz, wkk, woff, wc1, bq, g1, h2, hcn2, hus2, ho2, dul, dtk, lN]
          refine Thn_n ?_
          refine hK _ _ ?_
          clear hK K
          refine AW.seq_k fun K hK => ?_
          refine AW.seq_k fun K hK => ?_
          refine AW.region (by decide) ?_
          simp only [push_cast, simprocAttr, wy, wy2, wn, hks, hz, lk_old hz, hxg, xl, c0, c1, c2, w54, tm, w55, w56, ql0, ql1, ql6, Int.toNat_natCast, Int.le_refl, ↓zu, wb, wl1, ql2, ql3, ql4, ql5, ql7, ql8, l0, u8l_set, u8l_len, List.length_set, rl, pf, pll, pul, ptk, pba, ekr, kr32, krt, krv, krz, wkk, woff, wc1, bq, g1, h2, hcn2, hus2, ho2, dul, dtk, lN]
          refine Thn_n ?_
          refine hK _ _ ?_
          clear hK K
          refine AW.cond_f rfl ?_
          refine AW.skip ?_
          refine Thn_n ?_
          refine hK _ _ ?_
          clear hK K
          refine AW.seq_k fun K hK => ?_
          refine AW.seq_k fun K hK => ?_
          refine AW.region (by decide) ?_
          simp only [push_cast, simprocAttr, wy, wy2, wn, hks, hz, lk_old hz, hxg, xl, c0, c1, c2, w54, tm, w55, w56, ql0, ql1, ql6, Int.toNat_natCast, Int.le_refl, ↓zu, wb, wl1, ql2, ql3, ql4, ql5, ql7, ql8, l0, u8l_set, u8l_len, List.length_set, rl, pf, pll, pul, ptk, pba, ekr, kr32, krt, krv, krz, wkk, woff, wc1, bq, g1, h2, hcn2, hus2, ho2, dul, dtk, lN]
          refine Thn_n ?_
          refine hK _ _ ?_
          clear hK K
          refine AW.cond_t rfl ?_
          refine AW.region (by decide) ?_
          simp only [push_cast, simprocAttr, wy, wy2, wn, hks, hz, lk_old hz, hxg, xl, c0, c1, c2, w54, tm, w55, w56, ql0, ql1, ql6, Int.toNat_natCast, Int.le_refl, ↓zu, wb, wl1, ql2, ql3, ql4, ql5, ql7, ql8, l0, u8l_set, u8l_len, List.length_set, rl, pf, pll, pul, ptk, pba, ekr, kr32, krt, krv, krz, wkk, woff, wc1, bq, g1, h2, hcn2, hus2, ho2, dul, dtk, lN]
          refine CThen.by (need_c (ln : Int) _ (by omega)) ?_
          simp only [push_cast, simprocAttr, wy, wy2, wn, hks, hz, lk_old hz, hxg, xl, c0, c1, c2, w54, tm, w55, w56, ql0, ql1, ql6, Int.toNat_natCast, Int.le_refl, ↓zu, wb, wl1, ql2, ql3, ql4, ql5, ql7, ql8, l0, u8l_set, u8l_len, List.length_set, rl, pf, pll, pul, ptk, pba, ekr, kr32, krt, krv, krz, wkk, woff, wc1, bq, g1, h2, hcn2, hus2, ho2, dul, dtk, lN]
          refine Thn_n ?_
          refine hK _ _ ?_
          clear hK K
          refine AW.seq_k fun K hK => ?_
          refine AW.region (by decide) ?_
          simp only [push_cast, simprocAttr, wy, wy2, wn, hks, hz, lk_old hz, hxg, xl, c0, c1, c2, w54, tm, w55, w56, ql0, ql1, ql6, Int.toNat_natCast, Int.le_refl, ↓zu, wb, wl1, ql2, ql3, ql4, ql5, ql7, ql8, l0, u8l_set, u8l_len, List.length_set, rl, pf, pll, pul, ptk, pba, ekr, kr32, krt, krv, krz, wkk, woff, wc1, bq, g1, h2, hcn2, hus2, ho2, dul, dtk, lN]
          refine CThen.by (used_c (m.length + 4) (m.length + 3) (m.length + 2) V2 _ ⟨by rw [lk_app]; rfl, by rw [lk_app]; rfl⟩ lin2.ok (by rw [lin2.hk]; exact k5) lin2.h0 (by rw [lin2.hd]; omega) (by rw [lin2.hd]; omega)) ?_
          simp only [push_cast, simprocAttr, wy, wy2, wn, hks, hz, lk_old hz, hxg, xl, c0, c1, c2, w54, tm, w55, w56, ql0, ql1, ql6, Int.toNat_natCast, Int.le_refl, ↓zu, wb, wl1, ql2, ql3, ql4, ql5, ql7, ql8, l0, u8l_set, u8l_len, List.length_set, rl, pf, pll, pul, ptk, pba, ekr, kr32, krt, krv, krz, wkk, woff, wc1, bq, g1, h2, hcn2, hus2, ho2, dul, dtk, lN]
          refine Thn_n ?_
          refine hK _ _ ?_
          clear hK K
          refine AW.seq_k fun K hK => ?_
          refine AW.region (by decide) ?_
          simp only [push_cast, simprocAttr, wy, wy2, wn, hks, hz, lk_old hz, hxg, xl, c0, c1, c2, w54, tm, w55, w56, ql0, ql1, ql6, Int.toNat_natCast, Int.le_refl, ↓zu, wb, wl1, ql2, ql3, ql4, ql5, ql7, ql8, l0, u8l_set, u8l_len, List.length_set, rl, pf, pll, pul, ptk, pba, ekr, kr32, krt, krv, krz, wkk, woff, wc1, bq, g1, h2, hcn2, hus2, ho2, dul, dtk, lN]
          refine CThen.by (get_ok (m.length + 4) (m.length + 3) (m.length + 2) m.length (m.length + 1) nn V2 D2 _ (fresh_b m nn V2 D2 _) lin2.ok (by rw [lin2.hk]; exact k5) lin2.h0 (kR i) (kR_len i) liv2.w liv2.d (by omega) c hf2 kk N ln (by rw [hat2]) (by rw [hat2]) (by omega) hN (by omega) hdok (by rw [hdat, hat2])) ?_
          simp only [push_cast, simprocAttr, wy, wy2, wn, hks, hz, lk_old hz, hxg, xl, c0, c1, c2, w54, tm, w55, w56, ql0, ql1, ql6, Int.toNat_natCast, Int.le_refl, ↓zu, wb, wl1, ql2, ql3, ql4, ql5, ql7, ql8, l0, u8l_set, u8l_len, List.length_set, rl, pf, pll, pul, ptk, pba, ekr, kr32, krt, krv, krz, wkk, woff, wc1, bq, g1, h2, hcn2, hus2, ho2, dul, dtk, lN]
          refine Thn_n ?_
          refine hK _ _ ?_
          clear hK K
          refine AW.seq_k fun K hK => ?_
          refine AW.region (by decide) ?_
          simp only [push_cast, simprocAttr, wy, wy2, wn, hks, hz, lk_old hz, hxg, xl, c0, c1, c2, w54, tm, w55, w56, ql0, ql1, ql6, Int.toNat_natCast, Int.le_refl, ↓zu, wb, wl1, ql2, ql3, ql4, ql5, ql7, ql8, l0, u8l_set, u8l_len, List.length_set, rl, pf, pll, pul, ptk, pba, ekr, kr32, krt, krv, krz, wkk, woff, wc1, bq, g1, h2, hcn2, hus2, ho2, dul, dtk, lN]
          refine Thn_n ?_
          refine hK _ _ ?_
          clear hK K
          refine AW.cond_f rfl ?_
          refine AW.skip ?_
          refine InB_n ?_
          refine Thn_n ?_
          refine hK _ _ ?_
          clear hK K
          refine AW.region (by decide) ?_
          simp only [push_cast, simprocAttr, wy, wy2, wn, hks, hz, lk_old hz, hxg, xl, c0, c1, c2, w54, tm, w55, w56, ql0, ql1, ql6, Int.toNat_natCast, Int.le_refl, ↓zu, wb, wl1, ql2, ql3, ql4, ql5, ql7, ql8, l0, u8l_set, u8l_len, List.length_set, rl, pf, pll, pul, ptk, pba, ekr, kr32, krt, krv, krz, wkk, woff, wc1, bq, g1, h2, hcn2, hus2, ho2, dul, dtk, lN]
          refine Thn_n ?_
          have hwi : IntKind.i64.wrap ((i:Int)+1) = (i:Int)+1 := wi (by omega)
          refine ⟨nx, hnI, hnmu, ?_⟩
          try simp only [keepL, setAll, push_cast, simprocAttr, wy, wy2, wn, hks, hz, lk_old hz, hxg, xl, c0, c1, c2, w54, tm, w55, w56, ql0, ql1, ql6, Int.toNat_natCast, Int.le_refl, ↓zu, wb, wl1, ql2, ql3, ql4, ql5, ql7, ql8, l0, u8l_set, u8l_len, List.length_set, rl, pf, pll, pul, ptk, pba, ekr, kr32, krt, krv, krz, wkk, woff, wc1, bq, g1, h2, hcn2, hus2, ho2, dul, dtk, lN, hnx, hwi]
          first
            | exact Weak.to (extra := [_, _]) (by simp only [Keeps, Tm.get_cons, Nat.reduceEqDiff, ↓reduceIte, if_true, if_false, ite_true, ite_false, true_and, and_true, and_self, reduceCtorEq, hnx, hwi]) (by first | rfl | (simp only [List.append_assoc, List.cons_append, List.nil_append]; rfl)) (by first | rfl | (simp [AV.below, CV.below]; done) | (simp [AV.below, CV.below]; omega)) (by first | exact hwf | exact MWf.app (hwf.grow (by simp)) (MWf_cons (u8l_below _ _) (MWf_cons rfl (MWf_cons (by simp [drB, CV.below] <;> omega) (MWf_cons (cC_below _ _ _) (MWf_cons (vtB_below (by simp <;> omega) (by simp <;> omega) _) (MWf_cons rfl MWf_nil (tL_below _ _ _))))) (eL_below _ _ _))))
            | exact Weak.to (extra := [_, _, _]) (by simp only [Keeps, Tm.get_cons, Nat.reduceEqDiff, ↓reduceIte, if_true, if_false, ite_true, ite_false, true_and, and_true, and_self, reduceCtorEq, hnx, hwi]) (by first | rfl | (simp only [List.append_assoc, List.cons_append, List.nil_append]; rfl)) (by first | rfl | (simp [AV.below, CV.below]; done) | (simp [AV.below, CV.below]; omega)) (by first | exact hwf | exact MWf.app (hwf.grow (by simp)) (MWf_cons (u8l_below _ _) (MWf_cons rfl (MWf_cons (by simp [drB, CV.below] <;> omega) (MWf_cons (cC_below _ _ _) (MWf_cons (vtB_below (by simp <;> omega) (by simp <;> omega) _) (MWf_cons rfl MWf_nil (tL_below _ _ _))))) (eL_below _ _ _))))
        · have hpn : plZ V nn (shaL (pL i ln)) (ln : Int) < 0 := by rw [hplz, if_pos (by omega)]; decide
          have g1 : (c : Int) < (k : Int) := by omega
          have hcn2 := lin.cnt
          have hus2 := lin.us k5
          obtain ⟨nx, hnx, hnI, hnmu⟩ : ∃ nx : RQS, nx = ⟨i + 1, c, V, D, E2, ck2⟩ ∧ RInv nn k cnt nx ∧ cnt - nx.i < cnt - i := ⟨_, rfl, hful, by show cnt - (i + 1) < cnt - i; omega⟩
          refine AW.region (by decide) ?_
          simp only [push_cast, simprocAttr, wy, wy2, wn, hks, hz, lk_old hz, hxg, xl, c0, c1, c2, w54, tm, w55, w56, ql0, ql1, ql6, Int.toNat_natCast, Int.le_refl, ↓zu, wb, wl1, ql2, ql3, ql4, ql5, ql7, ql8, l0, u8l_set, u8l_len, List.length_set, rl, pf, pll, pul, ptk, pba, ekr, kr32, krt, krv, krz, wkk, woff, wc1, bq, g1, h2, hcn2, hus2]
          refine CThen.by (put_full2 (m.length + 4) (m.length + 3) (m.length + 2) m.length (m.length + 1) nn V D _ (fresh_b m nn V D _) lin.ok vk5 lin.h0 2 (.inr rfl) (kR i) (kR_len i) (m.length + 6) 0 ln (pL i ln) ⟨.grow, 1, by rw [lk_app]; rfl⟩ pll (by omega) pok liv.w liv.d (by omega) vd0 vd1 hmis c (lin.free h1) hpn) ?_
          simp only [push_cast, simprocAttr, wy, wy2, wn, hks, hz, lk_old hz, hxg, xl, c0, c1, c2, w54, tm, w55, w56, ql0, ql1, ql6, Int.toNat_natCast, Int.le_refl, ↓zu, wb, wl1, ql2, ql3, ql4, ql5, ql7, ql8, l0, u8l_set, u8l_len, List.length_set, rl, pf, pll, pul, ptk, pba, ekr, kr32, krt, krv, krz, wkk, woff, wc1, bq, g1, h2, hcn2, hus2]
          refine Thn_n ?_
          refine hK _ _ ?_
          clear hK K
          refine AW.seq_k fun K hK => ?_
          refine AW.region (by decide) ?_
          simp only [push_cast, simprocAttr, wy, wy2, wn, hks, hz, lk_old hz, hxg, xl, c0, c1, c2, w54, tm, w55, w56, ql0, ql1, ql6, Int.toNat_natCast, Int.le_refl, ↓zu, wb, wl1, ql2, ql3, ql4, ql5, ql7, ql8, l0, u8l_set, u8l_len, List.length_set, rl, pf, pll, pul, ptk, pba, ekr, kr32, krt, krv, krz, wkk, woff, wc1, bq, g1, h2, hcn2, hus2]
          refine CThen.by (slots_c (nn : Int) _ (by omega) (by omega)) ?_
          simp only [push_cast, simprocAttr, wy, wy2, wn, hks, hz, lk_old hz, hxg, xl, c0, c1, c2, w54, tm, w55, w56, ql0, ql1, ql6, Int.toNat_natCast, Int.le_refl, ↓zu, wb, wl1, ql2, ql3, ql4, ql5, ql7, ql8, l0, u8l_set, u8l_len, List.length_set, rl, pf, pll, pul, ptk, pba, ekr, kr32, krt, krv, krz, wkk, woff, wc1, bq, g1, h2, hcn2, hus2]
          refine CThen.by (need_c (ln : Int) _ (by omega)) ?_
          simp only [push_cast, simprocAttr, wy, wy2, wn, hks, hz, lk_old hz, hxg, xl, c0, c1, c2, w54, tm, w55, w56, ql0, ql1, ql6, Int.toNat_natCast, Int.le_refl, ↓zu, wb, wl1, ql2, ql3, ql4, ql5, ql7, ql8, l0, u8l_set, u8l_len, List.length_set, rl, pf, pll, pul, ptk, pba, ekr, kr32, krt, krv, krz, wkk, woff, wc1, bq, g1, h2, hcn2, hus2]
          refine CThen.by (slots_c (nn : Int) _ (by omega) (by omega)) ?_
          simp only [push_cast, simprocAttr, wy, wy2, wn, hks, hz, lk_old hz, hxg, xl, c0, c1, c2, w54, tm, w55, w56, ql0, ql1, ql6, Int.toNat_natCast, Int.le_refl, ↓zu, wb, wl1, ql2, ql3, ql4, ql5, ql7, ql8, l0, u8l_set, u8l_len, List.length_set, rl, pf, pll, pul, ptk, pba, ekr, kr32, krt, krv, krz, wkk, woff, wc1, bq, g1, h2, hcn2, hus2]
          iterate 2
            refine Thn_n ?_
            refine hK _ _ ?_
            clear hK K
            refine AW.seq_k fun K hK => ?_
            refine AW.seq_k fun K hK => ?_
            refine AW.region (by decide) ?_
            simp only [push_cast, simprocAttr, wy, wy2, wn, hks, hz, lk_old hz, hxg, xl, c0, c1, c2, w54, tm, w55, w56, ql0, ql1, ql6, Int.toNat_natCast, Int.le_refl, ↓zu, wb, wl1, ql2, ql3, ql4, ql5, ql7, ql8, l0, u8l_set, u8l_len, List.length_set, rl, pf, pll, pul, ptk, pba, ekr, kr32, krt, krv, krz, wkk, woff, wc1, bq, g1, h2, hcn2, hus2]
            refine Thn_n ?_
            refine hK _ _ ?_
            clear hK K
            refine AW.cond_f rfl ?_
            refine AW.skip ?_
          refine Thn_n ?_
          refine hK _ _ ?_
          clear hK K
          refine AW.seq_k fun K hK => ?_
          refine AW.region (by decide) ?_
          simp only [push_cast, simprocAttr, wy, wy2, wn, hks, hz, lk_old hz, hxg, xl, c0, c1, c2, w54, tm, w55, w56, ql0, ql1, ql6, Int.toNat_natCast, Int.le_refl, ↓zu, wb, wl1, ql2, ql3, ql4, ql5, ql7, ql8, l0, u8l_set, u8l_len, List.length_set, rl, pf, pll, pul, ptk, pba, ekr, kr32, krt, krv, krz, wkk, woff, wc1, bq, g1, h2, hcn2, hus2]
          refine CThen.by (used_c (m.length + 4) (m.length + 3) (m.length + 2) V _ ⟨by rw [lk_app]; rfl, by rw [lk_app]; rfl⟩ lin.ok vk5 lin.h0 vd0 vd1) ?_
          simp only [push_cast, simprocAttr, wy, wy2, wn, hks, hz, lk_old hz, hxg, xl, c0, c1, c2, w54, tm, w55, w56, ql0, ql1, ql6, Int.toNat_natCast, Int.le_refl, ↓zu, wb, wl1, ql2, ql3, ql4, ql5, ql7, ql8, l0, u8l_set, u8l_len, List.length_set, rl, pf, pll, pul, ptk, pba, ekr, kr32, krt, krv, krz, wkk, woff, wc1, bq, g1, h2, hcn2, hus2]
          refine Thn_n ?_
          refine hK _ _ ?_
          clear hK K
          refine AW.seq_k fun K hK => ?_
          refine AW.region (by decide) ?_
          simp only [push_cast, simprocAttr, wy, wy2, wn, hks, hz, lk_old hz, hxg, xl, c0, c1, c2, w54, tm, w55, w56, ql0, ql1, ql6, Int.toNat_natCast, Int.le_refl, ↓zu, wb, wl1, ql2, ql3, ql4, ql5, ql7, ql8, l0, u8l_set, u8l_len, List.length_set, rl, pf, pll, pul, ptk, pba, ekr, kr32, krt, krv, krz, wkk, woff, wc1, bq, g1, h2, hcn2, hus2]
          refine CThen.by (get_none (m.length + 4) (m.length + 3) (m.length + 2) m.length (m.length + 1) nn V D _ (fresh_b m nn V D _) lin.ok vk5 lin.h0 (kR i) (kR_len i) hmis) ?_
          simp only [push_cast, simprocAttr, wy, wy2, wn, hks, hz, lk_old hz, hxg, xl, c0, c1, c2, w54, tm, w55, w56, ql0, ql1, ql6, Int.toNat_natCast, Int.le_refl, ↓zu, wb, wl1, ql2, ql3, ql4, ql5, ql7, ql8, l0, u8l_set, u8l_len, List.length_set, rl, pf, pll, pul, ptk, pba, ekr, kr32, krt, krv, krz, wkk, woff, wc1, bq, g1, h2, hcn2, hus2]
          refine Thn_n ?_
          refine hK _ _ ?_
          clear hK K
          refine AW.seq_k fun K hK => ?_
          refine AW.region (by decide) ?_
          simp only [push_cast, simprocAttr, wy, wy2, wn, hks, hz, lk_old hz, hxg, xl, c0, c1, c2, w54, tm, w55, w56, ql0, ql1, ql6, Int.toNat_natCast, Int.le_refl, ↓zu, wb, wl1, ql2, ql3, ql4, ql5, ql7, ql8, l0, u8l_set, u8l_len, List.length_set, rl, pf, pll, pul, ptk, pba, ekr, kr32, krt, krv, krz, wkk, woff, wc1, bq, g1, h2, hcn2, hus2]
          refine Thn_n ?_
          refine hK _ _ ?_
          clear hK K
          refine AW.cond_f rfl ?_
          refine AW.skip ?_
          refine InB_n ?_
          refine Thn_n ?_
          refine hK _ _ ?_
          clear hK K
          refine AW.region (by decide) ?_
          simp only [push_cast, simprocAttr, wy, wy2, wn, hks, hz, lk_old hz, hxg, xl, c0, c1, c2, w54, tm, w55, w56, ql0, ql1, ql6, Int.toNat_natCast, Int.le_refl, ↓zu, wb, wl1, ql2, ql3, ql4, ql5, ql7, ql8, l0, u8l_set, u8l_len, List.length_set, rl, pf, pll, pul, ptk, pba, ekr, kr32, krt, krv, krz, wkk, woff, wc1, bq, g1, h2, hcn2, hus2]
          refine Thn_n ?_
          have hwi : IntKind.i64.wrap ((i:Int)+1) = (i:Int)+1 := wi (by omega)
          refine ⟨nx, hnI, hnmu, ?_⟩
          try simp only [keepL, setAll, push_cast, simprocAttr, wy, wy2, wn, hks, hz, lk_old hz, hxg, xl, c0, c1, c2, w54, tm, w55, w56, ql0, ql1, ql6, Int.toNat_natCast, Int.le_refl, ↓zu, wb, wl1, ql2, ql3, ql4, ql5, ql7, ql8, l0, u8l_set, u8l_len, List.length_set, rl, pf, pll, pul, ptk, pba, ekr, kr32, krt, krv, krz, wkk, woff, wc1, bq, g1, h2, hcn2, hus2, hnx, hwi]
          first
            | exact Weak.to (extra := [_, _]) (by simp only [Keeps, Tm.get_cons, Nat.reduceEqDiff, ↓reduceIte, if_true, if_false, ite_true, ite_false, true_and, and_true, and_self, reduceCtorEq, hnx, hwi]) (by first | rfl | (simp only [List.append_assoc, List.cons_append, List.nil_append]; rfl)) (by first | rfl | (simp [AV.below, CV.below]; done) | (simp [AV.below, CV.below]; omega)) (by first | exact hwf | exact MWf.app (hwf.grow (by simp)) (MWf_cons (u8l_below _ _) (MWf_cons rfl (MWf_cons (by simp [drB, CV.below] <;> omega) (MWf_cons (cC_below _ _ _) (MWf_cons (vtB_below (by simp <;> omega) (by simp <;> omega) _) (MWf_cons rfl MWf_nil (tL_below _ _ _))))) (eL_below _ _ _))))
            | exact Weak.to (extra := [_, _, _]) (by simp only [Keeps, Tm.get_cons, Nat.reduceEqDiff, ↓reduceIte, if_true, if_false, ite_true, ite_false, true_and, and_true, and_self, reduceCtorEq, hnx, hwi]) (by first | rfl | (simp only [List.append_assoc, List.cons_append, List.nil_append]; rfl)) (by first | rfl | (simp [AV.below, CV.below]; done) | (simp [AV.below, CV.below]; omega)) (by first | exact hwf | exact MWf.app (hwf.grow (by simp)) (MWf_cons (u8l_below _ _) (MWf_cons rfl (MWf_cons (by simp [drB, CV.below] <;> omega) (MWf_cons (cC_below _ _ _) (MWf_cons (vtB_below (by simp <;> omega) (by simp <;> omega) _) (MWf_cons rfl MWf_nil (tL_below _ _ _))))) (eL_below _ _ _))))
        · have g1 : ¬ (c : Int) < (k : Int) := by omega
          have hcn2 := lin.cnt
          have hus2 := lin.us k5
          obtain ⟨nx, hnx, hnI, hnmu⟩ : ∃ nx : RQS, nx = ⟨i + 1, c, V, D, E2, ck2⟩ ∧ RInv nn k cnt nx ∧ cnt - nx.i < cnt - i := ⟨_, rfl, hful, by show cnt - (i + 1) < cnt - i; omega⟩
          refine AW.region (by decide) ?_
          simp only [push_cast, simprocAttr, wy, wy2, wn, hks, hz, lk_old hz, hxg, xl, c0, c1, c2, w54, tm, w55, w56, ql0, ql1, ql6, Int.toNat_natCast, Int.le_refl, ↓zu, wb, wl1, ql2, ql3, ql4, ql5, ql7, ql8, l0, u8l_set, u8l_len, List.length_set, rl, pf, pll, pul, ptk, pba, ekr, kr32, krt, krv, krz, wkk, woff, wc1, bq, g1, hcn2, hus2]
          refine CThen.by (put_full1 (m.length + 4) (m.length + 3) (m.length + 2) m.length (m.length + 1) nn V D _ (fresh_b m nn V D _) lin.ok vk5 lin.h0 2 (.inr rfl) (kR i) (kR_len i) (m.length + 6) 0 ln (pL i ln) ⟨.grow, 1, by rw [lk_app]; rfl⟩ pll (by omega) pok liv.w liv.d (by omega) vd0 vd1 hmis (lin.full (by omega))) ?_
          simp only [push_cast, simprocAttr, wy, wy2, wn, hks, hz, lk_old hz, hxg, xl, c0, c1, c2, w54, tm, w55, w56, ql0, ql1, ql6, Int.toNat_natCast, Int.le_refl, ↓zu, wb, wl1, ql2, ql3, ql4, ql5, ql7, ql8, l0, u8l_set, u8l_len, List.length_set, rl, pf, pll, pul, ptk, pba, ekr, kr32, krt, krv, krz, wkk, woff, wc1, bq, g1, hcn2, hus2]
          refine Thn_n ?_
          refine hK _ _ ?_
          clear hK K
          refine AW.seq_k fun K hK => ?_
          refine AW.region (by decide) ?_
          simp only [push_cast, simprocAttr, wy, wy2, wn, hks, hz, lk_old hz, hxg, xl, c0, c1, c2, w54, tm, w55, w56, ql0, ql1, ql6, Int.toNat_natCast, Int.le_refl, ↓zu, wb, wl1, ql2, ql3, ql4, ql5, ql7, ql8, l0, u8l_set, u8l_len, List.length_set, rl, pf, pll, pul, ptk, pba, ekr, kr32, krt, krv, krz, wkk, woff, wc1, bq, g1, hcn2, hus2]
          refine CThen.by (slots_c (nn : Int) _ (by omega) (by omega)) ?_
          simp only [push_cast, simprocAttr, wy, wy2, wn, hks, hz, lk_old hz, hxg, xl, c0, c1, c2, w54, tm, w55, w56, ql0, ql1, ql6, Int.toNat_natCast, Int.le_refl, ↓zu, wb, wl1, ql2, ql3, ql4, ql5, ql7, ql8, l0, u8l_set, u8l_len, List.length_set, rl, pf, pll, pul, ptk, pba, ekr, kr32, krt, krv, krz, wkk, woff, wc1, bq, g1, hcn2, hus2]
          iterate 2
            refine Thn_n ?_
            refine hK _ _ ?_
            clear hK K
            refine AW.seq_k fun K hK => ?_
            refine AW.seq_k fun K hK => ?_
            refine AW.region (by decide) ?_
            simp only [push_cast, simprocAttr, wy, wy2, wn, hks, hz, lk_old hz, hxg, xl, c0, c1, c2, w54, tm, w55, w56, ql0, ql1, ql6, Int.toNat_natCast, Int.le_refl, ↓zu, wb, wl1, ql2, ql3, ql4, ql5, ql7, ql8, l0, u8l_set, u8l_len, List.length_set, rl, pf, pll, pul, ptk, pba, ekr, kr32, krt, krv, krz, wkk, woff, wc1, bq, g1, hcn2, hus2]
            refine Thn_n ?_
            refine hK _ _ ?_
            clear hK K
            refine AW.cond_f rfl ?_
            refine AW.skip ?_
          refine Thn_n ?_
          refine hK _ _ ?_
          clear hK K
          refine AW.seq_k fun K hK => ?_
          refine AW.region (by decide) ?_
          simp only [push_cast, simprocAttr, wy, wy2, wn, hks, hz, lk_old hz, hxg, xl, c0, c1, c2, w54, tm, w55, w56, ql0, ql1, ql6, Int.toNat_natCast, Int.le_refl, ↓zu, wb, wl1, ql2, ql3, ql4, ql5, ql7, ql8, l0, u8l_set, u8l_len, List.length_set, rl, pf, pll, pul, ptk, pba, ekr, kr32, krt, krv, krz, wkk, woff, wc1, bq, g1, hcn2, hus2]
          refine CThen.by (used_c (m.length + 4) (m.length + 3) (m.length + 2) V _ ⟨by rw [lk_app]; rfl, by rw [lk_app]; rfl⟩ lin.ok vk5 lin.h0 vd0 vd1) ?_
          simp only [push_cast, simprocAttr, wy, wy2, wn, hks, hz, lk_old hz, hxg, xl, c0, c1, c2, w54, tm, w55, w56, ql0, ql1, ql6, Int.toNat_natCast, Int.le_refl, ↓zu, wb, wl1, ql2, ql3, ql4, ql5, ql7, ql8, l0, u8l_set, u8l_len, List.length_set, rl, pf, pll, pul, ptk, pba, ekr, kr32, krt, krv, krz, wkk, woff, wc1, bq, g1, hcn2, hus2]
          refine Thn_n ?_
          refine hK _ _ ?_
          clear hK K
          refine AW.seq_k fun K hK => ?_
          refine AW.region (by decide) ?_
          simp only [push_cast, simprocAttr, wy, wy2, wn, hks, hz, lk_old hz, hxg, xl, c0, c1, c2, w54, tm, w55, w56, ql0, ql1, ql6, Int.toNat_natCast, Int.le_refl, ↓zu, wb, wl1, ql2, ql3, ql4, ql5, ql7, ql8, l0, u8l_set, u8l_len, List.length_set, rl, pf, pll, pul, ptk, pba, ekr, kr32, krt, krv, krz, wkk, woff, wc1, bq, g1, hcn2, hus2]
          refine CThen.by (get_none (m.length + 4) (m.length + 3) (m.length + 2) m.length (m.length + 1) nn V D _ (fresh_b m nn V D _) lin.ok vk5 lin.h0 (kR i) (kR_len i) hmis) ?_
          simp only [push_cast, simprocAttr, wy, wy2, wn, hks, hz, lk_old hz, hxg, xl, c0, c1, c2, w54, tm, w55, w56, ql0, ql1, ql6, Int.toNat_natCast, Int.le_refl, ↓zu, wb, wl1, ql2, ql3, ql4, ql5, ql7, ql8, l0, u8l_set, u8l_len, List.length_set, rl, pf, pll, pul, ptk, pba, ekr, kr32, krt, krv, krz, wkk, woff, wc1, bq, g1, hcn2, hus2]
          refine Thn_n ?_
          refine hK _ _ ?_
          clear hK K
          refine AW.seq_k fun K hK => ?_
          refine AW.region (by decide) ?_
          simp only [push_cast, simprocAttr, wy, wy2, wn, hks, hz, lk_old hz, hxg, xl, c0, c1, c2, w54, tm, w55, w56, ql0, ql1, ql6, Int.toNat_natCast, Int.le_refl, ↓zu, wb, wl1, ql2, ql3, ql4, ql5, ql7, ql8, l0, u8l_set, u8l_len, List.length_set, rl, pf, pll, pul, ptk, pba, ekr, kr32, krt, krv, krz, wkk, woff, wc1, bq, g1, hcn2, hus2]
          refine Thn_n ?_
          refine hK _ _ ?_
          clear hK K
          refine AW.cond_f rfl ?_
          refine AW.skip ?_
          refine InB_n ?_
          refine Thn_n ?_
          refine hK _ _ ?_
          clear hK K
          refine AW.region (by decide) ?_
          simp only [push_cast, simprocAttr, wy, wy2, wn, hks, hz, lk_old hz, hxg, xl, c0, c1, c2, w54, tm, w55, w56, ql0, ql1, ql6, Int.toNat_natCast, Int.le_refl, ↓zu, wb, wl1, ql2, ql3, ql4, ql5, ql7, ql8, l0, u8l_set, u8l_len, List.length_set, rl, pf, pll, pul, ptk, pba, ekr, kr32, krt, krv, krz, wkk, woff, wc1, bq, g1, hcn2, hus2]
          refine Thn_n ?_
          have hwi : IntKind.i64.wrap ((i:Int)+1) = (i:Int)+1 := wi (by omega)
          refine ⟨nx, hnI, hnmu, ?_⟩
          try simp only [keepL, setAll, push_cast, simprocAttr, wy, wy2, wn, hks, hz, lk_old hz, hxg, xl, c0, c1, c2, w54, tm, w55, w56, ql0, ql1, ql6, Int.toNat_natCast, Int.le_refl, ↓zu, wb, wl1, ql2, ql3, ql4, ql5, ql7, ql8, l0, u8l_set, u8l_len, List.length_set, rl, pf, pll, pul, ptk, pba, ekr, kr32, krt, krv, krz, wkk, woff, wc1, bq, g1, hcn2, hus2, hnx, hwi]
          first
            | exact Weak.to (extra := [_, _]) (by simp only [Keeps, Tm.get_cons, Nat.reduceEqDiff, ↓reduceIte, if_true, if_false, ite_true, ite_false, true_and, and_true, and_self, reduceCtorEq, hnx, hwi]) (by first | rfl | (simp only [List.append_assoc, List.cons_append, List.nil_append]; rfl)) (by first | rfl | (simp [AV.below, CV.below]; done) | (simp [AV.below, CV.below]; omega)) (by first | exact hwf | exact MWf.app (hwf.grow (by simp)) (MWf_cons (u8l_below _ _) (MWf_cons rfl (MWf_cons (by simp [drB, CV.below] <;> omega) (MWf_cons (cC_below _ _ _) (MWf_cons (vtB_below (by simp <;> omega) (by simp <;> omega) _) (MWf_cons rfl MWf_nil (tL_below _ _ _))))) (eL_below _ _ _))))
            | exact Weak.to (extra := [_, _, _]) (by simp only [Keeps, Tm.get_cons, Nat.reduceEqDiff, ↓reduceIte, if_true, if_false, ite_true, ite_false, true_and, and_true, and_self, reduceCtorEq, hnx, hwi]) (by first | rfl | (simp only [List.append_assoc, List.cons_append, List.nil_append]; rfl)) (by first | rfl | (simp [AV.below, CV.below]; done) | (simp [AV.below, CV.below]; omega)) (by first | exact hwf | exact MWf.app (hwf.grow (by simp)) (MWf_cons (u8l_below _ _) (MWf_cons rfl (MWf_cons (by simp [drB, CV.below] <;> omega) (MWf_cons (cC_below _ _ _) (MWf_cons (vtB_below (by simp <;> omega) (by simp <;> omega) _) (MWf_cons rfl MWf_nil (tL_below _ _ _))))) (eL_below _ _ _))))
  · have hend := True.intro
    refine AW.exit ?_
    refine Thn_e ?_
    clear hK K
    refine Thn_e ?_
    refine InB_here ?_
    refine Thn_n ?_
    refine hK _ _ ?_
    clear hK K
    refine AW.seq_k fun K hK => ?_
    refine AW.region (by decide) ?_
    simp only [push_cast, simprocAttr, wy, wy2, wn, hks, hz, lk_old hz]
    refine Thn_n ?_
    refine hK _ _ ?_
    clear hK K
    refine AW.ret ?_
    refine hQ _ _ _ ?_
    first | refine RetP.drop0 (Or.inr rfl) ?_ ?_ hwf | refine RetP.drop (Or.inr rfl) ?_ ?_ hwf
    · simp only [resA, resOne, resTv, AV.tv, push_cast, simprocAttr, wy, wy2, wn, hks, hz, lk_old hz]
    · rfl
end Go.Proofs.Ytdkfbbjpblfclaa
