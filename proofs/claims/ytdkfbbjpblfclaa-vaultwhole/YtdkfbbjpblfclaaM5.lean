/- Walks and facts of this seat's program over abstract states, printed by programs of mine; no conditions but those that each theorem names. -/
import Derived.Test.YtdkfbbjpblfclaaM4
set_option linter.unusedSimpArgs false
set_option linter.unusedVariables false
set_option maxRecDepth 100000
set_option maxHeartbeats 4000000
namespace Go.Proofs.Ytdkfbbjpblfclaa
open Go Go.Eng
def pcB (sum : List Int) (size : Int) (s : SL) : Bool := decide (¬ s.kind = 0) && (decide (s.sum = sum) && decide (s.size = size))
noncomputable def plZ (V : VS) (n : Nat) (sum : List Int) (size : Int) : Int := if 0 ≤ fnd (pcB sum size) V.f V.k then (V.f (fnd (pcB sum size) V.f V.k).toNat).fr else rmGo V.tg (needZ size) (n : Int) V.tk.length 0 V.data
def plB (V : VS) (sum : List Int) (size : Int) : Bool := decide (0 ≤ fnd (pcB sum size) V.f V.k)
theorem place_c (rv rl rd : Nat) (V : VS) (m : AMem) (h : HasV m rv rl rd V) (hf : ∀ i, OkS (V.f i)) (hk : V.k ≤ 512) (rs rm n : Nat) (D : DS) (hd : m[rd]? = some (drB rs rm n D)) (hn : n ≤ 8192) (hd0 : 0 ≤ V.data) (hd1 : V.data ≤ 512) (sum : List Int) (size : Int) (hsum : sum.length = 32) (hs0 : 0 ≤ size) (hs1 : size ≤ 262144) : Ctr Try.prog 34 [.one (.ptr rv 0 0), .agg (u8l sum), .one (.int .i64 size)] m (.tup [(false, [.int .i64 (plZ V n sum size)]), (false, [.bool (plB V sum size)])]) m := by
 refine Ctr.enter Try.func34 rfl (by decide) (rs := [.tmp 6, .tmp 7]) (nt := 41) rfl rfl fun hwf Q hQ => ?_
 have hv := h.v
 have hl := h.l
 have lv := get_lt hv
 have ll := get_lt hl
 have gl : (cC V.k V.f).length = V.k * 67 := cC_len hf V.k
 have sl := fun i => slC_len (hf i).w
 have f0 := fun i => slC_0 (V.f i)
 have f2 := fun i => slC_2 (hf i).w
 have f3 := fun i => slC_3 (hf i).w
 have f4 := fun i => slC_4 (hf i).w
 have zb := fun i => zb0 (sl i)
 have kl : (u8l sum).length = 32 := by rw [u8l_len]; exact hsum
 have kt : (u8l sum).take 32 = u8l sum := List.take_of_length_le (by omega)
 have eq := fun i => eqpn (hf i).w.s hsum
 obtain ⟨b0, b1⟩ := needZ_b hs0 (by omega)
 refine AW.sr 1 fun K hK => ?_
 have pk_1 : _ ∧ _ ∧ _ ∧ _ ∧ _ ∧ _ ∧ _ ∧ _ ∧ _ ∧ _ ∧ _ ∧ _ ∧ _ ∧ _ := ⟨hv, hl, lk_old hv, lk_old hl, gl, sl, f0, f2, f3, f4, zb, kl, kt, eq⟩
 simp only [push_cast, simprocAttr, vtB, rS, slC_vals, pk_1]
 apply hK;clear hK K
 refine AW.seq_k fun K hK => ?_
 refine AW.sr 1 fun K hK => ?_
 simp only [push_cast, simprocAttr, vtB, rS, slC_vals, pk_1]
 apply hK;clear hK K
 refine AW.block ?_
 refine AW.loopK [0, 2, 4, 13, 14] (fun i => i ≤ V.k ∧ fnd (pcB sum size) V.f i < 0) (fun i => [(15, .one (.int .i64 (i : Int)))]) (fun i => []) (fun i => V.k - i) 0 ⟨Nat.zero_le _, by show (-1 : Int) < 0; decide⟩ ?_ ?_ fun i hi2 => ?_
 · first | rfl | (simp only [KS, simprocAttr] <;> repeat' (first | rfl | apply And.intro))
 · first | rfl | (simp only [setAll, push_cast, simprocAttr, vtB, rS, slC_vals, pk_1] <;> rfl)
 obtain ⟨i1, i2⟩ := hi2
 try simp only [keepL, setAll, push_cast, simprocAttr, vtB, rS, slC_vals, pk_1]
 refine AW.sr 1 fun K hK => ?_
 simp only [push_cast, simprocAttr, vtB, rS, slC_vals, pk_1]
 apply hK;clear hK K
 refine AW.seq_k fun K hK => ?_
 refine AW.cond rfl (fun h16 => ?_) (fun h16 => ?_)
 ·have hlt : i < V.k := by have := of_decide_eq_true h16; omega
  have lx := cC_at (n := V.k) (f := V.f) hf hlt
  have c0 : (0 : Int) ≤ (i : Int) := by omega
  have c1 : (i : Int) < (V.k : Int) := by omega
  have c2 : i * 67 + 67 ≤ V.k * 67 := by omega
  refine AW.skip ?_
  apply hK;clear hK K
  refine AW.seq_k fun K hK => ?_
  refine AW.block ?_
  refine AW.sr 1 fun K hK => ?_
  have pk_2 : _ ∧ _ ∧ _ ∧ _ ∧ _ := ⟨pk_1, lx, c0, c1, c2⟩
  simp only [push_cast, simprocAttr, vtB, rS, slC_vals, pk_2]
  apply hK;clear hK K
  refine AW.seq_k fun K hK => ?_
  refine AW.viaJ [0, 2, 4, 9, 13, 14, 15] [(33, .one (.bool (pcB sum size (V.f i))))] [] ?_ ?_
  ·rcases Classical.em ((V.f i).kind = 0) with kz | kz
   rotate_left 1
   rcases Classical.em ((V.f i).sum = sum) with ks | ks
   rotate_left 2
   ·have q0 : ((V.f i).kind != 0) = false := by simp [kz]
    have ht : pcB sum size (V.f i) = false := by simp [pcB, kz]
    refine AW.rg ?_
    simp only [push_cast, simprocAttr, vtB, rS, slC_vals, pk_2, q0]
    refine Thn_n ?_
    try simp only [keepL, setAll, push_cast, simprocAttr, vtB, rS, slC_vals, pk_2, q0, ht]
    exact Weak.same (by simp only [KS, simprocAttr, ht]) (by first | rfl | simp only [KS, simprocAttr, ht])
   ·have q0 : ((V.f i).kind != 0) = true := by simp [kz]
    have eq2 := (eq i).trans (congrArg some (decide_eq_true ks))
    rw [ks] at eq2
    have ht : pcB sum size (V.f i) = ((V.f i).size == size) := by simp only [pcB, kz, ks, decide_true, not_false_eq_true, Bool.true_and]; rw [Bool.eq_iff_iff]; simp
    refine AW.rg ?_
    simp only [push_cast, simprocAttr, vtB, rS, slC_vals, pk_2, q0, ks, eq2]
    refine Thn_n ?_
    try simp only [keepL, setAll, push_cast, simprocAttr, vtB, rS, slC_vals, pk_2, q0, ks, eq2, ht]
    exact Weak.same (by simp only [KS, simprocAttr, ht]) (by first | rfl | simp only [KS, simprocAttr, ht])
   ·have q0 : ((V.f i).kind != 0) = true := by simp [kz]
    have ht : pcB sum size (V.f i) = false := by simp [pcB, ks]
    refine AW.rg ?_
    simp only [push_cast, simprocAttr, vtB, rS, slC_vals, pk_2, q0, ks]
    refine Thn_n ?_
    try simp only [keepL, setAll, push_cast, simprocAttr, vtB, rS, slC_vals, pk_2, q0, ks, ht]
    exact Weak.same (by simp only [KS, simprocAttr, ht]) (by first | rfl | simp only [KS, simprocAttr, ht])
  try simp only [keepL, setAll, push_cast, simprocAttr, vtB, rS, slC_vals, pk_2]
  apply hK;clear hK K
  refine AW.cond rfl (fun h33 => ?_) (fun h33 => ?_)
  ·have hit := fnd_hit i2 h33 hlt
   have hp1 : plZ V n sum size = (V.f i).fr := by unfold plZ; rw [hit, if_pos (by omega)]; rfl
   have hp2 : plB V sum size = true := by unfold plB; rw [hit]; exact decide_eq_true (by omega)
   refine AW.sr 1 fun K hK => ?_
   simp only [push_cast, simprocAttr, vtB, rS, slC_vals, pk_2, hp1, hp2]
   apply hK;clear hK K
   refine AW.ret ?_
   refine InB_r ?_
   refine Thn_r ?_
   refine Thn_r ?_
   refine InB_r ?_
   refine Thn_r ?_
   refine hQ _ _ _ ?_
   first | refine RetP.drop0 (Or.inr rfl) ?_ ?_ hwf | refine RetP.drop (Or.inr rfl) ?_ ?_ hwf
   · simp only [resA, resOne, resTv, AV.tv, push_cast, simprocAttr, vtB, rS, slC_vals, pk_2, hp1, hp2]
   · rfl
  ·refine AW.skip ?_
   refine InB_n ?_
   apply hK;clear hK K
   refine AW.rg ?_
   simp only [push_cast, simprocAttr, vtB, rS, slC_vals, pk_2]
   refine Thn_n ?_
   have hwi : IntKind.i64.wrap ((i:Int)+1) = (i:Int)+1 := wi (by omega)
   refine ⟨i + 1, ⟨by omega, fnd_miss i2 h33⟩, by omega, ?_⟩
   try simp only [keepL, setAll, push_cast, simprocAttr, vtB, rS, slC_vals, pk_2, hwi]
   exact Weak.to (extra := [_]) (by simp only [KS, simprocAttr, hwi]) (by first | rfl | (simp only [List.append_assoc, List.cons_append, List.nil_append]; rfl)) (by first | rfl | (simp [AV.below, CV.below]; done) | (simp [AV.below, CV.below]; omega)) (by first | exact hwf | exact MWf.app (hwf.grow (by simp)) (MWf_one (u8l_below _ _)))
 ·have hin : i = V.k := by have := of_decide_eq_false h16; omega
  subst hin
  have hng : ¬ 0 ≤ fnd (pcB sum size) V.f V.k := by omega
  have hp1 : plZ V n sum size = rmGo V.tg (needZ size) (n : Int) V.tk.length 0 V.data := by unfold plZ; rw [if_neg hng]
  have hp2 : plB V sum size = false := decide_eq_false hng
  refine AW.exit ?_
  refine Thn_e ?_
  clear hK K
  refine Thn_e ?_
  refine InB_here ?_
  apply hK;clear hK K
  refine AW.sr 1 fun K hK => ?_
  simp only [push_cast, simprocAttr, vtB, rS, slC_vals, pk_1, hp1, hp2]
  refine CThen.by (need_c size _ (by omega)) ?_
  simp only [push_cast, simprocAttr, vtB, rS, slC_vals, pk_1, hp1, hp2]
  refine CThen.by (room_c rv rl rd V _ (h.mono _) hf hk rs rm n D (lk_old hd _) hn (needZ size) b0 (by omega) hd0 hd1) ?_
  simp only [push_cast, simprocAttr, vtB, rS, slC_vals, pk_1, hp1, hp2]
  apply hK;clear hK K
  refine AW.ret ?_
  refine hQ _ _ _ ?_
  first | refine RetP.drop0 (Or.inr rfl) ?_ ?_ hwf | refine RetP.drop (Or.inr rfl) ?_ ?_ hwf
  · simp only [resA, resOne, resTv, AV.tv, push_cast, simprocAttr, vtB, rS, slC_vals, pk_1, hp1, hp2]
  · rfl
def wrS (D : DS) (k : Nat) (v : List Int) : DS × Int := if D.fuse = 0 then (spD D, 5) else (wrD D (k : Int) v, 0)
def syS (D : DS) : DS × Int := if D.fuse = 0 then (spD D, 5) else (syD D, 0)
def layS (k : Nat) (bl : Nat → List Int) : Nat → Nat → DS → DS × Int
 | 0, _, D => syS D
 | r + 1, i, D => if D.fuse = 0 then (spD D, 5) else layS k bl r (i + 1) (wrD D ((k + i : Nat) : Int) (bl i))
def padB (l : List Int) : List Int := l.take 128 ++ List.replicate (128 - l.length) 0
theorem padB_len (l : List Int) : (padB l).length = 128 := by simp only [padB, List.length_append, List.length_take, List.length_replicate]; omega
def chB (bs : List Int) (i : Nat) : List Int := padB (bs.drop (i * 128))
theorem z128_pad (l : List Int) : setL [CV.int .u8 0, CV.int .u8 0, CV.int .u8 0, CV.int .u8 0, CV.int .u8 0, CV.int .u8 0, CV.int .u8 0, CV.int .u8 0, CV.int .u8 0, CV.int .u8 0, CV.int .u8 0, CV.int .u8 0, CV.int .u8 0, CV.int .u8 0, CV.int .u8 0, CV.int .u8 0, CV.int .u8 0, CV.int .u8 0, CV.int .u8 0, CV.int .u8 0, CV.int .u8 0, CV.int .u8 0, CV.int .u8 0, CV.int .u8 0, CV.int .u8 0, CV.int .u8 0, CV.int .u8 0, CV.int .u8 0, CV.int .u8 0, CV.int .u8 0, CV.int .u8 0, CV.int .u8 0, CV.int .u8 0, CV.int .u8 0, CV.int .u8 0, CV.int .u8 0, CV.int .u8 0, CV.int .u8 0, CV.int .u8 0, CV.int .u8 0, CV.int .u8 0, CV.int .u8 0, CV.int .u8 0, CV.int .u8 0, CV.int .u8 0, CV.int .u8 0, CV.int .u8 0, CV.int .u8 0, CV.int .u8 0, CV.int .u8 0, CV.int .u8 0, CV.int .u8 0, CV.int .u8 0, CV.int .u8 0, CV.int .u8 0, CV.int .u8 0, CV.int .u8 0, CV.int .u8 0, CV.int .u8 0, CV.int .u8 0, CV.int .u8 0, CV.int .u8 0, CV.int .u8 0, CV.int .u8 0, CV.int .u8 0, CV.int .u8 0, CV.int .u8 0, CV.int .u8 0, CV.int .u8 0, CV.int .u8 0, CV.int .u8 0, CV.int .u8 0, CV.int .u8 0, CV.int .u8 0, CV.int .u8 0, CV.int .u8 0, CV.int .u8 0, CV.int .u8 0, CV.int .u8 0, CV.int .u8 0, CV.int .u8 0, CV.int .u8 0, CV.int .u8 0, CV.int .u8 0, CV.int .u8 0, CV.int .u8 0, CV.int .u8 0, CV.int .u8 0, CV.int .u8 0, CV.int .u8 0, CV.int .u8 0, CV.int .u8 0, CV.int .u8 0, CV.int .u8 0, CV.int .u8 0, CV.int .u8 0, CV.int .u8 0, CV.int .u8 0, CV.int .u8 0, CV.int .u8 0, CV.int .u8 0, CV.int .u8 0, CV.int .u8 0, CV.int .u8 0, CV.int .u8 0, CV.int .u8 0, CV.int .u8 0, CV.int .u8 0, CV.int .u8 0, CV.int .u8 0, CV.int .u8 0, CV.int .u8 0, CV.int .u8 0, CV.int .u8 0, CV.int .u8 0, CV.int .u8 0, CV.int .u8 0, CV.int .u8 0, CV.int .u8 0, CV.int .u8 0, CV.int .u8 0, CV.int .u8 0, CV.int .u8 0, CV.int .u8 0, CV.int .u8 0, CV.int .u8 0, CV.int .u8 0, CV.int .u8 0] 0 ((u8l l).take (min l.length 128)) = u8l (padB l) := by
 have h1 := setL_in (u8l (l.take 128)) (List.replicate (min l.length 128) (CV.int .u8 0)) (List.replicate (128 - l.length) (CV.int .u8 0)) (by rw [List.length_replicate, u8l_len, List.length_take, Nat.min_comm]) []
 rw [List.nil_append, List.nil_append, List.replicate_append_replicate, show min l.length 128 + (128 - l.length) = 128 by omega] at h1
 have e : (u8l l).take (min l.length 128) = u8l (l.take 128) := by
  rw [u8l_take]; congr 1
  rcases Nat.lt_or_ge l.length 128 with h | h
  ·rw [Nat.min_eq_left (by omega), List.take_of_length_le (Nat.le_refl _), List.take_of_length_le (by omega)]
  ·rw [Nat.min_eq_right h]
 rw [e]
 unfold padB
 rw [← u8l_app, show u8l (List.replicate (128 - l.length) 0) = List.replicate (128 - l.length) (CV.int .u8 0) by simp [u8l]]
 exact h1
theorem wr_any (rd rs rm n k : Nat) (D : DS) (v : List Int) (m : AMem) (hv : v.length = 128) (h : HasD m rd rs rm n D) (hd : D.down = false) (hk : k < n) : Ctr Try.prog 37 [.one (.ptr rd 0 0), .one (.int .i64 (k : Int)), .agg (u8l v)] m (.one (.int .i64 (wrS D k v).2)) (setD m rd rs rm n (wrS D k v).1) := by
 unfold wrS
 split
 ·rename_i hz; exact wr_no rd rs rm n D k v m hv h hd (by omega) (by omega) hz
 ·rename_i hz; exact wr_ok rd rs rm n D k v m hv h hd (by omega) (by omega) hz
theorem sy_any (rd rs rm n : Nat) (D : DS) (m : AMem) (h : HasD m rd rs rm n D) (hd : D.down = false) (hw : WfD n D) : Ctr Try.prog 39 [.one (.ptr rd 0 0)] m (.one (.int .i64 (syS D).2)) (setD m rd rs rm n (syS D).1) := by
 unfold syS
 split
 ·rename_i hz; exact sy_no rd rs rm n D m h hd hz
 ·rename_i hz; exact sy_ok rd rs rm n D m h hd hw hz
theorem wrD_down (D : DS) (k : Int) (v : List Int) (h : ¬ D.fuse = 0) : (wrD D k v).down = D.down := by unfold wrD spD; rw [if_neg h]
theorem layS_go {k N i : Nat} {bl : Nat → List Int} {D : DS} (h : i < N) (hz : ¬ D.fuse = 0) : layS k bl (N - i) i D = layS k bl (N - (i + 1)) (i + 1) (wrD D ((k + i : Nat) : Int) (bl i)) := by
 rw [show N - i = (N - (i + 1)) + 1 by omega]
 show (if D.fuse = 0 then _ else _) = _
 rw [if_neg hz]
theorem layS_no {k N i : Nat} {bl : Nat → List Int} {D : DS} (h : i < N) (hz : D.fuse = 0) : layS k bl (N - i) i D = (spD D, 5) := by
 rw [show N - i = (N - (i + 1)) + 1 by omega]
 show (if D.fuse = 0 then _ else _) = _
 rw [if_pos hz]
theorem lay_c (rv rl rd : Nat) (V : VS) (m : AMem) (h : HasV m rv rl rd V) (rs rm n : Nat) (D : DS) (hd : HasD m rd rs rm n D) (hwd : WfD n D) (hdn : D.down = false) (hn : n ≤ 8192) (k N rp vp len : Nat) (bs : List Int) (hp : ∃ kk ez, m[rp]? = some ⟨kk, 5, vp, ez, u8l bs⟩) (hlen : bs.length = len) (hl2 : len ≤ 262144) (hN : (N : Int) = needZ (len : Int)) (hkN : k + N ≤ n) : Ctr Try.prog 35 [.one (.ptr rv 0 0), .one (.int .i64 (k : Int)), .one (.sl rp vp 0 len)] m (.one (.int .i64 (layS k (chB bs) N 0 D).2)) (setD m rd rs rm n (layS k (chB bs) N 0 D).1) := by
 refine Ctr.enter Try.func35 rfl (by decide) (rs := [.tmp 6]) (nt := 40) rfl rfl fun hwf Q hQ => ?_
 obtain ⟨kk, ez, hp⟩ := hp
 have hv := h.v
 have lv := get_lt hv
 have lpp := get_lt hp
 have hrd := hd.d
 have ld := get_lt hd.d
 have lr := get_lt hd.r
 have lm := get_lt hd.m
 have sdl := fun D' => setD_len m rd rs rm n D'
 have sdh := fun D' => hd.set D'
 have sda : ∀ D1 D2 X, setD (setD m rd rs rm n D1 ++ X) rd rs rm n D2 = setD m rd rs rm n D2 ++ X := fun D1 D2 X => by rw [setD_app (hd.set D1), setD_twice hd]
 have sd0 : ∀ D2 X, setD (m ++ X) rd rs rm n D2 = setD m rd rs rm n D2 ++ X := fun D2 X => setD_app hd D2 X
 have sdt : ∀ D1 D2, setD (setD m rd rs rm n D1) rd rs rm n D2 = setD m rd rs rm n D2 := fun D1 D2 => setD_twice hd D1 D2
 have sdf : ∀ D', ((m.set rd (drB rs rm n D')).set rs (rowD n D')).set rm (mapD D') = setD m rd rs rm n D' := fun _ => rfl
 have sdd : ∀ D', (setD m rd rs rm n D')[rd]? = some (drB rs rm n D') := fun D' => (hd.set D').d
 have gS := fun (D' : DS) (L : AMem) => mk_lk0 (m := m) (l := setD m rd rs rm n D') (setD_len m rd rs rm n D') L
 have kS := fun (D' : DS) (L : AMem) (k : Nat) => mk_lk (m := m) (l := setD m rd rs rm n D') (setD_len m rd rs rm n D') L k
 have tS := fun (D' : DS) (L : AMem) (k : Nat) (b : Blk) => mk_set (m := m) (l := setD m rd rs rm n D') (setD_len m rd rs rm n D') L k b
 have t0S := fun (D' : DS) (L : AMem) (b : Blk) => mk_set0 (m := m) (l := setD m rd rs rm n D') (setD_len m rd rs rm n D') L b
 have hwfD := fun D' => setD_wf (rd := rd) (n := n) hwf lr lm D'
 have ov := fun D' => setD_other (rs := rs) (rm := rm) (rd := rd) (n := n) (D := D') hv (by rintro rfl; rw [hd.d] at hv; simp [vtB, rS, drB] at hv) (by rintro rfl; rw [hd.r] at hv; simp [vtB, rS, rowD] at hv) (by rintro rfl; rw [hd.m] at hv; simp [vtB, rS, mapD] at hv)
 have op := fun D' => setD_other (rs := rs) (rm := rm) (rd := rd) (n := n) (D := D') hp (by rintro rfl; rw [hd.d] at hp; simp [vtB, rS, drB] at hp) (by rintro rfl; rw [hd.r] at hp; simp [vtB, rS, rowD] at hp) (by rintro rfl; rw [hd.m] at hp; simp [vtB, rS, mapD] at hp)
 obtain ⟨b1, b2⟩ := needZ_nat hN (by omega)
 have ul : (u8l bs).length = len := by rw [u8l_len]; exact hlen
 have hset0 : setD m rd rs rm n D = m := hd.same
 have hnd : needZ (len : Int) = (N : Int) := hN.symm
 refine AW.sr 1 fun K hK => ?_
 have pk_1 : _ ∧ _ ∧ _ ∧ _ ∧ _ ∧ _ ∧ _ ∧ _ ∧ _ ∧ _ ∧ _ ∧ _ ∧ _ ∧ _ := ⟨sdl, sda, sd0, sdt, sdf, gS, kS, tS, t0S, hp, lk_old hp, hv, lk_old hv, hnd⟩
 simp only [push_cast, simprocAttr, vtB, ul, u8l_len, List.length_set, pk_1]
 apply hK;clear hK K
 refine AW.seq_k fun K hK => ?_
 refine AW.sr 1 fun K hK => ?_
 simp only [push_cast, simprocAttr, vtB, ul, u8l_len, List.length_set, pk_1]
 refine CThen.by (need_c (len : Int) _ (by omega)) ?_
 simp only [push_cast, simprocAttr, vtB, ul, u8l_len, List.length_set, pk_1]
 apply hK;clear hK K
 refine AW.block ?_
 refine AW.loopK [0, 1, 2, 12] (fun (q : Nat × DS) => q.1 ≤ N ∧ q.2.down = false ∧ WfD n q.2 ∧ layS k (chB bs) (N - q.1) q.1 q.2 = layS k (chB bs) N 0 D) (fun (q : Nat × DS) => [(13, .one (.int .i64 (q.1 : Int)))]) (fun (q : Nat × DS) => [(rd, drB rs rm n q.2), (rs, rowD n q.2), (rm, mapD q.2)]) (fun (q : Nat × DS) => N - q.1) (0, D) ⟨Nat.zero_le _, hdn, hwd, rfl⟩ ?_ ?_ fun (q : Nat × DS) hi2 => ?_
 · first | rfl | (simp only [KS, simprocAttr] <;> repeat' (first | rfl | apply And.intro))
 · exact hset0
 obtain ⟨i, D2⟩ := q
 obtain ⟨j1, j2, j3, j4⟩ := hi2
 simp only at j1 j2 j3 j4
 try simp only [keepL, setAll, push_cast, simprocAttr, vtB, ul, u8l_len, List.length_set, pk_1]
 refine AW.sr 1 fun K hK => ?_
 simp only [push_cast, simprocAttr, vtB, ul, u8l_len, List.length_set, pk_1]
 apply hK;clear hK K
 refine AW.seq_k fun K hK => ?_
 refine AW.cond rfl (fun h14 => ?_) (fun h14 => ?_)
 ·have hlt : i < N := by have := of_decide_eq_true h14; omega
  obtain ⟨x, hx⟩ : ∃ q : Nat, q = k + i := ⟨_, rfl⟩
  have wx : IntKind.i64.wrap ((k : Int) + (i : Int)) = (x : Int) := by rw [wi (by omega)]; omega
  have hvD := ov D2
  have hpD := op D2
  obtain ⟨y, hy⟩ : ∃ q : Nat, q = i * 128 := ⟨_, rfl⟩
  have wy : IntKind.i64.wrap ((i : Int) * 128) = (y : Int) := by rw [wi (by omega)]; omega
  have y0 : (0 : Int) ≤ (y : Int) := by omega
  have y1 : (y : Int) ≤ (len : Int) := by omega
  obtain ⟨z, hz0⟩ : ∃ q : Nat, q = len - y := ⟨_, rfl⟩
  have wz := hz0.symm
  have yz : y + z ≤ len := by omega
  have dz : ((u8l bs).drop y).take z = u8l (bs.drop y) := by rw [u8l_drop, u8l_take, List.take_of_length_le (by rw [List.length_drop]; omega)]
  have lz : (u8l (bs.drop y)).length = z := by rw [u8l_len, List.length_drop]; omega
  have lz2 : (bs.drop y).length = z := by rw [List.length_drop]; omega
  have zp := z128_pad (bs.drop y)
  rw [lz2] at zp
  have ech : padB (bs.drop y) = chB bs i := by rw [hy]; rfl
  have lc : (u8l (chB bs i)).length = 128 := by rw [u8l_len]; exact padB_len _
  have tc : (u8l (chB bs i)).take 128 = u8l (chB bs i) := List.take_of_length_le (by omega)
  have vz := u8l_vals (bs.drop y)
  have vc := u8l_vals (chB bs i)
  have zpos : 0 < z := by omega
  have mz : min z 128 ≤ 128 := Nat.min_le_right _ _
  have mz0 : 0 < min z 128 := by omega
  refine AW.skip ?_
  apply hK;clear hK K
  refine AW.seq_k fun K hK => ?_
  refine AW.block ?_
  refine AW.sr 2 fun K hK => ?_
  have pk_2 : _ ∧ _ ∧ _ ∧ _ ∧ _ ∧ _ ∧ _ ∧ _ ∧ _ ∧ _ ∧ _ ∧ _ ∧ _ ∧ _ ∧ _ ∧ _ ∧ _ ∧ _ ∧ _ ∧ _ ∧ _ ∧ _ := ⟨pk_1, wx, hvD, hpD, lk_old hvD, lk_old hpD, wy, y0, y1, yz, wz, dz, lz, lz2, zp, ech, lc, tc, vz, vc, mz, mz0⟩
  simp only [push_cast, simprocAttr, vtB, ul, u8l_len, List.length_set, Nat.le_refl, Int.le_refl, pk_2]
  apply hK;clear hK K
  refine AW.seq_k fun K hK => ?_
  refine AW.draw [.ext, .val, .val, .val, .val, .wr] fol (by decide) (by kernel_rfl) ?_
  simp only [push_cast, simprocAttr, vtB, ul, u8l_len, List.length_set, Nat.le_refl, Int.le_refl, pk_2]
  refine DExt.by (by first | rfl | exact (List.append_nil _).symm | (simp only [List.append_assoc, List.cons_append, List.nil_append]; rfl)) ?_
  simp only [push_cast, simprocAttr, vtB, ul, u8l_len, List.length_set, Nat.le_refl, Int.le_refl, pk_2]
  apply hK;clear hK K
  refine AW.seq_k fun K hK => ?_
  refine AW.draw [.val, .val, .val, .rd 0, .val, .val, .val, .rd 0, .wr, .val] fol (by decide) (by kernel_rfl) ?_
  simp only [push_cast, simprocAttr, vtB, ul, u8l_len, List.length_set, Nat.le_refl, Int.le_refl, pk_2]
  refine DCallW.by (wr_any rd rs rm n x D2 (chB bs i) _ (padB_len _) ((sdh D2).mono _) j2 (by omega)) ?_
  simp only [push_cast, simprocAttr, vtB, ul, u8l_len, List.length_set, Nat.le_refl, Int.le_refl, pk_2]
  apply hK;clear hK K
  refine AW.sr 1 fun K hK => ?_
  simp only [push_cast, simprocAttr, vtB, ul, u8l_len, List.length_set, Nat.le_refl, Int.le_refl, pk_2]
  apply hK;clear hK K
  refine AW.cond rfl (fun h32 => ?_) (fun h32 => ?_)
  ·have hz : D2.fuse = 0 := Classical.byContradiction fun hc => by
     unfold wrS at h32; rw [if_neg hc] at h32; simp at h32
   have e1 : wrS D2 x (chB bs i) = (spD D2, 5) := if_pos hz
   have hfin : layS k (chB bs) N 0 D = (spD D2, 5) := by rw [← j4]; exact layS_no hlt hz
   refine AW.sr 1 fun K hK => ?_
   simp only [push_cast, simprocAttr, vtB, ul, u8l_len, List.length_set, Nat.le_refl, Int.le_refl, pk_2, e1, hfin]
   apply hK;clear hK K
   refine AW.ret ?_
   refine InB_r ?_
   refine Thn_r ?_
   refine Thn_r ?_
   refine InB_r ?_
   refine Thn_r ?_
   refine hQ _ _ _ ?_
   rw [hfin]
   first | refine RetP.dropM0 (setD_len _ _ _ _ _ _) (by first | exact Or.inr rfl | exact Or.inl rfl) ?_ ?_ (hwfD _) | refine RetP.dropM (setD_len _ _ _ _ _ _) (by first | exact Or.inr rfl | exact Or.inl rfl) ?_ ?_ (hwfD _)
   · simp only [resA, resOne, resTv, AV.tv, push_cast, simprocAttr]
   · rfl
  ·have hz : ¬ D2.fuse = 0 := fun hc => by
     unfold wrS at h32; rw [if_pos hc] at h32; simp at h32
   have e1 : wrS D2 x (chB bs i) = (wrD D2 (x : Int) (chB bs i), 0) := if_neg hz
   obtain ⟨nx, hnx, hnI, hnmu⟩ : ∃ nx : Nat × DS, nx = (i + 1, wrD D2 (x : Int) (chB bs i)) ∧ (nx.1 ≤ N ∧ nx.2.down = false ∧ WfD n nx.2 ∧ layS k (chB bs) (N - nx.1) nx.1 nx.2 = layS k (chB bs) N 0 D) ∧ N - nx.1 < N - i := ⟨_, rfl, ⟨by show i + 1 ≤ N; omega, by show (wrD D2 _ _).down = false; rw [wrD_down _ _ _ hz]; exact j2, wrD_wf j3 (by omega) (by omega) (padB_len _), by rw [← j4, layS_go hlt hz, hx]⟩, by show N - (i + 1) < N - i; omega⟩
   refine AW.skip ?_
   refine InB_n ?_
   apply hK;clear hK K
   refine AW.rg ?_
   simp only [push_cast, simprocAttr, vtB, ul, u8l_len, List.length_set, Nat.le_refl, Int.le_refl, pk_2, e1]
   refine Thn_n ?_
   have hwi : IntKind.i64.wrap ((i:Int)+1) = (i:Int)+1 := wi (by omega)
   refine ⟨nx, hnI, hnmu, ?_⟩
   try simp only [keepL, setAll, push_cast, simprocAttr, vtB, ul, u8l_len, List.length_set, Nat.le_refl, Int.le_refl, pk_2, e1, hnx, hwi]
   exact Weak.to (extra := [_]) (by simp only [KS, simprocAttr, hnx, hwi]) (by first | rfl | (simp only [List.append_assoc, List.cons_append, List.nil_append]; rfl)) (by first | rfl | (simp [AV.below, CV.below, sdl]; done) | (simp [AV.below, CV.below, sdl]; omega)) (by first | exact hwf | (rw [show (setAll m [(rd, drB rs rm n (wrD D2 (x : Int) (chB bs i))), (rs, rowD n (wrD D2 (x : Int) (chB bs i))), (rm, mapD (wrD D2 (x : Int) (chB bs i)))]).length = m.length from sdl _]; exact hwfD _) | (simp only [sdl]; exact hwfD _) | (show MWf (setD m rd rs rm n (wrD D2 (x : Int) (chB bs i))).length (setD m rd rs rm n (wrD D2 (x : Int) (chB bs i))); rw [sdl]; exact hwfD _))
 ·have hin : i = N := by have := of_decide_eq_false h14; omega
  subst hin
  have hvD := ov D2
  rw [Nat.sub_self] at j4
  have hfin : layS k (chB bs) i 0 D = syS D2 := j4.symm
  refine AW.exit ?_
  refine Thn_e ?_
  clear hK K
  refine Thn_e ?_
  refine InB_here ?_
  apply hK;clear hK K
  refine AW.sr 1 fun K hK => ?_
  simp only [push_cast, simprocAttr, vtB, ul, u8l_len, List.length_set, pk_1, hvD, lk_old hvD, hfin]
  refine CThen.by (sy_any rd rs rm n D2 _ (by first | exact (sdh D2).mono _ | exact sdh D2) j2 j3) ?_
  simp only [push_cast, simprocAttr, vtB, ul, u8l_len, List.length_set, pk_1, hvD, lk_old hvD, hfin]
  apply hK;clear hK K
  refine AW.ret ?_
  refine hQ _ _ _ ?_
  rw [hfin]
  first | refine RetP.dropM0 (setD_len _ _ _ _ _ _) (by first | exact Or.inr rfl | exact Or.inl rfl) ?_ ?_ (hwfD _) | refine RetP.dropM (setD_len _ _ _ _ _ _) (by first | exact Or.inr rfl | exact Or.inl rfl) ?_ ?_ (hwfD _)
  · simp only [resA, resOne, resTv, AV.tv, push_cast, simprocAttr]
  · rfl
structure HasB (m : AMem) (rv rl rd rs rm n : Nat) (V : VS) (D : DS) : Prop where
 v : HasV m rv rl rd V
 d : HasD m rd rs rm n D
def setB (m : AMem) (rv rl rd rs rm n : Nat) (V : VS) (D : DS) : AMem := setD (setV m rv rl rd V) rd rs rm n D
section
variable {m : AMem} {rv rl rd rs rm n : Nat} {V : VS} {D : DS}
theorem HasB.vd (h : HasB m rv rl rd rs rm n V D) : rv ≠ rd := fun e => by
 have h1 := h.v.v; rw [e, h.d.d] at h1; simp [vtB, drB] at h1
theorem HasB.vs (h : HasB m rv rl rd rs rm n V D) : rv ≠ rs := fun e => by
 have h1 := h.v.v; rw [e, h.d.r] at h1; simp [vtB, rowD] at h1
theorem HasB.vm (h : HasB m rv rl rd rs rm n V D) : rv ≠ rm := fun e => by
 have h1 := h.v.v; rw [e, h.d.m] at h1; simp [vtB, mapD] at h1
theorem HasB.ld (h : HasB m rv rl rd rs rm n V D) : rl ≠ rd := fun e => by
 have h1 := h.v.l; rw [e, h.d.d] at h1; simp [rS, drB] at h1
theorem HasB.ls (h : HasB m rv rl rd rs rm n V D) : rl ≠ rs := fun e => by
 have h1 := h.v.l; rw [e, h.d.r] at h1; simp [rS, rowD] at h1
theorem HasB.lm (h : HasB m rv rl rd rs rm n V D) : rl ≠ rm := fun e => by
 have h1 := h.v.l; rw [e, h.d.m] at h1; simp [rS, mapD] at h1
theorem HasB.mono (h : HasB m rv rl rd rs rm n V D) (x : AMem) : HasB (m ++ x) rv rl rd rs rm n V D := ⟨h.v.mono x, h.d.mono x⟩
theorem HasB.setD (h : HasB m rv rl rd rs rm n V D) (D' : DS) : HasB (setD m rd rs rm n D') rv rl rd rs rm n V D' :=
 ⟨⟨setD_other h.v.v h.vd h.vs h.vm, setD_other h.v.l h.ld h.ls h.lm⟩, h.d.set D'⟩
theorem setV_len (m : AMem) (rv rl rd : Nat) (V : VS) : (setV m rv rl rd V).length = m.length := by simp [setV]
theorem setB_len (m : AMem) (rv rl rd rs rm n : Nat) (V : VS) (D : DS) : (setB m rv rl rd rs rm n V D).length = m.length := by rw [setB, setD_len, setV_len]
theorem HasV.same (h : HasV m rv rl rd V) : setV m rv rl rd V = m := by unfold setV; rw [set_self h.v, set_self h.l]
theorem HasB.same (h : HasB m rv rl rd rs rm n V D) : setB m rv rl rd rs rm n V D = m := by unfold setB; rw [h.v.same, h.d.same]
theorem HasB.setV (h : HasB m rv rl rd rs rm n V D) (V' : VS) : HasB (setV m rv rl rd V') rv rl rd rs rm n V' D := by
 have lv := get_lt h.v.v
 have ll := get_lt h.v.l
 have nvl := h.v.ne
 have ov : ∀ {r : Nat} {b : Blk}, m[r]? = some b → rv ≠ r → rl ≠ r → (Go.Proofs.Ytdkfbbjpblfclaa.setV m rv rl rd V')[r]? = some b := fun hr h1 h2 => by
  unfold Go.Proofs.Ytdkfbbjpblfclaa.setV; rw [List.getElem?_set_ne h2, List.getElem?_set_ne h1]; exact hr
 refine ⟨⟨?_, ?_⟩, ⟨ov h.d.d h.vd h.ld, ov h.d.r h.vs h.ls, ov h.d.m h.vm h.lm⟩⟩
 ·unfold Go.Proofs.Ytdkfbbjpblfclaa.setV; rw [List.getElem?_set_ne nvl.symm, List.getElem?_set_self lv]
 ·unfold Go.Proofs.Ytdkfbbjpblfclaa.setV; rw [List.getElem?_set_self (by simpa using ll)]
theorem HasB.set (h : HasB m rv rl rd rs rm n V D) (V' : VS) (D' : DS) : HasB (setB m rv rl rd rs rm n V' D') rv rl rd rs rm n V' D' := (h.setV V').setD D'
theorem setB_D (h : HasB m rv rl rd rs rm n V D) (D' : DS) : Go.Proofs.Ytdkfbbjpblfclaa.setD m rd rs rm n D' = setB m rv rl rd rs rm n V D' := by
 unfold setB; rw [h.v.same]
theorem setB_dead (h : HasB m rv rl rd rs rm n V D) (D' : DS) (e : Int) : (Go.Proofs.Ytdkfbbjpblfclaa.setD m rd rs rm n D').set rv (vtB rd rl { V with dead := e }) = setB m rv rl rd rs rm n { V with dead := e } D' := by
 unfold setB Go.Proofs.Ytdkfbbjpblfclaa.setV
 rw [show rS 0 ({ V with dead := e } : VS).k ({ V with dead := e } : VS).f = rS 0 V.k V.f from rfl, set_self (l := m.set rv _) (by rw [List.getElem?_set_ne h.v.ne]; exact h.v.l)]
 unfold Go.Proofs.Ytdkfbbjpblfclaa.setD
 rw [List.set_comm _ _ h.vm.symm, List.set_comm _ _ h.vs.symm, List.set_comm _ _ h.vd.symm]
theorem setB_f (h : HasB m rv rl rd rs rm n V D) (D' : DS) (f : Nat → SL) : (Go.Proofs.Ytdkfbbjpblfclaa.setD m rd rs rm n D').set rl (rS 0 V.k f) = setB m rv rl rd rs rm n { V with f := f } D' := by
 unfold setB Go.Proofs.Ytdkfbbjpblfclaa.setV
 rw [show vtB rd rl ({ V with f := f } : VS) = vtB rd rl V from rfl, set_self h.v.v]
 unfold Go.Proofs.Ytdkfbbjpblfclaa.setD
 rw [List.set_comm _ _ h.lm.symm, List.set_comm _ _ h.ls.symm, List.set_comm _ _ h.ld.symm]
theorem setB_other {r : Nat} {b : Blk} {V' : VS} {D' : DS} (hb : m[r]? = some b) (h1 : r ≠ rv) (h2 : r ≠ rl) (h3 : r ≠ rd) (h4 : r ≠ rs) (h5 : r ≠ rm) : (setB m rv rl rd rs rm n V' D')[r]? = some b := by
 unfold setB
 refine setD_other ?_ h3 h4 h5
 unfold Go.Proofs.Ytdkfbbjpblfclaa.setV
 rw [List.getElem?_set_ne (Ne.symm h2), List.getElem?_set_ne (Ne.symm h1)]; exact hb
theorem vtB_below {L : Nat} (hd : rd < L) (hl : rl < L) (V : VS) : (vtB rd rl V).cells.all (CV.below L) = true := by
 simp [vtB, CV.below, hd, hl]
theorem setB_wf {L : Nat} (hw : MWf L m) (hl : rl < L) (hd : rd < L) (hs : rs < L) (hm : rm < L) (V' : VS) (D' : DS) : MWf L (setB m rv rl rd rs rm n V' D') :=
 setD_wf (MWf_setB (MWf_setB hw (vtB_below hd hl V') rfl) (cC_below _ _ _) rfl) hs hm D'
theorem HasB.wf (h : HasB m rv rl rd rs rm n V D) (hw : MWf m.length m) (V' : VS) (D' : DS) : MWf m.length (setB m rv rl rd rs rm n V' D') :=
 setB_wf hw (get_lt h.v.l) (get_lt h.d.d) (get_lt h.d.r) (get_lt h.d.m) V' D'
theorem HasB.stays (h : HasB m rv rl rd rs rm n V D) {r : Nat} {b : Blk} (hb : m[r]? = some b) (hk : b.kind = .fix → b.ty ≠ 77 ∧ b.ty ≠ 73) (hg : b.kind = .grow → b.ty ≠ 82 ∧ b.ty ≠ 78) (hm : ∀ ka va c es, b.kind ≠ .map ka va c es) (V' : VS) (D' : DS) : (setB m rv rl rd rs rm n V' D')[r]? = some b := by
 refine setB_other hb ?_ ?_ ?_ ?_ ?_
 ·rintro rfl; rw [h.v.v] at hb; injection hb with hb; subst hb; exact (hk rfl).1 rfl
 ·rintro rfl; rw [h.v.l] at hb; injection hb with hb; subst hb; exact (hg rfl).1 rfl
 ·rintro rfl; rw [h.d.d] at hb; injection hb with hb; subst hb; exact (hk rfl).2 rfl
 ·rintro rfl; rw [h.d.r] at hb; injection hb with hb; subst hb; exact (hg rfl).2 rfl
 ·rintro rfl; rw [h.d.m] at hb; injection hb with hb; subst hb; exact hm _ _ _ _ rfl
end
theorem put_had (rv rl rd rs rm n : Nat) (V : VS) (D : DS) (m : AMem) (hB : HasB m rv rl rd rs rm n V D) (hf : ∀ i, OkS (V.f i)) (hk : V.k ≤ 512) (h0 : V.dead = 0) (kind : Int) (hkd : kind = 1 ∨ kind = 2) (key : List Int) (hkey : key.length = 32) (rp vp len : Nat) (bs : List Int) (hp : ∃ kk ez, m[rp]? = some ⟨kk, 5, vp, ez, u8l bs⟩) (hlen : bs.length = len) (hl2 : len ≤ 262144) (ho : U8ok bs) (a : Nat) (ha : fnd (fdB key) V.f V.k = (a : Int)) : Ctr Try.prog 10 [.one (.ptr rv 0 0), .one (.int .i64 kind), .agg (u8l key), .one (.sl rp vp 0 len)] m (.one (.int .i64 (if (decide ((V.f a).kind = kind) && decide ((V.f a).sum = shaL bs)) = true then 0 else 7))) m := by
 refine Ctr.enter Try.func10 rfl (by decide) (rs := [.tmp 8]) (nt := 138) rfl rfl fun hwf Q hQ => ?_
 obtain ⟨kk, ez, hp⟩ := hp
 have h := hB.v
 have hv := h.v
 have hl := h.l
 have lv := get_lt hv
 have ll := get_lt hl
 have lpp := get_lt hp
 have gl : (cC V.k V.f).length = V.k * 67 := cC_len hf V.k
 have hup : ∀ X : AMem, Ctr Try.prog 31 [.one (.ptr rv 0 0)] (m ++ X) (.one (.int .i64 0)) (m ++ X) := fun X => by
   have := vup_c rv rl rd V (m ++ X) (lk_old hv X)
   rwa [h0] at this
 have kl : (u8l key).length = 32 := by rw [u8l_len]; exact hkey
 have kt : (u8l key).take 32 = u8l key := List.take_of_length_le (by omega)
 have kv := u8l_vals key
 have ksl : (u8l (shaL bs)).length = 32 := by rw [u8l_len]; exact shaL_len bs
 have kst : (u8l (shaL bs)).take 32 = u8l (shaL bs) := List.take_of_length_le (by omega)
 have ksv := u8l_vals (shaL bs)
 have kz : setL [CV.int .u8 0, CV.int .u8 0, CV.int .u8 0, CV.int .u8 0, CV.int .u8 0, CV.int .u8 0, CV.int .u8 0, CV.int .u8 0, CV.int .u8 0, CV.int .u8 0, CV.int .u8 0, CV.int .u8 0, CV.int .u8 0, CV.int .u8 0, CV.int .u8 0, CV.int .u8 0, CV.int .u8 0, CV.int .u8 0, CV.int .u8 0, CV.int .u8 0, CV.int .u8 0, CV.int .u8 0, CV.int .u8 0, CV.int .u8 0, CV.int .u8 0, CV.int .u8 0, CV.int .u8 0, CV.int .u8 0, CV.int .u8 0, CV.int .u8 0, CV.int .u8 0, CV.int .u8 0] 0 (u8l (shaL bs)) = u8l (shaL bs) := setL_full (by rw [ksl]; rfl)
 have ul : (u8l bs).length = len := by rw [u8l_len]; exact hlen
 have lng : ¬ (262144 : Int) < (len : Int) := by omega
 have sl := fun i => slC_len (hf i).w
 have f0 := fun i => slC_0 (V.f i)
 have f2 := fun i => slC_2 (hf i).w
 have hak : a < V.k := by
   obtain ⟨i, h1, h2, _⟩ := fnd_pos (p := fdB key) (f := V.f) (k := V.k) (by omega)
   omega
 have lx0 := (catC_get (F := fun i => slC (V.f i)) (n := V.k) (k := a) (a := 0) (fun i => slC_len (hf i).w) hak (by decide)).trans (slC_0 (V.f a))
 have lx2 := (catC_in (F := fun i => slC (V.f i)) (n := V.k) (k := a) (a := 33) (b := 32) (fun i => slC_len (hf i).w) hak (by decide)).trans (f2 a)
 simp only [Nat.add_zero] at lx0
 have lx0 : (cC V.k V.f)[a * 67]? = some (.int .i64 (V.f a).kind) := lx0
 have lx2 : ((cC V.k V.f).drop (a * 67 + 33)).take 32 = u8l (V.f a).sum := lx2
 have c0 : (0 : Int) ≤ (a : Int) := by omega
 have c1 : (a : Int) < (V.k : Int) := by omega
 have c2 : a * 67 + 33 + 32 ≤ V.k * 67 := by omega
 have c3 : a * 67 + (33 + 32) ≤ V.k * 67 := by omega
 have eq := eqpn (hf a).w.s (shaL_len bs)
 refine AW.sr 1 fun K hK => ?_
 have pk_1 : _ ∧ _ ∧ _ ∧ _ ∧ _ ∧ _ ∧ _ ∧ _ ∧ _ ∧ _ ∧ _ ∧ _ ∧ _ ∧ _ ∧ _ ∧ _ ∧ _ ∧ _ ∧ _ ∧ _ ∧ _ ∧ _ ∧ _ := ⟨hv, hl, lk_old hv, lk_old hl, hp, lk_old hp, gl, kl, kt, kv, ksl, kst, ksv, kz, lng, ha, lx0, lx2, c0, c1, c2, c3, eq⟩
 simp only [push_cast, simprocAttr, vtB, rS, ul, u8l_len, slC_vals, pk_1]
 apply hK;clear hK K
 refine AW.seq_k fun K hK => ?_
 refine AW.sr 2 fun K hK => ?_
 simp only [push_cast, simprocAttr, vtB, rS, ul, u8l_len, slC_vals, pk_1]
 refine CThen.by (hup _) ?_
 simp only [push_cast, simprocAttr, vtB, rS, ul, u8l_len, slC_vals, pk_1]
 apply hK;clear hK K
 refine AW.cond_f rfl ?_
 refine AW.skip ?_
 apply hK;clear hK K
 refine AW.sr 2 fun K hK => ?_
 simp only [push_cast, simprocAttr, vtB, rS, ul, u8l_len, slC_vals, pk_1]
 refine CThen.by (of1_c (m.length + 1) 0 0 (.sl rp vp 0 len) bs [.sl rp vp 0 len] .grow 1 _ (by rw [lk_app]; rfl) rfl (.all (lk_old hp _) hlen.symm) (by omega) ho) ?_
 simp only [push_cast, simprocAttr, vtB, rS, ul, u8l_len, slC_vals, pk_1]
 refine CThen.by (find_c rv rl rd V _ (h.mono _) hf hk key hkey) ?_
 simp only [push_cast, simprocAttr, vtB, rS, ul, u8l_len, slC_vals, pk_1]
 apply hK;clear hK K
 refine AW.seq_k fun K hK => ?_
 refine AW.block ?_
 refine AW.seq_k fun K hK => ?_
 refine AW.viaJ [0, 1, 3, 6, 10, 11] [(30, .one (.bool false))] [] ?_ ?_
 ·rcases hkd with hk1 | hk1
  ·have q1 : (kind != 1) = false := by simp [hk1]
   refine AW.rg ?_
   simp only [push_cast, simprocAttr, vtB, rS, ul, u8l_len, slC_vals, pk_1, q1]
   refine Thn_n ?_
   try simp only [keepL, setAll, push_cast, simprocAttr, vtB, rS, ul, u8l_len, slC_vals, pk_1, q1, and_self]
   exact Weak.same (by simp only [KS, simprocAttr, and_self]) (by first | rfl | simp only [KS, simprocAttr, and_self])
  ·have q1 : (kind != 1) = true := by rw [hk1]; rfl
   have q2 : (kind != 2) = false := by simp [hk1]
   refine AW.rg ?_
   simp only [push_cast, simprocAttr, vtB, rS, ul, u8l_len, slC_vals, pk_1, q1, q2]
   refine Thn_n ?_
   try simp only [keepL, setAll, push_cast, simprocAttr, vtB, rS, ul, u8l_len, slC_vals, pk_1, q1, q2, and_self]
   exact Weak.same (by simp only [KS, simprocAttr, and_self]) (by first | rfl | simp only [KS, simprocAttr, and_self])
 try simp only [keepL, setAll, push_cast, simprocAttr, vtB, rS, ul, u8l_len, slC_vals, pk_1]
 apply hK;clear hK K
 refine AW.cond_f rfl ?_
 refine AW.sr 1 fun K hK => ?_
 simp only [push_cast, simprocAttr, vtB, rS, ul, u8l_len, slC_vals, pk_1]
 apply hK;clear hK K
 refine AW.cond_f rfl ?_
 refine AW.seq_k fun K hK => ?_
 refine AW.viaJ [0, 1, 3, 6, 10, 11] [(41, .one (.bool (decide ((V.f a).kind = kind) && decide ((V.f a).sum = shaL bs))))] [] ?_ ?_
 ·rcases Classical.em ((V.f a).kind = kind) with kz2 | kz2
  ·have q3 : ((V.f a).kind == kind) = true := by simp [kz2]
   have ht := decide_eq_true kz2
   refine AW.draw [.val, .val, .val, .val, .val, .val, .rd 0, .val, .val, .val, .rd 0, .val, .val, .val, .val, .val, .val, .val, .rd 0, .val, .val, .val, .rd 0, .rd 0, .val, .val, .val] fol (by decide) (by kernel_rfl) ?_
   simp only [push_cast, simprocAttr, vtB, rS, ul, u8l_len, slC_vals, pk_1, q3]
   refine Thn_n ?_
   try simp only [keepL, setAll, push_cast, simprocAttr, vtB, rS, ul, u8l_len, slC_vals, pk_1, q3, ht, Bool.true_and, Bool.false_and]
   exact Weak.same (by simp only [KS, simprocAttr, ht, Bool.true_and, Bool.false_and]) (by first | rfl | simp only [KS, simprocAttr, ht, Bool.true_and, Bool.false_and])
  ·have q3 : ((V.f a).kind == kind) = false := by simp [kz2]
   have ht := decide_eq_false kz2
   refine AW.draw [.val, .val, .val, .val, .val, .val, .rd 0, .val, .val, .val, .rd 0, .val, .val, .val, .val, .val, .val, .val, .rd 0, .val, .val, .val, .rd 0, .rd 0, .val, .val, .val] fol (by decide) (by kernel_rfl) ?_
   simp only [push_cast, simprocAttr, vtB, rS, ul, u8l_len, slC_vals, pk_1, q3]
   refine Thn_n ?_
   try simp only [keepL, setAll, push_cast, simprocAttr, vtB, rS, ul, u8l_len, slC_vals, pk_1, q3, ht, Bool.true_and, Bool.false_and]
   exact Weak.same (by simp only [KS, simprocAttr, ht, Bool.true_and, Bool.false_and]) (by first | rfl | simp only [KS, simprocAttr, ht, Bool.true_and, Bool.false_and])
 try simp only [keepL, setAll, push_cast, simprocAttr, vtB, rS, ul, u8l_len, slC_vals, pk_1]
 apply hK;clear hK K
 refine AW.cond rfl (fun h41 => ?_) (fun h41 => ?_)
 ·rw [if_pos h41] at hQ
  refine AW.sr 1 fun K hK => ?_
  simp only [push_cast, simprocAttr, vtB, rS, ul, u8l_len, slC_vals, pk_1]
  apply hK;clear hK K
  refine AW.ret ?_
  refine InB_r ?_
  refine Thn_r ?_
  refine hQ _ _ _ ?_
  first | refine RetP.drop0 (Or.inr rfl) ?_ ?_ hwf | refine RetP.drop (Or.inr rfl) ?_ ?_ hwf
  · simp only [resA, resOne, resTv, AV.tv, push_cast, simprocAttr, vtB, rS, ul, u8l_len, slC_vals, pk_1]
  · rfl
 ·rw [if_neg (by rw [h41]; decide)] at hQ
  refine AW.sr 1 fun K hK => ?_
  simp only [push_cast, simprocAttr, vtB, rS, ul, u8l_len, slC_vals, pk_1]
  apply hK;clear hK K
  refine AW.cond_t rfl ?_
  refine AW.sr 1 fun K hK => ?_
  simp only [push_cast, simprocAttr, vtB, rS, ul, u8l_len, slC_vals, pk_1]
  apply hK;clear hK K
  refine AW.ret ?_
  refine InB_r ?_
  refine Thn_r ?_
  refine hQ _ _ _ ?_
  first | refine RetP.drop0 (Or.inr rfl) ?_ ?_ hwf | refine RetP.drop (Or.inr rfl) ?_ ?_ hwf
  · simp only [resA, resOne, resTv, AV.tv, push_cast, simprocAttr, vtB, rS, ul, u8l_len, slC_vals, pk_1]
  · rfl
def wsS (V : VS) (D : DS) (fr : Nat) (s : SL) : VS × DS × Int :=
 if ((wrS D fr (encB s)).2 != 0) = true then ({ V with dead := (wrS D fr (encB s)).2 }, (wrS D fr (encB s)).1, (wrS D fr (encB s)).2)
 else if ((syS (wrS D fr (encB s)).1).2 != 0) = true then ({ V with dead := (syS (wrS D fr (encB s)).1).2 }, (syS (wrS D fr (encB s)).1).1, (syS (wrS D fr (encB s)).1).2)
 else ({ V with f := upF V.f fr s }, (syS (wrS D fr (encB s)).1).1, 0)
theorem wrS_ok {D : DS} {k n : Nat} {v : List Int} (h : ((wrS D k v).2 != 0) = false) (hd : D.down = false) (hw : WfD n D) (hk : k < n) (hv : v.length = 128) : (wrS D k v).1.down = false ∧ WfD n (wrS D k v).1 := by
 unfold wrS at h ⊢
 split at h
 ·simp at h
 ·rename_i hz
  rw [if_neg hz]
  exact ⟨by show (wrD D _ _).down = false; rw [wrD_down _ _ _ hz]; exact hd, wrD_wf hw (by omega) (by omega) hv⟩
theorem syD_down (D : DS) (hz : ¬ D.fuse = 0) : (syD D).down = D.down := by unfold syD spD; rw [if_neg hz]
theorem syS_ok {D : DS} {n : Nat} (h : ((syS D).2 != 0) = false) (hd : D.down = false) (hw : WfD n D) : (syS D).1.down = false ∧ WfD n (syS D).1 := by
 unfold syS at h ⊢
 split at h
 ·simp at h
 ·rename_i hz
  rw [if_neg hz]
  exact ⟨by rw [syD_down _ hz]; exact hd, syD_wf hw⟩
theorem layS_ok {k n N : Nat} {bl : Nat → List Int} (hb : ∀ i, (bl i).length = 128) : ∀ (r i : Nat) (D : DS), ((layS k bl r i D).2 != 0) = false → D.down = false → WfD n D → k + i + r ≤ n → (layS k bl r i D).1.down = false ∧ WfD n (layS k bl r i D).1
 | 0, i, D, h, hd, hw, _ => syS_ok h hd hw
 | r + 1, i, D, h, hd, hw, hk => by
  unfold layS at h ⊢
  split at h
  ·simp at h
  ·rename_i hz
   rw [if_neg hz]
   exact layS_ok (N := N) hb r (i + 1) _ h (by rw [wrD_down _ _ _ hz]; exact hd) (wrD_wf hw (by omega) (by omega) (hb i)) (by omega)
theorem put_full1 (rv rl rd rs rm n : Nat) (V : VS) (D : DS) (m : AMem) (hB : HasB m rv rl rd rs rm n V D) (hf : ∀ i, OkS (V.f i)) (hk : V.k ≤ 512) (h0 : V.dead = 0) (kind : Int) (hkd : kind = 1 ∨ kind = 2) (key : List Int) (hkey : key.length = 32) (rp vp len : Nat) (bs : List Int) (hp : ∃ kk ez, m[rp]? = some ⟨kk, 5, vp, ez, u8l bs⟩) (hlen : bs.length = len) (hl2 : len ≤ 262144) (ho : U8ok bs) (hwd : WfD n D) (hdn : D.down = false) (hn : n ≤ 8192) (hd0 : 0 ≤ V.data) (hd1 : V.data ≤ 512) (hmiss : fnd (fdB key) V.f V.k < 0) (hfr : fnd (fun s => s.kind == 0) V.f V.k < 0) : Ctr Try.prog 10 [.one (.ptr rv 0 0), .one (.int .i64 kind), .agg (u8l key), .one (.sl rp vp 0 len)] m (.one (.int .i64 4)) m := by
 refine Ctr.enter Try.func10 rfl (by decide) (rs := [.tmp 8]) (nt := 138) rfl rfl fun hwf Q hQ => ?_
 obtain ⟨kk, ez, hp⟩ := hp
 have h := hB.v
 have hv := h.v
 have hl := h.l
 have lv := get_lt hv
 have ll := get_lt hl
 have lpp := get_lt hp
 have gl : (cC V.k V.f).length = V.k * 67 := cC_len hf V.k
 have hup : ∀ X : AMem, Ctr Try.prog 31 [.one (.ptr rv 0 0)] (m ++ X) (.one (.int .i64 0)) (m ++ X) := fun X => by
   have := vup_c rv rl rd V (m ++ X) (lk_old hv X)
   rwa [h0] at this
 have kl : (u8l key).length = 32 := by rw [u8l_len]; exact hkey
 have kt : (u8l key).take 32 = u8l key := List.take_of_length_le (by omega)
 have kv := u8l_vals key
 have ksl : (u8l (shaL bs)).length = 32 := by rw [u8l_len]; exact shaL_len bs
 have kst : (u8l (shaL bs)).take 32 = u8l (shaL bs) := List.take_of_length_le (by omega)
 have ksv := u8l_vals (shaL bs)
 have kz : setL [CV.int .u8 0, CV.int .u8 0, CV.int .u8 0, CV.int .u8 0, CV.int .u8 0, CV.int .u8 0, CV.int .u8 0, CV.int .u8 0, CV.int .u8 0, CV.int .u8 0, CV.int .u8 0, CV.int .u8 0, CV.int .u8 0, CV.int .u8 0, CV.int .u8 0, CV.int .u8 0, CV.int .u8 0, CV.int .u8 0, CV.int .u8 0, CV.int .u8 0, CV.int .u8 0, CV.int .u8 0, CV.int .u8 0, CV.int .u8 0, CV.int .u8 0, CV.int .u8 0, CV.int .u8 0, CV.int .u8 0, CV.int .u8 0, CV.int .u8 0, CV.int .u8 0, CV.int .u8 0] 0 (u8l (shaL bs)) = u8l (shaL bs) := setL_full (by rw [ksl]; rfl)
 have ul : (u8l bs).length = len := by rw [u8l_len]; exact hlen
 have lng : ¬ (262144 : Int) < (len : Int) := by omega
 have sl := fun i => slC_len (hf i).w
 have f0 := fun i => slC_0 (V.f i)
 have f2 := fun i => slC_2 (hf i).w
 have hm1 := (fnd_neg hmiss).1
 have hf1 := (fnd_neg hfr).1
 obtain ⟨pz, hpz⟩ : ∃ z, z = plZ V n (shaL bs) (len : Int) := ⟨_, rfl⟩
 refine AW.sr 1 fun K hK => ?_
 have pk_1 : _ ∧ _ ∧ _ ∧ _ ∧ _ ∧ _ ∧ _ ∧ _ ∧ _ ∧ _ ∧ _ ∧ _ ∧ _ ∧ _ ∧ _ ∧ _ ∧ _ := ⟨hv, hl, lk_old hv, lk_old hl, hp, lk_old hp, gl, kl, kt, kv, ksl, kst, ksv, kz, lng, hm1, hf1⟩
 simp only [push_cast, simprocAttr, vtB, rS, ul, u8l_len, slC_vals, pk_1]
 apply hK;clear hK K
 refine AW.seq_k fun K hK => ?_
 refine AW.sr 2 fun K hK => ?_
 simp only [push_cast, simprocAttr, vtB, rS, ul, u8l_len, slC_vals, pk_1]
 refine CThen.by (hup _) ?_
 simp only [push_cast, simprocAttr, vtB, rS, ul, u8l_len, slC_vals, pk_1]
 apply hK;clear hK K
 refine AW.cond_f rfl ?_
 refine AW.skip ?_
 apply hK;clear hK K
 refine AW.sr 2 fun K hK => ?_
 simp only [push_cast, simprocAttr, vtB, rS, ul, u8l_len, slC_vals, pk_1]
 refine CThen.by (of1_c (m.length + 1) 0 0 (.sl rp vp 0 len) bs [.sl rp vp 0 len] .grow 1 _ (by rw [lk_app]; rfl) rfl (.all (lk_old hp _) hlen.symm) (by omega) ho) ?_
 simp only [push_cast, simprocAttr, vtB, rS, ul, u8l_len, slC_vals, pk_1]
 refine CThen.by (find_c rv rl rd V _ (h.mono _) hf hk key hkey) ?_
 simp only [push_cast, simprocAttr, vtB, rS, ul, u8l_len, slC_vals, pk_1]
 apply hK;clear hK K
 refine AW.seq_k fun K hK => ?_
 refine AW.block ?_
 refine AW.seq_k fun K hK => ?_
 refine AW.viaJ [0, 1, 3, 6, 10, 11] [(30, .one (.bool false))] [] ?_ ?_
 ·rcases hkd with hk1 | hk1
  ·have q1 : (kind != 1) = false := by simp [hk1]
   refine AW.rg ?_
   simp only [push_cast, simprocAttr, vtB, rS, ul, u8l_len, slC_vals, pk_1, q1]
   refine Thn_n ?_
   try simp only [keepL, setAll, push_cast, simprocAttr, vtB, rS, ul, u8l_len, slC_vals, pk_1, q1, and_self]
   exact Weak.same (by simp only [KS, simprocAttr, and_self]) (by first | rfl | simp only [KS, simprocAttr, and_self])
  ·have q1 : (kind != 1) = true := by rw [hk1]; rfl
   have q2 : (kind != 2) = false := by simp [hk1]
   refine AW.rg ?_
   simp only [push_cast, simprocAttr, vtB, rS, ul, u8l_len, slC_vals, pk_1, q1, q2]
   refine Thn_n ?_
   try simp only [keepL, setAll, push_cast, simprocAttr, vtB, rS, ul, u8l_len, slC_vals, pk_1, q1, q2, and_self]
   exact Weak.same (by simp only [KS, simprocAttr, and_self]) (by first | rfl | simp only [KS, simprocAttr, and_self])
 try simp only [keepL, setAll, push_cast, simprocAttr, vtB, rS, ul, u8l_len, slC_vals, pk_1]
 apply hK;clear hK K
 refine AW.cond_f rfl ?_
 refine AW.sr 1 fun K hK => ?_
 simp only [push_cast, simprocAttr, vtB, rS, ul, u8l_len, slC_vals, pk_1]
 apply hK;clear hK K
 refine AW.cond_f rfl ?_
 refine AW.seq_k fun K hK => ?_
 refine AW.draw [.val, .val, .val, .val, .val, .val, .rd 0, .val, .val, .val, .rd 0, .val, .val, .val, .val, .val, .val, .val, .rd 0, .val, .val, .val, .rd 0, .rd 0, .val, .val, .val] fol (by decide) (by kernel_rfl) ?_
 simp only [push_cast, simprocAttr, vtB, rS, ul, u8l_len, slC_vals, pk_1]
 apply hK;clear hK K
 refine AW.cond_f rfl ?_
 refine AW.sr 1 fun K hK => ?_
 simp only [push_cast, simprocAttr, vtB, rS, ul, u8l_len, slC_vals, pk_1]
 apply hK;clear hK K
 refine AW.cond_f rfl ?_
 refine AW.skip ?_
 refine InB_n ?_
 apply hK;clear hK K
 refine AW.sr 2 fun K hK => ?_
 simp only [push_cast, simprocAttr, vtB, rS, ul, u8l_len, slC_vals, pk_1]
 refine CThen.by (ixz_c rl 0 V.k V.f _ (lk_old hl _) hf (by omega)) ?_
 simp only [push_cast, simprocAttr, vtB, rS, ul, u8l_len, slC_vals, pk_1]
 refine CThen.by (place_c rv rl rd V _ (h.mono _) hf hk rs rm n D (lk_old hB.d.d _) hn hd0 hd1 (shaL bs) (len : Int) (shaL_len bs) (by omega) (by omega)) ?_
 simp only [push_cast, simprocAttr, vtB, rS, ul, u8l_len, slC_vals, pk_1]
 apply hK;clear hK K
 refine AW.seq_k fun K hK => ?_
 refine AW.sr 1 fun K hK => ?_
 simp only [push_cast, simprocAttr, vtB, rS, ul, u8l_len, slC_vals, pk_1]
 apply hK;clear hK K
 refine AW.cond_t rfl ?_
 refine AW.sr 1 fun K hK => ?_
 simp only [push_cast, simprocAttr, vtB, rS, ul, u8l_len, slC_vals, pk_1]
 apply hK;clear hK K
 refine AW.ret ?_
 refine Thn_r ?_
 refine hQ _ _ _ ?_
 first | refine RetP.drop0 (Or.inr rfl) ?_ ?_ hwf | refine RetP.drop (Or.inr rfl) ?_ ?_ hwf
 · simp only [resA, resOne, resTv, AV.tv, push_cast, simprocAttr, vtB, rS, ul, u8l_len, slC_vals, pk_1]
 · rfl
theorem put_full2 (rv rl rd rs rm n : Nat) (V : VS) (D : DS) (m : AMem) (hB : HasB m rv rl rd rs rm n V D) (hf : ∀ i, OkS (V.f i)) (hk : V.k ≤ 512) (h0 : V.dead = 0) (kind : Int) (hkd : kind = 1 ∨ kind = 2) (key : List Int) (hkey : key.length = 32) (rp vp len : Nat) (bs : List Int) (hp : ∃ kk ez, m[rp]? = some ⟨kk, 5, vp, ez, u8l bs⟩) (hlen : bs.length = len) (hl2 : len ≤ 262144) (ho : U8ok bs) (hwd : WfD n D) (hdn : D.down = false) (hn : n ≤ 8192) (hd0 : 0 ≤ V.data) (hd1 : V.data ≤ 512) (hmiss : fnd (fdB key) V.f V.k < 0) (fr : Nat) (hfr : fnd (fun s => s.kind == 0) V.f V.k = (fr : Int)) (hpl : plZ V n (shaL bs) (len : Int) < 0) : Ctr Try.prog 10 [.one (.ptr rv 0 0), .one (.int .i64 kind), .agg (u8l key), .one (.sl rp vp 0 len)] m (.one (.int .i64 4)) m := by
 refine Ctr.enter Try.func10 rfl (by decide) (rs := [.tmp 8]) (nt := 138) rfl rfl fun hwf Q hQ => ?_
 obtain ⟨kk, ez, hp⟩ := hp
 have h := hB.v
 have hv := h.v
 have hl := h.l
 have lv := get_lt hv
 have ll := get_lt hl
 have lpp := get_lt hp
 have gl : (cC V.k V.f).length = V.k * 67 := cC_len hf V.k
 have hup : ∀ X : AMem, Ctr Try.prog 31 [.one (.ptr rv 0 0)] (m ++ X) (.one (.int .i64 0)) (m ++ X) := fun X => by
   have := vup_c rv rl rd V (m ++ X) (lk_old hv X)
   rwa [h0] at this
 have kl : (u8l key).length = 32 := by rw [u8l_len]; exact hkey
 have kt : (u8l key).take 32 = u8l key := List.take_of_length_le (by omega)
 have kv := u8l_vals key
 have ksl : (u8l (shaL bs)).length = 32 := by rw [u8l_len]; exact shaL_len bs
 have kst : (u8l (shaL bs)).take 32 = u8l (shaL bs) := List.take_of_length_le (by omega)
 have ksv := u8l_vals (shaL bs)
 have kz : setL [CV.int .u8 0, CV.int .u8 0, CV.int .u8 0, CV.int .u8 0, CV.int .u8 0, CV.int .u8 0, CV.int .u8 0, CV.int .u8 0, CV.int .u8 0, CV.int .u8 0, CV.int .u8 0, CV.int .u8 0, CV.int .u8 0, CV.int .u8 0, CV.int .u8 0, CV.int .u8 0, CV.int .u8 0, CV.int .u8 0, CV.int .u8 0, CV.int .u8 0, CV.int .u8 0, CV.int .u8 0, CV.int .u8 0, CV.int .u8 0, CV.int .u8 0, CV.int .u8 0, CV.int .u8 0, CV.int .u8 0, CV.int .u8 0, CV.int .u8 0, CV.int .u8 0, CV.int .u8 0] 0 (u8l (shaL bs)) = u8l (shaL bs) := setL_full (by rw [ksl]; rfl)
 have ul : (u8l bs).length = len := by rw [u8l_len]; exact hlen
 have lng : ¬ (262144 : Int) < (len : Int) := by omega
 have sl := fun i => slC_len (hf i).w
 have f0 := fun i => slC_0 (V.f i)
 have f2 := fun i => slC_2 (hf i).w
 have hm1 := (fnd_neg hmiss).1
 have hfz : ¬ (fr : Int) < 0 := by omega
 refine AW.sr 1 fun K hK => ?_
 have pk_2 : _ ∧ _ ∧ _ ∧ _ ∧ _ ∧ _ ∧ _ ∧ _ ∧ _ ∧ _ ∧ _ ∧ _ ∧ _ ∧ _ ∧ _ ∧ _ ∧ _ ∧ _ ∧ _ := ⟨hv, hl, lk_old hv, lk_old hl, hp, lk_old hp, gl, kl, kt, kv, ksl, kst, ksv, kz, lng, hm1, hfr, hfz, hpl⟩
 simp only [push_cast, simprocAttr, vtB, rS, ul, u8l_len, slC_vals, pk_2]
 apply hK;clear hK K
 refine AW.seq_k fun K hK => ?_
 refine AW.sr 2 fun K hK => ?_
 simp only [push_cast, simprocAttr, vtB, rS, ul, u8l_len, slC_vals, pk_2]
 refine CThen.by (hup _) ?_
 simp only [push_cast, simprocAttr, vtB, rS, ul, u8l_len, slC_vals, pk_2]
 apply hK;clear hK K
 refine AW.cond_f rfl ?_
 refine AW.skip ?_
 apply hK;clear hK K
 refine AW.sr 2 fun K hK => ?_
 simp only [push_cast, simprocAttr, vtB, rS, ul, u8l_len, slC_vals, pk_2]
 refine CThen.by (of1_c (m.length + 1) 0 0 (.sl rp vp 0 len) bs [.sl rp vp 0 len] .grow 1 _ (by rw [lk_app]; rfl) rfl (.all (lk_old hp _) hlen.symm) (by omega) ho) ?_
 simp only [push_cast, simprocAttr, vtB, rS, ul, u8l_len, slC_vals, pk_2]
 refine CThen.by (find_c rv rl rd V _ (h.mono _) hf hk key hkey) ?_
 simp only [push_cast, simprocAttr, vtB, rS, ul, u8l_len, slC_vals, pk_2]
 apply hK;clear hK K
 refine AW.seq_k fun K hK => ?_
 refine AW.block ?_
 refine AW.seq_k fun K hK => ?_
 refine AW.viaJ [0, 1, 3, 6, 10, 11] [(30, .one (.bool false))] [] ?_ ?_
 ·rcases hkd with hk1 | hk1
  ·have q1 : (kind != 1) = false := by simp [hk1]
   refine AW.rg ?_
   simp only [push_cast, simprocAttr, vtB, rS, ul, u8l_len, slC_vals, pk_2, q1]
   refine Thn_n ?_
   try simp only [keepL, setAll, push_cast, simprocAttr, vtB, rS, ul, u8l_len, slC_vals, pk_2, q1, and_self]
   exact Weak.same (by simp only [KS, simprocAttr, and_self]) (by first | rfl | simp only [KS, simprocAttr, and_self])
  ·have q1 : (kind != 1) = true := by rw [hk1]; rfl
   have q2 : (kind != 2) = false := by simp [hk1]
   refine AW.rg ?_
   simp only [push_cast, simprocAttr, vtB, rS, ul, u8l_len, slC_vals, pk_2, q1, q2]
   refine Thn_n ?_
   try simp only [keepL, setAll, push_cast, simprocAttr, vtB, rS, ul, u8l_len, slC_vals, pk_2, q1, q2, and_self]
   exact Weak.same (by simp only [KS, simprocAttr, and_self]) (by first | rfl | simp only [KS, simprocAttr, and_self])
 try simp only [keepL, setAll, push_cast, simprocAttr, vtB, rS, ul, u8l_len, slC_vals, pk_2]
 apply hK;clear hK K
 refine AW.cond_f rfl ?_
 refine AW.sr 1 fun K hK => ?_
 simp only [push_cast, simprocAttr, vtB, rS, ul, u8l_len, slC_vals, pk_2]
 apply hK;clear hK K
 refine AW.cond_f rfl ?_
 refine AW.seq_k fun K hK => ?_
 refine AW.draw [.val, .val, .val, .val, .val, .val, .rd 0, .val, .val, .val, .rd 0, .val, .val, .val, .val, .val, .val, .val, .rd 0, .val, .val, .val, .rd 0, .rd 0, .val, .val, .val] fol (by decide) (by kernel_rfl) ?_
 simp only [push_cast, simprocAttr, vtB, rS, ul, u8l_len, slC_vals, pk_2]
 apply hK;clear hK K
 refine AW.cond_f rfl ?_
 refine AW.sr 1 fun K hK => ?_
 simp only [push_cast, simprocAttr, vtB, rS, ul, u8l_len, slC_vals, pk_2]
 apply hK;clear hK K
 refine AW.cond_f rfl ?_
 refine AW.skip ?_
 refine InB_n ?_
 apply hK;clear hK K
 refine AW.sr 2 fun K hK => ?_
 simp only [push_cast, simprocAttr, vtB, rS, ul, u8l_len, slC_vals, pk_2]
 refine CThen.by (ixz_c rl 0 V.k V.f _ (lk_old hl _) hf (by omega)) ?_
 simp only [push_cast, simprocAttr, vtB, rS, ul, u8l_len, slC_vals, pk_2]
 refine CThen.by (place_c rv rl rd V _ (h.mono _) hf hk rs rm n D (lk_old hB.d.d _) hn hd0 hd1 (shaL bs) (len : Int) (shaL_len bs) (by omega) (by omega)) ?_
 simp only [push_cast, simprocAttr, vtB, rS, ul, u8l_len, slC_vals, pk_2]
 apply hK;clear hK K
 refine AW.seq_k fun K hK => ?_
 refine AW.sr 1 fun K hK => ?_
 simp only [push_cast, simprocAttr, vtB, rS, ul, u8l_len, slC_vals, pk_2]
 apply hK;clear hK K
 refine AW.cond_t rfl ?_
 refine AW.sr 1 fun K hK => ?_
 simp only [push_cast, simprocAttr, vtB, rS, ul, u8l_len, slC_vals, pk_2]
 apply hK;clear hK K
 refine AW.ret ?_
 refine Thn_r ?_
 refine hQ _ _ _ ?_
 first | refine RetP.drop0 (Or.inr rfl) ?_ ?_ hwf | refine RetP.drop (Or.inr rfl) ?_ ?_ hwf
 · simp only [resA, resOne, resTv, AV.tv, push_cast, simprocAttr, vtB, rS, ul, u8l_len, slC_vals, pk_2]
 · rfl
theorem set64 {A B : List CV} (ha : A.length = 32) (hb : B.length = 32) (a b x y : CV) : ((A ++ (B ++ [a, b])).set 64 x).set 65 y = A ++ (B ++ [x, y]) := by
 simp [List.set_append, ha, hb]
theorem put_L (rv rl rd rs rm n : Nat) (V : VS) (D : DS) (m : AMem) (hB : HasB m rv rl rd rs rm n V D) (hf : ∀ i, OkS (V.f i)) (hk : V.k ≤ 512) (h0 : V.dead = 0) (kind : Int) (hkd : kind = 1 ∨ kind = 2) (key : List Int) (hkey : key.length = 32) (rp vp len : Nat) (bs : List Int) (hp : ∃ kk ez, m[rp]? = some ⟨kk, 5, vp, ez, u8l bs⟩) (hlen : bs.length = len) (hl2 : len ≤ 262144) (ho : U8ok bs) (hwd : WfD n D) (hdn : D.down = false) (hn : n ≤ 8192) (hd0 : 0 ≤ V.data) (hd1 : V.data ≤ 512) (hmiss : fnd (fdB key) V.f V.k < 0) (hkn : V.k ≤ n) (fr : Nat) (hfr : fnd (fun s => s.kind == 0) V.f V.k = (fr : Int)) (k : Nat) (hpl : plZ V n (shaL bs) (len : Int) = (k : Int)) (hk8 : k ≤ 8192) (hlb : plB V (shaL bs) (len : Int) = true) : Ctr Try.prog 10 [.one (.ptr rv 0 0), .one (.int .i64 kind), .agg (u8l key), .one (.sl rp vp 0 len)] m (.one (.int .i64 (wsS V D fr ⟨kind, key, shaL bs, (len : Int), (k : Int)⟩).2.2)) (setB m rv rl rd rs rm n (wsS V D fr ⟨kind, key, shaL bs, (len : Int), (k : Int)⟩).1 (wsS V D fr ⟨kind, key, shaL bs, (len : Int), (k : Int)⟩).2.1) := by
 refine Ctr.enter Try.func10 rfl (by decide) (rs := [.tmp 8]) (nt := 138) rfl rfl fun hwf Q hQ => ?_
 obtain ⟨kk, ez, hp⟩ := hp
 have h := hB.v
 have hv := h.v
 have hl := h.l
 have lv := get_lt hv
 have ll := get_lt hl
 have lpp := get_lt hp
 have gl : (cC V.k V.f).length = V.k * 67 := cC_len hf V.k
 have hup : ∀ X : AMem, Ctr Try.prog 31 [.one (.ptr rv 0 0)] (m ++ X) (.one (.int .i64 0)) (m ++ X) := fun X => by
   have := vup_c rv rl rd V (m ++ X) (lk_old hv X)
   rwa [h0] at this
 have kl : (u8l key).length = 32 := by rw [u8l_len]; exact hkey
 have kt : (u8l key).take 32 = u8l key := List.take_of_length_le (by omega)
 have kv := u8l_vals key
 have ksl : (u8l (shaL bs)).length = 32 := by rw [u8l_len]; exact shaL_len bs
 have kst : (u8l (shaL bs)).take 32 = u8l (shaL bs) := List.take_of_length_le (by omega)
 have ksv := u8l_vals (shaL bs)
 have kz : setL [CV.int .u8 0, CV.int .u8 0, CV.int .u8 0, CV.int .u8 0, CV.int .u8 0, CV.int .u8 0, CV.int .u8 0, CV.int .u8 0, CV.int .u8 0, CV.int .u8 0, CV.int .u8 0, CV.int .u8 0, CV.int .u8 0, CV.int .u8 0, CV.int .u8 0, CV.int .u8 0, CV.int .u8 0, CV.int .u8 0, CV.int .u8 0, CV.int .u8 0, CV.int .u8 0, CV.int .u8 0, CV.int .u8 0, CV.int .u8 0, CV.int .u8 0, CV.int .u8 0, CV.int .u8 0, CV.int .u8 0, CV.int .u8 0, CV.int .u8 0, CV.int .u8 0, CV.int .u8 0] 0 (u8l (shaL bs)) = u8l (shaL bs) := setL_full (by rw [ksl]; rfl)
 have ul : (u8l bs).length = len := by rw [u8l_len]; exact hlen
 have lng : ¬ (262144 : Int) < (len : Int) := by omega
 have sl := fun i => slC_len (hf i).w
 have f0 := fun i => slC_0 (V.f i)
 have f2 := fun i => slC_2 (hf i).w
 have hm1 := (fnd_neg hmiss).1
 have hd := hB.d
 have hrd := hd.d
 have ld := get_lt hd.d
 have lr := get_lt hd.r
 have lm := get_lt hd.m
 have sdl := fun D' => setD_len m rd rs rm n D'
 have sdh := fun D' => hd.set D'
 have sda : ∀ D1 D2 X, setD (setD m rd rs rm n D1 ++ X) rd rs rm n D2 = setD m rd rs rm n D2 ++ X := fun D1 D2 X => by rw [setD_app (hd.set D1), setD_twice hd]
 have sd0 : ∀ D2 X, setD (m ++ X) rd rs rm n D2 = setD m rd rs rm n D2 ++ X := fun D2 X => setD_app hd D2 X
 have sdt : ∀ D1 D2, setD (setD m rd rs rm n D1) rd rs rm n D2 = setD m rd rs rm n D2 := fun D1 D2 => setD_twice hd D1 D2
 have sdf : ∀ D', ((m.set rd (drB rs rm n D')).set rs (rowD n D')).set rm (mapD D') = setD m rd rs rm n D' := fun _ => rfl
 have sdd : ∀ D', (setD m rd rs rm n D')[rd]? = some (drB rs rm n D') := fun D' => (hd.set D').d
 have gS := fun (D' : DS) (L : AMem) => mk_lk0 (m := m) (l := setD m rd rs rm n D') (setD_len m rd rs rm n D') L
 have kS := fun (D' : DS) (L : AMem) (k : Nat) => mk_lk (m := m) (l := setD m rd rs rm n D') (setD_len m rd rs rm n D') L k
 have tS := fun (D' : DS) (L : AMem) (k : Nat) (b : Blk) => mk_set (m := m) (l := setD m rd rs rm n D') (setD_len m rd rs rm n D') L k b
 have t0S := fun (D' : DS) (L : AMem) (b : Blk) => mk_set0 (m := m) (l := setD m rd rs rm n D') (setD_len m rd rs rm n D') L b
 have hwfD := fun D' => setD_wf (rd := rd) (n := n) hwf lr lm D'
 have hfk : fr < V.k := by
   obtain ⟨i, h1, h2, _⟩ := fnd_pos (p := fun s => s.kind == 0) (f := V.f) (k := V.k) (by omega)
   omega
 have hfz : ¬ (fr : Int) < 0 := by omega
 have hkz : ¬ (k : Int) < 0 := by omega
 obtain ⟨s, hs⟩ : ∃ s : SL, s = ⟨kind, key, shaL bs, (len : Int), (k : Int)⟩ := ⟨_, rfl⟩
 have sw : WfS s := by rw [hs]; exact ⟨hkey, shaL_len bs⟩
 have so : OkS s := by rw [hs]; exact ⟨⟨hkey, shaL_len bs⟩, by show (0 : Int) ≤ (k : Int); omega, by show (k : Int) ≤ 4294967295; omega, by show (0 : Int) ≤ (len : Int); omega, by show (len : Int) ≤ 4294967295; omega⟩
 have sfold : CV.int .i64 kind :: (u8l key ++ (u8l (shaL bs) ++ [CV.int .i64 (len : Int), CV.int .i64 (k : Int)])) = slC s := by rw [hs]; rfl
 have s64 : ((u8l key ++ (u8l (shaL bs) ++ [CV.int .i64 0, CV.int .i64 0])).set 64 (CV.int .i64 (len : Int))).set 65 (CV.int .i64 (k : Int)) = u8l key ++ (u8l (shaL bs) ++ [CV.int .i64 (len : Int), CV.int .i64 (k : Int)]) := by
   exact set64 kl ksl _ _ _ _
 have sslen := slC_len sw
 have sstk := slC_take sw
 have ssz := zb0 sslen
 have b1 := fun x => zb1 x hkey
 have b2 := fun x => zb2 x hkey (shaL_len bs)
 have b3 := fun x => zb1l x _ kl
 have cst := cC_set (n := V.k) (k := fr) hf hfk so
 have c0 : (0 : Int) ≤ (fr : Int) := by omega
 have c1 : (fr : Int) < (V.k : Int) := by omega
 have c2 : fr * 67 + 67 ≤ V.k * 67 := by omega
 have ovv := fun D' => (hB.setD D').v.v
 have ovl := fun D' => (hB.setD D').v.l
 have ovd := fun D' => (hB.setD D').d.d
 have sV := fun (D' : DS) (L : AMem) (b : Blk) => mk_olds (m := m) (l := setD m rd rs rm n D') (r := rv) (sdl D') lv L b
 have sL := fun (D' : DS) (L : AMem) (b : Blk) => mk_olds (m := m) (l := setD m rd rs rm n D') (r := rl) (sdl D') ll L b
 have kV := fun (D' : DS) (L : AMem) => mk_old (m := m) (l := setD m rd rs rm n D') (r := rv) (sdl D') lv L
 have kL := fun (D' : DS) (L : AMem) => mk_old (m := m) (l := setD m rd rs rm n D') (r := rl) (sdl D') ll L
 have fB : ∀ D', (setD m rd rs rm n D').set rl ⟨.grow, 82, 0, 67, cC V.k (upF V.f fr s)⟩ = setB m rv rl rd rs rm n { V with f := upF V.f fr s } D' := fun D' => setB_f hB D' _
 have dB : ∀ D' (e : Int), (setD m rd rs rm n D').set rv ⟨.fix, 77, 0, 0, [.ptr rd 0 0, .sl rl 0 0 V.k, .int .i64 V.data, .int .i64 e]⟩ = setB m rv rl rd rs rm n { V with dead := e } D' := fun D' e => setB_dead hB D' e
 rw [← hs] at hQ
 have hdn1 : D.down = false := hdn
 have hw1 : WfD n D := hwd
 refine AW.sr 1 fun K hK => ?_
 have pk_1 : _ ∧ _ ∧ _ ∧ _ ∧ _ ∧ _ ∧ _ ∧ _ ∧ _ ∧ _ ∧ _ ∧ _ ∧ _ ∧ _ ∧ _ ∧ _ ∧ _ ∧ _ ∧ _ ∧ _ ∧ _ ∧ _ ∧ _ ∧ _ ∧ _ ∧ _ ∧ _ ∧ _ ∧ _ ∧ _ ∧ _ ∧ _ ∧ _ ∧ _ ∧ _ ∧ _ ∧ _ ∧ _ ∧ _ ∧ _ ∧ _ ∧ _ ∧ _ ∧ _ ∧ _ ∧ _ ∧ _ ∧ _ ∧ _ ∧ _ := ⟨hv, hl, lk_old hv, lk_old hl, hp, lk_old hp, gl, kl, kt, kv, ksl, kst, ksv, kz, lng, s64, hm1, hfr, hfz, hkz, hpl, sfold, sslen, sstk, ssz, b1, b2, b3, cst, c0, c1, c2, ovv, ovl, sV, sL, kV, kL, fB, dB, sdl, sda, sd0, sdt, sdf, gS, kS, tS, t0S, hlb⟩
 simp only [push_cast, simprocAttr, vtB, rS, ul, u8l_len, slC_vals, pk_1]
 apply hK;clear hK K
 refine AW.seq_k fun K hK => ?_
 refine AW.sr 2 fun K hK => ?_
 simp only [push_cast, simprocAttr, vtB, rS, ul, u8l_len, slC_vals, pk_1]
 refine CThen.by (hup _) ?_
 simp only [push_cast, simprocAttr, vtB, rS, ul, u8l_len, slC_vals, pk_1]
 apply hK;clear hK K
 refine AW.cond_f rfl ?_
 refine AW.skip ?_
 apply hK;clear hK K
 refine AW.sr 2 fun K hK => ?_
 simp only [push_cast, simprocAttr, vtB, rS, ul, u8l_len, slC_vals, pk_1]
 refine CThen.by (of1_c (m.length + 1) 0 0 (.sl rp vp 0 len) bs [.sl rp vp 0 len] .grow 1 _ (by rw [lk_app]; rfl) rfl (.all (lk_old hp _) hlen.symm) (by omega) ho) ?_
 simp only [push_cast, simprocAttr, vtB, rS, ul, u8l_len, slC_vals, pk_1]
 refine CThen.by (find_c rv rl rd V _ (h.mono _) hf hk key hkey) ?_
 simp only [push_cast, simprocAttr, vtB, rS, ul, u8l_len, slC_vals, pk_1]
 apply hK;clear hK K
 refine AW.seq_k fun K hK => ?_
 refine AW.block ?_
 refine AW.seq_k fun K hK => ?_
 refine AW.viaJ [0, 1, 3, 6, 10, 11] [(30, .one (.bool false))] [] ?_ ?_
 ·rcases hkd with hk1 | hk1
  ·have q1 : (kind != 1) = false := by simp [hk1]
   refine AW.rg ?_
   simp only [push_cast, simprocAttr, vtB, rS, ul, u8l_len, slC_vals, pk_1, q1]
   refine Thn_n ?_
   try simp only [keepL, setAll, push_cast, simprocAttr, vtB, rS, ul, u8l_len, slC_vals, pk_1, q1, and_self]
   exact Weak.same (by simp only [KS, simprocAttr, and_self]) (by first | rfl | simp only [KS, simprocAttr, and_self])
  ·have q1 : (kind != 1) = true := by rw [hk1]; rfl
   have q2 : (kind != 2) = false := by simp [hk1]
   refine AW.rg ?_
   simp only [push_cast, simprocAttr, vtB, rS, ul, u8l_len, slC_vals, pk_1, q1, q2]
   refine Thn_n ?_
   try simp only [keepL, setAll, push_cast, simprocAttr, vtB, rS, ul, u8l_len, slC_vals, pk_1, q1, q2, and_self]
   exact Weak.same (by simp only [KS, simprocAttr, and_self]) (by first | rfl | simp only [KS, simprocAttr, and_self])
 try simp only [keepL, setAll, push_cast, simprocAttr, vtB, rS, ul, u8l_len, slC_vals, pk_1]
 apply hK;clear hK K
 refine AW.cond_f rfl ?_
 refine AW.sr 1 fun K hK => ?_
 simp only [push_cast, simprocAttr, vtB, rS, ul, u8l_len, slC_vals, pk_1]
 apply hK;clear hK K
 refine AW.cond_f rfl ?_
 refine AW.seq_k fun K hK => ?_
 refine AW.draw [.val, .val, .val, .val, .val, .val, .rd 0, .val, .val, .val, .rd 0, .val, .val, .val, .val, .val, .val, .val, .rd 0, .val, .val, .val, .rd 0, .rd 0, .val, .val, .val] fol (by decide) (by kernel_rfl) ?_
 simp only [push_cast, simprocAttr, vtB, rS, ul, u8l_len, slC_vals, pk_1]
 apply hK;clear hK K
 refine AW.cond_f rfl ?_
 refine AW.sr 1 fun K hK => ?_
 simp only [push_cast, simprocAttr, vtB, rS, ul, u8l_len, slC_vals, pk_1]
 apply hK;clear hK K
 refine AW.cond_f rfl ?_
 refine AW.skip ?_
 refine InB_n ?_
 apply hK;clear hK K
 refine AW.sr 2 fun K hK => ?_
 simp only [push_cast, simprocAttr, vtB, rS, ul, u8l_len, slC_vals, pk_1]
 refine CThen.by (ixz_c rl 0 V.k V.f _ (lk_old hl _) hf (by omega)) ?_
 simp only [push_cast, simprocAttr, vtB, rS, ul, u8l_len, slC_vals, pk_1]
 refine CThen.by (place_c rv rl rd V _ (h.mono _) hf hk rs rm n D (lk_old hB.d.d _) hn hd0 hd1 (shaL bs) (len : Int) (shaL_len bs) (by omega) (by omega)) ?_
 simp only [push_cast, simprocAttr, vtB, rS, ul, u8l_len, slC_vals, pk_1]
 iterate 2
  apply hK;clear hK K
  refine AW.seq_k fun K hK => ?_
  refine AW.sr 1 fun K hK => ?_
  simp only [push_cast, simprocAttr, vtB, rS, ul, u8l_len, slC_vals, pk_1]
  apply hK;clear hK K
  refine AW.cond_f rfl ?_
  refine AW.skip ?_
 apply hK;clear hK K
 refine AW.sr 1 fun K hK => ?_
 simp only [push_cast, simprocAttr, vtB, rS, ul, u8l_len, slC_vals, pk_1]
 apply hK;clear hK K
 refine AW.seq_k fun K hK => ?_
 refine AW.seq_k fun K hK => ?_
 refine AW.draw [.val, .val, .val, .rd 0, .val, .rd 0, .ext, .wr, .val] fol (by decide) (by kernel_rfl) ?_
 simp only [push_cast, simprocAttr, vtB, rS, ul, u8l_len, slC_vals, pk_1]
 refine DCall.by0 (enc_c s _ sw) ?_
 simp only [push_cast, simprocAttr, vtB, rS, ul, u8l_len, slC_vals, pk_1]
 refine DCallW.by (wr_any rd rs rm n fr D (encB s) _ (encB_len sw) (by first | exact hB.d.mono _ | exact (sdh _).mono _) hdn1 (by omega)) ?_
 simp only [push_cast, simprocAttr, vtB, rS, ul, u8l_len, slC_vals, pk_1]
 apply hK;clear hK K
 refine AW.sr 1 fun K hK => ?_
 simp only [push_cast, simprocAttr, vtB, rS, ul, u8l_len, slC_vals, pk_1]
 apply hK;clear hK K
 refine AW.cond rfl (fun h117 => ?_) (fun h117 => ?_)
 ·have hfin : wsS V D fr s = ({ V with dead := (wrS D fr (encB s)).2 }, (wrS D fr (encB s)).1, (wrS D fr (encB s)).2) := by unfold wsS; rw [if_pos h117]
  refine AW.sr 1 fun K hK => ?_
  simp only [push_cast, simprocAttr, vtB, rS, ul, u8l_len, slC_vals, pk_1]
  refine CThen.by (vfail_c rv rl rd V (wrS D fr (encB s)).2 _ (lk_old (ovv _) _) h117) ?_
  simp only [push_cast, simprocAttr, vtB, rS, ul, u8l_len, slC_vals, pk_1]
  apply hK;clear hK K
  refine AW.ret ?_
  refine Thn_r ?_
  refine hQ _ _ _ ?_
  try rw [hfin]
  try dsimp only
  first | refine RetP.dropM0 (setB_len ..) (by first | exact Or.inr rfl | exact Or.inl rfl) ?_ ?_ (hB.wf hwf _ _) | refine RetP.dropM (setB_len ..) (by first | exact Or.inr rfl | exact Or.inl rfl) ?_ ?_ (hB.wf hwf _ _)
  · simp only [resA, resOne, resTv, AV.tv, push_cast, simprocAttr]
  · rfl
 ·have w2 := wrS_ok (n := n) h117 hdn1 hw1 (by omega) (encB_len sw)
  refine AW.skip ?_
  apply hK;clear hK K
  refine AW.seq_k fun K hK => ?_
  refine AW.sr 2 fun K hK => ?_
  simp only [push_cast, simprocAttr, vtB, rS, ul, u8l_len, slC_vals, pk_1]
  refine CThen.by (sy_any rd rs rm n (wrS D fr (encB s)).1 _ ((sdh _).mono _) w2.1 w2.2) ?_
  simp only [push_cast, simprocAttr, vtB, rS, ul, u8l_len, slC_vals, pk_1]
  apply hK;clear hK K
  refine AW.cond rfl (fun h127 => ?_) (fun h127 => ?_)
  ·have hfin : wsS V D fr s = ({ V with dead := (syS (wrS D fr (encB s)).1).2 }, (syS (wrS D fr (encB s)).1).1, (syS (wrS D fr (encB s)).1).2) := by unfold wsS; rw [if_neg (by rw [h117]; decide), if_pos h127]
   refine AW.sr 1 fun K hK => ?_
   simp only [push_cast, simprocAttr, vtB, rS, ul, u8l_len, slC_vals, pk_1]
   refine CThen.by (vfail_c rv rl rd V (syS (wrS D fr (encB s)).1).2 _ (lk_old (ovv _) _) h127) ?_
   simp only [push_cast, simprocAttr, vtB, rS, ul, u8l_len, slC_vals, pk_1]
   apply hK;clear hK K
   refine AW.ret ?_
   refine Thn_r ?_
   refine hQ _ _ _ ?_
   try rw [hfin]
   try dsimp only
   first | refine RetP.dropM0 (setB_len ..) (by first | exact Or.inr rfl | exact Or.inl rfl) ?_ ?_ (hB.wf hwf _ _) | refine RetP.dropM (setB_len ..) (by first | exact Or.inr rfl | exact Or.inl rfl) ?_ ?_ (hB.wf hwf _ _)
   · simp only [resA, resOne, resTv, AV.tv, push_cast, simprocAttr]
   · rfl
  ·have hfin : wsS V D fr s = ({ V with f := upF V.f fr s }, (syS (wrS D fr (encB s)).1).1, 0) := by unfold wsS; rw [if_neg (by rw [h117]; decide), if_neg (by rw [h127]; decide)]
   refine AW.skip ?_
   apply hK;clear hK K
   refine AW.seq_k fun K hK => ?_
   refine AW.draw [.val, .val, .val, .rd 0, .val, .rd 0, .val, .wr] fol (by decide) (by kernel_rfl) ?_
   simp only [push_cast, simprocAttr, vtB, rS, ul, u8l_len, slC_vals, pk_1]
   apply hK;clear hK K
   refine AW.sr 1 fun K hK => ?_
   simp only [push_cast, simprocAttr, vtB, rS, ul, u8l_len, slC_vals, pk_1]
   apply hK;clear hK K
   refine AW.ret ?_
   refine hQ _ _ _ ?_
   try rw [hfin]
   try dsimp only
   first | refine RetP.dropM0 (setB_len ..) (by first | exact Or.inr rfl | exact Or.inl rfl) ?_ ?_ (hB.wf hwf _ _) | refine RetP.dropM (setB_len ..) (by first | exact Or.inr rfl | exact Or.inl rfl) ?_ ?_ (hB.wf hwf _ _)
   · simp only [resA, resOne, resTv, AV.tv, push_cast, simprocAttr]
   · rfl
theorem put_U (rv rl rd rs rm n : Nat) (V : VS) (D : DS) (m : AMem) (hB : HasB m rv rl rd rs rm n V D) (hf : ∀ i, OkS (V.f i)) (hk : V.k ≤ 512) (h0 : V.dead = 0) (kind : Int) (hkd : kind = 1 ∨ kind = 2) (key : List Int) (hkey : key.length = 32) (rp vp len : Nat) (bs : List Int) (hp : ∃ kk ez, m[rp]? = some ⟨kk, 5, vp, ez, u8l bs⟩) (hlen : bs.length = len) (hl2 : len ≤ 262144) (ho : U8ok bs) (hwd : WfD n D) (hdn : D.down = false) (hn : n ≤ 8192) (hd0 : 0 ≤ V.data) (hd1 : V.data ≤ 512) (hmiss : fnd (fdB key) V.f V.k < 0) (hkn : V.k ≤ n) (fr : Nat) (hfr : fnd (fun s => s.kind == 0) V.f V.k = (fr : Int)) (k : Nat) (hpl : plZ V n (shaL bs) (len : Int) = (k : Int)) (hk8 : k ≤ 8192) (hlb : plB V (shaL bs) (len : Int) = false) (N : Nat) (hN : (N : Int) = needZ (len : Int)) (hkN : k + N ≤ n) : Ctr Try.prog 10 [.one (.ptr rv 0 0), .one (.int .i64 kind), .agg (u8l key), .one (.sl rp vp 0 len)] m (.one (.int .i64 (if ((layS k (chB bs) N 0 D).2 != 0) = true then ({ V with dead := (layS k (chB bs) N 0 D).2 }, (layS k (chB bs) N 0 D).1, (layS k (chB bs) N 0 D).2) else wsS V (layS k (chB bs) N 0 D).1 fr ⟨kind, key, shaL bs, (len : Int), (k : Int)⟩).2.2)) (setB m rv rl rd rs rm n (if ((layS k (chB bs) N 0 D).2 != 0) = true then ({ V with dead := (layS k (chB bs) N 0 D).2 }, (layS k (chB bs) N 0 D).1, (layS k (chB bs) N 0 D).2) else wsS V (layS k (chB bs) N 0 D).1 fr ⟨kind, key, shaL bs, (len : Int), (k : Int)⟩).1 (if ((layS k (chB bs) N 0 D).2 != 0) = true then ({ V with dead := (layS k (chB bs) N 0 D).2 }, (layS k (chB bs) N 0 D).1, (layS k (chB bs) N 0 D).2) else wsS V (layS k (chB bs) N 0 D).1 fr ⟨kind, key, shaL bs, (len : Int), (k : Int)⟩).2.1) := by
 refine Ctr.enter Try.func10 rfl (by decide) (rs := [.tmp 8]) (nt := 138) rfl rfl fun hwf Q hQ => ?_
 obtain ⟨kk, ez, hp⟩ := hp
 have h := hB.v
 have hv := h.v
 have hl := h.l
 have lv := get_lt hv
 have ll := get_lt hl
 have lpp := get_lt hp
 have gl : (cC V.k V.f).length = V.k * 67 := cC_len hf V.k
 have hup : ∀ X : AMem, Ctr Try.prog 31 [.one (.ptr rv 0 0)] (m ++ X) (.one (.int .i64 0)) (m ++ X) := fun X => by
   have := vup_c rv rl rd V (m ++ X) (lk_old hv X)
   rwa [h0] at this
 have kl : (u8l key).length = 32 := by rw [u8l_len]; exact hkey
 have kt : (u8l key).take 32 = u8l key := List.take_of_length_le (by omega)
 have kv := u8l_vals key
 have ksl : (u8l (shaL bs)).length = 32 := by rw [u8l_len]; exact shaL_len bs
 have kst : (u8l (shaL bs)).take 32 = u8l (shaL bs) := List.take_of_length_le (by omega)
 have ksv := u8l_vals (shaL bs)
 have kz : setL [CV.int .u8 0, CV.int .u8 0, CV.int .u8 0, CV.int .u8 0, CV.int .u8 0, CV.int .u8 0, CV.int .u8 0, CV.int .u8 0, CV.int .u8 0, CV.int .u8 0, CV.int .u8 0, CV.int .u8 0, CV.int .u8 0, CV.int .u8 0, CV.int .u8 0, CV.int .u8 0, CV.int .u8 0, CV.int .u8 0, CV.int .u8 0, CV.int .u8 0, CV.int .u8 0, CV.int .u8 0, CV.int .u8 0, CV.int .u8 0, CV.int .u8 0, CV.int .u8 0, CV.int .u8 0, CV.int .u8 0, CV.int .u8 0, CV.int .u8 0, CV.int .u8 0, CV.int .u8 0] 0 (u8l (shaL bs)) = u8l (shaL bs) := setL_full (by rw [ksl]; rfl)
 have ul : (u8l bs).length = len := by rw [u8l_len]; exact hlen
 have lng : ¬ (262144 : Int) < (len : Int) := by omega
 have sl := fun i => slC_len (hf i).w
 have f0 := fun i => slC_0 (V.f i)
 have f2 := fun i => slC_2 (hf i).w
 have hm1 := (fnd_neg hmiss).1
 have hd := hB.d
 have hrd := hd.d
 have ld := get_lt hd.d
 have lr := get_lt hd.r
 have lm := get_lt hd.m
 have sdl := fun D' => setD_len m rd rs rm n D'
 have sdh := fun D' => hd.set D'
 have sda : ∀ D1 D2 X, setD (setD m rd rs rm n D1 ++ X) rd rs rm n D2 = setD m rd rs rm n D2 ++ X := fun D1 D2 X => by rw [setD_app (hd.set D1), setD_twice hd]
 have sd0 : ∀ D2 X, setD (m ++ X) rd rs rm n D2 = setD m rd rs rm n D2 ++ X := fun D2 X => setD_app hd D2 X
 have sdt : ∀ D1 D2, setD (setD m rd rs rm n D1) rd rs rm n D2 = setD m rd rs rm n D2 := fun D1 D2 => setD_twice hd D1 D2
 have sdf : ∀ D', ((m.set rd (drB rs rm n D')).set rs (rowD n D')).set rm (mapD D') = setD m rd rs rm n D' := fun _ => rfl
 have sdd : ∀ D', (setD m rd rs rm n D')[rd]? = some (drB rs rm n D') := fun D' => (hd.set D').d
 have gS := fun (D' : DS) (L : AMem) => mk_lk0 (m := m) (l := setD m rd rs rm n D') (setD_len m rd rs rm n D') L
 have kS := fun (D' : DS) (L : AMem) (k : Nat) => mk_lk (m := m) (l := setD m rd rs rm n D') (setD_len m rd rs rm n D') L k
 have tS := fun (D' : DS) (L : AMem) (k : Nat) (b : Blk) => mk_set (m := m) (l := setD m rd rs rm n D') (setD_len m rd rs rm n D') L k b
 have t0S := fun (D' : DS) (L : AMem) (b : Blk) => mk_set0 (m := m) (l := setD m rd rs rm n D') (setD_len m rd rs rm n D') L b
 have hwfD := fun D' => setD_wf (rd := rd) (n := n) hwf lr lm D'
 have hfk : fr < V.k := by
   obtain ⟨i, h1, h2, _⟩ := fnd_pos (p := fun s => s.kind == 0) (f := V.f) (k := V.k) (by omega)
   omega
 have hfz : ¬ (fr : Int) < 0 := by omega
 have hkz : ¬ (k : Int) < 0 := by omega
 obtain ⟨s, hs⟩ : ∃ s : SL, s = ⟨kind, key, shaL bs, (len : Int), (k : Int)⟩ := ⟨_, rfl⟩
 have sw : WfS s := by rw [hs]; exact ⟨hkey, shaL_len bs⟩
 have so : OkS s := by rw [hs]; exact ⟨⟨hkey, shaL_len bs⟩, by show (0 : Int) ≤ (k : Int); omega, by show (k : Int) ≤ 4294967295; omega, by show (0 : Int) ≤ (len : Int); omega, by show (len : Int) ≤ 4294967295; omega⟩
 have sfold : CV.int .i64 kind :: (u8l key ++ (u8l (shaL bs) ++ [CV.int .i64 (len : Int), CV.int .i64 (k : Int)])) = slC s := by rw [hs]; rfl
 have s64 : ((u8l key ++ (u8l (shaL bs) ++ [CV.int .i64 0, CV.int .i64 0])).set 64 (CV.int .i64 (len : Int))).set 65 (CV.int .i64 (k : Int)) = u8l key ++ (u8l (shaL bs) ++ [CV.int .i64 (len : Int), CV.int .i64 (k : Int)]) := by
   exact set64 kl ksl _ _ _ _
 have sslen := slC_len sw
 have sstk := slC_take sw
 have ssz := zb0 sslen
 have b1 := fun x => zb1 x hkey
 have b2 := fun x => zb2 x hkey (shaL_len bs)
 have b3 := fun x => zb1l x _ kl
 have cst := cC_set (n := V.k) (k := fr) hf hfk so
 have c0 : (0 : Int) ≤ (fr : Int) := by omega
 have c1 : (fr : Int) < (V.k : Int) := by omega
 have c2 : fr * 67 + 67 ≤ V.k * 67 := by omega
 have ovv := fun D' => (hB.setD D').v.v
 have ovl := fun D' => (hB.setD D').v.l
 have ovd := fun D' => (hB.setD D').d.d
 have sV := fun (D' : DS) (L : AMem) (b : Blk) => mk_olds (m := m) (l := setD m rd rs rm n D') (r := rv) (sdl D') lv L b
 have sL := fun (D' : DS) (L : AMem) (b : Blk) => mk_olds (m := m) (l := setD m rd rs rm n D') (r := rl) (sdl D') ll L b
 have kV := fun (D' : DS) (L : AMem) => mk_old (m := m) (l := setD m rd rs rm n D') (r := rv) (sdl D') lv L
 have kL := fun (D' : DS) (L : AMem) => mk_old (m := m) (l := setD m rd rs rm n D') (r := rl) (sdl D') ll L
 have fB : ∀ D', (setD m rd rs rm n D').set rl ⟨.grow, 82, 0, 67, cC V.k (upF V.f fr s)⟩ = setB m rv rl rd rs rm n { V with f := upF V.f fr s } D' := fun D' => setB_f hB D' _
 have dB : ∀ D' (e : Int), (setD m rd rs rm n D').set rv ⟨.fix, 77, 0, 0, [.ptr rd 0 0, .sl rl 0 0 V.k, .int .i64 V.data, .int .i64 e]⟩ = setB m rv rl rd rs rm n { V with dead := e } D' := fun D' e => setB_dead hB D' e
 rw [← hs] at hQ
 have ly := lay_c rv rl rd V (m := m) h rs rm n D hB.d hwd hdn hn k N rp vp len bs ⟨_, _, hp⟩ hlen hl2 hN hkN
 have lyX := fun X : AMem => lay_c rv rl rd V (m := m ++ X) (h.mono X) rs rm n D (hB.d.mono X) hwd hdn hn k N rp vp len bs ⟨_, _, lk_old hp X⟩ hlen hl2 hN hkN
 have lok := layS_ok (k := k) (n := n) (N := N) (bl := chB bs) (fun i => padB_len _) N 0 D
 obtain ⟨D1, hD1⟩ : ∃ q : DS, q = (layS k (chB bs) N 0 D).1 := ⟨_, rfl⟩
 obtain ⟨e1, he1⟩ : ∃ q : Int, q = (layS k (chB bs) N 0 D).2 := ⟨_, rfl⟩
 rw [← hD1, ← he1] at hQ lok
 simp only [← hD1, ← he1] at lyX
 refine AW.sr 1 fun K hK => ?_
 have pk_2 : _ ∧ _ ∧ _ ∧ _ ∧ _ ∧ _ ∧ _ ∧ _ ∧ _ ∧ _ ∧ _ ∧ _ ∧ _ ∧ _ ∧ _ ∧ _ ∧ _ ∧ _ ∧ _ ∧ _ ∧ _ ∧ _ ∧ _ ∧ _ ∧ _ ∧ _ ∧ _ ∧ _ ∧ _ ∧ _ ∧ _ ∧ _ ∧ _ ∧ _ ∧ _ ∧ _ ∧ _ ∧ _ ∧ _ ∧ _ ∧ _ ∧ _ ∧ _ ∧ _ ∧ _ ∧ _ ∧ _ ∧ _ ∧ _ ∧ _ := ⟨hv, hl, lk_old hv, lk_old hl, hp, lk_old hp, gl, kl, kt, kv, ksl, kst, ksv, kz, lng, s64, hm1, hfr, hfz, hkz, hpl, sfold, sslen, sstk, ssz, b1, b2, b3, cst, c0, c1, c2, ovv, ovl, sV, sL, kV, kL, fB, dB, sdl, sda, sd0, sdt, sdf, gS, kS, tS, t0S, hlb⟩
 simp only [push_cast, simprocAttr, vtB, rS, ul, u8l_len, slC_vals, pk_2]
 apply hK;clear hK K
 refine AW.seq_k fun K hK => ?_
 refine AW.sr 2 fun K hK => ?_
 simp only [push_cast, simprocAttr, vtB, rS, ul, u8l_len, slC_vals, pk_2]
 refine CThen.by (hup _) ?_
 simp only [push_cast, simprocAttr, vtB, rS, ul, u8l_len, slC_vals, pk_2]
 apply hK;clear hK K
 refine AW.cond_f rfl ?_
 refine AW.skip ?_
 apply hK;clear hK K
 refine AW.sr 2 fun K hK => ?_
 simp only [push_cast, simprocAttr, vtB, rS, ul, u8l_len, slC_vals, pk_2]
 refine CThen.by (of1_c (m.length + 1) 0 0 (.sl rp vp 0 len) bs [.sl rp vp 0 len] .grow 1 _ (by rw [lk_app]; rfl) rfl (.all (lk_old hp _) hlen.symm) (by omega) ho) ?_
 simp only [push_cast, simprocAttr, vtB, rS, ul, u8l_len, slC_vals, pk_2]
 refine CThen.by (find_c rv rl rd V _ (h.mono _) hf hk key hkey) ?_
 simp only [push_cast, simprocAttr, vtB, rS, ul, u8l_len, slC_vals, pk_2]
 apply hK;clear hK K
 refine AW.seq_k fun K hK => ?_
 refine AW.block ?_
 refine AW.seq_k fun K hK => ?_
 refine AW.viaJ [0, 1, 3, 6, 10, 11] [(30, .one (.bool false))] [] ?_ ?_
 ·rcases hkd with hk1 | hk1
  ·have q1 : (kind != 1) = false := by simp [hk1]
   refine AW.rg ?_
   simp only [push_cast, simprocAttr, vtB, rS, ul, u8l_len, slC_vals, pk_2, q1]
   refine Thn_n ?_
   try simp only [keepL, setAll, push_cast, simprocAttr, vtB, rS, ul, u8l_len, slC_vals, pk_2, q1, and_self]
   exact Weak.same (by simp only [KS, simprocAttr, and_self]) (by first | rfl | simp only [KS, simprocAttr, and_self])
  ·have q1 : (kind != 1) = true := by rw [hk1]; rfl
   have q2 : (kind != 2) = false := by simp [hk1]
   refine AW.rg ?_
   simp only [push_cast, simprocAttr, vtB, rS, ul, u8l_len, slC_vals, pk_2, q1, q2]
   refine Thn_n ?_
   try simp only [keepL, setAll, push_cast, simprocAttr, vtB, rS, ul, u8l_len, slC_vals, pk_2, q1, q2, and_self]
   exact Weak.same (by simp only [KS, simprocAttr, and_self]) (by first | rfl | simp only [KS, simprocAttr, and_self])
 try simp only [keepL, setAll, push_cast, simprocAttr, vtB, rS, ul, u8l_len, slC_vals, pk_2]
 apply hK;clear hK K
 refine AW.cond_f rfl ?_
 refine AW.sr 1 fun K hK => ?_
 simp only [push_cast, simprocAttr, vtB, rS, ul, u8l_len, slC_vals, pk_2]
 apply hK;clear hK K
 refine AW.cond_f rfl ?_
 refine AW.seq_k fun K hK => ?_
 refine AW.draw [.val, .val, .val, .val, .val, .val, .rd 0, .val, .val, .val, .rd 0, .val, .val, .val, .val, .val, .val, .val, .rd 0, .val, .val, .val, .rd 0, .rd 0, .val, .val, .val] fol (by decide) (by kernel_rfl) ?_
 simp only [push_cast, simprocAttr, vtB, rS, ul, u8l_len, slC_vals, pk_2]
 apply hK;clear hK K
 refine AW.cond_f rfl ?_
 refine AW.sr 1 fun K hK => ?_
 simp only [push_cast, simprocAttr, vtB, rS, ul, u8l_len, slC_vals, pk_2]
 apply hK;clear hK K
 refine AW.cond_f rfl ?_
 refine AW.skip ?_
 refine InB_n ?_
 apply hK;clear hK K
 refine AW.sr 2 fun K hK => ?_
 simp only [push_cast, simprocAttr, vtB, rS, ul, u8l_len, slC_vals, pk_2]
 refine CThen.by (ixz_c rl 0 V.k V.f _ (lk_old hl _) hf (by omega)) ?_
 simp only [push_cast, simprocAttr, vtB, rS, ul, u8l_len, slC_vals, pk_2]
 refine CThen.by (place_c rv rl rd V _ (h.mono _) hf hk rs rm n D (lk_old hB.d.d _) hn hd0 hd1 (shaL bs) (len : Int) (shaL_len bs) (by omega) (by omega)) ?_
 simp only [push_cast, simprocAttr, vtB, rS, ul, u8l_len, slC_vals, pk_2]
 apply hK;clear hK K
 refine AW.seq_k fun K hK => ?_
 refine AW.sr 1 fun K hK => ?_
 simp only [push_cast, simprocAttr, vtB, rS, ul, u8l_len, slC_vals, pk_2]
 apply hK;clear hK K
 refine AW.cond_f rfl ?_
 refine AW.skip ?_
 apply hK;clear hK K
 refine AW.seq_k fun K hK => ?_
 refine AW.sr 1 fun K hK => ?_
 simp only [push_cast, simprocAttr, vtB, rS, ul, u8l_len, slC_vals, pk_2]
 apply hK;clear hK K
 refine AW.cond_t rfl ?_
 refine AW.sr 2 fun K hK => ?_
 simp only [push_cast, simprocAttr, vtB, rS, ul, u8l_len, slC_vals, pk_2]
 refine CThen.by (lyX _) ?_
 simp only [push_cast, simprocAttr, vtB, rS, ul, u8l_len, slC_vals, pk_2]
 apply hK;clear hK K
 refine AW.cond rfl (fun h97 => ?_) (fun h97 => ?_)
 ·rw [if_pos h97] at hQ
  have hfin : True := trivial
  refine AW.sr 1 fun K hK => ?_
  simp only [push_cast, simprocAttr, vtB, rS, ul, u8l_len, slC_vals, pk_2]
  refine CThen.by (vfail_c rv rl rd V e1 _ (lk_old (ovv _) _) h97) ?_
  simp only [push_cast, simprocAttr, vtB, rS, ul, u8l_len, slC_vals, pk_2]
  apply hK;clear hK K
  refine AW.ret ?_
  refine Thn_r ?_
  refine hQ _ _ _ ?_
  try rw [hfin]
  try dsimp only
  first | refine RetP.dropM0 (setB_len ..) (by first | exact Or.inr rfl | exact Or.inl rfl) ?_ ?_ (hB.wf hwf _ _) | refine RetP.dropM (setB_len ..) (by first | exact Or.inr rfl | exact Or.inl rfl) ?_ ?_ (hB.wf hwf _ _)
  · simp only [resA, resOne, resTv, AV.tv, push_cast, simprocAttr]
  · rfl
 ·rw [if_neg (by rw [h97]; decide)] at hQ
  obtain ⟨hdn1, hw1⟩ := lok h97 hdn hwd (by omega)
  refine AW.skip ?_
  apply hK;clear hK K
  refine AW.sr 1 fun K hK => ?_
  simp only [push_cast, simprocAttr, vtB, rS, ul, u8l_len, slC_vals, pk_2]
  apply hK;clear hK K
  refine AW.seq_k fun K hK => ?_
  refine AW.seq_k fun K hK => ?_
  refine AW.draw [.val, .val, .val, .rd 0, .val, .rd 0, .ext, .wr, .val] fol (by decide) (by kernel_rfl) ?_
  simp only [push_cast, simprocAttr, vtB, rS, ul, u8l_len, slC_vals, pk_2]
  refine DCall.by0 (enc_c s _ sw) ?_
  simp only [push_cast, simprocAttr, vtB, rS, ul, u8l_len, slC_vals, pk_2]
  refine DCallW.by (wr_any rd rs rm n fr D1 (encB s) _ (encB_len sw) (by first | exact hB.d.mono _ | exact (sdh _).mono _) hdn1 (by omega)) ?_
  simp only [push_cast, simprocAttr, vtB, rS, ul, u8l_len, slC_vals, pk_2]
  apply hK;clear hK K
  refine AW.sr 1 fun K hK => ?_
  simp only [push_cast, simprocAttr, vtB, rS, ul, u8l_len, slC_vals, pk_2]
  apply hK;clear hK K
  refine AW.cond rfl (fun h117 => ?_) (fun h117 => ?_)
  ·have hfin : wsS V D1 fr s = ({ V with dead := (wrS D1 fr (encB s)).2 }, (wrS D1 fr (encB s)).1, (wrS D1 fr (encB s)).2) := by unfold wsS; rw [if_pos h117]
   refine AW.sr 1 fun K hK => ?_
   simp only [push_cast, simprocAttr, vtB, rS, ul, u8l_len, slC_vals, pk_2]
   refine CThen.by (vfail_c rv rl rd V (wrS D1 fr (encB s)).2 _ (lk_old (ovv _) _) h117) ?_
   simp only [push_cast, simprocAttr, vtB, rS, ul, u8l_len, slC_vals, pk_2]
   apply hK;clear hK K
   refine AW.ret ?_
   refine Thn_r ?_
   refine hQ _ _ _ ?_
   try rw [hfin]
   try dsimp only
   first | refine RetP.dropM0 (setB_len ..) (by first | exact Or.inr rfl | exact Or.inl rfl) ?_ ?_ (hB.wf hwf _ _) | refine RetP.dropM (setB_len ..) (by first | exact Or.inr rfl | exact Or.inl rfl) ?_ ?_ (hB.wf hwf _ _)
   · simp only [resA, resOne, resTv, AV.tv, push_cast, simprocAttr]
   · rfl
  ·have w2 := wrS_ok (n := n) h117 hdn1 hw1 (by omega) (encB_len sw)
   refine AW.skip ?_
   apply hK;clear hK K
   refine AW.seq_k fun K hK => ?_
   refine AW.sr 2 fun K hK => ?_
   simp only [push_cast, simprocAttr, vtB, rS, ul, u8l_len, slC_vals, pk_2]
   refine CThen.by (sy_any rd rs rm n (wrS D1 fr (encB s)).1 _ ((sdh _).mono _) w2.1 w2.2) ?_
   simp only [push_cast, simprocAttr, vtB, rS, ul, u8l_len, slC_vals, pk_2]
   apply hK;clear hK K
   refine AW.cond rfl (fun h127 => ?_) (fun h127 => ?_)
   ·have hfin : wsS V D1 fr s = ({ V with dead := (syS (wrS D1 fr (encB s)).1).2 }, (syS (wrS D1 fr (encB s)).1).1, (syS (wrS D1 fr (encB s)).1).2) := by unfold wsS; rw [if_neg (by rw [h117]; decide), if_pos h127]
    refine AW.sr 1 fun K hK => ?_
    simp only [push_cast, simprocAttr, vtB, rS, ul, u8l_len, slC_vals, pk_2]
    refine CThen.by (vfail_c rv rl rd V (syS (wrS D1 fr (encB s)).1).2 _ (lk_old (ovv _) _) h127) ?_
    simp only [push_cast, simprocAttr, vtB, rS, ul, u8l_len, slC_vals, pk_2]
    apply hK;clear hK K
    refine AW.ret ?_
    refine Thn_r ?_
    refine hQ _ _ _ ?_
    try rw [hfin]
    try dsimp only
    first | refine RetP.dropM0 (setB_len ..) (by first | exact Or.inr rfl | exact Or.inl rfl) ?_ ?_ (hB.wf hwf _ _) | refine RetP.dropM (setB_len ..) (by first | exact Or.inr rfl | exact Or.inl rfl) ?_ ?_ (hB.wf hwf _ _)
    · simp only [resA, resOne, resTv, AV.tv, push_cast, simprocAttr]
    · rfl
   ·have hfin : wsS V D1 fr s = ({ V with f := upF V.f fr s }, (syS (wrS D1 fr (encB s)).1).1, 0) := by unfold wsS; rw [if_neg (by rw [h117]; decide), if_neg (by rw [h127]; decide)]
    refine AW.skip ?_
    apply hK;clear hK K
    refine AW.seq_k fun K hK => ?_
    refine AW.draw [.val, .val, .val, .rd 0, .val, .rd 0, .val, .wr] fol (by decide) (by kernel_rfl) ?_
    simp only [push_cast, simprocAttr, vtB, rS, ul, u8l_len, slC_vals, pk_2]
    apply hK;clear hK K
    refine AW.sr 1 fun K hK => ?_
    simp only [push_cast, simprocAttr, vtB, rS, ul, u8l_len, slC_vals, pk_2]
    apply hK;clear hK K
    refine AW.ret ?_
    refine hQ _ _ _ ?_
    try rw [hfin]
    try dsimp only
    first | refine RetP.dropM0 (setB_len ..) (by first | exact Or.inr rfl | exact Or.inl rfl) ?_ ?_ (hB.wf hwf _ _) | refine RetP.dropM (setB_len ..) (by first | exact Or.inr rfl | exact Or.inl rfl) ?_ ?_ (hB.wf hwf _ _)
    · simp only [resA, resOne, resTv, AV.tv, push_cast, simprocAttr]
    · rfl
theorem get_none (rv rl rd rs rm n : Nat) (V : VS) (D : DS) (m : AMem) (hB : HasB m rv rl rd rs rm n V D) (hf : ∀ i, OkS (V.f i)) (hk : V.k ≤ 512) (h0 : V.dead = 0) (key : List Int) (hkey : key.length = 32) (hmiss : fnd (fdB key) V.f V.k < 0) : Ctr Try.prog 14 [.one (.ptr rv 0 0), .agg (u8l key)] m (.tup [(false, [.nils]), (false, [.int .i64 6])]) m := by
 refine Ctr.enter Try.func14 rfl (by decide) (rs := [.tmp 4, .tmp 5]) (nt := 50) rfl rfl fun hwf Q hQ => ?_
 have h := hB.v
 have hv := h.v
 have hl := h.l
 have lv := get_lt hv
 have ll := get_lt hl
 have gl : (cC V.k V.f).length = V.k * 67 := cC_len hf V.k
 have hup : ∀ X : AMem, Ctr Try.prog 31 [.one (.ptr rv 0 0)] (m ++ X) (.one (.int .i64 0)) (m ++ X) := fun X => by
   have := vup_c rv rl rd V (m ++ X) (lk_old hv X)
   rwa [h0] at this
 have kl : (u8l key).length = 32 := by rw [u8l_len]; exact hkey
 have kt : (u8l key).take 32 = u8l key := List.take_of_length_le (by omega)
 have kv := u8l_vals key
 have sl := fun i => slC_len (hf i).w
 have f0 := fun i => slC_0 (V.f i)
 have f2 := fun i => slC_2 (hf i).w
 have hm1 := (fnd_neg hmiss).1
 refine AW.sr 1 fun K hK => ?_
 have pk_1 : _ ∧ _ ∧ _ ∧ _ ∧ _ ∧ _ ∧ _ ∧ _ ∧ _ := ⟨hv, hl, lk_old hv, lk_old hl, gl, kl, kt, kv, hm1⟩
 simp only [push_cast, simprocAttr, vtB, rS, slC_vals, pk_1]
 apply hK;clear hK K
 refine AW.seq_k fun K hK => ?_
 refine AW.sr 2 fun K hK => ?_
 simp only [push_cast, simprocAttr, vtB, rS, slC_vals, pk_1]
 refine CThen.by (hup _) ?_
 simp only [push_cast, simprocAttr, vtB, rS, slC_vals, pk_1]
 apply hK;clear hK K
 refine AW.cond_f rfl ?_
 refine AW.skip ?_
 apply hK;clear hK K
 refine AW.sr 1 fun K hK => ?_
 simp only [push_cast, simprocAttr, vtB, rS, slC_vals, pk_1]
 refine CThen.by (find_c rv rl rd V _ (h.mono _) hf hk key hkey) ?_
 simp only [push_cast, simprocAttr, vtB, rS, slC_vals, pk_1]
 apply hK;clear hK K
 refine AW.seq_k fun K hK => ?_
 refine AW.sr 1 fun K hK => ?_
 simp only [push_cast, simprocAttr, vtB, rS, slC_vals, pk_1]
 apply hK;clear hK K
 refine AW.cond_t rfl ?_
 refine AW.sr 1 fun K hK => ?_
 simp only [push_cast, simprocAttr, vtB, rS, slC_vals, pk_1]
 apply hK;clear hK K
 refine AW.ret ?_
 refine Thn_r ?_
 refine hQ _ _ _ ?_
 first | refine RetP.drop0 (Or.inr rfl) ?_ ?_ hwf | refine RetP.drop (Or.inr rfl) ?_ ?_ hwf
 · simp only [resA, resOne, resTv, AV.tv, push_cast, simprocAttr, vtB, rS, slC_vals, pk_1]
 · rfl
theorem get_ok (rv rl rd rs rm n : Nat) (V : VS) (D : DS) (m : AMem) (hB : HasB m rv rl rd rs rm n V D) (hf : ∀ i, OkS (V.f i)) (hk : V.k ≤ 512) (h0 : V.dead = 0) (key : List Int) (hkey : key.length = 32) (hwd : WfD n D) (hdn : D.down = false) (hn : n ≤ 8192) (a : Nat) (ha : fnd (fdB key) V.f V.k = (a : Int)) (k N z : Nat) (hfk : (V.f a).fr = (k : Int)) (hz : (V.f a).size = (z : Int)) (hz2 : z ≤ 262144) (hN : (N : Int) = needZ (z : Int)) (hkN : k + N ≤ n) (hu : U8ok (datL D k N)) (hs : shaL ((datL D k N).take z) = (V.f a).sum) : Ctr Try.prog 14 [.one (.ptr rv 0 0), .agg (u8l key)] m (.tup [(false, [.sl m.length 0 0 z]), (false, [.int .i64 0])]) (m ++ [⟨.grow, 5, 0, 1, u8l (datL D k N)⟩]) := by
 refine Ctr.enter Try.func14 rfl (by decide) (rs := [.tmp 4, .tmp 5]) (nt := 50) rfl rfl fun hwf Q hQ => ?_
 have h := hB.v
 have hv := h.v
 have hl := h.l
 have lv := get_lt hv
 have ll := get_lt hl
 have gl : (cC V.k V.f).length = V.k * 67 := cC_len hf V.k
 have hup : ∀ X : AMem, Ctr Try.prog 31 [.one (.ptr rv 0 0)] (m ++ X) (.one (.int .i64 0)) (m ++ X) := fun X => by
   have := vup_c rv rl rd V (m ++ X) (lk_old hv X)
   rwa [h0] at this
 have kl : (u8l key).length = 32 := by rw [u8l_len]; exact hkey
 have kt : (u8l key).take 32 = u8l key := List.take_of_length_le (by omega)
 have kv := u8l_vals key
 have sl := fun i => slC_len (hf i).w
 have f0 := fun i => slC_0 (V.f i)
 have f2 := fun i => slC_2 (hf i).w
 have hak : a < V.k := by
   obtain ⟨i, h1, h2, _⟩ := fnd_pos (p := fdB key) (f := V.f) (k := V.k) (by omega)
   omega
 have hlt0 : ∀ k, ¬ m.length + k < m.length := fun k => by omega
 have az : ¬ (a : Int) < 0 := by omega
 have lx := cC_at (n := V.k) (f := V.f) hf hak
 have lx2 : ((cC V.k V.f).drop (a * 67 + 33)).take 32 = u8l (V.f a).sum := (catC_in (F := fun i => slC (V.f i)) (n := V.k) (k := a) (a := 33) (b := 32) (fun i => slC_len (hf i).w) hak (by decide)).trans (f2 a)
 have c0 : (0 : Int) ≤ (a : Int) := by omega
 have c1 : (a : Int) < (V.k : Int) := by omega
 have c2 : a * 67 + 67 ≤ V.k * 67 := by omega
 have c3 : a * 67 + (33 + 32) ≤ V.k * 67 := by omega
 have c4 : a * 67 + 33 + 32 ≤ V.k * 67 := by omega
 obtain ⟨nb1, nb2⟩ := needZ_nat hN (by omega)
 have dl := datL_len hwd k N
 obtain ⟨bs, hbs⟩ : ∃ bs, bs = (datL D k N).take z := ⟨_, rfl⟩
 have bl : bs.length = z := by rw [hbs, List.length_take, dl]; omega
 have bo : U8ok bs := fun x hx => hu x (by rw [hbs] at hx; exact List.mem_of_mem_take hx)
 rw [← hbs] at hs
 have ld := fun X : AMem => load_c rv rl rd V (V.f a) k N (m ++ X) (lk_old hv X) rs rm n D (hB.d.mono X) hwd hdn hn (hf a).w hfk (by omega) (by omega) (by rw [hz]; exact hN) hkN
 simp only [hz, Int.toNat_natCast] at ld
 have eq := eqpn (shaL_len bs) (hf a).w.s
 rw [decide_eq_true hs] at eq
 refine AW.sr 1 fun K hK => ?_
 have pk_2 : _ ∧ _ ∧ _ ∧ _ ∧ _ ∧ _ ∧ _ ∧ _ ∧ _ ∧ _ ∧ _ ∧ _ ∧ _ ∧ _ ∧ _ ∧ _ ∧ _ ∧ _ := ⟨hv, hl, lk_old hv, lk_old hl, gl, kl, kt, kv, ha, az, lx, lx2, c0, c1, c2, c3, c4, eq⟩
 simp only [push_cast, simprocAttr, vtB, rS, slC_vals, pk_2]
 apply hK;clear hK K
 refine AW.seq_k fun K hK => ?_
 refine AW.sr 2 fun K hK => ?_
 simp only [push_cast, simprocAttr, vtB, rS, slC_vals, pk_2]
 refine CThen.by (hup _) ?_
 simp only [push_cast, simprocAttr, vtB, rS, slC_vals, pk_2]
 apply hK;clear hK K
 refine AW.cond_f rfl ?_
 refine AW.skip ?_
 apply hK;clear hK K
 refine AW.sr 1 fun K hK => ?_
 simp only [push_cast, simprocAttr, vtB, rS, slC_vals, pk_2]
 refine CThen.by (find_c rv rl rd V _ (h.mono _) hf hk key hkey) ?_
 simp only [push_cast, simprocAttr, vtB, rS, slC_vals, pk_2]
 apply hK;clear hK K
 refine AW.seq_k fun K hK => ?_
 refine AW.sr 1 fun K hK => ?_
 simp only [push_cast, simprocAttr, vtB, rS, slC_vals, pk_2]
 apply hK;clear hK K
 refine AW.cond_f rfl ?_
 refine AW.skip ?_
 apply hK;clear hK K
 refine AW.sr 1 fun K hK => ?_
 simp only [push_cast, simprocAttr, vtB, rS, slC_vals, pk_2]
 refine CThen.by (ld _) ?_
 simp only [push_cast, simprocAttr, vtB, rS, slC_vals, pk_2]
 apply hK;clear hK K
 refine AW.seq_k fun K hK => ?_
 refine AW.block ?_
 refine AW.sr 1 fun K hK => ?_
 simp only [push_cast, simprocAttr, vtB, rS, slC_vals, pk_2]
 apply hK;clear hK K
 refine AW.cond_f rfl ?_
 refine AW.seq_k fun K hK => ?_
 refine AW.draw [.val, .ext, .ext, .val, .val, .val, .rd 0, .val, .val, .val, .rd 0, .val, .val] fol (by decide) (by kernel_rfl) ?_
 simp only [push_cast, simprocAttr, vtB, rS, slC_vals, pk_2]
 refine DExt.by (by first | rfl | exact (List.append_nil _).symm | (simp only [List.append_assoc, List.cons_append, List.nil_append]; rfl)) ?_
 simp only [push_cast, simprocAttr, vtB, rS, slC_vals, pk_2]
 refine DCall.by0 (of1_c (m.length + 2) 0 0 (.sl (m.length + 1) 0 0 z) bs [.sl (m.length + 1) 0 0 z] .grow 1 _ (by rw [lk_app]; rfl) rfl (.row (X := datL D k N) (by rw [lk_app]; rfl) bl.symm (by omega) (by rw [List.drop_zero, bl, hbs])) (by omega) bo) ?_
 simp only [push_cast, simprocAttr, vtB, rS, slC_vals, pk_2]
 apply hK;clear hK K
 refine AW.cond_f rfl ?_
 refine AW.skip ?_
 refine InB_n ?_
 apply hK;clear hK K
 refine AW.sr 1 fun K hK => ?_
 simp only [push_cast, simprocAttr, vtB, rS, slC_vals, pk_2]
 apply hK;clear hK K
 refine AW.ret ?_
 refine hQ _ _ _ ?_
 refine RetP.pick [(m.length + 1, 0)] (Or.inr rfl) ?_ ?_ ?_ hwf ?_
 · simp only [resA, resOne, resTv, AV.tv, push_cast, simprocAttr]
   simp [renV, renT, renL, renC, renIdx, hlt0]
 · simp only [picks, push_cast, simprocAttr]
 · simp [distinctFrom]
 · exact MWf_one (u8l_below _ _)
structure GoodS (D : DS) (n k : Nat) (f : Nat → SL) (i : Nat) : Prop where
 b : ¬ vis D.S D.E i = zB
 d : decS (vis D.S D.E i) = f i
 o : decO (vis D.S D.E i) = true
 s : (f i).size ≤ 262144
 fr : (k : Int) ≤ (f i).fr
 e : (f i).fr + needZ (f i).size ≤ (n : Int)
 h : shaL ((datL D (f i).fr.toNat (needZ (f i).size).toNat).take (f i).size.toNat) = (f i).sum
structure Good (D : DS) (n k : Nat) (f : Nat → SL) : Prop where
 ok : ∀ i, OkS (f i)
 at_ : ∀ i, i < k → (vis D.S D.E i = zB ∧ f i = zS) ∨ GoodS D n k f i
 two : ∀ i j, i < k → j < i → ¬ (f j).kind = 0 → ¬ vis D.S D.E i = zB → ¬ (f j).key = (f i).key
 out : ∀ i, k ≤ i → f i = zS
def preF (f : Nat → SL) (i : Nat) : Nat → SL := fun j => if j < i then f j else zS
theorem preF_ok {f : Nat → SL} (h : ∀ i, OkS (f i)) (i : Nat) : ∀ j, OkS (preF f i j) := fun j => by
 unfold preF; split
 ·exact h j
 ·exact zS_ok
theorem preF_up (f : Nat → SL) (i : Nat) : upF (preF f i) i (f i) = preF f (i + 1) := funext fun j => by
 unfold upF preF
 repeat' split
 all_goals first | rfl | omega | (subst_vars; rfl)
theorem preF_z {f : Nat → SL} {i : Nat} (h : f i = zS) : preF f i = preF f (i + 1) := funext fun j => by
 unfold preF
 repeat' split
 all_goals first | rfl | omega | (rw [show j = i by omega]; exact h.symm)
theorem Good.miss {D : DS} {n k : Nat} {f : Nat → SL} (h : Good D n k f) {i : Nat} (hi : i < k) (hb : ¬ vis D.S D.E i = zB) : fnd (fdB (f i).key) (preF f i) k < 0 := by
 rcases Int.lt_or_le (fnd (fdB (f i).key) (preF f i) k) 0 with h1 | h1
 ·exact h1
 ·obtain ⟨j, hj, _, hp, _⟩ := fnd_pos h1
  unfold fdB preF at hp
  rw [Bool.and_eq_true, decide_eq_true_iff, decide_eq_true_iff] at hp
  split at hp
  ·rename_i hji; exact absurd hp.2 (h.two i j hi hji hp.1 hb)
  ·exact absurd rfl hp.1
theorem Good.fin {D : DS} {n k : Nat} {f : Nat → SL} (h : Good D n k f) : preF f k = f := funext fun j => by
 unfold preF; split
 ·rfl
 ·rename_i hj; exact (h.out j (by omega)).symm
theorem byB_ok {l : List Int} (h : U8ok l) : ∀ i, 0 ≤ byB l i ∧ byB l i ≤ 255 := fun i => by
 unfold byB
 rw [List.getD_eq_getElem?_getD]
 cases e : l[i]? with
 | none => exact ⟨Int.le_refl _, by decide⟩
 | some x => exact h x (List.mem_of_getElem? e)
theorem datL_ok {D : DS} (h : ∀ i, U8ok (vis D.S D.E i)) (k : Nat) : ∀ N, U8ok (datL D k N)
 | 0 => fun x hx => by cases hx
 | N + 1 => fun x hx => by
  have e : datL D k (N + 1) = datL D k N ++ vis D.S D.E (k + N) := rfl
  rw [e] at hx
  rcases List.mem_append.1 hx with h1 | h1
  ·exact datL_ok h k N x h1
  ·exact h _ x h1
theorem zeros_slots (z : Value) (arr : Array Value) (hz : z.cells = arr) (hs : arr.size = 67) (hl : slC zS = arr.toList.map cellOf) (k : Nat) : zeros z (k * 67) = cC k (fun _ => zS) := by
 unfold zeros
 rw [hz]
 refine List.ext_getElem? fun i => ?_
 have hF : ∀ j, ((fun _ : Nat => slC zS) j).length = 67 := fun _ => rfl
 rcases Nat.lt_or_ge i (k * 67) with h | h
 ·rw [List.getElem?_map, List.getElem?_range h]
  have h1 := catC_get (F := fun _ => slC zS) (n := k) (k := i / 67) (a := i % 67) hF (by omega) (Nat.mod_lt _ (by decide))
  rw [show i / 67 * 67 + i % 67 = i by omega] at h1
  unfold cC
  rw [h1, Option.map_some, hs]
  have hm : i % 67 < arr.size := by rw [hs]; exact Nat.mod_lt _ (by decide)
  rw [hl, List.getElem?_map, Array.getElem?_toList, Array.getElem?_eq_getElem hm, Option.map_some, getElem!_pos arr _ hm]
 ·rw [List.getElem?_eq_none (by simp; omega), List.getElem?_eq_none (by unfold cC; rw [catC_len hF]; omega)]
def zSV : Value := .agg #[.int .i64 0, .int .u8 0, .int .u8 0, .int .u8 0, .int .u8 0, .int .u8 0, .int .u8 0, .int .u8 0, .int .u8 0, .int .u8 0, .int .u8 0, .int .u8 0, .int .u8 0, .int .u8 0, .int .u8 0, .int .u8 0, .int .u8 0, .int .u8 0, .int .u8 0, .int .u8 0, .int .u8 0, .int .u8 0, .int .u8 0, .int .u8 0, .int .u8 0, .int .u8 0, .int .u8 0, .int .u8 0, .int .u8 0, .int .u8 0, .int .u8 0, .int .u8 0, .int .u8 0, .int .u8 0, .int .u8 0, .int .u8 0, .int .u8 0, .int .u8 0, .int .u8 0, .int .u8 0, .int .u8 0, .int .u8 0, .int .u8 0, .int .u8 0, .int .u8 0, .int .u8 0, .int .u8 0, .int .u8 0, .int .u8 0, .int .u8 0, .int .u8 0, .int .u8 0, .int .u8 0, .int .u8 0, .int .u8 0, .int .u8 0, .int .u8 0, .int .u8 0, .int .u8 0, .int .u8 0, .int .u8 0, .int .u8 0, .int .u8 0, .int .u8 0, .int .u8 0, .int .i64 0, .int .i64 0]
theorem zrow (k : Nat) : zeros zSV (k * 67) = cC k (fun _ => zS) := zeros_slots zSV _ rfl rfl rfl k
theorem slotsZ_nat (n : Nat) (hn : n ≤ 8192) : slotsZ (n : Int) = ((min (n / 4) 512 : Nat) : Int) := by unfold slotsZ; split <;> omega
theorem open_c (rd rs rm n k : Nat) (D : DS) (f : Nat → SL) (m : AMem) (hd : HasD m rd rs rm n D) (hwd : WfD n D) (hdn : D.down = false) (hn : n ≤ 8192) (hk : (k : Int) = slotsZ (n : Int)) (hu : ∀ i, U8ok (vis D.S D.E i)) (hg : Good D n k f) : Ctr Try.prog 7 [.one (.ptr rd 0 0)] m (.tup [(false, [.ptr (m.length + 1) 0 0]), (false, [.int .i64 0])]) (m ++ [rS 0 k f, vtB rd m.length ⟨k, f, (k : Int), 0⟩]) := by
 refine Ctr.enter Try.func7 rfl (by decide) (rs := [.tmp 2, .tmp 3]) (nt := 108) rfl rfl fun hwf Q hQ => ?_
 have hrd := hd.d
 have ld := get_lt hrd
 have hkn : k ≤ 512 ∧ k ≤ n := by have := slotsZ_nat n hn; omega
 have hke := hk.symm
 have hko := hg.ok
 have zr : zeros zSV ((k : Int).toNat * 67) = cC k (fun _ => zS) := by rw [Int.toNat_natCast]; exact zrow k
 have zr0 : cC k (preF f 0) = cC k (fun _ => zS) := catC_congr fun i _ => by unfold preF; rw [if_neg (by omega)]
 unfold zSV at zr
 have q1 : (67 : Int) * (k : Int) ≤ 281474976710656 := by omega
 have q2 : (k : Int) ≤ 281474976710656 := by omega
 have q3 : (0 : Int) ≤ (k : Int) := by omega
 have q4 : (88 : Int) * (k : Int) ≤ 281474976710656 := by omega
 have vl := fun i => visD_len hwd i
 have lu := fun i => (show (u8l (vis D.S D.E i)).length = 128 by rw [u8l_len]; exact vl i)
 have tu := fun i => List.take_of_length_le (Nat.le_of_eq (lu i))
 have vu := fun i => u8l_vals (vis D.S D.E i)
 have sl := fun i => slC_len (hko i).w
 have f0 := fun i => slC_0 (f i)
 have f1 := fun i => slC_1 (hko i).w
 have f2 := fun i => slC_2 (hko i).w
 have f3 := fun i => slC_3 (hko i).w
 have f4 := fun i => slC_4 (hko i).w
 have t67 := fun i => slC_take (hko i).w
 have zb := fun i => zb0 (sl i)
 have hfin := hg.fin
 have sb : ∀ i, setL [CV.int .u8 0, CV.int .u8 0, CV.int .u8 0, CV.int .u8 0, CV.int .u8 0, CV.int .u8 0, CV.int .u8 0, CV.int .u8 0, CV.int .u8 0, CV.int .u8 0, CV.int .u8 0, CV.int .u8 0, CV.int .u8 0, CV.int .u8 0, CV.int .u8 0, CV.int .u8 0, CV.int .u8 0, CV.int .u8 0, CV.int .u8 0, CV.int .u8 0, CV.int .u8 0, CV.int .u8 0, CV.int .u8 0, CV.int .u8 0, CV.int .u8 0, CV.int .u8 0, CV.int .u8 0, CV.int .u8 0, CV.int .u8 0, CV.int .u8 0, CV.int .u8 0, CV.int .u8 0, CV.int .u8 0, CV.int .u8 0, CV.int .u8 0, CV.int .u8 0, CV.int .u8 0, CV.int .u8 0, CV.int .u8 0, CV.int .u8 0, CV.int .u8 0, CV.int .u8 0, CV.int .u8 0, CV.int .u8 0, CV.int .u8 0, CV.int .u8 0, CV.int .u8 0, CV.int .u8 0, CV.int .u8 0, CV.int .u8 0, CV.int .u8 0, CV.int .u8 0, CV.int .u8 0, CV.int .u8 0, CV.int .u8 0, CV.int .u8 0, CV.int .u8 0, CV.int .u8 0, CV.int .u8 0, CV.int .u8 0, CV.int .u8 0, CV.int .u8 0, CV.int .u8 0, CV.int .u8 0, CV.int .u8 0, CV.int .u8 0, CV.int .u8 0, CV.int .u8 0, CV.int .u8 0, CV.int .u8 0, CV.int .u8 0, CV.int .u8 0, CV.int .u8 0, CV.int .u8 0, CV.int .u8 0, CV.int .u8 0, CV.int .u8 0, CV.int .u8 0, CV.int .u8 0, CV.int .u8 0, CV.int .u8 0, CV.int .u8 0, CV.int .u8 0, CV.int .u8 0, CV.int .u8 0, CV.int .u8 0, CV.int .u8 0, CV.int .u8 0, CV.int .u8 0, CV.int .u8 0, CV.int .u8 0, CV.int .u8 0, CV.int .u8 0, CV.int .u8 0, CV.int .u8 0, CV.int .u8 0, CV.int .u8 0, CV.int .u8 0, CV.int .u8 0, CV.int .u8 0, CV.int .u8 0, CV.int .u8 0, CV.int .u8 0, CV.int .u8 0, CV.int .u8 0, CV.int .u8 0, CV.int .u8 0, CV.int .u8 0, CV.int .u8 0, CV.int .u8 0, CV.int .u8 0, CV.int .u8 0, CV.int .u8 0, CV.int .u8 0, CV.int .u8 0, CV.int .u8 0, CV.int .u8 0, CV.int .u8 0, CV.int .u8 0, CV.int .u8 0, CV.int .u8 0, CV.int .u8 0, CV.int .u8 0, CV.int .u8 0, CV.int .u8 0, CV.int .u8 0, CV.int .u8 0, CV.int .u8 0] 0 (u8l (vis D.S D.E i)) = u8l (vis D.S D.E i) := fun i => setL_full (by rw [lu i]; rfl)
 refine AW.sr 1 fun K hK => ?_
 have pk_1 : _ ∧ _ ∧ _ ∧ _ ∧ _ ∧ _ ∧ _ ∧ _ ∧ _ ∧ _ ∧ _ ∧ _ ∧ _ ∧ _ ∧ _ ∧ _ ∧ _ ∧ _ ∧ _ ∧ _ := ⟨hrd, lk_old hrd, hke, q1, q2, q3, q4, vl, lu, tu, vu, sl, f0, f1, f2, f3, f4, t67, zb, sb⟩
 simp only [push_cast, simprocAttr, ↓zr, Int.le_refl, Int.toNat_natCast, slC_vals, u8l_len, rS, pk_1]
 apply hK;clear hK K
 refine AW.seq_k fun K hK => ?_
 refine AW.sr 1 fun K hK => ?_
 simp only [push_cast, simprocAttr, ↓zr, Int.le_refl, Int.toNat_natCast, slC_vals, u8l_len, rS, pk_1]
 apply hK;clear hK K
 refine AW.cond_f rfl ?_
 refine AW.skip ?_
 apply hK;clear hK K
 refine AW.seq_k fun K hK => ?_
 refine AW.drawX fol (by kernel_rfl) ?_
 refine DX.split 4 6 (by decide) ?_ ?_
 focus
  refine DX.run [0, 1, 2, 3, 4, 5, 6, 7, 8, 9, 10] [.val, .val, .ext, .ext, .ext, .val, .ext, .ext, .val, .ext, .val] (by simp only [permL, reOp, List.idxOf_cons, push_cast, simprocAttr, ↓zr, Int.le_refl, Int.toNat_natCast, slC_vals, u8l_len, rS, pk_1]; first | done | rfl) (by kernel_rfl) ?_
  iterate 2
   simp only [push_cast, simprocAttr, ↓zr, Int.le_refl, Int.toNat_natCast, slC_vals, u8l_len, rS, pk_1]
   refine DCall.by0 ((by first | exact blocks_c rd rs rm n D _ hrd | exact blocks_c rd rs rm n D _ (lk_old hrd _))) ?_
   simp only [push_cast, simprocAttr, ↓zr, Int.le_refl, Int.toNat_natCast, slC_vals, u8l_len, rS, pk_1]
   refine DCall.by0 (slots_c (n : Int) _ (by omega) (by omega)) ?_
   simp only [push_cast, simprocAttr, ↓zr, Int.le_refl, Int.toNat_natCast, slC_vals, u8l_len, rS, pk_1]
   refine DExt.by (by first | rfl | exact (List.append_nil _).symm | (simp only [List.append_assoc, List.cons_append, List.nil_append]; rfl)) ?_
  simp only [push_cast, simprocAttr, ↓zr, Int.le_refl, Int.toNat_natCast, slC_vals, u8l_len, rS, pk_1]
  skip
 rotate_left 1
 focus
  refine DX.split 4 7 (by decide) ?_ ?_
  focus
   refine DX.run [0, 1, 2, 3, 5, 6, 4, 7, 8, 9, 10] [.val, .val, .ext, .ext, .val, .ext, .ext, .ext, .val, .ext, .val] (by simp only [permL, reOp, List.idxOf_cons, push_cast, simprocAttr, ↓zr, Int.le_refl, Int.toNat_natCast, slC_vals, u8l_len, rS, pk_1]; first | done | rfl) (by kernel_rfl) ?_
   simp only [push_cast, simprocAttr, ↓zr, Int.le_refl, Int.toNat_natCast, slC_vals, u8l_len, rS, pk_1]
   refine DCall.by0 ((by first | exact blocks_c rd rs rm n D _ hrd | exact blocks_c rd rs rm n D _ (lk_old hrd _))) ?_
   simp only [push_cast, simprocAttr, ↓zr, Int.le_refl, Int.toNat_natCast, slC_vals, u8l_len, rS, pk_1]
   refine DCall.by0 (slots_c (n : Int) _ (by omega) (by omega)) ?_
   simp only [push_cast, simprocAttr, ↓zr, Int.le_refl, Int.toNat_natCast, slC_vals, u8l_len, rS, pk_1]
   refine DCall.by0 ((by first | exact blocks_c rd rs rm n D _ hrd | exact blocks_c rd rs rm n D _ (lk_old hrd _))) ?_
   simp only [push_cast, simprocAttr, ↓zr, Int.le_refl, Int.toNat_natCast, slC_vals, u8l_len, rS, pk_1]
   refine DExt.by (by first | rfl | exact (List.append_nil _).symm | (simp only [List.append_assoc, List.cons_append, List.nil_append]; rfl)) ?_
   simp only [push_cast, simprocAttr, ↓zr, Int.le_refl, Int.toNat_natCast, slC_vals, u8l_len, rS, pk_1]
   refine DCall.by0 (slots_c (n : Int) _ (by omega) (by omega)) ?_
   simp only [push_cast, simprocAttr, ↓zr, Int.le_refl, Int.toNat_natCast, slC_vals, u8l_len, rS, pk_1]
   refine DExt.by (by first | rfl | exact (List.append_nil _).symm | (simp only [List.append_assoc, List.cons_append, List.nil_append]; rfl)) ?_
   simp only [push_cast, simprocAttr, ↓zr, Int.le_refl, Int.toNat_natCast, slC_vals, u8l_len, rS, pk_1]
   skip
  rotate_left 1
  focus
   refine DX.run [0, 1, 2, 3, 5, 6, 7, 4, 8, 9, 10] [.val, .val, .ext, .ext, .val, .ext, .ext, .ext, .val, .ext, .val] (by simp only [permL, reOp, List.idxOf_cons, push_cast, simprocAttr, ↓zr, Int.le_refl, Int.toNat_natCast, slC_vals, u8l_len, rS, pk_1]; first | done | rfl) (by kernel_rfl) ?_
   iterate 2
    simp only [push_cast, simprocAttr, ↓zr, Int.le_refl, Int.toNat_natCast, slC_vals, u8l_len, rS, pk_1]
    refine DCall.by0 ((by first | exact blocks_c rd rs rm n D _ hrd | exact blocks_c rd rs rm n D _ (lk_old hrd _))) ?_
    simp only [push_cast, simprocAttr, ↓zr, Int.le_refl, Int.toNat_natCast, slC_vals, u8l_len, rS, pk_1]
    refine DCall.by0 (slots_c (n : Int) _ (by omega) (by omega)) ?_
   iterate 2
    simp only [push_cast, simprocAttr, ↓zr, Int.le_refl, Int.toNat_natCast, slC_vals, u8l_len, rS, pk_1]
    refine DExt.by (by first | rfl | exact (List.append_nil _).symm | (simp only [List.append_assoc, List.cons_append, List.nil_append]; rfl)) ?_
   simp only [push_cast, simprocAttr, ↓zr, Int.le_refl, Int.toNat_natCast, slC_vals, u8l_len, rS, pk_1]
   skip
  rotate_left 1
 rotate_left 2
 all_goals (
 apply hK;clear hK K
 refine AW.seq_k fun K hK => ?_
 refine AW.sr 1 fun K hK => ?_
 simp only [push_cast, simprocAttr, ↓zr, Int.le_refl, Int.toNat_natCast, slC_vals, u8l_len, rS, pk_1]
 apply hK;clear hK K
 refine AW.block ?_
 refine AW.loopK [0, 4, 28] (fun i => i ≤ k) (fun i => [(29, .one (.int .i64 (i : Int)))]) (fun i => [(m.length, rS 0 k (preF f i))]) (fun i => k - i) 0 (by omega) ?_ ?_ fun i hi4 => ?_
 · first | rfl | (simp only [KS, simprocAttr, zr0] <;> repeat' (first | rfl | apply And.intro))
 · first | rfl | (simp only [setAll, push_cast, simprocAttr, ↓zr, Int.le_refl, Int.toNat_natCast, slC_vals, u8l_len, rS, pk_1, zr0] <;> rfl)
 try simp only [keepL, setAll, push_cast, simprocAttr, ↓zr, Int.le_refl, Int.toNat_natCast, slC_vals, u8l_len, rS, pk_1]
 refine AW.sr 1 fun K hK => ?_
 simp only [push_cast, simprocAttr, ↓zr, Int.le_refl, Int.toNat_natCast, slC_vals, u8l_len, rS, pk_1]
 apply hK;clear hK K
 refine AW.seq_k fun K hK => ?_
 refine AW.cond rfl (fun h30 => ?_) (fun h30 => ?_)
 ·have hlt : i < k := by have := of_decide_eq_true h30; omega
  have zq : eqParts Try.prog (eqV Try.prog 9999) (u8l (vis D.S D.E i)) [CV.int .u8 0, CV.int .u8 0, CV.int .u8 0, CV.int .u8 0, CV.int .u8 0, CV.int .u8 0, CV.int .u8 0, CV.int .u8 0, CV.int .u8 0, CV.int .u8 0, CV.int .u8 0, CV.int .u8 0, CV.int .u8 0, CV.int .u8 0, CV.int .u8 0, CV.int .u8 0, CV.int .u8 0, CV.int .u8 0, CV.int .u8 0, CV.int .u8 0, CV.int .u8 0, CV.int .u8 0, CV.int .u8 0, CV.int .u8 0, CV.int .u8 0, CV.int .u8 0, CV.int .u8 0, CV.int .u8 0, CV.int .u8 0, CV.int .u8 0, CV.int .u8 0, CV.int .u8 0, CV.int .u8 0, CV.int .u8 0, CV.int .u8 0, CV.int .u8 0, CV.int .u8 0, CV.int .u8 0, CV.int .u8 0, CV.int .u8 0, CV.int .u8 0, CV.int .u8 0, CV.int .u8 0, CV.int .u8 0, CV.int .u8 0, CV.int .u8 0, CV.int .u8 0, CV.int .u8 0, CV.int .u8 0, CV.int .u8 0, CV.int .u8 0, CV.int .u8 0, CV.int .u8 0, CV.int .u8 0, CV.int .u8 0, CV.int .u8 0, CV.int .u8 0, CV.int .u8 0, CV.int .u8 0, CV.int .u8 0, CV.int .u8 0, CV.int .u8 0, CV.int .u8 0, CV.int .u8 0, CV.int .u8 0, CV.int .u8 0, CV.int .u8 0, CV.int .u8 0, CV.int .u8 0, CV.int .u8 0, CV.int .u8 0, CV.int .u8 0, CV.int .u8 0, CV.int .u8 0, CV.int .u8 0, CV.int .u8 0, CV.int .u8 0, CV.int .u8 0, CV.int .u8 0, CV.int .u8 0, CV.int .u8 0, CV.int .u8 0, CV.int .u8 0, CV.int .u8 0, CV.int .u8 0, CV.int .u8 0, CV.int .u8 0, CV.int .u8 0, CV.int .u8 0, CV.int .u8 0, CV.int .u8 0, CV.int .u8 0, CV.int .u8 0, CV.int .u8 0, CV.int .u8 0, CV.int .u8 0, CV.int .u8 0, CV.int .u8 0, CV.int .u8 0, CV.int .u8 0, CV.int .u8 0, CV.int .u8 0, CV.int .u8 0, CV.int .u8 0, CV.int .u8 0, CV.int .u8 0, CV.int .u8 0, CV.int .u8 0, CV.int .u8 0, CV.int .u8 0, CV.int .u8 0, CV.int .u8 0, CV.int .u8 0, CV.int .u8 0, CV.int .u8 0, CV.int .u8 0, CV.int .u8 0, CV.int .u8 0, CV.int .u8 0, CV.int .u8 0, CV.int .u8 0, CV.int .u8 0, CV.int .u8 0, CV.int .u8 0, CV.int .u8 0, CV.int .u8 0, CV.int .u8 0, CV.int .u8 0] (List.map (fun i => (5, i)) (List.range' 0 128)) = some (decide (vis D.S D.E i = zB)) := eqpn (ys := zB) (vl i) rfl
  have c0 : (0 : Int) ≤ (i : Int) := by omega
  have c1 : (i : Int) < (k : Int) := by omega
  have c2 : i * 67 + 67 ≤ k * 67 := by omega
  have cl := cC_len (preF_ok hko i) k
  refine AW.skip ?_
  apply hK;clear hK K
  refine AW.seq_k fun K hK => ?_
  refine AW.block ?_
  refine AW.sr 2 fun K hK => ?_
  have pk_2 : _ ∧ _ ∧ _ ∧ _ ∧ _ ∧ _ := ⟨pk_1, zq, c0, c1, c2, cl⟩
  simp only [push_cast, simprocAttr, ↓zr, Int.le_refl, Int.toNat_natCast, slC_vals, u8l_len, rS, pk_2]
  refine CThen.by (rd_ok rd rs rm n i D _ (hd.mono _) hwd hdn (by omega)) ?_
  simp only [push_cast, simprocAttr, ↓zr, Int.le_refl, Int.toNat_natCast, slC_vals, u8l_len, rS, pk_2]
  apply hK;clear hK K
  refine AW.seq_k fun K hK => ?_
  refine AW.sr 1 fun K hK => ?_
  simp only [push_cast, simprocAttr, ↓zr, Int.le_refl, Int.toNat_natCast, slC_vals, u8l_len, rS, pk_2]
  apply hK;clear hK K
  refine AW.cond_f rfl ?_
  refine AW.skip ?_
  apply hK;clear hK K
  refine AW.seq_k fun K hK => ?_
  refine AW.sr 1 fun K hK => ?_
  simp only [push_cast, simprocAttr, ↓zr, Int.le_refl, Int.toNat_natCast, slC_vals, u8l_len, rS, pk_2]
  apply hK;clear hK K
  refine AW.cond rfl (fun h43 => ?_) (fun h43 => ?_)
  ·have hz : vis D.S D.E i = zB := of_decide_eq_true h43
   have hfz : f i = zS := (hg.at_ i hlt).elim (fun h => h.2) (fun h => absurd hz h.b)
   have hnx : preF f i = preF f (i + 1) := preF_z hfz
   refine AW.exit ?_
   refine Thn_e ?_
   clear hK K
   refine InB_here ?_
   apply hK;clear hK K
   refine AW.rg ?_
   simp only [push_cast, simprocAttr, ↓zr, Int.le_refl, Int.toNat_natCast, slC_vals, u8l_len, rS, pk_2]
   refine Thn_n ?_
   have hwi : IntKind.i64.wrap ((i:Int)+1) = (i:Int)+1 := wi (by omega)
   refine ⟨i + 1, by omega, by omega, ?_⟩
   try simp only [keepL, setAll, push_cast, simprocAttr, ↓zr, Int.le_refl, Int.toNat_natCast, slC_vals, u8l_len, rS, pk_2, hwi, hnx]
   first
    | exact Weak.to (extra := [_]) (by simp only [KS, simprocAttr, hwi, hnx]) (by first | rfl | (simp only [List.append_assoc, List.cons_append, List.nil_append]; rfl)) (by first | rfl | (simp [AV.below, CV.below]; done) | (simp [AV.below, CV.below]; omega)) (by first | exact hwf | exact MWf.app (hwf.grow (by simp)) (MWf_cons (cC_below _ _ _) (MWf_cons (by simp [CV.below] <;> omega) MWf_nil)))
    | exact Weak.to (extra := [_, _, _, _]) (by simp only [KS, simprocAttr, hwi, hnx]) (by first | rfl | (simp only [List.append_assoc, List.cons_append, List.nil_append]; rfl)) (by first | rfl | (simp [AV.below, CV.below]; done) | (simp [AV.below, CV.below]; omega)) (by first | exact hwf | exact MWf.app (hwf.grow (by simp)) (MWf_cons (cC_below _ _ _) (MWf_cons (by simp [CV.below] <;> omega) MWf_nil)))
  ·have hz : ¬ vis D.S D.E i = zB := of_decide_eq_false h43
   have G : GoodS D n k f i := (hg.at_ i hlt).elim (fun h => absurd h.1 hz) id
   have dq := G.d
   have oq := G.o
   have hs1 := G.s
   have hf1 := G.fr
   have he1 := G.e
   have o := hko i
   have o0 := o.f0
   have o2 := o.s0
   obtain ⟨nb0, nb1⟩ := needZ_b o2 o.s1
   have g1 : ¬ (262144 : Int) < (f i).size := by omega
   have g2 : ¬ (f i).fr < (k : Int) := by omega
   have g3 : ¬ (n : Int) < (f i).fr + needZ (f i).size := by omega
   have w71 : IntKind.i64.wrap ((f i).fr + needZ (f i).size) = (f i).fr + needZ (f i).size := wi (by omega)
   have hm := (fnd_neg (hg.miss hlt hz)).1
   have cst : setL (cC k (preF f i)) (i * 67) (slC (f i)) = cC k (preF f (i + 1)) := by rw [cC_set (preF_ok hko i) hlt o, preF_up]
   obtain ⟨kk, hkk⟩ : ∃ q : Nat, q = (f i).fr.toNat := ⟨_, rfl⟩
   obtain ⟨N, hN⟩ : ∃ q : Nat, q = (needZ (f i).size).toNat := ⟨_, rfl⟩
   obtain ⟨z, hzz⟩ : ∃ q : Nat, q = (f i).size.toNat := ⟨_, rfl⟩
   have hsum := G.h
   rw [← hkk, ← hN, ← hzz] at hsum
   have hNz : (N : Int) = needZ (f i).size := by omega
   obtain ⟨nn1, nn2⟩ := needZ_nat hNz o2
   have dl := datL_len hwd kk N
   obtain ⟨bs, hbs⟩ : ∃ bs, bs = (datL D kk N).take z := ⟨_, rfl⟩
   rw [← hbs] at hsum
   have bl : bs.length = z := by rw [hbs, List.length_take, dl]; omega
   have bo : U8ok bs := fun x hx => datL_ok hu kk N x (by rw [hbs] at hx; exact List.mem_of_mem_take hx)
   have eq := eqpn (shaL_len bs) o.w.s
   rw [decide_eq_true hsum] at eq
   have hz2 := hzz.symm
   have hnx := True.intro
   refine AW.skip ?_
   apply hK;clear hK K
   refine AW.sr 1 fun K hK => ?_
   have pk_3 : _ ∧ _ ∧ _ ∧ _ ∧ _ ∧ _ ∧ _ ∧ _ ∧ _ ∧ _ ∧ _ := ⟨pk_2, dq, oq, g1, g2, g3, w71, hm, cst, eq, hz2⟩
   simp only [push_cast, simprocAttr, ↓zr, Int.le_refl, Int.toNat_natCast, slC_vals, u8l_len, rS, pk_3]
   refine CThen.by (dec_c (vis D.S D.E i) _ (vl i) (byB_ok (hu i))) ?_
   simp only [push_cast, simprocAttr, ↓zr, Int.le_refl, Int.toNat_natCast, slC_vals, u8l_len, rS, pk_3]
   apply hK;clear hK K
   refine AW.seq_k fun K hK => ?_
   refine AW.seq_k fun K hK => ?_
   refine AW.draw [.val, .val, .val, .val, .rd 0, .val, .val, .val, .val, .rd 0, .val, .val, .val, .rd 0, .val, .val, .val, .val, .rd 0, .val, .rd 0, .ext, .val, .val, .ext, .val, .val, .val, .val, .val, .rd 2, .ext, .val, .val] fol (by decide) (by kernel_rfl) ?_
   simp only [push_cast, simprocAttr, ↓zr, Int.le_refl, Int.toNat_natCast, slC_vals, u8l_len, rS, pk_3]
   refine DCall.by0 (need_c (f i).size _ (by omega)) ?_
   simp only [push_cast, simprocAttr, ↓zr, Int.le_refl, Int.toNat_natCast, slC_vals, u8l_len, rS, pk_3]
   refine DCall.by0 (blocks_c rd rs rm n D _ (lk_old hrd _)) ?_
   simp only [push_cast, simprocAttr, ↓zr, Int.le_refl, Int.toNat_natCast, slC_vals, u8l_len, rS, pk_3]
   refine DCall.by0 (find_c (m.length + 1) m.length rd ⟨k, preF f i, (k : Int), 0⟩ _ ⟨by rw [lk_app]; rfl, by rw [lk_app0]; rfl⟩ (preF_ok hko i) (by exact hkn.1) (f i).key o.w.k) ?_
   simp only [push_cast, simprocAttr, ↓zr, Int.le_refl, Int.toNat_natCast, slC_vals, u8l_len, rS, pk_3]
   apply hK;clear hK K
   refine AW.cond_f rfl ?_
   refine AW.skip ?_
   apply hK;clear hK K
   refine AW.seq_k fun K hK => ?_
   refine AW.draw [.val, .val, .val, .rd 0, .val, .rd 0, .val, .wr] fol (by decide) (by kernel_rfl) ?_
   simp only [push_cast, simprocAttr, ↓zr, Int.le_refl, Int.toNat_natCast, slC_vals, u8l_len, rS, pk_3]
   apply hK;clear hK K
   refine AW.sr 1 fun K hK => ?_
   simp only [push_cast, simprocAttr, ↓zr, Int.le_refl, Int.toNat_natCast, slC_vals, u8l_len, rS, pk_3]
   refine CThen.by (load_c (m.length + 1) m.length rd ⟨k, preF f (i + 1), (k : Int), 0⟩ (f i) kk N _ (by rw [lk_app]; rfl) rs rm n D (hd.mono _) hwd hdn hn o.w (by omega) o2 hs1 hNz (by omega)) ?_
   simp only [push_cast, simprocAttr, ↓zr, Int.le_refl, Int.toNat_natCast, slC_vals, u8l_len, rS, pk_3]
   apply hK;clear hK K
   refine AW.seq_k fun K hK => ?_
   refine AW.draw [.val, .val, .val, .val, .ext, .ext, .val, .rd 0, .val, .val] fol (by decide) (by kernel_rfl) ?_
   simp only [push_cast, simprocAttr, ↓zr, Int.le_refl, Int.toNat_natCast, slC_vals, u8l_len, rS, pk_3]
   refine DExt.by (by first | rfl | exact (List.append_nil _).symm | (simp only [List.append_assoc, List.cons_append, List.nil_append]; rfl)) ?_
   simp only [push_cast, simprocAttr, ↓zr, Int.le_refl, Int.toNat_natCast, slC_vals, u8l_len, rS, pk_3]
   refine DCall.by0 (of1_c (m.length + 5) 0 0 (.sl (m.length + 4) 0 0 z) bs [.sl (m.length + 4) 0 0 z] .grow 1 _ (by rw [lk_app]; rfl) rfl (.row (X := datL D kk N) (by rw [lk_app]; rfl) bl.symm (by omega) (by rw [List.drop_zero, bl, hbs])) (by omega) bo) ?_
   simp only [push_cast, simprocAttr, ↓zr, Int.le_refl, Int.toNat_natCast, slC_vals, u8l_len, rS, pk_3]
   apply hK;clear hK K
   refine AW.cond_f rfl ?_
   refine AW.skip ?_
   refine InB_n ?_
   apply hK;clear hK K
   refine AW.rg ?_
   simp only [push_cast, simprocAttr, ↓zr, Int.le_refl, Int.toNat_natCast, slC_vals, u8l_len, rS, pk_3]
   refine Thn_n ?_
   have hwi : IntKind.i64.wrap ((i:Int)+1) = (i:Int)+1 := wi (by omega)
   refine ⟨i + 1, by omega, by omega, ?_⟩
   try simp only [keepL, setAll, push_cast, simprocAttr, ↓zr, Int.le_refl, Int.toNat_natCast, slC_vals, u8l_len, rS, pk_3, hwi, hnx]
   first
    | exact Weak.to (extra := [_]) (by simp only [KS, simprocAttr, hwi, hnx]) (by first | rfl | (simp only [List.append_assoc, List.cons_append, List.nil_append]; rfl)) (by first | rfl | (simp [AV.below, CV.below]; done) | (simp [AV.below, CV.below]; omega)) (by first | exact hwf | exact MWf.app (hwf.grow (by simp)) (MWf_cons (cC_below _ _ _) (MWf_cons (by simp [CV.below] <;> omega) MWf_nil)))
    | exact Weak.to (extra := [_, _, _, _]) (by simp only [KS, simprocAttr, hwi, hnx]) (by first | rfl | (simp only [List.append_assoc, List.cons_append, List.nil_append]; rfl)) (by first | rfl | (simp [AV.below, CV.below]; done) | (simp [AV.below, CV.below]; omega)) (by first | exact hwf | exact MWf.app (hwf.grow (by simp)) (MWf_cons (cC_below _ _ _) (MWf_cons (by simp [CV.below] <;> omega) MWf_nil)))
 ·have hin : i = k := by have := of_decide_eq_false h30; omega
  subst hin
  refine AW.exit ?_
  refine Thn_e ?_
  clear hK K
  refine Thn_e ?_
  refine InB_here ?_
  apply hK;clear hK K
  refine AW.sr 1 fun K hK => ?_
  simp only [push_cast, simprocAttr, ↓zr, Int.le_refl, Int.toNat_natCast, slC_vals, u8l_len, rS, pk_1]
  apply hK;clear hK K
  refine AW.ret ?_
  refine hQ _ _ _ ?_
  simp only [hfin]
  refine ⟨Or.inr rfl, _, ?_, Hands.all⟩
  simp only [resA, resOne, resTv, AV.tv, push_cast, simprocAttr]
 )
def cntF (f : Nat → SL) : Nat → Int
 | 0 => 0
 | k + 1 => cntF f k + if (f k).kind = 0 then 0 else 1
theorem cntF_b (f : Nat → SL) : ∀ k : Nat, 0 ≤ cntF f k ∧ cntF f k ≤ (k : Int)
 | 0 => ⟨Int.le_refl _, Int.le_refl _⟩
 | k + 1 => by have := cntF_b f k; unfold cntF; split <;> omega
def usGo (g : Nat → SL) : Nat → Nat → Int → Int → Int
 | 0, _, _, a => a
 | r + 1, i, p, a => usGo g r (i + 1) (maxI p ((g i).fr + needZ (g i).size)) (a + maxI 0 ((g i).fr + needZ (g i).size - maxI p (g i).fr))
noncomputable def VS.us (V : VS) : Int := usGo V.tg V.tk.length 0 V.data 0
theorem used_c (rv rl rd : Nat) (V : VS) (m : AMem) (h : HasV m rv rl rd V) (hf : ∀ i, OkS (V.f i)) (hk : V.k ≤ 512) (h0 : V.dead = 0) (hd0 : 0 ≤ V.data) (hd1 : V.data ≤ 512) : Ctr Try.prog 13 [.one (.ptr rv 0 0)] m (.tup [(false, [.int .i64 (cntF V.f V.k)]), (false, [.int .i64 V.us])]) m := by
 refine Ctr.enter Try.func13 rfl (by decide) (rs := [.tmp 2, .tmp 3]) (nt := 60) rfl rfl fun hwf Q hQ => ?_
 have hv := h.v
 have hl := h.l
 have lv := get_lt hv
 have ll := get_lt hl
 have gl : (cC V.k V.f).length = V.k * 67 := cC_len hf V.k
 have hup : ∀ X : AMem, Ctr Try.prog 31 [.one (.ptr rv 0 0)] (m ++ X) (.one (.int .i64 0)) (m ++ X) := fun X => by
   have := vup_c rv rl rd V (m ++ X) (lk_old hv X)
   rwa [h0] at this
 have hup0 : Ctr Try.prog 31 [.one (.ptr rv 0 0)] m (.one (.int .i64 0)) m := by have := hup []; rwa [List.append_nil] at this
 have sl := fun i => slC_len (hf i).w
 have f0 := fun i => slC_0 (V.f i)
 have zb := fun i => zb0 (sl i)
 have gok := tg_ok hf hk
 have sl2 := fun i => slC_len (gok i).w
 have f3 := fun i => slC_3 (gok i).w
 have f4 := fun i => slC_4 (gok i).w
 have zb2 := fun i => zb0 (sl2 i)
 have cl : (cC V.tk.length V.tg).length = V.tk.length * 67 := cC_len gok _
 obtain ⟨c, hc⟩ : ∃ q : Nat, q = V.tk.length := ⟨_, rfl⟩
 have hus : V.us = usGo V.tg c 0 V.data 0 := by rw [hc]; rfl
 rw [hus] at hQ
 rw [← hc] at cl
 have hck : c ≤ 512 := by rw [hc]; exact Nat.le_trans (tkL_len V.f V.k) hk
 have hc2 := hc.symm
 refine AW.sr 1 fun K hK => ?_
 have pk_1 : _ ∧ _ ∧ _ ∧ _ ∧ _ ∧ _ ∧ _ ∧ _ ∧ _ ∧ _ ∧ _ ∧ _ ∧ _ := ⟨hv, hl, lk_old hv, lk_old hl, gl, sl, f0, zb, sl2, f3, f4, cl, hc2⟩
 simp only [push_cast, simprocAttr, vtB, rS, zb2, slC_vals, pk_1]
 apply hK;clear hK K
 refine AW.seq_k fun K hK => ?_
 refine AW.sr 1 fun K hK => ?_
 simp only [push_cast, simprocAttr, vtB, rS, zb2, slC_vals, pk_1]
 refine CThen.by (hup0) ?_
 simp only [push_cast, simprocAttr, vtB, rS, zb2, slC_vals, pk_1]
 apply hK;clear hK K
 refine AW.cond_f rfl ?_
 refine AW.skip ?_
 apply hK;clear hK K
 refine AW.seq_k fun K hK => ?_
 refine AW.sr 1 fun K hK => ?_
 simp only [push_cast, simprocAttr, vtB, rS, zb2, slC_vals, pk_1]
 apply hK;clear hK K
 refine AW.block ?_
 refine AW.loopK [0, 3, 16, 17] (fun i => i ≤ V.k) (fun i => [(2, .one (.int .i64 (cntF V.f i))), (18, .one (.int .i64 (i : Int)))]) (fun i => []) (fun i => V.k - i) 0 (by omega) ?_ ?_ fun i hi3 => ?_
 · first | rfl | (simp only [KS, simprocAttr, cntF] <;> repeat' (first | rfl | apply And.intro))
 · first | rfl | (simp only [setAll, push_cast, simprocAttr, vtB, rS, zb2, slC_vals, pk_1, cntF] <;> rfl)
 try simp only [keepL, setAll, push_cast, simprocAttr, vtB, rS, zb2, slC_vals, pk_1]
 refine AW.sr 1 fun K hK => ?_
 simp only [push_cast, simprocAttr, vtB, rS, zb2, slC_vals, pk_1]
 apply hK;clear hK K
 refine AW.seq_k fun K hK => ?_
 refine AW.cond rfl (fun h19 => ?_) (fun h19 => ?_)
 ·have hlt : i < V.k := by have := of_decide_eq_true h19; omega
  have lx := cC_at (n := V.k) (f := V.f) hf hlt
  have c0 : (0 : Int) ≤ (i : Int) := by omega
  have c1 : (i : Int) < (V.k : Int) := by omega
  have c2 : i * 67 + 67 ≤ V.k * 67 := by omega
  obtain ⟨m0, m1⟩ := cntF_b V.f i
  refine AW.skip ?_
  apply hK;clear hK K
  refine AW.seq_k fun K hK => ?_
  refine AW.block ?_
  refine AW.sr 2 fun K hK => ?_
  have pk_2 : _ ∧ _ ∧ _ ∧ _ ∧ _ := ⟨pk_1, lx, c0, c1, c2⟩
  simp only [push_cast, simprocAttr, vtB, rS, zb2, slC_vals, pk_2]
  apply hK;clear hK K
  refine AW.cond rfl (fun h24 => ?_) (fun h24 => ?_)
  ·have kz : ¬ (V.f i).kind = 0 := by simpa using h24
   have wm : IntKind.i64.wrap (cntF V.f i + 1) = cntF V.f i + 1 := wi (by omega)
   have hnx : cntF V.f (i + 1) = cntF V.f i + 1 := by show cntF V.f i + _ = _; rw [if_neg kz]
   refine AW.rg ?_
   simp only [push_cast, simprocAttr, vtB, rS, zb2, slC_vals, pk_2, wm]
   refine InB_n ?_
   apply hK;clear hK K
   refine AW.rg ?_
   simp only [push_cast, simprocAttr, vtB, rS, zb2, slC_vals, pk_2, wm]
   refine Thn_n ?_
   have hwi : IntKind.i64.wrap ((i:Int)+1) = (i:Int)+1 := wi (by omega)
   refine ⟨i + 1, by omega, by omega, ?_⟩
   try simp only [keepL, setAll, push_cast, simprocAttr, vtB, rS, zb2, slC_vals, pk_2, wm, hwi, hnx]
   exact Weak.to (extra := [_]) (by simp only [KS, simprocAttr, hwi, hnx]) (by first | rfl | (simp only [List.append_assoc, List.cons_append, List.nil_append]; rfl)) (by first | rfl | (simp [AV.below, CV.below]; done) | (simp [AV.below, CV.below]; omega)) (by
     first | exact hwf | refine MWf.app (hwf.grow (by simp)) ?_
     repeat (first | exact MWf_nil | (refine MWf_cons ?_ ?_; · first | rfl | (simp [CV.below]; done) | (simp [CV.below]; omega))))
  ·have kz : (V.f i).kind = 0 := by simpa using h24
   have hnx : cntF V.f (i + 1) = cntF V.f i := by show cntF V.f i + _ = _; rw [if_pos kz, Int.add_zero]
   refine AW.skip ?_
   refine InB_n ?_
   apply hK;clear hK K
   refine AW.rg ?_
   simp only [push_cast, simprocAttr, vtB, rS, zb2, slC_vals, pk_2]
   refine Thn_n ?_
   have hwi : IntKind.i64.wrap ((i:Int)+1) = (i:Int)+1 := wi (by omega)
   refine ⟨i + 1, by omega, by omega, ?_⟩
   try simp only [keepL, setAll, push_cast, simprocAttr, vtB, rS, zb2, slC_vals, pk_2, hwi, hnx]
   exact Weak.to (extra := [_]) (by simp only [KS, simprocAttr, hwi, hnx]) (by first | rfl | (simp only [List.append_assoc, List.cons_append, List.nil_append]; rfl)) (by first | rfl | (simp [AV.below, CV.below]; done) | (simp [AV.below, CV.below]; omega)) (by
     first | exact hwf | refine MWf.app (hwf.grow (by simp)) ?_
     repeat (first | exact MWf_nil | (refine MWf_cons ?_ ?_; · first | rfl | (simp [CV.below]; done) | (simp [CV.below]; omega))))
 ·have hin : i = V.k := by have := of_decide_eq_false h19; omega
  subst hin
  refine AW.exit ?_
  refine Thn_e ?_
  clear hK K
  refine Thn_e ?_
  refine InB_here ?_
  apply hK;clear hK K
  refine AW.sr 1 fun K hK => ?_
  simp only [push_cast, simprocAttr, vtB, rS, zb2, slC_vals, pk_1]
  apply hK;clear hK K
  refine AW.seq_k fun K hK => ?_
  refine AW.sr 1 fun K hK => ?_
  simp only [push_cast, simprocAttr, vtB, rS, zb2, slC_vals, pk_1]
  refine CThen.by (taken_c rv rl rd V _ h hf hk) ?_
  simp only [push_cast, simprocAttr, vtB, rS, zb2, slC_vals, pk_1]
  apply hK;clear hK K
  refine AW.block ?_
  refine AW.loopK [2, 33, 34] (fun (q : Nat × Int × Int) => q.1 ≤ c ∧ 0 ≤ q.2.1 ∧ q.2.1 ≤ 4400000000 ∧ 0 ≤ q.2.2 ∧ q.2.2 ≤ 4400000000 * (q.1 : Int) ∧ usGo V.tg (c - q.1) q.1 q.2.1 q.2.2 = usGo V.tg c 0 V.data 0) (fun (q : Nat × Int × Int) => [(3, .one (.int .i64 q.2.2)), (6, .one (.int .i64 q.2.1)), (35, .one (.int .i64 (q.1 : Int)))]) (fun (q : Nat × Int × Int) => []) (fun (q : Nat × Int × Int) => c - q.1) (0, V.data, 0) ⟨Nat.zero_le _, hd0, by show V.data ≤ _; omega, Int.le_refl _, by show (0 : Int) ≤ 4400000000 * ((0 : Nat) : Int); omega, rfl⟩ ?_ ?_ fun (q : Nat × Int × Int) hi7 => ?_
  · first | rfl | (simp only [KS, simprocAttr] <;> repeat' (first | rfl | apply And.intro))
  · first | rfl | (simp only [setAll, push_cast, simprocAttr, vtB, rS, zb2, slC_vals, pk_1] <;> rfl)
  obtain ⟨i, p, a⟩ := q
  obtain ⟨i1, i2, i3, i4, i5, i6⟩ := hi7
  simp only at i1 i2 i3 i4 i5 i6
  try simp only [keepL, setAll, push_cast, simprocAttr, vtB, rS, zb2, slC_vals, pk_1]
  refine AW.sr 1 fun K hK => ?_
  simp only [push_cast, simprocAttr, vtB, rS, zb2, slC_vals, pk_1]
  apply hK;clear hK K
  refine AW.seq_k fun K hK => ?_
  refine AW.cond rfl (fun h36 => ?_) (fun h36 => ?_)
  ·have hlt : i < c := by have := of_decide_eq_true h36; omega
   have o := gok i
   have o0 := o.f0
   have o1 := o.f1
   have z0 := o.s0
   have z1 := o.s1
   obtain ⟨b0, b1⟩ := needZ_b z0 z1
   have lx := cC_at (n := c) (f := V.tg) gok hlt
   have c0 : (0 : Int) ≤ (i : Int) := by omega
   have c1 : (i : Int) < (c : Int) := by omega
   have c2 : i * 67 + 67 ≤ c * 67 := by omega
   have w2 : IntKind.i64.wrap ((V.tg i).fr + needZ (V.tg i).size) = (V.tg i).fr + needZ (V.tg i).size := wi (by omega)
   have x0 : 0 ≤ maxI p (V.tg i).fr := maxI_0 i2
   have x1 : maxI p (V.tg i).fr ≤ 4400000000 := maxI_b i3 (by omega)
   have w3 : IntKind.i64.wrap ((V.tg i).fr + needZ (V.tg i).size - maxI p (V.tg i).fr) = (V.tg i).fr + needZ (V.tg i).size - maxI p (V.tg i).fr := wi (by omega)
   have y0 : 0 ≤ maxI 0 ((V.tg i).fr + needZ (V.tg i).size - maxI p (V.tg i).fr) := maxI_0 (Int.le_refl _)
   have y1 : maxI 0 ((V.tg i).fr + needZ (V.tg i).size - maxI p (V.tg i).fr) ≤ 4400000000 := maxI_b (by omega) (by omega)
   have w4 : IntKind.i64.wrap (a + maxI 0 ((V.tg i).fr + needZ (V.tg i).size - maxI p (V.tg i).fr)) = a + maxI 0 ((V.tg i).fr + needZ (V.tg i).size - maxI p (V.tg i).fr) := wi (by omega)
   obtain ⟨nx, hnx, hnI, hnmu⟩ : ∃ nx : Nat × Int × Int, nx = (i + 1, maxI p ((V.tg i).fr + needZ (V.tg i).size), a + maxI 0 ((V.tg i).fr + needZ (V.tg i).size - maxI p (V.tg i).fr)) ∧ (nx.1 ≤ c ∧ 0 ≤ nx.2.1 ∧ nx.2.1 ≤ 4400000000 ∧ 0 ≤ nx.2.2 ∧ nx.2.2 ≤ 4400000000 * (nx.1 : Int) ∧ usGo V.tg (c - nx.1) nx.1 nx.2.1 nx.2.2 = usGo V.tg c 0 V.data 0) ∧ c - nx.1 < c - i := ⟨_, rfl, ⟨by show i + 1 ≤ c; omega, maxI_0 i2, maxI_b i3 (by omega), by show 0 ≤ a + maxI 0 _; omega, by show a + maxI 0 _ ≤ 4400000000 * ((i + 1 : Nat) : Int); omega, by rw [← i6, show c - i = (c - (i + 1)) + 1 by omega]; rfl⟩, by show c - (i + 1) < c - i; omega⟩
   refine AW.skip ?_
   apply hK;clear hK K
   refine AW.seq_k fun K hK => ?_
   refine AW.block ?_
   refine AW.sr 1 fun K hK => ?_
   have pk_3 : _ ∧ _ ∧ _ ∧ _ ∧ _ ∧ _ ∧ _ ∧ _ := ⟨pk_1, lx, c0, c1, c2, w2, w3, w4⟩
   simp only [push_cast, simprocAttr, vtB, rS, zb2, slC_vals, pk_3]
   apply hK;clear hK K
   refine AW.seq_k fun K hK => ?_
   refine AW.draw [.val, .rd 0, .val, .rd 0, .ext, .val, .val] fol (by decide) (by kernel_rfl) ?_
   simp only [push_cast, simprocAttr, vtB, rS, zb2, slC_vals, pk_3]
   refine DCall.by0 (need_c (V.tg i).size _ (by omega)) ?_
   simp only [push_cast, simprocAttr, vtB, rS, zb2, slC_vals, pk_3]
   apply hK;clear hK K
   refine AW.sr 1 fun K hK => ?_
   simp only [push_cast, simprocAttr, vtB, rS, zb2, slC_vals, pk_3]
   apply hK;clear hK K
   refine AW.rg ?_
   simp only [push_cast, simprocAttr, vtB, rS, zb2, slC_vals, pk_3]
   refine InB_n ?_
   apply hK;clear hK K
   refine AW.rg ?_
   simp only [push_cast, simprocAttr, vtB, rS, zb2, slC_vals, pk_3]
   refine Thn_n ?_
   have hwi : IntKind.i64.wrap ((i:Int)+1) = (i:Int)+1 := wi (by omega)
   refine ⟨nx, hnI, hnmu, ?_⟩
   try simp only [keepL, setAll, push_cast, simprocAttr, vtB, rS, zb2, slC_vals, pk_3, hnx, hwi]
   exact Weak.to (extra := [_]) (by simp only [KS, simprocAttr, hnx, hwi]) (by first | rfl | (simp only [List.append_assoc, List.cons_append, List.nil_append]; rfl)) (by first | rfl | (simp [AV.below, CV.below]; done) | (simp [AV.below, CV.below]; omega)) (by first | exact hwf | exact MWf.app (hwf.grow (by simp)) (MWf_one (cC_below _ _ _)))
  ·have hin : c = i := by have := of_decide_eq_false h36; omega
   have hfin : usGo V.tg c 0 V.data 0 = a := by rw [← i6, hin, Nat.sub_self]; rfl
   refine AW.exit ?_
   refine Thn_e ?_
   clear hK K
   refine Thn_e ?_
   refine InB_here ?_
   apply hK;clear hK K
   refine AW.sr 1 fun K hK => ?_
   simp only [push_cast, simprocAttr, vtB, rS, zb2, slC_vals, pk_1, hfin]
   apply hK;clear hK K
   refine AW.ret ?_
   refine hQ _ _ _ ?_
   first | refine RetP.drop0 (Or.inr rfl) ?_ ?_ hwf | refine RetP.drop (Or.inr rfl) ?_ ?_ hwf
   · simp only [resA, resOne, resTv, AV.tv, push_cast, simprocAttr, vtB, rS, zb2, slC_vals, pk_1, hfin]
   · rfl
structure Liv (n : Nat) (D : DS) : Prop where
 f : D.fuse = -1
 d : D.down = false
 w : WfD n D
theorem Liv.z {n : Nat} {D : DS} (h : Liv n D) : ¬ D.fuse = 0 := by rw [h.f]; decide
theorem spD_liv {n : Nat} {D : DS} (h : Liv n D) : (spD D).fuse = -1 ∧ (spD D).down = false := by
 unfold spD
 rw [if_neg h.z]
 exact ⟨by show (if 0 < D.fuse then _ else D.fuse) = -1; rw [if_neg (by rw [h.f]; decide)]; exact h.f, h.d⟩
theorem Liv.wr {n : Nat} {D : DS} (h : Liv n D) {k : Nat} {v : List Int} (hk : k < n) (hv : v.length = 128) : wrS D k v = (wrD D (k : Int) v, 0) ∧ Liv n (wrD D (k : Int) v) :=
 ⟨if_neg h.z, (spD_liv h).1, (spD_liv h).2, wrD_wf h.w (by omega) (by omega) hv⟩
theorem Liv.sy {n : Nat} {D : DS} (h : Liv n D) : syS D = (syD D, 0) ∧ Liv n (syD D) := ⟨if_neg h.z, (spD_liv h).1, (spD_liv h).2, syD_wf h.w⟩
theorem Liv.lay {n k : Nat} {bl : Nat → List Int} (hb : ∀ i, (bl i).length = 128) : ∀ (r i : Nat) (D : DS), Liv n D → k + i + r ≤ n → (layS k bl r i D).2 = 0 ∧ Liv n (layS k bl r i D).1
 | 0, i, D, h, _ => by
  show (syS D).2 = 0 ∧ Liv n (syS D).1
  rw [h.sy.1]; exact ⟨rfl, h.sy.2⟩
 | r + 1, i, D, h, hk => by
  unfold layS
  rw [if_neg h.z]
  exact Liv.lay hb r (i + 1) _ (h.wr (by omega) (hb i)).2 (by omega)
theorem Liv.d0 (n : Nat) : Liv n D0 := ⟨rfl, rfl, d0_wf n⟩
def wsD (D : DS) (fr : Nat) (s : SL) : DS := syD (wrD D (fr : Int) (encB s))
theorem Liv.ws {n : Nat} {D : DS} (h : Liv n D) {V : VS} {fr : Nat} {s : SL} (hf : fr < n) (hs : WfS s) : wsS V D fr s = ({ V with f := upF V.f fr s }, wsD D fr s, 0) ∧ Liv n (wsD D fr s) := by
 have h1 := h.wr hf (encB_len hs)
 have h2 := h1.2.sy
 unfold wsS
 rw [h1.1]
 dsimp only
 rw [h2.1]
 exact ⟨rfl, h2.2⟩
theorem fnd_none {p : SL → Bool} {f : Nat → SL} : ∀ {k : Nat}, (∀ i, i < k → p (f i) = false) → fnd p f k = -1
 | 0, _ => rfl
 | k + 1, h => by
  have ih := fnd_none (p := p) (f := f) (k := k) fun i hi => h i (by omega)
  show (if 0 ≤ fnd p f k then fnd p f k else if p (f k) = true then (k : Int) else -1) = -1
  rw [ih, if_neg (by decide), if_neg (by rw [h k (by omega)]; decide)]
theorem fnd_first {p : SL → Bool} {f : Nat → SL} {i k : Nat} (hi : i < k) (h : p (f i) = true) (hb : ∀ j, j < i → p (f j) = false) : fnd p f k = (i : Int) :=
 fnd_hit (by rw [fnd_none hb]; decide) h hi
def V0 (k : Nat) : VS := ⟨k, fun _ => zS, (k : Int), 0⟩
theorem good0 (n k : Nat) : Good D0 n k (fun _ => zS) := ⟨fun _ => zS_ok, fun i _ => .inl ⟨rfl, rfl⟩, fun i j _ _ h => absurd rfl h, fun _ _ => rfl⟩
theorem zB_ok : U8ok zB := fun x hx => by
 rw [List.eq_of_mem_replicate hx]; omega
theorem d0_ok : ∀ i, U8ok (vis D0.S D0.E i) := fun _ => zB_ok
def kyL (x : Int) : List Int := (x % 9) :: 7 :: List.replicate 30 0
theorem fresh_b (m : AMem) (n : Nat) (V : VS) (D : DS) (L : AMem) : HasB (m ++ rowD n D :: mapD D :: drB m.length (m.length + 1) n D :: rS 0 V.k V.f :: vtB (m.length + 2) (m.length + 3) V :: L) (m.length + 4) (m.length + 3) (m.length + 2) m.length (m.length + 1) n V D :=
 ⟨⟨by rw [lk_app]; rfl, by rw [lk_app]; rfl⟩, ⟨by rw [lk_app]; rfl, by rw [lk_app0]; rfl, by rw [lk_app]; rfl⟩⟩
theorem fresh_set (m : AMem) (n : Nat) (V V' : VS) (D D' : DS) (L : AMem) : setB (m ++ rowD n D :: mapD D :: drB m.length (m.length + 1) n D :: rS 0 V.k V.f :: vtB (m.length + 2) (m.length + 3) V :: L) (m.length + 4) (m.length + 3) (m.length + 2) m.length (m.length + 1) n V' D' = m ++ rowD n D' :: mapD D' :: drB m.length (m.length + 1) n D' :: rS 0 V'.k V'.f :: vtB (m.length + 2) (m.length + 3) V' :: L := by
 unfold setB setV setD
 rw [set_app, set_app, set_app, set_app0, set_app]
 rfl
theorem put_dup (rv rl rd rs rm n : Nat) (V : VS) (D : DS) (m : AMem) (hB : HasB m rv rl rd rs rm n V D) (hf : ∀ i, OkS (V.f i)) (hk : V.k ≤ 512) (h0 : V.dead = 0) (kind : Int) (hkd : kind = 1 ∨ kind = 2) (key : List Int) (hkey : key.length = 32) (rp vp len : Nat) (bs : List Int) (hp : ∃ kk ez, m[rp]? = some ⟨kk, 5, vp, ez, u8l bs⟩) (hlen : bs.length = len) (hl2 : len ≤ 262144) (ho : U8ok bs) (hL : Liv n D) (hn : n ≤ 8192) (hd0 : 0 ≤ V.data) (hd1 : V.data ≤ 512) (hmiss : fnd (fdB key) V.f V.k < 0) (hkn : V.k ≤ n) (fr : Nat) (hfr : fnd (fun s => s.kind == 0) V.f V.k = (fr : Int)) (k : Nat) (hpl : plZ V n (shaL bs) (len : Int) = (k : Int)) (hk8 : k ≤ 8192) (hlb : plB V (shaL bs) (len : Int) = true) : Ctr Try.prog 10 [.one (.ptr rv 0 0), .one (.int .i64 kind), .agg (u8l key), .one (.sl rp vp 0 len)] m (.one (.int .i64 0)) (setB m rv rl rd rs rm n { V with f := upF V.f fr ⟨kind, key, shaL bs, (len : Int), (k : Int)⟩ } (wsD D fr ⟨kind, key, shaL bs, (len : Int), (k : Int)⟩)) := by
 have h := put_L rv rl rd rs rm n V D m hB hf hk h0 kind hkd key hkey rp vp len bs hp hlen hl2 ho hL.w hL.d hn hd0 hd1 hmiss hkn fr hfr k hpl hk8 hlb
 have hfn : fr < n := by
  obtain ⟨i, h1, h2, _⟩ := fnd_pos (p := fun s => s.kind == 0) (f := V.f) (k := V.k) (by omega)
  omega
 have sw : WfS ⟨kind, key, shaL bs, (len : Int), (k : Int)⟩ := ⟨hkey, shaL_len bs⟩
 rw [(hL.ws hfn sw).1] at h
 exact h
theorem put_new (rv rl rd rs rm n : Nat) (V : VS) (D : DS) (m : AMem) (hB : HasB m rv rl rd rs rm n V D) (hf : ∀ i, OkS (V.f i)) (hk : V.k ≤ 512) (h0 : V.dead = 0) (kind : Int) (hkd : kind = 1 ∨ kind = 2) (key : List Int) (hkey : key.length = 32) (rp vp len : Nat) (bs : List Int) (hp : ∃ kk ez, m[rp]? = some ⟨kk, 5, vp, ez, u8l bs⟩) (hlen : bs.length = len) (hl2 : len ≤ 262144) (ho : U8ok bs) (hL : Liv n D) (hn : n ≤ 8192) (hd0 : 0 ≤ V.data) (hd1 : V.data ≤ 512) (hmiss : fnd (fdB key) V.f V.k < 0) (hkn : V.k ≤ n) (fr : Nat) (hfr : fnd (fun s => s.kind == 0) V.f V.k = (fr : Int)) (k : Nat) (hpl : plZ V n (shaL bs) (len : Int) = (k : Int)) (hk8 : k ≤ 8192) (hlb : plB V (shaL bs) (len : Int) = false) (N : Nat) (hN : (N : Int) = needZ (len : Int)) (hkN : k + N ≤ n) : Ctr Try.prog 10 [.one (.ptr rv 0 0), .one (.int .i64 kind), .agg (u8l key), .one (.sl rp vp 0 len)] m (.one (.int .i64 0)) (setB m rv rl rd rs rm n { V with f := upF V.f fr ⟨kind, key, shaL bs, (len : Int), (k : Int)⟩ } (wsD (layS k (chB bs) N 0 D).1 fr ⟨kind, key, shaL bs, (len : Int), (k : Int)⟩)) := by
 have h := put_U rv rl rd rs rm n V D m hB hf hk h0 kind hkd key hkey rp vp len bs hp hlen hl2 ho hL.w hL.d hn hd0 hd1 hmiss hkn fr hfr k hpl hk8 hlb N hN hkN
 have hfn : fr < n := by
  obtain ⟨i, h1, h2, _⟩ := fnd_pos (p := fun s => s.kind == 0) (f := V.f) (k := V.k) (by omega)
  omega
 have sw : WfS ⟨kind, key, shaL bs, (len : Int), (k : Int)⟩ := ⟨hkey, shaL_len bs⟩
 have hl := Liv.lay (n := n) (k := k) (bl := chB bs) (fun i => padB_len _) N 0 D hL (by omega)
 rw [if_neg (by rw [hl.1]; decide), (hl.2.ws hfn sw).1] at h
 exact h
theorem key_c (x : Int) (m : AMem) (h0 : 0 ≤ x) (h1 : x ≤ 255) : Ctr Try.prog 16 [.one (.int .u8 x)] m (.agg (u8l (kyL x))) m := by
 refine Ctr.enter Try.func16 rfl (by decide) (rs := [.cell 2 37]) (nt := 6) rfl rfl fun hwf Q hQ => ?_
 have w : x.tmod 9 = x % 9 := Int.tmod_eq_emod_of_nonneg h0
 have e : u8l (kyL x) = [CV.int .u8 (x % 9), CV.int .u8 7, CV.int .u8 0, CV.int .u8 0, CV.int .u8 0, CV.int .u8 0, CV.int .u8 0, CV.int .u8 0, CV.int .u8 0, CV.int .u8 0, CV.int .u8 0, CV.int .u8 0, CV.int .u8 0, CV.int .u8 0, CV.int .u8 0, CV.int .u8 0, CV.int .u8 0, CV.int .u8 0, CV.int .u8 0, CV.int .u8 0, CV.int .u8 0, CV.int .u8 0, CV.int .u8 0, CV.int .u8 0, CV.int .u8 0, CV.int .u8 0, CV.int .u8 0, CV.int .u8 0, CV.int .u8 0, CV.int .u8 0, CV.int .u8 0, CV.int .u8 0] := rfl
 rw [e] at hQ
 refine AW.sr 2 fun K hK => ?_
 simp only [push_cast, simprocAttr, w]
 apply hK;clear hK K
 refine AW.ret ?_
 refine hQ _ _ _ ?_
 first | refine RetP.drop0 (Or.inr rfl) ?_ ?_ hwf | refine RetP.drop (Or.inr rfl) ?_ ?_ hwf
 · simp only [resA, resOne, resTv, AV.tv, push_cast, simprocAttr, w]
 · rfl
def zr (n : Nat) : List Int := List.replicate n 0
theorem zr_ok (n : Nat) : U8ok (zr n) := fun x hx => by rw [List.eq_of_mem_replicate hx]; omega
def aS1 : SL := ⟨2, kyL 1, shaL (zr 129), 129, 10⟩
def aS2 : SL := ⟨2, kyL 2, shaL (zr 129), 129, 10⟩
def aV1 : VS := { V0 10 with f := upF (V0 10).f 0 aS1 }
def aV2 : VS := { aV1 with f := upF aV1.f 1 aS2 }
theorem aS1_ok : OkS aS1 := ⟨⟨rfl, shaL_len _⟩, by decide, by decide, by decide, by decide⟩
theorem aS2_ok : OkS aS2 := ⟨⟨rfl, shaL_len _⟩, by decide, by decide, by decide, by decide⟩
theorem aV1_ok : ∀ i, OkS (aV1.f i) := upF_ok (fun _ => zS_ok) aS1_ok 0
theorem aV2_ok : ∀ i, OkS (aV2.f i) := upF_ok aV1_ok aS2_ok 1
theorem v0_find (key : List Int) : fnd (fdB key) (V0 10).f (V0 10).k < 0 := by rw [fnd_none fun i _ => rfl]; decide
theorem v0_free : fnd (fun s => s.kind == 0) (V0 10).f (V0 10).k = ((0 : Nat) : Int) := fnd_first (by decide) rfl fun j h => by omega
theorem tk0 (k : Nat) : tkL (fun _ => zS) k = [] := by
 induction k with
 | zero => rfl
 | succ k ih => unfold tkL; rw [ih]; rfl
theorem v0_tk (k : Nat) : (V0 k).tk = [] := tk0 k
theorem v0_plB (k : Nat) (sum : List Int) (size : Int) : plB (V0 k) sum size = false := by
 unfold plB; rw [fnd_none fun i _ => rfl]; rfl
theorem v0_pl (k n : Nat) (sum : List Int) (size : Int) (h : needZ size ≤ (n : Int) - (k : Int)) : plZ (V0 k) n sum size = (k : Int) := by
 unfold plZ
 rw [if_neg (by rw [fnd_none fun i _ => rfl]; decide), v0_tk]
 show (if (n : Int) - (k : Int) < needZ size then -1 else (k : Int)) = (k : Int)
 rw [if_neg (by omega)]
theorem v1_find : fnd (fdB (kyL 2)) aV1.f aV1.k < 0 := by
 rw [fnd_none fun i _ => ?_]; decide
 show fdB (kyL 2) (if i = 0 then aS1 else zS) = false
 split
 ·decide
 ·rfl
theorem v1_free : fnd (fun s => s.kind == 0) aV1.f aV1.k = ((1 : Nat) : Int) := fnd_first (by decide) rfl fun j h => by
 obtain rfl : j = 0 := by omega
 rfl
theorem v1_hit : fnd (pcB (shaL (zr 129)) 129) aV1.f aV1.k = ((0 : Nat) : Int) := fnd_first (by decide) (by
 show pcB (shaL (zr 129)) 129 aS1 = true
 simp [pcB, aS1]) fun j h => by omega
theorem v1_plB : plB aV1 (shaL (zr 129)) 129 = true := by unfold plB; rw [v1_hit]; rfl
theorem v1_pl : plZ aV1 40 (shaL (zr 129)) 129 = ((10 : Nat) : Int) := by
 unfold plZ; rw [v1_hit]; rfl
theorem v2_cnt : cntF aV2.f aV2.k = 2 := rfl
theorem v2_tk : aV2.tk = [aS1, aS2] := rfl
theorem v2_us : aV2.us = 2 := by
 have hp := (tg_spec (V := aV2) aV2_ok (by decide)).2
 have hl : aV2.tk.length = 2 := rfl
 have ha : ∀ i, i < 2 → (aV2.tg i).fr = 10 ∧ (aV2.tg i).size = 129 := fun i hi => by
  obtain ⟨y, h1, h2, h3⟩ := hp.src (x := i) ⟨Nat.zero_le _, by rw [hl]; exact hi⟩
  rw [h3, v2_tk]
  rw [hl] at h2
  have : y = 0 ∨ y = 1 := by omega
  rcases this with rfl | rfl <;> exact ⟨rfl, rfl⟩
 obtain ⟨a0, b0⟩ := ha 0 (by decide)
 obtain ⟨a1, b1⟩ := ha 1 (by decide)
 unfold VS.us
 rw [hl]
 simp only [usGo, a0, b0, a1, b1]
 decide
theorem l129 : (zr 129).length = 129 := rfl
theorem awk1 (m L : AMem) : Ctr Try.prog 10 [.one (.ptr (m.length + 4) 0 0), .one (.int .i64 2), .agg (u8l (kyL 1)), .one (.sl (m.length + 5) 0 0 129)] (m ++ rowD 40 D0 :: mapD D0 :: drB m.length (m.length + 1) 40 D0 :: rS 0 (V0 10).k (V0 10).f :: vtB (m.length + 2) (m.length + 3) (V0 10) :: ⟨.grow, 5, 0, 1, u8l (zr 129)⟩ :: L) (.one (.int .i64 0)) (m ++ rowD 40 (wsD (layS 10 (chB (zr 129)) 2 0 D0).1 0 aS1) :: mapD (wsD (layS 10 (chB (zr 129)) 2 0 D0).1 0 aS1) :: drB m.length (m.length + 1) 40 (wsD (layS 10 (chB (zr 129)) 2 0 D0).1 0 aS1) :: rS 0 (aV1).k (aV1).f :: vtB (m.length + 2) (m.length + 3) (aV1) :: ⟨.grow, 5, 0, 1, u8l (zr 129)⟩ :: L) := by
 have hB := fresh_b m 40 (V0 10) D0 (⟨.grow, 5, 0, 1, u8l (zr 129)⟩ :: L)
 have h := put_new (m.length + 4) (m.length + 3) (m.length + 2) m.length (m.length + 1) 40 (V0 10) D0 _ hB (fun _ => zS_ok) (by decide) rfl 2 (.inr rfl) (kyL 1) rfl (m.length + 5) 0 129 (zr 129) ⟨.grow, 1, by rw [lk_app]; rfl⟩ l129 (by decide) (zr_ok _) (Liv.d0 40) (by decide) (by decide) (by decide) (v0_find _) (by decide) 0 v0_free 10 (v0_pl 10 40 _ _ (by decide)) (by decide) (v0_plB 10 _ _) 2 (by decide) (by decide)
 rw [fresh_set] at h
 exact h
theorem awk2 (m L : AMem) (D : DS) (hL : Liv 40 D) : Ctr Try.prog 10 [.one (.ptr (m.length + 4) 0 0), .one (.int .i64 2), .agg (u8l (kyL 2)), .one (.sl (m.length + 6) 0 0 129)] (m ++ rowD 40 D :: mapD D :: drB m.length (m.length + 1) 40 D :: rS 0 (aV1).k (aV1).f :: vtB (m.length + 2) (m.length + 3) (aV1) :: ⟨.grow, 5, 0, 1, u8l (zr 129)⟩ :: ⟨.grow, 5, 0, 1, u8l (zr 129)⟩ :: L) (.one (.int .i64 0)) (m ++ rowD 40 (wsD D 1 aS2) :: mapD (wsD D 1 aS2) :: drB m.length (m.length + 1) 40 (wsD D 1 aS2) :: rS 0 (aV2).k (aV2).f :: vtB (m.length + 2) (m.length + 3) (aV2) :: ⟨.grow, 5, 0, 1, u8l (zr 129)⟩ :: ⟨.grow, 5, 0, 1, u8l (zr 129)⟩ :: L) := by
 have hB := fresh_b m 40 aV1 D (⟨.grow, 5, 0, 1, u8l (zr 129)⟩ :: ⟨.grow, 5, 0, 1, u8l (zr 129)⟩ :: L)
 have h := put_dup (m.length + 4) (m.length + 3) (m.length + 2) m.length (m.length + 1) 40 aV1 D _ hB aV1_ok (by decide) rfl 2 (.inr rfl) (kyL 2) rfl (m.length + 6) 0 129 (zr 129) ⟨.grow, 1, by rw [lk_app]; rfl⟩ l129 (by decide) (zr_ok _) hL (by decide) (by decide) (by decide) v1_find (by decide) 1 v1_free 10 v1_pl (by decide) v1_plB
 rw [fresh_set] at h
 exact h
theorem awake_c (m : AMem) : Ctr Try.prog 8 [] m (.one (.bool true)) m := by
 refine Ctr.enter Try.func8 rfl (by decide) (rs := [.tmp 0]) (nt := 51) rfl rfl fun hwf Q hQ => ?_
 have ez : [CV.int .u8 0, CV.int .u8 0, CV.int .u8 0, CV.int .u8 0, CV.int .u8 0, CV.int .u8 0, CV.int .u8 0, CV.int .u8 0, CV.int .u8 0, CV.int .u8 0, CV.int .u8 0, CV.int .u8 0, CV.int .u8 0, CV.int .u8 0, CV.int .u8 0, CV.int .u8 0, CV.int .u8 0, CV.int .u8 0, CV.int .u8 0, CV.int .u8 0, CV.int .u8 0, CV.int .u8 0, CV.int .u8 0, CV.int .u8 0, CV.int .u8 0, CV.int .u8 0, CV.int .u8 0, CV.int .u8 0, CV.int .u8 0, CV.int .u8 0, CV.int .u8 0, CV.int .u8 0, CV.int .u8 0, CV.int .u8 0, CV.int .u8 0, CV.int .u8 0, CV.int .u8 0, CV.int .u8 0, CV.int .u8 0, CV.int .u8 0, CV.int .u8 0, CV.int .u8 0, CV.int .u8 0, CV.int .u8 0, CV.int .u8 0, CV.int .u8 0, CV.int .u8 0, CV.int .u8 0, CV.int .u8 0, CV.int .u8 0, CV.int .u8 0, CV.int .u8 0, CV.int .u8 0, CV.int .u8 0, CV.int .u8 0, CV.int .u8 0, CV.int .u8 0, CV.int .u8 0, CV.int .u8 0, CV.int .u8 0, CV.int .u8 0, CV.int .u8 0, CV.int .u8 0, CV.int .u8 0, CV.int .u8 0, CV.int .u8 0, CV.int .u8 0, CV.int .u8 0, CV.int .u8 0, CV.int .u8 0, CV.int .u8 0, CV.int .u8 0, CV.int .u8 0, CV.int .u8 0, CV.int .u8 0, CV.int .u8 0, CV.int .u8 0, CV.int .u8 0, CV.int .u8 0, CV.int .u8 0, CV.int .u8 0, CV.int .u8 0, CV.int .u8 0, CV.int .u8 0, CV.int .u8 0, CV.int .u8 0, CV.int .u8 0, CV.int .u8 0, CV.int .u8 0, CV.int .u8 0, CV.int .u8 0, CV.int .u8 0, CV.int .u8 0, CV.int .u8 0, CV.int .u8 0, CV.int .u8 0, CV.int .u8 0, CV.int .u8 0, CV.int .u8 0, CV.int .u8 0, CV.int .u8 0, CV.int .u8 0, CV.int .u8 0, CV.int .u8 0, CV.int .u8 0, CV.int .u8 0, CV.int .u8 0, CV.int .u8 0, CV.int .u8 0, CV.int .u8 0, CV.int .u8 0, CV.int .u8 0, CV.int .u8 0, CV.int .u8 0, CV.int .u8 0, CV.int .u8 0, CV.int .u8 0, CV.int .u8 0, CV.int .u8 0, CV.int .u8 0, CV.int .u8 0, CV.int .u8 0, CV.int .u8 0, CV.int .u8 0, CV.int .u8 0, CV.int .u8 0, CV.int .u8 0, CV.int .u8 0, CV.int .u8 0] = u8l (zr 129) := rfl
 have sl8 : slotsZ 8 = 2 := by decide
 have c2 := v2_cnt
 have u2 := v2_us
 have hL1 : Liv 40 (wsD (layS 10 (chB (zr 129)) 2 0 D0).1 0 aS1) := ((Liv.lay (n := 40) (k := 10) (bl := chB (zr 129)) (fun i => padB_len _) 2 0 D0 (Liv.d0 40) (by decide)).2.ws (V := V0 10) (fr := 0) (s := aS1) (by decide) aS1_ok.w).2
 refine AW.sr 3 fun K hK => ?_
 have pk_1 : _ ∧ _ ∧ _ ∧ _ := ⟨c2, u2, sl8, ez⟩
 simp only [push_cast, simprocAttr, pk_1]
 refine CThen.by (dnew_c 40 _ (by decide) (by decide)) ?_
 simp only [push_cast, simprocAttr, pk_1]
 refine CThen.by (open_c (m.length + 2) m.length (m.length + 1) 40 10 D0 (fun _ => zS) _ ⟨by rw [lk_app]; rfl, by rw [lk_app0]; rfl, by rw [lk_app]; rfl⟩ (d0_wf 40) rfl (by decide) (by decide) d0_ok (good0 40 10)) ?_
 simp only [push_cast, simprocAttr, pk_1]
 apply hK;clear hK K
 refine AW.seq_k fun K hK => ?_
 refine AW.seq_k fun K hK => ?_
 refine AW.drawX fol (by kernel_rfl) ?_
 refine DX.split 8 9 (by decide) ?_ ?_
 focus
  refine DX.split 15 16 (by decide) ?_ ?_
  focus
   refine DX.run [0, 1, 2, 3, 4, 5, 6, 7, 8, 9, 10, 11, 12, 13, 14, 15, 16, 17, 18, 19] [.val, .val, .val, .val, .val, .val, .val, .val, .ext, .ext, .wr, .val, .val, .val, .val, .ext, .ext, .wr, .val, .val] (by simp only [permL, reOp, List.idxOf_cons, push_cast, simprocAttr, pk_1]; first | done | rfl) (by kernel_rfl) ?_
   simp only [push_cast, simprocAttr, pk_1]
   refine DCall.by0 (key_c 1 _ (by decide) (by decide)) ?_
   simp only [push_cast, simprocAttr, pk_1]
   refine DExt.by (by first | rfl | exact (List.append_nil _).symm | (simp only [List.append_assoc, List.cons_append, List.nil_append]; rfl)) ?_
   simp only [push_cast, simprocAttr, pk_1]
   refine DCallW.by (awk1 m []) ?_
   simp only [push_cast, simprocAttr, pk_1]
   refine DCall.by0 (key_c 2 _ (by decide) (by decide)) ?_
   simp only [push_cast, simprocAttr, pk_1]
   refine DExt.by (by first | rfl | exact (List.append_nil _).symm | (simp only [List.append_assoc, List.cons_append, List.nil_append]; rfl)) ?_
   simp only [push_cast, simprocAttr, pk_1]
   refine DCallW.by (awk2 m [] _ hL1) ?_
   simp only [push_cast, simprocAttr, pk_1]
   skip
  rotate_left 1
  focus
   refine DX.run [0, 1, 2, 3, 4, 5, 6, 7, 8, 9, 10, 11, 12, 13, 14, 16, 15, 17, 18, 19] [.val, .val, .val, .val, .val, .val, .val, .val, .ext, .ext, .wr, .val, .val, .val, .val, .ext, .ext, .wr, .val, .val] (by simp only [permL, reOp, List.idxOf_cons, push_cast, simprocAttr, pk_1]; first | done | rfl) (by kernel_rfl) ?_
   simp only [push_cast, simprocAttr, pk_1]
   refine DCall.by0 (key_c 1 _ (by decide) (by decide)) ?_
   simp only [push_cast, simprocAttr, pk_1]
   refine DExt.by (by first | rfl | exact (List.append_nil _).symm | (simp only [List.append_assoc, List.cons_append, List.nil_append]; rfl)) ?_
   simp only [push_cast, simprocAttr, pk_1]
   refine DCallW.by (awk1 m []) ?_
   simp only [push_cast, simprocAttr, pk_1]
   refine DExt.by (by first | rfl | exact (List.append_nil _).symm | (simp only [List.append_assoc, List.cons_append, List.nil_append]; rfl)) ?_
   simp only [push_cast, simprocAttr, pk_1]
   refine DCall.by0 (key_c 2 _ (by decide) (by decide)) ?_
   simp only [push_cast, simprocAttr, pk_1]
   refine DCallW.by (awk2 m [] _ hL1) ?_
   simp only [push_cast, simprocAttr, pk_1]
   skip
  rotate_left 1
 rotate_left 2
 focus
  refine DX.split 15 16 (by decide) ?_ ?_
  focus
   refine DX.run [0, 1, 2, 3, 4, 5, 6, 7, 9, 8, 10, 11, 12, 13, 14, 15, 16, 17, 18, 19] [.val, .val, .val, .val, .val, .val, .val, .val, .ext, .ext, .wr, .val, .val, .val, .val, .ext, .ext, .wr, .val, .val] (by simp only [permL, reOp, List.idxOf_cons, push_cast, simprocAttr, pk_1]; first | done | rfl) (by kernel_rfl) ?_
   simp only [push_cast, simprocAttr, pk_1]
   refine DExt.by (by first | rfl | exact (List.append_nil _).symm | (simp only [List.append_assoc, List.cons_append, List.nil_append]; rfl)) ?_
   simp only [push_cast, simprocAttr, pk_1]
   refine DCall.by0 (key_c 1 _ (by decide) (by decide)) ?_
   simp only [push_cast, simprocAttr, pk_1]
   refine DCallW.by (awk1 m []) ?_
   simp only [push_cast, simprocAttr, pk_1]
   refine DCall.by0 (key_c 2 _ (by decide) (by decide)) ?_
   simp only [push_cast, simprocAttr, pk_1]
   refine DExt.by (by first | rfl | exact (List.append_nil _).symm | (simp only [List.append_assoc, List.cons_append, List.nil_append]; rfl)) ?_
   simp only [push_cast, simprocAttr, pk_1]
   refine DCallW.by (awk2 m [] _ hL1) ?_
   simp only [push_cast, simprocAttr, pk_1]
   skip
  rotate_left 1
  focus
   refine DX.run [0, 1, 2, 3, 4, 5, 6, 7, 9, 8, 10, 11, 12, 13, 14, 16, 15, 17, 18, 19] [.val, .val, .val, .val, .val, .val, .val, .val, .ext, .ext, .wr, .val, .val, .val, .val, .ext, .ext, .wr, .val, .val] (by simp only [permL, reOp, List.idxOf_cons, push_cast, simprocAttr, pk_1]; first | done | rfl) (by kernel_rfl) ?_
   simp only [push_cast, simprocAttr, pk_1]
   refine DExt.by (by first | rfl | exact (List.append_nil _).symm | (simp only [List.append_assoc, List.cons_append, List.nil_append]; rfl)) ?_
   simp only [push_cast, simprocAttr, pk_1]
   refine DCall.by0 (key_c 1 _ (by decide) (by decide)) ?_
   simp only [push_cast, simprocAttr, pk_1]
   refine DCallW.by (awk1 m []) ?_
   simp only [push_cast, simprocAttr, pk_1]
   refine DExt.by (by first | rfl | exact (List.append_nil _).symm | (simp only [List.append_assoc, List.cons_append, List.nil_append]; rfl)) ?_
   simp only [push_cast, simprocAttr, pk_1]
   refine DCall.by0 (key_c 2 _ (by decide) (by decide)) ?_
   simp only [push_cast, simprocAttr, pk_1]
   refine DCallW.by (awk2 m [] _ hL1) ?_
   simp only [push_cast, simprocAttr, pk_1]
   skip
  rotate_left 1
 rotate_left 2
 all_goals (
 apply hK;clear hK K
 refine AW.cond_f rfl ?_
 refine AW.skip ?_
 apply hK;clear hK K
 refine AW.sr 2 fun K hK => ?_
 simp only [push_cast, simprocAttr, pk_1]
 refine CThen.by (used_c (m.length + 4) (m.length + 3) (m.length + 2) aV2 _ ⟨by rw [lk_app]; rfl, by rw [lk_app]; rfl⟩ aV2_ok (by decide) rfl (by decide) (by decide)) ?_
 simp only [push_cast, simprocAttr, pk_1]
 refine CThen.by (slots_c 8 _ (by decide) (by decide)) ?_
 simp only [push_cast, simprocAttr, pk_1]
 apply hK;clear hK K
 refine AW.ret ?_
 refine hQ _ _ _ ?_
 first | refine RetP.drop0 (Or.inr rfl) ?_ ?_ hwf | refine RetP.drop (Or.inr rfl) ?_ ?_ hwf
 · simp only [resA, resOne, resTv, AV.tv, push_cast, simprocAttr, pk_1]
 · rfl
 )
theorem strB_go : ∀ (xs : List Int) (b : ByteArray), (xs.foldl (fun r n => r.push (UInt8.ofNat n.toNat)) b).data.toList = b.data.toList ++ xs.map (fun n => UInt8.ofNat n.toNat)
 | [], b => by simp
 | x :: xs, b => by
  rw [List.foldl_cons, strB_go xs]
  simp
theorem strB_data (xs : List Int) : (strB xs).data.toList = xs.map (fun n => UInt8.ofNat n.toNat) := by
 unfold strB; rw [strB_go]; rfl
theorem strB_inj : ∀ {xs ys : List Int}, U8ok xs → U8ok ys → (strB xs) = (strB ys) → xs = ys := by
 intro xs ys hx hy h
 have h1 := congrArg (fun b : ByteArray => b.data.toList) h
 simp only [strB_data] at h1
 have h2 := congrArg (List.map fun b : UInt8 => ((b.toNat : Nat) : Int)) h1
 rw [List.map_map, List.map_map] at h2
 have go : ∀ {zs : List Int}, U8ok zs → zs.map ((fun b : UInt8 => ((b.toNat : Nat) : Int)) ∘ fun n => UInt8.ofNat n.toNat) = zs := fun {zs} hz => by
  have : ∀ z, z ∈ zs → ((fun b : UInt8 => ((b.toNat : Nat) : Int)) ∘ fun n : Int => UInt8.ofNat n.toNat) z = z := fun z hm => by
   have := hz z hm
   show (((UInt8.ofNat z.toNat).toNat : Nat) : Int) = z
   rw [UInt8.toNat_ofNat']; omega
  rw [List.map_congr_left this, List.map_id']
 rwa [go hx, go hy] at h2
theorem toL_iff (a b : ByteArray) : (a.toList == b.toList) = decide (a = b) := by
 rw [Bool.eq_iff_iff, beq_iff_eq, decide_eq_true_iff, ByteArray.toList_eq, ByteArray.toList_eq]
 constructor
 ·intro h; cases a; cases b; simp only [ByteArray.mk.injEq]; exact Array.toList_inj.1 h
 ·rintro rfl; rfl
theorem bytesA_u8 : ∀ bs : List Int, bytesA (u8l bs) = some bs
 | [] => rfl
 | b :: bs => by
  show bytesA (CV.int .u8 b :: u8l bs) = _
  unfold bytesA
  rw [bytesA_u8 bs]; rfl
abbrev TE := List (Nat × List Int × ByteArray)
def tC (e : Nat × List Int × ByteArray) : Nat × List CV × List CV := (e.1, u8l e.2.1, [.str e.2.2])
def tL (E : TE) : List (Nat × List CV × List CV) := E.map tC
def LT (E : TE) : Prop := ∀ e, e ∈ E → e.2.1.length = 32
def fndT (k : List Int) : TE → Option Nat
 | [] => none
 | e :: E => if k = e.2.1 then some 0 else (fndT k E).map (· + 1)
def lkT (k : List Int) : TE → Option ByteArray
 | [] => none
 | e :: E => if k = e.2.1 then some e.2.2 else lkT k E
theorem keyEq_u8 : ∀ {a b : List Int}, a.length = b.length → keyEqL (u8l a) (u8l b) = some (decide (a = b))
 | [], [], _ => rfl
 | x :: a, y :: b, h => by
  have ih := keyEq_u8 (a := a) (b := b) (by simpa using h)
  show keyEqL (CV.int .u8 x :: u8l a) (CV.int .u8 y :: u8l b) = _
  unfold keyEqL
  rw [ih]
  simp only [ceq, if_true]
  congr 1
  rw [Bool.eq_iff_iff]
  simp [List.cons.injEq]
 | [], _ :: _, h => by simp at h
 | _ :: _, [], h => by simp at h
theorem findL_tL {k : List Int} (hk : k.length = 32) : ∀ {E : TE}, LT E → findL (u8l k) (tL E) = some (fndT k E)
 | [], _ => rfl
 | e :: E, h => by
  have he := h e List.mem_cons_self
  have ih := findL_tL hk (E := E) fun x hx => h x (List.mem_cons_of_mem _ hx)
  show findL (u8l k) (tC e :: tL E) = _
  unfold findL
  rw [show (tC e).2.1 = u8l e.2.1 from rfl, keyEq_u8 (by rw [hk, he])]
  unfold fndT
  by_cases hc : k = e.2.1
  ·rw [decide_eq_true hc, if_pos hc]
  ·rw [decide_eq_false hc, if_neg hc, ih]; rfl
theorem fndT_none {k : List Int} : ∀ {E : TE}, fndT k E = none → lkT k E = none
 | [], _ => rfl
 | e :: E, h => by
  unfold fndT at h; unfold lkT
  by_cases hc : k = e.2.1
  ·rw [if_pos hc] at h; cases h
  ·rw [if_neg hc] at h ⊢
   exact fndT_none (by simpa using h)
theorem fndT_some {k : List Int} : ∀ {E : TE} {j : Nat}, fndT k E = some j → ∃ b s, E[j]? = some (b, k, s) ∧ lkT k E = some s
 | [], _, h => by cases h
 | e :: E, j, h => by
  unfold fndT at h; unfold lkT
  by_cases hc : k = e.2.1
  ·rw [if_pos hc] at h ⊢
   injection h with h; subst h; subst hc
   exact ⟨e.1, e.2.2, rfl, rfl⟩
  ·rw [if_neg hc] at h ⊢
   obtain ⟨i, hi, rfl⟩ := Option.map_eq_some_iff.1 h
   obtain ⟨b, s, h1, h2⟩ := fndT_some hi
   exact ⟨b, s, h1, h2⟩
theorem tL_get {E : TE} {j : Nat} {e : Nat × List Int × ByteArray} (h : E[j]? = some e) : (tL E)[j]? = some (tC e) := by unfold tL; rw [List.getElem?_map, h]; rfl
def upT (ck : Nat) (k : List Int) (s : ByteArray) : TE → TE
 | [] => [(ck, k, s)]
 | e :: E => if k = e.2.1 then (e.1, k, s) :: E else e :: upT ck k s E
def upTc (ck : Nat) (k : List Int) (E : TE) : Nat := if (fndT k E).isSome then ck else ck + 1
theorem upT_none {ck : Nat} {k : List Int} {s : ByteArray} : ∀ {E : TE}, fndT k E = none → tL E ++ [(ck, u8l k, [.str s])] = tL (upT ck k s E)
 | [], _ => rfl
 | e :: E, h => by
  unfold fndT at h; unfold upT
  by_cases hc : k = e.2.1
  ·rw [if_pos hc] at h; cases h
  ·rw [if_neg hc] at h ⊢
   show tC e :: (tL E ++ _) = tC e :: tL _
   rw [upT_none (by simpa using h)]
theorem upT_some {ck : Nat} {k : List Int} {s : ByteArray} : ∀ {E : TE} {j b : Nat} {x : ByteArray}, fndT k E = some j → E[j]? = some (b, k, x) → (tL E).set j (b, u8l k, [.str s]) = tL (upT ck k s E)
 | [], _, _, _, h, _ => by cases h
 | e :: E, j, b, x, h, hj => by
  unfold fndT at h; unfold upT
  by_cases hc : k = e.2.1
  ·rw [if_pos hc] at h ⊢
   injection h with h; subst h
   injection hj with hj; subst hj
   rfl
  ·rw [if_neg hc] at h ⊢
   obtain ⟨i, hi, rfl⟩ := Option.map_eq_some_iff.1 h
   show tC e :: (tL E).set i _ = tC e :: tL _
   rw [upT_some hi (by simpa using hj)]
theorem lkT_up {ck : Nat} {k : List Int} {s : ByteArray} (x : List Int) : ∀ E : TE, lkT x (upT ck k s E) = if x = k then some s else lkT x E
 | [] => by
  unfold upT lkT lkT
  by_cases h : x = k <;> simp [h]
 | e :: E => by
  have ih := lkT_up (ck := ck) (k := k) (s := s) x E
  unfold upT
  by_cases hc : k = e.2.1
  ·rw [if_pos hc]
   unfold lkT
   by_cases hx : x = k
   ·rw [if_pos hx, if_pos hx]
   ·rw [if_neg hx, if_neg hx, if_neg (by rw [← hc]; exact hx)]
  ·rw [if_neg hc]
   unfold lkT
   by_cases hx : x = e.2.1
   ·rw [if_pos hx, if_pos hx, if_neg (fun h => hc (by rw [← h, hx]))]
   ·rw [if_neg hx, if_neg hx, ih]
theorem upT_lt {ck : Nat} {k : List Int} {s : ByteArray} (hk : k.length = 32) : ∀ {E : TE}, LT E → LT (upT ck k s E)
 | [], _ => fun e he => by rw [List.mem_singleton.1 he]; exact hk
 | e :: E, h => by
  unfold upT
  split
  ·intro x hx
   rcases List.mem_cons.1 hx with rfl | hx
   ·exact hk
   ·exact h x (List.mem_cons_of_mem _ hx)
  ·intro x hx
   rcases List.mem_cons.1 hx with rfl | hx
   ·exact h x List.mem_cons_self
   ·exact upT_lt hk (fun y hy => h y (List.mem_cons_of_mem _ hy)) x hx
def mapT (ck : Nat) (E : TE) : Blk := ⟨.map true false ck (tL E), 33, 0, 0, []⟩
def clB (E : TE) (bs : List Int) : Bool := match lkT (shaL bs) E with
 | some s => !(s.toList == (strB bs).toList)
 | none => false
theorem tL_below (L ck : Nat) (E : TE) : BK.below L (.map true false ck (tL E)) = true := by
 simp only [BK.below, tL, List.all_map, List.all_eq_true]
 intro e _
 simp only [Function.comp, tC, u8l_below, List.all_cons, List.all_nil, CV.below, Bool.and_self]
theorem clash_none (rt rp vp len ck : Nat) (E : TE) (bs : List Int) (m : AMem) (ht : m[rt]? = some (mapT ck E)) (hE : LT E) (hp : ∃ kk ez, m[rp]? = some ⟨kk, 5, vp, ez, u8l bs⟩) (hlen : bs.length = len) (hl2 : len ≤ 1000000) (ho : U8ok bs) (hf : fndT (shaL bs) E = none) : Ctr Try.prog 9 [.one (.mp rt 0), .one (.sl rp vp 0 len)] m (.one (.bool (clB E bs))) (m.set rt (mapT (upTc ck (shaL bs) E) (upT ck (shaL bs) (strB bs) E))) := by
 refine Ctr.enter Try.func9 rfl (by decide) (rs := [.tmp 4]) (nt := 28) rfl rfl fun hwf Q hQ => ?_
 obtain ⟨kk, ez, hp⟩ := hp
 have lt := get_lt ht
 have lpp := get_lt hp
 have ksl : (u8l (shaL bs)).length = 32 := by rw [u8l_len]; exact shaL_len bs
 have kst : (u8l (shaL bs)).take 32 = u8l (shaL bs) := List.take_of_length_le (by omega)
 have ksv := u8l_vals (shaL bs)
 have kz : setL [CV.int .u8 0, CV.int .u8 0, CV.int .u8 0, CV.int .u8 0, CV.int .u8 0, CV.int .u8 0, CV.int .u8 0, CV.int .u8 0, CV.int .u8 0, CV.int .u8 0, CV.int .u8 0, CV.int .u8 0, CV.int .u8 0, CV.int .u8 0, CV.int .u8 0, CV.int .u8 0, CV.int .u8 0, CV.int .u8 0, CV.int .u8 0, CV.int .u8 0, CV.int .u8 0, CV.int .u8 0, CV.int .u8 0, CV.int .u8 0, CV.int .u8 0, CV.int .u8 0, CV.int .u8 0, CV.int .u8 0, CV.int .u8 0, CV.int .u8 0, CV.int .u8 0, CV.int .u8 0] 0 (u8l (shaL bs)) = u8l (shaL bs) := setL_full (by rw [ksl]; rfl)
 have ksi : (u8l (shaL bs)).all (scI Try.prog 5) = true := by
   simp only [u8l, List.all_map, List.all_eq_true]; intro x _; rfl
 have fl := findL_tL (shaL_len bs) hE
 have ba := bytesA_u8 bs
 have ul : (u8l bs).length = len := by rw [u8l_len]; exact hlen
 have tb : (u8l bs).take len = u8l bs := List.take_of_length_le (by omega)
 have sT := fun (L : AMem) (b : Blk) => mk_olds (m := m) (l := m) (r := rt) rfl lt L b
 have np : rp ≠ rt := by rintro rfl; rw [ht] at hp; simp [mapT] at hp
 have kP := fun (b : Blk) (L : AMem) => (mk_old (m := m) (l := m.set rt b) (r := rp) (by rw [List.length_set]) lpp L).trans ((List.getElem?_set_ne np.symm).trans hp)
 have hw2 : MWf m.length (m.set rt (mapT (upTc ck (shaL bs) E) (upT ck (shaL bs) (strB bs) E))) := MWf_setB hwf rfl (tL_below _ _ _)
 have kP0 := fun (b : Blk) => (List.getElem?_set_ne (l := m) (a := b) np.symm).trans hp
 rw [hf] at fl
 have g3 : upTc ck (shaL bs) E = ck + 1 := by unfold upTc; rw [hf]; rfl
 have g2 := upT_none (ck := ck) (s := strB bs) hf
 have cb : clB E bs = false := by unfold clB; rw [fndT_none hf]
 rw [cb, mapT, g3] at hQ
 rw [mapT, g3] at hw2
 refine AW.sr 5 fun K hK => ?_
 have pk_1 : _ ∧ _ ∧ _ ∧ _ ∧ _ ∧ _ ∧ _ ∧ _ ∧ _ ∧ _ ∧ _ ∧ _ ∧ _ ∧ _ ∧ _ ∧ _ := ⟨ht, lk_old ht, hp, lk_old hp, ksl, kst, ksv, kz, ksi, fl, ba, tb, sT, kP, kP0, g2⟩
 simp only [push_cast, simprocAttr, mapT, ul, setMap, pk_1]
 refine CThen.by (of1_c (m.length) 0 0 (.sl rp vp 0 len) bs [.sl rp vp 0 len] .grow 1 _ (by rw [lk_app0]; rfl) rfl (.all (lk_old hp _) hlen.symm) (by omega) ho) ?_
 simp only [push_cast, simprocAttr, mapT, ul, setMap, pk_1]
 apply hK;clear hK K
 refine AW.ret ?_
 refine hQ _ _ _ ?_
 rw [show mapT _ _ = mapT _ _ from rfl] at *
 first | refine RetP.dropM0 (by rw [List.length_set]) (by first | exact Or.inr rfl | exact Or.inl rfl) ?_ ?_ hw2 | refine RetP.dropM (by rw [List.length_set]) (by first | exact Or.inr rfl | exact Or.inl rfl) ?_ ?_ hw2
 · simp only [resA, resOne, resTv, AV.tv, push_cast, simprocAttr]
 · rfl
theorem clash_some (rt rp vp len ck : Nat) (E : TE) (bs : List Int) (m : AMem) (ht : m[rt]? = some (mapT ck E)) (hE : LT E) (hp : ∃ kk ez, m[rp]? = some ⟨kk, 5, vp, ez, u8l bs⟩) (hlen : bs.length = len) (hl2 : len ≤ 1000000) (ho : U8ok bs) (j : Nat) (hf : fndT (shaL bs) E = some j) : Ctr Try.prog 9 [.one (.mp rt 0), .one (.sl rp vp 0 len)] m (.one (.bool (clB E bs))) (m.set rt (mapT (upTc ck (shaL bs) E) (upT ck (shaL bs) (strB bs) E))) := by
 refine Ctr.enter Try.func9 rfl (by decide) (rs := [.tmp 4]) (nt := 28) rfl rfl fun hwf Q hQ => ?_
 obtain ⟨kk, ez, hp⟩ := hp
 have lt := get_lt ht
 have lpp := get_lt hp
 have ksl : (u8l (shaL bs)).length = 32 := by rw [u8l_len]; exact shaL_len bs
 have kst : (u8l (shaL bs)).take 32 = u8l (shaL bs) := List.take_of_length_le (by omega)
 have ksv := u8l_vals (shaL bs)
 have kz : setL [CV.int .u8 0, CV.int .u8 0, CV.int .u8 0, CV.int .u8 0, CV.int .u8 0, CV.int .u8 0, CV.int .u8 0, CV.int .u8 0, CV.int .u8 0, CV.int .u8 0, CV.int .u8 0, CV.int .u8 0, CV.int .u8 0, CV.int .u8 0, CV.int .u8 0, CV.int .u8 0, CV.int .u8 0, CV.int .u8 0, CV.int .u8 0, CV.int .u8 0, CV.int .u8 0, CV.int .u8 0, CV.int .u8 0, CV.int .u8 0, CV.int .u8 0, CV.int .u8 0, CV.int .u8 0, CV.int .u8 0, CV.int .u8 0, CV.int .u8 0, CV.int .u8 0, CV.int .u8 0] 0 (u8l (shaL bs)) = u8l (shaL bs) := setL_full (by rw [ksl]; rfl)
 have ksi : (u8l (shaL bs)).all (scI Try.prog 5) = true := by
   simp only [u8l, List.all_map, List.all_eq_true]; intro x _; rfl
 have fl := findL_tL (shaL_len bs) hE
 have ba := bytesA_u8 bs
 have ul : (u8l bs).length = len := by rw [u8l_len]; exact hlen
 have tb : (u8l bs).take len = u8l bs := List.take_of_length_le (by omega)
 have sT := fun (L : AMem) (b : Blk) => mk_olds (m := m) (l := m) (r := rt) rfl lt L b
 have np : rp ≠ rt := by rintro rfl; rw [ht] at hp; simp [mapT] at hp
 have kP := fun (b : Blk) (L : AMem) => (mk_old (m := m) (l := m.set rt b) (r := rp) (by rw [List.length_set]) lpp L).trans ((List.getElem?_set_ne np.symm).trans hp)
 have hw2 : MWf m.length (m.set rt (mapT (upTc ck (shaL bs) E) (upT ck (shaL bs) (strB bs) E))) := MWf_setB hwf rfl (tL_below _ _ _)
 have kP0 := fun (b : Blk) => (List.getElem?_set_ne (l := m) (a := b) np.symm).trans hp
 rw [hf] at fl
 obtain ⟨b0, s0, hj, hlk⟩ := fndT_some hf
 have gj := tL_get hj
 unfold tC at gj
 have g3 : upTc ck (shaL bs) E = ck := by unfold upTc; rw [hf]; rfl
 have g2 := upT_some (ck := ck) (s := strB bs) hf hj
 have cb : clB E bs = !(s0.toList == (strB bs).toList) := by unfold clB; rw [hlk]
 rw [cb, mapT, g3] at hQ
 rw [mapT, g3] at hw2
 refine AW.sr 5 fun K hK => ?_
 have pk_2 : _ ∧ _ ∧ _ ∧ _ ∧ _ ∧ _ ∧ _ ∧ _ ∧ _ ∧ _ ∧ _ ∧ _ ∧ _ ∧ _ ∧ _ ∧ _ ∧ _ := ⟨ht, lk_old ht, hp, lk_old hp, ksl, kst, ksv, kz, ksi, fl, ba, tb, sT, kP, kP0, g2, gj⟩
 simp only [push_cast, simprocAttr, mapT, ul, setMap, pk_2]
 refine CThen.by (of1_c (m.length) 0 0 (.sl rp vp 0 len) bs [.sl rp vp 0 len] .grow 1 _ (by rw [lk_app0]; rfl) rfl (.all (lk_old hp _) hlen.symm) (by omega) ho) ?_
 simp only [push_cast, simprocAttr, mapT, ul, setMap, pk_2]
 apply hK;clear hK K
 refine AW.ret ?_
 refine hQ _ _ _ ?_
 rw [show mapT _ _ = mapT _ _ from rfl] at *
 first | refine RetP.dropM0 (by rw [List.length_set]) (by first | exact Or.inr rfl | exact Or.inl rfl) ?_ ?_ hw2 | refine RetP.dropM (by rw [List.length_set]) (by first | exact Or.inr rfl | exact Or.inl rfl) ?_ ?_ hw2
 · simp only [resA, resOne, resTv, AV.tv, push_cast, simprocAttr]
 · rfl
theorem catB_ch (bs : List Int) : ∀ N, catB N (chB bs) = bs.take (N * 128) ++ List.replicate (N * 128 - bs.length) 0
 | 0 => by simp [catB]
 | N + 1 => by
  show catB N (chB bs) ++ padB (bs.drop (N * 128)) = _
  rw [catB_ch bs N]
  unfold padB
  rcases Nat.lt_or_ge bs.length (N * 128) with h | h
  ·rw [List.drop_of_length_le (by omega), List.take_of_length_le (by omega), List.take_of_length_le (show bs.length ≤ (N + 1) * 128 by omega), List.take_nil, List.nil_append, List.length_nil, List.append_assoc, List.replicate_append_replicate]
   congr 2; omega
  ·rw [show N * 128 - bs.length = 0 by omega, List.replicate_zero, List.append_nil, ← List.append_assoc, ← List.take_add, List.length_drop]
   rw [show (N + 1) * 128 = N * 128 + 128 by omega]
   congr 2
   omega
theorem chB_ok {bs : List Int} (h : U8ok bs) (i : Nat) : U8ok (chB bs i) := fun x hx => by
 unfold chB padB at hx
 rcases List.mem_append.1 hx with h1 | h1
 ·exact h x (List.mem_of_mem_drop (List.mem_of_mem_take h1))
 ·rw [List.eq_of_mem_replicate h1]; omega
def offF (f : Nat → SL) : Nat → Int
 | 0 => 0
 | j + 1 => offF f j + needZ (f j).size
structure Lin (k : Nat) (V : VS) (c : Nat) : Prop where
 hk : V.k = k
 hd : V.data = (k : Int)
 h0 : V.dead = 0
 ck : c ≤ k
 ok : ∀ j, OkS (V.f j)
 zs : ∀ j, c ≤ j → V.f j = zS
 nz : ∀ j, j < c → ¬ (V.f j).kind = 0
 sz : ∀ j, j < c → 0 < (V.f j).size
 fr : ∀ j, j < c → (V.f j).fr = (k : Int) + offF V.f j
section
variable {k c : Nat} {V : VS}
end
theorem clash_c (rt rp vp len ck : Nat) (E : TE) (bs : List Int) (m : AMem) (ht : m[rt]? = some (mapT ck E)) (hE : LT E) (hp : ∃ kk ez, m[rp]? = some ⟨kk, 5, vp, ez, u8l bs⟩) (hlen : bs.length = len) (hl2 : len ≤ 1000000) (ho : U8ok bs) : Ctr Try.prog 9 [.one (.mp rt 0), .one (.sl rp vp 0 len)] m (.one (.bool (clB E bs))) (m.set rt (mapT (upTc ck (shaL bs) E) (upT ck (shaL bs) (strB bs) E))) := by
 rcases hf : fndT (shaL bs) E with _ | j
 ·exact clash_none rt rp vp len ck E bs m ht hE hp hlen hl2 ho hf
 ·exact clash_some rt rp vp len ck E bs m ht hE hp hlen hl2 ho j hf
def pL (i len : Nat) : List Int := ((List.replicate len 0).set 0 (i : Int)).set (len - 1) (i : Int)
def kR (i : Nat) : List Int := (i : Int) :: 1 :: List.replicate 30 0
structure RQS where
 (i c : Nat) (V : VS) (D : DS) (E : TE) (ck : Nat)
structure RInv (n k cnt : Nat) (q : RQS) : Prop where
 i0 : q.i ≤ cnt
 i1 : q.i ≤ 60
 lin : Lin k q.V q.c
 liv : Liv n q.D
 fit : (k : Int) + offF q.V.f q.c ≤ (n : Int)
 lt : LT q.E
 key : ∀ j, j < q.c → ∃ t, t < q.i ∧ (q.V.f j).key = kR t
 txt : ∀ j, j < q.c → ∃ t l, t < q.i ∧ 0 < l ∧ (q.V.f j).sum = shaL (pL t l) ∧ lkT (q.V.f j).sum q.E = some (strB (pL t l))
def opC (kd k2 ky : Int) (rp vp lp rk lk : Nat) (nx : Int) (re le : Nat) (ax : Int) (b : List Int) : List CV := .int .i64 kd :: .int .i64 k2 :: .int .u8 ky :: .sl rp vp 0 lp :: .sl rk 0 0 lk :: .int .i64 nx :: .sl re 0 0 le :: .int .i64 ax :: u8l b
theorem opC_len (kd k2 ky : Int) (rp vp lp rk lk : Nat) (nx : Int) (re le : Nat) (ax : Int) (b : List Int) (hb : b.length = 128) : (opC kd k2 ky rp vp lp rk lk nx re le ax b).length = 136 := by simp [opC, u8l_len, hb]
theorem fits_t (kd k2 ky : Int) (rp vp lp rk lk : Nat) (nx : Int) (re le : Nat) (ax : Int) (b : List Int) (m : AMem) (hb : b.length = 128) (h1 : lp ≤ 700) (h2 : lk ≤ 20) (h3 : le ≤ 60) : Ctr Try.prog 15 [.agg (opC kd k2 ky rp vp lp rk lk nx re le ax b)] m (.one (.bool true)) m := by
 refine Ctr.enter Try.func15 rfl (by decide) (rs := [.tmp 2]) (nt := 19) rfl rfl fun hwf Q hQ => ?_
 have hol := opC_len kd k2 ky rp vp lp rk lk nx re le ax b hb
 have ub : (u8l b).length = 128 := by rw [u8l_len]; exact hb
 have h1 := show (lp : Int) ≤ 700 by omega
 have h2 := show (lk : Int) ≤ 20 by omega
 have h3 := show (le : Int) ≤ 60 by omega
 refine AW.sr 2 fun K hK => ?_
 have pk_1 : _ ∧ _ ∧ _ ∧ _ := ⟨h1, h2, h3, ub⟩
 simp only [push_cast, simprocAttr, opC, u8l_len, pk_1]
 apply hK;clear hK K
 refine AW.ret ?_
 refine hQ _ _ _ ?_
 first | refine RetP.drop0 (Or.inr rfl) ?_ ?_ hwf | refine RetP.drop (Or.inr rfl) ?_ ?_ hwf
 · simp only [resA, resOne, resTv, AV.tv, push_cast, simprocAttr, opC, u8l_len, pk_1]
 · rfl
theorem fits_f1 (kd k2 ky : Int) (rp vp lp rk lk : Nat) (nx : Int) (re le : Nat) (ax : Int) (b : List Int) (m : AMem) (hb : b.length = 128) (h1 : ¬ lp ≤ 700) : Ctr Try.prog 15 [.agg (opC kd k2 ky rp vp lp rk lk nx re le ax b)] m (.one (.bool false)) m := by
 refine Ctr.enter Try.func15 rfl (by decide) (rs := [.tmp 2]) (nt := 19) rfl rfl fun hwf Q hQ => ?_
 have hol := opC_len kd k2 ky rp vp lp rk lk nx re le ax b hb
 have ub : (u8l b).length = 128 := by rw [u8l_len]; exact hb
 have h1 := show ¬ (lp : Int) ≤ 700 by omega
 refine AW.sr 2 fun K hK => ?_
 simp only [push_cast, simprocAttr, h1, opC, ub, u8l_len]
 apply hK;clear hK K
 refine AW.ret ?_
 refine hQ _ _ _ ?_
 first | refine RetP.drop0 (Or.inr rfl) ?_ ?_ hwf | refine RetP.drop (Or.inr rfl) ?_ ?_ hwf
 · simp only [resA, resOne, resTv, AV.tv, push_cast, simprocAttr, h1, opC, ub, u8l_len]
 · rfl
theorem fits_f2 (kd k2 ky : Int) (rp vp lp rk lk : Nat) (nx : Int) (re le : Nat) (ax : Int) (b : List Int) (m : AMem) (hb : b.length = 128) (h1 : lp ≤ 700) (h2 : ¬ lk ≤ 20) : Ctr Try.prog 15 [.agg (opC kd k2 ky rp vp lp rk lk nx re le ax b)] m (.one (.bool false)) m := by
 refine Ctr.enter Try.func15 rfl (by decide) (rs := [.tmp 2]) (nt := 19) rfl rfl fun hwf Q hQ => ?_
 have hol := opC_len kd k2 ky rp vp lp rk lk nx re le ax b hb
 have ub : (u8l b).length = 128 := by rw [u8l_len]; exact hb
 have h1 := show (lp : Int) ≤ 700 by omega
 have h2 := show ¬ (lk : Int) ≤ 20 by omega
 refine AW.sr 2 fun K hK => ?_
 simp only [push_cast, simprocAttr, h1, h2, opC, ub, u8l_len]
 apply hK;clear hK K
 refine AW.ret ?_
 refine hQ _ _ _ ?_
 first | refine RetP.drop0 (Or.inr rfl) ?_ ?_ hwf | refine RetP.drop (Or.inr rfl) ?_ ?_ hwf
 · simp only [resA, resOne, resTv, AV.tv, push_cast, simprocAttr, h1, h2, opC, ub, u8l_len]
 · rfl
theorem fits_f3 (kd k2 ky : Int) (rp vp lp rk lk : Nat) (nx : Int) (re le : Nat) (ax : Int) (b : List Int) (m : AMem) (hb : b.length = 128) (h1 : lp ≤ 700) (h2 : lk ≤ 20) (h3 : ¬ le ≤ 60) : Ctr Try.prog 15 [.agg (opC kd k2 ky rp vp lp rk lk nx re le ax b)] m (.one (.bool false)) m := by
 refine Ctr.enter Try.func15 rfl (by decide) (rs := [.tmp 2]) (nt := 19) rfl rfl fun hwf Q hQ => ?_
 have hol := opC_len kd k2 ky rp vp lp rk lk nx re le ax b hb
 have ub : (u8l b).length = 128 := by rw [u8l_len]; exact hb
 have h1 := show (lp : Int) ≤ 700 by omega
 have h2 := show (lk : Int) ≤ 20 by omega
 have h3 := show ¬ (le : Int) ≤ 60 by omega
 refine AW.sr 2 fun K hK => ?_
 have pk_2 : _ ∧ _ ∧ _ ∧ _ := ⟨h1, h2, h3, ub⟩
 simp only [push_cast, simprocAttr, opC, u8l_len, pk_2]
 apply hK;clear hK K
 refine AW.ret ?_
 refine hQ _ _ _ ?_
 first | refine RetP.drop0 (Or.inr rfl) ?_ ?_ hwf | refine RetP.drop (Or.inr rfl) ?_ ?_ hwf
 · simp only [resA, resOne, resTv, AV.tv, push_cast, simprocAttr, opC, u8l_len, pk_2]
 · rfl
theorem fits_no (kd k2 ky : Int) (rp vp lp rk lk : Nat) (nx : Int) (re le : Nat) (ax : Int) (b : List Int) (m : AMem) (hb : b.length = 128) (h : ¬ (lp ≤ 700 ∧ lk ≤ 20 ∧ le ≤ 60)) : Ctr Try.prog 15 [.agg (opC kd k2 ky rp vp lp rk lk nx re le ax b)] m (.one (.bool false)) m := by
 by_cases h1 : lp ≤ 700
 ·by_cases h2 : lk ≤ 20
  ·exact fits_f3 kd k2 ky rp vp lp rk lk nx re le ax b m hb h1 h2 fun h3 => h ⟨h1, h2, h3⟩
  ·exact fits_f2 kd k2 ky rp vp lp rk lk nx re le ax b m hb h1 h2
 ·exact fits_f1 kd k2 ky rp vp lp rk lk nx re le ax b m hb h1
def kyF (ks : List Int) (i : Nat) : List Int := kyL (ks.getD i 0)
theorem kyF_len (ks : List Int) (i : Nat) : (kyF ks i).length = 32 := rfl
def kR32 (ty n : Nat) (f : Nat → List Int) : Blk := ⟨.grow, ty, 0, 32, catC n fun i => u8l (f i)⟩
theorem keys_c (rk cnt : Nat) (ks : List Int) (m : AMem) (hz : ∃ kk ez, m[rk]? = some ⟨kk, 5, 0, ez, u8l ks⟩) (hcnt : ks.length = cnt) (hu : U8ok ks) (h20 : cnt ≤ 20) : Ctr Try.prog 17 [.one (.sl rk 0 0 cnt)] m (.tup [(false, [.sl m.length 0 0 cnt]), (false, [.sl (m.length + 1) 0 0 cnt])]) (m ++ [kR32 37 cnt (kyF ks), kR32 38 cnt (kyF ks)]) := by
 refine Ctr.enter Try.func17 rfl (by decide) (rs := [.tmp 2, .tmp 3]) (nt := 27) rfl rfl fun hwf Q hQ => ?_
 obtain ⟨kz, ez, hz⟩ := hz
 have lz := get_lt hz
 have hlt0 : ∀ k, ¬ m.length + k < m.length := fun k => by omega
 have hlt1 : ¬ m.length < m.length := by omega
 obtain ⟨F, hF⟩ : ∃ F : Nat → List CV, F = fun i => u8l (kyF ks i) := ⟨_, rfl⟩
 have fl : ∀ i, (F i).length = 32 := fun i => by rw [hF]; rfl
 have fv : ∀ i, (F i).all CV.isVal = true := fun i => by rw [hF]; exact u8l_vals _
 have fb : ∀ L i, (F i).all (CV.below L) = true := fun L i => by rw [hF]; exact u8l_below _ _
 have gl : ∀ n, (catC n F).length = n * 32 := catC_len fl
 have cb : ∀ L n, (catC n F).all (CV.below L) = true := fun L n => catC_all _ (fb L) n
 have ul : (u8l ks).length = cnt := by rw [u8l_len]; exact hcnt
 have fz : ∀ i, setL [CV.int .u8 0, CV.int .u8 0, CV.int .u8 0, CV.int .u8 0, CV.int .u8 0, CV.int .u8 0, CV.int .u8 0, CV.int .u8 0, CV.int .u8 0, CV.int .u8 0, CV.int .u8 0, CV.int .u8 0, CV.int .u8 0, CV.int .u8 0, CV.int .u8 0, CV.int .u8 0, CV.int .u8 0, CV.int .u8 0, CV.int .u8 0, CV.int .u8 0, CV.int .u8 0, CV.int .u8 0, CV.int .u8 0, CV.int .u8 0, CV.int .u8 0, CV.int .u8 0, CV.int .u8 0, CV.int .u8 0, CV.int .u8 0, CV.int .u8 0, CV.int .u8 0, CV.int .u8 0] 0 (F i) = F i := fun i => setL_full (by rw [fl]; rfl)
 refine AW.sr 3 fun K hK => ?_
 have pk_3 : _ ∧ _ ∧ _ ∧ _ ∧ _ ∧ _ := ⟨hz, lk_old hz, gl, fl, fv, fz⟩
 simp only [push_cast, simprocAttr, ul, u8l_len, pk_3]
 apply hK;clear hK K
 refine AW.seq_k fun K hK => ?_
 refine AW.sr 1 fun K hK => ?_
 simp only [push_cast, simprocAttr, ul, u8l_len, pk_3]
 apply hK;clear hK K
 refine AW.block ?_
 refine AW.nilTm 37 32 4 rfl ?_
 try simp only [push_cast, simprocAttr, ul, u8l_len, pk_3]
 refine AW.nilTm 38 32 5 rfl ?_
 try simp only [push_cast, simprocAttr, ul, u8l_len, pk_3]
 refine AW.loopK [8, 9] (fun i => i ≤ cnt) (fun i => [(4, .one (.sl m.length i 0 i)), (5, .one (.sl (m.length + 1) i 0 i)), (10, .one (.int .i64 (i : Int)))]) (fun i => [(m.length, ⟨.grow, 37, i, 32, catC i F⟩), (m.length + 1, ⟨.grow, 38, i, 32, catC i F⟩)]) (fun i => cnt - i) 0 (by omega) ?_ ?_ fun i hi2 => ?_
 · first | rfl | (simp only [KS, simprocAttr, catC, Int.natCast_zero] <;> repeat' (first | rfl | apply And.intro))
 · first | rfl | (simp only [setAll, push_cast, simprocAttr, ul, u8l_len, pk_3, catC, Int.natCast_zero] <;> rfl)
 try simp only [keepL, setAll, push_cast, simprocAttr, ul, u8l_len, pk_3]
 refine AW.sr 1 fun K hK => ?_
 simp only [push_cast, simprocAttr, ul, u8l_len, pk_3]
 apply hK;clear hK K
 refine AW.seq_k fun K hK => ?_
 refine AW.cond rfl (fun h11 => ?_) (fun h11 => ?_)
 ·have hlt : i < cnt := by have := of_decide_eq_true h11; omega
  obtain ⟨x, hx⟩ : ∃ q : Int, q = ks.getD i 0 := ⟨_, rfl⟩
  have hxg : (u8l ks)[i]? = some (.int .u8 x) := by rw [u8l, List.getElem?_map, List.getElem?_eq_getElem (by omega), hx, List.getD_eq_getElem?_getD, List.getElem?_eq_getElem (by omega)]; rfl
  have hxb : 0 ≤ x ∧ x ≤ 255 := by
    refine hu x ?_
    rw [hx, List.getD_eq_getElem?_getD, List.getElem?_eq_getElem (by omega)]
    exact List.getElem_mem _
  have eF : u8l (kyL x) = F i := by rw [hx, hF]; rfl
  have hap : catC i F ++ F i = catC (i + 1) F := rfl
  have c0 : (0 : Int) ≤ (i : Int) := by omega
  have c1 : (i : Int) < (cnt : Int) := by omega
  have ft : (F i).take 32 = F i := List.take_of_length_le (by rw [fl]; omega)
  have kc := fun X : AMem => key_c x X hxb.1 hxb.2
  rw [eF] at kc
  have q3 : i + 1 ≤ 140737488355328 := by omega
  have q1 : i ≤ 140737488355327 := by omega
  have q2 : (i + 1) * 32 ≤ 140737488355328 := by omega
  refine AW.skip ?_
  apply hK;clear hK K
  refine AW.seq_k fun K hK => ?_
  refine AW.block ?_
  refine AW.sr 2 fun K hK => ?_
  have pk_4 : _ ∧ _ ∧ _ ∧ _ ∧ _ ∧ _ ∧ _ ∧ _ := ⟨pk_3, hxg, c0, c1, ft, q1, q2, q3⟩
  simp only [push_cast, simprocAttr, ul, u8l_len, pk_4]
  refine CThen.by (kc _) ?_
  simp only [push_cast, simprocAttr, ul, u8l_len, pk_4]
  apply hK;clear hK K
  refine AW.rg ?_
  simp only [push_cast, simprocAttr, ul, u8l_len, pk_4]
  refine CThen.by (kc _) ?_
  simp only [push_cast, simprocAttr, ul, u8l_len, pk_4]
  refine InB_n ?_
  apply hK;clear hK K
  refine AW.rg ?_
  simp only [push_cast, simprocAttr, ul, u8l_len, pk_4]
  refine Thn_n ?_
  have hwi : IntKind.i64.wrap ((i:Int)+1) = (i:Int)+1 := wi (by omega)
  refine ⟨i + 1, by omega, by omega, ?_⟩
  try simp only [keepL, setAll, push_cast, simprocAttr, ul, u8l_len, pk_4, hwi, hap]
  exact Weak.to (extra := [_, _]) (by simp only [KS, simprocAttr, hwi, hap]) (by first | rfl | (simp only [List.append_assoc, List.cons_append, List.nil_append]; rfl)) (by first | rfl | (simp [AV.below, CV.below]; done) | (simp [AV.below, CV.below]; omega)) (by first | exact hwf | exact MWf.app (hwf.grow (by simp)) (MWf_cons (cb _ _) (MWf_cons (cb _ _) MWf_nil)))
 ·have hin : i = cnt := by have := of_decide_eq_false h11; omega
  subst hin
  refine AW.exit ?_
  refine Thn_e ?_
  clear hK K
  refine Thn_e ?_
  refine InB_here ?_
  apply hK;clear hK K
  refine AW.sr 1 fun K hK => ?_
  simp only [push_cast, simprocAttr, ul, u8l_len, pk_3]
  apply hK;clear hK K
  refine AW.ret ?_
  refine hQ _ _ _ ?_
  refine RetP.pick [(m.length, i), (m.length + 1, i)] (Or.inr rfl) ?_ ?_ ?_ hwf ?_
  · simp only [resA, resOne, resTv, AV.tv, push_cast, simprocAttr]
    simp [renV, renT, renL, renC, renIdx, hlt0, hlt1]
  · simp only [picks, push_cast, simprocAttr, kR32, ← hF]
  · simp [distinctFrom]
  · rw [kR32, kR32, ← hF]; exact MWf_cons (cb _ _) (MWf_cons (cb _ _) MWf_nil)
theorem index_t (r v n : Nat) (f : Nat → Int) (x : Int) (m : AMem) {nn : Nat} (hp : IntsAt m r v nn f) (hnn : n ≤ nn) (hn : n ≤ 9000000000000) (j : Nat) (hj : j < n) (hje : f j = x) (hjf : ∀ i, i < j → ¬ f i = x) : Ctr Try.prog 64 [.one (.sl r v 0 n), .one (.int .i64 x)] m (.one (.int .i64 (j : Int))) m := by
 refine Ctr.enter Try.func64 rfl (by decide) (rs := [.tmp 4]) (nt := 19) rfl rfl fun hwf Q hQ => ?_
 obtain ⟨k0, ez, hb⟩ := hp.hb
 have hr := get_lt hb
 refine AW.sr 1 fun K hK => ?_
 simp only [push_cast, simprocAttr, hb, lk_old hb]
 apply hK;clear hK K
 refine AW.seq_k fun K hK => ?_
 refine AW.sr 1 fun K hK => ?_
 simp only [push_cast, simprocAttr, hb, lk_old hb]
 apply hK;clear hK K
 refine AW.block ?_
 refine AW.loopK [0, 1, 7] (fun i => i ≤ j) (fun i => [(8, .one (.int .i64 (i : Int)))]) (fun i => []) (fun i => n - i) 0 (by omega) ?_ ?_ fun i hi2 => ?_
 · first | rfl | (simp only [KS, simprocAttr] <;> repeat' (first | rfl | apply And.intro))
 · first | rfl | (simp only [setAll, push_cast, simprocAttr, hb, lk_old hb] <;> rfl)
 try simp only [keepL, setAll, push_cast, simprocAttr, hb, lk_old hb]
 refine AW.sr 1 fun K hK => ?_
 simp only [push_cast, simprocAttr, hb, lk_old hb]
 apply hK;clear hK K
 refine AW.seq_k fun K hK => ?_
 refine AW.cond rfl (fun h9 => ?_) (fun h9 => ?_)
 ·have hlt : i < n := by have := of_decide_eq_true h9; omega
  have c1 : (0 : Int) ≤ (i : Int) := by omega
  have c2 : (i : Int) < (n : Int) := by omega
  have g := il_get (f := f) (Nat.lt_of_lt_of_le hlt hnn)
  refine AW.skip ?_
  apply hK;clear hK K
  refine AW.seq_k fun K hK => ?_
  refine AW.block ?_
  refine AW.sr 2 fun K hK => ?_
  have pk_1 : _ ∧ _ ∧ _ ∧ _ ∧ _ := ⟨hb, lk_old hb, c1, c2, g⟩
  simp only [push_cast, simprocAttr, pk_1]
  apply hK;clear hK K
  refine AW.cond rfl (fun h16 => ?_) (fun h16 => ?_)
  ·have hij : i = j := by
     have he : x = f i := by simpa using h16
     rcases Nat.lt_or_ge i j with h | h
     · exact absurd he.symm (hjf i h)
     · omega
   refine AW.sr 1 fun K hK => ?_
   simp only [push_cast, simprocAttr, pk_1]
   apply hK;clear hK K
   refine AW.ret ?_
   refine InB_r ?_
   refine Thn_r ?_
   refine Thn_r ?_
   refine InB_r ?_
   refine Thn_r ?_
   refine hQ _ _ _ ?_
   first | refine RetP.drop0 (Or.inr rfl) ?_ ?_ hwf | refine RetP.drop (Or.inr rfl) ?_ ?_ hwf
   · simp only [resA, resOne, resTv, AV.tv, push_cast, simprocAttr, pk_1, hij]
   · rfl
  ·have hne : ¬ x = f i := by simpa using h16
   have hij : i < j := by
     rcases Nat.lt_or_ge i j with h | h
     · exact h
     · exact absurd hje.symm (by rw [show j = i by omega]; exact hne)
   refine AW.skip ?_
   refine InB_n ?_
   apply hK;clear hK K
   refine AW.rg ?_
   simp only [push_cast, simprocAttr, pk_1]
   refine Thn_n ?_
   have hwi : IntKind.i64.wrap ((i:Int)+1) = (i:Int)+1 := by rw [IntKind.wrap_i64]; omega
   refine ⟨i + 1, by omega, by omega, ?_⟩
   try simp only [keepL, setAll, push_cast, simprocAttr, pk_1, hwi]
   exact Weak.same (by simp only [KS, simprocAttr, hwi]) (by first | rfl | simp only [KS, simprocAttr, hwi])
 ·exfalso
  have := of_decide_eq_false h9; omega
theorem index_f (r v n : Nat) (f : Nat → Int) (x : Int) (m : AMem) {nn : Nat} (hp : IntsAt m r v nn f) (hnn : n ≤ nn) (hn : n ≤ 9000000000000) (hx : inL n f x = false) : Ctr Try.prog 64 [.one (.sl r v 0 n), .one (.int .i64 x)] m (.one (.int .i64 (-1))) m := by
 refine Ctr.enter Try.func64 rfl (by decide) (rs := [.tmp 4]) (nt := 19) rfl rfl fun hwf Q hQ => ?_
 obtain ⟨k0, ez, hb⟩ := hp.hb
 have hr := get_lt hb
 refine AW.sr 1 fun K hK => ?_
 simp only [push_cast, simprocAttr, hb, lk_old hb]
 apply hK;clear hK K
 refine AW.seq_k fun K hK => ?_
 refine AW.sr 1 fun K hK => ?_
 simp only [push_cast, simprocAttr, hb, lk_old hb]
 apply hK;clear hK K
 refine AW.block ?_
 refine AW.loopK [0, 1, 7] (fun i => i ≤ n) (fun i => [(8, .one (.int .i64 (i : Int)))]) (fun i => []) (fun i => n - i) 0 (by omega) ?_ ?_ fun i hi2 => ?_
 · first | rfl | (simp only [KS, simprocAttr] <;> repeat' (first | rfl | apply And.intro))
 · first | rfl | (simp only [setAll, push_cast, simprocAttr, hb, lk_old hb] <;> rfl)
 try simp only [keepL, setAll, push_cast, simprocAttr, hb, lk_old hb]
 refine AW.sr 1 fun K hK => ?_
 simp only [push_cast, simprocAttr, hb, lk_old hb]
 apply hK;clear hK K
 refine AW.seq_k fun K hK => ?_
 refine AW.cond rfl (fun h9 => ?_) (fun h9 => ?_)
 ·have hlt : i < n := by have := of_decide_eq_true h9; omega
  have c1 : (0 : Int) ≤ (i : Int) := by omega
  have c2 : (i : Int) < (n : Int) := by omega
  have g := il_get (f := f) (Nat.lt_of_lt_of_le hlt hnn)
  obtain ⟨e1, e2⟩ := inL_no hx hlt
  refine AW.skip ?_
  apply hK;clear hK K
  refine AW.seq_k fun K hK => ?_
  refine AW.block ?_
  refine AW.sr 2 fun K hK => ?_
  have pk_2 : _ ∧ _ ∧ _ ∧ _ ∧ _ ∧ _ ∧ _ := ⟨hb, lk_old hb, c1, c2, g, e1, e2⟩
  simp only [push_cast, simprocAttr, pk_2]
  apply hK;clear hK K
  refine AW.cond_f rfl ?_
  refine AW.skip ?_
  refine InB_n ?_
  apply hK;clear hK K
  refine AW.rg ?_
  simp only [push_cast, simprocAttr, pk_2]
  refine Thn_n ?_
  have hwi : IntKind.i64.wrap ((i:Int)+1) = (i:Int)+1 := by rw [IntKind.wrap_i64]; omega
  refine ⟨i + 1, by omega, by omega, ?_⟩
  try simp only [keepL, setAll, push_cast, simprocAttr, pk_2, hwi]
  exact Weak.same (by simp only [KS, simprocAttr, hwi]) (by first | rfl | simp only [KS, simprocAttr, hwi])
 ·refine AW.exit ?_
  refine Thn_e ?_
  clear hK K
  refine Thn_e ?_
  refine InB_here ?_
  apply hK;clear hK K
  refine AW.sr 1 fun K hK => ?_
  simp only [push_cast, simprocAttr, hb, lk_old hb]
  apply hK;clear hK K
  refine AW.ret ?_
  refine hQ _ _ _ ?_
  first | refine RetP.drop0 (Or.inr rfl) ?_ ?_ hwf | refine RetP.drop (Or.inr rfl) ?_ ?_ hwf
  · simp only [resA, resOne, resTv, AV.tv, push_cast, simprocAttr, hb, lk_old hb]
  · rfl
theorem contains_t (r v n : Nat) (f : Nat → Int) (x : Int) (m : AMem) {nn : Nat} (hp : IntsAt m r v nn f) (hnn : n ≤ nn) (hn : n ≤ 9000000000000) (hx : inL n f x = true) (j : Nat) (hj : j < n) (hje : f j = x) (hjf : ∀ i, i < j → ¬ f i = x) : Ctr Try.prog 41 [.one (.sl r v 0 n), .one (.int .i64 x)] m (.one (.bool true)) m := by
 refine Ctr.enter Try.func41 rfl (by decide) (rs := [.tmp 4]) (nt := 9) rfl rfl fun hwf Q hQ => ?_
 have c1 : (0 : Int) ≤ (j : Int) := by omega
 refine AW.sr 2 fun K hK => ?_
 simp only [push_cast, simprocAttr, c1]
 refine CThen.by (index_t r v n f x _ hp hnn hn j hj hje hjf) ?_
 simp only [push_cast, simprocAttr, c1]
 apply hK;clear hK K
 refine AW.ret ?_
 refine hQ _ _ _ ?_
 first | refine RetP.drop0 (Or.inr rfl) ?_ ?_ hwf | refine RetP.drop (Or.inr rfl) ?_ ?_ hwf
 · simp only [resA, resOne, resTv, AV.tv, push_cast, simprocAttr, c1]
 · rfl
theorem contains_f (r v n : Nat) (f : Nat → Int) (x : Int) (m : AMem) {nn : Nat} (hp : IntsAt m r v nn f) (hnn : n ≤ nn) (hn : n ≤ 9000000000000) (hx : inL n f x = false) : Ctr Try.prog 41 [.one (.sl r v 0 n), .one (.int .i64 x)] m (.one (.bool false)) m := by
 refine Ctr.enter Try.func41 rfl (by decide) (rs := [.tmp 4]) (nt := 9) rfl rfl fun hwf Q hQ => ?_
 refine AW.sr 2 fun K hK => ?_
 simp only [push_cast, simprocAttr]
 refine CThen.by (index_f r v n f x _ hp hnn hn hx) ?_
 simp only [push_cast, simprocAttr]
 apply hK;clear hK K
 refine AW.ret ?_
 refine hQ _ _ _ ?_
 first | refine RetP.drop0 (Or.inr rfl) ?_ ?_ hwf | refine RetP.drop (Or.inr rfl) ?_ ?_ hwf
 · simp only [resA, resOne, resTv, AV.tv, push_cast, simprocAttr]
 · rfl
theorem contains_c (r v n : Nat) (f : Nat → Int) (x : Int) (m : AMem) {nn : Nat} (hp : IntsAt m r v nn f) (hnn : n ≤ nn) (hn : n ≤ 9000000000000) : Ctr Try.prog 41 [.one (.sl r v 0 n), .one (.int .i64 x)] m (.one (.bool (inL n f x))) m := by
 cases hx : inL n f x
 ·exact contains_f r v n f x m hp hnn hn hx
 ·obtain ⟨j, hj, hje, hjf⟩ := inL_first hx
  exact contains_t r v n f x m hp hnn hn hx j hj hje hjf
def goF (f : Nat → SL) (G : List Nat) : Nat → SL := fun i => if i ∈ G then zS else f i
def dpF (V : VS) (G : List Nat) (D : DS) : VS × DS × Int :=
 if G = [] then (V, D, 0)
 else if D.fuse = 0 then ({ V with dead := 5 }, spD D, 5)
 else ({ V with f := goF V.f G }, syD D, 0)
def dpS (V : VS) (ks : Nat → List Int) : Nat → Nat → List Nat → DS → VS × DS × Int
 | 0, _, G, D => dpF V G D
 | r + 1, i, G, D =>
  if fnd (fdB (ks i)) V.f V.k < 0 ∨ (fnd (fdB (ks i)) V.f V.k).toNat ∈ G then dpS V ks r (i + 1) G D
  else if D.fuse = 0 then ({ V with dead := 5 }, spD D, 5)
  else dpS V ks r (i + 1) (G ++ [(fnd (fdB (ks i)) V.f V.k).toNat]) (wrD D (fnd (fdB (ks i)) V.f V.k) zB)
theorem dpS_step (V : VS) (ks : Nat → List Int) {n i : Nat} (h : i < n) (G : List Nat) (D : DS) : dpS V ks (n - i) i G D = 
  if fnd (fdB (ks i)) V.f V.k < 0 ∨ (fnd (fdB (ks i)) V.f V.k).toNat ∈ G then dpS V ks (n - (i + 1)) (i + 1) G D
  else if D.fuse = 0 then ({ V with dead := 5 }, spD D, 5)
  else dpS V ks (n - (i + 1)) (i + 1) (G ++ [(fnd (fdB (ks i)) V.f V.k).toNat]) (wrD D (fnd (fdB (ks i)) V.f V.k) zB) := by
 rw [show n - i = (n - (i + 1)) + 1 by omega]; rfl
def gI (G : List Nat) (i : Nat) : Int := ((G.getD i 0 : Nat) : Int)
theorem gI_snoc (G : List Nat) (a : Nat) : il G.length (gI G) ++ [CV.int .i64 (a : Int)] = il (G ++ [a]).length (gI (G ++ [a])) := by
 rw [List.length_append, List.length_singleton, il]
 have e : il G.length (gI (G ++ [a])) = il G.length (gI G) := il_congr fun i hi => by
  unfold gI
  rw [List.getD_eq_getElem?_getD, List.getD_eq_getElem?_getD, List.getElem?_append_left hi]
 rw [e]
 congr 3
 unfold gI
 rw [List.getD_eq_getElem?_getD, List.getElem?_append_right (Nat.le_refl _), Nat.sub_self]; rfl
theorem inL_gI (G : List Nat) (a : Nat) : inL G.length (gI G) (a : Int) = decide (a ∈ G) := by
 rw [Bool.eq_iff_iff, decide_eq_true_iff, inL_iff]
 constructor
 ·rintro ⟨i, hi, e⟩
  unfold gI at e
  rw [List.getD_eq_getElem?_getD, List.getElem?_eq_getElem hi] at e
  have e2 : G[i] = a := Int.ofNat.inj (by simpa using e)
  exact e2 ▸ List.getElem_mem hi
 ·intro h
  obtain ⟨i, hi, e⟩ := List.getElem_of_mem h
  refine ⟨i, hi, ?_⟩
  unfold gI
  rw [List.getD_eq_getElem?_getD, List.getElem?_eq_getElem hi, Option.getD_some, e]
theorem goF_ok {f : Nat → SL} (h : ∀ i, OkS (f i)) (G : List Nat) : ∀ i, OkS (goF f G i) := fun i => by
 unfold goF; split
 ·exact zS_ok
 ·exact h i
theorem goF_take (f : Nat → SL) (G : List Nat) {j : Nat} (hj : j < G.length) : upF (goF f (G.take j)) G[j] zS = goF f (G.take (j + 1)) := funext fun i => by
 unfold upF goF
 rw [List.take_succ_eq_append_getElem hj]
 by_cases h : i = G[j]
 ·rw [if_pos h, if_pos (List.mem_append_right _ (by rw [h]; exact List.mem_singleton_self _))]
 ·rw [if_neg h]
  by_cases h2 : i ∈ G.take j
  ·rw [if_pos h2, if_pos (List.mem_append_left _ h2)]
  ·rw [if_neg h2, if_neg (fun hc => (List.mem_append.1 hc).elim h2 fun h3 => h (List.mem_singleton.1 h3))]
theorem dp3 (z : Int) (G : List Nat) : z < 0 ∨ (∃ a : Nat, z = (a : Int) ∧ a ∈ G) ∨ ∃ a : Nat, z = (a : Int) ∧ a ∉ G := by
 rcases Int.lt_or_le z 0 with h | h
 ·exact .inl h
 ·by_cases hm : z.toNat ∈ G
  ·exact .inr (.inl ⟨z.toNat, by omega, hm⟩)
  ·exact .inr (.inr ⟨z.toNat, by omega, hm⟩)
structure DpI (V : VS) (kf : Nat → List Int) (n cnt : Nat) (D : DS) (q : Nat × List Nat × DS) : Prop where
 i0 : q.1 ≤ cnt
 d : q.2.2.down = false
 w : WfD n q.2.2
 g : ∀ a, a ∈ q.2.1 → a < V.k
 l : q.2.1.length ≤ q.1
 e : dpS V kf (cnt - q.1) q.1 q.2.1 q.2.2 = dpS V kf cnt 0 [] D
theorem drop_c (rv rl rd rs rm n : Nat) (V : VS) (D : DS) (m : AMem) (hB : HasB m rv rl rd rs rm n V D) (hf : ∀ i, OkS (V.f i)) (hk : V.k ≤ 512) (h0 : V.dead = 0) (hwd : WfD n D) (hdn : D.down = false) (hn : n ≤ 8192) (hkn : V.k ≤ n) (rq cnt : Nat) (kf : Nat → List Int) (hq : m[rq]? = some (kR32 38 cnt kf)) (hkf : ∀ i, (kf i).length = 32) (h20 : cnt ≤ 20) : Ctr Try.prog 18 [.one (.ptr rv 0 0), .one (.sl rq 0 0 cnt)] m (.one (.int .i64 (dpS V kf cnt 0 [] D).2.2)) (setB m rv rl rd rs rm n (dpS V kf cnt 0 [] D).1 (dpS V kf cnt 0 [] D).2.1) := by
 refine Ctr.enter Try.func18 rfl (by decide) (rs := [.tmp 4]) (nt := 79) rfl rfl fun hwf Q hQ => ?_
 have h := hB.v
 have hd := hB.d
 have hv := h.v
 have hl := h.l
 have lv := get_lt hv
 have ll := get_lt hl
 have lqq := get_lt hq
 have gl : ∀ f, (∀ i, OkS (f i)) → (cC V.k f).length = V.k * 67 := fun f hf => cC_len hf V.k
 have hup : ∀ X : AMem, Ctr Try.prog 31 [.one (.ptr rv 0 0)] (m ++ X) (.one (.int .i64 0)) (m ++ X) := fun X => by
   have := vup_c rv rl rd V (m ++ X) (lk_old hv X)
   rwa [h0] at this
 have hup0 : Ctr Try.prog 31 [.one (.ptr rv 0 0)] m (.one (.int .i64 0)) m := by have := hup []; rwa [List.append_nil] at this
 have hrd := hd.d
 have ld := get_lt hd.d
 have lr := get_lt hd.r
 have lm := get_lt hd.m
 have sdl := fun D' => setD_len m rd rs rm n D'
 have sdh := fun D' => hd.set D'
 have sda : ∀ D1 D2 X, setD (setD m rd rs rm n D1 ++ X) rd rs rm n D2 = setD m rd rs rm n D2 ++ X := fun D1 D2 X => by rw [setD_app (hd.set D1), setD_twice hd]
 have sd0 : ∀ D2 X, setD (m ++ X) rd rs rm n D2 = setD m rd rs rm n D2 ++ X := fun D2 X => setD_app hd D2 X
 have sdt : ∀ D1 D2, setD (setD m rd rs rm n D1) rd rs rm n D2 = setD m rd rs rm n D2 := fun D1 D2 => setD_twice hd D1 D2
 have sdf : ∀ D', ((m.set rd (drB rs rm n D')).set rs (rowD n D')).set rm (mapD D') = setD m rd rs rm n D' := fun _ => rfl
 have sdd : ∀ D', (setD m rd rs rm n D')[rd]? = some (drB rs rm n D') := fun D' => (hd.set D').d
 have gS := fun (D' : DS) (L : AMem) => mk_lk0 (m := m) (l := setD m rd rs rm n D') (setD_len m rd rs rm n D') L
 have kS := fun (D' : DS) (L : AMem) (k : Nat) => mk_lk (m := m) (l := setD m rd rs rm n D') (setD_len m rd rs rm n D') L k
 have tS := fun (D' : DS) (L : AMem) (k : Nat) (b : Blk) => mk_set (m := m) (l := setD m rd rs rm n D') (setD_len m rd rs rm n D') L k b
 have t0S := fun (D' : DS) (L : AMem) (b : Blk) => mk_set0 (m := m) (l := setD m rd rs rm n D') (setD_len m rd rs rm n D') L b
 have hwfD := fun D' => setD_wf (rd := rd) (n := n) hwf lr lm D'
 have sdfX : ∀ (X : AMem) D', (((m ++ X).set rd (drB rs rm n D')).set rs (rowD n D')).set rm (mapD D') = setD m rd rs rm n D' ++ X := fun X D' => by rw [← setD_app hd]; rfl
 have hset0 : setD m rd rs rm n D = m := hd.same
 have hset0X : ∀ b : Blk, ((((m ++ [b]).set rd (drB rs rm n D)).set rs (rowD n D)).set rm (mapD D)).set m.length b = m ++ [b] := fun b => by rw [sdfX, hset0, List.set_append_right _ _ (Nat.le_refl _), Nat.sub_self]; rfl
 obtain ⟨F, hF⟩ : ∃ F : Nat → List CV, F = fun i => u8l (kf i) := ⟨_, rfl⟩
 unfold kR32 at hq
 rw [← hF] at hq
 have fl : ∀ i, (F i).length = 32 := fun i => by rw [hF]; show (u8l (kf i)).length = 32; rw [u8l_len]; exact hkf i
 have fv : ∀ i, (F i).all CV.isVal = true := fun i => by rw [hF]; exact u8l_vals _
 have fl2 : ∀ n, (catC n F).length = n * 32 := catC_len fl
 have ft : ∀ i, (F i).take 32 = F i := fun i => List.take_of_length_le (by rw [fl]; omega)
 have fz : ∀ i, setL [CV.int .u8 0, CV.int .u8 0, CV.int .u8 0, CV.int .u8 0, CV.int .u8 0, CV.int .u8 0, CV.int .u8 0, CV.int .u8 0, CV.int .u8 0, CV.int .u8 0, CV.int .u8 0, CV.int .u8 0, CV.int .u8 0, CV.int .u8 0, CV.int .u8 0, CV.int .u8 0, CV.int .u8 0, CV.int .u8 0, CV.int .u8 0, CV.int .u8 0, CV.int .u8 0, CV.int .u8 0, CV.int .u8 0, CV.int .u8 0, CV.int .u8 0, CV.int .u8 0, CV.int .u8 0, CV.int .u8 0, CV.int .u8 0, CV.int .u8 0, CV.int .u8 0, CV.int .u8 0] 0 (F i) = F i := fun i => setL_full (by rw [fl]; rfl)
 have ofQ := fun D' => setD_other (rs := rs) (rm := rm) (rd := rd) (n := n) (D := D') hq (by rintro rfl; rw [hd.d] at hq; simp [drB] at hq) (by rintro rfl; rw [hd.r] at hq; simp [rowD] at hq) (by rintro rfl; rw [hd.m] at hq; simp [mapD] at hq)
 have ovv := fun D' => (hB.setD D').v.v
 have ovl := fun D' => (hB.setD D').v.l
 have fB : ∀ D' f, (setD m rd rs rm n D').set rl ⟨.grow, 82, 0, 67, cC V.k f⟩ = setB m rv rl rd rs rm n { V with f := f } D' := fun D' f => setB_f hB D' f
 have dB : ∀ D' (e : Int), (setD m rd rs rm n D').set rv ⟨.fix, 77, 0, 0, [.ptr rd 0 0, .sl rl 0 0 V.k, .int .i64 V.data, .int .i64 e]⟩ = setB m rv rl rd rs rm n { V with dead := e } D' := fun D' e => setB_dead hB D' e
 have kQ := fun (D' : DS) (L : AMem) => (mk_old (m := m) (l := setD m rd rs rm n D') (r := rq) (sdl D') lqq L).trans (ofQ D')
 have sV := fun (D' : DS) (L : AMem) (b : Blk) => mk_olds (m := m) (l := setD m rd rs rm n D') (r := rv) (sdl D') lv L b
 have sL := fun (D' : DS) (L : AMem) (b : Blk) => mk_olds (m := m) (l := setD m rd rs rm n D') (r := rl) (sdl D') ll L b
 have kV := fun (D' : DS) (L : AMem) => mk_old (m := m) (l := setD m rd rs rm n D') (r := rv) (sdl D') lv L
 have kL := fun (D' : DS) (L : AMem) => mk_old (m := m) (l := setD m rd rs rm n D') (r := rl) (sdl D') ll L
 have wfX : ∀ D' (G : List Nat), MWf (setD m rd rs rm n D' ++ [(⟨.grow, 3, G.length, 1, il G.length (gI G)⟩ : Blk)]).length (setD m rd rs rm n D' ++ [(⟨.grow, 3, G.length, 1, il G.length (gI G)⟩ : Blk)]) := fun D' G => MWf.app ((hwfD D').grow (by rw [List.length_append, sdl]; exact Nat.le_add_right _ _)) (MWf_one (il_below _ _ _))
 have lB := fun (f : Nat → SL) D' => setB_len m rv rl rd rs rm n { V with f := f } D'
 have gB0 := fun (f : Nat → SL) (D' : DS) (L : AMem) => mk_lk0 (m := m) (l := setB m rv rl rd rs rm n { V with f := f } D') (lB f D') L
 have bV := fun (f : Nat → SL) D' => (hB.set { V with f := f } D').v.v
 have bL := fun (f : Nat → SL) D' => (hB.set { V with f := f } D').v.l
 have kBV := fun (f : Nat → SL) (D' : DS) (L : AMem) => (mk_old (m := m) (l := setB m rv rl rd rs rm n { V with f := f } D') (r := rv) (lB f D') lv L).trans (bV f D')
 have kBL := fun (f : Nat → SL) (D' : DS) (L : AMem) => (mk_old (m := m) (l := setB m rv rl rd rs rm n { V with f := f } D') (r := rl) (lB f D') ll L).trans (bL f D')
 have sBL : ∀ (f g : Nat → SL) (D' : DS) (L : AMem), (setB m rv rl rd rs rm n { V with f := f } D' ++ L).set rl ⟨.grow, 82, 0, 67, cC V.k g⟩ = setB m rv rl rd rs rm n { V with f := g } D' ++ L := fun f g D' L => by
   rw [mk_olds (m := m) (r := rl) (lB f D') ll, ← fB D' f, List.set_set, fB D' g]
 have hset2 : ∀ D' X, (setD m rd rs rm n D' ++ X).set rl (rS 0 V.k (goF V.f [])) = setD m rd rs rm n D' ++ X := fun D' X => by
   have e : goF V.f [] = V.f := funext fun i => if_neg (List.not_mem_nil)
   rw [e]; exact set_self (lk_old (ovl D') X)
 have zsl : [CV.int .i64 0, CV.int .u8 0, CV.int .u8 0, CV.int .u8 0, CV.int .u8 0, CV.int .u8 0, CV.int .u8 0, CV.int .u8 0, CV.int .u8 0, CV.int .u8 0, CV.int .u8 0, CV.int .u8 0, CV.int .u8 0, CV.int .u8 0, CV.int .u8 0, CV.int .u8 0, CV.int .u8 0, CV.int .u8 0, CV.int .u8 0, CV.int .u8 0, CV.int .u8 0, CV.int .u8 0, CV.int .u8 0, CV.int .u8 0, CV.int .u8 0, CV.int .u8 0, CV.int .u8 0, CV.int .u8 0, CV.int .u8 0, CV.int .u8 0, CV.int .u8 0, CV.int .u8 0, CV.int .u8 0, CV.int .u8 0, CV.int .u8 0, CV.int .u8 0, CV.int .u8 0, CV.int .u8 0, CV.int .u8 0, CV.int .u8 0, CV.int .u8 0, CV.int .u8 0, CV.int .u8 0, CV.int .u8 0, CV.int .u8 0, CV.int .u8 0, CV.int .u8 0, CV.int .u8 0, CV.int .u8 0, CV.int .u8 0, CV.int .u8 0, CV.int .u8 0, CV.int .u8 0, CV.int .u8 0, CV.int .u8 0, CV.int .u8 0, CV.int .u8 0, CV.int .u8 0, CV.int .u8 0, CV.int .u8 0, CV.int .u8 0, CV.int .u8 0, CV.int .u8 0, CV.int .u8 0, CV.int .u8 0, CV.int .i64 0, CV.int .i64 0] = slC zS := rfl
 have zbl : [CV.int .u8 0, CV.int .u8 0, CV.int .u8 0, CV.int .u8 0, CV.int .u8 0, CV.int .u8 0, CV.int .u8 0, CV.int .u8 0, CV.int .u8 0, CV.int .u8 0, CV.int .u8 0, CV.int .u8 0, CV.int .u8 0, CV.int .u8 0, CV.int .u8 0, CV.int .u8 0, CV.int .u8 0, CV.int .u8 0, CV.int .u8 0, CV.int .u8 0, CV.int .u8 0, CV.int .u8 0, CV.int .u8 0, CV.int .u8 0, CV.int .u8 0, CV.int .u8 0, CV.int .u8 0, CV.int .u8 0, CV.int .u8 0, CV.int .u8 0, CV.int .u8 0, CV.int .u8 0, CV.int .u8 0, CV.int .u8 0, CV.int .u8 0, CV.int .u8 0, CV.int .u8 0, CV.int .u8 0, CV.int .u8 0, CV.int .u8 0, CV.int .u8 0, CV.int .u8 0, CV.int .u8 0, CV.int .u8 0, CV.int .u8 0, CV.int .u8 0, CV.int .u8 0, CV.int .u8 0, CV.int .u8 0, CV.int .u8 0, CV.int .u8 0, CV.int .u8 0, CV.int .u8 0, CV.int .u8 0, CV.int .u8 0, CV.int .u8 0, CV.int .u8 0, CV.int .u8 0, CV.int .u8 0, CV.int .u8 0, CV.int .u8 0, CV.int .u8 0, CV.int .u8 0, CV.int .u8 0, CV.int .u8 0, CV.int .u8 0, CV.int .u8 0, CV.int .u8 0, CV.int .u8 0, CV.int .u8 0, CV.int .u8 0, CV.int .u8 0, CV.int .u8 0, CV.int .u8 0, CV.int .u8 0, CV.int .u8 0, CV.int .u8 0, CV.int .u8 0, CV.int .u8 0, CV.int .u8 0, CV.int .u8 0, CV.int .u8 0, CV.int .u8 0, CV.int .u8 0, CV.int .u8 0, CV.int .u8 0, CV.int .u8 0, CV.int .u8 0, CV.int .u8 0, CV.int .u8 0, CV.int .u8 0, CV.int .u8 0, CV.int .u8 0, CV.int .u8 0, CV.int .u8 0, CV.int .u8 0, CV.int .u8 0, CV.int .u8 0, CV.int .u8 0, CV.int .u8 0, CV.int .u8 0, CV.int .u8 0, CV.int .u8 0, CV.int .u8 0, CV.int .u8 0, CV.int .u8 0, CV.int .u8 0, CV.int .u8 0, CV.int .u8 0, CV.int .u8 0, CV.int .u8 0, CV.int .u8 0, CV.int .u8 0, CV.int .u8 0, CV.int .u8 0, CV.int .u8 0, CV.int .u8 0, CV.int .u8 0, CV.int .u8 0, CV.int .u8 0, CV.int .u8 0, CV.int .u8 0, CV.int .u8 0, CV.int .u8 0, CV.int .u8 0, CV.int .u8 0, CV.int .u8 0, CV.int .u8 0] = u8l zB := rfl
 refine AW.sr 1 fun K hK => ?_
 have pk_1 : _ ∧ _ ∧ _ ∧ _ ∧ _ ∧ _ ∧ _ ∧ _ ∧ _ ∧ _ ∧ _ ∧ _ ∧ _ ∧ _ ∧ _ ∧ _ ∧ _ ∧ _ ∧ _ ∧ _ ∧ _ ∧ _ ∧ _ ∧ _ ∧ _ ∧ _ ∧ _ ∧ _ ∧ _ ∧ _ ∧ _ ∧ _ ∧ _ ∧ _ ∧ _ ∧ _ ∧ _ ∧ _ ∧ _ ∧ _ := ⟨sdl, sda, sd0, sdt, sdf, gS, kS, tS, t0S, sdfX, hv, hl, hq, lk_old hv, lk_old hl, lk_old hq, fl, fl2, fv, ft, fz, zsl, zbl, ovv, ovl, ofQ, kQ, sV, sL, kV, kL, fB, dB, lB, gB0, bV, bL, kBV, kBL, sBL⟩
 simp only [push_cast, simprocAttr, vtB, rS, pk_1]
 apply hK;clear hK K
 refine AW.seq_k fun K hK => ?_
 refine AW.sr 2 fun K hK => ?_
 simp only [push_cast, simprocAttr, vtB, rS, pk_1]
 refine CThen.by (hup0) ?_
 simp only [push_cast, simprocAttr, vtB, rS, pk_1]
 apply hK;clear hK K
 refine AW.cond_f rfl ?_
 refine AW.skip ?_
 apply hK;clear hK K
 refine AW.sr 1 fun K hK => ?_
 simp only [push_cast, simprocAttr, vtB, rS, pk_1]
 apply hK;clear hK K
 refine AW.seq_k fun K hK => ?_
 refine AW.sr 1 fun K hK => ?_
 simp only [push_cast, simprocAttr, vtB, rS, pk_1]
 apply hK;clear hK K
 refine AW.block ?_
 refine AW.nilTm 3 1 6 rfl ?_
 try simp only [push_cast, simprocAttr, vtB, rS, pk_1]
 refine AW.loopK [0, 19, 20] (fun (q : Nat × List Nat × DS) => DpI V kf n cnt D q) (fun (q : Nat × List Nat × DS) => [(6, .one (.sl m.length q.2.1.length 0 q.2.1.length)), (21, .one (.int .i64 (q.1 : Int)))]) (fun (q : Nat × List Nat × DS) => [(rd, drB rs rm n q.2.2), (rs, rowD n q.2.2), (rm, mapD q.2.2), (m.length, ⟨.grow, 3, q.2.1.length, 1, il q.2.1.length (gI q.2.1)⟩)]) (fun (q : Nat × List Nat × DS) => cnt - q.1) (0, [], D) ⟨Nat.zero_le _, hdn, hwd, (fun _ h => by cases h), Nat.le_refl _, rfl⟩ ?_ ?_ fun (q : Nat × List Nat × DS) hi3 => ?_
 · first | rfl | (simp only [KS, simprocAttr, List.length_nil, il, Int.natCast_zero] <;> repeat' (first | rfl | apply And.intro))
 · exact hset0X _
 obtain ⟨i, G, D2⟩ := q
 obtain ⟨j1, j2, j3, jg, jl, j4⟩ := hi3
 simp only at j1 j2 j3 jg jl j4
 try simp only [keepL, setAll, push_cast, simprocAttr, vtB, rS, pk_1]
 refine AW.sr 1 fun K hK => ?_
 simp only [push_cast, simprocAttr, vtB, rS, pk_1]
 apply hK;clear hK K
 refine AW.seq_k fun K hK => ?_
 refine AW.cond rfl (fun h22 => ?_) (fun h22 => ?_)
 ·have hlt : i < cnt := by have := of_decide_eq_true h22; omega
  have c0 : (0 : Int) ≤ (i : Int) := by omega
  have c1 : (i : Int) < (cnt : Int) := by omega
  have c2 : i * 32 + 32 ≤ cnt * 32 := by omega
  have lx := catC_at (n := cnt) fl hlt
  have hst := dpS_step V kf hlt G D2
  have hFi : u8l (kf i) = F i := by rw [hF]
  have fc := fun X : AMem => find_c rv rl rd V _ ((hB.setD D2).v.mono X) hf hk (kf i) (hkf i)
  rw [hFi] at fc
  refine AW.skip ?_
  apply hK;clear hK K
  refine AW.seq_k fun K hK => ?_
  refine AW.block ?_
  refine AW.sr 2 fun K hK => ?_
  have pk_2 : _ ∧ _ ∧ _ ∧ _ ∧ _ := ⟨pk_1, c0, c1, c2, lx⟩
  simp only [push_cast, simprocAttr, vtB, rS, pk_2]
  refine CThen.by (fc _) ?_
  simp only [push_cast, simprocAttr, vtB, rS, pk_2]
  apply hK;clear hK K
  refine AW.seq_k fun K hK => ?_
  refine AW.seq_k fun K hK => ?_
  rcases dp3 (fnd (fdB (kf i)) V.f V.k) G with h1 | ⟨a, h1, h2⟩ | ⟨a, h1, h2⟩
  ·rw [if_pos (.inl h1)] at hst
   obtain ⟨nx, hnx, hnI, hnmu⟩ : ∃ nx : Nat × List Nat × DS, nx = (i + 1, G, D2) ∧ DpI V kf n cnt D nx ∧ cnt - nx.1 < cnt - i := ⟨_, rfl, ⟨by show i + 1 ≤ cnt; omega, j2, j3, jg, by show G.length ≤ i + 1; omega, by rw [← j4, hst]⟩, by show cnt - (i + 1) < cnt - i; omega⟩
   refine AW.rg ?_
   simp only [push_cast, simprocAttr, vtB, rS, pk_2, h1]
   apply hK;clear hK K
   refine AW.cond_t rfl ?_
   refine AW.exit ?_
   refine Thn_e ?_
   clear hK K
   refine InB_here ?_
   apply hK;clear hK K
   refine AW.rg ?_
   simp only [push_cast, simprocAttr, vtB, rS, pk_2, h1]
   refine Thn_n ?_
   have hwi : IntKind.i64.wrap ((i:Int)+1) = (i:Int)+1 := wi (by omega)
   refine ⟨nx, hnI, hnmu, ?_⟩
   try simp only [keepL, setAll, push_cast, simprocAttr, vtB, rS, pk_2, h1, hnx, hwi]
   first
    | exact Weak.to (extra := [_]) (by simp only [KS, simprocAttr, hnx, hwi]) (by first | rfl | (simp only [List.append_assoc, List.cons_append, List.nil_append]; rfl)) (by first | rfl | (simp [AV.below, CV.below, sdl]; done) | (simp [AV.below, CV.below, sdl]; omega)) (by first | exact hwf | exact wfX _ _ | (have hw9 := wfX (wrD D2 (a : Int) zB) (G ++ [a]); rw [gr] at hw9; exact hw9))
    | exact Weak.to (extra := [_, _]) (by simp only [KS, simprocAttr, hnx, hwi]) (by first | rfl | (simp only [List.append_assoc, List.cons_append, List.nil_append]; rfl)) (by first | rfl | (simp [AV.below, CV.below, sdl]; done) | (simp [AV.below, CV.below, sdl]; omega)) (by first | exact hwf | exact wfX _ _ | (have hw9 := wfX (wrD D2 (a : Int) zB) (G ++ [a]); rw [gr] at hw9; exact hw9))
  ·rw [h1, if_pos (.inr h2)] at hst
   have ha0 : ¬ (a : Int) < 0 := by omega
   have hdi := decide_eq_true h2
   have gr : ∀ a, (G ++ [a]).length = G.length + 1 := fun a => by rw [List.length_append, List.length_singleton]
   have ill := il_len G.length (gI G)
   have q1 : G.length ≤ 140737488355327 := by omega
   have q2 : G.length + 1 ≤ 140737488355328 := by omega
   have q3 : (G.length + 1) * 8 ≤ 140737488355328 := by omega
   have inl := fun (X : AMem) (a : Nat) => contains_c m.length G.length G.length (gI G) (a : Int) (setD m rd rs rm n D2 ++ (⟨.grow, 3, G.length, 1, il G.length (gI G)⟩ :: X)) ⟨⟨_, _, gS _ _⟩⟩ (Nat.le_refl _) (by omega)
   simp only [inL_gI] at inl
   obtain ⟨nx, hnx, hnI, hnmu⟩ : ∃ nx : Nat × List Nat × DS, nx = (i + 1, G, D2) ∧ DpI V kf n cnt D nx ∧ cnt - nx.1 < cnt - i := ⟨_, rfl, ⟨by show i + 1 ≤ cnt; omega, j2, j3, jg, by show G.length ≤ i + 1; omega, by rw [← j4, hst]⟩, by show cnt - (i + 1) < cnt - i; omega⟩
   refine AW.rg ?_
   simp only [push_cast, simprocAttr, vtB, rS, pk_2, h1, ha0, hdi]
   refine CThen.by (inl _ a) ?_
   simp only [push_cast, simprocAttr, vtB, rS, pk_2, h1, ha0, hdi]
   apply hK;clear hK K
   refine AW.cond_t rfl ?_
   refine AW.exit ?_
   refine Thn_e ?_
   clear hK K
   refine InB_here ?_
   apply hK;clear hK K
   refine AW.rg ?_
   simp only [push_cast, simprocAttr, vtB, rS, pk_2, h1, ha0, hdi]
   refine Thn_n ?_
   have hwi : IntKind.i64.wrap ((i:Int)+1) = (i:Int)+1 := wi (by omega)
   refine ⟨nx, hnI, hnmu, ?_⟩
   try simp only [keepL, setAll, push_cast, simprocAttr, vtB, rS, pk_2, h1, ha0, hdi, hnx, hwi]
   first
    | exact Weak.to (extra := [_]) (by simp only [KS, simprocAttr, hnx, hwi]) (by first | rfl | (simp only [List.append_assoc, List.cons_append, List.nil_append]; rfl)) (by first | rfl | (simp [AV.below, CV.below, sdl]; done) | (simp [AV.below, CV.below, sdl]; omega)) (by first | exact hwf | exact wfX _ _ | (have hw9 := wfX (wrD D2 (a : Int) zB) (G ++ [a]); rw [gr] at hw9; exact hw9))
    | exact Weak.to (extra := [_, _]) (by simp only [KS, simprocAttr, hnx, hwi]) (by first | rfl | (simp only [List.append_assoc, List.cons_append, List.nil_append]; rfl)) (by first | rfl | (simp [AV.below, CV.below, sdl]; done) | (simp [AV.below, CV.below, sdl]; omega)) (by first | exact hwf | exact wfX _ _ | (have hw9 := wfX (wrD D2 (a : Int) zB) (G ++ [a]); rw [gr] at hw9; exact hw9))
  ·have hak : a < V.k := by
     obtain ⟨i, h3, h4, _⟩ := fnd_pos (p := fdB (kf i)) (f := V.f) (k := V.k) (by omega)
     omega
   rw [h1, if_neg (fun hc => hc.elim (fun h => absurd h (by omega)) h2)] at hst
   have ha0 : ¬ (a : Int) < 0 := by omega
   have hdi := decide_eq_false h2
   have gr : ∀ a, (G ++ [a]).length = G.length + 1 := fun a => by rw [List.length_append, List.length_singleton]
   have ill := il_len G.length (gI G)
   have q1 : G.length ≤ 140737488355327 := by omega
   have q2 : G.length + 1 ≤ 140737488355328 := by omega
   have q3 : (G.length + 1) * 8 ≤ 140737488355328 := by omega
   have inl := fun (X : AMem) (a : Nat) => contains_c m.length G.length G.length (gI G) (a : Int) (setD m rd rs rm n D2 ++ (⟨.grow, 3, G.length, 1, il G.length (gI G)⟩ :: X)) ⟨⟨_, _, gS _ _⟩⟩ (Nat.le_refl _) (by omega)
   simp only [inL_gI] at inl
   have gsn := gI_snoc G a
   refine AW.rg ?_
   have pk_3 : _ ∧ _ ∧ _ ∧ _ ∧ _ ∧ _ ∧ _ ∧ _ ∧ _ := ⟨pk_2, h1, ha0, hdi, q1, q2, q3, ill, gsn⟩
   simp only [push_cast, simprocAttr, vtB, rS, pk_3]
   refine CThen.by (inl _ a) ?_
   simp only [push_cast, simprocAttr, vtB, rS, pk_3]
   apply hK;clear hK K
   refine AW.cond_f rfl ?_
   refine AW.skip ?_
   apply hK;clear hK K
   refine AW.seq_k fun K hK => ?_
   refine AW.sr 2 fun K hK => ?_
   simp only [push_cast, simprocAttr, vtB, rS, pk_3]
   refine CThen.by (wr_any rd rs rm n a D2 zB _ rfl ((sdh D2).mono _) j2 (by omega)) ?_
   simp only [push_cast, simprocAttr, vtB, rS, pk_3]
   apply hK;clear hK K
   refine AW.cond rfl (fun h43 => ?_) (fun h43 => ?_)
   ·have hz : D2.fuse = 0 := Classical.byContradiction fun hc => by
      unfold wrS at h43; rw [if_neg hc] at h43; simp at h43
    have e1 : wrS D2 a zB = (spD D2, 5) := if_pos hz
    have hfin : dpS V kf cnt 0 [] D = ({ V with dead := 5 }, spD D2, 5) := by rw [← j4, hst, if_pos hz]
    refine AW.sr 1 fun K hK => ?_
    simp only [push_cast, simprocAttr, vtB, rS, pk_3, e1, hfin]
    refine CThen.by (vfail_c rv rl rd V 5 _ (lk_old (ovv _) _) rfl) ?_
    simp only [push_cast, simprocAttr, vtB, rS, pk_3, e1, hfin]
    apply hK;clear hK K
    refine AW.ret ?_
    refine Thn_r ?_
    refine InB_r ?_
    refine Thn_r ?_
    refine Thn_r ?_
    refine InB_r ?_
    refine Thn_r ?_
    refine hQ _ _ _ ?_
    try rw [hfin]
    try dsimp only
    try rw [← setB_D hB]
    first | refine RetP.dropM (setD_len _ _ _ _ _ _) (by first | exact Or.inr rfl | exact Or.inl rfl) ?_ ?_ (hwfD _) | refine RetP.dropM0 (setB_len ..) (by first | exact Or.inr rfl | exact Or.inl rfl) ?_ ?_ (hB.wf hwf _ _) | refine RetP.dropM (setB_len ..) (by first | exact Or.inr rfl | exact Or.inl rfl) ?_ ?_ (hB.wf hwf _ _)
    · simp only [resA, resOne, resTv, AV.tv, push_cast, simprocAttr]
    · rfl
   ·have hz : ¬ D2.fuse = 0 := fun hc => by
      unfold wrS at h43; rw [if_pos hc] at h43; simp at h43
    have e1 : wrS D2 a zB = (wrD D2 (a : Int) zB, 0) := if_neg hz
    obtain ⟨nx, hnx, hnI, hnmu⟩ : ∃ nx : Nat × List Nat × DS, nx = (i + 1, G ++ [a], wrD D2 (a : Int) zB) ∧ DpI V kf n cnt D nx ∧ cnt - nx.1 < cnt - i := ⟨_, rfl, ⟨by show i + 1 ≤ cnt; omega, by show (wrD D2 _ _).down = false; rw [wrD_down _ _ _ hz]; exact j2, wrD_wf j3 (by omega) (by omega) rfl, fun x hx => (List.mem_append.1 hx).elim (jg x) (fun h => by rw [List.mem_singleton.1 h]; exact hak), by show (G ++ [a]).length ≤ i + 1; rw [gr]; omega, by rw [← j4, hst, if_neg hz]; rfl⟩, by show cnt - (i + 1) < cnt - i; omega⟩
    refine AW.skip ?_
    apply hK;clear hK K
    refine AW.rg ?_
    simp only [push_cast, simprocAttr, vtB, rS, pk_3, e1, gr]
    refine InB_n ?_
    apply hK;clear hK K
    refine AW.rg ?_
    simp only [push_cast, simprocAttr, vtB, rS, pk_3, e1, gr]
    refine Thn_n ?_
    have hwi : IntKind.i64.wrap ((i:Int)+1) = (i:Int)+1 := wi (by omega)
    refine ⟨nx, hnI, hnmu, ?_⟩
    try simp only [keepL, setAll, push_cast, simprocAttr, vtB, rS, pk_3, e1, gr, hnx, hwi]
    first
     | exact Weak.to (extra := [_]) (by simp only [KS, simprocAttr, hnx, hwi]) (by first | rfl | (simp only [List.append_assoc, List.cons_append, List.nil_append]; rfl)) (by first | rfl | (simp [AV.below, CV.below, sdl]; done) | (simp [AV.below, CV.below, sdl]; omega)) (by first | exact hwf | exact wfX _ _ | (have hw9 := wfX (wrD D2 (a : Int) zB) (G ++ [a]); rw [gr] at hw9; exact hw9))
     | exact Weak.to (extra := [_, _]) (by simp only [KS, simprocAttr, hnx, hwi]) (by first | rfl | (simp only [List.append_assoc, List.cons_append, List.nil_append]; rfl)) (by first | rfl | (simp [AV.below, CV.below, sdl]; done) | (simp [AV.below, CV.below, sdl]; omega)) (by first | exact hwf | exact wfX _ _ | (have hw9 := wfX (wrD D2 (a : Int) zB) (G ++ [a]); rw [gr] at hw9; exact hw9))
 ·have hin : i = cnt := by have := of_decide_eq_false h22; omega
  subst hin
  rw [Nat.sub_self] at j4
  have j4 : dpF V G D2 = dpS V kf i 0 [] D := j4
  refine AW.exit ?_
  refine Thn_e ?_
  clear hK K
  refine Thn_e ?_
  refine InB_here ?_
  apply hK;clear hK K
  refine AW.seq_k fun K hK => ?_
  refine AW.seq_k fun K hK => ?_
  rcases Classical.em (G = []) with hG | hG
  ·subst hG
   have hfin : dpS V kf i 0 [] D = (V, D2, 0) := by rw [← j4]; exact if_pos rfl
   refine AW.rg ?_
   simp only [push_cast, simprocAttr, vtB, rS, pk_1, List.length_nil]
   apply hK;clear hK K
   refine AW.cond_t rfl ?_
   refine AW.sr 1 fun K hK => ?_
   simp only [push_cast, simprocAttr, vtB, rS, pk_1, List.length_nil]
   apply hK;clear hK K
   refine AW.ret ?_
   refine Thn_r ?_
   refine hQ _ _ _ ?_
   try rw [hfin]
   try dsimp only
   try rw [← setB_D hB]
   first | refine RetP.dropM (setD_len _ _ _ _ _ _) (by first | exact Or.inr rfl | exact Or.inl rfl) ?_ ?_ (hwfD _) | refine RetP.dropM0 (setB_len ..) (by first | exact Or.inr rfl | exact Or.inl rfl) ?_ ?_ (hB.wf hwf _ _) | refine RetP.dropM (setB_len ..) (by first | exact Or.inr rfl | exact Or.inl rfl) ?_ ?_ (hB.wf hwf _ _)
   · simp only [resA, resOne, resTv, AV.tv, push_cast, simprocAttr]
   · rfl
  ·have hGl : ¬ (G.length : Int) = 0 := fun h => hG (List.eq_nil_of_length_eq_zero (by omega))
   have hGb : ((G.length : Int) == 0) = false := by simpa using hG
   unfold dpF at j4
   rw [if_neg hG] at j4
   refine AW.rg ?_
   simp only [push_cast, simprocAttr, vtB, rS, pk_1, hGb]
   apply hK;clear hK K
   refine AW.cond_f rfl ?_
   refine AW.skip ?_
   apply hK;clear hK K
   refine AW.seq_k fun K hK => ?_
   refine AW.sr 2 fun K hK => ?_
   simp only [push_cast, simprocAttr, vtB, rS, pk_1, hGb]
   refine CThen.by (sy_any rd rs rm n D2 _ ((sdh D2).mono _) j2 j3) ?_
   simp only [push_cast, simprocAttr, vtB, rS, pk_1, hGb]
   apply hK;clear hK K
   refine AW.cond rfl (fun h61 => ?_) (fun h61 => ?_)
   ·have hz : D2.fuse = 0 := Classical.byContradiction fun hc => by
      unfold syS at h61; rw [if_neg hc] at h61; simp at h61
    have e1 : syS D2 = (spD D2, 5) := if_pos hz
    have hfin : dpS V kf i 0 [] D = ({ V with dead := 5 }, spD D2, 5) := by rw [← j4, if_pos hz]
    refine AW.sr 1 fun K hK => ?_
    simp only [push_cast, simprocAttr, vtB, rS, pk_1, hGb, e1, hfin]
    refine CThen.by (vfail_c rv rl rd V 5 _ (lk_old (ovv _) _) rfl) ?_
    simp only [push_cast, simprocAttr, vtB, rS, pk_1, hGb, e1, hfin]
    apply hK;clear hK K
    refine AW.ret ?_
    refine Thn_r ?_
    refine hQ _ _ _ ?_
    try rw [hfin]
    try dsimp only
    try rw [← setB_D hB]
    first | refine RetP.dropM (setD_len _ _ _ _ _ _) (by first | exact Or.inr rfl | exact Or.inl rfl) ?_ ?_ (hwfD _) | refine RetP.dropM0 (setB_len ..) (by first | exact Or.inr rfl | exact Or.inl rfl) ?_ ?_ (hB.wf hwf _ _) | refine RetP.dropM (setB_len ..) (by first | exact Or.inr rfl | exact Or.inl rfl) ?_ ?_ (hB.wf hwf _ _)
    · simp only [resA, resOne, resTv, AV.tv, push_cast, simprocAttr]
    · rfl
   ·have hz : ¬ D2.fuse = 0 := fun hc => by
      unfold syS at h61; rw [if_pos hc] at h61; simp at h61
    have e1 : syS D2 = (syD D2, 0) := if_neg hz
    have hfin : dpS V kf i 0 [] D = ({ V with f := goF V.f G }, syD D2, 0) := by rw [← j4, if_neg hz]
    refine AW.skip ?_
    apply hK;clear hK K
    refine AW.seq_k fun K hK => ?_
    refine AW.sr 1 fun K hK => ?_
    simp only [push_cast, simprocAttr, vtB, rS, pk_1, hGb, e1, hfin]
    apply hK;clear hK K
    refine AW.block ?_
    refine AW.loopK [0, 65, 66] (fun j => j ≤ G.length) (fun j => [(67, .one (.int .i64 (j : Int)))]) (fun j => [(rl, rS 0 V.k (goF V.f (G.take j)))]) (fun j => G.length - j) 0 (by omega) ?_ ?_ fun j hi13 => ?_
    · first | rfl | (simp only [KS, simprocAttr, List.take_zero, Int.natCast_zero] <;> repeat' (first | rfl | apply And.intro))
    · exact hset2 _ _
    try simp only [keepL, setAll, push_cast, simprocAttr, vtB, rS, pk_1, hGb, e1, hfin]
    refine AW.sr 1 fun K hK => ?_
    simp only [push_cast, simprocAttr, vtB, rS, pk_1, hGb, e1, hfin]
    apply hK;clear hK K
    refine AW.seq_k fun K hK => ?_
    refine AW.cond rfl (fun h68 => ?_) (fun h68 => ?_)
    ·have hjl : j < G.length := by have := of_decide_eq_true h68; omega
     obtain ⟨a, ha⟩ : ∃ q : Nat, q = G[j] := ⟨_, rfl⟩
     have hak : a < V.k := jg a (by rw [ha]; exact List.getElem_mem hjl)
     have hgx := il_get (f := gI G) hjl
     have hgi : gI G j = (a : Int) := by rw [ha]; unfold gI; rw [List.getD_eq_getElem?_getD, List.getElem?_eq_getElem hjl, Option.getD_some]
     have c0 : (0 : Int) ≤ (j : Int) := by omega
     have c1 : (j : Int) < (G.length : Int) := by omega
     have d0 : (0 : Int) ≤ (a : Int) := by omega
     have d1 : (a : Int) < (V.k : Int) := by omega
     have d2 : a * 67 + 67 ≤ V.k * 67 := by omega
     have hok := goF_ok hf (G.take j)
     have hgl := gl _ hok
     have zl := slC_len zS_ok.w
     have zv := slC_vals zS
     have hcs0 := cC_set (n := V.k) (k := a) hok hak zS_ok
     have hcs : setL (cC V.k (goF V.f (G.take j))) (a * 67) (slC zS) = cC V.k (goF V.f (G.take (j + 1))) := by rw [hcs0, ← goF_take V.f G hjl, ha]
     refine AW.skip ?_
     apply hK;clear hK K
     refine AW.seq_k fun K hK => ?_
     refine AW.block ?_
     refine AW.sr 1 fun K hK => ?_
     have pk_4 : _ ∧ _ ∧ _ ∧ _ ∧ _ ∧ _ ∧ _ ∧ _ ∧ _ ∧ _ ∧ _ ∧ _ ∧ _ ∧ _ ∧ _ := ⟨pk_1, hGb, e1, hfin, c0, c1, d0, d1, d2, hgx, hgi, hgl, hcs, zl, zv⟩
     simp only [push_cast, simprocAttr, vtB, rS, pk_4]
     apply hK;clear hK K
     refine AW.rg ?_
     simp only [push_cast, simprocAttr, vtB, rS, pk_4]
     refine InB_n ?_
     apply hK;clear hK K
     refine AW.rg ?_
     simp only [push_cast, simprocAttr, vtB, rS, pk_4]
     refine Thn_n ?_
     have hwi : IntKind.i64.wrap ((j:Int)+1) = (j:Int)+1 := wi (by omega)
     refine ⟨j + 1, by omega, by omega, ?_⟩
     try simp only [keepL, setAll, push_cast, simprocAttr, vtB, rS, pk_4, hwi, hcs]
     exact Weak.same (by simp only [KS, simprocAttr, hwi, hcs]) (by first | rfl | simp only [KS, simprocAttr, hwi, hcs])
    ·have hjn : j = G.length := by have := of_decide_eq_false h68; omega
     subst hjn
     rw [List.take_length] at *
     refine AW.exit ?_
     refine Thn_e ?_
     clear hK K
     refine Thn_e ?_
     refine InB_here ?_
     apply hK;clear hK K
     refine AW.sr 1 fun K hK => ?_
     simp only [push_cast, simprocAttr, vtB, rS, pk_1, hGb, e1, hfin]
     apply hK;clear hK K
     refine AW.ret ?_
     refine hQ _ _ _ ?_
     try rw [hfin]
     try dsimp only
     try rw [← setB_D hB]
     first | refine RetP.dropM (setD_len _ _ _ _ _ _) (by first | exact Or.inr rfl | exact Or.inl rfl) ?_ ?_ (hwfD _) | refine RetP.dropM0 (setB_len ..) (by first | exact Or.inr rfl | exact Or.inl rfl) ?_ ?_ (hB.wf hwf _ _) | refine RetP.dropM (setB_len ..) (by first | exact Or.inr rfl | exact Or.inl rfl) ?_ ?_ (hB.wf hwf _ _)
     · simp only [resA, resOne, resTv, AV.tv, push_cast, simprocAttr]
     · rfl
def valL : List Int → Int
 | [] => 0
 | x :: l => x + 256 * valL l
theorem byB_hd {bs : List Int} {p : Nat} {x : Int} {l : List Int} (h : bs.drop p = x :: l) : byB bs p = x ∧ bs.drop (p + 1) = l := by
 constructor
 ·unfold byB; rw [List.getD_eq_getElem?_getD]
  have := congrArg (fun l => l[0]?) h
  simp only [List.getElem?_drop, Nat.add_zero, List.getElem?_cons_zero] at this
  rw [this]; rfl
 ·have := congrArg (List.drop 1) h
  rw [List.drop_drop] at this
  simpa using this
theorem numV_val {bs : List Int} : ∀ {ys : List Int} {p : Nat} {zs : List Int}, bs.drop p = ys ++ zs → numV bs p ys.length = valL ys ∧ bs.drop (p + ys.length) = zs
 | [], p, zs, h => ⟨rfl, by simpa using h⟩
 | x :: ys, p, zs, h => by
  obtain ⟨h1, h2⟩ := byB_hd (show bs.drop p = x :: (ys ++ zs) from h)
  obtain ⟨h3, h4⟩ := numV_val h2
  exact ⟨by simp only [List.length_cons, numV, valL, h1, h3], by rw [List.length_cons, show p + (ys.length + 1) = p + 1 + ys.length by omega]; exact h4⟩
theorem wrap8 (x : Int) : IntKind.u8.wrap x = x % 256 := by simp [IntKind.wrap, IntKind.signed, IntKind.bits]
theorem val1 {x : Int} (h : 0 ≤ x ∧ x ≤ 255) : valL (numL (IntKind.u64.wrap x) 1) = x := by
 rw [IntKind.wrap_u64, show numL (x % 18446744073709551616) 1 = [x % 18446744073709551616 % 256] by simp [numL, shN, wrap8]]; simp only [valL]; omega
theorem val4 {x : Int} (h : 0 ≤ x ∧ x ≤ 4294967295) : valL (numL (IntKind.u64.wrap x) 4) = x := by
 rw [IntKind.wrap_u64, show numL (x % 18446744073709551616) 4 = [x % 18446744073709551616 % 256, x % 18446744073709551616 / 256 % 256, x % 18446744073709551616 / 256 / 256 % 256, x % 18446744073709551616 / 256 / 256 / 256 % 256] by simp [numL, shN, wrap8]]; simp only [valL]; omega
theorem enc_parts (s : SL) : encB s = numL (IntKind.u64.wrap s.kind) 1 ++ (s.key ++ (s.sum ++ (numL (IntKind.u64.wrap s.size) 4 ++ (numL (IntKind.u64.wrap s.fr) 4 ++ z55)))) := by
 simp only [encB, encL, catL, wh, List.nil_append, List.append_assoc]
theorem dec_enc {s : SL} (h : OkS s) (h0 : 0 ≤ s.kind ∧ s.kind ≤ 255) : decS (encB s) = s := by
 have e := enc_parts s
 obtain ⟨a1, d1⟩ := numV_val (p := 0) (show (encB s).drop 0 = _ from e)
 rw [numL_len] at a1 d1
 have d2 : (encB s).drop 33 = s.sum ++ (numL (IntKind.u64.wrap s.size) 4 ++ (numL (IntKind.u64.wrap s.fr) 4 ++ z55)) := by rw [show 33 = 1 + 32 from rfl, ← List.drop_drop, d1, List.drop_left' h.w.k]
 have d3 : (encB s).drop 65 = numL (IntKind.u64.wrap s.size) 4 ++ (numL (IntKind.u64.wrap s.fr) 4 ++ z55) := by rw [show 65 = 33 + 32 from rfl, ← List.drop_drop, d2, List.drop_left' h.w.s]
 obtain ⟨a4, d4⟩ := numV_val d3
 rw [numL_len] at a4 d4
 obtain ⟨a5, _⟩ := numV_val d4
 rw [numL_len] at a5
 have p1 : pieceL (encB s) 1 32 = s.key := by unfold pieceL; rw [d1, List.take_left' h.w.k]
 have p2 : pieceL (encB s) 33 32 = s.sum := by unfold pieceL; rw [d2, List.take_left' h.w.s]
 rw [val1 h0] at a1
 rw [val4 ⟨h.s0, h.s1⟩] at a4
 rw [val4 ⟨h.f0, h.f1⟩] at a5
 unfold decS
 rw [p1, p2, a1, a4, a5]
theorem enc_nz {s : SL} (hk : s.kind = 2) : ¬ encB s = zB := fun h => by
 obtain ⟨a1, _⟩ := numV_val (p := 0) (show (encB s).drop 0 = _ from enc_parts s)
 rw [numL_len, val1 (by omega), h] at a1
 have : numV zB 0 1 = 0 := by decide
 omega
theorem decO_enc {s : SL} (h : OkS s) (hk : s.kind = 2) : decO (encB s) = true := by
 have e := dec_enc h (by omega)
 unfold decO
 rw [e, decide_eq_true rfl, hk]; rfl
structure SlT (X : Nat → List Int) (n k : Nat) (A : TE) (s : SL) : Prop where
 kd : s.kind = 2
 ok : OkS s
 s1 : s.size ≤ 700
 f0 : (k : Int) ≤ s.fr
 f1 : s.fr + needZ s.size ≤ (n : Int)
 ky : ∃ j : Int, 0 ≤ j ∧ j < 9 ∧ s.key = kyL j
 tx : ∃ p, U8ok p ∧ (p.length : Int) = s.size ∧ shaL p = s.sum ∧ lkT s.sum A = some (strB p) ∧ (catB (needZ s.size).toNat fun j => X (s.fr.toNat + j)).take s.size.toNat = p
def aliv (s : SL) : Prop := ¬ s.kind = 0
structure Cand (S W : Nat → List Int) (n k : Nat) (A : TE) (g : Nat → SL) : Prop where
 out : ∀ i, k ≤ i → g i = zS
 sl : ∀ i, i < k → g i = zS ∨ SlT S n k A (g i)
 two : ∀ i j, i < k → j < i → aliv (g i) → aliv (g j) → ¬ (g j).key = (g i).key
 aS : ∀ i, i < k → S i = zB ∨ (aliv (g i) ∧ S i = encB (g i))
 aW : ∀ i, i < k → W i = zB ∨ (aliv (g i) ∧ W i = encB (g i))
 dat : ∀ i, i < k → aliv (g i) → ∀ j : Nat, (g i).fr ≤ (j : Int) → (j : Int) < (g i).fr + needZ (g i).size → W j = S j
 uS : ∀ i, U8ok (S i)
 uW : ∀ i, U8ok (W i)
theorem alivZ {s : SL} (h : s = zS) : ¬ aliv s := fun hc => hc (by rw [h]; rfl)
theorem needZ_nn {x : Int} (h : 0 ≤ x) : 0 ≤ needZ x := by unfold needZ; omega
theorem SlT.congr {X Y : Nat → List Int} {n k : Nat} {A : TE} {s : SL} (h : SlT X n k A s) (he : ∀ j : Nat, s.fr ≤ (j : Int) → (j : Int) < s.fr + needZ s.size → Y j = X j) : SlT Y n k A s := by
 obtain ⟨kd, ok, s1, f0, f1, ky, p, t1, t2, t3, t4, t5⟩ := h
 refine ⟨kd, ok, s1, f0, f1, ky, p, t1, t2, t3, t4, ?_⟩
 rw [← t5]
 congr 1
 have h0 := ok.f0
 have h1 := needZ_nn ok.s0
 exact catB_congr fun j hj => he _ (by omega) (by omega)
def keepF (X : Nat → List Int) (k : Nat) (g : Nat → SL) : Nat → SL := fun i => if i < k ∧ ¬ X i = zB then g i else zS
theorem keepF_or (X : Nat → List Int) (k : Nat) (g : Nat → SL) (i : Nat) : keepF X k g i = zS ∨ (i < k ∧ ¬ X i = zB ∧ keepF X k g i = g i) := by
 unfold keepF
 split
 ·rename_i h; exact .inr ⟨h.1, h.2, rfl⟩
 ·exact .inl rfl
section
variable {S W X : Nat → List Int} {n k : Nat} {A : TE} {g : Nat → SL}
theorem Cand.ok (h : Cand S W n k A g) (i : Nat) : OkS (g i) := by
 rcases Nat.lt_or_ge i k with hi | hi
 ·rcases h.sl i hi with h1 | h1
  ·rw [h1]; exact zS_ok
  ·exact h1.ok
 ·rw [h.out i hi]; exact zS_ok
theorem Cand.of (h : Cand S W n k A g) {i : Nat} (hi : i < k) (ha : aliv (g i)) : SlT S n k A (g i) := (h.sl i hi).resolve_left fun hz => alivZ hz ha
theorem Cand.crash (h : Cand S W n k A g) (hx : ∀ i, X i = S i ∨ X i = W i) : Cand X X n k A (keepF X k g) := by
 have hd : ∀ i, i < k → aliv (g i) → ∀ j : Nat, (g i).fr ≤ (j : Int) → (j : Int) < (g i).fr + needZ (g i).size → X j = S j := fun i hi ha j h1 h2 => (hx j).elim id fun e => e.trans (h.dat i hi ha j h1 h2)
 have ka : ∀ i, aliv (keepF X k g i) → i < k ∧ ¬ X i = zB ∧ keepF X k g i = g i := fun i ha => (keepF_or X k g i).resolve_left fun hz => alivZ hz ha
 have at_ : ∀ i, i < k → X i = zB ∨ (aliv (keepF X k g i) ∧ X i = encB (keepF X k g i)) := fun i hi => by
  by_cases hz : X i = zB
  ·exact .inl hz
  ·have e : keepF X k g i = g i := by unfold keepF; rw [if_pos ⟨hi, hz⟩]
   rw [e]
   rcases hx i with h1 | h1
   ·rw [h1] at hz ⊢; exact h.aS i hi
   ·rw [h1] at hz ⊢; exact h.aW i hi
 refine ⟨fun i hi => ?_, fun i hi => ?_, fun i j hi hj ha hb => ?_, at_, at_, fun _ _ _ _ _ _ => rfl, fun i => ?_, fun i => ?_⟩
 ·unfold keepF; rw [if_neg (by omega)]
 ·rcases keepF_or X k g i with h1 | ⟨_, h2, h3⟩
  ·exact .inl h1
  ·rw [h3]
   rcases h.sl i hi with h4 | h4
   ·exact .inl h4
   ·exact .inr (h4.congr (hd i hi (by unfold aliv; rw [h4.kd]; decide)))
 ·obtain ⟨_, _, e1⟩ := ka i ha
  obtain ⟨_, _, e2⟩ := ka j hb
  rw [e1] at ha ⊢
  rw [e2] at hb ⊢
  exact h.two i j hi hj ha hb
 ·rcases hx i with h1 | h1
  ·rw [h1]; exact h.uS i
  ·rw [h1]; exact h.uW i
 ·rcases hx i with h1 | h1
  ·rw [h1]; exact h.uS i
  ·rw [h1]; exact h.uW i
def Lasts (S : Nat → List Int) (k : Nat) (g : Nat → SL) : Prop := ∀ i, i < k → aliv (g i) → S i = encB (g i)
theorem keep_lasts (h : Cand S W n k A g) (hx : ∀ i, X i = S i ∨ X i = W i) : Lasts X k (keepF X k g) := fun i hi ha => by
 obtain ⟨_, hz, e⟩ := (keepF_or X k g i).resolve_left fun hz => alivZ hz ha
 rw [e]
 rcases hx i with h1 | h1
 ·rw [h1] at hz ⊢; exact ((h.aS i hi).resolve_left hz).2
 ·rw [h1] at hz ⊢; exact ((h.aW i hi).resolve_left hz).2
theorem Cand.good (h : Cand S S n k A g) (hl : Lasts S k g) {D : DS} (hD : ∀ i, vis D.S D.E i = S i) : Good D n k g := by
 have hd : ∀ a b, datL D a b = catB b fun j => S (a + j) := fun a b => catB_congr fun j _ => hD _
 refine ⟨h.ok, fun i hi => ?_, fun i j hi hj h1 h2 => ?_, h.out⟩
 ·rcases h.sl i hi with h1 | h1
  ·refine .inl ⟨?_, h1⟩
   rw [hD]
   exact (h.aS i hi).resolve_right fun hc => alivZ h1 hc.1
  ·have e := hl i hi (by unfold aliv; rw [h1.kd]; decide)
   obtain ⟨kd, ok, s1, f0, f1, _, p, t1, t2, t3, t4, t5⟩ := h1
   refine .inr ⟨?_, ?_, ?_, by omega, f0, f1, ?_⟩
   ·rw [hD, e]; exact enc_nz kd
   ·rw [hD, e]; exact dec_enc ok (by omega)
   ·rw [hD, e]; exact decO_enc ok kd
   ·rw [hd, t5, t3]
 ·rw [hD] at h2
  exact h.two i j hi hj ((h.aS i hi).resolve_left h2).1 h1
end
theorem spD_z {D : DS} (h : D.fuse = 0) : (spD D).down = true := by unfold spD; rw [if_pos h]
theorem visw (D : DS) (k : Nat) (v : List Int) (i : Nat) : vis (wrD D (k : Int) v).S (wrD D (k : Int) v).E i = if i = k then v else vis D.S D.E i := by
 show vis (spD D).S (upE D.ck (k : Int) v D.E) i = _
 rw [spD_S, vis_up]
 rfl
theorem wrD_S (D : DS) (k : Int) (v : List Int) : (wrD D k v).S = D.S := spD_S D
def okF (ks : Nat → List Int) (V : VS) (i a : Nat) : Prop := a < V.k ∧ aliv (V.f a) ∧ ∃ j, j < i ∧ (V.f a).key = ks j
structure DpR (n cnt : Nat) (ks : Nat → List Int) (V : VS) (S : Nat → List Int) (R : VS × DS × Int) (G : List Nat) : Prop where
 g : ∀ a, a ∈ G → okF ks V cnt a
 w : WfD n R.2.1
 r : (R.2.2 = 0 ∧ R.1 = { V with f := goF V.f G } ∧ R.2.1.down = false ∧ R.2.1.E = [] ∧ (∀ i, R.2.1.S i = if i ∈ G then zB else S i) ∧ ∀ a, okF ks V cnt a → a ∈ G) ∨
   (R.2.2 = 5 ∧ R.1 = { V with dead := 5 } ∧ R.2.1.down = true ∧ R.2.1.S = S ∧ ∀ i, vis R.2.1.S R.2.1.E i = if i ∈ G then zB else S i)
theorem fdB_iff {key : List Int} {s : SL} : fdB key s = true ↔ aliv s ∧ s.key = key := by
 unfold fdB aliv; rw [Bool.and_eq_true, decide_eq_true_iff, decide_eq_true_iff]
theorem dp_spec {n cnt : Nat} {ks : Nat → List Int} {V : VS} {S : Nat → List Int} (hkn : V.k ≤ n) (two : ∀ i j, i < V.k → j < i → aliv (V.f i) → aliv (V.f j) → ¬ (V.f j).key = (V.f i).key) :
  ∀ (r i : Nat) (G : List Nat) (D : DS), i + r = cnt → D.down = false → WfD n D → D.S = S → (G = [] → D.E = []) → (∀ j, vis D.S D.E j = if j ∈ G then zB else S j) → (∀ a, a ∈ G ↔ okF ks V i a) → ∃ G', DpR n cnt ks V S (dpS V ks r i G D) G'
 | 0, i, G, D, hi, hd, hw, hS, hE, hv, hG => by
  obtain rfl : i = cnt := by omega
  show ∃ G', DpR n i ks V S (dpF V G D) G'
  unfold dpF
  by_cases h1 : G = []
  ·rw [if_pos h1]
   subst h1
   refine ⟨[], fun a h => (by cases h), hw, .inl ⟨rfl, ?_, hd, hE rfl, fun j => ?_, fun a h => (hG a).2 h⟩⟩
   ·have e : goF V.f [] = V.f := funext fun i => if_neg (List.not_mem_nil)
    rw [e]
   ·show D.S j = _
    rw [hS]; exact (if_neg (List.not_mem_nil)).symm
  ·rw [if_neg h1]
   by_cases hz : D.fuse = 0
   ·rw [if_pos hz]
    refine ⟨G, fun a h => (hG a).1 h, spD_wf hw, .inr ⟨rfl, rfl, spD_z hz, by show (spD D).S = S; rw [spD_S]; exact hS, fun j => ?_⟩⟩
    show vis (spD D).S (spD D).E j = _
    rw [spD_S, spD_E]; exact hv j
   ·rw [if_neg hz]
    exact ⟨G, fun a h => (hG a).1 h, syD_wf hw, .inl ⟨rfl, rfl, by show (syD D).down = false; rw [syD_down _ hz]; exact hd, rfl, fun j => hv j, fun a h => (hG a).2 h⟩⟩
 | r + 1, i, G, D, hi, hd, hw, hS, hE, hv, hG => by
  have more : ∀ a, okF ks V (i + 1) a → okF ks V i a ∨ (a < V.k ∧ aliv (V.f a) ∧ (V.f a).key = ks i) := fun a ⟨h1, h2, j, h3, h4⟩ => by
   rcases Nat.lt_or_ge j i with h5 | h5
   ·exact .inl ⟨h1, h2, j, h5, h4⟩
   ·exact .inr ⟨h1, h2, by rw [h4, show j = i by omega]⟩
  have up : ∀ a, okF ks V i a → okF ks V (i + 1) a := fun a ⟨h1, h2, j, h3, h4⟩ => ⟨h1, h2, j, by omega, h4⟩
  obtain ⟨z, hz⟩ : ∃ z, z = fnd (fdB (ks i)) V.f V.k := ⟨_, rfl⟩
  unfold dpS
  rw [← hz]
  rcases dp3 z G with h1 | ⟨a, h1, h2⟩ | ⟨a, h1, h2⟩
  ·rw [if_pos (.inl h1)]
   refine dp_spec hkn two r (i + 1) G D (by omega) hd hw hS hE hv fun a => ⟨fun h => up a ((hG a).1 h), fun h => ?_⟩
   rcases more a h with h3 | ⟨h3, h4, h5⟩
   ·exact (hG a).2 h3
   ·have := (fnd_neg (by rw [← hz]; exact h1)).2 a h3
    rw [fdB_iff.2 ⟨h4, h5⟩] at this; cases this
  ·subst h1
   rw [if_pos (.inr (by rw [Int.toNat_natCast]; exact h2))]
   refine dp_spec hkn two r (i + 1) G D (by omega) hd hw hS hE hv fun b => ⟨fun h => up b ((hG b).1 h), fun h => ?_⟩
   rcases more b h with h3 | ⟨h3, h4, h5⟩
   ·exact (hG b).2 h3
   ·obtain ⟨x, x1, x2, x3, _⟩ := fnd_pos (p := fdB (ks i)) (f := V.f) (k := V.k) (by omega)
    obtain rfl : a = x := by omega
    obtain ⟨y1, y2⟩ := fdB_iff.1 x3
    rcases Nat.lt_trichotomy a b with h6 | h6 | h6
    ·exact absurd (y2.trans h5.symm) (two b a h3 h6 h4 y1)
    ·rw [← h6]; exact h2
    ·exact absurd (h5.trans y2.symm) (two a b x1 h6 y1 h4)
  ·subst h1
   obtain ⟨x, x1, x2, x3, _⟩ := fnd_pos (p := fdB (ks i)) (f := V.f) (k := V.k) (by omega)
   obtain rfl : a = x := by omega
   obtain ⟨y1, y2⟩ := fdB_iff.1 x3
   rw [if_neg (fun hc => hc.elim (fun h => absurd h (by omega)) (by rw [Int.toNat_natCast]; exact h2)), Int.toNat_natCast]
   by_cases hf : D.fuse = 0
   ·rw [if_pos hf]
    refine ⟨G, fun b h => ?_, spD_wf hw, .inr ⟨rfl, rfl, spD_z hf, by show (spD D).S = S; rw [spD_S]; exact hS, fun j => ?_⟩⟩
    ·obtain ⟨q1, q2, j, q3, q4⟩ := (hG b).1 h
     exact ⟨q1, q2, j, by omega, q4⟩
    ·show vis (spD D).S (spD D).E j = _
     rw [spD_S, spD_E]; exact hv j
   ·rw [if_neg hf]
    refine dp_spec hkn two r (i + 1) (G ++ [a]) _ (by omega) (by rw [wrD_down _ _ _ hf]; exact hd) (wrD_wf hw (by omega) (by omega) rfl) (by rw [wrD_S]; exact hS) (fun h => by simp at h) (fun j => ?_) fun b => ⟨fun h => ?_, fun h => ?_⟩
    ·rw [visw, hv]
     by_cases hj : j = a
     ·rw [if_pos hj, if_pos (List.mem_append_right _ (by rw [hj]; exact List.mem_singleton_self _))]
     ·rw [if_neg hj]
      by_cases hj2 : j ∈ G
      ·rw [if_pos hj2, if_pos (List.mem_append_left _ hj2)]
      ·rw [if_neg hj2, if_neg (fun hc => (List.mem_append.1 hc).elim hj2 fun h3 => hj (List.mem_singleton.1 h3))]
    ·rcases List.mem_append.1 h with h | h
     ·exact up b ((hG b).1 h)
     ·rw [List.mem_singleton.1 h]; exact ⟨x1, y1, i, by omega, y2⟩
    ·rcases more b h with h3 | ⟨h3, h4, h5⟩
     ·exact List.mem_append_left _ ((hG b).2 h3)
     ·refine List.mem_append_right _ ?_
      rcases Nat.lt_trichotomy a b with h6 | h6 | h6
      ·exact absurd (y2.trans h5.symm) (two b a h3 h6 h4 y1)
      ·rw [← h6]; exact List.mem_singleton_self _
      ·exact absurd (h5.trans y2.symm) (two a b x1 h6 y1 h4)
def ovl (S : Nat → List Int) (bl : Nat → List Int) (k y : Nat) : Nat → List Int := fun j => if k ≤ j ∧ j < k + y then bl (j - k) else S j
theorem ovl_0 (S : Nat → List Int) (bl : Nat → List Int) (k : Nat) : ovl S bl k 0 = S := funext fun j => if_neg (by omega)
theorem lay_spec {n k : Nat} {S : Nat → List Int} {bl : Nat → List Int} (hb : ∀ i, (bl i).length = 128) : ∀ (r i : Nat) (D : DS), D.down = false → WfD n D → D.S = S → (∀ j, vis D.S D.E j = ovl S bl k i j) → k + i + r ≤ n →
  WfD n (layS k bl r i D).1 ∧ (((layS k bl r i D).2 = 0 ∧ (layS k bl r i D).1.down = false ∧ (layS k bl r i D).1.E = [] ∧ (layS k bl r i D).1.S = ovl S bl k (i + r)) ∨
   ((layS k bl r i D).2 = 5 ∧ (layS k bl r i D).1.down = true ∧ (layS k bl r i D).1.S = S ∧ ∃ y, y ≤ i + r ∧ ∀ j, vis (layS k bl r i D).1.S (layS k bl r i D).1.E j = ovl S bl k y j))
 | 0, i, D, hd, hw, hS, hv, hn => by
  rw [show layS k bl 0 i D = syS D from rfl]
  unfold syS
  by_cases hz : D.fuse = 0
  ·rw [if_pos hz]
   refine ⟨spD_wf hw, .inr ⟨rfl, spD_z hz, by rw [spD_S]; exact hS, i, Nat.le_refl _, fun j => ?_⟩⟩
   show vis (spD D).S (spD D).E j = _
   rw [spD_S, spD_E]; exact hv j
  ·rw [if_neg hz]
   exact ⟨syD_wf hw, .inl ⟨rfl, by rw [syD_down _ hz]; exact hd, rfl, funext fun j => hv j⟩⟩
 | r + 1, i, D, hd, hw, hS, hv, hn => by
  unfold layS
  by_cases hz : D.fuse = 0
  ·rw [if_pos hz]
   refine ⟨spD_wf hw, .inr ⟨rfl, spD_z hz, by show (spD D).S = S; rw [spD_S]; exact hS, i, by omega, fun j => ?_⟩⟩
   show vis (spD D).S (spD D).E j = _
   rw [spD_S, spD_E]; exact hv j
  ·rw [if_neg hz]
   have h := lay_spec (n := n) (k := k) (S := S) hb r (i + 1) (wrD D ((k + i : Nat) : Int) (bl i)) (by rw [wrD_down _ _ _ hz]; exact hd) (wrD_wf hw (by omega) (by omega) (hb i)) (by rw [wrD_S]; exact hS) (fun j => by
    rw [visw, hv]
    unfold ovl
    by_cases h1 : j = k + i
    ·rw [if_pos h1, if_pos (by omega), show j - k = i by omega]
    ·rw [if_neg h1]
     by_cases h2 : k ≤ j ∧ j < k + i
     ·rw [if_pos h2, if_pos (by omega)]
     ·rw [if_neg h2, if_neg (by omega)]) (by omega)
   rw [show i + (r + 1) = i + 1 + r by omega]
   exact h
def upS (S : Nat → List Int) (c : Nat) (v : List Int) : Nat → List Int := fun j => if j = c then v else S j
theorem ws_spec {n c : Nat} {S : Nat → List Int} {V : VS} {s : SL} {D : DS} (hd : D.down = false) (hw : WfD n D) (hS : D.S = S) (hE : D.E = []) (hc : c < n) (hs : WfS s) :
  WfD n (wsS V D c s).2.1 ∧ (((wsS V D c s).2.2 = 0 ∧ (wsS V D c s).1 = { V with f := upF V.f c s } ∧ (wsS V D c s).2.1.down = false ∧ (wsS V D c s).2.1.E = [] ∧ (wsS V D c s).2.1.S = upS S c (encB s)) ∨
   ((wsS V D c s).2.2 = 5 ∧ (wsS V D c s).1 = { V with dead := 5 } ∧ (wsS V D c s).2.1.down = true ∧ (wsS V D c s).2.1.S = S ∧ ∀ j, vis (wsS V D c s).2.1.S (wsS V D c s).2.1.E j = S j ∨ (j = c ∧ vis (wsS V D c s).2.1.S (wsS V D c s).2.1.E j = encB s))) := by
 have v0 : ∀ j, vis D.S D.E j = S j := fun j => by rw [hE, vis_nil, hS]
 by_cases hz : D.fuse = 0
 ·have e : wrS D c (encB s) = (spD D, 5) := if_pos hz
  have e2 : wsS V D c s = ({ V with dead := 5 }, spD D, 5) := by unfold wsS; rw [e]; rfl
  rw [e2]
  refine ⟨spD_wf hw, .inr ⟨rfl, rfl, spD_z hz, by show (spD D).S = S; rw [spD_S]; exact hS, fun j => .inl ?_⟩⟩
  show vis (spD D).S (spD D).E j = _
  rw [spD_S, spD_E]; exact v0 j
 ·have e : wrS D c (encB s) = (wrD D (c : Int) (encB s), 0) := if_neg hz
  have hw2 : WfD n (wrD D (c : Int) (encB s)) := wrD_wf hw (by omega) (by omega) (encB_len hs)
  have v1 : ∀ j, vis (wrD D (c : Int) (encB s)).S (wrD D (c : Int) (encB s)).E j = upS S c (encB s) j := fun j => by
   rw [visw, v0]; rfl
  by_cases hz2 : (wrD D (c : Int) (encB s)).fuse = 0
  ·have e1 : syS (wrD D (c : Int) (encB s)) = (spD (wrD D (c : Int) (encB s)), 5) := if_pos hz2
   have e2 : wsS V D c s = ({ V with dead := 5 }, spD (wrD D (c : Int) (encB s)), 5) := by unfold wsS; rw [e]; dsimp only; rw [e1]; rfl
   rw [e2]
   refine ⟨spD_wf hw2, .inr ⟨rfl, rfl, spD_z hz2, by show (spD _).S = S; rw [spD_S, wrD_S]; exact hS, fun j => ?_⟩⟩
   show vis (spD _).S (spD _).E j = _ ∨ (_ ∧ vis (spD _).S (spD _).E j = _)
   rw [spD_S, spD_E, v1]
   unfold upS
   by_cases hj : j = c
   ·rw [if_pos hj]; exact .inr ⟨hj, rfl⟩
   ·rw [if_neg hj]; exact .inl rfl
  ·have e1 : syS (wrD D (c : Int) (encB s)) = (syD (wrD D (c : Int) (encB s)), 0) := if_neg hz2
   have e2 : wsS V D c s = ({ V with f := upF V.f c s }, syD (wrD D (c : Int) (encB s)), 0) := by unfold wsS; rw [e]; dsimp only; rw [e1]; rfl
   rw [e2]
   exact ⟨syD_wf hw2, .inl ⟨rfl, rfl, by show (syD _).down = false; rw [syD_down _ hz2, wrD_down _ _ _ hz]; exact hd, rfl, funext v1⟩⟩
structure PuR (n : Nat) (V : VS) (S : Nat → List Int) (c : Nat) (s : SL) (bl : Nat → List Int) (k N : Nat) (R : VS × DS × Int) : Prop where
  w : WfD n R.2.1
  r : (R.2.2 = 0 ∧ R.1 = { V with f := upF V.f c s } ∧ R.2.1.down = false ∧ R.2.1.E = [] ∧ R.2.1.S = upS (ovl S bl k N) c (encB s)) ∨
      (R.2.2 = 5 ∧ R.1 = { V with dead := 5 } ∧ R.2.1.down = true ∧
        ((R.2.1.S = S ∧ ∃ y, y ≤ N ∧ ∀ j, vis R.2.1.S R.2.1.E j = ovl S bl k y j) ∨
         (R.2.1.S = ovl S bl k N ∧ ∀ j, vis R.2.1.S R.2.1.E j = ovl S bl k N j ∨ (j = c ∧ vis R.2.1.S R.2.1.E j = encB s))))
theorem put_specL {n c k : Nat} {S : Nat → List Int} {V : VS} {s : SL} {D : DS} {bl : Nat → List Int} (hd : D.down = false) (hw : WfD n D) (hS : D.S = S) (hE : D.E = []) (hc : c < n) (hs : WfS s) : PuR n V S c s bl k 0 (wsS V D c s) := by
 obtain ⟨h1, h2⟩ := ws_spec (V := V) hd hw hS hE hc hs
 refine ⟨h1, ?_⟩
 rw [ovl_0]
 rcases h2 with h2 | ⟨a, b, d, e, f⟩
 ·exact .inl h2
 ·exact .inr ⟨a, b, d, .inr ⟨e, f⟩⟩
theorem put_specU {n c k N : Nat} {S : Nat → List Int} {V : VS} {s : SL} {D : DS} {bl : Nat → List Int} (hb : ∀ i, (bl i).length = 128) (hd : D.down = false) (hw : WfD n D) (hS : D.S = S) (hE : D.E = []) (hc : c < n) (hs : WfS s) (hkN : k + N ≤ n) :
  PuR n V S c s bl k N (if ((layS k bl N 0 D).2 != 0) = true then ({ V with dead := (layS k bl N 0 D).2 }, (layS k bl N 0 D).1, (layS k bl N 0 D).2) else wsS V (layS k bl N 0 D).1 c s) := by
 obtain ⟨h1, h2⟩ := lay_spec (S := S) (k := k) hb N 0 D hd hw hS (fun j => by rw [hE, vis_nil, hS, ovl_0]) (by omega)
 rcases h2 with ⟨a, b, d, e⟩ | ⟨a, b, d, y, y1, y2⟩
 ·rw [if_neg (by rw [a]; decide)]
  rw [Nat.zero_add] at e
  obtain ⟨h3, h4⟩ := ws_spec (V := V) b h1 e d hc hs
  refine ⟨h3, ?_⟩
  rcases h4 with h4 | ⟨a, b, d, e, f⟩
  ·exact .inl h4
  ·exact .inr ⟨a, b, d, .inr ⟨e, f⟩⟩
 ·rw [if_pos (by rw [a]; decide), a]
  exact ⟨h1, .inr ⟨rfl, rfl, b, .inl ⟨d, y, by omega, y2⟩⟩⟩
theorem U8_w (x : Int) : 0 ≤ IntKind.u8.wrap x ∧ IntKind.u8.wrap x ≤ 255 := by rw [wrap8]; omega
theorem numL_ok (n : Int) : ∀ j, U8ok (numL n j)
 | 0 => fun x h => by cases h
 | j + 1 => (numL_ok n j).app fun x h => by rw [List.mem_singleton.1 h]; exact U8_w _
theorem enc_ok {s : SL} (hk : U8ok s.key) (hs : U8ok s.sum) : U8ok (encB s) := by
 rw [enc_parts]
 refine (numL_ok _ _).app (hk.app (hs.app ((numL_ok _ _).app ((numL_ok _ _).app fun x hx => ?_))))
 rw [List.eq_of_mem_replicate hx]; omega
theorem kyL_ok {j : Int} (h : 0 ≤ j ∧ j < 9) : U8ok (kyL j) := fun x hx => by
 unfold kyL at hx
 rcases List.mem_cons.1 hx with h1 | h1
 ·omega
 ·rcases List.mem_cons.1 h1 with h2 | h2
  ·omega
  ·rw [List.eq_of_mem_replicate h2]; omega
def Grow (A A' : TE) : Prop := ∀ d t, lkT d A = some t → lkT d A' = some t
theorem SlT.grow {X : Nat → List Int} {n k : Nat} {A A' : TE} {s : SL} (h : SlT X n k A s) (hA : Grow A A') : SlT X n k A' s := by
 obtain ⟨kd, ok, s1, f0, f1, ky, p, t1, t2, t3, t4, t5⟩ := h
 exact ⟨kd, ok, s1, f0, f1, ky, p, t1, t2, t3, hA _ _ t4, t5⟩
def FreeR (g : Nat → SL) (k kk N : Nat) : Prop := ∀ i, i < k → aliv (g i) → (g i).fr + needZ (g i).size ≤ (kk : Int) ∨ (kk : Int) + (N : Int) ≤ (g i).fr ∨ needZ (g i).size ≤ 0 ∨ N = 0
theorem ovl_at {S bl : Nat → List Int} {k y j : Nat} (h : ¬ (k ≤ j ∧ j < k + y)) : ovl S bl k y j = S j := if_neg h
theorem ovl_ok {S bl : Nat → List Int} {k y : Nat} (h : ∀ i, U8ok (S i)) (hb : ∀ i, U8ok (bl i)) (j : Nat) : U8ok (ovl S bl k y j) := by
 unfold ovl; split
 ·exact hb _
 ·exact h _
section
variable {S W : Nat → List Int} {n k : Nat} {A A' : TE} {g : Nat → SL}
theorem Cand.lay (h : Cand S S n k A g) (hA : Grow A A') {bl : Nat → List Int} {kk N : Nat} (hb : ∀ i, U8ok (bl i)) (hk : k ≤ kk) (hf : FreeR g k kk N) {y y' : Nat} (hy : y ≤ N) (hy' : y' ≤ N) : Cand (ovl S bl kk y) (ovl S bl kk y') n k A' g := by
 have lo : ∀ z i, i < k → ovl S bl kk z i = S i := fun z i hi => ovl_at (by omega)
 have hi : ∀ z, z ≤ N → ∀ i, i < k → aliv (g i) → ∀ j : Nat, (g i).fr ≤ (j : Int) → (j : Int) < (g i).fr + needZ (g i).size → ovl S bl kk z j = S j := fun z hz i hi ha j h1 h2 => ovl_at (by
  have := hf i hi ha
  omega)
 refine ⟨h.out, fun i hk2 => ?_, h.two, fun i hk2 => ?_, fun i hk2 => ?_, fun i hk2 ha j h1 h2 => by rw [hi _ hy' i hk2 ha j h1 h2, hi _ hy i hk2 ha j h1 h2], ovl_ok h.uS hb, ovl_ok h.uS hb⟩
 ·rcases h.sl i hk2 with h1 | h1
  ·exact .inl h1
  ·exact .inr ((h1.grow hA).congr (hi y hy i hk2 (by unfold aliv; rw [h1.kd]; decide)))
 ·rw [lo y i hk2]; exact h.aS i hk2
 ·rw [lo y' i hk2]; exact h.aS i hk2
theorem Lasts.lay (h : Lasts S k g) {bl : Nat → List Int} {kk y : Nat} (hk : k ≤ kk) : Lasts (ovl S bl kk y) k g := fun i hi ha => by
 rw [ovl_at (by omega)]; exact h i hi ha
theorem Cand.slot (h : Cand S S n k A g) {c : Nat} {s : SL} (hc : c < k) (hz : g c = zS) (hs : SlT S n k A s) (hnew : ∀ i, i < k → aliv (g i) → ¬ (g i).key = s.key) {S2 W2 : Nat → List Int}
  (h1 : ∀ j, S2 j = S j ∨ (j = c ∧ S2 j = encB s)) (h2 : ∀ j, W2 j = S j ∨ (j = c ∧ W2 j = encB s)) : Cand S2 W2 n k A (upF g c s) := by
 have hal : aliv s := by unfold aliv; rw [hs.kd]; decide
 have e1 : upF g c s c = s := if_pos rfl
 have e2 : ∀ i, ¬ i = c → upF g c s i = g i := fun i hi => if_neg hi
 have ue : U8ok (encB s) := by
  obtain ⟨j, j0, j1, e⟩ := hs.ky
  obtain ⟨p, _, _, e3, _⟩ := hs.tx
  exact enc_ok (by rw [e]; exact kyL_ok ⟨j0, j1⟩) (by rw [← e3]; exact shaL_ok p)
 have al : ∀ {X : Nat → List Int}, (∀ j, X j = S j ∨ (j = c ∧ X j = encB s)) → ∀ i, i < k → X i = zB ∨ (aliv (upF g c s i) ∧ X i = encB (upF g c s i)) := fun {X} hX i hi => by
  by_cases hic : i = c
  ·subst hic
   rw [e1]
   rcases hX i with h3 | ⟨_, h3⟩
   ·rcases h.aS i hi with h4 | h4
    ·exact .inl (h3.trans h4)
    ·exact absurd hz fun hz => alivZ hz h4.1
   ·exact .inr ⟨hal, h3⟩
  ·rw [e2 i hic, (hX i).resolve_right fun h => hic h.1]
   exact h.aS i hi
 have hi : ∀ {X : Nat → List Int}, (∀ j, X j = S j ∨ (j = c ∧ X j = encB s)) → ∀ j, k ≤ j → X j = S j := fun hX j hj => (hX j).resolve_right fun h => by omega
 have us : ∀ {X : Nat → List Int}, (∀ j, X j = S j ∨ (j = c ∧ X j = encB s)) → ∀ j, U8ok (X j) := fun {X} hX j => by
  rcases hX j with h3 | ⟨_, h3⟩
  ·rw [h3]; exact h.uS j
  ·rw [h3]; exact ue
 have sl : ∀ i, i < k → upF g c s i = zS ∨ SlT S n k A (upF g c s i) := fun i hi => by
  by_cases hic : i = c
  ·subst hic; rw [e1]; exact .inr hs
  ·rw [e2 i hic]; exact h.sl i hi
 refine ⟨fun i hk => by rw [e2 i (by omega)]; exact h.out i hk, fun i hk => (sl i hk).imp id fun h3 => h3.congr fun j q1 q2 => hi h1 j (by have := h3.f0; omega), fun i j hk hj ha hb => ?_, al h1, al h2, fun i hk ha j q1 q2 => ?_, us h1, us h2⟩
 ·by_cases hic : i = c
  ·subst hic
   rw [e2 j (by omega)] at hb ⊢
   rw [e1]
   exact hnew j (by omega) hb
  ·rw [e2 i hic] at ha ⊢
   by_cases hjc : j = c
   ·subst hjc
    rw [e1]
    exact fun e => hnew i hk ha e.symm
   ·rw [e2 j hjc] at hb ⊢
    exact h.two i j hk hj ha hb
 ·have h3 := (sl i hk).resolve_left fun hz => alivZ hz ha
  have := h3.f0
  rw [hi h1 j (by omega), hi h2 j (by omega)]
theorem Lasts.slot (h : Lasts S k g) {c : Nat} {s : SL} : Lasts (upS S c (encB s)) k (upF g c s) := fun i hi ha => by
 unfold upS upF at *
 by_cases hic : i = c
 ·rw [if_pos hic, if_pos hic]
 ·rw [if_neg hic, if_neg hic]
  rw [if_neg hic] at ha
  exact h i hi ha
def dpW (S : Nat → List Int) (G : List Nat) : Nat → List Int := fun i => if i ∈ G then zB else S i
theorem dpW_or (S : Nat → List Int) (G : List Nat) (i : Nat) : dpW S G i = S i ∨ dpW S G i = zB := by
 unfold dpW; split
 ·exact .inr rfl
 ·exact .inl rfl
theorem Cand.drop (h : Cand S S n k A g) {G : List Nat} (hG : ∀ a, a ∈ G → a < k) : Cand S (dpW S G) n k A g := by
 refine ⟨h.out, h.sl, h.two, h.aS, fun i hi => ?_, fun i hi ha j h1 h2 => ?_, h.uS, fun i => ?_⟩
 ·rcases dpW_or S G i with h1 | h1
  ·rw [h1]; exact h.aS i hi
  ·exact .inl h1
 ·have := (h.of hi ha).f0
  exact if_neg fun hc => by have := hG j hc; omega
 ·rcases dpW_or S G i with h1 | h1
  ·rw [h1]; exact h.uS i
  ·rw [h1]; exact zB_ok
theorem Cand.dropped (h : Cand S S n k A g) (hl : Lasts S k g) {G : List Nat} (hG : ∀ a, a ∈ G → a < k) : Cand (dpW S G) (dpW S G) n k A (goF g G) ∧ Lasts (dpW S G) k (goF g G) := by
 have hc := (h.drop hG).crash (X := dpW S G) fun i => .inr rfl
 have e : keepF (dpW S G) k g = goF g G := funext fun i => by
  unfold keepF goF
  by_cases h1 : i ∈ G
  ·rw [if_pos h1, if_neg (fun hc => hc.2 (if_pos h1))]
  ·rw [if_neg h1]
   have e2 : dpW S G i = S i := if_neg h1
   rw [e2]
   by_cases h2 : i < k
   ·by_cases h3 : S i = zB
    ·rw [if_neg (fun hc => hc.2 h3)]
     rcases h.sl i h2 with h4 | h4
     ·exact h4.symm
     ·have e3 := hl i h2 (by unfold aliv; rw [h4.kd]; decide)
      exact absurd (e3.symm.trans h3) (enc_nz h4.kd)
    ·rw [if_pos ⟨h2, h3⟩]
   ·rw [if_neg (fun hc => h2 hc.1)]; exact (h.out i (by omega)).symm
 have hl2 := keep_lasts (h.drop hG) (X := dpW S G) fun i => .inr rfl
 rw [e] at hc hl2
 exact ⟨hc, hl2⟩
end
theorem rm_free {g : Nat → SL} {c : Nat} {nd n d : Int} (hs : KSrt SL.fr g 0 c) (hn : ∀ x, x < c → (g x).fr + needZ (g x).size ≤ n ∧ 0 ≤ needZ (g x).size) (hd : 0 ≤ d) (hnd : 0 ≤ nd) : ∀ (r i : Nat) (p : Int), i + r = c → d ≤ p → (∀ x, x < i → (g x).fr + needZ (g x).size ≤ p) → 0 ≤ rmGo g nd n r i p →
  d ≤ rmGo g nd n r i p ∧ rmGo g nd n r i p + nd ≤ n ∧ ∀ x, x < c → (g x).fr + needZ (g x).size ≤ rmGo g nd n r i p ∨ rmGo g nd n r i p + nd ≤ (g x).fr
 | 0, i, p, hi, hp, hx, h0 => by
  have e : rmGo g nd n 0 i p = if n - p < nd then -1 else p := rfl
  rw [e] at h0 ⊢
  by_cases h1 : n - p < nd
  ·rw [if_pos h1] at h0; omega
  ·rw [if_neg h1]
   exact ⟨hp, by omega, fun x hxc => .inl (hx x (by omega))⟩
 | r + 1, i, p, hi, hp, hx, h0 => by
  have e : rmGo g nd n (r + 1) i p = if (g i).fr - p < nd then rmGo g nd n r (i + 1) (maxI p ((g i).fr + needZ (g i).size)) else p := rfl
  rw [e] at h0 ⊢
  by_cases h1 : (g i).fr - p < nd
  ·rw [if_pos h1] at h0 ⊢
   have m1 : p ≤ maxI p ((g i).fr + needZ (g i).size) := by unfold maxI; split <;> omega
   have m2 : (g i).fr + needZ (g i).size ≤ maxI p ((g i).fr + needZ (g i).size) := by unfold maxI; split <;> omega
   refine rm_free hs hn hd hnd r (i + 1) _ (by omega) (by omega) (fun x hx2 => ?_) h0
   rcases Nat.lt_or_ge x i with h2 | h2
   ·have := hx x h2; omega
   ·rw [show x = i by omega]; exact m2
  ·rw [if_neg h1]
   have hic : i < c := by omega
   have := hn i hic
   refine ⟨hp, by omega, fun x hxc => ?_⟩
   rcases Nat.lt_or_ge x i with h2 | h2
   ·exact .inl (hx x h2)
   ·have := hs.le SL.fr (Nat.zero_le _) h2 hxc
    exact .inr (by omega)
theorem pl_free {V : VS} {n k : Nat} {A : TE} {S W : Nat → List Int} (h : Cand S W n k A V.f) (hk : V.k = k) (hk5 : k ≤ 512) (hd : V.data = (k : Int)) {sum : List Int} {size : Int} (hs : 0 ≤ size) {kk N : Nat} (hN : (N : Int) = needZ size) (hb : plB V sum size = false) (hp : plZ V n sum size = (kk : Int)) :
  k ≤ kk ∧ kk + N ≤ n ∧ FreeR V.f k kk N := by
 unfold plZ at hp
 rw [if_neg (of_decide_eq_false hb)] at hp
 obtain ⟨hsr, hpm⟩ := tg_spec (V := V) h.ok (by omega)
 have hmem : ∀ x, x < V.tk.length → ∃ i, i < k ∧ V.tg x = V.f i ∧ tkP (V.f i) = true := fun x hx => by
  obtain ⟨y, _, hy, e⟩ := hpm.src (x := x) ⟨Nat.zero_le _, hx⟩
  have hm : gL V.tk y ∈ tkL V.f V.k := by
   unfold gL
   rw [List.getD_eq_getElem?_getD, List.getElem?_eq_getElem hy, Option.getD_some]
   exact List.getElem_mem hy
  obtain ⟨i, h1, h2, h3⟩ := tkL_mem.1 hm
  exact ⟨i, by omega, by rw [e, h2], by rw [h2]; exact h3⟩
 have al : ∀ s, tkP s = true → aliv s := fun s hs => by
  unfold tkP at hs; rw [Bool.and_eq_true, decide_eq_true_iff] at hs; exact hs.1
 have hn : ∀ x, x < V.tk.length → (V.tg x).fr + needZ (V.tg x).size ≤ (n : Int) ∧ 0 ≤ needZ (V.tg x).size := fun x hx => by
  obtain ⟨i, h1, h2, h3⟩ := hmem x hx
  have h4 := h.of h1 (al _ h3)
  rw [h2]; exact ⟨h4.f1, needZ_nn h4.ok.s0⟩
 have hr := rm_free (nd := needZ size) (n := (n : Int)) (d := V.data) hsr hn (by omega) (needZ_nn hs) V.tk.length 0 V.data (by omega) (by omega) (fun x hx => by omega) (by omega)
 rw [hp] at hr
 obtain ⟨r1, r2, r3⟩ := hr
 refine ⟨by omega, by omega, fun i hi ha => ?_⟩
 by_cases hz : 0 < (V.f i).size
 ·have ht : tkP (V.f i) = true := by unfold tkP; rw [decide_eq_true hz, decide_eq_true (show ¬ (V.f i).kind = 0 from ha)]; rfl
  have hm : V.f i ∈ tkL V.f V.k := tkL_mem.2 ⟨i, by omega, rfl, ht⟩
  obtain ⟨y, hy, e⟩ := List.getElem_of_mem hm
  obtain ⟨x, _, hx, e2⟩ := hpm.dst (y := y) ⟨Nat.zero_le _, hy⟩
  have e3 : gL V.tk y = V.f i := by
   unfold gL
   rw [List.getD_eq_getElem?_getD, List.getElem?_eq_getElem (show y < V.tk.length from hy), Option.getD_some]; exact e
  have := r3 x hx
  rw [e2, e3] at this
  omega
 ·have := (h.of hi ha).ok.s0
  refine .inr (.inr (.inl ?_))
  rw [show (V.f i).size = 0 by omega]; decide
end Go.Proofs.Ytdkfbbjpblfclaa
