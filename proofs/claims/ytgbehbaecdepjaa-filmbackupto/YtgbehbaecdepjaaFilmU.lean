/- Walks and facts of this seat's program over abstract states, printed by a program of mine; no conditions but those that each theorem names. -/
import Derived.Test.YtgbehbaecdepjaaFilmT
import Derived.Test.YtgbehbaecdepjaaFilmG
set_option linter.unusedSimpArgs false
set_option linter.unusedVariables false
set_option maxRecDepth 100000
set_option maxHeartbeats 4000000
namespace Go.Proofs.Ytgbehbaecdepjaa
open Go Go.Eng

theorem okB_n {bs : List Int} (h : okB bs = false) : (erV bs == 0) = false := by
  unfold erV; split
  · rfl
  · rename_i hc; simpa using hc
def Byt (xs : List Int) : Prop := ∀ x, x ∈ xs → 0 ≤ x ∧ x ≤ 255
theorem Byt.app {a b : List Int} (ha : Byt a) (hb : Byt b) : Byt (a ++ b) := fun x h => (List.mem_append.1 h).elim (ha x) (hb x)
theorem byt_num (x : Int) : ∀ k, Byt (numL x k)
  | 0 => fun _ h => by cases h
  | k + 1 => (byt_num x k).app fun y h => by rw [List.mem_singleton.1 h, wrap8]; omega
theorem byt_catL (s : Nat) (f : Nat → Int) : ∀ n, Byt (catL s f n)
  | 0 => fun _ h => by cases h
  | n + 1 => (byt_catL s f n).app (byt_num _ _)
theorem byt_catV (G : Nat → Nat → Int) : ∀ n, Byt (catV G n)
  | 0 => fun _ h => by cases h
  | n + 1 => (byt_catV G n).app (byt_catL _ _ _)
theorem Byt.at {xs : List Int} (h : Byt xs) (i : Nat) : 0 ≤ byB xs i ∧ byB xs i ≤ 255 := by
  unfold byB
  rw [List.getD_eq_getElem?_getD]
  cases hq : xs[i]? with
  | none => simp
  | some x => exact h x (List.mem_of_getElem? hq)
theorem byt_film (W H : Int) (n : Nat) (GL GN GB : Nat → Nat → Int) (fD fS fF : Nat → Int) : Byt (catL 2 (wh W H) 2 ++ (catV GL n ++ (catL 5 fD n ++ (catV GN n ++ (catV GB n ++ (catL 2 fS n ++ catL 2 fF n)))))) :=
  (byt_catL _ _ _).app ((byt_catV _ _).app ((byt_catL _ _ _).app ((byt_catV _ _).app ((byt_catV _ _).app ((byt_catL _ _ _).app (byt_catL _ _ _))))))
theorem dec_back (W H : Int) (r0 n : Nat) (GL GN GB : Nat → Nat → Int) (fD fS fF : Nat → Int) (m : AMem) (hp : ∃ k ez, m[r0]? = some ⟨k, 5, 0, ez, u8l (catL 2 (wh W H) 2 ++ (catV GL n ++ (catL 5 fD n ++ (catV GN n ++ (catV GB n ++ (catL 2 fS n ++ catL 2 fF n))))))⟩) (hr : filmR W H n n n n n n fS fF = true) (hh : HeldP n n n n GL GN GB fD) (hn : n ≤ 1048576) : Ctr Try.prog 22 [.one (.sl r0 0 0 (catL 2 (wh W H) 2 ++ (catV GL n ++ (catL 5 fD n ++ (catV GN n ++ (catV GB n ++ (catL 2 fS n ++ catL 2 fF n)))))).length)] m (.tup [(true, [.int .i64 W, .int .i64 H, .sl m.length 0 0 n, .sl (m.length + 1) 0 0 n, .sl (m.length + 2) 0 0 n, .sl (m.length + 3) 0 0 n, .sl (m.length + 4) 0 0 n, .sl (m.length + 5) 0 0 n]), (false, [.int .i64 0])]) (m ++ [⟨.grow, 68, 0, 3, dl n GL⟩, ⟨.grow, 66, 0, 1, il n fD⟩, ⟨.grow, 73, 0, 3, dl n GN⟩, ⟨.grow, 68, 0, 3, dl n GB⟩, ⟨.grow, 3, 0, 1, il n fS⟩, ⟨.grow, 3, 0, 1, il n fF⟩]) := by
  obtain ⟨ok, w, h, np, gl, gn, gb, fd, fs, ff⟩ := back_film hr hh (bs := (catL 2 (wh W H) 2 ++ (catV GL n ++ (catL 5 fD n ++ (catV GN n ++ (catV GB n ++ (catL 2 fS n ++ catL 2 fF n))))))) rfl
  have hl : (catL 2 (wh W H) 2 ++ (catV GL n ++ (catL 5 fD n ++ (catV GN n ++ (catV GB n ++ (catL 2 fS n ++ catL 2 fF n)))))).length ≤ 1073741824 := by simp only [List.length_append, catL_len, catV_len]; omega
  have hu := fun i => (byt_film W H n GL GN GB fD fS fF).at i
  revert ok w h np gl gn gb fd fs ff hl hu hp
  generalize (catL 2 (wh W H) 2 ++ (catV GL n ++ (catL 5 fD n ++ (catV GN n ++ (catV GB n ++ (catL 2 fS n ++ catL 2 fF n)))))) = bs
  intro hp ok w h np gl gn gb fd fs ff hl hu
  have hd := dec_T r0 bs m hp hl hu ok
  rw [h, w, np, gl, gn, gb, fd, fs, ff] at hd
  exact hd
theorem enc_back (r0 r1 r2 r3 r4 r5 : Nat) (bs : List Int) (m : AMem) (hu : ∀ i, 0 ≤ byB bs i ∧ byB bs i ≤ 255) (hok : okB bs = true) (h0 : ∃ k ez, m[r0]? = some ⟨k, 68, 0, ez, dl (npS bs (0, 0)) (GH bs (0, 0))⟩) (h1 : ∃ k ez, m[r1]? = some ⟨k, 66, 0, ez, il (npS bs (0, 0)) (xD bs)⟩) (h2 : ∃ k ez, m[r2]? = some ⟨k, 73, 0, ez, dl (npS bs (0, 0)) (xN bs)⟩) (h3 : ∃ k ez, m[r3]? = some ⟨k, 68, 0, ez, dl (npS bs (0, 0)) (xB bs)⟩) (h4 : ∃ k ez, m[r4]? = some ⟨k, 3, 0, ez, il (npS bs (0, 0)) (xS bs)⟩) (h5 : ∃ k ez, m[r5]? = some ⟨k, 3, 0, ez, il (npS bs (0, 0)) (xF bs)⟩) : Ctr Try.prog 17 [.agg [.int .i64 (rdV bs 2 (0, 0)), .int .i64 (rdV bs 2 (rdS bs.length 2 (0, 0))), .sl r0 0 0 (npS bs (0, 0)), .sl r1 0 0 (npS bs (0, 0)), .sl r2 0 0 (npS bs (0, 0)), .sl r3 0 0 (npS bs (0, 0)), .sl r4 0 0 (npS bs (0, 0)), .sl r5 0 0 (npS bs (0, 0))]] m (.tup [(false, [.sl m.length 0 0 bs.length]), (false, [.int .i64 0])]) (m ++ [⟨.grow, 5, 0, 1, u8l bs⟩]) := by
  have h20 : npS bs (0, 0) ≤ 1048576 := np20 (hs_all (Dok (okB_5 hok)).2.2.2.2)
  obtain ⟨hrg, hb⟩ := film_bytes hu hok
  have h := encF_ok (rdV bs 2 (0, 0)) (rdV bs 2 (rdS bs.length 2 (0, 0))) r0 (npS bs (0, 0)) r1 (npS bs (0, 0)) r2 (npS bs (0, 0)) r3 (npS bs (0, 0)) r4 (npS bs (0, 0)) r5 (npS bs (0, 0)) (GH bs (0, 0)) (xN bs) (xB bs) (xD bs) (xS bs) (xF bs) m h0 h1 h2 h3 h4 h5 h20 h20 h20 h20 h20 h20 hrg
  rw [hb] at h
  exact h
theorem encS_back (r0 : Nat) (bs : List Int) (m : AMem) (hu : ∀ i, 0 ≤ byB bs i ∧ byB bs i ≤ 255) (hs : (endS bs.length (hsS bs (0, 0) (npS bs (0, 0)))).2 = 0) (h0 : ∃ k ez, m[r0]? = some ⟨k, 68, 0, ez, dl (npS bs (0, 0)) (GH bs (0, 0))⟩) : Ctr Try.prog 16 [.agg [.int .i64 (rdV bs 2 (0, 0)), .int .i64 (rdV bs 2 (rdS bs.length 2 (0, 0))), .sl r0 0 0 (npS bs (0, 0))]] m (.tup [(false, [.sl m.length 0 0 bs.length]), (false, [.int .i64 0])]) (m ++ [⟨.grow, 5, 0, 1, u8l bs⟩]) := by
  have hz : (hsS bs (0, 0) (npS bs (0, 0))).2 = 0 ∧ ¬ (hsS bs (0, 0) (npS bs (0, 0))).1 < bs.length := by
    unfold endS at hs
    split at hs
    · exact absurd hs (by simp)
    · rename_i hc
      exact ⟨hs, fun hlt => hc ⟨hs, hlt⟩⟩
  have h20 : npS bs (0, 0) ≤ 1048576 := np20 (hs_all hz.1)
  obtain ⟨hsz, hb⟩ := sheet_bytes hu hz.1
  rw [List.drop_eq_nil_of_le (by omega), List.append_nil] at hb
  have hsh : shR (rdV bs 2 (0, 0)) (rdV bs 2 (rdS bs.length 2 (0, 0))) (npS bs (0, 0)) = true := by
    unfold shR; rw [show szR (rdV bs 2 (0, 0)) (rdV bs 2 (rdS bs.length 2 (0, 0))) = true from hsz, np_w hu]; simp
  have h := encS_ok (rdV bs 2 (0, 0)) (rdV bs 2 (rdS bs.length 2 (0, 0))) r0 0 (npS bs (0, 0)) (GH bs (0, 0)) m h0 h20 hsh
  rw [← hb] at h
  exact h
def fB (W H : Int) (n : Nat) (GL GN GB : Nat → Nat → Int) (fD fS fF : Nat → Int) : List Int := (catL 2 (wh W H) 2 ++ (catV GL n ++ (catL 5 fD n ++ (catV GN n ++ (catV GB n ++ (catL 2 fS n ++ catL 2 fF n))))))
theorem dec_fB (W H : Int) (r0 n : Nat) (GL GN GB : Nat → Nat → Int) (fD fS fF : Nat → Int) (m : AMem) (hp : ∃ k ez, m[r0]? = some ⟨k, 5, 0, ez, u8l (fB W H n GL GN GB fD fS fF)⟩) (hr : filmR W H n n n n n n fS fF = true) (hh : HeldP n n n n GL GN GB fD) (hn : n ≤ 1048576) : Ctr Try.prog 22 [.one (.sl r0 0 0 (fB W H n GL GN GB fD fS fF).length)] m (.tup [(true, [.int .i64 W, .int .i64 H, .sl m.length 0 0 n, .sl (m.length + 1) 0 0 n, .sl (m.length + 2) 0 0 n, .sl (m.length + 3) 0 0 n, .sl (m.length + 4) 0 0 n, .sl (m.length + 5) 0 0 n]), (false, [.int .i64 0])]) (m ++ [⟨.grow, 68, 0, 3, dl n GL⟩, ⟨.grow, 66, 0, 1, il n fD⟩, ⟨.grow, 73, 0, 3, dl n GN⟩, ⟨.grow, 68, 0, 3, dl n GB⟩, ⟨.grow, 3, 0, 1, il n fS⟩, ⟨.grow, 3, 0, 1, il n fF⟩]) :=
  dec_back W H r0 n GL GN GB fD fS fF m hp hr hh hn
theorem enc_fB (W H : Int) (r0 r1 r2 r3 r4 r5 n : Nat) (GL GN GB : Nat → Nat → Int) (fD fS fF : Nat → Int) (m : AMem) (h0 : ∃ k ez, m[r0]? = some ⟨k, 68, 0, ez, dl n GL⟩) (h1 : ∃ k ez, m[r1]? = some ⟨k, 66, 0, ez, il n fD⟩) (h2 : ∃ k ez, m[r2]? = some ⟨k, 73, 0, ez, dl n GN⟩) (h3 : ∃ k ez, m[r3]? = some ⟨k, 68, 0, ez, dl n GB⟩) (h4 : ∃ k ez, m[r4]? = some ⟨k, 3, 0, ez, il n fS⟩) (h5 : ∃ k ez, m[r5]? = some ⟨k, 3, 0, ez, il n fF⟩) (hn : n ≤ 1048576) (hr : filmR W H n n n n n n fS fF = true) : Ctr Try.prog 17 [.agg [.int .i64 W, .int .i64 H, .sl r0 0 0 n, .sl r1 0 0 n, .sl r2 0 0 n, .sl r3 0 0 n, .sl r4 0 0 n, .sl r5 0 0 n]] m (.tup [(false, [.sl m.length 0 0 (fB W H n GL GN GB fD fS fF).length]), (false, [.int .i64 0])]) (m ++ [⟨.grow, 5, 0, 1, u8l (fB W H n GL GN GB fD fS fF)⟩]) :=
  encF_ok W H r0 n r1 n r2 n r3 n r4 n r5 n GL GN GB fD fS fF m h0 h1 h2 h3 h4 h5 hn hn hn hn hn hn hr
end Go.Proofs.Ytgbehbaecdepjaa
