/- Walks and facts of this seat's program over abstract states, printed by a program of mine; no conditions but those that each theorem names. -/
import Derived.Test.YtgbehbaecdepjaaFilmF
set_option linter.unusedSimpArgs false
set_option linter.unusedVariables false
set_option maxRecDepth 100000
set_option maxHeartbeats 4000000
namespace Go.Proofs.Ytgbehbaecdepjaa
open Go Go.Eng

theorem RetP.keep {P : Program} {tm : Tm} {mem : AMem} {L : Nat} {rs : List ResultVar} {ret : AV} {ex : Exit} (hex : ex = .normal ∨ ex = .ret) (hres : resA P rs tm mem = some ret) : RetP P rs L ret mem ex tm mem :=
  ⟨hex, ret, hres, fun ρ v w hv hm => ⟨ρ, hv, hm, fun _ _ _ _ h => h⟩⟩
/-- Reading: a place, an error; a number's bytes, the lowest first. -/
def byB (bs : List Int) (i : Nat) : Int := bs.getD i 0
theorem u8l_get {bs : List Int} {i : Nat} (h : i < bs.length) : (u8l bs)[i]? = some (.int .u8 (byB bs i)) := by
  simp only [u8l, List.getElem?_map, byB, List.getD_eq_getElem?_getD, List.getElem?_eq_getElem h]; rfl
def numV (bs : List Int) (p : Nat) : Nat → Int
  | 0 => 0
  | k + 1 => byB bs p + 256 * numV bs (p + 1) k
def rdS (n k : Nat) (s : Nat × Int) : Nat × Int := if s.2 = 0 then (if s.1 + k ≤ n then (s.1 + k, 0) else (s.1, 9)) else s
def rdV (bs : List Int) (k : Nat) (s : Nat × Int) : Int := if s.2 = 0 then (if s.1 + k ≤ bs.length then numV bs s.1 k else 0) else 0
def flS (x : Int) (s : Nat × Int) : Nat × Int := if s.2 = 0 then (s.1, x) else s
def cP (rb v n : Nat) (s : Nat × Int) : CV := if s.2 = 0 then .sl rb v s.1 (n - s.1) else .nils
/-- A reader behind a pointer: the program's; the document's. -/
structure RP (m : AMem) (r rb v : Nat) (bs : List Int) (s : Nat × Int) : Prop where
  hr : m[r]? = some ⟨.fix, 110, 0, 0, [cP rb v bs.length s, .int .i64 s.2]⟩
  hb : ∃ k ez, m[rb]? = some ⟨k, 5, v, ez, u8l bs⟩
  ne : r ≠ rb
  hp : s.1 ≤ bs.length
  hu : ∀ i, 0 ≤ byB bs i ∧ byB bs i ≤ 255
  hn : bs.length ≤ 1073741824
structure RQ (m : AMem) (r rb v : Nat) (bs : List Int) (s : Nat × Int) : Prop where
  hr : m[r]? = some ⟨.fix, 94, 0, 0, [.sl rb v 0 bs.length, .int .i64 (s.1 : Int), .int .i64 s.2]⟩
  hb : ∃ k ez, m[rb]? = some ⟨k, 5, v, ez, u8l bs⟩
  ne : r ≠ rb
  hp : s.1 ≤ bs.length
  hu : ∀ i, 0 ≤ byB bs i ∧ byB bs i ≤ 255
  hn : bs.length ≤ 1073741824
def pM (m : AMem) (r rb v : Nat) (bs : List Int) (s : Nat × Int) : AMem := m.set r ⟨.fix, 110, 0, 0, [cP rb v bs.length s, .int .i64 s.2]⟩
def qM (m : AMem) (r rb v : Nat) (bs : List Int) (s : Nat × Int) : AMem := m.set r ⟨.fix, 94, 0, 0, [.sl rb v 0 bs.length, .int .i64 (s.1 : Int), .int .i64 s.2]⟩
theorem rdS_le {n k : Nat} {s : Nat × Int} (h : s.1 ≤ n) : (rdS n k s).1 ≤ n := by unfold rdS; (repeat' split) <;> (try simp only) <;> omega
theorem flS_le {n : Nat} {x : Int} {s : Nat × Int} (h : s.1 ≤ n) : (flS x s).1 ≤ n := by unfold flS; split <;> exact h
section
variable {m : AMem} {r rb v : Nat} {bs : List Int} {s : Nat × Int}
theorem get_self {α : Type} {l : List α} {i : Nat} {x : α} (h : i < l.length) : (l.set i x)[i]? = some x := List.getElem?_set_self h
theorem RP.lt (h : RP m r rb v bs s) : r < m.length := get_lt h.hr
theorem RQ.lt (h : RQ m r rb v bs s) : r < m.length := get_lt h.hr
theorem RP.set (h : RP m r rb v bs s) {t : Nat × Int} (ht : t.1 ≤ bs.length) : RP (pM m r rb v bs t) r rb v bs t :=
  ⟨get_self h.lt, by obtain ⟨k, ez, hb⟩ := h.hb; exact ⟨k, ez, by unfold pM; rw [List.getElem?_set_ne h.ne]; exact hb⟩, h.ne, ht, h.hu, h.hn⟩
theorem RQ.set (h : RQ m r rb v bs s) {t : Nat × Int} (ht : t.1 ≤ bs.length) : RQ (qM m r rb v bs t) r rb v bs t :=
  ⟨get_self h.lt, by obtain ⟨k, ez, hb⟩ := h.hb; exact ⟨k, ez, by unfold qM; rw [List.getElem?_set_ne h.ne]; exact hb⟩, h.ne, ht, h.hu, h.hn⟩
theorem RP.app (h : RP m r rb v bs s) (L : AMem) : RP (m ++ L) r rb v bs s := ⟨lk_old h.hr L, by obtain ⟨k, ez, hb⟩ := h.hb; exact ⟨k, ez, lk_old hb L⟩, h.ne, h.hp, h.hu, h.hn⟩
theorem RQ.app (h : RQ m r rb v bs s) (L : AMem) : RQ (m ++ L) r rb v bs s := ⟨lk_old h.hr L, by obtain ⟨k, ez, hb⟩ := h.hb; exact ⟨k, ez, lk_old hb L⟩, h.ne, h.hp, h.hu, h.hn⟩
theorem pM_self (h : RP m r rb v bs s) : pM m r rb v bs s = m := set_self h.hr
theorem qM_self (h : RQ m r rb v bs s) : qM m r rb v bs s = m := set_self h.hr
theorem pM_two (s t : Nat × Int) : pM (pM m r rb v bs s) r rb v bs t = pM m r rb v bs t := List.set_set ..
theorem qM_two (s t : Nat × Int) : qM (qM m r rb v bs s) r rb v bs t = qM m r rb v bs t := List.set_set ..
theorem pM_app (h : r < m.length) (L : AMem) (t : Nat × Int) : pM (m ++ L) r rb v bs t = pM m r rb v bs t ++ L := List.set_append_left _ _ h
theorem qM_app (h : r < m.length) (L : AMem) (t : Nat × Int) : qM (m ++ L) r rb v bs t = qM m r rb v bs t ++ L := List.set_append_left _ _ h
theorem pM_len (t : Nat × Int) : (pM m r rb v bs t).length = m.length := List.length_set
theorem qM_len (t : Nat × Int) : (qM m r rb v bs t).length = m.length := List.length_set
theorem numV_b (hu : ∀ i, 0 ≤ byB bs i ∧ byB bs i ≤ 255) : ∀ (k p : Nat), 0 ≤ numV bs p k ∧ numV bs p k < (256 : Int) ^ k
  | 0, _ => by simp [numV]
  | k + 1, p => by
    have ih := numV_b hu k (p + 1)
    have := hu p
    have e : (256 : Int) ^ (k + 1) = 256 * 256 ^ k := by rw [Int.pow_succ, Int.mul_comm]
    simp only [numV]; rw [e]; omega
end
theorem fail_0 (r rb v : Nat) (bs : List Int) (p : Nat) (x : Int) (m : AMem) (h : RP m r rb v bs (p, 0)) (hx : (x != 0) = true) (hx2 : ¬ x = 0) : Ctr Try.prog 52 [.one (.ptr r 0 0), .one (.int .i64 x)] m (.tup []) (pM m r rb v bs (p, x)) := by
  refine Ctr.enter Try.func52 rfl (by decide) (rs := []) (nt := 24) rfl rfl fun hwf Q hQ => ?_
  have hr : m[r]? = some ⟨.fix, 110, 0, 0, [cP rb v bs.length (p, 0), .int .i64 0]⟩ := h.hr
  have lr := h.lt
  have hc : cP rb v bs.length (p, x) = .nils := by simp only [cP]; rw [if_neg hx2]
  have hM : m.set r ⟨.fix, 110, 0, 0, [.nils, .int .i64 x]⟩ = pM m r rb v bs (p, x) := by unfold pM; rw [hc]
  have gs : ∀ b : Blk, (m.set r b)[r]? = some b := fun b => get_self lr
  refine AW.seq_k fun K hK => ?_
  refine AW.region (by decide) ?_
  simp only [push_cast, simprocAttr, hr, hx, gs, List.set_set, hM]
  refine Thn_n ?_
  refine hK _ _ ?_
  clear hK K
  refine AW.cond_t rfl ?_
  refine AW.region (by decide) ?_
  simp only [push_cast, simprocAttr, hr, hx, gs, List.set_set, hM]
  refine hQ _ _ _ ?_
  first | refine RetP.keep (Or.inr rfl) ?_ | refine RetP.keep (Or.inl rfl) ?_
  · rfl
  
theorem fail_e (r rb v : Nat) (bs : List Int) (p : Nat) (e x : Int) (m : AMem) (h : RP m r rb v bs (p, e)) (he : (e == 0) = false) : Ctr Try.prog 52 [.one (.ptr r 0 0), .one (.int .i64 x)] m (.tup []) m := by
  refine Ctr.enter Try.func52 rfl (by decide) (rs := []) (nt := 24) rfl rfl fun hwf Q hQ => ?_
  have hr : m[r]? = some ⟨.fix, 110, 0, 0, [cP rb v bs.length (p, e), .int .i64 e]⟩ := h.hr
  have lr := h.lt
  refine AW.seq_k fun K hK => ?_
  refine AW.region (by decide) ?_
  simp only [push_cast, simprocAttr, hr, he]
  refine Thn_n ?_
  refine hK _ _ ?_
  clear hK K
  refine AW.cond_f rfl ?_
  refine AW.skip ?_
  refine hQ _ _ _ ?_
  first | refine RetP.keep (Or.inr rfl) ?_ | refine RetP.keep (Or.inl rfl) ?_
  · rfl
  
theorem fail_c (r rb v : Nat) (bs : List Int) (s : Nat × Int) (x : Int) (m : AMem) (h : RP m r rb v bs s) (hx : ¬ x = 0) : Ctr Try.prog 52 [.one (.ptr r 0 0), .one (.int .i64 x)] m (.tup []) (pM m r rb v bs (flS x s)) := by
  obtain ⟨p, e⟩ := s
  unfold flS
  by_cases he : e = 0
  · subst he; simp only [if_true]; exact fail_0 r rb v bs p x m h (by simpa using hx) hx
  · simp only [he, if_false]; rw [pM_self h]; exact fail_e r rb v bs p e x m h (by simpa using he)
theorem err_c (r rb v : Nat) (bs : List Int) (s : Nat × Int) (m : AMem) (h : RP m r rb v bs s) : Ctr Try.prog 46 [.one (.ptr r 0 0)] m (.one (.int .i64 s.2)) m := by
  refine Ctr.enter Try.func46 rfl (by decide) (rs := [.tmp 2]) (nt := 9) rfl rfl fun hwf Q hQ => ?_
  have hr := h.hr
  have lr := h.lt
  obtain ⟨kb, eb, hb⟩ := h.hb
  have lb := get_lt hb
  
  refine AW.seq_k fun K hK => ?_
  refine AW.region (by decide) ?_
  simp only [push_cast, simprocAttr, hr]
  refine Thn_n ?_
  refine hK _ _ ?_
  clear hK K
  refine AW.seq_k fun K hK => ?_
  refine AW.seq_k fun K hK => ?_
  refine AW.region (by decide) ?_
  simp only [push_cast, simprocAttr, hr]
  refine Thn_n ?_
  refine hK _ _ ?_
  clear hK K
  refine AW.cond_f rfl ?_
  refine AW.skip ?_
  refine Thn_n ?_
  refine hK _ _ ?_
  clear hK K
  refine AW.seq_k fun K hK => ?_
  refine AW.region (by decide) ?_
  simp only [push_cast, simprocAttr, hr]
  refine Thn_n ?_
  refine hK _ _ ?_
  clear hK K
  refine AW.ret ?_
  refine hQ _ _ _ ?_
  first | refine RetP.keep (Or.inr rfl) ?_ | refine RetP.keep (Or.inl rfl) ?_
  · rfl
  
theorem len_cP (rb v n : Nat) (s : Nat × Int) : True := trivial
def leftV (n : Nat) (s : Nat × Int) : Int := if s.2 = 0 then ((n - s.1 : Nat) : Int) else 0
theorem left_0 (r rb v : Nat) (bs : List Int) (p : Nat) (m : AMem) (h : RP m r rb v bs (p, 0)) : Ctr Try.prog 51 [.one (.ptr r 0 0)] m (.one (.int .i64 (((bs.length - p : Nat) : Int)))) m := by
  refine Ctr.enter Try.func51 rfl (by decide) (rs := [.tmp 2]) (nt := 10) rfl rfl fun hwf Q hQ => ?_
  have hc : cP rb v bs.length (p, 0) = .sl rb v p (bs.length - p) := by simp only [cP]; rfl
  have hr : m[r]? = some ⟨.fix, 110, 0, 0, [.sl rb v p (bs.length - p), .int .i64 0]⟩ := by rw [← hc]; exact h.hr
  have hw : IntKind.i64.wrap ((bs.length - p : Nat) : Int) = ((bs.length - p : Nat) : Int) := wi (by have := h.hn; omega)
  refine AW.seq_k fun K hK => ?_
  refine AW.region (by decide) ?_
  simp only [push_cast, simprocAttr, hr]
  refine Thn_n ?_
  refine hK _ _ ?_
  clear hK K
  refine AW.seq_k fun K hK => ?_
  refine AW.seq_k fun K hK => ?_
  refine AW.region (by decide) ?_
  simp only [push_cast, simprocAttr, hr]
  refine Thn_n ?_
  refine hK _ _ ?_
  clear hK K
  refine AW.cond_f rfl ?_
  refine AW.skip ?_
  refine Thn_n ?_
  refine hK _ _ ?_
  clear hK K
  refine AW.seq_k fun K hK => ?_
  refine AW.region (by decide) ?_
  simp only [push_cast, simprocAttr, hr]
  refine Thn_n ?_
  refine hK _ _ ?_
  clear hK K
  refine AW.ret ?_
  refine hQ _ _ _ ?_
  first | refine RetP.keep (Or.inr rfl) ?_ | refine RetP.keep (Or.inl rfl) ?_
  · rfl
  
theorem left_e (r rb v : Nat) (bs : List Int) (p : Nat) (e : Int) (he : ¬ e = 0) (m : AMem) (h : RP m r rb v bs (p, e)) : Ctr Try.prog 51 [.one (.ptr r 0 0)] m (.one (.int .i64 (0))) m := by
  refine Ctr.enter Try.func51 rfl (by decide) (rs := [.tmp 2]) (nt := 10) rfl rfl fun hwf Q hQ => ?_
  have hc : cP rb v bs.length (p, e) = .nils := by simp only [cP]; rw [if_neg he]
  have hr : m[r]? = some ⟨.fix, 110, 0, 0, [.nils, .int .i64 e]⟩ := by rw [← hc]; exact h.hr
  have hw : IntKind.i64.wrap ((bs.length - p : Nat) : Int) = ((bs.length - p : Nat) : Int) := wi (by have := h.hn; omega)
  refine AW.seq_k fun K hK => ?_
  refine AW.region (by decide) ?_
  simp only [push_cast, simprocAttr, hr]
  refine Thn_n ?_
  refine hK _ _ ?_
  clear hK K
  refine AW.seq_k fun K hK => ?_
  refine AW.seq_k fun K hK => ?_
  refine AW.region (by decide) ?_
  simp only [push_cast, simprocAttr, hr]
  refine Thn_n ?_
  refine hK _ _ ?_
  clear hK K
  refine AW.cond_f rfl ?_
  refine AW.skip ?_
  refine Thn_n ?_
  refine hK _ _ ?_
  clear hK K
  refine AW.seq_k fun K hK => ?_
  refine AW.region (by decide) ?_
  simp only [push_cast, simprocAttr, hr]
  refine Thn_n ?_
  refine hK _ _ ?_
  clear hK K
  refine AW.ret ?_
  refine hQ _ _ _ ?_
  first | refine RetP.keep (Or.inr rfl) ?_ | refine RetP.keep (Or.inl rfl) ?_
  · rfl
  
theorem left_c (r rb v : Nat) (bs : List Int) (s : Nat × Int) (m : AMem) (h : RP m r rb v bs s) : Ctr Try.prog 51 [.one (.ptr r 0 0)] m (.one (.int .i64 (leftV bs.length s))) m := by
  obtain ⟨p, e⟩ := s
  unfold leftV
  by_cases he : e = 0
  · subst he; simp only [if_true]; exact left_0 r rb v bs p m h
  · simp only [he, if_false]; exact left_e r rb v bs p e he m h
theorem take_e (r rb v : Nat) (bs : List Int) (p : Nat) (e : Int) (k : Nat) (he : (e != 0) = true) (m : AMem) (h : RP m r rb v bs (p, e)) : Ctr Try.prog 65 [.one (.ptr r 0 0), .one (.int .i64 (k : Int))] m (.one .nils) m := by
  refine Ctr.enter Try.func65 rfl (by decide) (rs := [.tmp 4]) (nt := 40) rfl rfl fun hwf Q hQ => ?_
  have hr : m[r]? = some ⟨.fix, 110, 0, 0, [cP rb v bs.length (p, e), .int .i64 e]⟩ := h.hr
  refine AW.seq_k fun K hK => ?_
  refine AW.region (by decide) ?_
  simp only [push_cast, simprocAttr, hr, he]
  refine Thn_n ?_
  refine hK _ _ ?_
  clear hK K
  refine AW.seq_k fun K hK => ?_
  refine AW.seq_k fun K hK => ?_
  refine AW.region (by decide) ?_
  simp only [push_cast, simprocAttr, hr, he]
  refine Thn_n ?_
  refine hK _ _ ?_
  clear hK K
  refine AW.cond_t rfl ?_
  refine AW.seq_k fun K hK => ?_
  refine AW.region (by decide) ?_
  simp only [push_cast, simprocAttr, hr, he]
  refine Thn_n ?_
  refine hK _ _ ?_
  clear hK K
  refine AW.ret ?_
  refine Thn_r ?_
  refine hQ _ _ _ ?_
  first | refine RetP.keep (Or.inr rfl) ?_ | refine RetP.keep (Or.inl rfl) ?_
  · rfl
  
theorem take_s (r rb v : Nat) (bs : List Int) (p k : Nat) (hk : bs.length < p + k) (m : AMem) (h : RP m r rb v bs (p, 0)) : Ctr Try.prog 65 [.one (.ptr r 0 0), .one (.int .i64 (k : Int))] m (.one .nils) (pM m r rb v bs (p, 9)) := by
  refine Ctr.enter Try.func65 rfl (by decide) (rs := [.tmp 4]) (nt := 40) rfl rfl fun hwf Q hQ => ?_
  have hc : cP rb v bs.length (p, 0) = .sl rb v p (bs.length - p) := by simp only [cP]; rfl
  have hr : m[r]? = some ⟨.fix, 110, 0, 0, [.sl rb v p (bs.length - p), .int .i64 0]⟩ := by rw [← hc]; exact h.hr
  have lr := h.lt
  have hn := h.hn
  have hp : p ≤ bs.length := h.hp
  have hlt : ((bs.length - p : Nat) : Int) < (k : Int) := by omega
  have hlt2 : (bs.length : Int) - (p : Int) < (k : Int) := by omega
  refine AW.seq_k fun K hK => ?_
  refine AW.region (by decide) ?_
  simp only [push_cast, simprocAttr, hr, hlt, hlt2]
  refine Thn_n ?_
  refine hK _ _ ?_
  clear hK K
  refine AW.seq_k fun K hK => ?_
  refine AW.seq_k fun K hK => ?_
  refine AW.region (by decide) ?_
  simp only [push_cast, simprocAttr, hr, hlt, hlt2]
  refine Thn_n ?_
  refine hK _ _ ?_
  clear hK K
  refine AW.cond_f rfl ?_
  refine AW.skip ?_
  refine Thn_n ?_
  refine hK _ _ ?_
  clear hK K
  refine AW.seq_k fun K hK => ?_
  refine AW.seq_k fun K hK => ?_
  refine AW.region (by decide) ?_
  simp only [push_cast, simprocAttr, hr, hlt, hlt2]
  refine Thn_n ?_
  refine hK _ _ ?_
  clear hK K
  refine AW.cond_t rfl ?_
  refine AW.seq_k fun K hK => ?_
  refine AW.region (by decide) ?_
  simp only [push_cast, simprocAttr, hr, hlt, hlt2]
  refine CThen.by (fail_0 r rb v bs p 9 _ h (by decide) (by decide)) ?_
  simp only [push_cast, simprocAttr, hr, hlt, hlt2]
  refine Thn_n ?_
  refine hK _ _ ?_
  clear hK K
  refine AW.seq_k fun K hK => ?_
  refine AW.region (by decide) ?_
  simp only [push_cast, simprocAttr, hr, hlt, hlt2]
  refine Thn_n ?_
  refine hK _ _ ?_
  clear hK K
  refine AW.ret ?_
  refine Thn_r ?_
  refine hQ _ _ _ ?_
  first | refine RetP.keep (Or.inr rfl) ?_ | refine RetP.keep (Or.inl rfl) ?_
  · rfl
  
theorem take_k (r rb v : Nat) (bs : List Int) (p k : Nat) (hk : p + k ≤ bs.length) (m : AMem) (h : RP m r rb v bs (p, 0)) : Ctr Try.prog 65 [.one (.ptr r 0 0), .one (.int .i64 (k : Int))] m (.one (.sl rb v p k)) (pM m r rb v bs (p + k, 0)) := by
  refine Ctr.enter Try.func65 rfl (by decide) (rs := [.tmp 4]) (nt := 40) rfl rfl fun hwf Q hQ => ?_
  have hc : cP rb v bs.length (p, 0) = .sl rb v p (bs.length - p) := by simp only [cP]; rfl
  have hr : m[r]? = some ⟨.fix, 110, 0, 0, [.sl rb v p (bs.length - p), .int .i64 0]⟩ := by rw [← hc]; exact h.hr
  have lr := h.lt
  have hn := h.hn
  have hp : p ≤ bs.length := h.hp
  generalize hd : bs.length - p = d at *
  have hlt : ¬ (d : Int) < (k : Int) := by omega
  have k0 : (0 : Int) ≤ (k : Int) := by omega
  have k1 : (k : Int) ≤ (d : Int) := by omega
  have k2 : k ≤ d := by omega
  have gs : ∀ b : Blk, (m.set r b)[r]? = some b := fun b => get_self lr
  have hc2 : cP rb v bs.length (p + k, 0) = .sl rb v (p + k) (d - k) := by
    simp only [cP, if_true]
    rw [show bs.length - (p + k) = d - k by omega]
  have hM : m.set r ⟨.fix, 110, 0, 0, [.sl rb v (p + k) (d - k), .int .i64 0]⟩ = pM m r rb v bs (p + k, 0) := by unfold pM; rw [hc2]
  refine AW.seq_k fun K hK => ?_
  refine AW.region (by decide) ?_
  simp only [push_cast, simprocAttr, hr, hlt, k0, k1, k2, hM, Nat.sub_zero, Int.le_refl, Nat.le_refl]
  iterate 2
    refine Thn_n ?_
    refine hK _ _ ?_
    clear hK K
    refine AW.seq_k fun K hK => ?_
    refine AW.seq_k fun K hK => ?_
    refine AW.region (by decide) ?_
    simp only [push_cast, simprocAttr, hr, hlt, k0, k1, k2, hM, Nat.sub_zero, Int.le_refl, Nat.le_refl]
    refine Thn_n ?_
    refine hK _ _ ?_
    clear hK K
    refine AW.cond_f rfl ?_
    refine AW.skip ?_
  iterate 3
    refine Thn_n ?_
    refine hK _ _ ?_
    clear hK K
    refine AW.seq_k fun K hK => ?_
    refine AW.region (by decide) ?_
    simp only [push_cast, simprocAttr, hr, hlt, k0, k1, k2, hM, Nat.sub_zero, Int.le_refl, Nat.le_refl]
  refine Thn_n ?_
  refine hK _ _ ?_
  clear hK K
  refine AW.ret ?_
  refine hQ _ _ _ ?_
  first | refine RetP.keep (Or.inr rfl) ?_ | refine RetP.keep (Or.inl rfl) ?_
  · rfl
  
end Go.Proofs.Ytgbehbaecdepjaa
