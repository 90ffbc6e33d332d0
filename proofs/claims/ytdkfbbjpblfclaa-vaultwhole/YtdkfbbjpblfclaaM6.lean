/- Walks and facts of this seat's program over abstract states, printed by programs of mine; no conditions but those that each theorem names. -/
import Derived.Test.YtdkfbbjpblfclaaM5
set_option linter.unusedSimpArgs false
set_option linter.unusedVariables false
set_option maxRecDepth 100000
set_option maxHeartbeats 4000000
namespace Go.Proofs.Ytdkfbbjpblfclaa
open Go Go.Eng
abbrev GE (α : Type) := List (Nat × List Int × α)
section
variable {α : Type} (cv : α → CV)
def gC (e : Nat × List Int × α) : Nat × List CV × List CV := (e.1, u8l e.2.1, [cv e.2.2])
def gM (E : GE α) : List (Nat × List CV × List CV) := E.map (gC cv)
variable {cv}
structure WfG (ck : Nat) (E : GE α) : Prop where
 len : ∀ e, e ∈ E → e.2.1.length = 32
 keys : (E.map (·.2.1)).Nodup
 old : ∀ e, e ∈ E → e.1 < ck
 borns : (E.map (·.1)).Nodup
def fndG (k : List Int) : GE α → Option Nat
 | [] => none
 | e :: E => if k = e.2.1 then some 0 else (fndG k E).map (· + 1)
def lkG (k : List Int) : GE α → Option α
 | [] => none
 | e :: E => if k = e.2.1 then some e.2.2 else lkG k E
def upG (ck : Nat) (k : List Int) (a : α) : GE α → GE α
 | [] => [(ck, k, a)]
 | e :: E => if k = e.2.1 then (e.1, k, a) :: E else e :: upG ck k a E
def upGc (ck : Nat) (k : List Int) (E : GE α) : Nat := if (fndG k E).isSome then ck else ck + 1
def delG (k : List Int) : GE α → GE α
 | [] => []
 | e :: E => if k = e.2.1 then E else e :: delG k E
def bnG (ck : Nat) (k : List Int) : GE α → Nat
 | [] => ck
 | e :: E => if k = e.2.1 then e.1 else bnG ck k E
theorem findL_gM {k : List Int} (hk : k.length = 32) : ∀ {E : GE α}, (∀ e, e ∈ E → e.2.1.length = 32) → findL (u8l k) (gM cv E) = some (fndG k E)
 | [], _ => rfl
 | e :: E, h => by
  have he := h e List.mem_cons_self
  have ih := findL_gM hk (E := E) fun x hx => h x (List.mem_cons_of_mem _ hx)
  show findL (u8l k) (gC cv e :: gM cv E) = _
  unfold findL
  rw [show (gC cv e).2.1 = u8l e.2.1 from rfl, keyEq_u8 (by rw [hk, he])]
  unfold fndG
  by_cases hc : k = e.2.1
  ·rw [decide_eq_true hc, if_pos hc]
  ·rw [decide_eq_false hc, if_neg hc, ih]; rfl
theorem fndG_none {k : List Int} : ∀ {E : GE α}, fndG k E = none → lkG k E = none ∧ (∀ ck, bnG ck k E = ck) ∧ (∀ ck a, upG ck k a E = E ++ [(ck, k, a)]) ∧ delG k E = E
 | [], _ => ⟨rfl, fun _ => rfl, fun _ _ => rfl, rfl⟩
 | e :: E, h => by
  unfold fndG at h
  by_cases hc : k = e.2.1
  ·rw [if_pos hc] at h; cases h
  ·rw [if_neg hc] at h
   obtain ⟨h1, h2, h3, h4⟩ := fndG_none (E := E) (by simpa using h)
   refine ⟨?_, fun ck => ?_, fun ck a => ?_, ?_⟩
   ·unfold lkG; rw [if_neg hc, h1]
   ·unfold bnG; rw [if_neg hc, h2]
   ·unfold upG; rw [if_neg hc, h3]; rfl
   ·unfold delG; rw [if_neg hc, h4]
theorem fndG_some {k : List Int} : ∀ {E : GE α} {j : Nat}, fndG k E = some j → ∃ b a, E[j]? = some (b, k, a) ∧ lkG k E = some a ∧ (∀ ck, bnG ck k E = b) ∧ (∀ ck x, upG ck k x E = E.set j (b, k, x)) ∧ delG k E = E.eraseIdx j
 | [], _, h => by cases h
 | e :: E, j, h => by
  unfold fndG at h
  by_cases hc : k = e.2.1
  ·rw [if_pos hc] at h
   injection h with h; subst h; subst hc
   exact ⟨e.1, e.2.2, rfl, if_pos rfl, fun _ => if_pos rfl, fun _ _ => if_pos rfl, if_pos rfl⟩
  ·rw [if_neg hc] at h
   obtain ⟨i, hi, rfl⟩ := Option.map_eq_some_iff.1 h
   obtain ⟨b, a, h1, h2, h3, h4, h5⟩ := fndG_some hi
   refine ⟨b, a, h1, ?_, fun ck => ?_, fun ck x => ?_, ?_⟩
   ·unfold lkG; rw [if_neg hc, h2]
   ·unfold bnG; rw [if_neg hc, h3]
   ·unfold upG; rw [if_neg hc, h4]; rfl
   ·unfold delG; rw [if_neg hc, h5]; rfl
theorem lkG_up {ck : Nat} {k : List Int} {a : α} (x : List Int) : ∀ E : GE α, lkG x (upG ck k a E) = if x = k then some a else lkG x E
 | [] => by
  unfold upG lkG lkG
  by_cases h : x = k <;> simp [h]
 | e :: E => by
  have ih := lkG_up (ck := ck) (k := k) (a := a) x E
  unfold upG
  by_cases hc : k = e.2.1
  ·rw [if_pos hc]
   unfold lkG
   by_cases hx : x = k
   ·rw [if_pos hx, if_pos hx]
   ·rw [if_neg hx, if_neg hx, if_neg (by rw [← hc]; exact hx)]
  ·rw [if_neg hc]
   unfold lkG
   by_cases hx : x = e.2.1
   ·rw [if_pos hx, if_pos hx, if_neg (fun h => hc (by rw [← h, hx]))]
   ·rw [if_neg hx, if_neg hx, ih]
theorem lkG_none {k : List Int} : ∀ {E : GE α}, (∀ e, e ∈ E → ¬ e.2.1 = k) → lkG k E = none
 | [], _ => rfl
 | e :: E, h => by
  unfold lkG
  rw [if_neg (fun hc => h e List.mem_cons_self hc.symm), lkG_none fun x hx => h x (List.mem_cons_of_mem _ hx)]
theorem lkG_del {k : List Int} (x : List Int) : ∀ {E : GE α}, (E.map (·.2.1)).Nodup → lkG x (delG k E) = if x = k then none else lkG x E
 | [], _ => by unfold delG lkG; simp
 | e :: E, h => by
  rw [List.map_cons, List.nodup_cons] at h
  have ih := lkG_del (k := k) x h.2
  unfold delG
  by_cases hc : k = e.2.1
  ·rw [if_pos hc]
   by_cases hx : x = k
   ·rw [if_pos hx]
    refine lkG_none fun y hy he => h.1 ?_
    rw [← hc, ← hx, ← he]; exact List.mem_map_of_mem (f := (·.2.1)) hy
   ·rw [if_neg hx]
    conv => rhs; unfold lkG
    rw [if_neg (by rw [← hc]; exact hx)]
  ·rw [if_neg hc]
   unfold lkG
   by_cases hx : x = e.2.1
   ·rw [if_pos hx, if_pos hx, if_neg (fun h => hc (by rw [← h, hx]))]
   ·rw [if_neg hx, if_neg hx, ih]
theorem fndG_mem {k : List Int} : ∀ {E : GE α}, (fndG k E).isSome = true ↔ k ∈ E.map (·.2.1)
 | [] => by simp [fndG]
 | e :: E => by
  have ih := fndG_mem (k := k) (E := E)
  unfold fndG
  by_cases hc : k = e.2.1
  ·rw [if_pos hc, hc]; simp
  ·rw [if_neg hc, Option.isSome_map, ih, List.map_cons, List.mem_cons]
   exact ⟨.inr, fun h => h.resolve_left hc⟩
theorem WfG.up {ck : Nat} {E : GE α} (h : WfG ck E) {k : List Int} (hk : k.length = 32) (a : α) : WfG (upGc ck k E) (upG ck k a E) := by
 unfold upGc
 cases hf : fndG k E with
 | none =>
  obtain ⟨_, _, h3, _⟩ := fndG_none hf
  have hn : k ∉ E.map (·.2.1) := fun hc => by have := fndG_mem.2 hc; rw [hf] at this; cases this
  rw [h3]
  refine ⟨fun e he => ?_, ?_, fun e he => ?_, ?_⟩
  ·rcases List.mem_append.1 he with h1 | h1
   ·exact h.len e h1
   ·rw [List.mem_singleton.1 h1]; exact hk
  ·rw [List.map_append, List.nodup_append]
   exact ⟨h.keys, by simp, fun x hx y hy e => by simp at hy; subst hy; subst e; exact hn hx⟩
  ·show e.1 < ck + 1
   rcases List.mem_append.1 he with h1 | h1
   ·have := h.old e h1; omega
   ·rw [List.mem_singleton.1 h1]; exact Nat.lt_succ_self _
  ·rw [List.map_append, List.nodup_append]
   refine ⟨h.borns, by simp, fun x hx y hy e => ?_⟩
   simp at hy; subst hy; subst e
   obtain ⟨z, hz, e⟩ := List.mem_map.1 hx
   have := h.old z hz
   omega
 | some j =>
  obtain ⟨b, x, h1, _, _, h4, _⟩ := fndG_some hf
  rw [h4]
  have hj := (List.getElem?_eq_some_iff.1 h1).1
  have hm := List.mem_of_getElem? h1
  have e1 : (E.set j (b, k, a)).map (·.2.1) = E.map (·.2.1) := by
   rw [List.map_set]
   exact List.ext_getElem? fun i => by
    by_cases hi : i = j
    ·subst hi; rw [List.getElem?_set_self (by simpa using hj), List.getElem?_map, h1]; rfl
    ·rw [List.getElem?_set_ne (Ne.symm hi)]
  have e2 : (E.set j (b, k, a)).map (·.1) = E.map (·.1) := by
   rw [List.map_set]
   exact List.ext_getElem? fun i => by
    by_cases hi : i = j
    ·subst hi; rw [List.getElem?_set_self (by simpa using hj), List.getElem?_map, h1]; rfl
    ·rw [List.getElem?_set_ne (Ne.symm hi)]
  refine ⟨fun e he => ?_, by rw [e1]; exact h.keys, fun e he => ?_, by rw [e2]; exact h.borns⟩
  ·rcases List.mem_or_eq_of_mem_set he with h5 | h5
   ·exact h.len e h5
   ·rw [h5]; exact hk
  ·show e.1 < ck
   rcases List.mem_or_eq_of_mem_set he with h5 | h5
   ·exact h.old e h5
   ·rw [h5]; exact h.old (b, k, x) hm
theorem WfG.del {ck : Nat} {E : GE α} (h : WfG ck E) (k : List Int) : WfG ck (delG k E) := by
 have sub : ∀ E : GE α, (delG k E).Sublist E := fun E => by
  cases hf : fndG k E with
  | none => rw [(fndG_none hf).2.2.2]; exact List.Sublist.refl _
  | some j => obtain ⟨_, _, _, _, _, _, h5⟩ := fndG_some hf; rw [h5]; exact List.eraseIdx_sublist E j
 have s := sub E
 exact ⟨fun e he => h.len e (s.subset he), (s.map _).nodup h.keys, fun e he => h.old e (s.subset he), (s.map _).nodup h.borns⟩
end
def mapS (ck : Nat) (E : GE ByteArray) : Blk := ⟨.map true false ck (gM CV.str E), 47, 0, 0, []⟩
abbrev MV := Option (Nat × Nat × List ByteArray)
def cvM : MV → CV
 | none => .nils
 | some (r, v, l) => .sl r v 0 l.length
def mapM (ck : Nat) (E : GE MV) : Blk := ⟨.map true false ck (gM cvM E), 48, 0, 0, []⟩
def sT (k : List Int) (E : GE ByteArray) : ByteArray := (lkG k E).getD ByteArray.empty
def hT (k : List Int) (E : GE ByteArray) : Bool := (lkG k E).isSome
def cM (k : List Int) (E : GE MV) : CV := match lkG k E with | some a => cvM a | none => .nils
theorem er_map {α β : Type} (f : α → β) : ∀ (l : List α) (j : Nat), (l.eraseIdx j).map f = (l.map f).eraseIdx j
 | [], j => by simp
 | x :: l, 0 => rfl
 | x :: l, j + 1 => by
  show f x :: (l.eraseIdx j).map f = f x :: (l.map f).eraseIdx j
  rw [er_map f l j]
theorem scI_u8 (k : List Int) : (u8l k).all (scI Try.prog 5) = true := by
 simp only [u8l, List.all_map, List.all_eq_true]; intro x _; rfl
section
variable {M : AMem} {r ck : Nat} {k : List Int}
theorem lookS {E : GE ByteArray} (hM : M[r]? = some (mapS ck E)) (hE : WfG ck E) (hk : k.length = 32) : lookupA Try.prog 47 (.one (.mp r 0)) (.agg (u8l k)) true M = some (.tup [(false, [.str (sT k E)]), (false, [.bool (hT k E)])]) := by
 have fl := findL_gM (cv := CV.str) hk hE.len
 have ki := scI_u8 k
 have kl : (u8l k).length = 32 := by rw [u8l_len]; exact hk
 unfold sT hT
 cases hf : fndG k E with
 | none =>
  rw [hf] at fl
  rw [(fndG_none hf).1]
  simp only [push_cast, simprocAttr, hM, mapS, fl, ki, kl]
  rfl
 | some j =>
  rw [hf] at fl
  obtain ⟨b, a, h1, h2, _⟩ := fndG_some hf
  have g : (gM CV.str E)[j]? = some (b, u8l k, [.str a]) := by unfold gM; rw [List.getElem?_map, h1]; rfl
  rw [h2]
  simp only [push_cast, simprocAttr, hM, mapS, fl, ki, kl, g]
theorem lookM {E : GE MV} (hM : M[r]? = some (mapM ck E)) (hE : WfG ck E) (hk : k.length = 32) : lookupA Try.prog 48 (.one (.mp r 0)) (.agg (u8l k)) false M = some (.one (cM k E)) := by
 have fl := findL_gM (cv := cvM) hk hE.len
 have ki := scI_u8 k
 have kl : (u8l k).length = 32 := by rw [u8l_len]; exact hk
 unfold cM
 cases hf : fndG k E with
 | none =>
  rw [hf] at fl
  rw [(fndG_none hf).1]
  simp only [push_cast, simprocAttr, hM, mapM, fl, ki, kl]
 | some j =>
  rw [hf] at fl
  obtain ⟨b, a, h1, h2, _⟩ := fndG_some hf
  have g : (gM cvM E)[j]? = some (b, u8l k, [cvM a]) := by unfold gM; rw [List.getElem?_map, h1]; rfl
  rw [h2]
  simp only [push_cast, simprocAttr, hM, mapM, fl, ki, kl, g]
theorem putS {E : GE ByteArray} (hM : M[r]? = some (mapS ck E)) (hE : WfG ck E) (hk : k.length = 32) (s : ByteArray) : mapUpA Try.prog 47 (.one (.mp r 0)) (.agg (u8l k)) (.one (.str s)) M = some (M.set r (mapS (upGc ck k E) (upG ck k s E))) := by
 have fl := findL_gM (cv := CV.str) hk hE.len
 have ki := scI_u8 k
 have kl : (u8l k).length = 32 := by rw [u8l_len]; exact hk
 unfold upGc
 cases hf : fndG k E with
 | none =>
  rw [hf] at fl
  have e : gM CV.str (upG ck k s E) = gM CV.str E ++ [(ck, u8l k, [.str s])] := by rw [(fndG_none hf).2.2.1]; unfold gM; rw [List.map_append]; rfl
  simp only [push_cast, simprocAttr, hM, mapS, fl, ki, kl, setMap, e]
  rfl
 | some j =>
  rw [hf] at fl
  obtain ⟨b, a, h1, h2, _, h4, _⟩ := fndG_some hf
  have g : (gM CV.str E)[j]? = some (b, u8l k, [.str a]) := by unfold gM; rw [List.getElem?_map, h1]; rfl
  have e : gM CV.str (upG ck k s E) = (gM CV.str E).set j (b, u8l k, [.str s]) := by rw [h4]; unfold gM; rw [List.map_set]; rfl
  simp only [push_cast, simprocAttr, hM, mapS, fl, ki, kl, g, setMap, e]
theorem putM {E : GE MV} (hM : M[r]? = some (mapM ck E)) (hE : WfG ck E) (hk : k.length = 32) : mapUpA Try.prog 48 (.one (.mp r 0)) (.agg (u8l k)) (.one .nils) M = some (M.set r (mapM (upGc ck k E) (upG ck k none E))) := by
 have fl := findL_gM (cv := cvM) hk hE.len
 have ki := scI_u8 k
 have kl : (u8l k).length = 32 := by rw [u8l_len]; exact hk
 unfold upGc
 cases hf : fndG k E with
 | none =>
  rw [hf] at fl
  have e : gM cvM (upG ck k none E) = gM cvM E ++ [(ck, u8l k, [.nils])] := by rw [(fndG_none hf).2.2.1]; unfold gM; rw [List.map_append]; rfl
  simp only [push_cast, simprocAttr, hM, mapM, fl, ki, kl, setMap, e]
  rfl
 | some j =>
  rw [hf] at fl
  obtain ⟨b, a, h1, h2, _, h4, _⟩ := fndG_some hf
  have g : (gM cvM E)[j]? = some (b, u8l k, [cvM a]) := by unfold gM; rw [List.getElem?_map, h1]; rfl
  have e : gM cvM (upG ck k none E) = (gM cvM E).set j (b, u8l k, [.nils]) := by rw [h4]; unfold gM; rw [List.map_set]; rfl
  simp only [push_cast, simprocAttr, hM, mapM, fl, ki, kl, g, setMap, e]
theorem remS {E : GE ByteArray} (hM : M[r]? = some (mapS ck E)) (hE : WfG ck E) (hk : k.length = 32) : deleteA Try.prog 47 (.one (.mp r 0)) (.agg (u8l k)) M = some (.tup [], M.set r (mapS ck (delG k E))) := by
 have fl := findL_gM (cv := CV.str) hk hE.len
 have ki := scI_u8 k
 have kl : (u8l k).length = 32 := by rw [u8l_len]; exact hk
 cases hf : fndG k E with
 | none =>
  rw [hf] at fl
  have e : gM CV.str (delG k E) = gM CV.str E := by rw [(fndG_none hf).2.2.2]
  simp only [push_cast, simprocAttr, hM, mapS, fl, ki, kl, setMap, e]
 | some j =>
  rw [hf] at fl
  obtain ⟨b, a, h1, h2, _, h4, h5⟩ := fndG_some hf
  have e : gM CV.str (delG k E) = (gM CV.str E).eraseIdx j := by rw [h5]; exact er_map _ _ _
  simp only [push_cast, simprocAttr, hM, mapS, fl, ki, kl, setMap, e]
end
theorem bnG_up {α : Type} {ck ck2 : Nat} {k : List Int} {a : α} : ∀ E : GE α, bnG ck2 k (upG ck k a E) = bnG ck k E
 | [] => by unfold upG bnG; exact if_pos rfl
 | e :: E => by
  have ih := bnG_up (ck := ck) (ck2 := ck2) (k := k) (a := a) E
  unfold upG
  by_cases hc : k = e.2.1
  ·rw [if_pos hc]
   unfold bnG
   rw [if_pos rfl, if_pos hc]
  ·rw [if_neg hc]
   unfold bnG
   rw [if_neg hc, if_neg hc, ih]
theorem upG_up {α : Type} {ck ck2 : Nat} {k : List Int} {a x : α} : ∀ E : GE α, upG ck2 k x (upG ck k a E) = upG ck k x E
 | [] => by
  show (if k = k then [(ck, k, x)] else _) = [(ck, k, x)]
  rw [if_pos rfl]
 | e :: E => by
  have ih := upG_up (ck := ck) (ck2 := ck2) (k := k) (a := a) (x := x) E
  by_cases hc : k = e.2.1
  ·have e1 : upG ck k a (e :: E) = (e.1, k, a) :: E := if_pos hc
   have e2 : upG ck k x (e :: E) = (e.1, k, x) :: E := if_pos hc
   rw [e1, e2]; exact if_pos rfl
  ·have e1 : upG ck k a (e :: E) = e :: upG ck k a E := if_neg hc
   have e2 : upG ck k x (e :: E) = e :: upG ck k x E := if_neg hc
   rw [e1, e2, ← ih]; exact if_neg hc
theorem fndG_up {α : Type} {ck : Nat} {k : List Int} {a : α} : ∀ E : GE α, (fndG k (upG ck k a E)).isSome = true
 | [] => by unfold upG fndG; rw [if_pos rfl]; rfl
 | e :: E => by
  by_cases hc : k = e.2.1
  ·rw [show upG ck k a (e :: E) = (e.1, k, a) :: E from if_pos hc]
   unfold fndG; rw [if_pos rfl]; rfl
  ·rw [show upG ck k a (e :: E) = e :: upG ck k a E from if_neg hc]
   unfold fndG; rw [if_neg hc, Option.isSome_map]; exact fndG_up E
theorem born_idx {α : Type} (cv : α → CV) : ∀ {E : GE α} {j b : Nat} {k : List Int} {a : α}, (E.map (·.1)).Nodup → E[j]? = some (b, k, a) → (gM cv E).findIdx? (fun e => (e.1 : Int) == (b : Int)) = some j
 | [], j, b, k, a, _, h => by simp at h
 | e :: E, 0, b, k, a, _, h => by
  injection h with h; subst h
  show List.findIdx? _ (gC cv _ :: gM cv E) = _
  rw [List.findIdx?_cons, if_pos (by simp [gC])]
 | e :: E, j + 1, b, k, a, hn, h => by
  rw [List.map_cons, List.nodup_cons] at hn
  have h2 : E[j]? = some (b, k, a) := h
  have hne : ¬ e.1 = b := fun hc => hn.1 (by rw [hc]; exact List.mem_map_of_mem (f := (·.1)) (List.mem_of_getElem? h2))
  show List.findIdx? _ (gC cv e :: gM cv E) = _
  rw [List.findIdx?_cons, if_neg (by simp [gC]; omega), born_idx cv hn.2 h2]; rfl
def mV (k : List Int) (E : GE MV) : MV := (lkG k E).getD none
theorem cM_mV (k : List Int) (E : GE MV) : cM k E = cvM (mV k E) := by unfold cM mV; cases lkG k E <;> rfl
section
variable {M : AMem} {r ck : Nat} {k : List Int}
theorem entM {E : GE MV} (hM : M[r]? = some (mapM ck E)) (hE : WfG ck E) (hk : k.length = 32) : mapEntryA Try.prog 48 (.one (.mp r 0)) (.agg (u8l k)) M = some (.tup [(false, [cvM (mV k E)]), (false, [.int .i64 (bnG ck k E : Nat)])], M.set r (mapM (upGc ck k E) (upG ck k (mV k E) E))) := by
 have fl := findL_gM (cv := cvM) hk hE.len
 have ki := scI_u8 k
 have kl : (u8l k).length = 32 := by rw [u8l_len]; exact hk
 unfold upGc mV
 cases hf : fndG k E with
 | none =>
  rw [hf] at fl
  rw [(fndG_none hf).1, (fndG_none hf).2.1, show (none : Option MV).getD none = none from rfl]
  have e : gM cvM (upG ck k none E) = gM cvM E ++ [(ck, u8l k, [.nils])] := by rw [(fndG_none hf).2.2.1]; unfold gM; rw [List.map_append]; rfl
  simp only [push_cast, simprocAttr, hM, mapM, fl, ki, kl, setMap, e, cvM]
  rfl
 | some j =>
  rw [hf] at fl
  obtain ⟨b, a, h1, h2, h3, h4, _⟩ := fndG_some hf
  have g : (gM cvM E)[j]? = some (b, u8l k, [cvM a]) := by unfold gM; rw [List.getElem?_map, h1]; rfl
  have e : gM cvM (upG ck k a E) = (gM cvM E).set j (b, u8l k, [cvM a]) := by rw [h4]; unfold gM; rw [List.map_set]; rfl
  rw [h2, h3]
  simp only [push_cast, simprocAttr, hM, mapM, fl, ki, kl, g, setMap, e]
theorem stoM {E : GE MV} {ck2 : Nat} {a : MV} (hM : M[r]? = some (mapM ck2 (upG ck k a E))) (hE : WfG ck2 (upG ck k a E)) (x : MV) : entryStoreA (.one (.mp r 0)) (.one (.int .i64 (bnG ck k E : Nat))) (.one (cvM x)) M = some (M.set r (mapM ck2 (upG ck k x E))) := by
 obtain ⟨j, hj⟩ := Option.isSome_iff_exists.1 (fndG_up (ck := ck) (k := k) (a := a) E)
 obtain ⟨b, y, h1, h2, h3, h4, _⟩ := fndG_some hj
 have hb := h3 ck2
 rw [bnG_up] at hb
 have h5 := h4 ck2 x
 rw [upG_up] at h5
 have fi := born_idx cvM hE.borns h1
 have g : (gM cvM (upG ck k a E))[j]? = some (b, u8l k, [cvM y]) := by unfold gM; rw [List.getElem?_map, h1]; rfl
 have e : gM cvM (upG ck k x E) = (gM cvM (upG ck k a E)).set j (b, u8l k, [cvM x]) := by rw [h5]; unfold gM; rw [List.map_set]; rfl
 rw [hb]
 simp only [push_cast, simprocAttr, hM, mapM, fi, g, setMap, e]
end
def updF {α : Type} (f : List Int → α) (k : List Int) (a : α) : List Int → α := fun x => if x = k then a else f x
structure OwA (n k : Nat) (V : VS) (D : DS) (A : TE) (su : List Int → Option ByteArray) (mb : List Int → List ByteArray) : Prop where
 h0 : V.dead = 0
 hk : V.k = k
 hd : V.data = (k : Int)
 w : WfD n D
 d : D.down = false
 e : D.E = []
 c : Cand D.S D.S n k A V.f
 l : Lasts D.S k V.f
 su : ∀ x t, su x = some t ↔ ∃ i, i < k ∧ aliv (V.f i) ∧ (V.f i).key = x ∧ lkT (V.f i).sum A = some t
 mb : ∀ x, mb x = []
structure OwD (n k : Nat) (V : VS) (D : DS) (A : TE) (su : List Int → Option ByteArray) (mb : List Int → List ByteArray) : Prop where
 h0 : V.dead = 5
 w : WfD n D
 d : D.down = true
 c : ∃ g, Cand D.S (vis D.S D.E) n k A g ∧ (∀ x t, su x = some t → ∃ i, i < k ∧ aliv (g i) ∧ (g i).key = x ∧ lkT (g i).sum A = some t ∧ D.S i = encB (g i) ∧ vis D.S D.E i = encB (g i)) ∧
  ∀ i, i < k → aliv (g i) → ∃ t, lkT (g i).sum A = some t ∧ (su (g i).key = some t ∨ t ∈ mb (g i).key)
theorem upS_or (S : Nat → List Int) (c : Nat) (v : List Int) (j : Nat) : upS S c v j = S j ∨ (j = c ∧ upS S c v j = v) := by
 unfold upS
 by_cases hj : j = c
 ·rw [if_pos hj]; exact .inr ⟨hj, rfl⟩
 ·rw [if_neg hj]; exact .inl rfl
theorem SlT.txt {X : Nat → List Int} {n k : Nat} {A : TE} {s : SL} (h : SlT X n k A s) : ∃ t, lkT s.sum A = some t := by
 obtain ⟨p, _, _, _, h4, _⟩ := h.tx
 exact ⟨_, h4⟩
theorem Cand.grow {S W : Nat → List Int} {n k : Nat} {A A' : TE} {g : Nat → SL} (h : Cand S W n k A g) (hA : Grow A A') : Cand S W n k A' g :=
 ⟨h.out, fun i hi => (h.sl i hi).imp id fun x => x.grow hA, h.two, h.aS, h.aW, h.dat, h.uS, h.uW⟩
section
variable {n k : Nat} {V : VS} {D : DS} {A A' : TE} {su : List Int → Option ByteArray} {mb : List Int → List ByteArray}
theorem OwA.grow (h : OwA n k V D A su mb) (hA : Grow A A') : OwA n k V D A' su mb := by
 refine ⟨h.h0, h.hk, h.hd, h.w, h.d, h.e, h.c.grow hA, h.l, fun x t => (h.su x t).trans ⟨fun ⟨i, a, b, c, d⟩ => ⟨i, a, b, c, hA _ _ d⟩, fun ⟨i, a, b, c, d⟩ => ⟨i, a, b, c, ?_⟩⟩, h.mb⟩
 obtain ⟨t2, h2⟩ := (h.c.of a b).txt
 have := hA _ _ h2
 rw [d] at this; injection this with e
 rw [e]; exact h2
theorem OwD.grow (h : OwD n k V D A su mb) (hA : Grow A A') : OwD n k V D A' su mb := by
 obtain ⟨h0, w, d, g, c, c1, c2⟩ := h
 refine ⟨h0, w, d, g, c.grow hA, fun x t hx => ?_, fun i hi ha => ?_⟩
 ·obtain ⟨i, a, b, e, f, q⟩ := c1 x t hx
  exact ⟨i, a, b, e, hA _ _ f, q⟩
 ·obtain ⟨t, a, b⟩ := c2 i hi ha
  exact ⟨t, hA _ _ a, b⟩
theorem OwA.none_of (h : OwA n k V D A su mb) {key : List Int} (hm : fnd (fdB key) V.f V.k < 0) : su key = none := by
 cases e : su key with
 | none => rfl
 | some t =>
  obtain ⟨i, h1, h2, h3, _⟩ := (h.su key t).1 e
  have := (fnd_neg hm).2 i (by rw [h.hk]; exact h1)
  rw [fdB_iff.2 ⟨h2, h3⟩] at this; cases this
theorem OwA.new (h : OwA n k V D A su mb) {key : List Int} (hm : fnd (fdB key) V.f V.k < 0) : ∀ i, i < k → aliv (V.f i) → ¬ (V.f i).key = key := fun i hi ha e => by
 have := (fnd_neg hm).2 i (by rw [h.hk]; exact hi)
 rw [fdB_iff.2 ⟨ha, e⟩] at this; cases this
theorem put_own (h : OwA n k V D A su mb) {c : Nat} {s : SL} {bl : Nat → List Int} {kk N : Nat} {R : VS × DS × Int} (hP : PuR n V D.S c s bl kk N R) (hub : ∀ i, U8ok (bl i)) (hc : c < k) (hz : V.f c = zS) (hk : k ≤ kk) (hf : FreeR V.f k kk N)
  (hs : SlT (ovl D.S bl kk N) n k A s) {t : ByteArray} (ht : lkT s.sum A = some t) (hnew : ∀ i, i < k → aliv (V.f i) → ¬ (V.f i).key = s.key) :
  (R.2.2 = 0 ∧ OwA n k R.1 R.2.1 A (updF su s.key (some t)) (updF mb s.key [])) ∨ (R.2.2 = 5 ∧ OwD n k R.1 R.2.1 A su (updF mb s.key (mb s.key ++ [t]))) := by
 have gid : Grow A A := fun _ _ h => h
 have e1 : upF V.f c s c = s := if_pos rfl
 have e2 : ∀ i, ¬ i = c → upF V.f c s i = V.f i := fun i hi => if_neg hi
 have hal : aliv s := by unfold aliv; rw [hs.kd]; decide
 have cN := h.c.lay gid hub hk hf (Nat.le_refl N) (Nat.le_refl N)
 have lN := h.l.lay (bl := bl) (kk := kk) (y := N) hk
 have hnz : ∀ i, aliv (V.f i) → ¬ i = c := fun i ha hi => alivZ (by rw [hi]; exact hz) ha
 rcases hP.r with ⟨r1, r2, r3, r4, r5⟩ | ⟨r1, r2, r3, r4⟩
 ·refine .inl ⟨r1, ?_⟩
  have cc := cN.slot hc hz hs hnew (upS_or _ _ _) (upS_or _ _ _)
  refine ⟨by rw [r2]; exact h.h0, by rw [r2]; exact h.hk, by rw [r2]; exact h.hd, hP.w, r3, r4, by rw [r5, r2]; exact cc, by rw [r5, r2]; exact lN.slot, fun x u => ?_, fun x => ?_⟩
  ·rw [r2]
   show updF su s.key (some t) x = some u ↔ ∃ i, i < k ∧ aliv (upF V.f c s i) ∧ (upF V.f c s i).key = x ∧ lkT (upF V.f c s i).sum A = some u
   unfold updF
   by_cases hx : x = s.key
   ·rw [if_pos hx]
    constructor
    ·intro e; injection e with e
     exact ⟨c, hc, by rw [e1]; exact hal, by rw [e1]; exact hx.symm, by rw [e1, ← e]; exact ht⟩
    ·rintro ⟨i, i1, i2, i3, i4⟩
     by_cases hi : i = c
     ·subst hi; rw [e1] at i4; exact ht.symm.trans i4
     ·rw [e2 i hi] at i2 i3; exact absurd (i3.trans hx) (hnew i i1 i2)
   ·rw [if_neg hx, h.su]
    constructor
    ·rintro ⟨i, i1, i2, i3, i4⟩
     have hi := hnz i i2
     exact ⟨i, i1, by rw [e2 i hi]; exact i2, by rw [e2 i hi]; exact i3, by rw [e2 i hi]; exact i4⟩
    ·rintro ⟨i, i1, i2, i3, i4⟩
     by_cases hi : i = c
     ·subst hi; rw [e1] at i3; exact absurd i3.symm hx
     ·rw [e2 i hi] at i2 i3 i4; exact ⟨i, i1, i2, i3, i4⟩
  ·unfold updF; split
   ·rfl
   ·exact h.mb x
 ·refine .inr ⟨r1, ?_⟩
  have sure : ∀ (S2 : Nat → List Int), (∀ i, i < k → ¬ i = c → S2 i = D.S i) → ∀ x u, su x = some u → ∃ i, i < k ∧ aliv (V.f i) ∧ (V.f i).key = x ∧ lkT (V.f i).sum A = some u ∧ ¬ i = c ∧ S2 i = encB (V.f i) := fun S2 h2 x u hx => by
   obtain ⟨i, i1, i2, i3, i4⟩ := (h.su x u).1 hx
   exact ⟨i, i1, i2, i3, i4, hnz i i2, by rw [h2 i i1 (hnz i i2)]; exact h.l i i1 i2⟩
  have text : ∀ i, i < k → aliv (V.f i) → ∃ u, lkT (V.f i).sum A = some u ∧ (su (V.f i).key = some u ∨ u ∈ updF mb s.key (mb s.key ++ [t]) (V.f i).key) := fun i hi ha => by
   obtain ⟨u, hu⟩ := (h.c.of hi ha).txt
   exact ⟨u, hu, .inl ((h.su _ u).2 ⟨i, hi, ha, rfl, hu⟩)⟩
  refine ⟨by rw [r2], hP.w, r3, ?_⟩
  rcases r4 with ⟨q1, y, q2, q3⟩ | ⟨q1, q2⟩
  ·have cw := h.c.lay gid hub hk hf (Nat.zero_le N) q2
   rw [ovl_0] at cw
   have ew : vis R.2.1.S R.2.1.E = ovl D.S bl kk y := funext q3
   refine ⟨V.f, by rw [ew, q1]; exact cw, fun x u hx => ?_, text⟩
   obtain ⟨i, i1, i2, i3, i4, i5, i6⟩ := sure D.S (fun _ _ _ => rfl) x u hx
   exact ⟨i, i1, i2, i3, i4, by rw [q1]; exact i6, by rw [ew, ovl_at (by omega)]; exact i6⟩
  ·have cs := cN.slot hc hz hs hnew (S2 := ovl D.S bl kk N) (W2 := vis R.2.1.S R.2.1.E) (fun j => .inl rfl) q2
   refine ⟨upF V.f c s, by rw [q1] at cs ⊢; exact cs, fun x u hx => ?_, fun i hi ha => ?_⟩
   ·obtain ⟨i, i1, i2, i3, i4, i5, i6⟩ := sure D.S (fun _ _ _ => rfl) x u hx
    have e3 : ovl D.S bl kk N i = encB (V.f i) := by rw [ovl_at (by omega)]; exact i6
    exact ⟨i, i1, by rw [e2 i i5]; exact i2, by rw [e2 i i5]; exact i3, by rw [e2 i i5]; exact i4, by rw [e2 i i5, q1]; exact e3, by rw [e2 i i5, (q2 i).resolve_right fun h => i5 h.1]; exact e3⟩
   ·by_cases hi2 : i = c
    ·subst hi2
     rw [e1]
     exact ⟨t, ht, .inr (by unfold updF; rw [if_pos rfl]; exact List.mem_append_right _ (List.mem_singleton_self _))⟩
    ·rw [e2 i hi2] at ha ⊢; exact text i hi ha
end
section
variable {n k : Nat} {V : VS} {D : DS} {A A' : TE} {su : List Int → Option ByteArray} {mb : List Int → List ByteArray}
theorem OwA.visE (h : OwA n k V D A su mb) (i : Nat) : vis D.S D.E i = D.S i := by rw [h.e, vis_nil]
theorem OwA.free (h : OwA n k V D A su mb) {c : Nat} (hc : fnd (fun s => s.kind == 0) V.f V.k = (c : Int)) : c < k ∧ V.f c = zS := by
 obtain ⟨i, h1, h2, h3, _⟩ := fnd_pos (p := fun s => s.kind == 0) (f := V.f) (k := V.k) (by omega)
 obtain rfl : c = i := by omega
 have hck : c < k := by rw [← h.hk]; exact h1
 refine ⟨hck, (h.c.sl c hck).resolve_right fun h4 => ?_⟩
 have h5 : (V.f c).kind = 0 := by simpa using h3
 rw [h4.kd] at h5; cases h5
theorem put_step (rv rl rd rs rm : Nat) (m : AMem) (hB : HasB m rv rl rd rs rm n V D) (h : OwA n k V D A su mb) (hkn : k ≤ n) (k5 : k ≤ 512) (n8 : n ≤ 8192) (j : Int) (j0 : 0 ≤ j) (j9 : j < 9) (key : List Int) (hky : key = kyL j) (rp vp len : Nat) (bs : List Int)
    (hp : ∃ kk ez, m[rp]? = some ⟨kk, 5, vp, ez, u8l bs⟩) (hlen : bs.length = len) (hl2 : len ≤ 700) (ho : U8ok bs) (hA : Grow A A') (ht : lkT (shaL bs) A' = some (strB bs)) :
    ∃ e V' D', Ctr Try.prog 10 [.one (.ptr rv 0 0), .one (.int .i64 2), .agg (u8l key), .one (.sl rp vp 0 len)] m (.one (.int .i64 e)) (setB m rv rl rd rs rm n V' D') ∧ ((e = 0 ∧ (∀ t, su key = some t → t = strB bs) ∧ OwA n k V' D' A' (updF su key (some (strB bs))) (updF mb key [])) ∨
      (e = 5 ∧ su key = none ∧ OwD n k V' D' A' su (updF mb key (mb key ++ [strB bs]))) ∨ (e = 7 ∧ (∃ t, su key = some t) ∧ OwA n k V' D' A' su mb) ∨ (e = 4 ∧ OwA n k V' D' A' su mb)) := by
  have hk32 : key.length = 32 := by rw [hky]; rfl
  have hf := h.c.ok
  have vk : V.k ≤ 512 := by rw [h.hk]; exact k5
  have hG := h.grow hA
  have d0 : 0 ≤ V.data := by rw [h.hd]; omega
  have d1 : V.data ≤ 512 := by rw [h.hd]; omega
  rcases Int.lt_or_le (fnd (fdB key) V.f V.k) 0 with hm | hm
  · have sn := h.none_of hm
    rcases Int.lt_or_le (fnd (fun s => s.kind == 0) V.f V.k) 0 with hfr | hfr
    · refine ⟨4, V, D, ?_, .inr (.inr (.inr ⟨rfl, hG⟩))⟩
      rw [hB.same]
      exact put_full1 rv rl rd rs rm n V D m hB hf vk h.h0 2 (.inr rfl) key hk32 rp vp len bs hp hlen (by omega) ho h.w h.d n8 d0 d1 hm hfr
    · obtain ⟨c, hc⟩ : ∃ c : Nat, fnd (fun s => s.kind == 0) V.f V.k = (c : Int) := ⟨_, (Int.toNat_of_nonneg hfr).symm⟩
      obtain ⟨hck, hz⟩ := h.free hc
      rcases Int.lt_or_le (plZ V n (shaL bs) (len : Int)) 0 with hpl | hpl
      · refine ⟨4, V, D, ?_, .inr (.inr (.inr ⟨rfl, hG⟩))⟩
        rw [hB.same]
        exact put_full2 rv rl rd rs rm n V D m hB hf vk h.h0 2 (.inr rfl) key hk32 rp vp len bs hp hlen (by omega) ho h.w h.d n8 d0 d1 hm c hc hpl
      · obtain ⟨kk, hkk⟩ : ∃ q : Nat, plZ V n (shaL bs) (len : Int) = (q : Int) := ⟨_, (Int.toNat_of_nonneg hpl).symm⟩
        obtain ⟨N, hN⟩ : ∃ q : Nat, (q : Int) = needZ (len : Int) := ⟨_, Int.toNat_of_nonneg (needZ_nn (by omega))⟩
        obtain ⟨nb1, nb2⟩ := needZ_nat hN (by omega)
        have hnew := h.new hm
        have huc : ∀ i, U8ok (chB bs i) := chB_ok ho
        have fin : ∀ {R : VS × DS × Int} {M : Nat}, PuR n V D.S c ⟨2, key, shaL bs, (len : Int), (kk : Int)⟩ (chB bs) kk M R → k ≤ kk → FreeR V.f k kk M → SlT (ovl D.S (chB bs) kk M) n k A' ⟨2, key, shaL bs, (len : Int), (kk : Int)⟩ →
            ((R.2.2 = 0 ∧ (∀ t, su key = some t → t = strB bs) ∧ OwA n k R.1 R.2.1 A' (updF su key (some (strB bs))) (updF mb key [])) ∨
              (R.2.2 = 5 ∧ su key = none ∧ OwD n k R.1 R.2.1 A' su (updF mb key (mb key ++ [strB bs]))) ∨ (R.2.2 = 7 ∧ (∃ t, su key = some t) ∧ OwA n k R.1 R.2.1 A' su mb) ∨ (R.2.2 = 4 ∧ OwA n k R.1 R.2.1 A' su mb)) := fun {R M} hP q1 q2 q3 => by
          rcases put_own hG hP huc hck hz q1 q2 q3 (t := strB bs) ht hnew with ⟨r1, r2⟩ | ⟨r1, r2⟩
          · exact .inl ⟨r1, fun t e => (by rw [sn] at e; cases e), r2⟩
          · exact .inr (.inl ⟨r1, sn, r2⟩)
        have ok9 : ∀ {q : Int}, q = (kk : Int) → kk ≤ 8192 → OkS ⟨2, key, shaL bs, (len : Int), q⟩ := fun {q} e hq => ⟨⟨hk32, shaL_len bs⟩, by show (0 : Int) ≤ q; omega, by show q ≤ 4294967295; omega, by show (0 : Int) ≤ (len : Int); omega, by show (len : Int) ≤ 4294967295; omega⟩
        cases hb : plB V (shaL bs) (len : Int) with
        | true =>
          have hge : 0 ≤ fnd (pcB (shaL bs) (len : Int)) V.f V.k := of_decide_eq_true hb
          obtain ⟨i, i1, i2, i3, _⟩ := fnd_pos hge
          have hpi : plZ V n (shaL bs) (len : Int) = (V.f i).fr := by unfold plZ; rw [if_pos hge, i2]; rfl
          have i4 : aliv (V.f i) ∧ (V.f i).sum = shaL bs ∧ (V.f i).size = (len : Int) := by
            unfold pcB at i3; simp only [Bool.and_eq_true, decide_eq_true_iff] at i3; exact i3
          have si := h.c.of (by rw [← h.hk]; exact i1) i4.1
          have hfk : (V.f i).fr = (kk : Int) := by rw [← hpi, hkk]
          have f0 := si.f0
          have f1 := si.f1
          have fn := needZ_nn si.ok.s0
          have k8 : kk ≤ 8192 := by omega
          refine ⟨_, _, _, put_L rv rl rd rs rm n V D m hB hf vk h.h0 2 (.inr rfl) key hk32 rp vp len bs hp hlen (by omega) ho h.w h.d n8 d0 d1 hm (by rw [h.hk]; exact hkn) c hc kk hkk k8 hb, fin (put_specL (bl := chB bs) (k := kk) h.d h.w rfl h.e (by omega) ⟨hk32, shaL_len bs⟩) (by omega) (fun _ _ _ => .inr (.inr (.inr rfl))) ?_⟩
          rw [ovl_0]
          obtain ⟨p, t1, t2, t3, t4, t5⟩ := si.tx
          have ep : p = bs := by
            have := hA _ _ t4
            rw [i4.2.1, ht] at this
            injection this with this
            exact strB_inj t1 ho this.symm
          refine ⟨rfl, ok9 rfl k8, by show (len : Int) ≤ 700; omega, by show (k : Int) ≤ (kk : Int); omega, ?_, ⟨j, j0, j9, hky⟩, bs, ho, by show (bs.length : Int) = (len : Int); omega, rfl, ht, ?_⟩
          · show (kk : Int) + needZ (len : Int) ≤ (n : Int)
            rw [← i4.2.2]; omega
          · rw [i4.2.2, hfk, ep] at t5
            exact t5
        | false =>
          obtain ⟨p1, p2, p3⟩ := pl_free h.c h.hk k5 h.hd (by omega) hN hb hkk
          have k8 : kk ≤ 8192 := by omega
          refine ⟨_, _, _, put_U rv rl rd rs rm n V D m hB hf vk h.h0 2 (.inr rfl) key hk32 rp vp len bs hp hlen (by omega) ho h.w h.d n8 d0 d1 hm (by rw [h.hk]; exact hkn) c hc kk hkk k8 hb N hN p2, fin (put_specU (fun i => padB_len _) h.d h.w rfl h.e (by omega) ⟨hk32, shaL_len bs⟩ p2) p1 p3 ?_⟩
          refine ⟨rfl, ok9 rfl k8, by show (len : Int) ≤ 700; omega, by show (k : Int) ≤ (kk : Int); omega, ?_, ⟨j, j0, j9, hky⟩, bs, ho, by show (bs.length : Int) = (len : Int); omega, rfl, ht, ?_⟩
          · show (kk : Int) + needZ (len : Int) ≤ (n : Int)
            omega
          · show (catB (needZ (len : Int)).toNat fun i => ovl D.S (chB bs) kk N ((kk : Int).toNat + i)).take (len : Int).toNat = bs
            rw [← hN, Int.toNat_natCast, Int.toNat_natCast, Int.toNat_natCast]
            have e : (catB N fun i => ovl D.S (chB bs) kk N (kk + i)) = catB N (chB bs) := catB_congr fun i hi => by
              unfold ovl; rw [if_pos (by omega)]; congr 1; omega
            rw [e, catB_ch, List.take_of_length_le (show bs.length ≤ N * 128 by omega), ← hlen, List.take_left]
  · obtain ⟨a, ha⟩ : ∃ a : Nat, fnd (fdB key) V.f V.k = (a : Int) := ⟨_, (Int.toNat_of_nonneg hm).symm⟩
    have hc := put_had rv rl rd rs rm n V D m hB hf vk h.h0 2 (.inr rfl) key hk32 rp vp len bs hp hlen (by omega) ho a ha
    obtain ⟨i, i1, i2, i3, _⟩ := fnd_pos hm
    obtain rfl : a = i := by omega
    obtain ⟨y1, y2⟩ := fdB_iff.1 i3
    have hak : a < k := by rw [← h.hk]; exact i1
    have sa := h.c.of hak y1
    obtain ⟨t, htx⟩ := sa.txt
    have hsu : su key = some t := (h.su key t).2 ⟨a, hak, y1, y2, htx⟩
    by_cases hs : (V.f a).sum = shaL bs
    · rw [decide_eq_true sa.kd, decide_eq_true hs] at hc
      have et : t = strB bs := by
        have := hA _ _ htx
        rw [hs, ht] at this; injection this with this; exact this.symm
      refine ⟨0, V, D, by rw [hB.same]; exact hc, .inl ⟨rfl, fun u hu => ?_, ?_⟩⟩
      · rw [hsu] at hu; injection hu with hu; rw [← hu]; exact et
      · have e1 : updF su key (some (strB bs)) = su := funext fun x => by
          unfold updF; split
          · rename_i hx; rw [hx, hsu, et]
          · rfl
        have e2 : updF mb key [] = mb := funext fun x => by
          unfold updF; split
          · exact (h.mb x).symm
          · rfl
        rw [e1, e2]; exact hG
    · rw [decide_eq_true sa.kd, decide_eq_false hs] at hc
      exact ⟨7, V, D, by rw [hB.same]; exact hc, .inr (.inr (.inl ⟨rfl, ⟨t, hsu⟩, hG⟩))⟩
end
structure Core (n k : Nat) (S W : Nat → List Int) (A : TE) (su : List Int → Option ByteArray) (mb : List Int → List ByteArray) (g : Nat → SL) : Prop where
 c : Cand S W n k A g
 us : ∀ x t, su x = some t → ∃ i, i < k ∧ aliv (g i) ∧ (g i).key = x ∧ lkT (g i).sum A = some t ∧ S i = encB (g i) ∧ W i = encB (g i)
 tx : ∀ i, i < k → aliv (g i) → ∃ t, lkT (g i).sum A = some t ∧ (su (g i).key = some t ∨ t ∈ mb (g i).key)
section
variable {n k : Nat} {V : VS} {D : DS} {A : TE} {su su' : List Int → Option ByteArray} {mb mb' : List Int → List ByteArray} {g : Nat → SL} {S W : Nat → List Int}
theorem Core.mono (h : Core n k S W A su mb g) (h1 : ∀ x t, su' x = some t → su x = some t) (h2 : ∀ x t, su x = some t → su' x = some t ∨ t ∈ mb' x) (h3 : ∀ x t, t ∈ mb x → t ∈ mb' x) : Core n k S W A su' mb' g :=
 ⟨h.c, fun x t hx => h.us x t (h1 x t hx), fun i hi ha => by
  obtain ⟨t, q1, q2⟩ := h.tx i hi ha
  exact ⟨t, q1, q2.elim (fun e => h2 _ _ e) fun e => .inr (h3 _ _ e)⟩⟩
theorem OwD.core (h : OwD n k V D A su mb) : ∃ g, Core n k D.S (vis D.S D.E) A su mb g := by
 obtain ⟨g, a, b, c⟩ := h.c
 exact ⟨g, a, b, c⟩
theorem OwD.mono (h : OwD n k V D A su mb) (h1 : ∀ x t, su' x = some t → su x = some t) (h2 : ∀ x t, su x = some t → su' x = some t ∨ t ∈ mb' x) (h3 : ∀ x t, t ∈ mb x → t ∈ mb' x) : OwD n k V D A su' mb' := by
 obtain ⟨g, hg⟩ := h.core
 have := hg.mono h1 h2 h3
 exact ⟨h.h0, h.w, h.d, g, this.c, this.us, this.tx⟩
theorem OwA.core (h : OwA n k V D A su mb) : Core n k D.S (vis D.S D.E) A su mb V.f := by
 have ev : vis D.S D.E = D.S := funext h.visE
 rw [ev]
 refine ⟨h.c, fun x t hx => ?_, fun i hi ha => ?_⟩
 ·obtain ⟨i, i1, i2, i3, i4⟩ := (h.su x t).1 hx
  exact ⟨i, i1, i2, i3, i4, h.l i i1 i2, h.l i i1 i2⟩
 ·obtain ⟨u, hu⟩ := (h.c.of hi ha).txt
  exact ⟨u, hu, .inl ((h.su _ u).2 ⟨i, hi, ha, rfl, hu⟩)⟩
theorem drop_own (h : OwA n k V D A su mb) {cnt : Nat} {ks : Nat → List Int} {R : VS × DS × Int} {G : List Nat} (hR : DpR n cnt ks V D.S R G) :
  (R.2.2 = 0 ∧ OwA n k R.1 R.2.1 A (fun x => if ∃ j, j < cnt ∧ x = ks j then none else su x) mb) ∨
  (R.2.2 = 5 ∧ ∀ su' mb', (∀ x, (∃ j, j < cnt ∧ x = ks j) → su' x = none) → (∀ x, ¬ (∃ j, j < cnt ∧ x = ks j) → su' x = su x) → (∀ x t, (∃ j, j < cnt ∧ x = ks j) → su x = some t → t ∈ mb' x) → OwD n k R.1 R.2.1 A su' mb') := by
 have hG : ∀ a, a ∈ G → a < k := fun a ha => by rw [← h.hk]; exact (hR.g a ha).1
 rcases hR.r with ⟨r1, r2, r3, r4, r5, r6⟩ | ⟨r1, r2, r3, r4, r5⟩
 ·refine .inl ⟨r1, ?_⟩
  have eS : R.2.1.S = dpW D.S G := funext r5
  obtain ⟨c1, c2⟩ := h.c.dropped h.l hG
  refine ⟨by rw [r2]; exact h.h0, by rw [r2]; exact h.hk, by rw [r2]; exact h.hd, hR.w, r3, r4, by rw [eS, r2]; exact c1, by rw [eS, r2]; exact c2, fun x t => ?_, h.mb⟩
  rw [r2]
  show (if ∃ j, j < cnt ∧ x = ks j then none else su x) = some t ↔ ∃ i, i < k ∧ aliv (goF V.f G i) ∧ (goF V.f G i).key = x ∧ lkT (goF V.f G i).sum A = some t
  have off : ∀ i, aliv (goF V.f G i) → i ∉ G ∧ goF V.f G i = V.f i := fun i ha => by
   unfold goF at ha ⊢
   by_cases hi : i ∈ G
   ·rw [if_pos hi] at ha; exact absurd rfl ha
   ·rw [if_neg hi]; exact ⟨hi, rfl⟩
  by_cases hx : ∃ j, j < cnt ∧ x = ks j
  ·rw [if_pos hx]
   constructor
   ·intro e; cases e
   ·rintro ⟨i, i1, i2, i3, i4⟩
    obtain ⟨hi, e⟩ := off i i2
    rw [e] at i2 i3
    obtain ⟨j, j1, j2⟩ := hx
    exact absurd (r6 i ⟨by rw [h.hk]; exact i1, i2, j, j1, by rw [i3]; exact j2⟩) hi
  ·rw [if_neg hx, h.su]
   constructor
   ·rintro ⟨i, i1, i2, i3, i4⟩
    have hi : i ∉ G := fun hc => by
     obtain ⟨_, _, j, j1, j2⟩ := hR.g i hc
     exact hx ⟨j, j1, by rw [← i3]; exact j2⟩
    have e : goF V.f G i = V.f i := if_neg hi
    exact ⟨i, i1, by rw [e]; exact i2, by rw [e]; exact i3, by rw [e]; exact i4⟩
   ·rintro ⟨i, i1, i2, i3, i4⟩
    obtain ⟨hi, e⟩ := off i i2
    rw [e] at i2 i3 i4
    exact ⟨i, i1, i2, i3, i4⟩
 ·refine .inr ⟨r1, fun su' mb' q1 q2 q3 => ⟨by rw [r2], hR.w, r3, V.f, ?_, fun x t hx => ?_, fun i hi ha => ?_⟩⟩
  ·have ew : vis R.2.1.S R.2.1.E = dpW D.S G := funext r5
   rw [ew, r4]; exact h.c.drop hG
  ·by_cases hk : ∃ j, j < cnt ∧ x = ks j
   ·rw [q1 x hk] at hx; cases hx
   ·rw [q2 x hk] at hx
    obtain ⟨i, i1, i2, i3, i4⟩ := (h.su x t).1 hx
    have hi : i ∉ G := fun hc => by
     obtain ⟨_, _, j, j1, j2⟩ := hR.g i hc
     exact hk ⟨j, j1, by rw [← i3]; exact j2⟩
    exact ⟨i, i1, i2, i3, i4, by rw [r4]; exact h.l i i1 i2, by rw [r5, if_neg hi]; exact h.l i i1 i2⟩
  ·obtain ⟨u, hu⟩ := (h.c.of hi ha).txt
   have hs := (h.su _ u).2 ⟨i, hi, ha, rfl, hu⟩
   refine ⟨u, hu, ?_⟩
   by_cases hk : ∃ j, j < cnt ∧ (V.f i).key = ks j
   ·exact .inr (q3 _ u hk hs)
   ·exact .inl (by rw [q2 _ hk]; exact hs)
theorem Core.crash (h : Core n k S W A su mb g) {X : Nat → List Int} (hx : ∀ i, X i = S i ∨ X i = W i) : Core n k X X A su mb (keepF X k g) ∧ Lasts X k (keepF X k g) := by
 have keep : ∀ i, i < k → aliv (g i) → S i = encB (g i) → W i = encB (g i) → keepF X k g i = g i ∧ X i = encB (g i) := fun i hi ha h1 h2 => by
  have hX : X i = encB (g i) := (hx i).elim (fun e => e.trans h1) fun e => e.trans h2
  have hk := (h.c.of hi ha).kd
  exact ⟨if_pos ⟨hi, fun hz => enc_nz hk (hX.symm.trans hz)⟩, hX⟩
 refine ⟨⟨h.c.crash hx, fun x t e => ?_, fun i hi ha => ?_⟩, keep_lasts h.c hx⟩
 ·obtain ⟨i, i1, i2, i3, i4, i5, i6⟩ := h.us x t e
  obtain ⟨e1, e2⟩ := keep i i1 i2 i5 i6
  exact ⟨i, i1, by rw [e1]; exact i2, by rw [e1]; exact i3, by rw [e1]; exact i4, by rw [e1]; exact e2, by rw [e1]; exact e2⟩
 ·obtain ⟨_, _, e⟩ := (keepF_or X k g i).resolve_left fun hz => alivZ hz ha
  rw [e] at ha ⊢
  exact h.tx i hi ha
theorem OwA.of (h : Core n k S S A su mb g) (hl : Lasts S k g) {V : VS} {D : DS} (hV : V = ⟨k, g, (k : Int), 0⟩) (hw : WfD n D) (hd : D.down = false) (hE : D.E = []) (hS : D.S = S) (h1 : ∀ x t, su' x = some t ↔ ∃ i, i < k ∧ aliv (g i) ∧ (g i).key = x ∧ lkT (g i).sum A = some t) (h2 : ∀ x, mb' x = []) : OwA n k V D A su' mb' := by
 subst hV; subst hS
 exact ⟨rfl, rfl, rfl, hw, hd, hE, h.c, hl, h1, h2⟩
end
theorem put_dead (rv rl rd : Nat) (V : VS) (m : AMem) (hv : m[rv]? = some (vtB rd rl V)) (h0 : V.dead = 5) (kind : Int) (key : List Int) (hkey : key.length = 32) (rp vp len : Nat) : Ctr Try.prog 10 [.one (.ptr rv 0 0), .one (.int .i64 kind), .agg (u8l key), .one (.sl rp vp 0 len)] m (.one (.int .i64 5)) m := by
 refine Ctr.enter Try.func10 rfl (by decide) (rs := [.tmp 8]) (nt := 138) rfl rfl fun hwf Q hQ => ?_
 have hup : ∀ X : AMem, Ctr Try.prog 31 [.one (.ptr rv 0 0)] (m ++ X) (.one (.int .i64 5)) (m ++ X) := fun X => by
   have := vup_c rv rl rd V (m ++ X) (lk_old hv X)
   rwa [h0] at this
 have hup0 : Ctr Try.prog 31 [.one (.ptr rv 0 0)] m (.one (.int .i64 5)) m := by have := hup []; rwa [List.append_nil] at this
 refine AW.sr 1 fun K hK => ?_
 simp only [push_cast, simprocAttr]
 apply hK;clear hK K
 refine AW.seq_k fun K hK => ?_
 refine AW.sr 2 fun K hK => ?_
 simp only [push_cast, simprocAttr]
 refine CThen.by (hup _) ?_
 simp only [push_cast, simprocAttr]
 apply hK;clear hK K
 refine AW.cond_t rfl ?_
 refine AW.sr 1 fun K hK => ?_
 simp only [push_cast, simprocAttr]
 apply hK;clear hK K
 refine AW.ret ?_
 refine Thn_r ?_
 refine hQ _ _ _ ?_
 first | refine RetP.drop0 (Or.inr rfl) ?_ ?_ hwf | refine RetP.drop (Or.inr rfl) ?_ ?_ hwf
 · simp only [resA, resOne, resTv, AV.tv, push_cast, simprocAttr]
 · rfl
theorem drop_dead (rv rl rd : Nat) (V : VS) (m : AMem) (hv : m[rv]? = some (vtB rd rl V)) (h0 : V.dead = 5) (rq cnt : Nat) : Ctr Try.prog 18 [.one (.ptr rv 0 0), .one (.sl rq 0 0 cnt)] m (.one (.int .i64 5)) m := by
 refine Ctr.enter Try.func18 rfl (by decide) (rs := [.tmp 4]) (nt := 79) rfl rfl fun hwf Q hQ => ?_
 have hup : ∀ X : AMem, Ctr Try.prog 31 [.one (.ptr rv 0 0)] (m ++ X) (.one (.int .i64 5)) (m ++ X) := fun X => by
   have := vup_c rv rl rd V (m ++ X) (lk_old hv X)
   rwa [h0] at this
 have hup0 : Ctr Try.prog 31 [.one (.ptr rv 0 0)] m (.one (.int .i64 5)) m := by have := hup []; rwa [List.append_nil] at this
 refine AW.sr 1 fun K hK => ?_
 simp only [push_cast, simprocAttr]
 apply hK;clear hK K
 refine AW.seq_k fun K hK => ?_
 refine AW.sr 2 fun K hK => ?_
 simp only [push_cast, simprocAttr]
 refine CThen.by (hup0) ?_
 simp only [push_cast, simprocAttr]
 apply hK;clear hK K
 refine AW.cond_t rfl ?_
 refine AW.sr 1 fun K hK => ?_
 simp only [push_cast, simprocAttr]
 apply hK;clear hK K
 refine AW.ret ?_
 refine Thn_r ?_
 refine hQ _ _ _ ?_
 first | refine RetP.drop0 (Or.inr rfl) ?_ ?_ hwf | refine RetP.drop (Or.inr rfl) ?_ ?_ hwf
 · simp only [resA, resOne, resTv, AV.tv, push_cast, simprocAttr]
 · rfl
theorem get_step {n k : Nat} {A : TE} {su : List Int → Option ByteArray} {mb : List Int → List ByteArray} {g : Nat → SL} {V : VS} {D : DS} (rv rl rd rs rm : Nat) (m : AMem) (hB : HasB m rv rl rd rs rm n V D) (hV : V = ⟨k, g, (k : Int), 0⟩) (h : Core n k D.S D.S A su mb g) (hE : D.E = []) (hw : WfD n D) (hd : D.down = false)
  (k5 : k ≤ 512) (n8 : n ≤ 8192) (key : List Int) (hkey : key.length = 32) :
  (Ctr Try.prog 14 [.one (.ptr rv 0 0), .agg (u8l key)] m (.tup [(false, [.nils]), (false, [.int .i64 6])]) m ∧ su key = none ∧ ∀ i, i < k → aliv (g i) → ¬ (g i).key = key) ∨
  (∃ row p, Ctr Try.prog 14 [.one (.ptr rv 0 0), .agg (u8l key)] m (.tup [(false, [.sl m.length 0 0 p.length]), (false, [.int .i64 0])]) (m ++ [⟨.grow, 5, 0, 1, u8l row⟩]) ∧ row.take p.length = p ∧ p.length ≤ row.length ∧ U8ok row ∧ p.length ≤ 700 ∧ (∃ i, i < k ∧ aliv (g i) ∧ (g i).key = key ∧ lkT (g i).sum A = some (strB p)) ∧ (su key = some (strB p) ∨ strB p ∈ mb key)) := by
 have hf : ∀ i, OkS (V.f i) := by rw [hV]; exact h.c.ok
 have vk : V.k ≤ 512 := by rw [hV]; exact k5
 have h0 : V.dead = 0 := by rw [hV]
 have ev : ∀ i, vis D.S D.E i = D.S i := fun i => by rw [hE, vis_nil]
 rcases Int.lt_or_le (fnd (fdB key) V.f V.k) 0 with hm | hm
 ·have hno : ∀ i, i < k → aliv (g i) → ¬ (g i).key = key := fun i hi ha e => by
   have := (fnd_neg hm).2 i (by rw [hV]; exact hi)
   rw [fdB_iff.2 ⟨by rw [hV]; exact ha, by rw [hV]; exact e⟩] at this; cases this
  refine .inl ⟨get_none rv rl rd rs rm n V D m hB hf vk h0 key hkey hm, ?_, hno⟩
  cases e : su key with
  | none => rfl
  | some t =>
   obtain ⟨i, i1, i2, i3, _⟩ := h.us key t e
   exact absurd i3 (hno i i1 i2)
 ·obtain ⟨a, ha⟩ : ∃ a : Nat, fnd (fdB key) V.f V.k = (a : Int) := ⟨_, (Int.toNat_of_nonneg hm).symm⟩
  obtain ⟨i, i1, i2, i3, _⟩ := fnd_pos hm
  obtain rfl : a = i := by omega
  obtain ⟨y1, y2⟩ := fdB_iff.1 i3
  have eg : V.f a = g a := by rw [hV]
  have hak : a < k := by rw [hV] at i1; exact i1
  rw [eg] at y1 y2
  have sa := h.c.of hak y1
  obtain ⟨t, t1, t2⟩ := h.tx a hak y1
  obtain ⟨p, q1, q2, q3, q4, q5⟩ := sa.tx
  have s0 := sa.ok.s0
  have f0 := sa.f0
  have f1 := sa.f1
  have nn := needZ_nn s0
  have hs1 := sa.s1
  have et : t = strB p := by rw [t1] at q4; injection q4
  have eN : ((needZ (g a).size).toNat : Int) = needZ (((g a).size.toNat : Nat) : Int) := by rw [Int.toNat_of_nonneg s0, Int.toNat_of_nonneg nn]
  have ed : datL D (g a).fr.toNat (needZ (g a).size).toNat = catB (needZ (g a).size).toNat fun j => D.S ((g a).fr.toNat + j) := catB_congr fun j _ => ev _
  have hu := datL_ok (D := D) (fun i => by rw [ev]; exact h.c.uS i) (g a).fr.toNat (needZ (g a).size).toNat
  have hz : (g a).size.toNat = p.length := by omega
  have hc := get_ok rv rl rd rs rm n V D m hB hf vk h0 key hkey hw hd n8 a ha (g a).fr.toNat (needZ (g a).size).toNat (g a).size.toNat (by rw [eg]; omega) (by rw [eg]; omega) (by omega) eN (by omega) hu (by rw [ed, q5, eg]; exact q3)
  have hl := datL_len hw (g a).fr.toNat (needZ (g a).size).toNat
  obtain ⟨nb1, _⟩ := needZ_nat eN (by omega)
  refine .inr ⟨_, p, by rw [hz] at hc; exact hc, by rw [ed, ← hz, q5], by rw [hl]; omega, hu, by omega, ⟨a, hak, y1, y2, q4⟩, ?_⟩
  rw [← et, ← y2]; exact t2
section
variable {n k : Nat} {V : VS} {D : DS} {A : TE} {su : List Int → Option ByteArray} {mb : List Int → List ByteArray}
theorem drop_step (rv rl rd rs rm : Nat) (m : AMem) (hB : HasB m rv rl rd rs rm n V D) (h : OwA n k V D A su mb) (hkn : k ≤ n) (k5 : k ≤ 512) (n8 : n ≤ 8192) (rq cnt : Nat) (kf : Nat → List Int) (hq : m[rq]? = some (kR32 38 cnt kf)) (hkf : ∀ i, (kf i).length = 32) (h20 : cnt ≤ 20) :
  ∃ e V' D', Ctr Try.prog 18 [.one (.ptr rv 0 0), .one (.sl rq 0 0 cnt)] m (.one (.int .i64 e)) (setB m rv rl rd rs rm n V' D') ∧ ((e = 0 ∧ OwA n k V' D' A (fun x => if ∃ j, j < cnt ∧ x = kf j then none else su x) mb) ∨
   (e = 5 ∧ ∀ su' mb', (∀ x, (∃ j, j < cnt ∧ x = kf j) → su' x = none) → (∀ x, ¬ (∃ j, j < cnt ∧ x = kf j) → su' x = su x) → (∀ x t, (∃ j, j < cnt ∧ x = kf j) → su x = some t → t ∈ mb' x) → OwD n k V' D' A su' mb')) := by
 have hc := drop_c rv rl rd rs rm n V D m hB h.c.ok (by rw [h.hk]; exact k5) h.h0 h.w h.d n8 (by rw [h.hk]; exact hkn) rq cnt kf hq hkf h20
 obtain ⟨G, hG⟩ := dp_spec (n := n) (cnt := cnt) (ks := kf) (V := V) (S := D.S) (by rw [h.hk]; exact hkn) (fun i j hi hj ha hb => h.c.two i j (by rw [← h.hk]; exact hi) hj ha hb) cnt 0 [] D (by omega) h.d h.w rfl (fun _ => h.e) (fun j => by rw [h.visE, if_neg (List.not_mem_nil)]) (fun a => ⟨fun hc => (by cases hc), fun ⟨_, _, j, hj, _⟩ => (by omega)⟩)
 exact ⟨_, _, _, hc, drop_own h hG⟩
theorem OwA.fuse (h : OwA n k V D A su mb) (x : Int) : OwA n k V (fuD D x) A su mb := ⟨h.h0, h.hk, h.hd, ⟨h.w.s, h.w.e⟩, h.d, h.e, h.c, h.l, h.su, h.mb⟩
theorem crash_own {S W : Nat → List Int} {g : Nat → SL} (h : Core n k D.S (vis D.S D.E) A su mb g) (hw : WfD n D) (ks : Nat → Int) (kn : Nat) :
  ∃ g', Core n k (crD D ks kn).S (crD D ks kn).S A su mb g' ∧ Lasts (crD D ks kn).S k g' ∧ Good (crD D ks kn) n k g' ∧ WfD n (crD D ks kn) ∧ ∀ i, U8ok (vis (crD D ks kn).S (crD D ks kn).E i) := by
 have hx : ∀ i, (crD D ks kn).S i = D.S i ∨ (crD D ks kn).S i = vis D.S D.E i := fun i => crF_or hw.e ks i kn
 obtain ⟨c1, c2⟩ := h.crash hx
 have ev : ∀ i, vis (crD D ks kn).S (crD D ks kn).E i = (crD D ks kn).S i := fun i => rfl
 exact ⟨_, c1, c2, c1.c.good c2 ev, crD_wf hw ks kn, fun i => by rw [ev]; exact c1.c.uS i⟩
end
def lM : MV → List ByteArray
 | none => []
 | some (_, _, l) => l
def mT (x : List Int) (B : GE MV) : List ByteArray := lM (mV x B)
def rowT (v : Nat) (l : List ByteArray) : Blk := ⟨.grow, 9, v, 1, l.map CV.str⟩
structure RowsB (M : AMem) (B : GE MV) : Prop where
 row : ∀ x r v l, lkG x B = some (some (r, v, l)) → M[r]? = some (rowT v l)
 one : ∀ x y r v l v' l', lkG x B = some (some (r, v, l)) → lkG y B = some (some (r, v', l')) → x = y
section
variable {M M' : AMem} {B : GE MV} {ck : Nat} {k : List Int}
theorem mV_some {x : List Int} {y : Nat × Nat × List ByteArray} (h : mV x B = some y) : lkG x B = some (some y) := by
 unfold mV at h
 cases e : lkG x B with
 | none => rw [e] at h; cases h
 | some z => rw [e] at h; exact congrArg some h
theorem mV_up (x : List Int) (a : MV) : mV x (upG ck k a B) = if x = k then a else mV x B := by
 unfold mV
 rw [lkG_up]
 split <;> rfl
theorem mT_up (x : List Int) (a : MV) : mT x (upG ck k a B) = if x = k then lM a else mT x B := by
 unfold mT
 rw [mV_up]
 split <;> rfl
theorem mT_fun (a : MV) : (fun x => mT x (upG ck k a B)) = updF (fun x => mT x B) k (lM a) := funext fun x => by
 rw [mT_up]; rfl
theorem lkG_fun {α : Type} {E : GE α} {a : α} : (fun x => lkG x (upG ck k a E)) = updF (fun x => lkG x E) k (some a) := funext fun x => by
 rw [lkG_up]; rfl
theorem RowsB.keep (h : RowsB M B) (hk : ∀ (r : Nat) v l, M[r]? = some (rowT v l) → M'[r]? = some (rowT v l)) : RowsB M' B := ⟨fun x r v l e => hk r v l (h.row x r v l e), h.one⟩
theorem RowsB.nil (h : RowsB M B) : RowsB M (upG ck k none B) := by
 refine ⟨fun x r v l e => ?_, fun x y r v l v' l' e1 e2 => ?_⟩
 ·rw [lkG_up] at e
  split at e
  ·cases e
  ·exact h.row x r v l e
 ·rw [lkG_up] at e1 e2
  split at e1
  ·cases e1
  ·split at e2
   ·cases e2
   ·exact h.one x y r v l v' l' e1 e2
theorem RowsB.fresh (h : RowsB M B) (hk : ∀ (r : Nat) v l, M[r]? = some (rowT v l) → M'[r]? = some (rowT v l)) {R : Nat} {v0 : Nat} {l0 : List ByteArray} (hR : M.length ≤ R) (hr : M'[R]? = some (rowT v0 l0)) : RowsB M' (upG ck k (some (R, v0, l0)) B) := by
 have lt : ∀ x r v l, lkG x B = some (some (r, v, l)) → ¬ r = R := fun x r v l e hc => by
  have := (List.getElem?_eq_some_iff.1 (h.row x r v l e)).1
  omega
 refine ⟨fun x r v l e => ?_, fun x y r v l v' l' e1 e2 => ?_⟩
 ·rw [lkG_up] at e
  split at e
  ·injection e with e; injection e with e
   injection e with e3 e4; injection e4 with e4 e5
   rw [← e3, ← e4, ← e5]; exact hr
  ·exact hk r v l (h.row x r v l e)
 ·rw [lkG_up] at e1 e2
  split at e1
  ·rename_i hx
   injection e1 with e1; injection e1 with e1; injection e1 with e3 _
   split at e2
   ·rename_i hy; rw [hx, hy]
   ·exact absurd e3.symm (lt y r v' l' e2)
  ·split at e2
   ·injection e2 with e2; injection e2 with e2; injection e2 with e3 _
    exact absurd e3.symm (lt x r v l e1)
   ·exact h.one x y r v l v' l' e1 e2
theorem RowsB.grow (h : RowsB M B) {R v0 v1 : Nat} {l0 l1 : List ByteArray} (h0 : lkG k B = some (some (R, v0, l0))) (hk : ∀ (r : Nat) v l, ¬ r = R → M[r]? = some (rowT v l) → M'[r]? = some (rowT v l)) (hr : M'[R]? = some (rowT v1 l1)) : RowsB M' (upG ck k (some (R, v1, l1)) B) := by
 have ne : ∀ x r v l, ¬ x = k → lkG x B = some (some (r, v, l)) → ¬ r = R := fun x r v l hx e hc => by
  subst hc; exact hx (h.one x k _ _ _ _ _ e h0)
 refine ⟨fun x r v l e => ?_, fun x y r v l v' l' e1 e2 => ?_⟩
 ·rw [lkG_up] at e
  split at e
  ·injection e with e; injection e with e
   injection e with e3 e4; injection e4 with e4 e5
   rw [← e3, ← e4, ← e5]; exact hr
  ·rename_i hx
   exact hk r v l (ne x r v l hx e) (h.row x r v l e)
 ·rw [lkG_up] at e1 e2
  split at e1
  ·rename_i hx
   injection e1 with e1; injection e1 with e1; injection e1 with e3 _
   split at e2
   ·rename_i hy; rw [hx, hy]
   ·rename_i hy; exact absurd e3.symm (ne y r v' l' hy e2)
  ·rename_i hx
   split at e2
   ·injection e2 with e2; injection e2 with e2; injection e2 with e3 _
    exact absurd e3.symm (ne x r v l hx e1)
   ·exact h.one x y r v l v' l' e1 e2
end
structure WQ where
 (i rv rl : Nat) (M : AMem) (V : VS) (D : DS) (cS cB cA : Nat) (Sx : GE ByteArray) (B : GE MV) (A : TE)
def OwnW (V : VS) (D : DS) (A : TE) (su : List Int → Option ByteArray) (mb : List Int → List ByteArray) : Prop := OwA 400 100 V D A su mb ∨ OwD 400 100 V D A su mb
structure WMem (m : AMem) (q : WQ) : Prop where
 ext : ∀ x, x < m.length → q.M[x]? = m[x]?
 len : m.length + 8 ≤ q.M.length
 wf : MWf q.M.length q.M
 lv : m.length + 3 ≤ q.rv
 ll : m.length + 3 ≤ q.rl
 hB : HasB q.M q.rv q.rl (m.length + 2) m.length (m.length + 1) 400 q.V q.D
 hS : q.M[m.length + 5]? = some (mapS q.cS q.Sx)
 hM : q.M[m.length + 6]? = some (mapM q.cB q.B)
 hA : q.M[m.length + 7]? = some (mapT q.cA q.A)
 gS : WfG q.cS q.Sx
 gB : WfG q.cB q.B
 lA : LT q.A
 rows : RowsB q.M q.B
 lo : ∀ x r v l, lkG x q.B = some (some (r, v, l)) → m.length ≤ r
structure WInv (m : AMem) (cnt : Nat) (q : WQ) : Prop where
 i0 : q.i ≤ cnt
 i1 : q.i ≤ 60
 mem : WMem m q
 own : OwnW q.V q.D q.A (fun x => lkG x q.Sx) (fun x => mT x q.B)
 ky : ∀ x, ¬ mT x q.B = [] → ∃ j : Int, 0 ≤ j ∧ j < 9 ∧ x = kyL j
 bd : ∀ x, (mT x q.B).length ≤ 21 * q.i
section
variable {m : AMem} {q : WQ}
theorem WMem.more (h : WMem m q) {X : AMem} (hw : MWf (q.M ++ X).length (q.M ++ X)) : WMem m { q with M := q.M ++ X } := by
 refine ⟨fun x hx => ?_, by show _ ≤ (q.M ++ X).length; have := h.len; rw [List.length_append]; omega, hw, h.lv, h.ll, h.hB.mono X, lk_old h.hS X, lk_old h.hM X, lk_old h.hA X, h.gS, h.gB, h.lA, h.rows.keep fun r v l e => lk_old e X, h.lo⟩
 have := h.len
 show (q.M ++ X)[x]? = _
 rw [List.getElem?_append_left (by omega)]; exact h.ext x hx
theorem WMem.turn (h : WMem m q) (V' : VS) (D' : DS) : WMem m { q with M := setB q.M q.rv q.rl (m.length + 2) m.length (m.length + 1) 400 V' D', V := V', D := D' } := by
 have lv := h.lv
 have ll := h.ll
 have ne : ∀ {x : Nat} {b : Blk}, q.M[x]? = some b → x ≠ q.rv → x ≠ q.rl → x ≠ m.length + 2 → x ≠ m.length → x ≠ m.length + 1 → (setB q.M q.rv q.rl (m.length + 2) m.length (m.length + 1) 400 V' D')[x]? = some b := fun hb a b c d e => setB_other hb a b c d e
 have nv : ∀ {x : Nat} {b : Blk}, q.M[x]? = some b → b.ty ≠ 77 → x ≠ q.rv := fun {x b} hb ht e => by
  rw [e, h.hB.v.v] at hb; injection hb with hb; subst hb; exact ht rfl
 have nl : ∀ {x : Nat} {b : Blk}, q.M[x]? = some b → b.ty ≠ 82 → x ≠ q.rl := fun {x b} hb ht e => by
  rw [e, h.hB.v.l] at hb; injection hb with hb; subst hb; exact ht rfl
 refine ⟨fun x hx => ?_, by show _ ≤ (setB _ _ _ _ _ _ _ _ _).length; rw [setB_len]; exact h.len, by show MWf (setB _ _ _ _ _ _ _ _ _).length _; rw [setB_len]; exact h.hB.wf h.wf V' D', h.lv, h.ll, h.hB.set V' D', ?_, ?_, ?_, h.gS, h.gB, h.lA, h.rows.keep fun r v l e => ?_, h.lo⟩
 ·show (setB q.M q.rv q.rl (m.length + 2) m.length (m.length + 1) 400 V' D')[x]? = _
  have hq := h.ext x hx
  have e2 : m[x]? = some m[x] := List.getElem?_eq_getElem hx
  rw [e2] at hq ⊢
  exact ne hq (by omega) (by omega) (by omega) (by omega) (by omega)
 ·exact ne h.hS (nv h.hS (by simp [mapS])) (nl h.hS (by simp [mapS])) (by omega) (by omega) (by omega)
 ·exact ne h.hM (nv h.hM (by simp [mapM])) (nl h.hM (by simp [mapM])) (by omega) (by omega) (by omega)
 ·exact ne h.hA (nv h.hA (by simp [mapT])) (nl h.hA (by simp [mapT])) (by omega) (by omega) (by omega)
 ·refine h.hB.stays e (fun hc => by cases hc) (fun _ => by simp [rowT]) (fun _ _ _ _ hc => by cases hc) V' D'
end
theorem gM_str_below (L ck : Nat) (E : GE ByteArray) : BK.below L (.map true false ck (gM CV.str E)) = true := by
 simp only [BK.below, gM, List.all_map, List.all_eq_true]
 intro e _
 simp only [Function.comp, gC, u8l_below, List.all_cons, List.all_nil, CV.below, Bool.and_self]
theorem lkG_of {α : Type} : ∀ {E : GE α} {e : Nat × List Int × α}, (E.map (·.2.1)).Nodup → e ∈ E → lkG e.2.1 E = some e.2.2
 | x :: E, e, hn, h => by
  rw [List.map_cons, List.nodup_cons] at hn
  unfold lkG
  rcases List.mem_cons.1 h with h1 | h1
  ·rw [h1, if_pos rfl]
  ·rw [if_neg (fun hc => hn.1 (by rw [← hc]; exact List.mem_map_of_mem (f := (·.2.1)) h1))]
   exact lkG_of hn.2 h1
theorem gM_mv_below {M : AMem} {ck : Nat} {B : GE MV} (h : RowsB M B) (hn : (B.map (·.2.1)).Nodup) : BK.below M.length (.map true false ck (gM cvM B)) = true := by
 simp only [BK.below, gM, List.all_map, List.all_eq_true]
 intro e he
 have hl := lkG_of hn he
 obtain ⟨b, x, a⟩ := e
 simp only [Function.comp, gC, u8l_below, List.all_cons, List.all_nil, Bool.and_true, Bool.true_and]
 cases a with
 | none => rfl
 | some y =>
  obtain ⟨r, v, l⟩ := y
  have := (List.getElem?_eq_some_iff.1 (h.row x r v l hl)).1
  simp [cvM, CV.below, this]
section
variable {m : AMem} {q : WQ}
theorem WMem.off (h : WMem m q) {x : Nat} {ka va : Bool} {c : Nat} {es : List (Nat × List CV × List CV)} {ty : TypeId} (hx : q.M[x]? = some ⟨.map ka va c es, ty, 0, 0, []⟩) (ht : ty ≠ 71) (b : Blk) : HasB (q.M.set x b) q.rv q.rl (m.length + 2) m.length (m.length + 1) 400 q.V q.D := by
 have k1 : x ≠ q.rv := fun e => by rw [e, h.hB.v.v] at hx; simp [vtB] at hx
 have k2 : x ≠ q.rl := fun e => by rw [e, h.hB.v.l] at hx; simp [rS] at hx
 have k3 : x ≠ m.length + 2 := fun e => by rw [e, h.hB.d.d] at hx; simp [drB] at hx
 have k4 : x ≠ m.length := fun e => by rw [e, h.hB.d.r] at hx; simp [rowD] at hx
 have k5 : x ≠ m.length + 1 := fun e => by
  rw [e, h.hB.d.m] at hx
  simp only [mapD, Option.some.injEq, Blk.mk.injEq] at hx
  exact ht hx.2.1.symm
 exact ⟨⟨by rw [List.getElem?_set_ne k1]; exact h.hB.v.v, by rw [List.getElem?_set_ne k2]; exact h.hB.v.l⟩, ⟨by rw [List.getElem?_set_ne k3]; exact h.hB.d.d, by rw [List.getElem?_set_ne k4]; exact h.hB.d.r, by rw [List.getElem?_set_ne k5]; exact h.hB.d.m⟩⟩
theorem WMem.offR (h : WMem m q) {x : Nat} {ka va : Bool} {c : Nat} {es : List (Nat × List CV × List CV)} {ty : TypeId} (hx : q.M[x]? = some ⟨.map ka va c es, ty, 0, 0, []⟩) (b : Blk) : ∀ (r : Nat) v l, q.M[r]? = some (rowT v l) → (q.M.set x b)[r]? = some (rowT v l) := fun r v l e => by
 have : x ≠ r := fun hc => by rw [← hc, hx] at e; simp [rowT] at e
 rw [List.getElem?_set_ne this]; exact e
theorem WMem.setS (h : WMem m q) {c : Nat} {E : GE ByteArray} (hE : WfG c E) : WMem m { q with M := q.M.set (m.length + 5) (mapS c E), cS := c, Sx := E } := by
 have hl := h.len
 refine ⟨fun x hx => ?_, by show _ ≤ (q.M.set _ _).length; rw [List.length_set]; exact h.len, by show MWf (q.M.set _ _).length _; rw [List.length_set]; exact MWf_setB h.wf rfl (gM_str_below _ _ _), h.lv, h.ll, h.off h.hS (by decide) _, ?_, ?_, ?_, hE, h.gB, h.lA, h.rows.keep (h.offR h.hS _), h.lo⟩
 ·show (q.M.set _ _)[x]? = _
  rw [List.getElem?_set_ne (by omega)]; exact h.ext x hx
 ·show (q.M.set _ _)[m.length + 5]? = _
  rw [List.getElem?_set_self (by omega)]
 ·show (q.M.set _ _)[m.length + 6]? = _
  rw [List.getElem?_set_ne (by omega)]; exact h.hM
 ·show (q.M.set _ _)[m.length + 7]? = _
  rw [List.getElem?_set_ne (by omega)]; exact h.hA
theorem WMem.setA (h : WMem m q) {c : Nat} {E : TE} (hE : LT E) : WMem m { q with M := q.M.set (m.length + 7) (mapT c E), cA := c, A := E } := by
 have hl := h.len
 refine ⟨fun x hx => ?_, by show _ ≤ (q.M.set _ _).length; rw [List.length_set]; exact h.len, by show MWf (q.M.set _ _).length _; rw [List.length_set]; exact MWf_setB h.wf rfl (tL_below _ _ _), h.lv, h.ll, h.off h.hA (by decide) _, ?_, ?_, ?_, h.gS, h.gB, hE, h.rows.keep (h.offR h.hA _), h.lo⟩
 ·show (q.M.set _ _)[x]? = _
  rw [List.getElem?_set_ne (by omega)]; exact h.ext x hx
 ·show (q.M.set _ _)[m.length + 5]? = _
  rw [List.getElem?_set_ne (by omega)]; exact h.hS
 ·show (q.M.set _ _)[m.length + 6]? = _
  rw [List.getElem?_set_ne (by omega)]; exact h.hM
 ·show (q.M.set _ _)[m.length + 7]? = _
  rw [List.getElem?_set_self (by omega)]
theorem WMem.setN (h : WMem m q) {k : List Int} (hk : k.length = 32) : WMem m { q with M := q.M.set (m.length + 6) (mapM (upGc q.cB k q.B) (upG q.cB k none q.B)), cB := upGc q.cB k q.B, B := upG q.cB k none q.B } := by
 have hl := h.len
 have hE := h.gB.up hk (none : MV)
 have hR := h.rows.nil (ck := q.cB) (k := k)
 refine ⟨fun x hx => ?_, by show _ ≤ (q.M.set _ _).length; rw [List.length_set]; exact h.len, by show MWf (q.M.set _ _).length _; rw [List.length_set]; exact MWf_setB h.wf rfl (gM_mv_below hR hE.keys), h.lv, h.ll, h.off h.hM (by decide) _, ?_, ?_, ?_, h.gS, hE, h.lA, hR.keep (h.offR h.hM _), fun x r v l e => ?_⟩
 ·show (q.M.set _ _)[x]? = _
  rw [List.getElem?_set_ne (by omega)]; exact h.ext x hx
 ·show (q.M.set _ _)[m.length + 5]? = _
  rw [List.getElem?_set_ne (by omega)]; exact h.hS
 ·show (q.M.set _ _)[m.length + 6]? = _
  rw [List.getElem?_set_self (by omega)]
 ·show (q.M.set _ _)[m.length + 7]? = _
  rw [List.getElem?_set_ne (by omega)]; exact h.hA
 ·rw [lkG_up] at e
  split at e
  ·cases e
  ·exact h.lo x r v l e
end
section
variable {m : AMem} {q : WQ}
theorem WMem.addN (h : WMem m q) {k : List Int} (hk : k.length = 32) (s : ByteArray) : WMem m { q with M := q.M.set (m.length + 6) (mapM (upGc q.cB k q.B) (upG q.cB k (some (q.M.length, 0, [s])) q.B)) ++ [rowT 0 [s]], cB := upGc q.cB k q.B, B := upG q.cB k (some (q.M.length, 0, [s])) q.B } := by
 have hl := h.len
 have hE := h.gB.up hk (some (q.M.length, 0, [s]) : MV)
 obtain ⟨Bk, hBk⟩ : ∃ b, b = mapM (upGc q.cB k q.B) (upG q.cB k (some (q.M.length, 0, [s])) q.B) := ⟨_, rfl⟩
 have hlen : (q.M.set (m.length + 6) Bk ++ [rowT 0 [s]]).length = q.M.length + 1 := by simp
 have hR : RowsB (q.M.set (m.length + 6) Bk ++ [rowT 0 [s]]) (upG q.cB k (some (q.M.length, 0, [s])) q.B) := h.rows.fresh (fun r v l e => lk_old (h.offR h.hM Bk r v l e) _) (Nat.le_refl _) (by rw [List.getElem?_append_right (by simp), List.length_set, Nat.sub_self]; rfl)
 have hbl := gM_mv_below (ck := upGc q.cB k q.B) hR hE.keys
 have wf : MWf (q.M.set (m.length + 6) Bk ++ [rowT 0 [s]]).length (q.M.set (m.length + 6) Bk ++ [rowT 0 [s]]) := by
  refine MWf.app (MWf_setB (h.wf.grow (by rw [hlen]; omega)) (by rw [hBk]; rfl) (by rw [hBk] at hbl ⊢; exact hbl)) (MWf_one (by rfl))
 have at_ : ∀ {x : Nat} {b : Blk}, q.M[x]? = some b → m.length + 6 ≠ x → (q.M.set (m.length + 6) Bk ++ [rowT 0 [s]])[x]? = some b := fun hx hne => lk_old (by rw [List.getElem?_set_ne hne]; exact hx) _
 have hS := at_ h.hS (by omega)
 have hA := at_ h.hA (by omega)
 have hM : (q.M.set (m.length + 6) Bk ++ [rowT 0 [s]])[m.length + 6]? = some Bk := lk_old (List.getElem?_set_self (by omega)) _
 have hB2 := (h.off h.hM (by decide) Bk).mono [rowT 0 [s]]
 rw [hBk] at *
 refine ⟨fun x hx => ?_, by show _ ≤ (q.M.set _ _ ++ _).length; rw [hlen]; omega, wf, h.lv, h.ll, hB2, hS, hM, hA, h.gS, hE, h.lA, hR, (fun x r v2 l2 e => by
  rw [lkG_up] at e
  split at e
  ·injection e with e; injection e with e; injection e with e3 _; rw [← e3]; omega
  ·exact h.lo x r v2 l2 e)⟩
 show (q.M.set _ _ ++ _)[x]? = _
 rw [List.getElem?_append_left (by rw [List.length_set]; omega), List.getElem?_set_ne (by omega)]; exact h.ext x hx
theorem WMem.addG (h : WMem m q) {k : List Int} (hk : k.length = 32) {R v : Nat} {l : List ByteArray} (h0 : lkG k q.B = some (some (R, v, l))) (s : ByteArray) : WMem m { q with M := (q.M.set R (rowT (v + 1) (l ++ [s]))).set (m.length + 6) (mapM (upGc q.cB k q.B) (upG q.cB k (some (R, v + 1, l ++ [s])) q.B)), cB := upGc q.cB k q.B, B := upG q.cB k (some (R, v + 1, l ++ [s])) q.B } := by
  have hl := h.len
  have hE := h.gB.up hk (some (R, v + 1, l ++ [s]) : MV)
  have hr := h.rows.row k R v l h0
  have hrl := (List.getElem?_eq_some_iff.1 hr).1
  obtain ⟨Bk, hBk⟩ : ∃ b, b = mapM (upGc q.cB k q.B) (upG q.cB k (some (R, v + 1, l ++ [s])) q.B) := ⟨_, rfl⟩
  have ne : ∀ {x : Nat} {b : Blk}, q.M[x]? = some b → (b.kind ≠ .grow ∨ b.ty ≠ 9) → R ≠ x := fun hx hn e => by
    rw [← e, hr] at hx; injection hx with hx; rw [← hx] at hn
    exact hn.elim (fun a => a rfl) (fun a => a rfl)
  have n6 : R ≠ m.length + 6 := ne h.hM (.inl (by simp [mapM]))
  have at_ : ∀ {x : Nat} {b : Blk}, q.M[x]? = some b → R ≠ x → m.length + 6 ≠ x → ((q.M.set R (rowT (v + 1) (l ++ [s]))).set (m.length + 6) Bk)[x]? = some b := fun hx h1 h2 => by rw [List.getElem?_set_ne h2, List.getElem?_set_ne h1]; exact hx
  have n6x : ∀ {x : Nat} {b : Blk}, q.M[x]? = some b → b.ty ≠ 48 → m.length + 6 ≠ x := fun hx ht e => by
    rw [← e, h.hM] at hx; injection hx with hx; rw [← hx] at ht; exact ht rfl
  have hR : RowsB ((q.M.set R (rowT (v + 1) (l ++ [s]))).set (m.length + 6) Bk) (upG q.cB k (some (R, v + 1, l ++ [s])) q.B) := h.rows.grow h0 (fun r v2 l2 hne e => at_ e (fun hc => hne hc.symm) (n6x e (by simp [rowT]))) (by rw [List.getElem?_set_ne n6.symm, List.getElem?_set_self hrl])
  have hbl := gM_mv_below (ck := upGc q.cB k q.B) hR hE.keys
  have hlen : ((q.M.set R (rowT (v + 1) (l ++ [s]))).set (m.length + 6) Bk).length = q.M.length := by simp
  have wf : MWf ((q.M.set R (rowT (v + 1) (l ++ [s]))).set (m.length + 6) Bk).length ((q.M.set R (rowT (v + 1) (l ++ [s]))).set (m.length + 6) Bk) := by
    rw [hlen] at hbl ⊢
    refine MWf_setB (MWf_setB h.wf (by simp only [rowT, List.all_map, List.all_eq_true]; intro _ _; rfl) rfl) (by rw [hBk]; rfl) (by rw [hBk]; exact hbl)
  have hS := at_ h.hS (ne h.hS (.inl (by simp [mapS]))) (by omega)
  have hA := at_ h.hA (ne h.hA (.inl (by simp [mapT]))) (by omega)
  have hM : ((q.M.set R (rowT (v + 1) (l ++ [s]))).set (m.length + 6) Bk)[m.length + 6]? = some Bk := List.getElem?_set_self (by rw [List.length_set]; omega)
  have hB := h.hB
  have hB2 : HasB ((q.M.set R (rowT (v + 1) (l ++ [s]))).set (m.length + 6) Bk) q.rv q.rl (m.length + 2) m.length (m.length + 1) 400 q.V q.D :=
    ⟨⟨at_ hB.v.v (ne hB.v.v (.inl (by simp [vtB]))) (n6x hB.v.v (by simp [vtB])), at_ hB.v.l (ne hB.v.l (.inr (by simp [rS]))) (n6x hB.v.l (by simp [rS]))⟩,
     ⟨at_ hB.d.d (ne hB.d.d (.inl (by simp [drB]))) (n6x hB.d.d (by simp [drB])), at_ hB.d.r (ne hB.d.r (.inr (by simp [rowD]))) (n6x hB.d.r (by simp [rowD])), at_ hB.d.m (ne hB.d.m (.inl (by simp [mapD]))) (n6x hB.d.m (by simp [mapD]))⟩⟩
  have ext : ∀ x, x < m.length → ((q.M.set R (rowT (v + 1) (l ++ [s]))).set (m.length + 6) Bk)[x]? = m[x]? := fun x hx => by
    rw [List.getElem?_set_ne (by omega)]
    by_cases hxR : R = x
    · have := h.lo k R v l h0; omega
    · rw [List.getElem?_set_ne hxR]; exact h.ext x hx
  rw [hBk] at *
  exact ⟨ext, by show _ ≤ List.length _; rw [hlen]; omega, wf, h.lv, h.ll, hB2, hS, hM, hA, h.gS, hE, h.lA, hR, (fun x r v2 l2 e => by
    rw [lkG_up] at e
    split at e
    · injection e with e; injection e with e; injection e with e3 _; rw [← e3]; exact h.lo k R v l h0
    · exact h.lo x r v2 l2 e)⟩
end
theorem clash_grow {A : TE} {bs : List Int} {ck : Nat} (h : clB A bs = false) : Grow A (upT ck (shaL bs) (strB bs) A) ∧ lkT (shaL bs) (upT ck (shaL bs) (strB bs) A) = some (strB bs) := by
 refine ⟨fun d t hd => ?_, by rw [lkT_up, if_pos rfl]⟩
 rw [lkT_up]
 by_cases hx : d = shaL bs
 ·rw [if_pos hx]
  rw [hx] at hd
  unfold clB at h
  rw [hd] at h
  simp only [toL_iff, Bool.not_eq_false', decide_eq_true_iff] at h
  rw [h]
 ·rw [if_neg hx]; exact hd
section
variable {V : VS} {D : DS} {A A' : TE} {su : List Int → Option ByteArray} {mb : List Int → List ByteArray}
theorem OwD.put {n k : Nat} (h : OwD n k V D A su mb) (key : List Int) (t : ByteArray) : OwD n k V D A su (updF mb key (mb key ++ [t])) :=
 h.mono (fun _ _ e => e) (fun _ _ e => .inl e) fun x u hu => by
  unfold updF; split
  ·rename_i hx; rw [hx] at hu; exact List.mem_append_left _ hu
  ·exact hu
end
end Go.Proofs.Ytdkfbbjpblfclaa
namespace Go.Eng
open Go
theorem AW.anyMemG {P : Program} {nt : Nat} {tm : Tm} {mem : AMem} {Q : Exit → Tm → AMem → Prop} {c : Code} (I : AMem → Prop) (h0 : I mem) (h : ∀ M, I M → AW P nt c tm M Q) : AW P nt c tm mem Q := h mem h0
theorem AW.loopX {P : Program} {nt : Nat} {tm : Tm} {mem : AMem} {Q : Exit → Tm → AMem → Prop} {ι : Type} {c : Code} (keep : List Nat) (I : ι → Prop) (V : ι → Tm) (M : ι → AMem) (μ : ι → Nat) (i : ι) (hi : I i) (hv : Keeps tm (V i)) (hm : M i = mem)
  (hl : ∀ j, I j → mem.length ≤ (M j).length)
  (h : ∀ i, I i → AW P nt c (V i ++ keepL tm keep) (M i) (Thn (fun tm' mem' => ∃ j, I j ∧ μ j < μ i ∧ Weak nt tm' mem' (V j ++ keepL tm keep) (M j)) Q)) : AW P nt (.loop c) tm mem Q := by
 subst hm
 refine AW.weak (tm' := V i ++ keepL tm keep) (Keeps.append hv (keeps_keepL _ _)) ?_
 exact AL.loop (AL.inv I (fun j => V j ++ keepL tm keep) M μ hl h (μ i) i hi (Nat.le_refl _))
end Go.Eng
namespace Go.Proofs.Ytdkfbbjpblfclaa
open Go Go.Eng
structure OpsW (m : AMem) (r cnt : Nat) (kd k2 ky : Nat → Int) (rp lp rk lk : Nat → Nat) (nx : Nat → Int) (re le : Nat → Nat) (ax : Nat → Int) (b : Nat → List Int) (ps kl : Nat → List Int) (ks : Nat → Nat → Int) : Prop where
 row : ∃ cells, m[r]? = some ⟨.ro, 52, 0, 136, cells⟩ ∧ cells.length = cnt * 136 ∧ ∀ i, i < cnt → (cells.drop (i * 136)).take 136 = opC (kd i) (k2 i) (ky i) (rp i) 0 (lp i) (rk i) (lk i) (nx i) (re i) (le i) (ax i) (b i)
 len : ∀ i, i < cnt → (b i).length = 128
 ky : ∀ i, i < cnt → 0 ≤ ky i ∧ ky i ≤ 255
 ps : ∀ i, i < cnt → m[rp i]? = some ⟨.ro, 5, 0, 1, u8l (ps i)⟩ ∧ (ps i).length = lp i ∧ U8ok (ps i)
 kl : ∀ i, i < cnt → m[rk i]? = some ⟨.ro, 5, 0, 1, u8l (kl i)⟩ ∧ (kl i).length = lk i ∧ U8ok (kl i)
 ks : ∀ i, i < cnt → m[re i]? = some ⟨.ro, 3, 0, 1, il (le i) (ks i)⟩
theorem kyL_mod (x : Int) : kyL x = kyL (x % 9) := by
 unfold kyL
 rw [show x % 9 % 9 = x % 9 by omega]
section
variable {V : VS} {D : DS} {A A' : TE} {su : List Int → Option ByteArray} {mb : List Int → List ByteArray}
theorem put_all (rv rl rd rs rm : Nat) (m : AMem) (hB : HasB m rv rl rd rs rm 400 V D) (h : OwnW V D A su mb) (j : Int) (j0 : 0 ≤ j) (j9 : j < 9) (key : List Int) (hky : key = kyL j) (rp vp len : Nat) (bs : List Int)
  (hp : ∃ kk ez, m[rp]? = some ⟨kk, 5, vp, ez, u8l bs⟩) (hlen : bs.length = len) (hl2 : len ≤ 700) (ho : U8ok bs) (hA : Grow A A') (ht : lkT (shaL bs) A' = some (strB bs)) :
  ∃ e V' D', Ctr Try.prog 10 [.one (.ptr rv 0 0), .one (.int .i64 2), .agg (u8l key), .one (.sl rp vp 0 len)] m (.one (.int .i64 e)) (setB m rv rl rd rs rm 400 V' D') ∧ ((e = 0 ∧ su key = some (strB bs) ∧ OwnW V' D' A' (updF su key (some (strB bs))) (updF mb key [])) ∨ (e = 0 ∧ su key = none ∧ OwnW V' D' A' (updF su key (some (strB bs))) (updF mb key [])) ∨
   (e = 5 ∧ su key = none ∧ OwnW V' D' A' su (updF mb key (mb key ++ [strB bs]))) ∨ (e = 5 ∧ (∃ t, su key = some t) ∧ OwnW V' D' A' su mb) ∨ (e = 7 ∧ (∃ t, su key = some t) ∧ OwnW V' D' A' su mb) ∨ (e = 4 ∧ OwnW V' D' A' su mb)) := by
 have hk32 : key.length = 32 := by rw [hky]; rfl
 rcases h with h | h
 ·obtain ⟨e, V', D', h1, h2⟩ := put_step rv rl rd rs rm m hB h (by omega) (by omega) (by omega) j j0 j9 key hky rp vp len bs hp hlen hl2 ho hA ht
  refine ⟨e, V', D', h1, ?_⟩
  rcases h2 with ⟨a, b, c⟩ | ⟨a, b, c⟩ | ⟨a, b, c⟩ | ⟨a, b⟩
  ·cases hs : su key with
   | none => exact .inr (.inl ⟨a, rfl, .inl c⟩)
   | some t => exact .inl ⟨a, by rw [b t hs], .inl c⟩
  ·exact .inr (.inr (.inl ⟨a, b, .inr c⟩))
  ·exact .inr (.inr (.inr (.inr (.inl ⟨a, b, .inl c⟩))))
  ·exact .inr (.inr (.inr (.inr (.inr ⟨a, .inl b⟩))))
 ·refine ⟨5, V, D, by rw [hB.same]; exact put_dead rv rl rd V m hB.v.v h.h0 2 key hk32 rp vp len, ?_⟩
  cases hs : su key with
  | none => exact .inr (.inr (.inl ⟨rfl, rfl, .inr ((h.grow hA).put key _)⟩))
  | some t => exact .inr (.inr (.inr (.inl ⟨rfl, ⟨t, rfl⟩, .inr (h.grow hA)⟩)))
theorem drop_all (rv rl rd rs rm : Nat) (m : AMem) (hB : HasB m rv rl rd rs rm 400 V D) (h : OwnW V D A su mb) (rq cnt : Nat) (kf : Nat → List Int) (hq : m[rq]? = some (kR32 38 cnt kf)) (hkf : ∀ i, (kf i).length = 32) (h20 : cnt ≤ 20) :
  ∃ e V' D', Ctr Try.prog 18 [.one (.ptr rv 0 0), .one (.sl rq 0 0 cnt)] m (.one (.int .i64 e)) (setB m rv rl rd rs rm 400 V' D') ∧ (e = 0 ∨ e = 5) ∧ (e = 0 → ∀ x, mb x = []) ∧ ∀ su' mb', (∀ x, (∃ j, j < cnt ∧ x = kf j) → su' x = none) → (∀ x, ¬ (∃ j, j < cnt ∧ x = kf j) → su' x = su x) →
   (e = 0 → ∀ x, mb' x = []) → (e = 5 → ∀ x t, t ∈ mb x → t ∈ mb' x) → (e = 5 → ∀ x t, (∃ j, j < cnt ∧ x = kf j) → su x = some t → t ∈ mb' x) → OwnW V' D' A su' mb' := by
 rcases h with h | h
 ·obtain ⟨e, V', D', h1, h2⟩ := drop_step rv rl rd rs rm m hB h (by omega) (by omega) (by omega) rq cnt kf hq hkf h20
  rcases h2 with ⟨rfl, h2⟩ | ⟨rfl, h2⟩
  ·refine ⟨0, V', D', h1, .inl rfl, fun _ => h.mb, fun su' mb' q1 q2 q3 _ _ => .inl ?_⟩
   have e1 : su' = fun x => if ∃ j, j < cnt ∧ x = kf j then none else su x := funext fun x => by
    by_cases hx : ∃ j, j < cnt ∧ x = kf j
    ·rw [if_pos hx]; exact q1 x hx
    ·rw [if_neg hx]; exact q2 x hx
   have e2 : mb' = mb := funext fun x => by rw [q3 rfl x, h.mb x]
   rw [e1, e2]; exact h2
  ·exact ⟨5, V', D', h1, .inr rfl, fun hc => (by cases hc), fun su' mb' q1 q2 _ _ q5 => .inr (h2 su' mb' q1 q2 (q5 rfl))⟩
 ·refine ⟨5, V, D, by rw [hB.same]; exact drop_dead rv rl rd V m hB.v.v h.h0 rq cnt, .inr rfl, fun hc => (by cases hc), fun su' mb' q1 q2 _ q4 q5 => .inr ?_⟩
  refine h.mono (fun x t hx => ?_) (fun x t hx => ?_) (q4 rfl)
  ·by_cases hk : ∃ j, j < cnt ∧ x = kf j
   ·rw [q1 x hk] at hx; cases hx
   ·rw [q2 x hk] at hx; exact hx
  ·by_cases hk : ∃ j, j < cnt ∧ x = kf j
   ·exact .inr (q5 rfl x t hk hx)
   ·exact .inl (by rw [q2 x hk]; exact hx)
theorem OwnW.core (h : OwnW V D A su mb) : WfD 400 D ∧ ∃ g, Core 400 100 D.S (vis D.S D.E) A su mb g := by
 rcases h with h | h
 ·exact ⟨h.w, _, h.core⟩
 ·exact ⟨h.w, h.core⟩
theorem fuse_all (rv rl rd rs rm : Nat) (m : AMem) (hB : HasB m rv rl rd rs rm 400 V D) (h : OwnW V D A su mb) (x : Int) : ∃ e D', Ctr Try.prog 19 [.one (.ptr rd 0 0), .one (.int .i64 x)] m (.one (.int .i64 e)) (setB m rv rl rd rs rm 400 V D') ∧ OwnW V D' A su mb := by
 rcases h with h | h
 ·exact ⟨0, _, by rw [← setB_D hB]; exact fu_ok rd rs rm 400 D x m hB.d h.d, .inl (h.fuse x)⟩
 ·exact ⟨5, D, by rw [hB.same]; exact fu_down rd rs rm 400 D x m hB.d.d h.d, .inr h⟩
end
structure KI (N : Nat) (S0 : GE ByteArray) (B0 : GE MV) (e : Int) (kf : Nat → List Int) (z : Nat) (S : GE ByteArray) (B : GE MV) : Prop where
 su1 : ∀ x, (∃ j, j < z ∧ x = kf j) → lkG x S = none
 su2 : ∀ x, ¬ (∃ j, j < z ∧ x = kf j) → lkG x S = lkG x S0
 m0 : e = 0 → ∀ x, mT x B = []
 m1 : e = 5 → ∀ x t, t ∈ mT x B0 → t ∈ mT x B
 m2 : e = 5 → ∀ x t, (∃ j, j < z ∧ x = kf j) → lkG x S0 = some t → t ∈ mT x B
 ky : ∀ x, ¬ mT x B = [] → ∃ j : Int, 0 ≤ j ∧ j < 9 ∧ x = kyL j
 bd : ∀ x, (mT x B).length ≤ N + z
section
variable {N : Nat} {S0 S : GE ByteArray} {B0 B B' : GE MV} {e : Int} {kf : Nat → List Int} {z cS cB : Nat}
theorem KI.start (h0 : e = 0 → ∀ x, mT x B = []) (hk : ∀ x, ¬ mT x B = [] → ∃ j : Int, 0 ≤ j ∧ j < 9 ∧ x = kyL j) (hb : ∀ x, (mT x B).length ≤ N) : KI N S B e kf 0 S B :=
 ⟨fun x ⟨j, h, _⟩ => absurd h (by omega), fun _ _ => rfl, h0, fun _ _ _ h => h, fun _ x t ⟨j, h, _⟩ => absurd h (by omega), hk, hb⟩
theorem KI.del (h : KI N S0 B0 e kf z S B) (hw : WfG cS S) (h0 : e = 0 → ∀ x, mT x B' = []) (h1 : e = 5 → ∀ x t, t ∈ mT x B → t ∈ mT x B') (h2 : e = 5 → ∀ t, lkG (kf z) S = some t → t ∈ mT (kf z) B')
  (hk : ∀ x, ¬ mT x B' = [] → ∃ j : Int, 0 ≤ j ∧ j < 9 ∧ x = kyL j) (hb : ∀ x, (mT x B').length ≤ N + (z + 1)) : KI N S0 B0 e kf (z + 1) (delG (kf z) S) B' := by
 have sp : ∀ x, (∃ j, j < z + 1 ∧ x = kf j) → x = kf z ∨ ∃ j, j < z ∧ x = kf j := fun x ⟨j, a, b⟩ => by
  rcases Nat.lt_or_ge j z with c | c
  ·exact .inr ⟨j, c, b⟩
  ·exact .inl (by rw [b, show j = z by omega])
 refine ⟨fun x hx => ?_, fun x hx => ?_, h0, fun he x t ht => h1 he x t (h.m1 he x t ht), fun he x t hx ht => ?_, hk, hb⟩
 ·rw [lkG_del x hw.keys]
  split
  ·rfl
  ·rename_i hn
   rcases sp x hx with q | q
   ·exact absurd q hn
   ·exact h.su1 x q
 ·rw [lkG_del x hw.keys, if_neg (fun hc => hx ⟨z, Nat.lt_succ_self z, hc⟩)]
  exact h.su2 x fun ⟨j, a, b⟩ => hx ⟨j, by omega, b⟩
 ·by_cases hz : ∃ j, j < z ∧ x = kf j
  ·exact h1 he x t (h.m2 he x t hz ht)
  ·rcases sp x hx with q | q
   ·rw [← h.su2 x hz] at ht
    rw [q] at ht ⊢; exact h2 he t ht
   ·exact absurd q hz
end
section
variable {m : AMem} {q : WQ}
theorem WMem.reopen (h : WMem m q) (V' : VS) : WMem m { q with M := q.M ++ [rS 0 V'.k V'.f, vtB (m.length + 2) q.M.length V'], rv := q.M.length + 1, rl := q.M.length, V := V' } := by
 have hl := h.len
 have l3 : (q.M ++ [rS 0 V'.k V'.f, vtB (m.length + 2) q.M.length V']).length = q.M.length + 2 := by simp
 have wf : MWf (q.M ++ [rS 0 V'.k V'.f, vtB (m.length + 2) q.M.length V']).length (q.M ++ [rS 0 V'.k V'.f, vtB (m.length + 2) q.M.length V']) := by
  have a1 : m.length + 2 < (q.M ++ [rS 0 V'.k V'.f, vtB (m.length + 2) q.M.length V']).length := by rw [l3]; omega
  have a2 : q.M.length < (q.M ++ [rS 0 V'.k V'.f, vtB (m.length + 2) q.M.length V']).length := by rw [l3]; omega
  exact MWf.app (h.wf.grow (by rw [l3]; omega)) (MWf_cons (cC_below _ _ _) (MWf_cons (vtB_below a1 a2 _) MWf_nil))
 have h2 := h.more wf
 refine ⟨h2.ext, h2.len, h2.wf, by show _ ≤ q.M.length + 1; omega, by show _ ≤ q.M.length; omega, ⟨⟨?_, ?_⟩, h2.hB.d⟩, h2.hS, h2.hM, h2.hA, h2.gS, h2.gB, h2.lA, h2.rows, h2.lo⟩
 ·show (q.M ++ _)[q.M.length + 1]? = _
  rw [List.getElem?_append_right (by omega), Nat.add_sub_cancel_left]; rfl
 ·show (q.M ++ _)[q.M.length]? = _
  rw [List.getElem?_append_right (Nat.le_refl _), Nat.sub_self]; rfl
theorem WMem.tick (h : WMem m q) (j : Nat) : WMem m { q with i := j } := ⟨h.ext, h.len, h.wf, h.lv, h.ll, h.hB, h.hS, h.hM, h.hA, h.gS, h.gB, h.lA, h.rows, h.lo⟩
theorem WMem.row_ne (h : WMem m q) {k : List Int} {R v : Nat} {l : List ByteArray} (h0 : lkG k q.B = some (some (R, v, l))) {x : Nat} {b : Blk} (hx : q.M[x]? = some b) (hb : b.ty ≠ 9) : R ≠ x := fun e => by
 have := h.rows.row k R v l h0
 rw [e, hx] at this; injection this with this; rw [this] at hb; exact hb rfl
theorem WMem.old (h : WMem m q) {x : Nat} {b : Blk} (hb : m[x]? = some b) : q.M[x]? = some b := (h.ext x (get_lt hb)).trans hb
theorem WMem.stay (h : WMem m q) {x : Nat} {b : Blk} (hx : q.M[x]? = some b) (hk : b.kind = .fix → b.ty ≠ 77 ∧ b.ty ≠ 73) (hg : b.kind = .grow → b.ty ≠ 82 ∧ b.ty ≠ 78) (hm : ∀ ka va c es, b.kind ≠ .map ka va c es) (V' : VS) (D' : DS) : (setB q.M q.rv q.rl (m.length + 2) m.length (m.length + 1) 400 V' D')[x]? = some b := h.hB.stays hx hk hg hm V' D'
end
theorem mT_up_no {ck : Nat} {k x : List Int} {B : GE MV} (h : ¬ mT x (upG ck k none B) = []) : ¬ mT x B = [] := fun hc => h (by
 rw [mT_up]
 split
 ·rfl
 ·exact hc)
theorem mT_up_bd {ck N : Nat} {k x : List Int} {a : MV} {B : GE MV} (h : (mT x B).length ≤ N) (ha : (lM a).length ≤ N) : (mT x (upG ck k a B)).length ≤ N := by
 rw [mT_up]
 split
 ·exact ha
 ·exact h
theorem mT_up_ky {ck : Nat} {k : List Int} {a : MV} {B : GE MV} (h : ∀ x, ¬ mT x B = [] → ∃ j : Int, 0 ≤ j ∧ j < 9 ∧ x = kyL j) (hk : ∃ j : Int, 0 ≤ j ∧ j < 9 ∧ k = kyL j) : ∀ x, ¬ mT x (upG ck k a B) = [] → ∃ j : Int, 0 ≤ j ∧ j < 9 ∧ x = kyL j := fun x hx => by
 by_cases e : x = k
 ·rw [e]; exact hk
 ·rw [mT_up, if_neg e] at hx; exact h x hx
theorem mV_mT {k : List Int} {B : GE MV} {a : MV} (h : mV k B = a) : mT k B = lM a := by unfold mT; rw [h]
def kB (key : List Int) : Blk := ⟨.fix, 37, 0, 0, u8l key⟩
structure SW (m : AMem) (q : WQ) (L : Nat) (o : List CV) (key : List Int) : Prop where
 mem : WMem m q
 lo : m.length + 8 ≤ L
 o : q.M[L]? = some ⟨.fix, 52, 0, 0, o⟩
 k : q.M[L + 1]? = some (kB key)
section
variable {m : AMem} {q : WQ} {L : Nat} {o : List CV} {key : List Int}
theorem SW.setA (h : SW m q L o key) {c : Nat} {E : TE} (hE : LT E) : SW m { q with M := q.M.set (m.length + 7) (mapT c E), cA := c, A := E } L o key := by
 have := h.lo
 refine ⟨h.mem.setA hE, h.lo, ?_, ?_⟩
 ·show (q.M.set _ _)[L]? = _
  rw [List.getElem?_set_ne (by omega)]; exact h.o
 ·show (q.M.set _ _)[L + 1]? = _
  rw [List.getElem?_set_ne (by omega)]; exact h.k
theorem SW.turn (h : SW m q L o key) (V' : VS) (D' : DS) : SW m { q with M := setB q.M q.rv q.rl (m.length + 2) m.length (m.length + 1) 400 V' D', V := V', D := D' } L o key := by
 refine ⟨h.mem.turn V' D', h.lo, h.mem.stay h.o (fun _ => ⟨by simp, by simp⟩) (fun h => by cases h) (fun _ _ _ _ h => by cases h) V' D', h.mem.stay h.k (fun _ => ⟨by simp [kB], by simp [kB]⟩) (fun h => by simp [kB] at h) (fun _ _ _ _ h => by simp [kB] at h) V' D'⟩
end
def slotT (k : Nat) (A : TE) (g : Nat → SL) (x : List Int) (t : ByteArray) : Prop := ∃ i, i < k ∧ aliv (g i) ∧ (g i).key = x ∧ lkT (g i).sum A = some t
structure NI (k : Nat) (A : TE) (g : Nat → SL) (S0 : GE ByteArray) (B0 : GE MV) (z : Nat) (S : GE ByteArray) (B : GE MV) : Prop where
 su1 : ∀ j : Nat, j < z → ∀ t, lkG (kyL (j : Int)) S = some t ↔ slotT k A g (kyL (j : Int)) t
 su2 : ∀ x, ¬ (∃ j : Nat, j < z ∧ x = kyL (j : Int)) → lkG x S = lkG x S0
 m1 : ∀ j : Nat, j < z → mT (kyL (j : Int)) B = []
 m2 : ∀ x, ¬ (∃ j : Nat, j < z ∧ x = kyL (j : Int)) → mT x B = mT x B0
theorem kyL_ne {a b : Nat} (ha : a < 9) (hb : b < 9) (h : a ≠ b) : kyL (a : Int) ≠ kyL (b : Int) := fun e => by
 unfold kyL at e; injection e with e _; omega
section
variable {k : Nat} {A : TE} {g : Nat → SL} {S0 S S' : GE ByteArray} {B0 B B' : GE MV} {z cS cB : Nat}
theorem NI.start : NI k A g S B 0 S B := ⟨fun j h => absurd h (by omega), fun _ _ => rfl, fun j h => absurd h (by omega), fun _ _ => rfl⟩
theorem NI.next (h : NI k A g S0 B0 z S B) (hz : z < 9) (h1 : ∀ t, lkG (kyL (z : Int)) S' = some t ↔ slotT k A g (kyL (z : Int)) t) (h2 : ∀ x, ¬ x = kyL (z : Int) → lkG x S' = lkG x S)
  (h3 : mT (kyL (z : Int)) B' = []) (h4 : ∀ x, ¬ x = kyL (z : Int) → mT x B' = mT x B) : NI k A g S0 B0 (z + 1) S' B' := by
 refine ⟨fun j hj t => ?_, fun x hx => ?_, fun j hj => ?_, fun x hx => ?_⟩
 ·rcases Nat.lt_or_ge j z with c | c
  ·rw [h2 _ (kyL_ne (by omega) hz (by omega))]; exact h.su1 j c t
  ·rw [show j = z by omega]; exact h1 t
 ·rw [h2 x (fun hc => hx ⟨z, Nat.lt_succ_self z, hc⟩)]
  exact h.su2 x fun ⟨j, a, b⟩ => hx ⟨j, by omega, b⟩
 ·rcases Nat.lt_or_ge j z with c | c
  ·rw [h4 _ (kyL_ne (by omega) hz (by omega))]; exact h.m1 j c
  ·rw [show j = z by omega]; exact h3
 ·rw [h4 x (fun hc => hx ⟨z, Nat.lt_succ_self z, hc⟩)]
  exact h.m2 x fun ⟨j, a, b⟩ => hx ⟨j, by omega, b⟩
theorem NI.fin {X : Nat → List Int} {su0 : List Int → Option ByteArray} {mb0 : List Int → List ByteArray} {V : VS} {D : DS} (h : NI 100 A g S0 B0 9 S B) (hC : Core 400 100 X X A su0 mb0 g) (hs : ∀ x, lkG x S0 = su0 x) (hl : Lasts X 100 g) (hV : V = ⟨100, g, (100 : Nat), 0⟩) (hw : WfD 400 D) (hd : D.down = false) (hE : D.E = []) (hS : D.S = X)
  (hk : ∀ x, ¬ mT x B0 = [] → ∃ j : Int, 0 ≤ j ∧ j < 9 ∧ x = kyL j) : OwA 400 100 V D A (fun x => lkG x S) (fun x => mT x B) := by
 refine OwA.of hC hl hV hw hd hE hS (fun x t => ?_) fun x => ?_
 ·by_cases hx : ∃ j : Nat, j < 9 ∧ x = kyL (j : Int)
  ·obtain ⟨j, a, b⟩ := hx
   rw [b]; exact h.su1 j a t
  ·have hno : ∀ i, i < 100 → aliv (g i) → ¬ (g i).key = x := fun i hi ha e => by
    obtain ⟨j, j0, j9, e2⟩ := (hC.c.of hi ha).ky
    exact hx ⟨j.toNat, by omega, by rw [Int.toNat_of_nonneg j0, ← e2, e]⟩
   show lkG x S = some t ↔ _
   rw [h.su2 x hx, hs x]
   constructor
   ·intro e
    obtain ⟨i, i1, i2, i3, _⟩ := hC.us x t e
    exact absurd i3 (hno i i1 i2)
   ·rintro ⟨i, i1, i2, i3, _⟩
    exact absurd i3 (hno i i1 i2)
 ·show mT x B = []
  by_cases hx : ∃ j : Nat, j < 9 ∧ x = kyL (j : Int)
  ·obtain ⟨j, a, b⟩ := hx
   rw [b]; exact h.m1 j a
  ·rw [h.m2 x hx]
   refine Classical.byContradiction fun hc => ?_
   obtain ⟨j, j0, j9, e⟩ := hk x hc
   exact hx ⟨j.toNat, by omega, by rw [Int.toNat_of_nonneg j0]; exact e⟩
end
structure KQ where
 (z cS cB : Nat) (M : AMem) (S : GE ByteArray) (B : GE MV)
structure KX (m : AMem) (q0 : WQ) (KR cnt : Nat) (e : Int) (kf : Nat → List Int) (L3 : Nat) (k : KQ) : Prop where
 z0 : k.z ≤ cnt
 mem : WMem m { q0 with M := k.M, cS := k.cS, cB := k.cB, Sx := k.S, B := k.B }
 kr : m.length + 8 ≤ KR
 row : k.M[KR]? = some (kR32 37 cnt kf)
 len : L3 ≤ k.M.length
 ki : KI (21 * q0.i) q0.Sx q0.B e kf k.z k.S k.B
structure NX (m : AMem) (q0 : WQ) (g : Nat → SL) (L3 : Nat) (k : KQ) : Prop where
 z0 : k.z ≤ 9
 mem : WMem m { q0 with M := k.M, cS := k.cS, cB := k.cB, Sx := k.S, B := k.B }
 len : L3 ≤ k.M.length
 ki : NI 100 q0.A g q0.Sx q0.B k.z k.S k.B
theorem kB_wf (M : AMem) (key : List Int) (X : AMem) (hw : MWf M.length M) (hX : ∀ b, b ∈ X → b = ⟨.grow, 9, 0, 1, b.cells⟩ ∧ ∃ t, b.cells = [.str t]) : MWf (M ++ kB key :: X).length (M ++ kB key :: X) := by
 refine MWf.app (hw.grow (by simp)) (MWf_cons (u8l_below _ _) ?_)
 generalize (M ++ kB key :: X).length = L
 clear hw
 induction X with
 | nil => exact MWf_nil
 | cons b X ih =>
  obtain ⟨h1, t, h2⟩ := hX b List.mem_cons_self
  have ih := ih fun c hc => hX c (List.mem_cons_of_mem _ hc)
  rw [h1, h2]
  exact MWf_cons rfl ih
section
variable {m : AMem} {q0 : WQ} {KR cnt L3 : Nat} {e : Int} {kf : Nat → List Int} {k : KQ} {g : Nat → SL}
theorem KX.step0 (h : KX m q0 KR cnt e kf L3 k) (he : e = 0) (hz : k.z < cnt) (hk : (kf k.z).length = 32) (hj : ∃ j : Int, 0 ≤ j ∧ j < 9 ∧ kf k.z = kyL j) :
  KX m q0 KR cnt e kf L3 ⟨k.z + 1, k.cS, upGc k.cB (kf k.z) k.B, ((k.M ++ [kB (kf k.z)]).set (m.length + 6) (mapM (upGc k.cB (kf k.z) k.B) (upG k.cB (kf k.z) none k.B))).set (m.length + 5) (mapS k.cS (delG (kf k.z) k.S)), delG (kf k.z) k.S, upG k.cB (kf k.z) none k.B⟩ := by
 have h1 := h.mem.more (kB_wf k.M (kf k.z) [] h.mem.wf fun b hb => by cases hb)
 have h2 := (h1.setN hk).setS (h.mem.gS.del (kf k.z))
 have hkr := h.kr
 refine ⟨hz, h2, h.kr, ?_, by have := h.len; simp; omega, h.ki.del h.mem.gS (fun _ x => ?_) (fun hc => by rw [he] at hc; cases hc) (fun hc => by rw [he] at hc; cases hc) (mT_up_ky h.ki.ky hj) fun x => mT_up_bd (by have := h.ki.bd x; omega) (Nat.zero_le _)⟩
 ·show (((k.M ++ _).set _ _).set _ _)[KR]? = _
  rw [List.getElem?_set_ne (by omega), List.getElem?_set_ne (by omega)]; exact lk_old h.row _
 ·rw [mT_up]
  split
  ·rfl
  ·exact h.ki.m0 he x
theorem KX.step5n (h : KX m q0 KR cnt e kf L3 k) (he : e = 5) (hz : k.z < cnt) (hs : lkG (kf k.z) k.S = none) :
  KX m q0 KR cnt e kf L3 ⟨k.z + 1, k.cS, k.cB, (k.M ++ [kB (kf k.z)]).set (m.length + 5) (mapS k.cS (delG (kf k.z) k.S)), delG (kf k.z) k.S, k.B⟩ := by
 have h1 := h.mem.more (kB_wf k.M (kf k.z) [] h.mem.wf fun b hb => by cases hb)
 have h2 := h1.setS (h.mem.gS.del (kf k.z))
 have hkr := h.kr
 refine ⟨hz, h2, h.kr, ?_, by have := h.len; simp; omega, h.ki.del h.mem.gS (fun hc => by rw [he] at hc; cases hc) (fun _ _ _ h => h) (fun _ t ht => by rw [hs] at ht; cases ht) h.ki.ky fun x => Nat.le_trans (h.ki.bd x) (by omega)⟩
 show ((k.M ++ _).set _ _)[KR]? = _
 rw [List.getElem?_set_ne (by omega)]; exact lk_old h.row _
theorem KX.step5a (h : KX m q0 KR cnt e kf L3 k) (he : e = 5) (hz : k.z < cnt) (hk : (kf k.z).length = 32) (hj : ∃ j : Int, 0 ≤ j ∧ j < 9 ∧ kf k.z = kyL j) {t : ByteArray} (hs : lkG (kf k.z) k.S = some t) (hmv : mV (kf k.z) k.B = none) :
  KX m q0 KR cnt e kf L3 ⟨k.z + 1, k.cS, upGc k.cB (kf k.z) k.B, (k.M.set (m.length + 6) (mapM (upGc k.cB (kf k.z) k.B) (upG k.cB (kf k.z) (some (k.M.length + 2, 0, [t])) k.B)) ++ [kB (kf k.z), ⟨.grow, 9, 0, 1, [.str t]⟩, ⟨.grow, 9, 0, 1, [.str t]⟩]).set (m.length + 5) (mapS k.cS (delG (kf k.z) k.S)), delG (kf k.z) k.S, upG k.cB (kf k.z) (some (k.M.length + 2, 0, [t])) k.B⟩ := by
 have h1 := h.mem.more (kB_wf k.M (kf k.z) [⟨.grow, 9, 0, 1, [.str t]⟩] h.mem.wf fun b hb => by rw [List.mem_singleton.1 hb]; exact ⟨rfl, t, rfl⟩)
 have hl8 := h.mem.len
 have hl9 : m.length + 8 ≤ k.M.length := hl8
 have h2 := h1.addN hk t
 have e1 : ∀ b : Blk, (k.M ++ [kB (kf k.z), ⟨.grow, 9, 0, 1, [.str t]⟩]).set (m.length + 6) b ++ [rowT 0 [t]] = k.M.set (m.length + 6) b ++ [kB (kf k.z), ⟨.grow, 9, 0, 1, [.str t]⟩, ⟨.grow, 9, 0, 1, [.str t]⟩] := fun b => by
  rw [List.set_append_left _ _ (by omega), List.append_assoc]; rfl
 simp only [List.length_append, List.length_cons, List.length_nil, Nat.zero_add, Nat.reduceAdd, e1] at h2
 have h3 := h2.setS (h.mem.gS.del (kf k.z))
 have hkr := h.kr
 have hmT := mV_mT hmv
 refine ⟨hz, h3, h.kr, ?_, by have := h.len; simp; omega, h.ki.del h.mem.gS (fun hc => by rw [he] at hc; cases hc) (fun _ x u hu => ?_) (fun _ u hu => ?_) (mT_up_ky h.ki.ky hj) fun x => mT_up_bd (by have := h.ki.bd x; omega) (by show 1 ≤ 21 * q0.i + (k.z + 1); omega)⟩
 ·show ((k.M.set _ _ ++ _).set _ _)[KR]? = _
  rw [List.getElem?_set_ne (by omega), List.getElem?_append_left (by rw [List.length_set]; exact get_lt h.row), List.getElem?_set_ne (by omega)]; exact h.row
 ·rw [mT_up]
  split
  ·rename_i hx; rw [hx, hmT] at hu; cases hu
  ·exact hu
 ·rw [hs] at hu; injection hu with hu
  rw [mT_up, if_pos rfl, ← hu]; exact List.mem_singleton_self _
theorem KX.step5b (h : KX m q0 KR cnt e kf L3 k) (he : e = 5) (hz : k.z < cnt) (hk : (kf k.z).length = 32) (hj : ∃ j : Int, 0 ≤ j ∧ j < 9 ∧ kf k.z = kyL j) {t : ByteArray} (hs : lkG (kf k.z) k.S = some t) {R v : Nat} {l : List ByteArray} (hmv : mV (kf k.z) k.B = some (R, v, l)) :
  KX m q0 KR cnt e kf L3 ⟨k.z + 1, k.cS, upGc k.cB (kf k.z) k.B, ((k.M.set R ⟨.grow, 9, v + 1, 1, (l ++ [t]).map CV.str⟩).set (m.length + 6) (mapM (upGc k.cB (kf k.z) k.B) (upG k.cB (kf k.z) (some (R, v + 1, l ++ [t])) k.B)) ++ [kB (kf k.z), ⟨.grow, 9, 0, 1, [.str t]⟩]).set (m.length + 5) (mapS k.cS (delG (kf k.z) k.S)), delG (kf k.z) k.S, upG k.cB (kf k.z) (some (R, v + 1, l ++ [t])) k.B⟩ := by
 have h1 := h.mem.more (kB_wf k.M (kf k.z) [⟨.grow, 9, 0, 1, [.str t]⟩] h.mem.wf fun b hb => by rw [List.mem_singleton.1 hb]; exact ⟨rfl, t, rfl⟩)
 have hl8 := h.mem.len
 have hl9 : m.length + 8 ≤ k.M.length := hl8
 have hlk := mV_some hmv
 have h2 := h1.addG hk hlk t
 have hrr := h.mem.rows.row (kf k.z) R v l hlk
 have hrl := get_lt hrr
 have hrl2 : R < k.M.length := hrl
 have hR : R ≠ KR := h.mem.row_ne hlk h.row (by simp [kR32])
 have e1 : ∀ b c : Blk, ((k.M ++ [kB (kf k.z), ⟨.grow, 9, 0, 1, [.str t]⟩]).set R c).set (m.length + 6) b = (k.M.set R c).set (m.length + 6) b ++ [kB (kf k.z), ⟨.grow, 9, 0, 1, [.str t]⟩] := fun b c => by
  rw [List.set_append_left _ _ hrl2, List.set_append_left _ _ (by rw [List.length_set]; omega)]
 simp only [e1, rowT] at h2
 have h3 := h2.setS (h.mem.gS.del (kf k.z))
 have hkr := h.kr
 have hmT := mV_mT hmv
 have hbd := h.ki.bd (kf k.z)
 rw [hmT] at hbd
 have hbd2 : l.length ≤ 21 * q0.i + k.z := hbd
 refine ⟨hz, h3, h.kr, ?_, by have := h.len; simp; omega, h.ki.del h.mem.gS (fun hc => by rw [he] at hc; cases hc) (fun _ x u hu => ?_) (fun _ u hu => ?_) (mT_up_ky h.ki.ky hj) fun x => mT_up_bd (by have := h.ki.bd x; omega) (by show (l ++ [t]).length ≤ _; simp; omega)⟩
 ·show (((k.M.set _ _).set _ _ ++ _).set _ _)[KR]? = _
  rw [List.getElem?_set_ne (by omega), List.getElem?_append_left (by rw [List.length_set, List.length_set]; exact get_lt h.row), List.getElem?_set_ne (by omega), List.getElem?_set_ne hR]; exact h.row
 ·rw [mT_up]
  split
  ·rename_i hx
   rw [hx, hmT] at hu
   exact List.mem_append_left _ hu
  ·exact hu
 ·rw [hs] at hu; injection hu with hu
  rw [mT_up, if_pos rfl, ← hu]; exact List.mem_append_right _ (List.mem_singleton_self _)
theorem slot_one {S W : Nat → List Int} {A : TE} {su : List Int → Option ByteArray} {mb : List Int → List ByteArray} (h : Core 400 100 S W A su mb g) {x : List Int} {t u : ByteArray} (h1 : slotT 100 A g x t) (h2 : slotT 100 A g x u) : t = u := by
 obtain ⟨i, i1, i2, i3, i4⟩ := h1
 obtain ⟨j, j1, j2, j3, j4⟩ := h2
 have e : i = j := by
  rcases Nat.lt_trichotomy i j with c | c | c
  ·exact absurd (i3.trans j3.symm) (h.c.two j i j1 c j2 i2)
  ·exact c
  ·exact absurd (j3.trans i3.symm) (h.c.two i j i1 c i2 j2)
 subst e
 rw [i4] at j4; injection j4
theorem NX.no (h : NX m q0 g L3 k) (hz : k.z < 9) {key : List Int} (hkey : key = kyL (k.z : Int)) (hno : ∀ i, i < 100 → aliv (g i) → ¬ (g i).key = key) :
  NX m q0 g L3 ⟨k.z + 1, k.cS, upGc k.cB key k.B, ((k.M ++ [kB key]).set (m.length + 6) (mapM (upGc k.cB key k.B) (upG k.cB key none k.B))).set (m.length + 5) (mapS k.cS (delG key k.S)), delG key k.S, upG k.cB key none k.B⟩ := by
 have hk : key.length = 32 := by rw [hkey]; rfl
 have h1 := h.mem.more (kB_wf k.M key [] h.mem.wf fun b hb => by cases hb)
 have h2 := (h1.setN hk).setS (h.mem.gS.del key)
 refine ⟨hz, h2, by have := h.len; simp; omega, h.ki.next hz (fun t => ?_) (fun x hx => ?_) ?_ fun x hx => ?_⟩
 ·rw [← hkey, lkG_del key h.mem.gS.keys, if_pos rfl]
  exact ⟨fun hc => (by cases hc), fun ⟨i, i1, i2, i3, _⟩ => absurd i3 (hno i i1 i2)⟩
 ·rw [← hkey] at hx; rw [lkG_del x h.mem.gS.keys, if_neg hx]
 ·rw [← hkey, mT_up, if_pos rfl]; rfl
 ·rw [← hkey] at hx; rw [mT_up, if_neg hx]
theorem NX.ok (h : NX m q0 g L3 k) (hz : k.z < 9) {key : List Int} (hkey : key = kyL (k.z : Int)) {row p : List Int} {S W : Nat → List Int} {su : List Int → Option ByteArray} {mb : List Int → List ByteArray} (hC : Core 400 100 S W q0.A su mb g) (hsl : slotT 100 q0.A g key (strB p)) :
  NX m q0 g L3 ⟨k.z + 1, upGc k.cS key (delG key k.S), upGc k.cB key k.B, (((k.M ++ [kB key, ⟨.grow, 5, 0, 1, u8l row⟩]).set (m.length + 6) (mapM (upGc k.cB key k.B) (upG k.cB key none k.B))).set (m.length + 5) (mapS k.cS (delG key k.S))).set (m.length + 5) (mapS (upGc k.cS key (delG key k.S)) (upG k.cS key (strB p) (delG key k.S))), upG k.cS key (strB p) (delG key k.S), upG k.cB key none k.B⟩ := by
 have hk : key.length = 32 := by rw [hkey]; rfl
 have h1 := h.mem.more (X := [kB key, ⟨.grow, 5, 0, 1, u8l row⟩]) (MWf.app (h.mem.wf.grow (by simp)) (MWf_cons (u8l_below _ _) (MWf_cons (u8l_below _ _) MWf_nil)))
 have hd := h.mem.gS.del key
 have h2 := (h1.setN hk).setS hd
 have h3 := h2.setS (hd.up hk (strB p))
 refine ⟨hz, h3, by have := h.len; simp; omega, h.ki.next hz (fun t => ?_) (fun x hx => ?_) ?_ fun x hx => ?_⟩
 ·rw [← hkey, lkG_up, if_pos rfl]
  exact ⟨fun hc => by injection hc with hc; rw [← hc]; exact hsl, fun hc => congrArg some (slot_one hC hsl hc)⟩
 ·rw [← hkey] at hx; rw [lkG_up, if_neg hx, lkG_del x h.mem.gS.keys, if_neg hx]
 ·rw [← hkey, mT_up, if_pos rfl]; rfl
 ·rw [← hkey] at hx; rw [mT_up, if_neg hx]
end
def opZw : List CV := .int .i64 0 :: .int .i64 0 :: .int .u8 0 :: .nils :: .nils :: .int .i64 0 :: .nils :: .int .i64 0 :: u8l zB
theorem alloc52 (mem : AMem) : allocA Try.prog 52 mem = some (.one (.ptr mem.length 0 0), mem ++ [⟨.fix, 52, 0, 0, opZw⟩]) := by
 unfold allocA; rw [zr52]; rfl
theorem opC_vals (kd k2 ky : Int) (rp vp lp rk lk : Nat) (nx : Int) (re le : Nat) (ax : Int) (b : List Int) : (opC kd k2 ky rp vp lp rk lk nx re le ax b).all CV.isVal = true := by
 simp only [opC, List.all_cons, u8l_vals, CV.isVal]; rfl
theorem opC_below {kd k2 ky : Int} {rp vp lp rk lk : Nat} {nx : Int} {re le : Nat} {ax : Int} {b : List Int} {L : Nat} (h1 : rp < L) (h2 : rk < L) (h3 : re < L) : (opC kd k2 ky rp vp lp rk lk nx re le ax b).all (CV.below L) = true := by
 simp only [opC, List.all_cons, u8l_below, CV.below, h1, h2, h3, decide_true, Bool.and_true]
theorem ext_of {m M : AMem} (h : ∀ q, q < m.length → M[q]? = m[q]?) (hl : m.length ≤ M.length) : ∃ X, M = m ++ X := by
 refine ⟨M.drop m.length, List.ext_getElem? fun q => ?_⟩
 rcases Nat.lt_or_ge q m.length with hq | hq
 ·rw [List.getElem?_append_left hq]; exact h q hq
 ·rw [List.getElem?_append_right hq, List.getElem?_drop]
  congr 1; omega
theorem w_start (m : AMem) (hwf : MWf m.length m) (cnt : Nat) : WInv m cnt ⟨0, (m.length + 4), (m.length + 3), (m ++ [rowD 400 D0, mapD D0, drB m.length (m.length + 1) 400 D0, rS 0 100 (V0 100).f, vtB (m.length + 2) (m.length + 3) (V0 100), mapS 0 [], mapM 0 [], mapT 0 []]), (V0 100), D0, 0, 0, 0, [], [], []⟩ := by
 have wf : MWf (m ++ [rowD 400 D0, mapD D0, drB m.length (m.length + 1) 400 D0, rS 0 100 (V0 100).f, vtB (m.length + 2) (m.length + 3) (V0 100), mapS 0 [], mapM 0 [], mapT 0 []]).length (m ++ [rowD 400 D0, mapD D0, drB m.length (m.length + 1) 400 D0, rS 0 100 (V0 100).f, vtB (m.length + 2) (m.length + 3) (V0 100), mapS 0 [], mapM 0 [], mapT 0 []]) := by
  refine MWf.app (hwf.grow (by simp)) ?_
  refine MWf_cons (u8l_below _ _) (MWf_cons (by rfl) (MWf_cons (by simp [drB, CV.below] <;> omega) (MWf_cons (cC_below _ _ _) (MWf_cons (vtB_below (by simp <;> omega) (by simp <;> omega) _) (MWf_cons (by rfl) (MWf_cons (by rfl) (MWf_cons (by rfl) MWf_nil)))))))
 have gn : ∀ {α : Type}, WfG (α := α) 0 [] := ⟨fun e h => (by cases h), List.nodup_nil, fun e h => (by cases h), List.nodup_nil⟩
 refine ⟨Nat.zero_le _, Nat.zero_le _, ⟨fun x hx => List.getElem?_append_left hx, by show _ ≤ List.length _; simp, wf, by show _ ≤ m.length + 4; omega, Nat.le_refl _, ⟨⟨?_, ?_⟩, ⟨?_, ?_, ?_⟩⟩, ?_, ?_, ?_, gn, gn, fun e h => (by cases h), ⟨fun x r v l h => (by cases h), fun x y r v l v' l' h => (by cases h)⟩, fun x r v l h => (by cases h)⟩, .inl ?_, fun x hx => absurd rfl hx, fun _ => Nat.le_refl _⟩
 all_goals first | (show (m ++ _)[m.length + _]? = _; rw [lk_app]; rfl) | (show (m ++ _)[m.length]? = _; rw [lk_app0]; rfl) | skip
 have hz : ∀ i, ¬ aliv ((V0 100).f i) := fun i => alivZ rfl
 refine ⟨rfl, rfl, rfl, d0_wf 400, rfl, rfl, ⟨fun _ _ => rfl, fun _ _ => .inl rfl, fun i j _ _ h => absurd h (hz i), fun _ _ => .inl rfl, fun _ _ => .inl rfl, fun i _ h => absurd h (hz i), fun _ => zB_ok, fun _ => zB_ok⟩, fun i _ h => absurd h (hz i), fun x t => ⟨fun h => (by cases h), fun ⟨i, _, h, _⟩ => absurd h (hz i)⟩, fun _ => rfl⟩
theorem whole_c (r cnt : Nat) (kd k2 ky : Nat → Int) (rp lp rk lk : Nat → Nat) (nx : Nat → Int) (re le : Nat → Nat) (ax : Nat → Int) (b : Nat → List Int) (ps kl : Nat → List Int) (ks : Nat → Nat → Int) (m : AMem) (hops : OpsW m r cnt kd k2 ky rp lp rk lk nx re le ax b ps kl ks) : Ctr Try.prog 4 [.one (.sl r 0 0 cnt)] m (.one (.bool true)) m := by
 refine Ctr.enter Try.func4 rfl (by decide) (rs := [.tmp 2]) (nt := 274) rfl rfl fun hwf Q hQ => ?_
 obtain ⟨cells, hrow, hcl, hcells⟩ := hops.row
 have lr := get_lt hrow
 have k100 : ((100 : Nat) : Int) = slotsZ ((400 : Nat) : Int) := by rw [slotsZ_nat 400 (by omega)]; rfl
 have hoz : opZw.length = 136 := rfl
 have hW0 := w_start m hwf cnt
 have e0 : (V0 100).k = 100 := rfl
 have emS : mapS 0 [] = ⟨.map true false 0 [], 47, 0, 0, []⟩ := rfl
 have emM : mapM 0 [] = ⟨.map true false 0 [], 48, 0, 0, []⟩ := rfl
 have emT : mapT 0 [] = ⟨.map true false 0 [], 33, 0, 0, []⟩ := rfl
 refine AW.sr 3 fun K hK => ?_
 have pk_1 : _ ∧ _ ∧ _ ∧ _ ∧ _ := ⟨hrow, lk_old hrow, hcl, hoz, e0⟩
 simp only [push_cast, simprocAttr, ↓alloc52, Int.le_refl, Nat.le_refl, rS, kB, pk_1]
 refine CThen.by (dnew_c 400 _ (by omega) (by omega)) ?_
 simp only [push_cast, simprocAttr, ↓alloc52, Int.le_refl, Nat.le_refl, rS, kB, pk_1]
 refine CThen.by (open_c (m.length + 2) m.length (m.length + 1) 400 100 D0 (fun _ => zS) _ ⟨by rw [lk_app]; rfl, by rw [lk_app0]; rfl, by rw [lk_app]; rfl⟩ (d0_wf 400) rfl (by omega) k100 d0_ok (good0 400 100)) ?_
 simp only [push_cast, simprocAttr, ↓alloc52, Int.le_refl, Nat.le_refl, rS, kB, pk_1]
 apply hK;clear hK K
 refine AW.seq_k fun K hK => ?_
 refine AW.sr 1 fun K hK => ?_
 simp only [push_cast, simprocAttr, ↓alloc52, Int.le_refl, Nat.le_refl, rS, kB, pk_1]
 refine CThen.by (awake_c _) ?_
 simp only [push_cast, simprocAttr, ↓alloc52, Int.le_refl, Nat.le_refl, rS, kB, pk_1]
 apply hK;clear hK K
 refine AW.cond_f rfl ?_
 refine AW.skip ?_
 apply hK;clear hK K
 refine AW.sr 1 fun K hK => ?_
 simp only [push_cast, simprocAttr, ↓alloc52, Int.le_refl, Nat.le_refl, rS, kB, pk_1]
 apply hK;clear hK K
 refine AW.seq_k fun K hK => ?_
 refine AW.sr 1 fun K hK => ?_
 simp only [push_cast, simprocAttr, ↓alloc52, Int.le_refl, Nat.le_refl, rS, kB, pk_1]
 apply hK;clear hK K
 refine AW.block ?_
 refine AW.loopX [3, 7, 8, 9, 56, 57] (fun (q : WQ) => WInv m cnt q) (fun (q : WQ) => [(5, .one (.ptr q.rv 0 0)), (58, .one (.int .i64 (q.i : Int)))]) (fun (q : WQ) => q.M) (fun (q : WQ) => cnt - q.i) _ hW0 ?_ ?_ (fun q hq => by have := hq.mem.len; simp; omega) fun q hi3 => ?_
 · first | rfl | (simp only [KS, simprocAttr, Int.natCast_zero] <;> repeat' (first | rfl | apply And.intro))
 · rfl
 obtain ⟨i, rv, rl, M, V, D, cS, cB, cA, Sx, B, A⟩ := q
 have hI : WInv m cnt ⟨i, rv, rl, M, V, D, cS, cB, cA, Sx, B, A⟩ := hi3
 have hmem := hI.mem
 have hown := hI.own
 have hkyB := hI.ky
 have hbdB := hI.bd
 have i0 : i ≤ cnt := hI.i0
 have i60 : i ≤ 60 := hI.i1
 have hl8 : m.length + 8 ≤ M.length := hmem.len
 have hpre := hmem.ext
 have hpl : m.length ≤ M.length := by omega
 have hrM := hmem.old hrow
 dsimp only at hown hkyB hbdB hpre hrM ⊢
 try simp only [keepL, setAll, push_cast, simprocAttr, ↓alloc52, Int.le_refl, Nat.le_refl, rS, kB, pk_1, hrM, lk_old hrM]
 refine AW.sr 1 fun K hK => ?_
 simp only [push_cast, simprocAttr, ↓alloc52, Int.le_refl, Nat.le_refl, rS, kB, pk_1, hrM, lk_old hrM]
 apply hK;clear hK K
 refine AW.seq_k fun K hK => ?_
 refine AW.cond rfl (fun h59 => ?_) (fun h59 => ?_)
 ·have hic : i < cnt := by have := of_decide_eq_true h59; omega
  have c0 : (0 : Int) ≤ (i : Int) := by omega
  have c1 : (i : Int) < (cnt : Int) := by omega
  have c2 : i * 136 + 136 ≤ cnt * 136 := by omega
  have hb := hops.len i hic
  have hc := hcells i hic
  have hol := opC_len (kd i) (k2 i) (ky i) (rp i) 0 (lp i) (rk i) (lk i) (nx i) (re i) (le i) (ax i) (b i) hb
  have hov := opC_vals (kd i) (k2 i) (ky i) (rp i) 0 (lp i) (rk i) (lk i) (nx i) (re i) (le i) (ax i) (b i)
  have hos : setL opZw 0 (opC (kd i) (k2 i) (ky i) (rp i) 0 (lp i) (rk i) (lk i) (nx i) (re i) (le i) (ax i) (b i)) = (opC (kd i) (k2 i) (ky i) (rp i) 0 (lp i) (rk i) (lk i) (nx i) (re i) (le i) (ax i) (b i)) := setL_full (by rw [hol]; rfl)
  have hot : ((opC (kd i) (k2 i) (ky i) (rp i) 0 (lp i) (rk i) (lk i) (nx i) (re i) (le i) (ax i) (b i))).take 136 = (opC (kd i) (k2 i) (ky i) (rp i) 0 (lp i) (rk i) (lk i) (nx i) (re i) (le i) (ax i) (b i)) := List.take_of_length_le (by omega)
  have o0 : ((opC (kd i) (k2 i) (ky i) (rp i) 0 (lp i) (rk i) (lk i) (nx i) (re i) (le i) (ax i) (b i)))[0]? = some (.int .i64 (kd i)) := rfl
  have o2 : ((opC (kd i) (k2 i) (ky i) (rp i) 0 (lp i) (rk i) (lk i) (nx i) (re i) (le i) (ax i) (b i)))[2]? = some (.int .u8 (ky i)) := rfl
  have o3 : ((opC (kd i) (k2 i) (ky i) (rp i) 0 (lp i) (rk i) (lk i) (nx i) (re i) (le i) (ax i) (b i)))[3]? = some (.sl (rp i) 0 0 (lp i)) := rfl
  have o4 : ((opC (kd i) (k2 i) (ky i) (rp i) 0 (lp i) (rk i) (lk i) (nx i) (re i) (le i) (ax i) (b i)))[4]? = some (.sl (rk i) 0 0 (lk i)) := rfl
  have o5 : ((opC (kd i) (k2 i) (ky i) (rp i) 0 (lp i) (rk i) (lk i) (nx i) (re i) (le i) (ax i) (b i)))[5]? = some (.int .i64 (nx i)) := rfl
  have o6 : ((opC (kd i) (k2 i) (ky i) (rp i) 0 (lp i) (rk i) (lk i) (nx i) (re i) (le i) (ax i) (b i)))[6]? = some (.sl (re i) 0 0 (le i)) := rfl
  obtain ⟨hps, hpl2, hpo⟩ := hops.ps i hic
  obtain ⟨hkl, hkl2, hko⟩ := hops.kl i hic
  have hks := hops.ks i hic
  obtain ⟨hy0, hy1⟩ := hops.ky i hic
  have lps := get_lt hps
  have lkl := get_lt hkl
  have lks := get_lt hks
  have hwi : IntKind.i64.wrap ((i : Int) + 1) = (i : Int) + 1 := wi (by omega)
  have hbd1 : ∀ x, (mT x B).length ≤ 21 * (i + 1) := fun x => by have := hbdB x; omega
  obtain ⟨key, hkey⟩ : ∃ k, k = kyL (ky i) := ⟨_, rfl⟩
  have hkm : key = kyL (ky i % 9) := by rw [hkey]; exact kyL_mod _
  have hk32 : key.length = 32 := by rw [hkey]; rfl
  have hkc : ∀ X : AMem, Ctr Try.prog 16 [.one (.int .u8 (ky i))] X (.agg (u8l key)) X := fun X => by rw [hkey]; exact key_c (ky i) X hy0 hy1
  have kul : (u8l key).length = 32 := by rw [u8l_len]; exact hk32
  have kut : (u8l key).take 32 = u8l key := List.take_of_length_le (by omega)
  have kuv := u8l_vals key
  have kuz : setL [CV.int .u8 0, CV.int .u8 0, CV.int .u8 0, CV.int .u8 0, CV.int .u8 0, CV.int .u8 0, CV.int .u8 0, CV.int .u8 0, CV.int .u8 0, CV.int .u8 0, CV.int .u8 0, CV.int .u8 0, CV.int .u8 0, CV.int .u8 0, CV.int .u8 0, CV.int .u8 0, CV.int .u8 0, CV.int .u8 0, CV.int .u8 0, CV.int .u8 0, CV.int .u8 0, CV.int .u8 0, CV.int .u8 0, CV.int .u8 0, CV.int .u8 0, CV.int .u8 0, CV.int .u8 0, CV.int .u8 0, CV.int .u8 0, CV.int .u8 0, CV.int .u8 0, CV.int .u8 0] 0 (u8l key) = u8l key := setL_full (by rw [kul]; rfl)
  have pul : (u8l (ps i)).length = lp i := by rw [u8l_len]; exact hpl2
  have put_ : (u8l (ps i)).take (lp i) = u8l (ps i) := List.take_of_length_le (by omega)
  have pba := bytesA_u8 (ps i)
  refine AW.skip ?_
  apply hK;clear hK K
  refine AW.seq_k fun K hK => ?_
  refine AW.block ?_
  refine AW.sr 1 fun K hK => ?_
  have pk_2 : _ ∧ _ ∧ _ ∧ _ ∧ _ ∧ _ ∧ _ ∧ _ ∧ _ ∧ _ ∧ _ ∧ _ ∧ _ ∧ _ ∧ _ ∧ _ ∧ _ ∧ _ ∧ _ ∧ _ ∧ _ ∧ _ ∧ _ ∧ _ := ⟨pk_1, hrM, lk_old hrM, c0, c1, c2, hc, hol, hov, hos, hot, o0, o2, o3, o4, o5, o6, kul, kut, kuv, kuz, pul, put_, pba⟩
  simp only [push_cast, simprocAttr, ↓alloc52, Int.le_refl, Nat.le_refl, rS, kB, pk_2]
  apply hK;clear hK K
  refine AW.seq_k fun K hK => ?_
  refine AW.seq_k fun K hK => ?_
  have h69 : (60 : Int) ≤ (i : Int) ∨ (¬ (60 : Int) ≤ (i : Int) ∧ ¬ (lp i ≤ 700 ∧ lk i ≤ 20 ∧ le i ≤ 60)) ∨ (¬ (60 : Int) ≤ (i : Int) ∧ (lp i ≤ 700 ∧ lk i ≤ 20 ∧ le i ≤ 60)) := by omega
  rcases h69 with h60 | ⟨h60, hf⟩ | ⟨h60, hf⟩
  ·have h60x := h60
   refine AW.rg ?_
   simp only [push_cast, simprocAttr, ↓alloc52, Int.le_refl, Nat.le_refl, rS, kB, pk_2, h60]
   apply hK;clear hK K
   refine AW.cond_t rfl ?_
   refine AW.exit ?_
   refine Thn_e ?_
   clear hK K
   refine InB_far (by decide) ?_
   refine Thn_e ?_
   clear hK K
   refine Thn_e ?_
   refine InB_here ?_
   apply hK;clear hK K
   refine AW.sr 1 fun K hK => ?_
   simp only [push_cast, simprocAttr, ↓alloc52, Int.le_refl, Nat.le_refl, rS, kB, pk_2, h60]
   apply hK;clear hK K
   refine AW.ret ?_
   refine hQ _ _ _ ?_
   obtain ⟨X2, hX2⟩ := ext_of hpre hpl
   rw [hX2]
   try rw [List.append_assoc]
   refine RetP.drop (by first | exact Or.inr rfl | exact Or.inl rfl) ?_ ?_ hwf
   · simp only [resA, resOne, resTv, AV.tv, push_cast, simprocAttr]
   · rfl
  ·have h60x := h60
   refine AW.rg ?_
   simp only [push_cast, simprocAttr, ↓alloc52, Int.le_refl, Nat.le_refl, rS, kB, pk_2, h60]
   refine CThen.by (fits_no (kd i) (k2 i) (ky i) (rp i) 0 (lp i) (rk i) (lk i) (nx i) (re i) (le i) (ax i) (b i) _ hb hf) ?_
   simp only [push_cast, simprocAttr, ↓alloc52, Int.le_refl, Nat.le_refl, rS, kB, pk_2, h60]
   apply hK;clear hK K
   refine AW.cond_t rfl ?_
   refine AW.exit ?_
   refine Thn_e ?_
   clear hK K
   refine InB_far (by decide) ?_
   refine Thn_e ?_
   clear hK K
   refine Thn_e ?_
   refine InB_here ?_
   apply hK;clear hK K
   refine AW.sr 1 fun K hK => ?_
   simp only [push_cast, simprocAttr, ↓alloc52, Int.le_refl, Nat.le_refl, rS, kB, pk_2, h60]
   apply hK;clear hK K
   refine AW.ret ?_
   refine hQ _ _ _ ?_
   obtain ⟨X2, hX2⟩ := ext_of hpre hpl
   rw [hX2]
   try rw [List.append_assoc]
   refine RetP.drop (by first | exact Or.inr rfl | exact Or.inl rfl) ?_ ?_ hwf
   · simp only [resA, resOne, resTv, AV.tv, push_cast, simprocAttr]
   · rfl
  ·obtain ⟨hf1, hf2, hf3⟩ := hf
   have hi6 : i < 60 := by omega
   have hmu : ∀ j, j = i → cnt - (j + 1) < cnt - j := fun j hj => by omega
   refine AW.rg ?_
   simp only [push_cast, simprocAttr, ↓alloc52, Int.le_refl, Nat.le_refl, rS, kB, pk_2, h60]
   refine CThen.by (fits_t (kd i) (k2 i) (ky i) (rp i) 0 (lp i) (rk i) (lk i) (nx i) (re i) (le i) (ax i) (b i) _ hb hf1 hf2 hf3) ?_
   simp only [push_cast, simprocAttr, ↓alloc52, Int.le_refl, Nat.le_refl, rS, kB, pk_2, h60]
   apply hK;clear hK K
   refine AW.cond_f rfl ?_
   refine AW.skip ?_
   apply hK;clear hK K
   refine AW.sr 2 fun K hK => ?_
   simp only [push_cast, simprocAttr, ↓alloc52, Int.le_refl, Nat.le_refl, rS, kB, pk_2, h60]
   refine CThen.by (hkc _) ?_
   simp only [push_cast, simprocAttr, ↓alloc52, Int.le_refl, Nat.le_refl, rS, kB, pk_2, h60]
   apply hK;clear hK K
   refine AW.block ?_
   refine AW.anyMemG (fun M1 => SW m ⟨i, rv, rl, M1, V, D, cS, cB, cA, Sx, B, A⟩ M.length (opC (kd i) (k2 i) (ky i) (rp i) 0 (lp i) (rk i) (lk i) (nx i) (re i) (le i) (ax i) (b i)) key) ⟨hmem.more (MWf.app (hmem.wf.grow (by simp)) (MWf_cons (opC_below (by simp; omega) (by simp; omega) (by simp; omega)) (MWf_cons (u8l_below _ _) MWf_nil))), hl8, by rw [lk_app0]; rfl, by rw [lk_app]; rfl⟩ fun M1 hW => ?_
   have hWo := hW.o
   have hWk : M1[M.length + 1]? = some ⟨.fix, 37, 0, 0, u8l key⟩ := hW.k
   have hWl : m.length + 8 ≤ M1.length := hW.mem.len
   dsimp only at hWo
   refine AW.sr 1 fun K hK => ?_
   simp only [push_cast, simprocAttr, ↓alloc52, Int.le_refl, Nat.le_refl, rS, kB, pk_2, h60, hWo, hWk]
   apply hK;clear hK K
   refine AW.cond rfl (fun h75 => ?_) (fun h75 => ?_)
   ·refine AW.seq_k fun K hK => ?_
    refine AW.sr 1 fun K hK => ?_
    simp only [push_cast, simprocAttr, ↓alloc52, Int.le_refl, Nat.le_refl, rS, kB, pk_2, h60, hWo, hWk]
    refine CThen.by (clash_c (m.length + 7) (rp i) 0 (lp i) cA A (ps i) M1 hW.mem.hA hW.mem.lA ⟨_, _, hW.mem.old hps⟩ hpl2 (by omega) hpo) ?_
    simp only [push_cast, simprocAttr, ↓alloc52, Int.le_refl, Nat.le_refl, rS, kB, pk_2, h60, hWo, hWk]
    apply hK;clear hK K
    refine AW.cond rfl (fun h80 => ?_) (fun h80 => ?_)
    ·have hWA := hW.setA (c := upTc cA (shaL (ps i)) A) (E := upT cA (shaL (ps i)) (strB (ps i)) A) (upT_lt (shaL_len _) hW.mem.lA)
     have hpre := hWA.mem.ext
     have hpl : m.length ≤ (M1.set (m.length + 7) (mapT (upTc cA (shaL (ps i)) A) (upT cA (shaL (ps i)) (strB (ps i)) A))).length := by rw [List.length_set]; omega
     dsimp only at hpre
     refine AW.sr 1 fun K hK => ?_
     simp only [push_cast, simprocAttr, ↓alloc52, Int.le_refl, Nat.le_refl, rS, kB, pk_2, h60, hWo, hWk]
     apply hK;clear hK K
     refine AW.ret ?_
     refine Thn_r ?_
     refine InB_r ?_
     refine InB_r ?_
     refine Thn_r ?_
     refine Thn_r ?_
     refine InB_r ?_
     refine Thn_r ?_
     refine hQ _ _ _ ?_
     obtain ⟨X2, hX2⟩ := ext_of hpre hpl
     rw [hX2]
     try rw [List.append_assoc]
     refine RetP.drop (by first | exact Or.inr rfl | exact Or.inl rfl) ?_ ?_ hwf
     · simp only [resA, resOne, resTv, AV.tv, push_cast, simprocAttr]
     · rfl
    ·have hcl : clB A (ps i) = false := h80
     obtain ⟨hgr, htx⟩ := clash_grow (ck := cA) hcl
     have hWA := hW.setA (c := upTc cA (shaL (ps i)) A) (E := upT cA (shaL (ps i)) (strB (ps i)) A) (upT_lt (shaL_len _) hW.mem.lA)
     obtain ⟨A2, hA2⟩ : ∃ a, a = upT cA (shaL (ps i)) (strB (ps i)) A := ⟨_, rfl⟩
     obtain ⟨cA2, hcA2⟩ : ∃ a, a = upTc cA (shaL (ps i)) A := ⟨_, rfl⟩
     rw [← hA2] at hgr htx
     rw [← hA2, ← hcA2] at hWA ⊢
     refine AW.skip ?_
     apply hK;clear hK K
     refine AW.anyMemG (fun M2 => SW m ⟨i, rv, rl, M2, V, D, cS, cB, cA2, Sx, B, A2⟩ M.length (opC (kd i) (k2 i) (ky i) (rp i) 0 (lp i) (rk i) (lk i) (nx i) (re i) (le i) (ax i) (b i)) key) hWA fun M2 hW2 => ?_
     have hW2o := hW2.o
     have hW2k : M2[M.length + 1]? = some ⟨.fix, 37, 0, 0, u8l key⟩ := hW2.k
     have hW2l : m.length + 8 ≤ M2.length := hW2.mem.len
     have lkS2 := lookS hW2.mem.hS hW2.mem.gS hk32
     have hC2p := hW2.mem.old hps
     dsimp only at hW2o lkS2 hC2p
     simp only [push_cast, simprocAttr] at lkS2
     refine AW.sr 1 fun K hK => ?_
     have pk_3 : _ ∧ _ ∧ _ ∧ _ ∧ _ ∧ _ ∧ _ ∧ _ := ⟨pk_2, h60, hWo, hWk, hW2o, hW2k, hC2p, lkS2⟩
     simp only [push_cast, simprocAttr, ↓alloc52, Int.le_refl, Nat.le_refl, rS, kB, pk_3]
     apply hK;clear hK K
     refine AW.seq_k fun K hK => ?_
     obtain ⟨e, V', D', hC, hcase⟩ := put_all rv rl (m.length + 2) m.length (m.length + 1) M2 hW2.mem.hB hown (ky i % 9) (by omega) (by omega) key hkm (rp i) 0 (lp i) (ps i) ⟨_, _, hW2.mem.old hps⟩ hpl2 hf1 hpo hgr htx
     have hWT := hW2.turn V' D'
     rcases hcase with ⟨rfl, p1, p2⟩ | ⟨rfl, p1, p2⟩ | ⟨rfl, p1, p2⟩ | ⟨rfl, p1, p2⟩ | ⟨rfl, p1, p2⟩ | ⟨rfl, p2⟩
     ·have hTs : hT key Sx = true := by unfold hT; rw [p1]; rfl
      have sTs : sT key Sx = strB (ps i) := by unfold sT; rw [p1]; rfl
      have hN : ∀ M3, SW m ⟨i, rv, rl, M3, V', D', cS, cB, cA2, Sx, B, A2⟩ M.length (opC (kd i) (k2 i) (ky i) (rp i) 0 (lp i) (rk i) (lk i) (nx i) (re i) (le i) (ax i) (b i)) key → WInv m cnt ⟨(i + 1), rv, rl, ((M3.set (m.length + 5) (mapS (upGc cS key Sx) (upG cS key (strB (ps i)) Sx))).set (m.length + 6) (mapM (upGc cB key B) (upG cB key none B))), V', D', (upGc cS key Sx), (upGc cB key B), cA2, (upG cS key (strB (ps i)) Sx), (upG cB key none B), A2⟩ := fun M3 h => ⟨hic, hi6, ((h.mem.setS (h.mem.gS.up hk32 (strB (ps i)))).setN hk32).tick (i + 1), by rw [lkG_fun, mT_fun]; exact p2, fun x hx => hkyB x (mT_up_no hx), fun x => mT_up_bd (hbd1 x) (Nat.zero_le _)⟩
      refine AW.rg ?_
      simp only [push_cast, simprocAttr, ↓alloc52, Int.le_refl, Nat.le_refl, rS, kB, pk_3, hTs, sTs, bne_self_eq_false]
      refine CThen.by (hC) ?_
      simp only [push_cast, simprocAttr, ↓alloc52, Int.le_refl, Nat.le_refl, rS, kB, pk_3, hTs, sTs, bne_self_eq_false]
      apply hK;clear hK K
      refine AW.anyMemG (fun M3 => SW m ⟨i, rv, rl, M3, V', D', cS, cB, cA2, Sx, B, A2⟩ M.length (opC (kd i) (k2 i) (ky i) (rp i) 0 (lp i) (rk i) (lk i) (nx i) (re i) (le i) (ax i) (b i)) key) hWT fun M3 hW3 => ?_
      have hW3o := hW3.o
      have hW3k : M3[M.length + 1]? = some ⟨.fix, 37, 0, 0, u8l key⟩ := hW3.k
      have hW3l : m.length + 8 ≤ M3.length := hW3.mem.len
      have hW3p := hW3.mem.old hps
      dsimp only at hW3o hW3p
      refine AW.sr 1 fun K hK => ?_
      have pk_4 : _ ∧ _ ∧ _ ∧ _ ∧ _ ∧ _ ∧ _ ∧ _ ∧ _ := ⟨pk_3, hTs, sTs, hW3o, hW3k, hW3p, lk_old hW3o, lk_old hW3k, lk_old hW3p⟩
      simp only [push_cast, simprocAttr, ↓alloc52, Int.le_refl, Nat.le_refl, rS, kB, bne_self_eq_false, pk_4]
      apply hK;clear hK K
      refine AW.block ?_
      refine AW.sr 1 fun K hK => ?_
      simp only [push_cast, simprocAttr, ↓alloc52, Int.le_refl, Nat.le_refl, rS, kB, bne_self_eq_false, pk_4]
      apply hK;clear hK K
      refine AW.cond_t rfl ?_
      refine AW.seq_k fun K hK => ?_
      refine AW.sr 1 fun K hK => ?_
      simp only [push_cast, simprocAttr, ↓alloc52, Int.le_refl, Nat.le_refl, rS, kB, bne_self_eq_false, pk_4]
      apply hK;clear hK K
      refine AW.cond_f rfl ?_
      refine AW.skip ?_
      apply hK;clear hK K
      have puS3 := putS hW3.mem.hS hW3.mem.gS hk32 (strB (ps i))
      have hM5 : (M3.set (m.length + 5) (mapS (upGc cS key Sx) (upG cS key (strB (ps i)) Sx)))[m.length + 6]? = some (mapM cB B) := by rw [List.getElem?_set_ne (by omega)]; exact hW3.mem.hM
      have puM3 := putM hM5 hW3.mem.gB hk32
      dsimp only at puS3 puM3
      have hk5 : ∀ b : Blk, (M3.set (m.length + 5) b)[M.length + 1]? = some ⟨.fix, 37, 0, 0, u8l key⟩ := fun b => by rw [List.getElem?_set_ne (by omega)]; exact hW3k
      have hk56 : ∀ b c : Blk, ((M3.set (m.length + 5) b).set (m.length + 6) c)[M.length + 1]? = some ⟨.fix, 37, 0, 0, u8l key⟩ := fun b c => by rw [List.getElem?_set_ne (by omega)]; exact hk5 b
      simp only [push_cast, simprocAttr] at puS3 puM3
      refine AW.draw [.val, .rd 0, .val, .rw 0, .val, .rd 0, .ext, .wr, .wr] fol (by decide) (by kernel_rfl) ?_
      have pk_5 : _ ∧ _ ∧ _ ∧ _ ∧ _ := ⟨pk_4, puS3, puM3, hk5, hk56⟩
      simp only [push_cast, simprocAttr, ↓alloc52, Int.le_refl, Nat.le_refl, rS, kB, bne_self_eq_false, pk_5]
      refine DExt.by (by first | rfl | exact (List.append_nil _).symm | (simp only [List.append_assoc, List.cons_append, List.nil_append]; rfl)) ?_
      simp only [push_cast, simprocAttr, ↓alloc52, Int.le_refl, Nat.le_refl, rS, kB, bne_self_eq_false, pk_5]
      try refine AOpsD_end (by simp only [watchS, allAt, push_cast, simprocAttr, ↓alloc52, Int.le_refl, Nat.le_refl, rS, kB, bne_self_eq_false, pk_5]) ?_
      refine InB_n ?_
      refine InB_n ?_
      refine InB_n ?_
      apply hK;clear hK K
      refine AW.rg ?_
      simp only [push_cast, simprocAttr, ↓alloc52, Int.le_refl, Nat.le_refl, rS, kB, bne_self_eq_false, pk_5]
      refine Thn_n ?_
      try simp only [keepL, setAll, push_cast, simprocAttr, ↓alloc52, Int.le_refl, Nat.le_refl, rS, kB, bne_self_eq_false, pk_5]
      first
      | exact ⟨_, hN _ hW3, hmu i rfl, Weak.same (by simp only [KS, simprocAttr, hwi, Int.natCast_add, Int.cast_ofNat_Int, Int.natCast_one]) (by first | rfl | exact hNm)⟩
      | exact ⟨_, hNz, hmu i rfl, Weak.same (by simp only [KS, simprocAttr, hwi, Int.natCast_add, Int.cast_ofNat_Int, Int.natCast_one]) (by first | rfl | (simp only [List.append_assoc, List.cons_append, List.nil_append]; rfl) | simp only [List.append_assoc, List.cons_append, List.nil_append])⟩
     ·have hTs : hT key Sx = false := by unfold hT; rw [p1]; rfl
      have hN : ∀ M3, SW m ⟨i, rv, rl, M3, V', D', cS, cB, cA2, Sx, B, A2⟩ M.length (opC (kd i) (k2 i) (ky i) (rp i) 0 (lp i) (rk i) (lk i) (nx i) (re i) (le i) (ax i) (b i)) key → WInv m cnt ⟨(i + 1), rv, rl, ((M3.set (m.length + 5) (mapS (upGc cS key Sx) (upG cS key (strB (ps i)) Sx))).set (m.length + 6) (mapM (upGc cB key B) (upG cB key none B))), V', D', (upGc cS key Sx), (upGc cB key B), cA2, (upG cS key (strB (ps i)) Sx), (upG cB key none B), A2⟩ := fun M3 h => ⟨hic, hi6, ((h.mem.setS (h.mem.gS.up hk32 (strB (ps i)))).setN hk32).tick (i + 1), by rw [lkG_fun, mT_fun]; exact p2, fun x hx => hkyB x (mT_up_no hx), fun x => mT_up_bd (hbd1 x) (Nat.zero_le _)⟩
      refine AW.rg ?_
      simp only [push_cast, simprocAttr, ↓alloc52, Int.le_refl, Nat.le_refl, rS, kB, pk_3, hTs]
      refine CThen.by (hC) ?_
      simp only [push_cast, simprocAttr, ↓alloc52, Int.le_refl, Nat.le_refl, rS, kB, pk_3, hTs]
      apply hK;clear hK K
      refine AW.anyMemG (fun M3 => SW m ⟨i, rv, rl, M3, V', D', cS, cB, cA2, Sx, B, A2⟩ M.length (opC (kd i) (k2 i) (ky i) (rp i) 0 (lp i) (rk i) (lk i) (nx i) (re i) (le i) (ax i) (b i)) key) hWT fun M3 hW3 => ?_
      have hW3o := hW3.o
      have hW3k : M3[M.length + 1]? = some ⟨.fix, 37, 0, 0, u8l key⟩ := hW3.k
      have hW3l : m.length + 8 ≤ M3.length := hW3.mem.len
      have hW3p := hW3.mem.old hps
      dsimp only at hW3o hW3p
      refine AW.sr 1 fun K hK => ?_
      have pk_6 : _ ∧ _ ∧ _ ∧ _ ∧ _ ∧ _ ∧ _ ∧ _ := ⟨pk_3, hTs, hW3o, hW3k, hW3p, lk_old hW3o, lk_old hW3k, lk_old hW3p⟩
      simp only [push_cast, simprocAttr, ↓alloc52, Int.le_refl, Nat.le_refl, rS, kB, pk_6]
      apply hK;clear hK K
      refine AW.block ?_
      refine AW.sr 1 fun K hK => ?_
      simp only [push_cast, simprocAttr, ↓alloc52, Int.le_refl, Nat.le_refl, rS, kB, pk_6]
      apply hK;clear hK K
      refine AW.cond_t rfl ?_
      refine AW.seq_k fun K hK => ?_
      refine AW.sr 1 fun K hK => ?_
      simp only [push_cast, simprocAttr, ↓alloc52, Int.le_refl, Nat.le_refl, rS, kB, pk_6]
      apply hK;clear hK K
      refine AW.cond_f rfl ?_
      refine AW.skip ?_
      apply hK;clear hK K
      have puS3 := putS hW3.mem.hS hW3.mem.gS hk32 (strB (ps i))
      have hM5 : (M3.set (m.length + 5) (mapS (upGc cS key Sx) (upG cS key (strB (ps i)) Sx)))[m.length + 6]? = some (mapM cB B) := by rw [List.getElem?_set_ne (by omega)]; exact hW3.mem.hM
      have puM3 := putM hM5 hW3.mem.gB hk32
      dsimp only at puS3 puM3
      have hk5 : ∀ b : Blk, (M3.set (m.length + 5) b)[M.length + 1]? = some ⟨.fix, 37, 0, 0, u8l key⟩ := fun b => by rw [List.getElem?_set_ne (by omega)]; exact hW3k
      have hk56 : ∀ b c : Blk, ((M3.set (m.length + 5) b).set (m.length + 6) c)[M.length + 1]? = some ⟨.fix, 37, 0, 0, u8l key⟩ := fun b c => by rw [List.getElem?_set_ne (by omega)]; exact hk5 b
      simp only [push_cast, simprocAttr] at puS3 puM3
      refine AW.draw [.val, .rd 0, .val, .rw 0, .val, .rd 0, .ext, .wr, .wr] fol (by decide) (by kernel_rfl) ?_
      have pk_7 : _ ∧ _ ∧ _ ∧ _ ∧ _ := ⟨pk_6, puS3, puM3, hk5, hk56⟩
      simp only [push_cast, simprocAttr, ↓alloc52, Int.le_refl, Nat.le_refl, rS, kB, pk_7]
      refine DExt.by (by first | rfl | exact (List.append_nil _).symm | (simp only [List.append_assoc, List.cons_append, List.nil_append]; rfl)) ?_
      simp only [push_cast, simprocAttr, ↓alloc52, Int.le_refl, Nat.le_refl, rS, kB, pk_7]
      try refine AOpsD_end (by simp only [watchS, allAt, push_cast, simprocAttr, ↓alloc52, Int.le_refl, Nat.le_refl, rS, kB, pk_7]) ?_
      refine InB_n ?_
      refine InB_n ?_
      refine InB_n ?_
      apply hK;clear hK K
      refine AW.rg ?_
      simp only [push_cast, simprocAttr, ↓alloc52, Int.le_refl, Nat.le_refl, rS, kB, pk_7]
      refine Thn_n ?_
      try simp only [keepL, setAll, push_cast, simprocAttr, ↓alloc52, Int.le_refl, Nat.le_refl, rS, kB, pk_7]
      first
      | exact ⟨_, hN _ hW3, hmu i rfl, Weak.same (by simp only [KS, simprocAttr, hwi, Int.natCast_add, Int.cast_ofNat_Int, Int.natCast_one]) (by first | rfl | exact hNm)⟩
      | exact ⟨_, hNz, hmu i rfl, Weak.same (by simp only [KS, simprocAttr, hwi, Int.natCast_add, Int.cast_ofNat_Int, Int.natCast_one]) (by first | rfl | (simp only [List.append_assoc, List.cons_append, List.nil_append]; rfl) | simp only [List.append_assoc, List.cons_append, List.nil_append])⟩
     ·have hTs : hT key Sx = false := by unfold hT; rw [p1]; rfl
      refine AW.rg ?_
      simp only [push_cast, simprocAttr, ↓alloc52, Int.le_refl, Nat.le_refl, rS, kB, pk_3, hTs]
      refine CThen.by (hC) ?_
      simp only [push_cast, simprocAttr, ↓alloc52, Int.le_refl, Nat.le_refl, rS, kB, pk_3, hTs]
      apply hK;clear hK K
      refine AW.anyMemG (fun M3 => SW m ⟨i, rv, rl, M3, V', D', cS, cB, cA2, Sx, B, A2⟩ M.length (opC (kd i) (k2 i) (ky i) (rp i) 0 (lp i) (rk i) (lk i) (nx i) (re i) (le i) (ax i) (b i)) key) hWT fun M3 hW3 => ?_
      have hW3o := hW3.o
      have hW3k : M3[M.length + 1]? = some ⟨.fix, 37, 0, 0, u8l key⟩ := hW3.k
      have hW3l : m.length + 8 ≤ M3.length := hW3.mem.len
      have hW3p := hW3.mem.old hps
      dsimp only at hW3o hW3p
      refine AW.sr 1 fun K hK => ?_
      have pk_8 : _ ∧ _ ∧ _ ∧ _ ∧ _ ∧ _ ∧ _ ∧ _ := ⟨pk_3, hTs, hW3o, hW3k, hW3p, lk_old hW3o, lk_old hW3k, lk_old hW3p⟩
      simp only [push_cast, simprocAttr, ↓alloc52, Int.le_refl, Nat.le_refl, rS, kB, pk_8]
      apply hK;clear hK K
      refine AW.block ?_
      refine AW.sr 1 fun K hK => ?_
      simp only [push_cast, simprocAttr, ↓alloc52, Int.le_refl, Nat.le_refl, rS, kB, pk_8]
      apply hK;clear hK K
      refine AW.cond_f rfl ?_
      iterate 2
       refine AW.sr 1 fun K hK => ?_
       simp only [push_cast, simprocAttr, ↓alloc52, Int.le_refl, Nat.le_refl, rS, kB, pk_8]
       apply hK;clear hK K
       refine AW.cond_t rfl ?_
      rcases hmv : mV key B with _ | ⟨R, v, l⟩
      ·have hs2 : ∀ (z : AMem) (b : Blk), (M3 ++ z).set (m.length + 6) b = M3.set (m.length + 6) b ++ z := fun z b => List.set_append_left _ _ (by omega)
       have hl2 : ∀ (z : AMem) (b : Blk), (M3.set (m.length + 6) b ++ z)[m.length + 6]? = some b := fun z b => lk_old (List.getElem?_set_self (by omega)) z
       have hb2 : ∀ (z : AMem) (b : Blk), (M3.set (m.length + 6) b ++ z)[M3.length]? = z[0]? := fun z b => by rw [List.getElem?_append_right (by rw [List.length_set]; exact Nat.le_refl _), List.length_set, Nat.sub_self]
       have en3 := fun X : AMem => entM (lk_old hW3.mem.hM X) hW3.mem.gB hk32
       rw [hmv] at en3
       simp only [hs2, cvM] at en3
       have hgu := fun a : MV => hW3.mem.gB.up hk32 a
       have hmT := mV_mT hmv
       have hm1 := hW3.mem.more (X := [⟨.grow, 9, 0, 1, [.str (strB (ps i))]⟩]) (MWf.app (hW3.mem.wf.grow (by simp)) (MWf_one (by rfl)))
       have st3 := fun X : AMem => stoM (ck := cB) (hl2 X (mapM (upGc cB key B) (upG cB key none B))) (hgu none) (some (M3.length + 1, 0, [strB (ps i)]))
       have hs8 : ∀ (z : AMem) (b b' : Blk), (M3.set (m.length + 6) b ++ z).set (m.length + 6) b' = M3.set (m.length + 6) b' ++ z := fun z b b' => by rw [List.set_append_left _ _ (by rw [List.length_set]; omega), List.set_set]
       simp only [hs8, cvM] at st3
       have hNz : WInv m cnt ⟨(i + 1), rv, rl, (M3.set (m.length + 6) (mapM (upGc cB key B) (upG cB key (some (M3.length + 1, 0, [strB (ps i)])) B)) ++ [⟨.grow, 9, 0, 1, [.str (strB (ps i))]⟩, ⟨.grow, 9, 0, 1, [.str (strB (ps i))]⟩]), V', D', cS, (upGc cB key B), cA2, Sx, (upG cB key (some (M3.length + 1, 0, [strB (ps i)])) B), A2⟩ := by
         have h2 := hm1.addN hk32 (strB (ps i))
         simp only [hs2, List.length_append, List.length_set, List.length_cons, List.length_nil, List.append_assoc, List.cons_append, List.nil_append, Nat.zero_add] at h2
         refine ⟨hic, hi6, h2.tick (i + 1), ?_, mT_up_ky hkyB ⟨ky i % 9, by omega, by omega, hkm⟩, fun x => mT_up_bd (hbd1 x) ?_⟩
         · dsimp only; rw [mT_fun]
           rw [hmT] at p2; exact p2
         · exact (by show 1 ≤ 21 * (i + 1); omega)
       simp only [push_cast, simprocAttr] at en3 st3
       refine AW.rg ?_
       simp only [push_cast, simprocAttr, ↓alloc52, Int.le_refl, Nat.le_refl, rS, kB, pk_8, en3, st3, hb2]
       refine InB_n ?_
       refine InB_n ?_
       refine InB_n ?_
       apply hK;clear hK K
       refine AW.rg ?_
       simp only [push_cast, simprocAttr, ↓alloc52, Int.le_refl, Nat.le_refl, rS, kB, pk_8, en3, st3, hb2]
       refine Thn_n ?_
       try simp only [keepL, setAll, push_cast, simprocAttr, ↓alloc52, Int.le_refl, Nat.le_refl, rS, kB, pk_8, en3, st3, hb2]
       first
       | exact ⟨_, hN _ hW3, hmu i rfl, Weak.same (by simp only [KS, simprocAttr, hwi, Int.natCast_add, Int.cast_ofNat_Int, Int.natCast_one]) (by first | rfl | exact hNm)⟩
       | exact ⟨_, hNz, hmu i rfl, Weak.same (by simp only [KS, simprocAttr, hwi, Int.natCast_add, Int.cast_ofNat_Int, Int.natCast_one]) (by first | rfl | (simp only [List.append_assoc, List.cons_append, List.nil_append]; rfl) | simp only [List.append_assoc, List.cons_append, List.nil_append])⟩
      ·have hs2 : ∀ (z : AMem) (b : Blk), (M3 ++ z).set (m.length + 6) b = M3.set (m.length + 6) b ++ z := fun z b => List.set_append_left _ _ (by omega)
       have hl2 : ∀ (z : AMem) (b : Blk), (M3.set (m.length + 6) b ++ z)[m.length + 6]? = some b := fun z b => lk_old (List.getElem?_set_self (by omega)) z
       have hb2 : ∀ (z : AMem) (b : Blk), (M3.set (m.length + 6) b ++ z)[M3.length]? = z[0]? := fun z b => by rw [List.getElem?_append_right (by rw [List.length_set]; exact Nat.le_refl _), List.length_set, Nat.sub_self]
       have en3 := fun X : AMem => entM (lk_old hW3.mem.hM X) hW3.mem.gB hk32
       rw [hmv] at en3
       simp only [hs2, cvM] at en3
       have hgu := fun a : MV => hW3.mem.gB.up hk32 a
       have hmT := mV_mT hmv
       have hm1 := hW3.mem.more (X := [⟨.grow, 9, 0, 1, [.str (strB (ps i))]⟩]) (MWf.app (hW3.mem.wf.grow (by simp)) (MWf_one (by rfl)))
       have hlk := mV_some hmv
       have hr3 := hW3.mem.rows.row key R v l hlk
       have hr6 : m.length + 6 ≠ R := fun e => by rw [← e, hW3.mem.hM] at hr3; simp [mapM, rowT] at hr3
       have hrl := get_lt hr3
       have hR2 : ∀ (z : AMem) (b : Blk), (M3.set (m.length + 6) b ++ z)[R]? = some ⟨.grow, 9, v, 1, l.map CV.str⟩ := fun z b => lk_old (by rw [List.getElem?_set_ne hr6]; exact hr3) z
       have hs3 : ∀ (z : AMem) (b c : Blk), (M3.set (m.length + 6) b ++ z).set R c = (M3.set R c).set (m.length + 6) b ++ z := fun z b c => by rw [List.set_append_left _ _ (by rw [List.length_set]; exact hrl), List.set_comm _ _ hr6]
       have hs4 : ∀ (z : AMem) (b c : Blk), ((M3.set R c).set (m.length + 6) b ++ z)[m.length + 6]? = some b := fun z b c => lk_old (List.getElem?_set_self (by rw [List.length_set]; omega)) z
       have hs5 : ∀ (z : AMem) (b c : Blk), ((M3.set R c) ++ z).set (m.length + 6) b = (M3.set R c).set (m.length + 6) b ++ z := fun z b c => List.set_append_left _ _ (by rw [List.length_set]; omega)
       have hs6 : ∀ (z : AMem) (b : Blk), (M3 ++ z).set R b = M3.set R b ++ z := fun z b => List.set_append_left _ _ hrl
       have hs7 : ∀ (z : AMem) (b b' c : Blk), ((M3.set R c).set (m.length + 6) b ++ z).set (m.length + 6) b' = (M3.set R c).set (m.length + 6) b' ++ z := fun z b b' c => by rw [List.set_append_left _ _ (by rw [List.length_set, List.length_set]; omega), List.set_set]
       have hap : l.map CV.str ++ [.str (strB (ps i))] = (l ++ [strB (ps i)]).map CV.str := by rw [List.map_append]; rfl
       have hll : (l.map CV.str).length = l.length := List.length_map _
       have hbl := hbdB key
       rw [hmT] at hbl
       have hbl2 : l.length ≤ 21 * i := hbl
       have q1 : l.length ≤ 140737488355327 := by omega
       have q2 : (l.length + 1) * 16 ≤ 140737488355328 := by omega
       have st3 := fun X : AMem => stoM (ck := cB) (hs4 X (mapM (upGc cB key B) (upG cB key (some (R, v, l)) B)) ⟨.grow, 9, v + 1, 1, (l ++ [strB (ps i)]).map CV.str⟩) (hgu (some (R, v, l))) (some (R, v + 1, l ++ [strB (ps i)]))
       simp only [hs7, cvM, List.length_append, List.length_cons, List.length_nil, Nat.zero_add] at st3
       have hNz : WInv m cnt ⟨(i + 1), rv, rl, ((M3.set R ⟨.grow, 9, v + 1, 1, (l ++ [strB (ps i)]).map CV.str⟩).set (m.length + 6) (mapM (upGc cB key B) (upG cB key (some (R, v + 1, l ++ [strB (ps i)])) B)) ++ [⟨.grow, 9, 0, 1, [.str (strB (ps i))]⟩]), V', D', cS, (upGc cB key B), cA2, Sx, (upG cB key (some (R, v + 1, l ++ [strB (ps i)])) B), A2⟩ := by
         have h2 := hm1.addG hk32 hlk (strB (ps i))
         simp only [hs5, hs6, rowT, List.length_append, List.length_set, List.length_cons, List.length_nil, Nat.zero_add] at h2
         refine ⟨hic, hi6, h2.tick (i + 1), ?_, mT_up_ky hkyB ⟨ky i % 9, by omega, by omega, hkm⟩, fun x => mT_up_bd (hbd1 x) ?_⟩
         · dsimp only; rw [mT_fun]
           rw [hmT] at p2; exact p2
         · exact (by show (l ++ [strB (ps i)]).length ≤ 21 * (i + 1); simp; omega)
       simp only [push_cast, simprocAttr] at en3 st3
       refine AW.rg ?_
       have pk_9 : _ ∧ _ ∧ _ ∧ _ ∧ _ ∧ _ ∧ _ ∧ _ ∧ _ ∧ _ := ⟨pk_8, en3, st3, hb2, hR2, hs3, hap, hll, q1, q2⟩
       simp only [push_cast, simprocAttr, ↓alloc52, Int.le_refl, Nat.le_refl, rS, kB, pk_9]
       refine InB_n ?_
       refine InB_n ?_
       refine InB_n ?_
       apply hK;clear hK K
       refine AW.rg ?_
       simp only [push_cast, simprocAttr, ↓alloc52, Int.le_refl, Nat.le_refl, rS, kB, pk_9]
       refine Thn_n ?_
       try simp only [keepL, setAll, push_cast, simprocAttr, ↓alloc52, Int.le_refl, Nat.le_refl, rS, kB, pk_9]
       first
       | exact ⟨_, hN _ hW3, hmu i rfl, Weak.same (by simp only [KS, simprocAttr, hwi, Int.natCast_add, Int.cast_ofNat_Int, Int.natCast_one]) (by first | rfl | exact hNm)⟩
       | exact ⟨_, hNz, hmu i rfl, Weak.same (by simp only [KS, simprocAttr, hwi, Int.natCast_add, Int.cast_ofNat_Int, Int.natCast_one]) (by first | rfl | (simp only [List.append_assoc, List.cons_append, List.nil_append]; rfl) | simp only [List.append_assoc, List.cons_append, List.nil_append])⟩
     ·obtain ⟨t0, p1⟩ := p1
      have hTs : hT key Sx = true := by unfold hT; rw [p1]; rfl
      have hN : ∀ M3, SW m ⟨i, rv, rl, M3, V', D', cS, cB, cA2, Sx, B, A2⟩ M.length (opC (kd i) (k2 i) (ky i) (rp i) 0 (lp i) (rk i) (lk i) (nx i) (re i) (le i) (ax i) (b i)) key → WInv m cnt ⟨(i + 1), rv, rl, M3, V', D', cS, cB, cA2, Sx, B, A2⟩ := fun M3 h => ⟨hic, hi6, h.mem.tick (i + 1), p2, hkyB, hbd1⟩
      refine AW.rg ?_
      simp only [push_cast, simprocAttr, ↓alloc52, Int.le_refl, Nat.le_refl, rS, kB, pk_3, hTs]
      refine CThen.by (hC) ?_
      simp only [push_cast, simprocAttr, ↓alloc52, Int.le_refl, Nat.le_refl, rS, kB, pk_3, hTs]
      apply hK;clear hK K
      refine AW.anyMemG (fun M3 => SW m ⟨i, rv, rl, M3, V', D', cS, cB, cA2, Sx, B, A2⟩ M.length (opC (kd i) (k2 i) (ky i) (rp i) 0 (lp i) (rk i) (lk i) (nx i) (re i) (le i) (ax i) (b i)) key) hWT fun M3 hW3 => ?_
      have hW3o := hW3.o
      have hW3k : M3[M.length + 1]? = some ⟨.fix, 37, 0, 0, u8l key⟩ := hW3.k
      have hW3l : m.length + 8 ≤ M3.length := hW3.mem.len
      have hW3p := hW3.mem.old hps
      dsimp only at hW3o hW3p
      refine AW.sr 1 fun K hK => ?_
      have pk_10 : _ ∧ _ ∧ _ ∧ _ ∧ _ ∧ _ ∧ _ ∧ _ := ⟨pk_3, hTs, hW3o, hW3k, hW3p, lk_old hW3o, lk_old hW3k, lk_old hW3p⟩
      simp only [push_cast, simprocAttr, ↓alloc52, Int.le_refl, Nat.le_refl, rS, kB, pk_10]
      apply hK;clear hK K
      refine AW.block ?_
      refine AW.sr 1 fun K hK => ?_
      simp only [push_cast, simprocAttr, ↓alloc52, Int.le_refl, Nat.le_refl, rS, kB, pk_10]
      apply hK;clear hK K
      refine AW.cond_f rfl ?_
      refine AW.sr 1 fun K hK => ?_
      simp only [push_cast, simprocAttr, ↓alloc52, Int.le_refl, Nat.le_refl, rS, kB, pk_10]
      apply hK;clear hK K
      refine AW.cond_t rfl ?_
      refine AW.sr 1 fun K hK => ?_
      simp only [push_cast, simprocAttr, ↓alloc52, Int.le_refl, Nat.le_refl, rS, kB, pk_10]
      apply hK;clear hK K
      refine AW.cond_f rfl ?_
      refine AW.skip ?_
      refine InB_n ?_
      refine InB_n ?_
      refine InB_n ?_
      apply hK;clear hK K
      refine AW.rg ?_
      simp only [push_cast, simprocAttr, ↓alloc52, Int.le_refl, Nat.le_refl, rS, kB, pk_10]
      refine Thn_n ?_
      try simp only [keepL, setAll, push_cast, simprocAttr, ↓alloc52, Int.le_refl, Nat.le_refl, rS, kB, pk_10]
      first
      | exact ⟨_, hN _ hW3, hmu i rfl, Weak.same (by simp only [KS, simprocAttr, hwi, Int.natCast_add, Int.cast_ofNat_Int, Int.natCast_one]) (by first | rfl | exact hNm)⟩
      | exact ⟨_, hNz, hmu i rfl, Weak.same (by simp only [KS, simprocAttr, hwi, Int.natCast_add, Int.cast_ofNat_Int, Int.natCast_one]) (by first | rfl | (simp only [List.append_assoc, List.cons_append, List.nil_append]; rfl) | simp only [List.append_assoc, List.cons_append, List.nil_append])⟩
     ·obtain ⟨t0, p1⟩ := p1
      have hTs : hT key Sx = true := by unfold hT; rw [p1]; rfl
      have hN : ∀ M3, SW m ⟨i, rv, rl, M3, V', D', cS, cB, cA2, Sx, B, A2⟩ M.length (opC (kd i) (k2 i) (ky i) (rp i) 0 (lp i) (rk i) (lk i) (nx i) (re i) (le i) (ax i) (b i)) key → WInv m cnt ⟨(i + 1), rv, rl, M3, V', D', cS, cB, cA2, Sx, B, A2⟩ := fun M3 h => ⟨hic, hi6, h.mem.tick (i + 1), p2, hkyB, hbd1⟩
      refine AW.rg ?_
      simp only [push_cast, simprocAttr, ↓alloc52, Int.le_refl, Nat.le_refl, rS, kB, pk_3, hTs]
      refine CThen.by (hC) ?_
      simp only [push_cast, simprocAttr, ↓alloc52, Int.le_refl, Nat.le_refl, rS, kB, pk_3, hTs]
      apply hK;clear hK K
      refine AW.anyMemG (fun M3 => SW m ⟨i, rv, rl, M3, V', D', cS, cB, cA2, Sx, B, A2⟩ M.length (opC (kd i) (k2 i) (ky i) (rp i) 0 (lp i) (rk i) (lk i) (nx i) (re i) (le i) (ax i) (b i)) key) hWT fun M3 hW3 => ?_
      have hW3o := hW3.o
      have hW3k : M3[M.length + 1]? = some ⟨.fix, 37, 0, 0, u8l key⟩ := hW3.k
      have hW3l : m.length + 8 ≤ M3.length := hW3.mem.len
      have hW3p := hW3.mem.old hps
      dsimp only at hW3o hW3p
      refine AW.sr 1 fun K hK => ?_
      have pk_11 : _ ∧ _ ∧ _ ∧ _ ∧ _ ∧ _ ∧ _ ∧ _ := ⟨pk_3, hTs, hW3o, hW3k, hW3p, lk_old hW3o, lk_old hW3k, lk_old hW3p⟩
      simp only [push_cast, simprocAttr, ↓alloc52, Int.le_refl, Nat.le_refl, rS, kB, pk_11]
      apply hK;clear hK K
      refine AW.block ?_
      iterate 2
       refine AW.sr 1 fun K hK => ?_
       simp only [push_cast, simprocAttr, ↓alloc52, Int.le_refl, Nat.le_refl, rS, kB, pk_11]
       apply hK;clear hK K
       refine AW.cond_f rfl ?_
      refine AW.sr 1 fun K hK => ?_
      simp only [push_cast, simprocAttr, ↓alloc52, Int.le_refl, Nat.le_refl, rS, kB, pk_11]
      apply hK;clear hK K
      refine AW.cond_t rfl ?_
      refine AW.sr 1 fun K hK => ?_
      simp only [push_cast, simprocAttr, ↓alloc52, Int.le_refl, Nat.le_refl, rS, kB, pk_11]
      apply hK;clear hK K
      refine AW.cond_f rfl ?_
      refine AW.skip ?_
      refine InB_n ?_
      refine InB_n ?_
      refine InB_n ?_
      apply hK;clear hK K
      refine AW.rg ?_
      simp only [push_cast, simprocAttr, ↓alloc52, Int.le_refl, Nat.le_refl, rS, kB, pk_11]
      refine Thn_n ?_
      try simp only [keepL, setAll, push_cast, simprocAttr, ↓alloc52, Int.le_refl, Nat.le_refl, rS, kB, pk_11]
      first
      | exact ⟨_, hN _ hW3, hmu i rfl, Weak.same (by simp only [KS, simprocAttr, hwi, Int.natCast_add, Int.cast_ofNat_Int, Int.natCast_one]) (by first | rfl | exact hNm)⟩
      | exact ⟨_, hNz, hmu i rfl, Weak.same (by simp only [KS, simprocAttr, hwi, Int.natCast_add, Int.cast_ofNat_Int, Int.natCast_one]) (by first | rfl | (simp only [List.append_assoc, List.cons_append, List.nil_append]; rfl) | simp only [List.append_assoc, List.cons_append, List.nil_append])⟩
     ·have hN : ∀ M3, SW m ⟨i, rv, rl, M3, V', D', cS, cB, cA2, Sx, B, A2⟩ M.length (opC (kd i) (k2 i) (ky i) (rp i) 0 (lp i) (rk i) (lk i) (nx i) (re i) (le i) (ax i) (b i)) key → WInv m cnt ⟨(i + 1), rv, rl, M3, V', D', cS, cB, cA2, Sx, B, A2⟩ := fun M3 h => ⟨hic, hi6, h.mem.tick (i + 1), p2, hkyB, hbd1⟩
      refine AW.rg ?_
      simp only [push_cast, simprocAttr, ↓alloc52, Int.le_refl, Nat.le_refl, rS, kB, pk_3]
      refine CThen.by (hC) ?_
      simp only [push_cast, simprocAttr, ↓alloc52, Int.le_refl, Nat.le_refl, rS, kB, pk_3]
      apply hK;clear hK K
      refine AW.anyMemG (fun M3 => SW m ⟨i, rv, rl, M3, V', D', cS, cB, cA2, Sx, B, A2⟩ M.length (opC (kd i) (k2 i) (ky i) (rp i) 0 (lp i) (rk i) (lk i) (nx i) (re i) (le i) (ax i) (b i)) key) hWT fun M3 hW3 => ?_
      have hW3o := hW3.o
      have hW3k : M3[M.length + 1]? = some ⟨.fix, 37, 0, 0, u8l key⟩ := hW3.k
      have hW3l : m.length + 8 ≤ M3.length := hW3.mem.len
      have hW3p := hW3.mem.old hps
      dsimp only at hW3o hW3p
      refine AW.sr 1 fun K hK => ?_
      have pk_12 : _ ∧ _ ∧ _ ∧ _ ∧ _ ∧ _ ∧ _ := ⟨pk_3, hW3o, hW3k, hW3p, lk_old hW3o, lk_old hW3k, lk_old hW3p⟩
      simp only [push_cast, simprocAttr, ↓alloc52, Int.le_refl, Nat.le_refl, rS, kB, pk_12]
      apply hK;clear hK K
      refine AW.block ?_
      iterate 3
       refine AW.sr 1 fun K hK => ?_
       simp only [push_cast, simprocAttr, ↓alloc52, Int.le_refl, Nat.le_refl, rS, kB, pk_12]
       apply hK;clear hK K
       refine AW.cond_f rfl ?_
      refine AW.sr 1 fun K hK => ?_
      simp only [push_cast, simprocAttr, ↓alloc52, Int.le_refl, Nat.le_refl, rS, kB, pk_12]
      apply hK;clear hK K
      refine AW.cond_t rfl ?_
      refine AW.skip ?_
      refine InB_n ?_
      refine InB_n ?_
      refine InB_n ?_
      apply hK;clear hK K
      refine AW.rg ?_
      simp only [push_cast, simprocAttr, ↓alloc52, Int.le_refl, Nat.le_refl, rS, kB, pk_12]
      refine Thn_n ?_
      try simp only [keepL, setAll, push_cast, simprocAttr, ↓alloc52, Int.le_refl, Nat.le_refl, rS, kB, pk_12]
      first
      | exact ⟨_, hN _ hW3, hmu i rfl, Weak.same (by simp only [KS, simprocAttr, hwi, Int.natCast_add, Int.cast_ofNat_Int, Int.natCast_one]) (by first | rfl | exact hNm)⟩
      | exact ⟨_, hNz, hmu i rfl, Weak.same (by simp only [KS, simprocAttr, hwi, Int.natCast_add, Int.cast_ofNat_Int, Int.natCast_one]) (by first | rfl | (simp only [List.append_assoc, List.cons_append, List.nil_append]; rfl) | simp only [List.append_assoc, List.cons_append, List.nil_append])⟩
   ·refine AW.sr 1 fun K hK => ?_
    simp only [push_cast, simprocAttr, ↓alloc52, Int.le_refl, Nat.le_refl, rS, kB, pk_2, h60, hWo, hWk]
    apply hK;clear hK K
    refine AW.cond rfl (fun h137 => ?_) (fun h137 => ?_)
    ·refine AW.sr 1 fun K hK => ?_
     simp only [push_cast, simprocAttr, ↓alloc52, Int.le_refl, Nat.le_refl, rS, kB, pk_2, h60, hWo, hWk]
     refine CThen.by (keys_c (rk i) (lk i) (kl i) M1 ⟨_, _, hW.mem.old hkl⟩ hkl2 hko hf2) ?_
     simp only [push_cast, simprocAttr, ↓alloc52, Int.le_refl, Nat.le_refl, rS, kB, pk_2, h60, hWo, hWk]
     apply hK;clear hK K
     refine AW.seq_k fun K hK => ?_
     have hkfl : ∀ j, (kyF (kl i) j).length = 32 := fun j => kyF_len _ j
     have hkwf : ∀ ty L, (kR32 ty (lk i) (kyF (kl i))).cells.all (CV.below L) = true := fun ty L => catC_all (n := lk i) _ (fun j => u8l_below _ _)
     refine AW.anyMemG (fun M2 => WMem m ⟨i, rv, rl, M2, V, D, cS, cB, cA, Sx, B, A⟩ ∧ M2[M1.length]? = some (kR32 37 (lk i) (kyF (kl i))) ∧ M2[M1.length + 1]? = some (kR32 38 (lk i) (kyF (kl i)))) ⟨hW.mem.more (MWf.app (hW.mem.wf.grow (by simp)) (MWf_cons (hkwf _ _) (MWf_cons (hkwf _ _) MWf_nil))), by rw [lk_app0]; rfl, by rw [lk_app]; rfl⟩ fun M2 hM2 => ?_
     obtain ⟨hW2, hr1, hr2⟩ := hM2
     obtain ⟨e, V', D', hC2, he, hm0, hfin⟩ := drop_all rv rl (m.length + 2) m.length (m.length + 1) M2 hW2.hB hown (M1.length + 1) (lk i) (kyF (kl i)) hr2 hkfl hf2
     have hWT := hW2.turn V' D'
     have hr3 := hW2.stay hr1 (fun h => by simp [kR32] at h) (fun _ => ⟨by simp [kR32], by simp [kR32]⟩) (fun _ _ _ _ h => by simp [kR32] at h) V' D'
     dsimp only at hr3
     rcases he with rfl | rfl
     ·have hE0 := True.intro
      refine AW.rg ?_
      simp only [push_cast, simprocAttr, ↓alloc52, Int.le_refl, Nat.le_refl, rS, kB, pk_2, h60, hWo, hWk]
      refine CThen.by (hC2) ?_
      simp only [push_cast, simprocAttr, ↓alloc52, Int.le_refl, Nat.le_refl, rS, kB, pk_2, h60, hWo, hWk]
      apply hK;clear hK K
      refine AW.anyMemG (fun M3 => WMem m ⟨i, rv, rl, M3, V', D', cS, cB, cA, Sx, B, A⟩ ∧ M3[M1.length]? = some (kR32 37 (lk i) (kyF (kl i)))) ⟨hWT, hr3⟩ fun M3 hM3 => ?_
      obtain ⟨hW3, hr3⟩ := hM3
      have hX0 : KX m ⟨i, rv, rl, M3, V', D', cS, cB, cA, Sx, B, A⟩ M1.length (lk i) 0 (kyF (kl i)) M3.length ⟨0, cS, cB, M3, Sx, B⟩ := ⟨Nat.zero_le _, hW3, hWl, hr3, Nat.le_refl _, KI.start hm0 hkyB hbdB⟩
      refine AW.sr 1 fun K hK => ?_
      simp only [push_cast, simprocAttr, ↓alloc52, Int.le_refl, Nat.le_refl, rS, kB, pk_2, h60, hWo, hWk]
      apply hK;clear hK K
      refine AW.block ?_
      refine AW.loopX [3, 5, 7, 8, 9, 18, 56, 57, 58, 148, 149] (fun (kq : KQ) => KX m ⟨i, rv, rl, M3, V', D', cS, cB, cA, Sx, B, A⟩ M1.length (lk i) 0 (kyF (kl i)) M3.length kq) (fun (kq : KQ) => [(150, .one (.int .i64 (kq.z : Int)))]) (fun (kq : KQ) => kq.M) (fun (kq : KQ) => lk i - kq.z) ⟨0, cS, cB, M3, Sx, B⟩ hX0 ?_ ?_ (fun kq hq => hq.len) fun kq hi13 => ?_
      · first | rfl | (simp only [KS, simprocAttr, Int.natCast_zero] <;> repeat' (first | rfl | apply And.intro))
      · rfl
      obtain ⟨z, cSz, cBz, Mz, Sz, Bz⟩ := kq
      have hX : KX m ⟨i, rv, rl, M3, V', D', cS, cB, cA, Sx, B, A⟩ M1.length (lk i) 0 (kyF (kl i)) M3.length ⟨z, cSz, cBz, Mz, Sz, Bz⟩ := hi13
      have hz9 : z ≤ lk i := hX.z0
      have hWz : WMem m ⟨i, rv, rl, Mz, V', D', cSz, cBz, cA, Sz, Bz, A⟩ := hX.mem
      have hki : KI (21 * i) Sx B 0 (kyF (kl i)) z Sz Bz := hX.ki
      have hrz : Mz[M1.length]? = some ⟨.grow, 37, 0, 32, catC (lk i) fun j => u8l (kyF (kl i) j)⟩ := hX.row
      have hzl : m.length + 8 ≤ Mz.length := hWz.len
      try simp only [keepL, setAll, push_cast, simprocAttr, ↓alloc52, Int.le_refl, Nat.le_refl, rS, kB, pk_2, h60, hWo, hWk, hrz, lk_old hrz]
      refine AW.sr 1 fun K hK => ?_
      have pk_13 : _ ∧ _ ∧ _ ∧ _ ∧ _ ∧ _ := ⟨pk_2, h60, hWo, hWk, hrz, lk_old hrz⟩
      simp only [push_cast, simprocAttr, ↓alloc52, Int.le_refl, Nat.le_refl, rS, kB, pk_13]
      apply hK;clear hK K
      refine AW.seq_k fun K hK => ?_
      refine AW.cond rfl (fun h151 => ?_) (fun h151 => ?_)
      ·have hz : z < lk i := by have := of_decide_eq_true h151; omega
       have hmz : lk i - (z + 1) < lk i - z := by omega
       have hwz : IntKind.i64.wrap ((z : Int) + 1) = (z : Int) + 1 := wi (by omega)
       have z0 : (0 : Int) ≤ (z : Int) := by omega
       have z1 : (z : Int) < (lk i : Int) := by omega
       have z2 : z * 32 + 32 ≤ lk i * 32 := by omega
       have hcl : (catC (lk i) fun j => u8l (kyF (kl i) j)).length = lk i * 32 := catC_len (fun j => by rw [u8l_len]; rfl) _
       have hca : ((catC (lk i) fun j => u8l (kyF (kl i) j)).drop (z * 32)).take 32 = u8l (kyF (kl i) z) := catC_at (fun j => by rw [u8l_len]; rfl) hz
       obtain ⟨ky9, hky9⟩ : ∃ k, k = kyF (kl i) z := ⟨_, rfl⟩
       rw [← hky9] at hca
       have hkj : ∃ j : Int, 0 ≤ j ∧ j < 9 ∧ kyF (kl i) z = kyL j := ⟨(kl i).getD z 0 % 9, by omega, by omega, kyL_mod _⟩
       have hk932 : ky9.length = 32 := by rw [hky9]; rfl
       have kul9 : (u8l ky9).length = 32 := by rw [u8l_len]; exact hk932
       have kut9 : (u8l ky9).take 32 = u8l ky9 := List.take_of_length_le (by omega)
       have kuv9 := u8l_vals ky9
       have kuz9 : setL [CV.int .u8 0, CV.int .u8 0, CV.int .u8 0, CV.int .u8 0, CV.int .u8 0, CV.int .u8 0, CV.int .u8 0, CV.int .u8 0, CV.int .u8 0, CV.int .u8 0, CV.int .u8 0, CV.int .u8 0, CV.int .u8 0, CV.int .u8 0, CV.int .u8 0, CV.int .u8 0, CV.int .u8 0, CV.int .u8 0, CV.int .u8 0, CV.int .u8 0, CV.int .u8 0, CV.int .u8 0, CV.int .u8 0, CV.int .u8 0, CV.int .u8 0, CV.int .u8 0, CV.int .u8 0, CV.int .u8 0, CV.int .u8 0, CV.int .u8 0, CV.int .u8 0, CV.int .u8 0] 0 (u8l ky9) = u8l ky9 := setL_full (by rw [kul9]; rfl)
       have lkS9 := fun X : AMem => lookS (lk_old hWz.hS X) hWz.gS hk932
       try dsimp only at lkS9
       simp only [push_cast, simprocAttr] at lkS9
       refine AW.skip ?_
       apply hK;clear hK K
       refine AW.seq_k fun K hK => ?_
       refine AW.block ?_
       refine AW.sr 1 fun K hK => ?_
       have pk_14 : _ ∧ _ ∧ _ ∧ _ ∧ _ ∧ _ ∧ _ ∧ _ ∧ _ ∧ _ ∧ _ := ⟨pk_13, hcl, hca, z0, z1, z2, kul9, kut9, kuv9, kuz9, lkS9⟩
       simp only [push_cast, simprocAttr, ↓alloc52, Int.le_refl, Nat.le_refl, rS, kB, pk_14]
       apply hK;clear hK K
       refine AW.seq_k fun K hK => ?_
       refine AW.seq_k fun K hK => ?_
       rcases hsz : lkG ky9 Sz with _ | tz
       ·have hTs9 : hT ky9 Sz = false := by unfold hT; rw [hsz]; rfl
        have hKz := hX.step0 rfl hz (kyF_len _ _) hkj
        dsimp only at hKz
        simp only [kB] at hKz
        have puM9 := fun X : AMem => putM (lk_old hWz.hM X) hWz.gB hk932
        have reS9 := fun (X : AMem) (b : Blk) => remS (r := m.length + 5) (M := (Mz ++ X).set (m.length + 6) b) (by rw [List.getElem?_set_ne (by omega)]; exact lk_old hWz.hS X) hWz.gS hk932
        have hk9s : ∀ (X : AMem) (b : Blk), ((Mz ++ X).set (m.length + 6) b)[Mz.length]? = X[0]? := fun X b => by rw [List.getElem?_set_ne (by omega), List.getElem?_append_right (Nat.le_refl _), Nat.sub_self]
        try dsimp only at puM9 reS9
        simp only [push_cast, simprocAttr] at puM9 reS9
        rw [← hky9] at hKz
        refine AW.rg ?_
        have pk_15 : _ ∧ _ ∧ _ ∧ _ ∧ _ := ⟨pk_14, hTs9, puM9, reS9, hk9s⟩
        simp only [push_cast, simprocAttr, ↓alloc52, Int.le_refl, Nat.le_refl, rS, kB, pk_15]
        apply hK;clear hK K
        refine AW.sr 1 fun K hK => ?_
        simp only [push_cast, simprocAttr, ↓alloc52, Int.le_refl, Nat.le_refl, rS, kB, pk_15]
        apply hK;clear hK K
        refine AW.cond_f rfl ?_
        refine AW.skip ?_
        apply hK;clear hK K
        refine AW.seq_k fun K hK => ?_
        refine AW.sr 1 fun K hK => ?_
        simp only [push_cast, simprocAttr, ↓alloc52, Int.le_refl, Nat.le_refl, rS, kB, pk_15]
        apply hK;clear hK K
        refine AW.cond_t rfl ?_
        refine AW.rg ?_
        simp only [push_cast, simprocAttr, ↓alloc52, Int.le_refl, Nat.le_refl, rS, kB, pk_15]
        apply hK;clear hK K
        refine AW.rg ?_
        simp only [push_cast, simprocAttr, ↓alloc52, Int.le_refl, Nat.le_refl, rS, kB, pk_15]
        refine InB_n ?_
        apply hK;clear hK K
        refine AW.rg ?_
        simp only [push_cast, simprocAttr, ↓alloc52, Int.le_refl, Nat.le_refl, rS, kB, pk_15]
        refine Thn_n ?_
        try simp only [keepL, setAll, push_cast, simprocAttr, ↓alloc52, Int.le_refl, Nat.le_refl, rS, kB, pk_15]
        exact ⟨_, hKz, hmz, Weak.same (by simp only [KS, simprocAttr, hwz, Int.natCast_add, Int.cast_ofNat_Int, Int.natCast_one]) (by first | rfl | (simp only [List.append_assoc, List.cons_append, List.nil_append, kB]; done) | simp only [kB])⟩
       ·have hTs9 : hT ky9 Sz = true := by unfold hT; rw [hsz]; rfl
        have sTs9 : sT ky9 Sz = tz := by unfold sT; rw [hsz]; rfl
        have hKz := hX.step0 rfl hz (kyF_len _ _) hkj
        dsimp only at hKz
        simp only [kB] at hKz
        have puM9 := fun X : AMem => putM (lk_old hWz.hM X) hWz.gB hk932
        have reS9 := fun (X : AMem) (b : Blk) => remS (r := m.length + 5) (M := (Mz ++ X).set (m.length + 6) b) (by rw [List.getElem?_set_ne (by omega)]; exact lk_old hWz.hS X) hWz.gS hk932
        have hk9s : ∀ (X : AMem) (b : Blk), ((Mz ++ X).set (m.length + 6) b)[Mz.length]? = X[0]? := fun X b => by rw [List.getElem?_set_ne (by omega), List.getElem?_append_right (Nat.le_refl _), Nat.sub_self]
        try dsimp only at puM9 reS9
        simp only [push_cast, simprocAttr] at puM9 reS9
        rw [← hky9] at hKz
        refine AW.rg ?_
        have pk_16 : _ ∧ _ ∧ _ ∧ _ ∧ _ ∧ _ := ⟨pk_14, hTs9, sTs9, puM9, reS9, hk9s⟩
        simp only [push_cast, simprocAttr, ↓alloc52, Int.le_refl, Nat.le_refl, rS, kB, pk_16]
        apply hK;clear hK K
        refine AW.sr 1 fun K hK => ?_
        simp only [push_cast, simprocAttr, ↓alloc52, Int.le_refl, Nat.le_refl, rS, kB, pk_16]
        apply hK;clear hK K
        refine AW.cond_f rfl ?_
        refine AW.skip ?_
        apply hK;clear hK K
        refine AW.seq_k fun K hK => ?_
        refine AW.sr 1 fun K hK => ?_
        simp only [push_cast, simprocAttr, ↓alloc52, Int.le_refl, Nat.le_refl, rS, kB, pk_16]
        apply hK;clear hK K
        refine AW.cond_t rfl ?_
        refine AW.rg ?_
        simp only [push_cast, simprocAttr, ↓alloc52, Int.le_refl, Nat.le_refl, rS, kB, pk_16]
        apply hK;clear hK K
        refine AW.rg ?_
        simp only [push_cast, simprocAttr, ↓alloc52, Int.le_refl, Nat.le_refl, rS, kB, pk_16]
        refine InB_n ?_
        apply hK;clear hK K
        refine AW.rg ?_
        simp only [push_cast, simprocAttr, ↓alloc52, Int.le_refl, Nat.le_refl, rS, kB, pk_16]
        refine Thn_n ?_
        try simp only [keepL, setAll, push_cast, simprocAttr, ↓alloc52, Int.le_refl, Nat.le_refl, rS, kB, pk_16]
        exact ⟨_, hKz, hmz, Weak.same (by simp only [KS, simprocAttr, hwz, Int.natCast_add, Int.cast_ofNat_Int, Int.natCast_one]) (by first | rfl | (simp only [List.append_assoc, List.cons_append, List.nil_append, kB]; done) | simp only [kB])⟩
      ·have hz : z = lk i := by have := of_decide_eq_false h151; omega
       rw [hz] at hki
       have hNz : WInv m cnt ⟨(i + 1), rv, rl, Mz, V', D', cSz, cBz, cA, Sz, Bz, A⟩ := ⟨hic, hi6, hWz.tick (i + 1), hfin _ _ hki.su1 hki.su2 hki.m0 hki.m1 hki.m2, hki.ky, fun x => Nat.le_trans (hki.bd x) (show 21 * i + lk i ≤ 21 * (i + 1) by omega)⟩
       refine AW.exit ?_
       refine Thn_e ?_
       clear hK K
       refine Thn_e ?_
       refine InB_here ?_
       refine InB_n ?_
       refine InB_n ?_
       apply hK;clear hK K
       refine AW.rg ?_
       simp only [push_cast, simprocAttr, ↓alloc52, Int.le_refl, Nat.le_refl, rS, kB, pk_13]
       refine Thn_n ?_
       try simp only [keepL, setAll, push_cast, simprocAttr, ↓alloc52, Int.le_refl, Nat.le_refl, rS, kB, pk_13]
       first
       | exact ⟨_, hN _ hW3, hmu i rfl, Weak.same (by simp only [KS, simprocAttr, hwi, Int.natCast_add, Int.cast_ofNat_Int, Int.natCast_one]) (by first | rfl | exact hNm)⟩
       | exact ⟨_, hNz, hmu i rfl, Weak.same (by simp only [KS, simprocAttr, hwi, Int.natCast_add, Int.cast_ofNat_Int, Int.natCast_one]) (by first | rfl | (simp only [List.append_assoc, List.cons_append, List.nil_append]; rfl) | simp only [List.append_assoc, List.cons_append, List.nil_append])⟩
     ·have hE5 := True.intro
      refine AW.rg ?_
      simp only [push_cast, simprocAttr, ↓alloc52, Int.le_refl, Nat.le_refl, rS, kB, pk_2, h60, hWo, hWk]
      refine CThen.by (hC2) ?_
      simp only [push_cast, simprocAttr, ↓alloc52, Int.le_refl, Nat.le_refl, rS, kB, pk_2, h60, hWo, hWk]
      apply hK;clear hK K
      refine AW.anyMemG (fun M3 => WMem m ⟨i, rv, rl, M3, V', D', cS, cB, cA, Sx, B, A⟩ ∧ M3[M1.length]? = some (kR32 37 (lk i) (kyF (kl i)))) ⟨hWT, hr3⟩ fun M3 hM3 => ?_
      obtain ⟨hW3, hr3⟩ := hM3
      have hX0 : KX m ⟨i, rv, rl, M3, V', D', cS, cB, cA, Sx, B, A⟩ M1.length (lk i) 5 (kyF (kl i)) M3.length ⟨0, cS, cB, M3, Sx, B⟩ := ⟨Nat.zero_le _, hW3, hWl, hr3, Nat.le_refl _, KI.start (fun hc => by cases hc) hkyB hbdB⟩
      refine AW.sr 1 fun K hK => ?_
      simp only [push_cast, simprocAttr, ↓alloc52, Int.le_refl, Nat.le_refl, rS, kB, pk_2, h60, hWo, hWk]
      apply hK;clear hK K
      refine AW.block ?_
      refine AW.loopX [3, 5, 7, 8, 9, 18, 56, 57, 58, 148, 149] (fun (kq : KQ) => KX m ⟨i, rv, rl, M3, V', D', cS, cB, cA, Sx, B, A⟩ M1.length (lk i) 5 (kyF (kl i)) M3.length kq) (fun (kq : KQ) => [(150, .one (.int .i64 (kq.z : Int)))]) (fun (kq : KQ) => kq.M) (fun (kq : KQ) => lk i - kq.z) ⟨0, cS, cB, M3, Sx, B⟩ hX0 ?_ ?_ (fun kq hq => hq.len) fun kq hi20 => ?_
      · first | rfl | (simp only [KS, simprocAttr, Int.natCast_zero] <;> repeat' (first | rfl | apply And.intro))
      · rfl
      obtain ⟨z, cSz, cBz, Mz, Sz, Bz⟩ := kq
      have hX : KX m ⟨i, rv, rl, M3, V', D', cS, cB, cA, Sx, B, A⟩ M1.length (lk i) 5 (kyF (kl i)) M3.length ⟨z, cSz, cBz, Mz, Sz, Bz⟩ := hi20
      have hz9 : z ≤ lk i := hX.z0
      have hWz : WMem m ⟨i, rv, rl, Mz, V', D', cSz, cBz, cA, Sz, Bz, A⟩ := hX.mem
      have hki : KI (21 * i) Sx B 5 (kyF (kl i)) z Sz Bz := hX.ki
      have hrz : Mz[M1.length]? = some ⟨.grow, 37, 0, 32, catC (lk i) fun j => u8l (kyF (kl i) j)⟩ := hX.row
      have hzl : m.length + 8 ≤ Mz.length := hWz.len
      try simp only [keepL, setAll, push_cast, simprocAttr, ↓alloc52, Int.le_refl, Nat.le_refl, rS, kB, pk_2, h60, hWo, hWk, hrz, lk_old hrz]
      refine AW.sr 1 fun K hK => ?_
      have pk_17 : _ ∧ _ ∧ _ ∧ _ ∧ _ ∧ _ := ⟨pk_2, h60, hWo, hWk, hrz, lk_old hrz⟩
      simp only [push_cast, simprocAttr, ↓alloc52, Int.le_refl, Nat.le_refl, rS, kB, pk_17]
      apply hK;clear hK K
      refine AW.seq_k fun K hK => ?_
      refine AW.cond rfl (fun h151 => ?_) (fun h151 => ?_)
      ·have hz : z < lk i := by have := of_decide_eq_true h151; omega
       have hmz : lk i - (z + 1) < lk i - z := by omega
       have hwz : IntKind.i64.wrap ((z : Int) + 1) = (z : Int) + 1 := wi (by omega)
       have z0 : (0 : Int) ≤ (z : Int) := by omega
       have z1 : (z : Int) < (lk i : Int) := by omega
       have z2 : z * 32 + 32 ≤ lk i * 32 := by omega
       have hcl : (catC (lk i) fun j => u8l (kyF (kl i) j)).length = lk i * 32 := catC_len (fun j => by rw [u8l_len]; rfl) _
       have hca : ((catC (lk i) fun j => u8l (kyF (kl i) j)).drop (z * 32)).take 32 = u8l (kyF (kl i) z) := catC_at (fun j => by rw [u8l_len]; rfl) hz
       obtain ⟨ky9, hky9⟩ : ∃ k, k = kyF (kl i) z := ⟨_, rfl⟩
       rw [← hky9] at hca
       have hkj : ∃ j : Int, 0 ≤ j ∧ j < 9 ∧ kyF (kl i) z = kyL j := ⟨(kl i).getD z 0 % 9, by omega, by omega, kyL_mod _⟩
       have hk932 : ky9.length = 32 := by rw [hky9]; rfl
       have kul9 : (u8l ky9).length = 32 := by rw [u8l_len]; exact hk932
       have kut9 : (u8l ky9).take 32 = u8l ky9 := List.take_of_length_le (by omega)
       have kuv9 := u8l_vals ky9
       have kuz9 : setL [CV.int .u8 0, CV.int .u8 0, CV.int .u8 0, CV.int .u8 0, CV.int .u8 0, CV.int .u8 0, CV.int .u8 0, CV.int .u8 0, CV.int .u8 0, CV.int .u8 0, CV.int .u8 0, CV.int .u8 0, CV.int .u8 0, CV.int .u8 0, CV.int .u8 0, CV.int .u8 0, CV.int .u8 0, CV.int .u8 0, CV.int .u8 0, CV.int .u8 0, CV.int .u8 0, CV.int .u8 0, CV.int .u8 0, CV.int .u8 0, CV.int .u8 0, CV.int .u8 0, CV.int .u8 0, CV.int .u8 0, CV.int .u8 0, CV.int .u8 0, CV.int .u8 0, CV.int .u8 0] 0 (u8l ky9) = u8l ky9 := setL_full (by rw [kul9]; rfl)
       have lkS9 := fun X : AMem => lookS (lk_old hWz.hS X) hWz.gS hk932
       try dsimp only at lkS9
       simp only [push_cast, simprocAttr] at lkS9
       refine AW.skip ?_
       apply hK;clear hK K
       refine AW.seq_k fun K hK => ?_
       refine AW.block ?_
       refine AW.sr 1 fun K hK => ?_
       have pk_18 : _ ∧ _ ∧ _ ∧ _ ∧ _ ∧ _ ∧ _ ∧ _ ∧ _ ∧ _ ∧ _ := ⟨pk_17, hcl, hca, z0, z1, z2, kul9, kut9, kuv9, kuz9, lkS9⟩
       simp only [push_cast, simprocAttr, ↓alloc52, Int.le_refl, Nat.le_refl, rS, kB, pk_18]
       apply hK;clear hK K
       refine AW.seq_k fun K hK => ?_
       refine AW.seq_k fun K hK => ?_
       rcases hsz : lkG ky9 Sz with _ | tz
       ·have hTs9 : hT ky9 Sz = false := by unfold hT; rw [hsz]; rfl
        have hsz2 := hsz
        rw [hky9] at hsz2
        have hKz := hX.step5n rfl hz hsz2
        try dsimp only at hKz
        simp only [kB] at hKz
        have reS9 := fun X : AMem => remS (lk_old hWz.hS X) hWz.gS hk932
        try dsimp only at reS9
        simp only [push_cast, simprocAttr] at reS9
        rw [← hky9] at hKz
        refine AW.rg ?_
        simp only [push_cast, simprocAttr, ↓alloc52, Int.le_refl, Nat.le_refl, rS, kB, pk_18, hTs9, reS9]
        apply hK;clear hK K
        refine AW.sr 1 fun K hK => ?_
        simp only [push_cast, simprocAttr, ↓alloc52, Int.le_refl, Nat.le_refl, rS, kB, pk_18, hTs9, reS9]
        apply hK;clear hK K
        refine AW.cond_f rfl ?_
        refine AW.skip ?_
        apply hK;clear hK K
        refine AW.seq_k fun K hK => ?_
        refine AW.sr 1 fun K hK => ?_
        simp only [push_cast, simprocAttr, ↓alloc52, Int.le_refl, Nat.le_refl, rS, kB, pk_18, hTs9, reS9]
        apply hK;clear hK K
        refine AW.cond_f rfl ?_
        refine AW.skip ?_
        apply hK;clear hK K
        refine AW.rg ?_
        simp only [push_cast, simprocAttr, ↓alloc52, Int.le_refl, Nat.le_refl, rS, kB, pk_18, hTs9, reS9]
        refine InB_n ?_
        apply hK;clear hK K
        refine AW.rg ?_
        simp only [push_cast, simprocAttr, ↓alloc52, Int.le_refl, Nat.le_refl, rS, kB, pk_18, hTs9, reS9]
        refine Thn_n ?_
        try simp only [keepL, setAll, push_cast, simprocAttr, ↓alloc52, Int.le_refl, Nat.le_refl, rS, kB, pk_18, hTs9, reS9]
        exact ⟨_, hKz, hmz, Weak.same (by simp only [KS, simprocAttr, hwz, Int.natCast_add, Int.cast_ofNat_Int, Int.natCast_one]) (by first | rfl | (simp only [List.append_assoc, List.cons_append, List.nil_append, kB]; done) | simp only [kB])⟩
       ·have hTs9 : hT ky9 Sz = true := by unfold hT; rw [hsz]; rfl
        have sTs9 : sT ky9 Sz = tz := by unfold sT; rw [hsz]; rfl
        refine AW.rg ?_
        simp only [push_cast, simprocAttr, ↓alloc52, Int.le_refl, Nat.le_refl, rS, kB, pk_18, hTs9, sTs9]
        apply hK;clear hK K
        refine AW.sr 1 fun K hK => ?_
        simp only [push_cast, simprocAttr, ↓alloc52, Int.le_refl, Nat.le_refl, rS, kB, pk_18, hTs9, sTs9]
        apply hK;clear hK K
        refine AW.cond_t rfl ?_
        rcases hmv : mV ky9 Bz with _ | ⟨R, v, l⟩
        ·skip
         have hsz2 := hsz
         have hmv2 := hmv
         rw [hky9] at hsz2 hmv2
         have hs2 : ∀ (z : AMem) (b : Blk), (Mz ++ z).set (m.length + 6) b = Mz.set (m.length + 6) b ++ z := fun z b => List.set_append_left _ _ (by omega)
         have hl2 : ∀ (z : AMem) (b : Blk), (Mz.set (m.length + 6) b ++ z)[m.length + 6]? = some b := fun z b => lk_old (List.getElem?_set_self (by omega)) z
         have hb2 : ∀ (z : AMem) (b : Blk), (Mz.set (m.length + 6) b ++ z)[Mz.length]? = z[0]? := fun z b => by rw [List.getElem?_append_right (by rw [List.length_set]; exact Nat.le_refl _), List.length_set, Nat.sub_self]
         have hb3 : ∀ (z : AMem) (b : Blk), (Mz.set (m.length + 6) b ++ z)[Mz.length + 1]? = z[1]? := fun z b => by rw [List.getElem?_append_right (by rw [List.length_set]; omega), List.length_set, Nat.add_sub_cancel_left]
         have en3 := fun X : AMem => entM (lk_old hWz.hM X) hWz.gB hk932
         try dsimp only at en3
         rw [hmv] at en3
         simp only [hs2, cvM] at en3
         have hgu := fun a : MV => hWz.gB.up hk932 a
         try dsimp only at hgu
         have reS9 := fun (X : AMem) (b : Blk) => remS (r := m.length + 5) (M := Mz.set (m.length + 6) b ++ X) (by rw [List.getElem?_append_left (by rw [List.length_set]; omega), List.getElem?_set_ne (by omega)]; exact hWz.hS) hWz.gS hk932
         try dsimp only at reS9
         have hs8 : ∀ (z : AMem) (b b' : Blk), (Mz.set (m.length + 6) b ++ z).set (m.length + 6) b' = Mz.set (m.length + 6) b' ++ z := fun z b b' => by rw [List.set_append_left _ _ (by rw [List.length_set]; omega), List.set_set]
         have st3 := fun X : AMem => stoM (ck := cBz) (hl2 X (mapM (upGc cBz ky9 Bz) (upG cBz ky9 none Bz))) (hgu none) (some (Mz.length + 2, 0, [tz]))
         simp only [hs8, cvM] at st3
         have hKz := hX.step5a rfl hz (kyF_len _ _) hkj hsz2 hmv2
         try dsimp only at hKz
         simp only [kB] at hKz
         rw [← hky9] at hKz
         simp only [push_cast, simprocAttr] at en3 st3 reS9
         refine AW.rg ?_
         have pk_19 : _ ∧ _ ∧ _ ∧ _ ∧ _ ∧ _ ∧ _ ∧ _ := ⟨pk_18, hTs9, sTs9, en3, st3, hb2, hb3, reS9⟩
         simp only [push_cast, simprocAttr, ↓alloc52, Int.le_refl, Nat.le_refl, rS, kB, pk_19]
         apply hK;clear hK K
         refine AW.seq_k fun K hK => ?_
         refine AW.sr 1 fun K hK => ?_
         simp only [push_cast, simprocAttr, ↓alloc52, Int.le_refl, Nat.le_refl, rS, kB, pk_19]
         apply hK;clear hK K
         refine AW.cond_f rfl ?_
         refine AW.skip ?_
         apply hK;clear hK K
         refine AW.rg ?_
         simp only [push_cast, simprocAttr, ↓alloc52, Int.le_refl, Nat.le_refl, rS, kB, pk_19]
         refine InB_n ?_
         apply hK;clear hK K
         refine AW.rg ?_
         simp only [push_cast, simprocAttr, ↓alloc52, Int.le_refl, Nat.le_refl, rS, kB, pk_19]
         refine Thn_n ?_
         try simp only [keepL, setAll, push_cast, simprocAttr, ↓alloc52, Int.le_refl, Nat.le_refl, rS, kB, pk_19]
         exact ⟨_, hKz, hmz, Weak.same (by simp only [KS, simprocAttr, hwz, Int.natCast_add, Int.cast_ofNat_Int, Int.natCast_one]) (by first | rfl | (simp only [List.append_assoc, List.cons_append, List.nil_append, kB]; done) | simp only [kB])⟩
        ·skip
         have hsz2 := hsz
         have hmv2 := hmv
         rw [hky9] at hsz2 hmv2
         have hs2 : ∀ (z : AMem) (b : Blk), (Mz ++ z).set (m.length + 6) b = Mz.set (m.length + 6) b ++ z := fun z b => List.set_append_left _ _ (by omega)
         have hl2 : ∀ (z : AMem) (b : Blk), (Mz.set (m.length + 6) b ++ z)[m.length + 6]? = some b := fun z b => lk_old (List.getElem?_set_self (by omega)) z
         have hb2 : ∀ (z : AMem) (b : Blk), (Mz.set (m.length + 6) b ++ z)[Mz.length]? = z[0]? := fun z b => by rw [List.getElem?_append_right (by rw [List.length_set]; exact Nat.le_refl _), List.length_set, Nat.sub_self]
         have hb3 : ∀ (z : AMem) (b : Blk), (Mz.set (m.length + 6) b ++ z)[Mz.length + 1]? = z[1]? := fun z b => by rw [List.getElem?_append_right (by rw [List.length_set]; omega), List.length_set, Nat.add_sub_cancel_left]
         have en3 := fun X : AMem => entM (lk_old hWz.hM X) hWz.gB hk932
         try dsimp only at en3
         rw [hmv] at en3
         simp only [hs2, cvM] at en3
         have hgu := fun a : MV => hWz.gB.up hk932 a
         try dsimp only at hgu
         have reS9 := fun (X : AMem) (b : Blk) => remS (r := m.length + 5) (M := Mz.set (m.length + 6) b ++ X) (by rw [List.getElem?_append_left (by rw [List.length_set]; omega), List.getElem?_set_ne (by omega)]; exact hWz.hS) hWz.gS hk932
         try dsimp only at reS9
         have hlk := mV_some hmv
         have hrr : Mz[R]? = some (rowT v l) := hWz.rows.row ky9 R v l hlk
         have hr6 : m.length + 6 ≠ R := fun e => by
           have h6 : Mz[m.length + 6]? = some (mapM cBz Bz) := hWz.hM
           rw [e, hrr] at h6; simp [mapM, rowT] at h6
         have hr5 : m.length + 5 ≠ R := fun e => by
           have h6 : Mz[m.length + 5]? = some (mapS cSz Sz) := hWz.hS
           rw [e, hrr] at h6; simp [mapS, rowT] at h6
         have hrl := get_lt hrr
         have hR2 : ∀ (z : AMem) (b : Blk), (Mz.set (m.length + 6) b ++ z)[R]? = some ⟨.grow, 9, v, 1, l.map CV.str⟩ := fun z b => lk_old (by rw [List.getElem?_set_ne hr6]; exact hrr) z
         have hs3 : ∀ (z : AMem) (b c : Blk), (Mz.set (m.length + 6) b ++ z).set R c = (Mz.set R c).set (m.length + 6) b ++ z := fun z b c => by rw [List.set_append_left _ _ (by rw [List.length_set]; exact hrl), List.set_comm _ _ hr6]
         have hs4 : ∀ (z : AMem) (b c : Blk), ((Mz.set R c).set (m.length + 6) b ++ z)[m.length + 6]? = some b := fun z b c => lk_old (List.getElem?_set_self (by rw [List.length_set]; omega)) z
         have hs7 : ∀ (z : AMem) (b b' c : Blk), ((Mz.set R c).set (m.length + 6) b ++ z).set (m.length + 6) b' = (Mz.set R c).set (m.length + 6) b' ++ z := fun z b b' c => by rw [List.set_append_left _ _ (by rw [List.length_set, List.length_set]; omega), List.set_set]
         have hb4 : ∀ (z : AMem) (b c : Blk), ((Mz.set R c).set (m.length + 6) b ++ z)[Mz.length]? = z[0]? := fun z b c => by rw [List.getElem?_append_right (by rw [List.length_set, List.length_set]; exact Nat.le_refl _), List.length_set, List.length_set, Nat.sub_self]
         have hap : l.map CV.str ++ [.str tz] = (l ++ [tz]).map CV.str := by rw [List.map_append]; rfl
         have hll : (l.map CV.str).length = l.length := List.length_map _
         have hbl := hki.bd ky9
         rw [mV_mT hmv] at hbl
         have hbl2 : l.length ≤ 21 * i + z := hbl
         have q1 : l.length ≤ 140737488355327 := by omega
         have q2 : (l.length + 1) * 16 ≤ 140737488355328 := by omega
         have st3 := fun X : AMem => stoM (ck := cBz) (hs4 X (mapM (upGc cBz ky9 Bz) (upG cBz ky9 (some (R, v, l)) Bz)) ⟨.grow, 9, v + 1, 1, (l ++ [tz]).map CV.str⟩) (hgu (some (R, v, l))) (some (R, v + 1, l ++ [tz]))
         simp only [hs7, cvM, List.length_append, List.length_cons, List.length_nil, Nat.zero_add] at st3
         have reS9 := fun (X : AMem) (b c : Blk) => remS (r := m.length + 5) (M := (Mz.set R c).set (m.length + 6) b ++ X) (by rw [List.getElem?_append_left (by rw [List.length_set, List.length_set]; omega), List.getElem?_set_ne (by omega), List.getElem?_set_ne hr5.symm]; exact hWz.hS) hWz.gS hk932
         try dsimp only at reS9
         have hKz := hX.step5b rfl hz (kyF_len _ _) hkj hsz2 hmv2
         try dsimp only at hKz
         simp only [kB] at hKz
         rw [← hky9] at hKz
         simp only [push_cast, simprocAttr] at en3 st3 reS9
         refine AW.rg ?_
         have pk_20 : _ ∧ _ ∧ _ ∧ _ ∧ _ ∧ _ ∧ _ ∧ _ ∧ _ ∧ _ ∧ _ ∧ _ ∧ _ ∧ _ ∧ _ := ⟨pk_18, hTs9, sTs9, en3, st3, hb2, hb3, hb4, hR2, hs3, hap, hll, q1, q2, reS9⟩
         simp only [push_cast, simprocAttr, ↓alloc52, Int.le_refl, Nat.le_refl, rS, kB, pk_20]
         apply hK;clear hK K
         refine AW.seq_k fun K hK => ?_
         refine AW.sr 1 fun K hK => ?_
         simp only [push_cast, simprocAttr, ↓alloc52, Int.le_refl, Nat.le_refl, rS, kB, pk_20]
         apply hK;clear hK K
         refine AW.cond_f rfl ?_
         refine AW.skip ?_
         apply hK;clear hK K
         refine AW.rg ?_
         simp only [push_cast, simprocAttr, ↓alloc52, Int.le_refl, Nat.le_refl, rS, kB, pk_20]
         refine InB_n ?_
         apply hK;clear hK K
         refine AW.rg ?_
         simp only [push_cast, simprocAttr, ↓alloc52, Int.le_refl, Nat.le_refl, rS, kB, pk_20]
         refine Thn_n ?_
         try simp only [keepL, setAll, push_cast, simprocAttr, ↓alloc52, Int.le_refl, Nat.le_refl, rS, kB, pk_20]
         exact ⟨_, hKz, hmz, Weak.same (by simp only [KS, simprocAttr, hwz, Int.natCast_add, Int.cast_ofNat_Int, Int.natCast_one]) (by first | rfl | (simp only [List.append_assoc, List.cons_append, List.nil_append, kB]; done) | simp only [kB])⟩
      ·have hz : z = lk i := by have := of_decide_eq_false h151; omega
       rw [hz] at hki
       have hNz : WInv m cnt ⟨(i + 1), rv, rl, Mz, V', D', cSz, cBz, cA, Sz, Bz, A⟩ := ⟨hic, hi6, hWz.tick (i + 1), hfin _ _ hki.su1 hki.su2 hki.m0 hki.m1 hki.m2, hki.ky, fun x => Nat.le_trans (hki.bd x) (show 21 * i + lk i ≤ 21 * (i + 1) by omega)⟩
       refine AW.exit ?_
       refine Thn_e ?_
       clear hK K
       refine Thn_e ?_
       refine InB_here ?_
       refine InB_n ?_
       refine InB_n ?_
       apply hK;clear hK K
       refine AW.rg ?_
       simp only [push_cast, simprocAttr, ↓alloc52, Int.le_refl, Nat.le_refl, rS, kB, pk_17]
       refine Thn_n ?_
       try simp only [keepL, setAll, push_cast, simprocAttr, ↓alloc52, Int.le_refl, Nat.le_refl, rS, kB, pk_17]
       first
       | exact ⟨_, hN _ hW3, hmu i rfl, Weak.same (by simp only [KS, simprocAttr, hwi, Int.natCast_add, Int.cast_ofNat_Int, Int.natCast_one]) (by first | rfl | exact hNm)⟩
       | exact ⟨_, hNz, hmu i rfl, Weak.same (by simp only [KS, simprocAttr, hwi, Int.natCast_add, Int.cast_ofNat_Int, Int.natCast_one]) (by first | rfl | (simp only [List.append_assoc, List.cons_append, List.nil_append]; rfl) | simp only [List.append_assoc, List.cons_append, List.nil_append])⟩
    ·refine AW.sr 1 fun K hK => ?_
     simp only [push_cast, simprocAttr, ↓alloc52, Int.le_refl, Nat.le_refl, rS, kB, pk_2, h60, hWo, hWk]
     apply hK;clear hK K
     refine AW.cond rfl (fun h180 => ?_) (fun h180 => ?_)
     ·obtain ⟨e, D', hC3, hO3⟩ := fuse_all rv rl (m.length + 2) m.length (m.length + 1) M1 hW.mem.hB hown (nx i)
      have hNz : WInv m cnt ⟨(i + 1), rv, rl, (setB M1 rv rl (m.length + 2) m.length (m.length + 1) 400 V D'), V, D', cS, cB, cA, Sx, B, A⟩ := ⟨hic, hi6, (hW.turn V D').mem.tick (i + 1), hO3, hkyB, hbd1⟩
      refine AW.rg ?_
      simp only [push_cast, simprocAttr, ↓alloc52, Int.le_refl, Nat.le_refl, rS, kB, pk_2, h60, hWo, hWk]
      refine CThen.by (hC3) ?_
      simp only [push_cast, simprocAttr, ↓alloc52, Int.le_refl, Nat.le_refl, rS, kB, pk_2, h60, hWo, hWk]
      refine InB_n ?_
      refine InB_n ?_
      apply hK;clear hK K
      refine AW.rg ?_
      simp only [push_cast, simprocAttr, ↓alloc52, Int.le_refl, Nat.le_refl, rS, kB, pk_2, h60, hWo, hWk]
      refine Thn_n ?_
      try simp only [keepL, setAll, push_cast, simprocAttr, ↓alloc52, Int.le_refl, Nat.le_refl, rS, kB, pk_2, h60, hWo, hWk]
      first
      | exact ⟨_, hN _ hW3, hmu i rfl, Weak.same (by simp only [KS, simprocAttr, hwi, Int.natCast_add, Int.cast_ofNat_Int, Int.natCast_one]) (by first | rfl | exact hNm)⟩
      | exact ⟨_, hNz, hmu i rfl, Weak.same (by simp only [KS, simprocAttr, hwi, Int.natCast_add, Int.cast_ofNat_Int, Int.natCast_one]) (by first | rfl | (simp only [List.append_assoc, List.cons_append, List.nil_append]; rfl) | simp only [List.append_assoc, List.cons_append, List.nil_append])⟩
     ·refine AW.sr 1 fun K hK => ?_
      simp only [push_cast, simprocAttr, ↓alloc52, Int.le_refl, Nat.le_refl, rS, kB, pk_2, h60, hWo, hWk]
      apply hK;clear hK K
      refine AW.cond rfl (fun h186 => ?_) (fun h186 => ?_)
      ·obtain ⟨hwd, g0, hg0⟩ := hown.core
       have hC4 := cr_c (m.length + 2) m.length (m.length + 1) 400 D (re i) 0 (le i) (ks i) .ro 1 M1 hW.mem.hB.d hwd (hW.mem.old hks) (.inl rfl) (by omega) (by omega)
       rw [setB_D hW.mem.hB] at hC4
       obtain ⟨g, hg1, hg2, hg3, hg4, hg5⟩ := crash_own (S := D.S) (W := D.S) (g := g0) hg0 hwd (ks i) (le i)
       obtain ⟨D4, hD4⟩ : ∃ d, d = crD D (ks i) (le i) := ⟨_, rfl⟩
       rw [← hD4] at hC4 hg1 hg2 hg3 hg4 hg5
       have hD4d : D4.down = false := by rw [hD4]; rfl
       have hD4e : D4.E = [] := by rw [hD4]; rfl
       have hWT4 := (hW.turn V D4).mem
       refine AW.sr 1 fun K hK => ?_
       simp only [push_cast, simprocAttr, ↓alloc52, Int.le_refl, Nat.le_refl, rS, kB, pk_2, h60, hWo, hWk]
       refine CThen.by (hC4) ?_
       simp only [push_cast, simprocAttr, ↓alloc52, Int.le_refl, Nat.le_refl, rS, kB, pk_2, h60, hWo, hWk]
       apply hK;clear hK K
       refine AW.anyMemG (fun M2 => WMem m ⟨i, rv, rl, M2, V, D4, cS, cB, cA, Sx, B, A⟩) hWT4 fun M2 hW2 => ?_
       obtain ⟨V4, hV4⟩ : ∃ v : VS, v = ⟨100, g, ((100 : Nat) : Int), 0⟩ := ⟨_, rfl⟩
       have hC5 : Ctr Try.prog 7 [.one (.ptr (m.length + 2) 0 0)] M2 (.tup [(false, [.ptr (M2.length + 1) 0 0]), (false, [.int .i64 0])]) (M2 ++ [rS 0 V4.k V4.f, vtB (m.length + 2) M2.length V4]) := by
         rw [hV4]; exact open_c (m.length + 2) m.length (m.length + 1) 400 100 D4 g M2 hW2.hB.d hg4 hD4d (by omega) k100 hg5 hg3
       have hWR := hW2.reopen V4
       refine AW.sr 1 fun K hK => ?_
       simp only [push_cast, simprocAttr, ↓alloc52, Int.le_refl, Nat.le_refl, rS, kB, pk_2, h60, hWo, hWk]
       refine CThen.by (hC5) ?_
       simp only [push_cast, simprocAttr, ↓alloc52, Int.le_refl, Nat.le_refl, rS, kB, pk_2, h60, hWo, hWk]
       apply hK;clear hK K
       refine AW.seq_k fun K hK => ?_
       refine AW.anyMemG (fun M3 => WMem m ⟨i, (M2.length + 1), M2.length, M3, V4, D4, cS, cB, cA, Sx, B, A⟩) hWR fun M3 hW4 => ?_
       refine AW.sr 1 fun K hK => ?_
       simp only [push_cast, simprocAttr, ↓alloc52, Int.le_refl, Nat.le_refl, rS, kB, pk_2, h60, hWo, hWk]
       apply hK;clear hK K
       refine AW.cond_f rfl ?_
       refine AW.skip ?_
       apply hK;clear hK K
       refine AW.sr 2 fun K hK => ?_
       simp only [push_cast, simprocAttr, ↓alloc52, Int.le_refl, Nat.le_refl, rS, kB, pk_2, h60, hWo, hWk]
       apply hK;clear hK K
       refine AW.block ?_
       refine AW.loopX [3, 5, 7, 8, 9, 56, 57, 58] (fun (kq : KQ) => NX m ⟨i, (M2.length + 1), M2.length, M3, V4, D4, cS, cB, cA, Sx, B, A⟩ g M3.length kq) (fun (kq : KQ) => [(204, .one (.int .u8 (kq.z : Int)))]) (fun (kq : KQ) => kq.M) (fun (kq : KQ) => 9 - kq.z) ⟨0, cS, cB, M3, Sx, B⟩ ⟨Nat.zero_le _, hW4, Nat.le_refl _, NI.start⟩ ?_ ?_ (fun kq hq => hq.len) fun kq hi29 => ?_
       · first | rfl | (simp only [KS, simprocAttr, Int.natCast_zero] <;> repeat' (first | rfl | apply And.intro))
       · rfl
       obtain ⟨z, cSz, cBz, Mz, Sz, Bz⟩ := kq
       have hX : NX m ⟨i, (M2.length + 1), M2.length, M3, V4, D4, cS, cB, cA, Sx, B, A⟩ g M3.length ⟨z, cSz, cBz, Mz, Sz, Bz⟩ := hi29
       have hz9 : z ≤ 9 := hX.z0
       have hWz : WMem m ⟨i, (M2.length + 1), M2.length, Mz, V4, D4, cSz, cBz, cA, Sz, Bz, A⟩ := hX.mem
       have hki : NI 100 A g Sx B z Sz Bz := hX.ki
       have hzl : m.length + 8 ≤ Mz.length := hWz.len
       try simp only [keepL, setAll, push_cast, simprocAttr, ↓alloc52, Int.le_refl, Nat.le_refl, rS, kB, pk_2, h60, hWo, hWk, Int.natCast_zero]
       refine AW.sr 1 fun K hK => ?_
       simp only [push_cast, simprocAttr, ↓alloc52, Int.le_refl, Nat.le_refl, rS, kB, pk_2, h60, hWo, hWk, Int.natCast_zero]
       apply hK;clear hK K
       refine AW.seq_k fun K hK => ?_
       refine AW.cond rfl (fun h205 => ?_) (fun h205 => ?_)
       ·have hz : z < 9 := by have := of_decide_eq_true h205; omega
        have hmz : 9 - (z + 1) < 9 - z := by omega
        have hwz : IntKind.u8.wrap ((z : Int) + 1) = (z : Int) + 1 := by rw [w8]; omega
        obtain ⟨ky9, hky9⟩ : ∃ k, k = kyL (z : Int) := ⟨_, rfl⟩
        have hk9c : ∀ X : AMem, Ctr Try.prog 16 [.one (.int .u8 (z : Int))] X (.agg (u8l ky9)) X := fun X => by rw [hky9]; exact key_c (z : Int) X (by omega) (by omega)
        have hk932 : ky9.length = 32 := by rw [hky9]; rfl
        have kul9 : (u8l ky9).length = 32 := by rw [u8l_len]; exact hk932
        have kut9 : (u8l ky9).take 32 = u8l ky9 := List.take_of_length_le (by omega)
        have kuv9 := u8l_vals ky9
        have kuz9 : setL [CV.int .u8 0, CV.int .u8 0, CV.int .u8 0, CV.int .u8 0, CV.int .u8 0, CV.int .u8 0, CV.int .u8 0, CV.int .u8 0, CV.int .u8 0, CV.int .u8 0, CV.int .u8 0, CV.int .u8 0, CV.int .u8 0, CV.int .u8 0, CV.int .u8 0, CV.int .u8 0, CV.int .u8 0, CV.int .u8 0, CV.int .u8 0, CV.int .u8 0, CV.int .u8 0, CV.int .u8 0, CV.int .u8 0, CV.int .u8 0, CV.int .u8 0, CV.int .u8 0, CV.int .u8 0, CV.int .u8 0, CV.int .u8 0, CV.int .u8 0, CV.int .u8 0, CV.int .u8 0] 0 (u8l ky9) = u8l ky9 := setL_full (by rw [kul9]; rfl)
        refine AW.skip ?_
        apply hK;clear hK K
        refine AW.seq_k fun K hK => ?_
        refine AW.block ?_
        refine AW.sr 2 fun K hK => ?_
        have pk_21 : _ ∧ _ ∧ _ ∧ _ ∧ _ ∧ _ ∧ _ ∧ _ := ⟨pk_2, h60, hWo, hWk, kul9, kut9, kuv9, kuz9⟩
        simp only [push_cast, simprocAttr, ↓alloc52, Int.le_refl, Nat.le_refl, rS, kB, Int.natCast_zero, pk_21]
        refine CThen.by (hk9c _) ?_
        simp only [push_cast, simprocAttr, ↓alloc52, Int.le_refl, Nat.le_refl, rS, kB, Int.natCast_zero, pk_21]
        apply hK;clear hK K
        refine AW.seq_k fun K hK => ?_
        have hno9 : ¬ ∃ j : Nat, j < z ∧ ky9 = kyL (j : Int) := fun ⟨j, a, b⟩ => kyL_ne (a := z) (b := j) hz (by omega) (by omega) (by rw [← hky9]; exact b)
        have hS9 := hki.su2 ky9 hno9
        have hB9 := hki.m2 ky9 hno9
        have hgs := get_step (M2.length + 1) M2.length (m.length + 2) m.length (m.length + 1) (Mz ++ [⟨.fix, 37, 0, 0, u8l ky9⟩]) (hWz.hB.mono _) hV4 hg1 hD4e hg4 hD4d (by omega) (by omega) ky9 hk932
        try dsimp only at hgs
        rw [← hS9, ← hB9] at hgs
        have lkS9 := fun X : AMem => lookS (lk_old hWz.hS X) hWz.gS hk932
        have lkM9 := fun X : AMem => lookM (lk_old hWz.hM X) hWz.gB hk932
        try dsimp only at lkS9 lkM9
        simp only [cM_mV] at lkM9
        have hwz8 : m.length + 8 ≤ Mz.length := hzl
        rcases hsz : lkG ky9 Sz with _ | tz <;> rcases hgs with ⟨hG, s1, s2⟩ | ⟨row, p, hG, s1, s2, s3, s4, s5, s6⟩ <;> rcases hmv : mV ky9 Bz with _ | ⟨R, v, l⟩ <;> have hmT9 := mV_mT hmv <;> simp only [hmv, cvM] at lkM9
        rotate_left 2
        · exfalso; first | (rw [hsz] at s1; cases s1) | (have h6 := s6; rw [hsz, hmT9] at h6; rcases h6 with h6 | h6 <;> cases h6)
        rotate_left 1
        · exfalso; first | (rw [hsz] at s1; cases s1) | (have h6 := s6; rw [hsz, hmT9] at h6; rcases h6 with h6 | h6 <;> cases h6)
        · exfalso; first | (rw [hsz] at s1; cases s1) | (have h6 := s6; rw [hsz, hmT9] at h6; rcases h6 with h6 | h6 <;> cases h6)
        ·have hTs9 : hT ky9 Sz = true := by unfold hT; rw [hsz]; rfl
         have sTs9 : sT ky9 Sz = tz := by unfold sT; rw [hsz]; rfl
         have hbs : (u8l row).take p.length = u8l p := by rw [u8l_take, s1]
         have hrl : (u8l row).length = row.length := u8l_len row
         have hba := bytesA_u8 p
         have hKz := hX.ok hz hky9 (row := row) (p := p) hg1 s5
         have puS9 := fun (X : AMem) (b : Blk) => putS (r := m.length + 5) (M := ((Mz ++ X).set (m.length + 6) b).set (m.length + 5) (mapS cSz (delG ky9 Sz))) (by rw [List.getElem?_set_self (by rw [List.length_set, List.length_append]; omega)]) (hWz.gS.del ky9) hk932 (strB p)
         try dsimp only at puS9
         simp only [push_cast, simprocAttr] at puS9
         try dsimp only at hKz
         simp only [kB] at hKz
         simp only [push_cast, simprocAttr] at lkS9 lkM9
         rw [hsz] at s6
         have htp : tz = strB p := by
           rcases s6 with h6 | h6
           · injection h6
           · rw [hmT9] at h6; cases h6
         refine AW.rg ?_
         have pk_22 : _ ∧ _ ∧ _ ∧ _ ∧ _ ∧ _ ∧ _ ∧ _ ∧ _ ∧ _ ∧ _ := ⟨pk_21, lkS9, lkM9, hTs9, sTs9, htp, hbs, hrl, hba, s2, puS9⟩
         simp only [push_cast, simprocAttr, ↓alloc52, Int.le_refl, Nat.le_refl, rS, kB, Int.natCast_zero, pk_22]
         refine CThen.by (hG) ?_
         simp only [push_cast, simprocAttr, ↓alloc52, Int.le_refl, Nat.le_refl, rS, kB, Int.natCast_zero, pk_22]
         apply hK;clear hK K
         refine AW.sr 2 fun K hK => ?_
         simp only [push_cast, simprocAttr, ↓alloc52, Int.le_refl, Nat.le_refl, rS, kB, Int.natCast_zero, pk_22]
         apply hK;clear hK K
         refine AW.seq_k fun K hK => ?_
         refine AW.sr 1 fun K hK => ?_
         simp only [push_cast, simprocAttr, ↓alloc52, Int.le_refl, Nat.le_refl, rS, kB, Int.natCast_zero, pk_22]
         apply hK;clear hK K
         refine AW.block ?_
         refine AW.rounds 1 ?_
         refine ARounds.succ fun K hK => ?_
         refine AW.sr 1 fun K hK => ?_
         simp only [push_cast, simprocAttr, ↓alloc52, Int.le_refl, Nat.le_refl, rS, kB, Int.natCast_zero, pk_22]
         apply hK;clear hK K
         refine AW.seq_k fun K hK => ?_
         refine AW.cond_f rfl ?_
         refine AW.exit ?_
         refine Thn_e ?_
         clear hK K
         refine Thn_e ?_
         clear hK K
         refine InB_here ?_
         apply hK;clear hK K
         refine AW.seq_k fun K hK => ?_
         refine AW.block ?_
         refine AW.seq_k fun K hK => ?_
         iterate 2
          refine AW.sr 1 fun K hK => ?_
          simp only [push_cast, simprocAttr, ↓alloc52, Int.le_refl, Nat.le_refl, rS, kB, Int.natCast_zero, pk_22]
          apply hK;clear hK K
          refine AW.cond_f rfl ?_
         refine AW.rg ?_
         simp only [push_cast, simprocAttr, ↓alloc52, Int.le_refl, Nat.le_refl, rS, kB, Int.natCast_zero, pk_22]
         apply hK;clear hK K
         refine AW.cond_f rfl ?_
         refine AW.skip ?_
         refine InB_n ?_
         apply hK;clear hK K
         have puM9 := fun X : AMem => putM (lk_old hWz.hM X) hWz.gB hk932
         have reS9 := fun (X : AMem) (b : Blk) => remS (r := m.length + 5) (M := (Mz ++ X).set (m.length + 6) b) (by rw [List.getElem?_set_ne (by omega)]; exact lk_old hWz.hS X) hWz.gS hk932
         have hk9s : ∀ (X : AMem) (b : Blk), ((Mz ++ X).set (m.length + 6) b)[Mz.length]? = X[0]? := fun X b => by rw [List.getElem?_set_ne (by omega), List.getElem?_append_right (Nat.le_refl _), Nat.sub_self]
         have hk9t : ∀ (X : AMem) (b c : Blk), (((Mz ++ X).set (m.length + 6) b).set (m.length + 5) c)[Mz.length]? = X[0]? := fun X b c => by rw [List.getElem?_set_ne (by omega)]; exact hk9s X b
         have hk9u : ∀ (X : AMem) (b c : Blk), (((Mz ++ X).set (m.length + 6) b).set (m.length + 5) c)[Mz.length + 1]? = X[1]? := fun X b c => by rw [List.getElem?_set_ne (by omega), List.getElem?_set_ne (by omega), List.getElem?_append_right (by omega), Nat.add_sub_cancel_left]
         try dsimp only at puM9 reS9
         try simp only [push_cast, simprocAttr] at puM9 reS9
         refine AW.sr 3 fun K hK => ?_
         have pk_23 : _ ∧ _ ∧ _ ∧ _ ∧ _ ∧ _ := ⟨pk_22, puM9, reS9, hk9s, hk9t, hk9u⟩
         simp only [push_cast, simprocAttr, ↓alloc52, Int.le_refl, Nat.le_refl, rS, kB, Int.natCast_zero, pk_23]
         apply hK;clear hK K
         refine AW.cond_t rfl ?_
         refine AW.rg ?_
         simp only [push_cast, simprocAttr, ↓alloc52, Int.le_refl, Nat.le_refl, rS, kB, Int.natCast_zero, pk_23]
         refine InB_n ?_
         apply hK;clear hK K
         refine AW.rg ?_
         simp only [push_cast, simprocAttr, ↓alloc52, Int.le_refl, Nat.le_refl, rS, kB, Int.natCast_zero, pk_23]
         refine Thn_n ?_
         try simp only [keepL, setAll, push_cast, simprocAttr, ↓alloc52, Int.le_refl, Nat.le_refl, rS, kB, Int.natCast_zero, pk_23]
         exact ⟨_, hKz, hmz, Weak.same (by simp only [KS, simprocAttr, hwz, Int.natCast_add, Int.cast_ofNat_Int, Int.natCast_one]) (by first | rfl | (simp only [List.append_assoc, List.cons_append, List.nil_append, kB]; done) | simp only [kB])⟩
        ·have hTs9 : hT ky9 Sz = true := by unfold hT; rw [hsz]; rfl
         have sTs9 : sT ky9 Sz = tz := by unfold sT; rw [hsz]; rfl
         have hbs : (u8l row).take p.length = u8l p := by rw [u8l_take, s1]
         have hrl : (u8l row).length = row.length := u8l_len row
         have hba := bytesA_u8 p
         have hKz := hX.ok hz hky9 (row := row) (p := p) hg1 s5
         have puS9 := fun (X : AMem) (b : Blk) => putS (r := m.length + 5) (M := ((Mz ++ X).set (m.length + 6) b).set (m.length + 5) (mapS cSz (delG ky9 Sz))) (by rw [List.getElem?_set_self (by rw [List.length_set, List.length_append]; omega)]) (hWz.gS.del ky9) hk932 (strB p)
         try dsimp only at puS9
         simp only [push_cast, simprocAttr] at puS9
         try dsimp only at hKz
         simp only [kB] at hKz
         simp only [push_cast, simprocAttr] at lkS9 lkM9
         have hlb : l.length ≤ 21 * i := by
           have h1 := hbdB ky9
           rw [← hB9, hmT9] at h1; exact h1
         have hlr : ∀ X : AMem, (Mz ++ X)[R]? = some ⟨.grow, 9, v, 1, l.map CV.str⟩ := fun X => lk_old (hWz.rows.row ky9 R v l (mV_some hmv)) X
         have hlm : (l.map CV.str).length = l.length := List.length_map _
         rw [hsz] at s6
         have hb0 : decide (tz = strB p) = true ∨ strB p ∈ l := by
           rcases s6 with h6 | h6
           · injection h6 with h6; exact .inl (decide_eq_true h6)
           · rw [hmT9] at h6; exact .inr h6
         refine AW.rg ?_
         have pk_24 : _ ∧ _ ∧ _ ∧ _ ∧ _ ∧ _ ∧ _ ∧ _ ∧ _ ∧ _ ∧ _ ∧ _ := ⟨pk_21, lkS9, lkM9, hTs9, sTs9, hlr, hlm, hbs, hrl, hba, s2, puS9⟩
         simp only [push_cast, simprocAttr, ↓alloc52, Int.le_refl, Nat.le_refl, rS, kB, Int.natCast_zero, toL_iff, pk_24]
         refine CThen.by (hG) ?_
         simp only [push_cast, simprocAttr, ↓alloc52, Int.le_refl, Nat.le_refl, rS, kB, Int.natCast_zero, toL_iff, pk_24]
         apply hK;clear hK K
         refine AW.sr 2 fun K hK => ?_
         simp only [push_cast, simprocAttr, ↓alloc52, Int.le_refl, Nat.le_refl, rS, kB, Int.natCast_zero, toL_iff, pk_24]
         apply hK;clear hK K
         refine AW.seq_k fun K hK => ?_
         refine AW.sr 1 fun K hK => ?_
         simp only [push_cast, simprocAttr, ↓alloc52, Int.le_refl, Nat.le_refl, rS, kB, Int.natCast_zero, toL_iff, pk_24]
         apply hK;clear hK K
         refine AW.block ?_
         refine AW.loopK [3, 5, 7, 8, 9, 26, 27, 28, 30, 56, 57, 58, 204, 230, 231] (fun y => y.1 ≤ l.length ∧ (y.2 = true ∨ strB p ∈ l.drop y.1)) (fun y => [(31, .one (.bool y.2)), (232, .one (.int .i64 (y.1 : Int)))]) (fun y => []) (fun y => l.length - y.1) ((0, decide (tz = strB p)) : Nat × Bool) ⟨Nat.zero_le _, hb0⟩ ?_ ?_ fun y hi39 => ?_
         · first | rfl | (simp only [KS, simprocAttr, Int.natCast_zero] <;> repeat' (first | rfl | apply And.intro))
         · first | rfl | (simp only [setAll, push_cast, simprocAttr, ↓alloc52, Int.le_refl, Nat.le_refl, rS, kB, Int.natCast_zero, toL_iff, pk_24, Int.natCast_zero] <;> rfl)
         obtain ⟨j, bb⟩ := y
         have hy := hi39
         dsimp only at hy ⊢
         try simp only [keepL, setAll, push_cast, simprocAttr, ↓alloc52, Int.le_refl, Nat.le_refl, rS, kB, Int.natCast_zero, toL_iff, pk_24]
         refine AW.sr 1 fun K hK => ?_
         simp only [push_cast, simprocAttr, ↓alloc52, Int.le_refl, Nat.le_refl, rS, kB, Int.natCast_zero, toL_iff, pk_24]
         apply hK;clear hK K
         refine AW.seq_k fun K hK => ?_
         refine AW.cond rfl (fun h233 => ?_) (fun h233 => ?_)
         ·have hj : j < l.length := by have := of_decide_eq_true h233; omega
          have hwj : IntKind.i64.wrap ((j : Int) + 1) = (j : Int) + 1 := wi (by omega)
          obtain ⟨st, hst⟩ : ∃ s, l[j]? = some s := ⟨_, List.getElem?_eq_getElem hj⟩
          have hsm : (l.map CV.str)[j]? = some (.str st) := by rw [List.getElem?_map, hst]; rfl
          have j0 : (0 : Int) ≤ (j : Int) := by omega
          have j1 : (j : Int) < (l.length : Int) := by omega
          refine AW.skip ?_
          apply hK;clear hK K
          refine AW.seq_k fun K hK => ?_
          refine AW.block ?_
          refine AW.sr 1 fun K hK => ?_
          have pk_25 : _ ∧ _ ∧ _ ∧ _ ∧ _ := ⟨pk_24, hsm, j0, j1, hj⟩
          simp only [push_cast, simprocAttr, ↓alloc52, Int.le_refl, Nat.le_refl, rS, kB, Int.natCast_zero, toL_iff, toL_iff, pk_25]
          apply hK;clear hK K
          rcases bb with _ | _
          ·have hbb := True.intro
           refine AW.rg ?_
           simp only [push_cast, simprocAttr, ↓alloc52, Int.le_refl, Nat.le_refl, rS, kB, Int.natCast_zero, toL_iff, toL_iff, pk_25]
           refine InB_n ?_
           apply hK;clear hK K
           refine AW.rg ?_
           simp only [push_cast, simprocAttr, ↓alloc52, Int.le_refl, Nat.le_refl, rS, kB, Int.natCast_zero, toL_iff, toL_iff, pk_25]
           refine Thn_n ?_
           refine ⟨(j + 1, decide (st = strB p)), (by
             refine ⟨hj, ?_⟩
             rcases hy.2 with h | h
             · cases h
             · rw [List.drop_eq_getElem_cons hj] at h
               rcases List.mem_cons.1 h with h | h
               · left; rw [List.getElem?_eq_getElem hj] at hst; injection hst with hst; rw [← hst, ← h]; exact decide_eq_true rfl
               · exact .inr h), (by show l.length - (j + 1) < l.length - j; omega), ?_⟩
           try simp only [keepL, setAll, push_cast, simprocAttr, ↓alloc52, Int.le_refl, Nat.le_refl, rS, kB, Int.natCast_zero, toL_iff, toL_iff, pk_25, hwj]
           exact Weak.same (by simp only [KS, simprocAttr, hwj]) (by first | rfl | simp only [KS, simprocAttr, hwj])
          ·have hbb := True.intro
           refine AW.rg ?_
           simp only [push_cast, simprocAttr, ↓alloc52, Int.le_refl, Nat.le_refl, rS, kB, Int.natCast_zero, toL_iff, toL_iff, pk_25]
           refine InB_n ?_
           apply hK;clear hK K
           refine AW.rg ?_
           simp only [push_cast, simprocAttr, ↓alloc52, Int.le_refl, Nat.le_refl, rS, kB, Int.natCast_zero, toL_iff, toL_iff, pk_25]
           refine Thn_n ?_
           refine ⟨(j + 1, true), ⟨hj, .inl rfl⟩, (by show l.length - (j + 1) < l.length - j; omega), ?_⟩
           try simp only [keepL, setAll, push_cast, simprocAttr, ↓alloc52, Int.le_refl, Nat.le_refl, rS, kB, Int.natCast_zero, toL_iff, toL_iff, pk_25, hwj]
           exact Weak.same (by simp only [KS, simprocAttr, hwj]) (by first | rfl | simp only [KS, simprocAttr, hwj])
         ·have hjl : l.length ≤ j := by have := of_decide_eq_false h233; omega
          obtain rfl : bb = true := by
            rcases hy.2 with h | h
            · exact h
            · rw [List.drop_eq_nil_of_le hjl] at h; cases h
          refine AW.exit ?_
          refine Thn_e ?_
          clear hK K
          refine Thn_e ?_
          refine InB_here ?_
          apply hK;clear hK K
          refine AW.seq_k fun K hK => ?_
          refine AW.block ?_
          refine AW.seq_k fun K hK => ?_
          iterate 2
           refine AW.sr 1 fun K hK => ?_
           simp only [push_cast, simprocAttr, ↓alloc52, Int.le_refl, Nat.le_refl, rS, kB, Int.natCast_zero, toL_iff, pk_24]
           apply hK;clear hK K
           refine AW.cond_f rfl ?_
          refine AW.rg ?_
          simp only [push_cast, simprocAttr, ↓alloc52, Int.le_refl, Nat.le_refl, rS, kB, Int.natCast_zero, toL_iff, pk_24]
          apply hK;clear hK K
          refine AW.cond_f rfl ?_
          refine AW.skip ?_
          refine InB_n ?_
          apply hK;clear hK K
          have puM9 := fun X : AMem => putM (lk_old hWz.hM X) hWz.gB hk932
          have reS9 := fun (X : AMem) (b : Blk) => remS (r := m.length + 5) (M := (Mz ++ X).set (m.length + 6) b) (by rw [List.getElem?_set_ne (by omega)]; exact lk_old hWz.hS X) hWz.gS hk932
          have hk9s : ∀ (X : AMem) (b : Blk), ((Mz ++ X).set (m.length + 6) b)[Mz.length]? = X[0]? := fun X b => by rw [List.getElem?_set_ne (by omega), List.getElem?_append_right (Nat.le_refl _), Nat.sub_self]
          have hk9t : ∀ (X : AMem) (b c : Blk), (((Mz ++ X).set (m.length + 6) b).set (m.length + 5) c)[Mz.length]? = X[0]? := fun X b c => by rw [List.getElem?_set_ne (by omega)]; exact hk9s X b
          have hk9u : ∀ (X : AMem) (b c : Blk), (((Mz ++ X).set (m.length + 6) b).set (m.length + 5) c)[Mz.length + 1]? = X[1]? := fun X b c => by rw [List.getElem?_set_ne (by omega), List.getElem?_set_ne (by omega), List.getElem?_append_right (by omega), Nat.add_sub_cancel_left]
          try dsimp only at puM9 reS9
          try simp only [push_cast, simprocAttr] at puM9 reS9
          refine AW.sr 3 fun K hK => ?_
          have pk_26 : _ ∧ _ ∧ _ ∧ _ ∧ _ ∧ _ := ⟨pk_24, puM9, reS9, hk9s, hk9t, hk9u⟩
          simp only [push_cast, simprocAttr, ↓alloc52, Int.le_refl, Nat.le_refl, rS, kB, Int.natCast_zero, toL_iff, pk_26]
          apply hK;clear hK K
          refine AW.cond_t rfl ?_
          refine AW.rg ?_
          simp only [push_cast, simprocAttr, ↓alloc52, Int.le_refl, Nat.le_refl, rS, kB, Int.natCast_zero, toL_iff, pk_26]
          refine InB_n ?_
          apply hK;clear hK K
          refine AW.rg ?_
          simp only [push_cast, simprocAttr, ↓alloc52, Int.le_refl, Nat.le_refl, rS, kB, Int.natCast_zero, toL_iff, pk_26]
          refine Thn_n ?_
          try simp only [keepL, setAll, push_cast, simprocAttr, ↓alloc52, Int.le_refl, Nat.le_refl, rS, kB, Int.natCast_zero, toL_iff, pk_26]
          exact ⟨_, hKz, hmz, Weak.same (by simp only [KS, simprocAttr, hwz, Int.natCast_add, Int.cast_ofNat_Int, Int.natCast_one]) (by first | rfl | (simp only [List.append_assoc, List.cons_append, List.nil_append, kB]; done) | simp only [kB])⟩
        ·have hTs9 : hT ky9 Sz = false := by unfold hT; rw [hsz]; rfl
         have hKz := hX.no hz hky9 s2
         try dsimp only at hKz
         simp only [kB] at hKz
         simp only [push_cast, simprocAttr] at lkS9 lkM9
         refine AW.rg ?_
         simp only [push_cast, simprocAttr, ↓alloc52, Int.le_refl, Nat.le_refl, rS, kB, Int.natCast_zero, pk_21, lkS9, lkM9, hTs9]
         refine CThen.by (hG) ?_
         simp only [push_cast, simprocAttr, ↓alloc52, Int.le_refl, Nat.le_refl, rS, kB, Int.natCast_zero, pk_21, lkS9, lkM9, hTs9]
         apply hK;clear hK K
         refine AW.sr 2 fun K hK => ?_
         simp only [push_cast, simprocAttr, ↓alloc52, Int.le_refl, Nat.le_refl, rS, kB, Int.natCast_zero, pk_21, lkS9, lkM9, hTs9]
         apply hK;clear hK K
         refine AW.seq_k fun K hK => ?_
         refine AW.sr 1 fun K hK => ?_
         simp only [push_cast, simprocAttr, ↓alloc52, Int.le_refl, Nat.le_refl, rS, kB, Int.natCast_zero, pk_21, lkS9, lkM9, hTs9]
         apply hK;clear hK K
         refine AW.block ?_
         refine AW.rounds 1 ?_
         refine ARounds.succ fun K hK => ?_
         refine AW.sr 1 fun K hK => ?_
         simp only [push_cast, simprocAttr, ↓alloc52, Int.le_refl, Nat.le_refl, rS, kB, Int.natCast_zero, pk_21, lkS9, lkM9, hTs9]
         apply hK;clear hK K
         refine AW.seq_k fun K hK => ?_
         refine AW.cond_f rfl ?_
         refine AW.exit ?_
         refine Thn_e ?_
         clear hK K
         refine Thn_e ?_
         clear hK K
         refine InB_here ?_
         apply hK;clear hK K
         refine AW.seq_k fun K hK => ?_
         refine AW.block ?_
         refine AW.seq_k fun K hK => ?_
         iterate 2
          refine AW.sr 1 fun K hK => ?_
          simp only [push_cast, simprocAttr, ↓alloc52, Int.le_refl, Nat.le_refl, rS, kB, Int.natCast_zero, pk_21, lkS9, lkM9, hTs9]
          apply hK;clear hK K
          refine AW.cond_f rfl ?_
         refine AW.rg ?_
         simp only [push_cast, simprocAttr, ↓alloc52, Int.le_refl, Nat.le_refl, rS, kB, Int.natCast_zero, pk_21, lkS9, lkM9, hTs9]
         apply hK;clear hK K
         refine AW.cond_f rfl ?_
         refine AW.skip ?_
         refine InB_n ?_
         apply hK;clear hK K
         have puM9 := fun X : AMem => putM (lk_old hWz.hM X) hWz.gB hk932
         have reS9 := fun (X : AMem) (b : Blk) => remS (r := m.length + 5) (M := (Mz ++ X).set (m.length + 6) b) (by rw [List.getElem?_set_ne (by omega)]; exact lk_old hWz.hS X) hWz.gS hk932
         have hk9s : ∀ (X : AMem) (b : Blk), ((Mz ++ X).set (m.length + 6) b)[Mz.length]? = X[0]? := fun X b => by rw [List.getElem?_set_ne (by omega), List.getElem?_append_right (Nat.le_refl _), Nat.sub_self]
         have hk9t : ∀ (X : AMem) (b c : Blk), (((Mz ++ X).set (m.length + 6) b).set (m.length + 5) c)[Mz.length]? = X[0]? := fun X b c => by rw [List.getElem?_set_ne (by omega)]; exact hk9s X b
         have hk9u : ∀ (X : AMem) (b c : Blk), (((Mz ++ X).set (m.length + 6) b).set (m.length + 5) c)[Mz.length + 1]? = X[1]? := fun X b c => by rw [List.getElem?_set_ne (by omega), List.getElem?_set_ne (by omega), List.getElem?_append_right (by omega), Nat.add_sub_cancel_left]
         try dsimp only at puM9 reS9
         try simp only [push_cast, simprocAttr] at puM9 reS9
         refine AW.sr 3 fun K hK => ?_
         have pk_27 : _ ∧ _ ∧ _ ∧ _ ∧ _ ∧ _ ∧ _ ∧ _ ∧ _ := ⟨pk_21, lkS9, lkM9, hTs9, puM9, reS9, hk9s, hk9t, hk9u⟩
         simp only [push_cast, simprocAttr, ↓alloc52, Int.le_refl, Nat.le_refl, rS, kB, Int.natCast_zero, pk_27]
         apply hK;clear hK K
         refine AW.cond_f rfl ?_
         refine AW.skip ?_
         refine InB_n ?_
         apply hK;clear hK K
         refine AW.rg ?_
         simp only [push_cast, simprocAttr, ↓alloc52, Int.le_refl, Nat.le_refl, rS, kB, Int.natCast_zero, pk_27]
         refine Thn_n ?_
         try simp only [keepL, setAll, push_cast, simprocAttr, ↓alloc52, Int.le_refl, Nat.le_refl, rS, kB, Int.natCast_zero, pk_27]
         exact ⟨_, hKz, hmz, Weak.same (by simp only [KS, simprocAttr, hwz, Int.natCast_add, Int.cast_ofNat_Int, Int.natCast_one]) (by first | rfl | (simp only [List.append_assoc, List.cons_append, List.nil_append, kB]; done) | simp only [kB])⟩
        ·have hTs9 : hT ky9 Sz = false := by unfold hT; rw [hsz]; rfl
         have hKz := hX.no hz hky9 s2
         try dsimp only at hKz
         simp only [kB] at hKz
         simp only [push_cast, simprocAttr] at lkS9 lkM9
         have hlb : l.length ≤ 21 * i := by
           have h1 := hbdB ky9
           rw [← hB9, hmT9] at h1; exact h1
         have hlr : ∀ X : AMem, (Mz ++ X)[R]? = some ⟨.grow, 9, v, 1, l.map CV.str⟩ := fun X => lk_old (hWz.rows.row ky9 R v l (mV_some hmv)) X
         have hlm : (l.map CV.str).length = l.length := List.length_map _
         refine AW.rg ?_
         have pk_28 : _ ∧ _ ∧ _ ∧ _ ∧ _ ∧ _ := ⟨pk_21, lkS9, lkM9, hTs9, hlr, hlm⟩
         simp only [push_cast, simprocAttr, ↓alloc52, Int.le_refl, Nat.le_refl, rS, kB, Int.natCast_zero, pk_28]
         refine CThen.by (hG) ?_
         simp only [push_cast, simprocAttr, ↓alloc52, Int.le_refl, Nat.le_refl, rS, kB, Int.natCast_zero, pk_28]
         apply hK;clear hK K
         refine AW.sr 2 fun K hK => ?_
         simp only [push_cast, simprocAttr, ↓alloc52, Int.le_refl, Nat.le_refl, rS, kB, Int.natCast_zero, pk_28]
         apply hK;clear hK K
         refine AW.seq_k fun K hK => ?_
         refine AW.sr 1 fun K hK => ?_
         simp only [push_cast, simprocAttr, ↓alloc52, Int.le_refl, Nat.le_refl, rS, kB, Int.natCast_zero, pk_28]
         apply hK;clear hK K
         refine AW.block ?_
         refine AW.loopK [3, 5, 7, 8, 9, 26, 27, 28, 30, 56, 57, 58, 204, 230, 231] (fun y => y.1 ≤ l.length) (fun y => [(31, .one (.bool y.2)), (232, .one (.int .i64 (y.1 : Int)))]) (fun y => []) (fun y => l.length - y.1) ((0, false) : Nat × Bool) (Nat.zero_le _) ?_ ?_ fun y hi50 => ?_
         · first | rfl | (simp only [KS, simprocAttr, Int.natCast_zero] <;> repeat' (first | rfl | apply And.intro))
         · first | rfl | (simp only [setAll, push_cast, simprocAttr, ↓alloc52, Int.le_refl, Nat.le_refl, rS, kB, Int.natCast_zero, pk_28, Int.natCast_zero] <;> rfl)
         obtain ⟨j, bb⟩ := y
         have hy := hi50
         dsimp only at hy ⊢
         try simp only [keepL, setAll, push_cast, simprocAttr, ↓alloc52, Int.le_refl, Nat.le_refl, rS, kB, Int.natCast_zero, pk_28]
         refine AW.sr 1 fun K hK => ?_
         simp only [push_cast, simprocAttr, ↓alloc52, Int.le_refl, Nat.le_refl, rS, kB, Int.natCast_zero, pk_28]
         apply hK;clear hK K
         refine AW.seq_k fun K hK => ?_
         refine AW.cond rfl (fun h233 => ?_) (fun h233 => ?_)
         ·have hj : j < l.length := by have := of_decide_eq_true h233; omega
          have hwj : IntKind.i64.wrap ((j : Int) + 1) = (j : Int) + 1 := wi (by omega)
          obtain ⟨st, hst⟩ : ∃ s, l[j]? = some s := ⟨_, List.getElem?_eq_getElem hj⟩
          have hsm : (l.map CV.str)[j]? = some (.str st) := by rw [List.getElem?_map, hst]; rfl
          have j0 : (0 : Int) ≤ (j : Int) := by omega
          have j1 : (j : Int) < (l.length : Int) := by omega
          refine AW.skip ?_
          apply hK;clear hK K
          refine AW.seq_k fun K hK => ?_
          refine AW.block ?_
          refine AW.sr 1 fun K hK => ?_
          have pk_29 : _ ∧ _ ∧ _ ∧ _ ∧ _ := ⟨pk_28, hsm, j0, j1, hj⟩
          simp only [push_cast, simprocAttr, ↓alloc52, Int.le_refl, Nat.le_refl, rS, kB, Int.natCast_zero, toL_iff, pk_29]
          apply hK;clear hK K
          rcases bb with _ | _
          ·have hbb := True.intro
           refine AW.rg ?_
           simp only [push_cast, simprocAttr, ↓alloc52, Int.le_refl, Nat.le_refl, rS, kB, Int.natCast_zero, toL_iff, pk_29]
           refine InB_n ?_
           apply hK;clear hK K
           refine AW.rg ?_
           simp only [push_cast, simprocAttr, ↓alloc52, Int.le_refl, Nat.le_refl, rS, kB, Int.natCast_zero, toL_iff, pk_29]
           refine Thn_n ?_
           refine ⟨(j + 1, decide (st = strB [])), hj, (by show l.length - (j + 1) < l.length - j; omega), ?_⟩
           try simp only [keepL, setAll, push_cast, simprocAttr, ↓alloc52, Int.le_refl, Nat.le_refl, rS, kB, Int.natCast_zero, toL_iff, pk_29, hwj]
           exact Weak.same (by simp only [KS, simprocAttr, hwj]) (by first | rfl | simp only [KS, simprocAttr, hwj])
          ·have hbb := True.intro
           refine AW.rg ?_
           simp only [push_cast, simprocAttr, ↓alloc52, Int.le_refl, Nat.le_refl, rS, kB, Int.natCast_zero, toL_iff, pk_29]
           refine InB_n ?_
           apply hK;clear hK K
           refine AW.rg ?_
           simp only [push_cast, simprocAttr, ↓alloc52, Int.le_refl, Nat.le_refl, rS, kB, Int.natCast_zero, toL_iff, pk_29]
           refine Thn_n ?_
           refine ⟨(j + 1, true), hj, (by show l.length - (j + 1) < l.length - j; omega), ?_⟩
           try simp only [keepL, setAll, push_cast, simprocAttr, ↓alloc52, Int.le_refl, Nat.le_refl, rS, kB, Int.natCast_zero, toL_iff, pk_29, hwj]
           exact Weak.same (by simp only [KS, simprocAttr, hwj]) (by first | rfl | simp only [KS, simprocAttr, hwj])
         ·refine AW.exit ?_
          refine Thn_e ?_
          clear hK K
          refine Thn_e ?_
          refine InB_here ?_
          apply hK;clear hK K
          refine AW.seq_k fun K hK => ?_
          refine AW.block ?_
          refine AW.seq_k fun K hK => ?_
          iterate 2
           refine AW.sr 1 fun K hK => ?_
           simp only [push_cast, simprocAttr, ↓alloc52, Int.le_refl, Nat.le_refl, rS, kB, Int.natCast_zero, pk_28]
           apply hK;clear hK K
           refine AW.cond_f rfl ?_
          refine AW.rg ?_
          simp only [push_cast, simprocAttr, ↓alloc52, Int.le_refl, Nat.le_refl, rS, kB, Int.natCast_zero, pk_28]
          apply hK;clear hK K
          refine AW.cond_f rfl ?_
          refine AW.skip ?_
          refine InB_n ?_
          apply hK;clear hK K
          have puM9 := fun X : AMem => putM (lk_old hWz.hM X) hWz.gB hk932
          have reS9 := fun (X : AMem) (b : Blk) => remS (r := m.length + 5) (M := (Mz ++ X).set (m.length + 6) b) (by rw [List.getElem?_set_ne (by omega)]; exact lk_old hWz.hS X) hWz.gS hk932
          have hk9s : ∀ (X : AMem) (b : Blk), ((Mz ++ X).set (m.length + 6) b)[Mz.length]? = X[0]? := fun X b => by rw [List.getElem?_set_ne (by omega), List.getElem?_append_right (Nat.le_refl _), Nat.sub_self]
          have hk9t : ∀ (X : AMem) (b c : Blk), (((Mz ++ X).set (m.length + 6) b).set (m.length + 5) c)[Mz.length]? = X[0]? := fun X b c => by rw [List.getElem?_set_ne (by omega)]; exact hk9s X b
          have hk9u : ∀ (X : AMem) (b c : Blk), (((Mz ++ X).set (m.length + 6) b).set (m.length + 5) c)[Mz.length + 1]? = X[1]? := fun X b c => by rw [List.getElem?_set_ne (by omega), List.getElem?_set_ne (by omega), List.getElem?_append_right (by omega), Nat.add_sub_cancel_left]
          try dsimp only at puM9 reS9
          try simp only [push_cast, simprocAttr] at puM9 reS9
          refine AW.sr 3 fun K hK => ?_
          have pk_30 : _ ∧ _ ∧ _ ∧ _ ∧ _ ∧ _ := ⟨pk_28, puM9, reS9, hk9s, hk9t, hk9u⟩
          simp only [push_cast, simprocAttr, ↓alloc52, Int.le_refl, Nat.le_refl, rS, kB, Int.natCast_zero, pk_30]
          apply hK;clear hK K
          refine AW.cond_f rfl ?_
          refine AW.skip ?_
          refine InB_n ?_
          apply hK;clear hK K
          refine AW.rg ?_
          simp only [push_cast, simprocAttr, ↓alloc52, Int.le_refl, Nat.le_refl, rS, kB, Int.natCast_zero, pk_30]
          refine Thn_n ?_
          try simp only [keepL, setAll, push_cast, simprocAttr, ↓alloc52, Int.le_refl, Nat.le_refl, rS, kB, Int.natCast_zero, pk_30]
          exact ⟨_, hKz, hmz, Weak.same (by simp only [KS, simprocAttr, hwz, Int.natCast_add, Int.cast_ofNat_Int, Int.natCast_one]) (by first | rfl | (simp only [List.append_assoc, List.cons_append, List.nil_append, kB]; done) | simp only [kB])⟩
        ·have hTs9 : hT ky9 Sz = false := by unfold hT; rw [hsz]; rfl
         have hbs : (u8l row).take p.length = u8l p := by rw [u8l_take, s1]
         have hrl : (u8l row).length = row.length := u8l_len row
         have hba := bytesA_u8 p
         have hKz := hX.ok hz hky9 (row := row) (p := p) hg1 s5
         have puS9 := fun (X : AMem) (b : Blk) => putS (r := m.length + 5) (M := ((Mz ++ X).set (m.length + 6) b).set (m.length + 5) (mapS cSz (delG ky9 Sz))) (by rw [List.getElem?_set_self (by rw [List.length_set, List.length_append]; omega)]) (hWz.gS.del ky9) hk932 (strB p)
         try dsimp only at puS9
         simp only [push_cast, simprocAttr] at puS9
         try dsimp only at hKz
         simp only [kB] at hKz
         simp only [push_cast, simprocAttr] at lkS9 lkM9
         have hlb : l.length ≤ 21 * i := by
           have h1 := hbdB ky9
           rw [← hB9, hmT9] at h1; exact h1
         have hlr : ∀ X : AMem, (Mz ++ X)[R]? = some ⟨.grow, 9, v, 1, l.map CV.str⟩ := fun X => lk_old (hWz.rows.row ky9 R v l (mV_some hmv)) X
         have hlm : (l.map CV.str).length = l.length := List.length_map _
         rw [hsz] at s6
         have hb0 : false = true ∨ strB p ∈ l := by
           rcases s6 with h6 | h6
           · cases h6
           · rw [hmT9] at h6; exact .inr h6
         refine AW.rg ?_
         have pk_31 : _ ∧ _ ∧ _ ∧ _ ∧ _ ∧ _ ∧ _ ∧ _ ∧ _ ∧ _ ∧ _ := ⟨pk_21, lkS9, lkM9, hTs9, hlr, hlm, hbs, hrl, hba, s2, puS9⟩
         simp only [push_cast, simprocAttr, ↓alloc52, Int.le_refl, Nat.le_refl, rS, kB, Int.natCast_zero, toL_iff, pk_31]
         refine CThen.by (hG) ?_
         simp only [push_cast, simprocAttr, ↓alloc52, Int.le_refl, Nat.le_refl, rS, kB, Int.natCast_zero, toL_iff, pk_31]
         apply hK;clear hK K
         refine AW.sr 2 fun K hK => ?_
         simp only [push_cast, simprocAttr, ↓alloc52, Int.le_refl, Nat.le_refl, rS, kB, Int.natCast_zero, toL_iff, pk_31]
         apply hK;clear hK K
         refine AW.seq_k fun K hK => ?_
         refine AW.sr 1 fun K hK => ?_
         simp only [push_cast, simprocAttr, ↓alloc52, Int.le_refl, Nat.le_refl, rS, kB, Int.natCast_zero, toL_iff, pk_31]
         apply hK;clear hK K
         refine AW.block ?_
         refine AW.loopK [3, 5, 7, 8, 9, 26, 27, 28, 30, 56, 57, 58, 204, 230, 231] (fun y => y.1 ≤ l.length ∧ (y.2 = true ∨ strB p ∈ l.drop y.1)) (fun y => [(31, .one (.bool y.2)), (232, .one (.int .i64 (y.1 : Int)))]) (fun y => []) (fun y => l.length - y.1) ((0, false) : Nat × Bool) ⟨Nat.zero_le _, hb0⟩ ?_ ?_ fun y hi56 => ?_
         · first | rfl | (simp only [KS, simprocAttr, Int.natCast_zero] <;> repeat' (first | rfl | apply And.intro))
         · first | rfl | (simp only [setAll, push_cast, simprocAttr, ↓alloc52, Int.le_refl, Nat.le_refl, rS, kB, Int.natCast_zero, toL_iff, pk_31, Int.natCast_zero] <;> rfl)
         obtain ⟨j, bb⟩ := y
         have hy := hi56
         dsimp only at hy ⊢
         try simp only [keepL, setAll, push_cast, simprocAttr, ↓alloc52, Int.le_refl, Nat.le_refl, rS, kB, Int.natCast_zero, toL_iff, pk_31]
         refine AW.sr 1 fun K hK => ?_
         simp only [push_cast, simprocAttr, ↓alloc52, Int.le_refl, Nat.le_refl, rS, kB, Int.natCast_zero, toL_iff, pk_31]
         apply hK;clear hK K
         refine AW.seq_k fun K hK => ?_
         refine AW.cond rfl (fun h233 => ?_) (fun h233 => ?_)
         ·have hj : j < l.length := by have := of_decide_eq_true h233; omega
          have hwj : IntKind.i64.wrap ((j : Int) + 1) = (j : Int) + 1 := wi (by omega)
          obtain ⟨st, hst⟩ : ∃ s, l[j]? = some s := ⟨_, List.getElem?_eq_getElem hj⟩
          have hsm : (l.map CV.str)[j]? = some (.str st) := by rw [List.getElem?_map, hst]; rfl
          have j0 : (0 : Int) ≤ (j : Int) := by omega
          have j1 : (j : Int) < (l.length : Int) := by omega
          refine AW.skip ?_
          apply hK;clear hK K
          refine AW.seq_k fun K hK => ?_
          refine AW.block ?_
          refine AW.sr 1 fun K hK => ?_
          have pk_32 : _ ∧ _ ∧ _ ∧ _ ∧ _ := ⟨pk_31, hsm, j0, j1, hj⟩
          simp only [push_cast, simprocAttr, ↓alloc52, Int.le_refl, Nat.le_refl, rS, kB, Int.natCast_zero, toL_iff, toL_iff, pk_32]
          apply hK;clear hK K
          rcases bb with _ | _
          ·have hbb := True.intro
           refine AW.rg ?_
           simp only [push_cast, simprocAttr, ↓alloc52, Int.le_refl, Nat.le_refl, rS, kB, Int.natCast_zero, toL_iff, toL_iff, pk_32]
           refine InB_n ?_
           apply hK;clear hK K
           refine AW.rg ?_
           simp only [push_cast, simprocAttr, ↓alloc52, Int.le_refl, Nat.le_refl, rS, kB, Int.natCast_zero, toL_iff, toL_iff, pk_32]
           refine Thn_n ?_
           refine ⟨(j + 1, decide (st = strB p)), (by
             refine ⟨hj, ?_⟩
             rcases hy.2 with h | h
             · cases h
             · rw [List.drop_eq_getElem_cons hj] at h
               rcases List.mem_cons.1 h with h | h
               · left; rw [List.getElem?_eq_getElem hj] at hst; injection hst with hst; rw [← hst, ← h]; exact decide_eq_true rfl
               · exact .inr h), (by show l.length - (j + 1) < l.length - j; omega), ?_⟩
           try simp only [keepL, setAll, push_cast, simprocAttr, ↓alloc52, Int.le_refl, Nat.le_refl, rS, kB, Int.natCast_zero, toL_iff, toL_iff, pk_32, hwj]
           exact Weak.same (by simp only [KS, simprocAttr, hwj]) (by first | rfl | simp only [KS, simprocAttr, hwj])
          ·have hbb := True.intro
           refine AW.rg ?_
           simp only [push_cast, simprocAttr, ↓alloc52, Int.le_refl, Nat.le_refl, rS, kB, Int.natCast_zero, toL_iff, toL_iff, pk_32]
           refine InB_n ?_
           apply hK;clear hK K
           refine AW.rg ?_
           simp only [push_cast, simprocAttr, ↓alloc52, Int.le_refl, Nat.le_refl, rS, kB, Int.natCast_zero, toL_iff, toL_iff, pk_32]
           refine Thn_n ?_
           refine ⟨(j + 1, true), ⟨hj, .inl rfl⟩, (by show l.length - (j + 1) < l.length - j; omega), ?_⟩
           try simp only [keepL, setAll, push_cast, simprocAttr, ↓alloc52, Int.le_refl, Nat.le_refl, rS, kB, Int.natCast_zero, toL_iff, toL_iff, pk_32, hwj]
           exact Weak.same (by simp only [KS, simprocAttr, hwj]) (by first | rfl | simp only [KS, simprocAttr, hwj])
         ·have hjl : l.length ≤ j := by have := of_decide_eq_false h233; omega
          obtain rfl : bb = true := by
            rcases hy.2 with h | h
            · exact h
            · rw [List.drop_eq_nil_of_le hjl] at h; cases h
          refine AW.exit ?_
          refine Thn_e ?_
          clear hK K
          refine Thn_e ?_
          refine InB_here ?_
          apply hK;clear hK K
          refine AW.seq_k fun K hK => ?_
          refine AW.block ?_
          refine AW.seq_k fun K hK => ?_
          iterate 2
           refine AW.sr 1 fun K hK => ?_
           simp only [push_cast, simprocAttr, ↓alloc52, Int.le_refl, Nat.le_refl, rS, kB, Int.natCast_zero, toL_iff, pk_31]
           apply hK;clear hK K
           refine AW.cond_f rfl ?_
          refine AW.rg ?_
          simp only [push_cast, simprocAttr, ↓alloc52, Int.le_refl, Nat.le_refl, rS, kB, Int.natCast_zero, toL_iff, pk_31]
          apply hK;clear hK K
          refine AW.cond_f rfl ?_
          refine AW.skip ?_
          refine InB_n ?_
          apply hK;clear hK K
          have puM9 := fun X : AMem => putM (lk_old hWz.hM X) hWz.gB hk932
          have reS9 := fun (X : AMem) (b : Blk) => remS (r := m.length + 5) (M := (Mz ++ X).set (m.length + 6) b) (by rw [List.getElem?_set_ne (by omega)]; exact lk_old hWz.hS X) hWz.gS hk932
          have hk9s : ∀ (X : AMem) (b : Blk), ((Mz ++ X).set (m.length + 6) b)[Mz.length]? = X[0]? := fun X b => by rw [List.getElem?_set_ne (by omega), List.getElem?_append_right (Nat.le_refl _), Nat.sub_self]
          have hk9t : ∀ (X : AMem) (b c : Blk), (((Mz ++ X).set (m.length + 6) b).set (m.length + 5) c)[Mz.length]? = X[0]? := fun X b c => by rw [List.getElem?_set_ne (by omega)]; exact hk9s X b
          have hk9u : ∀ (X : AMem) (b c : Blk), (((Mz ++ X).set (m.length + 6) b).set (m.length + 5) c)[Mz.length + 1]? = X[1]? := fun X b c => by rw [List.getElem?_set_ne (by omega), List.getElem?_set_ne (by omega), List.getElem?_append_right (by omega), Nat.add_sub_cancel_left]
          try dsimp only at puM9 reS9
          try simp only [push_cast, simprocAttr] at puM9 reS9
          refine AW.sr 3 fun K hK => ?_
          have pk_33 : _ ∧ _ ∧ _ ∧ _ ∧ _ ∧ _ := ⟨pk_31, puM9, reS9, hk9s, hk9t, hk9u⟩
          simp only [push_cast, simprocAttr, ↓alloc52, Int.le_refl, Nat.le_refl, rS, kB, Int.natCast_zero, toL_iff, pk_33]
          apply hK;clear hK K
          refine AW.cond_t rfl ?_
          refine AW.rg ?_
          simp only [push_cast, simprocAttr, ↓alloc52, Int.le_refl, Nat.le_refl, rS, kB, Int.natCast_zero, toL_iff, pk_33]
          refine InB_n ?_
          apply hK;clear hK K
          refine AW.rg ?_
          simp only [push_cast, simprocAttr, ↓alloc52, Int.le_refl, Nat.le_refl, rS, kB, Int.natCast_zero, toL_iff, pk_33]
          refine Thn_n ?_
          try simp only [keepL, setAll, push_cast, simprocAttr, ↓alloc52, Int.le_refl, Nat.le_refl, rS, kB, Int.natCast_zero, toL_iff, pk_33]
          exact ⟨_, hKz, hmz, Weak.same (by simp only [KS, simprocAttr, hwz, Int.natCast_add, Int.cast_ofNat_Int, Int.natCast_one]) (by first | rfl | (simp only [List.append_assoc, List.cons_append, List.nil_append, kB]; done) | simp only [kB])⟩
       ·have hz : z = 9 := by have := of_decide_eq_false h205; omega
        subst hz
        have hfin := hki.fin hg1 (fun _ => rfl) hg2 hV4 hg4 hD4d hD4e rfl hkyB
        have hNz : WInv m cnt ⟨(i + 1), (M2.length + 1), M2.length, Mz, V4, D4, cSz, cBz, cA, Sz, Bz, A⟩ := ⟨hic, hi6, hWz.tick (i + 1), .inl hfin, fun x hx => absurd (hfin.mb x) hx, fun x => by rw [hfin.mb x]; exact Nat.zero_le _⟩
        refine AW.exit ?_
        refine Thn_e ?_
        clear hK K
        refine Thn_e ?_
        refine InB_here ?_
        refine InB_n ?_
        refine InB_n ?_
        apply hK;clear hK K
        refine AW.rg ?_
        simp only [push_cast, simprocAttr, ↓alloc52, Int.le_refl, Nat.le_refl, rS, kB, pk_2, h60, hWo, hWk, Int.natCast_zero]
        refine Thn_n ?_
        try simp only [keepL, setAll, push_cast, simprocAttr, ↓alloc52, Int.le_refl, Nat.le_refl, rS, kB, pk_2, h60, hWo, hWk, Int.natCast_zero]
        first
        | exact ⟨_, hN _ hW3, hmu i rfl, Weak.same (by simp only [KS, simprocAttr, hwi, Int.natCast_add, Int.cast_ofNat_Int, Int.natCast_one]) (by first | rfl | exact hNm)⟩
        | exact ⟨_, hNz, hmu i rfl, Weak.same (by simp only [KS, simprocAttr, hwi, Int.natCast_add, Int.cast_ofNat_Int, Int.natCast_one]) (by first | rfl | (simp only [List.append_assoc, List.cons_append, List.nil_append]; rfl) | simp only [List.append_assoc, List.cons_append, List.nil_append])⟩
      ·have hNz : WInv m cnt ⟨(i + 1), rv, rl, M1, V, D, cS, cB, cA, Sx, B, A⟩ := ⟨hic, hi6, hW.mem.tick (i + 1), hown, hkyB, hbd1⟩
       refine AW.skip ?_
       refine InB_n ?_
       refine InB_n ?_
       apply hK;clear hK K
       refine AW.rg ?_
       simp only [push_cast, simprocAttr, ↓alloc52, Int.le_refl, Nat.le_refl, rS, kB, pk_2, h60, hWo, hWk]
       refine Thn_n ?_
       try simp only [keepL, setAll, push_cast, simprocAttr, ↓alloc52, Int.le_refl, Nat.le_refl, rS, kB, pk_2, h60, hWo, hWk]
       first
       | exact ⟨_, hN _ hW3, hmu i rfl, Weak.same (by simp only [KS, simprocAttr, hwi, Int.natCast_add, Int.cast_ofNat_Int, Int.natCast_one]) (by first | rfl | exact hNm)⟩
       | exact ⟨_, hNz, hmu i rfl, Weak.same (by simp only [KS, simprocAttr, hwi, Int.natCast_add, Int.cast_ofNat_Int, Int.natCast_one]) (by first | rfl | (simp only [List.append_assoc, List.cons_append, List.nil_append]; rfl) | simp only [List.append_assoc, List.cons_append, List.nil_append])⟩
 ·have hend := True.intro
  refine AW.exit ?_
  refine Thn_e ?_
  clear hK K
  refine Thn_e ?_
  refine InB_here ?_
  apply hK;clear hK K
  refine AW.sr 1 fun K hK => ?_
  simp only [push_cast, simprocAttr, ↓alloc52, Int.le_refl, Nat.le_refl, rS, kB, pk_1, hrM, lk_old hrM]
  apply hK;clear hK K
  refine AW.ret ?_
  refine hQ _ _ _ ?_
  obtain ⟨X2, hX2⟩ := ext_of hpre hpl
  rw [hX2]
  try rw [List.append_assoc]
  refine RetP.drop (by first | exact Or.inr rfl | exact Or.inl rfl) ?_ ?_ hwf
  · simp only [resA, resOne, resTv, AV.tv, push_cast, simprocAttr]
  · rfl
end Go.Proofs.Ytdkfbbjpblfclaa
