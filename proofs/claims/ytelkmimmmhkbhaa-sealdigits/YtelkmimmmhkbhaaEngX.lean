/-
  ENGINE, PART X: functions that the model itself answers: internal/abi.NoEscape, internal/bytealg.IndexByteString.
-/
import Derived.Test.YtelkmimmmhkbhaaEngW
import Derived.Laws.Externs
set_option linter.unusedVariables false
namespace Go.Eng
open Go
variable {P : Program} {m m' : AMem}
theorem Ctr.extern {f : FuncId} {fn : Func} {e : Array Value → Sem Value} {args : List AV} {ret : AV} (hf : P.funcs[f]? = some fn) (hname : (fn.name == "runtime.NumGoroutine") = false)
    (hb : fn.body.isNone = true) (hn : Extern.findNext fn = none) (he : Extern.find fn = some e)
    (h : ∀ ρ w vs, RepM ρ m w → All2 (VR ρ) args vs → ∃ v w' ρ', (e vs.toArray).run P w = .ok v w' ∧ VR ρ' ret v ∧ RepM ρ' m' w' ∧ Step m ρ w m' ρ' w') : Ctr P f args m ret m' := fun ρ w vs hm ha => by
  obtain ⟨v, w', ρ', h1, h2, h3, h4⟩ := h ρ w vs hm ha
  refine .inr ⟨v, w', ?_, v, ρ', rfl, h2, h3, h4⟩
  rw [run_callFunc_extern hf hname hb hn he, h1]; rfl
theorem noEscape_x {f : FuncId} {fn : Func} (hf : P.funcs[f]? = some fn) (hname : (fn.name == "runtime.NumGoroutine") = false) (hb : fn.body.isNone = true) (hn : Extern.findNext fn = none) (he : Extern.find fn = some Extern.AbiNoEscape.same) (x : AV) (m : AMem) : Ctr P f [x] m x m :=
  Ctr.extern hf hname hb hn he fun ρ w vs hm ha => by
    match vs, ha with
    | [v], ha => exact ⟨v, w, ρ, Lib.run_noEscape w v, ha.1, hm, Step.refl _ _ _⟩
theorem indexByteString_x {f : FuncId} {fn : Func} (hf : P.funcs[f]? = some fn) (hname : (fn.name == "runtime.NumGoroutine") = false) (hb : fn.body.isNone = true) (hn : Extern.findNext fn = none) (he : Extern.find fn = some Extern.BytealgIndexByte.indexByte) (s : ByteArray) (c : Int) (m : AMem) :
    Ctr P f [.one (.str s), .one (.int .u8 c)] m (.one (.int .i64 (firstIdx s c.toNat.toUInt8))) m :=
  Ctr.extern hf hname hb hn he fun ρ w vs hm ha => by
    match vs, ha with
    | [u, v], ha =>
      have e1 : u = _ := ha.1
      have e2 : v = _ := ha.2.1
      subst e1; subst e2
      exact ⟨_, w, ρ, run_indexByte_string s c w, rfl, hm, Step.refl _ _ _⟩
end Go.Eng
