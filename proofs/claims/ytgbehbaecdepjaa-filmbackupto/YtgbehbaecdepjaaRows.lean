/-
  No cell of these rows narrows 'for every input' (looked for: loops, veiled, ifaces, maps, wideKeys, modest, calm, conditions, laid).
  DERIVED. THE GIVEN ROWS OF THIS SEAT. 4 by the template 'for every input the law returns true; each argument reads behind the call as it read before'; 0 by the template 'total and deterministic' (their statements: YtgbehbaecdepjaaTotals.lean).
  GIVEN WITH THE SEED: the statements are not yours to turn. If you find one false, say at which input.
  Laid BY PROGRAM, IN A SANDBOX (cutbox-rows.mjs): the forced cells as the released guide's own fill.sh prints them over the translation 5c5ccca5ed328cd9… (all of the seat's roots in one cut). By AI agents, Wed Nov 11 2026. No macro, syntax, notation, axiom, sorry.
-/
import Derived.Test.YtgbehbaecdepjaaChecked
import GoSem.Claim
import GoSem.ClaimJoined
import GoSem.ClaimMapViews
import Derived.JoinedTies
import Derived.KernelRfl
namespace Go.Proofs.Ytgbehbaecdepjaa
/- THE CELL 'sum', in the pinned program and in every row, IS THE sha256 OF THE DUMP (.gsa) THAT YtgbehbaecdepjaaProg.lean LOADS. Nothing in Lean hashes anything: it is a label: what it is worth is what the hold of that sum in a sandbox is worth. -/
noncomputable def Try.pinned : Pinned := { name := "ytgbehbaecdepjaa", sum := "5c5ccca5ed328cd9454d247481ff61d4504f739ae160da91a93d2315be4d0491", checked := Try.checked }
namespace Rows
def none {H : Type} : Left H := { results := [], args := [] }

/-- 'zoetropelaw18.FilmRights': WHATEVER THE INPUT: true; the input reads as it did. -/
def filmRightsSpec : ChangeSpec := { name := "filmRights", fn := fun _ => fun
  | [d] => { results := [.lit (.bool true)], args := [d] }
  | _ => none }
def filmRightsRow : OpenClaim := { program := "ytgbehbaecdepjaa", sum := "5c5ccca5ed328cd9454d247481ff61d4504f739ae160da91a93d2315be4d0491", func := "zoetrope/zoetropelaw18.FilmRights", spec := "filmRights", apart := false }
def FilmRightsSaid : Prop := filmRightsRow.holds Try.pinned (OpenSpec.ofChange filmRightsSpec)

/-- ITS FALSE NEIGHBOUR: 'it returns false'. Refute it at one input. -/
def filmRightsWrong : ChangeSpec := { name := "filmRights", fn := fun _ => fun
  | [d] => { results := [.lit (.bool false)], args := [d] }
  | _ => none }
def FilmRightsWrongFalsely : Prop := filmRightsRow.holds Try.pinned (OpenSpec.ofChange filmRightsWrong)

/-- 'zoetropelaw18.FilmWrites': WHATEVER THE INPUT: true; the input reads as it did. -/
def filmWritesSpec : ChangeSpec := { name := "filmWrites", fn := fun _ => fun
  | [d] => { results := [.lit (.bool true)], args := [d] }
  | _ => none }
def filmWritesRow : OpenClaim := { program := "ytgbehbaecdepjaa", sum := "5c5ccca5ed328cd9454d247481ff61d4504f739ae160da91a93d2315be4d0491", func := "zoetrope/zoetropelaw18.FilmWrites", spec := "filmWrites", apart := false }
def FilmWritesSaid : Prop := filmWritesRow.holds Try.pinned (OpenSpec.ofChange filmWritesSpec)

/-- ITS FALSE NEIGHBOUR: 'it returns false'. Refute it at one input. -/
def filmWritesWrong : ChangeSpec := { name := "filmWrites", fn := fun _ => fun
  | [d] => { results := [.lit (.bool false)], args := [d] }
  | _ => none }
def FilmWritesWrongFalsely : Prop := filmWritesRow.holds Try.pinned (OpenSpec.ofChange filmWritesWrong)

/-- 'zoetropelaw18.FilmReads': WHATEVER THE INPUT: true; the input reads as it did. -/
def filmReadsSpec : ChangeSpec := { name := "filmReads", fn := fun _ => fun
  | [d] => { results := [.lit (.bool true)], args := [d] }
  | _ => none }
def filmReadsRow : OpenClaim := { program := "ytgbehbaecdepjaa", sum := "5c5ccca5ed328cd9454d247481ff61d4504f739ae160da91a93d2315be4d0491", func := "zoetrope/zoetropelaw18.FilmReads", spec := "filmReads", apart := false }
def FilmReadsSaid : Prop := filmReadsRow.holds Try.pinned (OpenSpec.ofChange filmReadsSpec)

/-- ITS FALSE NEIGHBOUR: 'it returns false'. Refute it at one input. -/
def filmReadsWrong : ChangeSpec := { name := "filmReads", fn := fun _ => fun
  | [d] => { results := [.lit (.bool false)], args := [d] }
  | _ => none }
def FilmReadsWrongFalsely : Prop := filmReadsRow.holds Try.pinned (OpenSpec.ofChange filmReadsWrong)

/-- 'zoetropelaw18.FilmBack': WHATEVER THE INPUT: true; the input reads as it did. -/
def filmBackSpec : ChangeSpec := { name := "filmBack", fn := fun _ => fun
  | [d1, d2] => { results := [.lit (.bool true)], args := [d1, d2] }
  | _ => none }
def filmBackRow : OpenClaim := { program := "ytgbehbaecdepjaa", sum := "5c5ccca5ed328cd9454d247481ff61d4504f739ae160da91a93d2315be4d0491", func := "zoetrope/zoetropelaw18.FilmBack", spec := "filmBack", apart := false }
def FilmBackSaid : Prop := filmBackRow.holds Try.pinned (OpenSpec.ofChange filmBackSpec)

/-- ITS FALSE NEIGHBOUR: 'it returns false'. Refute it at one input. -/
def filmBackWrong : ChangeSpec := { name := "filmBack", fn := fun _ => fun
  | [d1, d2] => { results := [.lit (.bool false)], args := [d1, d2] }
  | _ => none }
def FilmBackWrongFalsely : Prop := filmBackRow.holds Try.pinned (OpenSpec.ofChange filmBackWrong)

/- THE SECOND FORM. 'bulk': how many values and letters a reading holds, each counted each time it is reached (what is shared counts as often as it is met; a slice's spare places count too). A statement '..UptoSaid' is the law's where the arguments, and the package variables that the reading takes, are together of bulk at most 1048576: NARROWER than '..Said'. Prove '..Said' where nothing that the law and all that it calls make is longer than what came in: it says more and counts as full. Else prove '..UptoSaid'. A law counts once. -/
mutual
def uptoBulk {H : Type} : DataW H → Nat
  | .lit (.string bytes) => bytes.length + 1
  | .lit _ => 1
  | .nil => 1
  | .ptr d => uptoBulk d + 1
  | .slice elems spare => uptoBulkAll elems + uptoBulkAll spare + 1
  | .agg parts => uptoBulkAll parts + 1
  | .iface _ d => uptoBulk d + 1
  | .map entries => uptoBulkEntries entries + 1
  | .held _ => 1
def uptoBulkAll {H : Type} : List (DataW H) → Nat
  | [] => 0
  | d :: r => uptoBulk d + uptoBulkAll r
def uptoBulkEntries {H : Type} : List (Lit × DataW H) → Nat
  | [] => 0
  | x :: r => uptoBulkEntry x + uptoBulkEntries r
def uptoBulkEntry {H : Type} : Lit × DataW H → Nat
  | (.string bytes, d) => bytes.length + uptoBulk d + 1
  | (_, d) => uptoBulk d + 1
 end
def uptoSmall : (H : Type) → List (DataW H) → Bool := fun _ ds => decide (uptoBulkAll ds ≤ 1048576)
def OpenSpec.upto (s : _root_.Go.ChangeSpec) : _root_.Go.OpenSpec := { _root_.Go.OpenSpec.ofChange s with cond := some uptoSmall }

/-- 'zoetropelaw18.FilmRights', WHERE WHAT IT READS IS OF BULK AT MOST 1048576: true; the input reads as it did. -/
def filmRightsUptoRow : OpenClaim := { program := "ytgbehbaecdepjaa", sum := "5c5ccca5ed328cd9454d247481ff61d4504f739ae160da91a93d2315be4d0491", func := "zoetrope/zoetropelaw18.FilmRights", spec := "filmRights", apart := false, narrowed := true }
def FilmRightsUptoSaid : Prop := filmRightsUptoRow.holds Try.pinned (OpenSpec.upto filmRightsSpec)

/-- 'zoetropelaw18.FilmWrites', WHERE WHAT IT READS IS OF BULK AT MOST 1048576: true; the input reads as it did. -/
def filmWritesUptoRow : OpenClaim := { program := "ytgbehbaecdepjaa", sum := "5c5ccca5ed328cd9454d247481ff61d4504f739ae160da91a93d2315be4d0491", func := "zoetrope/zoetropelaw18.FilmWrites", spec := "filmWrites", apart := false, narrowed := true }
def FilmWritesUptoSaid : Prop := filmWritesUptoRow.holds Try.pinned (OpenSpec.upto filmWritesSpec)

/-- 'zoetropelaw18.FilmReads', WHERE WHAT IT READS IS OF BULK AT MOST 1048576: true; the input reads as it did. -/
def filmReadsUptoRow : OpenClaim := { program := "ytgbehbaecdepjaa", sum := "5c5ccca5ed328cd9454d247481ff61d4504f739ae160da91a93d2315be4d0491", func := "zoetrope/zoetropelaw18.FilmReads", spec := "filmReads", apart := false, narrowed := true }
def FilmReadsUptoSaid : Prop := filmReadsUptoRow.holds Try.pinned (OpenSpec.upto filmReadsSpec)

/-- 'zoetropelaw18.FilmBack', WHERE WHAT IT READS IS OF BULK AT MOST 1048576: true; the input reads as it did. -/
def filmBackUptoRow : OpenClaim := { program := "ytgbehbaecdepjaa", sum := "5c5ccca5ed328cd9454d247481ff61d4504f739ae160da91a93d2315be4d0491", func := "zoetrope/zoetropelaw18.FilmBack", spec := "filmBack", apart := false, narrowed := true }
def FilmBackUptoSaid : Prop := filmBackUptoRow.holds Try.pinned (OpenSpec.upto filmBackSpec)

end Rows
end Go.Proofs.Ytgbehbaecdepjaa
