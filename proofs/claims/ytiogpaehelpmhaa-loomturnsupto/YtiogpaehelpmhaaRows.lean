/-
  No cell of these rows narrows 'for every input' (looked for: loops, veiled, ifaces, maps, wideKeys, modest, calm, conditions, laid).
  DERIVED. THE GIVEN ROWS OF THIS SEAT. 4 by the template 'for every input the law returns true; each argument reads behind the call as it read before'; 0 by the template 'total and deterministic' (their statements: YtiogpaehelpmhaaTotals.lean).
  GIVEN WITH THE SEED: the statements are not yours to turn. If you find one false, say at which input.
  Laid BY PROGRAM, IN A SANDBOX (cutbox-rows.mjs): the forced cells as the released guide's own fill.sh prints them over the translation caa60d4506817015… (all of the seat's roots in one cut). By AI agents, Wed Nov 11 2026. No macro, syntax, notation, axiom, sorry.
-/
import Derived.Test.YtiogpaehelpmhaaChecked
import GoSem.Claim
import GoSem.ClaimJoined
import GoSem.ClaimMapViews
import Derived.JoinedTies
import Derived.KernelRfl
namespace Go.Proofs.Ytiogpaehelpmhaa
/- THE CELL 'sum', in the pinned program and in every row, IS THE sha256 OF THE DUMP (.gsa) THAT YtiogpaehelpmhaaProg.lean LOADS. Nothing in Lean hashes anything: it is a label: what it is worth is what the hold of that sum in a sandbox is worth. -/
noncomputable def Try.pinned : Pinned := { name := "ytiogpaehelpmhaa", sum := "caa60d45068170153eae05ae18820af63ae22f9ce4ef5d43021914eda9bbe501", checked := Try.checked }
namespace Rows
def none {H : Type} : Left H := { results := [], args := [] }

/-- 'zoetropelaw33.LoomTurns': WHATEVER THE INPUT: true; the input reads as it did. -/
def loomTurnsSpec : ChangeSpec := { name := "loomTurns", fn := fun _ => fun
  | [d1, d2] => { results := [.lit (.bool true)], args := [d1, d2] }
  | _ => none }
def loomTurnsRow : OpenClaim := { program := "ytiogpaehelpmhaa", sum := "caa60d45068170153eae05ae18820af63ae22f9ce4ef5d43021914eda9bbe501", func := "zoetrope/zoetropelaw33.LoomTurns", spec := "loomTurns", unfollowed := true, recurses := true, plainKeys := false, apart := false }
def LoomTurnsSaid : Prop := loomTurnsRow.holds Try.pinned (OpenSpec.ofChange loomTurnsSpec)

/-- ITS FALSE NEIGHBOUR: 'it returns false'. Refute it at one input. -/
def loomTurnsWrong : ChangeSpec := { name := "loomTurns", fn := fun _ => fun
  | [d1, d2] => { results := [.lit (.bool false)], args := [d1, d2] }
  | _ => none }
def LoomTurnsWrongFalsely : Prop := loomTurnsRow.holds Try.pinned (OpenSpec.ofChange loomTurnsWrong)

/-- 'zoetropelaw33.LoomClosed': WHATEVER THE INPUT: true; the input reads as it did. -/
def loomClosedSpec : ChangeSpec := { name := "loomClosed", fn := fun _ => fun
  | [d1, d2, d3] => { results := [.lit (.bool true)], args := [d1, d2, d3] }
  | _ => none }
def loomClosedRow : OpenClaim := { program := "ytiogpaehelpmhaa", sum := "caa60d45068170153eae05ae18820af63ae22f9ce4ef5d43021914eda9bbe501", func := "zoetrope/zoetropelaw33.LoomClosed", spec := "loomClosed", unfollowed := true, recurses := true, plainKeys := false, apart := false }
def LoomClosedSaid : Prop := loomClosedRow.holds Try.pinned (OpenSpec.ofChange loomClosedSpec)

/-- ITS FALSE NEIGHBOUR: 'it returns false'. Refute it at one input. -/
def loomClosedWrong : ChangeSpec := { name := "loomClosed", fn := fun _ => fun
  | [d1, d2, d3] => { results := [.lit (.bool false)], args := [d1, d2, d3] }
  | _ => none }
def LoomClosedWrongFalsely : Prop := loomClosedRow.holds Try.pinned (OpenSpec.ofChange loomClosedWrong)

/-- 'zoetropelaw33.LoomTells': WHATEVER THE INPUT: true; the input reads as it did. -/
def loomTellsSpec : ChangeSpec := { name := "loomTells", fn := fun _ => fun
  | [d1, d2, d3] => { results := [.lit (.bool true)], args := [d1, d2, d3] }
  | _ => none }
def loomTellsRow : OpenClaim := { program := "ytiogpaehelpmhaa", sum := "caa60d45068170153eae05ae18820af63ae22f9ce4ef5d43021914eda9bbe501", func := "zoetrope/zoetropelaw33.LoomTells", spec := "loomTells", unfollowed := true, recurses := true, plainKeys := false, apart := false }
def LoomTellsSaid : Prop := loomTellsRow.holds Try.pinned (OpenSpec.ofChange loomTellsSpec)

/-- ITS FALSE NEIGHBOUR: 'it returns false'. Refute it at one input. -/
def loomTellsWrong : ChangeSpec := { name := "loomTells", fn := fun _ => fun
  | [d1, d2, d3] => { results := [.lit (.bool false)], args := [d1, d2, d3] }
  | _ => none }
def LoomTellsWrongFalsely : Prop := loomTellsRow.holds Try.pinned (OpenSpec.ofChange loomTellsWrong)

/-- 'zoetropelaw33.LoomMakes': WHATEVER THE INPUT: true; the input reads as it did. -/
def loomMakesSpec : ChangeSpec := { name := "loomMakes", fn := fun _ => fun
  | [d1, d2, d3, d4, d5, d6] => { results := [.lit (.bool true)], args := [d1, d2, d3, d4, d5, d6] }
  | _ => none }
def loomMakesRow : OpenClaim := { program := "ytiogpaehelpmhaa", sum := "caa60d45068170153eae05ae18820af63ae22f9ce4ef5d43021914eda9bbe501", func := "zoetrope/zoetropelaw33.LoomMakes", spec := "loomMakes", unfollowed := true, recurses := true, plainKeys := false, apart := false }
def LoomMakesSaid : Prop := loomMakesRow.holds Try.pinned (OpenSpec.ofChange loomMakesSpec)

/-- ITS FALSE NEIGHBOUR: 'it returns false'. Refute it at one input. -/
def loomMakesWrong : ChangeSpec := { name := "loomMakes", fn := fun _ => fun
  | [d1, d2, d3, d4, d5, d6] => { results := [.lit (.bool false)], args := [d1, d2, d3, d4, d5, d6] }
  | _ => none }
def LoomMakesWrongFalsely : Prop := loomMakesRow.holds Try.pinned (OpenSpec.ofChange loomMakesWrong)

/- THE SECOND FORM. 'bulk': how many values and letters a reading holds, each counted each time it is reached (what is shared counts as often as it is met; a slice's spare places count too). A statement '..UptoSaid' is the law's where the arguments, and the package variables that the reading takes, are together of bulk at most 1048576: NARROWER than '..Said'. Prove '..Said' where nothing that the law and all that it calls make is longer than what came in: it says more and counts as full. Else prove '..UptoSaid'. A law counts once. -/
mutual
def uptoBulk {H : Type} : DataW H → Nat
  | .lit (.string bytes) => bytes.length + 1
  | .lit _ => 1
  | .nil => 1
  | .ptr d => uptoBulk d + 1
  | .slice elems spare => uptoBulkAll elems + uptoBulkAll spare + 1
  | .agg parts => uptoBulkAll parts + 1
  | .iface _ d => uptoBulk d + 1
  | .map entries => uptoBulkEntries entries + 1
  | .held _ => 1
def uptoBulkAll {H : Type} : List (DataW H) → Nat
  | [] => 0
  | d :: r => uptoBulk d + uptoBulkAll r
def uptoBulkEntries {H : Type} : List (Lit × DataW H) → Nat
  | [] => 0
  | x :: r => uptoBulkEntry x + uptoBulkEntries r
def uptoBulkEntry {H : Type} : Lit × DataW H → Nat
  | (.string bytes, d) => bytes.length + uptoBulk d + 1
  | (_, d) => uptoBulk d + 1
 end
def uptoSmall : (H : Type) → List (DataW H) → Bool := fun _ ds => decide (uptoBulkAll ds ≤ 1048576)
def OpenSpec.upto (s : _root_.Go.ChangeSpec) : _root_.Go.OpenSpec := { _root_.Go.OpenSpec.ofChange s with cond := some uptoSmall }

/-- 'zoetropelaw33.LoomTurns', WHERE WHAT IT READS IS OF BULK AT MOST 1048576: true; the input reads as it did. -/
def loomTurnsUptoRow : OpenClaim := { program := "ytiogpaehelpmhaa", sum := "caa60d45068170153eae05ae18820af63ae22f9ce4ef5d43021914eda9bbe501", func := "zoetrope/zoetropelaw33.LoomTurns", spec := "loomTurns", unfollowed := true, recurses := true, plainKeys := false, apart := false, narrowed := true }
def LoomTurnsUptoSaid : Prop := loomTurnsUptoRow.holds Try.pinned (OpenSpec.upto loomTurnsSpec)

/-- 'zoetropelaw33.LoomClosed', WHERE WHAT IT READS IS OF BULK AT MOST 1048576: true; the input reads as it did. -/
def loomClosedUptoRow : OpenClaim := { program := "ytiogpaehelpmhaa", sum := "caa60d45068170153eae05ae18820af63ae22f9ce4ef5d43021914eda9bbe501", func := "zoetrope/zoetropelaw33.LoomClosed", spec := "loomClosed", unfollowed := true, recurses := true, plainKeys := false, apart := false, narrowed := true }
def LoomClosedUptoSaid : Prop := loomClosedUptoRow.holds Try.pinned (OpenSpec.upto loomClosedSpec)

/-- 'zoetropelaw33.LoomTells', WHERE WHAT IT READS IS OF BULK AT MOST 1048576: true; the input reads as it did. -/
def loomTellsUptoRow : OpenClaim := { program := "ytiogpaehelpmhaa", sum := "caa60d45068170153eae05ae18820af63ae22f9ce4ef5d43021914eda9bbe501", func := "zoetrope/zoetropelaw33.LoomTells", spec := "loomTells", unfollowed := true, recurses := true, plainKeys := false, apart := false, narrowed := true }
def LoomTellsUptoSaid : Prop := loomTellsUptoRow.holds Try.pinned (OpenSpec.upto loomTellsSpec)

/-- 'zoetropelaw33.LoomMakes', WHERE WHAT IT READS IS OF BULK AT MOST 1048576: true; the input reads as it did. -/
def loomMakesUptoRow : OpenClaim := { program := "ytiogpaehelpmhaa", sum := "caa60d45068170153eae05ae18820af63ae22f9ce4ef5d43021914eda9bbe501", func := "zoetrope/zoetropelaw33.LoomMakes", spec := "loomMakes", unfollowed := true, recurses := true, plainKeys := false, apart := false, narrowed := true }
def LoomMakesUptoSaid : Prop := loomMakesUptoRow.holds Try.pinned (OpenSpec.upto loomMakesSpec)

end Rows
end Go.Proofs.Ytiogpaehelpmhaa
