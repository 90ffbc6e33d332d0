/-
  No cell of these rows narrows 'for every input' (looked for: loops, veiled, ifaces, maps, wideKeys, modest, calm, conditions, laid).
  DERIVED. THE GIVEN ROWS OF THIS SEAT. 3 by the template 'for every input the law returns true; each argument reads behind the call as it read before'; 0 by the template 'total and deterministic' (their statements: YtppolbilohkjmaaTotals.lean).
  GIVEN WITH THE SEED: the statements are not yours to turn. If you find one false, say at which input.
  Laid BY PROGRAM, IN A SANDBOX (cutbox-rows.mjs): the forced cells as the released guide's own fill.sh prints them over the translation 202b1daa23a70813… (all of the seat's roots in one cut). By AI agents, Wed Nov 11 2026. No macro, syntax, notation, axiom, sorry.
-/
import Derived.Test.YtppolbilohkjmaaChecked
import GoSem.Claim
import GoSem.ClaimJoined
import GoSem.ClaimMapViews
import Derived.JoinedTies
import Derived.KernelRfl
namespace Go.Proofs.Ytppolbilohkjmaa
/- THE CELL 'sum', in the pinned program and in every row, IS THE sha256 OF THE DUMP (.gsa) THAT YtppolbilohkjmaaProg.lean LOADS. Nothing in Lean hashes anything: it is a label: what it is worth is what the hold of that sum in a sandbox is worth. -/
noncomputable def Try.pinned : Pinned := { name := "ytppolbilohkjmaa", sum := "202b1daa23a70813f91387c58245d4e2c0dd3d1f597a69bfff6a102e89766af8", checked := Try.checked }
namespace Rows
def none {H : Type} : Left H := { results := [], args := [] }

/-- 'zoetropelaw25.PlanOrders': WHATEVER THE INPUT: true; the input reads as it did. -/
def planOrdersSpec : ChangeSpec := { name := "planOrders", fn := fun _ => fun
  | [d] => { results := [.lit (.bool true)], args := [d] }
  | _ => none }
def planOrdersRow : OpenClaim := { program := "ytppolbilohkjmaa", sum := "202b1daa23a70813f91387c58245d4e2c0dd3d1f597a69bfff6a102e89766af8", func := "zoetrope/zoetropelaw25.PlanOrders", spec := "planOrders", unfollowed := true, recurses := true, apart := false }
def PlanOrdersSaid : Prop := planOrdersRow.holds Try.pinned (OpenSpec.ofChange planOrdersSpec)

/-- ITS FALSE NEIGHBOUR: 'it returns false'. Refute it at one input. -/
def planOrdersWrong : ChangeSpec := { name := "planOrders", fn := fun _ => fun
  | [d] => { results := [.lit (.bool false)], args := [d] }
  | _ => none }
def PlanOrdersWrongFalsely : Prop := planOrdersRow.holds Try.pinned (OpenSpec.ofChange planOrdersWrong)

/-- 'zoetropelaw25.PlanEnds': WHATEVER THE INPUT: true; the input reads as it did. -/
def planEndsSpec : ChangeSpec := { name := "planEnds", fn := fun _ => fun
  | [d1, d2] => { results := [.lit (.bool true)], args := [d1, d2] }
  | _ => none }
def planEndsRow : OpenClaim := { program := "ytppolbilohkjmaa", sum := "202b1daa23a70813f91387c58245d4e2c0dd3d1f597a69bfff6a102e89766af8", func := "zoetrope/zoetropelaw25.PlanEnds", spec := "planEnds", unfollowed := true, recurses := true, apart := false }
def PlanEndsSaid : Prop := planEndsRow.holds Try.pinned (OpenSpec.ofChange planEndsSpec)

/-- ITS FALSE NEIGHBOUR: 'it returns false'. Refute it at one input. -/
def planEndsWrong : ChangeSpec := { name := "planEnds", fn := fun _ => fun
  | [d1, d2] => { results := [.lit (.bool false)], args := [d1, d2] }
  | _ => none }
def PlanEndsWrongFalsely : Prop := planEndsRow.holds Try.pinned (OpenSpec.ofChange planEndsWrong)

/-- 'zoetropelaw25.PlanUnder': WHATEVER THE INPUT: true; the input reads as it did. -/
def planUnderSpec : ChangeSpec := { name := "planUnder", fn := fun _ => fun
  | [d1, d2] => { results := [.lit (.bool true)], args := [d1, d2] }
  | _ => none }
def planUnderRow : OpenClaim := { program := "ytppolbilohkjmaa", sum := "202b1daa23a70813f91387c58245d4e2c0dd3d1f597a69bfff6a102e89766af8", func := "zoetrope/zoetropelaw25.PlanUnder", spec := "planUnder", unfollowed := true, recurses := true, apart := false }
def PlanUnderSaid : Prop := planUnderRow.holds Try.pinned (OpenSpec.ofChange planUnderSpec)

/-- ITS FALSE NEIGHBOUR: 'it returns false'. Refute it at one input. -/
def planUnderWrong : ChangeSpec := { name := "planUnder", fn := fun _ => fun
  | [d1, d2] => { results := [.lit (.bool false)], args := [d1, d2] }
  | _ => none }
def PlanUnderWrongFalsely : Prop := planUnderRow.holds Try.pinned (OpenSpec.ofChange planUnderWrong)

/- THE SECOND FORM. 'bulk': how many values and letters a reading holds, each counted each time it is reached (what is shared counts as often as it is met; a slice's spare places count too). A statement '..UptoSaid' is the law's where the arguments, and the package variables that the reading takes, are together of bulk at most 1048576: NARROWER than '..Said'. Prove '..Said' where nothing that the law and all that it calls make is longer than what came in: it says more and counts as full. Else prove '..UptoSaid'. A law counts once. -/
mutual
def uptoBulk {H : Type} : DataW H → Nat
  | .lit (.string bytes) => bytes.length + 1
  | .lit _ => 1
  | .nil => 1
  | .ptr d => uptoBulk d + 1
  | .slice elems spare => uptoBulkAll elems + uptoBulkAll spare + 1
  | .agg parts => uptoBulkAll parts + 1
  | .iface _ d => uptoBulk d + 1
  | .map entries => uptoBulkEntries entries + 1
  | .held _ => 1
def uptoBulkAll {H : Type} : List (DataW H) → Nat
  | [] => 0
  | d :: r => uptoBulk d + uptoBulkAll r
def uptoBulkEntries {H : Type} : List (Lit × DataW H) → Nat
  | [] => 0
  | x :: r => uptoBulkEntry x + uptoBulkEntries r
def uptoBulkEntry {H : Type} : Lit × DataW H → Nat
  | (.string bytes, d) => bytes.length + uptoBulk d + 1
  | (_, d) => uptoBulk d + 1
 end
def uptoSmall : (H : Type) → List (DataW H) → Bool := fun _ ds => decide (uptoBulkAll ds ≤ 1048576)
def OpenSpec.upto (s : _root_.Go.ChangeSpec) : _root_.Go.OpenSpec := { _root_.Go.OpenSpec.ofChange s with cond := some uptoSmall }

/-- 'zoetropelaw25.PlanOrders', WHERE WHAT IT READS IS OF BULK AT MOST 1048576: true; the input reads as it did. -/
def planOrdersUptoRow : OpenClaim := { program := "ytppolbilohkjmaa", sum := "202b1daa23a70813f91387c58245d4e2c0dd3d1f597a69bfff6a102e89766af8", func := "zoetrope/zoetropelaw25.PlanOrders", spec := "planOrders", unfollowed := true, recurses := true, apart := false, narrowed := true }
def PlanOrdersUptoSaid : Prop := planOrdersUptoRow.holds Try.pinned (OpenSpec.upto planOrdersSpec)

/-- 'zoetropelaw25.PlanEnds', WHERE WHAT IT READS IS OF BULK AT MOST 1048576: true; the input reads as it did. -/
def planEndsUptoRow : OpenClaim := { program := "ytppolbilohkjmaa", sum := "202b1daa23a70813f91387c58245d4e2c0dd3d1f597a69bfff6a102e89766af8", func := "zoetrope/zoetropelaw25.PlanEnds", spec := "planEnds", unfollowed := true, recurses := true, apart := false, narrowed := true }
def PlanEndsUptoSaid : Prop := planEndsUptoRow.holds Try.pinned (OpenSpec.upto planEndsSpec)

/-- 'zoetropelaw25.PlanUnder', WHERE WHAT IT READS IS OF BULK AT MOST 1048576: true; the input reads as it did. -/
def planUnderUptoRow : OpenClaim := { program := "ytppolbilohkjmaa", sum := "202b1daa23a70813f91387c58245d4e2c0dd3d1f597a69bfff6a102e89766af8", func := "zoetrope/zoetropelaw25.PlanUnder", spec := "planUnder", unfollowed := true, recurses := true, apart := false, narrowed := true }
def PlanUnderUptoSaid : Prop := planUnderUptoRow.holds Try.pinned (OpenSpec.upto planUnderSpec)

end Rows
end Go.Proofs.Ytppolbilohkjmaa
