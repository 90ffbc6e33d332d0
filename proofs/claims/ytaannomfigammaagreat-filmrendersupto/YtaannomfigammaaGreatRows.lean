/-
  No cell of these rows narrows 'for every input' (looked for: loops, veiled, ifaces, maps, wideKeys, modest, calm, conditions, laid).
  DERIVED. THE GIVEN ROWS OF THIS SEAT. 5 by the template 'for every input the law returns true; each argument reads behind the call as it read before'; 0 by the template 'total and deterministic' (their statements: YtaannomfigammaaGreatTotals.lean).
  GIVEN WITH THE SEED: the statements are not yours to turn. If you find one false, say at which input.
  Laid BY PROGRAM, IN A SANDBOX (cutbox-rows.mjs): the forced cells as the released guide's own fill.sh prints them over the translation a6ccca41b0f8f0db… (all of the seat's roots in one cut). By AI agents, Wed Nov 11 2026. No macro, syntax, notation, axiom, sorry.
-/
import Derived.Test.YtaannomfigammaaGreatChecked
import GoSem.Claim
import GoSem.ClaimJoined
import GoSem.ClaimMapViews
import Derived.JoinedTies
import Derived.KernelRfl
namespace Go.Proofs.YtaannomfigammaaGreat
/- THE CELL 'sum', in the pinned program and in every row, IS THE sha256 OF THE DUMP (.gsa) THAT YtaannomfigammaaGreatProg.lean LOADS. Nothing in Lean hashes anything: it is a label: what it is worth is what the hold of that sum in a sandbox is worth. -/
noncomputable def Tryz.pinned : Pinned := { name := "ytaannomfigammaagreat", sum := "a6ccca41b0f8f0dbe18b9f5749f1962bf73f1236a2f28502608267b1f17e1ec2", checked := Tryz.checked }
namespace Rows
def none {H : Type} : Left H := { results := [], args := [] }

/-- 'zoetropelaw17.PathTraces': WHATEVER THE INPUT: true; the input reads as it did. -/
def pathTracesSpec : ChangeSpec := { name := "pathTraces", fn := fun _ => fun
  | [d1, d2, d3, d4, d5] => { results := [.lit (.bool true)], args := [d1, d2, d3, d4, d5] }
  | _ => none }
def pathTracesRow : OpenClaim := { program := "ytaannomfigammaagreat", sum := "a6ccca41b0f8f0dbe18b9f5749f1962bf73f1236a2f28502608267b1f17e1ec2", func := "zoetrope/zoetropelaw17.PathTraces", spec := "pathTraces", unfollowed := true, recurses := true, apart := false }
def PathTracesSaid : Prop := pathTracesRow.holds Tryz.pinned (OpenSpec.ofChange pathTracesSpec)

/-- ITS FALSE NEIGHBOUR: 'it returns false'. Refute it at one input. -/
def pathTracesWrong : ChangeSpec := { name := "pathTraces", fn := fun _ => fun
  | [d1, d2, d3, d4, d5] => { results := [.lit (.bool false)], args := [d1, d2, d3, d4, d5] }
  | _ => none }
def PathTracesWrongFalsely : Prop := pathTracesRow.holds Tryz.pinned (OpenSpec.ofChange pathTracesWrong)

/-- 'zoetropelaw17.PathPixels': WHATEVER THE INPUT: true; the input reads as it did. -/
def pathPixelsSpec : ChangeSpec := { name := "pathPixels", fn := fun _ => fun
  | [d1, d2, d3, d4] => { results := [.lit (.bool true)], args := [d1, d2, d3, d4] }
  | _ => none }
def pathPixelsRow : OpenClaim := { program := "ytaannomfigammaagreat", sum := "a6ccca41b0f8f0dbe18b9f5749f1962bf73f1236a2f28502608267b1f17e1ec2", func := "zoetrope/zoetropelaw17.PathPixels", spec := "pathPixels", unfollowed := true, recurses := true, apart := false }
def PathPixelsSaid : Prop := pathPixelsRow.holds Tryz.pinned (OpenSpec.ofChange pathPixelsSpec)

/-- ITS FALSE NEIGHBOUR: 'it returns false'. Refute it at one input. -/
def pathPixelsWrong : ChangeSpec := { name := "pathPixels", fn := fun _ => fun
  | [d1, d2, d3, d4] => { results := [.lit (.bool false)], args := [d1, d2, d3, d4] }
  | _ => none }
def PathPixelsWrongFalsely : Prop := pathPixelsRow.holds Tryz.pinned (OpenSpec.ofChange pathPixelsWrong)

/-- 'zoetropelaw17.PathSame': WHATEVER THE INPUT: true; the input reads as it did. -/
def pathSameSpec : ChangeSpec := { name := "pathSame", fn := fun _ => fun
  | [d1, d2, d3] => { results := [.lit (.bool true)], args := [d1, d2, d3] }
  | _ => none }
def pathSameRow : OpenClaim := { program := "ytaannomfigammaagreat", sum := "a6ccca41b0f8f0dbe18b9f5749f1962bf73f1236a2f28502608267b1f17e1ec2", func := "zoetrope/zoetropelaw17.PathSame", spec := "pathSame", unfollowed := true, recurses := true, apart := false }
def PathSameSaid : Prop := pathSameRow.holds Tryz.pinned (OpenSpec.ofChange pathSameSpec)

/-- ITS FALSE NEIGHBOUR: 'it returns false'. Refute it at one input. -/
def pathSameWrong : ChangeSpec := { name := "pathSame", fn := fun _ => fun
  | [d1, d2, d3] => { results := [.lit (.bool false)], args := [d1, d2, d3] }
  | _ => none }
def PathSameWrongFalsely : Prop := pathSameRow.holds Tryz.pinned (OpenSpec.ofChange pathSameWrong)

/-- 'zoetropelaw17.PathSets': WHATEVER THE INPUT: true; the input reads as it did. -/
def pathSetsSpec : ChangeSpec := { name := "pathSets", fn := fun _ => fun
  | [d1, d2, d3, d4, d5, d6] => { results := [.lit (.bool true)], args := [d1, d2, d3, d4, d5, d6] }
  | _ => none }
def pathSetsRow : OpenClaim := { program := "ytaannomfigammaagreat", sum := "a6ccca41b0f8f0dbe18b9f5749f1962bf73f1236a2f28502608267b1f17e1ec2", func := "zoetrope/zoetropelaw17.PathSets", spec := "pathSets", unfollowed := true, recurses := true, apart := false }
def PathSetsSaid : Prop := pathSetsRow.holds Tryz.pinned (OpenSpec.ofChange pathSetsSpec)

/-- ITS FALSE NEIGHBOUR: 'it returns false'. Refute it at one input. -/
def pathSetsWrong : ChangeSpec := { name := "pathSets", fn := fun _ => fun
  | [d1, d2, d3, d4, d5, d6] => { results := [.lit (.bool false)], args := [d1, d2, d3, d4, d5, d6] }
  | _ => none }
def PathSetsWrongFalsely : Prop := pathSetsRow.holds Tryz.pinned (OpenSpec.ofChange pathSetsWrong)

/-- 'zoetropelaw18.FilmRenders': WHATEVER THE INPUT: true; the input reads as it did. -/
def filmRendersSpec : ChangeSpec := { name := "filmRenders", fn := fun _ => fun
  | [d1, d2] => { results := [.lit (.bool true)], args := [d1, d2] }
  | _ => none }
def filmRendersRow : OpenClaim := { program := "ytaannomfigammaagreat", sum := "a6ccca41b0f8f0dbe18b9f5749f1962bf73f1236a2f28502608267b1f17e1ec2", func := "zoetrope/zoetropelaw18.FilmRenders", spec := "filmRenders", unfollowed := true, recurses := true, apart := false }
def FilmRendersSaid : Prop := filmRendersRow.holds Tryz.pinned (OpenSpec.ofChange filmRendersSpec)

/-- ITS FALSE NEIGHBOUR: 'it returns false'. Refute it at one input. -/
def filmRendersWrong : ChangeSpec := { name := "filmRenders", fn := fun _ => fun
  | [d1, d2] => { results := [.lit (.bool false)], args := [d1, d2] }
  | _ => none }
def FilmRendersWrongFalsely : Prop := filmRendersRow.holds Tryz.pinned (OpenSpec.ofChange filmRendersWrong)

/- THE SECOND FORM. 'bulk': how many values and letters a reading holds, each counted each time it is reached (what is shared counts as often as it is met; a slice's spare places count too). A statement '..UptoSaid' is the law's where the arguments, and the package variables that the reading takes, are together of bulk at most 1048576: NARROWER than '..Said'. Prove '..Said' where nothing that the law and all that it calls make is longer than what came in: it says more and counts as full. Else prove '..UptoSaid'. A law counts once. -/
mutual
def uptoBulk {H : Type} : DataW H → Nat
  | .lit (.string bytes) => bytes.length + 1
  | .lit _ => 1
  | .nil => 1
  | .ptr d => uptoBulk d + 1
  | .slice elems spare => uptoBulkAll elems + uptoBulkAll spare + 1
  | .agg parts => uptoBulkAll parts + 1
  | .iface _ d => uptoBulk d + 1
  | .map entries => uptoBulkEntries entries + 1
  | .held _ => 1
def uptoBulkAll {H : Type} : List (DataW H) → Nat
  | [] => 0
  | d :: r => uptoBulk d + uptoBulkAll r
def uptoBulkEntries {H : Type} : List (Lit × DataW H) → Nat
  | [] => 0
  | x :: r => uptoBulkEntry x + uptoBulkEntries r
def uptoBulkEntry {H : Type} : Lit × DataW H → Nat
  | (.string bytes, d) => bytes.length + uptoBulk d + 1
  | (_, d) => uptoBulk d + 1
 end
def uptoSmall : (H : Type) → List (DataW H) → Bool := fun _ ds => decide (uptoBulkAll ds ≤ 1048576)
def OpenSpec.upto (s : _root_.Go.ChangeSpec) : _root_.Go.OpenSpec := { _root_.Go.OpenSpec.ofChange s with cond := some uptoSmall }

/-- 'zoetropelaw17.PathTraces', WHERE WHAT IT READS IS OF BULK AT MOST 1048576: true; the input reads as it did. -/
def pathTracesUptoRow : OpenClaim := { program := "ytaannomfigammaagreat", sum := "a6ccca41b0f8f0dbe18b9f5749f1962bf73f1236a2f28502608267b1f17e1ec2", func := "zoetrope/zoetropelaw17.PathTraces", spec := "pathTraces", unfollowed := true, recurses := true, apart := false, narrowed := true }
def PathTracesUptoSaid : Prop := pathTracesUptoRow.holds Tryz.pinned (OpenSpec.upto pathTracesSpec)

/-- 'zoetropelaw17.PathPixels', WHERE WHAT IT READS IS OF BULK AT MOST 1048576: true; the input reads as it did. -/
def pathPixelsUptoRow : OpenClaim := { program := "ytaannomfigammaagreat", sum := "a6ccca41b0f8f0dbe18b9f5749f1962bf73f1236a2f28502608267b1f17e1ec2", func := "zoetrope/zoetropelaw17.PathPixels", spec := "pathPixels", unfollowed := true, recurses := true, apart := false, narrowed := true }
def PathPixelsUptoSaid : Prop := pathPixelsUptoRow.holds Tryz.pinned (OpenSpec.upto pathPixelsSpec)

/-- 'zoetropelaw17.PathSame', WHERE WHAT IT READS IS OF BULK AT MOST 1048576: true; the input reads as it did. -/
def pathSameUptoRow : OpenClaim := { program := "ytaannomfigammaagreat", sum := "a6ccca41b0f8f0dbe18b9f5749f1962bf73f1236a2f28502608267b1f17e1ec2", func := "zoetrope/zoetropelaw17.PathSame", spec := "pathSame", unfollowed := true, recurses := true, apart := false, narrowed := true }
def PathSameUptoSaid : Prop := pathSameUptoRow.holds Tryz.pinned (OpenSpec.upto pathSameSpec)

/-- 'zoetropelaw17.PathSets', WHERE WHAT IT READS IS OF BULK AT MOST 1048576: true; the input reads as it did. -/
def pathSetsUptoRow : OpenClaim := { program := "ytaannomfigammaagreat", sum := "a6ccca41b0f8f0dbe18b9f5749f1962bf73f1236a2f28502608267b1f17e1ec2", func := "zoetrope/zoetropelaw17.PathSets", spec := "pathSets", unfollowed := true, recurses := true, apart := false, narrowed := true }
def PathSetsUptoSaid : Prop := pathSetsUptoRow.holds Tryz.pinned (OpenSpec.upto pathSetsSpec)

/-- 'zoetropelaw18.FilmRenders', WHERE WHAT IT READS IS OF BULK AT MOST 1048576: true; the input reads as it did. -/
def filmRendersUptoRow : OpenClaim := { program := "ytaannomfigammaagreat", sum := "a6ccca41b0f8f0dbe18b9f5749f1962bf73f1236a2f28502608267b1f17e1ec2", func := "zoetrope/zoetropelaw18.FilmRenders", spec := "filmRenders", unfollowed := true, recurses := true, apart := false, narrowed := true }
def FilmRendersUptoSaid : Prop := filmRendersUptoRow.holds Tryz.pinned (OpenSpec.upto filmRendersSpec)

end Rows
end Go.Proofs.YtaannomfigammaaGreat
