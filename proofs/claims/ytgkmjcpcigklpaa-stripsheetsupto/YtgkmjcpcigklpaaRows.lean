/-
  No cell of these rows narrows 'for every input' (looked for: loops, veiled, ifaces, maps, wideKeys, modest, calm, conditions, laid).
  DERIVED. THE GIVEN ROWS OF THIS SEAT. 5 by the template 'for every input the law returns true; each argument reads behind the call as it read before'; 0 by the template 'total and deterministic' (their statements: YtgkmjcpcigklpaaTotals.lean).
  GIVEN WITH THE SEED: the statements are not yours to turn. If you find one false, say at which input.
  Laid BY PROGRAM, IN A SANDBOX (cutbox-rows.mjs): the forced cells as the released guide's own fill.sh prints them over the translation bb13480d0bef01cc… (all of the seat's roots in one cut). By AI agents, Wed Nov 11 2026. No macro, syntax, notation, axiom, sorry.
-/
import Derived.Test.YtgkmjcpcigklpaaChecked
import GoSem.Claim
import GoSem.ClaimJoined
import GoSem.ClaimMapViews
import Derived.JoinedTies
import Derived.KernelRfl
namespace Go.Proofs.Ytgkmjcpcigklpaa
/- THE CELL 'sum', in the pinned program and in every row, IS THE sha256 OF THE DUMP (.gsa) THAT YtgkmjcpcigklpaaProg.lean LOADS. Nothing in Lean hashes anything: it is a label: what it is worth is what the hold of that sum in a sandbox is worth. -/
noncomputable def Try.pinned : Pinned := { name := "ytgkmjcpcigklpaa", sum := "bb13480d0bef01cc19b33d66cbd56fde04b8ab50e19b383361da8ff6cda6420f", checked := Try.checked }
namespace Rows
def none {H : Type} : Left H := { results := [], args := [] }

/-- 'zoetropelaw31.StripSheets': WHATEVER THE INPUT: true; the input reads as it did. -/
def stripSheetsSpec : ChangeSpec := { name := "stripSheets", fn := fun _ => fun
  | [d1, d2, d3, d4] => { results := [.lit (.bool true)], args := [d1, d2, d3, d4] }
  | _ => none }
def stripSheetsRow : OpenClaim := { program := "ytgkmjcpcigklpaa", sum := "bb13480d0bef01cc19b33d66cbd56fde04b8ab50e19b383361da8ff6cda6420f", func := "zoetrope/zoetropelaw31.StripSheets", spec := "stripSheets", unfollowed := true, recurses := true, apart := false }
def StripSheetsSaid : Prop := stripSheetsRow.holds Try.pinned (OpenSpec.ofChange stripSheetsSpec)

/-- ITS FALSE NEIGHBOUR: 'it returns false'. Refute it at one input. -/
def stripSheetsWrong : ChangeSpec := { name := "stripSheets", fn := fun _ => fun
  | [d1, d2, d3, d4] => { results := [.lit (.bool false)], args := [d1, d2, d3, d4] }
  | _ => none }
def StripSheetsWrongFalsely : Prop := stripSheetsRow.holds Try.pinned (OpenSpec.ofChange stripSheetsWrong)

/-- 'zoetropelaw31.StripParts': WHATEVER THE INPUT: true; the input reads as it did. -/
def stripPartsSpec : ChangeSpec := { name := "stripParts", fn := fun _ => fun
  | [d1, d2, d3, d4, d5, d6] => { results := [.lit (.bool true)], args := [d1, d2, d3, d4, d5, d6] }
  | _ => none }
def stripPartsRow : OpenClaim := { program := "ytgkmjcpcigklpaa", sum := "bb13480d0bef01cc19b33d66cbd56fde04b8ab50e19b383361da8ff6cda6420f", func := "zoetrope/zoetropelaw31.StripParts", spec := "stripParts", unfollowed := true, recurses := true, apart := false }
def StripPartsSaid : Prop := stripPartsRow.holds Try.pinned (OpenSpec.ofChange stripPartsSpec)

/-- ITS FALSE NEIGHBOUR: 'it returns false'. Refute it at one input. -/
def stripPartsWrong : ChangeSpec := { name := "stripParts", fn := fun _ => fun
  | [d1, d2, d3, d4, d5, d6] => { results := [.lit (.bool false)], args := [d1, d2, d3, d4, d5, d6] }
  | _ => none }
def StripPartsWrongFalsely : Prop := stripPartsRow.holds Try.pinned (OpenSpec.ofChange stripPartsWrong)

/-- 'zoetropelaw32.TallySums': WHATEVER THE INPUT: true; the input reads as it did. -/
def tallySumsSpec : ChangeSpec := { name := "tallySums", fn := fun _ => fun
  | [d1, d2] => { results := [.lit (.bool true)], args := [d1, d2] }
  | _ => none }
def tallySumsRow : OpenClaim := { program := "ytgkmjcpcigklpaa", sum := "bb13480d0bef01cc19b33d66cbd56fde04b8ab50e19b383361da8ff6cda6420f", func := "zoetrope/zoetropelaw32.TallySums", spec := "tallySums", unfollowed := true, recurses := true, apart := false }
def TallySumsSaid : Prop := tallySumsRow.holds Try.pinned (OpenSpec.ofChange tallySumsSpec)

/-- ITS FALSE NEIGHBOUR: 'it returns false'. Refute it at one input. -/
def tallySumsWrong : ChangeSpec := { name := "tallySums", fn := fun _ => fun
  | [d1, d2] => { results := [.lit (.bool false)], args := [d1, d2] }
  | _ => none }
def TallySumsWrongFalsely : Prop := tallySumsRow.holds Try.pinned (OpenSpec.ofChange tallySumsWrong)

/-- 'zoetropelaw31.StripTurns': WHATEVER THE INPUT: true; the input reads as it did. -/
def stripTurnsSpec : ChangeSpec := { name := "stripTurns", fn := fun _ => fun
  | [d1, d2, d3] => { results := [.lit (.bool true)], args := [d1, d2, d3] }
  | _ => none }
def stripTurnsRow : OpenClaim := { program := "ytgkmjcpcigklpaa", sum := "bb13480d0bef01cc19b33d66cbd56fde04b8ab50e19b383361da8ff6cda6420f", func := "zoetrope/zoetropelaw31.StripTurns", spec := "stripTurns", unfollowed := true, recurses := true, apart := false }
def StripTurnsSaid : Prop := stripTurnsRow.holds Try.pinned (OpenSpec.ofChange stripTurnsSpec)

/-- ITS FALSE NEIGHBOUR: 'it returns false'. Refute it at one input. -/
def stripTurnsWrong : ChangeSpec := { name := "stripTurns", fn := fun _ => fun
  | [d1, d2, d3] => { results := [.lit (.bool false)], args := [d1, d2, d3] }
  | _ => none }
def StripTurnsWrongFalsely : Prop := stripTurnsRow.holds Try.pinned (OpenSpec.ofChange stripTurnsWrong)

/-- 'zoetropelaw31.StripBack': WHATEVER THE INPUT: true; the input reads as it did. -/
def stripBackSpec : ChangeSpec := { name := "stripBack", fn := fun _ => fun
  | [d1, d2] => { results := [.lit (.bool true)], args := [d1, d2] }
  | _ => none }
def stripBackRow : OpenClaim := { program := "ytgkmjcpcigklpaa", sum := "bb13480d0bef01cc19b33d66cbd56fde04b8ab50e19b383361da8ff6cda6420f", func := "zoetrope/zoetropelaw31.StripBack", spec := "stripBack", unfollowed := true, recurses := true, apart := false }
def StripBackSaid : Prop := stripBackRow.holds Try.pinned (OpenSpec.ofChange stripBackSpec)

/-- ITS FALSE NEIGHBOUR: 'it returns false'. Refute it at one input. -/
def stripBackWrong : ChangeSpec := { name := "stripBack", fn := fun _ => fun
  | [d1, d2] => { results := [.lit (.bool false)], args := [d1, d2] }
  | _ => none }
def StripBackWrongFalsely : Prop := stripBackRow.holds Try.pinned (OpenSpec.ofChange stripBackWrong)

/- THE SECOND FORM. 'bulk': how many values and letters a reading holds, each counted each time it is reached (what is shared counts as often as it is met; a slice's spare places count too). A statement '..UptoSaid' is the law's where the arguments, and the package variables that the reading takes, are together of bulk at most 1048576: NARROWER than '..Said'. Prove '..Said' where nothing that the law and all that it calls make is longer than what came in: it says more and counts as full. Else prove '..UptoSaid'. A law counts once. -/
mutual
def uptoBulk {H : Type} : DataW H → Nat
  | .lit (.string bytes) => bytes.length + 1
  | .lit _ => 1
  | .nil => 1
  | .ptr d => uptoBulk d + 1
  | .slice elems spare => uptoBulkAll elems + uptoBulkAll spare + 1
  | .agg parts => uptoBulkAll parts + 1
  | .iface _ d => uptoBulk d + 1
  | .map entries => uptoBulkEntries entries + 1
  | .held _ => 1
def uptoBulkAll {H : Type} : List (DataW H) → Nat
  | [] => 0
  | d :: r => uptoBulk d + uptoBulkAll r
def uptoBulkEntries {H : Type} : List (Lit × DataW H) → Nat
  | [] => 0
  | x :: r => uptoBulkEntry x + uptoBulkEntries r
def uptoBulkEntry {H : Type} : Lit × DataW H → Nat
  | (.string bytes, d) => bytes.length + uptoBulk d + 1
  | (_, d) => uptoBulk d + 1
 end
def uptoSmall : (H : Type) → List (DataW H) → Bool := fun _ ds => decide (uptoBulkAll ds ≤ 1048576)
def OpenSpec.upto (s : _root_.Go.ChangeSpec) : _root_.Go.OpenSpec := { _root_.Go.OpenSpec.ofChange s with cond := some uptoSmall }

/-- 'zoetropelaw31.StripSheets', WHERE WHAT IT READS IS OF BULK AT MOST 1048576: true; the input reads as it did. -/
def stripSheetsUptoRow : OpenClaim := { program := "ytgkmjcpcigklpaa", sum := "bb13480d0bef01cc19b33d66cbd56fde04b8ab50e19b383361da8ff6cda6420f", func := "zoetrope/zoetropelaw31.StripSheets", spec := "stripSheets", unfollowed := true, recurses := true, apart := false, narrowed := true }
def StripSheetsUptoSaid : Prop := stripSheetsUptoRow.holds Try.pinned (OpenSpec.upto stripSheetsSpec)

/-- 'zoetropelaw31.StripParts', WHERE WHAT IT READS IS OF BULK AT MOST 1048576: true; the input reads as it did. -/
def stripPartsUptoRow : OpenClaim := { program := "ytgkmjcpcigklpaa", sum := "bb13480d0bef01cc19b33d66cbd56fde04b8ab50e19b383361da8ff6cda6420f", func := "zoetrope/zoetropelaw31.StripParts", spec := "stripParts", unfollowed := true, recurses := true, apart := false, narrowed := true }
def StripPartsUptoSaid : Prop := stripPartsUptoRow.holds Try.pinned (OpenSpec.upto stripPartsSpec)

/-- 'zoetropelaw32.TallySums', WHERE WHAT IT READS IS OF BULK AT MOST 1048576: true; the input reads as it did. -/
def tallySumsUptoRow : OpenClaim := { program := "ytgkmjcpcigklpaa", sum := "bb13480d0bef01cc19b33d66cbd56fde04b8ab50e19b383361da8ff6cda6420f", func := "zoetrope/zoetropelaw32.TallySums", spec := "tallySums", unfollowed := true, recurses := true, apart := false, narrowed := true }
def TallySumsUptoSaid : Prop := tallySumsUptoRow.holds Try.pinned (OpenSpec.upto tallySumsSpec)

/-- 'zoetropelaw31.StripTurns', WHERE WHAT IT READS IS OF BULK AT MOST 1048576: true; the input reads as it did. -/
def stripTurnsUptoRow : OpenClaim := { program := "ytgkmjcpcigklpaa", sum := "bb13480d0bef01cc19b33d66cbd56fde04b8ab50e19b383361da8ff6cda6420f", func := "zoetrope/zoetropelaw31.StripTurns", spec := "stripTurns", unfollowed := true, recurses := true, apart := false, narrowed := true }
def StripTurnsUptoSaid : Prop := stripTurnsUptoRow.holds Try.pinned (OpenSpec.upto stripTurnsSpec)

/-- 'zoetropelaw31.StripBack', WHERE WHAT IT READS IS OF BULK AT MOST 1048576: true; the input reads as it did. -/
def stripBackUptoRow : OpenClaim := { program := "ytgkmjcpcigklpaa", sum := "bb13480d0bef01cc19b33d66cbd56fde04b8ab50e19b383361da8ff6cda6420f", func := "zoetrope/zoetropelaw31.StripBack", spec := "stripBack", unfollowed := true, recurses := true, apart := false, narrowed := true }
def StripBackUptoSaid : Prop := stripBackUptoRow.holds Try.pinned (OpenSpec.upto stripBackSpec)

end Rows
end Go.Proofs.Ytgkmjcpcigklpaa
