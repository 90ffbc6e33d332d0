/-
  No cell of these rows narrows 'for every input' (looked for: loops, veiled, ifaces, maps, wideKeys, modest, calm, conditions, laid).
  DERIVED. THE GIVEN ROWS OF THIS SEAT. 4 by the template 'for every input the law returns true; each argument reads behind the call as it read before'; 0 by the template 'total and deterministic' (their statements: YtelkmimmmhkbhaaTotals.lean).
  GIVEN WITH THE SEED: the statements are not yours to turn. If you find one false, say at which input.
  Laid BY PROGRAM, IN A SANDBOX (cutbox-rows.mjs): the forced cells as the released guide's own fill.sh prints them over the translation 62abbdcd75d96e8e… (all of the seat's roots in one cut). By AI agents, Wed Nov 11 2026. No macro, syntax, notation, axiom, sorry.
-/
import Derived.Test.YtelkmimmmhkbhaaChecked
import GoSem.Claim
import GoSem.ClaimJoined
import GoSem.ClaimMapViews
import Derived.JoinedTies
import Derived.KernelRfl
namespace Go.Proofs.Ytelkmimmmhkbhaa
/- THE CELL 'sum', in the pinned program and in every row, IS THE sha256 OF THE DUMP (.gsa) THAT YtelkmimmmhkbhaaProg.lean LOADS. Nothing in Lean hashes anything: it is a label: what it is worth is what the hold of that sum in a sandbox is worth. -/
noncomputable def Try.pinned : Pinned := { name := "ytelkmimmmhkbhaa", sum := "62abbdcd75d96e8e60e6a2eaf4d50b7df99f03930f06c6bd9ff0a646fe248886", checked := Try.checked }
namespace Rows
def none {H : Type} : Left H := { results := [], args := [] }

/-- 'zoetropelaw22.SealSums': WHATEVER THE INPUT: true; the input reads as it did. -/
def sealSumsSpec : ChangeSpec := { name := "sealSums", fn := fun _ => fun
  | [d] => { results := [.lit (.bool true)], args := [d] }
  | _ => none }
def sealSumsRow : OpenClaim := { program := "ytelkmimmmhkbhaa", sum := "62abbdcd75d96e8e60e6a2eaf4d50b7df99f03930f06c6bd9ff0a646fe248886", func := "zoetrope/zoetropelaw22.SealSums", spec := "sealSums", inPlace := ["internal/abi.NoEscape"], apart := false }
def SealSumsSaid : Prop := sealSumsRow.holds Try.pinned (OpenSpec.ofChange sealSumsSpec)

/-- ITS FALSE NEIGHBOUR: 'it returns false'. Refute it at one input. -/
def sealSumsWrong : ChangeSpec := { name := "sealSums", fn := fun _ => fun
  | [d] => { results := [.lit (.bool false)], args := [d] }
  | _ => none }
def SealSumsWrongFalsely : Prop := sealSumsRow.holds Try.pinned (OpenSpec.ofChange sealSumsWrong)

/-- 'zoetropelaw22.SealParts': WHATEVER THE INPUT: true; the input reads as it did. -/
def sealPartsSpec : ChangeSpec := { name := "sealParts", fn := fun _ => fun
  | [d] => { results := [.lit (.bool true)], args := [d] }
  | _ => none }
def sealPartsRow : OpenClaim := { program := "ytelkmimmmhkbhaa", sum := "62abbdcd75d96e8e60e6a2eaf4d50b7df99f03930f06c6bd9ff0a646fe248886", func := "zoetrope/zoetropelaw22.SealParts", spec := "sealParts", inPlace := ["internal/abi.NoEscape"], apart := false }
def SealPartsSaid : Prop := sealPartsRow.holds Try.pinned (OpenSpec.ofChange sealPartsSpec)

/-- ITS FALSE NEIGHBOUR: 'it returns false'. Refute it at one input. -/
def sealPartsWrong : ChangeSpec := { name := "sealParts", fn := fun _ => fun
  | [d] => { results := [.lit (.bool false)], args := [d] }
  | _ => none }
def SealPartsWrongFalsely : Prop := sealPartsRow.holds Try.pinned (OpenSpec.ofChange sealPartsWrong)

/-- 'zoetropelaw22.SealEdges': WHATEVER THE INPUT: true; the input reads as it did. -/
def sealEdgesSpec : ChangeSpec := { name := "sealEdges", fn := fun _ => fun
  | [d1, d2] => { results := [.lit (.bool true)], args := [d1, d2] }
  | _ => none }
def sealEdgesRow : OpenClaim := { program := "ytelkmimmmhkbhaa", sum := "62abbdcd75d96e8e60e6a2eaf4d50b7df99f03930f06c6bd9ff0a646fe248886", func := "zoetrope/zoetropelaw22.SealEdges", spec := "sealEdges", inPlace := ["internal/abi.NoEscape"], apart := false }
def SealEdgesSaid : Prop := sealEdgesRow.holds Try.pinned (OpenSpec.ofChange sealEdgesSpec)

/-- ITS FALSE NEIGHBOUR: 'it returns false'. Refute it at one input. -/
def sealEdgesWrong : ChangeSpec := { name := "sealEdges", fn := fun _ => fun
  | [d1, d2] => { results := [.lit (.bool false)], args := [d1, d2] }
  | _ => none }
def SealEdgesWrongFalsely : Prop := sealEdgesRow.holds Try.pinned (OpenSpec.ofChange sealEdgesWrong)

/-- 'zoetropelaw22.SealDigits': WHATEVER THE INPUT: true; the input reads as it did. -/
def sealDigitsSpec : ChangeSpec := { name := "sealDigits", fn := fun _ => fun
  | [d1, d2] => { results := [.lit (.bool true)], args := [d1, d2] }
  | _ => none }
def sealDigitsRow : OpenClaim := { program := "ytelkmimmmhkbhaa", sum := "62abbdcd75d96e8e60e6a2eaf4d50b7df99f03930f06c6bd9ff0a646fe248886", func := "zoetrope/zoetropelaw22.SealDigits", spec := "sealDigits", inPlace := ["internal/abi.NoEscape", "internal/bytealg.IndexByteString"], apart := false }
def SealDigitsSaid : Prop := sealDigitsRow.holds Try.pinned (OpenSpec.ofChange sealDigitsSpec)

/-- ITS FALSE NEIGHBOUR: 'it returns false'. Refute it at one input. -/
def sealDigitsWrong : ChangeSpec := { name := "sealDigits", fn := fun _ => fun
  | [d1, d2] => { results := [.lit (.bool false)], args := [d1, d2] }
  | _ => none }
def SealDigitsWrongFalsely : Prop := sealDigitsRow.holds Try.pinned (OpenSpec.ofChange sealDigitsWrong)

/- THE SECOND FORM. 'bulk': how many values and letters a reading holds, each counted each time it is reached (what is shared counts as often as it is met; a slice's spare places count too). A statement '..UptoSaid' is the law's where the arguments, and the package variables that the reading takes, are together of bulk at most 1048576: NARROWER than '..Said'. Prove '..Said' where nothing that the law and all that it calls make is longer than what came in: it says more and counts as full. Else prove '..UptoSaid'. A law counts once. -/
mutual
def uptoBulk {H : Type} : DataW H → Nat
  | .lit (.string bytes) => bytes.length + 1
  | .lit _ => 1
  | .nil => 1
  | .ptr d => uptoBulk d + 1
  | .slice elems spare => uptoBulkAll elems + uptoBulkAll spare + 1
  | .agg parts => uptoBulkAll parts + 1
  | .iface _ d => uptoBulk d + 1
  | .map entries => uptoBulkEntries entries + 1
  | .held _ => 1
def uptoBulkAll {H : Type} : List (DataW H) → Nat
  | [] => 0
  | d :: r => uptoBulk d + uptoBulkAll r
def uptoBulkEntries {H : Type} : List (Lit × DataW H) → Nat
  | [] => 0
  | x :: r => uptoBulkEntry x + uptoBulkEntries r
def uptoBulkEntry {H : Type} : Lit × DataW H → Nat
  | (.string bytes, d) => bytes.length + uptoBulk d + 1
  | (_, d) => uptoBulk d + 1
 end
def uptoSmall : (H : Type) → List (DataW H) → Bool := fun _ ds => decide (uptoBulkAll ds ≤ 1048576)
def OpenSpec.upto (s : _root_.Go.ChangeSpec) : _root_.Go.OpenSpec := { _root_.Go.OpenSpec.ofChange s with cond := some uptoSmall }

/-- 'zoetropelaw22.SealSums', WHERE WHAT IT READS IS OF BULK AT MOST 1048576: true; the input reads as it did. -/
def sealSumsUptoRow : OpenClaim := { program := "ytelkmimmmhkbhaa", sum := "62abbdcd75d96e8e60e6a2eaf4d50b7df99f03930f06c6bd9ff0a646fe248886", func := "zoetrope/zoetropelaw22.SealSums", spec := "sealSums", inPlace := ["internal/abi.NoEscape"], apart := false, narrowed := true }
def SealSumsUptoSaid : Prop := sealSumsUptoRow.holds Try.pinned (OpenSpec.upto sealSumsSpec)

/-- 'zoetropelaw22.SealParts', WHERE WHAT IT READS IS OF BULK AT MOST 1048576: true; the input reads as it did. -/
def sealPartsUptoRow : OpenClaim := { program := "ytelkmimmmhkbhaa", sum := "62abbdcd75d96e8e60e6a2eaf4d50b7df99f03930f06c6bd9ff0a646fe248886", func := "zoetrope/zoetropelaw22.SealParts", spec := "sealParts", inPlace := ["internal/abi.NoEscape"], apart := false, narrowed := true }
def SealPartsUptoSaid : Prop := sealPartsUptoRow.holds Try.pinned (OpenSpec.upto sealPartsSpec)

/-- 'zoetropelaw22.SealEdges', WHERE WHAT IT READS IS OF BULK AT MOST 1048576: true; the input reads as it did. -/
def sealEdgesUptoRow : OpenClaim := { program := "ytelkmimmmhkbhaa", sum := "62abbdcd75d96e8e60e6a2eaf4d50b7df99f03930f06c6bd9ff0a646fe248886", func := "zoetrope/zoetropelaw22.SealEdges", spec := "sealEdges", inPlace := ["internal/abi.NoEscape"], apart := false, narrowed := true }
def SealEdgesUptoSaid : Prop := sealEdgesUptoRow.holds Try.pinned (OpenSpec.upto sealEdgesSpec)

/-- 'zoetropelaw22.SealDigits', WHERE WHAT IT READS IS OF BULK AT MOST 1048576: true; the input reads as it did. -/
def sealDigitsUptoRow : OpenClaim := { program := "ytelkmimmmhkbhaa", sum := "62abbdcd75d96e8e60e6a2eaf4d50b7df99f03930f06c6bd9ff0a646fe248886", func := "zoetrope/zoetropelaw22.SealDigits", spec := "sealDigits", inPlace := ["internal/abi.NoEscape", "internal/bytealg.IndexByteString"], apart := false, narrowed := true }
def SealDigitsUptoSaid : Prop := sealDigitsUptoRow.holds Try.pinned (OpenSpec.upto sealDigitsSpec)

end Rows
end Go.Proofs.Ytelkmimmmhkbhaa
