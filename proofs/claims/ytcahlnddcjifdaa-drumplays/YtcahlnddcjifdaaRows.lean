/-
  No cell of these rows narrows 'for every input' (looked for: loops, veiled, ifaces, maps, wideKeys, modest, calm, conditions, laid).
  DERIVED. THE GIVEN ROWS OF THIS SEAT. 3 by the template 'for every input the law returns true; each argument reads behind the call as it read before'; 0 by the template 'total and deterministic' (their statements: YtcahlnddcjifdaaTotals.lean).
  GIVEN WITH THE SEED: the statements are not yours to turn. If you find one false, say at which input.
  Laid BY PROGRAM, IN A SANDBOX (cutbox-rows.mjs): the forced cells as the released guide's own fill.sh prints them over the translation 240c5047963e5c34… (all of the seat's roots in one cut). By AI agents, Wed Nov 11 2026. No macro, syntax, notation, axiom, sorry.
-/
import Derived.Test.YtcahlnddcjifdaaChecked
import GoSem.Claim
import GoSem.ClaimJoined
import GoSem.ClaimMapViews
import Derived.JoinedTies
import Derived.KernelRfl
namespace Go.Proofs.Ytcahlnddcjifdaa
/- THE CELL 'sum', in the pinned program and in every row, IS THE sha256 OF THE DUMP (.gsa) THAT YtcahlnddcjifdaaProg.lean LOADS. Nothing in Lean hashes anything: it is a label: what it is worth is what the hold of that sum in a sandbox is worth. -/
noncomputable def Try.pinned : Pinned := { name := "ytcahlnddcjifdaa", sum := "240c5047963e5c34db71e766c070a20a0439034a626e377b65f8320b54d31758", checked := Try.checked }
namespace Rows
def none {H : Type} : Left H := { results := [], args := [] }

/-- 'zoetropelaw23.DrumLasts': WHATEVER THE INPUT: true; the input reads as it did. -/
def drumLastsSpec : ChangeSpec := { name := "drumLasts", fn := fun _ => fun
  | [d] => { results := [.lit (.bool true)], args := [d] }
  | _ => none }
def drumLastsRow : OpenClaim := { program := "ytcahlnddcjifdaa", sum := "240c5047963e5c34db71e766c070a20a0439034a626e377b65f8320b54d31758", func := "zoetrope/zoetropelaw23.DrumLasts", spec := "drumLasts", apart := false }
def DrumLastsSaid : Prop := drumLastsRow.holds Try.pinned (OpenSpec.ofChange drumLastsSpec)

/-- ITS FALSE NEIGHBOUR: 'it returns false'. Refute it at one input. -/
def drumLastsWrong : ChangeSpec := { name := "drumLasts", fn := fun _ => fun
  | [d] => { results := [.lit (.bool false)], args := [d] }
  | _ => none }
def DrumLastsWrongFalsely : Prop := drumLastsRow.holds Try.pinned (OpenSpec.ofChange drumLastsWrong)

/-- 'zoetropelaw23.DrumPlays': WHATEVER THE INPUT: true; the input reads as it did. -/
def drumPlaysSpec : ChangeSpec := { name := "drumPlays", fn := fun _ => fun
  | [d1, d2, d3] => { results := [.lit (.bool true)], args := [d1, d2, d3] }
  | _ => none }
def drumPlaysRow : OpenClaim := { program := "ytcahlnddcjifdaa", sum := "240c5047963e5c34db71e766c070a20a0439034a626e377b65f8320b54d31758", func := "zoetrope/zoetropelaw23.DrumPlays", spec := "drumPlays", unfollowed := true, recurses := true, apart := false }
def DrumPlaysSaid : Prop := drumPlaysRow.holds Try.pinned (OpenSpec.ofChange drumPlaysSpec)

/-- ITS FALSE NEIGHBOUR: 'it returns false'. Refute it at one input. -/
def drumPlaysWrong : ChangeSpec := { name := "drumPlays", fn := fun _ => fun
  | [d1, d2, d3] => { results := [.lit (.bool false)], args := [d1, d2, d3] }
  | _ => none }
def DrumPlaysWrongFalsely : Prop := drumPlaysRow.holds Try.pinned (OpenSpec.ofChange drumPlaysWrong)

/-- 'zoetropelaw23.DrumNil': WHATEVER THE INPUT: true; the input reads as it did. -/
def drumNilSpec : ChangeSpec := { name := "drumNil", fn := fun _ => fun
  | [d] => { results := [.lit (.bool true)], args := [d] }
  | _ => none }
def drumNilRow : OpenClaim := { program := "ytcahlnddcjifdaa", sum := "240c5047963e5c34db71e766c070a20a0439034a626e377b65f8320b54d31758", func := "zoetrope/zoetropelaw23.DrumNil", spec := "drumNil", unfollowed := true, recurses := true, apart := false }
def DrumNilSaid : Prop := drumNilRow.holds Try.pinned (OpenSpec.ofChange drumNilSpec)

/-- ITS FALSE NEIGHBOUR: 'it returns false'. Refute it at one input. -/
def drumNilWrong : ChangeSpec := { name := "drumNil", fn := fun _ => fun
  | [d] => { results := [.lit (.bool false)], args := [d] }
  | _ => none }
def DrumNilWrongFalsely : Prop := drumNilRow.holds Try.pinned (OpenSpec.ofChange drumNilWrong)

/- THE SECOND FORM. 'bulk': how many values and letters a reading holds, each counted each time it is reached (what is shared counts as often as it is met; a slice's spare places count too). A statement '..UptoSaid' is the law's where the arguments, and the package variables that the reading takes, are together of bulk at most 1048576: NARROWER than '..Said'. Prove '..Said' where nothing that the law and all that it calls make is longer than what came in: it says more and counts as full. Else prove '..UptoSaid'. A law counts once. -/
mutual
def uptoBulk {H : Type} : DataW H → Nat
  | .lit (.string bytes) => bytes.length + 1
  | .lit _ => 1
  | .nil => 1
  | .ptr d => uptoBulk d + 1
  | .slice elems spare => uptoBulkAll elems + uptoBulkAll spare + 1
  | .agg parts => uptoBulkAll parts + 1
  | .iface _ d => uptoBulk d + 1
  | .map entries => uptoBulkEntries entries + 1
  | .held _ => 1
def uptoBulkAll {H : Type} : List (DataW H) → Nat
  | [] => 0
  | d :: r => uptoBulk d + uptoBulkAll r
def uptoBulkEntries {H : Type} : List (Lit × DataW H) → Nat
  | [] => 0
  | x :: r => uptoBulkEntry x + uptoBulkEntries r
def uptoBulkEntry {H : Type} : Lit × DataW H → Nat
  | (.string bytes, d) => bytes.length + uptoBulk d + 1
  | (_, d) => uptoBulk d + 1
 end
def uptoSmall : (H : Type) → List (DataW H) → Bool := fun _ ds => decide (uptoBulkAll ds ≤ 1048576)
def OpenSpec.upto (s : _root_.Go.ChangeSpec) : _root_.Go.OpenSpec := { _root_.Go.OpenSpec.ofChange s with cond := some uptoSmall }

/-- 'zoetropelaw23.DrumLasts', WHERE WHAT IT READS IS OF BULK AT MOST 1048576: true; the input reads as it did. -/
def drumLastsUptoRow : OpenClaim := { program := "ytcahlnddcjifdaa", sum := "240c5047963e5c34db71e766c070a20a0439034a626e377b65f8320b54d31758", func := "zoetrope/zoetropelaw23.DrumLasts", spec := "drumLasts", apart := false, narrowed := true }
def DrumLastsUptoSaid : Prop := drumLastsUptoRow.holds Try.pinned (OpenSpec.upto drumLastsSpec)

/-- 'zoetropelaw23.DrumPlays', WHERE WHAT IT READS IS OF BULK AT MOST 1048576: true; the input reads as it did. -/
def drumPlaysUptoRow : OpenClaim := { program := "ytcahlnddcjifdaa", sum := "240c5047963e5c34db71e766c070a20a0439034a626e377b65f8320b54d31758", func := "zoetrope/zoetropelaw23.DrumPlays", spec := "drumPlays", unfollowed := true, recurses := true, apart := false, narrowed := true }
def DrumPlaysUptoSaid : Prop := drumPlaysUptoRow.holds Try.pinned (OpenSpec.upto drumPlaysSpec)

/-- 'zoetropelaw23.DrumNil', WHERE WHAT IT READS IS OF BULK AT MOST 1048576: true; the input reads as it did. -/
def drumNilUptoRow : OpenClaim := { program := "ytcahlnddcjifdaa", sum := "240c5047963e5c34db71e766c070a20a0439034a626e377b65f8320b54d31758", func := "zoetrope/zoetropelaw23.DrumNil", spec := "drumNil", unfollowed := true, recurses := true, apart := false, narrowed := true }
def DrumNilUptoSaid : Prop := drumNilUptoRow.holds Try.pinned (OpenSpec.upto drumNilSpec)

end Rows
end Go.Proofs.Ytcahlnddcjifdaa
