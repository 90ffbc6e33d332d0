/-
  No cell of these rows narrows 'for every input' (looked for: loops, veiled, ifaces, maps, wideKeys, modest, calm, conditions, laid).
  DERIVED. THE GIVEN ROWS OF THIS SEAT. 3 by the template 'for every input the law returns true; each argument reads behind the call as it read before'; 0 by the template 'total and deterministic' (their statements: YtdkfbbjpblfclaaTotals.lean).
  GIVEN WITH THE SEED: the statements are not yours to turn. If you find one false, say at which input.
  Laid BY PROGRAM, IN A SANDBOX (cutbox-rows.mjs): the forced cells as the released guide's own fill.sh prints them over the translation 072f4a5334e2b53f… (all of the seat's roots in one cut). By AI agents, Wed Nov 11 2026. No macro, syntax, notation, axiom, sorry.
-/
import Derived.Test.YtdkfbbjpblfclaaChecked
import GoSem.Claim
import GoSem.ClaimJoined
import GoSem.ClaimMapViews
import Derived.JoinedTies
import Derived.KernelRfl
namespace Go.Proofs.Ytdkfbbjpblfclaa
/- THE CELL 'sum', in the pinned program and in every row, IS THE sha256 OF THE DUMP (.gsa) THAT YtdkfbbjpblfclaaProg.lean LOADS. Nothing in Lean hashes anything: it is a label: what it is worth is what the hold of that sum in a sandbox is worth. -/
noncomputable def Try.pinned : Pinned := { name := "ytdkfbbjpblfclaa", sum := "072f4a5334e2b53fb744d7f44fb68fdd8354ff74ee0bb1b7290425da627c5119", checked := Try.checked }
namespace Rows
def none {H : Type} : Left H := { results := [], args := [] }

/-- 'zoetropelaw24.VaultRoom': WHATEVER THE INPUT: true; the input reads as it did. -/
def vaultRoomSpec : ChangeSpec := { name := "vaultRoom", fn := fun _ => fun
  | [d1, d2] => { results := [.lit (.bool true)], args := [d1, d2] }
  | _ => none }
def vaultRoomRow : OpenClaim := { program := "ytdkfbbjpblfclaa", sum := "072f4a5334e2b53fb744d7f44fb68fdd8354ff74ee0bb1b7290425da627c5119", func := "zoetrope/zoetropelaw24.VaultRoom", spec := "vaultRoom", unfollowed := true, recurses := true, plainKeys := false, apart := false }
def VaultRoomSaid : Prop := vaultRoomRow.holds Try.pinned (OpenSpec.ofChange vaultRoomSpec)

/-- ITS FALSE NEIGHBOUR: 'it returns false'. Refute it at one input. -/
def vaultRoomWrong : ChangeSpec := { name := "vaultRoom", fn := fun _ => fun
  | [d1, d2] => { results := [.lit (.bool false)], args := [d1, d2] }
  | _ => none }
def VaultRoomWrongFalsely : Prop := vaultRoomRow.holds Try.pinned (OpenSpec.ofChange vaultRoomWrong)

/-- 'zoetropelaw24.VaultWhole': WHATEVER THE INPUT: true; the input reads as it did. -/
def vaultWholeSpec : ChangeSpec := { name := "vaultWhole", fn := fun _ => fun
  | [d] => { results := [.lit (.bool true)], args := [d] }
  | _ => none }
def vaultWholeRow : OpenClaim := { program := "ytdkfbbjpblfclaa", sum := "072f4a5334e2b53fb744d7f44fb68fdd8354ff74ee0bb1b7290425da627c5119", func := "zoetrope/zoetropelaw24.VaultWhole", spec := "vaultWhole", unfollowed := true, recurses := true, plainKeys := false, apart := false }
def VaultWholeSaid : Prop := vaultWholeRow.holds Try.pinned (OpenSpec.ofChange vaultWholeSpec)

/-- ITS FALSE NEIGHBOUR: 'it returns false'. Refute it at one input. -/
def vaultWholeWrong : ChangeSpec := { name := "vaultWhole", fn := fun _ => fun
  | [d] => { results := [.lit (.bool false)], args := [d] }
  | _ => none }
def VaultWholeWrongFalsely : Prop := vaultWholeRow.holds Try.pinned (OpenSpec.ofChange vaultWholeWrong)

/-- 'zoetropelaw24.VaultNil': WHATEVER THE INPUT: true; the input reads as it did. -/
def vaultNilSpec : ChangeSpec := { name := "vaultNil", fn := fun _ => fun
  | [d1, d2, d3] => { results := [.lit (.bool true)], args := [d1, d2, d3] }
  | _ => none }
def vaultNilRow : OpenClaim := { program := "ytdkfbbjpblfclaa", sum := "072f4a5334e2b53fb744d7f44fb68fdd8354ff74ee0bb1b7290425da627c5119", func := "zoetrope/zoetropelaw24.VaultNil", spec := "vaultNil", inPlace := ["internal/bytealg.Compare"], unfollowed := true, recurses := true, plainKeys := false, apart := false }
def VaultNilSaid : Prop := vaultNilRow.holds Try.pinned (OpenSpec.ofChange vaultNilSpec)

/-- ITS FALSE NEIGHBOUR: 'it returns false'. Refute it at one input. -/
def vaultNilWrong : ChangeSpec := { name := "vaultNil", fn := fun _ => fun
  | [d1, d2, d3] => { results := [.lit (.bool false)], args := [d1, d2, d3] }
  | _ => none }
def VaultNilWrongFalsely : Prop := vaultNilRow.holds Try.pinned (OpenSpec.ofChange vaultNilWrong)

/- THE SECOND FORM. 'bulk': how many values and letters a reading holds, each counted each time it is reached (what is shared counts as often as it is met; a slice's spare places count too). A statement '..UptoSaid' is the law's where the arguments, and the package variables that the reading takes, are together of bulk at most 1048576: NARROWER than '..Said'. Prove '..Said' where nothing that the law and all that it calls make is longer than what came in: it says more and counts as full. Else prove '..UptoSaid'. A law counts once. -/
mutual
def uptoBulk {H : Type} : DataW H → Nat
  | .lit (.string bytes) => bytes.length + 1
  | .lit _ => 1
  | .nil => 1
  | .ptr d => uptoBulk d + 1
  | .slice elems spare => uptoBulkAll elems + uptoBulkAll spare + 1
  | .agg parts => uptoBulkAll parts + 1
  | .iface _ d => uptoBulk d + 1
  | .map entries => uptoBulkEntries entries + 1
  | .held _ => 1
def uptoBulkAll {H : Type} : List (DataW H) → Nat
  | [] => 0
  | d :: r => uptoBulk d + uptoBulkAll r
def uptoBulkEntries {H : Type} : List (Lit × DataW H) → Nat
  | [] => 0
  | x :: r => uptoBulkEntry x + uptoBulkEntries r
def uptoBulkEntry {H : Type} : Lit × DataW H → Nat
  | (.string bytes, d) => bytes.length + uptoBulk d + 1
  | (_, d) => uptoBulk d + 1
 end
def uptoSmall : (H : Type) → List (DataW H) → Bool := fun _ ds => decide (uptoBulkAll ds ≤ 1048576)
def OpenSpec.upto (s : _root_.Go.ChangeSpec) : _root_.Go.OpenSpec := { _root_.Go.OpenSpec.ofChange s with cond := some uptoSmall }

/-- 'zoetropelaw24.VaultRoom', WHERE WHAT IT READS IS OF BULK AT MOST 1048576: true; the input reads as it did. -/
def vaultRoomUptoRow : OpenClaim := { program := "ytdkfbbjpblfclaa", sum := "072f4a5334e2b53fb744d7f44fb68fdd8354ff74ee0bb1b7290425da627c5119", func := "zoetrope/zoetropelaw24.VaultRoom", spec := "vaultRoom", unfollowed := true, recurses := true, plainKeys := false, apart := false, narrowed := true }
def VaultRoomUptoSaid : Prop := vaultRoomUptoRow.holds Try.pinned (OpenSpec.upto vaultRoomSpec)

/-- 'zoetropelaw24.VaultWhole', WHERE WHAT IT READS IS OF BULK AT MOST 1048576: true; the input reads as it did. -/
def vaultWholeUptoRow : OpenClaim := { program := "ytdkfbbjpblfclaa", sum := "072f4a5334e2b53fb744d7f44fb68fdd8354ff74ee0bb1b7290425da627c5119", func := "zoetrope/zoetropelaw24.VaultWhole", spec := "vaultWhole", unfollowed := true, recurses := true, plainKeys := false, apart := false, narrowed := true }
def VaultWholeUptoSaid : Prop := vaultWholeUptoRow.holds Try.pinned (OpenSpec.upto vaultWholeSpec)

/-- 'zoetropelaw24.VaultNil', WHERE WHAT IT READS IS OF BULK AT MOST 1048576: true; the input reads as it did. -/
def vaultNilUptoRow : OpenClaim := { program := "ytdkfbbjpblfclaa", sum := "072f4a5334e2b53fb744d7f44fb68fdd8354ff74ee0bb1b7290425da627c5119", func := "zoetrope/zoetropelaw24.VaultNil", spec := "vaultNil", inPlace := ["internal/bytealg.Compare"], unfollowed := true, recurses := true, plainKeys := false, apart := false, narrowed := true }
def VaultNilUptoSaid : Prop := vaultNilUptoRow.holds Try.pinned (OpenSpec.upto vaultNilSpec)

end Rows
end Go.Proofs.Ytdkfbbjpblfclaa
