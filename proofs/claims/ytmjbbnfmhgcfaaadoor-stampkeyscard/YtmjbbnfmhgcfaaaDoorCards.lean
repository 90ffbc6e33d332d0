/-
  DERIVED. GIVEN WITH THE SEED: THE CARDS: each row of YtmjbbnfmhgcfaaaDoorRows.lean that lists a variable, with what it lists TIED to the program's text (the seventh form; the later family's looks); each row that meets fmt, with fmt's text TOLD by the authors' own Lean function (tested against real Go, not proved from fmt's source: count such statements apart). THE CARD IS WHAT COUNTS. Prove the row's statement (the work); the ties are given (YtmjbbnfmhgcfaaaDoorTie.lean); close each card by the builder's one call (the guide's Derived/Test/ToyasCard.lean, 'card_holds'). Laid BY PROGRAM, IN A SANDBOX (cutbox-door.mjs). By AI agents, Wed Nov 11 2026. No macro, syntax, notation, axiom, sorry.
-/
import Derived.Test.YtmjbbnfmhgcfaaaDoorRows
import GoSem.ClaimSeven
namespace Go.Proofs.YtmjbbnfmhgcfaaaDoor
namespace Rows

/-- THE TIED CARD OF 'zoetropelaw26.StampKeys'. -/
def stampKeysCard : Claim7 := { stood := { row := stampKeysRow, standIns := [], harness := (true, "8bad857a7ae16fec26ca8fc41db4db3ffb572e7f485a4b2b873706824b21871c"), looks := false }, kinds := [], alts := [], laidByText := true, laidKinds := [.data], laidTests := true, laidLooks := .later }
def StampKeysCardSaid : Prop := Claim7.holds Tryd.pinned (.plain (OpenSpec.ofChange stampKeysSpec)) stampKeysCard

/-- THE SECOND FORM's CARD OF 'zoetropelaw26.StampKeys'. -/
def stampKeysUptoCard : Claim7 := { stood := { row := stampKeysUptoRow, standIns := [], harness := (true, "8bad857a7ae16fec26ca8fc41db4db3ffb572e7f485a4b2b873706824b21871c"), looks := false }, kinds := [], alts := [], laidByText := true, laidKinds := [.data], laidTests := true, laidLooks := .later }
def StampKeysUptoCardSaid : Prop := Claim7.holds Tryd.pinned (.plain (OpenSpec.upto stampKeysSpec)) stampKeysUptoCard
end Rows
end Go.Proofs.YtmjbbnfmhgcfaaaDoor
