/-
  DERIVED. GIVEN WITH THE SEED: THE CARDS: each row of YtlhppfdokgeijaaDoorRows.lean that lists a variable, with what it lists TIED to the program's text (the seventh form; the later family's looks); each row that meets fmt, with fmt's text TOLD by the authors' own Lean function (tested against real Go, not proved from fmt's source: count such statements apart). THE CARD IS WHAT COUNTS. Prove the row's statement (the work); the ties are given (YtlhppfdokgeijaaDoorTie.lean); close each card by the builder's one call (the guide's Derived/Test/ToyasCard.lean, 'card_holds'). Laid BY PROGRAM, IN A SANDBOX (cutbox-door.mjs). By AI agents, Wed Nov 11 2026. No macro, syntax, notation, axiom, sorry.
-/
import Derived.Test.YtlhppfdokgeijaaDoorRows
import GoSem.ClaimSeven
namespace Go.Proofs.YtlhppfdokgeijaaDoor
namespace Rows

/-- THE TIED CARD OF 'zoetropelaw01.FixProducts'. -/
def fixProductsCard : Claim7 := { stood := { row := fixProductsRow, standIns := [], harness := (true, "9fa49c4403147bc7638b76889cfb04ada94221e23ef18de425e945857b1cd4bc"), looks := true }, kinds := [], alts := [], laidByText := true, laidKinds := [.data, .data, .data], laidTests := true, laidLooks := .later }
def FixProductsCardSaid : Prop := Claim7.holds Tryd.pinned (.plain (OpenSpec.ofChange fixProductsSpec)) fixProductsCard

/-- THE TIED CARD OF 'zoetropelaw01.FixRoots'. -/
def fixRootsCard : Claim7 := { stood := { row := fixRootsRow, standIns := [], harness := (true, "9fa49c4403147bc7638b76889cfb04ada94221e23ef18de425e945857b1cd4bc"), looks := true }, kinds := [], alts := [], laidByText := true, laidKinds := [.data, .data, .data], laidTests := true, laidLooks := .later }
def FixRootsCardSaid : Prop := Claim7.holds Tryd.pinned (.plain (OpenSpec.ofChange fixRootsSpec)) fixRootsCard

/-- THE TIED CARD OF 'zoetropelaw01.FixRises'. -/
def fixRisesCard : Claim7 := { stood := { row := fixRisesRow, standIns := [], harness := (true, "9fa49c4403147bc7638b76889cfb04ada94221e23ef18de425e945857b1cd4bc"), looks := true }, kinds := [], alts := [], laidByText := true, laidKinds := [.data, .data, .data], laidTests := true, laidLooks := .later }
def FixRisesCardSaid : Prop := Claim7.holds Tryd.pinned (.plain (OpenSpec.ofChange fixRisesSpec)) fixRisesCard

/-- THE TIED CARD OF 'zoetropelaw01.FixSums'. -/
def fixSumsCard : Claim7 := { stood := { row := fixSumsRow, standIns := [], harness := (true, "9fa49c4403147bc7638b76889cfb04ada94221e23ef18de425e945857b1cd4bc"), looks := true }, kinds := [], alts := [], laidByText := true, laidKinds := [.data, .data, .data], laidTests := true, laidLooks := .later }
def FixSumsCardSaid : Prop := Claim7.holds Tryd.pinned (.plain (OpenSpec.ofChange fixSumsSpec)) fixSumsCard

/-- THE TIED CARD OF 'zoetropelaw01.FixParts'. -/
def fixPartsCard : Claim7 := { stood := { row := fixPartsRow, standIns := [], harness := (true, "9fa49c4403147bc7638b76889cfb04ada94221e23ef18de425e945857b1cd4bc"), looks := true }, kinds := [], alts := [], laidByText := true, laidKinds := [.data, .data, .data], laidTests := true, laidLooks := .later }
def FixPartsCardSaid : Prop := Claim7.holds Tryd.pinned (.plain (OpenSpec.ofChange fixPartsSpec)) fixPartsCard

/-- THE TIED CARD OF 'zoetropelaw01.FixLists'. -/
def fixListsCard : Claim7 := { stood := { row := fixListsRow, standIns := [], harness := (true, "9fa49c4403147bc7638b76889cfb04ada94221e23ef18de425e945857b1cd4bc"), looks := true }, kinds := [], alts := [], laidByText := true, laidKinds := [.data, .data, .data], laidTests := true, laidLooks := .later }
def FixListsCardSaid : Prop := Claim7.holds Tryd.pinned (.plain (OpenSpec.ofChange fixListsSpec)) fixListsCard

/-- THE TIED CARD OF 'zoetropelaw01.FixTexts'. -/
def fixTextsCard : Claim7 := { stood := { row := fixTextsRow, standIns := [], harness := (true, "9fa49c4403147bc7638b76889cfb04ada94221e23ef18de425e945857b1cd4bc"), looks := true }, kinds := [], alts := [], laidByText := true, laidKinds := [.data, .data, .data, .sentinel, .sentinel], laidTests := true, laidLooks := .later }
def FixTextsCardSaid : Prop := Claim7.holds Tryd.pinned (.plain (OpenSpec.ofChange fixTextsSpec)) fixTextsCard

/-- THE SECOND FORM's CARD OF 'zoetropelaw01.FixProducts'. -/
def fixProductsUptoCard : Claim7 := { stood := { row := fixProductsUptoRow, standIns := [], harness := (true, "9fa49c4403147bc7638b76889cfb04ada94221e23ef18de425e945857b1cd4bc"), looks := true }, kinds := [], alts := [], laidByText := true, laidKinds := [.data, .data, .data], laidTests := true, laidLooks := .later }
def FixProductsUptoCardSaid : Prop := Claim7.holds Tryd.pinned (.plain (OpenSpec.upto fixProductsSpec)) fixProductsUptoCard

/-- THE SECOND FORM's CARD OF 'zoetropelaw01.FixRoots'. -/
def fixRootsUptoCard : Claim7 := { stood := { row := fixRootsUptoRow, standIns := [], harness := (true, "9fa49c4403147bc7638b76889cfb04ada94221e23ef18de425e945857b1cd4bc"), looks := true }, kinds := [], alts := [], laidByText := true, laidKinds := [.data, .data, .data], laidTests := true, laidLooks := .later }
def FixRootsUptoCardSaid : Prop := Claim7.holds Tryd.pinned (.plain (OpenSpec.upto fixRootsSpec)) fixRootsUptoCard

/-- THE SECOND FORM's CARD OF 'zoetropelaw01.FixRises'. -/
def fixRisesUptoCard : Claim7 := { stood := { row := fixRisesUptoRow, standIns := [], harness := (true, "9fa49c4403147bc7638b76889cfb04ada94221e23ef18de425e945857b1cd4bc"), looks := true }, kinds := [], alts := [], laidByText := true, laidKinds := [.data, .data, .data], laidTests := true, laidLooks := .later }
def FixRisesUptoCardSaid : Prop := Claim7.holds Tryd.pinned (.plain (OpenSpec.upto fixRisesSpec)) fixRisesUptoCard

/-- THE SECOND FORM's CARD OF 'zoetropelaw01.FixSums'. -/
def fixSumsUptoCard : Claim7 := { stood := { row := fixSumsUptoRow, standIns := [], harness := (true, "9fa49c4403147bc7638b76889cfb04ada94221e23ef18de425e945857b1cd4bc"), looks := true }, kinds := [], alts := [], laidByText := true, laidKinds := [.data, .data, .data], laidTests := true, laidLooks := .later }
def FixSumsUptoCardSaid : Prop := Claim7.holds Tryd.pinned (.plain (OpenSpec.upto fixSumsSpec)) fixSumsUptoCard

/-- THE SECOND FORM's CARD OF 'zoetropelaw01.FixParts'. -/
def fixPartsUptoCard : Claim7 := { stood := { row := fixPartsUptoRow, standIns := [], harness := (true, "9fa49c4403147bc7638b76889cfb04ada94221e23ef18de425e945857b1cd4bc"), looks := true }, kinds := [], alts := [], laidByText := true, laidKinds := [.data, .data, .data], laidTests := true, laidLooks := .later }
def FixPartsUptoCardSaid : Prop := Claim7.holds Tryd.pinned (.plain (OpenSpec.upto fixPartsSpec)) fixPartsUptoCard

/-- THE SECOND FORM's CARD OF 'zoetropelaw01.FixLists'. -/
def fixListsUptoCard : Claim7 := { stood := { row := fixListsUptoRow, standIns := [], harness := (true, "9fa49c4403147bc7638b76889cfb04ada94221e23ef18de425e945857b1cd4bc"), looks := true }, kinds := [], alts := [], laidByText := true, laidKinds := [.data, .data, .data], laidTests := true, laidLooks := .later }
def FixListsUptoCardSaid : Prop := Claim7.holds Tryd.pinned (.plain (OpenSpec.upto fixListsSpec)) fixListsUptoCard

/-- THE SECOND FORM's CARD OF 'zoetropelaw01.FixTexts'. -/
def fixTextsUptoCard : Claim7 := { stood := { row := fixTextsUptoRow, standIns := [], harness := (true, "9fa49c4403147bc7638b76889cfb04ada94221e23ef18de425e945857b1cd4bc"), looks := true }, kinds := [], alts := [], laidByText := true, laidKinds := [.data, .data, .data, .sentinel, .sentinel], laidTests := true, laidLooks := .later }
def FixTextsUptoCardSaid : Prop := Claim7.holds Tryd.pinned (.plain (OpenSpec.upto fixTextsSpec)) fixTextsUptoCard
end Rows
end Go.Proofs.YtlhppfdokgeijaaDoor
