/-
  DERIVED. GIVEN WITH THE SEED: THE CARDS: each row of YtbigijnadkeecaaDoorRows.lean that lists a variable, with what it lists TIED to the program's text (the seventh form; the later family's looks); each row that meets fmt, with fmt's text TOLD by the authors' own Lean function (tested against real Go, not proved from fmt's source: count such statements apart). THE CARD IS WHAT COUNTS. Prove the row's statement (the work); the ties are given (YtbigijnadkeecaaDoorTie.lean); close each card by the builder's one call (the guide's Derived/Test/ToyasCard.lean, 'card_holds'). Laid BY PROGRAM, IN A SANDBOX (cutbox-door.mjs). By AI agents, Wed Nov 11 2026. No macro, syntax, notation, axiom, sorry.
-/
import Derived.Test.YtbigijnadkeecaaDoorRows
import GoSem.ClaimSeven
namespace Go.Proofs.YtbigijnadkeecaaDoor
namespace Rows

/-- THE TIED CARD OF 'zoetropelaw21.PlateShows'. -/
def plateShowsCard : Claim7 := { stood := { row := plateShowsRow, standIns := [], harness := (true, "81f411bbde8ef69ec95bdbde372ae497e516c01526e347061d0e2c9ef2f1d870"), looks := true }, kinds := [], alts := [], laidByText := true, laidKinds := [.data, .data, .data], laidTests := true, laidLooks := .later }
def PlateShowsCardSaid : Prop := Claim7.holds Tryd.pinned (.plain (OpenSpec.ofChange plateShowsSpec)) plateShowsCard

/-- THE TIED CARD OF 'zoetropelaw21.PlateFiles'. -/
def plateFilesCard : Claim7 := { stood := { row := plateFilesRow, standIns := [], harness := (true, "81f411bbde8ef69ec95bdbde372ae497e516c01526e347061d0e2c9ef2f1d870"), looks := true }, kinds := [], alts := [], laidByText := true, laidKinds := [.data, .data, .data, .sentinel, .sentinel], laidTests := true, laidLooks := .later }
def PlateFilesCardSaid : Prop := Claim7.holds Tryd.pinned (.plain (OpenSpec.ofChange plateFilesSpec)) plateFilesCard

/-- THE TIED CARD OF 'zoetropelaw21.PlateBack'. -/
def plateBackCard : Claim7 := { stood := { row := plateBackRow, standIns := [], harness := (true, "81f411bbde8ef69ec95bdbde372ae497e516c01526e347061d0e2c9ef2f1d870"), looks := true }, kinds := [], alts := [], laidByText := true, laidKinds := [.data, .data, .data, .sentinel, .sentinel], laidTests := true, laidLooks := .later }
def PlateBackCardSaid : Prop := Claim7.holds Tryd.pinned (.plain (OpenSpec.ofChange plateBackSpec)) plateBackCard

/-- THE SECOND FORM's CARD OF 'zoetropelaw21.PlateShows'. -/
def plateShowsUptoCard : Claim7 := { stood := { row := plateShowsUptoRow, standIns := [], harness := (true, "81f411bbde8ef69ec95bdbde372ae497e516c01526e347061d0e2c9ef2f1d870"), looks := true }, kinds := [], alts := [], laidByText := true, laidKinds := [.data, .data, .data], laidTests := true, laidLooks := .later }
def PlateShowsUptoCardSaid : Prop := Claim7.holds Tryd.pinned (.plain (OpenSpec.upto plateShowsSpec)) plateShowsUptoCard

/-- THE SECOND FORM's CARD OF 'zoetropelaw21.PlateFiles'. -/
def plateFilesUptoCard : Claim7 := { stood := { row := plateFilesUptoRow, standIns := [], harness := (true, "81f411bbde8ef69ec95bdbde372ae497e516c01526e347061d0e2c9ef2f1d870"), looks := true }, kinds := [], alts := [], laidByText := true, laidKinds := [.data, .data, .data, .sentinel, .sentinel], laidTests := true, laidLooks := .later }
def PlateFilesUptoCardSaid : Prop := Claim7.holds Tryd.pinned (.plain (OpenSpec.upto plateFilesSpec)) plateFilesUptoCard

/-- THE SECOND FORM's CARD OF 'zoetropelaw21.PlateBack'. -/
def plateBackUptoCard : Claim7 := { stood := { row := plateBackUptoRow, standIns := [], harness := (true, "81f411bbde8ef69ec95bdbde372ae497e516c01526e347061d0e2c9ef2f1d870"), looks := true }, kinds := [], alts := [], laidByText := true, laidKinds := [.data, .data, .data, .sentinel, .sentinel], laidTests := true, laidLooks := .later }
def PlateBackUptoCardSaid : Prop := Claim7.holds Tryd.pinned (.plain (OpenSpec.upto plateBackSpec)) plateBackUptoCard
end Rows
end Go.Proofs.YtbigijnadkeecaaDoor
