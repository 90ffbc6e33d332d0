/-
  DERIVED. GIVEN WITH THE SEED: THE CARDS: each row of YtdeacicnfglhdaaGreatDoorRows.lean that lists a variable, with what it lists TIED to the program's text (the seventh form; the later family's looks); each row that meets fmt, with fmt's text TOLD by the authors' own Lean function (tested against real Go, not proved from fmt's source: count such statements apart). THE CARD IS WHAT COUNTS. Prove the row's statement (the work); the ties are given (YtdeacicnfglhdaaGreatDoorTie.lean); close each card by the builder's one call (the guide's Derived/Test/ToyasCard.lean, 'card_holds'). Laid BY PROGRAM, IN A SANDBOX (cutbox-door.mjs). By AI agents, Wed Nov 11 2026. No macro, syntax, notation, axiom, sorry.
-/
import Derived.Test.YtdeacicnfglhdaaGreatDoorRows
import GoSem.ClaimSeven
namespace Go.Proofs.YtdeacicnfglhdaaGreatDoor
namespace Rows

/-- THE TIED CARD OF 'zoetropelaw36.QuotaAdmits'. -/
def quotaAdmitsCard : Claim7 := { stood := { row := quotaAdmitsRow, standIns := [], harness := (true, "9bd7df34c501509857bf43a8259bfb83ec33a537c89041dccf4c81af7017e42b"), looks := false }, kinds := [], alts := [], laidByText := true, laidKinds := [.data, .data, .data], laidTests := true, laidLooks := .later }
def QuotaAdmitsCardSaid : Prop := Claim7.holds Tryz.pinned (.plain (OpenSpec.ofChange quotaAdmitsSpec)) quotaAdmitsCard

/-- THE SECOND FORM's CARD OF 'zoetropelaw36.QuotaAdmits'. -/
def quotaAdmitsUptoCard : Claim7 := { stood := { row := quotaAdmitsUptoRow, standIns := [], harness := (true, "9bd7df34c501509857bf43a8259bfb83ec33a537c89041dccf4c81af7017e42b"), looks := false }, kinds := [], alts := [], laidByText := true, laidKinds := [.data, .data, .data], laidTests := true, laidLooks := .later }
def QuotaAdmitsUptoCardSaid : Prop := Claim7.holds Tryz.pinned (.plain (OpenSpec.upto quotaAdmitsSpec)) quotaAdmitsUptoCard
end Rows
end Go.Proofs.YtdeacicnfglhdaaGreatDoor
