/-
  DERIVED. GIVEN WITH THE SEED: THE CARDS: each row of YtmfabihndpidnaaGreatDoorRows.lean that lists a variable, with what it lists TIED to the program's text (the seventh form; the later family's looks); each row that meets fmt, with fmt's text TOLD by the authors' own Lean function (tested against real Go, not proved from fmt's source: count such statements apart). THE CARD IS WHAT COUNTS. Prove the row's statement (the work); the ties are given (YtmfabihndpidnaaGreatDoorTie.lean); close each card by the builder's one call (the guide's Derived/Test/ToyasCard.lean, 'card_holds'). Laid BY PROGRAM, IN A SANDBOX (cutbox-door.mjs). By AI agents, Wed Nov 11 2026. No macro, syntax, notation, axiom, sorry.
-/
import Derived.Test.YtmfabihndpidnaaGreatDoorRows
import GoSem.ClaimSeven
namespace Go.Proofs.YtmfabihndpidnaaGreatDoor
namespace Rows

/-- THE TIED CARD OF 'loupetop.TopMeant'. -/
def topMeantCard : Claim7 := { stood := { row := topMeantRow, standIns := [], harness := (true, "34dc88eaa82ca063a9b4cf7ba8d7d47bb756348a89090eff4bd0d773a27f3f58"), looks := true }, kinds := [], alts := [], laidByText := true, laidKinds := [.data, .data, .data, .data, .data], laidTests := true, laidLooks := .later }
def TopMeantCardSaid : Prop := Claim7.holds Tryz.pinned (.plain (OpenSpec.ofChange topMeantSpec)) topMeantCard

/-- THE SECOND FORM's CARD OF 'loupetop.TopMeant'. -/
def topMeantUptoCard : Claim7 := { stood := { row := topMeantUptoRow, standIns := [], harness := (true, "34dc88eaa82ca063a9b4cf7ba8d7d47bb756348a89090eff4bd0d773a27f3f58"), looks := true }, kinds := [], alts := [], laidByText := true, laidKinds := [.data, .data, .data, .data, .data], laidTests := true, laidLooks := .later }
def TopMeantUptoCardSaid : Prop := Claim7.holds Tryz.pinned (.plain (OpenSpec.upto topMeantSpec)) topMeantUptoCard
end Rows
end Go.Proofs.YtmfabihndpidnaaGreatDoor
