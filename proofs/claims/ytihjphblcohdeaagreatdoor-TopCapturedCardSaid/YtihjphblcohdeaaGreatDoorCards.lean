/-
  DERIVED. GIVEN WITH THE SEED: THE CARDS: each row of YtihjphblcohdeaaGreatDoorRows.lean that lists a variable, with what it lists TIED to the program's text (the seventh form; the later family's looks); each row that meets fmt, with fmt's text TOLD by the authors' own Lean function (tested against real Go, not proved from fmt's source: count such statements apart). THE CARD IS WHAT COUNTS. Prove the row's statement (the work); the ties are given (YtihjphblcohdeaaGreatDoorTie.lean); close each card by the builder's one call (the guide's Derived/Test/ToyasCard.lean, 'card_holds'). Laid BY PROGRAM, IN A SANDBOX (cutbox-door.mjs). By AI agents, Wed Nov 11 2026. No macro, syntax, notation, axiom, sorry.
-/
import Derived.Test.YtihjphblcohdeaaGreatDoorRows
import GoSem.ClaimSeven
namespace Go.Proofs.YtihjphblcohdeaaGreatDoor
namespace Rows

/-- THE TIED CARD OF 'awardingbodytop.TopStable'. -/
def topStableCard : Claim7 := { stood := { row := topStableRow, standIns := [], harness := (true, "2bd1ed3003f761ec76cef10091ac713fd79425f75f51c05d6023d5d928b89d75"), looks := false }, kinds := [], alts := [], laidByText := true, laidKinds := [.data, .data], laidTests := true, laidLooks := .later }
def TopStableCardSaid : Prop := Claim7.holds Tryz.pinned (.plain (OpenSpec.ofChange topStableSpec)) topStableCard

/-- THE TIED CARD OF 'awardingbodytop.TopResolved'. -/
def topResolvedCard : Claim7 := { stood := { row := topResolvedRow, standIns := [], harness := (true, "2bd1ed3003f761ec76cef10091ac713fd79425f75f51c05d6023d5d928b89d75"), looks := false }, kinds := [], alts := [], laidByText := true, laidKinds := [.data, .data], laidTests := true, laidLooks := .later }
def TopResolvedCardSaid : Prop := Claim7.holds Tryz.pinned (.plain (OpenSpec.ofChange topResolvedSpec)) topResolvedCard

/-- THE TIED CARD OF 'awardingbodytop.TopCaptured'. -/
def topCapturedCard : Claim7 := { stood := { row := topCapturedRow, standIns := [], harness := (true, "2bd1ed3003f761ec76cef10091ac713fd79425f75f51c05d6023d5d928b89d75"), looks := false }, kinds := [], alts := [], laidByText := true, laidKinds := [.data, .data], laidTests := true, laidLooks := .later }
def TopCapturedCardSaid : Prop := Claim7.holds Tryz.pinned (.plain (OpenSpec.ofChange topCapturedSpec)) topCapturedCard

/-- THE SECOND FORM's CARD OF 'awardingbodytop.TopStable'. -/
def topStableUptoCard : Claim7 := { stood := { row := topStableUptoRow, standIns := [], harness := (true, "2bd1ed3003f761ec76cef10091ac713fd79425f75f51c05d6023d5d928b89d75"), looks := false }, kinds := [], alts := [], laidByText := true, laidKinds := [.data, .data], laidTests := true, laidLooks := .later }
def TopStableUptoCardSaid : Prop := Claim7.holds Tryz.pinned (.plain (OpenSpec.upto topStableSpec)) topStableUptoCard

/-- THE SECOND FORM's CARD OF 'awardingbodytop.TopResolved'. -/
def topResolvedUptoCard : Claim7 := { stood := { row := topResolvedUptoRow, standIns := [], harness := (true, "2bd1ed3003f761ec76cef10091ac713fd79425f75f51c05d6023d5d928b89d75"), looks := false }, kinds := [], alts := [], laidByText := true, laidKinds := [.data, .data], laidTests := true, laidLooks := .later }
def TopResolvedUptoCardSaid : Prop := Claim7.holds Tryz.pinned (.plain (OpenSpec.upto topResolvedSpec)) topResolvedUptoCard

/-- THE SECOND FORM's CARD OF 'awardingbodytop.TopCaptured'. -/
def topCapturedUptoCard : Claim7 := { stood := { row := topCapturedUptoRow, standIns := [], harness := (true, "2bd1ed3003f761ec76cef10091ac713fd79425f75f51c05d6023d5d928b89d75"), looks := false }, kinds := [], alts := [], laidByText := true, laidKinds := [.data, .data], laidTests := true, laidLooks := .later }
def TopCapturedUptoCardSaid : Prop := Claim7.holds Tryz.pinned (.plain (OpenSpec.upto topCapturedSpec)) topCapturedUptoCard
end Rows
end Go.Proofs.YtihjphblcohdeaaGreatDoor
