/-
  DERIVED. GIVEN WITH THE SEED: THE CARDS: each row of YtjohhjdicbeojaaGreatDoorRows.lean that lists a variable, with what it lists TIED to the program's text (the seventh form; the later family's looks); each row that meets fmt, with fmt's text TOLD by the authors' own Lean function (tested against real Go, not proved from fmt's source: count such statements apart). THE CARD IS WHAT COUNTS. Prove the row's statement (the work); the ties are given (YtjohhjdicbeojaaGreatDoorTie.lean); close each card by the builder's one call (the guide's Derived/Test/ToyasCard.lean, 'card_holds'). Laid BY PROGRAM, IN A SANDBOX (cutbox-door.mjs). By AI agents, Wed Nov 11 2026. No macro, syntax, notation, axiom, sorry.
-/
import Derived.Test.YtjohhjdicbeojaaGreatDoorRows
import GoSem.ClaimSeven
namespace Go.Proofs.YtjohhjdicbeojaaGreatDoor
namespace Rows

/-- THE TIED CARD OF 'stopcocklaw22.ShellCloses'. -/
def shellClosesCard : Claim7 := { stood := { row := shellClosesRow, standIns := [], harness := (true, "686a650929db8cd807c8844a32629704f98c883d5a136b1a573a32f7e5a08bb6"), looks := true }, kinds := [], alts := [], laidByText := true, laidKinds := [.data, .data, .data, .data, .sentinel, .sentinel, .pinned], laidTests := true, laidLooks := .later }
def ShellClosesCardSaid : Prop := Claim7.holds Tryz.pinned (.plain (OpenSpec.ofChange shellClosesSpec)) shellClosesCard

/-- THE TIED CARD OF 'stopcocklaw22.ShellNone'. -/
def shellNoneCard : Claim7 := { stood := { row := shellNoneRow, standIns := [], harness := (true, "686a650929db8cd807c8844a32629704f98c883d5a136b1a573a32f7e5a08bb6"), looks := true }, kinds := [], alts := [], laidByText := true, laidKinds := [.data, .data, .data, .data, .sentinel, .sentinel, .pinned], laidTests := true, laidLooks := .later }
def ShellNoneCardSaid : Prop := Claim7.holds Tryz.pinned (.plain (OpenSpec.ofChange shellNoneSpec)) shellNoneCard

/-- THE SECOND FORM's CARD OF 'stopcocklaw22.ShellCloses'. -/
def shellClosesUptoCard : Claim7 := { stood := { row := shellClosesUptoRow, standIns := [], harness := (true, "686a650929db8cd807c8844a32629704f98c883d5a136b1a573a32f7e5a08bb6"), looks := true }, kinds := [], alts := [], laidByText := true, laidKinds := [.data, .data, .data, .data, .sentinel, .sentinel, .pinned], laidTests := true, laidLooks := .later }
def ShellClosesUptoCardSaid : Prop := Claim7.holds Tryz.pinned (.plain (OpenSpec.upto shellClosesSpec)) shellClosesUptoCard

/-- THE SECOND FORM's CARD OF 'stopcocklaw22.ShellNone'. -/
def shellNoneUptoCard : Claim7 := { stood := { row := shellNoneUptoRow, standIns := [], harness := (true, "686a650929db8cd807c8844a32629704f98c883d5a136b1a573a32f7e5a08bb6"), looks := true }, kinds := [], alts := [], laidByText := true, laidKinds := [.data, .data, .data, .data, .sentinel, .sentinel, .pinned], laidTests := true, laidLooks := .later }
def ShellNoneUptoCardSaid : Prop := Claim7.holds Tryz.pinned (.plain (OpenSpec.upto shellNoneSpec)) shellNoneUptoCard
end Rows
end Go.Proofs.YtjohhjdicbeojaaGreatDoor
