/-
  DERIVED. GIVEN WITH THE SEED: THE CARDS: each row of YtikhphdimgcbkaaGreatDoorRows.lean that lists a variable, with what it lists TIED to the program's text (the seventh form; the later family's looks); each row that meets fmt, with fmt's text TOLD by the authors' own Lean function (tested against real Go, not proved from fmt's source: count such statements apart). THE CARD IS WHAT COUNTS. Prove the row's statement (the work); the ties are given (YtikhphdimgcbkaaGreatDoorTie.lean); close each card by the builder's one call (the guide's Derived/Test/ToyasCard.lean, 'card_holds'). Laid BY PROGRAM, IN A SANDBOX (cutbox-door.mjs). By AI agents, Wed Nov 11 2026. No macro, syntax, notation, axiom, sorry.
-/
import Derived.Test.YtikhphdimgcbkaaGreatDoorRows
import GoSem.ClaimSeven
namespace Go.Proofs.YtikhphdimgcbkaaGreatDoor
namespace Rows

/-- THE TIED CARD OF 'metronomelaw27.HarnessDiffers'. -/
def harnessDiffersCard : Claim7 := { stood := { row := harnessDiffersRow, standIns := [], harness := (true, "5defecef22ceee6678094bdfeb924678600766a789a823c3af945f7fe2fb57a7"), looks := true }, kinds := [], alts := [], laidByText := true, laidKinds := [.data, .data, .data], laidTests := true, laidLooks := .later }
def HarnessDiffersCardSaid : Prop := Claim7.holds Tryz.pinned (.plain (OpenSpec.ofChange harnessDiffersSpec)) harnessDiffersCard

/-- THE SECOND FORM's CARD OF 'metronomelaw27.HarnessDiffers'. -/
def harnessDiffersUptoCard : Claim7 := { stood := { row := harnessDiffersUptoRow, standIns := [], harness := (true, "5defecef22ceee6678094bdfeb924678600766a789a823c3af945f7fe2fb57a7"), looks := true }, kinds := [], alts := [], laidByText := true, laidKinds := [.data, .data, .data], laidTests := true, laidLooks := .later }
def HarnessDiffersUptoCardSaid : Prop := Claim7.holds Tryz.pinned (.plain (OpenSpec.upto harnessDiffersSpec)) harnessDiffersUptoCard
end Rows
end Go.Proofs.YtikhphdimgcbkaaGreatDoor
