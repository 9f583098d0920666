/-
  DERIVED. GIVEN WITH THE SEED: THE CARDS: each row of YtbghbfgbpdppeaaGreatDoorRows.lean that lists a variable, with what it lists TIED to the program's text (the seventh form; the later family's looks); each row that meets fmt, with fmt's text TOLD by the authors' own Lean function (tested against real Go, not proved from fmt's source: count such statements apart). THE CARD IS WHAT COUNTS. Prove the row's statement (the work); the ties are given (YtbghbfgbpdppeaaGreatDoorTie.lean); close each card by the builder's one call (the guide's Derived/Test/ToyasCard.lean, 'card_holds'). Laid BY PROGRAM, IN A SANDBOX (cutbox-door.mjs). By AI agents, Wed Nov 11 2026. No macro, syntax, notation, axiom, sorry.
-/
import Derived.Test.YtbghbfgbpdppeaaGreatDoorRows
import GoSem.ClaimSeven
namespace Go.Proofs.YtbghbfgbpdppeaaGreatDoor
namespace Rows

/-- THE TIED CARD OF 'umlautlaw13.CastRounds'. -/
def castRoundsCard : Claim7 := { stood := { row := castRoundsRow, standIns := [], harness := (true, "d781bcf5321edfd391468105a752711ce3858c9b6726fd14142d3d5a3ce0395b"), looks := true }, kinds := [], alts := [], laidByText := true, laidKinds := [.data, .data, .data, .data, .sentinel, .sentinel, .pinned], laidTests := true, laidLooks := .later }
def CastRoundsCardSaid : Prop := Claim7.holds Tryz.pinned (.plain (OpenSpec.ofChange castRoundsSpec)) castRoundsCard

/-- THE TIED CARD OF 'umlautlaw13.CastMay'. -/
def castMayCard : Claim7 := { stood := { row := castMayRow, standIns := [], harness := (true, "d781bcf5321edfd391468105a752711ce3858c9b6726fd14142d3d5a3ce0395b"), looks := true }, kinds := [], alts := [], laidByText := true, laidKinds := [.data, .data, .data, .data, .sentinel, .sentinel, .pinned], laidTests := true, laidLooks := .later }
def CastMayCardSaid : Prop := Claim7.holds Tryz.pinned (.plain (OpenSpec.ofChange castMaySpec)) castMayCard

/-- THE TIED CARD OF 'umlautlaw13.CastBits'. -/
def castBitsCard : Claim7 := { stood := { row := castBitsRow, standIns := [], harness := (true, "d781bcf5321edfd391468105a752711ce3858c9b6726fd14142d3d5a3ce0395b"), looks := true }, kinds := [], alts := [], laidByText := true, laidKinds := [.data, .data, .data, .data, .sentinel, .sentinel, .pinned], laidTests := true, laidLooks := .later }
def CastBitsCardSaid : Prop := Claim7.holds Tryz.pinned (.plain (OpenSpec.ofChange castBitsSpec)) castBitsCard

/-- THE TIED CARD OF 'umlautlaw13.CastWidths'. -/
def castWidthsCard : Claim7 := { stood := { row := castWidthsRow, standIns := [], harness := (true, "d781bcf5321edfd391468105a752711ce3858c9b6726fd14142d3d5a3ce0395b"), looks := true }, kinds := [], alts := [], laidByText := true, laidKinds := [.data, .data, .data, .data, .sentinel, .sentinel, .pinned], laidTests := true, laidLooks := .later }
def CastWidthsCardSaid : Prop := Claim7.holds Tryz.pinned (.plain (OpenSpec.ofChange castWidthsSpec)) castWidthsCard

/-- THE SECOND FORM's CARD OF 'umlautlaw13.CastRounds'. -/
def castRoundsUptoCard : Claim7 := { stood := { row := castRoundsUptoRow, standIns := [], harness := (true, "d781bcf5321edfd391468105a752711ce3858c9b6726fd14142d3d5a3ce0395b"), looks := true }, kinds := [], alts := [], laidByText := true, laidKinds := [.data, .data, .data, .data, .sentinel, .sentinel, .pinned], laidTests := true, laidLooks := .later }
def CastRoundsUptoCardSaid : Prop := Claim7.holds Tryz.pinned (.plain (OpenSpec.upto castRoundsSpec)) castRoundsUptoCard

/-- THE SECOND FORM's CARD OF 'umlautlaw13.CastMay'. -/
def castMayUptoCard : Claim7 := { stood := { row := castMayUptoRow, standIns := [], harness := (true, "d781bcf5321edfd391468105a752711ce3858c9b6726fd14142d3d5a3ce0395b"), looks := true }, kinds := [], alts := [], laidByText := true, laidKinds := [.data, .data, .data, .data, .sentinel, .sentinel, .pinned], laidTests := true, laidLooks := .later }
def CastMayUptoCardSaid : Prop := Claim7.holds Tryz.pinned (.plain (OpenSpec.upto castMaySpec)) castMayUptoCard

/-- THE SECOND FORM's CARD OF 'umlautlaw13.CastBits'. -/
def castBitsUptoCard : Claim7 := { stood := { row := castBitsUptoRow, standIns := [], harness := (true, "d781bcf5321edfd391468105a752711ce3858c9b6726fd14142d3d5a3ce0395b"), looks := true }, kinds := [], alts := [], laidByText := true, laidKinds := [.data, .data, .data, .data, .sentinel, .sentinel, .pinned], laidTests := true, laidLooks := .later }
def CastBitsUptoCardSaid : Prop := Claim7.holds Tryz.pinned (.plain (OpenSpec.upto castBitsSpec)) castBitsUptoCard

/-- THE SECOND FORM's CARD OF 'umlautlaw13.CastWidths'. -/
def castWidthsUptoCard : Claim7 := { stood := { row := castWidthsUptoRow, standIns := [], harness := (true, "d781bcf5321edfd391468105a752711ce3858c9b6726fd14142d3d5a3ce0395b"), looks := true }, kinds := [], alts := [], laidByText := true, laidKinds := [.data, .data, .data, .data, .sentinel, .sentinel, .pinned], laidTests := true, laidLooks := .later }
def CastWidthsUptoCardSaid : Prop := Claim7.holds Tryz.pinned (.plain (OpenSpec.upto castWidthsSpec)) castWidthsUptoCard
end Rows
end Go.Proofs.YtbghbfgbpdppeaaGreatDoor
