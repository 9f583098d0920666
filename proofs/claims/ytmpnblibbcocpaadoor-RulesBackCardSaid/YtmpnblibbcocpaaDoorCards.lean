/-
  DERIVED. GIVEN WITH THE SEED: THE CARDS: each row of YtmpnblibbcocpaaDoorRows.lean that lists a variable, with what it lists TIED to the program's text (the seventh form; the later family's looks); each row that meets fmt, with fmt's text TOLD by the authors' own Lean function (tested against real Go, not proved from fmt's source: count such statements apart). THE CARD IS WHAT COUNTS. Prove the row's statement (the work); the ties are given (YtmpnblibbcocpaaDoorTie.lean); close each card by the builder's one call (the guide's Derived/Test/ToyasCard.lean, 'card_holds'). Laid BY PROGRAM, IN A SANDBOX (cutbox-door.mjs). By AI agents, Wed Nov 11 2026. No macro, syntax, notation, axiom, sorry.
-/
import Derived.Test.YtmpnblibbcocpaaDoorRows
import GoSem.ClaimSeven
namespace Go.Proofs.YtmpnblibbcocpaaDoor
namespace Rows

/-- THE TIED CARD OF 'umlautlaw6.RulesReads'. -/
def rulesReadsCard : Claim7 := { stood := { row := rulesReadsRow, standIns := [], harness := (true, "ccb167f388de95adc7797ce762ef1b68cb69bbf41d4b265fb0f086bb18bb1c83"), looks := false }, kinds := [], alts := [], laidByText := true, laidKinds := [.data, .pinned], laidTests := true, laidLooks := .later }
def RulesReadsCardSaid : Prop := Claim7.holds Tryd.pinned (.plain (OpenSpec.ofChange rulesReadsSpec)) rulesReadsCard

/-- THE TIED CARD OF 'umlautlaw6.RulesBack'. -/
def rulesBackCard : Claim7 := { stood := { row := rulesBackRow, standIns := [], harness := (true, "ccb167f388de95adc7797ce762ef1b68cb69bbf41d4b265fb0f086bb18bb1c83"), looks := false }, kinds := [], alts := [], laidByText := true, laidKinds := [.data, .pinned], laidTests := true, laidLooks := .later }
def RulesBackCardSaid : Prop := Claim7.holds Tryd.pinned (.plain (OpenSpec.ofChange rulesBackSpec)) rulesBackCard

/-- THE TIED CARD OF 'umlautlaw6.RulesSigns'. -/
def rulesSignsCard : Claim7 := { stood := { row := rulesSignsRow, standIns := [], harness := (true, "ccb167f388de95adc7797ce762ef1b68cb69bbf41d4b265fb0f086bb18bb1c83"), looks := false }, kinds := [], alts := [], laidByText := true, laidKinds := [.data, .pinned], laidTests := true, laidLooks := .later }
def RulesSignsCardSaid : Prop := Claim7.holds Tryd.pinned (.plain (OpenSpec.ofChange rulesSignsSpec)) rulesSignsCard

/-- THE SECOND FORM's CARD OF 'umlautlaw6.RulesReads'. -/
def rulesReadsUptoCard : Claim7 := { stood := { row := rulesReadsUptoRow, standIns := [], harness := (true, "ccb167f388de95adc7797ce762ef1b68cb69bbf41d4b265fb0f086bb18bb1c83"), looks := false }, kinds := [], alts := [], laidByText := true, laidKinds := [.data, .pinned], laidTests := true, laidLooks := .later }
def RulesReadsUptoCardSaid : Prop := Claim7.holds Tryd.pinned (.plain (OpenSpec.upto rulesReadsSpec)) rulesReadsUptoCard

/-- THE SECOND FORM's CARD OF 'umlautlaw6.RulesBack'. -/
def rulesBackUptoCard : Claim7 := { stood := { row := rulesBackUptoRow, standIns := [], harness := (true, "ccb167f388de95adc7797ce762ef1b68cb69bbf41d4b265fb0f086bb18bb1c83"), looks := false }, kinds := [], alts := [], laidByText := true, laidKinds := [.data, .pinned], laidTests := true, laidLooks := .later }
def RulesBackUptoCardSaid : Prop := Claim7.holds Tryd.pinned (.plain (OpenSpec.upto rulesBackSpec)) rulesBackUptoCard

/-- THE SECOND FORM's CARD OF 'umlautlaw6.RulesSigns'. -/
def rulesSignsUptoCard : Claim7 := { stood := { row := rulesSignsUptoRow, standIns := [], harness := (true, "ccb167f388de95adc7797ce762ef1b68cb69bbf41d4b265fb0f086bb18bb1c83"), looks := false }, kinds := [], alts := [], laidByText := true, laidKinds := [.data, .pinned], laidTests := true, laidLooks := .later }
def RulesSignsUptoCardSaid : Prop := Claim7.holds Tryd.pinned (.plain (OpenSpec.upto rulesSignsSpec)) rulesSignsUptoCard
end Rows
end Go.Proofs.YtmpnblibbcocpaaDoor
