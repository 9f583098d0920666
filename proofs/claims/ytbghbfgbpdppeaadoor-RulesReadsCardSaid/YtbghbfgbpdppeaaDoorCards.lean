/-
  DERIVED. GIVEN WITH THE SEED: THE CARDS: each row of YtbghbfgbpdppeaaDoorRows.lean that lists a variable, with what it lists TIED to the program's text (the seventh form; the later family's looks); each row that meets fmt, with fmt's text TOLD by the authors' own Lean function (tested against real Go, not proved from fmt's source: count such statements apart). THE CARD IS WHAT COUNTS. Prove the row's statement (the work); the ties are given (YtbghbfgbpdppeaaDoorTie.lean); close each card by the builder's one call (the guide's Derived/Test/ToyasCard.lean, 'card_holds'). Laid BY PROGRAM, IN A SANDBOX (cutbox-door.mjs). By AI agents, Wed Nov 11 2026. No macro, syntax, notation, axiom, sorry.
-/
import Derived.Test.YtbghbfgbpdppeaaDoorRows
import GoSem.ClaimSeven
namespace Go.Proofs.YtbghbfgbpdppeaaDoor
namespace Rows

/-- THE TIED CARD OF 'umlautlaw6.RulesReads'. -/
def rulesReadsCard : Claim7 := { stood := { row := rulesReadsRow, standIns := [], harness := (true, "ace522ec3b3812d9c724a5267c4679cb6d0ae1943a70e50b78f846b55e133bee"), looks := true }, kinds := [], alts := [], laidByText := true, laidKinds := [.data, .pinned], laidTests := true, laidLooks := .later }
def RulesReadsCardSaid : Prop := Claim7.holds Tryd.pinned (.plain (OpenSpec.ofChange rulesReadsSpec)) rulesReadsCard

/-- THE TIED CARD OF 'umlautlaw6.RulesBack'. -/
def rulesBackCard : Claim7 := { stood := { row := rulesBackRow, standIns := [], harness := (true, "ace522ec3b3812d9c724a5267c4679cb6d0ae1943a70e50b78f846b55e133bee"), looks := true }, kinds := [], alts := [], laidByText := true, laidKinds := [.data, .pinned], laidTests := true, laidLooks := .later }
def RulesBackCardSaid : Prop := Claim7.holds Tryd.pinned (.plain (OpenSpec.ofChange rulesBackSpec)) rulesBackCard

/-- THE TIED CARD OF 'umlautlaw6.RulesSigns'. -/
def rulesSignsCard : Claim7 := { stood := { row := rulesSignsRow, standIns := [], harness := (true, "ace522ec3b3812d9c724a5267c4679cb6d0ae1943a70e50b78f846b55e133bee"), looks := true }, kinds := [], alts := [], laidByText := true, laidKinds := [.data, .pinned], laidTests := true, laidLooks := .later }
def RulesSignsCardSaid : Prop := Claim7.holds Tryd.pinned (.plain (OpenSpec.ofChange rulesSignsSpec)) rulesSignsCard

/-- THE TIED CARD OF 'umlautlaw3.ElemChanges'. -/
def elemChangesCard : Claim7 := { stood := { row := elemChangesRow, standIns := [], harness := (true, "ace522ec3b3812d9c724a5267c4679cb6d0ae1943a70e50b78f846b55e133bee"), looks := true }, kinds := [], alts := [], laidByText := true, laidKinds := [.data, .data, .data], laidTests := true, laidLooks := .later }
def ElemChangesCardSaid : Prop := Claim7.holds Tryd.pinned (.plain (OpenSpec.ofChange elemChangesSpec)) elemChangesCard

/-- THE TIED CARD OF 'umlautlaw3.ElemMakes'. -/
def elemMakesCard : Claim7 := { stood := { row := elemMakesRow, standIns := [], harness := (true, "ace522ec3b3812d9c724a5267c4679cb6d0ae1943a70e50b78f846b55e133bee"), looks := true }, kinds := [], alts := [], laidByText := true, laidKinds := [.data, .data, .data], laidTests := true, laidLooks := .later }
def ElemMakesCardSaid : Prop := Claim7.holds Tryd.pinned (.plain (OpenSpec.ofChange elemMakesSpec)) elemMakesCard

/-- THE TIED CARD OF 'umlautlaw3.ElemReads'. -/
def elemReadsCard : Claim7 := { stood := { row := elemReadsRow, standIns := [], harness := (true, "ace522ec3b3812d9c724a5267c4679cb6d0ae1943a70e50b78f846b55e133bee"), looks := true }, kinds := [], alts := [], laidByText := true, laidKinds := [.data, .data, .data, .data, .sentinel, .sentinel, .pinned], laidTests := true, laidLooks := .later }
def ElemReadsCardSaid : Prop := Claim7.holds Tryd.pinned (.plain (OpenSpec.ofChange elemReadsSpec)) elemReadsCard

/-- THE TIED CARD OF 'umlautlaw3.ElemWords'. -/
def elemWordsCard : Claim7 := { stood := { row := elemWordsRow, standIns := [], harness := (true, "ace522ec3b3812d9c724a5267c4679cb6d0ae1943a70e50b78f846b55e133bee"), looks := true }, kinds := [], alts := [], laidByText := true, laidKinds := [.data, .data, .data, .data, .sentinel, .sentinel, .pinned], laidTests := true, laidLooks := .later }
def ElemWordsCardSaid : Prop := Claim7.holds Tryd.pinned (.plain (OpenSpec.ofChange elemWordsSpec)) elemWordsCard

/-- THE SECOND FORM's CARD OF 'umlautlaw6.RulesReads'. -/
def rulesReadsUptoCard : Claim7 := { stood := { row := rulesReadsUptoRow, standIns := [], harness := (true, "ace522ec3b3812d9c724a5267c4679cb6d0ae1943a70e50b78f846b55e133bee"), looks := true }, kinds := [], alts := [], laidByText := true, laidKinds := [.data, .pinned], laidTests := true, laidLooks := .later }
def RulesReadsUptoCardSaid : Prop := Claim7.holds Tryd.pinned (.plain (OpenSpec.upto rulesReadsSpec)) rulesReadsUptoCard

/-- THE SECOND FORM's CARD OF 'umlautlaw6.RulesBack'. -/
def rulesBackUptoCard : Claim7 := { stood := { row := rulesBackUptoRow, standIns := [], harness := (true, "ace522ec3b3812d9c724a5267c4679cb6d0ae1943a70e50b78f846b55e133bee"), looks := true }, kinds := [], alts := [], laidByText := true, laidKinds := [.data, .pinned], laidTests := true, laidLooks := .later }
def RulesBackUptoCardSaid : Prop := Claim7.holds Tryd.pinned (.plain (OpenSpec.upto rulesBackSpec)) rulesBackUptoCard

/-- THE SECOND FORM's CARD OF 'umlautlaw6.RulesSigns'. -/
def rulesSignsUptoCard : Claim7 := { stood := { row := rulesSignsUptoRow, standIns := [], harness := (true, "ace522ec3b3812d9c724a5267c4679cb6d0ae1943a70e50b78f846b55e133bee"), looks := true }, kinds := [], alts := [], laidByText := true, laidKinds := [.data, .pinned], laidTests := true, laidLooks := .later }
def RulesSignsUptoCardSaid : Prop := Claim7.holds Tryd.pinned (.plain (OpenSpec.upto rulesSignsSpec)) rulesSignsUptoCard

/-- THE SECOND FORM's CARD OF 'umlautlaw3.ElemChanges'. -/
def elemChangesUptoCard : Claim7 := { stood := { row := elemChangesUptoRow, standIns := [], harness := (true, "ace522ec3b3812d9c724a5267c4679cb6d0ae1943a70e50b78f846b55e133bee"), looks := true }, kinds := [], alts := [], laidByText := true, laidKinds := [.data, .data, .data], laidTests := true, laidLooks := .later }
def ElemChangesUptoCardSaid : Prop := Claim7.holds Tryd.pinned (.plain (OpenSpec.upto elemChangesSpec)) elemChangesUptoCard

/-- THE SECOND FORM's CARD OF 'umlautlaw3.ElemMakes'. -/
def elemMakesUptoCard : Claim7 := { stood := { row := elemMakesUptoRow, standIns := [], harness := (true, "ace522ec3b3812d9c724a5267c4679cb6d0ae1943a70e50b78f846b55e133bee"), looks := true }, kinds := [], alts := [], laidByText := true, laidKinds := [.data, .data, .data], laidTests := true, laidLooks := .later }
def ElemMakesUptoCardSaid : Prop := Claim7.holds Tryd.pinned (.plain (OpenSpec.upto elemMakesSpec)) elemMakesUptoCard

/-- THE SECOND FORM's CARD OF 'umlautlaw3.ElemReads'. -/
def elemReadsUptoCard : Claim7 := { stood := { row := elemReadsUptoRow, standIns := [], harness := (true, "ace522ec3b3812d9c724a5267c4679cb6d0ae1943a70e50b78f846b55e133bee"), looks := true }, kinds := [], alts := [], laidByText := true, laidKinds := [.data, .data, .data, .data, .sentinel, .sentinel, .pinned], laidTests := true, laidLooks := .later }
def ElemReadsUptoCardSaid : Prop := Claim7.holds Tryd.pinned (.plain (OpenSpec.upto elemReadsSpec)) elemReadsUptoCard

/-- THE SECOND FORM's CARD OF 'umlautlaw3.ElemWords'. -/
def elemWordsUptoCard : Claim7 := { stood := { row := elemWordsUptoRow, standIns := [], harness := (true, "ace522ec3b3812d9c724a5267c4679cb6d0ae1943a70e50b78f846b55e133bee"), looks := true }, kinds := [], alts := [], laidByText := true, laidKinds := [.data, .data, .data, .data, .sentinel, .sentinel, .pinned], laidTests := true, laidLooks := .later }
def ElemWordsUptoCardSaid : Prop := Claim7.holds Tryd.pinned (.plain (OpenSpec.upto elemWordsSpec)) elemWordsUptoCard
end Rows
end Go.Proofs.YtbghbfgbpdppeaaDoor
