/-
  DERIVED. GIVEN WITH THE SEED: THE CARDS: each row of YtjcgjchdelipcaaDoorRows.lean that lists a variable, with what it lists TIED to the program's text (the seventh form; the later family's looks); each row that meets fmt, with fmt's text TOLD by the authors' own Lean function (tested against real Go, not proved from fmt's source: count such statements apart). THE CARD IS WHAT COUNTS. Prove the row's statement (the work); the ties are given (YtjcgjchdelipcaaDoorTie.lean); close each card by the builder's one call (the guide's Derived/Test/ToyasCard.lean, 'card_holds'). Laid BY PROGRAM, IN A SANDBOX (cutbox-door.mjs). By AI agents, Wed Nov 11 2026. No macro, syntax, notation, axiom, sorry.
-/
import Derived.Test.YtjcgjchdelipcaaDoorRows
import GoSem.ClaimSeven
namespace Go.Proofs.YtjcgjchdelipcaaDoor
namespace Rows

/-- THE TIED CARD OF 'umlautlaw2.TextBytes'. -/
def textBytesCard : Claim7 := { stood := { row := textBytesRow, standIns := [], harness := (true, "c8cf0a68d8cf81fa0ef28015ff7055affba50f8b4d9ec01aaca141197cd0de49"), looks := false }, kinds := [], alts := [], laidByText := true, laidKinds := [.data, .pinned], laidTests := true, laidLooks := .later }
def TextBytesCardSaid : Prop := Claim7.holds Tryd.pinned (.plain (OpenSpec.ofChange textBytesSpec)) textBytesCard

/-- THE TIED CARD OF 'umlautlaw2.TextOne'. -/
def textOneCard : Claim7 := { stood := { row := textOneRow, standIns := [], harness := (true, "c8cf0a68d8cf81fa0ef28015ff7055affba50f8b4d9ec01aaca141197cd0de49"), looks := false }, kinds := [], alts := [], laidByText := true, laidKinds := [.data, .pinned], laidTests := true, laidLooks := .later }
def TextOneCardSaid : Prop := Claim7.holds Tryd.pinned (.plain (OpenSpec.ofChange textOneSpec)) textOneCard

/-- THE TIED CARD OF 'umlautlaw2.TextNext'. -/
def textNextCard : Claim7 := { stood := { row := textNextRow, standIns := [], harness := (true, "c8cf0a68d8cf81fa0ef28015ff7055affba50f8b4d9ec01aaca141197cd0de49"), looks := false }, kinds := [], alts := [], laidByText := true, laidKinds := [.data, .pinned], laidTests := true, laidLooks := .later }
def TextNextCardSaid : Prop := Claim7.holds Tryd.pinned (.plain (OpenSpec.ofChange textNextSpec)) textNextCard

/-- THE TIED CARD OF 'umlautlaw2.TextFolds'. -/
def textFoldsCard : Claim7 := { stood := { row := textFoldsRow, standIns := [], harness := (true, "c8cf0a68d8cf81fa0ef28015ff7055affba50f8b4d9ec01aaca141197cd0de49"), looks := false }, kinds := [], alts := [], laidByText := true, laidKinds := [.data, .pinned], laidTests := true, laidLooks := .later }
def TextFoldsCardSaid : Prop := Claim7.holds Tryd.pinned (.plain (OpenSpec.ofChange textFoldsSpec)) textFoldsCard

/-- THE TIED CARD OF 'umlautlaw2.TextBegins'. -/
def textBeginsCard : Claim7 := { stood := { row := textBeginsRow, standIns := [], harness := (true, "c8cf0a68d8cf81fa0ef28015ff7055affba50f8b4d9ec01aaca141197cd0de49"), looks := false }, kinds := [], alts := [], laidByText := true, laidKinds := [.data, .pinned], laidTests := true, laidLooks := .later }
def TextBeginsCardSaid : Prop := Claim7.holds Tryd.pinned (.plain (OpenSpec.ofChange textBeginsSpec)) textBeginsCard

/-- THE TIED CARD OF 'umlautlaw6.RulesReads'. -/
def rulesReadsCard : Claim7 := { stood := { row := rulesReadsRow, standIns := [], harness := (true, "c8cf0a68d8cf81fa0ef28015ff7055affba50f8b4d9ec01aaca141197cd0de49"), looks := false }, kinds := [], alts := [], laidByText := true, laidKinds := [.data, .pinned], laidTests := true, laidLooks := .later }
def RulesReadsCardSaid : Prop := Claim7.holds Tryd.pinned (.plain (OpenSpec.ofChange rulesReadsSpec)) rulesReadsCard

/-- THE TIED CARD OF 'umlautlaw0.NamesNumbers'. -/
def namesNumbersCard : Claim7 := { stood := { row := namesNumbersRow, standIns := [], harness := (true, "c8cf0a68d8cf81fa0ef28015ff7055affba50f8b4d9ec01aaca141197cd0de49"), looks := false }, kinds := [], alts := [], laidByText := true, laidKinds := [.data, .data, .data], laidTests := true, laidLooks := .later }
def NamesNumbersCardSaid : Prop := Claim7.holds Tryd.pinned (.plain (OpenSpec.ofChange namesNumbersSpec)) namesNumbersCard

/-- THE TIED CARD OF 'umlautlaw2.TextSigns'. -/
def textSignsCard : Claim7 := { stood := { row := textSignsRow, standIns := [], harness := (true, "c8cf0a68d8cf81fa0ef28015ff7055affba50f8b4d9ec01aaca141197cd0de49"), looks := false }, kinds := [], alts := [], laidByText := true, laidKinds := [.data, .pinned], laidTests := true, laidLooks := .later }
def TextSignsCardSaid : Prop := Claim7.holds Tryd.pinned (.plain (OpenSpec.ofChange textSignsSpec)) textSignsCard

/-- THE TIED CARD OF 'umlautlaw6.RulesBack'. -/
def rulesBackCard : Claim7 := { stood := { row := rulesBackRow, standIns := [], harness := (true, "c8cf0a68d8cf81fa0ef28015ff7055affba50f8b4d9ec01aaca141197cd0de49"), looks := false }, kinds := [], alts := [], laidByText := true, laidKinds := [.data, .pinned], laidTests := true, laidLooks := .later }
def RulesBackCardSaid : Prop := Claim7.holds Tryd.pinned (.plain (OpenSpec.ofChange rulesBackSpec)) rulesBackCard

/-- THE TIED CARD OF 'umlautlaw6.RulesSigns'. -/
def rulesSignsCard : Claim7 := { stood := { row := rulesSignsRow, standIns := [], harness := (true, "c8cf0a68d8cf81fa0ef28015ff7055affba50f8b4d9ec01aaca141197cd0de49"), looks := false }, kinds := [], alts := [], laidByText := true, laidKinds := [.data, .pinned], laidTests := true, laidLooks := .later }
def RulesSignsCardSaid : Prop := Claim7.holds Tryd.pinned (.plain (OpenSpec.ofChange rulesSignsSpec)) rulesSignsCard

/-- THE SECOND FORM's CARD OF 'umlautlaw2.TextBytes'. -/
def textBytesUptoCard : Claim7 := { stood := { row := textBytesUptoRow, standIns := [], harness := (true, "c8cf0a68d8cf81fa0ef28015ff7055affba50f8b4d9ec01aaca141197cd0de49"), looks := false }, kinds := [], alts := [], laidByText := true, laidKinds := [.data, .pinned], laidTests := true, laidLooks := .later }
def TextBytesUptoCardSaid : Prop := Claim7.holds Tryd.pinned (.plain (OpenSpec.upto textBytesSpec)) textBytesUptoCard

/-- THE SECOND FORM's CARD OF 'umlautlaw2.TextOne'. -/
def textOneUptoCard : Claim7 := { stood := { row := textOneUptoRow, standIns := [], harness := (true, "c8cf0a68d8cf81fa0ef28015ff7055affba50f8b4d9ec01aaca141197cd0de49"), looks := false }, kinds := [], alts := [], laidByText := true, laidKinds := [.data, .pinned], laidTests := true, laidLooks := .later }
def TextOneUptoCardSaid : Prop := Claim7.holds Tryd.pinned (.plain (OpenSpec.upto textOneSpec)) textOneUptoCard

/-- THE SECOND FORM's CARD OF 'umlautlaw2.TextNext'. -/
def textNextUptoCard : Claim7 := { stood := { row := textNextUptoRow, standIns := [], harness := (true, "c8cf0a68d8cf81fa0ef28015ff7055affba50f8b4d9ec01aaca141197cd0de49"), looks := false }, kinds := [], alts := [], laidByText := true, laidKinds := [.data, .pinned], laidTests := true, laidLooks := .later }
def TextNextUptoCardSaid : Prop := Claim7.holds Tryd.pinned (.plain (OpenSpec.upto textNextSpec)) textNextUptoCard

/-- THE SECOND FORM's CARD OF 'umlautlaw2.TextFolds'. -/
def textFoldsUptoCard : Claim7 := { stood := { row := textFoldsUptoRow, standIns := [], harness := (true, "c8cf0a68d8cf81fa0ef28015ff7055affba50f8b4d9ec01aaca141197cd0de49"), looks := false }, kinds := [], alts := [], laidByText := true, laidKinds := [.data, .pinned], laidTests := true, laidLooks := .later }
def TextFoldsUptoCardSaid : Prop := Claim7.holds Tryd.pinned (.plain (OpenSpec.upto textFoldsSpec)) textFoldsUptoCard

/-- THE SECOND FORM's CARD OF 'umlautlaw2.TextBegins'. -/
def textBeginsUptoCard : Claim7 := { stood := { row := textBeginsUptoRow, standIns := [], harness := (true, "c8cf0a68d8cf81fa0ef28015ff7055affba50f8b4d9ec01aaca141197cd0de49"), looks := false }, kinds := [], alts := [], laidByText := true, laidKinds := [.data, .pinned], laidTests := true, laidLooks := .later }
def TextBeginsUptoCardSaid : Prop := Claim7.holds Tryd.pinned (.plain (OpenSpec.upto textBeginsSpec)) textBeginsUptoCard

/-- THE SECOND FORM's CARD OF 'umlautlaw6.RulesReads'. -/
def rulesReadsUptoCard : Claim7 := { stood := { row := rulesReadsUptoRow, standIns := [], harness := (true, "c8cf0a68d8cf81fa0ef28015ff7055affba50f8b4d9ec01aaca141197cd0de49"), looks := false }, kinds := [], alts := [], laidByText := true, laidKinds := [.data, .pinned], laidTests := true, laidLooks := .later }
def RulesReadsUptoCardSaid : Prop := Claim7.holds Tryd.pinned (.plain (OpenSpec.upto rulesReadsSpec)) rulesReadsUptoCard

/-- THE SECOND FORM's CARD OF 'umlautlaw0.NamesNumbers'. -/
def namesNumbersUptoCard : Claim7 := { stood := { row := namesNumbersUptoRow, standIns := [], harness := (true, "c8cf0a68d8cf81fa0ef28015ff7055affba50f8b4d9ec01aaca141197cd0de49"), looks := false }, kinds := [], alts := [], laidByText := true, laidKinds := [.data, .data, .data], laidTests := true, laidLooks := .later }
def NamesNumbersUptoCardSaid : Prop := Claim7.holds Tryd.pinned (.plain (OpenSpec.upto namesNumbersSpec)) namesNumbersUptoCard

/-- THE SECOND FORM's CARD OF 'umlautlaw2.TextSigns'. -/
def textSignsUptoCard : Claim7 := { stood := { row := textSignsUptoRow, standIns := [], harness := (true, "c8cf0a68d8cf81fa0ef28015ff7055affba50f8b4d9ec01aaca141197cd0de49"), looks := false }, kinds := [], alts := [], laidByText := true, laidKinds := [.data, .pinned], laidTests := true, laidLooks := .later }
def TextSignsUptoCardSaid : Prop := Claim7.holds Tryd.pinned (.plain (OpenSpec.upto textSignsSpec)) textSignsUptoCard

/-- THE SECOND FORM's CARD OF 'umlautlaw6.RulesBack'. -/
def rulesBackUptoCard : Claim7 := { stood := { row := rulesBackUptoRow, standIns := [], harness := (true, "c8cf0a68d8cf81fa0ef28015ff7055affba50f8b4d9ec01aaca141197cd0de49"), looks := false }, kinds := [], alts := [], laidByText := true, laidKinds := [.data, .pinned], laidTests := true, laidLooks := .later }
def RulesBackUptoCardSaid : Prop := Claim7.holds Tryd.pinned (.plain (OpenSpec.upto rulesBackSpec)) rulesBackUptoCard

/-- THE SECOND FORM's CARD OF 'umlautlaw6.RulesSigns'. -/
def rulesSignsUptoCard : Claim7 := { stood := { row := rulesSignsUptoRow, standIns := [], harness := (true, "c8cf0a68d8cf81fa0ef28015ff7055affba50f8b4d9ec01aaca141197cd0de49"), looks := false }, kinds := [], alts := [], laidByText := true, laidKinds := [.data, .pinned], laidTests := true, laidLooks := .later }
def RulesSignsUptoCardSaid : Prop := Claim7.holds Tryd.pinned (.plain (OpenSpec.upto rulesSignsSpec)) rulesSignsUptoCard
end Rows
end Go.Proofs.YtjcgjchdelipcaaDoor
