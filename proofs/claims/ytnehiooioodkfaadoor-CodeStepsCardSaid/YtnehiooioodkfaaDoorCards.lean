/-
  DERIVED. GIVEN WITH THE SEED: THE CARDS: each row of YtnehiooioodkfaaDoorRows.lean that lists a variable, with what it lists TIED to the program's text (the seventh form; the later family's looks); each row that meets fmt, with fmt's text TOLD by the authors' own Lean function (tested against real Go, not proved from fmt's source: count such statements apart). THE CARD IS WHAT COUNTS. Prove the row's statement (the work); the ties are given (YtnehiooioodkfaaDoorTie.lean); close each card by the builder's one call (the guide's Derived/Test/ToyasCard.lean, 'card_holds'). Laid BY PROGRAM, IN A SANDBOX (cutbox-door.mjs). By AI agents, Wed Nov 11 2026. No macro, syntax, notation, axiom, sorry.
-/
import Derived.Test.YtnehiooioodkfaaDoorRows
import GoSem.ClaimSeven
namespace Go.Proofs.YtnehiooioodkfaaDoor
namespace Rows

/-- THE TIED CARD OF 'keellaw3.CodeRuns'. -/
def codeRunsCard : Claim7 := { stood := { row := codeRunsRow, standIns := [], harness := (true, "3fbcbc6dade33438bca6ca3c53dab22a76027d71a28b2366ec2dbed8d07703b3"), looks := true }, kinds := [], alts := [], laidByText := true, laidKinds := [.data, .data, .data, .sentinel, .sentinel], laidTests := true, laidLooks := .later }
def CodeRunsCardSaid : Prop := Claim7.holds Tryd.pinned (.plain (OpenSpec.ofChange codeRunsSpec)) codeRunsCard

/-- THE TIED CARD OF 'keellaw3.CodeParses'. -/
def codeParsesCard : Claim7 := { stood := { row := codeParsesRow, standIns := [], harness := (true, "3fbcbc6dade33438bca6ca3c53dab22a76027d71a28b2366ec2dbed8d07703b3"), looks := true }, kinds := [], alts := [], laidByText := true, laidKinds := [.data, .data, .data, .sentinel, .sentinel], laidTests := true, laidLooks := .later }
def CodeParsesCardSaid : Prop := Claim7.holds Tryd.pinned (.plain (OpenSpec.ofChange codeParsesSpec)) codeParsesCard

/-- THE TIED CARD OF 'keellaw3.CodePrints'. -/
def codePrintsCard : Claim7 := { stood := { row := codePrintsRow, standIns := [], harness := (true, "3fbcbc6dade33438bca6ca3c53dab22a76027d71a28b2366ec2dbed8d07703b3"), looks := true }, kinds := [], alts := [], laidByText := true, laidKinds := [.data, .data, .data, .sentinel, .sentinel], laidTests := true, laidLooks := .later }
def CodePrintsCardSaid : Prop := Claim7.holds Tryd.pinned (.plain (OpenSpec.ofChange codePrintsSpec)) codePrintsCard

/-- THE TIED CARD OF 'keellaw3.CodeSteps'. -/
def codeStepsCard : Claim7 := { stood := { row := codeStepsRow, standIns := [], harness := (true, "3fbcbc6dade33438bca6ca3c53dab22a76027d71a28b2366ec2dbed8d07703b3"), looks := true }, kinds := [], alts := [], laidByText := true, laidKinds := [.data, .data, .data, .sentinel, .sentinel], laidTests := true, laidLooks := .later }
def CodeStepsCardSaid : Prop := Claim7.holds Tryd.pinned (.plain (OpenSpec.ofChange codeStepsSpec)) codeStepsCard

/-- THE TIED CARD OF 'keellaw3.CodeNames'. -/
def codeNamesCard : Claim7 := { stood := { row := codeNamesRow, standIns := [], harness := (true, "3fbcbc6dade33438bca6ca3c53dab22a76027d71a28b2366ec2dbed8d07703b3"), looks := true }, kinds := [], alts := [], laidByText := true, laidKinds := [.data, .data, .data, .sentinel, .sentinel], laidTests := true, laidLooks := .later }
def CodeNamesCardSaid : Prop := Claim7.holds Tryd.pinned (.plain (OpenSpec.ofChange codeNamesSpec)) codeNamesCard

/-- THE TIED CARD OF 'keellaw3.CodeBack'. -/
def codeBackCard : Claim7 := { stood := { row := codeBackRow, standIns := [], harness := (true, "3fbcbc6dade33438bca6ca3c53dab22a76027d71a28b2366ec2dbed8d07703b3"), looks := true }, kinds := [], alts := [], laidByText := true, laidKinds := [.data, .data, .data, .sentinel, .sentinel], laidTests := true, laidLooks := .later }
def CodeBackCardSaid : Prop := Claim7.holds Tryd.pinned (.plain (OpenSpec.ofChange codeBackSpec)) codeBackCard

/-- THE TIED CARD OF 'keellaw3.CodeBlanks'. -/
def codeBlanksCard : Claim7 := { stood := { row := codeBlanksRow, standIns := [], harness := (true, "3fbcbc6dade33438bca6ca3c53dab22a76027d71a28b2366ec2dbed8d07703b3"), looks := true }, kinds := [], alts := [], laidByText := true, laidKinds := [.data, .data, .data, .sentinel, .sentinel], laidTests := true, laidLooks := .later }
def CodeBlanksCardSaid : Prop := Claim7.holds Tryd.pinned (.plain (OpenSpec.ofChange codeBlanksSpec)) codeBlanksCard

/-- THE TIED CARD OF 'keellaw3.CodeLast'. -/
def codeLastCard : Claim7 := { stood := { row := codeLastRow, standIns := [], harness := (true, "3fbcbc6dade33438bca6ca3c53dab22a76027d71a28b2366ec2dbed8d07703b3"), looks := true }, kinds := [], alts := [], laidByText := true, laidKinds := [.data, .data, .data, .sentinel, .sentinel], laidTests := true, laidLooks := .later }
def CodeLastCardSaid : Prop := Claim7.holds Tryd.pinned (.plain (OpenSpec.ofChange codeLastSpec)) codeLastCard

/-- THE TIED CARD OF 'keellaw3.CodeRepeats'. -/
def codeRepeatsCard : Claim7 := { stood := { row := codeRepeatsRow, standIns := [], harness := (true, "3fbcbc6dade33438bca6ca3c53dab22a76027d71a28b2366ec2dbed8d07703b3"), looks := true }, kinds := [], alts := [], laidByText := true, laidKinds := [.data, .data, .data, .sentinel, .sentinel], laidTests := true, laidLooks := .later }
def CodeRepeatsCardSaid : Prop := Claim7.holds Tryd.pinned (.plain (OpenSpec.ofChange codeRepeatsSpec)) codeRepeatsCard

/-- THE TIED CARD OF 'keellaw3.CodeLimits'. -/
def codeLimitsCard : Claim7 := { stood := { row := codeLimitsRow, standIns := [], harness := (true, "3fbcbc6dade33438bca6ca3c53dab22a76027d71a28b2366ec2dbed8d07703b3"), looks := true }, kinds := [], alts := [], laidByText := true, laidKinds := [.data, .data, .data, .sentinel, .sentinel], laidTests := true, laidLooks := .later }
def CodeLimitsCardSaid : Prop := Claim7.holds Tryd.pinned (.plain (OpenSpec.ofChange codeLimitsSpec)) codeLimitsCard

/-- THE TIED CARD OF 'keellaw3.CodeJoined'. -/
def codeJoinedCard : Claim7 := { stood := { row := codeJoinedRow, standIns := [], harness := (true, "3fbcbc6dade33438bca6ca3c53dab22a76027d71a28b2366ec2dbed8d07703b3"), looks := true }, kinds := [], alts := [], laidByText := true, laidKinds := [.data, .data, .data, .sentinel, .sentinel], laidTests := true, laidLooks := .later }
def CodeJoinedCardSaid : Prop := Claim7.holds Tryd.pinned (.plain (OpenSpec.ofChange codeJoinedSpec)) codeJoinedCard

/-- THE TIED CARD OF 'keellaw3.CodeTexts'. -/
def codeTextsCard : Claim7 := { stood := { row := codeTextsRow, standIns := [], harness := (true, "3fbcbc6dade33438bca6ca3c53dab22a76027d71a28b2366ec2dbed8d07703b3"), looks := true }, kinds := [], alts := [], laidByText := true, laidKinds := [.data, .data, .data, .sentinel, .sentinel], laidTests := true, laidLooks := .later }
def CodeTextsCardSaid : Prop := Claim7.holds Tryd.pinned (.plain (OpenSpec.ofChange codeTextsSpec)) codeTextsCard

/-- THE SECOND FORM's CARD OF 'keellaw3.CodeRuns'. -/
def codeRunsUptoCard : Claim7 := { stood := { row := codeRunsUptoRow, standIns := [], harness := (true, "3fbcbc6dade33438bca6ca3c53dab22a76027d71a28b2366ec2dbed8d07703b3"), looks := true }, kinds := [], alts := [], laidByText := true, laidKinds := [.data, .data, .data, .sentinel, .sentinel], laidTests := true, laidLooks := .later }
def CodeRunsUptoCardSaid : Prop := Claim7.holds Tryd.pinned (.plain (OpenSpec.upto codeRunsSpec)) codeRunsUptoCard

/-- THE SECOND FORM's CARD OF 'keellaw3.CodeParses'. -/
def codeParsesUptoCard : Claim7 := { stood := { row := codeParsesUptoRow, standIns := [], harness := (true, "3fbcbc6dade33438bca6ca3c53dab22a76027d71a28b2366ec2dbed8d07703b3"), looks := true }, kinds := [], alts := [], laidByText := true, laidKinds := [.data, .data, .data, .sentinel, .sentinel], laidTests := true, laidLooks := .later }
def CodeParsesUptoCardSaid : Prop := Claim7.holds Tryd.pinned (.plain (OpenSpec.upto codeParsesSpec)) codeParsesUptoCard

/-- THE SECOND FORM's CARD OF 'keellaw3.CodePrints'. -/
def codePrintsUptoCard : Claim7 := { stood := { row := codePrintsUptoRow, standIns := [], harness := (true, "3fbcbc6dade33438bca6ca3c53dab22a76027d71a28b2366ec2dbed8d07703b3"), looks := true }, kinds := [], alts := [], laidByText := true, laidKinds := [.data, .data, .data, .sentinel, .sentinel], laidTests := true, laidLooks := .later }
def CodePrintsUptoCardSaid : Prop := Claim7.holds Tryd.pinned (.plain (OpenSpec.upto codePrintsSpec)) codePrintsUptoCard

/-- THE SECOND FORM's CARD OF 'keellaw3.CodeSteps'. -/
def codeStepsUptoCard : Claim7 := { stood := { row := codeStepsUptoRow, standIns := [], harness := (true, "3fbcbc6dade33438bca6ca3c53dab22a76027d71a28b2366ec2dbed8d07703b3"), looks := true }, kinds := [], alts := [], laidByText := true, laidKinds := [.data, .data, .data, .sentinel, .sentinel], laidTests := true, laidLooks := .later }
def CodeStepsUptoCardSaid : Prop := Claim7.holds Tryd.pinned (.plain (OpenSpec.upto codeStepsSpec)) codeStepsUptoCard

/-- THE SECOND FORM's CARD OF 'keellaw3.CodeNames'. -/
def codeNamesUptoCard : Claim7 := { stood := { row := codeNamesUptoRow, standIns := [], harness := (true, "3fbcbc6dade33438bca6ca3c53dab22a76027d71a28b2366ec2dbed8d07703b3"), looks := true }, kinds := [], alts := [], laidByText := true, laidKinds := [.data, .data, .data, .sentinel, .sentinel], laidTests := true, laidLooks := .later }
def CodeNamesUptoCardSaid : Prop := Claim7.holds Tryd.pinned (.plain (OpenSpec.upto codeNamesSpec)) codeNamesUptoCard

/-- THE SECOND FORM's CARD OF 'keellaw3.CodeBack'. -/
def codeBackUptoCard : Claim7 := { stood := { row := codeBackUptoRow, standIns := [], harness := (true, "3fbcbc6dade33438bca6ca3c53dab22a76027d71a28b2366ec2dbed8d07703b3"), looks := true }, kinds := [], alts := [], laidByText := true, laidKinds := [.data, .data, .data, .sentinel, .sentinel], laidTests := true, laidLooks := .later }
def CodeBackUptoCardSaid : Prop := Claim7.holds Tryd.pinned (.plain (OpenSpec.upto codeBackSpec)) codeBackUptoCard

/-- THE SECOND FORM's CARD OF 'keellaw3.CodeBlanks'. -/
def codeBlanksUptoCard : Claim7 := { stood := { row := codeBlanksUptoRow, standIns := [], harness := (true, "3fbcbc6dade33438bca6ca3c53dab22a76027d71a28b2366ec2dbed8d07703b3"), looks := true }, kinds := [], alts := [], laidByText := true, laidKinds := [.data, .data, .data, .sentinel, .sentinel], laidTests := true, laidLooks := .later }
def CodeBlanksUptoCardSaid : Prop := Claim7.holds Tryd.pinned (.plain (OpenSpec.upto codeBlanksSpec)) codeBlanksUptoCard

/-- THE SECOND FORM's CARD OF 'keellaw3.CodeLast'. -/
def codeLastUptoCard : Claim7 := { stood := { row := codeLastUptoRow, standIns := [], harness := (true, "3fbcbc6dade33438bca6ca3c53dab22a76027d71a28b2366ec2dbed8d07703b3"), looks := true }, kinds := [], alts := [], laidByText := true, laidKinds := [.data, .data, .data, .sentinel, .sentinel], laidTests := true, laidLooks := .later }
def CodeLastUptoCardSaid : Prop := Claim7.holds Tryd.pinned (.plain (OpenSpec.upto codeLastSpec)) codeLastUptoCard

/-- THE SECOND FORM's CARD OF 'keellaw3.CodeRepeats'. -/
def codeRepeatsUptoCard : Claim7 := { stood := { row := codeRepeatsUptoRow, standIns := [], harness := (true, "3fbcbc6dade33438bca6ca3c53dab22a76027d71a28b2366ec2dbed8d07703b3"), looks := true }, kinds := [], alts := [], laidByText := true, laidKinds := [.data, .data, .data, .sentinel, .sentinel], laidTests := true, laidLooks := .later }
def CodeRepeatsUptoCardSaid : Prop := Claim7.holds Tryd.pinned (.plain (OpenSpec.upto codeRepeatsSpec)) codeRepeatsUptoCard

/-- THE SECOND FORM's CARD OF 'keellaw3.CodeLimits'. -/
def codeLimitsUptoCard : Claim7 := { stood := { row := codeLimitsUptoRow, standIns := [], harness := (true, "3fbcbc6dade33438bca6ca3c53dab22a76027d71a28b2366ec2dbed8d07703b3"), looks := true }, kinds := [], alts := [], laidByText := true, laidKinds := [.data, .data, .data, .sentinel, .sentinel], laidTests := true, laidLooks := .later }
def CodeLimitsUptoCardSaid : Prop := Claim7.holds Tryd.pinned (.plain (OpenSpec.upto codeLimitsSpec)) codeLimitsUptoCard

/-- THE SECOND FORM's CARD OF 'keellaw3.CodeJoined'. -/
def codeJoinedUptoCard : Claim7 := { stood := { row := codeJoinedUptoRow, standIns := [], harness := (true, "3fbcbc6dade33438bca6ca3c53dab22a76027d71a28b2366ec2dbed8d07703b3"), looks := true }, kinds := [], alts := [], laidByText := true, laidKinds := [.data, .data, .data, .sentinel, .sentinel], laidTests := true, laidLooks := .later }
def CodeJoinedUptoCardSaid : Prop := Claim7.holds Tryd.pinned (.plain (OpenSpec.upto codeJoinedSpec)) codeJoinedUptoCard

/-- THE SECOND FORM's CARD OF 'keellaw3.CodeTexts'. -/
def codeTextsUptoCard : Claim7 := { stood := { row := codeTextsUptoRow, standIns := [], harness := (true, "3fbcbc6dade33438bca6ca3c53dab22a76027d71a28b2366ec2dbed8d07703b3"), looks := true }, kinds := [], alts := [], laidByText := true, laidKinds := [.data, .data, .data, .sentinel, .sentinel], laidTests := true, laidLooks := .later }
def CodeTextsUptoCardSaid : Prop := Claim7.holds Tryd.pinned (.plain (OpenSpec.upto codeTextsSpec)) codeTextsUptoCard
end Rows
end Go.Proofs.YtnehiooioodkfaaDoor
