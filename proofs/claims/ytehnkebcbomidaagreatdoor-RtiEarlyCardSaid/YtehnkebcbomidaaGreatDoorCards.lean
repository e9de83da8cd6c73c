/-
  DERIVED. GIVEN WITH THE SEED: THE CARDS: each row of YtehnkebcbomidaaGreatDoorRows.lean that lists a variable, with what it lists TIED to the program's text (the seventh form; the later family's looks); each row that meets fmt, with fmt's text TOLD by the authors' own Lean function (tested against real Go, not proved from fmt's source: count such statements apart). THE CARD IS WHAT COUNTS. Prove the row's statement (the work); the ties are given (YtehnkebcbomidaaGreatDoorTie.lean); close each card by the builder's one call (the guide's Derived/Test/ToyasCard.lean, 'card_holds'). Laid BY PROGRAM, IN A SANDBOX (cutbox-door.mjs). By AI agents, Wed Nov 11 2026. No macro, syntax, notation, axiom, sorry.
-/
import Derived.Test.YtehnkebcbomidaaGreatDoorRows
import GoSem.ClaimSeven
namespace Go.Proofs.YtehnkebcbomidaaGreatDoor
namespace Rows

/-- THE TIED CARD OF 'pacelinetop.TopFlush'. -/
def topFlushCard : Claim7 := { stood := { row := topFlushRow, standIns := [], harness := (true, "196aabbadef9ad1f27354956e05db2b461496aa279971771e7a47da487d874d9"), looks := true }, kinds := [], alts := [], laidByText := true, laidKinds := [.handle], laidTests := true, laidLooks := .later }
def TopFlushCardSaid : Prop := Claim7.holds Tryz.pinned (.plain (OpenSpec.ofChange topFlushSpec)) topFlushCard

/-- THE TIED CARD OF 'pacelinetop.TopRetracts'. -/
def topRetractsCard : Claim7 := { stood := { row := topRetractsRow, standIns := [], harness := (true, "196aabbadef9ad1f27354956e05db2b461496aa279971771e7a47da487d874d9"), looks := true }, kinds := [], alts := [], laidByText := true, laidKinds := [.handle], laidTests := true, laidLooks := .later }
def TopRetractsCardSaid : Prop := Claim7.holds Tryz.pinned (.plain (OpenSpec.ofChange topRetractsSpec)) topRetractsCard

/-- THE TIED CARD OF 'pacelinetop.TopSaved'. -/
def topSavedCard : Claim7 := { stood := { row := topSavedRow, standIns := [], harness := (true, "196aabbadef9ad1f27354956e05db2b461496aa279971771e7a47da487d874d9"), looks := true }, kinds := [], alts := [], laidByText := true, laidKinds := [.data, .data, .data, .data, .handle, .sentinel, .sentinel, .pinned], laidTests := true, laidLooks := .later }
def TopSavedCardSaid : Prop := Claim7.holds Tryz.pinned (.plain (OpenSpec.ofChange topSavedSpec)) topSavedCard

/-- THE TIED CARD OF 'pacelinelaw20.RtiPlain'. -/
def rtiPlainCard : Claim7 := { stood := { row := rtiPlainRow, standIns := [], harness := (true, "196aabbadef9ad1f27354956e05db2b461496aa279971771e7a47da487d874d9"), looks := true }, kinds := [], alts := [], laidByText := true, laidKinds := [.handle], laidTests := true, laidLooks := .later }
def RtiPlainCardSaid : Prop := Claim7.holds Tryz.pinned (.plain (OpenSpec.ofChange rtiPlainSpec)) rtiPlainCard

/-- THE TIED CARD OF 'pacelinelaw20.RtiForms'. -/
def rtiFormsCard : Claim7 := { stood := { row := rtiFormsRow, standIns := [], harness := (true, "196aabbadef9ad1f27354956e05db2b461496aa279971771e7a47da487d874d9"), looks := true }, kinds := [], alts := [], laidByText := true, laidKinds := [.data, .data, .data, .sentinel, .sentinel], laidTests := true, laidLooks := .later }
def RtiFormsCardSaid : Prop := Claim7.holds Tryz.pinned (.plain (OpenSpec.ofChange rtiFormsSpec)) rtiFormsCard

/-- THE TIED CARD OF 'pacelinelaw20.RtiNever'. -/
def rtiNeverCard : Claim7 := { stood := { row := rtiNeverRow, standIns := [], harness := (true, "196aabbadef9ad1f27354956e05db2b461496aa279971771e7a47da487d874d9"), looks := true }, kinds := [], alts := [], laidByText := true, laidKinds := [.data, .data, .data, .handle], laidTests := true, laidLooks := .later }
def RtiNeverCardSaid : Prop := Claim7.holds Tryz.pinned (.plain (OpenSpec.ofChange rtiNeverSpec)) rtiNeverCard

/-- THE TIED CARD OF 'pacelinelaw20.RtiOnce'. -/
def rtiOnceCard : Claim7 := { stood := { row := rtiOnceRow, standIns := [], harness := (true, "196aabbadef9ad1f27354956e05db2b461496aa279971771e7a47da487d874d9"), looks := true }, kinds := [], alts := [], laidByText := true, laidKinds := [.data, .data, .data, .handle], laidTests := true, laidLooks := .later }
def RtiOnceCardSaid : Prop := Claim7.holds Tryz.pinned (.plain (OpenSpec.ofChange rtiOnceSpec)) rtiOnceCard

/-- THE TIED CARD OF 'pacelinelaw20.RtiSaves'. -/
def rtiSavesCard : Claim7 := { stood := { row := rtiSavesRow, standIns := [], harness := (true, "196aabbadef9ad1f27354956e05db2b461496aa279971771e7a47da487d874d9"), looks := true }, kinds := [], alts := [], laidByText := true, laidKinds := [.data, .data, .data, .handle], laidTests := true, laidLooks := .later }
def RtiSavesCardSaid : Prop := Claim7.holds Tryz.pinned (.plain (OpenSpec.ofChange rtiSavesSpec)) rtiSavesCard

/-- THE TIED CARD OF 'pacelinelaw20.RtiNumbers'. -/
def rtiNumbersCard : Claim7 := { stood := { row := rtiNumbersRow, standIns := [], harness := (true, "196aabbadef9ad1f27354956e05db2b461496aa279971771e7a47da487d874d9"), looks := true }, kinds := [], alts := [], laidByText := true, laidKinds := [.data, .data, .data, .handle], laidTests := true, laidLooks := .later }
def RtiNumbersCardSaid : Prop := Claim7.holds Tryz.pinned (.plain (OpenSpec.ofChange rtiNumbersSpec)) rtiNumbersCard

/-- THE TIED CARD OF 'pacelinelaw20.RtiRises'. -/
def rtiRisesCard : Claim7 := { stood := { row := rtiRisesRow, standIns := [], harness := (true, "196aabbadef9ad1f27354956e05db2b461496aa279971771e7a47da487d874d9"), looks := true }, kinds := [], alts := [], laidByText := true, laidKinds := [.data, .data, .data, .handle], laidTests := true, laidLooks := .later }
def RtiRisesCardSaid : Prop := Claim7.holds Tryz.pinned (.plain (OpenSpec.ofChange rtiRisesSpec)) rtiRisesCard

/-- THE TIED CARD OF 'pacelinelaw20.RtiEarly'. -/
def rtiEarlyCard : Claim7 := { stood := { row := rtiEarlyRow, standIns := [], harness := (true, "196aabbadef9ad1f27354956e05db2b461496aa279971771e7a47da487d874d9"), looks := true }, kinds := [], alts := [], laidByText := true, laidKinds := [.data, .data, .data, .handle], laidTests := true, laidLooks := .later }
def RtiEarlyCardSaid : Prop := Claim7.holds Tryz.pinned (.plain (OpenSpec.ofChange rtiEarlySpec)) rtiEarlyCard

/-- THE TIED CARD OF 'pacelinelaw20.RtiOutsiders'. -/
def rtiOutsidersCard : Claim7 := { stood := { row := rtiOutsidersRow, standIns := [], harness := (true, "196aabbadef9ad1f27354956e05db2b461496aa279971771e7a47da487d874d9"), looks := true }, kinds := [], alts := [], laidByText := true, laidKinds := [.data, .data, .data, .handle], laidTests := true, laidLooks := .later }
def RtiOutsidersCardSaid : Prop := Claim7.holds Tryz.pinned (.plain (OpenSpec.ofChange rtiOutsidersSpec)) rtiOutsidersCard

/-- THE TIED CARD OF 'pacelinelaw21.SaveTexts'. -/
def saveTextsCard : Claim7 := { stood := { row := saveTextsRow, standIns := [], harness := (true, "196aabbadef9ad1f27354956e05db2b461496aa279971771e7a47da487d874d9"), looks := true }, kinds := [], alts := [], laidByText := true, laidKinds := [.data, .data, .data, .handle], laidTests := true, laidLooks := .later }
def SaveTextsCardSaid : Prop := Claim7.holds Tryz.pinned (.plain (OpenSpec.ofChange saveTextsSpec)) saveTextsCard

/-- THE TIED CARD OF 'pacelinelaw21.SaveLoads'. -/
def saveLoadsCard : Claim7 := { stood := { row := saveLoadsRow, standIns := [], harness := (true, "196aabbadef9ad1f27354956e05db2b461496aa279971771e7a47da487d874d9"), looks := true }, kinds := [], alts := [], laidByText := true, laidKinds := [.data, .data, .data, .data, .handle, .sentinel, .sentinel, .pinned], laidTests := true, laidLooks := .later }
def SaveLoadsCardSaid : Prop := Claim7.holds Tryz.pinned (.plain (OpenSpec.ofChange saveLoadsSpec)) saveLoadsCard

/-- THE TIED CARD OF 'pacelinelaw20.RtiRows'. -/
def rtiRowsCard : Claim7 := { stood := { row := rtiRowsRow, standIns := [], harness := (true, "196aabbadef9ad1f27354956e05db2b461496aa279971771e7a47da487d874d9"), looks := true }, kinds := [], alts := [], laidByText := true, laidKinds := [.data, .data, .data, .handle, .sentinel, .sentinel], laidTests := true, laidLooks := .later }
def RtiRowsCardSaid : Prop := Claim7.holds Tryz.pinned (.plain (OpenSpec.ofChange rtiRowsSpec)) rtiRowsCard

/-- THE TIED CARD OF 'pacelinelaw21.SaveGoes'. -/
def saveGoesCard : Claim7 := { stood := { row := saveGoesRow, standIns := [], harness := (true, "196aabbadef9ad1f27354956e05db2b461496aa279971771e7a47da487d874d9"), looks := true }, kinds := [], alts := [], laidByText := true, laidKinds := [.data, .data, .data, .data, .handle, .sentinel, .sentinel, .pinned], laidTests := true, laidLooks := .later }
def SaveGoesCardSaid : Prop := Claim7.holds Tryz.pinned (.plain (OpenSpec.ofChange saveGoesSpec)) saveGoesCard

/-- THE TIED CARD OF 'pacelinelaw21.SaveChanged'. -/
def saveChangedCard : Claim7 := { stood := { row := saveChangedRow, standIns := [], harness := (true, "196aabbadef9ad1f27354956e05db2b461496aa279971771e7a47da487d874d9"), looks := true }, kinds := [], alts := [], laidByText := true, laidKinds := [.data, .data, .data, .data, .handle, .sentinel, .sentinel, .pinned], laidTests := true, laidLooks := .later }
def SaveChangedCardSaid : Prop := Claim7.holds Tryz.pinned (.plain (OpenSpec.ofChange saveChangedSpec)) saveChangedCard

/-- THE TIED CARD OF 'pacelinelaw21.SaveOthers'. -/
def saveOthersCard : Claim7 := { stood := { row := saveOthersRow, standIns := [], harness := (true, "196aabbadef9ad1f27354956e05db2b461496aa279971771e7a47da487d874d9"), looks := true }, kinds := [], alts := [], laidByText := true, laidKinds := [.data, .data, .data, .data, .handle, .sentinel, .sentinel, .pinned], laidTests := true, laidLooks := .later }
def SaveOthersCardSaid : Prop := Claim7.holds Tryz.pinned (.plain (OpenSpec.ofChange saveOthersSpec)) saveOthersCard

/-- THE TIED CARD OF 'pacelinelaw22.ConsoleSaves'. -/
def consoleSavesCard : Claim7 := { stood := { row := consoleSavesRow, standIns := [], harness := (true, "196aabbadef9ad1f27354956e05db2b461496aa279971771e7a47da487d874d9"), looks := true }, kinds := [], alts := [], laidByText := true, laidKinds := [.data, .data, .data, .data, .handle, .sentinel, .sentinel, .pinned], laidTests := true, laidLooks := .later }
def ConsoleSavesCardSaid : Prop := Claim7.holds Tryz.pinned (.plain (OpenSpec.ofChange consoleSavesSpec)) consoleSavesCard

/-- THE TIED CARD OF 'pacelinetop.TopSays'. -/
def topSaysCard : Claim7 := { stood := { row := topSaysRow, standIns := [], harness := (true, "196aabbadef9ad1f27354956e05db2b461496aa279971771e7a47da487d874d9"), looks := true }, kinds := [], alts := [], laidByText := true, laidKinds := [.data, .data, .data, .data, .handle, .sentinel, .sentinel, .pinned], laidTests := true, laidLooks := .later }
def TopSaysCardSaid : Prop := Claim7.holds Tryz.pinned (.plain (OpenSpec.ofChange topSaysSpec)) topSaysCard

/-- THE SECOND FORM's CARD OF 'pacelinetop.TopFlush'. -/
def topFlushUptoCard : Claim7 := { stood := { row := topFlushUptoRow, standIns := [], harness := (true, "196aabbadef9ad1f27354956e05db2b461496aa279971771e7a47da487d874d9"), looks := true }, kinds := [], alts := [], laidByText := true, laidKinds := [.handle], laidTests := true, laidLooks := .later }
def TopFlushUptoCardSaid : Prop := Claim7.holds Tryz.pinned (.plain (OpenSpec.upto topFlushSpec)) topFlushUptoCard

/-- THE SECOND FORM's CARD OF 'pacelinetop.TopRetracts'. -/
def topRetractsUptoCard : Claim7 := { stood := { row := topRetractsUptoRow, standIns := [], harness := (true, "196aabbadef9ad1f27354956e05db2b461496aa279971771e7a47da487d874d9"), looks := true }, kinds := [], alts := [], laidByText := true, laidKinds := [.handle], laidTests := true, laidLooks := .later }
def TopRetractsUptoCardSaid : Prop := Claim7.holds Tryz.pinned (.plain (OpenSpec.upto topRetractsSpec)) topRetractsUptoCard

/-- THE SECOND FORM's CARD OF 'pacelinetop.TopSaved'. -/
def topSavedUptoCard : Claim7 := { stood := { row := topSavedUptoRow, standIns := [], harness := (true, "196aabbadef9ad1f27354956e05db2b461496aa279971771e7a47da487d874d9"), looks := true }, kinds := [], alts := [], laidByText := true, laidKinds := [.data, .data, .data, .data, .handle, .sentinel, .sentinel, .pinned], laidTests := true, laidLooks := .later }
def TopSavedUptoCardSaid : Prop := Claim7.holds Tryz.pinned (.plain (OpenSpec.upto topSavedSpec)) topSavedUptoCard

/-- THE SECOND FORM's CARD OF 'pacelinelaw20.RtiPlain'. -/
def rtiPlainUptoCard : Claim7 := { stood := { row := rtiPlainUptoRow, standIns := [], harness := (true, "196aabbadef9ad1f27354956e05db2b461496aa279971771e7a47da487d874d9"), looks := true }, kinds := [], alts := [], laidByText := true, laidKinds := [.handle], laidTests := true, laidLooks := .later }
def RtiPlainUptoCardSaid : Prop := Claim7.holds Tryz.pinned (.plain (OpenSpec.upto rtiPlainSpec)) rtiPlainUptoCard

/-- THE SECOND FORM's CARD OF 'pacelinelaw20.RtiForms'. -/
def rtiFormsUptoCard : Claim7 := { stood := { row := rtiFormsUptoRow, standIns := [], harness := (true, "196aabbadef9ad1f27354956e05db2b461496aa279971771e7a47da487d874d9"), looks := true }, kinds := [], alts := [], laidByText := true, laidKinds := [.data, .data, .data, .sentinel, .sentinel], laidTests := true, laidLooks := .later }
def RtiFormsUptoCardSaid : Prop := Claim7.holds Tryz.pinned (.plain (OpenSpec.upto rtiFormsSpec)) rtiFormsUptoCard

/-- THE SECOND FORM's CARD OF 'pacelinelaw20.RtiNever'. -/
def rtiNeverUptoCard : Claim7 := { stood := { row := rtiNeverUptoRow, standIns := [], harness := (true, "196aabbadef9ad1f27354956e05db2b461496aa279971771e7a47da487d874d9"), looks := true }, kinds := [], alts := [], laidByText := true, laidKinds := [.data, .data, .data, .handle], laidTests := true, laidLooks := .later }
def RtiNeverUptoCardSaid : Prop := Claim7.holds Tryz.pinned (.plain (OpenSpec.upto rtiNeverSpec)) rtiNeverUptoCard

/-- THE SECOND FORM's CARD OF 'pacelinelaw20.RtiOnce'. -/
def rtiOnceUptoCard : Claim7 := { stood := { row := rtiOnceUptoRow, standIns := [], harness := (true, "196aabbadef9ad1f27354956e05db2b461496aa279971771e7a47da487d874d9"), looks := true }, kinds := [], alts := [], laidByText := true, laidKinds := [.data, .data, .data, .handle], laidTests := true, laidLooks := .later }
def RtiOnceUptoCardSaid : Prop := Claim7.holds Tryz.pinned (.plain (OpenSpec.upto rtiOnceSpec)) rtiOnceUptoCard

/-- THE SECOND FORM's CARD OF 'pacelinelaw20.RtiSaves'. -/
def rtiSavesUptoCard : Claim7 := { stood := { row := rtiSavesUptoRow, standIns := [], harness := (true, "196aabbadef9ad1f27354956e05db2b461496aa279971771e7a47da487d874d9"), looks := true }, kinds := [], alts := [], laidByText := true, laidKinds := [.data, .data, .data, .handle], laidTests := true, laidLooks := .later }
def RtiSavesUptoCardSaid : Prop := Claim7.holds Tryz.pinned (.plain (OpenSpec.upto rtiSavesSpec)) rtiSavesUptoCard

/-- THE SECOND FORM's CARD OF 'pacelinelaw20.RtiNumbers'. -/
def rtiNumbersUptoCard : Claim7 := { stood := { row := rtiNumbersUptoRow, standIns := [], harness := (true, "196aabbadef9ad1f27354956e05db2b461496aa279971771e7a47da487d874d9"), looks := true }, kinds := [], alts := [], laidByText := true, laidKinds := [.data, .data, .data, .handle], laidTests := true, laidLooks := .later }
def RtiNumbersUptoCardSaid : Prop := Claim7.holds Tryz.pinned (.plain (OpenSpec.upto rtiNumbersSpec)) rtiNumbersUptoCard

/-- THE SECOND FORM's CARD OF 'pacelinelaw20.RtiRises'. -/
def rtiRisesUptoCard : Claim7 := { stood := { row := rtiRisesUptoRow, standIns := [], harness := (true, "196aabbadef9ad1f27354956e05db2b461496aa279971771e7a47da487d874d9"), looks := true }, kinds := [], alts := [], laidByText := true, laidKinds := [.data, .data, .data, .handle], laidTests := true, laidLooks := .later }
def RtiRisesUptoCardSaid : Prop := Claim7.holds Tryz.pinned (.plain (OpenSpec.upto rtiRisesSpec)) rtiRisesUptoCard

/-- THE SECOND FORM's CARD OF 'pacelinelaw20.RtiEarly'. -/
def rtiEarlyUptoCard : Claim7 := { stood := { row := rtiEarlyUptoRow, standIns := [], harness := (true, "196aabbadef9ad1f27354956e05db2b461496aa279971771e7a47da487d874d9"), looks := true }, kinds := [], alts := [], laidByText := true, laidKinds := [.data, .data, .data, .handle], laidTests := true, laidLooks := .later }
def RtiEarlyUptoCardSaid : Prop := Claim7.holds Tryz.pinned (.plain (OpenSpec.upto rtiEarlySpec)) rtiEarlyUptoCard

/-- THE SECOND FORM's CARD OF 'pacelinelaw20.RtiOutsiders'. -/
def rtiOutsidersUptoCard : Claim7 := { stood := { row := rtiOutsidersUptoRow, standIns := [], harness := (true, "196aabbadef9ad1f27354956e05db2b461496aa279971771e7a47da487d874d9"), looks := true }, kinds := [], alts := [], laidByText := true, laidKinds := [.data, .data, .data, .handle], laidTests := true, laidLooks := .later }
def RtiOutsidersUptoCardSaid : Prop := Claim7.holds Tryz.pinned (.plain (OpenSpec.upto rtiOutsidersSpec)) rtiOutsidersUptoCard

/-- THE SECOND FORM's CARD OF 'pacelinelaw21.SaveTexts'. -/
def saveTextsUptoCard : Claim7 := { stood := { row := saveTextsUptoRow, standIns := [], harness := (true, "196aabbadef9ad1f27354956e05db2b461496aa279971771e7a47da487d874d9"), looks := true }, kinds := [], alts := [], laidByText := true, laidKinds := [.data, .data, .data, .handle], laidTests := true, laidLooks := .later }
def SaveTextsUptoCardSaid : Prop := Claim7.holds Tryz.pinned (.plain (OpenSpec.upto saveTextsSpec)) saveTextsUptoCard

/-- THE SECOND FORM's CARD OF 'pacelinelaw21.SaveLoads'. -/
def saveLoadsUptoCard : Claim7 := { stood := { row := saveLoadsUptoRow, standIns := [], harness := (true, "196aabbadef9ad1f27354956e05db2b461496aa279971771e7a47da487d874d9"), looks := true }, kinds := [], alts := [], laidByText := true, laidKinds := [.data, .data, .data, .data, .handle, .sentinel, .sentinel, .pinned], laidTests := true, laidLooks := .later }
def SaveLoadsUptoCardSaid : Prop := Claim7.holds Tryz.pinned (.plain (OpenSpec.upto saveLoadsSpec)) saveLoadsUptoCard

/-- THE SECOND FORM's CARD OF 'pacelinelaw20.RtiRows'. -/
def rtiRowsUptoCard : Claim7 := { stood := { row := rtiRowsUptoRow, standIns := [], harness := (true, "196aabbadef9ad1f27354956e05db2b461496aa279971771e7a47da487d874d9"), looks := true }, kinds := [], alts := [], laidByText := true, laidKinds := [.data, .data, .data, .handle, .sentinel, .sentinel], laidTests := true, laidLooks := .later }
def RtiRowsUptoCardSaid : Prop := Claim7.holds Tryz.pinned (.plain (OpenSpec.upto rtiRowsSpec)) rtiRowsUptoCard

/-- THE SECOND FORM's CARD OF 'pacelinelaw21.SaveGoes'. -/
def saveGoesUptoCard : Claim7 := { stood := { row := saveGoesUptoRow, standIns := [], harness := (true, "196aabbadef9ad1f27354956e05db2b461496aa279971771e7a47da487d874d9"), looks := true }, kinds := [], alts := [], laidByText := true, laidKinds := [.data, .data, .data, .data, .handle, .sentinel, .sentinel, .pinned], laidTests := true, laidLooks := .later }
def SaveGoesUptoCardSaid : Prop := Claim7.holds Tryz.pinned (.plain (OpenSpec.upto saveGoesSpec)) saveGoesUptoCard

/-- THE SECOND FORM's CARD OF 'pacelinelaw21.SaveChanged'. -/
def saveChangedUptoCard : Claim7 := { stood := { row := saveChangedUptoRow, standIns := [], harness := (true, "196aabbadef9ad1f27354956e05db2b461496aa279971771e7a47da487d874d9"), looks := true }, kinds := [], alts := [], laidByText := true, laidKinds := [.data, .data, .data, .data, .handle, .sentinel, .sentinel, .pinned], laidTests := true, laidLooks := .later }
def SaveChangedUptoCardSaid : Prop := Claim7.holds Tryz.pinned (.plain (OpenSpec.upto saveChangedSpec)) saveChangedUptoCard

/-- THE SECOND FORM's CARD OF 'pacelinelaw21.SaveOthers'. -/
def saveOthersUptoCard : Claim7 := { stood := { row := saveOthersUptoRow, standIns := [], harness := (true, "196aabbadef9ad1f27354956e05db2b461496aa279971771e7a47da487d874d9"), looks := true }, kinds := [], alts := [], laidByText := true, laidKinds := [.data, .data, .data, .data, .handle, .sentinel, .sentinel, .pinned], laidTests := true, laidLooks := .later }
def SaveOthersUptoCardSaid : Prop := Claim7.holds Tryz.pinned (.plain (OpenSpec.upto saveOthersSpec)) saveOthersUptoCard

/-- THE SECOND FORM's CARD OF 'pacelinelaw22.ConsoleSaves'. -/
def consoleSavesUptoCard : Claim7 := { stood := { row := consoleSavesUptoRow, standIns := [], harness := (true, "196aabbadef9ad1f27354956e05db2b461496aa279971771e7a47da487d874d9"), looks := true }, kinds := [], alts := [], laidByText := true, laidKinds := [.data, .data, .data, .data, .handle, .sentinel, .sentinel, .pinned], laidTests := true, laidLooks := .later }
def ConsoleSavesUptoCardSaid : Prop := Claim7.holds Tryz.pinned (.plain (OpenSpec.upto consoleSavesSpec)) consoleSavesUptoCard

/-- THE SECOND FORM's CARD OF 'pacelinetop.TopSays'. -/
def topSaysUptoCard : Claim7 := { stood := { row := topSaysUptoRow, standIns := [], harness := (true, "196aabbadef9ad1f27354956e05db2b461496aa279971771e7a47da487d874d9"), looks := true }, kinds := [], alts := [], laidByText := true, laidKinds := [.data, .data, .data, .data, .handle, .sentinel, .sentinel, .pinned], laidTests := true, laidLooks := .later }
def TopSaysUptoCardSaid : Prop := Claim7.holds Tryz.pinned (.plain (OpenSpec.upto topSaysSpec)) topSaysUptoCard
end Rows
end Go.Proofs.YtehnkebcbomidaaGreatDoor
