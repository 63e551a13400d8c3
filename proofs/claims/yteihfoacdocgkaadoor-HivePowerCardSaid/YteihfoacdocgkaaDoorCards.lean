/-
  DERIVED. GIVEN WITH THE SEED: THE CARDS: each row of YteihfoacdocgkaaDoorRows.lean that lists a variable, with what it lists TIED to the program's text (the seventh form; the later family's looks); each row that meets fmt, with fmt's text TOLD by the authors' own Lean function (tested against real Go, not proved from fmt's source: count such statements apart). THE CARD IS WHAT COUNTS. Prove the row's statement (the work); the ties are given (YteihfoacdocgkaaDoorTie.lean); close each card by the builder's one call (the guide's Derived/Test/ToyasCard.lean, 'card_holds'). Laid BY PROGRAM, IN A SANDBOX (cutbox-door.mjs). By AI agents, Wed Nov 11 2026. No macro, syntax, notation, axiom, sorry.
-/
import Derived.Test.YteihfoacdocgkaaDoorRows
import GoSem.ClaimSeven
namespace Go.Proofs.YteihfoacdocgkaaDoor
namespace Rows

/-- THE TIED CARD OF 'apiarylaw19.WingBack'. -/
def wingBackCard : Claim7 := { stood := { row := wingBackRow, standIns := [], harness := (true, "acc6adce7421dd5b10afa618c60c9a431fac99d14698a548ed55f04b7ac5ae28"), looks := false }, kinds := [], alts := [], laidByText := true, laidKinds := [.data], laidTests := true, laidLooks := .later }
def WingBackCardSaid : Prop := Claim7.holds Tryd.pinned (.plain (OpenSpec.ofChange wingBackSpec)) wingBackCard

/-- THE TIED CARD OF 'apiarylaw19.WingForms'. -/
def wingFormsCard : Claim7 := { stood := { row := wingFormsRow, standIns := [], harness := (true, "acc6adce7421dd5b10afa618c60c9a431fac99d14698a548ed55f04b7ac5ae28"), looks := false }, kinds := [], alts := [], laidByText := true, laidKinds := [.data], laidTests := true, laidLooks := .later }
def WingFormsCardSaid : Prop := Claim7.holds Tryd.pinned (.plain (OpenSpec.ofChange wingFormsSpec)) wingFormsCard

/-- THE TIED CARD OF 'apiarylaw19.WingTells'. -/
def wingTellsCard : Claim7 := { stood := { row := wingTellsRow, standIns := [], harness := (true, "acc6adce7421dd5b10afa618c60c9a431fac99d14698a548ed55f04b7ac5ae28"), looks := false }, kinds := [], alts := [], laidByText := true, laidKinds := [.data], laidTests := true, laidLooks := .later }
def WingTellsCardSaid : Prop := Claim7.holds Tryd.pinned (.plain (OpenSpec.ofChange wingTellsSpec)) wingTellsCard

/-- THE TIED CARD OF 'apiarylaw05.HivePins'. -/
def hivePinsCard : Claim7 := { stood := { row := hivePinsRow, standIns := [], harness := (true, "acc6adce7421dd5b10afa618c60c9a431fac99d14698a548ed55f04b7ac5ae28"), looks := false }, kinds := [], alts := [], laidByText := true, laidKinds := [.data], laidTests := true, laidLooks := .later }
def HivePinsCardSaid : Prop := Claim7.holds Tryd.pinned (.plain (OpenSpec.ofChange hivePinsSpec)) hivePinsCard

/-- THE TIED CARD OF 'apiarylaw05.HiveOldest'. -/
def hiveOldestCard : Claim7 := { stood := { row := hiveOldestRow, standIns := [], harness := (true, "acc6adce7421dd5b10afa618c60c9a431fac99d14698a548ed55f04b7ac5ae28"), looks := false }, kinds := [], alts := [], laidByText := true, laidKinds := [.data], laidTests := true, laidLooks := .later }
def HiveOldestCardSaid : Prop := Claim7.holds Tryd.pinned (.plain (OpenSpec.ofChange hiveOldestSpec)) hiveOldestCard

/-- THE TIED CARD OF 'apiarylaw05.HiveAgain'. -/
def hiveAgainCard : Claim7 := { stood := { row := hiveAgainRow, standIns := [], harness := (true, "acc6adce7421dd5b10afa618c60c9a431fac99d14698a548ed55f04b7ac5ae28"), looks := false }, kinds := [], alts := [], laidByText := true, laidKinds := [.data], laidTests := true, laidLooks := .later }
def HiveAgainCardSaid : Prop := Claim7.holds Tryd.pinned (.plain (OpenSpec.ofChange hiveAgainSpec)) hiveAgainCard

/-- THE TIED CARD OF 'apiarylaw05.HivePower'. -/
def hivePowerCard : Claim7 := { stood := { row := hivePowerRow, standIns := [], harness := (true, "acc6adce7421dd5b10afa618c60c9a431fac99d14698a548ed55f04b7ac5ae28"), looks := false }, kinds := [], alts := [], laidByText := true, laidKinds := [.data], laidTests := true, laidLooks := .later }
def HivePowerCardSaid : Prop := Claim7.holds Tryd.pinned (.plain (OpenSpec.ofChange hivePowerSpec)) hivePowerCard

/-- THE TIED CARD OF 'apiarylaw05.HiveTruth'. -/
def hiveTruthCard : Claim7 := { stood := { row := hiveTruthRow, standIns := [], harness := (true, "acc6adce7421dd5b10afa618c60c9a431fac99d14698a548ed55f04b7ac5ae28"), looks := false }, kinds := [], alts := [], laidByText := true, laidKinds := [.data], laidTests := true, laidLooks := .later }
def HiveTruthCardSaid : Prop := Claim7.holds Tryd.pinned (.plain (OpenSpec.ofChange hiveTruthSpec)) hiveTruthCard

/-- THE SECOND FORM's CARD OF 'apiarylaw19.WingBack'. -/
def wingBackUptoCard : Claim7 := { stood := { row := wingBackUptoRow, standIns := [], harness := (true, "acc6adce7421dd5b10afa618c60c9a431fac99d14698a548ed55f04b7ac5ae28"), looks := false }, kinds := [], alts := [], laidByText := true, laidKinds := [.data], laidTests := true, laidLooks := .later }
def WingBackUptoCardSaid : Prop := Claim7.holds Tryd.pinned (.plain (OpenSpec.upto wingBackSpec)) wingBackUptoCard

/-- THE SECOND FORM's CARD OF 'apiarylaw19.WingForms'. -/
def wingFormsUptoCard : Claim7 := { stood := { row := wingFormsUptoRow, standIns := [], harness := (true, "acc6adce7421dd5b10afa618c60c9a431fac99d14698a548ed55f04b7ac5ae28"), looks := false }, kinds := [], alts := [], laidByText := true, laidKinds := [.data], laidTests := true, laidLooks := .later }
def WingFormsUptoCardSaid : Prop := Claim7.holds Tryd.pinned (.plain (OpenSpec.upto wingFormsSpec)) wingFormsUptoCard

/-- THE SECOND FORM's CARD OF 'apiarylaw19.WingTells'. -/
def wingTellsUptoCard : Claim7 := { stood := { row := wingTellsUptoRow, standIns := [], harness := (true, "acc6adce7421dd5b10afa618c60c9a431fac99d14698a548ed55f04b7ac5ae28"), looks := false }, kinds := [], alts := [], laidByText := true, laidKinds := [.data], laidTests := true, laidLooks := .later }
def WingTellsUptoCardSaid : Prop := Claim7.holds Tryd.pinned (.plain (OpenSpec.upto wingTellsSpec)) wingTellsUptoCard

/-- THE SECOND FORM's CARD OF 'apiarylaw05.HivePins'. -/
def hivePinsUptoCard : Claim7 := { stood := { row := hivePinsUptoRow, standIns := [], harness := (true, "acc6adce7421dd5b10afa618c60c9a431fac99d14698a548ed55f04b7ac5ae28"), looks := false }, kinds := [], alts := [], laidByText := true, laidKinds := [.data], laidTests := true, laidLooks := .later }
def HivePinsUptoCardSaid : Prop := Claim7.holds Tryd.pinned (.plain (OpenSpec.upto hivePinsSpec)) hivePinsUptoCard

/-- THE SECOND FORM's CARD OF 'apiarylaw05.HiveOldest'. -/
def hiveOldestUptoCard : Claim7 := { stood := { row := hiveOldestUptoRow, standIns := [], harness := (true, "acc6adce7421dd5b10afa618c60c9a431fac99d14698a548ed55f04b7ac5ae28"), looks := false }, kinds := [], alts := [], laidByText := true, laidKinds := [.data], laidTests := true, laidLooks := .later }
def HiveOldestUptoCardSaid : Prop := Claim7.holds Tryd.pinned (.plain (OpenSpec.upto hiveOldestSpec)) hiveOldestUptoCard

/-- THE SECOND FORM's CARD OF 'apiarylaw05.HiveAgain'. -/
def hiveAgainUptoCard : Claim7 := { stood := { row := hiveAgainUptoRow, standIns := [], harness := (true, "acc6adce7421dd5b10afa618c60c9a431fac99d14698a548ed55f04b7ac5ae28"), looks := false }, kinds := [], alts := [], laidByText := true, laidKinds := [.data], laidTests := true, laidLooks := .later }
def HiveAgainUptoCardSaid : Prop := Claim7.holds Tryd.pinned (.plain (OpenSpec.upto hiveAgainSpec)) hiveAgainUptoCard

/-- THE SECOND FORM's CARD OF 'apiarylaw05.HivePower'. -/
def hivePowerUptoCard : Claim7 := { stood := { row := hivePowerUptoRow, standIns := [], harness := (true, "acc6adce7421dd5b10afa618c60c9a431fac99d14698a548ed55f04b7ac5ae28"), looks := false }, kinds := [], alts := [], laidByText := true, laidKinds := [.data], laidTests := true, laidLooks := .later }
def HivePowerUptoCardSaid : Prop := Claim7.holds Tryd.pinned (.plain (OpenSpec.upto hivePowerSpec)) hivePowerUptoCard

/-- THE SECOND FORM's CARD OF 'apiarylaw05.HiveTruth'. -/
def hiveTruthUptoCard : Claim7 := { stood := { row := hiveTruthUptoRow, standIns := [], harness := (true, "acc6adce7421dd5b10afa618c60c9a431fac99d14698a548ed55f04b7ac5ae28"), looks := false }, kinds := [], alts := [], laidByText := true, laidKinds := [.data], laidTests := true, laidLooks := .later }
def HiveTruthUptoCardSaid : Prop := Claim7.holds Tryd.pinned (.plain (OpenSpec.upto hiveTruthSpec)) hiveTruthUptoCard
end Rows
end Go.Proofs.YteihfoacdocgkaaDoor
