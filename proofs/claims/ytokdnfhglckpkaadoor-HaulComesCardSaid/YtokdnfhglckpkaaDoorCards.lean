/-
  DERIVED. GIVEN WITH THE SEED: THE CARDS: each row of YtokdnfhglckpkaaDoorRows.lean that lists a variable, with what it lists TIED to the program's text (the seventh form; the later family's looks); each row that meets fmt, with fmt's text TOLD by the authors' own Lean function (tested against real Go, not proved from fmt's source: count such statements apart). THE CARD IS WHAT COUNTS. Prove the row's statement (the work); the ties are given (YtokdnfhglckpkaaDoorTie.lean); close each card by the builder's one call (the guide's Derived/Test/ToyasCard.lean, 'card_holds'). Laid BY PROGRAM, IN A SANDBOX (cutbox-door.mjs). By AI agents, Wed Nov 11 2026. No macro, syntax, notation, axiom, sorry.
-/
import Derived.Test.YtokdnfhglckpkaaDoorRows
import GoSem.ClaimSeven
namespace Go.Proofs.YtokdnfhglckpkaaDoor
namespace Rows

/-- THE TIED CARD OF 'apiarylaw03.CombExact'. -/
def combExactCard : Claim7 := { stood := { row := combExactRow, standIns := [], harness := (true, "74b4f31ed0e3dd3da64b79d97426919a7e88dd609353454dc4a79e8e675e086c"), looks := false }, kinds := [], alts := [], laidByText := true, laidKinds := [.data], laidTests := true, laidLooks := .later }
def CombExactCardSaid : Prop := Claim7.holds Tryd.pinned (.plain (OpenSpec.ofChange combExactSpec)) combExactCard

/-- THE TIED CARD OF 'apiarylaw03.CombJoins'. -/
def combJoinsCard : Claim7 := { stood := { row := combJoinsRow, standIns := [], harness := (true, "74b4f31ed0e3dd3da64b79d97426919a7e88dd609353454dc4a79e8e675e086c"), looks := false }, kinds := [], alts := [], laidByText := true, laidKinds := [.data], laidTests := true, laidLooks := .later }
def CombJoinsCardSaid : Prop := Claim7.holds Tryd.pinned (.plain (OpenSpec.ofChange combJoinsSpec)) combJoinsCard

/-- THE TIED CARD OF 'apiarylaw03.CombBack'. -/
def combBackCard : Claim7 := { stood := { row := combBackRow, standIns := [], harness := (true, "74b4f31ed0e3dd3da64b79d97426919a7e88dd609353454dc4a79e8e675e086c"), looks := false }, kinds := [], alts := [], laidByText := true, laidKinds := [.data], laidTests := true, laidLooks := .later }
def CombBackCardSaid : Prop := Claim7.holds Tryd.pinned (.plain (OpenSpec.ofChange combBackSpec)) combBackCard

/-- THE TIED CARD OF 'apiarylaw03.CombParts'. -/
def combPartsCard : Claim7 := { stood := { row := combPartsRow, standIns := [], harness := (true, "74b4f31ed0e3dd3da64b79d97426919a7e88dd609353454dc4a79e8e675e086c"), looks := false }, kinds := [], alts := [], laidByText := true, laidKinds := [.data], laidTests := true, laidLooks := .later }
def CombPartsCardSaid : Prop := Claim7.holds Tryd.pinned (.plain (OpenSpec.ofChange combPartsSpec)) combPartsCard

/-- THE TIED CARD OF 'apiarylaw03.CombWrites'. -/
def combWritesCard : Claim7 := { stood := { row := combWritesRow, standIns := [], harness := (true, "74b4f31ed0e3dd3da64b79d97426919a7e88dd609353454dc4a79e8e675e086c"), looks := false }, kinds := [], alts := [], laidByText := true, laidKinds := [.data], laidTests := true, laidLooks := .later }
def CombWritesCardSaid : Prop := Claim7.holds Tryd.pinned (.plain (OpenSpec.ofChange combWritesSpec)) combWritesCard

/-- THE TIED CARD OF 'apiarylaw03.CombForms'. -/
def combFormsCard : Claim7 := { stood := { row := combFormsRow, standIns := [], harness := (true, "74b4f31ed0e3dd3da64b79d97426919a7e88dd609353454dc4a79e8e675e086c"), looks := false }, kinds := [], alts := [], laidByText := true, laidKinds := [.data], laidTests := true, laidLooks := .later }
def CombFormsCardSaid : Prop := Claim7.holds Tryd.pinned (.plain (OpenSpec.ofChange combFormsSpec)) combFormsCard

/-- THE TIED CARD OF 'apiarylaw17.HaulExact'. -/
def haulExactCard : Claim7 := { stood := { row := haulExactRow, standIns := [], harness := (true, "74b4f31ed0e3dd3da64b79d97426919a7e88dd609353454dc4a79e8e675e086c"), looks := false }, kinds := [], alts := [], laidByText := true, laidKinds := [.data], laidTests := true, laidLooks := .later }
def HaulExactCardSaid : Prop := Claim7.holds Tryd.pinned (.plain (OpenSpec.ofChange haulExactSpec)) haulExactCard

/-- THE TIED CARD OF 'apiarylaw17.HaulTruth'. -/
def haulTruthCard : Claim7 := { stood := { row := haulTruthRow, standIns := [], harness := (true, "74b4f31ed0e3dd3da64b79d97426919a7e88dd609353454dc4a79e8e675e086c"), looks := false }, kinds := [], alts := [], laidByText := true, laidKinds := [.data], laidTests := true, laidLooks := .later }
def HaulTruthCardSaid : Prop := Claim7.holds Tryd.pinned (.plain (OpenSpec.ofChange haulTruthSpec)) haulTruthCard

/-- THE TIED CARD OF 'apiarylaw17.HaulComes'. -/
def haulComesCard : Claim7 := { stood := { row := haulComesRow, standIns := [], harness := (true, "74b4f31ed0e3dd3da64b79d97426919a7e88dd609353454dc4a79e8e675e086c"), looks := false }, kinds := [], alts := [], laidByText := true, laidKinds := [.data], laidTests := true, laidLooks := .later }
def HaulComesCardSaid : Prop := Claim7.holds Tryd.pinned (.plain (OpenSpec.ofChange haulComesSpec)) haulComesCard

/-- THE TIED CARD OF 'apiarylaw17.HaulDeaf'. -/
def haulDeafCard : Claim7 := { stood := { row := haulDeafRow, standIns := [], harness := (true, "74b4f31ed0e3dd3da64b79d97426919a7e88dd609353454dc4a79e8e675e086c"), looks := false }, kinds := [], alts := [], laidByText := true, laidKinds := [.data], laidTests := true, laidLooks := .later }
def HaulDeafCardSaid : Prop := Claim7.holds Tryd.pinned (.plain (OpenSpec.ofChange haulDeafSpec)) haulDeafCard

/-- THE TIED CARD OF 'apiarylaw18.RationHauls'. -/
def rationHaulsCard : Claim7 := { stood := { row := rationHaulsRow, standIns := [], harness := (true, "74b4f31ed0e3dd3da64b79d97426919a7e88dd609353454dc4a79e8e675e086c"), looks := false }, kinds := [], alts := [], laidByText := true, laidKinds := [.data], laidTests := true, laidLooks := .later }
def RationHaulsCardSaid : Prop := Claim7.holds Tryd.pinned (.plain (OpenSpec.ofChange rationHaulsSpec)) rationHaulsCard

/-- THE SECOND FORM's CARD OF 'apiarylaw03.CombExact'. -/
def combExactUptoCard : Claim7 := { stood := { row := combExactUptoRow, standIns := [], harness := (true, "74b4f31ed0e3dd3da64b79d97426919a7e88dd609353454dc4a79e8e675e086c"), looks := false }, kinds := [], alts := [], laidByText := true, laidKinds := [.data], laidTests := true, laidLooks := .later }
def CombExactUptoCardSaid : Prop := Claim7.holds Tryd.pinned (.plain (OpenSpec.upto combExactSpec)) combExactUptoCard

/-- THE SECOND FORM's CARD OF 'apiarylaw03.CombJoins'. -/
def combJoinsUptoCard : Claim7 := { stood := { row := combJoinsUptoRow, standIns := [], harness := (true, "74b4f31ed0e3dd3da64b79d97426919a7e88dd609353454dc4a79e8e675e086c"), looks := false }, kinds := [], alts := [], laidByText := true, laidKinds := [.data], laidTests := true, laidLooks := .later }
def CombJoinsUptoCardSaid : Prop := Claim7.holds Tryd.pinned (.plain (OpenSpec.upto combJoinsSpec)) combJoinsUptoCard

/-- THE SECOND FORM's CARD OF 'apiarylaw03.CombBack'. -/
def combBackUptoCard : Claim7 := { stood := { row := combBackUptoRow, standIns := [], harness := (true, "74b4f31ed0e3dd3da64b79d97426919a7e88dd609353454dc4a79e8e675e086c"), looks := false }, kinds := [], alts := [], laidByText := true, laidKinds := [.data], laidTests := true, laidLooks := .later }
def CombBackUptoCardSaid : Prop := Claim7.holds Tryd.pinned (.plain (OpenSpec.upto combBackSpec)) combBackUptoCard

/-- THE SECOND FORM's CARD OF 'apiarylaw03.CombParts'. -/
def combPartsUptoCard : Claim7 := { stood := { row := combPartsUptoRow, standIns := [], harness := (true, "74b4f31ed0e3dd3da64b79d97426919a7e88dd609353454dc4a79e8e675e086c"), looks := false }, kinds := [], alts := [], laidByText := true, laidKinds := [.data], laidTests := true, laidLooks := .later }
def CombPartsUptoCardSaid : Prop := Claim7.holds Tryd.pinned (.plain (OpenSpec.upto combPartsSpec)) combPartsUptoCard

/-- THE SECOND FORM's CARD OF 'apiarylaw03.CombWrites'. -/
def combWritesUptoCard : Claim7 := { stood := { row := combWritesUptoRow, standIns := [], harness := (true, "74b4f31ed0e3dd3da64b79d97426919a7e88dd609353454dc4a79e8e675e086c"), looks := false }, kinds := [], alts := [], laidByText := true, laidKinds := [.data], laidTests := true, laidLooks := .later }
def CombWritesUptoCardSaid : Prop := Claim7.holds Tryd.pinned (.plain (OpenSpec.upto combWritesSpec)) combWritesUptoCard

/-- THE SECOND FORM's CARD OF 'apiarylaw03.CombForms'. -/
def combFormsUptoCard : Claim7 := { stood := { row := combFormsUptoRow, standIns := [], harness := (true, "74b4f31ed0e3dd3da64b79d97426919a7e88dd609353454dc4a79e8e675e086c"), looks := false }, kinds := [], alts := [], laidByText := true, laidKinds := [.data], laidTests := true, laidLooks := .later }
def CombFormsUptoCardSaid : Prop := Claim7.holds Tryd.pinned (.plain (OpenSpec.upto combFormsSpec)) combFormsUptoCard

/-- THE SECOND FORM's CARD OF 'apiarylaw17.HaulExact'. -/
def haulExactUptoCard : Claim7 := { stood := { row := haulExactUptoRow, standIns := [], harness := (true, "74b4f31ed0e3dd3da64b79d97426919a7e88dd609353454dc4a79e8e675e086c"), looks := false }, kinds := [], alts := [], laidByText := true, laidKinds := [.data], laidTests := true, laidLooks := .later }
def HaulExactUptoCardSaid : Prop := Claim7.holds Tryd.pinned (.plain (OpenSpec.upto haulExactSpec)) haulExactUptoCard

/-- THE SECOND FORM's CARD OF 'apiarylaw17.HaulTruth'. -/
def haulTruthUptoCard : Claim7 := { stood := { row := haulTruthUptoRow, standIns := [], harness := (true, "74b4f31ed0e3dd3da64b79d97426919a7e88dd609353454dc4a79e8e675e086c"), looks := false }, kinds := [], alts := [], laidByText := true, laidKinds := [.data], laidTests := true, laidLooks := .later }
def HaulTruthUptoCardSaid : Prop := Claim7.holds Tryd.pinned (.plain (OpenSpec.upto haulTruthSpec)) haulTruthUptoCard

/-- THE SECOND FORM's CARD OF 'apiarylaw17.HaulComes'. -/
def haulComesUptoCard : Claim7 := { stood := { row := haulComesUptoRow, standIns := [], harness := (true, "74b4f31ed0e3dd3da64b79d97426919a7e88dd609353454dc4a79e8e675e086c"), looks := false }, kinds := [], alts := [], laidByText := true, laidKinds := [.data], laidTests := true, laidLooks := .later }
def HaulComesUptoCardSaid : Prop := Claim7.holds Tryd.pinned (.plain (OpenSpec.upto haulComesSpec)) haulComesUptoCard

/-- THE SECOND FORM's CARD OF 'apiarylaw17.HaulDeaf'. -/
def haulDeafUptoCard : Claim7 := { stood := { row := haulDeafUptoRow, standIns := [], harness := (true, "74b4f31ed0e3dd3da64b79d97426919a7e88dd609353454dc4a79e8e675e086c"), looks := false }, kinds := [], alts := [], laidByText := true, laidKinds := [.data], laidTests := true, laidLooks := .later }
def HaulDeafUptoCardSaid : Prop := Claim7.holds Tryd.pinned (.plain (OpenSpec.upto haulDeafSpec)) haulDeafUptoCard

/-- THE SECOND FORM's CARD OF 'apiarylaw18.RationHauls'. -/
def rationHaulsUptoCard : Claim7 := { stood := { row := rationHaulsUptoRow, standIns := [], harness := (true, "74b4f31ed0e3dd3da64b79d97426919a7e88dd609353454dc4a79e8e675e086c"), looks := false }, kinds := [], alts := [], laidByText := true, laidKinds := [.data], laidTests := true, laidLooks := .later }
def RationHaulsUptoCardSaid : Prop := Claim7.holds Tryd.pinned (.plain (OpenSpec.upto rationHaulsSpec)) rationHaulsUptoCard
end Rows
end Go.Proofs.YtokdnfhglckpkaaDoor
