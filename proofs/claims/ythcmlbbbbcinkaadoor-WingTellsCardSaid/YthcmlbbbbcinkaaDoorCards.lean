/-
  DERIVED. GIVEN WITH THE SEED: THE CARDS: each row of YthcmlbbbbcinkaaDoorRows.lean that lists a variable, with what it lists TIED to the program's text (the seventh form; the later family's looks); each row that meets fmt, with fmt's text TOLD by the authors' own Lean function (tested against real Go, not proved from fmt's source: count such statements apart). THE CARD IS WHAT COUNTS. Prove the row's statement (the work); the ties are given (YthcmlbbbbcinkaaDoorTie.lean); close each card by the builder's one call (the guide's Derived/Test/ToyasCard.lean, 'card_holds'). Laid BY PROGRAM, IN A SANDBOX (cutbox-door.mjs). By AI agents, Wed Nov 11 2026. No macro, syntax, notation, axiom, sorry.
-/
import Derived.Test.YthcmlbbbbcinkaaDoorRows
import GoSem.ClaimSeven
namespace Go.Proofs.YthcmlbbbbcinkaaDoor
namespace Rows

/-- THE TIED CARD OF 'apiarylaw19.WingBack'. -/
def wingBackCard : Claim7 := { stood := { row := wingBackRow, standIns := [], harness := (true, "d9c4715145a50e1cf421d0d9595d7bf24cf82766678d30baa7e6a679fc87f164"), looks := false }, kinds := [], alts := [], laidByText := true, laidKinds := [.data], laidTests := true, laidLooks := .later }
def WingBackCardSaid : Prop := Claim7.holds Tryd.pinned (.plain (OpenSpec.ofChange wingBackSpec)) wingBackCard

/-- THE TIED CARD OF 'apiarylaw19.WingForms'. -/
def wingFormsCard : Claim7 := { stood := { row := wingFormsRow, standIns := [], harness := (true, "d9c4715145a50e1cf421d0d9595d7bf24cf82766678d30baa7e6a679fc87f164"), looks := false }, kinds := [], alts := [], laidByText := true, laidKinds := [.data], laidTests := true, laidLooks := .later }
def WingFormsCardSaid : Prop := Claim7.holds Tryd.pinned (.plain (OpenSpec.ofChange wingFormsSpec)) wingFormsCard

/-- THE TIED CARD OF 'apiarylaw19.WingTells'. -/
def wingTellsCard : Claim7 := { stood := { row := wingTellsRow, standIns := [], harness := (true, "d9c4715145a50e1cf421d0d9595d7bf24cf82766678d30baa7e6a679fc87f164"), looks := false }, kinds := [], alts := [], laidByText := true, laidKinds := [.data], laidTests := true, laidLooks := .later }
def WingTellsCardSaid : Prop := Claim7.holds Tryd.pinned (.plain (OpenSpec.ofChange wingTellsSpec)) wingTellsCard

/-- THE SECOND FORM's CARD OF 'apiarylaw19.WingBack'. -/
def wingBackUptoCard : Claim7 := { stood := { row := wingBackUptoRow, standIns := [], harness := (true, "d9c4715145a50e1cf421d0d9595d7bf24cf82766678d30baa7e6a679fc87f164"), looks := false }, kinds := [], alts := [], laidByText := true, laidKinds := [.data], laidTests := true, laidLooks := .later }
def WingBackUptoCardSaid : Prop := Claim7.holds Tryd.pinned (.plain (OpenSpec.upto wingBackSpec)) wingBackUptoCard

/-- THE SECOND FORM's CARD OF 'apiarylaw19.WingForms'. -/
def wingFormsUptoCard : Claim7 := { stood := { row := wingFormsUptoRow, standIns := [], harness := (true, "d9c4715145a50e1cf421d0d9595d7bf24cf82766678d30baa7e6a679fc87f164"), looks := false }, kinds := [], alts := [], laidByText := true, laidKinds := [.data], laidTests := true, laidLooks := .later }
def WingFormsUptoCardSaid : Prop := Claim7.holds Tryd.pinned (.plain (OpenSpec.upto wingFormsSpec)) wingFormsUptoCard

/-- THE SECOND FORM's CARD OF 'apiarylaw19.WingTells'. -/
def wingTellsUptoCard : Claim7 := { stood := { row := wingTellsUptoRow, standIns := [], harness := (true, "d9c4715145a50e1cf421d0d9595d7bf24cf82766678d30baa7e6a679fc87f164"), looks := false }, kinds := [], alts := [], laidByText := true, laidKinds := [.data], laidTests := true, laidLooks := .later }
def WingTellsUptoCardSaid : Prop := Claim7.holds Tryd.pinned (.plain (OpenSpec.upto wingTellsSpec)) wingTellsUptoCard
end Rows
end Go.Proofs.YthcmlbbbbcinkaaDoor
