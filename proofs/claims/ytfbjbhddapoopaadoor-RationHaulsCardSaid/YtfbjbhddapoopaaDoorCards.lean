/-
  DERIVED. GIVEN WITH THE SEED: THE CARDS: each row of YtfbjbhddapoopaaDoorRows.lean that lists a variable, with what it lists TIED to the program's text (the seventh form; the later family's looks); each row that meets fmt, with fmt's text TOLD by the authors' own Lean function (tested against real Go, not proved from fmt's source: count such statements apart). THE CARD IS WHAT COUNTS. Prove the row's statement (the work); the ties are given (YtfbjbhddapoopaaDoorTie.lean); close each card by the builder's one call (the guide's Derived/Test/ToyasCard.lean, 'card_holds'). Laid BY PROGRAM, IN A SANDBOX (cutbox-door.mjs). By AI agents, Wed Nov 11 2026. No macro, syntax, notation, axiom, sorry.
-/
import Derived.Test.YtfbjbhddapoopaaDoorRows
import GoSem.ClaimSeven
namespace Go.Proofs.YtfbjbhddapoopaaDoor
namespace Rows

/-- THE TIED CARD OF 'apiarylaw17.HaulExact'. -/
def haulExactCard : Claim7 := { stood := { row := haulExactRow, standIns := [], harness := (true, "575e516efbe9e78f3486a8b855d9124036e70f977d42c907c573a78f10e99b08"), looks := false }, kinds := [], alts := [], laidByText := true, laidKinds := [.data], laidTests := true, laidLooks := .later }
def HaulExactCardSaid : Prop := Claim7.holds Tryd.pinned (.plain (OpenSpec.ofChange haulExactSpec)) haulExactCard

/-- THE TIED CARD OF 'apiarylaw18.RationExact'. -/
def rationExactCard : Claim7 := { stood := { row := rationExactRow, standIns := [], harness := (true, "575e516efbe9e78f3486a8b855d9124036e70f977d42c907c573a78f10e99b08"), looks := false }, kinds := [], alts := [], laidByText := true, laidKinds := [.data], laidTests := true, laidLooks := .later }
def RationExactCardSaid : Prop := Claim7.holds Tryd.pinned (.plain (OpenSpec.ofChange rationExactSpec)) rationExactCard

/-- THE TIED CARD OF 'apiarylaw18.RationRefills'. -/
def rationRefillsCard : Claim7 := { stood := { row := rationRefillsRow, standIns := [], harness := (true, "575e516efbe9e78f3486a8b855d9124036e70f977d42c907c573a78f10e99b08"), looks := false }, kinds := [], alts := [], laidByText := true, laidKinds := [.data], laidTests := true, laidLooks := .later }
def RationRefillsCardSaid : Prop := Claim7.holds Tryd.pinned (.plain (OpenSpec.ofChange rationRefillsSpec)) rationRefillsCard

/-- THE TIED CARD OF 'apiarylaw18.RationBounds'. -/
def rationBoundsCard : Claim7 := { stood := { row := rationBoundsRow, standIns := [], harness := (true, "575e516efbe9e78f3486a8b855d9124036e70f977d42c907c573a78f10e99b08"), looks := false }, kinds := [], alts := [], laidByText := true, laidKinds := [.data], laidTests := true, laidLooks := .later }
def RationBoundsCardSaid : Prop := Claim7.holds Tryd.pinned (.plain (OpenSpec.ofChange rationBoundsSpec)) rationBoundsCard

/-- THE TIED CARD OF 'apiarylaw18.RationHauls'. -/
def rationHaulsCard : Claim7 := { stood := { row := rationHaulsRow, standIns := [], harness := (true, "575e516efbe9e78f3486a8b855d9124036e70f977d42c907c573a78f10e99b08"), looks := false }, kinds := [], alts := [], laidByText := true, laidKinds := [.data], laidTests := true, laidLooks := .later }
def RationHaulsCardSaid : Prop := Claim7.holds Tryd.pinned (.plain (OpenSpec.ofChange rationHaulsSpec)) rationHaulsCard

/-- THE TIED CARD OF 'apiarylaw05.HivePins'. -/
def hivePinsCard : Claim7 := { stood := { row := hivePinsRow, standIns := [], harness := (true, "575e516efbe9e78f3486a8b855d9124036e70f977d42c907c573a78f10e99b08"), looks := false }, kinds := [], alts := [], laidByText := true, laidKinds := [.data], laidTests := true, laidLooks := .later }
def HivePinsCardSaid : Prop := Claim7.holds Tryd.pinned (.plain (OpenSpec.ofChange hivePinsSpec)) hivePinsCard

/-- THE TIED CARD OF 'apiarylaw05.HiveOldest'. -/
def hiveOldestCard : Claim7 := { stood := { row := hiveOldestRow, standIns := [], harness := (true, "575e516efbe9e78f3486a8b855d9124036e70f977d42c907c573a78f10e99b08"), looks := false }, kinds := [], alts := [], laidByText := true, laidKinds := [.data], laidTests := true, laidLooks := .later }
def HiveOldestCardSaid : Prop := Claim7.holds Tryd.pinned (.plain (OpenSpec.ofChange hiveOldestSpec)) hiveOldestCard

/-- THE TIED CARD OF 'apiarylaw05.HiveAgain'. -/
def hiveAgainCard : Claim7 := { stood := { row := hiveAgainRow, standIns := [], harness := (true, "575e516efbe9e78f3486a8b855d9124036e70f977d42c907c573a78f10e99b08"), looks := false }, kinds := [], alts := [], laidByText := true, laidKinds := [.data], laidTests := true, laidLooks := .later }
def HiveAgainCardSaid : Prop := Claim7.holds Tryd.pinned (.plain (OpenSpec.ofChange hiveAgainSpec)) hiveAgainCard

/-- THE TIED CARD OF 'apiarylaw05.HivePower'. -/
def hivePowerCard : Claim7 := { stood := { row := hivePowerRow, standIns := [], harness := (true, "575e516efbe9e78f3486a8b855d9124036e70f977d42c907c573a78f10e99b08"), looks := false }, kinds := [], alts := [], laidByText := true, laidKinds := [.data], laidTests := true, laidLooks := .later }
def HivePowerCardSaid : Prop := Claim7.holds Tryd.pinned (.plain (OpenSpec.ofChange hivePowerSpec)) hivePowerCard

/-- THE TIED CARD OF 'apiarylaw05.HiveTruth'. -/
def hiveTruthCard : Claim7 := { stood := { row := hiveTruthRow, standIns := [], harness := (true, "575e516efbe9e78f3486a8b855d9124036e70f977d42c907c573a78f10e99b08"), looks := false }, kinds := [], alts := [], laidByText := true, laidKinds := [.data], laidTests := true, laidLooks := .later }
def HiveTruthCardSaid : Prop := Claim7.holds Tryd.pinned (.plain (OpenSpec.ofChange hiveTruthSpec)) hiveTruthCard

/-- THE SECOND FORM's CARD OF 'apiarylaw17.HaulExact'. -/
def haulExactUptoCard : Claim7 := { stood := { row := haulExactUptoRow, standIns := [], harness := (true, "575e516efbe9e78f3486a8b855d9124036e70f977d42c907c573a78f10e99b08"), looks := false }, kinds := [], alts := [], laidByText := true, laidKinds := [.data], laidTests := true, laidLooks := .later }
def HaulExactUptoCardSaid : Prop := Claim7.holds Tryd.pinned (.plain (OpenSpec.upto haulExactSpec)) haulExactUptoCard

/-- THE SECOND FORM's CARD OF 'apiarylaw18.RationExact'. -/
def rationExactUptoCard : Claim7 := { stood := { row := rationExactUptoRow, standIns := [], harness := (true, "575e516efbe9e78f3486a8b855d9124036e70f977d42c907c573a78f10e99b08"), looks := false }, kinds := [], alts := [], laidByText := true, laidKinds := [.data], laidTests := true, laidLooks := .later }
def RationExactUptoCardSaid : Prop := Claim7.holds Tryd.pinned (.plain (OpenSpec.upto rationExactSpec)) rationExactUptoCard

/-- THE SECOND FORM's CARD OF 'apiarylaw18.RationRefills'. -/
def rationRefillsUptoCard : Claim7 := { stood := { row := rationRefillsUptoRow, standIns := [], harness := (true, "575e516efbe9e78f3486a8b855d9124036e70f977d42c907c573a78f10e99b08"), looks := false }, kinds := [], alts := [], laidByText := true, laidKinds := [.data], laidTests := true, laidLooks := .later }
def RationRefillsUptoCardSaid : Prop := Claim7.holds Tryd.pinned (.plain (OpenSpec.upto rationRefillsSpec)) rationRefillsUptoCard

/-- THE SECOND FORM's CARD OF 'apiarylaw18.RationBounds'. -/
def rationBoundsUptoCard : Claim7 := { stood := { row := rationBoundsUptoRow, standIns := [], harness := (true, "575e516efbe9e78f3486a8b855d9124036e70f977d42c907c573a78f10e99b08"), looks := false }, kinds := [], alts := [], laidByText := true, laidKinds := [.data], laidTests := true, laidLooks := .later }
def RationBoundsUptoCardSaid : Prop := Claim7.holds Tryd.pinned (.plain (OpenSpec.upto rationBoundsSpec)) rationBoundsUptoCard

/-- THE SECOND FORM's CARD OF 'apiarylaw18.RationHauls'. -/
def rationHaulsUptoCard : Claim7 := { stood := { row := rationHaulsUptoRow, standIns := [], harness := (true, "575e516efbe9e78f3486a8b855d9124036e70f977d42c907c573a78f10e99b08"), looks := false }, kinds := [], alts := [], laidByText := true, laidKinds := [.data], laidTests := true, laidLooks := .later }
def RationHaulsUptoCardSaid : Prop := Claim7.holds Tryd.pinned (.plain (OpenSpec.upto rationHaulsSpec)) rationHaulsUptoCard

/-- THE SECOND FORM's CARD OF 'apiarylaw05.HivePins'. -/
def hivePinsUptoCard : Claim7 := { stood := { row := hivePinsUptoRow, standIns := [], harness := (true, "575e516efbe9e78f3486a8b855d9124036e70f977d42c907c573a78f10e99b08"), looks := false }, kinds := [], alts := [], laidByText := true, laidKinds := [.data], laidTests := true, laidLooks := .later }
def HivePinsUptoCardSaid : Prop := Claim7.holds Tryd.pinned (.plain (OpenSpec.upto hivePinsSpec)) hivePinsUptoCard

/-- THE SECOND FORM's CARD OF 'apiarylaw05.HiveOldest'. -/
def hiveOldestUptoCard : Claim7 := { stood := { row := hiveOldestUptoRow, standIns := [], harness := (true, "575e516efbe9e78f3486a8b855d9124036e70f977d42c907c573a78f10e99b08"), looks := false }, kinds := [], alts := [], laidByText := true, laidKinds := [.data], laidTests := true, laidLooks := .later }
def HiveOldestUptoCardSaid : Prop := Claim7.holds Tryd.pinned (.plain (OpenSpec.upto hiveOldestSpec)) hiveOldestUptoCard

/-- THE SECOND FORM's CARD OF 'apiarylaw05.HiveAgain'. -/
def hiveAgainUptoCard : Claim7 := { stood := { row := hiveAgainUptoRow, standIns := [], harness := (true, "575e516efbe9e78f3486a8b855d9124036e70f977d42c907c573a78f10e99b08"), looks := false }, kinds := [], alts := [], laidByText := true, laidKinds := [.data], laidTests := true, laidLooks := .later }
def HiveAgainUptoCardSaid : Prop := Claim7.holds Tryd.pinned (.plain (OpenSpec.upto hiveAgainSpec)) hiveAgainUptoCard

/-- THE SECOND FORM's CARD OF 'apiarylaw05.HivePower'. -/
def hivePowerUptoCard : Claim7 := { stood := { row := hivePowerUptoRow, standIns := [], harness := (true, "575e516efbe9e78f3486a8b855d9124036e70f977d42c907c573a78f10e99b08"), looks := false }, kinds := [], alts := [], laidByText := true, laidKinds := [.data], laidTests := true, laidLooks := .later }
def HivePowerUptoCardSaid : Prop := Claim7.holds Tryd.pinned (.plain (OpenSpec.upto hivePowerSpec)) hivePowerUptoCard

/-- THE SECOND FORM's CARD OF 'apiarylaw05.HiveTruth'. -/
def hiveTruthUptoCard : Claim7 := { stood := { row := hiveTruthUptoRow, standIns := [], harness := (true, "575e516efbe9e78f3486a8b855d9124036e70f977d42c907c573a78f10e99b08"), looks := false }, kinds := [], alts := [], laidByText := true, laidKinds := [.data], laidTests := true, laidLooks := .later }
def HiveTruthUptoCardSaid : Prop := Claim7.holds Tryd.pinned (.plain (OpenSpec.upto hiveTruthSpec)) hiveTruthUptoCard
end Rows
end Go.Proofs.YtfbjbhddapoopaaDoor
