/-
  NARROWER THAN 'FOR EVERY INPUT', by the rows' own cells (each row's printed sentence says how): CombExact: laid · CombJoins: laid · CombBack: laid · CombParts: laid · CombWrites: laid · CombForms: laid · HaulExact: laid · HaulTruth: laid · HaulComes: laid · HaulDeaf: laid · RationHauls: laid.
  DERIVED. THE GIVEN ROWS OF THIS SEAT. 11 by the template 'for every input the law returns true; each argument reads behind the call as it read before'; 0 by the template 'total and deterministic' (their statements: YtokdnfhglckpkaaDoorTotals.lean).
  GIVEN WITH THE SEED: the statements are not yours to turn. If you find one false, say at which input.
  Laid BY PROGRAM, IN A SANDBOX (cutbox-rows.mjs): the forced cells as the released guide's own fill.sh prints them over the translation ac91c5e75c0a8f74… (all of the seat's roots in one cut). By AI agents, Wed Nov 11 2026. No macro, syntax, notation, axiom, sorry.
-/
import Derived.Test.YtokdnfhglckpkaaDoorChecked
import GoSem.Claim
import GoSem.ClaimJoined
import GoSem.ClaimMapViews
import Derived.JoinedTies
import Derived.KernelRfl
namespace Go.Proofs.YtokdnfhglckpkaaDoor
/- THE CELL 'sum', in the pinned program and in every row, IS THE sha256 OF THE DUMP (.gsa) THAT YtokdnfhglckpkaaDoorProg.lean LOADS. Nothing in Lean hashes anything: it is a label: what it is worth is what the hold of that sum in a sandbox is worth. -/
noncomputable def Tryd.pinned : Pinned := { name := "ytokdnfhglckpkaadoor", sum := "ac91c5e75c0a8f74d6b0f604bea923fc3b4770fe66a68c46a439911a8b3ee622", checked := Tryd.checked }
namespace Rows
def none {H : Type} : Left H := { results := [], args := [] }

/- WHAT THE LISTED PACKAGE-LEVEL VARIABLES READ AS WHEN THE CALL BEGINS. Each datum BY PROGRAM (the guide's laid-datum.mjs) off the statement by which the dump's own 'gosem.cut.vars' lays the variable. In a bare row this is a premise. The card (YtokdnfhglckpkaaDoorCards.lean) ties it to the program's text. -/
def laid_apiary_stamp_words {H : Type} : DataW H := .agg [.lit (.int .u32 1116352408), .lit (.int .u32 1899447441), .lit (.int .u32 3049323471), .lit (.int .u32 3921009573), .lit (.int .u32 961987163), .lit (.int .u32 1508970993), .lit (.int .u32 2453635748), .lit (.int .u32 2870763221), .lit (.int .u32 3624381080), .lit (.int .u32 310598401), .lit (.int .u32 607225278), .lit (.int .u32 1426881987), .lit (.int .u32 1925078388), .lit (.int .u32 2162078206), .lit (.int .u32 2614888103), .lit (.int .u32 3248222580), .lit (.int .u32 3835390401), .lit (.int .u32 4022224774), .lit (.int .u32 264347078), .lit (.int .u32 604807628), .lit (.int .u32 770255983), .lit (.int .u32 1249150122), .lit (.int .u32 1555081692), .lit (.int .u32 1996064986), .lit (.int .u32 2554220882), .lit (.int .u32 2821834349), .lit (.int .u32 2952996808), .lit (.int .u32 3210313671), .lit (.int .u32 3336571891), .lit (.int .u32 3584528711), .lit (.int .u32 113926993), .lit (.int .u32 338241895), .lit (.int .u32 666307205), .lit (.int .u32 773529912), .lit (.int .u32 1294757372), .lit (.int .u32 1396182291), .lit (.int .u32 1695183700), .lit (.int .u32 1986661051), .lit (.int .u32 2177026350), .lit (.int .u32 2456956037), .lit (.int .u32 2730485921), .lit (.int .u32 2820302411), .lit (.int .u32 3259730800), .lit (.int .u32 3345764771), .lit (.int .u32 3516065817), .lit (.int .u32 3600352804), .lit (.int .u32 4094571909), .lit (.int .u32 275423344), .lit (.int .u32 430227734), .lit (.int .u32 506948616), .lit (.int .u32 659060556), .lit (.int .u32 883997877), .lit (.int .u32 958139571), .lit (.int .u32 1322822218), .lit (.int .u32 1537002063), .lit (.int .u32 1747873779), .lit (.int .u32 1955562222), .lit (.int .u32 2024104815), .lit (.int .u32 2227730452), .lit (.int .u32 2361852424), .lit (.int .u32 2428436474), .lit (.int .u32 2756734187), .lit (.int .u32 3204031479), .lit (.int .u32 3329325298)]

/-- 'apiarylaw03.CombExact': WHATEVER THE INPUT: true; the input reads as it did. -/
def combExactSpec : ChangeSpec := { name := "combExact", fn := fun _ => fun
  | [d] => { results := [.lit (.bool true)], args := [d] }
  | _ => none }
def combExactRow : OpenClaim := { program := "ytokdnfhglckpkaadoor", sum := "ac91c5e75c0a8f74d6b0f604bea923fc3b4770fe66a68c46a439911a8b3ee622", func := "apiary/apiarylaw03.CombExact", spec := "combExact", inPlace := ["internal/abi.NoEscape", "internal/bytealg.MakeNoZero"], named := ["apiary/stamp.words"], plainKeys := false, apart := false, laid := [("apiary/stamp.words", laid_apiary_stamp_words)] }
def CombExactSaid : Prop := combExactRow.holds Tryd.pinned (OpenSpec.ofChange combExactSpec)

/-- ITS FALSE NEIGHBOUR: 'it returns false'. Refute it at one input. -/
def combExactWrong : ChangeSpec := { name := "combExact", fn := fun _ => fun
  | [d] => { results := [.lit (.bool false)], args := [d] }
  | _ => none }
def CombExactWrongFalsely : Prop := combExactRow.holds Tryd.pinned (OpenSpec.ofChange combExactWrong)

/-- 'apiarylaw03.CombJoins': WHATEVER THE INPUT: true; the input reads as it did. -/
def combJoinsSpec : ChangeSpec := { name := "combJoins", fn := fun _ => fun
  | [d1, d2, d3] => { results := [.lit (.bool true)], args := [d1, d2, d3] }
  | _ => none }
def combJoinsRow : OpenClaim := { program := "ytokdnfhglckpkaadoor", sum := "ac91c5e75c0a8f74d6b0f604bea923fc3b4770fe66a68c46a439911a8b3ee622", func := "apiary/apiarylaw03.CombJoins", spec := "combJoins", inPlace := ["internal/abi.NoEscape", "internal/bytealg.MakeNoZero"], named := ["apiary/stamp.words"], plainKeys := false, apart := false, laid := [("apiary/stamp.words", laid_apiary_stamp_words)] }
def CombJoinsSaid : Prop := combJoinsRow.holds Tryd.pinned (OpenSpec.ofChange combJoinsSpec)

/-- ITS FALSE NEIGHBOUR: 'it returns false'. Refute it at one input. -/
def combJoinsWrong : ChangeSpec := { name := "combJoins", fn := fun _ => fun
  | [d1, d2, d3] => { results := [.lit (.bool false)], args := [d1, d2, d3] }
  | _ => none }
def CombJoinsWrongFalsely : Prop := combJoinsRow.holds Tryd.pinned (OpenSpec.ofChange combJoinsWrong)

/-- 'apiarylaw03.CombBack': WHATEVER THE INPUT: true; the input reads as it did. -/
def combBackSpec : ChangeSpec := { name := "combBack", fn := fun _ => fun
  | [d1, d2, d3] => { results := [.lit (.bool true)], args := [d1, d2, d3] }
  | _ => none }
def combBackRow : OpenClaim := { program := "ytokdnfhglckpkaadoor", sum := "ac91c5e75c0a8f74d6b0f604bea923fc3b4770fe66a68c46a439911a8b3ee622", func := "apiary/apiarylaw03.CombBack", spec := "combBack", inPlace := ["internal/abi.NoEscape", "internal/bytealg.MakeNoZero"], named := ["apiary/stamp.words"], plainKeys := false, apart := false, laid := [("apiary/stamp.words", laid_apiary_stamp_words)] }
def CombBackSaid : Prop := combBackRow.holds Tryd.pinned (OpenSpec.ofChange combBackSpec)

/-- ITS FALSE NEIGHBOUR: 'it returns false'. Refute it at one input. -/
def combBackWrong : ChangeSpec := { name := "combBack", fn := fun _ => fun
  | [d1, d2, d3] => { results := [.lit (.bool false)], args := [d1, d2, d3] }
  | _ => none }
def CombBackWrongFalsely : Prop := combBackRow.holds Tryd.pinned (OpenSpec.ofChange combBackWrong)

/-- 'apiarylaw03.CombParts': WHATEVER THE INPUT: true; the input reads as it did. -/
def combPartsSpec : ChangeSpec := { name := "combParts", fn := fun _ => fun
  | [d] => { results := [.lit (.bool true)], args := [d] }
  | _ => none }
def combPartsRow : OpenClaim := { program := "ytokdnfhglckpkaadoor", sum := "ac91c5e75c0a8f74d6b0f604bea923fc3b4770fe66a68c46a439911a8b3ee622", func := "apiary/apiarylaw03.CombParts", spec := "combParts", inPlace := ["internal/abi.NoEscape", "internal/bytealg.MakeNoZero"], named := ["apiary/stamp.words"], plainKeys := false, apart := false, laid := [("apiary/stamp.words", laid_apiary_stamp_words)] }
def CombPartsSaid : Prop := combPartsRow.holds Tryd.pinned (OpenSpec.ofChange combPartsSpec)

/-- ITS FALSE NEIGHBOUR: 'it returns false'. Refute it at one input. -/
def combPartsWrong : ChangeSpec := { name := "combParts", fn := fun _ => fun
  | [d] => { results := [.lit (.bool false)], args := [d] }
  | _ => none }
def CombPartsWrongFalsely : Prop := combPartsRow.holds Tryd.pinned (OpenSpec.ofChange combPartsWrong)

/-- 'apiarylaw03.CombWrites': WHATEVER THE INPUT: true; the input reads as it did. -/
def combWritesSpec : ChangeSpec := { name := "combWrites", fn := fun _ => fun
  | [d1, d2, d3] => { results := [.lit (.bool true)], args := [d1, d2, d3] }
  | _ => none }
def combWritesRow : OpenClaim := { program := "ytokdnfhglckpkaadoor", sum := "ac91c5e75c0a8f74d6b0f604bea923fc3b4770fe66a68c46a439911a8b3ee622", func := "apiary/apiarylaw03.CombWrites", spec := "combWrites", inPlace := ["internal/abi.NoEscape", "internal/bytealg.MakeNoZero"], unfollowed := true, recurses := true, named := ["apiary/stamp.words"], plainKeys := false, apart := false, laid := [("apiary/stamp.words", laid_apiary_stamp_words)] }
def CombWritesSaid : Prop := combWritesRow.holds Tryd.pinned (OpenSpec.ofChange combWritesSpec)

/-- ITS FALSE NEIGHBOUR: 'it returns false'. Refute it at one input. -/
def combWritesWrong : ChangeSpec := { name := "combWrites", fn := fun _ => fun
  | [d1, d2, d3] => { results := [.lit (.bool false)], args := [d1, d2, d3] }
  | _ => none }
def CombWritesWrongFalsely : Prop := combWritesRow.holds Tryd.pinned (OpenSpec.ofChange combWritesWrong)

/-- 'apiarylaw03.CombForms': WHATEVER THE INPUT: true; the input reads as it did. -/
def combFormsSpec : ChangeSpec := { name := "combForms", fn := fun _ => fun
  | [d1, d2, d3] => { results := [.lit (.bool true)], args := [d1, d2, d3] }
  | _ => none }
def combFormsRow : OpenClaim := { program := "ytokdnfhglckpkaadoor", sum := "ac91c5e75c0a8f74d6b0f604bea923fc3b4770fe66a68c46a439911a8b3ee622", func := "apiary/apiarylaw03.CombForms", spec := "combForms", inPlace := ["internal/abi.NoEscape", "internal/bytealg.MakeNoZero"], unfollowed := true, recurses := true, named := ["apiary/stamp.words"], plainKeys := false, apart := false, laid := [("apiary/stamp.words", laid_apiary_stamp_words)] }
def CombFormsSaid : Prop := combFormsRow.holds Tryd.pinned (OpenSpec.ofChange combFormsSpec)

/-- ITS FALSE NEIGHBOUR: 'it returns false'. Refute it at one input. -/
def combFormsWrong : ChangeSpec := { name := "combForms", fn := fun _ => fun
  | [d1, d2, d3] => { results := [.lit (.bool false)], args := [d1, d2, d3] }
  | _ => none }
def CombFormsWrongFalsely : Prop := combFormsRow.holds Tryd.pinned (OpenSpec.ofChange combFormsWrong)

/-- 'apiarylaw17.HaulExact': WHATEVER THE INPUT: true; the input reads as it did. -/
def haulExactSpec : ChangeSpec := { name := "haulExact", fn := fun _ => fun
  | [d1, d2, d3] => { results := [.lit (.bool true)], args := [d1, d2, d3] }
  | _ => none }
def haulExactRow : OpenClaim := { program := "ytokdnfhglckpkaadoor", sum := "ac91c5e75c0a8f74d6b0f604bea923fc3b4770fe66a68c46a439911a8b3ee622", func := "apiary/apiarylaw17.HaulExact", spec := "haulExact", inPlace := ["internal/abi.NoEscape", "internal/bytealg.MakeNoZero"], named := ["apiary/stamp.words"], plainKeys := false, apart := false, laid := [("apiary/stamp.words", laid_apiary_stamp_words)] }
def HaulExactSaid : Prop := haulExactRow.holds Tryd.pinned (OpenSpec.ofChange haulExactSpec)

/-- ITS FALSE NEIGHBOUR: 'it returns false'. Refute it at one input. -/
def haulExactWrong : ChangeSpec := { name := "haulExact", fn := fun _ => fun
  | [d1, d2, d3] => { results := [.lit (.bool false)], args := [d1, d2, d3] }
  | _ => none }
def HaulExactWrongFalsely : Prop := haulExactRow.holds Tryd.pinned (OpenSpec.ofChange haulExactWrong)

/-- 'apiarylaw17.HaulTruth': WHATEVER THE INPUT: true; the input reads as it did. -/
def haulTruthSpec : ChangeSpec := { name := "haulTruth", fn := fun _ => fun
  | [d1, d2, d3] => { results := [.lit (.bool true)], args := [d1, d2, d3] }
  | _ => none }
def haulTruthRow : OpenClaim := { program := "ytokdnfhglckpkaadoor", sum := "ac91c5e75c0a8f74d6b0f604bea923fc3b4770fe66a68c46a439911a8b3ee622", func := "apiary/apiarylaw17.HaulTruth", spec := "haulTruth", inPlace := ["internal/abi.NoEscape", "internal/bytealg.MakeNoZero"], named := ["apiary/stamp.words"], plainKeys := false, apart := false, laid := [("apiary/stamp.words", laid_apiary_stamp_words)] }
def HaulTruthSaid : Prop := haulTruthRow.holds Tryd.pinned (OpenSpec.ofChange haulTruthSpec)

/-- ITS FALSE NEIGHBOUR: 'it returns false'. Refute it at one input. -/
def haulTruthWrong : ChangeSpec := { name := "haulTruth", fn := fun _ => fun
  | [d1, d2, d3] => { results := [.lit (.bool false)], args := [d1, d2, d3] }
  | _ => none }
def HaulTruthWrongFalsely : Prop := haulTruthRow.holds Tryd.pinned (OpenSpec.ofChange haulTruthWrong)

/-- 'apiarylaw17.HaulComes': WHATEVER THE INPUT: true; the input reads as it did. -/
def haulComesSpec : ChangeSpec := { name := "haulComes", fn := fun _ => fun
  | [d1, d2] => { results := [.lit (.bool true)], args := [d1, d2] }
  | _ => none }
def haulComesRow : OpenClaim := { program := "ytokdnfhglckpkaadoor", sum := "ac91c5e75c0a8f74d6b0f604bea923fc3b4770fe66a68c46a439911a8b3ee622", func := "apiary/apiarylaw17.HaulComes", spec := "haulComes", inPlace := ["internal/abi.NoEscape", "internal/bytealg.MakeNoZero"], named := ["apiary/stamp.words"], plainKeys := false, apart := false, laid := [("apiary/stamp.words", laid_apiary_stamp_words)] }
def HaulComesSaid : Prop := haulComesRow.holds Tryd.pinned (OpenSpec.ofChange haulComesSpec)

/-- ITS FALSE NEIGHBOUR: 'it returns false'. Refute it at one input. -/
def haulComesWrong : ChangeSpec := { name := "haulComes", fn := fun _ => fun
  | [d1, d2] => { results := [.lit (.bool false)], args := [d1, d2] }
  | _ => none }
def HaulComesWrongFalsely : Prop := haulComesRow.holds Tryd.pinned (OpenSpec.ofChange haulComesWrong)

/-- 'apiarylaw17.HaulDeaf': WHATEVER THE INPUT: true; the input reads as it did. -/
def haulDeafSpec : ChangeSpec := { name := "haulDeaf", fn := fun _ => fun
  | [d1, d2, d3] => { results := [.lit (.bool true)], args := [d1, d2, d3] }
  | _ => none }
def haulDeafRow : OpenClaim := { program := "ytokdnfhglckpkaadoor", sum := "ac91c5e75c0a8f74d6b0f604bea923fc3b4770fe66a68c46a439911a8b3ee622", func := "apiary/apiarylaw17.HaulDeaf", spec := "haulDeaf", inPlace := ["internal/abi.NoEscape", "internal/bytealg.MakeNoZero"], named := ["apiary/stamp.words"], plainKeys := false, apart := false, laid := [("apiary/stamp.words", laid_apiary_stamp_words)] }
def HaulDeafSaid : Prop := haulDeafRow.holds Tryd.pinned (OpenSpec.ofChange haulDeafSpec)

/-- ITS FALSE NEIGHBOUR: 'it returns false'. Refute it at one input. -/
def haulDeafWrong : ChangeSpec := { name := "haulDeaf", fn := fun _ => fun
  | [d1, d2, d3] => { results := [.lit (.bool false)], args := [d1, d2, d3] }
  | _ => none }
def HaulDeafWrongFalsely : Prop := haulDeafRow.holds Tryd.pinned (OpenSpec.ofChange haulDeafWrong)

/-- 'apiarylaw18.RationHauls': WHATEVER THE INPUT: true; the input reads as it did. -/
def rationHaulsSpec : ChangeSpec := { name := "rationHauls", fn := fun _ => fun
  | [d1, d2] => { results := [.lit (.bool true)], args := [d1, d2] }
  | _ => none }
def rationHaulsRow : OpenClaim := { program := "ytokdnfhglckpkaadoor", sum := "ac91c5e75c0a8f74d6b0f604bea923fc3b4770fe66a68c46a439911a8b3ee622", func := "apiary/apiarylaw18.RationHauls", spec := "rationHauls", inPlace := ["internal/abi.NoEscape", "internal/bytealg.MakeNoZero"], named := ["apiary/stamp.words"], plainKeys := false, apart := false, laid := [("apiary/stamp.words", laid_apiary_stamp_words)] }
def RationHaulsSaid : Prop := rationHaulsRow.holds Tryd.pinned (OpenSpec.ofChange rationHaulsSpec)

/-- ITS FALSE NEIGHBOUR: 'it returns false'. Refute it at one input. -/
def rationHaulsWrong : ChangeSpec := { name := "rationHauls", fn := fun _ => fun
  | [d1, d2] => { results := [.lit (.bool false)], args := [d1, d2] }
  | _ => none }
def RationHaulsWrongFalsely : Prop := rationHaulsRow.holds Tryd.pinned (OpenSpec.ofChange rationHaulsWrong)

/- THE SECOND FORM. 'bulk': how many values and letters a reading holds, each counted each time it is reached (what is shared counts as often as it is met; a slice's spare places count too). A statement '..UptoSaid' is the law's where the arguments, and the package variables that the reading takes, are together of bulk at most 1048576: NARROWER than '..Said'. Prove '..Said' where nothing that the law and all that it calls make is longer than what came in: it says more and counts as full. Else prove '..UptoSaid'. A law counts once. -/
mutual
def uptoBulk {H : Type} : DataW H → Nat
  | .lit (.string bytes) => bytes.length + 1
  | .lit _ => 1
  | .nil => 1
  | .ptr d => uptoBulk d + 1
  | .slice elems spare => uptoBulkAll elems + uptoBulkAll spare + 1
  | .agg parts => uptoBulkAll parts + 1
  | .iface _ d => uptoBulk d + 1
  | .map entries => uptoBulkEntries entries + 1
  | .held _ => 1
def uptoBulkAll {H : Type} : List (DataW H) → Nat
  | [] => 0
  | d :: r => uptoBulk d + uptoBulkAll r
def uptoBulkEntries {H : Type} : List (Lit × DataW H) → Nat
  | [] => 0
  | x :: r => uptoBulkEntry x + uptoBulkEntries r
def uptoBulkEntry {H : Type} : Lit × DataW H → Nat
  | (.string bytes, d) => bytes.length + uptoBulk d + 1
  | (_, d) => uptoBulk d + 1
 end
def uptoSmall : (H : Type) → List (DataW H) → Bool := fun _ ds => decide (uptoBulkAll ds ≤ 1048576)
def OpenSpec.upto (s : _root_.Go.ChangeSpec) : _root_.Go.OpenSpec := { _root_.Go.OpenSpec.ofChange s with cond := some uptoSmall }

/-- 'apiarylaw03.CombExact', WHERE WHAT IT READS IS OF BULK AT MOST 1048576: true; the input reads as it did. -/
def combExactUptoRow : OpenClaim := { program := "ytokdnfhglckpkaadoor", sum := "ac91c5e75c0a8f74d6b0f604bea923fc3b4770fe66a68c46a439911a8b3ee622", func := "apiary/apiarylaw03.CombExact", spec := "combExact", inPlace := ["internal/abi.NoEscape", "internal/bytealg.MakeNoZero"], named := ["apiary/stamp.words"], plainKeys := false, apart := false, laid := [("apiary/stamp.words", laid_apiary_stamp_words)], narrowed := true }
def CombExactUptoSaid : Prop := combExactUptoRow.holds Tryd.pinned (OpenSpec.upto combExactSpec)

/-- 'apiarylaw03.CombJoins', WHERE WHAT IT READS IS OF BULK AT MOST 1048576: true; the input reads as it did. -/
def combJoinsUptoRow : OpenClaim := { program := "ytokdnfhglckpkaadoor", sum := "ac91c5e75c0a8f74d6b0f604bea923fc3b4770fe66a68c46a439911a8b3ee622", func := "apiary/apiarylaw03.CombJoins", spec := "combJoins", inPlace := ["internal/abi.NoEscape", "internal/bytealg.MakeNoZero"], named := ["apiary/stamp.words"], plainKeys := false, apart := false, laid := [("apiary/stamp.words", laid_apiary_stamp_words)], narrowed := true }
def CombJoinsUptoSaid : Prop := combJoinsUptoRow.holds Tryd.pinned (OpenSpec.upto combJoinsSpec)

/-- 'apiarylaw03.CombBack', WHERE WHAT IT READS IS OF BULK AT MOST 1048576: true; the input reads as it did. -/
def combBackUptoRow : OpenClaim := { program := "ytokdnfhglckpkaadoor", sum := "ac91c5e75c0a8f74d6b0f604bea923fc3b4770fe66a68c46a439911a8b3ee622", func := "apiary/apiarylaw03.CombBack", spec := "combBack", inPlace := ["internal/abi.NoEscape", "internal/bytealg.MakeNoZero"], named := ["apiary/stamp.words"], plainKeys := false, apart := false, laid := [("apiary/stamp.words", laid_apiary_stamp_words)], narrowed := true }
def CombBackUptoSaid : Prop := combBackUptoRow.holds Tryd.pinned (OpenSpec.upto combBackSpec)

/-- 'apiarylaw03.CombParts', WHERE WHAT IT READS IS OF BULK AT MOST 1048576: true; the input reads as it did. -/
def combPartsUptoRow : OpenClaim := { program := "ytokdnfhglckpkaadoor", sum := "ac91c5e75c0a8f74d6b0f604bea923fc3b4770fe66a68c46a439911a8b3ee622", func := "apiary/apiarylaw03.CombParts", spec := "combParts", inPlace := ["internal/abi.NoEscape", "internal/bytealg.MakeNoZero"], named := ["apiary/stamp.words"], plainKeys := false, apart := false, laid := [("apiary/stamp.words", laid_apiary_stamp_words)], narrowed := true }
def CombPartsUptoSaid : Prop := combPartsUptoRow.holds Tryd.pinned (OpenSpec.upto combPartsSpec)

/-- 'apiarylaw03.CombWrites', WHERE WHAT IT READS IS OF BULK AT MOST 1048576: true; the input reads as it did. -/
def combWritesUptoRow : OpenClaim := { program := "ytokdnfhglckpkaadoor", sum := "ac91c5e75c0a8f74d6b0f604bea923fc3b4770fe66a68c46a439911a8b3ee622", func := "apiary/apiarylaw03.CombWrites", spec := "combWrites", inPlace := ["internal/abi.NoEscape", "internal/bytealg.MakeNoZero"], unfollowed := true, recurses := true, named := ["apiary/stamp.words"], plainKeys := false, apart := false, laid := [("apiary/stamp.words", laid_apiary_stamp_words)], narrowed := true }
def CombWritesUptoSaid : Prop := combWritesUptoRow.holds Tryd.pinned (OpenSpec.upto combWritesSpec)

/-- 'apiarylaw03.CombForms', WHERE WHAT IT READS IS OF BULK AT MOST 1048576: true; the input reads as it did. -/
def combFormsUptoRow : OpenClaim := { program := "ytokdnfhglckpkaadoor", sum := "ac91c5e75c0a8f74d6b0f604bea923fc3b4770fe66a68c46a439911a8b3ee622", func := "apiary/apiarylaw03.CombForms", spec := "combForms", inPlace := ["internal/abi.NoEscape", "internal/bytealg.MakeNoZero"], unfollowed := true, recurses := true, named := ["apiary/stamp.words"], plainKeys := false, apart := false, laid := [("apiary/stamp.words", laid_apiary_stamp_words)], narrowed := true }
def CombFormsUptoSaid : Prop := combFormsUptoRow.holds Tryd.pinned (OpenSpec.upto combFormsSpec)

/-- 'apiarylaw17.HaulExact', WHERE WHAT IT READS IS OF BULK AT MOST 1048576: true; the input reads as it did. -/
def haulExactUptoRow : OpenClaim := { program := "ytokdnfhglckpkaadoor", sum := "ac91c5e75c0a8f74d6b0f604bea923fc3b4770fe66a68c46a439911a8b3ee622", func := "apiary/apiarylaw17.HaulExact", spec := "haulExact", inPlace := ["internal/abi.NoEscape", "internal/bytealg.MakeNoZero"], named := ["apiary/stamp.words"], plainKeys := false, apart := false, laid := [("apiary/stamp.words", laid_apiary_stamp_words)], narrowed := true }
def HaulExactUptoSaid : Prop := haulExactUptoRow.holds Tryd.pinned (OpenSpec.upto haulExactSpec)

/-- 'apiarylaw17.HaulTruth', WHERE WHAT IT READS IS OF BULK AT MOST 1048576: true; the input reads as it did. -/
def haulTruthUptoRow : OpenClaim := { program := "ytokdnfhglckpkaadoor", sum := "ac91c5e75c0a8f74d6b0f604bea923fc3b4770fe66a68c46a439911a8b3ee622", func := "apiary/apiarylaw17.HaulTruth", spec := "haulTruth", inPlace := ["internal/abi.NoEscape", "internal/bytealg.MakeNoZero"], named := ["apiary/stamp.words"], plainKeys := false, apart := false, laid := [("apiary/stamp.words", laid_apiary_stamp_words)], narrowed := true }
def HaulTruthUptoSaid : Prop := haulTruthUptoRow.holds Tryd.pinned (OpenSpec.upto haulTruthSpec)

/-- 'apiarylaw17.HaulComes', WHERE WHAT IT READS IS OF BULK AT MOST 1048576: true; the input reads as it did. -/
def haulComesUptoRow : OpenClaim := { program := "ytokdnfhglckpkaadoor", sum := "ac91c5e75c0a8f74d6b0f604bea923fc3b4770fe66a68c46a439911a8b3ee622", func := "apiary/apiarylaw17.HaulComes", spec := "haulComes", inPlace := ["internal/abi.NoEscape", "internal/bytealg.MakeNoZero"], named := ["apiary/stamp.words"], plainKeys := false, apart := false, laid := [("apiary/stamp.words", laid_apiary_stamp_words)], narrowed := true }
def HaulComesUptoSaid : Prop := haulComesUptoRow.holds Tryd.pinned (OpenSpec.upto haulComesSpec)

/-- 'apiarylaw17.HaulDeaf', WHERE WHAT IT READS IS OF BULK AT MOST 1048576: true; the input reads as it did. -/
def haulDeafUptoRow : OpenClaim := { program := "ytokdnfhglckpkaadoor", sum := "ac91c5e75c0a8f74d6b0f604bea923fc3b4770fe66a68c46a439911a8b3ee622", func := "apiary/apiarylaw17.HaulDeaf", spec := "haulDeaf", inPlace := ["internal/abi.NoEscape", "internal/bytealg.MakeNoZero"], named := ["apiary/stamp.words"], plainKeys := false, apart := false, laid := [("apiary/stamp.words", laid_apiary_stamp_words)], narrowed := true }
def HaulDeafUptoSaid : Prop := haulDeafUptoRow.holds Tryd.pinned (OpenSpec.upto haulDeafSpec)

/-- 'apiarylaw18.RationHauls', WHERE WHAT IT READS IS OF BULK AT MOST 1048576: true; the input reads as it did. -/
def rationHaulsUptoRow : OpenClaim := { program := "ytokdnfhglckpkaadoor", sum := "ac91c5e75c0a8f74d6b0f604bea923fc3b4770fe66a68c46a439911a8b3ee622", func := "apiary/apiarylaw18.RationHauls", spec := "rationHauls", inPlace := ["internal/abi.NoEscape", "internal/bytealg.MakeNoZero"], named := ["apiary/stamp.words"], plainKeys := false, apart := false, laid := [("apiary/stamp.words", laid_apiary_stamp_words)], narrowed := true }
def RationHaulsUptoSaid : Prop := rationHaulsUptoRow.holds Tryd.pinned (OpenSpec.upto rationHaulsSpec)

end Rows
end Go.Proofs.YtokdnfhglckpkaaDoor
