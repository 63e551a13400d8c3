/-
  NARROWER THAN 'FOR EVERY INPUT', by the rows' own cells (each row's printed sentence says how): WingBack: laid · WingForms: laid · WingTells: laid · HivePins: laid · HiveOldest: laid · HiveAgain: laid · HivePower: laid · HiveTruth: laid.
  DERIVED. THE GIVEN ROWS OF THIS SEAT. 8 by the template 'for every input the law returns true; each argument reads behind the call as it read before'; 0 by the template 'total and deterministic' (their statements: YteihfoacdocgkaaDoorTotals.lean).
  GIVEN WITH THE SEED: the statements are not yours to turn. If you find one false, say at which input.
  Laid BY PROGRAM, IN A SANDBOX (cutbox-rows.mjs): the forced cells as the released guide's own fill.sh prints them over the translation 5ce7d3e8273bf4e1… (all of the seat's roots in one cut). By AI agents, Wed Nov 11 2026. No macro, syntax, notation, axiom, sorry.
-/
import Derived.Test.YteihfoacdocgkaaDoorChecked
import GoSem.Claim
import GoSem.ClaimJoined
import GoSem.ClaimMapViews
import Derived.JoinedTies
import Derived.KernelRfl
namespace Go.Proofs.YteihfoacdocgkaaDoor
/- THE CELL 'sum', in the pinned program and in every row, IS THE sha256 OF THE DUMP (.gsa) THAT YteihfoacdocgkaaDoorProg.lean LOADS. Nothing in Lean hashes anything: it is a label: what it is worth is what the hold of that sum in a sandbox is worth. -/
noncomputable def Tryd.pinned : Pinned := { name := "yteihfoacdocgkaadoor", sum := "5ce7d3e8273bf4e175f5e89d2ac3559c65295953f7a57862aa70efe44945f436", checked := Tryd.checked }
namespace Rows
def none {H : Type} : Left H := { results := [], args := [] }

/- WHAT THE LISTED PACKAGE-LEVEL VARIABLES READ AS WHEN THE CALL BEGINS. Each datum BY PROGRAM (the guide's laid-datum.mjs) off the statement by which the dump's own 'gosem.cut.vars' lays the variable. In a bare row this is a premise. The card (YteihfoacdocgkaaDoorCards.lean) ties it to the program's text. -/
def laid_apiary_stamp_words {H : Type} : DataW H := .agg [.lit (.int .u32 1116352408), .lit (.int .u32 1899447441), .lit (.int .u32 3049323471), .lit (.int .u32 3921009573), .lit (.int .u32 961987163), .lit (.int .u32 1508970993), .lit (.int .u32 2453635748), .lit (.int .u32 2870763221), .lit (.int .u32 3624381080), .lit (.int .u32 310598401), .lit (.int .u32 607225278), .lit (.int .u32 1426881987), .lit (.int .u32 1925078388), .lit (.int .u32 2162078206), .lit (.int .u32 2614888103), .lit (.int .u32 3248222580), .lit (.int .u32 3835390401), .lit (.int .u32 4022224774), .lit (.int .u32 264347078), .lit (.int .u32 604807628), .lit (.int .u32 770255983), .lit (.int .u32 1249150122), .lit (.int .u32 1555081692), .lit (.int .u32 1996064986), .lit (.int .u32 2554220882), .lit (.int .u32 2821834349), .lit (.int .u32 2952996808), .lit (.int .u32 3210313671), .lit (.int .u32 3336571891), .lit (.int .u32 3584528711), .lit (.int .u32 113926993), .lit (.int .u32 338241895), .lit (.int .u32 666307205), .lit (.int .u32 773529912), .lit (.int .u32 1294757372), .lit (.int .u32 1396182291), .lit (.int .u32 1695183700), .lit (.int .u32 1986661051), .lit (.int .u32 2177026350), .lit (.int .u32 2456956037), .lit (.int .u32 2730485921), .lit (.int .u32 2820302411), .lit (.int .u32 3259730800), .lit (.int .u32 3345764771), .lit (.int .u32 3516065817), .lit (.int .u32 3600352804), .lit (.int .u32 4094571909), .lit (.int .u32 275423344), .lit (.int .u32 430227734), .lit (.int .u32 506948616), .lit (.int .u32 659060556), .lit (.int .u32 883997877), .lit (.int .u32 958139571), .lit (.int .u32 1322822218), .lit (.int .u32 1537002063), .lit (.int .u32 1747873779), .lit (.int .u32 1955562222), .lit (.int .u32 2024104815), .lit (.int .u32 2227730452), .lit (.int .u32 2361852424), .lit (.int .u32 2428436474), .lit (.int .u32 2756734187), .lit (.int .u32 3204031479), .lit (.int .u32 3329325298)]

/-- 'apiarylaw19.WingBack': WHATEVER THE INPUT: true; the input reads as it did. -/
def wingBackSpec : ChangeSpec := { name := "wingBack", fn := fun _ => fun
  | [d1, d2] => { results := [.lit (.bool true)], args := [d1, d2] }
  | _ => none }
def wingBackRow : OpenClaim := { program := "yteihfoacdocgkaadoor", sum := "5ce7d3e8273bf4e175f5e89d2ac3559c65295953f7a57862aa70efe44945f436", func := "apiary/apiarylaw19.WingBack", spec := "wingBack", inPlace := ["internal/abi.NoEscape"], unfollowed := true, recurses := true, named := ["apiary/stamp.words"], plainKeys := false, apart := false, laid := [("apiary/stamp.words", laid_apiary_stamp_words)] }
def WingBackSaid : Prop := wingBackRow.holds Tryd.pinned (OpenSpec.ofChange wingBackSpec)

/-- ITS FALSE NEIGHBOUR: 'it returns false'. Refute it at one input. -/
def wingBackWrong : ChangeSpec := { name := "wingBack", fn := fun _ => fun
  | [d1, d2] => { results := [.lit (.bool false)], args := [d1, d2] }
  | _ => none }
def WingBackWrongFalsely : Prop := wingBackRow.holds Tryd.pinned (OpenSpec.ofChange wingBackWrong)

/-- 'apiarylaw19.WingForms': WHATEVER THE INPUT: true; the input reads as it did. -/
def wingFormsSpec : ChangeSpec := { name := "wingForms", fn := fun _ => fun
  | [d] => { results := [.lit (.bool true)], args := [d] }
  | _ => none }
def wingFormsRow : OpenClaim := { program := "yteihfoacdocgkaadoor", sum := "5ce7d3e8273bf4e175f5e89d2ac3559c65295953f7a57862aa70efe44945f436", func := "apiary/apiarylaw19.WingForms", spec := "wingForms", inPlace := ["internal/abi.NoEscape"], unfollowed := true, recurses := true, named := ["apiary/stamp.words"], plainKeys := false, apart := false, laid := [("apiary/stamp.words", laid_apiary_stamp_words)] }
def WingFormsSaid : Prop := wingFormsRow.holds Tryd.pinned (OpenSpec.ofChange wingFormsSpec)

/-- ITS FALSE NEIGHBOUR: 'it returns false'. Refute it at one input. -/
def wingFormsWrong : ChangeSpec := { name := "wingForms", fn := fun _ => fun
  | [d] => { results := [.lit (.bool false)], args := [d] }
  | _ => none }
def WingFormsWrongFalsely : Prop := wingFormsRow.holds Tryd.pinned (OpenSpec.ofChange wingFormsWrong)

/-- 'apiarylaw19.WingTells': WHATEVER THE INPUT: true; the input reads as it did. -/
def wingTellsSpec : ChangeSpec := { name := "wingTells", fn := fun _ => fun
  | [d1, d2, d3] => { results := [.lit (.bool true)], args := [d1, d2, d3] }
  | _ => none }
def wingTellsRow : OpenClaim := { program := "yteihfoacdocgkaadoor", sum := "5ce7d3e8273bf4e175f5e89d2ac3559c65295953f7a57862aa70efe44945f436", func := "apiary/apiarylaw19.WingTells", spec := "wingTells", inPlace := ["internal/abi.NoEscape"], unfollowed := true, recurses := true, named := ["apiary/stamp.words"], plainKeys := false, apart := false, laid := [("apiary/stamp.words", laid_apiary_stamp_words)] }
def WingTellsSaid : Prop := wingTellsRow.holds Tryd.pinned (OpenSpec.ofChange wingTellsSpec)

/-- ITS FALSE NEIGHBOUR: 'it returns false'. Refute it at one input. -/
def wingTellsWrong : ChangeSpec := { name := "wingTells", fn := fun _ => fun
  | [d1, d2, d3] => { results := [.lit (.bool false)], args := [d1, d2, d3] }
  | _ => none }
def WingTellsWrongFalsely : Prop := wingTellsRow.holds Tryd.pinned (OpenSpec.ofChange wingTellsWrong)

/-- 'apiarylaw05.HivePins': WHATEVER THE INPUT: true; the input reads as it did. -/
def hivePinsSpec : ChangeSpec := { name := "hivePins", fn := fun _ => fun
  | [d1, d2, d3] => { results := [.lit (.bool true)], args := [d1, d2, d3] }
  | _ => none }
def hivePinsRow : OpenClaim := { program := "yteihfoacdocgkaadoor", sum := "5ce7d3e8273bf4e175f5e89d2ac3559c65295953f7a57862aa70efe44945f436", func := "apiary/apiarylaw05.HivePins", spec := "hivePins", inPlace := ["internal/abi.NoEscape", "internal/bytealg.Compare"], unfollowed := true, recurses := true, named := ["apiary/stamp.words"], plainKeys := false, apart := false, laid := [("apiary/stamp.words", laid_apiary_stamp_words)] }
def HivePinsSaid : Prop := hivePinsRow.holds Tryd.pinned (OpenSpec.ofChange hivePinsSpec)

/-- ITS FALSE NEIGHBOUR: 'it returns false'. Refute it at one input. -/
def hivePinsWrong : ChangeSpec := { name := "hivePins", fn := fun _ => fun
  | [d1, d2, d3] => { results := [.lit (.bool false)], args := [d1, d2, d3] }
  | _ => none }
def HivePinsWrongFalsely : Prop := hivePinsRow.holds Tryd.pinned (OpenSpec.ofChange hivePinsWrong)

/-- 'apiarylaw05.HiveOldest': WHATEVER THE INPUT: true; the input reads as it did. -/
def hiveOldestSpec : ChangeSpec := { name := "hiveOldest", fn := fun _ => fun
  | [d1, d2, d3] => { results := [.lit (.bool true)], args := [d1, d2, d3] }
  | _ => none }
def hiveOldestRow : OpenClaim := { program := "yteihfoacdocgkaadoor", sum := "5ce7d3e8273bf4e175f5e89d2ac3559c65295953f7a57862aa70efe44945f436", func := "apiary/apiarylaw05.HiveOldest", spec := "hiveOldest", inPlace := ["internal/abi.NoEscape", "internal/bytealg.Compare"], unfollowed := true, recurses := true, named := ["apiary/stamp.words"], plainKeys := false, apart := false, laid := [("apiary/stamp.words", laid_apiary_stamp_words)] }
def HiveOldestSaid : Prop := hiveOldestRow.holds Tryd.pinned (OpenSpec.ofChange hiveOldestSpec)

/-- ITS FALSE NEIGHBOUR: 'it returns false'. Refute it at one input. -/
def hiveOldestWrong : ChangeSpec := { name := "hiveOldest", fn := fun _ => fun
  | [d1, d2, d3] => { results := [.lit (.bool false)], args := [d1, d2, d3] }
  | _ => none }
def HiveOldestWrongFalsely : Prop := hiveOldestRow.holds Tryd.pinned (OpenSpec.ofChange hiveOldestWrong)

/-- 'apiarylaw05.HiveAgain': WHATEVER THE INPUT: true; the input reads as it did. -/
def hiveAgainSpec : ChangeSpec := { name := "hiveAgain", fn := fun _ => fun
  | [d] => { results := [.lit (.bool true)], args := [d] }
  | _ => none }
def hiveAgainRow : OpenClaim := { program := "yteihfoacdocgkaadoor", sum := "5ce7d3e8273bf4e175f5e89d2ac3559c65295953f7a57862aa70efe44945f436", func := "apiary/apiarylaw05.HiveAgain", spec := "hiveAgain", inPlace := ["internal/abi.NoEscape", "internal/bytealg.Compare"], unfollowed := true, recurses := true, named := ["apiary/stamp.words"], plainKeys := false, apart := false, laid := [("apiary/stamp.words", laid_apiary_stamp_words)] }
def HiveAgainSaid : Prop := hiveAgainRow.holds Tryd.pinned (OpenSpec.ofChange hiveAgainSpec)

/-- ITS FALSE NEIGHBOUR: 'it returns false'. Refute it at one input. -/
def hiveAgainWrong : ChangeSpec := { name := "hiveAgain", fn := fun _ => fun
  | [d] => { results := [.lit (.bool false)], args := [d] }
  | _ => none }
def HiveAgainWrongFalsely : Prop := hiveAgainRow.holds Tryd.pinned (OpenSpec.ofChange hiveAgainWrong)

/-- 'apiarylaw05.HivePower': WHATEVER THE INPUT: true; the input reads as it did. -/
def hivePowerSpec : ChangeSpec := { name := "hivePower", fn := fun _ => fun
  | [d1, d2] => { results := [.lit (.bool true)], args := [d1, d2] }
  | _ => none }
def hivePowerRow : OpenClaim := { program := "yteihfoacdocgkaadoor", sum := "5ce7d3e8273bf4e175f5e89d2ac3559c65295953f7a57862aa70efe44945f436", func := "apiary/apiarylaw05.HivePower", spec := "hivePower", inPlace := ["internal/abi.NoEscape", "internal/bytealg.Compare"], unfollowed := true, recurses := true, named := ["apiary/stamp.words"], plainKeys := false, apart := false, laid := [("apiary/stamp.words", laid_apiary_stamp_words)] }
def HivePowerSaid : Prop := hivePowerRow.holds Tryd.pinned (OpenSpec.ofChange hivePowerSpec)

/-- ITS FALSE NEIGHBOUR: 'it returns false'. Refute it at one input. -/
def hivePowerWrong : ChangeSpec := { name := "hivePower", fn := fun _ => fun
  | [d1, d2] => { results := [.lit (.bool false)], args := [d1, d2] }
  | _ => none }
def HivePowerWrongFalsely : Prop := hivePowerRow.holds Tryd.pinned (OpenSpec.ofChange hivePowerWrong)

/-- 'apiarylaw05.HiveTruth': WHATEVER THE INPUT: true; the input reads as it did. -/
def hiveTruthSpec : ChangeSpec := { name := "hiveTruth", fn := fun _ => fun
  | [d1, d2] => { results := [.lit (.bool true)], args := [d1, d2] }
  | _ => none }
def hiveTruthRow : OpenClaim := { program := "yteihfoacdocgkaadoor", sum := "5ce7d3e8273bf4e175f5e89d2ac3559c65295953f7a57862aa70efe44945f436", func := "apiary/apiarylaw05.HiveTruth", spec := "hiveTruth", inPlace := ["internal/abi.NoEscape", "internal/bytealg.Compare"], unfollowed := true, recurses := true, named := ["apiary/stamp.words"], plainKeys := false, apart := false, laid := [("apiary/stamp.words", laid_apiary_stamp_words)] }
def HiveTruthSaid : Prop := hiveTruthRow.holds Tryd.pinned (OpenSpec.ofChange hiveTruthSpec)

/-- ITS FALSE NEIGHBOUR: 'it returns false'. Refute it at one input. -/
def hiveTruthWrong : ChangeSpec := { name := "hiveTruth", fn := fun _ => fun
  | [d1, d2] => { results := [.lit (.bool false)], args := [d1, d2] }
  | _ => none }
def HiveTruthWrongFalsely : Prop := hiveTruthRow.holds Tryd.pinned (OpenSpec.ofChange hiveTruthWrong)

/- THE SECOND FORM. 'bulk': how many values and letters a reading holds, each counted each time it is reached (what is shared counts as often as it is met; a slice's spare places count too). A statement '..UptoSaid' is the law's where the arguments, and the package variables that the reading takes, are together of bulk at most 1048576: NARROWER than '..Said'. Prove '..Said' where nothing that the law and all that it calls make is longer than what came in: it says more and counts as full. Else prove '..UptoSaid'. A law counts once. -/
mutual
def uptoBulk {H : Type} : DataW H → Nat
  | .lit (.string bytes) => bytes.length + 1
  | .lit _ => 1
  | .nil => 1
  | .ptr d => uptoBulk d + 1
  | .slice elems spare => uptoBulkAll elems + uptoBulkAll spare + 1
  | .agg parts => uptoBulkAll parts + 1
  | .iface _ d => uptoBulk d + 1
  | .map entries => uptoBulkEntries entries + 1
  | .held _ => 1
def uptoBulkAll {H : Type} : List (DataW H) → Nat
  | [] => 0
  | d :: r => uptoBulk d + uptoBulkAll r
def uptoBulkEntries {H : Type} : List (Lit × DataW H) → Nat
  | [] => 0
  | x :: r => uptoBulkEntry x + uptoBulkEntries r
def uptoBulkEntry {H : Type} : Lit × DataW H → Nat
  | (.string bytes, d) => bytes.length + uptoBulk d + 1
  | (_, d) => uptoBulk d + 1
 end
def uptoSmall : (H : Type) → List (DataW H) → Bool := fun _ ds => decide (uptoBulkAll ds ≤ 1048576)
def OpenSpec.upto (s : _root_.Go.ChangeSpec) : _root_.Go.OpenSpec := { _root_.Go.OpenSpec.ofChange s with cond := some uptoSmall }

/-- 'apiarylaw19.WingBack', WHERE WHAT IT READS IS OF BULK AT MOST 1048576: true; the input reads as it did. -/
def wingBackUptoRow : OpenClaim := { program := "yteihfoacdocgkaadoor", sum := "5ce7d3e8273bf4e175f5e89d2ac3559c65295953f7a57862aa70efe44945f436", func := "apiary/apiarylaw19.WingBack", spec := "wingBack", inPlace := ["internal/abi.NoEscape"], unfollowed := true, recurses := true, named := ["apiary/stamp.words"], plainKeys := false, apart := false, laid := [("apiary/stamp.words", laid_apiary_stamp_words)], narrowed := true }
def WingBackUptoSaid : Prop := wingBackUptoRow.holds Tryd.pinned (OpenSpec.upto wingBackSpec)

/-- 'apiarylaw19.WingForms', WHERE WHAT IT READS IS OF BULK AT MOST 1048576: true; the input reads as it did. -/
def wingFormsUptoRow : OpenClaim := { program := "yteihfoacdocgkaadoor", sum := "5ce7d3e8273bf4e175f5e89d2ac3559c65295953f7a57862aa70efe44945f436", func := "apiary/apiarylaw19.WingForms", spec := "wingForms", inPlace := ["internal/abi.NoEscape"], unfollowed := true, recurses := true, named := ["apiary/stamp.words"], plainKeys := false, apart := false, laid := [("apiary/stamp.words", laid_apiary_stamp_words)], narrowed := true }
def WingFormsUptoSaid : Prop := wingFormsUptoRow.holds Tryd.pinned (OpenSpec.upto wingFormsSpec)

/-- 'apiarylaw19.WingTells', WHERE WHAT IT READS IS OF BULK AT MOST 1048576: true; the input reads as it did. -/
def wingTellsUptoRow : OpenClaim := { program := "yteihfoacdocgkaadoor", sum := "5ce7d3e8273bf4e175f5e89d2ac3559c65295953f7a57862aa70efe44945f436", func := "apiary/apiarylaw19.WingTells", spec := "wingTells", inPlace := ["internal/abi.NoEscape"], unfollowed := true, recurses := true, named := ["apiary/stamp.words"], plainKeys := false, apart := false, laid := [("apiary/stamp.words", laid_apiary_stamp_words)], narrowed := true }
def WingTellsUptoSaid : Prop := wingTellsUptoRow.holds Tryd.pinned (OpenSpec.upto wingTellsSpec)

/-- 'apiarylaw05.HivePins', WHERE WHAT IT READS IS OF BULK AT MOST 1048576: true; the input reads as it did. -/
def hivePinsUptoRow : OpenClaim := { program := "yteihfoacdocgkaadoor", sum := "5ce7d3e8273bf4e175f5e89d2ac3559c65295953f7a57862aa70efe44945f436", func := "apiary/apiarylaw05.HivePins", spec := "hivePins", inPlace := ["internal/abi.NoEscape", "internal/bytealg.Compare"], unfollowed := true, recurses := true, named := ["apiary/stamp.words"], plainKeys := false, apart := false, laid := [("apiary/stamp.words", laid_apiary_stamp_words)], narrowed := true }
def HivePinsUptoSaid : Prop := hivePinsUptoRow.holds Tryd.pinned (OpenSpec.upto hivePinsSpec)

/-- 'apiarylaw05.HiveOldest', WHERE WHAT IT READS IS OF BULK AT MOST 1048576: true; the input reads as it did. -/
def hiveOldestUptoRow : OpenClaim := { program := "yteihfoacdocgkaadoor", sum := "5ce7d3e8273bf4e175f5e89d2ac3559c65295953f7a57862aa70efe44945f436", func := "apiary/apiarylaw05.HiveOldest", spec := "hiveOldest", inPlace := ["internal/abi.NoEscape", "internal/bytealg.Compare"], unfollowed := true, recurses := true, named := ["apiary/stamp.words"], plainKeys := false, apart := false, laid := [("apiary/stamp.words", laid_apiary_stamp_words)], narrowed := true }
def HiveOldestUptoSaid : Prop := hiveOldestUptoRow.holds Tryd.pinned (OpenSpec.upto hiveOldestSpec)

/-- 'apiarylaw05.HiveAgain', WHERE WHAT IT READS IS OF BULK AT MOST 1048576: true; the input reads as it did. -/
def hiveAgainUptoRow : OpenClaim := { program := "yteihfoacdocgkaadoor", sum := "5ce7d3e8273bf4e175f5e89d2ac3559c65295953f7a57862aa70efe44945f436", func := "apiary/apiarylaw05.HiveAgain", spec := "hiveAgain", inPlace := ["internal/abi.NoEscape", "internal/bytealg.Compare"], unfollowed := true, recurses := true, named := ["apiary/stamp.words"], plainKeys := false, apart := false, laid := [("apiary/stamp.words", laid_apiary_stamp_words)], narrowed := true }
def HiveAgainUptoSaid : Prop := hiveAgainUptoRow.holds Tryd.pinned (OpenSpec.upto hiveAgainSpec)

/-- 'apiarylaw05.HivePower', WHERE WHAT IT READS IS OF BULK AT MOST 1048576: true; the input reads as it did. -/
def hivePowerUptoRow : OpenClaim := { program := "yteihfoacdocgkaadoor", sum := "5ce7d3e8273bf4e175f5e89d2ac3559c65295953f7a57862aa70efe44945f436", func := "apiary/apiarylaw05.HivePower", spec := "hivePower", inPlace := ["internal/abi.NoEscape", "internal/bytealg.Compare"], unfollowed := true, recurses := true, named := ["apiary/stamp.words"], plainKeys := false, apart := false, laid := [("apiary/stamp.words", laid_apiary_stamp_words)], narrowed := true }
def HivePowerUptoSaid : Prop := hivePowerUptoRow.holds Tryd.pinned (OpenSpec.upto hivePowerSpec)

/-- 'apiarylaw05.HiveTruth', WHERE WHAT IT READS IS OF BULK AT MOST 1048576: true; the input reads as it did. -/
def hiveTruthUptoRow : OpenClaim := { program := "yteihfoacdocgkaadoor", sum := "5ce7d3e8273bf4e175f5e89d2ac3559c65295953f7a57862aa70efe44945f436", func := "apiary/apiarylaw05.HiveTruth", spec := "hiveTruth", inPlace := ["internal/abi.NoEscape", "internal/bytealg.Compare"], unfollowed := true, recurses := true, named := ["apiary/stamp.words"], plainKeys := false, apart := false, laid := [("apiary/stamp.words", laid_apiary_stamp_words)], narrowed := true }
def HiveTruthUptoSaid : Prop := hiveTruthUptoRow.holds Tryd.pinned (OpenSpec.upto hiveTruthSpec)

end Rows
end Go.Proofs.YteihfoacdocgkaaDoor
