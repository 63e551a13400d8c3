/-
  No cell of these rows narrows 'for every input' (looked for: loops, veiled, ifaces, maps, wideKeys, modest, calm, conditions, laid).
  DERIVED. THE GIVEN ROWS OF THIS SEAT. 12 by the template 'for every input the law returns true; each argument reads behind the call as it read before'; 0 by the template 'total and deterministic' (their statements: YtecofehfheodhaaTotals.lean).
  GIVEN WITH THE SEED: the statements are not yours to turn. If you find one false, say at which input.
  Laid BY PROGRAM, IN A SANDBOX (cutbox-rows.mjs): the forced cells as the released guide's own fill.sh prints them over the translation 2619d2e3e1587194… (all of the seat's roots in one cut). By AI agents, Wed Nov 11 2026. No macro, syntax, notation, axiom, sorry.
-/
import Derived.Test.YtecofehfheodhaaChecked
import GoSem.Claim
import GoSem.ClaimJoined
import GoSem.ClaimMapViews
import Derived.JoinedTies
import Derived.KernelRfl
namespace Go.Proofs.Ytecofehfheodhaa
/- THE CELL 'sum', in the pinned program and in every row, IS THE sha256 OF THE DUMP (.gsa) THAT YtecofehfheodhaaProg.lean LOADS. Nothing in Lean hashes anything: it is a label: what it is worth is what the hold of that sum in a sandbox is worth. -/
noncomputable def Try.pinned : Pinned := { name := "ytecofehfheodhaa", sum := "2619d2e3e1587194614f5aa2208c7ec117bf0789944ddc6ef0b00812fecbc02d", checked := Try.checked }
namespace Rows
def none {H : Type} : Left H := { results := [], args := [] }

/-- 'apiarylaw01.SapWrites': WHATEVER THE INPUT: true; the input reads as it did. -/
def sapWritesSpec : ChangeSpec := { name := "sapWrites", fn := fun _ => fun
  | [d1, d2, d3] => { results := [.lit (.bool true)], args := [d1, d2, d3] }
  | _ => none }
def sapWritesRow : OpenClaim := { program := "ytecofehfheodhaa", sum := "2619d2e3e1587194614f5aa2208c7ec117bf0789944ddc6ef0b00812fecbc02d", func := "apiary/apiarylaw01.SapWrites", spec := "sapWrites", inPlace := ["internal/abi.NoEscape"], apart := false }
def SapWritesSaid : Prop := sapWritesRow.holds Try.pinned (OpenSpec.ofChange sapWritesSpec)

/-- ITS FALSE NEIGHBOUR: 'it returns false'. Refute it at one input. -/
def sapWritesWrong : ChangeSpec := { name := "sapWrites", fn := fun _ => fun
  | [d1, d2, d3] => { results := [.lit (.bool false)], args := [d1, d2, d3] }
  | _ => none }
def SapWritesWrongFalsely : Prop := sapWritesRow.holds Try.pinned (OpenSpec.ofChange sapWritesWrong)

/-- 'apiarylaw01.SapReads': WHATEVER THE INPUT: true; the input reads as it did. -/
def sapReadsSpec : ChangeSpec := { name := "sapReads", fn := fun _ => fun
  | [d1, d2] => { results := [.lit (.bool true)], args := [d1, d2] }
  | _ => none }
def sapReadsRow : OpenClaim := { program := "ytecofehfheodhaa", sum := "2619d2e3e1587194614f5aa2208c7ec117bf0789944ddc6ef0b00812fecbc02d", func := "apiary/apiarylaw01.SapReads", spec := "sapReads", inPlace := ["internal/abi.NoEscape"], apart := false }
def SapReadsSaid : Prop := sapReadsRow.holds Try.pinned (OpenSpec.ofChange sapReadsSpec)

/-- ITS FALSE NEIGHBOUR: 'it returns false'. Refute it at one input. -/
def sapReadsWrong : ChangeSpec := { name := "sapReads", fn := fun _ => fun
  | [d1, d2] => { results := [.lit (.bool false)], args := [d1, d2] }
  | _ => none }
def SapReadsWrongFalsely : Prop := sapReadsRow.holds Try.pinned (OpenSpec.ofChange sapReadsWrong)

/-- 'apiarylaw01.SapBack': WHATEVER THE INPUT: true; the input reads as it did. -/
def sapBackSpec : ChangeSpec := { name := "sapBack", fn := fun _ => fun
  | [d1, d2, d3] => { results := [.lit (.bool true)], args := [d1, d2, d3] }
  | _ => none }
def sapBackRow : OpenClaim := { program := "ytecofehfheodhaa", sum := "2619d2e3e1587194614f5aa2208c7ec117bf0789944ddc6ef0b00812fecbc02d", func := "apiary/apiarylaw01.SapBack", spec := "sapBack", inPlace := ["internal/abi.NoEscape"], apart := false }
def SapBackSaid : Prop := sapBackRow.holds Try.pinned (OpenSpec.ofChange sapBackSpec)

/-- ITS FALSE NEIGHBOUR: 'it returns false'. Refute it at one input. -/
def sapBackWrong : ChangeSpec := { name := "sapBack", fn := fun _ => fun
  | [d1, d2, d3] => { results := [.lit (.bool false)], args := [d1, d2, d3] }
  | _ => none }
def SapBackWrongFalsely : Prop := sapBackRow.holds Try.pinned (OpenSpec.ofChange sapBackWrong)

/-- 'apiarylaw01.SapOne': WHATEVER THE INPUT: true; the input reads as it did. -/
def sapOneSpec : ChangeSpec := { name := "sapOne", fn := fun _ => fun
  | [d] => { results := [.lit (.bool true)], args := [d] }
  | _ => none }
def sapOneRow : OpenClaim := { program := "ytecofehfheodhaa", sum := "2619d2e3e1587194614f5aa2208c7ec117bf0789944ddc6ef0b00812fecbc02d", func := "apiary/apiarylaw01.SapOne", spec := "sapOne", inPlace := ["internal/abi.NoEscape"], apart := false }
def SapOneSaid : Prop := sapOneRow.holds Try.pinned (OpenSpec.ofChange sapOneSpec)

/-- ITS FALSE NEIGHBOUR: 'it returns false'. Refute it at one input. -/
def sapOneWrong : ChangeSpec := { name := "sapOne", fn := fun _ => fun
  | [d] => { results := [.lit (.bool false)], args := [d] }
  | _ => none }
def SapOneWrongFalsely : Prop := sapOneRow.holds Try.pinned (OpenSpec.ofChange sapOneWrong)

/-- 'apiarylaw01.SapApart': WHATEVER THE INPUT: true; the input reads as it did. -/
def sapApartSpec : ChangeSpec := { name := "sapApart", fn := fun _ => fun
  | [d1, d2, d3] => { results := [.lit (.bool true)], args := [d1, d2, d3] }
  | _ => none }
def sapApartRow : OpenClaim := { program := "ytecofehfheodhaa", sum := "2619d2e3e1587194614f5aa2208c7ec117bf0789944ddc6ef0b00812fecbc02d", func := "apiary/apiarylaw01.SapApart", spec := "sapApart", inPlace := ["internal/abi.NoEscape"], apart := false }
def SapApartSaid : Prop := sapApartRow.holds Try.pinned (OpenSpec.ofChange sapApartSpec)

/-- ITS FALSE NEIGHBOUR: 'it returns false'. Refute it at one input. -/
def sapApartWrong : ChangeSpec := { name := "sapApart", fn := fun _ => fun
  | [d1, d2, d3] => { results := [.lit (.bool false)], args := [d1, d2, d3] }
  | _ => none }
def SapApartWrongFalsely : Prop := sapApartRow.holds Try.pinned (OpenSpec.ofChange sapApartWrong)

/-- 'apiarylaw01.SapMost': WHATEVER THE INPUT: true; the input reads as it did. -/
def sapMostSpec : ChangeSpec := { name := "sapMost", fn := fun _ => fun
  | [d1, d2, d3] => { results := [.lit (.bool true)], args := [d1, d2, d3] }
  | _ => none }
def sapMostRow : OpenClaim := { program := "ytecofehfheodhaa", sum := "2619d2e3e1587194614f5aa2208c7ec117bf0789944ddc6ef0b00812fecbc02d", func := "apiary/apiarylaw01.SapMost", spec := "sapMost", inPlace := ["internal/abi.NoEscape"], apart := false }
def SapMostSaid : Prop := sapMostRow.holds Try.pinned (OpenSpec.ofChange sapMostSpec)

/-- ITS FALSE NEIGHBOUR: 'it returns false'. Refute it at one input. -/
def sapMostWrong : ChangeSpec := { name := "sapMost", fn := fun _ => fun
  | [d1, d2, d3] => { results := [.lit (.bool false)], args := [d1, d2, d3] }
  | _ => none }
def SapMostWrongFalsely : Prop := sapMostRow.holds Try.pinned (OpenSpec.ofChange sapMostWrong)

/-- 'apiarylaw01.SapNests': WHATEVER THE INPUT: true; the input reads as it did. -/
def sapNestsSpec : ChangeSpec := { name := "sapNests", fn := fun _ => fun
  | [d1, d2, d3] => { results := [.lit (.bool true)], args := [d1, d2, d3] }
  | _ => none }
def sapNestsRow : OpenClaim := { program := "ytecofehfheodhaa", sum := "2619d2e3e1587194614f5aa2208c7ec117bf0789944ddc6ef0b00812fecbc02d", func := "apiary/apiarylaw01.SapNests", spec := "sapNests", inPlace := ["internal/abi.NoEscape"], apart := false }
def SapNestsSaid : Prop := sapNestsRow.holds Try.pinned (OpenSpec.ofChange sapNestsSpec)

/-- ITS FALSE NEIGHBOUR: 'it returns false'. Refute it at one input. -/
def sapNestsWrong : ChangeSpec := { name := "sapNests", fn := fun _ => fun
  | [d1, d2, d3] => { results := [.lit (.bool false)], args := [d1, d2, d3] }
  | _ => none }
def SapNestsWrongFalsely : Prop := sapNestsRow.holds Try.pinned (OpenSpec.ofChange sapNestsWrong)

/-- 'apiarylaw04.ShelfAgain': WHATEVER THE INPUT: true; the input reads as it did. -/
def shelfAgainSpec : ChangeSpec := { name := "shelfAgain", fn := fun _ => fun
  | [d1, d2, d3] => { results := [.lit (.bool true)], args := [d1, d2, d3] }
  | _ => none }
def shelfAgainRow : OpenClaim := { program := "ytecofehfheodhaa", sum := "2619d2e3e1587194614f5aa2208c7ec117bf0789944ddc6ef0b00812fecbc02d", func := "apiary/apiarylaw04.ShelfAgain", spec := "shelfAgain", apart := false }
def ShelfAgainSaid : Prop := shelfAgainRow.holds Try.pinned (OpenSpec.ofChange shelfAgainSpec)

/-- ITS FALSE NEIGHBOUR: 'it returns false'. Refute it at one input. -/
def shelfAgainWrong : ChangeSpec := { name := "shelfAgain", fn := fun _ => fun
  | [d1, d2, d3] => { results := [.lit (.bool false)], args := [d1, d2, d3] }
  | _ => none }
def ShelfAgainWrongFalsely : Prop := shelfAgainRow.holds Try.pinned (OpenSpec.ofChange shelfAgainWrong)

/-- 'apiarylaw04.ShelfApart': WHATEVER THE INPUT: true; the input reads as it did. -/
def shelfApartSpec : ChangeSpec := { name := "shelfApart", fn := fun _ => fun
  | [d1, d2, d3, d4] => { results := [.lit (.bool true)], args := [d1, d2, d3, d4] }
  | _ => none }
def shelfApartRow : OpenClaim := { program := "ytecofehfheodhaa", sum := "2619d2e3e1587194614f5aa2208c7ec117bf0789944ddc6ef0b00812fecbc02d", func := "apiary/apiarylaw04.ShelfApart", spec := "shelfApart", apart := false }
def ShelfApartSaid : Prop := shelfApartRow.holds Try.pinned (OpenSpec.ofChange shelfApartSpec)

/-- ITS FALSE NEIGHBOUR: 'it returns false'. Refute it at one input. -/
def shelfApartWrong : ChangeSpec := { name := "shelfApart", fn := fun _ => fun
  | [d1, d2, d3, d4] => { results := [.lit (.bool false)], args := [d1, d2, d3, d4] }
  | _ => none }
def ShelfApartWrongFalsely : Prop := shelfApartRow.holds Try.pinned (OpenSpec.ofChange shelfApartWrong)

/-- 'apiarylaw04.ShelfExact': WHATEVER THE INPUT: true; the input reads as it did. -/
def shelfExactSpec : ChangeSpec := { name := "shelfExact", fn := fun _ => fun
  | [d1, d2] => { results := [.lit (.bool true)], args := [d1, d2] }
  | _ => none }
def shelfExactRow : OpenClaim := { program := "ytecofehfheodhaa", sum := "2619d2e3e1587194614f5aa2208c7ec117bf0789944ddc6ef0b00812fecbc02d", func := "apiary/apiarylaw04.ShelfExact", spec := "shelfExact", apart := false }
def ShelfExactSaid : Prop := shelfExactRow.holds Try.pinned (OpenSpec.ofChange shelfExactSpec)

/-- ITS FALSE NEIGHBOUR: 'it returns false'. Refute it at one input. -/
def shelfExactWrong : ChangeSpec := { name := "shelfExact", fn := fun _ => fun
  | [d1, d2] => { results := [.lit (.bool false)], args := [d1, d2] }
  | _ => none }
def ShelfExactWrongFalsely : Prop := shelfExactRow.holds Try.pinned (OpenSpec.ofChange shelfExactWrong)

/-- 'apiarylaw04.ShelfKeeps': WHATEVER THE INPUT: true; the input reads as it did. -/
def shelfKeepsSpec : ChangeSpec := { name := "shelfKeeps", fn := fun _ => fun
  | [d1, d2, d3] => { results := [.lit (.bool true)], args := [d1, d2, d3] }
  | _ => none }
def shelfKeepsRow : OpenClaim := { program := "ytecofehfheodhaa", sum := "2619d2e3e1587194614f5aa2208c7ec117bf0789944ddc6ef0b00812fecbc02d", func := "apiary/apiarylaw04.ShelfKeeps", spec := "shelfKeeps", apart := false }
def ShelfKeepsSaid : Prop := shelfKeepsRow.holds Try.pinned (OpenSpec.ofChange shelfKeepsSpec)

/-- ITS FALSE NEIGHBOUR: 'it returns false'. Refute it at one input. -/
def shelfKeepsWrong : ChangeSpec := { name := "shelfKeeps", fn := fun _ => fun
  | [d1, d2, d3] => { results := [.lit (.bool false)], args := [d1, d2, d3] }
  | _ => none }
def ShelfKeepsWrongFalsely : Prop := shelfKeepsRow.holds Try.pinned (OpenSpec.ofChange shelfKeepsWrong)

/-- 'apiarylaw04.ShelfArms': WHATEVER THE INPUT: true; the input reads as it did. -/
def shelfArmsSpec : ChangeSpec := { name := "shelfArms", fn := fun _ => fun
  | [d1, d2] => { results := [.lit (.bool true)], args := [d1, d2] }
  | _ => none }
def shelfArmsRow : OpenClaim := { program := "ytecofehfheodhaa", sum := "2619d2e3e1587194614f5aa2208c7ec117bf0789944ddc6ef0b00812fecbc02d", func := "apiary/apiarylaw04.ShelfArms", spec := "shelfArms", apart := false }
def ShelfArmsSaid : Prop := shelfArmsRow.holds Try.pinned (OpenSpec.ofChange shelfArmsSpec)

/-- ITS FALSE NEIGHBOUR: 'it returns false'. Refute it at one input. -/
def shelfArmsWrong : ChangeSpec := { name := "shelfArms", fn := fun _ => fun
  | [d1, d2] => { results := [.lit (.bool false)], args := [d1, d2] }
  | _ => none }
def ShelfArmsWrongFalsely : Prop := shelfArmsRow.holds Try.pinned (OpenSpec.ofChange shelfArmsWrong)

/- THE SECOND FORM. 'bulk': how many values and letters a reading holds, each counted each time it is reached (what is shared counts as often as it is met; a slice's spare places count too). A statement '..UptoSaid' is the law's where the arguments, and the package variables that the reading takes, are together of bulk at most 1048576: NARROWER than '..Said'. Prove '..Said' where nothing that the law and all that it calls make is longer than what came in: it says more and counts as full. Else prove '..UptoSaid'. A law counts once. -/
mutual
def uptoBulk {H : Type} : DataW H → Nat
  | .lit (.string bytes) => bytes.length + 1
  | .lit _ => 1
  | .nil => 1
  | .ptr d => uptoBulk d + 1
  | .slice elems spare => uptoBulkAll elems + uptoBulkAll spare + 1
  | .agg parts => uptoBulkAll parts + 1
  | .iface _ d => uptoBulk d + 1
  | .map entries => uptoBulkEntries entries + 1
  | .held _ => 1
def uptoBulkAll {H : Type} : List (DataW H) → Nat
  | [] => 0
  | d :: r => uptoBulk d + uptoBulkAll r
def uptoBulkEntries {H : Type} : List (Lit × DataW H) → Nat
  | [] => 0
  | x :: r => uptoBulkEntry x + uptoBulkEntries r
def uptoBulkEntry {H : Type} : Lit × DataW H → Nat
  | (.string bytes, d) => bytes.length + uptoBulk d + 1
  | (_, d) => uptoBulk d + 1
 end
def uptoSmall : (H : Type) → List (DataW H) → Bool := fun _ ds => decide (uptoBulkAll ds ≤ 1048576)
def OpenSpec.upto (s : _root_.Go.ChangeSpec) : _root_.Go.OpenSpec := { _root_.Go.OpenSpec.ofChange s with cond := some uptoSmall }

/-- 'apiarylaw01.SapWrites', WHERE WHAT IT READS IS OF BULK AT MOST 1048576: true; the input reads as it did. -/
def sapWritesUptoRow : OpenClaim := { program := "ytecofehfheodhaa", sum := "2619d2e3e1587194614f5aa2208c7ec117bf0789944ddc6ef0b00812fecbc02d", func := "apiary/apiarylaw01.SapWrites", spec := "sapWrites", inPlace := ["internal/abi.NoEscape"], apart := false, narrowed := true }
def SapWritesUptoSaid : Prop := sapWritesUptoRow.holds Try.pinned (OpenSpec.upto sapWritesSpec)

/-- 'apiarylaw01.SapReads', WHERE WHAT IT READS IS OF BULK AT MOST 1048576: true; the input reads as it did. -/
def sapReadsUptoRow : OpenClaim := { program := "ytecofehfheodhaa", sum := "2619d2e3e1587194614f5aa2208c7ec117bf0789944ddc6ef0b00812fecbc02d", func := "apiary/apiarylaw01.SapReads", spec := "sapReads", inPlace := ["internal/abi.NoEscape"], apart := false, narrowed := true }
def SapReadsUptoSaid : Prop := sapReadsUptoRow.holds Try.pinned (OpenSpec.upto sapReadsSpec)

/-- 'apiarylaw01.SapBack', WHERE WHAT IT READS IS OF BULK AT MOST 1048576: true; the input reads as it did. -/
def sapBackUptoRow : OpenClaim := { program := "ytecofehfheodhaa", sum := "2619d2e3e1587194614f5aa2208c7ec117bf0789944ddc6ef0b00812fecbc02d", func := "apiary/apiarylaw01.SapBack", spec := "sapBack", inPlace := ["internal/abi.NoEscape"], apart := false, narrowed := true }
def SapBackUptoSaid : Prop := sapBackUptoRow.holds Try.pinned (OpenSpec.upto sapBackSpec)

/-- 'apiarylaw01.SapOne', WHERE WHAT IT READS IS OF BULK AT MOST 1048576: true; the input reads as it did. -/
def sapOneUptoRow : OpenClaim := { program := "ytecofehfheodhaa", sum := "2619d2e3e1587194614f5aa2208c7ec117bf0789944ddc6ef0b00812fecbc02d", func := "apiary/apiarylaw01.SapOne", spec := "sapOne", inPlace := ["internal/abi.NoEscape"], apart := false, narrowed := true }
def SapOneUptoSaid : Prop := sapOneUptoRow.holds Try.pinned (OpenSpec.upto sapOneSpec)

/-- 'apiarylaw01.SapApart', WHERE WHAT IT READS IS OF BULK AT MOST 1048576: true; the input reads as it did. -/
def sapApartUptoRow : OpenClaim := { program := "ytecofehfheodhaa", sum := "2619d2e3e1587194614f5aa2208c7ec117bf0789944ddc6ef0b00812fecbc02d", func := "apiary/apiarylaw01.SapApart", spec := "sapApart", inPlace := ["internal/abi.NoEscape"], apart := false, narrowed := true }
def SapApartUptoSaid : Prop := sapApartUptoRow.holds Try.pinned (OpenSpec.upto sapApartSpec)

/-- 'apiarylaw01.SapMost', WHERE WHAT IT READS IS OF BULK AT MOST 1048576: true; the input reads as it did. -/
def sapMostUptoRow : OpenClaim := { program := "ytecofehfheodhaa", sum := "2619d2e3e1587194614f5aa2208c7ec117bf0789944ddc6ef0b00812fecbc02d", func := "apiary/apiarylaw01.SapMost", spec := "sapMost", inPlace := ["internal/abi.NoEscape"], apart := false, narrowed := true }
def SapMostUptoSaid : Prop := sapMostUptoRow.holds Try.pinned (OpenSpec.upto sapMostSpec)

/-- 'apiarylaw01.SapNests', WHERE WHAT IT READS IS OF BULK AT MOST 1048576: true; the input reads as it did. -/
def sapNestsUptoRow : OpenClaim := { program := "ytecofehfheodhaa", sum := "2619d2e3e1587194614f5aa2208c7ec117bf0789944ddc6ef0b00812fecbc02d", func := "apiary/apiarylaw01.SapNests", spec := "sapNests", inPlace := ["internal/abi.NoEscape"], apart := false, narrowed := true }
def SapNestsUptoSaid : Prop := sapNestsUptoRow.holds Try.pinned (OpenSpec.upto sapNestsSpec)

/-- 'apiarylaw04.ShelfAgain', WHERE WHAT IT READS IS OF BULK AT MOST 1048576: true; the input reads as it did. -/
def shelfAgainUptoRow : OpenClaim := { program := "ytecofehfheodhaa", sum := "2619d2e3e1587194614f5aa2208c7ec117bf0789944ddc6ef0b00812fecbc02d", func := "apiary/apiarylaw04.ShelfAgain", spec := "shelfAgain", apart := false, narrowed := true }
def ShelfAgainUptoSaid : Prop := shelfAgainUptoRow.holds Try.pinned (OpenSpec.upto shelfAgainSpec)

/-- 'apiarylaw04.ShelfApart', WHERE WHAT IT READS IS OF BULK AT MOST 1048576: true; the input reads as it did. -/
def shelfApartUptoRow : OpenClaim := { program := "ytecofehfheodhaa", sum := "2619d2e3e1587194614f5aa2208c7ec117bf0789944ddc6ef0b00812fecbc02d", func := "apiary/apiarylaw04.ShelfApart", spec := "shelfApart", apart := false, narrowed := true }
def ShelfApartUptoSaid : Prop := shelfApartUptoRow.holds Try.pinned (OpenSpec.upto shelfApartSpec)

/-- 'apiarylaw04.ShelfExact', WHERE WHAT IT READS IS OF BULK AT MOST 1048576: true; the input reads as it did. -/
def shelfExactUptoRow : OpenClaim := { program := "ytecofehfheodhaa", sum := "2619d2e3e1587194614f5aa2208c7ec117bf0789944ddc6ef0b00812fecbc02d", func := "apiary/apiarylaw04.ShelfExact", spec := "shelfExact", apart := false, narrowed := true }
def ShelfExactUptoSaid : Prop := shelfExactUptoRow.holds Try.pinned (OpenSpec.upto shelfExactSpec)

/-- 'apiarylaw04.ShelfKeeps', WHERE WHAT IT READS IS OF BULK AT MOST 1048576: true; the input reads as it did. -/
def shelfKeepsUptoRow : OpenClaim := { program := "ytecofehfheodhaa", sum := "2619d2e3e1587194614f5aa2208c7ec117bf0789944ddc6ef0b00812fecbc02d", func := "apiary/apiarylaw04.ShelfKeeps", spec := "shelfKeeps", apart := false, narrowed := true }
def ShelfKeepsUptoSaid : Prop := shelfKeepsUptoRow.holds Try.pinned (OpenSpec.upto shelfKeepsSpec)

/-- 'apiarylaw04.ShelfArms', WHERE WHAT IT READS IS OF BULK AT MOST 1048576: true; the input reads as it did. -/
def shelfArmsUptoRow : OpenClaim := { program := "ytecofehfheodhaa", sum := "2619d2e3e1587194614f5aa2208c7ec117bf0789944ddc6ef0b00812fecbc02d", func := "apiary/apiarylaw04.ShelfArms", spec := "shelfArms", apart := false, narrowed := true }
def ShelfArmsUptoSaid : Prop := shelfArmsUptoRow.holds Try.pinned (OpenSpec.upto shelfArmsSpec)

end Rows
end Go.Proofs.Ytecofehfheodhaa
