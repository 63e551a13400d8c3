/-
  Layer 17 (haul), plain: the state of a fetch, what a tick and a frame make of it.
-/
import Derived.Test.YteihfoacdocgkaaDoorCoF
set_option linter.unusedVariables false
set_option linter.unusedSimpArgs false
namespace Go.Proofs.YteihfoacdocgkaaDoor
open Go.RowKit

structure Ck where
  data : List UInt8
  come : Bool
  asked : Bool
  at_ : Int
/-- a fetch: the manifest as its size and its parts (its whole is 'out') -/
structure HlD where
  blob : List UInt8
  done : Bool
  failed : Bool
  out : List UInt8
  peer : Int
  ticks : Int
  mani : Option (Int × List (List UInt8))
  cks : List Ck
namespace Hl
def mk (out : List UInt8) (sp : Int × List (List UInt8)) : ManiD := ⟨out, sp.1, none, 0, sp.2⟩
def new (out : List UInt8) (peer : Int) : HlD := ⟨[], false, false, out, peer, 0, none, []⟩

/-- how many of the first j are asked for -/
def askN (cks : List Ck) : Nat → Nat
  | 0 => 0
  | j + 1 => askN cks j + (match cks[j]? with | some c => if c.asked = true then 1 else 0 | none => 0)
def fillStep (t : Int) (st : List Ck × Nat × List Int) (i : Nat) : List Ck × Nat × List Int :=
  match st.1[i]? with
  | some c => if st.2.1 < 2 ∧ c.come = false ∧ c.asked = false then (st.1.set i { c with asked := true, at_ := t }, st.2.1 + 1, st.2.2 ++ [(i : Int)]) else st
  | none => st
def fillAt (t : Int) (cks : List Ck) (n : Nat) : Nat → List Ck × Nat × List Int
  | 0 => (cks, n, [])
  | j + 1 => fillStep t (fillAt t cks n j) j
def fill (t : Int) (cks : List Ck) : List Ck × List Int :=
  ((fillAt t cks (askN cks cks.length) cks.length).1, (fillAt t cks (askN cks cks.length) cks.length).2.2)
def againStep (t : Int) (st : List Ck × List Int) (i : Nat) : List Ck × List Int :=
  match st.1[i]? with
  | some c => if c.asked = true ∧ 3 ≤ t - c.at_ then (st.1.set i { c with at_ := t }, st.2 ++ [(i : Int)]) else st
  | none => st
def againAt (t : Int) (cks : List Ck) : Nat → List Ck × List Int
  | 0 => (cks, [])
  | j + 1 => againStep t (againAt t cks j) j
def again (t : Int) (cks : List Ck) : List Ck × List Int := againAt t cks cks.length

/-- a tick -/
def tick (d : HlD) : HlD × List Int :=
  if d.done = true ∨ d.failed = true then (d, []) else
  if 14 < d.ticks + 1 then ({ d with ticks := d.ticks + 1, failed := true }, []) else
  match d.mani with
  | some _ => ({ d with ticks := d.ticks + 1, cks := (fill (d.ticks + 1) (again (d.ticks + 1) d.cks).1).1 }, (again (d.ticks + 1) d.cks).2 ++ (fill (d.ticks + 1) (again (d.ticks + 1) d.cks).1).2)
  | none => if (d.ticks + 1) % 3 = 1 then ({ d with ticks := d.ticks + 1 }, [-1]) else ({ d with ticks := d.ticks + 1 }, [])

def allCome (cks : List Ck) : Bool := cks.all (·.come)
/-- all has come: the end is looked at; else it is filled up -/
def settle (K : List Int) (d : HlD) (sp : Int × List (List UInt8)) : HlD × List Int :=
  if allCome d.cks = true then
    ({ d with blob := (joinS K (mk d.out sp) (d.cks.map (·.data))).1, done := (joinS K (mk d.out sp) (d.cks.map (·.data))).2 == 0, failed := !((joinS K (mk d.out sp) (d.cks.map (·.data))).2 == 0) }, [])
  else ({ d with cks := (fill d.ticks d.cks).1 }, (fill d.ticks d.cks).2)

/-- whether a part is taken -/
def takes (K : List Int) (d : HlD) (sp : Int × List (List UInt8)) (o : List UInt8) (i : Int) (x : List UInt8) : Bool :=
  (o == d.out) && fitsS K (mk d.out sp) i x && (match d.cks[i.toNat]? with | some c => !c.come | none => false)
/-- a frame comes: its kind, sender, digest, place, data, manifest -/
def hear (K : List Int) (d : HlD) (kind from_ : Int) (o : List UInt8) (i : Int) (x : List UInt8) (m : List UInt8 × Int × List (List UInt8)) : HlD × List Int :=
  if d.done = true ∨ d.failed = true ∨ from_ ≠ d.peer then (d, []) else
  if kind = 7 then
    match d.mani with
    | some _ => (d, [])
    | none => if goodS m.2.1 m.2.2.length = true ∧ m.1 = d.out then settle K { d with mani := some m.2, cks := List.replicate m.2.2.length ⟨[], false, false, 0⟩ } m.2 else (d, [])
  else if kind = 8 then
    match d.mani with
    | none => (d, [])
    | some sp => if takes K d sp o i x = true then settle K { d with cks := d.cks.set i.toNat ⟨x, true, false, 0⟩ } sp else (d, [])
  else (d, [])

/-- what all walks lean on -/
structure Ok (d : HlD) : Prop where
  out : d.out.length = 32
  plo : 1 ≤ d.peer
  phi : d.peer ≤ 6
  tlo : 0 ≤ d.ticks
  thi : d.ticks ≤ 15
  open14 : d.failed = false → d.ticks ≤ 14
  len : d.cks.length ≤ 8
  none : d.mani = none → d.cks = []
  some : ∀ sp, d.mani = some sp → goodS sp.1 sp.2.length = true ∧ sp.2.length = d.cks.length ∧ ∀ x ∈ sp.2, x.length = 32
  asked : ∀ c ∈ d.cks, 0 ≤ c.at_ ∧ c.at_ ≤ 15
  data : ∀ c ∈ d.cks, c.data.length ≤ 64
end Hl
end Go.Proofs.YteihfoacdocgkaaDoor
