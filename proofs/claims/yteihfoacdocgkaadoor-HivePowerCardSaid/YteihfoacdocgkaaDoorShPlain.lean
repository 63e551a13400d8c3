/-
  Plain: a shelf (layer 4) as data: power, slots, what each call makes of them.
-/
import Derived.WalkKit
set_option linter.unusedVariables false
set_option linter.unusedSimpArgs false
namespace Go.Proofs.YteihfoacdocgkaaDoor.Sh
open Go

structure Pw where
  down : Bool
  acts : Nat
  armed : Nat
  life : Nat

def Pw.off (p : Pw) : Pw := if p.down then p else { p with down := true, armed := 0, life := p.life + 1 }
/-- an act's power behind it, and its error -/
def Pw.act (p : Pw) : Pw := if p.armed = 0 then { p with acts := p.acts + 1 } else if p.armed = 1 then ({ p with acts := p.acts + 1, armed := 0 } : Pw).off else { p with acts := p.acts + 1, armed := p.armed - 1 }
def Pw.err (p : Pw) : Int := if p.armed = 1 then 10 else 0
/-- no counter is at its end -/
def Pw.fits (p : Pw) (k : Nat) : Prop := p.acts + k < 9223372036854775000 ∧ p.armed ≤ 9223372036854775807 ∧ p.life + k < 9223372036854775000

theorem Pw.fits_mono {p : Pw} {j k : Nat} (h : p.fits k) (hj : j ≤ k) : p.fits j := ⟨by have := h.1; omega, h.2.1, by have := h.2.2; omega⟩
structure Slot where
  now : List UInt8
  sure : List UInt8
  opn : Bool

structure St where
  pw : Pw
  slots : List Slot

end Go.Proofs.YteihfoacdocgkaaDoor.Sh
