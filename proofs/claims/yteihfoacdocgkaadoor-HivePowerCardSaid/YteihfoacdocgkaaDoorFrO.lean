/-
  Arguments that hold frames.
-/
import Derived.Test.YteihfoacdocgkaaDoorFrP
import Derived.Test.YteihfoacdocgkaaDoorManiArg
import Derived.Deep.Fields
import Derived.ChangeSame
set_option linter.unusedVariables false
set_option linter.unusedSimpArgs false
namespace Go.Proofs.YteihfoacdocgkaaDoor
open Go.RowKit Go.ChangeShapes Go.WideShapes Go.Deep

section
variable {H : Type} {enc : TypeId × Value → H} {w : World} {base : Nat} {held : Bool}

/-- the cells of a record -/
theorem open_recordC {fuel : Nat} {cs : List Value} {x : DataW H × List MemPlace} (hf : DataW.trod enc Tryd.prog w base (fun _ => true) held fuel 26 cs = some x) :
    ∃ (k : List UInt8) (c : Int) (o : List UInt8), k.length = 32 ∧ o.length = 32 ∧ -9223372036854775808 ≤ c ∧ c ≤ 9223372036854775807 ∧ cs = byV k ++ ([Value.int .i64 c] ++ byV o) := by
  obtain ⟨y0, y1, y2, n, hx, hlen, h0, h1, h2⟩ := trod_struct3 Tryd.underlying26 hf
  have c65 : Tryd.prog.cellsOf 26 = 65 := by kernel_rfl
  have c32 : Tryd.prog.cellsOf 23 = 32 := by kernel_rfl
  have c1 : Tryd.prog.cellsOf 24 = 1 := by kernel_rfl
  rw [c65] at hlen
  simp only [c32, c1] at h0 h1 h2
  obtain ⟨k, hk, e0⟩ := open_dig h0
  obtain ⟨s, e1, _, wf⟩ := DataW.trod_int Tryd.underlying24 h1
  obtain ⟨o, ho, e2⟩ := open_dig h2
  have hb := wf_bounds_ wf
  refine ⟨k, s, o, hk, ho, hb.1, hb.2, ?_⟩
  have e3 : cs = (cs.drop 0).take 32 ++ ((cs.drop 32).take 1 ++ (cs.drop 33).take 32) := by
    have a1 : (cs.drop 33).take 32 = cs.drop 33 := List.take_of_length_le (by simp [hlen])
    have a2 : (cs.drop 32).take 1 ++ cs.drop 33 = cs.drop 32 := by
      have := List.take_append_drop 1 (cs.drop 32)
      rw [List.drop_drop] at this
      exact this
    rw [a1, a2, List.drop_zero, List.take_append_drop]
  rw [e3, e0, e1, e2]

def mkx1 (seq node : Int) (key : List UInt8) (found : Bool) (rk : List UInt8) (rc : Int) (ro : List UInt8) : List Value :=
  [Value.int .i64 seq, Value.int .i64 node] ++ (byV key ++ ([Value.bool found] ++ (byV rk ++ ([Value.int .i64 rc] ++ byV ro))))
theorem take_seg {cs : List Value} {a b : Nat} : (cs.drop a).take b ++ cs.drop (a + b) = cs.drop a := by
  have := List.take_append_drop b (cs.drop a)
  rw [List.drop_drop] at this
  exact this

theorem trod_seg {t : TypeId} {fs : Array Field} {fuel : Nat} {cs : List Value} {x : DataW H × List MemPlace} (ht : Tryd.prog.underlying t = some (.struct fs)) (h : DataW.trod enc Tryd.prog w base (fun _ => true) held fuel t cs = some x) :
    ∃ n, cs.length = Tryd.prog.cellsOf t ∧ ∀ (j : Nat) (t' : TypeId) (off sz : Nat), (fs[j]?.map fun f => (f.type, f.offset)) = some (t', off) → Tryd.prog.cellsOf t' = sz → ∃ y, DataW.trod enc Tryd.prog w base (fun _ => true) held n t' ((cs.drop off).take sz) = some y := by
  obtain ⟨ys, n, _, hx, hlen, hyl, hfl⟩ := DataW.trod_struct ht h
  refine ⟨n, hlen, fun j t' off sz hj hs => ?_⟩
  obtain ⟨f, hf, he⟩ := Option.map_eq_some_iff.1 hj
  simp only [Prod.mk.injEq] at he
  have hl : j < ys.length := by rw [hyl]; exact (Array.getElem?_eq_some_iff.1 hf).1
  have h1 := hfl j f hf
  rw [List.getElem?_eq_getElem hl, he.1, he.2, hs] at h1
  exact ⟨_, h1⟩
theorem one_of_take {cs : List Value} {a : Nat} {v : Value} (h : (cs.drop a).take 1 = [v]) : cs.drop a = v :: cs.drop (a + 1) := by
  have := @take_seg cs a 1
  rw [h] at this
  exact this.symm

end
theorem spot_of_cell {w : World} {a : Addr} {v : Value} (h : w.cell? a = some v) : a.spot = none := by
  unfold World.cell? at h
  split at h
  · by_cases hs : a.spot.isSome = true
    · rw [if_pos hs] at h; cases h
    · cases hsp : a.spot with
      | none => rfl
      | some x => rw [hsp] at hs; simp at hs
  · cases h

end Go.Proofs.YteihfoacdocgkaaDoor
