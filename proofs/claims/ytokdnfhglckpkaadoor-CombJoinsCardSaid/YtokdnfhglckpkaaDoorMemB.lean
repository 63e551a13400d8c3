/-
  Memory: calls that turn some blocks alone.
-/
import Derived.Test.YtokdnfhglckpkaaDoorMem
import Derived.Deep.Draws
import Derived.Deep.WholeRow
set_option linter.unusedVariables false
set_option linter.unusedSimpArgs false
namespace Go.Proofs.YtokdnfhglckpkaaDoor
open Go.RowKit

/-- Of what was there, nothing but the blocks bs has turned. -/
structure Only (bs : List Nat) (w w' : World) : Prop where
  os : w'.os = w.os
  tape : w'.tape = w.tape
  output : w'.output = w.output
  size : w.heap.size ≤ w'.heap.size
  block : ∀ k, k < w.heap.size → k ∉ bs → w'.heap[k]? = w.heap[k]?

theorem Only.refl (bs : List Nat) (w : World) : Only bs w w := ⟨rfl, rfl, rfl, Nat.le_refl _, fun _ _ _ => rfl⟩
theorem Only.trans {bs : List Nat} {a b c : World} (h : Only bs a b) (k : Only bs b c) : Only bs a c :=
  ⟨k.os.trans h.os, k.tape.trans h.tape, k.output.trans h.output, Nat.le_trans h.size k.size, fun i hi hn => (k.block i (Nat.lt_of_lt_of_le hi h.size) hn).trans (h.block i hi hn)⟩
theorem Only.mono {bs cs : List Nat} {a b : World} (h : Only bs a b) (hs : ∀ k ∈ bs, k ∈ cs) : Only cs a b :=
  ⟨h.os, h.tape, h.output, h.size, fun i hi hn => h.block i hi (fun hb => hn (hs i hb))⟩
theorem Only.drew {bs : List Nat} {a b : World} (h : Only bs a b) : Only bs a b.drew := ⟨h.os, h.tape, h.output, h.size, h.block⟩
theorem Only.drewN {bs : List Nat} {a b : World} (h : Only bs a b) (n : Nat) : Only bs a (b.drewN n) := ⟨h.os, h.tape, h.output, h.size, h.block⟩
theorem Only.of_below {bs : List Nat} {a b : World} (h : Below a.heap.size a b) : Only bs a b := ⟨h.os, h.tape, h.output, h.size, fun i hi _ => h.block i hi⟩
theorem Only.below {bs : List Nat} {a b : World} {B : Nat} (h : Only bs a b) (hB : B ≤ a.heap.size) (hb : ∀ k ∈ bs, B ≤ k) : Below B a b :=
  ⟨h.os, h.tape, h.output, h.size, fun k hk => h.block k (by omega) (fun hm => by have := hb k hm; omega)⟩
theorem Only.setCell {bs : List Nat} {a b : World} (h : Only bs a b) {p : Addr} (hp : p.block ∈ bs) (u : Value) : Only bs a (b.setCell p u) :=
  h.trans ⟨rfl, rfl, rfl, by simp [World.setCell], fun k _ hn => Below.heap_setCell _ _ _ _ (fun e => hn (by rw [e]; exact hp))⟩
theorem Only.alloc {bs : List Nat} {a b : World} (h : Only bs a b) (o : Obj) : Only bs a (b.alloc o) :=
  h.trans ⟨rfl, rfl, rfl, by simp, fun k hk _ => Below.heap_alloc _ _ _ hk⟩
theorem Only.keep {bs : List Nat} {a b : World} (h : Only bs a b) {g : Nat} {o : Obj} (hg : a.heap[g]? = some o) (hn : g ∉ bs) : b.heap[g]? = some o := by
  have hlt : g < a.heap.size := by
    rcases Nat.lt_or_ge g a.heap.size with h' | h'
    · exact h'
    · rw [Array.getElem?_eq_none h'] at hg; cases hg
  exact (h.block g hlt hn).trans hg
theorem below_keep {a b : World} (h : Below a.heap.size a b) {g : Nat} {o : Obj} (hg : a.heap[g]? = some o) : b.heap[g]? = some o := Only.keep (bs := []) (Only.of_below h) hg (by simp)
theorem heap_lt {a : World} {g : Nat} {o : Obj} (hg : a.heap[g]? = some o) : g < a.heap.size := by
  rcases Nat.lt_or_ge g a.heap.size with h' | h'
  · exact h'
  · rw [Array.getElem?_eq_none h'] at hg; cases hg

theorem Only.cell {bs : List Nat} {w w' : World} (h : Only bs w w') {p : Addr} (hp : p.block < w.heap.size) (hn : p.block ∉ bs) : w'.cell? p = w.cell? p := by
  unfold World.cell?; rw [h.block p.block hp hn]
theorem Only.setRow {bs : List Nat} {a b : World} (h : Only bs a b) {g : Nat} (hp : g ∈ bs) (cs : Array Value) : Only bs a (b.setRow g cs) :=
  h.trans ⟨rfl, rfl, rfl, by simp [World.setRow], fun k _ hn => setRow_other _ _ _ _ (fun e => hn (by rw [e]; exact hp))⟩
end Go.Proofs.YtokdnfhglckpkaaDoor
