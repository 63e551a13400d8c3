/-
  Layer 18 (ration): arguments of type []apiarylaw18.Act; frames and what is sent, in memory.
-/
import Derived.Test.YtfbjbhddapoopaaDoorHvL
import Derived.Test.YtfbjbhddapoopaaDoorFrO
set_option linter.unusedVariables false
set_option linter.unusedSimpArgs false
namespace Go.Proofs.YtfbjbhddapoopaaDoor
open Go.RowKit Go.ChangeShapes Go.WideShapes Go.Deep

structure ActG where
  kind : Int
  f : FrD
  text : List UInt8
def ActG.cells (x : ActG) : List Value := Value.int .i64 x.kind :: (x.f.cells ++ [Value.string ⟨x.text.toArray⟩])
def ActsG (w : World) (B : Nat) (A : Option Addr) (ds : List ActG) : Prop :=
  ∀ (i : Nat) (h : i < ds.length), ∃ b o, A = some ⟨b, o, none⟩ ∧ b < B ∧ w.rangeAt b (o + i * 239) ds[i].cells ∧ ds[i].f.Fit
theorem ActG.len {x : ActG} (h : x.f.Fit) : x.cells.length = 239 := by simp [ActG.cells, x.f.len h]
theorem ActsG.below {w w' : World} {B : Nat} {A : Option Addr} {ds : List ActG} (h : ActsG w B A ds) (hb : Below B w w') : ActsG w' B A ds := fun i hi => by
  obtain ⟨b, o, e, hl, hr, hk⟩ := h i hi
  exact ⟨b, o, e, hl, range_below hr hb hl, hk⟩

section
variable {H : Type} {enc : TypeId × Value → H} {w : World} {base : Nat} {held : Bool}
theorem open_actG {fuel : Nat} {cs : List Value} {x : DataW H × List MemPlace} (hf : DataW.trod enc Tryd.prog w base (fun _ => true) held fuel 68 cs = some x) :
    ∃ y : ActG, cs = y.cells ∧ y.f.Fit := by
  obtain ⟨n, hlen, G⟩ := trod_seg Tryd.underlying68 hf
  have c239 : Tryd.prog.cellsOf 68 = 239 := by kernel_rfl
  rw [c239] at hlen
  obtain ⟨_, g0⟩ := G 0 3 0 1 rfl (by kernel_rfl)
  obtain ⟨_, g1⟩ := G 1 44 1 237 rfl (by kernel_rfl)
  obtain ⟨_, g2⟩ := G 2 9 238 1 rfl (by kernel_rfl)
  obtain ⟨k, e0, -, w0⟩ := DataW.trod_int Tryd.underlying3 g0
  obtain ⟨f, e1, h1, h2, h3, h4⟩ := open_frameC g1
  obtain ⟨da, e2, -, w2⟩ := DataW.trod_string Tryd.underlying9 g2
  refine ⟨⟨k, f, da.data.toList⟩, ?_, h1⟩
  have q2 : cs.drop 238 = [.string da] := by rw [← e2, List.take_of_length_le (by simp [hlen])]
  have q1 := @take_seg cs 1 237
  rw [e1, q2] at q1
  unfold ActG.cells
  have eda : (Value.string ⟨da.data.toList.toArray⟩) = .string da := by cases da; rfl
  simp only [eda]
  rw [← List.drop_zero (l := cs), one_of_take e0, ← q1]

set_option maxRecDepth 100000 in
theorem open_actsG {v : Value} {d : DataW H} {ps : List MemPlace} {r : Reach} {b0 : Nat} (hv : Value.okWide Tryd.prog w r b0 59 v) (h : DataW.Trod enc Tryd.prog w base (fun _ => true) held 59 v d ps) :
    ∃ (A : Option Addr) (cap : Nat) (ds : List ActG), v = .slice A ds.length cap ∧ ActsG w w.heap.size A ds ∧ ds.length ≤ maxLen := by
  obtain ⟨a0, len, cap, rfl⟩ := okWide_slice Tryd.underlying59 hv
  obtain ⟨fuel, hf⟩ := h
  rcases open_slice Tryd.underlying59 hf with ⟨hcs, _⟩ | ⟨a, len', cap', m, n, D, Pl, hcs, _, hl, hm, hmm, _, hi⟩
  · simp only [Value.cells, Array.toList, List.cons.injEq, Value.slice.injEq, and_true] at hcs
    obtain ⟨rfl, rfl, rfl⟩ := hcs
    exact ⟨none, 0, [], rfl, fun i hi => absurd hi (by simp), by simp⟩
  · simp only [Value.cells, Array.toList, List.cons.injEq, Value.slice.injEq, and_true] at hcs
    obtain ⟨rfl, rfl, rfl⟩ := hcs
    simp only [if_true] at hmm
    have c239 : Tryd.prog.cellsOf 68 = 239 := by kernel_rfl
    have key : ∀ i, i < len → ∃ x : ActG, x.f.Fit ∧ ∀ k, k < 239 → w.cell? ((a.add (i * 239)).add k) = x.cells[k]? := by
      intro i hil
      obtain ⟨cs', hc, ht⟩ := hi i (by omega)
      rw [c239] at hc
      obtain ⟨y, rfl, h3⟩ := open_actG ht
      obtain ⟨_, _, hat⟩ := World.cells?_some hc
      exact ⟨y, h3, fun k hk => hat k hk⟩
    have hne : Nonempty ActG := ⟨⟨0, zeroFr, []⟩⟩
    refine ⟨some a, cap, (List.range len).map fun i => Classical.epsilon fun x : ActG => x.f.Fit ∧ ∀ k, k < 239 → w.cell? ((a.add (i * 239)).add k) = x.cells[k]?, by simp, ?_, by simp; omega⟩
    intro i hil
    simp only [List.length_map, List.length_range] at hil
    have hs := Classical.epsilon_spec (key i hil)
    simp only [List.getElem_map, List.getElem_range]
    obtain ⟨x, hx⟩ : ∃ x, x = Classical.epsilon fun x : ActG => x.f.Fit ∧ ∀ k, k < 239 → w.cell? ((a.add (i * 239)).add k) = x.cells[k]? := ⟨_, rfl⟩
    rw [← hx] at hs ⊢
    obtain ⟨hok, hc⟩ := hs
    have hsp : a.spot = none := by
      obtain ⟨x0, -, hc0⟩ := key 0 (by omega)
      have h0 := hc0 0 (by omega)
      have e : (a.add (0 * 239)).add 0 = a := by simp [Addr.add]
      rw [e] at h0
      exact spot_of_cell h0
    have h0 := hc 0 (by omega)
    obtain ⟨b, o, sp⟩ := a
    simp only at hsp
    subst hsp
    refine ⟨b, o, rfl, ?_, fun k v hv => ?_, hok⟩
    · have := block_lt_of_cell h0
      rw [block_add, block_add] at this
      exact this
    · have hk : k < 239 := by have := (List.getElem?_eq_some_iff.1 hv).1; rw [ActG.len hok] at this; exact this
      have := hc k hk
      rw [Addr.add_lit, Addr.add_lit] at this
      rw [this]; exact hv
end

theorem cells_one' {f : FrD} (h : f.Fit) : f.cells.all (·.oneCell') = true := by
  have := FrD.row_one h
  unfold FrD.row at this
  rwa [List.all_toArray] at this
theorem ActG.one {x : ActG} (h : x.f.Fit) : x.cells.toArray.all (·.oneCell') = true := by
  rw [List.all_toArray]
  unfold ActG.cells
  simp only [List.all_cons, List.all_append, cells_one' h, List.all_nil, Bool.and_true, Bool.true_and]
  rfl
theorem act_info : (Tryd.prog.info? 68).map (·.size) = some 239 := by kernel_rfl
theorem act_zero : Tryd.zeroCells68.size = 239 := by kernel_rfl
/-- an act in a block of its own -/
theorem act_mem {w : World} {b : Nat} {x : ActG} {T : TypeId} {z : Nat × Nat} (hf : x.f.Fit) (h : w.heap[b]? = some (.cells x.cells.toArray T z)) :
    w.cell? ⟨b, 0, none⟩ = some (.int .i64 x.kind) ∧ w.rangeAt b 1 x.f.cells ∧ w.cell? ⟨b, 238, none⟩ = some (.string ⟨x.text.toArray⟩) := by
  refine ⟨by rw [Lib.cell_of_heap h]; rfl, fun k v hv => ?_, ?_⟩
  · have hk := (List.getElem?_eq_some_iff.1 hv).1
    rw [Lib.cell_of_heap h, List.getElem?_toArray]
    unfold ActG.cells
    rw [show 1 + k = k + 1 by omega, List.getElem?_cons_succ, List.getElem?_append_left hk]
    exact hv
  · rw [Lib.cell_of_heap h, List.getElem?_toArray]
    unfold ActG.cells
    rw [show 238 = 237 + 1 by rfl, List.getElem?_cons_succ, List.getElem?_append_right (by rw [x.f.len hf]; exact Nat.le_refl _), x.f.len hf]
    rfl
structure SnAt (w : World) (b : Nat) (tt : Int) (f : FrD) : Prop where
  to_ : w.cell? ⟨b, 0, none⟩ = some (.int .i64 tt)
  kind : w.cell? ⟨b, 1, none⟩ = some (.int .i64 f.kind)
  from_ : w.cell? ⟨b, 2, none⟩ = some (.int .i64 f.from_)
  at_ : w.cell? ⟨b, 135, none⟩ = some (.int .i64 f.at_)
  data : w.cell? ⟨b, 136, none⟩ = some (.string ⟨f.data.toArray⟩)
  out : w.rangeAt b 103 (byV f.out)
  mani : w.rangeAt b 201 f.mani.cells
  size : w.cell? ⟨b, 233, none⟩ = some (.int .i64 f.mani.size)
theorem sn_mem {w : World} {b : Nat} {tt : Int} {f : FrD} {T : TypeId} {z : Nat × Nat} (hf : f.Fit) (h : w.heap[b]? = some (.cells (sentRow tt f) T z)) : SnAt w b tt f := by
  obtain ⟨a0, a1, a2, a3, a4, a5⟩ := fr_at hf
  have key : ∀ j v, f.cells[j]? = some v → w.cell? ⟨b, j + 1, none⟩ = some v := fun j v hv => by
    rw [Lib.cell_of_heap h]; unfold sentRow sentCells; rw [List.getElem?_toArray, List.getElem?_cons_succ]; exact hv
  have hm : w.rangeAt b 201 f.mani.cells := fun k v hv => by
    have := key _ _ (a5 k v hv)
    rw [show 201 + k = 200 + k + 1 by omega]; exact this
  refine ⟨by rw [Lib.cell_of_heap h]; rfl, key 0 _ a0, key 1 _ a1, key 134 _ a2, key 135 _ a3, fun k v hv => ?_, hm, ?_⟩
  · have := key _ _ (a4 k v hv)
    rw [show 103 + k = 102 + k + 1 by omega]; exact this
  · have := hm 32 (.int .i64 f.mani.size) (by have := f.mani.at32 hf.lm; simpa [ManiD.row] using this)
    simpa using this

theorem fr_set_from {f : FrD} (x : Int) : f.row.setIfInBounds 1 (.int .i64 x) = ({ f with from_ := x } : FrD).row := rfl
theorem fr_set_at {f : FrD} (hf : f.Fit) (x : Int) : f.row.setIfInBounds 134 (.int .i64 x) = ({ f with at_ := x } : FrD).row := by
  have ho : (byV f.out).length = 32 := by rw [byV_length, hf.lo]
  have e1 : f.cells = (([Value.int .i64 f.kind, Value.int .i64 f.from_] ++ f.x1) ++ byV f.out) ++ (Value.int .i64 f.at_ :: (Value.string ⟨f.data.toArray⟩ :: (f.x2 ++ (f.mani.cells ++ f.x3)))) := by simp [FrD.cells]
  have e2 : ({ f with at_ := x } : FrD).cells = (([Value.int .i64 f.kind, Value.int .i64 f.from_] ++ f.x1) ++ byV f.out) ++ (Value.int .i64 x :: (Value.string ⟨f.data.toArray⟩ :: (f.x2 ++ (f.mani.cells ++ f.x3)))) := by simp [FrD.cells]
  have hl : (([Value.int .i64 f.kind, Value.int .i64 f.from_] ++ f.x1) ++ byV f.out).length = 134 := by simp [hf.l1, ho]
  unfold FrD.row
  rw [e1, e2, List.setIfInBounds_toArray, List.set_append_right _ _ (by omega), hl]
  rfl
theorem fr_from_fit {f : FrD} (hf : f.Fit) (x : Int) : ({ f with from_ := x } : FrD).Fit := ⟨hf.l1, hf.lo, hf.l2, hf.lm, hf.l3, hf.o1, hf.o2, hf.o3⟩
theorem fr_at_fit {f : FrD} (hf : f.Fit) (x : Int) : ({ f with at_ := x } : FrD).Fit := ⟨hf.l1, hf.lo, hf.l2, hf.lm, hf.l3, hf.o1, hf.o2, hf.o3⟩
theorem fr_out_fit {f : FrD} (hf : f.Fit) (o : List UInt8) (ho : o.length = 32) : ({ f with out := o } : FrD).Fit := ⟨hf.l1, ho, hf.l2, hf.lm, hf.l3, hf.o1, hf.o2, hf.o3⟩
/-- a block is made, and a row lies in it -/
theorem put_new (w : World) (Z R : Array Value) (t : TypeId) : ((w.alloc (.cells Z t)).setRow w.heap.size R).heap[w.heap.size]? = some (.cells R t (0, 0)) ∧ Below w.heap.size w ((w.alloc (.cells Z t)).setRow w.heap.size R) :=
  ⟨setRow_heap _ _ _ R _ _ (heap_alloc_new w (.cells Z t)), (Only.below (((Only.refl [w.heap.size] w).alloc _).setRow (by simp) _) (Nat.le_refl _) (by simp))⟩
theorem seg_setCells (p : Nat) (T : TypeId) : ∀ (vs pre old post : List Value) (w : World), w.heap[p]? = some (.cells (pre ++ (old ++ post)).toArray T (0, 0)) → old.length = vs.length → (w.setCells p pre.length vs).heap[p]? = some (.cells (pre ++ (vs ++ post)).toArray T (0, 0))
  | [], pre, old, post, w, h, hl => by
    obtain rfl : old = [] := List.eq_nil_of_length_eq_zero (by simpa using hl)
    exact h
  | v :: vs, pre, o :: old, post, w, h, hl => by
    have h1 := heap_setCell_same w p pre.length _ _ v h
    have e : (pre ++ (o :: old ++ post)).toArray.setIfInBounds pre.length v = ((pre ++ [v]) ++ (old ++ post)).toArray := by
      rw [List.setIfInBounds_toArray]
      congr 1
      rw [List.set_append_right _ _ (by omega), Nat.sub_self]
      simp
    rw [e] at h1
    have h2 := seg_setCells p T vs (pre ++ [v]) old post _ h1 (by simpa using hl)
    rw [List.length_append, List.length_singleton] at h2
    simpa [World.setCells] using h2
  | v :: vs, pre, [], post, w, h, hl => by simp at hl
theorem seg_only {bs : List Nat} {a : World} {p : Nat} (hp : p ∈ bs) : ∀ (vs : List Value) (o : Nat) (b : World), Only bs a b → Only bs a (b.setCells p o vs)
  | [], _, _, h => h
  | v :: vs, o, b, h => seg_only hp vs (o + 1) _ (h.setCell (p := ⟨p, o, none⟩) hp v)
/-- the frame's digest is set -/
theorem fr_put_out {w : World} {b : Nat} {f : FrD} (hf : f.Fit) (o : List UInt8) (ho : o.length = 32) (h : w.heap[b]? = some (.cells f.row 44 (0, 0))) :
    (w.setCells b 102 (byV o)).heap[b]? = some (.cells ({ f with out := o } : FrD).row 44 (0, 0)) := by
  have hl : (byV f.out).length = 32 := by rw [byV_length, hf.lo]
  have h1 := seg_setCells b 44 (byV o) ([Value.int .i64 f.kind, Value.int .i64 f.from_] ++ f.x1) (byV f.out) ([Value.int .i64 f.at_, Value.string ⟨f.data.toArray⟩] ++ (f.x2 ++ (f.mani.cells ++ f.x3))) w (by rw [h]; unfold FrD.row FrD.cells; simp only [List.append_assoc]) (by rw [hl, byV_length, ho])
  have hp : ([Value.int .i64 f.kind, Value.int .i64 f.from_] ++ f.x1).length = 102 := by simp [hf.l1]
  rw [hp] at h1
  rw [h1]
  unfold FrD.row FrD.cells
  simp only [List.append_assoc]
end Go.Proofs.YtfbjbhddapoopaaDoor
