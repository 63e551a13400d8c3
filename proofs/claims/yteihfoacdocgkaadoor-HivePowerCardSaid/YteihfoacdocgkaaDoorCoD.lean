/-
  Layer 3 (comb): the walk of Mani.
-/
import Derived.Test.YteihfoacdocgkaaDoorCoC
set_option linter.unusedVariables false
set_option linter.unusedSimpArgs false
namespace Go.Proofs.YteihfoacdocgkaaDoor
open Go.RowKit
attribute [local go_sem] Lb.ba_get Lb.ba_cut Lb.ba_add Lb.ba_size Lb.take_rest

theorem Only.belowB {bs : List Nat} {a b c : World} (h : Only bs a b) (k : Below a.heap.size b c) : Only bs a c :=
  ⟨k.os.trans h.os, k.tape.trans h.tape, k.output.trans h.output, Nat.le_trans h.size k.size, fun i hi hn => (k.block i hi).trans (h.block i hi hn)⟩

theorem Txts.cell {w : World} {B : Nat} {A : Option Addr} {n cap : Nat} {ts : List (List UInt8)} (h : Txts w B (.slice A n cap) ts) (j : Nat) (hj : j < ts.length) :
    ∃ g, A = some ⟨g, 0, none⟩ ∧ B ≤ g ∧ g < w.heap.size ∧ w.cell? ⟨g, j, none⟩ = some (.string ⟨(ts[j]).toArray⟩) := by
  rcases h with ⟨_, h0, _⟩ | ⟨g, c, hv, hg, hB⟩
  · omega
  · refine ⟨g, by injection hv, hg, hB.lt, hB.holds j _ ?_⟩
    simp [rowT, hj]

theorem results_cell_row2 {P : Program} {fn : Func} {p u : Tmp} {ty : TypeId} (h : fn.results = #[.cell p ty, .tmp u]) (tmps : Array Value) (w : World) (g : Nat) (t : TypeId) (cs : Array Value) (fr : Nat × Nat) (d : TypeDesc)
    (hp : tmps.getD p undef = .pointer (some ⟨g, 0, none⟩)) (hg : w.heap[g]? = some (.cells cs t fr))
    (hu : P.underlying ty = some d) (hd : (match d with | .struct _ | .array _ _ => true | _ => false) = true) (hi : (P.info? ty).map (·.size) = some cs.size) :
    (results fn tmps).run P w = .ok (.tuple #[.agg cs, tmps.getD u undef]) w := by
  have hp' : tmps[p]?.getD undef = .pointer (some ⟨g, 0, none⟩) := by simpa using hp
  simp [results, h, hp', asAddr, run_loadVar_row w g t ty cs fr d hg hu hd hi]

theorem fold_cells : ∀ (vs : List Value) (k off : Nat) (pre old post : List Value), pre.length = off + k → old.length = vs.length →
    ((vs.zipIdx k).foldl (fun (cs : Array Value) (x : Value × Nat) => cs.setIfInBounds (off + x.2) x.1) (pre ++ old ++ post).toArray) = (pre ++ vs ++ post).toArray
  | [], k, off, pre, old, post, _, ho => by
    have : old = [] := List.eq_nil_of_length_eq_zero (by simpa using ho)
    subst this
    rfl
  | v :: vs, k, off, pre, o :: old, post, hp, ho => by
    rw [List.zipIdx_cons, List.foldl_cons]
    have e : (pre ++ o :: old ++ post).toArray.setIfInBounds (off + k) v = ((pre ++ [v]) ++ old ++ post).toArray := by
      rw [List.setIfInBounds_toArray, ← hp]
      congr 1
      rw [List.append_assoc, List.set_append_right _ _ (by omega), Nat.sub_self]
      simp
    show List.foldl _ ((pre ++ o :: old ++ post).toArray.setIfInBounds (off + k) v) _ = _
    rw [e, fold_cells vs (k + 1) off (pre ++ [v]) old post (by simp; omega) (by simpa using ho)]
    simp
  | v :: vs, k, off, pre, [], post, _, ho => by simp at ho
theorem fold_cells_all (vs old post : List Value) (h : old.length = vs.length) :
    (vs.toArray.zipIdx.foldl (fun (cs : Array Value) (x : Value × Nat) => cs.setIfInBounds (0 + x.2) x.1) (old ++ post).toArray) = (vs ++ post).toArray := by
  have := fold_cells vs 0 0 [] old post rfl h
  simp only [List.nil_append] at this
  rw [← this, ← Array.foldl_toList]
  simp

theorem fold_dig (d : List UInt8) (hd : d.length = 32) : Array.foldl (fun (cs : Array Value) (x : Value × Nat) => cs.setIfInBounds x.snd x.fst) #[Value.int IntKind.u8 0, Value.int IntKind.u8 0, Value.int IntKind.u8 0, Value.int IntKind.u8 0, Value.int IntKind.u8 0, Value.int IntKind.u8 0, Value.int IntKind.u8 0, Value.int IntKind.u8 0, Value.int IntKind.u8 0, Value.int IntKind.u8 0, Value.int IntKind.u8 0, Value.int IntKind.u8 0, Value.int IntKind.u8 0, Value.int IntKind.u8 0, Value.int IntKind.u8 0, Value.int IntKind.u8 0, Value.int IntKind.u8 0, Value.int IntKind.u8 0, Value.int IntKind.u8 0, Value.int IntKind.u8 0, Value.int IntKind.u8 0, Value.int IntKind.u8 0, Value.int IntKind.u8 0, Value.int IntKind.u8 0, Value.int IntKind.u8 0, Value.int IntKind.u8 0, Value.int IntKind.u8 0, Value.int IntKind.u8 0, Value.int IntKind.u8 0, Value.int IntKind.u8 0, Value.int IntKind.u8 0, Value.int IntKind.u8 0] (digV d).zipIdx 0 32 = digV d := by
  have h := fold_cells_all (byV d) (byV (List.replicate 32 0)) [] (by simp [byV, hd])
  have hs : (digV d).zipIdx.size = 32 := by simp [digV_size, hd]
  rw [← hs]
  simp only [Nat.zero_add, List.append_nil] at h
  exact h

theorem Bag0.only {w w' : World} {B size m : Nat} {v : Value} {cs : List Value} {bs : List Nat} (h : Bag0 w B size v m cs) (ho : Only bs w w') (hb : ∀ x ∈ bs, x < B) : Bag0 w' B size v m cs := by
  rcases h with h | ⟨g, cap, hv, hg, hB⟩
  · exact .inl h
  · exact .inr ⟨g, cap, hv, hg, hB.only ho (fun hm => by have := hb _ hm; omega)⟩
theorem dig_info3 : (Tryd.prog.info? 23).map (fun i => (i.zero, i.size, i.bytes)) = some (some (.agg (digV (List.replicate 32 0))), 32, 32) := by kernel_rfl
theorem dig_src {w : World} (g c : Nat) (d : List UInt8) (T : TypeId) (f : Nat × Nat) (hd : d.length = 32) (h : w.heap[g]? = some (.cells (digV d) T f)) : Src Tryd.prog 32 29 (.slice (some ⟨g, 0, none⟩) 1 c) 1 (byV d) w := by
  refine Src.ofSlice w Tryd.underlying29 _ 1 c (byV d) (by simp [byV, hd]) (fun j u hu => ?_) (fun u hu => ?_)
  · rw [Addr.add_lit, Nat.zero_add, Lib.cell_of_heap h]; simpa [digV] using hu
  · simp only [byV, List.mem_map] at hu; obtain ⟨_, _, rfl⟩ := hu; rfl

def maniRow (d : List UInt8) (n : Int) (v : Value) : Array Value := (byV d ++ [Value.int .i64 n, v]).toArray
theorem fill_one {place : Nat → Option (Nat × Nat)} {cells C : Array Value} {i : Nat} {v : Value} {rest : List (Nat × Value)} {off size : Nat} (hp : place i = some (off, size)) (hs : v.cells.size = size) (hle : off + size ≤ cells.size)
    (hC : v.cells.zipIdx.foldl (fun (cs : Array Value) (x : Value × Nat) => cs.setIfInBounds (off + x.2) x.1) cells = C) : Instr.fill place cells ((i, v) :: rest) = Instr.fill place C rest := by
  subst hC
  rw [Instr.fill, hp]
  simp only [hs]
  rw [if_neg (by simp; omega)]
theorem wpList_build2 {P : Program} {ops : Array Oper} {rest : List Oper} {o : Oper} {a : Act} {w : World} {Q : Exit → Act → World → Prop} (hg : o.guard = none) (t : TypeId) (i j : Nat) (x y : Operand) (ho : o.op = .build t #[(i, x), (j, y)])
    (vx vy : Value) (hx : a.eval x = vx) (hy : a.eval y = vy) (C : Array Value) (hB : P.built t [(i, vx), (j, vy)] = some C)
    (h : wpList P ops Q rest (a.put o.dst (.agg C)) w) : wpList P ops Q (o :: rest) a w := by
  have e : ((#[(i, x), (j, y)] : Array (Nat × Operand)).map fun (i, x) => (i, a.eval x)).toList = [(i, vx), (j, vy)] := by simp [hx, hy]
  refine wpList_build hg t _ ho ?_ ?_
  · rw [e, hB]; rfl
  · rw [e, hB]; exact h

def zeroMani : ManiD := ⟨List.replicate 32 0, 0, none, 0, []⟩

end Go.Proofs.YteihfoacdocgkaaDoor
