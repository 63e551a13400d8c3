/-
  Maps as lists of keys and values: what the operations on a map do to such a list; the keys of the store's maps.
-/
import Derived.Test.YteihfoacdocgkaaDoorCoB
import Derived.Maps.Keyed
import Derived.DeepKeys4
import Derived.Laws.IdiomRangeMap
set_option linter.unusedVariables false
set_option linter.unusedSimpArgs false
namespace Go.Proofs.YteihfoacdocgkaaDoor
open Go.RowKit Go.MapKept
open Go.ChangeMaps (setBlock)

structure KFam (k : TypeId) {κ : Type} (kv : κ → Value) (ok : κ → Prop) : Prop where
  law : Go.Maps.Keyed Tryd.prog k
  key : ∀ a, ok a → ∃ l, keyOf Tryd.prog k (kv a) = some l
  inj : ∀ a b, kv a = kv b → a = b
/-- The map in block b has the keys and values l, in this order. -/
structure MapAt {κ : Type} (kv : κ → Value) (ok : κ → Prop) (w : World) (b : Nat) (l : List (κ × Value)) : Prop where
  ex : ∃ es clk, w.heap[b]? = some (.map es clk) ∧ es.toList.map (fun e => (e.key, e.val)) = l.map (fun p => (kv p.1, p.2)) ∧ Stamped es clk
  good : ∀ p ∈ l, ok p.1

section
variable {κ : Type} {kv : κ → Value} {ok : κ → Prop} {k t e : TypeId} {w : World} {b : Nat} {l : List (κ × Value)}

theorem MapAt.keep {w' : World} (h : MapAt kv ok w b l) (hb : w'.heap[b]? = w.heap[b]?) : MapAt kv ok w' b l := by
  obtain ⟨⟨es, clk, h1, h2, h3⟩, hg⟩ := h
  exact ⟨⟨es, clk, hb.trans h1, h2, h3⟩, hg⟩
theorem MapAt.lt (h : MapAt kv ok w b l) : b < w.heap.size := by
  obtain ⟨⟨es, clk, h1, -, -⟩, -⟩ := h
  exact heap_lt h1
theorem map_mem {es : Array MapEntry} (h2 : es.toList.map (fun e => (e.key, e.val)) = l.map (fun p => (kv p.1, p.2))) {x : MapEntry} (hx : x ∈ es.toList) : ∃ p ∈ l, kv p.1 = x.key ∧ p.2 = x.val := by
  have hm : (x.key, x.val) ∈ es.toList.map (fun e => (e.key, e.val)) := List.mem_map.2 ⟨x, hx, rfl⟩
  rw [h2] at hm
  obtain ⟨p, hp, he⟩ := List.mem_map.1 hm
  simp only [Prod.mk.injEq] at he
  exact ⟨p, hp, he.1, he.2⟩
theorem mem_map' {es : Array MapEntry} (h2 : es.toList.map (fun e => (e.key, e.val)) = l.map (fun p => (kv p.1, p.2))) {p : κ × Value} (hp : p ∈ l) : ∃ x ∈ es.toList, x.key = kv p.1 ∧ x.val = p.2 := by
  have hm : (kv p.1, p.2) ∈ l.map (fun p => (kv p.1, p.2)) := List.mem_map.2 ⟨p, hp, rfl⟩
  rw [← h2] at hm
  obtain ⟨x, hx, he⟩ := List.mem_map.1 hm
  simp only [Prod.mk.injEq] at he
  exact ⟨x, hx, he.1, he.2⟩
theorem map_keys (K : KFam k kv ok) (hg : ∀ p ∈ l, ok p.1) {es : Array MapEntry} (h2 : es.toList.map (fun e => (e.key, e.val)) = l.map (fun p => (kv p.1, p.2))) : ∀ x ∈ es.toList, ∃ y, keyOf Tryd.prog k x.key = some y := by
  intro x hx
  obtain ⟨p, hp, e1, -⟩ := map_mem h2 hx
  rw [← e1]
  exact K.key p.1 (hg p hp)
theorem MapAt.apart (K : KFam k kv ok) (h : MapAt kv ok w b l) : l.Pairwise (fun p q => p.1 ≠ q.1) := by
  obtain ⟨⟨es, clk, -, h2, h3⟩, hg⟩ := h
  have hp := ((stamped_iff es clk).1 h3).2.2
  have h4 : (es.toList.map (fun e => (e.key, e.val))).Pairwise (fun x y => x.1 ≠ y.1) := List.pairwise_map.2 hp
  rw [h2] at h4
  exact (List.pairwise_map.1 h4).imp fun {p q} hne e1 => hne (by rw [e1])
theorem MapAt.uniq (K : KFam k kv ok) (h : MapAt kv ok w b l) {a : κ} {v v' : Value} (h1 : (a, v) ∈ l) (h2 : (a, v') ∈ l) : v = v' := by
  have hp := h.apart K
  clear h
  induction l with
  | nil => cases h1
  | cons x xs ih =>
    obtain ⟨hx, hxs⟩ := List.pairwise_cons.1 hp
    rcases List.mem_cons.1 h1 with e1 | m1 <;> rcases List.mem_cons.1 h2 with e2 | m2
    · rw [← e1] at e2; exact (Prod.mk.inj e2).2.symm
    · exact absurd rfl (by rw [← e1] at hx; exact hx (a, v') m2)
    · exact absurd rfl (by rw [← e2] at hx; exact hx (a, v) m1)
    · exact ih m1 m2 hxs

theorem MapAt.look (K : KFam k kv ok) (ht : Tryd.prog.underlying t = some (.map k e)) {z : Value} (hz : (zeroValue e).run Tryd.prog w = .ok z w) (h : MapAt kv ok w b l) {a : κ} (ha : ok a) :
    (∃ v, (a, v) ∈ l ∧ (Instr.lookup t (.map (some b)) (kv a) false).run Tryd.prog w = .ok v w) ∨ ((∀ p ∈ l, p.1 ≠ a) ∧ (Instr.lookup t (.map (some b)) (kv a) false).run Tryd.prog w = .ok z w) := by
  obtain ⟨⟨es, clk, h1, h2, h3⟩, hg⟩ := h
  obtain ⟨kl, hkey⟩ := K.key a ha
  rcases K.law.find w hkey es.toList (map_keys K hg h2) with ⟨f1, f2⟩ | ⟨j, e0, f1, f2, f3⟩
  · refine .inr ⟨fun p hp ep => ?_, by simp [Instr.lookup, run_underlying ht, MapKept.run_getObj_map h1, K.law.check w _ hkey, f1, hz, Result.andThen]⟩
    obtain ⟨x, hx, e1, -⟩ := mem_map' h2 hp
    exact f2 x hx (by rw [e1, ep])
  · obtain ⟨p, hp, e1, e2⟩ := map_mem h2 (List.mem_of_getElem? f2)
    have : p.1 = a := K.inj _ _ (e1.trans f3)
    refine .inl ⟨e0.val, by rw [← this, ← e2]; exact hp, by simp [Instr.lookup, run_underlying ht, MapKept.run_getObj_map h1, K.law.check w _ hkey, f1, Result.andThen]⟩
theorem only_setBlock {o : Obj} : Only [b] w (setBlock w b o) := by
  refine ⟨rfl, rfl, rfl, by simp [setBlock], fun i hi hn => ?_⟩
  show (w.heap.setIfInBounds b o)[i]? = w.heap[i]?
  rw [Array.getElem?_setIfInBounds_ne (by simp at hn; exact fun e => hn e.symm)]
theorem heap_setBlock {o : Obj} (hb : b < w.heap.size) : (setBlock w b o).heap[b]? = some o := by
  show (w.heap.setIfInBounds b o)[b]? = some o
  simp [hb]
theorem MapAt.put (K : KFam k kv ok) (ht : Tryd.prog.underlying t = some (.map k e)) (h : MapAt kv ok w b l) {a : κ} (ha : ok a) (hn : ∀ p ∈ l, p.1 ≠ a) (v : Value) :
    ∃ w', (Instr.mapUpdate t (.map (some b)) (kv a) v).run Tryd.prog w = .ok () w' ∧ MapAt kv ok w' b (l ++ [(a, v)]) ∧ Only [b] w w' := by
  have hlt := h.lt
  obtain ⟨⟨es, clk, h1, h2, h3⟩, hg⟩ := h
  obtain ⟨kl, hkey⟩ := K.key a ha
  have hne : ∀ x ∈ es.toList, x.key ≠ kv a := by
    intro x hx ex
    obtain ⟨p, hp, e1, -⟩ := map_mem h2 hx
    exact hn p hp (K.inj _ _ (e1.trans ex))
  rcases K.law.find w hkey es.toList (map_keys K hg h2) with ⟨f1, -⟩ | ⟨j, e0, f1, f2, f3⟩
  · refine ⟨setBlock w b (.map (es.push ⟨kv a, v, clk⟩) (clk + 1)), by simp [Instr.mapUpdate, run_underlying ht, MapKept.run_getObj_map h1, K.law.check w false hkey, f1, MapKept.run_setObj_map _ h1, Result.andThen, setBlock], ⟨⟨_, _, heap_setBlock hlt, by simp [h2], stamped_push h3 hne⟩, ?_⟩, only_setBlock⟩
    intro p hp
    rcases List.mem_append.1 hp with hp | hp
    · exact hg p hp
    · simp at hp; rw [hp]; exact ha
  · exact absurd f3 (hne e0 (List.mem_of_getElem? f2))
theorem MapAt.putSame (K : KFam k kv ok) (ht : Tryd.prog.underlying t = some (.map k e)) (h : MapAt kv ok w b l) {a : κ} {v : Value} (hm : (a, v) ∈ l) :
    ∃ w', (Instr.mapUpdate t (.map (some b)) (kv a) v).run Tryd.prog w = .ok () w' ∧ MapAt kv ok w' b l ∧ Only [b] w w' := by
  have hlt := h.lt
  have huq := fun v' => h.uniq K (a := a) (v := v') (v' := v)
  obtain ⟨⟨es, clk, h1, h2, h3⟩, hg⟩ := h
  obtain ⟨kl, hkey⟩ := K.key a (hg _ hm)
  rcases K.law.find w hkey es.toList (map_keys K hg h2) with ⟨-, f2⟩ | ⟨j, e0, f1, f2, f3⟩
  · obtain ⟨x, hx, e1, -⟩ := mem_map' h2 hm
    exact absurd e1 (f2 x hx)
  · obtain ⟨p, hp, e1, e2⟩ := map_mem h2 (List.mem_of_getElem? f2)
    have hpa : p.1 = a := K.inj _ _ (e1.trans f3)
    have hv : e0.val = v := by rw [← e2]; exact huq p.2 (by rw [← hpa]; exact hp) hm
    have hes : es.modify j (fun e => { e with key := kv a, val := v }) = es := by
      have hj : es[j]? = some e0 := by simpa using f2
      apply Array.ext_getElem?
      intro i
      rw [Array.getElem?_modify]
      split
      · rename_i hij; subst hij
        rw [hj]
        simp only [Option.map_some, Option.some.injEq]
        rw [← f3, ← hv]
      · rfl
    have hk : ((es[j]?).map (·.key)).getD (kv a) = kv a := by
      have hj : es[j]? = some e0 := by simpa using f2
      rw [hj]; exact f3
    refine ⟨setBlock w b (.map es clk), ?_, ⟨⟨es, clk, heap_setBlock hlt, h2, h3⟩, hg⟩, only_setBlock⟩
    simp only [Instr.mapUpdate, run_underlying ht, MapKept.run_getObj_map h1, K.law.check w false hkey, f1, Result.andThen, Sem.run_bind, hk, K.law.stays w hkey, MapKept.run_setObj_map _ h1, setBlock, hes]
theorem MapAt.del (K : KFam k kv ok) (ht : Tryd.prog.underlying t = some (.map k e)) (h : MapAt kv ok w b l) {a : κ} {v : Value} (hm : (a, v) ∈ l) (t2 ty : TypeId) :
    ∃ w' j, (Builtin.delete_ #[t, t2] ty #[.map (some b), kv a]).run Tryd.prog w = .ok (.tuple #[]) w' ∧ l[j]? = some (a, v) ∧ MapAt kv ok w' b (l.eraseIdx j) ∧ Only [b] w w' := by
  have hlt := h.lt
  have huq := fun v' => h.uniq K (a := a) (v := v') (v' := v)
  obtain ⟨⟨es, clk, h1, h2, h3⟩, hg⟩ := h
  obtain ⟨kl, hkey⟩ := K.key a (hg _ hm)
  rcases K.law.find w hkey es.toList (map_keys K hg h2) with ⟨-, f2⟩ | ⟨j, e0, f1, f2, f3⟩
  · obtain ⟨x, hx, e1, -⟩ := mem_map' h2 hm
    exact absurd e1 (f2 x hx)
  · have hlj : (l.map (fun p => (kv p.1, p.2)))[j]? = some (e0.key, e0.val) := by rw [← h2, List.getElem?_map, f2]; rfl
    rw [List.getElem?_map] at hlj
    obtain ⟨p, hp, he⟩ := Option.map_eq_some_iff.1 hlj
    simp only [Prod.mk.injEq] at he
    have hpa : p.1 = a := K.inj _ _ (he.1.trans f3)
    have hv : p.2 = v := huq p.2 (by rw [← hpa]; exact List.mem_of_getElem? hp) hm
    refine ⟨setBlock w b (.map (es.eraseIdxIfInBounds j) clk), j, ?_, by rw [hp, ← hpa, ← hv], ⟨⟨_, _, heap_setBlock hlt, ?_, stamped_erase h3 j⟩, fun q hq => hg q (List.mem_of_mem_eraseIdx hq)⟩, only_setBlock⟩
    · simp [Builtin.delete_, run_underlying ht, MapKept.run_getObj_map h1, K.law.check w _ hkey, f1, MapKept.run_setObj_map _ h1, Result.andThen, setBlock]
    · rw [Array.toList_eraseIdxIfInBounds, Go.ChangeMaps.map_eraseIdx, h2, Go.ChangeMaps.map_eraseIdx]
theorem MapAt.clear (ht : Tryd.prog.underlying t = some (.map k e)) (h : MapAt kv ok w b l) (ty : TypeId) :
    ∃ w', (Builtin.clear_ #[t] ty #[.map (some b)]).run Tryd.prog w = .ok (.tuple #[]) w' ∧ MapAt kv ok w' b [] ∧ Only [b] w w' := by
  have hlt := h.lt
  obtain ⟨⟨es, clk, h1, h2, h3⟩, hg⟩ := h
  exact ⟨setBlock w b (.map #[] clk), by simp [Builtin.clear_, run_underlying ht, MapKept.run_getObj_map h1, MapKept.run_setObj_map _ h1, Result.andThen, setBlock], ⟨⟨_, _, heap_setBlock hlt, rfl, stamped_empty clk⟩, by simp⟩, only_setBlock⟩
theorem MapAt.len (ht : Tryd.prog.underlying t = some (.map k e)) (h : MapAt kv ok w b l) (ty : TypeId) : (Builtin.len_ #[t] ty #[.map (some b)]).run Tryd.prog w = .ok (.int .i64 l.length) w := by
  obtain ⟨⟨es, clk, h1, h2, h3⟩, hg⟩ := h
  have hl : es.size = l.length := by have := congrArg List.length h2; simpa using this
  simp [Builtin.len_, run_underlying ht, MapKept.run_getObj_map h1, Result.andThen, hl, goInt]
theorem mapAt_made (w : World) : MapAt kv ok (w.alloc (.map #[] 0)) w.heap.size [] := ⟨⟨_, _, heap_alloc_new w _, rfl, stamped_empty 0⟩, by simp⟩
end

/-! ### the keys -/
theorem laid_out : laidOutB Tryd.prog = true := by kernel_rfl
theorem dig_wide : (match Tryd.prog.underlying 23 with | some (.array _ _) | some (.struct _) => true | _ => false) = true := by rw [Tryd.underlying23]
theorem name_wide : (match Tryd.prog.underlying 127 with | some (.array _ _) | some (.struct _) => true | _ => false) = true := by rw [Tryd.underlying127]
set_option maxRecDepth 100000 in
theorem dig_law : Go.WideMaps.KeyLaw Tryd.prog 23 := deep_law_laid laid_out (m := 2) (by omega) (of_decide_eq_true (by kernel_rfl)) (by kernel_rfl) dig_wide
set_option maxRecDepth 100000 in
theorem name_law : Go.WideMaps.KeyLaw Tryd.prog 127 := deep_law_laid laid_out (m := 3) (by omega) (of_decide_eq_true (by kernel_rfl)) (by kernel_rfl) name_wide
theorem mapM_some {α β : Type} {f : α → Option β} : ∀ (l : List α), (∀ x ∈ l, ∃ y, f x = some y) → ∃ ys, l.mapM f = some ys
  | [], _ => ⟨[], rfl⟩
  | x :: xs, h => by
    obtain ⟨y, hy⟩ := h x (by simp)
    obtain ⟨ys, hys⟩ := mapM_some xs (fun z hz => h z (by simp [hz]))
    exact ⟨y :: ys, by rw [List.mapM_cons, hy, hys]; rfl⟩
theorem lits_u8 (d : Nat) (x : UInt8) : ∃ L, Tryd.prog.keyLits (d + 1) 5 [Value.int .u8 ((x.toNat : Nat) : Int)] = some L := by
  have hw : (Lit.int IntKind.u8 ((x.toNat : Nat) : Int)).wf = true := by
    have := x.toNat_lt
    have m0 : IntKind.u8.min = 0 := rfl
    have m1 : IntKind.u8.max = 255 := rfl
    simp [Lit.wf, m0, m1]
    omega
  refine ⟨[.int .u8 ((x.toNat : Nat) : Int)], ?_⟩
  unfold Program.keyLits
  rw [Tryd.underlying5]
  simp only
  rw [if_pos ⟨by first | trivial | rfl, hw⟩]
theorem lits_dig (d : Nat) (l : List UInt8) (h : l.length = 32) : ∃ L, Tryd.prog.keyLits (d + 2) 23 (byV l) = some L := by
  have c32 : Tryd.prog.cellsOf 23 = 32 := by kernel_rfl
  have c1 : Tryd.prog.cellsOf 5 = 1 := by kernel_rfl
  obtain ⟨ys, hys⟩ := mapM_some (f := fun i => Tryd.prog.keyLits (d + 1) 5 (((byV l).drop (i * Tryd.prog.cellsOf 5)).take (Tryd.prog.cellsOf 5))) (List.range 32) (by
    intro i hi
    simp only [List.mem_range] at hi
    rw [c1, Nat.mul_one]
    have hb : ((byV l).drop i).take 1 = [Value.int .u8 (((l[i]'(by omega)).toNat : Nat) : Int)] := by
      rw [List.drop_eq_getElem_cons (by rw [byV_length]; omega)]
      simp [byV]
    rw [hb]
    exact lits_u8 d _)
  refine ⟨ys.flatten, ?_⟩
  unfold Program.keyLits
  rw [Tryd.underlying23]
  simp only
  rw [if_pos (by rw [byV_length, h, c32]), hys]
  rfl
def nameV (n : Bool × List UInt8) : Value := .agg (Value.bool n.1 :: byV n.2).toArray
def digK (d : List UInt8) : Value := .agg (byV d).toArray
def intK (n : Nat) : Value := .int .i64 n
theorem key_dig (l : List UInt8) (h : l.length = 32) : ∃ x, keyOf Tryd.prog 23 (digK l) = some x := by
  have c32 : Tryd.prog.cellsOf 23 = 32 := by kernel_rfl
  have hs : ∃ m, Tryd.prog.types.size + 1 = m + 2 := ⟨Tryd.prog.types.size - 1, by have : 1 ≤ Tryd.prog.types.size := of_decide_eq_true (by kernel_rfl); omega⟩
  obtain ⟨m, hm⟩ := hs
  obtain ⟨L, hL⟩ := lits_dig m l h
  have hk : Tryd.prog.keyType 23 = true := by kernel_rfl
  have hf : (digK l).formed Tryd.prog 23 = true := by
    unfold Value.formed digK
    simp only [Tryd.underlying23, c32]
    simp [byV_length, h]
  refine ⟨.string (keyBytes L), ?_⟩
  unfold keyOf
  rw [Tryd.underlying23]
  simp only
  rw [hk, hf, hm]
  have e : (digK l).cells.toList = byV l := rfl
  rw [e, hL]
  rfl
theorem key_name (n : Bool × List UInt8) (h : n.2.length = 32) : ∃ x, keyOf Tryd.prog 127 (nameV n) = some x := by
  have c33 : Tryd.prog.cellsOf 127 = 33 := by kernel_rfl
  have c32 : Tryd.prog.cellsOf 23 = 32 := by kernel_rfl
  have c1 : Tryd.prog.cellsOf 4 = 1 := by kernel_rfl
  have hs : ∃ m, Tryd.prog.types.size + 1 = m + 3 := ⟨Tryd.prog.types.size - 2, by have : 2 ≤ Tryd.prog.types.size := of_decide_eq_true (by kernel_rfl); omega⟩
  obtain ⟨m, hm⟩ := hs
  obtain ⟨L, hL⟩ := lits_dig m n.2 h
  have hk : Tryd.prog.keyType 127 = true := by kernel_rfl
  have hf : (nameV n).formed Tryd.prog 127 = true := by
    unfold Value.formed nameV
    simp only [Tryd.underlying127, c33]
    simp [byV_length, h]
  have hb : Tryd.prog.keyLits (m + 2) 4 [Value.bool n.1] = some [.bool n.1] := by
    unfold Program.keyLits
    rw [Tryd.underlying4]
  refine ⟨.string (keyBytes ([.bool n.1] ++ L)), ?_⟩
  unfold keyOf
  rw [Tryd.underlying127]
  simp only
  rw [hk, hf, hm]
  have e : (nameV n).cells.toList = Value.bool n.1 :: byV n.2 := rfl
  rw [e]
  have hl : (Value.bool n.1 :: byV n.2).length = 33 := by simp [byV_length, h]
  have ht : (byV n.2).take 32 = byV n.2 := List.take_of_length_le (by rw [byV_length, h]; exact Nat.le_refl _)
  have hlits : Tryd.prog.keyLits (m + 3) 127 (Value.bool n.1 :: byV n.2) = some ([Lit.bool n.1] ++ L) := by
    unfold Program.keyLits
    rw [Tryd.underlying127]
    simp only
    rw [if_pos ⟨by rw [hl, c33], by kernel_rfl⟩]
    simp only [List.mapM_cons, List.mapM_nil, c1, c32, List.drop_zero, List.take_succ_cons, List.take_zero, List.drop_succ_cons, ht, hb, hL]
    simp
  rw [hlits]
  rfl
theorem digK_inj (a b : List UInt8) (h : digK a = digK b) : a = b := by
  unfold digK at h
  injection h with h
  exact byV_inj _ _ (by simpa using h)
theorem nameV_inj (a b : Bool × List UInt8) (h : nameV a = nameV b) : a = b := by
  obtain ⟨a1, a2⟩ := a
  obtain ⟨b1, b2⟩ := b
  unfold nameV at h
  injection h with h
  have h2 : Value.bool a1 :: byV a2 = Value.bool b1 :: byV b2 := by simpa using h
  injection h2 with e1 e2
  injection e1 with e1
  rw [e1, byV_inj _ _ e2]
theorem dig_fam : KFam 23 digK (fun d => d.length = 32) := ⟨Go.Maps.Keyed.of_law dig_law, key_dig, digK_inj⟩
theorem name_fam : KFam 127 nameV (fun n => n.2.length = 32) := ⟨Go.Maps.Keyed.of_law name_law, key_name, nameV_inj⟩
theorem int_fam : KFam 3 intK (fun n => n < 1000000) := by
  refine ⟨Go.Maps.int_keyed Tryd.underlying3, fun a ha => ?_, fun a b h => ?_⟩
  · refine ⟨.int .i64 a, ?_⟩
    unfold keyOf mapKey intK
    rw [Tryd.underlying3]
    simp only
    have m0 : IntKind.i64.min = -9223372036854775808 := rfl
    have m1 : IntKind.i64.max = 9223372036854775807 := rfl
    have hw : (Lit.int IntKind.i64 (a : Int)).wf = true := by simp [Lit.wf, m0, m1]; omega
    rw [if_pos ⟨by first | trivial | rfl, hw⟩]
  · unfold intK at h
    injection h with _ h
    omega
end Go.Proofs.YteihfoacdocgkaaDoor
