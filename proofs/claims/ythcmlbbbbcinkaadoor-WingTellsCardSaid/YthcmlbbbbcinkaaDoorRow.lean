/-
  From a walk to a given row: a law that answers true and leaves all old memory alone; arguments opened.
-/
import Derived.Test.YthcmlbbbbcinkaaDoorRows
import Derived.Test.YthcmlbbbbcinkaaDoorBase
import Derived.WalkKit
import Derived.ProofKit
import Derived.OpenShut
import Derived.JoinedCond
import Derived.SizedLaws
import Derived.SliceStrings
import Derived.ChangeSame
set_option linter.unusedVariables false
set_option linter.unusedSimpArgs false
namespace Go.Proofs.YthcmlbbbbcinkaaDoor
open Go.RowKit Go.ChangeShapes Go.WideShapes Go.ChangeAt
open Go.ChangeMaps (open_string shut_string)

theorem ownKnob_ : ownKnob Tryd.prog.godebug = none := by kernel_rfl
theorem laidOut_ : laidOutB Tryd.prog = true := by kernel_rfl

section
variable {H : Type} {enc : TypeId × Value → H}

/-- Arguments that are read behind a call which left old memory alone: as before. -/
theorem trodAll_below {P : Program} (hl : laidOutB P = true) {W W' : World} (hb : Below W.heap.size W W') (sp : Nat → Bool) : ∀ (ts : List TypeId) (vs : List Value) (ds : List (DataW H)) (ps : List MemPlace),
    (∀ t ∈ ts, P.readableRec t = true ∧ t < P.types.size) → DataW.TrodAll enc P W 0 (fun _ => true) true ts vs ds ps → (∀ x ∈ ps, x.block < W.heap.size) → (∀ x ∈ ps, sp x.block = true) →
    DataW.TrodAll enc P W' 0 sp true ts vs ds ps
  | [], [], [], _, _, h, _, _ => h
  | t :: ts, v :: vs, d :: ds, _, hr, ⟨p, q, hd, hrest, rfl⟩, hlt, hsp =>
    ⟨p, q, WideElems.Trod_stays hl (hr t (by simp)).1 (hr t (by simp)).2 hd (fun x hx => hb.same (hlt x (by simp [hx]))) (fun x hx => hsp x (by simp [hx])),
      trodAll_below hl hb sp ts vs ds q (fun t' ht => hr t' (by simp [ht])) hrest (fun x hx => hlt x (by simp [hx])) (fun x hx => hsp x (by simp [hx])), rfl⟩

/-- A LAW's END: it answered true, nothing that was there has turned. -/
theorem law_post {P : Program} {f : Func} {s : ChangeSpec} {apart : Bool} {W W' : World} {args : Array Value} {ds gs : List (DataW H)} {before : List MemPlace} {tb : TypeId}
    (hl : laidOutB P = true) (hr : ∀ t ∈ f.params.toList, P.readableRec t = true ∧ t < P.types.size) (hbool : P.underlying tb = some .bool) (hres : f.resultTypes = #[tb]) (hvars : s.vars = [])
    (hfn : s.fn H (ds ++ gs) = { results := [.lit (.bool true)], args := ds })
    (hW : DataW.Whole enc P f.params.toList s.vars apart W args.toList ds gs before) (hb : Below W.heap.size W W') :
    s.post enc P f apart true false false W args (.bool true) W' := by
  have hlt : ∀ p ∈ before, p.block < W.heap.size := fun p hp => hW.lt p hp
  have hW0 := hW
  obtain ⟨p, q, hA, hV, rfl, _, _⟩ := hW
  rw [hvars] at hV
  obtain ⟨rfl, rfl⟩ := trodVars_none hV
  refine ⟨ds, [], p ++ [], [], p, [], hW0, ?_, ?_, ?_, hb.frame _, fun h => by cases h⟩
  · rw [hfn, hres]
    exact trodAll_mk1 (shut_bool hbool true)
  · rw [hfn]
    refine trodAll_below hl hb _ _ _ _ _ hr hA (fun x hx => hlt x (by simp [hx])) (fun x hx => by simpa using hlt x (by simp [hx]))
  · rw [hvars, hfn]; exact rfl
end

section
variable {H : Type} {enc : TypeId × Value → H} {w : World} {base : Nat} {spare : Nat → Bool} {held : Bool}

/-- what of a datum counts: lengths of a list of texts -/
def total (ls : List (List UInt8)) : Nat := (ls.map fun s => s.length + 1).sum

theorem bulk_strs (ss : List ByteArray) : Rows.uptoBulkAll (strs (H := H) ss) = total (ss.map fun s => s.data.toList) := by
  induction ss with
  | nil => rfl
  | cons s r ih =>
    simp only [strs, List.map_cons] at ih ⊢
    rw [Rows.uptoBulkAll, ih]
    simp [total, Rows.uptoBulk]

/-- a cell of type []string -/
theorem open_strsC {t e : TypeId} {v : Value} {x : DataW H × List MemPlace} {fuel : Nat} (ht : Tryd.prog.underlying t = some (.slice e)) (he : Tryd.prog.underlying e = some .string) (hc : Tryd.prog.cellsOf e = 1)
    (hf : DataW.trod enc Tryd.prog w base (fun _ => true) held fuel t [v] = some x) :
    ∃ (A : Option Addr) (cap : Nat) (ls : List (List UInt8)), v = .slice A ls.length cap ∧ Strs w w.heap.size A ls ∧ ls.length ≤ maxLen ∧ (∀ s ∈ ls, s.length ≤ maxLen) ∧ total ls + 1 ≤ Rows.uptoBulk x.1 := by
  rcases open_strings ht he hc hf with ⟨hcs, hx⟩ | ⟨a, len, cap, ss, hcs, _, hl, hm, hz, hx, hcell, hsz⟩
  · simp only [List.cons.injEq, and_true] at hcs
    subst hcs
    subst hx
    exact ⟨none, 0, [], rfl, fun i hi => absurd hi (by simp), by simp, by simp, by simp [total, Rows.uptoBulk]⟩
  · simp only [List.cons.injEq, and_true] at hcs
    subst hcs
    subst hx
    simp only [if_true] at hz
    have hlen : ((ss.take len).map fun s => s.data.toList).length = len := by simp; omega
    refine ⟨some a, cap, (ss.take len).map fun s => s.data.toList, by rw [hlen], ?_, by rw [hlen]; omega, ?_, ?_⟩
    · intro i hi
      rw [hlen] at hi
      have hc := hcell i (by omega)
      refine ⟨a, rfl, ?_, ?_⟩
      · have := block_lt_of_cell hc
        rwa [block_add] at this
      · rw [hc]
        simp [List.getD, List.getElem?_eq_getElem (show i < ss.length by omega)]
    · intro s hs
      simp only [List.mem_map] at hs
      obtain ⟨b, hb, rfl⟩ := hs
      have := hsz b (List.mem_of_mem_take hb)
      simpa using this
    · simp only [Rows.uptoBulk]
      rw [bulk_strs]
      omega

set_option maxRecDepth 100000 in
/-- an argument of type []string -/
theorem open_strs {t e : TypeId} {v : Value} {d : DataW H} {ps : List MemPlace} {r : Reach} {b0 : Nat} (ht : Tryd.prog.underlying t = some (.slice e)) (he : Tryd.prog.underlying e = some .string) (hc : Tryd.prog.cellsOf e = 1)
    (hv : Value.okWide Tryd.prog w r b0 t v) (h : DataW.Trod enc Tryd.prog w base (fun _ => true) held t v d ps) :
    ∃ (A : Option Addr) (cap : Nat) (ls : List (List UInt8)), v = .slice A ls.length cap ∧ Strs w w.heap.size A ls ∧ ls.length ≤ maxLen ∧ (∀ s ∈ ls, s.length ≤ maxLen) ∧ total ls + 1 ≤ Rows.uptoBulk d := by
  obtain ⟨a0, len, cap, rfl⟩ := okWide_slice ht hv
  obtain ⟨fuel, hf⟩ := h
  exact open_strsC ht he hc hf

theorem wf_bounds_ {n : Int} (h : (Lit.int .i64 n).wf = true) : -9223372036854775808 ≤ n ∧ n ≤ 9223372036854775807 := by
  simp only [Lit.wf, Bool.and_eq_true, decide_eq_true_eq] at h
  exact ⟨h.1, h.2⟩

theorem bulk_lits (zs : List Int) : Rows.uptoBulkAll (lits (H := H) .i64 zs) = zs.length := by
  induction zs with
  | nil => rfl
  | cons s r ih =>
    simp only [lits, List.map_cons] at ih ⊢
    rw [Rows.uptoBulkAll, ih]
    simp [Rows.uptoBulk]; omega

set_option maxRecDepth 100000 in
/-- an argument of type []int -/
theorem open_intsA {t e : TypeId} {v : Value} {d : DataW H} {ps : List MemPlace} {r : Reach} {b0 : Nat} (ht : Tryd.prog.underlying t = some (.slice e)) (he : Tryd.prog.underlying e = some (.int .i64)) (hc : Tryd.prog.cellsOf e = 1)
    (hv : Value.okWide Tryd.prog w r b0 t v) (h : DataW.Trod enc Tryd.prog w base (fun _ => true) held t v d ps) :
    ∃ (A : Option Addr) (cap : Nat) (ns : List Int), v = .slice A ns.length cap ∧ Ints w w.heap.size A ns ∧ ns.length ≤ maxLen ∧ (∀ n ∈ ns, -9223372036854775808 ≤ n ∧ n ≤ 9223372036854775807) ∧ ns.length + 1 ≤ Rows.uptoBulk d := by
  obtain ⟨a0, len, cap, rfl⟩ := okWide_slice ht hv
  obtain ⟨fuel, hf⟩ := h
  rcases open_ints ht he hc hf with ⟨hcs, hx⟩ | ⟨a, len', cap', zs, hcs, _, hl, hm, hz, hx, hcell, hwz⟩
  · simp only [Value.cells, Array.toList, List.cons.injEq, Value.slice.injEq, and_true] at hcs
    obtain ⟨rfl, rfl, rfl⟩ := hcs
    simp only [Prod.mk.injEq] at hx
    obtain ⟨rfl, rfl⟩ := hx
    exact ⟨none, 0, [], rfl, fun i hi => absurd hi (by simp), by simp, by simp, by simp [Rows.uptoBulk]⟩
  · simp only [Value.cells, Array.toList, List.cons.injEq, Value.slice.injEq, and_true] at hcs
    obtain ⟨rfl, rfl, rfl⟩ := hcs
    simp only [Prod.mk.injEq] at hx
    obtain ⟨rfl, rfl⟩ := hx
    simp only [if_true] at hz
    have hlen : (zs.take len).length = len := by simp; omega
    refine ⟨some a, cap, zs.take len, by rw [hlen], ?_, by rw [hlen]; omega, fun n hn => wf_bounds_ (hwz n (List.mem_of_mem_take hn)), ?_⟩
    · intro i hi
      rw [hlen] at hi
      have hc := hcell i (by omega)
      refine ⟨a, rfl, ?_, ?_⟩
      · have := block_lt_of_cell hc
        rwa [block_add] at this
      · rw [hc]
        simp [List.getD, List.getElem?_eq_getElem (show i < zs.length by omega)]
    · simp only [Rows.uptoBulk]
      rw [bulk_lits, hlen]
      omega

theorem wf_bounds {n : Int} (h : (Lit.int .i64 n).wf = true) : -9223372036854775808 ≤ n ∧ n ≤ 9223372036854775807 := by
  simp only [Lit.wf, Bool.and_eq_true, decide_eq_true_eq] at h
  exact ⟨h.1, h.2⟩

/-- a text as a list of bytes -/
theorem as_list (s : ByteArray) : ∃ l : List UInt8, s = ⟨l.toArray⟩ ∧ s.data.toList = l ∧ l.length = s.size := ⟨s.data.toList, by cases s; simp, rfl, by cases s; rfl⟩
end
end Go.Proofs.YthcmlbbbbcinkaaDoor
