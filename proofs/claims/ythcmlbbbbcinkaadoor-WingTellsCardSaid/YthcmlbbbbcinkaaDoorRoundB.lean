/-
  A region that draws its order, in a round of a range over a function: it is walked as anywhere, where nothing is deferred; an append in a round.
-/
import Derived.RangeFuncNested
import Derived.RangeFuncCalls
import Derived.OwnWalkIn
import Derived.Orders
import Derived.OrdersIn
import Derived.WalkKit
import Derived.Test.YthcmlbbbbcinkaaDoorCoF
set_option linter.unusedVariables false
namespace Go.Proofs.YthcmlbbbbcinkaaDoor
open Go Go.RowKit

theorem upon_round {P : Program} {o : Oper} {a : Act} {K : Act → World → Prop} {Q : Exit → Act → World → Prop} (n l : Nat) (r : Result Next) (h : o.upon P a K Q r) : o.uponIn (Fence.wide.inRound l) n P a K Q r := by
  match r, h with
  | .ok (.value v) w', h => exact h
  | .ok .skip w', h => exact h
  | .ok (.defer d) w', h => exact h
  | .ok (.enter f args) w', h => exact ⟨fun hd => by simp [Fence.wide] at hd, callsIn_wide.2 h⟩
  | .ok (.row row args) w', h => exact ⟨fun hd => by simp [Fence.wide] at hd, fun c cs _ => let ⟨v, w'', r, s⟩ := h c cs; ⟨v, w'', r, stepsIn_wide.2 s⟩⟩
  | .halt (.panic v) w', h => exact h

theorem wp_round {P : Program} {o : Oper} {a : Act} {w : World} {K : Act → World → Prop} {Q : Exit → Act → World → Prop} (n l : Nat) (hd : ∀ c, o.op ≠ .defer c) (h : o.wp P a w K Q) : o.wpIn (Fence.wide.inRound l) n P a w K Q := by
  refine ⟨fun _ _ => trivial, ?_⟩
  rw [Fence.inRound_round, Oper.semAt_some l _ _ hd]
  exact upon_round n l _ h

theorem wpAny_round {P : Program} {md : Region.Mode} {ops : Array Oper} {Q : Exit → Act → World → Prop} (n l : Nat) (hq : ¬ LetsOut Q) (hd : ∀ (i : Nat) (o : Oper), ops[i]? = some o → ∀ c, o.op ≠ .defer c) :
    ∀ (fuel : Nat) (listed : Array Bool) (a : Act) (w : World), wpAny P md ops Q fuel listed a w → wpAnyIn (Fence.wide.inRound l) n P md ops Q fuel listed a w
  | 0, _, _, _, h => h
  | fuel + 1, listed, a, w, h => ⟨h.1, fun i hi => by
    have h2 := h.2 i hi
    unfold wpOp at h2
    unfold wpOpIn
    cases ho : ops[i]? with
    | none => rw [ho] at h2; exact wpAny_round n l hq hd fuel _ _ _ h2
    | some o =>
      rw [ho] at h2
      simp only at h2 ⊢
      by_cases hw : Region.wanted o (yielded ops a.tmps) = true
      · rw [if_pos hw] at h2 ⊢
        rcases h2 with h2 | h2
        · exact Oper.wpIn_mono (fun a' w' h' => wpAny_round n l hq hd fuel _ _ _ h') (wp_round n l (hd i o ho) h2)
        · exact absurd h2.2 hq
      · rw [if_neg hw] at h2 ⊢
        exact ⟨fun _ _ => trivial, wpAny_round n l hq hd fuel _ _ _ h2⟩⟩

theorem region_round {P : Program} {id : Nat} {ops : Array Oper} {Q : Exit → Act → World → Prop} {a : Act} {w : World} (n l : Nat) (hm : P.follows .mixedOrders = true) (hq : ¬ LetsOut Q) (hd : (ops.all fun o => match o.op with | .defer _ => false | _ => true) = true)
    (h : wpAny P .any ops Q ops.size (Array.replicate ops.size false) a { w with drawn := w.drawn + 1 }) : (Code.region id ops true).wpIn (Fence.wide.inRound l) n P Q a w := by
  refine wpIn_region_any hm (wpAny_round n l hq (fun i o ho c e => ?_) _ _ _ _ h)
  have hlt := (Array.getElem?_eq_some_iff.1 ho)
  obtain ⟨h1, h2⟩ := hlt
  have := (Array.all_eq_true.1 hd) i h1
  rw [h2, e] at this
  cases this

/-- a cell is read: its block is one of cells -/
theorem cells_of_cell {w : World} {g j : Nat} {u : Value} (h : w.cell? ⟨g, j, none⟩ = some u) : ∃ cs t f, w.heap[g]? = some (.cells cs t f) := by
  unfold World.cell? at h
  split at h
  · rename_i cs t f he
    exact ⟨cs, t, f, he⟩
  · cases h
theorem keepsOthers_only {w w' : World} {g : Nat} (h : Only [g] w w') {u : Value} {j : Nat} (hc : w.cell? ⟨g, j, none⟩ = some u) : KeepsOthers w w' := by
  obtain ⟨cs, t, f, he⟩ := cells_of_cell hc
  refine ⟨h.size, fun k o hk ho => (h.block k (heap_lt hk) ?_).trans hk⟩
  simp only [List.mem_singleton]
  intro e
  subst e
  rw [he] at hk
  cases hk
  cases ho

theorem run_append_bagR {P : Program} {B size m : Nat} {v : Value} {cs : List Value} (t tx ty e : TypeId) (i : TypeInfo) (z : Value) (bytes : Nat) (ht : P.underlying t = some (.slice e)) (hi : P.info? e = some i) (hz : i.zero = some z) (hsize : i.size = size) (hby : i.bytes = bytes) (hzs : z.cells.size = size)
    {w : World} (hBw : B ≤ w.heap.size) (h : Bag0 w B size v m cs) (h0 : v = .slice none 0 0 ∨ 0 < cs.length) (x : Value) (n : Nat) (news : List Value) (hs : Src P size tx x n news w) (hn : 0 < n) (h63 : m + n ≤ maxLen) (hbytes : (m + n) * bytes ≤ 140737488355328) :
    ∃ v' w', (Builtin.append_ #[t, tx] ty #[v, x]).run P w = .ok v' w' ∧ Bag0 w' B size v' (m + n) (cs ++ news) ∧ Below B w w' ∧ KeepsOthers w w' := by
  rcases h with ⟨rfl, rfl, rfl⟩ | ⟨g, cap, rfl, hg, hB⟩
  · subst hsize
    subst hby
    have hnl := hs.newsLen
    have hsmall : 0 + n ≤ 9223372036854775807 := by simp only [maxLen] at h63; omega
    have hold := run_firstCells_none (P := P) w.drew i.size 0 0 0
    have hrun := run_append_grow_src (P := P) w t tx ty e i z ht hi hz none 0 0 [] (by exact hold) x n news hs (by omega) (by omega) (growslice_fits (by omega) hbytes)
    have hge := grownCap_ge w (0 + n) 0 e
    have hcm := grownCap_le_maxLen w (0 + n) 0 e h63
    have hL : (([] : List Value) ++ news).length = (0 + n) * i.size := by rw [List.nil_append, hnl, Nat.zero_add]
    have hsz : ((([] : List Value) ++ news).toArray ++ Builtin.zeroCells z.cells (grownCap w (0 + n) 0 e - (0 + n))).size = grownCap w (0 + n) 0 e * i.size := by
      rw [Array.size_append, List.size_toArray, hL, size_zeroCells, hzs, ← Nat.add_mul]
      congr 1
      omega
    refine ⟨_, _, hrun, .inr ⟨w.heap.size, _, rfl, hBw, ⟨hge, hcm, by simp, hL, fun j u hu => ?_, fun j hj => ⟨?_, ?_⟩⟩⟩, (((Below.refl _ w).drew).alloc hBw _), (KeepsOthers.drew w).trans (KeepsOthers.alloc _ _)⟩
    · have e1 : (w.drew.alloc (.cells ((([] : List Value) ++ news).toArray ++ Builtin.zeroCells z.cells (grownCap w (0 + n) 0 e - (0 + n))) e)).cell? ⟨w.heap.size, j, none⟩ = _ := World.cell?_alloc_new w.drew _ _ j
      rw [e1, Array.getElem?_append_left (by simp only [List.size_toArray]; exact (List.getElem?_eq_some_iff.1 hu).1), List.getElem?_toArray, hu]
    · have e1 : (w.drew.alloc (.cells ((([] : List Value) ++ news).toArray ++ Builtin.zeroCells z.cells (grownCap w (0 + n) 0 e - (0 + n))) e)).cell? ⟨w.heap.size, j, none⟩ = _ := World.cell?_alloc_new w.drew _ _ j
      rw [e1, Array.getElem?_eq_getElem (by rw [hsz]; exact hj)]
      rfl
    · exact World.frozen?_alloc_new w.drew _ _ j
  · obtain ⟨g', cap', w', hrun, h1, h2, h3⟩ := run_append_bag t tx ty e i z bytes ht hi hz hsize hby hzs hB x n news hs h63 hbytes
    have hpos : 0 < cs.length := by
      rcases h0 with h0 | h0
      · cases h0
      · exact h0
    exact ⟨_, w', hrun, .inr ⟨g', cap', rfl, by omega, h1⟩, h2.below hBw (by simp; exact hg), keepsOthers_only h2 (hB.holds 0 _ (List.getElem?_eq_getElem hpos))⟩

theorem wp_append_bagR {P : Program} (w : World) {o : Oper} {a : Act} {K : Act → World → Prop} {Q : Exit → Act → World → Prop} (s x : Operand) (t tx : TypeId)
    (ho : o.op = .call { callee := .builtin .append, args := #[s, x], argTypes := #[t, tx] })
    {e : TypeId} {B size m : Nat} {v : Value} {cs : List Value}
    (i : TypeInfo) (z : Value) (bytes : Nat) (ht : P.underlying t = some (.slice e)) (hi : P.info? e = some i) (hz : i.zero = some z) (hsize : i.size = size) (hby : i.bytes = bytes) (hzs : z.cells.size = size)
    (hBw : B ≤ w.heap.size) (hv : a.eval s = v) (h : Bag0 w B size v m cs) (h0 : v = .slice none 0 0 ∨ 0 < cs.length)
    (xv : Value) (n : Nat) (news : List Value) (hx : a.eval x = xv) (hs : Src P size tx xv n news w) (hn : 0 < n) (h63 : m + n ≤ maxLen) (hbytes : (m + n) * bytes ≤ 140737488355328)
    (hK : ∀ v' w', Bag0 w' B size v' (m + n) (cs ++ news) → Below B w w' → KeepsOthers w w' → K (a.put o.dst v') w') : o.wp P a w K Q := by
  obtain ⟨v', w', hrun, h1, h2, h3⟩ := run_append_bagR (P := P) t tx o.type e i z bytes ht hi hz hsize hby hzs hBw h h0 xv n news hs hn h63 hbytes
  unfold Oper.wp
  simp [execOp, ho, resolve, invoke, builtin, hv, hx, hrun, Result.andThen]
  exact hK v' w' h1 h2 h3
end Go.Proofs.YthcmlbbbbcinkaaDoor
