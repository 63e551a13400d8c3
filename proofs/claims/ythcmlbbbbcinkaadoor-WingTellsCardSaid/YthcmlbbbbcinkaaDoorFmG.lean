/-
  Layer 3: slices.Chunk of bytes, by 32: what it hands a round.
-/
import Derived.RangeFuncNested
import Derived.RangeFuncBound
import Derived.RangeFuncCalls
import Derived.RangeFuncLeaves
import Derived.RangeFuncBox
import Derived.Shelf.Abstract
import Derived.Shelf.RegionOpen
import Derived.WalkKit
import Derived.OwnWalkIn
import Derived.TacticsInMore
import Derived.LoopNIn
import Derived.LoopIn
import Derived.Maps.AppendAt
import Derived.Sort.CutIn
import Derived.Lib.Hide
import Derived.Test.YthcmlbbbbcinkaaDoorProg
set_option linter.unusedVariables false
set_option linter.unusedSimpArgs false
namespace Go.Proofs.YthcmlbbbbcinkaaDoor
open Go.RowKit Go.Shelf
attribute [local go_sem] Oper.semAt_some

set_option maxRecDepth 100000 in
set_option maxHeartbeats 1000000 in
theorem chunk_in (F : Fence) (n : Nat) (h63 : F.fn 81) (hro : F.round = none) (A : Option Addr) (len cap : Nat) (w : World) :
    CallsIn F n Tryd.prog 81 #[.slice A len cap, .int .i64 32] w fun e w' => e = .returned (.func (.func 87) #[] #[.pointer (some ⟨w.heap.size, 0, none⟩), .pointer (some ⟨w.heap.size + 1, 0, none⟩)]) ∧ w' = (w.alloc (.cells #[.slice A len cap] 45)).alloc (.cells #[.int .i64 32] 3) := by
  refine callsIn_of_wp Tryd.func81 rfl h63 ?_ hro
  simp only [Tryd.ntmps81, List.size_toArray, List.length_cons, List.length_nil, Nat.reduceAdd, Nat.reduceSub, Array.replicate_succ, Array.replicate_zero, List.push_toArray, List.append_toArray, List.nil_append, List.cons_append]
  gi_wp2
  go_ret
  exact ⟨rfl, rfl⟩

/-- all below n₀ lies as it lay, but for block p -/
structure KeepP (p n₀ : Nat) (A B : World) : Prop where
  size : A.heap.size ≤ B.heap.size
  block : ∀ k, k < n₀ → k ≠ p → B.heap[k]? = A.heap[k]?
theorem KeepP.refl (p n₀ : Nat) (A : World) : KeepP p n₀ A A := ⟨Nat.le_refl _, fun _ _ _ => rfl⟩
theorem KeepP.trans {p n₀ : Nat} {A B C : World} (h : KeepP p n₀ A B) (k : KeepP p n₀ B C) : KeepP p n₀ A C := ⟨Nat.le_trans h.size k.size, fun i hi hn => (k.block i hi hn).trans (h.block i hi hn)⟩
theorem KeepP.drew {p n₀ : Nat} {A B : World} (h : KeepP p n₀ A B) : KeepP p n₀ A B.drew := ⟨h.size, h.block⟩
theorem KeepP.cell {p n₀ : Nat} {A B : World} (h : KeepP p n₀ A B) {a : Addr} (ha : a.block < n₀) (hp : a.block ≠ p) : B.cell? a = A.cell? a := by
  unfold World.cell?; rw [h.block a.block ha hp]
theorem keepP_b {p n₀ : Nat} {w : World} (hn : n₀ ≤ w.heap.size) (W : World) (l : Nat) (o o' : Obj) (hl : w.heap.size ≤ l) (h : W.heap[l]? = some o) (_ : o.isCells = false) (_ : o.isWalk = false) : KeepP p n₀ W (W.putObj l o') :=
  have g := grownBy_putObj' W l o'
  ⟨g.size, fun k hk _ => g.block k (by have := (Array.getElem?_eq_some_iff.1 h).1; omega) (fun e => by cases e; omega)⟩
/-- what comes in round j: the bytes from 32 j on -/
def piece (g : Nat) (j : Nat) : Array Value := #[.slice (some ⟨g, 32 * j, none⟩) 32 32]

set_option maxRecDepth 100000 in
set_option maxHeartbeats 2000000 in
theorem chunk1_in (F : Fence) (n : Nat) (h96 : F.fn 87) (hro : F.round = none) (hn : 1 ≤ n) (l Bs Bn p n₀ g cap k L : Nat) (hL : L = 32 * k) (hk : L ≤ 140737488351232) (hcap : L ≤ cap) (hcx : cap ≤ 9223372036854775807) (hBs : Bs < n₀) (hBn : Bn < n₀) (hps : Bs ≠ p) (hpn : Bn ≠ p) (J Jx : List { x : Nat // x < k } → World → Prop)
    (hJd : ∀ pre A, J pre A → J pre A.drew) (hY : ∀ pre x W, J pre W → pre.length < k → YieldAt F (n - 1) Tryd.prog l (piece g x.1) W fun e W' =>
      (e = .returned (.bool true) ∧ J (pre ++ [x]) W' ∧ KeepP p n₀ W W') ∨ (e = .returned (.bool false) ∧ Jx (pre ++ [x]) W'))
    (W : World) (hcs : W.cell? ⟨Bs, 0, none⟩ = some (.slice (some ⟨g, 0, none⟩) L cap)) (hcn : W.cell? ⟨Bn, 0, none⟩ = some (.int .i64 32)) (h0 : J [] W) :
    CallsIn F n Tryd.prog 87 #[.func (.yield l) #[] #[], .pointer (some ⟨Bs, 0, none⟩), .pointer (some ⟨Bn, 0, none⟩)] W fun e W' => (∃ v, e = .returned v) ∧
      ((∃ ys, ys.map (·.1) = List.range k ∧ J ys W') ∨ (∃ pre, True ∧ Jx pre W')) := by
  refine callsIn_of_wp Tryd.func87 rfl h96 ?_ hro
  simp only [Tryd.ntmps87, List.size_toArray, List.length_cons, List.length_nil, Nat.reduceAdd, Nat.reduceSub, Array.replicate_succ, Array.replicate_zero, List.push_toArray, List.append_toArray, List.nil_append, List.cons_append]
  gi_wp2
  gi_loopw [4] (fun x wr => ∃ (j i : Nat) (ys : List { x : Nat // x < k }), j ≤ k ∧ i = 32 * j ∧ x = .int .i64 i ∧ ys.map (·.1) = List.range j ∧ J ys wr ∧ KeepP p n₀ W wr)
    (fun x _ => L - (intOf x).toNat)
  case atStart => exact ⟨0, 0, [], Nat.zero_le _, rfl, rfl, rfl, h0, KeepP.refl _ _ _⟩
  case round =>
    obtain ⟨j, i, ys, hj, hi, rfl, hys, hJs, hnx⟩ := hrel
    have c1 : wr.cell? ⟨Bs, 0, none⟩ = some (.slice (some ⟨g, 0, none⟩) L cap) := (hnx.cell (a := ⟨Bs, 0, none⟩) hBs hps).trans hcs
    have c2 : wr.cell? ⟨Bn, 0, none⟩ = some (.int .i64 32) := (hnx.cell (a := ⟨Bn, 0, none⟩) hBn hpn).trans hcn
    by_cases hlt : j < k
    · have hyl : ys.length = j := by have := congrArg List.length hys; simpa using this
      obtain ⟨fn, tmps, assign, body, hy, hR⟩ := hY ys ⟨j, hlt⟩ wr.drew (hJd _ _ hJs) (by omega)
      unfold piece at hy
      simp only at hy
      rw [← hi] at hy
      have i0 : (0 : Int) ≤ (i : Int) := by omega
      have i1 : (i : Int) < (L : Int) := by omega
      have i2 : (i : Int) + 32 ≤ (L : Int) := by omega
      have i3 : (0 : Int) ≤ (i : Int) + 32 := by omega
      have i4 : (i : Int) ≤ (i : Int) + 32 := by omega
      have i5 : (i : Int) ≤ (L : Int) := by omega
      have i6 : (32 : Int) ≤ (L : Int) - (i : Int) := by omega
      have i7 : (i : Int) + 32 ≤ (cap : Int) := by omega
      have i8 : 32 ≤ L - i := by omega
      have hwrap : IntKind.i64.wrap ((i : Int) + 32) = (i : Int) + 32 := IntWalk.i64_in _ (by omega)
      have htn : ((i : Int) + 32).toNat = i + 32 := by omega
      have hci : ¬ cap = i := by omega
      have hmn : (if ((L - i : Nat) : Int) < 32 then ((L - i : Nat) : Int) else 32) = 32 := by rw [if_neg (by omega)]
      have hic : i + 32 - i = 32 := by omega
      have Hi := Lib.hid hi
      have Hys := Lib.hid hys
      clear hi hj hcap hk hL hys hY hJd
      gi_upto_region 3 with fail
      gi_region
      all_goals gi_wp2
      all_goals (
        refine hR.mono ?_
        rintro e W3 (⟨rfl, hJ3, hk3⟩ | ⟨rfl, hJx3⟩)
        · have r2 : W3.cell? ⟨Bn, 0, none⟩ = some (.int .i64 32) := (hk3.cell (a := ⟨Bn, 0, none⟩) hBn hpn).trans c2
          clear c1 c2 hy hR hJs
          gi_wp2
          go_roundw
          case rel => exact ⟨j + 1, i + 32, ys ++ [⟨j, hlt⟩], by omega, by have := Hi.out; omega, by go_num, by rw [List.map_append, Hys.out, List.range_succ]; rfl, hJ3, hnx.drew.trans hk3⟩
          case measure => simp [intOf]; omega
        · gi_wp2
          refine bodyPost_ret (results_none rfl _ _ _) rfl ?_
          exact ⟨⟨_, rfl⟩, .inr ⟨_, trivial, hJx3⟩⟩)
    · obtain rfl : j = k := by omega
      obtain rfl : i = L := by omega
      clear hi hL hcap hk hY
      gi_wp2
      go_end0
      exact ⟨⟨_, rfl⟩, .inl ⟨ys, hys, hJs⟩⟩

theorem chunk_stops (F : Fence) (n : Nat) (h96 : F.fn 87) (hro : F.round = none) (hn : 1 ≤ n) (Bs Bn p n₀ g cap k L : Nat) (hL : L = 32 * k) (hk : L ≤ 140737488351232) (hcap : L ≤ cap) (hcx : cap ≤ 9223372036854775807) (hBs : Bs < n₀) (hBn : Bn < n₀) (hps : Bs ≠ p) (hpn : Bn ≠ p)
    (w : World) (hn₀ : n₀ ≤ w.heap.size) (hcs : w.cell? ⟨Bs, 0, none⟩ = some (.slice (some ⟨g, 0, none⟩) L cap)) (hcn : w.cell? ⟨Bn, 0, none⟩ = some (.int .i64 32)) :
    SeqStopsK F n Tryd.prog 87 #[.pointer (some ⟨Bs, 0, none⟩), .pointer (some ⟨Bn, 0, none⟩)] (fun x : { x : Nat // x < k } => piece g x.1) (KeepP p n₀) (fun ys => ys.map (·.1) = List.range k) (fun _ => True) k w := fun l J Jx W hW hJ _ hY h0 => by
  refine chunk1_in F n h96 hro hn l Bs Bn p n₀ g cap k L hL hk hcap hcx hBs hBn hps hpn J Jx (fun pre A h => hJ pre A _ none h ⟨rfl, rfl, rfl, Nat.le_refl _, fun _ _ _ => rfl⟩ (fun r e => by cases e)) hY W ?_ ?_ h0
  · exact (hW.cell (p := ⟨Bs, 0, none⟩) (by show Bs < _; omega)).trans hcs
  · exact (hW.cell (p := ⟨Bn, 0, none⟩) (by show Bn < _; omega)).trans hcn
end Go.Proofs.YthcmlbbbbcinkaaDoor
