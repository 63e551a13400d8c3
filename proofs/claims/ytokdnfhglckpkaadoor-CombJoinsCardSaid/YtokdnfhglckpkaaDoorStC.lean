/-
  The walks of layer 2 (stamp): a block mixed into the state.
-/
import Derived.Test.YtokdnfhglckpkaaDoorStB
set_option linter.unusedVariables false
set_option linter.unusedSimpArgs false
namespace Go.Proofs.YtokdnfhglckpkaaDoor
open Go.RowKit
attribute [local go_sem] Lb.ba_get Lb.ba_cut Lb.ba_add Lb.ba_size Lb.take_rest

theorem idx64 (C : Array Value) (k : Nat) (x : Int) (w : World) (hk : k < 64) (hx : C[k]? = some (.int .u32 x)) : (Instr.index 133 (.agg C) (.int .i64 (k : Int))).run Tryd.prog w = .ok (.int .u32 x) w := by
  have hu := Tryd.underlying133
  have hu2 := Tryd.underlying131
  have hi : (Tryd.prog.info? 131).map (·.size) = some 1 := by kernel_rfl
  obtain ⟨i, hi1, hi2⟩ : ∃ i, Tryd.prog.info? 131 = some i ∧ i.size = 1 := by
    cases hq : Tryd.prog.info? 131 with
    | none => rw [hq] at hi; cases hi
    | some i => rw [hq] at hi; exact ⟨i, rfl, by simpa using hi⟩
  have h1 : (0 : Int) ≤ (k : Int) := by omega
  have h2 : (k : Int) < 64 := by omega
  simp [Instr.index, asIntOf, Go.underlying, hu, hu2, Go.part, Go.sizeOf, Go.typeInfo, hi1, hi2, h1, h2, hx]
  intro h; omega
theorem ints_three (W : World) (g : Nat) (a b c : Nat) (h : W.heap[g]? = some (.cells #[.int .i64 (a : Int), .int .i64 (b : Int), .int .i64 (c : Int)] 3 (0, 0))) : Ints W W.heap.size (some ⟨g, 0, none⟩) ([a, b, c].map fun (n : Nat) => (n : Int)) := by
  intro i hi
  have hi2 : i = 0 ∨ i = 1 ∨ i = 2 := by simp at hi; omega
  refine ⟨_, rfl, heap_lt h, ?_⟩
  rcases hi2 with rfl | rfl | rfl
  · exact Lib.cell_of_heap h (j := 0)
  · exact Lib.cell_of_heap h (j := 1)
  · exact Lib.cell_of_heap h (j := 2)
theorem turn_e (x : Int) (W : World) (g : Nat) (h : W.heap[g]? = some (.cells #[.int .i64 6, .int .i64 11, .int .i64 25] 3 (0, 0))) :
    Calls Tryd.prog 112 #[.int .u32 x, .slice (some ⟨g, 0, none⟩) 3 3] W fun e w' => e = .returned (.int .u32 (turnedS x [6, 11, 25])) ∧ W = w' :=
  turned_any x (some ⟨g, 0, none⟩) 3 [6, 11, 25] W (ints_three W g 6 11 25 h) (by decide) (by decide)
theorem turn_f (x : Int) (W : World) (g : Nat) (h : W.heap[g]? = some (.cells #[.int .i64 2, .int .i64 13, .int .i64 22] 3 (0, 0))) :
    Calls Tryd.prog 112 #[.int .u32 x, .slice (some ⟨g, 0, none⟩) 3 3] W fun e w' => e = .returned (.int .u32 (turnedS x [2, 13, 22])) ∧ W = w' :=
  turned_any x (some ⟨g, 0, none⟩) 3 [2, 13, 22] W (ints_three W g 2 13 22 h) (by decide) (by decide)
/-- one round's words -/
def t1S (e f g h k x : Int) : Int := IntKind.u32.wrap (IntKind.u32.wrap (IntKind.u32.wrap (IntKind.u32.wrap (h + turnedS e [6, 11, 25]) + bits .xor .u32 (bits .and .u32 e f) (bits .and .u32 (bits .xor .u32 IntKind.u32.max e) g)) + k) + x)
def t2S (a b c : Int) : Int := IntKind.u32.wrap (turnedS a [2, 13, 22] + bits .xor .u32 (bits .xor .u32 (bits .and .u32 a b) (bits .and .u32 a c)) (bits .and .u32 b c))
def rstep (k x : Int) : List Int → List Int
  | [a, b, c, d, e, f, g, h] => [(t1S e f g h k x + t2S a b c) % 4294967296, a, b, c, (d + t1S e f g h k x) % 4294967296, e, f, g]
  | l => l
def roundsS (K W V : List Int) : Nat → List Int
  | 0 => V
  | k + 1 => rstep (K.getD k 0) (W.getD k 0) (roundsS K W V k)
def addL (V R : List Int) (i : Nat) : List Int := (List.range 8).map fun j => if j < i then (V.getD j 0 + R.getD j 0) % 4294967296 else V.getD j 0
def mixS (K : List Int) (bl : List UInt8) (V : List Int) : List Int := addL V (roundsS K (schedW bl 48) V 64) 8
def eightV (a b c d e f g h : Int) : Array Value := #[.int .u32 a, .int .u32 b, .int .u32 c, .int .u32 d, .int .u32 e, .int .u32 f, .int .u32 g, .int .u32 h]
set_option maxRecDepth 100000 in
set_option maxHeartbeats 4000000 in
theorem mix_any {TG : TypeId} {fG : Nat × Nat} (b : Nat) (T : TypeId) (v0 v1 v2 v3 v4 v5 v6 v7 : Int) (X : List Value) (bl : List UInt8) (K : List Int) (w : World) (hbl : bl.length = 64) (hK : K.length = 64) (hG : w.heap[0]? = some (.cells (rowW K) TG fG)) (hb0 : b ≠ 0)
    (hS : w.heap[b]? = some (.cells (([v0, v1, v2, v3, v4, v5, v6, v7].map fun x => Value.int .u32 x) ++ X).toArray T (0, 0))) :
    Calls Tryd.prog 90 #[.pointer (some ⟨b, 0, none⟩), .string ⟨bl.toArray⟩] w fun e w' => e = .returned (.tuple #[]) ∧ w'.heap[b]? = some (.cells ((mixS K bl [v0, v1, v2, v3, v4, v5, v6, v7]).map (fun x => Value.int .u32 x) ++ X).toArray T (0, 0)) ∧ Only [b] w w' := by
  have Hbl := Lib.hid hbl
  have HK := Lib.hid hK
  have HG := Lib.hid hG
  have HS := Lib.hid hS
  have c0 : w.cell? ⟨b, 0, none⟩ = some (.int .u32 v0) := by rw [Lib.cell_of_heap hS]; rfl
  have c1 : w.cell? ⟨b, 1, none⟩ = some (.int .u32 v1) := by rw [Lib.cell_of_heap hS]; rfl
  have c2 : w.cell? ⟨b, 2, none⟩ = some (.int .u32 v2) := by rw [Lib.cell_of_heap hS]; rfl
  have c3 : w.cell? ⟨b, 3, none⟩ = some (.int .u32 v3) := by rw [Lib.cell_of_heap hS]; rfl
  have c4 : w.cell? ⟨b, 4, none⟩ = some (.int .u32 v4) := by rw [Lib.cell_of_heap hS]; rfl
  have c5 : w.cell? ⟨b, 5, none⟩ = some (.int .u32 v5) := by rw [Lib.cell_of_heap hS]; rfl
  have c6 : w.cell? ⟨b, 6, none⟩ = some (.int .u32 v6) := by rw [Lib.cell_of_heap hS]; rfl
  have c7 : w.cell? ⟨b, 7, none⟩ = some (.int .u32 v7) := by rw [Lib.cell_of_heap hS]; rfl
  clear hbl hK hG hS
  go_enter Tryd.func90, Tryd.ntmps90
  go_wp2_with fail
  refine (schedule_any bl _ Hbl.out).mono ?_
  rintro e w1 ⟨rfl, hB1⟩
  go_wp2_with fail
  have W64 : (schedW bl 48).length = 64 := schedW_length bl 48
  obtain ⟨Ws, hWs⟩ : ∃ Ws, Ws = schedW bl 48 := ⟨_, rfl⟩
  rw [← hWs] at W64 ⊢
  obtain ⟨q, hq⟩ : ∃ q, q = w.heap.size := ⟨_, rfl⟩
  have hq1 : w1.heap[q]? = some (.cells (eightV v0 v1 v2 v3 v4 v5 v6 v7) 145 (0, 0)) := by
    rw [hq]; exact below_keep hB1 (heap_alloc_new w _)
  have hbq : b < q := by rw [hq]; exact heap_lt HS.out
  have h0q : 0 < q := by omega
  have o1 : Only [] w w1 := ((Only.refl [] w).alloc _).trans (Only.of_below hB1)
  rw [← hq]
  have Hq := Lib.hid hq
  have HW := Lib.hid hWs
  have HW64 := Lib.hid W64
  have Hq1 := Lib.hid hq1
  have O1 := Lib.hid o1
  clear hB1 hq hWs W64 hq1 o1 c0 c1 c2 c3 c4 c5 c6 c7
  go_loopw [17] (fun p wr => ∃ (k : Nat) (a b c d e f g h : Int), k ≤ 64 ∧ p = .int .i64 k ∧ roundsS K Ws [v0, v1, v2, v3, v4, v5, v6, v7] k = [a, b, c, d, e, f, g, h] ∧ wr.heap[q]? = some (.cells (eightV a b c d e f g h) 145 (0, 0)) ∧ Only [q] w1 wr) (fun p _ => 64 - (intOf p).toNat)
  case atStart => exact ⟨0, v0, v1, v2, v3, v4, v5, v6, v7, by omega, rfl, rfl, Hq1.out, Only.refl _ _⟩
  case round =>
    obtain ⟨k, a, b', c, d, e, f, g, y, hk, rfl, hR, hV, ho⟩ := hrel
    have d0 : wr.cell? ⟨q, 0, none⟩ = some (.int .u32 a) := by rw [Lib.cell_of_heap hV]; rfl
    have d1 : wr.cell? ⟨q, 1, none⟩ = some (.int .u32 b') := by rw [Lib.cell_of_heap hV]; rfl
    have d2 : wr.cell? ⟨q, 2, none⟩ = some (.int .u32 c) := by rw [Lib.cell_of_heap hV]; rfl
    have d3 : wr.cell? ⟨q, 3, none⟩ = some (.int .u32 d) := by rw [Lib.cell_of_heap hV]; rfl
    have d4 : wr.cell? ⟨q, 4, none⟩ = some (.int .u32 e) := by rw [Lib.cell_of_heap hV]; rfl
    have d5 : wr.cell? ⟨q, 5, none⟩ = some (.int .u32 f) := by rw [Lib.cell_of_heap hV]; rfl
    have d6 : wr.cell? ⟨q, 6, none⟩ = some (.int .u32 g) := by rw [Lib.cell_of_heap hV]; rfl
    have d7 : wr.cell? ⟨q, 7, none⟩ = some (.int .u32 y) := by rw [Lib.cell_of_heap hV]; rfl
    have hG : wr.heap[0]? = some (.cells (rowW K) TG fG) := ho.keep (O1.out.keep HG.out (by simp)) (by simp; omega)
    by_cases hk64 : k < 64
    · obtain ⟨x, hx⟩ : ∃ x, Ws[k]? = some x := ⟨_, List.getElem?_eq_getElem (by rw [HW64.out]; exact hk64)⟩
      obtain ⟨kk, hkk⟩ : ∃ kk, K[k]? = some kk := ⟨_, List.getElem?_eq_getElem (by rw [HK.out]; exact hk64)⟩
      have hx' := rowW_get hx
      have dk : wr.cell? ⟨0, k, none⟩ = some (.int .u32 kk) := by rw [Lib.cell_of_heap hG]; exact rowW_get hkk
      have k0 : (0 : Int) ≤ (k : Int) := by omega
      have k1 : (k : Int) < 64 := by omega
      have hsz : (rowW Ws).size = 64 := by simp [rowW, HW64.out]
      have hnext : roundsS K Ws [v0, v1, v2, v3, v4, v5, v6, v7] (k + 1) = [(t1S e f g y kk x + t2S a b' c) % 4294967296, a, b', c, (d + t1S e f g y kk x) % 4294967296, e, f, g] := by
        unfold roundsS
        rw [hR]
        simp only [List.getD_eq_getElem?_getD, hx, hkk, Option.getD_some, rstep]
      have Hnext := Lib.hid hnext
      have HG2 := Lib.hid hG
      have HV := Lib.hid hV
      have Ho := Lib.hid ho
      obtain ⟨C, hC⟩ : ∃ C, C = rowW Ws := ⟨_, rfl⟩
      rw [← hC] at hx' hsz ⊢
      have hidx := fun W : World => idx64 C k x W hk64 hx'
      clear hnext hG hV ho hR hx hkk hC hx'
      go_upto_region 4 with fail
      go_quiet (fail)
      go_upto_region 5 with fail
      obtain ⟨w5, hw5⟩ : ∃ w5, w5 = wr.drewN nq := ⟨_, rfl⟩
      have o5 : Only [q] w1 w5 := by rw [hw5]; exact Ho.out.drewN _
      have V5 : w5.heap[q]? = some (.cells (eightV a b' c d e f g y) 145 (0, 0)) := by rw [hw5]; exact HV.out
      have G5 : w5.heap[0]? = some (.cells (rowW K) TG fG) := by rw [hw5]; exact HG2.out
      have e7 : w5.cell? ⟨q, 7, none⟩ = some (.int .u32 y) := by rw [hw5]; exact d7
      have e5 : w5.cell? ⟨q, 5, none⟩ = some (.int .u32 f) := by rw [hw5]; exact d5
      have e6 : w5.cell? ⟨q, 6, none⟩ = some (.int .u32 g) := by rw [hw5]; exact d6
      have ek : w5.cell? ⟨0, k, none⟩ = some (.int .u32 kk) := by rw [hw5]; exact dk
      have rk : IntKind.i64.wrap (k : Int) = (k : Int) := IntWalk.i64_in _ (by omega)
      rw [← hw5]
      clear hw5 d0 d1 d2 d3 d4 d5 d6 d7 dk hidx Ho HV HG2
      have HO5 := Lib.hid o5
      have HV5 := Lib.hid V5
      have HG5 := Lib.hid G5
      clear o5 V5 G5
      go_region_held3 (fun w' => w'.cell? ⟨q, 7, none⟩ = some (.int .u32 y) ∧ w'.cell? ⟨q, 5, none⟩ = some (.int .u32 f) ∧ w'.cell? ⟨q, 6, none⟩ = some (.int .u32 g) ∧ w'.cell? ⟨0, k, none⟩ = some (.int .u32 kk)) (go_keep)
        (first
          | (go_at_call 112; (with_reducible refine (turn_e e _ _ ?_).mono ?_); exact heap_alloc_new w5 (.cells #[.int .i64 6, .int .i64 11, .int .i64 25] 3); rintro e w' ⟨rfl, rfl⟩))
      obtain ⟨w6, hw6⟩ : ∃ w6, w6 = (w5.alloc (.cells #[.int .i64 6, .int .i64 11, .int .i64 25] 3)).drew := ⟨_, rfl⟩
      have o56 : Only [] w5 w6 := by rw [hw6]; exact ((Only.refl [] w5).alloc _).drew
      have HV6 := Lib.hid (o56.keep HV5.out (by simp))
      have HG6 := Lib.hid (o56.keep HG5.out (by simp))
      have HO6 := Lib.hid (HO5.out.trans (o56.mono (by simp)))
      have d1 : w6.cell? ⟨q, 1, none⟩ = some (.int .u32 b') := by rw [Lib.cell_of_heap HV6.out]; rfl
      have d2 : w6.cell? ⟨q, 2, none⟩ = some (.int .u32 c) := by rw [Lib.cell_of_heap HV6.out]; rfl
      clear HV5 HG5 HO5 e7 e5 e6 ek o56
      go_upto_region 6 with fail
      rw [← hw6]
      clear hw6
      go_region_held3 (fun w' => w'.cell? ⟨q, 1, none⟩ = some (.int .u32 b') ∧ w'.cell? ⟨q, 2, none⟩ = some (.int .u32 c)) (go_keep)
        (first
          | (go_at_call 112; (with_reducible refine (turn_f a _ _ ?_).mono ?_); exact heap_alloc_new w6 (.cells #[.int .i64 2, .int .i64 13, .int .i64 22] 3); rintro e w' ⟨rfl, rfl⟩))
      go_upto_region 7 with fail
      have E1 : IntKind.u32.wrap (IntKind.u32.wrap (IntKind.u32.wrap (IntKind.u32.wrap (y + turnedS e [6, 11, 25]) + bits .xor .u32 (bits .and .u32 e f) (bits .and .u32 (bits .xor .u32 IntKind.u32.max e) g)) + kk) + x) = t1S e f g y kk x := rfl
      have E2 : IntKind.u32.wrap (turnedS a [2, 13, 22] + bits .xor .u32 (bits .xor .u32 (bits .and .u32 a b') (bits .and .u32 a c)) (bits .and .u32 b' c)) = t2S a b' c := rfl
      rw [E1, E2]
      clear E1 E2
      obtain ⟨t1, ht1⟩ : ∃ t1, t1 = t1S e f g y kk x := ⟨_, rfl⟩
      obtain ⟨t2, ht2⟩ : ∃ t2, t2 = t2S a b' c := ⟨_, rfl⟩
      rw [← ht1, ← ht2]
      have Hn2 : Hid (roundsS K Ws [v0, v1, v2, v3, v4, v5, v6, v7] (k + 1) = [(t1 + t2) % 4294967296, a, b', c, (d + t1) % 4294967296, e, f, g]) := Lib.hid (by rw [ht1, ht2]; exact Hnext.out)
      clear ht1 ht2 Hnext
      obtain ⟨w7, hw7⟩ : ∃ w7, w7 = (w6.alloc (.cells #[.int .i64 2, .int .i64 13, .int .i64 22] 3)).drew := ⟨_, rfl⟩
      have o67 : Only [] w6 w7 := by rw [hw7]; exact ((Only.refl [] w6).alloc _).drew
      have HV7 := Lib.hid (o67.keep HV6.out (by simp))
      have HO7 := Lib.hid (HO6.out.trans (o67.mono (by simp)))
      rw [← hw7]
      clear hw7 o67 HV6 HO6 HG6 d1 d2
      have d0 : w7.cell? ⟨q, 0, none⟩ = some (.int .u32 a) := by rw [Lib.cell_of_heap HV7.out]; rfl
      have d1 : w7.cell? ⟨q, 1, none⟩ = some (.int .u32 b') := by rw [Lib.cell_of_heap HV7.out]; rfl
      have d2 : w7.cell? ⟨q, 2, none⟩ = some (.int .u32 c) := by rw [Lib.cell_of_heap HV7.out]; rfl
      have d3 : w7.cell? ⟨q, 3, none⟩ = some (.int .u32 d) := by rw [Lib.cell_of_heap HV7.out]; rfl
      have d4 : w7.cell? ⟨q, 4, none⟩ = some (.int .u32 e) := by rw [Lib.cell_of_heap HV7.out]; rfl
      have d5 : w7.cell? ⟨q, 5, none⟩ = some (.int .u32 f) := by rw [Lib.cell_of_heap HV7.out]; rfl
      have d6 : w7.cell? ⟨q, 6, none⟩ = some (.int .u32 g) := by rw [Lib.cell_of_heap HV7.out]; rfl
      have d7 : w7.cell? ⟨q, 7, none⟩ = some (.int .u32 y) := by rw [Lib.cell_of_heap HV7.out]; rfl
      have zf : ∀ j, w7.frozen? ⟨q, j, none⟩ = false := fun j => Lib.frozen_of_heap HV7.out _
      have hcp : (Builtin.copy_ #[183, 183] 3 #[.slice (some ⟨q, 1, none⟩) 7 7, .slice (some ⟨q, 0, none⟩) 7 8]).run Tryd.prog w7.drew = .ok (.int .i64 7) (w7.drew.setRow q (eightV a a b' c d e f g)) := by
        have h := run_copy_row (P := Tryd.prog) w7.drew 183 183 3 131 q 1 7 7 ⟨q, 0, none⟩ 7 8 (eightV a b' c d e f g y) 145 [.int .u32 a, .int .u32 b', .int .u32 c, .int .u32 d, .int .u32 e, .int .u32 f, .int .u32 g]
        refine h Tryd.underlying183 (by kernel_rfl) HV7.out rfl ?_ (by simp [eightV]) (by simp [Value.oneCell'])
        intro j v hv
        have hj7 : j < 7 := by
          have := (List.getElem?_eq_some_iff.1 hv).1
          simpa using this
        have hj : j = 0 ∨ j = 1 ∨ j = 2 ∨ j = 3 ∨ j = 4 ∨ j = 5 ∨ j = 6 := by omega
        rcases hj with rfl | rfl | rfl | rfl | rfl | rfl | rfl
        · simp at hv; subst hv; exact d0
        · simp at hv; subst hv; exact d1
        · simp at hv; subst hv; exact d2
        · simp at hv; subst hv; exact d3
        · simp at hv; subst hv; exact d4
        · simp at hv; subst hv; exact d5
        · simp at hv; subst hv; exact d6
      go_region
      go_upto_region 8 with fail
      obtain ⟨w8, hw8⟩ : ∃ w8, w8 = w7.drew.setRow q (eightV a a b' c d e f g) := ⟨_, rfl⟩
      have o78 : Only [q] w7 w8 := by rw [hw8]; exact ((Only.refl [q] w7).drew).setRow (by simp) _
      have HV8 : Hid (w8.heap[q]? = some (.cells (eightV a a b' c d e f g) 145 (0, 0))) := Lib.hid (by rw [hw8]; exact setRow_heap _ _ _ _ _ _ HV7.out)
      have HO8 := Lib.hid (HO7.out.trans o78)
      rw [← hw8]
      clear hcp hw8 o78 HV7 HO7 d0 d1 d2 d3 d4 d5 d6 d7 zf
      have d0 : w8.cell? ⟨q, 0, none⟩ = some (.int .u32 a) := by rw [Lib.cell_of_heap HV8.out]; rfl
      have z0 : w8.frozen? ⟨q, 0, none⟩ = false := Lib.frozen_of_heap HV8.out _
      obtain ⟨s0, hs0⟩ : ∃ s0, s0 = (t1 + t2) % 4294967296 := ⟨_, rfl⟩
      have s0w : IntKind.u32.wrap (t1 + t2) = s0 := by rw [hs0]; exact IntKind.wrap_u32' _
      have Hs0 := Lib.hid hs0
      have hV9 : (w8.setCell ⟨q, 0, none⟩ (.int .u32 s0)).heap[q]? = some (.cells (eightV s0 a b' c d e f g) 145 (0, 0)) := heap_setCell_same _ q 0 _ _ _ HV8.out
      have d4 : (w8.setCell ⟨q, 0, none⟩ (.int .u32 s0)).cell? ⟨q, 4, none⟩ = some (.int .u32 d) := by rw [Lib.cell_of_heap hV9]; rfl
      have z4 : (w8.setCell ⟨q, 0, none⟩ (.int .u32 s0)).frozen? ⟨q, 4, none⟩ = false := Lib.frozen_of_heap hV9 _
      obtain ⟨s4, hs4⟩ : ∃ s4, s4 = (d + t1) % 4294967296 := ⟨_, rfl⟩
      have s4w : IntKind.u32.wrap (d + t1) = s4 := by rw [hs4]; exact IntKind.wrap_u32' _
      have Hs4 := Lib.hid hs4
      have hV10 : ((w8.setCell ⟨q, 0, none⟩ (.int .u32 s0)).setCell ⟨q, 4, none⟩ (.int .u32 s4)).heap[q]? = some (.cells (eightV s0 a b' c s4 e f g) 145 (0, 0)) := heap_setCell_same _ q 4 _ _ _ hV9
      have HV10 := Lib.hid hV10
      have HO10 := Lib.hid ((HO8.out.setCell (p := ⟨q, 0, none⟩) (by simp) (.int .u32 s0)).setCell (p := ⟨q, 4, none⟩) (by simp) (.int .u32 s4))
      clear hV9 hV10 HV8 HO8 hs0 hs4
      go_wp2_with fail
      go_roundw
      case rel => exact ⟨k + 1, s0, a, b', c, s4, e, f, g, by omega, by go_num, by rw [Hn2.out, Hs0.out, Hs4.out], HV10.out, HO10.out⟩
      case measure => simp [intOf]; omega
    · have hk64' : k = 64 := by omega
      subst hk64'
      rw [show ((64 : Nat) : Int) = 64 from rfl]
      obtain ⟨V, hVd⟩ : ∃ V, V = [v0, v1, v2, v3, v4, v5, v6, v7] := ⟨_, rfl⟩
      obtain ⟨R, hRd⟩ : ∃ R, R = [a, b', c, d, e, f, g, y] := ⟨_, rfl⟩
      have hmix : mixS K bl V = addL V R 8 := by unfold mixS; rw [hVd, ← HW.out, hR, hRd]
      have hS : wr.heap[b]? = some (.cells ((addL V R 0).map (fun x => Value.int .u32 x) ++ X).toArray T (0, 0)) := by
        rw [show addL V R 0 = V by rw [hVd]; rfl, hVd]
        exact ho.keep (O1.out.keep HS.out (by simp)) (by simp; omega)
      have hstep : ∀ i, i < 8 → (addL V R i).set i ((V.getD i 0 + R.getD i 0) % 4294967296) = addL V R (i + 1) ∧ (addL V R i)[i]? = some (V.getD i 0) ∧ (addL V R i).length = 8 := by
        intro i hi
        rw [hVd, hRd]
        have hi8 : i = 0 ∨ i = 1 ∨ i = 2 ∨ i = 3 ∨ i = 4 ∨ i = 5 ∨ i = 6 ∨ i = 7 := by omega
        rcases hi8 with rfl | rfl | rfl | rfl | rfl | rfl | rfl | rfl <;> exact ⟨rfl, rfl, rfl⟩
      have hcq : ∀ i, i < 8 → (eightV a b' c d e f g y)[i]? = some (.int .u32 (R.getD i 0)) := by
        intro i hi
        rw [hRd]
        have hi8 : i = 0 ∨ i = 1 ∨ i = 2 ∨ i = 3 ∨ i = 4 ∨ i = 5 ∨ i = 6 ∨ i = 7 := by omega
        rcases hi8 with rfl | rfl | rfl | rfl | rfl | rfl | rfl | rfl <;> rfl
      have Hstep := Lib.hid hstep
      have Hcq := Lib.hid hcq
      have Hmix := Lib.hid hmix
      have HS2 := Lib.hid hS
      have HV2 := Lib.hid hV
      have HO2 := Lib.hid ho
      have HVd := Lib.hid hVd
      clear hstep hcq hmix hS hV ho hR hG d0 d1 d2 d3 d4 d5 d6 d7 hRd hk hVd
      obtain ⟨w9, hw9⟩ : ∃ w9, w9 = wr := ⟨_, rfl⟩
      rw [← hw9] at HS2 HV2 HO2 ⊢
      clear hw9
      go_wp2_with fail
      go_loopw [80] (fun p wr => ∃ i : Nat, i ≤ 8 ∧ p = .int .i64 i ∧ wr.heap[b]? = some (.cells ((addL V R i).map (fun x => Value.int .u32 x) ++ X).toArray T (0, 0)) ∧ Only [b] w9 wr) (fun p _ => 8 - (intOf p).toNat)
      case atStart => exact ⟨0, by omega, rfl, HS2.out, Only.refl _ _⟩
      case round =>
        clear HS2
        obtain ⟨i, hi, rfl, hB, ho⟩ := hrel
        by_cases hi8 : i < 8
        · obtain ⟨s1, s2, s3⟩ := Hstep.out i hi8
          have hcv := Hcq.out i hi8
          obtain ⟨x, hx⟩ : ∃ x, x = V.getD i 0 := ⟨_, rfl⟩
          obtain ⟨r, hr⟩ : ∃ r, r = R.getD i 0 := ⟨_, rfl⟩
          rw [← hx, ← hr] at s1
          rw [← hx] at s2
          rw [← hr] at hcv
          have a1 : wr.cell? ⟨b, i, none⟩ = some (.int .u32 x) := by
            rw [Lib.cell_of_heap hB]
            rw [List.getElem?_toArray, List.getElem?_append_left (by simp [s3]; omega), List.getElem?_map, s2]
            rfl
          have a2 : wr.cell? ⟨q, i, none⟩ = some (.int .u32 r) := by
            rw [Lib.cell_of_heap (ho.keep HV2.out (by simp; omega))]; exact hcv
          have z1 : wr.frozen? ⟨b, i, none⟩ = false := Lib.frozen_of_heap hB _
          obtain ⟨y', hy'⟩ : ∃ y', y' = (x + r) % 4294967296 := ⟨_, rfl⟩
          have yw : IntKind.u32.wrap (x + r) = y' := by rw [hy']; exact IntKind.wrap_u32' _
          rw [← hy'] at s1
          have hBn : (wr.setCell ⟨b, i, none⟩ (.int .u32 y')).heap[b]? = some (.cells ((addL V R (i + 1)).map (fun x => Value.int .u32 x) ++ X).toArray T (0, 0)) := by
            refine (heap_setCell_same _ b i _ _ _ hB).trans ?_
            rw [← s1]
            simp only [List.setIfInBounds_toArray, List.map_set]
            rw [List.set_append_left _ _ (by simp [s3]; omega)]
          have HBn := Lib.hid hBn
          have Ho := Lib.hid ho
          have i0 : (0 : Int) ≤ (i : Int) := by omega
          have i1 : (i : Int) < 8 := by omega
          clear hBn hB ho s1 s2 s3 hcv hx hr hy'
          go_upto_region 14 with fail
          go_region
          go_wp2_with fail
          go_roundw
          case rel => exact ⟨i + 1, by omega, by go_num, HBn.out, (Ho.out.setCell (by simp) _).drew⟩
          case measure => simp [intOf]; omega
        · have hi8' : i = 8 := by omega
          subst hi8'
          have HB := Lib.hid hB
          have o3 : Only [b, q] w1 wr := (HO2.out.mono (by simp)).trans (ho.mono (by simp))
          have o4 : Only [b] w wr := by
            have o1' := O1.out
            refine ⟨o3.os.trans o1'.os, o3.tape.trans o1'.tape, o3.output.trans o1'.output, Nat.le_trans o1'.size o3.size, fun j hj hn => ?_⟩
            rw [o3.block j (Nat.lt_of_lt_of_le hj o1'.size) (by simp at hn ⊢; refine ⟨hn, ?_⟩; rw [Hq.out]; omega)]
            exact o1'.block j hj (by simp)
          have HO4 := Lib.hid o4
          clear hB ho o3 o4
          go_wp2_with fail
          go_end0
          exact ⟨rfl, by rw [← HVd.out, Hmix.out]; exact HB.out, HO4.out⟩
end Go.Proofs.YtokdnfhglckpkaaDoor
