/-
  Layer 19 (wing): members, records, ranges compared; slices.Equal over them.
-/
import Derived.Test.YthcmlbbbbcinkaaDoorWiG
import Derived.Laws.StructEq
set_option linter.unusedVariables false
set_option linter.unusedSimpArgs false
namespace Go.Proofs.YthcmlbbbbcinkaaDoor
open Go.RowKit Pl
attribute [local go_sem] Lb.ba_get Lb.ba_cut Lb.ba_add Lb.ba_size Lb.take_rest
namespace Wi

theorem eqF_cons {P : Program} {d : Nat} {xs ys : Array Value} {f : Field} {fs : List Field} {w : World} {a b : Value} {r : Bool} (hn : f.name ≠ "_") (ha : (part f.type xs f.offset).run P w = .ok a w) (hb : (part f.type ys f.offset).run P w = .ok b w) (hr : (Op.equalIn d f.type a b).run P w = .ok r w) :
    (Op.eqFields d xs ys (f :: fs)).run P w = if r = true then (Op.eqFields d xs ys fs).run P w else .ok false w := by
  simp only [Op.eqFields]
  rw [if_pos hn]
  simp only [Sem.run_bind, ha, hb, hr, Result.andThen_ok]
  cases r <;> simp
theorem eqF_nil {P : Program} {d : Nat} {xs ys : Array Value} {w : World} : (Op.eqFields d xs ys []).run P w = .ok true w := by
  unfold Op.eqFields
  simp
theorem dig_size_run : ∀ w : World, (sizeOf 23).run Tryd.prog w = .ok 32 w := fun w => by kernel_rfl
theorem rc_fields : (Tryd.prog.fieldsOf 26).toList = [{ name := "Key", type := 23, offset := 0, embedded := false, tag := "", pkgPath := "", byteOffset := 0 }, { name := "Code", type := 24, offset := 32, embedded := false, tag := "", pkgPath := "", byteOffset := 32 }, { name := "Out", type := 23, offset := 33, embedded := false, tag := "", pkgPath := "", byteOffset := 40 }] := by kernel_rfl
theorem mb_fields : (Tryd.prog.fieldsOf 52).toList = [{ name := "Node", type := 3, offset := 0, embedded := false, tag := "", pkgPath := "", byteOffset := 0 }, { name := "Inc", type := 3, offset := 1, embedded := false, tag := "", pkgPath := "", byteOffset := 8 }, { name := "State", type := 3, offset := 2, embedded := false, tag := "", pkgPath := "", byteOffset := 16 }] := by kernel_rfl
theorem rg_fields : (Tryd.prog.fieldsOf 65).toList = [{ name := "Depth", type := 3, offset := 0, embedded := false, tag := "", pkgPath := "", byteOffset := 0 }, { name := "Prefix", type := 3, offset := 1, embedded := false, tag := "", pkgPath := "", byteOffset := 8 }, { name := "Count", type := 3, offset := 2, embedded := false, tag := "", pkgPath := "", byteOffset := 16 }, { name := "Sum", type := 23, offset := 3, embedded := false, tag := "", pkgPath := "", byteOffset := 24 }] := by kernel_rfl
theorem part_int {t : TypeId} {k : IntKind} {cs : List Value} {o : Nat} {n : Int} (hu : Tryd.prog.underlying t = some (.int k)) (h : cs[o]? = some (.int k n)) (w : World) : (part t cs.toArray o).run Tryd.prog w = .ok (.int k n) w := by
  have e2 : cs.toArray[o]? = some (.int k n) := by rw [List.getElem?_toArray]; exact h
  simp [part, isAgg, run_underlying hu, e2]
theorem part_dig {cs pre post : List Value} {d : List UInt8} {o : Nat} (hc : cs = pre ++ (byV d ++ post)) (ho : pre.length = o) (hd : d.length = 32) (w : World) : (part 23 cs.toArray o).run Tryd.prog w = .ok (.agg (digV d)) w := by
  have e1 : List.take 32 (List.drop o cs) = byV d := by
    subst hc
    subst ho
    simp [byV_length, hd]
  simp [part, isAgg, run_underlying Tryd.underlying23, dig_size_run, e1, digV]
theorem eq_int (d : Nat) (w : World) (t : TypeId) (hu : Tryd.prog.underlying t = some (.int .i64)) (a b : Int) : (Op.equalIn (d + 1) t (.int .i64 a) (.int .i64 b)).run Tryd.prog w = .ok (a == b) w := run_equalIn_int w d t .i64 .i64 _ _ hu
theorem eq_dig (d : Nat) (w : World) (a b : List UInt8) (ha : a.length = 32) (hb : b.length = 32) : (Op.equalIn (d + 2) 23 (.agg (digV a)) (.agg (digV b))).run Tryd.prog w = .ok (a == b) w := run_equalIn_bytes (P := Tryd.prog) w d 23 5 32 Tryd.underlying23 Tryd.underlying5 u8_size a b ha hb
theorem eqIn_rc' (d : Nat) (w : World) (a b : Rc) (ha : a.Wf) (hb : b.Wf) : (Op.equalIn (d + 3) 26 (.agg a.cells.toArray) (.agg b.cells.toArray)).run Tryd.prog w = .ok (decide (a = b)) w := by
  have pa1 := part_dig (cs := a.cells) (pre := []) (post := .int .i64 a.code :: byV a.out) (o := 0) rfl rfl ha.k w
  have pb1 := part_dig (cs := b.cells) (pre := []) (post := .int .i64 b.code :: byV b.out) (o := 0) rfl rfl hb.k w
  have pa2 := part_int (cs := a.cells) (o := 32) (n := a.code) Tryd.underlying24 (by unfold Rc.cells; rw [List.getElem?_append_right (by rw [byV_length, ha.k]; omega), byV_length, ha.k]; rfl) w
  have pb2 := part_int (cs := b.cells) (o := 32) (n := b.code) Tryd.underlying24 (by unfold Rc.cells; rw [List.getElem?_append_right (by rw [byV_length, hb.k]; omega), byV_length, hb.k]; rfl) w
  have pa3 := part_dig (cs := a.cells) (pre := byV a.key ++ [.int .i64 a.code]) (post := []) (d := a.out) (o := 33) (by simp [Rc.cells]) (by simp [byV_length, ha.k]) ha.o w
  have pb3 := part_dig (cs := b.cells) (pre := byV b.key ++ [.int .i64 b.code]) (post := []) (d := b.out) (o := 33) (by simp [Rc.cells]) (by simp [byV_length, hb.k]) hb.o w
  have hu : Tryd.prog.underlying 26 = some (.struct (Tryd.prog.fieldsOf 26)) := by kernel_rfl
  have hs : Tryd.prog.stoodInHeld 26 = false := by kernel_rfl
  refine (run_equalIn_agg w (d + 2) 26 _ _ hu hs).trans ?_
  rw [rc_fields]
  have key : decide (a = b) = ((a.key == b.key) && ((a.code == b.code) && (a.out == b.out))) := by
    obtain ⟨k, c, o⟩ := a
    obtain ⟨k', c', o'⟩ := b
    simp [Bool.beq_eq_decide_eq, Bool.decide_and]
  rw [key]
  refine (eqF_cons (f := { name := "Key", type := 23, offset := 0, embedded := false, tag := "", pkgPath := "", byteOffset := 0 }) (by decide) pa1 pb1 (eq_dig d w _ _ ha.k hb.k)).trans ?_
  cases h1 : a.key == b.key with
  | false => simp only [Bool.false_eq_true, if_false, Bool.false_and]
  | true =>
    rw [if_pos rfl]
    refine (eqF_cons (f := { name := "Code", type := 24, offset := 32, embedded := false, tag := "", pkgPath := "", byteOffset := 32 }) (by decide) pa2 pb2 (eq_int (d + 1) w _ Tryd.underlying24 _ _)).trans ?_
    cases h2 : a.code == b.code with
    | false => simp only [Bool.false_eq_true, if_false, Bool.false_and, Bool.and_false]
    | true =>
      rw [if_pos rfl]
      refine (eqF_cons (f := { name := "Out", type := 23, offset := 33, embedded := false, tag := "", pkgPath := "", byteOffset := 40 }) (by decide) pa3 pb3 (eq_dig d w _ _ ha.o hb.o)).trans ?_
      cases h3 : a.out == b.out with
      | false => simp only [Bool.false_eq_true, if_false, Bool.false_and, Bool.and_false]
      | true => rw [if_pos rfl]; exact eqF_nil
theorem eqIn_mb' (d : Nat) (w : World) (a b : Mb) : (Op.equalIn (d + 3) 52 (.agg a.cells.toArray) (.agg b.cells.toArray)).run Tryd.prog w = .ok (decide (a = b)) w := by
  have pa1 := part_int (cs := a.cells) (o := 0) (n := a.node) Tryd.underlying3 rfl w
  have pb1 := part_int (cs := b.cells) (o := 0) (n := b.node) Tryd.underlying3 rfl w
  have pa2 := part_int (cs := a.cells) (o := 1) (n := a.inc) Tryd.underlying3 rfl w
  have pb2 := part_int (cs := b.cells) (o := 1) (n := b.inc) Tryd.underlying3 rfl w
  have pa3 := part_int (cs := a.cells) (o := 2) (n := a.state) Tryd.underlying3 rfl w
  have pb3 := part_int (cs := b.cells) (o := 2) (n := b.state) Tryd.underlying3 rfl w
  have hu : Tryd.prog.underlying 52 = some (.struct (Tryd.prog.fieldsOf 52)) := by kernel_rfl
  have hs : Tryd.prog.stoodInHeld 52 = false := by kernel_rfl
  refine (run_equalIn_agg w (d + 2) 52 _ _ hu hs).trans ?_
  rw [mb_fields]
  have key : decide (a = b) = ((a.node == b.node) && ((a.inc == b.inc) && (a.state == b.state))) := by
    obtain ⟨k, c, o⟩ := a
    obtain ⟨k', c', o'⟩ := b
    simp [Bool.beq_eq_decide_eq, Bool.decide_and]
  rw [key]
  refine (eqF_cons (f := { name := "Node", type := 3, offset := 0, embedded := false, tag := "", pkgPath := "", byteOffset := 0 }) (by decide) pa1 pb1 (eq_int (d + 1) w _ Tryd.underlying3 _ _)).trans ?_
  cases h1 : a.node == b.node with
  | false => simp only [Bool.false_eq_true, if_false, Bool.false_and]
  | true =>
    rw [if_pos rfl]
    refine (eqF_cons (f := { name := "Inc", type := 3, offset := 1, embedded := false, tag := "", pkgPath := "", byteOffset := 8 }) (by decide) pa2 pb2 (eq_int (d + 1) w _ Tryd.underlying3 _ _)).trans ?_
    cases h2 : a.inc == b.inc with
    | false => simp only [Bool.false_eq_true, if_false, Bool.false_and, Bool.and_false]
    | true =>
      rw [if_pos rfl]
      refine (eqF_cons (f := { name := "State", type := 3, offset := 2, embedded := false, tag := "", pkgPath := "", byteOffset := 16 }) (by decide) pa3 pb3 (eq_int (d + 1) w _ Tryd.underlying3 _ _)).trans ?_
      cases h3 : a.state == b.state with
      | false => simp only [Bool.false_eq_true, if_false, Bool.false_and, Bool.and_false]
      | true => rw [if_pos rfl]; exact eqF_nil
theorem eqIn_rg' (d : Nat) (w : World) (a b : Rg) (ha : a.Wf) (hb : b.Wf) : (Op.equalIn (d + 3) 65 (.agg a.cells.toArray) (.agg b.cells.toArray)).run Tryd.prog w = .ok (decide (a = b)) w := by
  have pa1 := part_int (cs := a.cells) (o := 0) (n := a.depth) Tryd.underlying3 rfl w
  have pb1 := part_int (cs := b.cells) (o := 0) (n := b.depth) Tryd.underlying3 rfl w
  have pa2 := part_int (cs := a.cells) (o := 1) (n := a.pre) Tryd.underlying3 rfl w
  have pb2 := part_int (cs := b.cells) (o := 1) (n := b.pre) Tryd.underlying3 rfl w
  have pa3 := part_int (cs := a.cells) (o := 2) (n := a.count) Tryd.underlying3 rfl w
  have pb3 := part_int (cs := b.cells) (o := 2) (n := b.count) Tryd.underlying3 rfl w
  have pa4 := part_dig (cs := a.cells) (pre := [.int .i64 a.depth, .int .i64 a.pre, .int .i64 a.count]) (post := []) (d := a.sum) (o := 3) (by simp [Rg.cells]) rfl ha.s w
  have pb4 := part_dig (cs := b.cells) (pre := [.int .i64 b.depth, .int .i64 b.pre, .int .i64 b.count]) (post := []) (d := b.sum) (o := 3) (by simp [Rg.cells]) rfl hb.s w
  have hu : Tryd.prog.underlying 65 = some (.struct (Tryd.prog.fieldsOf 65)) := by kernel_rfl
  have hs : Tryd.prog.stoodInHeld 65 = false := by kernel_rfl
  refine (run_equalIn_agg w (d + 2) 65 _ _ hu hs).trans ?_
  rw [rg_fields]
  have key : decide (a = b) = ((a.depth == b.depth) && ((a.pre == b.pre) && ((a.count == b.count) && (a.sum == b.sum)))) := by
    obtain ⟨k, c, o, s⟩ := a
    obtain ⟨k', c', o', s'⟩ := b
    simp [Bool.beq_eq_decide_eq, Bool.decide_and]
  rw [key]
  refine (eqF_cons (f := { name := "Depth", type := 3, offset := 0, embedded := false, tag := "", pkgPath := "", byteOffset := 0 }) (by decide) pa1 pb1 (eq_int (d + 1) w _ Tryd.underlying3 _ _)).trans ?_
  cases h1 : a.depth == b.depth with
  | false => simp only [Bool.false_eq_true, if_false, Bool.false_and]
  | true =>
    rw [if_pos rfl]
    refine (eqF_cons (f := { name := "Prefix", type := 3, offset := 1, embedded := false, tag := "", pkgPath := "", byteOffset := 8 }) (by decide) pa2 pb2 (eq_int (d + 1) w _ Tryd.underlying3 _ _)).trans ?_
    cases h2 : a.pre == b.pre with
    | false => simp only [Bool.false_eq_true, if_false, Bool.false_and, Bool.and_false]
    | true =>
      rw [if_pos rfl]
      refine (eqF_cons (f := { name := "Count", type := 3, offset := 2, embedded := false, tag := "", pkgPath := "", byteOffset := 16 }) (by decide) pa3 pb3 (eq_int (d + 1) w _ Tryd.underlying3 _ _)).trans ?_
      cases h3 : a.count == b.count with
      | false => simp only [Bool.false_eq_true, if_false, Bool.false_and, Bool.and_false]
      | true =>
        rw [if_pos rfl]
        refine (eqF_cons (f := { name := "Sum", type := 23, offset := 3, embedded := false, tag := "", pkgPath := "", byteOffset := 24 }) (by decide) pa4 pb4 (eq_dig d w _ _ ha.s hb.s)).trans ?_
        cases h4 : a.sum == b.sum with
        | false => simp only [Bool.false_eq_true, if_false, Bool.false_and, Bool.and_false]
        | true => rw [if_pos rfl]; exact eqF_nil
theorem list_same {α : Type} {L M : List α} (hl : L.length = M.length) (h : ∀ (j : Nat) (h1 : j < L.length) (h2 : j < M.length), L[j] = M[j]) : L = M := List.ext_getElem hl (fun j h1 h2 => h j h1 h2)
set_option maxHeartbeats 4000000 in
set_option maxRecDepth 100000 in
theorem equalMb_any (A B : Option Addr) (cA cB : Nat) (L M : List Mb) (w : World) (hS : RowsAt 3 Mb.cells w w.heap.size A L) (hS2 : RowsAt 3 Mb.cells w w.heap.size B M) (hl : L.length ≤ maxLen) (hl2 : M.length ≤ maxLen) (hw : ∀ x ∈ L, Mb.Wf x) (hw2 : ∀ x ∈ M, Mb.Wf x) :
    Calls Tryd.prog 27 #[.slice A L.length cA, .slice B M.length cB] w fun e w' => e = .returned (.bool (decide (L = M))) ∧ Below w.heap.size w w' := by
  have HS := Lib.hid hS
  have HS2 := Lib.hid hS2
  have Hw := Lib.hid hw
  have Hw2 := Lib.hid hw2
  obtain ⟨n, hn⟩ : ∃ n, n = L.length := ⟨_, rfl⟩
  obtain ⟨m, hm⟩ : ∃ m, m = M.length := ⟨_, rfl⟩
  rw [← hn] at hl ⊢
  rw [← hm] at hl2 ⊢
  unfold maxLen at hl hl2
  have n63 : (n : Int) ≤ 9223372036854775807 := by omega
  have Hn := Lib.hid hn
  have Hm := Lib.hid hm
  obtain ⟨res, hres⟩ : ∃ r, r = decide (L = M) := ⟨_, rfl⟩
  rw [← hres]
  have Hres := Lib.hid hres
  clear hS hS2 hw hw2 hn hm hres
  go_enter Tryd.func27, Tryd.ntmps27
  by_cases hnm : n = m
  · subst hnm
    have e0 : ((n : Int) != (n : Int)) = false := by simp
    go_wp2_with fail
    go_loopw [13] (fun i wr => ∃ k : Nat, k ≤ n ∧ i = .int .i64 k ∧ (∀ (j : Nat) (h1 : j < L.length) (h2 : j < M.length), j < k → L[j] = M[j]) ∧ Below w.heap.size w wr) (fun i _ => n - (intOf i).toNat)
    case atStart => exact ⟨0, by omega, rfl, (fun j h1 h2 h => by omega), Below.refl _ _⟩
    case round =>
      obtain ⟨k, hk, rfl, hall, hb⟩ := hrel
      have Hall := Lib.hid hall
      have Hb := Lib.hid hb
      clear hall hb
      by_cases hkn : k < n
      · have j1 : (k : Int) < (n : Int) := by omega
        have hkl : k < L.length := by rw [← Hn.out]; exact hkn
        have hkm : k < M.length := by rw [← Hm.out]; exact hkn
        obtain ⟨b, o, rfl, hbl, hr⟩ := (HS.out.below Hb.out (Nat.le_refl _)) k hkl
        obtain ⟨b2, o2, rfl, hbl2, hr2⟩ := (HS2.out.below Hb.out (Nat.le_refl _)) k hkm
        have lx : b < wr.heap.size := Nat.lt_of_lt_of_le hbl Hb.out.size
        have ly : b2 < wr.heap.size := Nat.lt_of_lt_of_le hbl2 Hb.out.size
        obtain ⟨x, hx⟩ : ∃ x, x = L[k] := ⟨_, rfl⟩
        obtain ⟨y, hy⟩ : ∃ y, y = M[k] := ⟨_, rfl⟩
        have hxw := Hw.out x (by rw [hx]; exact List.getElem_mem hkl)
        have hyw := Hw2.out y (by rw [hy]; exact List.getElem_mem hkm)
        rw [← hx] at hr
        rw [← hy] at hr2
        have hxy : x = y ↔ L[k] = M[k] := by rw [hx, hy]
        have Hxy := Lib.hid hxy
        have heq : ∀ W : World, (Op.equalIn 10000 52 (.agg x.cells.toArray) (.agg y.cells.toArray)).run Tryd.prog W = .ok (decide (x = y)) W := fun W => eqIn_mb' 9997 W x y
        have d1 : (Tryd.prog.info? 52).map (·.size) = some x.cells.length := by rw [mb_info, Mb.len x]
        have d2 : (Tryd.prog.info? 52).map (·.size) = some y.cells.length := by rw [mb_info, Mb.len y]
        have xund := Tryd.underlying52
        obtain ⟨g, hg⟩ : ∃ g, g = decide (x = y) := ⟨_, rfl⟩
        rw [← hg] at heq
        have Hg := Lib.hid hg
        obtain ⟨xc, hxc⟩ : ∃ c, c = x.cells := ⟨_, rfl⟩
        obtain ⟨yc, hyc⟩ : ∃ c, c = y.cells := ⟨_, rfl⟩
        rw [← hxc] at hr heq d1
        rw [← hyc] at hr2 heq d2
        have Hkl := Lib.hid hkl
        have Hkm := Lib.hid hkm
        clear hx hy hxw hyw hxy hg hxc hyc hbl hbl2
        go_upto_region 6 with fail
        cases g with
        | true =>
          refine wp_region_held_drew (S := fun w' => Below wr.heap.size wr w') (by kernel_rfl) ((Below.refl _ _).drew) (fun hH0 => ?_)
          obtain ⟨W0, hW0⟩ : ∃ W, W = wr.drew := ⟨_, rfl⟩
          rw [← hW0] at hH0 ⊢
          clear hW0
          refine wpAnyH_take (i := 0) (v := ?_) rfl (by kernel_rfl) (by kernel_rfl) (by kernel_rfl) (fun _ _ _ h => h) (Or.inl ⟨by kernel_rfl, ?_⟩) hH0 ?_
          rotate_left 1
          · intro w hSw
            go_simp
            try with_reducible rfl
          try simp only [Act.put, List.getElem_toArray, List.getElem_cons_zero, List.getElem_cons_succ, List.setIfInBounds_toArray, List.set_cons_zero, List.set_cons_succ]
          refine wpAnyH_take (i := 1) (v := ?_) rfl (by kernel_rfl) (by kernel_rfl) (by kernel_rfl) (fun _ _ _ h => h) (Or.inl ⟨by kernel_rfl, ?_⟩) hH0 ?_
          rotate_left 1
          · intro w hSw
            go_simp
            try with_reducible rfl
          try simp only [Act.put, List.getElem_toArray, List.getElem_cons_zero, List.getElem_cons_succ, List.setIfInBounds_toArray, List.set_cons_zero, List.set_cons_succ]
          refine wpAnyH_take (i := 2) (v := ?_) rfl (by kernel_rfl) (by kernel_rfl) (by kernel_rfl) (fun _ _ _ h => h) (Or.inl ⟨by kernel_rfl, ?_⟩) hH0 ?_
          rotate_left 1
          · intro w hSw
            go_simp
            try with_reducible rfl
          try simp only [Act.put, List.getElem_toArray, List.getElem_cons_zero, List.getElem_cons_succ, List.setIfInBounds_toArray, List.set_cons_zero, List.set_cons_succ]
          refine wpAnyH_take (i := 3) (v := _) rfl (by kernel_rfl) (by kernel_rfl) (by kernel_rfl) (fun _ _ _ h => h) (yieldsIf_load_mid (by kernel_rfl) _ _ rfl _ _ rfl xc _ (fun W hW => range_below hr hW lx) xund rfl d1) hH0 ?_
          try simp only [Act.put, List.getElem_toArray, List.getElem_cons_zero, List.getElem_cons_succ, List.setIfInBounds_toArray, List.set_cons_zero, List.set_cons_succ]
          refine wpAnyH_take (i := 4) (v := ?_) rfl (by kernel_rfl) (by kernel_rfl) (by kernel_rfl) (fun _ _ _ h => h) (Or.inl ⟨by kernel_rfl, ?_⟩) hH0 ?_
          rotate_left 1
          · intro w hSw
            go_simp
            try with_reducible rfl
          try simp only [Act.put, List.getElem_toArray, List.getElem_cons_zero, List.getElem_cons_succ, List.setIfInBounds_toArray, List.set_cons_zero, List.set_cons_succ]
          refine wpAnyH_take (i := 5) (v := ?_) rfl (by kernel_rfl) (by kernel_rfl) (by kernel_rfl) (fun _ _ _ h => h) (Or.inl ⟨by kernel_rfl, ?_⟩) hH0 ?_
          rotate_left 1
          · intro w hSw
            go_simp
            try with_reducible rfl
          try simp only [Act.put, List.getElem_toArray, List.getElem_cons_zero, List.getElem_cons_succ, List.setIfInBounds_toArray, List.set_cons_zero, List.set_cons_succ]
          refine wpAnyH_take (i := 6) (v := ?_) rfl (by kernel_rfl) (by kernel_rfl) (by kernel_rfl) (fun _ _ _ h => h) (Or.inl ⟨by kernel_rfl, ?_⟩) hH0 ?_
          rotate_left 1
          · intro w hSw
            go_simp
            try with_reducible rfl
          try simp only [Act.put, List.getElem_toArray, List.getElem_cons_zero, List.getElem_cons_succ, List.setIfInBounds_toArray, List.set_cons_zero, List.set_cons_succ]
          refine wpAnyH_take (i := 7) (v := _) rfl (by kernel_rfl) (by kernel_rfl) (by kernel_rfl) (fun _ _ _ h => h) (yieldsIf_load_mid (by kernel_rfl) _ _ rfl _ _ rfl yc _ (fun W hW => range_below hr2 hW ly) xund rfl d2) hH0 ?_
          try simp only [Act.put, List.getElem_toArray, List.getElem_cons_zero, List.getElem_cons_succ, List.setIfInBounds_toArray, List.set_cons_zero, List.set_cons_succ]
          refine wpAnyH_take (i := 8) (v := ?_) rfl (by kernel_rfl) (by kernel_rfl) (by kernel_rfl) (fun _ _ _ h => h) (Or.inl ⟨by kernel_rfl, ?_⟩) hH0 ?_
          rotate_left 1
          · intro w hSw
            go_simp
            try with_reducible rfl
          try simp only [Act.put, List.getElem_toArray, List.getElem_cons_zero, List.getElem_cons_succ, List.setIfInBounds_toArray, List.set_cons_zero, List.set_cons_succ]
          refine wpAnyH_done (by kernel_rfl) ?_ _
          have HH := Lib.hid hH0
          clear hH0
          go_wp2_with fail
          go_roundw
          case rel => exact ⟨k + 1, by omega, by go_num, (fun j h1 h2 hjk => by
            by_cases e : j = k
            · subst e; exact Hxy.out.1 (of_decide_eq_true Hg.out.symm)
            · exact Hall.out j h1 h2 (by omega)), Hb.out.trans (HH.out.mono Hb.out.size)⟩
          case measure => simp [intOf]; omega
        | false =>
          refine wp_region_held_drew (S := fun w' => Below wr.heap.size wr w') (by kernel_rfl) ((Below.refl _ _).drew) (fun hH0 => ?_)
          obtain ⟨W0, hW0⟩ : ∃ W, W = wr.drew := ⟨_, rfl⟩
          rw [← hW0] at hH0 ⊢
          clear hW0
          refine wpAnyH_take (i := 0) (v := ?_) rfl (by kernel_rfl) (by kernel_rfl) (by kernel_rfl) (fun _ _ _ h => h) (Or.inl ⟨by kernel_rfl, ?_⟩) hH0 ?_
          rotate_left 1
          · intro w hSw
            go_simp
            try with_reducible rfl
          try simp only [Act.put, List.getElem_toArray, List.getElem_cons_zero, List.getElem_cons_succ, List.setIfInBounds_toArray, List.set_cons_zero, List.set_cons_succ]
          refine wpAnyH_take (i := 1) (v := ?_) rfl (by kernel_rfl) (by kernel_rfl) (by kernel_rfl) (fun _ _ _ h => h) (Or.inl ⟨by kernel_rfl, ?_⟩) hH0 ?_
          rotate_left 1
          · intro w hSw
            go_simp
            try with_reducible rfl
          try simp only [Act.put, List.getElem_toArray, List.getElem_cons_zero, List.getElem_cons_succ, List.setIfInBounds_toArray, List.set_cons_zero, List.set_cons_succ]
          refine wpAnyH_take (i := 2) (v := ?_) rfl (by kernel_rfl) (by kernel_rfl) (by kernel_rfl) (fun _ _ _ h => h) (Or.inl ⟨by kernel_rfl, ?_⟩) hH0 ?_
          rotate_left 1
          · intro w hSw
            go_simp
            try with_reducible rfl
          try simp only [Act.put, List.getElem_toArray, List.getElem_cons_zero, List.getElem_cons_succ, List.setIfInBounds_toArray, List.set_cons_zero, List.set_cons_succ]
          refine wpAnyH_take (i := 3) (v := _) rfl (by kernel_rfl) (by kernel_rfl) (by kernel_rfl) (fun _ _ _ h => h) (yieldsIf_load_mid (by kernel_rfl) _ _ rfl _ _ rfl xc _ (fun W hW => range_below hr hW lx) xund rfl d1) hH0 ?_
          try simp only [Act.put, List.getElem_toArray, List.getElem_cons_zero, List.getElem_cons_succ, List.setIfInBounds_toArray, List.set_cons_zero, List.set_cons_succ]
          refine wpAnyH_take (i := 4) (v := ?_) rfl (by kernel_rfl) (by kernel_rfl) (by kernel_rfl) (fun _ _ _ h => h) (Or.inl ⟨by kernel_rfl, ?_⟩) hH0 ?_
          rotate_left 1
          · intro w hSw
            go_simp
            try with_reducible rfl
          try simp only [Act.put, List.getElem_toArray, List.getElem_cons_zero, List.getElem_cons_succ, List.setIfInBounds_toArray, List.set_cons_zero, List.set_cons_succ]
          refine wpAnyH_take (i := 5) (v := ?_) rfl (by kernel_rfl) (by kernel_rfl) (by kernel_rfl) (fun _ _ _ h => h) (Or.inl ⟨by kernel_rfl, ?_⟩) hH0 ?_
          rotate_left 1
          · intro w hSw
            go_simp
            try with_reducible rfl
          try simp only [Act.put, List.getElem_toArray, List.getElem_cons_zero, List.getElem_cons_succ, List.setIfInBounds_toArray, List.set_cons_zero, List.set_cons_succ]
          refine wpAnyH_take (i := 6) (v := ?_) rfl (by kernel_rfl) (by kernel_rfl) (by kernel_rfl) (fun _ _ _ h => h) (Or.inl ⟨by kernel_rfl, ?_⟩) hH0 ?_
          rotate_left 1
          · intro w hSw
            go_simp
            try with_reducible rfl
          try simp only [Act.put, List.getElem_toArray, List.getElem_cons_zero, List.getElem_cons_succ, List.setIfInBounds_toArray, List.set_cons_zero, List.set_cons_succ]
          refine wpAnyH_take (i := 7) (v := _) rfl (by kernel_rfl) (by kernel_rfl) (by kernel_rfl) (fun _ _ _ h => h) (yieldsIf_load_mid (by kernel_rfl) _ _ rfl _ _ rfl yc _ (fun W hW => range_below hr2 hW ly) xund rfl d2) hH0 ?_
          try simp only [Act.put, List.getElem_toArray, List.getElem_cons_zero, List.getElem_cons_succ, List.setIfInBounds_toArray, List.set_cons_zero, List.set_cons_succ]
          refine wpAnyH_take (i := 8) (v := ?_) rfl (by kernel_rfl) (by kernel_rfl) (by kernel_rfl) (fun _ _ _ h => h) (Or.inl ⟨by kernel_rfl, ?_⟩) hH0 ?_
          rotate_left 1
          · intro w hSw
            go_simp
            try with_reducible rfl
          try simp only [Act.put, List.getElem_toArray, List.getElem_cons_zero, List.getElem_cons_succ, List.setIfInBounds_toArray, List.set_cons_zero, List.set_cons_succ]
          refine wpAnyH_done (by kernel_rfl) ?_ _
          have HH := Lib.hid hH0
          clear hH0
          have hr2 : res = false := by
            rw [Hres.out]
            refine decide_eq_false (fun e => ?_)
            have h3 : x = y := Hxy.out.2 (by subst e; rfl)
            exact absurd h3 (of_decide_eq_false Hg.out.symm)
          subst hr2
          go_wp2_with fail
          go_ret
          exact ⟨rfl, Hb.out.trans (HH.out.mono Hb.out.size)⟩
      · obtain rfl : k = n := by omega
        have j1 : ¬ (k : Int) < (k : Int) := by omega
        have hr2 : res = true := by
          rw [Hres.out]
          exact decide_eq_true (list_same (by rw [← Hn.out, ← Hm.out]) (fun j h1 h2 => Hall.out j h1 h2 (by rw [Hn.out]; exact h1)))
        subst hr2
        go_wp2_with fail
        go_ret
        exact ⟨rfl, Hb.out⟩
  · have e0 : ((n : Int) != (m : Int)) = true := by simp; omega
    have hr2 : res = false := by
      rw [Hres.out]
      exact decide_eq_false (fun e => hnm (by rw [Hn.out, Hm.out, e]))
    subst hr2
    clear hnm
    go_wp2_with fail
    go_ret
    exact ⟨rfl, Below.refl _ _⟩
set_option maxHeartbeats 4000000 in
set_option maxRecDepth 100000 in
theorem equalRc_any (A B : Option Addr) (cA cB : Nat) (L M : List Rc) (w : World) (hS : RowsAt 65 Rc.cells w w.heap.size A L) (hS2 : RowsAt 65 Rc.cells w w.heap.size B M) (hl : L.length ≤ maxLen) (hl2 : M.length ≤ maxLen) (hw : ∀ x ∈ L, Rc.Wf x) (hw2 : ∀ x ∈ M, Rc.Wf x) :
    Calls Tryd.prog 26 #[.slice A L.length cA, .slice B M.length cB] w fun e w' => e = .returned (.bool (decide (L = M))) ∧ Below w.heap.size w w' := by
  have HS := Lib.hid hS
  have HS2 := Lib.hid hS2
  have Hw := Lib.hid hw
  have Hw2 := Lib.hid hw2
  obtain ⟨n, hn⟩ : ∃ n, n = L.length := ⟨_, rfl⟩
  obtain ⟨m, hm⟩ : ∃ m, m = M.length := ⟨_, rfl⟩
  rw [← hn] at hl ⊢
  rw [← hm] at hl2 ⊢
  unfold maxLen at hl hl2
  have n63 : (n : Int) ≤ 9223372036854775807 := by omega
  have Hn := Lib.hid hn
  have Hm := Lib.hid hm
  obtain ⟨res, hres⟩ : ∃ r, r = decide (L = M) := ⟨_, rfl⟩
  rw [← hres]
  have Hres := Lib.hid hres
  clear hS hS2 hw hw2 hn hm hres
  go_enter Tryd.func26, Tryd.ntmps26
  by_cases hnm : n = m
  · subst hnm
    have e0 : ((n : Int) != (n : Int)) = false := by simp
    go_wp2_with fail
    go_loopw [13] (fun i wr => ∃ k : Nat, k ≤ n ∧ i = .int .i64 k ∧ (∀ (j : Nat) (h1 : j < L.length) (h2 : j < M.length), j < k → L[j] = M[j]) ∧ Below w.heap.size w wr) (fun i _ => n - (intOf i).toNat)
    case atStart => exact ⟨0, by omega, rfl, (fun j h1 h2 h => by omega), Below.refl _ _⟩
    case round =>
      obtain ⟨k, hk, rfl, hall, hb⟩ := hrel
      have Hall := Lib.hid hall
      have Hb := Lib.hid hb
      clear hall hb
      by_cases hkn : k < n
      · have j1 : (k : Int) < (n : Int) := by omega
        have hkl : k < L.length := by rw [← Hn.out]; exact hkn
        have hkm : k < M.length := by rw [← Hm.out]; exact hkn
        obtain ⟨b, o, rfl, hbl, hr⟩ := (HS.out.below Hb.out (Nat.le_refl _)) k hkl
        obtain ⟨b2, o2, rfl, hbl2, hr2⟩ := (HS2.out.below Hb.out (Nat.le_refl _)) k hkm
        have lx : b < wr.heap.size := Nat.lt_of_lt_of_le hbl Hb.out.size
        have ly : b2 < wr.heap.size := Nat.lt_of_lt_of_le hbl2 Hb.out.size
        obtain ⟨x, hx⟩ : ∃ x, x = L[k] := ⟨_, rfl⟩
        obtain ⟨y, hy⟩ : ∃ y, y = M[k] := ⟨_, rfl⟩
        have hxw := Hw.out x (by rw [hx]; exact List.getElem_mem hkl)
        have hyw := Hw2.out y (by rw [hy]; exact List.getElem_mem hkm)
        rw [← hx] at hr
        rw [← hy] at hr2
        have hxy : x = y ↔ L[k] = M[k] := by rw [hx, hy]
        have Hxy := Lib.hid hxy
        have heq : ∀ W : World, (Op.equalIn 10000 26 (.agg x.cells.toArray) (.agg y.cells.toArray)).run Tryd.prog W = .ok (decide (x = y)) W := fun W => eqIn_rc' 9997 W x y hxw hyw
        have d1 : (Tryd.prog.info? 26).map (·.size) = some x.cells.length := by rw [rc_info, Rc.len hxw]
        have d2 : (Tryd.prog.info? 26).map (·.size) = some y.cells.length := by rw [rc_info, Rc.len hyw]
        have xund := Tryd.underlying26
        obtain ⟨g, hg⟩ : ∃ g, g = decide (x = y) := ⟨_, rfl⟩
        rw [← hg] at heq
        have Hg := Lib.hid hg
        obtain ⟨xc, hxc⟩ : ∃ c, c = x.cells := ⟨_, rfl⟩
        obtain ⟨yc, hyc⟩ : ∃ c, c = y.cells := ⟨_, rfl⟩
        rw [← hxc] at hr heq d1
        rw [← hyc] at hr2 heq d2
        have Hkl := Lib.hid hkl
        have Hkm := Lib.hid hkm
        clear hx hy hxw hyw hxy hg hxc hyc hbl hbl2
        go_upto_region 6 with fail
        cases g with
        | true =>
          refine wp_region_held_drew (S := fun w' => Below wr.heap.size wr w') (by kernel_rfl) ((Below.refl _ _).drew) (fun hH0 => ?_)
          obtain ⟨W0, hW0⟩ : ∃ W, W = wr.drew := ⟨_, rfl⟩
          rw [← hW0] at hH0 ⊢
          clear hW0
          refine wpAnyH_take (i := 0) (v := ?_) rfl (by kernel_rfl) (by kernel_rfl) (by kernel_rfl) (fun _ _ _ h => h) (Or.inl ⟨by kernel_rfl, ?_⟩) hH0 ?_
          rotate_left 1
          · intro w hSw
            go_simp
            try with_reducible rfl
          try simp only [Act.put, List.getElem_toArray, List.getElem_cons_zero, List.getElem_cons_succ, List.setIfInBounds_toArray, List.set_cons_zero, List.set_cons_succ]
          refine wpAnyH_take (i := 1) (v := ?_) rfl (by kernel_rfl) (by kernel_rfl) (by kernel_rfl) (fun _ _ _ h => h) (Or.inl ⟨by kernel_rfl, ?_⟩) hH0 ?_
          rotate_left 1
          · intro w hSw
            go_simp
            try with_reducible rfl
          try simp only [Act.put, List.getElem_toArray, List.getElem_cons_zero, List.getElem_cons_succ, List.setIfInBounds_toArray, List.set_cons_zero, List.set_cons_succ]
          refine wpAnyH_take (i := 2) (v := ?_) rfl (by kernel_rfl) (by kernel_rfl) (by kernel_rfl) (fun _ _ _ h => h) (Or.inl ⟨by kernel_rfl, ?_⟩) hH0 ?_
          rotate_left 1
          · intro w hSw
            go_simp
            try with_reducible rfl
          try simp only [Act.put, List.getElem_toArray, List.getElem_cons_zero, List.getElem_cons_succ, List.setIfInBounds_toArray, List.set_cons_zero, List.set_cons_succ]
          refine wpAnyH_take (i := 3) (v := _) rfl (by kernel_rfl) (by kernel_rfl) (by kernel_rfl) (fun _ _ _ h => h) (yieldsIf_load_mid (by kernel_rfl) _ _ rfl _ _ rfl xc _ (fun W hW => range_below hr hW lx) xund rfl d1) hH0 ?_
          try simp only [Act.put, List.getElem_toArray, List.getElem_cons_zero, List.getElem_cons_succ, List.setIfInBounds_toArray, List.set_cons_zero, List.set_cons_succ]
          refine wpAnyH_take (i := 4) (v := ?_) rfl (by kernel_rfl) (by kernel_rfl) (by kernel_rfl) (fun _ _ _ h => h) (Or.inl ⟨by kernel_rfl, ?_⟩) hH0 ?_
          rotate_left 1
          · intro w hSw
            go_simp
            try with_reducible rfl
          try simp only [Act.put, List.getElem_toArray, List.getElem_cons_zero, List.getElem_cons_succ, List.setIfInBounds_toArray, List.set_cons_zero, List.set_cons_succ]
          refine wpAnyH_take (i := 5) (v := ?_) rfl (by kernel_rfl) (by kernel_rfl) (by kernel_rfl) (fun _ _ _ h => h) (Or.inl ⟨by kernel_rfl, ?_⟩) hH0 ?_
          rotate_left 1
          · intro w hSw
            go_simp
            try with_reducible rfl
          try simp only [Act.put, List.getElem_toArray, List.getElem_cons_zero, List.getElem_cons_succ, List.setIfInBounds_toArray, List.set_cons_zero, List.set_cons_succ]
          refine wpAnyH_take (i := 6) (v := ?_) rfl (by kernel_rfl) (by kernel_rfl) (by kernel_rfl) (fun _ _ _ h => h) (Or.inl ⟨by kernel_rfl, ?_⟩) hH0 ?_
          rotate_left 1
          · intro w hSw
            go_simp
            try with_reducible rfl
          try simp only [Act.put, List.getElem_toArray, List.getElem_cons_zero, List.getElem_cons_succ, List.setIfInBounds_toArray, List.set_cons_zero, List.set_cons_succ]
          refine wpAnyH_take (i := 7) (v := _) rfl (by kernel_rfl) (by kernel_rfl) (by kernel_rfl) (fun _ _ _ h => h) (yieldsIf_load_mid (by kernel_rfl) _ _ rfl _ _ rfl yc _ (fun W hW => range_below hr2 hW ly) xund rfl d2) hH0 ?_
          try simp only [Act.put, List.getElem_toArray, List.getElem_cons_zero, List.getElem_cons_succ, List.setIfInBounds_toArray, List.set_cons_zero, List.set_cons_succ]
          refine wpAnyH_take (i := 8) (v := ?_) rfl (by kernel_rfl) (by kernel_rfl) (by kernel_rfl) (fun _ _ _ h => h) (Or.inl ⟨by kernel_rfl, ?_⟩) hH0 ?_
          rotate_left 1
          · intro w hSw
            go_simp
            try with_reducible rfl
          try simp only [Act.put, List.getElem_toArray, List.getElem_cons_zero, List.getElem_cons_succ, List.setIfInBounds_toArray, List.set_cons_zero, List.set_cons_succ]
          refine wpAnyH_done (by kernel_rfl) ?_ _
          have HH := Lib.hid hH0
          clear hH0
          go_wp2_with fail
          go_roundw
          case rel => exact ⟨k + 1, by omega, by go_num, (fun j h1 h2 hjk => by
            by_cases e : j = k
            · subst e; exact Hxy.out.1 (of_decide_eq_true Hg.out.symm)
            · exact Hall.out j h1 h2 (by omega)), Hb.out.trans (HH.out.mono Hb.out.size)⟩
          case measure => simp [intOf]; omega
        | false =>
          refine wp_region_held_drew (S := fun w' => Below wr.heap.size wr w') (by kernel_rfl) ((Below.refl _ _).drew) (fun hH0 => ?_)
          obtain ⟨W0, hW0⟩ : ∃ W, W = wr.drew := ⟨_, rfl⟩
          rw [← hW0] at hH0 ⊢
          clear hW0
          refine wpAnyH_take (i := 0) (v := ?_) rfl (by kernel_rfl) (by kernel_rfl) (by kernel_rfl) (fun _ _ _ h => h) (Or.inl ⟨by kernel_rfl, ?_⟩) hH0 ?_
          rotate_left 1
          · intro w hSw
            go_simp
            try with_reducible rfl
          try simp only [Act.put, List.getElem_toArray, List.getElem_cons_zero, List.getElem_cons_succ, List.setIfInBounds_toArray, List.set_cons_zero, List.set_cons_succ]
          refine wpAnyH_take (i := 1) (v := ?_) rfl (by kernel_rfl) (by kernel_rfl) (by kernel_rfl) (fun _ _ _ h => h) (Or.inl ⟨by kernel_rfl, ?_⟩) hH0 ?_
          rotate_left 1
          · intro w hSw
            go_simp
            try with_reducible rfl
          try simp only [Act.put, List.getElem_toArray, List.getElem_cons_zero, List.getElem_cons_succ, List.setIfInBounds_toArray, List.set_cons_zero, List.set_cons_succ]
          refine wpAnyH_take (i := 2) (v := ?_) rfl (by kernel_rfl) (by kernel_rfl) (by kernel_rfl) (fun _ _ _ h => h) (Or.inl ⟨by kernel_rfl, ?_⟩) hH0 ?_
          rotate_left 1
          · intro w hSw
            go_simp
            try with_reducible rfl
          try simp only [Act.put, List.getElem_toArray, List.getElem_cons_zero, List.getElem_cons_succ, List.setIfInBounds_toArray, List.set_cons_zero, List.set_cons_succ]
          refine wpAnyH_take (i := 3) (v := _) rfl (by kernel_rfl) (by kernel_rfl) (by kernel_rfl) (fun _ _ _ h => h) (yieldsIf_load_mid (by kernel_rfl) _ _ rfl _ _ rfl xc _ (fun W hW => range_below hr hW lx) xund rfl d1) hH0 ?_
          try simp only [Act.put, List.getElem_toArray, List.getElem_cons_zero, List.getElem_cons_succ, List.setIfInBounds_toArray, List.set_cons_zero, List.set_cons_succ]
          refine wpAnyH_take (i := 4) (v := ?_) rfl (by kernel_rfl) (by kernel_rfl) (by kernel_rfl) (fun _ _ _ h => h) (Or.inl ⟨by kernel_rfl, ?_⟩) hH0 ?_
          rotate_left 1
          · intro w hSw
            go_simp
            try with_reducible rfl
          try simp only [Act.put, List.getElem_toArray, List.getElem_cons_zero, List.getElem_cons_succ, List.setIfInBounds_toArray, List.set_cons_zero, List.set_cons_succ]
          refine wpAnyH_take (i := 5) (v := ?_) rfl (by kernel_rfl) (by kernel_rfl) (by kernel_rfl) (fun _ _ _ h => h) (Or.inl ⟨by kernel_rfl, ?_⟩) hH0 ?_
          rotate_left 1
          · intro w hSw
            go_simp
            try with_reducible rfl
          try simp only [Act.put, List.getElem_toArray, List.getElem_cons_zero, List.getElem_cons_succ, List.setIfInBounds_toArray, List.set_cons_zero, List.set_cons_succ]
          refine wpAnyH_take (i := 6) (v := ?_) rfl (by kernel_rfl) (by kernel_rfl) (by kernel_rfl) (fun _ _ _ h => h) (Or.inl ⟨by kernel_rfl, ?_⟩) hH0 ?_
          rotate_left 1
          · intro w hSw
            go_simp
            try with_reducible rfl
          try simp only [Act.put, List.getElem_toArray, List.getElem_cons_zero, List.getElem_cons_succ, List.setIfInBounds_toArray, List.set_cons_zero, List.set_cons_succ]
          refine wpAnyH_take (i := 7) (v := _) rfl (by kernel_rfl) (by kernel_rfl) (by kernel_rfl) (fun _ _ _ h => h) (yieldsIf_load_mid (by kernel_rfl) _ _ rfl _ _ rfl yc _ (fun W hW => range_below hr2 hW ly) xund rfl d2) hH0 ?_
          try simp only [Act.put, List.getElem_toArray, List.getElem_cons_zero, List.getElem_cons_succ, List.setIfInBounds_toArray, List.set_cons_zero, List.set_cons_succ]
          refine wpAnyH_take (i := 8) (v := ?_) rfl (by kernel_rfl) (by kernel_rfl) (by kernel_rfl) (fun _ _ _ h => h) (Or.inl ⟨by kernel_rfl, ?_⟩) hH0 ?_
          rotate_left 1
          · intro w hSw
            go_simp
            try with_reducible rfl
          try simp only [Act.put, List.getElem_toArray, List.getElem_cons_zero, List.getElem_cons_succ, List.setIfInBounds_toArray, List.set_cons_zero, List.set_cons_succ]
          refine wpAnyH_done (by kernel_rfl) ?_ _
          have HH := Lib.hid hH0
          clear hH0
          have hr2 : res = false := by
            rw [Hres.out]
            refine decide_eq_false (fun e => ?_)
            have h3 : x = y := Hxy.out.2 (by subst e; rfl)
            exact absurd h3 (of_decide_eq_false Hg.out.symm)
          subst hr2
          go_wp2_with fail
          go_ret
          exact ⟨rfl, Hb.out.trans (HH.out.mono Hb.out.size)⟩
      · obtain rfl : k = n := by omega
        have j1 : ¬ (k : Int) < (k : Int) := by omega
        have hr2 : res = true := by
          rw [Hres.out]
          exact decide_eq_true (list_same (by rw [← Hn.out, ← Hm.out]) (fun j h1 h2 => Hall.out j h1 h2 (by rw [Hn.out]; exact h1)))
        subst hr2
        go_wp2_with fail
        go_ret
        exact ⟨rfl, Hb.out⟩
  · have e0 : ((n : Int) != (m : Int)) = true := by simp; omega
    have hr2 : res = false := by
      rw [Hres.out]
      exact decide_eq_false (fun e => hnm (by rw [Hn.out, Hm.out, e]))
    subst hr2
    clear hnm
    go_wp2_with fail
    go_ret
    exact ⟨rfl, Below.refl _ _⟩
set_option maxHeartbeats 4000000 in
set_option maxRecDepth 100000 in
theorem equalRg_any (A B : Option Addr) (cA cB : Nat) (L M : List Rg) (w : World) (hS : RowsAt 35 Rg.cells w w.heap.size A L) (hS2 : RowsAt 35 Rg.cells w w.heap.size B M) (hl : L.length ≤ maxLen) (hl2 : M.length ≤ maxLen) (hw : ∀ x ∈ L, Rg.Wf x) (hw2 : ∀ x ∈ M, Rg.Wf x) :
    Calls Tryd.prog 25 #[.slice A L.length cA, .slice B M.length cB] w fun e w' => e = .returned (.bool (decide (L = M))) ∧ Below w.heap.size w w' := by
  have HS := Lib.hid hS
  have HS2 := Lib.hid hS2
  have Hw := Lib.hid hw
  have Hw2 := Lib.hid hw2
  obtain ⟨n, hn⟩ : ∃ n, n = L.length := ⟨_, rfl⟩
  obtain ⟨m, hm⟩ : ∃ m, m = M.length := ⟨_, rfl⟩
  rw [← hn] at hl ⊢
  rw [← hm] at hl2 ⊢
  unfold maxLen at hl hl2
  have n63 : (n : Int) ≤ 9223372036854775807 := by omega
  have Hn := Lib.hid hn
  have Hm := Lib.hid hm
  obtain ⟨res, hres⟩ : ∃ r, r = decide (L = M) := ⟨_, rfl⟩
  rw [← hres]
  have Hres := Lib.hid hres
  clear hS hS2 hw hw2 hn hm hres
  go_enter Tryd.func25, Tryd.ntmps25
  by_cases hnm : n = m
  · subst hnm
    have e0 : ((n : Int) != (n : Int)) = false := by simp
    go_wp2_with fail
    go_loopw [13] (fun i wr => ∃ k : Nat, k ≤ n ∧ i = .int .i64 k ∧ (∀ (j : Nat) (h1 : j < L.length) (h2 : j < M.length), j < k → L[j] = M[j]) ∧ Below w.heap.size w wr) (fun i _ => n - (intOf i).toNat)
    case atStart => exact ⟨0, by omega, rfl, (fun j h1 h2 h => by omega), Below.refl _ _⟩
    case round =>
      obtain ⟨k, hk, rfl, hall, hb⟩ := hrel
      have Hall := Lib.hid hall
      have Hb := Lib.hid hb
      clear hall hb
      by_cases hkn : k < n
      · have j1 : (k : Int) < (n : Int) := by omega
        have hkl : k < L.length := by rw [← Hn.out]; exact hkn
        have hkm : k < M.length := by rw [← Hm.out]; exact hkn
        obtain ⟨b, o, rfl, hbl, hr⟩ := (HS.out.below Hb.out (Nat.le_refl _)) k hkl
        obtain ⟨b2, o2, rfl, hbl2, hr2⟩ := (HS2.out.below Hb.out (Nat.le_refl _)) k hkm
        have lx : b < wr.heap.size := Nat.lt_of_lt_of_le hbl Hb.out.size
        have ly : b2 < wr.heap.size := Nat.lt_of_lt_of_le hbl2 Hb.out.size
        obtain ⟨x, hx⟩ : ∃ x, x = L[k] := ⟨_, rfl⟩
        obtain ⟨y, hy⟩ : ∃ y, y = M[k] := ⟨_, rfl⟩
        have hxw := Hw.out x (by rw [hx]; exact List.getElem_mem hkl)
        have hyw := Hw2.out y (by rw [hy]; exact List.getElem_mem hkm)
        rw [← hx] at hr
        rw [← hy] at hr2
        have hxy : x = y ↔ L[k] = M[k] := by rw [hx, hy]
        have Hxy := Lib.hid hxy
        have heq : ∀ W : World, (Op.equalIn 10000 65 (.agg x.cells.toArray) (.agg y.cells.toArray)).run Tryd.prog W = .ok (decide (x = y)) W := fun W => eqIn_rg' 9997 W x y hxw hyw
        have d1 : (Tryd.prog.info? 65).map (·.size) = some x.cells.length := by rw [rg_info, Rg.len hxw]
        have d2 : (Tryd.prog.info? 65).map (·.size) = some y.cells.length := by rw [rg_info, Rg.len hyw]
        have xund := Tryd.underlying65
        obtain ⟨g, hg⟩ : ∃ g, g = decide (x = y) := ⟨_, rfl⟩
        rw [← hg] at heq
        have Hg := Lib.hid hg
        obtain ⟨xc, hxc⟩ : ∃ c, c = x.cells := ⟨_, rfl⟩
        obtain ⟨yc, hyc⟩ : ∃ c, c = y.cells := ⟨_, rfl⟩
        rw [← hxc] at hr heq d1
        rw [← hyc] at hr2 heq d2
        have Hkl := Lib.hid hkl
        have Hkm := Lib.hid hkm
        clear hx hy hxw hyw hxy hg hxc hyc hbl hbl2
        go_upto_region 6 with fail
        cases g with
        | true =>
          refine wp_region_held_drew (S := fun w' => Below wr.heap.size wr w') (by kernel_rfl) ((Below.refl _ _).drew) (fun hH0 => ?_)
          obtain ⟨W0, hW0⟩ : ∃ W, W = wr.drew := ⟨_, rfl⟩
          rw [← hW0] at hH0 ⊢
          clear hW0
          refine wpAnyH_take (i := 0) (v := ?_) rfl (by kernel_rfl) (by kernel_rfl) (by kernel_rfl) (fun _ _ _ h => h) (Or.inl ⟨by kernel_rfl, ?_⟩) hH0 ?_
          rotate_left 1
          · intro w hSw
            go_simp
            try with_reducible rfl
          try simp only [Act.put, List.getElem_toArray, List.getElem_cons_zero, List.getElem_cons_succ, List.setIfInBounds_toArray, List.set_cons_zero, List.set_cons_succ]
          refine wpAnyH_take (i := 1) (v := ?_) rfl (by kernel_rfl) (by kernel_rfl) (by kernel_rfl) (fun _ _ _ h => h) (Or.inl ⟨by kernel_rfl, ?_⟩) hH0 ?_
          rotate_left 1
          · intro w hSw
            go_simp
            try with_reducible rfl
          try simp only [Act.put, List.getElem_toArray, List.getElem_cons_zero, List.getElem_cons_succ, List.setIfInBounds_toArray, List.set_cons_zero, List.set_cons_succ]
          refine wpAnyH_take (i := 2) (v := ?_) rfl (by kernel_rfl) (by kernel_rfl) (by kernel_rfl) (fun _ _ _ h => h) (Or.inl ⟨by kernel_rfl, ?_⟩) hH0 ?_
          rotate_left 1
          · intro w hSw
            go_simp
            try with_reducible rfl
          try simp only [Act.put, List.getElem_toArray, List.getElem_cons_zero, List.getElem_cons_succ, List.setIfInBounds_toArray, List.set_cons_zero, List.set_cons_succ]
          refine wpAnyH_take (i := 3) (v := _) rfl (by kernel_rfl) (by kernel_rfl) (by kernel_rfl) (fun _ _ _ h => h) (yieldsIf_load_mid (by kernel_rfl) _ _ rfl _ _ rfl xc _ (fun W hW => range_below hr hW lx) xund rfl d1) hH0 ?_
          try simp only [Act.put, List.getElem_toArray, List.getElem_cons_zero, List.getElem_cons_succ, List.setIfInBounds_toArray, List.set_cons_zero, List.set_cons_succ]
          refine wpAnyH_take (i := 4) (v := ?_) rfl (by kernel_rfl) (by kernel_rfl) (by kernel_rfl) (fun _ _ _ h => h) (Or.inl ⟨by kernel_rfl, ?_⟩) hH0 ?_
          rotate_left 1
          · intro w hSw
            go_simp
            try with_reducible rfl
          try simp only [Act.put, List.getElem_toArray, List.getElem_cons_zero, List.getElem_cons_succ, List.setIfInBounds_toArray, List.set_cons_zero, List.set_cons_succ]
          refine wpAnyH_take (i := 5) (v := ?_) rfl (by kernel_rfl) (by kernel_rfl) (by kernel_rfl) (fun _ _ _ h => h) (Or.inl ⟨by kernel_rfl, ?_⟩) hH0 ?_
          rotate_left 1
          · intro w hSw
            go_simp
            try with_reducible rfl
          try simp only [Act.put, List.getElem_toArray, List.getElem_cons_zero, List.getElem_cons_succ, List.setIfInBounds_toArray, List.set_cons_zero, List.set_cons_succ]
          refine wpAnyH_take (i := 6) (v := ?_) rfl (by kernel_rfl) (by kernel_rfl) (by kernel_rfl) (fun _ _ _ h => h) (Or.inl ⟨by kernel_rfl, ?_⟩) hH0 ?_
          rotate_left 1
          · intro w hSw
            go_simp
            try with_reducible rfl
          try simp only [Act.put, List.getElem_toArray, List.getElem_cons_zero, List.getElem_cons_succ, List.setIfInBounds_toArray, List.set_cons_zero, List.set_cons_succ]
          refine wpAnyH_take (i := 7) (v := _) rfl (by kernel_rfl) (by kernel_rfl) (by kernel_rfl) (fun _ _ _ h => h) (yieldsIf_load_mid (by kernel_rfl) _ _ rfl _ _ rfl yc _ (fun W hW => range_below hr2 hW ly) xund rfl d2) hH0 ?_
          try simp only [Act.put, List.getElem_toArray, List.getElem_cons_zero, List.getElem_cons_succ, List.setIfInBounds_toArray, List.set_cons_zero, List.set_cons_succ]
          refine wpAnyH_take (i := 8) (v := ?_) rfl (by kernel_rfl) (by kernel_rfl) (by kernel_rfl) (fun _ _ _ h => h) (Or.inl ⟨by kernel_rfl, ?_⟩) hH0 ?_
          rotate_left 1
          · intro w hSw
            go_simp
            try with_reducible rfl
          try simp only [Act.put, List.getElem_toArray, List.getElem_cons_zero, List.getElem_cons_succ, List.setIfInBounds_toArray, List.set_cons_zero, List.set_cons_succ]
          refine wpAnyH_done (by kernel_rfl) ?_ _
          have HH := Lib.hid hH0
          clear hH0
          go_wp2_with fail
          go_roundw
          case rel => exact ⟨k + 1, by omega, by go_num, (fun j h1 h2 hjk => by
            by_cases e : j = k
            · subst e; exact Hxy.out.1 (of_decide_eq_true Hg.out.symm)
            · exact Hall.out j h1 h2 (by omega)), Hb.out.trans (HH.out.mono Hb.out.size)⟩
          case measure => simp [intOf]; omega
        | false =>
          refine wp_region_held_drew (S := fun w' => Below wr.heap.size wr w') (by kernel_rfl) ((Below.refl _ _).drew) (fun hH0 => ?_)
          obtain ⟨W0, hW0⟩ : ∃ W, W = wr.drew := ⟨_, rfl⟩
          rw [← hW0] at hH0 ⊢
          clear hW0
          refine wpAnyH_take (i := 0) (v := ?_) rfl (by kernel_rfl) (by kernel_rfl) (by kernel_rfl) (fun _ _ _ h => h) (Or.inl ⟨by kernel_rfl, ?_⟩) hH0 ?_
          rotate_left 1
          · intro w hSw
            go_simp
            try with_reducible rfl
          try simp only [Act.put, List.getElem_toArray, List.getElem_cons_zero, List.getElem_cons_succ, List.setIfInBounds_toArray, List.set_cons_zero, List.set_cons_succ]
          refine wpAnyH_take (i := 1) (v := ?_) rfl (by kernel_rfl) (by kernel_rfl) (by kernel_rfl) (fun _ _ _ h => h) (Or.inl ⟨by kernel_rfl, ?_⟩) hH0 ?_
          rotate_left 1
          · intro w hSw
            go_simp
            try with_reducible rfl
          try simp only [Act.put, List.getElem_toArray, List.getElem_cons_zero, List.getElem_cons_succ, List.setIfInBounds_toArray, List.set_cons_zero, List.set_cons_succ]
          refine wpAnyH_take (i := 2) (v := ?_) rfl (by kernel_rfl) (by kernel_rfl) (by kernel_rfl) (fun _ _ _ h => h) (Or.inl ⟨by kernel_rfl, ?_⟩) hH0 ?_
          rotate_left 1
          · intro w hSw
            go_simp
            try with_reducible rfl
          try simp only [Act.put, List.getElem_toArray, List.getElem_cons_zero, List.getElem_cons_succ, List.setIfInBounds_toArray, List.set_cons_zero, List.set_cons_succ]
          refine wpAnyH_take (i := 3) (v := _) rfl (by kernel_rfl) (by kernel_rfl) (by kernel_rfl) (fun _ _ _ h => h) (yieldsIf_load_mid (by kernel_rfl) _ _ rfl _ _ rfl xc _ (fun W hW => range_below hr hW lx) xund rfl d1) hH0 ?_
          try simp only [Act.put, List.getElem_toArray, List.getElem_cons_zero, List.getElem_cons_succ, List.setIfInBounds_toArray, List.set_cons_zero, List.set_cons_succ]
          refine wpAnyH_take (i := 4) (v := ?_) rfl (by kernel_rfl) (by kernel_rfl) (by kernel_rfl) (fun _ _ _ h => h) (Or.inl ⟨by kernel_rfl, ?_⟩) hH0 ?_
          rotate_left 1
          · intro w hSw
            go_simp
            try with_reducible rfl
          try simp only [Act.put, List.getElem_toArray, List.getElem_cons_zero, List.getElem_cons_succ, List.setIfInBounds_toArray, List.set_cons_zero, List.set_cons_succ]
          refine wpAnyH_take (i := 5) (v := ?_) rfl (by kernel_rfl) (by kernel_rfl) (by kernel_rfl) (fun _ _ _ h => h) (Or.inl ⟨by kernel_rfl, ?_⟩) hH0 ?_
          rotate_left 1
          · intro w hSw
            go_simp
            try with_reducible rfl
          try simp only [Act.put, List.getElem_toArray, List.getElem_cons_zero, List.getElem_cons_succ, List.setIfInBounds_toArray, List.set_cons_zero, List.set_cons_succ]
          refine wpAnyH_take (i := 6) (v := ?_) rfl (by kernel_rfl) (by kernel_rfl) (by kernel_rfl) (fun _ _ _ h => h) (Or.inl ⟨by kernel_rfl, ?_⟩) hH0 ?_
          rotate_left 1
          · intro w hSw
            go_simp
            try with_reducible rfl
          try simp only [Act.put, List.getElem_toArray, List.getElem_cons_zero, List.getElem_cons_succ, List.setIfInBounds_toArray, List.set_cons_zero, List.set_cons_succ]
          refine wpAnyH_take (i := 7) (v := _) rfl (by kernel_rfl) (by kernel_rfl) (by kernel_rfl) (fun _ _ _ h => h) (yieldsIf_load_mid (by kernel_rfl) _ _ rfl _ _ rfl yc _ (fun W hW => range_below hr2 hW ly) xund rfl d2) hH0 ?_
          try simp only [Act.put, List.getElem_toArray, List.getElem_cons_zero, List.getElem_cons_succ, List.setIfInBounds_toArray, List.set_cons_zero, List.set_cons_succ]
          refine wpAnyH_take (i := 8) (v := ?_) rfl (by kernel_rfl) (by kernel_rfl) (by kernel_rfl) (fun _ _ _ h => h) (Or.inl ⟨by kernel_rfl, ?_⟩) hH0 ?_
          rotate_left 1
          · intro w hSw
            go_simp
            try with_reducible rfl
          try simp only [Act.put, List.getElem_toArray, List.getElem_cons_zero, List.getElem_cons_succ, List.setIfInBounds_toArray, List.set_cons_zero, List.set_cons_succ]
          refine wpAnyH_done (by kernel_rfl) ?_ _
          have HH := Lib.hid hH0
          clear hH0
          have hr2 : res = false := by
            rw [Hres.out]
            refine decide_eq_false (fun e => ?_)
            have h3 : x = y := Hxy.out.2 (by subst e; rfl)
            exact absurd h3 (of_decide_eq_false Hg.out.symm)
          subst hr2
          go_wp2_with fail
          go_ret
          exact ⟨rfl, Hb.out.trans (HH.out.mono Hb.out.size)⟩
      · obtain rfl : k = n := by omega
        have j1 : ¬ (k : Int) < (k : Int) := by omega
        have hr2 : res = true := by
          rw [Hres.out]
          exact decide_eq_true (list_same (by rw [← Hn.out, ← Hm.out]) (fun j h1 h2 => Hall.out j h1 h2 (by rw [Hn.out]; exact h1)))
        subst hr2
        go_wp2_with fail
        go_ret
        exact ⟨rfl, Hb.out⟩
  · have e0 : ((n : Int) != (m : Int)) = true := by simp; omega
    have hr2 : res = false := by
      rw [Hres.out]
      exact decide_eq_false (fun e => hnm (by rw [Hn.out, Hm.out, e]))
    subst hr2
    clear hnm
    go_wp2_with fail
    go_ret
    exact ⟨rfl, Below.refl _ _⟩
end Wi
end Go.Proofs.YthcmlbbbbcinkaaDoor
