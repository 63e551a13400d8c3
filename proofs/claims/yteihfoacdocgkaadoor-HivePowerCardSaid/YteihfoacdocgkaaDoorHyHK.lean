/-
  Layer 5's laws: digests in their order: bytes.Compare, stamp.Less, what Keys sorts by.
-/
import Derived.Test.YteihfoacdocgkaaDoorHyEG
import Derived.Laws.StructEq
import Derived.Lib.Bytealg
import Derived.Lib.BytesEntry
import Derived.Sort.Grow
import Derived.Laws.Externs
set_option linter.unusedVariables false
set_option linter.unusedSimpArgs false
namespace Go.Proofs.YteihfoacdocgkaaDoor
open Go.RowKit Pl Sh
attribute [local go_sem] Lb.ba_get Lb.ba_cut Lb.ba_add Lb.ba_size Lb.take_rest

def recEq (a b : RecD) : Bool := a.key == b.key && (a.code == b.code && a.out == b.out)
theorem recEq_iff {a b : RecD} : recEq a b = true ↔ a = b := by
  obtain ⟨k, c, o⟩ := a
  obtain ⟨k', c', o'⟩ := b
  unfold recEq
  simp
theorem rec_fields : (Tryd.prog.fieldsOf 26).toList = [{ name := "Key", type := 23, offset := 0, embedded := false, tag := "", pkgPath := "", byteOffset := 0 }, { name := "Code", type := 24, offset := 32, embedded := false, tag := "", pkgPath := "", byteOffset := 32 }, { name := "Out", type := 23, offset := 33, embedded := false, tag := "", pkgPath := "", byteOffset := 40 }] := by kernel_rfl
theorem dig_size_run : ∀ w : World, (sizeOf 23).run Tryd.prog w = .ok 32 w := fun w => by kernel_rfl
theorem rec_parts {r : RecD} (h : r.Fit) (w : World) : (part 23 r.row 0).run Tryd.prog w = .ok (.agg (digV r.key)) w ∧ (part 24 r.row 32).run Tryd.prog w = .ok (.int .i64 r.code) w ∧ (part 23 r.row 33).run Tryd.prog w = .ok (.agg (digV r.out)) w := by
  have hk := h.k
  have ho := h.o
  have e1 : r.row.extract 0 32 = digV r.key := by
    unfold RecD.row RecD.cells digV
    rw [List.extract_toArray, List.extract_eq_take_drop]
    simp [byV_length, hk]
  have e2 : r.row[32]? = some (.int .i64 r.code) := by
    unfold RecD.row RecD.cells
    rw [List.getElem?_toArray, List.getElem?_append_right (by rw [byV_length]; omega), byV_length, hk]
    rfl
  have e3 : r.row.extract 33 65 = digV r.out := by
    unfold RecD.row RecD.cells digV
    rw [List.extract_toArray, List.extract_eq_take_drop, List.drop_append, List.drop_of_length_le (by rw [byV_length]; omega), byV_length, hk]
    simp only [Nat.add_one_sub_one, Nat.reduceSub, List.drop_succ_cons, List.drop_zero, List.nil_append]
    rw [List.take_of_length_le (by rw [byV_length]; omega)]
  refine ⟨?_, ?_, ?_⟩
  · simp [part, isAgg, run_underlying Tryd.underlying23, dig_size_run, e1]
  · simp [part, isAgg, run_underlying Tryd.underlying24, e2]
  · simp [part, isAgg, run_underlying Tryd.underlying23, dig_size_run, e3]
theorem eqF_cons {P : Program} {d : Nat} {xs ys : Array Value} {f : Field} {fs : List Field} {w : World} {a b : Value} {r : Bool} (hn : f.name ≠ "_") (ha : (part f.type xs f.offset).run P w = .ok a w) (hb : (part f.type ys f.offset).run P w = .ok b w) (hr : (Op.equalIn d f.type a b).run P w = .ok r w) :
    (Op.eqFields d xs ys (f :: fs)).run P w = if r = true then (Op.eqFields d xs ys fs).run P w else .ok false w := by
  simp only [Op.eqFields]
  rw [if_pos hn]
  simp only [Sem.run_bind, ha, hb, hr, Result.andThen_ok]
  cases r <;> simp
theorem eqF_nil {P : Program} {d : Nat} {xs ys : Array Value} {w : World} : (Op.eqFields d xs ys []).run P w = .ok true w := by
  unfold Op.eqFields
  simp
theorem eqIn_rec' (d : Nat) (w : World) (a b : RecD) (ha : a.Fit) (hb : b.Fit) : (Op.equalIn (d + 3) 26 (.agg a.row) (.agg b.row)).run Tryd.prog w = .ok (recEq a b) w := by
  have ea : (Op.equalIn (d + 2) 23 (.agg (digV a.key)) (.agg (digV b.key))).run Tryd.prog w = .ok (a.key == b.key) w := run_equalIn_bytes (P := Tryd.prog) w d 23 5 32 Tryd.underlying23 Tryd.underlying5 u8_size a.key b.key ha.k hb.k
  have eo : (Op.equalIn (d + 2) 23 (.agg (digV a.out)) (.agg (digV b.out))).run Tryd.prog w = .ok (a.out == b.out) w := run_equalIn_bytes (P := Tryd.prog) w d 23 5 32 Tryd.underlying23 Tryd.underlying5 u8_size a.out b.out ha.o hb.o
  have ec : (Op.equalIn (d + 2) 24 (.int .i64 a.code) (.int .i64 b.code)).run Tryd.prog w = .ok (a.code == b.code) w := run_equalIn_int w (d + 1) 24 .i64 .i64 _ _ Tryd.underlying24
  obtain ⟨a1, a2, a3⟩ := rec_parts ha w
  obtain ⟨b1, b2, b3⟩ := rec_parts hb w
  have hu : Tryd.prog.underlying 26 = some (.struct (Tryd.prog.fieldsOf 26)) := by kernel_rfl
  have hs : Tryd.prog.stoodInHeld 26 = false := by kernel_rfl
  refine (run_equalIn_agg w (d + 2) 26 a.row b.row hu hs).trans ?_
  rw [rec_fields]
  refine (eqF_cons (d := d + 2) (xs := a.row) (ys := b.row) (f := { name := "Key", type := 23, offset := 0, embedded := false, tag := "", pkgPath := "", byteOffset := 0 }) (by decide) a1 b1 ea).trans ?_
  unfold recEq
  cases h1 : a.key == b.key with
  | false => simp only [Bool.false_eq_true, if_false, Bool.false_and]
  | true =>
    rw [if_pos rfl]
    refine (eqF_cons (d := d + 2) (xs := a.row) (ys := b.row) (f := { name := "Code", type := 24, offset := 32, embedded := false, tag := "", pkgPath := "", byteOffset := 32 }) (by decide) a2 b2 ec).trans ?_
    cases h2 : a.code == b.code with
    | false => simp only [Bool.false_eq_true, if_false, Bool.false_and, Bool.and_false]
    | true =>
      rw [if_pos rfl]
      refine (eqF_cons (d := d + 2) (xs := a.row) (ys := b.row) (f := { name := "Out", type := 23, offset := 33, embedded := false, tag := "", pkgPath := "", byteOffset := 40 }) (by decide) a3 b3 eo).trans ?_
      cases h3 : a.out == b.out with
      | false => simp only [Bool.false_eq_true, if_false, Bool.false_and, Bool.and_false]
      | true => rw [if_pos rfl]; exact eqF_nil
theorem eqIn_rec (w : World) (a b : RecD) (ha : a.Fit) (hb : b.Fit) : (Op.equalIn 10000 26 (.agg a.row) (.agg b.row)).run Tryd.prog w = .ok (recEq a b) w := eqIn_rec' 9997 w a b ha hb
end Go.Proofs.YteihfoacdocgkaaDoor

set_option linter.unusedVariables false
set_option linter.unusedSimpArgs false
namespace Go.Proofs.YteihfoacdocgkaaDoor
open Go.RowKit Pl Sh
attribute [local go_sem] Lb.ba_get Lb.ba_cut Lb.ba_add Lb.ba_size Lb.take_rest

theorem flat_at {α β : Type} (f : α → List β) (n : Nat) : ∀ (rs : List α), (∀ r ∈ rs, (f r).length = n) → ∀ (i k : Nat) (hi : i < rs.length), k < n → ((rs.map f).flatten)[i * n + k]? = (f rs[i])[k]?
  | [], _, i, k, hi, _ => by simp at hi
  | a :: rs, h, 0, k, hi, hk => by
    have ha := h a (by simp)
    rw [List.map_cons, List.flatten_cons, Nat.zero_mul, Nat.zero_add, List.getElem?_append_left (by omega)]
    rfl
  | a :: rs, h, i + 1, k, hi, hk => by
    have ha := h a (by simp)
    have hl : i < rs.length := by simpa using hi
    have e : (i + 1) * n + k = (i * n + k) + n := by rw [Nat.add_mul]; omega
    rw [List.map_cons, List.flatten_cons, e, List.getElem?_append_right (by omega), ha, Nat.add_sub_cancel, flat_at f n rs (fun r hr => h r (by simp [hr])) i k hl hk]
    rfl
def recsC (rs : List RecD) : List Value := (rs.map RecD.cells).flatten
/-- a list of records of the call's own: it begins its block -/
structure RecL (w : World) (g : Nat) (v : Value) (rs : List RecD) : Prop where
  bag : ∃ cap, v = .slice (some ⟨g, 0, none⟩) rs.length cap ∧ Bag w 65 g cap rs.length (recsC rs)
  fit : ∀ r ∈ rs, r.Fit
theorem RecL.lt {w : World} {g : Nat} {v : Value} {rs : List RecD} (h : RecL w g v rs) : g < w.heap.size := by
  obtain ⟨cap, -, hb⟩ := h.bag
  exact hb.lt
theorem RecL.keep {w w' : World} {g : Nat} {v : Value} {rs : List RecD} (h : RecL w g v rs) (hb : w'.heap[g]? = w.heap[g]?) : RecL w' g v rs := by
  obtain ⟨cap, e, hb'⟩ := h.bag
  exact ⟨⟨cap, e, hb'.keep hb⟩, h.fit⟩
theorem RecL.only {w w' : World} {g : Nat} {v : Value} {rs : List RecD} {S : List Nat} (h : RecL w g v rs) (ho : Only S w w') (hg : g ∉ S) : RecL w' g v rs := h.keep (ho.block g h.lt hg)
theorem RecL.below {w w' : World} {g : Nat} {v : Value} {rs : List RecD} (h : RecL w g v rs) (hb : Below w.heap.size w w') : RecL w' g v rs := h.keep (hb.block g h.lt)
theorem RecL.range {w : World} {g : Nat} {v : Value} {rs : List RecD} (h : RecL w g v rs) (i : Nat) (hi : i < rs.length) : w.rangeAt g (i * 65) rs[i].cells := by
  obtain ⟨cap, -, hb⟩ := h.bag
  intro k u hu
  have hk : k < 65 := by have := (List.getElem?_eq_some_iff.1 hu).1; rw [RecD.len (h.fit _ (List.getElem_mem hi))] at this; exact this
  refine hb.holds (i * 65 + k) u ?_
  unfold recsC
  rw [flat_at RecD.cells 65 rs (fun r hr => RecD.len (h.fit r hr)) i k hi hk]
  exact hu
def KnownPost (rs : List RecD) (r : RecD) (w : World) (e : Ending) (w' : World) : Prop := ∃ b : Bool, e = .returned (.bool b) ∧ (b = true ↔ r ∈ rs) ∧ Below w.heap.size w w'
set_option maxHeartbeats 4000000 in
set_option maxRecDepth 100000 in
theorem known_any (g : Nat) (v : Value) (rs : List RecD) (r : RecD) (w : World) (h : RecL w g v rs) (hl : rs.length ≤ 1000) (hf : r.Fit) :
    Calls Tryd.prog 37 #[v, .agg r.row] w (KnownPost rs r w) := by
  obtain ⟨cap, rfl, hbag⟩ := h.bag
  have hb1 := (Below.refl w.heap.size w).alloc (Nat.le_refl _) (.cells r.row 26)
  have hn0 := heap_alloc_new w (.cells r.row 26)
  have h1 := h.below hb1
  obtain ⟨w1, hw1⟩ : ∃ y, y = w.alloc (.cells r.row 26) := ⟨_, rfl⟩
  obtain ⟨qb, hq⟩ : ∃ y, y = w.heap.size := ⟨_, rfl⟩
  rw [← hw1] at h1 hn0 hb1
  rw [← hq] at hn0
  have H1 := Lib.hid h1
  have Hb1 := Lib.hid hb1
  have Hn0 := Lib.hid hn0
  have Hf := Lib.hid hf
  have Hw1 := Lib.hid hw1
  have Hq := Lib.hid hq
  obtain ⟨n, hn⟩ : ∃ n, n = rs.length := ⟨_, rfl⟩
  rw [← hn] at hl ⊢
  have Hn := Lib.hid hn
  have n63 : (n : Int) ≤ 1000 := by omega
  clear hb1 hn0 h1 hw1 hq hn hbag
  go_enter Tryd.func37, Tryd.ntmps37
  go_upto_region 1 with fail
  rw [← Hw1.out, ← Hq.out]
  go_wp2_with fail
  go_loopw [5] (fun i wr => ∃ k : Nat, k ≤ n ∧ i = .int .i64 k ∧ (∀ (j : Nat) (hj : j < rs.length), j < k → rs[j] ≠ r) ∧ Below w1.heap.size w1 wr) (fun i _ => n - (intOf i).toNat)
  case atStart => exact ⟨0, by omega, rfl, (fun j hj h => by omega), Below.refl _ _⟩
  case round =>
    obtain ⟨k, hk, rfl, hno, hb⟩ := hrel
    have Hno := Lib.hid hno
    have Hb := Lib.hid hb
    clear hno hb
    by_cases hkn : k < n
    · have j1 : (k : Int) < (n : Int) := by omega
      have hkl : k < rs.length := by rw [← Hn.out]; exact hkn
      have hrl := H1.out.below Hb.out
      have r1 := hrl.range k hkl
      have l1 : g < wr.heap.size := hrl.lt
      have hxf : rs[k].Fit := H1.out.fit _ (List.getElem_mem hkl)
      have hq1 := below_keep Hb.out Hn0.out
      have r2 := (rec_blk hq1).2
      have l2 : qb < wr.heap.size := heap_lt hq1
      obtain ⟨x, hx⟩ : ∃ x, x = rs[k] := ⟨_, rfl⟩
      rw [← hx] at r1 hxf
      have heq : ∀ W : World, (Op.equalIn 10000 26 (.agg x.cells.toArray) (.agg r.cells.toArray)).run Tryd.prog W = .ok (recEq x r) W := fun W => eqIn_rec W x r hxf Hf.out
      have i1 : (Tryd.prog.info? 26).map (·.size) = some x.cells.length := by rw [rec_info, RecD.len hxf]
      have i2 : (Tryd.prog.info? 26).map (·.size) = some r.cells.length := by rw [rec_info, RecD.len Hf.out]
      have rund := Tryd.underlying26
      obtain ⟨b, hbq⟩ : ∃ b, b = recEq x r := ⟨_, rfl⟩
      rw [← hbq] at heq
      obtain ⟨xc, hxc⟩ : ∃ c, c = x.cells := ⟨_, rfl⟩
      obtain ⟨rc, hrc⟩ : ∃ c, c = r.cells := ⟨_, rfl⟩
      rw [← hxc] at r1 heq i1
      rw [← hrc] at r2 heq i2
      have Hx := Lib.hid hx
      have Hbq := Lib.hid hbq
      clear hx hbq hxc hrc hrl hq1 hxf
      go_upto_region 4 with fail
      cases b with
      | true =>
        refine wp_region_held_drew (S := fun w' => Below wr.heap.size wr w') (by kernel_rfl) ((Below.refl _ _).drew) (fun hH0 => ?_)
        obtain ⟨W0, hW0⟩ : ∃ W, W = wr.drew := ⟨_, rfl⟩
        rw [← hW0] at hH0 ⊢
        clear hW0
        refine wpAnyH_take (i := 0) (v := ?_) rfl (by kernel_rfl) (by kernel_rfl) (by kernel_rfl) (fun _ _ _ h => h) (Or.inl ⟨by kernel_rfl, ?_⟩) hH0 ?_
        rotate_left 1
        · intro w hSw
          go_simp
          try with_reducible rfl
        try simp only [Act.put, List.getElem_toArray, List.getElem_cons_zero, List.getElem_cons_succ, List.setIfInBounds_toArray, List.set_cons_zero, List.set_cons_succ]
        refine wpAnyH_take (i := 1) (v := ?_) rfl (by kernel_rfl) (by kernel_rfl) (by kernel_rfl) (fun _ _ _ h => h) (Or.inl ⟨by kernel_rfl, ?_⟩) hH0 ?_
        rotate_left 1
        · intro w hSw
          go_simp
          try with_reducible rfl
        try simp only [Act.put, List.getElem_toArray, List.getElem_cons_zero, List.getElem_cons_succ, List.setIfInBounds_toArray, List.set_cons_zero, List.set_cons_succ]
        refine wpAnyH_take (i := 2) (v := ?_) rfl (by kernel_rfl) (by kernel_rfl) (by kernel_rfl) (fun _ _ _ h => h) (Or.inl ⟨by kernel_rfl, ?_⟩) hH0 ?_
        rotate_left 1
        · intro w hSw
          go_simp
          try with_reducible rfl
        try simp only [Act.put, List.getElem_toArray, List.getElem_cons_zero, List.getElem_cons_succ, List.setIfInBounds_toArray, List.set_cons_zero, List.set_cons_succ]
        refine wpAnyH_take (i := 3) (v := _) rfl (by kernel_rfl) (by kernel_rfl) (by kernel_rfl) (fun _ _ _ h => h) (yieldsIf_load_mid (by kernel_rfl) _ _ rfl _ _ rfl xc _ (fun W hW => range_below r1 hW l1) rund rfl i1) hH0 ?_
        try simp only [Act.put, List.getElem_toArray, List.getElem_cons_zero, List.getElem_cons_succ, List.setIfInBounds_toArray, List.set_cons_zero, List.set_cons_succ]
        refine wpAnyH_take (i := 4) (v := _) rfl (by kernel_rfl) (by kernel_rfl) (by kernel_rfl) (fun _ _ _ h => h) (yieldsIf_load_mid (by kernel_rfl) _ _ rfl _ _ rfl rc _ (fun W hW => range_below r2 hW l2) rund rfl i2) hH0 ?_
        try simp only [Act.put, List.getElem_toArray, List.getElem_cons_zero, List.getElem_cons_succ, List.setIfInBounds_toArray, List.set_cons_zero, List.set_cons_succ]
        refine wpAnyH_take (i := 5) (v := ?_) rfl (by kernel_rfl) (by kernel_rfl) (by kernel_rfl) (fun _ _ _ h => h) (Or.inl ⟨by kernel_rfl, ?_⟩) hH0 ?_
        rotate_left 1
        · intro w hSw
          go_simp
          try with_reducible rfl
        try simp only [Act.put, List.getElem_toArray, List.getElem_cons_zero, List.getElem_cons_succ, List.setIfInBounds_toArray, List.set_cons_zero, List.set_cons_succ]
        refine wpAnyH_done (by kernel_rfl) ?_ _
        have HH := Lib.hid hH0
        clear hH0
        go_wp2_with fail
        go_ret
        have hxr : x = r := recEq_iff.1 Hbq.out.symm
        exact ⟨true, rfl, ⟨fun _ => by rw [← hxr, Hx.out]; exact List.getElem_mem hkl, fun _ => rfl⟩, Hb1.out.trans ((Hb.out.trans (HH.out.mono Hb.out.size)).mono Hb1.out.size)⟩
      | false =>
        refine wp_region_held_drew (S := fun w' => Below wr.heap.size wr w') (by kernel_rfl) ((Below.refl _ _).drew) (fun hH0 => ?_)
        obtain ⟨W0, hW0⟩ : ∃ W, W = wr.drew := ⟨_, rfl⟩
        rw [← hW0] at hH0 ⊢
        clear hW0
        refine wpAnyH_take (i := 0) (v := ?_) rfl (by kernel_rfl) (by kernel_rfl) (by kernel_rfl) (fun _ _ _ h => h) (Or.inl ⟨by kernel_rfl, ?_⟩) hH0 ?_
        rotate_left 1
        · intro w hSw
          go_simp
          try with_reducible rfl
        try simp only [Act.put, List.getElem_toArray, List.getElem_cons_zero, List.getElem_cons_succ, List.setIfInBounds_toArray, List.set_cons_zero, List.set_cons_succ]
        refine wpAnyH_take (i := 1) (v := ?_) rfl (by kernel_rfl) (by kernel_rfl) (by kernel_rfl) (fun _ _ _ h => h) (Or.inl ⟨by kernel_rfl, ?_⟩) hH0 ?_
        rotate_left 1
        · intro w hSw
          go_simp
          try with_reducible rfl
        try simp only [Act.put, List.getElem_toArray, List.getElem_cons_zero, List.getElem_cons_succ, List.setIfInBounds_toArray, List.set_cons_zero, List.set_cons_succ]
        refine wpAnyH_take (i := 2) (v := ?_) rfl (by kernel_rfl) (by kernel_rfl) (by kernel_rfl) (fun _ _ _ h => h) (Or.inl ⟨by kernel_rfl, ?_⟩) hH0 ?_
        rotate_left 1
        · intro w hSw
          go_simp
          try with_reducible rfl
        try simp only [Act.put, List.getElem_toArray, List.getElem_cons_zero, List.getElem_cons_succ, List.setIfInBounds_toArray, List.set_cons_zero, List.set_cons_succ]
        refine wpAnyH_take (i := 3) (v := _) rfl (by kernel_rfl) (by kernel_rfl) (by kernel_rfl) (fun _ _ _ h => h) (yieldsIf_load_mid (by kernel_rfl) _ _ rfl _ _ rfl xc _ (fun W hW => range_below r1 hW l1) rund rfl i1) hH0 ?_
        try simp only [Act.put, List.getElem_toArray, List.getElem_cons_zero, List.getElem_cons_succ, List.setIfInBounds_toArray, List.set_cons_zero, List.set_cons_succ]
        refine wpAnyH_take (i := 4) (v := _) rfl (by kernel_rfl) (by kernel_rfl) (by kernel_rfl) (fun _ _ _ h => h) (yieldsIf_load_mid (by kernel_rfl) _ _ rfl _ _ rfl rc _ (fun W hW => range_below r2 hW l2) rund rfl i2) hH0 ?_
        try simp only [Act.put, List.getElem_toArray, List.getElem_cons_zero, List.getElem_cons_succ, List.setIfInBounds_toArray, List.set_cons_zero, List.set_cons_succ]
        refine wpAnyH_take (i := 5) (v := ?_) rfl (by kernel_rfl) (by kernel_rfl) (by kernel_rfl) (fun _ _ _ h => h) (Or.inl ⟨by kernel_rfl, ?_⟩) hH0 ?_
        rotate_left 1
        · intro w hSw
          go_simp
          try with_reducible rfl
        try simp only [Act.put, List.getElem_toArray, List.getElem_cons_zero, List.getElem_cons_succ, List.setIfInBounds_toArray, List.set_cons_zero, List.set_cons_succ]
        refine wpAnyH_done (by kernel_rfl) ?_ _
        have HH := Lib.hid hH0
        clear hH0
        go_wp2_with fail
        go_roundw
        case rel => exact ⟨k + 1, by omega, by go_num, (fun j hj hjk => by
          by_cases e : j = k
          · subst e
            intro e2
            have : recEq x r = true := recEq_iff.2 (by rw [Hx.out]; exact e2)
            rw [← Hbq.out] at this; cases this
          · exact Hno.out j hj (by omega)), Hb.out.trans (HH.out.mono Hb.out.size)⟩
        case measure => simp [intOf]; omega
    · obtain rfl : k = n := by omega
      have j1 : ¬ (k : Int) < (k : Int) := by omega
      go_wp2_with fail
      go_ret
      exact ⟨false, rfl, ⟨(fun e => by cases e), fun hm => by
        obtain ⟨j, hj, e⟩ := List.getElem_of_mem hm
        exact absurd e (Hno.out j hj (by rw [Hn.out]; exact hj))⟩, Hb1.out.trans (Hb.out.mono Hb1.out.size)⟩
end Go.Proofs.YteihfoacdocgkaaDoor

set_option linter.unusedVariables false
set_option linter.unusedSimpArgs false
namespace Go.Proofs.YteihfoacdocgkaaDoor
open Go.RowKit Pl Sh

theorem rec_info3 : (Tryd.prog.info? 26).map (fun i => (i.zero, i.size, i.bytes)) = some (some (.agg zeroRec.row), 65, 72) := by kernel_rfl
/-- append to a list that begins its block -/
theorem wpList_append_bagG {P : Program} (w : World) {ops : Array Oper} {rest : List Oper} {o : Oper} {a : Act} {Q : Exit → Act → World → Prop} (hgd : o.guard = none) (s x : Operand) (t tx : TypeId)
    (ho : o.op = .call { callee := .builtin .append, args := #[s, x], argTypes := #[t, tx] })
    {e : TypeId} {size g cap m : Nat} {cs : List Value}
    (i : TypeInfo) (z : Value) (bytes : Nat) (ht : P.underlying t = some (.slice e)) (hi : P.info? e = some i) (hz : i.zero = some z) (hsize : i.size = size) (hby : i.bytes = bytes) (hzs : z.cells.size = size)
    (hv : a.eval s = .slice (some ⟨g, 0, none⟩) m cap) (h : Bag w size g cap m cs)
    (xv : Value) (n : Nat) (news : List Value) (hx : a.eval x = xv) (hs : Src P size tx xv n news w) (h63 : m + n ≤ maxLen) (hbytes : (m + n) * bytes ≤ 140737488355328)
    (hK : ∀ g' cap' w', Bag w' size g' cap' (m + n) (cs ++ news) → Only [g] w w' → (g' = g ∨ w.heap.size ≤ g') → wpList P ops Q rest (a.put o.dst (.slice (some ⟨g', 0, none⟩) (m + n) cap')) w') : wpList P ops Q (o :: rest) a w := by
  refine wpList_plain hgd fun K hK' => ?_
  obtain ⟨g', cap', w', hrun, hb, hO, hor⟩ := run_append_bag (P := P) t tx o.type e i z bytes ht hi hz hsize hby hzs h xv n news hs h63 hbytes
  unfold Oper.wp
  simp [execOp, ho, resolve, invoke, builtin, hv, hx, hrun, Result.andThen]
  exact hK' _ _ (hK g' cap' w' hb hO hor)
/-- a list of texts of the call's own: it begins its block -/
structure StrL (w : World) (g : Nat) (v : Value) (ls : List (List UInt8)) : Prop where
  bag : ∃ cap, v = .slice (some ⟨g, 0, none⟩) ls.length cap ∧ Bag w 1 g cap ls.length (rowT ls)
theorem StrL.lt {w : World} {g : Nat} {v : Value} {ls : List (List UInt8)} (h : StrL w g v ls) : g < w.heap.size := by
  obtain ⟨cap, -, hb⟩ := h.bag
  exact hb.lt
theorem StrL.keep {w w' : World} {g : Nat} {v : Value} {ls : List (List UInt8)} (h : StrL w g v ls) (hb : w'.heap[g]? = w.heap[g]?) : StrL w' g v ls := by
  obtain ⟨cap, e, hb'⟩ := h.bag
  exact ⟨⟨cap, e, hb'.keep hb⟩⟩
theorem StrL.only {w w' : World} {g : Nat} {v : Value} {ls : List (List UInt8)} {S : List Nat} (h : StrL w g v ls) (ho : Only S w w') (hg : g ∉ S) : StrL w' g v ls := h.keep (ho.block g h.lt hg)
theorem StrL.below {w w' : World} {g : Nat} {v : Value} {ls : List (List UInt8)} (h : StrL w g v ls) (hb : Below w.heap.size w w') : StrL w' g v ls := h.keep (hb.block g h.lt)
theorem StrL.strs {w : World} {g : Nat} {v : Value} {ls : List (List UInt8)} (h : StrL w g v ls) : ∃ cap, v = .slice (some ⟨g, 0, none⟩) ls.length cap ∧ Strs w w.heap.size (some ⟨g, 0, none⟩) ls := by
  obtain ⟨cap, e, hb⟩ := h.bag
  refine ⟨cap, e, fun i hi => ⟨_, rfl, hb.lt, ?_⟩⟩
  rw [Addr.add_lit, Nat.zero_add]
  refine hb.holds i _ ?_
  unfold rowT
  rw [List.getElem?_map, List.getElem?_eq_getElem hi]
  rfl
/-- texts more on a list of the call's own -/
theorem wpList_strL (w : World) {ops : Array Oper} {rest : List Oper} {o : Oper} {a : Act} {Q : Exit → Act → World → Prop} (hgd : o.guard = none) (s x : Operand)
    (ho : o.op = .call { callee := .builtin .append, args := #[s, x], argTypes := #[49, 49] })
    {g : Nat} {v : Value} {ls : List (List UInt8)} (hv : a.eval s = v) (h : StrL w g v ls)
    (xv : Value) (ls2 : List (List UInt8)) (hx : a.eval x = xv) (hs : Src Tryd.prog 1 49 xv ls2.length (rowT ls2) w) (hl : ls.length + ls2.length ≤ 1000)
    (hK : ∀ g' v' w', StrL w' g' v' (ls ++ ls2) → Only [g] w w' → (g' = g ∨ w.heap.size ≤ g') → wpList Tryd.prog ops Q rest (a.put o.dst v') w') : wpList Tryd.prog ops Q (o :: rest) a w := by
  obtain ⟨i0, hi0, hz0, hz1, hz2⟩ := info_parts str_info
  obtain ⟨cap, rfl, hb⟩ := h.bag
  refine wpList_append_bagG w hgd s x 49 49 ho i0 _ 16 Tryd.underlying49 hi0 hz0 hz1 hz2 rfl hv hb xv ls2.length (rowT ls2) hx hs (by unfold maxLen; omega) (by omega) (fun g' cap' w' hb' hO hor => ?_)
  refine hK g' _ w' ⟨cap', ?_, ?_⟩ hO hor
  · rw [List.length_append]
  · rw [List.length_append, rowT_append]; exact hb'
theorem RecL.nil {w : World} {g : Nat} {v : Value} (hb : ∃ cap, v = .slice (some ⟨g, 0, none⟩) 0 cap ∧ Bag w 65 g cap 0 []) : RecL w g v [] := ⟨hb, fun r hr => by cases hr⟩
theorem recsC_append (a b : List RecD) : recsC (a ++ b) = recsC a ++ recsC b := by unfold recsC; rw [List.map_append, List.flatten_append]
theorem recsC_len : ∀ (rs : List RecD), (∀ r ∈ rs, r.Fit) → (recsC rs).length = rs.length * 65
  | [], _ => rfl
  | a :: rs, h => by
    have ih := recsC_len rs (fun r hr => h r (List.mem_cons_of_mem _ hr))
    have ha := RecD.len (h a (by simp))
    unfold recsC at ih ⊢
    rw [List.map_cons, List.flatten_cons, List.length_append, ih, ha, List.length_cons]
    omega
theorem recsC_one (rs : List RecD) : ∀ u ∈ recsC rs, u.oneCell' = true := by
  intro u hu
  unfold recsC at hu
  obtain ⟨l, hl, hul⟩ := List.mem_flatten.1 hu
  obtain ⟨r, -, rfl⟩ := List.mem_map.1 hl
  obtain ⟨kd, n, rfl⟩ := rec_cells_int r u hul
  rfl
theorem RecL.src {w : World} {g : Nat} {v : Value} {rs : List RecD} (h : RecL w g v rs) : Src Tryd.prog 65 33 v rs.length (recsC rs) w := by
  obtain ⟨cap, rfl, hb⟩ := h.bag
  refine Src.ofSlice w Tryd.underlying33 ⟨g, 0, none⟩ rs.length cap (recsC rs) (recsC_len rs h.fit) (fun j u hu => ?_) (recsC_one rs)
  rw [Addr.add_lit, Nat.zero_add]
  exact hb.holds j u hu
/-- records more on a list of the call's own -/
theorem wpList_recL (w : World) {ops : Array Oper} {rest : List Oper} {o : Oper} {a : Act} {Q : Exit → Act → World → Prop} (hgd : o.guard = none) (s x : Operand)
    (ho : o.op = .call { callee := .builtin .append, args := #[s, x], argTypes := #[33, 33] })
    {g : Nat} {v : Value} {rs : List RecD} (hv : a.eval s = v) (h : RecL w g v rs)
    (xv : Value) (rs2 : List RecD) (hx : a.eval x = xv) (hf2 : ∀ r ∈ rs2, r.Fit) (hs : Src Tryd.prog 65 33 xv rs2.length (recsC rs2) w) (hl : rs.length + rs2.length ≤ 1000)
    (hK : ∀ g' v' w', RecL w' g' v' (rs ++ rs2) → Only [g] w w' → (g' = g ∨ w.heap.size ≤ g') → wpList Tryd.prog ops Q rest (a.put o.dst v') w') : wpList Tryd.prog ops Q (o :: rest) a w := by
  obtain ⟨i0, hi0, hz0, hz1, hz2⟩ := info_parts rec_info3
  obtain ⟨cap, rfl, hb⟩ := h.bag
  refine wpList_append_bagG w hgd s x 33 33 ho i0 _ 72 Tryd.underlying33 hi0 hz0 hz1 hz2 (RecD.row_size zeroRec_fit) hv hb xv rs2.length (recsC rs2) hx hs (by unfold maxLen; omega) (by omega) (fun g' cap' w' hb' hO hor => ?_)
  refine hK g' _ w' ⟨⟨cap', ?_, ?_⟩, fun r hr => ?_⟩ hO hor
  · rw [List.length_append]
  · rw [List.length_append, recsC_append]; exact hb'
  · rcases List.mem_append.1 hr with hr | hr
    · exact h.fit r hr
    · exact hf2 r hr
/-- a slice of one record, made for an append -/
theorem rec_src {w : World} {q : Nat} {r : RecD} {T : TypeId} (hf : r.Fit) (h : w.heap[q]? = some (.cells r.row T (0, 0))) (c : Nat) : Src Tryd.prog 65 33 (.slice (some ⟨q, 0, none⟩) 1 c) ([r] : List RecD).length (recsC [r]) w := by
  have e : recsC [r] = r.cells := by unfold recsC; simp
  rw [e]
  refine Src.ofSlice w Tryd.underlying33 ⟨q, 0, none⟩ 1 c r.cells (by rw [RecD.len hf]) (fun j u hu => ?_) (fun u hu => ?_)
  · rw [Addr.add_lit]
    exact (rec_blk h).2 j u hu
  · obtain ⟨kd, n, rfl⟩ := rec_cells_int r u hu
    rfl
end Go.Proofs.YteihfoacdocgkaaDoor

set_option linter.unusedVariables false
set_option linter.unusedSimpArgs false
namespace Go.Proofs.YteihfoacdocgkaaDoor
open Go.RowKit Pl Sh Go.Sort
attribute [local go_sem] Lb.ba_get Lb.ba_cut Lb.ba_add Lb.ba_size Lb.take_rest

theorem load_bytesX (la : List UInt8) (a : Addr) (w : World) (ha : ∀ j x, la[j]? = some x → w.cell? (a.add j) = some (.int .u8 x.toNat)) : (Extern.Bytes.loadBytes a la.length .empty).run Tryd.prog w = .ok ⟨la.toArray⟩ w := by
  have h := Lib.run_loadBytesX (P := Tryd.prog) w (la.map fun b => (b.toNat : Int)) a .empty (fun j x hj => by
    rw [List.getElem?_map] at hj
    cases hl : la[j]? with
    | none => rw [hl] at hj; cases hj
    | some y =>
      rw [hl] at hj
      obtain rfl := Option.some.inj hj
      exact ha j y hl)
  rw [List.length_map] at h
  rw [h]
  congr 2
  have e : Lib.bytesOf (la.map fun b => (b.toNat : Int)) = la := by
    unfold Lib.bytesOf
    rw [List.map_map]
    conv => rhs; rw [← List.map_id la]
    refine List.map_congr_left (fun x _ => ?_)
    simp
  rw [e]
  show (#[] : Array UInt8) ++ la.toArray = la.toArray
  simp
set_option maxHeartbeats 2000000 in
set_option maxRecDepth 100000 in
theorem compare_any (a b : Addr) (c1 c2 : Nat) (la lb : List UInt8) (w : World) (ha : ∀ j x, la[j]? = some x → w.cell? (a.add j) = some (.int .u8 x.toNat)) (hb : ∀ j x, lb[j]? = some x → w.cell? (b.add j) = some (.int .u8 x.toNat)) :
    Calls Tryd.prog 135 #[.slice (some a) la.length c1, .slice (some b) lb.length c2] w fun e w' => e = .returned (.int .i64 (Lib.compareBytes la lb)) ∧ w' = w := by
  have hrun : (Extern.BytealgCompare.compare #[.slice (some a) la.length c1, .slice (some b) lb.length c2]).run Tryd.prog w = .ok (.int .i64 (Lib.compareBytes la lb)) w := by
    change Sem.run Tryd.prog (do pure (goInt (Extern.BytealgCompare.cmp (← Extern.Bytes.bytesOf (.slice (some a) la.length c1)) (← Extern.Bytes.bytesOf (.slice (some b) lb.length c2))))) w = _
    have e1 := load_bytesX la a w ha
    have e2 := load_bytesX lb b w hb
    simp only [Extern.Bytes.bytesOf, Sem.run_bind, Sem.run_pure, Result.andThen, e1, e2]
    rw [Lib.cmp_eq]
    rfl
  obtain ⟨n1, hn1⟩ : ∃ n, n = la.length := ⟨_, rfl⟩
  obtain ⟨n2, hn2⟩ : ∃ n, n = lb.length := ⟨_, rfl⟩
  rw [← hn1, ← hn2] at hrun ⊢
  have Hrun := Lib.hid hrun
  clear hrun ha hb hn1 hn2
  go_enter Tryd.func135, Tryd.ntmps135
  go_wp2
  rw [run_callFunc_extern Tryd.func158 (by kernel_rfl) (by kernel_rfl) (by kernel_rfl) (e := Extern.BytealgCompare.compare) (by kernel_rfl), Hrun.out]
  simp only [Result.andThen]
  rw [Oper.upon_value]
  go_wp2
  go_ret
  exact ⟨rfl, rfl⟩
set_option maxHeartbeats 2000000 in
set_option maxRecDepth 100000 in
theorem less_any (x y : List UInt8) (w : World) (hx : x.length = 32) (hy : y.length = 32) :
    Calls Tryd.prog 83 #[.agg (byV x).toArray, .agg (byV y).toArray] w fun e w' => e = .returned (.bool (decide (Lib.compareBytes x y < 0))) ∧ ∃ n, w' = (((w.alloc (.cells (byV x).toArray 23)).alloc (.cells (byV y).toArray 23))).drewN n := by
  have hA : ∀ (b : Nat) (l : List UInt8) (w : World), w.heap[b]? = some (.cells (byV l).toArray 23 (0, 0)) → ∀ j z, l[j]? = some z → w.cell? ((⟨b, 0, none⟩ : Addr).add j) = some (.int .u8 z.toNat) := fun b l w h j z hj => by
    rw [Addr.add_lit, Lib.cell_of_heap h, Nat.zero_add, List.getElem?_toArray]
    unfold byV
    rw [List.getElem?_map, hj]
    rfl
  have h1 := heap_alloc_new w (.cells (byV x).toArray 23)
  have h2 := heap_alloc_new (w.alloc (.cells (byV x).toArray 23)) (.cells (byV y).toArray 23)
  have h1' := below_keep ((Below.refl (w.alloc (.cells (byV x).toArray 23)).heap.size _).alloc (Nat.le_refl _) (.cells (byV y).toArray 23)) h1
  have hs : (w.alloc (.cells (byV x).toArray 23)).heap.size = w.heap.size + 1 := by simp
  rw [hs] at h2
  have hc := Lib.hid (fun n : Nat => compare_any ⟨w.heap.size, 0, none⟩ ⟨w.heap.size + 1, 0, none⟩ 32 32 x y _ (hA _ x (((w.alloc (.cells (byV x).toArray 23)).alloc (.cells (byV y).toArray 23)).drewN n) h1') (hA _ y _ h2))
  rw [hx, hy] at hc
  obtain ⟨xc, hxc⟩ : ∃ c, c = (byV x).toArray := ⟨_, rfl⟩
  obtain ⟨yc, hyc⟩ : ∃ c, c = (byV y).toArray := ⟨_, rfl⟩
  obtain ⟨cv, hcv⟩ : ∃ c, c = Lib.compareBytes x y := ⟨_, rfl⟩
  rw [← hxc, ← hyc] at hc ⊢
  rw [← hcv] at hc ⊢
  clear h1 h2 h1' hs hA hxc hyc hcv
  go_enter Tryd.func83, Tryd.ntmps83
  go_upto_region 1 with fail
  go_quiet ((go_at_call 135; exact Calls.quiet_of_same (hc.out _)))
  go_wp2_with fail
  go_ret
  exact ⟨by simp, _, rfl⟩
def cfK (x y : List UInt8) : Int := if Lib.compareBytes x y < 0 then -1 else 1
set_option maxHeartbeats 2000000 in
set_option maxRecDepth 100000 in
theorem keysLess_any (x y : List UInt8) (w : World) (hx : x.length = 32) (hy : y.length = 32) :
    Calls Tryd.prog 82 #[.agg (byV x).toArray, .agg (byV y).toArray] w fun e w' => e = .returned (.int .i64 (cfK x y)) ∧ ∃ q os, w' = Sort.grow (w.drewN q) os := by
  have h1 := heap_alloc_new w (.cells (byV x).toArray 23)
  have h2 := heap_alloc_new (w.alloc (.cells (byV x).toArray 23)) (.cells (byV y).toArray 23)
  have h1' := below_keep ((Below.refl (w.alloc (.cells (byV x).toArray 23)).heap.size _).alloc (Nat.le_refl _) (.cells (byV y).toArray 23)) h1
  have hs : (w.alloc (.cells (byV x).toArray 23)).heap.size = w.heap.size + 1 := by simp
  rw [hs] at h2
  have hl := Lib.hid (less_any x y ((w.alloc (.cells (byV x).toArray 23)).alloc (.cells (byV y).toArray 23)) hx hy)
  have dx : (Tryd.prog.info? 23).map (·.size) = some (byV x).toArray.size := by rw [dig_info]; simp [byV_length, hx]
  have dy : (Tryd.prog.info? 23).map (·.size) = some (byV y).toArray.size := by rw [dig_info]; simp [byV_length, hy]
  have dund := Tryd.underlying23
  obtain ⟨xc, hxc⟩ : ∃ c, c = (byV x).toArray := ⟨_, rfl⟩
  obtain ⟨yc, hyc⟩ : ∃ c, c = (byV y).toArray := ⟨_, rfl⟩
  obtain ⟨b, hb⟩ : ∃ b, b = decide (Lib.compareBytes x y < 0) := ⟨_, rfl⟩
  have hcf : cfK x y = if b = true then -1 else 1 := by unfold cfK; rw [hb]; simp
  rw [hcf]
  rw [← hxc] at h1' dx h2 hl ⊢
  rw [← hyc] at h1' dy h2 hl ⊢
  rw [← hb] at hl
  have H1 := Lib.hid h1'
  have H2 := Lib.hid h2
  clear h1 h2 h1' hs hxc hyc hb hcf
  go_enter Tryd.func82, Tryd.ntmps82
  go_wp2_with (first
    | (refine wpList_load_row rfl 23 _ rfl w.heap.size rfl 23 xc (0, 0) _ H1.out dund rfl dx ?_)
    | (refine wpList_load_row rfl 23 _ rfl (w.heap.size + 1) rfl 23 yc (0, 0) _ H2.out dund rfl dy ?_))
  refine hl.out.mono ?_
  rintro e w2 ⟨rfl, n, rfl⟩
  have hgrow : Hid (∃ q os, ((((w.alloc (.cells xc 23)).alloc (.cells yc 23)).alloc (.cells xc 23)).alloc (.cells yc 23)).drewN n = Sort.grow (w.drewN q) os) := Lib.hid ⟨n, #[.cells xc 23, .cells yc 23, .cells xc 23, .cells yc 23], by
    rw [Sort.alloc_eq_grow, Sort.alloc_eq_grow, Sort.alloc_eq_grow, Sort.alloc_eq_grow, Sort.grow_grow, Sort.grow_grow, Sort.grow_grow]
    rfl⟩
  cases b
  all_goals
    go_wp2_with fail
    go_ret
    exact ⟨rfl, hgrow.out⟩
theorem cb_lt : ∀ (x y : List UInt8), Lib.compareBytes x y < 0 ↔ x < y
  | [], [] => by simp [Lib.compareBytes]
  | [], _ :: _ => by simp [Lib.compareBytes]
  | _ :: _, [] => by simp [Lib.compareBytes]
  | a :: x, b :: y => by
    have ih := cb_lt x y
    unfold Lib.compareBytes
    rw [List.cons_lt_cons_iff, ← ih]
    by_cases h : a < b
    · simp [h]
    · by_cases h2 : b < a
      · have hne : a ≠ b := fun e => by subst e; exact h h2
        simp [h, h2, hne]
      · have e : a = b := UInt8.le_antisymm (UInt8.not_lt.1 h2) (UInt8.not_lt.1 h)
        subst e
        simp [h]
abbrev D32 := { l : List UInt8 // l.length = 32 }
def cf32 (x y : D32) : Int := cfK x.1 y.1
theorem cf32_lt (x y : D32) : ltOf cf32 x y = decide (x.1 < y.1) := by
  unfold ltOf cf32 cfK
  by_cases h : Lib.compareBytes x.1 y.1 < 0
  · rw [if_pos h]
    have := (cb_lt x.1 y.1).1 h
    simp [this]
  · rw [if_neg h]
    have h2 : ¬ x.1 < y.1 := fun e => h ((cb_lt x.1 y.1).2 e)
    simp [h2]
theorem swo32 : Sort.SWO (ltOf cf32) := by
  refine ⟨fun x => ?_, fun x y z h1 h2 => ?_, fun x y z h1 h2 => ?_⟩
  · rw [cf32_lt]; exact decide_eq_false (List.lt_irrefl x.1)
  · rw [cf32_lt] at h1 h2 ⊢
    exact decide_eq_true (List.lt_trans (of_decide_eq_true h1) (of_decide_eq_true h2))
  · rw [cf32_lt] at h1 h2 ⊢
    have a1 := of_decide_eq_false h1
    have a2 := of_decide_eq_false h2
    exact decide_eq_false (fun h3 => by
      have b1 : y.1 ≤ x.1 := List.not_lt.1 a1
      have b2 : z.1 ≤ y.1 := List.not_lt.1 a2
      exact absurd h3 (List.not_lt.2 (List.le_trans b2 b1)))
instance : Inhabited D32 := ⟨⟨List.replicate 32 0, by simp⟩⟩
def enc32 (x : D32) : List Value := byV x.1
theorem enc32_len (x : D32) : (enc32 x).length = 32 := by unfold enc32; rw [byV_length]; exact x.2
theorem enc32_one (x : D32) : ∀ v ∈ enc32 x, v.oneCell' = true := by
  intro v hv
  unfold enc32 byV at hv
  obtain ⟨b, -, rfl⟩ := List.mem_map.1 hv
  rfl
theorem flat_d32 (d : Array D32) (t : Nat) (h : t < d.size * 32) : (((d.toList.map (·.1)).map byV).flatten)[t]? = some ((flatK enc32 32 d)[t]!) := by
  have hk : t / 32 < d.size := by omega
  have e : t = (t / 32) * 32 + t % 32 := by omega
  rw [get_flatK _ _ _ t h]
  have h1 := flat_at byV 32 (d.toList.map (·.1)) (fun r hr => by
    obtain ⟨x, -, rfl⟩ := List.mem_map.1 hr
    rw [byV_length]; exact x.2) (t / 32) (t % 32) (by simpa using hk) (by omega)
  rw [← e] at h1
  rw [h1]
  have hx : (d.toList.map (·.1))[t / 32]'(by simpa using hk) = (d[t / 32]!).1 := by
    rw [List.getElem_map, Array.getElem_toList, getElem!_pos d (t / 32) hk]
  rw [hx]
  have hl : t % 32 < (enc32 d[t / 32]!).length := by rw [enc32_len]; omega
  show (enc32 d[t / 32]!)[t % 32]? = _
  rw [List.getElem?_eq_getElem hl, getElem!_pos (enc32 d[t / 32]!) (t % 32) hl]
theorem d32_of (ks : List (List UInt8)) (h : ∀ k ∈ ks, k.length = 32) : ∃ d : Array D32, d.toList.map (·.1) = ks ∧ d.size = ks.length := by
  refine ⟨(ks.attach.map (fun k => (⟨k.1, h k.1 k.2⟩ : D32))).toArray, ?_, by simp⟩
  simp [List.map_map, Function.comp_def]
theorem d32_len : ∀ l : List D32, (((l.map (·.1)).map byV).flatten).length = l.length * 32
  | [] => rfl
  | a :: l => by
    rw [List.map_cons, List.map_cons, List.flatten_cons, List.length_append, d32_len l, byV_length, a.2, List.length_cons]
    omega
/-- slices.SortFunc of digests, as Keys calls it -/
theorem sortOk_any (ks : List (List UInt8)) : SortOk ks := by
  intro W v B h0 hB h32 hlen
  rcases hB with ⟨rfl, hm, hcs⟩ | ⟨g, cap, rfl, hg, hb⟩
  · have : ks = [] := List.eq_nil_of_length_eq_zero hm
    subst this
    exact sortOk_nil W _ B h0 (.inl ⟨rfl, rfl, hcs⟩) h32 hlen
  · obtain ⟨d, hd, hds⟩ := d32_of ks h32
    have hflat : ∀ t, t < d.size * 32 → (((ks.map byV).flatten))[t]? = some ((flatK enc32 32 d)[t]!) := fun t ht => by rw [← hd]; exact flat_d32 d t ht
    have hle := hb.le
    have hH : HoldsK enc32 32 W g 0 d := fun j hj => by
      rw [size_flatK] at hj
      rw [Nat.zero_add]
      exact ⟨hb.holds j _ (hflat j hj), (hb.there j (by omega)).2⟩
    have hc := AnyQ.slices_SortFunc Tryd.SortDig 32 (fun w => by kernel_rfl) (fun w => by kernel_rfl) enc32 enc32_len enc32_one cf32 swo32 82 #[] g 0 cap d W (enters_of Tryd.func82 (by kernel_rfl) rfl) (fun m os dk hs x y => keysLess_any x.1 y.1 _ x.2 y.2) hH hb.lt (by omega)
    rw [hds] at hc
    refine Calls.mono (show Calls Tryd.prog 81 _ W _ from hc) ?_
    rintro e w' ⟨rfl, d', n, os, hp, hso, rfl⟩
    have hsz := hp.1
    have hlt := hb.lt
    have hlt2 : g < (putRow id (Sort.ahead W n) g 0 (flatK enc32 32 d')).heap.size := by simpa using hlt
    have hfs : (flatK enc32 32 d').size = (flatK enc32 32 d).size := by rw [size_flatK, size_flatK, hsz]
    have hH' : Holds id (putRow id (Sort.ahead W n) g 0 (flatK enc32 32 d')) g 0 (flatK enc32 32 d') := holds_putRow id (Sort.ahead W n) g 0 (flatK enc32 32 d) (flatK enc32 32 d') hH hfs
    have hw : sortWorldK enc32 32 W g 0 n d' os = grow (putRow id (Sort.ahead W n) g 0 (flatK enc32 32 d')) os := rfl
    rw [hw]
    refine ⟨rfl, d'.toList.map (·.1), ?_, ?_, .inr ⟨g, cap, ?_, hg, ⟨?_, hb.max, ?_, ?_, ?_, ?_⟩⟩, ?_⟩
    · have h := hp.2.2
      rw [show d'.extract 0 ks.length = d' by rw [← hds, ← hsz]; exact Array.extract_size, show d.extract 0 ks.length = d by rw [← hds]; exact Array.extract_size] at h
      rw [← hd]
      exact h.map _
    · unfold KSorted
      rw [List.pairwise_iff_getElem]
      intro i j hi hj hij
      simp only [List.length_map, Array.length_toList] at hi hj
      have h := hso i j (Nat.zero_le _) hij (by omega)
      rw [cf32_lt, getElem!_pos d' j hj, getElem!_pos d' i hi] at h
      have h2 := of_decide_eq_false h
      simpa using h2
    · simp [hsz, hds]
    · simp only [List.length_map, Array.length_toList]; omega
    · show g < (grow _ os).heap.size
      rw [size_grow]
      omega
    · rw [d32_len]; simp
    · intro j u hu
      have hj : j < d'.size * 32 := by
        have h := (List.getElem?_eq_some_iff.1 hu).1
        rw [d32_len, Array.length_toList] at h
        exact h
      have h1 := flat_d32 d' j hj
      rw [h1] at hu
      obtain rfl := Option.some.inj hu
      show (grow _ os).cell? _ = _
      rw [cell?_grow _ _ _ hlt2]
      have h2 := (hH' j (by rw [size_flatK]; exact hj)).1
      rw [Nat.zero_add] at h2
      exact h2
    · intro j hj
      obtain ⟨h1, h2⟩ := hb.there j hj
      show ((grow _ os).cell? _).isSome = true ∧ (grow _ os).frozen? _ = false
      rw [cell?_grow _ _ _ hlt2, frozen?_grow _ _ _ hlt2, frozen?_putRow, Sort.frozen?_ahead]
      refine ⟨?_, h2⟩
      by_cases hlt3 : j < (flatK enc32 32 d').size
      · have h3 := (hH' j hlt3).1
        rw [Nat.zero_add] at h3
        rw [h3]; rfl
      · rw [cell?_putRow_other id (Sort.ahead W n) g 0 (flatK enc32 32 d') ⟨g, j, none⟩ (.inr (.inr (by show 0 + _ ≤ j; omega))), Sort.cell?_ahead]
        exact h1
    · refine ⟨rfl, rfl, rfl, by show W.heap.size ≤ (grow _ os).heap.size; rw [size_grow]; simp, fun i hi hn => ?_⟩
      have hig : i ≠ g := fun e => hn (by rw [e]; simp [blkK])
      have hi2 : i < (putRow id (Sort.ahead W n) g 0 (flatK enc32 32 d')).heap.size := by simpa using hi
      show (grow _ os).heap[i]? = _
      rw [heap_grow_old _ _ hi2]
      unfold putRow mapBlock
      show (W.heap.modify g _)[i]? = _
      rw [Array.getElem?_modify, if_neg (fun e => hig e.symm)]
end Go.Proofs.YteihfoacdocgkaaDoor
