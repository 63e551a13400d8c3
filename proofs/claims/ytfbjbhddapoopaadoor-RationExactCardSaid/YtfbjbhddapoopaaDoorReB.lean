/-
  Layer 18: the reference's Same of two answers that are alike; the blob of a digest among texts of which no two have one digest.
-/
import Derived.Test.YtfbjbhddapoopaaDoorReA
set_option linter.unusedVariables false
set_option linter.unusedSimpArgs false
namespace Go.Proofs.YtfbjbhddapoopaaDoor
open Go.RowKit
attribute [local go_sem] Lb.ba_get Lb.ba_cut Lb.ba_add Lb.ba_size Lb.take_rest

theorem wpList_load_midR {P : Program} {ops : Array Oper} {rest : List Oper} {op : Oper} {a : Act} {w : World} {Q : Exit → Act → World → Prop} (hw : Region.wanted op (yielded ops a.tmps) = true) (ty : TypeId) (x : Operand) (ho : op.op = .load ty x)
    (b o : Nat) (hx : a.eval x = .pointer (some ⟨b, o, none⟩)) (cs : List Value) (d : TypeDesc) (hc : w.rangeAt b o cs)
    (hu : P.underlying ty = some d) (hd : d.isRow = true) (hi : (P.info? ty).map (·.size) = some cs.length)
    (h : wpList P ops Q rest (a.put op.dst (.agg cs.toArray)) w) : wpList P ops Q (op :: rest) a w :=
  BigFrame.wpList_want hw fun _ hK => wp_load_mid ty x ho b o hx cs d hc hu hd hi (hK _ _ h)

set_option maxHeartbeats 4000000 in
set_option maxRecDepth 100000 in
theorem rsent_same (t : Int) (f g : FrD) (w : World) (hf : f.Fit) (hg : g.Fit) (mf : f.mani.Ok w w.heap.size) (mg : g.mani.Ok w w.heap.size) (ek : f.kind = g.kind) (eo : f.out = g.out) (ea : f.at_ = g.at_) (ed : f.data = g.data) (em : sameM f.mani g.mani = true) :
    Calls Tryd.prog 31 #[.agg (sentRow t f), .agg (sentRow t g)] w fun e w' => e = .returned (.bool true) ∧ Below w.heap.size w w' := by
  have hq1 := heap_alloc_new w (.cells (sentRow t f) 50)
  have hb1 := (Below.refl w.heap.size w).alloc (Nat.le_refl _) (.cells (sentRow t f) 50)
  obtain ⟨w1, hw1⟩ : ∃ y, y = w.alloc (.cells (sentRow t f) 50) := ⟨_, rfl⟩
  obtain ⟨b1, hp1⟩ : ∃ y, y = w.heap.size := ⟨_, rfl⟩
  have hs1 : w1.heap.size = b1 + 1 := by rw [hw1, hp1]; simp
  rw [← hw1] at hq1 hb1
  have hq2 := heap_alloc_new w1 (.cells (sentRow t g) 50)
  have hb2 := (Below.refl w1.heap.size w1).alloc (Nat.le_refl _) (.cells (sentRow t g) 50)
  obtain ⟨w2, hw2⟩ : ∃ y, y = w1.alloc (.cells (sentRow t g) 50) := ⟨_, rfl⟩
  obtain ⟨b2, hp2⟩ : ∃ y, y = w1.heap.size := ⟨_, rfl⟩
  rw [← hw2] at hq2 hb2
  have hq1' := below_keep hb2 hq1
  rw [← hp1] at hq1'
  rw [← hp2] at hq2
  have hB2 : Below w.heap.size w w2 := hb1.trans (hb2.mono hb1.size)
  have s1 := sn_mem hf hq1'
  have s2 := sn_mem hg hq2
  have mf2 := (mf.below hB2 (Nat.le_refl _)).more hB2.size
  have mg2 := (mg.below hB2 (Nat.le_refl _)).more hB2.size
  have hsame := rmsame_any f.mani g.mani w2 mf2 mg2
  rw [em] at hsame
  have hr1 : f.mani.row = f.mani.cells.toArray := rfl
  have hr2 : g.mani.row = g.mani.cells.toArray := rfl
  rw [hr1, hr2] at hsame
  have to1 := s1.to_
  have to2 := s2.to_
  have k1 := s1.kind
  have k2 := s2.kind
  rw [← ek] at k2
  have a1 := s1.at_
  have a2 := s2.at_
  rw [← ea] at a2
  have d1 := s1.data
  have d2 := s2.data
  rw [← ed] at d2
  have o1 := s1.out
  have o2 := s2.out
  rw [← eo] at o2
  have m1 := s1.mani
  have m2 := s2.mani
  have dix : (Tryd.prog.info? 23).map (·.size) = some (byV f.out).length := by rw [dig_info, byV_length, hf.lo]
  have dund := Tryd.underlying23
  have heq : ∀ W : World, (Op.equalIn 10000 23 (.agg (byV f.out).toArray) (.agg (byV f.out).toArray)).run Tryd.prog W = .ok true W := fun W => by
    have h := eqIn_dig W f.out f.out hf.lo hf.lo
    rw [show (f.out == f.out) = true by simp] at h; exact h
  have fdix1 : (Tryd.prog.info? 39).map (·.size) = some f.mani.cells.length := by rw [mani_cells_len _ hf.lm]; exact mani_info
  have fdix2 : (Tryd.prog.info? 39).map (·.size) = some g.mani.cells.length := by rw [mani_cells_len _ hg.lm]; exact mani_info
  have mund := Tryd.underlying39
  have Hsame := Lib.hid hsame
  have HB2 := Lib.hid hB2
  have Hw1 := Lib.hid hw1
  have Hw2 := Lib.hid hw2
  have Hp1 := Lib.hid hp1
  have Hp2 : Hid (b1 + 1 = b2) := Lib.hid (by rw [hp2, hs1])
  obtain ⟨oc, hoc⟩ : ∃ oc, oc = byV f.out := ⟨_, rfl⟩
  obtain ⟨mc1, hmc1⟩ : ∃ oc, oc = f.mani.cells := ⟨_, rfl⟩
  obtain ⟨mc2, hmc2⟩ : ∃ oc, oc = g.mani.cells := ⟨_, rfl⟩
  obtain ⟨R1, hR1⟩ : ∃ R, R = sentRow t f := ⟨_, rfl⟩
  obtain ⟨R2, hR2⟩ : ∃ R, R = sentRow t g := ⟨_, rfl⟩
  obtain ⟨kk, hkk⟩ : ∃ x, x = f.kind := ⟨_, rfl⟩
  obtain ⟨ii, hii⟩ : ∃ x, x = f.at_ := ⟨_, rfl⟩
  obtain ⟨tt, htt⟩ : ∃ x, x = f.data := ⟨_, rfl⟩
  rw [← hkk] at k1 k2
  rw [← hii] at a1 a2
  rw [← htt] at d1 d2
  rw [← hoc] at o1 o2 dix heq
  rw [← hmc1] at m1 fdix1 Hsame
  rw [← hmc2] at m2 fdix2 Hsame
  rw [← hR1] at Hw1 ⊢
  rw [← hR2] at Hw2 ⊢
  clear hq1 hb1 hw1 hp1 hs1 hq2 hb2 hw2 hp2 hq1' hB2 s1 s2 mf2 mg2 hsame hr1 hr2 hoc hmc1 hmc2 hR1 hR2 hf hg mf mg em ek eo ea ed hkk hii htt
  go_enter Tryd.func31, Tryd.ntmps31
  go_upto_region 1 with fail
  rw [← Hw1.out, ← Hp1.out, ← Hw2.out, Hp2.out]
  go_wp2_with (first
    | (with_reducible refine wpList_load_midR (by kernel_rfl) 23 _ rfl b1 103 (by with_unfolding_all rfl) oc _ o1 dund rfl dix ?_)
    | (with_reducible refine wpList_load_midR (by kernel_rfl) 23 _ rfl b2 103 (by with_unfolding_all rfl) oc _ o2 dund rfl dix ?_)
    | (with_reducible refine wpList_load_midR (by kernel_rfl) 39 _ rfl b1 201 (by with_unfolding_all rfl) mc1 _ m1 mund rfl fdix1 ?_)
    | (with_reducible refine wpList_load_midR (by kernel_rfl) 39 _ rfl b2 201 (by with_unfolding_all rfl) mc2 _ m2 mund rfl fdix2 ?_))
  refine Hsame.out.mono ?_
  rintro e w3 ⟨rfl, hB3⟩
  have HB3 := Lib.hid (HB2.out.trans (hB3.mono HB2.out.size))
  clear hB3 to1 to2 k1 k2 a1 a2 d1 d2 o1 o2 m1 m2
  go_wp2_with fail
  go_ret
  exact ⟨rfl, HB3.out⟩

/-- two answers to one question about one blob are alike -/
theorem found_same {K : List Int} {B0 B1 : Nat} {b : List UInt8} {f g1 g2 : FrD} {w1 w2 : World} (h1 : FoundIs K B0 b f w1 g1 true) (h2 : FoundIs K B1 b f w2 g2 true) :
    g1.kind = g2.kind ∧ g1.out = g2.out ∧ g1.at_ = g2.at_ ∧ g1.data = g2.data ∧ sameM g1.mani g2.mani = true := by
  cases h1 with
  | mani m h hm ho hup =>
    obtain ⟨m2, rfl, ho2, -, -⟩ := found_mani h2 h
    exact ⟨rfl, rfl, rfl, rfl, by show sameM m m2 = true; unfold sameM; rw [hm.whole, ho2.whole, hm.size, ho2.size, hm.parts, ho2.parts]; simp⟩
  | part k h hk =>
    have := found_part h2 k h
    rw [this]
    exact ⟨rfl, rfl, rfl, rfl, by unfold sameM; simp⟩
theorem zeroMani_ok' (w : World) (B : Nat) : zeroMani.Ok w B :=
  ⟨rfl, fun d hd => by simp [zeroMani] at hd, by decide, by decide, by decide, fun i hi => by simp [zeroMani] at hi⟩
theorem FoundIs.ok {K : List Int} {B0 : Nat} {b : List UInt8} {f g : FrD} {w : World} {is : Bool} (h : FoundIs K B0 b f w g is) : g.mani.Ok w w.heap.size := by
  cases h with
  | mani m h hm ho hup => exact ho
  | part k h hk => exact zeroMani_ok' w _
  | no h h2 => exact zeroMani_ok' w _
theorem serv_same {K : List Int} {B0 B1 : Nat} {bl : List (List UInt8)} {b : List UInt8} {has : Bool} {n : Int} {f g1 g2 : FrD} {w1 w2 : World} {t1 t2 : Int} {i1 i2 : Bool} (hb : blobS K bl f.out = (b, has)) (h1 : ServIs K B0 bl n f w1 t1 g1 i1) (h2 : RefIs K B1 b has n f w2 t2 g2 i2) :
    i1 = i2 ∧ t1 = t2 ∧ g1.kind = g2.kind ∧ g1.out = g2.out ∧ g1.at_ = g2.at_ ∧ g1.data = g2.data ∧ sameM g1.mani g2.mani = true := by
  have hz : sameM zeroFr.mani zeroFr.mani = true := by unfold sameM; simp
  cases h1 with
  | no h =>
    rw [hb] at h
    cases h2 with
    | no h' => exact ⟨rfl, rfl, rfl, rfl, rfl, rfl, hz⟩
    | yes g k1 k2 k3 k4 => exact absurd ⟨k1, k2, k3⟩ h
  | yes b' g k1 k2 k3 k4 =>
    rw [hb] at k2
    obtain ⟨rfl, rfl⟩ := Prod.mk.inj k2
    cases h2 with
    | no h' => exact absurd ⟨k1, rfl, k3⟩ h'
    | yes g' c1 c2 c3 c4 =>
      obtain ⟨e1, e2, e3, e4, e5⟩ := found_same k4 c4
      exact ⟨rfl, rfl, e1, e2, e3, e4, e5⟩
theorem ServIs.ok {K : List Int} {B0 : Nat} {bl : List (List UInt8)} {n : Int} {f g : FrD} {w : World} {t : Int} {is : Bool} (h : ServIs K B0 bl n f w t g is) : g.mani.Ok w w.heap.size := by
  cases h with
  | no h => exact zeroMani_ok' w _
  | yes b g k1 k2 k3 k4 => exact k4.ok
theorem RefIs.ok {K : List Int} {B0 : Nat} {b : List UInt8} {has : Bool} {n : Int} {f g : FrD} {w : World} {t : Int} {is : Bool} (h : RefIs K B0 b has n f w t g is) : g.mani.Ok w w.heap.size := by
  cases h with
  | no h => exact zeroMani_ok' w _
  | yes g k1 k2 k3 k4 => exact k4.ok
theorem RefIs.only {K : List Int} {B0 : Nat} {b : List UInt8} {has : Bool} {n : Int} {f g : FrD} {w w' : World} {tt : Int} {is : Bool} {bs : List Nat} (h : RefIs K B0 b has n f w tt g is) (ho : Only bs w w') (hbs : ∀ x ∈ bs, x < B0) : RefIs K B0 b has n f w' tt g is := by
  cases h with
  | no h => exact .no h
  | yes g k1 k2 k3 k4 => exact .yes g k1 k2 k3 (k4.only ho hbs)

/-! ### the texts of a store, and the text of a digest -/
/-- the last of the first j texts that has the digest d -/
def lastAt (K : List Int) (ls : List (List UInt8)) (d : List UInt8) : Nat → List UInt8 × Bool
  | 0 => ([], false)
  | j + 1 => if hashB K (ls.getD j []) = d then (ls.getD j [], true) else lastAt K ls d j
theorem lastAt_mem {K : List Int} {ls : List (List UInt8)} {d b : List UInt8} : ∀ {j : Nat}, lastAt K ls d j = (b, true) → ∃ i, i < j ∧ b = ls.getD i [] ∧ hashB K b = d
  | 0, h => by simp [lastAt] at h
  | j + 1, h => by
    unfold lastAt at h
    by_cases hd : hashB K (ls.getD j []) = d
    · rw [if_pos hd] at h
      obtain ⟨rfl, -⟩ := Prod.mk.inj h
      exact ⟨j, by omega, rfl, hd⟩
    · rw [if_neg hd] at h
      obtain ⟨i, hi, h1, h2⟩ := lastAt_mem h
      exact ⟨i, by omega, h1, h2⟩
theorem lastAt_no {K : List Int} {ls : List (List UInt8)} {d : List UInt8} : ∀ {j : Nat}, (lastAt K ls d j).2 = false → lastAt K ls d j = ([], false)
  | 0, _ => rfl
  | j + 1, h => by
    unfold lastAt at h ⊢
    by_cases hd : hashB K (ls.getD j []) = d
    · rw [if_pos hd] at h; cases h
    · rw [if_neg hd] at h ⊢; exact lastAt_no h
theorem blobS_append (K : List Int) (bl : List (List UInt8)) (b d : List UInt8) : blobS K (bl ++ [b]) d = if (blobS K bl d).2 = true then blobS K bl d else if hashB K b = d then (b, true) else ([], false) := by
  unfold blobS
  rw [List.find?_append]
  cases hf : bl.find? (fun b => hashB K b == d) with
  | some x => rfl
  | none =>
    simp only [Option.none_or]
    by_cases h : hashB K b = d
    · rw [List.find?_cons_of_pos (by simpa using h)]; simp [h]
    · rw [List.find?_cons_of_neg (by simpa using h)]; simp [h]
/-- no two of the first j texts are unlike and have one digest -/
def Alone (K : List Int) (ls : List (List UInt8)) (j : Nat) : Prop := ∀ i, i < j → ∀ k, k < i → ls.getD i [] ≠ ls.getD k [] → hashB K (ls.getD i []) ≠ hashB K (ls.getD k [])
theorem last_blob (K : List Int) (ls : List (List UInt8)) : ∀ (j : Nat), (∀ i, i < j → (ls.getD i []).length ≤ 512) → Alone K ls j → ∀ d, lastAt K ls d j = blobS K (stAt K ls j) d
  | 0, _, _, d => by simp [lastAt, stAt, blobS]
  | j + 1, h5, hA, d => by
    have ih := last_blob K ls j (fun i hi => h5 i (by omega)) (fun i hi => hA i (by omega))
    obtain ⟨b, hb⟩ : ∃ b, b = ls.getD j [] := ⟨_, rfl⟩
    have hb5 : b.length ≤ 512 := by rw [hb]; exact h5 j (by omega)
    have e1 : lastAt K ls d (j + 1) = if hashB K b = d then (b, true) else lastAt K ls d j := by rw [hb]; rfl
    have e2 : stAt K ls (j + 1) = (putS K (stAt K ls j) b).2.2 := by rw [hb]; rfl
    rw [e1, e2]
    cases hs : (blobS K (stAt K ls j) (hashB K b)).2 with
    | true =>
      have hp : (putS K (stAt K ls j) b).2.2 = stAt K ls j := by unfold putS; rw [if_neg (by omega), if_pos hs]
      rw [hp]
      by_cases hd : hashB K b = d
      · rw [if_pos hd, ← ih d]
        have h1 := ih (hashB K b)
        obtain ⟨⟨x, y⟩, hx⟩ : ∃ p, p = lastAt K ls (hashB K b) j := ⟨_, rfl⟩
        rw [← h1, ← hx] at hs
        cases hs
        obtain ⟨i, hi, rfl, hh⟩ := lastAt_mem hx.symm
        have : ls.getD i [] = b := Classical.byContradiction fun hne => hA j (by omega) i hi (by rw [← hb]; exact fun e => hne e.symm) (by rw [← hb, hh])
        rw [← hd, ← hx, this]
      · rw [if_neg hd]; exact ih d
    | false =>
      have hp : (putS K (stAt K ls j) b).2.2 = stAt K ls j ++ [b] := by unfold putS; rw [if_neg (by omega), if_neg (by simp [hs])]
      rw [hp, blobS_append]
      by_cases hd : hashB K b = d
      · rw [if_pos hd, if_neg (by rw [← hd, hs]; simp), if_pos hd]
      · rw [if_neg hd, if_neg hd, ih d]
        cases h2 : (blobS K (stAt K ls j) d).2 with
        | true => simp
        | false =>
          have := ih d
          have h3 := lastAt_no (j := j) (K := K) (ls := ls) (d := d) (by rw [this]; exact h2)
          rw [← this, h3]; simp
end Go.Proofs.YtfbjbhddapoopaaDoor
