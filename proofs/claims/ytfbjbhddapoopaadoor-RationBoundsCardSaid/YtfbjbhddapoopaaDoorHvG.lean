/-
  Layer 5 (hive): a store of blobs; the walk of Blob.
-/
import Derived.Test.YtfbjbhddapoopaaDoorHvF
set_option linter.unusedVariables false
set_option linter.unusedSimpArgs false
namespace Go.Proofs.YtfbjbhddapoopaaDoor
open Go.RowKit Pl Sh
attribute [local go_sem] Lb.ba_get Lb.ba_cut Lb.ba_add Lb.ba_size Lb.take_rest

theorem parts_blob (b : List UInt8) (hb : b.length ≤ 512) : partsS (blobRowS b) = [[98], b] := by
  have h := rd_of_row [[98], b] [] 4 (by simp) (by
    intro t ht
    simp only [List.mem_cons, List.not_mem_nil, or_false] at ht
    rcases ht with rfl | rfl
    · simp
    · omega)
  rw [List.append_nil, if_pos (by simp)] at h
  unfold partsS blobRowS
  rw [h]
theorem asBlob_blob (b : List UInt8) (hb : b.length ≤ 512) : asBlobS (blobRowS b) = (b, true) := by
  unfold asBlobS
  rw [parts_blob b hb]
  exact if_pos ⟨rfl, hb⟩
theorem blobRow_len (b : List UInt8) (hb : b.length ≤ 512) : (blobRowS b).length ≤ 600 := by
  have h2 := num_length 2 (by omega)
  have h3 := num_length 1 (by omega)
  have h4 := num_length b.length (by omega)
  unfold blobRowS
  simp only [srow, textsB, textB, List.map_cons, List.map_nil, List.flatten_cons, List.flatten_nil, List.length_append, List.length_nil, List.length_cons, Nat.add_zero, Nat.zero_add, Nat.reduceAdd]
  have e8 := num_length_le (b.length : Int) (by omega) (by omega)
  have e2 := num_length_le 2 (by omega) (by omega)
  have e1 := num_length_le 1 (by omega) (by omega)
  omega

/-- the store has the blobs bl, in this order; so many calls are still good -/
structure KeptH (K : List Int) (d : HvD) (bl : List (List UInt8)) (k : Nat) : Prop where
  ready : d.ready
  armed : d.s.pw.armed = 0
  acts : d.s.pw.acts + k < 1000000
  life : d.s.pw.life < 1000
  slots : d.s.slots.length = 128
  lens : d.L.length = bl.length
  clk : d.clk + k < 1000000
  ents : ∀ (i : Nat) (e : HEnt), d.L[i]? = some e → ∃ b, bl[i]? = some b ∧ e.isB = true ∧ e.at_ = i ∧ e.id = hashB K b ∧ e.row = blobRowS b ∧ b.length ≤ 512 ∧ St.read d.s i = textS K (blobRowS b)
theorem KeptH.less {K : List Int} {d : HvD} {bl : List (List UInt8)} {k k' : Nat} (h : KeptH K d bl k) (hk : k' ≤ k) : KeptH K d bl k' := ⟨h.ready, h.armed, by have := h.acts; omega, h.life, h.slots, h.lens, by have := h.clk; omega, h.ents⟩
/-- the blob of a digest -/
def blobS (K : List Int) (bl : List (List UInt8)) (dg : List UInt8) : List UInt8 × Bool := match bl.find? (fun b => hashB K b == dg) with
  | some b => (b, true)
  | none => ([], false)
/-- a store in memory, in the blocks S -/
def StoreAt (K : List Int) (w : World) (q : HvP) (S : List Nat) (bl : List (List UInt8)) (k : Nat) : Prop := ∃ d, HvAt w q d ∧ KeptH K d bl k ∧ q.own d.L = S
theorem StoreAt.below {K : List Int} {w w' : World} {q : HvP} {S : List Nat} {bl : List (List UInt8)} {k : Nat} (h : StoreAt K w q S bl k) (hb : Below w.heap.size w w') : StoreAt K w' q S bl k := by
  obtain ⟨d, h1, h2, h3⟩ := h
  exact ⟨d, h1.below hb, h2, h3⟩
theorem StoreAt.keep {K : List Int} {w w' : World} {q : HvP} {S : List Nat} {bl : List (List UInt8)} {k : Nat} (h : StoreAt K w q S bl k) (hk : ∀ x ∈ S, w'.heap[x]? = w.heap[x]?) : StoreAt K w' q S bl k := by
  obtain ⟨d, h1, h2, h3⟩ := h
  exact ⟨d, h1.keep (by rw [h3]; exact hk), h2, h3⟩
theorem StoreAt.lt {K : List Int} {w : World} {q : HvP} {S : List Nat} {bl : List (List UInt8)} {k : Nat} (h : StoreAt K w q S bl k) : ∀ x ∈ S, x < w.heap.size := by
  obtain ⟨d, h1, -, h3⟩ := h
  rw [← h3]; exact h1.lt
theorem StoreAt.less {K : List Int} {w : World} {q : HvP} {S : List Nat} {bl : List (List UInt8)} {k k' : Nat} (h : StoreAt K w q S bl k) (hk : k' ≤ k) : StoreAt K w q S bl k' := by
  obtain ⟨d, h1, h2, h3⟩ := h
  exact ⟨d, h1, h2.less hk, h3⟩
theorem kept_use {K : List Int} {d : HvD} {bl : List (List UInt8)} {k : Nat} (h : KeptH K d bl (k + 1)) {j : Nat} {e : HEnt} (hj : d.L[j]? = some e) : KeptH K { d with L := d.L.set j { e with used := ((d.clk + 1 : Nat) : Int) }, clk := d.clk + 1 } bl k := by
  refine ⟨h.ready, h.armed, by have := h.acts; show d.s.pw.acts + k < _; omega, h.life, h.slots, by show (d.L.set _ _).length = _; rw [List.length_set]; exact h.lens, by have := h.clk; show d.clk + 1 + k < _; omega, fun i x hx => ?_⟩
  have hx' : (d.L.set j { e with used := ((d.clk + 1 : Nat) : Int) })[i]? = some x := hx
  rw [List.getElem?_set] at hx'
  split at hx'
  · rename_i hij
    subst hij
    split at hx'
    · obtain rfl := Option.some.inj hx'
      exact h.ents j e hj
    · cases hx'
  · exact h.ents i x hx'
theorem own_use {q : HvP} {L : List HEnt} {j : Nat} {e : HEnt} (hj : L[j]? = some e) (u : Int) : q.own (L.set j { e with used := u }) = q.own L := by
  unfold HvP.own
  rw [map_set_same _ _ _ e { e with used := u } hj rfl]
/-- which entry a digest has -/
theorem kept_find {K : List Int} {d : HvD} {bl : List (List UInt8)} {k : Nat} (h : KeptH K d bl k) (dg : List UInt8) :
    (∃ (j : Nat) (e : HEnt) (b : List UInt8), d.L[j]? = some e ∧ e.isB = true ∧ e.id = dg ∧ e.at_ = j ∧ e.row = blobRowS b ∧ b.length ≤ 512 ∧ St.read d.s j = textS K e.row ∧ blobS K bl dg = (b, true)) ∨ ((∀ e ∈ d.L, (e.isB, e.id) ≠ (true, dg)) ∧ blobS K bl dg = ([], false)) := by
  cases hf : bl.find? (fun b => hashB K b == dg) with
  | some b =>
    left
    have hb : hashB K b = dg := by simpa using List.find?_some hf
    obtain ⟨j, hj⟩ := List.mem_iff_getElem?.1 (List.mem_of_find?_eq_some hf)
    have hjl : j < d.L.length := by rw [h.lens]; exact (List.getElem?_eq_some_iff.1 hj).1
    obtain ⟨e, he⟩ : ∃ e, d.L[j]? = some e := ⟨_, List.getElem?_eq_getElem hjl⟩
    obtain ⟨b', h1, h2, h3, h4, h5, h6, h7⟩ := h.ents j e he
    rw [hj] at h1
    obtain rfl := Option.some.inj h1
    exact ⟨j, e, b, he, h2, h4.trans hb, h3, h5, h6, by rw [h5]; exact h7, by unfold blobS; rw [hf]⟩
  | none =>
    right
    refine ⟨fun e he hk => ?_, by unfold blobS; rw [hf]⟩
    obtain ⟨j, hj⟩ := List.mem_iff_getElem?.1 he
    obtain ⟨b, h1, -, -, h4, -⟩ := h.ents j e hj
    have := List.find?_eq_none.1 hf b (List.mem_of_getElem? h1)
    simp at this
    exact this (h4.symm.trans (Prod.mk.inj hk).2)

def namePlaces : List (Nat × Nat) := [(0, 1), (1, 32)]
set_option maxRecDepth 100000 in
theorem name_zero : (Tryd.prog.info? 137).map (·.zero) = some (some (.agg zeroName)) := by kernel_rfl
set_option maxRecDepth 100000 in
theorem built_name (b : Bool) (id : List UInt8) (h : id.length = 32) : Tryd.prog.built 137 [(0, .bool b), (1, .agg (byV id).toArray)] = some (Value.bool b :: byV id).toArray := by
  obtain ⟨it, hit, hz⟩ := Option.map_eq_some_iff.1 name_zero
  have hp : ∀ fs, Tryd.prog.underlying 137 = some (.struct fs) → fs.toList.mapM (fun f => (Tryd.prog.info? f.type).map fun i => (f.offset, i.size)) = some namePlaces := by
    intro fs h
    obtain rfl := (TypeDesc.struct.inj (Option.some.inj (Tryd.underlying137.symm.trans h)))
    kernel_rfl
  unfold Program.built
  rw [hit]
  simp only [Tryd.underlying137]
  rw [hz, hp _ Tryd.underlying137]
  have h1 := fill_seg (place := (namePlaces.toArray[·]?)) (i := 0) (v := .bool b) (rest := [(1, .agg (byV id).toArray)]) (pre := []) (old := [Value.bool false]) (vs := [Value.bool b]) (off := 0) (size := 1)
    (post := byV (List.replicate 32 0)) rfl rfl rfl rfl rfl
  have h2 := fill_seg (place := (namePlaces.toArray[·]?)) (i := 1) (v := .agg (byV id).toArray) (rest := []) (pre := [Value.bool b]) (old := byV (List.replicate 32 0)) (vs := byV id) (off := 1) (size := 32)
    (post := []) rfl (cells_agg _) (by rw [byV_length, h]) rfl rfl
  simp only [List.append_nil, List.nil_append, List.singleton_append] at h1 h2
  exact (h1.trans h2).trans (fill_nil _ _)

def BlobPost (K : List Int) (w : World) (q : HvP) (S : List Nat) (bl : List (List UInt8)) (dg : List UInt8) (k : Nat) (e : Ending) (w' : World) : Prop :=
  e = .returned (.tuple #[.string ⟨((blobS K bl dg).1).toArray⟩, .bool (blobS K bl dg).2]) ∧ StoreAt K w' q S bl k ∧ Only S w w'
set_option maxHeartbeats 4000000 in
set_option maxRecDepth 100000 in
theorem hblob_any (K : List Int) (q : HvP) (S : List Nat) (bl : List (List UInt8)) (dg : List UInt8) (k : Nat) (w : World) (h : StoreAt K w q S bl (k + 1)) (hL : Laid K w) (hdg : dg.length = 32) :
    Calls Tryd.prog 33 #[.pointer (some ⟨q.p, 0, none⟩), .agg (byV dg).toArray] w (BlobPost K w q S bl dg k) := by
  obtain ⟨d, hat, hk, hS⟩ := h
  have hb1 := (Below.refl w.heap.size w).alloc (Nat.le_refl _) (.cells (byV dg).toArray 23)
  have hn0 := heap_alloc_new w (.cells (byV dg).toArray 23)
  have h1 := hat.below hb1
  have hL1 := hL.below hb1
  obtain ⟨w1, hw1⟩ : ∃ y, y = w.alloc (.cells (byV dg).toArray 23) := ⟨_, rfl⟩
  obtain ⟨n0, hn⟩ : ∃ y, y = w.heap.size := ⟨_, rfl⟩
  rw [← hw1] at h1 hn0 hb1 hL1
  rw [← hn] at hn0
  have hbu := built_name true dg hdg
  obtain ⟨DV, hDV⟩ : ∃ x, x = (byV dg).toArray := ⟨_, rfl⟩
  have dix : (Tryd.prog.info? 23).map (·.size) = some DV.size := by rw [hDV, dig_info]; simp [byV_length, hdg]
  have dund := Tryd.underlying23
  rw [← hDV] at hbu hn0 ⊢
  obtain ⟨NV, hNV⟩ : ∃ x, x = (Value.bool true :: byV dg).toArray := ⟨_, rfl⟩
  rw [← hNV] at hbu
  have Hn0 := Lib.hid hn0
  have Hb1 := Lib.hid hb1
  have Hn := Lib.hid hn
  have Hw1 := Lib.hid (show w1 = w.alloc (.cells DV 23) by rw [hDV]; exact hw1)
  rcases kept_find hk dg with ⟨j, e, b, hj, e1, e2, e3, e4, e5, e6, e7⟩ | ⟨hno, e7⟩
  · have hfi := find_ok K q d j e w1 h1 hL1 hk.ready hj (by have := hk.clk; omega) (by rw [e3]; exact e6)
    have ha : (Value.bool e.isB :: byV e.id).toArray = NV := by rw [e1, e2, hNV]
    rw [ha] at hfi
    have hk2 := kept_use hk hj
    have hown := own_use (q := q) hj ((d.clk + 1 : Nat) : Int)
    have hab := Lib.hid (fun W => asBlob_any e.row W (by rw [e4]; have := blobRow_len b e5; omega))
    rw [e4, asBlob_blob b e5] at hab
    have Hfi := Lib.hid (hfi.mono (R' := fun r w' => r = .returned (.tuple #[.string ⟨(blobRowS b).toArray⟩, .bool true]) ∧ HvAt w' q { d with L := d.L.set j { e with used := ((d.clk + 1 : Nat) : Int) }, clk := d.clk + 1 } ∧ Only (q.own d.L) w1 w') fun r w' hh => by rw [← e4]; exact hh)
    have HK2 := Lib.hid hk2
    have HS := Lib.hid hS
    have Hown := Lib.hid hown
    have E7 := Lib.hid e7
    clear hat hk hL hL1 h1 hb1 hn0 hn hw1 hDV hNV hj e1 e2 e3 e4 e5 e6 e7 hfi hk2 hown hS ha
    go_enter Tryd.func33, Tryd.ntmps33
    go_upto_region 1 with fail
    rw [← Hw1.out, ← Hn.out]
    go_wp2_with (first
      | (refine wpList_load_row rfl 23 _ rfl n0 rfl 23 DV (0, 0) _ Hn0.out dund rfl dix ?_)
      | (refine wpList_build2 rfl 137 _ _ _ _ rfl _ _ rfl rfl _ hbu ?_))
    refine Hfi.out.mono ?_
    rintro r w2 ⟨rfl, h2, hO2⟩
    have H2 := Lib.hid h2
    have O2 := Lib.hid hO2
    clear h2 hO2 Hfi
    go_wp2_with fail
    refine (hab.out _).mono ?_
    rintro r w3 ⟨rfl, hB3⟩
    have B3 := Lib.hid hB3
    clear hB3 hab
    go_wp2_with fail
    go_ret2
    unfold BlobPost
    rw [E7.out]
    refine ⟨rfl, ⟨_, H2.out.below B3.out, HK2.out, Hown.out.trans HS.out⟩, ?_⟩
    rw [← HS.out]
    exact ((Only.of_below Hb1.out).trans O2.out).trans (Only.of_below B3.out)
  · have hfi := find_none K q d true dg w1 h1 hL1 hk.ready hdg hno
    rw [← hNV] at hfi
    have Hfi := Lib.hid hfi
    have E7 := Lib.hid e7
    have HAT := Lib.hid hat
    have HK := Lib.hid hk
    have HS := Lib.hid hS
    clear hat hk hL hL1 h1 hb1 hn0 hn hw1 hDV hNV hno e7 hfi hS
    go_enter Tryd.func33, Tryd.ntmps33
    go_upto_region 1 with fail
    rw [← Hw1.out, ← Hn.out]
    go_wp2_with (first
      | (refine wpList_load_row rfl 23 _ rfl n0 rfl 23 DV (0, 0) _ Hn0.out dund rfl dix ?_)
      | (refine wpList_build2 rfl 137 _ _ _ _ rfl _ _ rfl rfl _ hbu ?_))
    refine Hfi.out.mono ?_
    rintro r w2 ⟨rfl, hB2⟩
    have B2 := Lib.hid (Hb1.out.trans (hB2.mono Hb1.out.size))
    clear hB2 Hfi
    go_wp2_with fail
    go_ret2
    unfold BlobPost
    rw [E7.out]
    exact ⟨rfl, ⟨d, HAT.out.below B2.out, HK.out.less (by omega), HS.out⟩, Only.of_below B2.out⟩
end Go.Proofs.YtfbjbhddapoopaaDoor
