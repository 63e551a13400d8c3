/-
  Layer 17 (haul): slices.Clone of digests; the walk of settle.
-/
import Derived.Test.YtfbjbhddapoopaaDoorHaE
import Derived.Lib.SliceRun
set_option linter.unusedVariables false
set_option linter.unusedSimpArgs false
namespace Go.Proofs.YtfbjbhddapoopaaDoor
open Go.RowKit
attribute [local go_sem] Lb.ba_get Lb.ba_cut Lb.ba_add Lb.ba_size Lb.take_rest

theorem strs_of_bag {w : World} {B n cap : Nat} {A : Option Addr} {ts : List (List UInt8)} (h : Bag0 w B 1 (.slice A n cap) n (rowT ts)) (hn : n = ts.length) : Strs w w.heap.size A ts := fun i hi => by
  rcases h with ⟨h1, h2, -⟩ | ⟨g, c, hv, hg, hB⟩
  · omega
  · injection hv with e1 e2 e3
    refine ⟨_, e1, hB.lt, ?_⟩
    rw [Addr.add_lit, Nat.zero_add]
    exact hB.holds i _ (by simp [rowT, hi])

/-! ### Clone -/
def digCells (ds : List (List UInt8)) : List Value := (ds.map byV).flatten
theorem digCells_len (ds : List (List UInt8)) (h : ∀ d ∈ ds, d.length = 32) : (digCells ds).length = ds.length * 32 := by
  unfold digCells
  induction ds with
  | nil => rfl
  | cons x xs ih => simp only [List.map_cons, List.flatten_cons, List.length_append, byV_length, h x (by simp), ih (fun d hd => h d (by simp [hd])), List.length_cons]; omega
theorem digCells_at : ∀ (ds : List (List UInt8)), (∀ d ∈ ds, d.length = 32) → ∀ (j : Nat) (u : Value), (digCells ds)[j]? = some u → ∃ (i : Nat) (hi : i < ds.length) (k : Nat), j = i * 32 + k ∧ (byV ds[i])[k]? = some u
  | [], _, j, u, h => by simp [digCells] at h
  | x :: xs, h32, j, u, h => by
    have hx : (byV x).length = 32 := by rw [byV_length, h32 x (by simp)]
    unfold digCells at h
    rw [List.map_cons, List.flatten_cons] at h
    rcases Nat.lt_or_ge j 32 with hj | hj
    · rw [List.getElem?_append_left (by omega)] at h
      exact ⟨0, by simp, j, by omega, h⟩
    · rw [List.getElem?_append_right (by omega), hx] at h
      obtain ⟨i, hi, k, e1, e2⟩ := digCells_at xs (fun d hd => h32 d (by simp [hd])) (j - 32) u h
      exact ⟨i + 1, by simp; omega, k, by omega, by simpa using e2⟩
theorem digs_src {w : World} {B : Nat} {A : Option Addr} {ds : List (List UInt8)} (h : Digs w B A ds) (h32 : ∀ d ∈ ds, d.length = 32) (cap : Nat) (hA : A ≠ none) : Src Tryd.prog 32 37 (.slice A ds.length cap) ds.length (digCells ds) w := by
  obtain ⟨a, rfl⟩ := Option.ne_none_iff_exists'.1 hA
  refine Src.ofSlice w Tryd.underlying37 a _ cap _ (digCells_len ds h32) (fun j u hu => ?_) (fun u hu => ?_)
  · obtain ⟨i, hi, k, rfl, hk⟩ := digCells_at ds h32 j u hu
    obtain ⟨b, o, e, -, hr⟩ := h i hi
    obtain rfl := Option.some.inj e
    rw [Addr.add_lit, ← Nat.add_assoc]
    exact hr k u hk
  · unfold digCells at hu
    rw [List.mem_flatten] at hu
    obtain ⟨l, hl, hu⟩ := hu
    obtain ⟨d, _, rfl⟩ := List.mem_map.1 hl
    simp only [byV, List.mem_map] at hu
    obtain ⟨_, _, rfl⟩ := hu
    rfl
def ClonePost (w : World) (ds : List (List UInt8)) (e : Ending) (w' : World) : Prop := ∃ v, e = .returned v ∧ Bag0 w' w.heap.size 32 v ds.length (digCells ds) ∧ Below w.heap.size w w'
theorem dig_parts : ∃ i : TypeInfo, Tryd.prog.info? 23 = some i ∧ i.zero = some (.agg (digV (List.replicate 32 0))) ∧ i.size = 32 ∧ i.bytes = 32 := info_parts dig_info3
set_option maxHeartbeats 4000000 in
set_option maxRecDepth 100000 in
theorem clone_any (A : Option Addr) (cap : Nat) (ds : List (List UInt8)) (w : World) (h : Digs w w.heap.size A ds) (h32 : ∀ d ∈ ds, d.length = 32) (hl : ds.length ≤ 1000) :
    Calls Tryd.prog 68 #[.slice A ds.length cap] w (ClonePost w ds) := by
  cases A with
  | none =>
    have h0 : ds = [] := by
      cases ds with
      | nil => rfl
      | cons x xs => obtain ⟨b, o, e, -⟩ := h 0 (by simp); cases e
    subst h0
    have heq : ∀ W : World, (binOp .eql 37 (.slice none 0 cap) (.slice none 0 0)).run Tryd.prog W = .ok (.bool true) W := fun W => Lib.run_eql_slice_nil W _ _ _ _ _ _ _ Tryd.underlying37
    clear h h32 hl
    go_enter Tryd.func68, Tryd.ntmps68
    go_wp2_with fail
    go_ret
    exact ⟨_, rfl, Bag0.nil _ _ _, Below.refl _ _⟩
  | some a =>
    have hs := Lib.hid (fun W (hW : Below w.heap.size w W) => digs_src (h.below hW (Nat.le_refl _)) h32 cap (by simp))
    have Hlen := Lib.hid (digCells_len ds h32)
    obtain ⟨i0, hi0, hz0, hz1, hz2⟩ := dig_parts
    have heq : ∀ W : World, (binOp .eql 37 (.slice (some a) ds.length cap) (.slice none 0 0)).run Tryd.prog W = .ok (.bool false) W := fun W => Lib.run_eql_slice_nil W _ _ _ _ _ _ _ Tryd.underlying37
    clear h h32
    go_enter Tryd.func68, Tryd.ntmps68
    have hW : Below w.heap.size w (w.alloc (.cells #[] 23)) := (Below.refl _ w).alloc (Nat.le_refl _) _
    have hS := hs.out _ hW
    have hg := heap_alloc_new w (.cells #[] 23)
    have hB : Bag0 (w.alloc (.cells #[] 23)) w.heap.size 32 (.slice (some ⟨w.heap.size, 0, none⟩) 0 0) 0 [] := .inr ⟨w.heap.size, 0, rfl, Nat.le_refl _, ⟨Nat.le_refl _, Nat.zero_le _, heap_lt hg, rfl, fun j u hu => by simp at hu, fun j hj => by omega⟩⟩
    have hsz := hW.size
    have HB := Lib.hid hB
    have HS := Lib.hid hS
    clear hB hS hg hW hs
    go_wp2_with (at_builtin; refine wpList_append_bagN _ rfl _ _ 37 37 rfl i0 _ 32 Tryd.underlying37 hi0 hz0 hz1 hz2 (by show (digV (List.replicate 32 0)).size = 32; rfl) hsz rfl HB.out _ _ _ rfl HS.out (by unfold maxLen; omega) (by omega) ?_)
    intro v' w' hB' hb'
    have HB' := Lib.hid hB'
    have Hb' := Lib.hid (((Below.refl _ w).alloc (Nat.le_refl _) (.cells #[] 23)).trans hb')
    clear hB' hb'
    go_wp2_with fail
    go_ret
    exact ⟨_, rfl, HB'.out, Hb'.out⟩

/-! ### settle -/
theorem HasMani.mok {w : World} {S : List Nat} {p : Nat} {d : HlD} {q c : Nat} {m : ManiD} {mv cv : Value} (h : HasMani w S p d q c m mv cv) (ok : Hl.Ok d) (lt : ∀ k ∈ S, k < w.heap.size) : m.Ok w w.heap.size := by
  obtain ⟨hg, hl, h32⟩ := ok.some _ h.mani
  have h8 := ok.len
  unfold goodS at hg
  simp only [decide_eq_true_eq] at hg
  refine ⟨by rw [h.whole]; exact ok.out, h32, by omega, by omega, by unfold maxLen; simp only at hl; omega, fun i hi => ?_⟩
  obtain ⟨b, o, e, hb, -, hr⟩ := h.digs i hi
  exact ⟨b, o, e, lt b hb, hr⟩
theorem hl_set0 (d : HlD) (mv cv : Value) (s : List UInt8) : (hlCells d mv cv).toArray.setIfInBounds 0 (.string ⟨s.toArray⟩) = (hlCells { d with blob := s } mv cv).toArray := by
  rw [List.setIfInBounds_toArray]; rfl
theorem hl_set1 (d : HlD) (mv cv : Value) (b : Bool) : (hlCells d mv cv).toArray.setIfInBounds 1 (.bool b) = (hlCells { d with done := b } mv cv).toArray := by
  rw [List.setIfInBounds_toArray]; rfl
namespace Hl
theorem settle_ok (K : List Int) {d : HlD} (h : Ok d) (hf : d.failed = false) (sp : Int × List (List UInt8)) : Ok (settle K d sp).1 := by
  unfold settle
  split
  · exact { h with open14 := fun _ => h.open14 hf }
  · exact h.fill
theorem come_take (cks : List Ck) (k : Nat) (x : Ck) (hx : cks[k]? = some x) (h : ∀ c ∈ cks.take k, c.come = true) (hc : x.come = true) : ∀ c ∈ cks.take (k + 1), c.come = true := by
  intro c hm
  rw [List.take_add_one, hx] at hm
  rcases List.mem_append.1 hm with hm | hm
  · exact h c hm
  · simp at hm; rw [hm]; exact hc
end Hl
theorem rowT_take (cks : List Ck) (k : Nat) (x : Ck) (hx : cks[k]? = some x) : rowT ((cks.take (k + 1)).map (·.data)) = rowT ((cks.take k).map (·.data)) ++ [Value.string ⟨x.data.toArray⟩] := by
  rw [List.take_add_one, hx]
  simp [rowT]

set_option maxHeartbeats 4000000 in
set_option maxRecDepth 100000 in
theorem settle_any (K : List Int) (p : Nat) (S : List Nat) (d : HlD) (sp : Int × List (List UInt8)) (w : World) (h : HlAt w S p d) (hsp : d.mani = some sp) (hf : d.failed = false) (hL : Laid K w) :
    Calls Tryd.prog 69 #[.pointer (some ⟨p, 0, none⟩)] w (ActPost w S p d.peer d.out (Hl.settle K d sp).2 (Hl.settle K d sp).1) := by
  have H := Lib.hid h
  obtain ⟨ok, lt, pS, mv, cv, hm, hx⟩ := h
  have ho := ok.out
  rcases hx with hx | ⟨q, c, m, hx⟩
  · rw [hx.1] at hsp; cases hsp
  have hcv := hx.cv
  have hmv := hx.mv
  subst hmv
  subst hcv
  have hc := hx.hc
  have hcl : c < w.heap.size := heap_lt hc
  have hpl : p < w.heap.size := heap_lt hm
  have h8 := ok.len
  obtain ⟨-, -, -, -, -, c37, c38, -⟩ := hl_cells ho hm
  have Hfi := Lib.hid (fun W h1 h3 => fill_raw p c d.cks.length d (.pointer (some ⟨q, 0, none⟩)) W ho h1 rfl h8 h3 hx.pc)
  have hdl : ∀ x ∈ d.cks, x.data.length ≤ 64 := ok.data
  obtain ⟨n, hn⟩ : ∃ n, n = d.cks.length := ⟨_, rfl⟩
  rw [← hn] at hm c38 h8 Hfi
  have HM := Lib.hid hm
  have OK := Lib.hid ok
  have HX := Lib.hid hx
  have HO := Lib.hid ho
  have LT := Lib.hid lt
  have PS := Lib.hid pS
  have HC := Lib.hid hc
  have Hn := Lib.hid hn
  have HL := Lib.hid hL
  have Hsp := Lib.hid hsp
  have HF := Lib.hid hf
  have HDL := Lib.hid hdl
  clear hm ok hx ho lt pS hc hn hL hsp hf hdl
  obtain ⟨i0, hi0, hz0, hz1, hz2⟩ := info_parts str_info
  go_enter Tryd.func69, Tryd.ntmps69
  go_wp2_with fail
  go_loopw [3, 13] (fun v i wr => ∃ k : Nat, k ≤ n ∧ i = .int .i64 k ∧ Bag0 wr w.heap.size 1 v k (rowT ((d.cks.take k).map (·.data))) ∧ (∀ x ∈ d.cks.take k, x.come = true) ∧ Below w.heap.size w wr) (fun _ i _ => n - (intOf i).toNat)
  case atStart => exact ⟨0, by omega, rfl, Bag0.nil _ _ _, by simp, Below.refl _ _⟩
  case round =>
    obtain ⟨k, hk, rfl, hV, hcm, hb⟩ := hrel
    have Hcm := Lib.hid hcm
    clear hcm
    by_cases hkn : k < n
    · have hkl : k < d.cks.length := by rw [← Hn.out]; exact hkn
      obtain ⟨x, hxk⟩ : ∃ x, d.cks[k]? = some x := ⟨_, List.getElem?_eq_getElem hkl⟩
      obtain ⟨-, -, -, -, hr⟩ := ck_cell (w := wr) (below_keep hb HC.out) hxk
      have dix : (Tryd.prog.info? 125).map (·.size) = some x.cells.length := by kernel_rfl
      have hx1 : x.cells.toArray.all (·.oneCell') = true := by rw [List.all_toArray]; rfl
      obtain ⟨cs, hcs⟩ : ∃ cs, cs = x.cells := ⟨_, rfl⟩
      have hc1 : cs.toArray[1]? = some (.bool x.come) := by rw [hcs]; rfl
      have hc0 : cs.toArray[0]? = some (.string ⟨x.data.toArray⟩) := by rw [hcs]; rfl
      have hsz : cs.toArray.size = 4 := by rw [hcs]; rfl
      obtain ⟨b, hb'⟩ : ∃ b, b = x.come := ⟨_, rfl⟩
      obtain ⟨s, hs⟩ : ∃ s, s = x.data := ⟨_, rfl⟩
      rw [← hb'] at hc1
      rw [← hs] at hc0
      rw [← hcs] at hr dix hx1
      have dixA : (Tryd.prog.info? 125).map (·.size) = some cs.toArray.size := by rw [dix]; simp
      have hnew := heap_alloc_new wr (.cells #[Value.string ⟨#[]⟩, Value.bool false, Value.bool false, Value.int .i64 0] 125)
      have hset := setRow_heap _ _ _ cs.toArray _ _ hnew
      have hb1 : Below wr.heap.size wr ((wr.alloc (.cells #[Value.string ⟨#[]⟩, Value.bool false, Value.bool false, Value.int .i64 0] 125)).setRow wr.heap.size cs.toArray) := (Only.below (((Only.refl [wr.heap.size] wr).alloc _).setRow (by simp) _) (Nat.le_refl _) (by simp))
      have hb2 := hb.trans (hb1.mono hb.size)
      have hcell1 : ((wr.alloc (.cells #[Value.string ⟨#[]⟩, Value.bool false, Value.bool false, Value.int .i64 0] 125)).setRow wr.heap.size cs.toArray).cell? ⟨wr.heap.size, 1, none⟩ = some (.bool b) := by rw [Lib.cell_of_heap hset]; exact hc1
      have hcell0 : ((wr.alloc (.cells #[Value.string ⟨#[]⟩, Value.bool false, Value.bool false, Value.int .i64 0] 125)).setRow wr.heap.size cs.toArray).cell? ⟨wr.heap.size, 0, none⟩ = some (.string ⟨s.toArray⟩) := by rw [Lib.cell_of_heap hset]; exact hc0
      have hz : (#[Value.string ⟨#[]⟩, Value.bool false, Value.bool false, Value.int .i64 0] : Array Value).size = 4 := rfl
      have Hb2 := Lib.hid hb2
      have Hnew := Lib.hid hnew
      have kn : (k : Int) < (n : Int) := by omega
      have hv2 := Bag0.below hV hb1
      have Hxk := Lib.hid hxk
      have Hb' := Lib.hid hb'
      have Hs := Lib.hid hs
      clear hcs hb' hset hb hb1 hb2 hnew hc1 hc0 hxk hV hs
      cases b
      · have hset : Hl.settle K d sp = ({ d with cks := (Hl.fill d.ticks d.cks).1 }, (Hl.fill d.ticks d.cks).2) := by
          unfold Hl.settle
          rw [if_neg ?_]
          unfold Hl.allCome
          rw [List.all_eq_true]
          intro h
          have := h x (List.mem_of_getElem? Hxk.out)
          rw [← Hb'.out] at this; cases this
        have Hset := Lib.hid hset
        clear hset hv2
        go_wp2_with (first
          | (refine wpList_load_mid rfl 125 _ rfl c (k * 4) rfl cs _ hr Tryd.underlying125 rfl dix ?_)
          | (refine wpList_store_row rfl 125 _ _ rfl wr.heap.size cs.toArray rfl rfl 125 _ Hnew.out dixA (by rw [hsz, hz]) hx1 ?_))
        refine (Hfi.out _ (below_keep Hb2.out HM.out) (below_keep Hb2.out HC.out)).mono ?_
        rintro e w6 ⟨v, rfl, hA, hC6, hO6⟩
        have hA' := Bag0.lower hA (B' := w.heap.size) Hb2.out.size
        have hO : Only [p, c] w w6 := (Only.of_below Hb2.out).trans (hO6.mono (by simp))
        have hm6 := hO6.keep (below_keep Hb2.out HM.out) (by simp; exact fun e => HX.out.pc e.symm)
        have HA' := Lib.hid hA'
        have HO6 := Lib.hid hO
        have HC6 := Lib.hid hC6
        have Hm6 := Lib.hid hm6
        clear hA hA' hO hO6 hC6 hm6 hcell0 hcell1
        go_wp2_with fail
        go_ret
        rw [Hset.out]
        refine ⟨_, S, rfl, ?_, ⟨OK.out.fill, fun k hk => Nat.lt_of_lt_of_le (LT.out k hk) HO6.out.size, PS.out, .pointer (some ⟨q, 0, none⟩), .slice (some ⟨c, 0, none⟩) n n, Hm6.out, .inr ⟨q, c, m, ?_⟩⟩, HO6.out.mono (by intro k hk; simp at hk; rcases hk with rfl | rfl; exact PS.out; exact HX.out.cS), fun k hk => .inl hk, apart_of_bag HA'.out LT.out⟩
        · exact HA'.out
        · rw [Hn.out]; exact HX.out.chunks LT.out HO6.out HC6.out (Hl.fill_len _ _)
      · have HcmS := Lib.hid (Hl.come_take d.cks k x Hxk.out Hcm.out Hb'.out.symm)
        have Hrow := Lib.hid (rowT_take d.cks k x Hxk.out)
        obtain ⟨A, cap, rfl, -, -⟩ := hv2.shape
        go_upto_region 7 with (first
          | (refine wpList_load_mid rfl 125 _ rfl c (k * 4) rfl cs _ hr Tryd.underlying125 rfl dix ?_)
          | (refine wpList_store_row rfl 125 _ _ rfl wr.heap.size cs.toArray rfl rfl 125 _ Hnew.out dixA (by rw [hsz, hz]) hx1 ?_))
        obtain ⟨g, hg⟩ : ∃ g, g = wr.heap.size := ⟨_, rfl⟩
        obtain ⟨w5, hw5⟩ : ∃ y, y = ((wr.alloc (.cells #[Value.string ⟨#[]⟩, Value.bool false, Value.bool false, Value.int .i64 0] 125)).setRow wr.heap.size cs.toArray) := ⟨_, rfl⟩
        have hb5 := Hb2.out
        rw [← hw5] at hb5 hcell0 hv2 ⊢
        rw [← hg] at hcell0
        rw [← hg]
        have hv3 := hv2.alloc (.cells #[.string ⟨s.toArray⟩] 9)
        have hsrc : Src Tryd.prog 1 54 (.slice (some ⟨w5.heap.size, 0, none⟩) 1 1) 1 [.string ⟨s.toArray⟩] (w5.alloc (.cells #[.string ⟨s.toArray⟩] 9)) := str_src _ 1 _ (by rw [Lib.cell_of_heap (heap_alloc_new w5 _)]; rfl)
        have hws : w.heap.size ≤ (w5.alloc (.cells #[.string ⟨s.toArray⟩] 9)).heap.size := by have := hb5.size; simp; omega
        have Hv3 := Lib.hid hv3
        have Hb5 := Lib.hid hb5
        clear hw5 hg hv2 hv3 hb5 hcell1 hr Hb2 Hnew
        go_wp2_with (at_builtin; refine wpList_append_bag0 _ rfl _ _ 54 54 rfl i0 (.string ByteArray.empty) 16 Tryd.underlying54 hi0 hz0 hz1 hz2 rfl hws rfl Hv3.out _ 1 _ rfl hsrc (by omega) (by unfold maxLen; omega) (by omega) ?_)
        intro v' w' hB' hb'
        have HB' : Hid (Bag0 w' w.heap.size 1 v' (k + 1) (rowT ((d.cks.take (k + 1)).map (·.data)))) := Lib.hid (by rw [Hrow.out, ← Hs.out, List.map_take]; exact hB')
        have Hb6 := Lib.hid ((Hb5.out.alloc Hb5.out.size _).trans hb')
        clear hB' hb' hsrc hws hcell0
        go_wp2_with fail
        go_roundw
        case rel => exact ⟨k + 1, by omega, by go_num, HB'.out, HcmS.out, Hb6.out⟩
        case measure => simp [intOf]; omega
    · obtain rfl : n = k := by omega
      have hall : Hl.allCome d.cks = true := by
        unfold Hl.allCome
        rw [List.all_eq_true]
        intro x hx
        exact Hcm.out x (by rw [Hn.out, List.take_length]; exact hx)
      have htk : (d.cks.take n).map (·.data) = d.cks.map (·.data) := by rw [Hn.out, List.take_length]
      rw [htk] at hV
      have hset : Hl.settle K d sp = ({ d with blob := (joinS K (Hl.mk d.out sp) (d.cks.map (·.data))).1, done := (joinS K (Hl.mk d.out sp) (d.cks.map (·.data))).2 == 0, failed := !((joinS K (Hl.mk d.out sp) (d.cks.map (·.data))).2 == 0) }, []) := by unfold Hl.settle; rw [if_pos hall]
      obtain ⟨ts, hts⟩ : ∃ ts, ts = d.cks.map (·.data) := ⟨_, rfl⟩
      have htl : ts.length = n := by rw [hts, List.length_map, Hn.out]
      have ht64 : ∀ t ∈ ts, t.length ≤ 64 := by
        intro t ht
        rw [hts] at ht
        obtain ⟨x, hx, rfl⟩ := List.mem_map.1 ht
        exact HDL.out x hx
      rw [← hts] at hset hV
      have hjs : joinS K (Hl.mk d.out sp) ts = joinS K m ts := by
        have e := HX.out.mani
        rw [Hsp.out] at e
        obtain rfl := Option.some.inj e
        rw [← HX.out.whole]
        rfl
      rw [hjs] at hset
      obtain ⟨A, cap, rfl, hcap, hle⟩ := hV.shape
      have hmw := below_keep hb HM.out
      have hqw := below_keep hb HX.out.hq
      have hLw := HL.out.below hb
      have mok := ((HX.out.mok OK.out LT.out).below hb (Nat.le_refl _)).more hb.size
      have hS := strs_of_bag hV htl.symm
      rw [← htl] at hle
      have hJ := join_any K m A cap ts wr hLw mok hS hle hcap (by omega) (fun t ht => by have := ht64 t ht; omega)
      rw [htl] at hJ
      have minf := mani_info
      have hm34 : (Tryd.prog.info? 39).map (·.size) = some m.row.size := by rw [m.row_size mok.whole]; exact mani_info
      have c37w : wr.cell? ⟨p, 37, none⟩ = some (.pointer (some ⟨q, 0, none⟩)) := (hb.cell (p := ⟨p, 37, none⟩) hpl).trans c37
      obtain ⟨bl, hbl⟩ : ∃ y, y = (joinS K m ts).1 := ⟨_, rfl⟩
      obtain ⟨er, her⟩ : ∃ y, y = (joinS K m ts).2 := ⟨_, rfl⟩
      have hokS := Hl.settle_ok K OK.out HF.out sp
      rw [hset] at hokS
      rw [← hbl, ← her] at hJ hset hokS
      have HJ := Lib.hid hJ
      have Hset := Lib.hid hset
      have HokS := Lib.hid hokS
      have Hmw := Lib.hid hmw
      have Hqw := Lib.hid hqw
      have Hb := Lib.hid hb
      clear hS hJ hset hokS hmw hqw hLw mok hV hts hjs htk hall hcap hle ht64 minf hbl her c37 c38 hb Hcm hk hkn
      go_wp2_with (refine wpList_load_row rfl 39 _ rfl q rfl 39 m.row (0, 0) _ Hqw.out Tryd.underlying39 rfl hm34 ?_)
      refine HJ.out.mono ?_
      rintro e w7 ⟨rfl, hB7⟩
      have hm7 := below_keep hB7 Hmw.out
      obtain ⟨k0, k1, k2, -, -, -, -, -⟩ := hl_cells HO.out hm7
      have y0 : w7.frozen? ⟨p, 0, none⟩ = false := Lib.frozen_of_heap hm7 _
      have y1 : w7.frozen? ⟨p, 1, none⟩ = false := Lib.frozen_of_heap hm7 _
      have y2 : w7.frozen? ⟨p, 2, none⟩ = false := Lib.frozen_of_heap hm7 _
      have Hm7 := Lib.hid hm7
      have HB7 := Lib.hid hB7
      clear hm7 hB7 HJ
      go_wp2_with fail
      go_ret
      rw [Hset.out]
      have hm8 := heap_setCell_same _ p 2 _ _ (.bool (er != 0)) (heap_setCell_same _ p 1 _ _ (.bool (er == 0)) (heap_setCell_same _ p 0 _ _ (.string ⟨bl.toArray⟩) Hm7.out))
      rw [hl_set0, hl_set1, hl_set2] at hm8
      have hO8 : Only [p] wr (((w7.setCell ⟨p, 0, none⟩ (.string ⟨bl.toArray⟩)).setCell ⟨p, 1, none⟩ (.bool (er == 0))).setCell ⟨p, 2, none⟩ (.bool (er != 0))) := (((Only.of_below HB7.out).setCell (by simp) _).setCell (by simp) _).setCell (by simp) _
      have hO : Only [p] w (((w7.setCell ⟨p, 0, none⟩ (.string ⟨bl.toArray⟩)).setCell ⟨p, 1, none⟩ (.bool (er == 0))).setCell ⟨p, 2, none⟩ (.bool (er != 0))) := (Only.of_below Hb.out).trans hO8
      refine ⟨_, S, rfl, Bag0.nil _ _ _, ⟨HokS.out, fun k hk => Nat.lt_of_lt_of_le (LT.out k hk) hO.size, PS.out, _, _, hm8, .inr ⟨q, c, m, ?_⟩⟩, hO.mono (by intro k hk; simp at hk; subst hk; exact PS.out), fun k hk => .inl hk, apart_nil _ _ _⟩
      rw [Hn.out]
      exact HX.out.turn LT.out hO
end Go.Proofs.YtfbjbhddapoopaaDoor
