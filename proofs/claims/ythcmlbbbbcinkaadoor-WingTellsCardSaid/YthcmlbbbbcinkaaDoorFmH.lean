/-
  Layer 3: the walk of comb.Decode.
-/
import Derived.Test.YthcmlbbbbcinkaaDoorRoundAny
import Derived.RangeFuncLeaves
set_option linter.unusedVariables false
set_option linter.unusedSimpArgs false
namespace Go.Proofs.YthcmlbbbbcinkaaDoor
open Go.RowKit Go.Shelf Pl
attribute [local go_sem] Oper.semAt_some Lb.ba_get Lb.ba_cut Lb.ba_add Lb.ba_size Lb.take_rest

theorem bag_range {w : World} {g cap n : Nat} {cs : List Value} (h : Bag w 1 g cap n cs) : w.rangeAt g 0 cs := fun k v hv => by
  rw [Nat.zero_add]; exact h.holds k v hv

theorem wp_load_dig {op : Oper} {a : Act} {w : World} {K : Act → World → Prop} {Q : Exit → Act → World → Prop} (x : Operand) (ho : op.op = .load 23 x)
    (b o : Nat) (hx : a.eval x = .pointer (some ⟨b, o, none⟩)) (d : List UInt8) (hd : d.length = 32) (hc : w.rangeAt b o (byV d))
    (h : K (a.put op.dst (.agg (digV d))) w) : op.wp Tryd.prog a w K Q :=
  wp_load_mid 23 x ho b o hx (byV d) _ hc Tryd.underlying23 rfl (by rw [byV_len, hd]; exact dig_info) h

theorem arr_at (A : Option Addr) (cap : Nat) (W : World) : (Instr.arrayAt 23 (.slice A 32 cap)).run Tryd.prog W = .ok (.pointer A) W := run_arrayAt (P := Tryd.prog) (w := W) 23 5 32 A 32 cap Tryd.underlying23 (Nat.le_refl _)

theorem calls_of_wp_m {P : Program} {f : FuncId} {fn : Func} {c : Code} {args : Array Value} {w : World} {R : Ending → World → Prop} (n : Nat) (hf : P.funcs[f]? = some fn) (hb : fn.body = some c)
    (h : c.wp P (bodyPostM Fence.wide n P fn R) { tmps := args ++ Array.replicate (fn.ntmps - args.size) undef, defers := [] } w) : Calls P f args w R :=
  callsIn_wide.1 (callsIn_of_wp_marks (F := Fence.wide) (n := n) hf hb trivial (wpIn_wide.2 h) rfl)
theorem bodyPostM_ret {P : Program} {n : Nat} {fn : Func} {R : Ending → World → Prop} {a : Act} {w : World} {v : Value} (hr : (results fn a.tmps).run P w = .ok v w) (hd : a.defers = []) (hR : R (.returned v) w) :
    bodyPostM Fence.wide n P fn R .ret a w := by
  show LeavesInM Fence.wide n P fn a.tmps R a.defers .returning w
  rw [hd]
  exact ⟨v, hr, hR⟩
theorem bodyPostM_ret1 {P : Program} {n : Nat} {fn : Func} {R : Ending → World → Prop} {a : Act} {w : World} {v : Value} {D : Nat} (hK : w.heap[D]? = some (.deferred (some []))) (hr : (results fn a.tmps).run P (w.putObj D (.deferred none)) = .ok v (w.putObj D (.deferred none))) (hd : a.defers = [{ target := .collected D, args := #[] }]) (hR : R (.returned v) (w.putObj D (.deferred none))) :
    bodyPostM Fence.wide n P fn R .ret a w := by
  show LeavesInM Fence.wide n P fn a.tmps R a.defers .returning w
  rw [hd]
  exact ⟨by simp, .inl ⟨_, _, rfl, run_takeDeferred hK, v, hr, hR⟩⟩
theorem digs_keepD {w w' : World} {B n cap q D : Nat} {A : Option Addr} {ds : List (List UInt8)} {x : Option (List Deferred)} (h : Bag0 w B 32 (.slice A n cap) n ((ds.map byV).flatten)) (hn : n = ds.length) (hd : ∀ d ∈ ds, d.length = 32) (hK : w.heap[D]? = some (.deferred x)) (ho : Only [q, D] w w') (hq : q < B) : Digs w' w'.heap.size A ds := by
  intro i hi
  rcases h with ⟨_, h0, _⟩ | ⟨g, c, hv, hg, hB⟩
  · omega
  · refine ⟨g, 0, by injection hv, Nat.lt_of_lt_of_le hB.lt ho.size, fun k v hk => ?_⟩
    rw [Nat.zero_add]
    have hc := hB.holds _ _ (flat_get ds hd i hi k v hk)
    have hgD : g ≠ D := by
      intro e
      obtain ⟨cs, t, f, he⟩ := cells_of_cell hc
      rw [e, hK] at he
      cases he
    exact (ho.cell (p := ⟨g, _, none⟩) hB.lt (by simp; exact ⟨by omega, hgD⟩)).trans hc
theorem only_putObj (w : World) (D : Nat) (o : Obj) : Only [D] w (w.putObj D o) :=
  ⟨rfl, rfl, rfl, by rw [World.putObj_size]; exact Nat.le_refl _, fun k _ hk => World.putObj_heap_other (by simpa using hk)⟩

/-- as DecPost; the digests lie in a block of the call's own -/
def DecPostN (s : List UInt8) (w : World) (e : Ending) (w' : World) : Prop :=
  ∃ (m : ManiD) (x : Int), e = .returned (.tuple #[.agg m.row, .int .i64 x]) ∧ DecOf s m x ∧ m.Ok w' w'.heap.size ∧ (∀ a, m.A = some a → w.heap.size ≤ a.block) ∧ Below w.heap.size w w'
set_option maxRecDepth 100000 in
set_option maxHeartbeats 600000 in
theorem decode_new (s : List UInt8) (w : World) (hs : s.length ≤ 140737488351232) : Calls Tryd.prog 64 #[.string ⟨s.toArray⟩] w (DecPostN s w) := by
  refine calls_of_wp_m 6 Tryd.func64 rfl ?_
  simp only [Tryd.ntmps64, List.size_toArray, List.length_cons, List.length_nil, Nat.reduceAdd, Nat.reduceSub, Array.replicate_succ, Array.replicate_zero, List.push_toArray, List.append_toArray, List.nil_append, List.cons_append]
  go_upto_region 1 with fail
  show Code.wp _ _ _ _ (w.alloc (.cells zeroMani.row 31))
  obtain ⟨q, hq⟩ : ∃ q, q = w.heap.size := ⟨_, rfl⟩
  have a3 : (w.alloc (.cells zeroMani.row 31)).heap[q]? = some (.cells zeroMani.row 31 (0, 0)) := by rw [hq]; exact heap_alloc_new w _
  have b0 : Below w.heap.size w (w.alloc (.cells zeroMani.row 31)) := (Below.refl _ w).alloc (Nat.le_refl _) _
  obtain ⟨w1, hw1⟩ : ∃ w1, w1 = w.alloc (.cells zeroMani.row 31) := ⟨_, rfl⟩
  rw [← hw1] at a3 b0 ⊢
  rw [← hq]
  have HQ := Lib.hid a3
  have B1 := Lib.hid b0
  have Hq := Lib.hid hq
  clear hw1 a3 b0 hq
  go_wp2_with fail
  refine (readRow_c s 3 (.inl (by omega)) (by omega) w1).mono ?_
  rintro e w2 ⟨A, cap, ts, r, ok, rfl, ⟨hgot, hS, htl⟩, hB⟩
  have HS := Lib.hid hS
  have B2 := Lib.hid (B1.out.trans (hB.mono B1.out.size))
  have HQ2 := Lib.hid (below_keep hB HQ.out)
  have hq2 : q < w2.heap.size := heap_lt HQ2.out
  have htli : (ts.length : Int) ≤ 4294967296 := by omega
  clear hB hS B1 HQ
  have hno : ∀ W : World, Below w.heap.size w W → (∀ x, ¬ DecYes s x) → DecPostN s w (.returned (.tuple #[.agg zeroMani.row, .int .i64 3])) W := fun W hW hn => ⟨zeroMani, 3, rfl, .inr ⟨rfl, rfl, hn⟩, zeroMani_ok _ _, (fun a h => by simp [zeroMani] at h), hW⟩
  have HNO := Lib.hid hno
  clear hno
  rcases hgot with ⟨rfl, hrd⟩ | ⟨rfl, hrd, rfl, rfl⟩
  · by_cases hr : r = []
    · subst hr
      by_cases hl : ts.length = 3
      · obtain ⟨a, b, c, rfl⟩ : ∃ a b c, ts = [a, b, c] := len3 hl
        have hlen := row3_len hrd
        obtain ⟨g, o, rfl, hg, ca, cb, cc⟩ := strs3 HS.out
        clear htl htli hl
        have hai : (a.length : Int) ≤ 140737488351232 := by omega
        have hci : (c.length : Int) ≤ 140737488351232 := by omega
        by_cases ha : a.length = 32
        · have ha1 : ((a.length : Int) != 32) = false := by rw [ha]; rfl
          obtain ⟨u, hu⟩ : ∃ u, u = c.length % 32 := ⟨_, rfl⟩
          have hcm : (c.length : Int).tmod 32 = (u : Int) := by rw [hu]; rfl
          have Hu := Lib.hid hu
          by_cases hc : u = 0
          · have hcm0 : (c.length : Int).tmod 32 = 0 := by rw [hcm, hc]; rfl
            have hc32 : c.length % 32 = 0 := by rw [← hu]; exact hc
            have Hrd := Lib.hid hrd
            have Hlen := Lib.hid hlen
            have Hc32 := Lib.hid hc32
            clear hcm hc hu Hu hc32 hrd hlen
            go_wp2_with fail
            refine (readNum_c b (by have := Hlen.out; omega) w2).mono ?_
            rintro e w3 ⟨n, r, ok, rfl, hgot2, hB⟩
            have hgi : g < w3.heap.size := Nat.lt_of_lt_of_le hg hB.size
            have ca3 : w3.cell? ⟨g, o, none⟩ = some (.string ⟨a.toArray⟩) := (hB.cell (p := ⟨g, o, none⟩) hg).trans ca
            have cc3 : w3.cell? ⟨g, o + 2, none⟩ = some (.string ⟨c.toArray⟩) := (hB.cell (p := ⟨g, o + 2, none⟩) hg).trans cc
            have HQ3 := Lib.hid (below_keep hB HQ2.out)
            have B3 := Lib.hid hB
            clear hB ca cb cc HQ2 hcm0
            obtain ⟨W1, capa, hcv, ho, hbg⟩ := bytes_bag a w3 (by omega)
            have hbr := bag_range hbg
            have hbl : w3.heap.size < W1.heap.size := hbg.lt
            have B3' := Lib.hid (B3.out.trans ((ho.below (Nat.le_refl _) (by simp)).mono B3.out.size))
            have HQ3' := Lib.hid (ho.keep HQ3.out (by simp))
            have cc3' : W1.cell? ⟨g, o + 2, none⟩ = some (.string ⟨c.toArray⟩) := (ho.cell (p := ⟨g, o + 2, none⟩) hgi (by simp)).trans cc3
            have hgi' : g < W1.heap.size := by omega
            have hcapa := hbg.le
            have hcapx := hbg.max
            rw [ha] at hcv hcapa
            have hdi : (Tryd.prog.info? 23).map (·.size) = some (byV a).length := by rw [dig_info, byV_len, ha]
            have hbd := built_mani a n ha
            obtain ⟨R, hR⟩ : ∃ R, R = maniRow a n (.slice none 0 0) := ⟨_, rfl⟩
            have HR := Lib.hid hR
            rw [← hR] at hbd
            have hsz : R.size = 34 := by rw [hR]; simp [maniRow, byV, ha]
            have h1c : R.all (·.oneCell') = true := by rw [hR]; exact ManiD.row_one ⟨a, n, none, 0, []⟩
            have hinf : (Tryd.prog.info? 31).map (·.size) = some R.size := by rw [hsz]; exact mani_info
            have Hbr := Lib.hid hbr
            have hat := arr_at (some ⟨w3.heap.size, 0, none⟩) capa W1
            clear ho hbg hbr hR
            go_upto_region 6 with (first
              | (refine wpList_load_mid rfl 23 _ rfl w3.heap.size 0 rfl _ _ Hbr.out Tryd.underlying23 rfl hdi ?_)
              | (refine wpList_build2 rfl 31 _ _ _ _ rfl _ _ rfl rfl _ hbd ?_)
              | (refine wpList_store_row rfl 31 _ _ rfl W1.heap.size R rfl rfl 31 _ (heap_alloc_new W1 _) hinf (by rw [hsz]; rfl) h1c ?_))
            obtain ⟨p, hp⟩ : ∃ p, p = W1.heap.size := ⟨_, rfl⟩
            have h3 := setRow_heap _ _ _ R _ _ (heap_alloc_new W1 (.cells zeroMani.row 31))
            have o3 : Only [p] W1 ((W1.alloc (.cells zeroMani.row 31)).setRow W1.heap.size R) := ((Only.refl [p] W1).alloc _).setRow (by simp [hp]) R
            obtain ⟨w5, hw5⟩ : ∃ w5, w5 = (W1.alloc (.cells zeroMani.row 31)).setRow W1.heap.size R := ⟨_, rfl⟩
            rw [← hw5] at h3 o3
            show Code.wp _ _ _ _ ((W1.alloc (.cells zeroMani.row 31)).setRow W1.heap.size R)
            rw [← hw5, ← hp]
            rw [← hp] at h3
            have b5 : Below W1.heap.size W1 w5 := o3.below (Nat.le_refl _) (by simp [hp])
            have H5 : Hid (w5.heap[p]? = some (.cells (maniRow a n (.slice none 0 0)) 31 (0, 0))) := Lib.hid (by rw [← HR.out]; exact h3)
            have HQ5 := Lib.hid (below_keep b5 HQ3'.out)
            have cc5 : w5.cell? ⟨g, o + 2, none⟩ = some (.string ⟨c.toArray⟩) := (b5.cell (p := ⟨g, o + 2, none⟩) hgi').trans cc3'
            have hqp : q ≠ p := by have := heap_lt HQ3'.out; omega
            have hp5 : p < w5.heap.size := heap_lt h3
            have B5 := Lib.hid (B3'.out.trans (b5.mono B3'.out.size))
            have hp2 : w2.heap.size ≤ p := by rw [hp]; exact B3'.out.size
            clear hw5 h3 o3 hp b5 hinf h1c hsz hbd HQ3' HQ3 B3 B3' ca3 cc3 cc3' hat hcv Hbr hbl hcapa hcapx hdi hgi hgi' hg HR
            obtain ⟨k, hk⟩ : ∃ k, k = c.length / 32 := ⟨_, rfl⟩
            have hck : c.length = 32 * k := by have := Hc32.out; omega
            have Hck := Lib.hid hck
            clear hk hck
            obtain ⟨W6, capc, hcc, ho6, hb6⟩ := bytes_bag c w5 (by omega)
            have Hb6 := Lib.hid hb6
            have Ho6 := Lib.hid ho6
            clear hb6 ho6
            go_wp2_with fail
            refine (callsIn_wide.1 (chunk_in Fence.wide 3 trivial rfl (some ⟨w5.heap.size, 0, none⟩) c.length capc W6)).mono ?_
            rintro e w7 ⟨rfl, hw7⟩
            clear hcc cc5
            go_wp2_with fail
            have hb7 : Below w5.heap.size w5 w7 := by rw [hw7]; exact (((Ho6.out.below (Nat.le_refl _) (by simp)).alloc Ho6.out.size _).alloc (by have := Ho6.out.size; simp; omega) _)
            have ho7 : Only [] W6 w7 := by rw [hw7]; exact ((Only.refl [] W6).alloc _).alloc _
            have hcs : w7.cell? ⟨W6.heap.size, 0, none⟩ = some (.slice (some ⟨w5.heap.size, 0, none⟩) c.length capc) := by
              rw [hw7]
              have e : ((W6.alloc (.cells #[.slice (some ⟨w5.heap.size, 0, none⟩) c.length capc] 45)).alloc (.cells #[.int .i64 32] 3)).heap[W6.heap.size]? = some (.cells #[.slice (some ⟨w5.heap.size, 0, none⟩) c.length capc] 45 (0, 0)) := (Below.heap_alloc _ _ _ (by simp)).trans (heap_alloc_new W6 _)
              rw [Lib.cell_of_heap e]; rfl
            have hcn : w7.cell? ⟨W6.heap.size + 1, 0, none⟩ = some (.int .i64 32) := by
              rw [hw7]
              rw [Lib.cell_of_heap (heap_alloc2_new W6 _ _)]; rfl
            have hs7 : w7.heap.size = W6.heap.size + 2 := by rw [hw7]; simp
            have hw6 := Ho6.out.size
            have hgc : w5.heap.size < W6.heap.size := Hb6.out.lt
            have hbg7 : Bag w7 1 w5.heap.size capc c.length (byV c) := Hb6.out.only ho7 (by simp)
            have hcc1 := hbg7.le
            have hcc2 := hbg7.max
            have Hr7 := Lib.hid (bag_range hbg7)
            have H7 := Lib.hid (below_keep hb7 H5.out)
            have HQ7 := Lib.hid (below_keep hb7 HQ5.out)
            have B7 := Lib.hid (B5.out.trans (hb7.mono B5.out.size))
            have hp7 : p < w7.heap.size := by omega
            have hq7 : q < w7.heap.size := heap_lt HQ7.out
            rw [← hw7]
            obtain ⟨gc, hgcd⟩ : ∃ gc, gc = w5.heap.size := ⟨_, rfl⟩
            obtain ⟨gs, hgsd⟩ : ∃ gs, gs = W6.heap.size := ⟨_, rfl⟩
            have hgc7 : gc < w7.heap.size := by omega
            have hgcp : gc ≠ p := by omega
            have hgs7 : gs < w7.heap.size := by omega
            have hgn7 : gs + 1 < w7.heap.size := by omega
            have hgsp : gs ≠ p := by omega
            have hgnp : gs + 1 ≠ p := by omega
            rw [← hgcd] at Hr7 hcs ⊢
            rw [← hgsd] at hcs hcn ⊢
            have hlen2 := Hlen.out
            have hI0 : InvD p a c n k w7 [] w7 := ⟨.slice none 0 0, .inl rfl, H7.out, Bag0.nil _ _ _, Only.refl _ _⟩
            have hst := chunk_stops Fence.wide 5 trivial rfl (by omega) gs (gs + 1) p w7.heap.size gc capc k c.length Hck.out (by omega) hcc1 (by unfold maxLen at hcc2; omega) hgs7 hgn7 hgsp hgnp w7 (Nat.le_refl _) hcs hcn
            have Hst := Lib.hid hst
            have HI0 := Lib.hid hI0
            clear hst hI0 hb7 ho7 hbg7 hw7 hgcd hgsd hs7 hw6 hgc hcc1 hcc2 H5 HQ5 B5 Hb6 Ho6 H7 hcs hcn
            refine (wpIn_wide (n := 6)).1 ?_
            refine wpIn_rangeFunc_ownG (F := Fence.wide) (w0 := w7) rfl (by omega) (gf := 87) (lb := #[.pointer (some ⟨gs, 0, none⟩), .pointer (some ⟨gs + 1, 0, none⟩)]) rfl trivial (enters_of Tryd.func87 (by kernel_rfl) rfl)
              Hst.out KeepP.trans (keepP_b (Nat.le_refl _)) (Below.refl _ _) (fun _ => rfl) (InvD p a c n k w7) (fun _ _ _ => False) (invD_own p a c n k w7 hp7) (fun _ _ _ _ _ hs _ _ => hs) HI0.out ?a1 ?assign ?body ?done ?stop
            case assign =>
              intro l x W K hK
              unfold piece
              simp only [List.zip_toArray, List.zip_cons_cons, List.zip_nil_left, List.foldl_toArray, List.foldl_cons, List.foldl_nil, List.setIfInBounds_toArray, List.set_cons_zero, List.set_cons_succ]
              gi_wp2
              exact hK
            case body =>
              rintro l pre x W ⟨v, h0, hP, hB, hO⟩ hlt
              obtain ⟨x, hx⟩ := x
              obtain ⟨d, hd⟩ : ∃ d, d = cut32 c x := ⟨_, rfl⟩
              have hdd : d.length = 32 := by rw [hd]; exact cut32_length c x k Hck.out hx
              have hds : (digV d).size = 32 := by rw [digV_size, hdd]
              have hF := fold_dig d hdd
              have hpw : p < W.heap.size := heap_lt hP
              have c33 : W.cell? ⟨p, 33, none⟩ = some v := by
                rw [Lib.cell_of_heap hP]
                unfold maniRow
                rw [List.getElem?_toArray, List.getElem?_append_right (by simp [byV, ha])]
                simp [byV, ha]
              have hm33 : (maniRow a n v)[33]? = some v := by rw [Lib.cell_of_heap hP] at c33; exact c33
              have hrd : W.rangeAt gc (32 * x) (byV d) := by
                intro j u hu
                have hj : j < 32 := by have := (List.getElem?_eq_some_iff.1 hu).1; rw [byV_len, hdd] at this; exact this
                rw [hd] at hu
                unfold cut32 byV at hu
                rw [List.map_take, List.map_drop, List.getElem?_take_of_lt hj, List.getElem?_drop] at hu
                refine (hO.cell (p := ⟨gc, 32 * x + j, none⟩) hgc7 (by simp; exact hgcp)).trans ?_
                have := Hr7.out (32 * x + j) u hu
                rwa [Nat.zero_add] at this
              obtain ⟨i1', hi1, hy0, hy1, hy2⟩ := info_parts dig_info3
              have hat := arr_at (some ⟨gc, 32 * x, none⟩) 32
              have HP := Lib.hid hP
              have HBg := Lib.hid hB
              have HO := Lib.hid hO
              have Hrdd := Lib.hid hrd
              have Hd := Lib.hid hd
              have h7W : w7.heap.size ≤ W.heap.size := hO.size
              have hpl : (pre.length + 1) * 32 ≤ 140737488355328 := by have := Hck.out; omega
              have H0 := Lib.hid h0
              clear hP hB hO hrd hd h0
              gi_upto_region 8 with fail
              refine region_round _ _ (by kernel_rfl) (fun ⟨_, _, h⟩ => h) (by simp) ?_
              try change wpAny _ _ _ _ _ _ _ (World.drew _)
              try simp only [Act.put, List.getElem_toArray, List.getElem_cons_zero, List.getElem_cons_succ, List.setIfInBounds_toArray, List.set_cons_zero, List.set_cons_succ]
              refine wpAny_take (i := 0) (v := ?_) rfl (by kernel_rfl) (by kernel_rfl) (by kernel_rfl) (fun _ _ _ h => h) (Or.inl ⟨by rfl, ?_⟩) ?_
              rotate_left 1
              · intro w
                go_simp
                try with_reducible rfl
              try simp only [Act.put, List.getElem_toArray, List.getElem_cons_zero, List.getElem_cons_succ, List.setIfInBounds_toArray, List.set_cons_zero, List.set_cons_succ]
              refine wpAny_take (i := 2) (v := ?_) rfl (by kernel_rfl) (by kernel_rfl) (by kernel_rfl) (fun _ _ _ h => h) (Or.inl ⟨by rfl, ?_⟩) ?_
              rotate_left 1
              · intro w
                go_simp
                try with_reducible rfl
              try simp only [Act.put, List.getElem_toArray, List.getElem_cons_zero, List.getElem_cons_succ, List.setIfInBounds_toArray, List.set_cons_zero, List.set_cons_succ]
              refine wpAny_take (i := 3) (v := ?_) rfl (by kernel_rfl) (by kernel_rfl) (by kernel_rfl) (fun _ _ _ h => h) (Or.inl ⟨by rfl, ?_⟩) ?_
              rotate_left 1
              · intro w
                go_simp
                try with_reducible rfl
              try simp only [Act.put, List.getElem_toArray, List.getElem_cons_zero, List.getElem_cons_succ, List.setIfInBounds_toArray, List.set_cons_zero, List.set_cons_succ]
              refine wpAny_ready (rs := [1, 4]) (by kernel_rfl) (by simp) ?_
              refine AllReady.cons rfl (fun K hK => ?_) ?_
              · go_simp
                refine hK _ _ ?_
                clear hK K
                try simp only [Act.put, List.getElem_toArray, List.getElem_cons_zero, List.getElem_cons_succ, List.setIfInBounds_toArray, List.set_cons_zero, List.set_cons_succ]
                refine wpAny_ready (rs := [4]) (by kernel_rfl) (by simp) ?_
                refine AllReady.cons rfl (fun K hK => ?_) ?_
                · rw [if_pos (by rfl)]
                  refine wp_load_dig _ rfl gc (32 * x) rfl d hdd Hrdd.out ?_
                  refine hK _ _ ?_
                  clear hK K
                  try simp only [Act.put, List.getElem_toArray, List.getElem_cons_zero, List.getElem_cons_succ, List.setIfInBounds_toArray, List.set_cons_zero, List.set_cons_succ]
                  refine wpAny_ready (rs := [5]) (by kernel_rfl) (by simp) ?_
                  refine AllReady.cons rfl (fun K hK => ?_) ?_
                  · go_simp
                    refine hK _ _ ?_
                    clear hK K
                    try simp only [Act.put, List.getElem_toArray, List.getElem_cons_zero, List.getElem_cons_succ, List.setIfInBounds_toArray, List.set_cons_zero, List.set_cons_succ]
                    refine wpAny_ready (rs := [6]) (by kernel_rfl) (by simp) ?_
                    refine AllReady.cons rfl (fun K hK => ?_) ?_
                    · rw [if_pos (by rfl)]
                      refine wp_append_bagR (B := w7.heap.size) (W.drew.alloc (.cells (digV d) 23)) _ _ 29 29 rfl i1' _ 32 Tryd.underlying29 hi1 hy0 hy1 hy2 (by show (digV (List.replicate 32 0)).size = 32; rfl) (by simp; omega) rfl ((HBg.out.below ((Below.refl _ W).drew)).alloc _) H0.out (.slice (some ⟨W.heap.size, 0, none⟩) 1 1) 1 (byV d) rfl (dig_src W.heap.size 1 d 23 (0, 0) hdd (heap_alloc_new W.drew _)) (by omega) (by unfold maxLen; omega) (by omega) ?_
                      intro v2 w6 hB6 hb6 hk6
                      obtain ⟨A5, c5, rfl, -, -⟩ := hB6.shape
                      have h6 : w6.heap[p]? = some (.cells (maniRow a n v) 31 (0, 0)) := (hb6.block p hp7).trans ((((Below.refl W.heap.size W).drew).alloc (Nat.le_refl _) (.cells (digV d) 23)).block p hpw |>.trans HP.out)
                      have c36 : w6.cell? ⟨p, 33, none⟩ = some v := by rw [Lib.cell_of_heap h6]; exact hm33
                      have z36 : w6.frozen? ⟨p, 33, none⟩ = false := Lib.frozen_of_heap h6 _
                      have H6 := Lib.hid h6
                      clear h6
                      refine hK _ _ ?_
                      clear hK K
                      try simp only [Act.put, List.getElem_toArray, List.getElem_cons_zero, List.getElem_cons_succ, List.setIfInBounds_toArray, List.set_cons_zero, List.set_cons_succ]
                      refine wpAny_take (i := 7) (v := ?_) rfl (by kernel_rfl) (by kernel_rfl) (by kernel_rfl) (fun _ _ _ h => h) (Or.inl ⟨by rfl, ?_⟩) ?_
                      rotate_left 1
                      · intro w
                        go_simp
                        try with_reducible rfl
                      try simp only [Act.put, List.getElem_toArray, List.getElem_cons_zero, List.getElem_cons_succ, List.setIfInBounds_toArray, List.set_cons_zero, List.set_cons_succ]
                      refine wpAny_ready (rs := [8]) (by kernel_rfl) (by simp) ?_
                      refine AllReady.cons rfl (fun K hK => ?_) ?_
                      · go_simp
                        refine hK _ _ ?_
                        clear hK K
                        refine wpAny_done (by kernel_rfl) ?_ _
                        have hk7 : KeepsOthers W (w6.setCell ⟨p, 33, none⟩ (.slice A5 (pre.length + 1) c5)) := ((KeepsOthers.drew W).trans (KeepsOthers.alloc _ _)).trans (hk6.trans (keepsOthers_only (g := p) ((Only.refl [p] w6).setCell (by simp) _) c36))
                        have hO7 : Only [p] w7 (w6.setCell ⟨p, 33, none⟩ (.slice A5 (pre.length + 1) c5)) := (((HO.out.trans (Only.of_below ((Below.refl _ W).drew))).alloc _).belowB hb6).setCell (by simp) _
                        refine ⟨hk7.from _, ⟨hk7.size, fun j hj hjp => (hO7.block j hj (by simp; exact hjp)).trans (HO.out.block j hj (by simp; exact hjp)).symm⟩, .slice A5 (pre.length + 1) c5, .inr ?_, ?_, ?_, hO7⟩
                        · rw [pre_succ, List.length_append, byV_len, cut32_length c x k Hck.out hx]; omega
                        · exact (heap_setCell_same _ p 33 _ _ _ H6.out).trans (by rw [maniRow_set _ _ _ _ ha])
                        · rw [pre_succ, List.length_append, ← Hd.out]; exact hB6.only ((Only.refl [p] w6).setCell (by simp) _) (by simp; omega)
                      exact AllReady.nil
                    exact AllReady.nil
                  exact AllReady.nil
                exact AllReady.nil
              refine AllReady.cons rfl (fun K hK => ?_) ?_
              · rw [if_pos (by rfl)]
                refine wp_load_dig _ rfl gc (32 * x) rfl d hdd Hrdd.out ?_
                refine hK _ _ ?_
                clear hK K
                try simp only [Act.put, List.getElem_toArray, List.getElem_cons_zero, List.getElem_cons_succ, List.setIfInBounds_toArray, List.set_cons_zero, List.set_cons_succ]
                refine wpAny_ready (rs := [1, 5]) (by kernel_rfl) (by simp) ?_
                refine AllReady.cons rfl (fun K hK => ?_) ?_
                · go_simp
                  refine hK _ _ ?_
                  clear hK K
                  try simp only [Act.put, List.getElem_toArray, List.getElem_cons_zero, List.getElem_cons_succ, List.setIfInBounds_toArray, List.set_cons_zero, List.set_cons_succ]
                  refine wpAny_ready (rs := [5]) (by kernel_rfl) (by simp) ?_
                  refine AllReady.cons rfl (fun K hK => ?_) ?_
                  · go_simp
                    refine hK _ _ ?_
                    clear hK K
                    try simp only [Act.put, List.getElem_toArray, List.getElem_cons_zero, List.getElem_cons_succ, List.setIfInBounds_toArray, List.set_cons_zero, List.set_cons_succ]
                    refine wpAny_ready (rs := [6]) (by kernel_rfl) (by simp) ?_
                    refine AllReady.cons rfl (fun K hK => ?_) ?_
                    · rw [if_pos (by rfl)]
                      refine wp_append_bagR (B := w7.heap.size) (W.drew.alloc (.cells (digV d) 23)) _ _ 29 29 rfl i1' _ 32 Tryd.underlying29 hi1 hy0 hy1 hy2 (by show (digV (List.replicate 32 0)).size = 32; rfl) (by simp; omega) rfl ((HBg.out.below ((Below.refl _ W).drew)).alloc _) H0.out (.slice (some ⟨W.heap.size, 0, none⟩) 1 1) 1 (byV d) rfl (dig_src W.heap.size 1 d 23 (0, 0) hdd (heap_alloc_new W.drew _)) (by omega) (by unfold maxLen; omega) (by omega) ?_
                      intro v2 w6 hB6 hb6 hk6
                      obtain ⟨A5, c5, rfl, -, -⟩ := hB6.shape
                      have h6 : w6.heap[p]? = some (.cells (maniRow a n v) 31 (0, 0)) := (hb6.block p hp7).trans ((((Below.refl W.heap.size W).drew).alloc (Nat.le_refl _) (.cells (digV d) 23)).block p hpw |>.trans HP.out)
                      have c36 : w6.cell? ⟨p, 33, none⟩ = some v := by rw [Lib.cell_of_heap h6]; exact hm33
                      have z36 : w6.frozen? ⟨p, 33, none⟩ = false := Lib.frozen_of_heap h6 _
                      have H6 := Lib.hid h6
                      clear h6
                      refine hK _ _ ?_
                      clear hK K
                      try simp only [Act.put, List.getElem_toArray, List.getElem_cons_zero, List.getElem_cons_succ, List.setIfInBounds_toArray, List.set_cons_zero, List.set_cons_succ]
                      refine wpAny_take (i := 7) (v := ?_) rfl (by kernel_rfl) (by kernel_rfl) (by kernel_rfl) (fun _ _ _ h => h) (Or.inl ⟨by rfl, ?_⟩) ?_
                      rotate_left 1
                      · intro w
                        go_simp
                        try with_reducible rfl
                      try simp only [Act.put, List.getElem_toArray, List.getElem_cons_zero, List.getElem_cons_succ, List.setIfInBounds_toArray, List.set_cons_zero, List.set_cons_succ]
                      refine wpAny_ready (rs := [8]) (by kernel_rfl) (by simp) ?_
                      refine AllReady.cons rfl (fun K hK => ?_) ?_
                      · go_simp
                        refine hK _ _ ?_
                        clear hK K
                        refine wpAny_done (by kernel_rfl) ?_ _
                        have hk7 : KeepsOthers W (w6.setCell ⟨p, 33, none⟩ (.slice A5 (pre.length + 1) c5)) := ((KeepsOthers.drew W).trans (KeepsOthers.alloc _ _)).trans (hk6.trans (keepsOthers_only (g := p) ((Only.refl [p] w6).setCell (by simp) _) c36))
                        have hO7 : Only [p] w7 (w6.setCell ⟨p, 33, none⟩ (.slice A5 (pre.length + 1) c5)) := (((HO.out.trans (Only.of_below ((Below.refl _ W).drew))).alloc _).belowB hb6).setCell (by simp) _
                        refine ⟨hk7.from _, ⟨hk7.size, fun j hj hjp => (hO7.block j hj (by simp; exact hjp)).trans (HO.out.block j hj (by simp; exact hjp)).symm⟩, .slice A5 (pre.length + 1) c5, .inr ?_, ?_, ?_, hO7⟩
                        · rw [pre_succ, List.length_append, byV_len, cut32_length c x k Hck.out hx]; omega
                        · exact (heap_setCell_same _ p 33 _ _ _ H6.out).trans (by rw [maniRow_set _ _ _ _ ha])
                        · rw [pre_succ, List.length_append, ← Hd.out]; exact hB6.only ((Only.refl [p] w6).setCell (by simp) _) (by simp; omega)
                      exact AllReady.nil
                    exact AllReady.nil
                  exact AllReady.nil
                refine AllReady.cons rfl (fun K hK => ?_) ?_
                · go_simp
                  refine hK _ _ ?_
                  clear hK K
                  try simp only [Act.put, List.getElem_toArray, List.getElem_cons_zero, List.getElem_cons_succ, List.setIfInBounds_toArray, List.set_cons_zero, List.set_cons_succ]
                  refine wpAny_ready (rs := [1]) (by kernel_rfl) (by simp) ?_
                  refine AllReady.cons rfl (fun K hK => ?_) ?_
                  · go_simp
                    refine hK _ _ ?_
                    clear hK K
                    try simp only [Act.put, List.getElem_toArray, List.getElem_cons_zero, List.getElem_cons_succ, List.setIfInBounds_toArray, List.set_cons_zero, List.set_cons_succ]
                    refine wpAny_ready (rs := [6]) (by kernel_rfl) (by simp) ?_
                    refine AllReady.cons rfl (fun K hK => ?_) ?_
                    · rw [if_pos (by rfl)]
                      refine wp_append_bagR (B := w7.heap.size) (W.drew.alloc (.cells (digV d) 23)) _ _ 29 29 rfl i1' _ 32 Tryd.underlying29 hi1 hy0 hy1 hy2 (by show (digV (List.replicate 32 0)).size = 32; rfl) (by simp; omega) rfl ((HBg.out.below ((Below.refl _ W).drew)).alloc _) H0.out (.slice (some ⟨W.heap.size, 0, none⟩) 1 1) 1 (byV d) rfl (dig_src W.heap.size 1 d 23 (0, 0) hdd (heap_alloc_new W.drew _)) (by omega) (by unfold maxLen; omega) (by omega) ?_
                      intro v2 w6 hB6 hb6 hk6
                      obtain ⟨A5, c5, rfl, -, -⟩ := hB6.shape
                      have h6 : w6.heap[p]? = some (.cells (maniRow a n v) 31 (0, 0)) := (hb6.block p hp7).trans ((((Below.refl W.heap.size W).drew).alloc (Nat.le_refl _) (.cells (digV d) 23)).block p hpw |>.trans HP.out)
                      have c36 : w6.cell? ⟨p, 33, none⟩ = some v := by rw [Lib.cell_of_heap h6]; exact hm33
                      have z36 : w6.frozen? ⟨p, 33, none⟩ = false := Lib.frozen_of_heap h6 _
                      have H6 := Lib.hid h6
                      clear h6
                      refine hK _ _ ?_
                      clear hK K
                      try simp only [Act.put, List.getElem_toArray, List.getElem_cons_zero, List.getElem_cons_succ, List.setIfInBounds_toArray, List.set_cons_zero, List.set_cons_succ]
                      refine wpAny_take (i := 7) (v := ?_) rfl (by kernel_rfl) (by kernel_rfl) (by kernel_rfl) (fun _ _ _ h => h) (Or.inl ⟨by rfl, ?_⟩) ?_
                      rotate_left 1
                      · intro w
                        go_simp
                        try with_reducible rfl
                      try simp only [Act.put, List.getElem_toArray, List.getElem_cons_zero, List.getElem_cons_succ, List.setIfInBounds_toArray, List.set_cons_zero, List.set_cons_succ]
                      refine wpAny_ready (rs := [8]) (by kernel_rfl) (by simp) ?_
                      refine AllReady.cons rfl (fun K hK => ?_) ?_
                      · go_simp
                        refine hK _ _ ?_
                        clear hK K
                        refine wpAny_done (by kernel_rfl) ?_ _
                        have hk7 : KeepsOthers W (w6.setCell ⟨p, 33, none⟩ (.slice A5 (pre.length + 1) c5)) := ((KeepsOthers.drew W).trans (KeepsOthers.alloc _ _)).trans (hk6.trans (keepsOthers_only (g := p) ((Only.refl [p] w6).setCell (by simp) _) c36))
                        have hO7 : Only [p] w7 (w6.setCell ⟨p, 33, none⟩ (.slice A5 (pre.length + 1) c5)) := (((HO.out.trans (Only.of_below ((Below.refl _ W).drew))).alloc _).belowB hb6).setCell (by simp) _
                        refine ⟨hk7.from _, ⟨hk7.size, fun j hj hjp => (hO7.block j hj (by simp; exact hjp)).trans (HO.out.block j hj (by simp; exact hjp)).symm⟩, .slice A5 (pre.length + 1) c5, .inr ?_, ?_, ?_, hO7⟩
                        · rw [pre_succ, List.length_append, byV_len, cut32_length c x k Hck.out hx]; omega
                        · exact (heap_setCell_same _ p 33 _ _ _ H6.out).trans (by rw [maniRow_set _ _ _ _ ha])
                        · rw [pre_succ, List.length_append, ← Hd.out]; exact hB6.only ((Only.refl [p] w6).setCell (by simp) _) (by simp; omega)
                      exact AllReady.nil
                    exact AllReady.nil
                  exact AllReady.nil
                exact AllReady.nil
              exact AllReady.nil
            case done =>
              rintro D ys W hD hys ⟨v, h0, hP, hB, hO⟩ hK
              clear h0
              have hyk : ys.length = k := by have := congrArg List.length hys; simpa using this
              have hyc : (ys.map fun x => cut32 c x.1) = cuts c k := by
                have : (ys.map fun x => cut32 c x.1) = (ys.map (·.1)).map (cut32 c) := by simp
                rw [this, hys]; rfl
              rw [hyc, hyk] at hB
              obtain ⟨A9, c9, rfl, hc9, hjc9⟩ := hB.shape
              obtain ⟨m, hm⟩ : ∃ m : ManiD, m = ⟨a, n, A9, c9, cuts c k⟩ := ⟨_, rfl⟩
              have hpl : m.parts.length = k := by rw [hm]; exact cuts_length c k
              have hrow : maniRow a n (.slice A9 k c9) = m.row := by rw [hm]; unfold maniRow ManiD.row ManiD.cells; simp [cuts_length]
              rw [hrow] at hP
              have hmw : m.whole.length = 32 := by rw [hm]; exact ha
              have hnb : -9223372036854775808 ≤ n ∧ n ≤ 9223372036854775807 := by
                rcases hgot2 with ⟨_, h⟩ | ⟨_, _, h, _⟩
                · have := rdNum_bounds h; exact ⟨this.1, this.2.1⟩
                · rw [h]; omega
              have hmlo : -9223372036854775808 ≤ m.size := by rw [hm]; exact hnb.1
              have hmhi : m.size ≤ 9223372036854775807 := by rw [hm]; exact hnb.2
              have heach : ∀ d ∈ m.parts, d.length = 32 := by rw [hm]; exact cuts_each c k Hck.out
              have hml : m.parts.length ≤ maxLen := by rw [hpl]; have := Hck.out; have := Hlen.out; unfold maxLen; omega
              have hone := m.row_one
              have hms := m.row_size hmw
              have hinf : (Tryd.prog.info? 31).map (·.size) = some m.row.size := by rw [hms]; exact mani_info
              have hqw : q ≠ D := by omega
              have hDq : D ≠ q := by omega
              have hDp : D ≠ p := by omega
              have hfin : ∀ W' : World, Below w2.heap.size w2 W' → ∀ R, Below w.heap.size w ((W'.setRow q R).putObj D (.deferred none)) := fun W' hW' R => by
                refine B2.out.trans (((((Only.of_below (bs := [q, D]) hW').setRow (by simp) R).trans ((only_putObj _ D _).mono (by simp)))).below B2.out.size ?_)
                intro x hx
                simp at hx
                have := B2.out.size
                have := Hq.out
                omega
              have HFin := Lib.hid hfin
              have HW : Hid (Below w2.heap.size w2 W) := Lib.hid (B7.out.trans (hO.below B7.out.size (by intro x hx; simp at hx; rw [hx]; exact hp2)))
              have HQ9 := Lib.hid (hO.keep HQ7.out (by simp; exact hqp))
              have HP := Lib.hid hP
              have HK := Lib.hid hK
              have HBm := Lib.hid hB
              have Hm := Lib.hid hm
              have Heach := Lib.hid heach
              have Hml := Lib.hid hml
              have hgood := good_any m W hmw hmlo hmhi hml
              rw [hpl] at hgood
              have Hg := Lib.hid hgood
              have Hpl := Lib.hid hpl
              have Hnb := Lib.hid hnb
              clear hP hB hO hK hm hrow hgood heach hml hpl hfin hnb hys hyk hyc hD
              rcases hgot2 with ⟨rfl, hrn⟩ | ⟨rfl, hrn, rfl, rfl⟩
              · by_cases hr : r = []
                · subst hr
                  have hdy : goodS m.size k = true → DecYes s m := fun h => by
                    have e : m.size = n := by rw [Hm.out]
                    rw [e] at h
                    rw [Hm.out]
                    exact decYes_of Hrd.out ha Hck.out hrn h A9 c9
                  have hdn : goodS m.size k = false → ∀ x, ¬ DecYes s x := fun h => by
                    have e : m.size = n := by rw [Hm.out]
                    rw [e] at h
                    exact decNo_of Hrd.out (.inr (.inr (.inr ⟨n, hrn, by rw [show c.length / 32 = k by have := Hck.out; omega]; exact h⟩)))
                  have Hdy := Lib.hid hdy
                  have Hdn := Lib.hid hdn
                  clear hdy hdn hrn
                  go_wp2_with (refine wpList_load_rowG (by rfl) 31 _ rfl p rfl 31 _ (0, 0) _ HP.out Tryd.underlying31 rfl hinf ?_)
                  refine Hg.out.mono ?_
                  rintro e w9 ⟨rfl, hB9⟩
                  have HPx := Lib.hid (below_keep hB9 HP.out)
                  have HQx := Lib.hid (below_keep hB9 HQ9.out)
                  have HKx := Lib.hid (below_keep hB9 HK.out)
                  have HBx : Hid (Below w2.heap.size w2 w9) := Lib.hid (HW.out.trans (hB9.mono HW.out.size))
                  have HDx := Lib.hid (HBm.out.below hB9)
                  clear hB9 Hg HP HQ9 HBm HK HW
                  obtain ⟨x, hx⟩ : ∃ x, x = goodS m.size k := ⟨_, rfl⟩
                  rw [← hx] at Hdy Hdn ⊢
                  clear hx
                  cases x with
                  | true =>
                    have HY := Lib.hid (Hdy.out rfl)
                    clear Hdy Hdn
                    go_wp2_with (first
                      | (refine wpList_load_row rfl 31 _ rfl p rfl 31 _ (0, 0) _ HPx.out Tryd.underlying31 rfl hinf ?_)
                      | (refine wpList_store_row rfl 31 _ _ rfl q m.row rfl rfl 31 _ HQx.out hinf (by rw [hms]; rfl) hone ?_))
                    (try simp only [Exit.inBlock, Exit.then])
                    refine bodyPostM_ret1 (D := D) ((setRow_other _ _ _ _ hDq).trans HKx.out) (results_cell_row2 rfl _ _ q 31 m.row (0, 0) _ rfl ((World.putObj_heap_other (Ne.symm hDq)).trans (setRow_heap _ _ _ _ _ _ HQx.out)) Tryd.underlying31 rfl hinf) rfl ?_
                    have o1 : Only [q, D] w9 ((w9.setRow q m.row).putObj D (.deferred none)) := (((Only.refl [q, D] w9).setRow (by simp) _)).trans ((only_putObj _ D _).mono (by simp))
                    refine ⟨m, 0, rfl, .inl ⟨rfl, HY.out⟩, ⟨hmw, Heach.out, hmlo, hmhi, Hml.out, ?_⟩, ?_, HFin.out _ HBx.out _⟩
                    rotate_left 1
                    · intro a9 ha9
                      have e1 : m.A = A9 := by rw [Hm.out]
                      rw [e1] at ha9
                      have hs9 := B2.out.size
                      rcases HDx.out with ⟨h, -, -⟩ | ⟨g9, cap9, h, hg9, -⟩
                      · cases h; cases ha9
                      · cases h; cases ha9
                        show w.heap.size ≤ g9
                        omega
                    have e1 : m.A = A9 := by rw [Hm.out]
                    have e2 : m.parts = cuts c k := by rw [Hm.out]
                    rw [e1, e2]
                    exact digs_keepD HDx.out (cuts_length c k).symm (cuts_each c k Hck.out) HKx.out o1 hq7
                  | false =>
                    have Hn : Hid (∀ x, ¬ DecYes s x) := Lib.hid (Hdn.out rfl)
                    clear Hdy Hdn
                    go_wp2_with (refine wpList_store_row rfl 31 _ _ rfl q zeroMani.row rfl rfl 31 zeroMani.row HQx.out mani_info rfl (ManiD.row_one zeroMani) ?_)
                    (try simp only [Exit.inBlock, Exit.then])
                    refine bodyPostM_ret1 (D := D) ((setRow_other _ _ _ _ hDq).trans HKx.out) (results_cell_row2 rfl _ _ q 31 zeroMani.row (0, 0) _ rfl ((World.putObj_heap_other (Ne.symm hDq)).trans (setRow_heap _ _ _ _ _ _ HQx.out)) Tryd.underlying31 rfl mani_info) rfl ?_
                    exact HNO.out _ (HFin.out _ (HBx.out) _) Hn.out
                · have r1 : (r != []) = true := by simpa using hr
                  have r2 : (r == []) = false := by simpa using hr
                  have Hn : Hid (∀ x, ¬ DecYes s x) := Lib.hid (decNo_of Hrd.out (.inr (.inr (.inl (fun m h => by rw [hrn] at h; simp only [Option.some.injEq, Prod.mk.injEq] at h; exact hr h.2)))))
                  clear hrn hr
                  go_wp2_with (refine wpList_store_row rfl 31 _ _ rfl q zeroMani.row rfl rfl 31 zeroMani.row HQ9.out mani_info rfl (ManiD.row_one zeroMani) ?_)
                  (try simp only [Exit.inBlock, Exit.then])
                  refine bodyPostM_ret1 (D := D) ((setRow_other _ _ _ _ hDq).trans HK.out) (results_cell_row2 rfl _ _ q 31 zeroMani.row (0, 0) _ rfl ((World.putObj_heap_other (Ne.symm hDq)).trans (setRow_heap _ _ _ _ _ _ HQ9.out)) Tryd.underlying31 rfl mani_info) rfl ?_
                  exact HNO.out _ (HFin.out _ (HW.out) _) Hn.out
              · have Hn : Hid (∀ x, ¬ DecYes s x) := Lib.hid (decNo_of Hrd.out (.inr (.inr (.inl (fun m h => by rw [hrn] at h; cases h)))))
                clear hrn
                go_wp2_with (refine wpList_store_row rfl 31 _ _ rfl q zeroMani.row rfl rfl 31 zeroMani.row HQ9.out mani_info rfl (ManiD.row_one zeroMani) ?_)
                (try simp only [Exit.inBlock, Exit.then])
                refine bodyPostM_ret1 (D := D) ((setRow_other _ _ _ _ hDq).trans HK.out) (results_cell_row2 rfl _ _ q 31 zeroMani.row (0, 0) _ rfl ((World.putObj_heap_other (Ne.symm hDq)).trans (setRow_heap _ _ _ _ _ _ HQ9.out)) Tryd.underlying31 rfl mani_info) rfl ?_
                exact HNO.out _ (HFin.out _ (HW.out) _) Hn.out
            case stop =>
              rintro D cd pre W _ _ h _
              exact h.elim
          · have hc1 : ((u : Int) != 0) = true := by rw [bne_iff_ne]; omega
            have hc2 : (u != 0) = true := by rw [bne_iff_ne]; omega
            have Hn : Hid (∀ x, ¬ DecYes s x) := Lib.hid (decNo_of hrd (.inr (.inl (by rw [← hu]; exact hc))))
            clear hrd hlen hc hu
            go_wp2_with (refine wpList_store_row rfl 31 _ _ rfl q zeroMani.row rfl rfl 31 zeroMani.row HQ2.out mani_info rfl (ManiD.row_one zeroMani) ?_)
            (try simp only [Exit.inBlock, Exit.then])
            refine bodyPostM_ret (results_cell_row2 rfl _ _ q 31 zeroMani.row (0, 0) _ rfl (setRow_heap _ _ _ _ _ _ HQ2.out) Tryd.underlying31 rfl mani_info) rfl ?_
            exact HNO.out _ (B2.out.trans (((Only.of_below (bs := [q]) (Below.refl _ _)).setRow (by simp) _).below B2.out.size (by intro x hx; simp at hx; rw [hx, Hq.out]; exact Nat.le_refl _))) Hn.out
        · have ha1 : ((a.length : Int) != 32) = true := by rw [bne_iff_ne]; omega
          have Hn : Hid (∀ x, ¬ DecYes s x) := Lib.hid (decNo_of hrd (.inl ha))
          clear hrd hlen ha
          go_wp2_with (refine wpList_store_row rfl 31 _ _ rfl q zeroMani.row rfl rfl 31 zeroMani.row HQ2.out mani_info rfl (ManiD.row_one zeroMani) ?_)
          (try simp only [Exit.inBlock, Exit.then])
          refine bodyPostM_ret (results_cell_row2 rfl _ _ q 31 zeroMani.row (0, 0) _ rfl (setRow_heap _ _ _ _ _ _ HQ2.out) Tryd.underlying31 rfl mani_info) rfl ?_
          exact HNO.out _ (B2.out.trans (((Only.of_below (bs := [q]) (Below.refl _ _)).setRow (by simp) _).below B2.out.size (by intro x hx; simp at hx; rw [hx, Hq.out]; exact Nat.le_refl _))) Hn.out
      · have hl1 : ((ts.length : Int) != 3) = true := by rw [bne_iff_ne]; omega
        have hl2 : (ts.length != 3) = true := by rw [bne_iff_ne]; omega
        have Hn : Hid (∀ x, ¬ DecYes s x) := Lib.hid (decNo_row (fun a b c h => by rw [hrd] at h; simp only [Option.some.injEq, Prod.mk.injEq] at h; exact hl (by rw [h.1]; rfl)))
        clear hrd hl
        go_wp2_with (refine wpList_store_row rfl 31 _ _ rfl q zeroMani.row rfl rfl 31 zeroMani.row HQ2.out mani_info rfl (ManiD.row_one zeroMani) ?_)
        (try simp only [Exit.inBlock, Exit.then])
        refine bodyPostM_ret (results_cell_row2 rfl _ _ q 31 zeroMani.row (0, 0) _ rfl (setRow_heap _ _ _ _ _ _ HQ2.out) Tryd.underlying31 rfl mani_info) rfl ?_
        exact HNO.out _ (B2.out.trans (((Only.of_below (bs := [q]) (Below.refl _ _)).setRow (by simp) _).below B2.out.size (by intro x hx; simp at hx; rw [hx, Hq.out]; exact Nat.le_refl _))) Hn.out
    · have r1 : (r != []) = true := by simpa using hr
      have r2 : (r == []) = false := by simpa using hr
      have Hn : Hid (∀ x, ¬ DecYes s x) := Lib.hid (decNo_row (fun a b c h => by rw [hrd] at h; simp only [Option.some.injEq, Prod.mk.injEq] at h; exact hr h.2))
      clear hrd hr
      go_wp2_with (refine wpList_store_row rfl 31 _ _ rfl q zeroMani.row rfl rfl 31 zeroMani.row HQ2.out mani_info rfl (ManiD.row_one zeroMani) ?_)
      (try simp only [Exit.inBlock, Exit.then])
      refine bodyPostM_ret (results_cell_row2 rfl _ _ q 31 zeroMani.row (0, 0) _ rfl (setRow_heap _ _ _ _ _ _ HQ2.out) Tryd.underlying31 rfl mani_info) rfl ?_
      exact HNO.out _ (B2.out.trans (((Only.of_below (bs := [q]) (Below.refl _ _)).setRow (by simp) _).below B2.out.size (by intro x hx; simp at hx; rw [hx, Hq.out]; exact Nat.le_refl _))) Hn.out
  · have Hn : Hid (∀ x, ¬ DecYes s x) := Lib.hid (decNo_row (fun a b c h => by rw [hrd] at h; cases h))
    clear hrd
    go_wp2_with (refine wpList_store_row rfl 31 _ _ rfl q zeroMani.row rfl rfl 31 zeroMani.row HQ2.out mani_info rfl (ManiD.row_one zeroMani) ?_)
    (try simp only [Exit.inBlock, Exit.then])
    refine bodyPostM_ret (results_cell_row2 rfl _ _ q 31 zeroMani.row (0, 0) _ rfl (setRow_heap _ _ _ _ _ _ HQ2.out) Tryd.underlying31 rfl mani_info) rfl ?_
    exact HNO.out _ (B2.out.trans (((Only.of_below (bs := [q]) (Below.refl _ _)).setRow (by simp) _).below B2.out.size (by intro x hx; simp at hx; rw [hx, Hq.out]; exact Nat.le_refl _))) Hn.out
theorem decode_any (s : List UInt8) (w : World) (hs : s.length ≤ 140737488351232) : Calls Tryd.prog 64 #[.string ⟨s.toArray⟩] w (DecPost s w) :=
  (decode_new s w hs).mono fun e w' ⟨m, x, h1, h2, h3, _, h4⟩ => ⟨m, x, h1, h2, h3, h4⟩
end Go.Proofs.YthcmlbbbbcinkaaDoor
