/-
  RationHauls: from a node that serves two frames or more in each tick a fetch gets the blob, whatever it is. No condition: every input.
-/
import Derived.Test.YtfbjbhddapoopaaDoorHvN
import Derived.Test.YtfbjbhddapoopaaDoorHaNW
import Derived.Test.YtfbjbhddapoopaaDoorCards
import Derived.Test.YtfbjbhddapoopaaDoorTie
set_option linter.unusedVariables false
set_option linter.unusedSimpArgs false
namespace Go.Proofs.YtfbjbhddapoopaaDoor
open Go.RowKit
attribute [local go_sem] Lb.ba_get Lb.ba_cut Lb.ba_add Lb.ba_size Lb.take_rest

theorem zeroMani_okR (w : World) : zeroFr.mani.Ok w w.heap.size := ⟨rfl, (fun d hd => by cases hd), by decide, by decide, by decide, fun i hi => absurd hi (by simp [zeroFr, zeroMani])⟩
theorem maniFr_okR {w : World} {m : ManiD} (x : Int) (hm : m.Ok w w.heap.size) : (maniFr x m).Ok w := ⟨maniFr_fit x m hm.whole, by show (-9223372036854775808 : Int) ≤ 7; decide, by show (7 : Int) ≤ 9223372036854775807; decide, by show (-9223372036854775808 : Int) ≤ 0; decide, by show (0 : Int) ≤ 9223372036854775807; decide, Nat.zero_le _, hm⟩
theorem partFr_okR (w : World) (x : Int) (o : List UInt8) (i : Nat) (t : List UInt8) (ho : o.length = 32) (hi : i ≤ 1000) (ht : t.length ≤ 140737488355328) : (partFr x o i t).Ok w :=
  ⟨partFr_fit x o i t ho, by show (-9223372036854775808 : Int) ≤ 8; decide, by show (8 : Int) ≤ 9223372036854775807; decide, by show (-9223372036854775808 : Int) ≤ (i : Int); omega, by show (i : Int) ≤ 9223372036854775807; omega, ht, zeroMani_okR w⟩
theorem QueAt.headR {w : World} {g off cap : Nat} {pe : Int} {out : List UInt8} {x : Int} {ats : List Int} (h : QueAt w g off cap (asksCells pe out (x :: ats)) (x :: ats).length) : w.rangeAt g (off + 1) (askFr out x).cells := fun k u hu => by
  have h2 := h.holds (k + 1) u (by
    show (sentCells pe (askFr out x) ++ asksCells pe out ats)[k + 1]? = _
    rw [List.getElem?_append_left (by unfold sentCells; rw [List.length_cons]; have := (List.getElem?_eq_some_iff.1 hu).1; omega)]
    unfold sentCells
    rw [List.getElem?_cons_succ]; exact hu)
  rw [show off + 1 + k = off + (k + 1) by omega]; exact h2
/-- the queue behind its head, as l[1:] has it -/
theorem que_tailR {w : World} {g off cap : Nat} {pe : Int} {out : List UInt8} {x : Int} {ats : List Int} (ho : out.length = 32) (h : QueAt w g off cap (asksCells pe out (x :: ats)) (x :: ats).length) :
    Que w (.slice (some (if cap = 1 then ⟨g, off, none⟩ else ⟨g, off + 238, none⟩)) ats.length (cap - 1)) pe out ats := by
  have ht := h.tail ho
  by_cases hc : cap = 1
  · rw [if_pos hc]
    have h0 : ats = [] := by
      have := h.le
      simp only [List.length_cons] at this
      exact List.eq_nil_of_length_eq_zero (by omega)
    subst h0
    refine .inr ⟨g, off, cap - 1, rfl, ⟨Nat.zero_le _, ht.max, h.lt, rfl, fun j u hu => by simp [asksCells] at hu, fun j hj => by subst hc; simp at hj⟩⟩
  · rw [if_neg hc]
    exact .inr ⟨g, off + 238, cap - 1, rfl, ht⟩

theorem ManiD.Ok.onlyNew {w w' : World} {m : ManiD} {bs : List Nat} (h : m.Ok w w.heap.size) (ho : Only bs w w') (hb : ∀ x ∈ bs, w.heap.size ≤ x) : m.Ok w' w'.heap.size :=
  have hd : Digs w' w'.heap.size m.A m.parts := fun i hi => by
    obtain ⟨b, o, e, hl, hr⟩ := h.digs i hi
    exact ⟨b, o, e, Nat.lt_of_lt_of_le hl ho.size, range_keep hr (ho.block b hl (fun hx => by have := hb _ hx; omega))⟩
  { h with digs := hd }
/-- the fetch: its blocks are new since w1; of what was there nothing but X has turned -/
structure RunB (l : List UInt8) (X : List Nat) (w1 w : World) (S : List Nat) (p : Nat) (d : HlD) : Prop where
  at_ : HlAt w S p d
  own : Hl.Own KK l d
  peer : d.peer = 5
  s1 : ∀ k ∈ S, w1.heap.size ≤ k
  old : Only X w1 w
theorem RunB.below {l : List UInt8} {X : List Nat} {w1 w w' : World} {S : List Nat} {p : Nat} {d : HlD} (h : RunB l X w1 w S p d) (hb : Below w.heap.size w w') : RunB l X w1 w' S p d :=
  ⟨h.at_.below hb, h.own, h.peer, h.s1, h.old.trans (Only.of_below hb)⟩
theorem RunB.only {l : List UInt8} {X : List Nat} {w1 w w' : World} {S : List Nat} {p : Nat} {d : HlD} (h : RunB l X w1 w S p d) (ho : Only X w w') (hX : ∀ x ∈ X, x < w1.heap.size) : RunB l X w1 w' S p d :=
  ⟨h.at_.only ho (fun k hk hkX => by have := h.s1 k hk; have := hX k hkX; omega), h.own, h.peer, h.s1, h.old.trans ho⟩
/-- the queue and the fetch, each by itself -/
structure LineB (l : List UInt8) (w1 w : World) (v : Value) (q : List Int) (S : List Nat) : Prop where
  que : Que w v 5 (hashB KK l) q
  dis : ∀ k ∈ blkV v, k ∉ S
  lo : ∀ k ∈ blkV v, w1.heap.size ≤ k
theorem blkV_apartB {v : Value} {S : List Nat} (h : ∀ k ∈ blkV v, k ∉ S) : Apart v S := fun a n c e => by subst e; exact h _ (by simp [blkV])
theorem apart_blkVB {v : Value} {S : List Nat} (h : Apart v S) : ∀ k ∈ blkV v, k ∉ S := fun k hk => by
  unfold blkV at hk
  split at hk
  · simp only [List.mem_singleton] at hk; subst hk; exact h _ _ _ rfl
  · cases hk
theorem LineB.below {l : List UInt8} {w1 w w' : World} {v : Value} {q : List Int} {S : List Nat} (h : LineB l w1 w v q S) (hb : Below w.heap.size w w') : LineB l w1 w' v q S := ⟨h.que.below hb, h.dis, h.lo⟩
theorem LineB.only {l : List UInt8} {X : List Nat} {w1 w w' : World} {v : Value} {q : List Int} {S : List Nat} (h : LineB l w1 w v q S) (ho : Only X w w') (hX : ∀ x ∈ X, x < w1.heap.size) : LineB l w1 w' v q S :=
  ⟨h.que.apart ho (blkV_apartB (fun k hk hkX => by have := h.lo k hk; have := hX k hkX; omega)), h.dis, h.lo⟩
theorem que_ltB {w : World} {v : Value} {pe : Int} {out : List UInt8} {ats : List Int} (h : Que w v pe out ats) : ∀ k ∈ blkV v, k < w.heap.size := fun k hk => by
  rcases h with ⟨rfl, -⟩ | ⟨g, off, cap, rfl, hq⟩
  · simp [blkV] at hk
  · simp [blkV] at hk; subst hk; exact hq.lt
theorem asks_loB {w : World} {B : Nat} {v : Value} {pe : Int} {out : List UInt8} {ats : List Int} (h : Asks w B v pe out ats) : ∀ k ∈ blkV v, B ≤ k := fun k hk => by
  rcases h with ⟨rfl, -⟩ | ⟨g, cap, rfl, hg, -⟩
  · simp [blkV] at hk
  · simp [blkV] at hk; subst hk; exact hg
/-- a call of the fetch: the fetch goes on, the queue stays, what is sent lies apart from both; nothing that was there at w1 turns -/
theorem lineB_act {l : List UInt8} {X : List Nat} {w1 w w' : World} {v : Value} {q : List Int} {S : List Nat} {p : Nat} {d d' : HlD} {ats : List Int} {e : Ending} (hr : RunB l X w1 w S p d) (hl : LineB l w1 w v q S) (hown : Hl.Own KK l d') (hp : d'.peer = 5) (k : ActPost w S p 5 (hashB KK l) ats d' e w') :
    ∃ u S', e = .returned u ∧ Asks w' w.heap.size u 5 (hashB KK l) ats ∧ RunB l X w1 w' S' p d' ∧ LineB l w1 w' v q S' ∧ (∀ k ∈ blkV u, k ∉ S') ∧ Only S w w' := by
  obtain ⟨u, S', rfl, hA, hH, hO, hS, hap⟩ := k
  refine ⟨u, S', rfl, hA, ⟨hH, hown, hp, fun x hx => ?_, hr.old.above hO hr.s1⟩, ⟨hl.que.apart hO (blkV_apartB hl.dis), fun x hx hxS => ?_, hl.lo⟩, apart_blkVB hap, hO⟩
  · rcases hS x hx with h | h
    · exact hr.s1 x h
    · exact Nat.le_trans hr.old.size h
  · rcases hS x hxS with h | h
    · exact hl.dis x hx h
    · have := que_ltB hl.que x hx; omega
/-- an append onto the queue -/
theorem lineB_push {l : List UInt8} {X : List Nat} {w1 w w' : World} {v v' : Value} {q q' : List Int} {S : List Nat} {p : Nat} {d : HlD} (hr : RunB l X w1 w S p d) (hl : LineB l w1 w v q S) (hq : Que w' v' 5 (hashB KK l) q') (ho : Only (blkV v) w w') (hb : ∀ k ∈ blkV v', k ∈ blkV v ∨ w.heap.size ≤ k) :
    RunB l X w1 w' S p d ∧ LineB l w1 w' v' q' S := by
  refine ⟨⟨hr.at_.only ho (fun x hx hx2 => hl.dis x hx2 hx), hr.own, hr.peer, hr.s1, hr.old.above ho hl.lo⟩, hq, fun x hx hxS => ?_, fun x hx => ?_⟩
  · rcases hb x hx with h | h
    · exact hl.dis x h hxS
    · have := hr.at_.lt x hxS; omega
  · rcases hb x hx with h | h
    · exact hl.lo x h
    · exact Nat.le_trans hr.old.size h
/-- a frame that is heard: the fetch goes on, the queue stays -/
theorem hear_lineB {l : List UInt8} {X : List Nat} {w1 w : World} {v : Value} {q : List Int} {S : List Nat} {p : Nat} {d : HlD} {a : HlD × List Int} {f : FrD} (h1 : 0 < w1.heap.size) (hr : RunB l X w1 w S p d) (hl : LineB l w1 w v q S) (hf : f.Ok w) (hL : Laid KK w) (g : Hl.Goes KK l (hearOf KK d f) a) :
    Calls Tryd.prog 19 #[.pointer (some ⟨p, 0, none⟩), .agg f.row] w fun e w' => ∃ u S' d', e = .returned u ∧ Asks w' w.heap.size u 5 (hashB KK l) a.2 ∧ RunB l X w1 w' S' p d' ∧ LineB l w1 w' v q S' ∧ (∀ k ∈ blkV u, k ∉ S') ∧ Hl.strip d' = a.1 ∧ Only S w w' := by
  refine (hear_any KK p S d f w hr.at_ hf hL (fun h0 => by have := hr.s1 0 h0; omega)).mono ?_
  intro e w' hact
  unfold HearPost at hact
  rw [hr.peer, hr.own.out] at hact
  obtain ⟨u, S', he, hA, hR, hLn, hd, hO⟩ := lineB_act hr hl g.own ((Hl.hear_peer KK d f).trans hr.peer) hact
  exact ⟨u, S', _, he, by rw [← g.ats]; exact hA, hR, hLn, hd, g.same, hO⟩
/-- the node that serves: a store of one blob, its ration -/
structure NodeB (l : List UInt8) (w1 w : World) (q : HvP) (S : List Nat) (r : Nat) (B n : Int) (k : Nat) : Prop where
  store : StoreAt KK w q S [l] k
  rat : RatAt w r B n
  lo : ∀ x ∈ r :: S, x < w1.heap.size
theorem NodeB.above {l : List UInt8} {w1 w w' : World} {q : HvP} {S T : List Nat} {r : Nat} {B n : Int} {k : Nat} (h : NodeB l w1 w q S r B n k) (ho : Only T w w') (hT : ∀ x ∈ T, w1.heap.size ≤ x) : NodeB l w1 w' q S r B n k :=
  ⟨h.store.keep (fun x hx => ho.block x (h.store.lt x hx) (fun hxT => by have := h.lo x (by simp [hx]); have := hT x hxT; omega)), h.rat.keep (ho.block r h.rat.lt (fun hxT => by have := h.lo r (by simp); have := hT r hxT; omega)), h.lo⟩
theorem NodeB.below {l : List UInt8} {w1 w w' : World} {q : HvP} {S : List Nat} {r : Nat} {B n : Int} {k : Nat} (h : NodeB l w1 w q S r B n k) (hb : Below w.heap.size w w') : NodeB l w1 w' q S r B n k := h.above (T := []) (Only.of_below hb) (by simp)
theorem NodeB.less {l : List UInt8} {w1 w : World} {q : HvP} {S : List Nat} {r : Nat} {B n : Int} {k k' : Nat} (h : NodeB l w1 w q S r B n k) (hk : k' ≤ k) : NodeB l w1 w q S r B n k' := ⟨h.store.less hk, h.rat, h.lo⟩
/-- what is served to one who asks for the manifest, or a chunk -/
theorem serve_ask2 {l : List UInt8} {n y tt : Int} {m : Nat} {g : FrD} {w : World} {B0 : Nat} {is : Bool} (hm : m = (chunks l).length) (y0 : -1 ≤ y) (y1 : y < m) (hn : n ≠ 0) (h : ServIs KK B0 [l] n { askFr (hashB KK l) y with from_ := 2 } w tt g is) :
    is = true ∧ tt = 2 ∧ ((y < 0 ∧ ∃ md, g = maniFr 0 md ∧ OwnM KK md l ∧ md.Ok w w.heap.size) ∨ (0 ≤ y ∧ g = partFr 0 (hashB KK l) ((y.toNat : Nat) : Int) (chunk l y.toNat))) := by
  obtain ⟨e1, e2, hf⟩ := serv_yes h ⟨hn, rfl, by show (1 : Int) ≤ 2; decide, by show (2 : Int) ≤ 6; decide⟩ rfl (by
    show PlaceOk l y
    unfold PlaceOk
    omega)
  refine ⟨e1, e2, ?_⟩
  by_cases hy : y < 0
  · left
    obtain ⟨md, h1, h2, h3, -⟩ := found_mani hf (by show y = -1; omega)
    exact ⟨hy, md, h1, h2, h3⟩
  · right
    refine ⟨by omega, ?_⟩
    have := found_part hf y.toNat (by show y = _; omega)
    rw [this]
    show partFr 0 (hashB KK l) y (chunk l y.toNat) = _
    rw [Int.toNat_of_nonneg (by omega)]
theorem u64_mod20b (x : Int) (h : -9223372036854775808 ≤ x ∧ x ≤ 9223372036854775807) : ∃ u k : Nat, IntKind.u64.wrap x = (u : Int) ∧ (u : Int) ≤ 18446744073709551615 ∧ (u : Int).tmod 20 = (k : Int) ∧ IntKind.i64.wrap (k : Int) = (k : Int) ∧ IntKind.i64.wrap (2 + (k : Int)) = ((k + 2 : Nat) : Int) ∧ k < 20 := by
  by_cases hx : 0 ≤ x
  · obtain ⟨u, rfl⟩ : ∃ u : Nat, x = u := ⟨x.toNat, by omega⟩
    have hk : u % 20 < 20 := Nat.mod_lt _ (by decide)
    exact ⟨u, u % 20, by rw [IntWalk.u64_in _ (by omega)], by omega, rfl, IntWalk.i64_in _ (by omega), by rw [IntWalk.i64_in _ (by omega)]; omega, hk⟩
  · have hk : (x + 18446744073709551616).toNat % 20 < 20 := Nat.mod_lt _ (by decide)
    refine ⟨(x + 18446744073709551616).toNat, (x + 18446744073709551616).toNat % 20, ?_, by omega, rfl, IntWalk.i64_in _ (by omega), by rw [IntWalk.i64_in _ (by omega)]; omega, hk⟩
    simp only [IntKind.wrap_u64]; omega
theorem stored_one (K : List Int) (l : List UInt8) (hl : l.length ≤ 512) (W : World) (hL : Laid K W) :
    Calls Tryd.prog 25 #[.slice (some ⟨W.heap.size, 0, none⟩) 1 1] (W.alloc (.cells #[.string ⟨l.toArray⟩] 9)) fun e w' => ∃ q S, e = .returned (.pointer (some ⟨q.p, 0, none⟩)) ∧ StoreAt K w' q S [l] 900000 ∧ (∀ x ∈ S, W.heap.size ≤ x) ∧ Below W.heap.size W w' := by
  have hb1 := (Below.refl W.heap.size W).alloc (Nat.le_refl _) (.cells #[.string ⟨l.toArray⟩] 9)
  have hss : Strs (W.alloc (.cells #[.string ⟨l.toArray⟩] 9)) (W.alloc (.cells #[.string ⟨l.toArray⟩] 9)).heap.size (some ⟨W.heap.size, 0, none⟩) [l] := by
    intro i hi
    obtain rfl : i = 0 := by simpa using hi
    exact ⟨_, rfl, by simp, by rw [show (⟨W.heap.size, 0, none⟩ : Addr).add 0 = ⟨W.heap.size, 0, none⟩ from rfl, Lib.cell_of_heap (heap_alloc_new W _)]; rfl⟩
  refine (stored_any K (some ⟨W.heap.size, 0, none⟩) 1 [l] _ (hL.below hb1) hss (by show 1 ≤ maxLen; decide)).mono ?_
  rintro e w' ⟨q, S, rfl, h2, hbig, hB2⟩
  rw [stAt_one K _ hl] at h2
  exact ⟨q, S, rfl, h2, fun x hx => Nat.le_trans hb1.size (hbig x hx), hb1.trans (hB2.mono hb1.size)⟩

set_option maxHeartbeats 8000000 in
set_option maxRecDepth 100000 in
theorem rationHauls_core (l : List UInt8) (x : Int) (w : World) (hL : Laid KK w) (hl : l.length ≤ 140737488351232) (xlo : -9223372036854775808 ≤ x) (xhi : x ≤ 9223372036854775807) :
    Calls Tryd.prog 7 #[.string ⟨l.toArray⟩, .int .i64 x] w fun e w' => e = .returned (.bool true) ∧ Below w.heap.size w w' := by
  have HL := Lib.hid hL
  have haw := Lib.hid (awake18_any KK w hL)
  clear hL
  obtain ⟨u, kb, hu, hub, hj, hjw, hjw2, hk20⟩ := u64_mod20b x ⟨xlo, xhi⟩
  go_enter Tryd.func7, Tryd.ntmps7
  go_wp2_with fail
  refine haw.out.mono ?_
  rintro e w1 ⟨rfl, hB1⟩
  have HB1 := Lib.hid hB1
  clear hB1 haw
  by_cases hl5 : (512 : Int) < (l.length : Int)
  · go_wp2_with fail
    go_ret
    exact ⟨rfl, HB1.out⟩
  have hl512 : l.length ≤ 512 := by omega
  have hst := Lib.hid (stored_one KK l hl512 w1 (HL.out.below HB1.out))
  go_wp2_with fail
  refine hst.out.mono ?_
  rintro e w2 ⟨q, S, rfl, h2, hbig, hB2⟩
  have H2 := Lib.hid h2
  have HB2 := Lib.hid (HB1.out.trans (hB2.mono HB1.out.size))
  have Hbig : Hid (∀ x ∈ S, w.heap.size ≤ x) := Lib.hid (fun x hx => Nat.le_trans HB1.out.size (hbig x hx))
  clear hst h2 hbig hB2
  obtain ⟨B, hB⟩ : ∃ B, B = kb + 2 := ⟨_, rfl⟩
  have hB2 : 2 ≤ B := by omega
  have hB21 : B ≤ 21 := by omega
  have HBB : Hid (2 ≤ B ∧ B ≤ 21) := Lib.hid ⟨hB2, hB21⟩
  go_wp2_with fail
  obtain ⟨Bi, hBk⟩ : ∃ b : Int, b = (kb : Int) + 2 := ⟨_, rfl⟩
  rw [← hBk]
  have hBi : Bi = (B : Int) := by omega
  have HBi := Lib.hid hBi
  have b0 : 2 ≤ Bi := by omega
  have b1 : Bi ≤ 21 := by omega
  clear hu hub hj hjw hjw2 hk20 hB hB2 hB21 hBi hBk
  refine (rnew_any Bi w2).mono ?_
  rintro e w3 ⟨rfl, hr3, hB3⟩
  rw [show clampB Bi = Bi by unfold clampB; omega] at hr3
  have H3 := Lib.hid (H2.out.below hB3)
  have HB3 := Lib.hid (HB2.out.trans (hB3.mono HB2.out.size))
  obtain ⟨r, hr⟩ : ∃ r, r = w2.heap.size := ⟨_, rfl⟩
  rw [← hr] at hr3 ⊢
  have HrS : Hid (r ∉ S) := Lib.hid (fun hx => by have := H2.out.lt r hx; omega)
  have Hrw : Hid (w.heap.size ≤ r) := Lib.hid (by rw [hr]; exact HB2.out.size)
  have Hr3 := Lib.hid hr3
  have H0S : Hid (0 ∉ S) := Lib.hid (fun hx => by have := Hbig.out 0 hx; have := HL.out.lt; omega)
  have Hlo : Hid (∀ y ∈ r :: S, w.heap.size ≤ y) := Lib.hid (by intro y hy; rcases List.mem_cons.1 hy with rfl | hy; exact Hrw.out; exact Hbig.out y hy)
  clear hB3 hr hr3
  have hb4 := (Below.refl w3.heap.size w3).alloc (Nat.le_refl _) (.cells #[.string ⟨l.toArray⟩] 9)
  have hc4 : (w3.alloc (.cells #[.string ⟨l.toArray⟩] 9)).cell? ⟨w3.heap.size, 0, none⟩ = some (.string ⟨l.toArray⟩) := by rw [Lib.cell_of_heap (heap_alloc_new w3 _)]; rfl
  have hof := Lib.hid (of_hash KK (some ⟨w3.heap.size, 0, none⟩) 1 l _ ((HL.out.below HB3.out).below hb4) ⟨_, rfl, hc4⟩ (by omega))
  have hh := hashB_length KK l
  obtain ⟨out, hout⟩ : ∃ h, h = hashB KK l := ⟨_, rfl⟩
  rw [← hout] at hh hof
  have HB4 := Lib.hid hb4
  have Hout := Lib.hid hout
  have HO := Lib.hid hh
  clear hb4 hc4 hout hh
  go_wp2_with fail
  refine hof.out.mono ?_
  rintro e w4 ⟨rfl, hB4⟩
  have HB4' := Lib.hid (HB4.out.trans (hB4.mono HB4.out.size))
  clear hB4 hof
  go_wp2_with fail
  refine (hnew_any out 5 w4 HO.out (by decide) (by decide)).mono ?_
  rintro e w5 ⟨p, rfl, hp, hat, hB5⟩
  obtain ⟨n, hn⟩ : ∃ n, n = (chunks l).length := ⟨_, rfl⟩
  have hn8 : n ≤ 8 := by rw [hn, chunks_length]; omega
  have Hn := Lib.hid hn
  have hcomes := Lib.hid (Hl.comesR n B hn8 HBB.out.1 HBB.out.2)
  obtain ⟨X, hX⟩ : ∃ X, X = r :: S := ⟨_, rfl⟩
  have HX := Lib.hid hX
  have HXlt : Hid (∀ x ∈ X, x < w4.heap.size) := Lib.hid (by
    intro x hx
    rw [hX] at hx
    have := HB4'.out.size
    rcases List.mem_cons.1 hx with rfl | hx
    · have := Hr3.out.lt; omega
    · have := H3.out.lt x hx; omega)
  have HXw : Hid (∀ x ∈ X, w.heap.size ≤ x) := Lib.hid (by rw [hX]; exact Hlo.out)
  have HR0 : Hid (RunB l X w4 w5 [p] p (Hl.new out 5)) := Lib.hid ⟨hat, by rw [Hout.out]; exact Hl.own_new KK l 5, rfl, by intro k hk; simp at hk; subst hk; exact hp, Only.of_below hB5⟩
  have HN0 : Hid (NodeB l w4 w5 q S r Bi Bi 900000) := Lib.hid ⟨(H3.out.below HB4'.out).below hB5, (Hr3.out.below HB4'.out).below hB5, by intro y hy; exact HXlt.out y (by rw [hX]; exact hy)⟩
  have HW4 : Hid (Below w.heap.size w w4) := Lib.hid (HB3.out.trans (HB4'.out.mono HB3.out.size))
  have HL4 := Lib.hid (HL.out.below HW4.out)
  have H0X : Hid (0 ∉ X) := Lib.hid (fun h0 => by have := HXw.out 0 h0; have := HL.out.lt; omega)
  have hall : Hid (∀ W, Only X w4 W → Below w.heap.size w W) := Lib.hid (fun W hW => HW4.out.trans (hW.below HW4.out.size HXw.out))
  clear hat hB5 hp hn hX
  go_wp2_with fail
  go_loopw [8] (fun i wr => ∃ (j : Nat) (d : HlD) (S' : List Nat) (c : Int), j ≤ 14 ∧ i = .int .i64 j ∧ Hl.strip d = Hl.bAt n B j ∧ RunB l X w4 wr S' p d ∧ NodeB l w4 wr q S r Bi c (900000 - 100 * j)) (fun i _ => 14 - (intOf i).toNat)
  case atStart => exact ⟨0, _, _, Bi, by omega, rfl, rfl, HR0.out, HN0.out⟩
  case round =>
    obtain ⟨j, d, S', c, hj, rfl, hst, hrun, hnode⟩ := hrel
    have Hst := Lib.hid hst
    have HRun := Lib.hid hrun
    have HNode := Lib.hid hnode
    clear hst hrun hnode HR0 HN0
    by_cases hj14 : j < 14
    · have j2 : (j : Int) < 14 := by omega
      go_wp2_with fail
      refine (rtick_any wr r Bi c HNode.out.rat).mono ?_
      rintro e w7 ⟨rfl, hr7, hO7⟩
      have hO7X : Only X wr w7 := hO7.mono (by intro k hk; simp at hk; rw [HX.out, hk]; simp)
      have HRun7 := Lib.hid (HRun.out.only hO7X HXlt.out)
      have HNode7 : Hid (NodeB l w4 w7 q S r Bi Bi (900000 - 100 * j)) := Lib.hid ⟨HNode.out.store.keep (fun y hy => hO7.block y (HNode.out.store.lt y hy) (by simp; exact fun e => HrS.out (e ▸ hy))), hr7, HNode.out.lo⟩
      clear hr7 hO7 hO7X
      have hT := tick_any p S' d w7 HRun7.out.at_
      rw [HRun7.out.peer, HRun7.out.own.out] at hT
      have hT := Lib.hid hT
      go_wp2_with fail
      refine hT.out.mono ?_
      rintro e w8 hact
      have hl0 : LineB l w4 w7 (.slice none 0 0) [] S' := ⟨.inl ⟨rfl, rfl⟩, by intro k hk; simp [blkV] at hk, by intro k hk; simp [blkV] at hk⟩
      have hpeer : (Hl.tick d).1.peer = 5 := (Hl.tick_peer d).trans HRun7.out.peer
      obtain ⟨v, S2, rfl, hA, hR2, -, hdis, hO8⟩ := lineB_act HRun7.out hl0 (Hl.own_tick HRun7.out.own) hpeer hact
      have hL2 : LineB l w4 w8 v (Hl.tick d).2 S2 := ⟨Que.of_asks hA, hdis, fun k hk => Nat.le_trans HRun7.out.old.size (asks_loB hA k hk)⟩
      have hN2 := HNode7.out.above hO8 HRun7.out.s1
      have htk := Hl.tick_strip d
      rw [Hst.out] at htk
      have hin : Hl.innerB n 60 B (Hl.strip (Hl.tick d).1) (Hl.tick d).2 = Hl.bAt n B (j + 1) := by
        show _ = Hl.innerB n 60 B (Hl.tick (Hl.bAt n B j)).1 (Hl.tick (Hl.bAt n B j)).2
        rw [htk]
      have hrange : ∀ y ∈ (Hl.tick d).2, -1 ≤ y ∧ y < n := Hl.tick_in (by rw [Hn.out]; exact HRun7.out.own.cks_le HRun7.out.at_.ok)
      have hlen16 := Hl.tick_two d HRun7.out.at_.ok
      obtain ⟨d2, hd2⟩ : ∃ z, z = (Hl.tick d).1 := ⟨_, rfl⟩
      obtain ⟨qq, hqq⟩ : ∃ z, z = (Hl.tick d).2 := ⟨_, rfl⟩
      rw [← hd2] at hR2 hin
      rw [← hqq] at hL2 hin hrange hlen16
      have HR2 := Lib.hid hR2
      have HL2' := Lib.hid hL2
      have HN2 := Lib.hid hN2
      have Hin := Lib.hid hin
      have Hrg := Lib.hid hrange
      clear hact hl0 hpeer hA hR2 hdis hL2 htk hin hrange hd2 hqq hT hN2 hO8
      go_wp2_with fail
      go_loopw [9, 10] (fun v kk wr => ∃ (i : Nat) (qs : List Int) (d' : HlD) (S' : List Nat) (b : Nat), i ≤ 60 ∧ kk = .int .i64 i ∧ RunB l X w4 wr S' p d' ∧ LineB l w4 wr v qs S' ∧ NodeB l w4 wr q S r Bi (b : Int) (900000 - 100 * j - i) ∧ b ≤ 21 ∧ Hl.innerB n (60 - i) b (Hl.strip d') qs = Hl.bAt n B (j + 1) ∧ (∀ y ∈ qs, -1 ≤ y ∧ y < n) ∧ qs.length ≤ 16 + 2 * i) (fun _ kk _ => 60 - (intOf kk).toNat)
      case atStart => exact ⟨0, qq, d2, S2, B, by omega, rfl, HR2.out, HL2'.out, by rw [← HBi.out]; exact HN2.out, HBB.out.2, Hin.out, Hrg.out, by omega⟩
      case round =>
        obtain ⟨i, qs, d', S', b, hi, rfl, hrun, hline, hnode, hb21, hinn, hrg, hql⟩ := hrel
        have HRun' := Lib.hid hrun
        have HInn := Lib.hid hinn
        have HNode' := Lib.hid hnode
        clear hrun hinn hnode HRun HRun7 HNode HNode7 HR2 HL2' HN2 Hin Hrg Hst
        by_cases hi60 : i < 60
        · have i60 : (i : Int) < 60 := by omega
          cases qs with
          | nil =>
            have hsn : Hid (Hl.strip d' = Hl.bAt n B (j + 1)) := Lib.hid (by rw [← HInn.out, Hl.innerB_nil])
            have hv : ∃ A c, u9 = Value.slice A 0 c := by
              rcases hline.que with ⟨h, -⟩ | ⟨g, off, cap, h, -⟩
              · exact ⟨_, _, h⟩
              · exact ⟨_, _, h⟩
            obtain ⟨A9, c9, rfl⟩ := hv
            clear hline hrg
            go_wp2_with fail
            go_roundw
            case rel => exact ⟨j + 1, d', S', _, by omega, by go_num, hsn.out, HRun'.out, HNode'.out.less (by omega)⟩
            case measure => simp [intOf]; omega
          | cons y ys =>
            have HLine := Lib.hid hline
            have Hrg2 := Lib.hid hrg
            obtain ⟨g, off, cap, hv, hqa⟩ : ∃ g off cap, _ = Value.slice (some ⟨g, off, none⟩) (ys.length + 1) cap ∧ QueAt wr g off cap (asksCells 5 (hashB KK l) (y :: ys)) (y :: ys).length := by
              rcases hline.que with ⟨-, h⟩ | ⟨g, off, cap, h, hqa⟩
              · cases h
              · exact ⟨g, off, cap, h, hqa⟩
            rw [← Hout.out] at hqa
            have hrs := hqa.headR
            have htl := que_tailR HO.out hqa
            have hcp := hqa.le
            simp only [List.length_cons] at hcp
            have hcm := hqa.max
            unfold maxLen at hcm
            have hfit := askFr_fit out y HO.out
            have fdix : (Tryd.prog.info? 44).map (·.size) = some (askFr out y).cells.length := by rw [fr_info, FrD.len hfit]
            have fund := Tryd.underlying44
            have fsz : (askFr out y).cells.toArray.size = 237 := by simp [FrD.len hfit]
            have fone : (askFr out y).cells.toArray.all (·.oneCell') = true := FrD.row_one hfit
            have fdixA : (Tryd.prog.info? 44).map (·.size) = some (askFr out y).cells.toArray.size := by rw [fdix]; simp
            have hzf : Tryd.zeroCells44.size = 237 := by rw [zero_frame, FrD.row_size zeroFr_fit]
            obtain ⟨fc, hfc⟩ : ∃ fc, fc = (askFr out y).cells := ⟨_, rfl⟩
            rw [← hfc] at hrs fdix fsz fone fdixA
            have Hfc := Lib.hid hfc
            obtain ⟨m, hm⟩ : ∃ m, m = ys.length := ⟨_, rfl⟩
            rw [← hm] at hv hcp htl
            have Hm := Lib.hid hm
            subst hv
            have Htl := Lib.hid htl
            have m1 : (0 : Int) < (m : Int) + 1 := by omega
            clear hline hrg hqa hfit hfc htl hm
            by_cases hc1 : cap = 1
            · skip
              subst hc1
              obtain rfl : m = 0 := by omega
              go_upto_region 19 with (first | (refine wpList_load_mid rfl 44 _ rfl g (off + 1) rfl fc _ hrs fund rfl fdix ?_) | (refine wpList_store_row rfl 44 _ _ rfl wr.heap.size fc.toArray rfl rfl 44 _ (heap_alloc_new wr _) fdixA (by rw [fsz, hzf]) fone ?_))
              show Code.wp _ _ _ _ ((wr.alloc (.cells Tryd.zeroCells44 44)).setRow wr.heap.size fc.toArray)
              obtain ⟨hq_w9, hB_w9⟩ := put_new wr Tryd.zeroCells44 fc.toArray 44
              obtain ⟨fb, hp_w9⟩ : ∃ q, q = wr.heap.size := ⟨_, rfl⟩
              obtain ⟨w9, hw_w9⟩ : ∃ y, y = ((wr.alloc (.cells Tryd.zeroCells44 44)).setRow wr.heap.size fc.toArray) := ⟨_, rfl⟩
              rw [← hw_w9] at hq_w9 hB_w9 ⊢
              rw [← hp_w9] at hq_w9 ⊢
              have HQ_w9 := Lib.hid hq_w9
              have HB_w9 := Lib.hid hB_w9
              have Hp_w9 := Lib.hid hp_w9
              clear hq_w9 hB_w9 hp_w9 hw_w9
              have HRun9 := Lib.hid (HRun'.out.below HB_w9.out)
              have HNode9 := Lib.hid (HNode'.out.below HB_w9.out)
              obtain ⟨v', hv'⟩ : ∃ z, z = (Value.slice (some ⟨g, off, none⟩) 0 0) := ⟨_, rfl⟩
              have hline9 : LineB l w4 w9 v' ys S' := ⟨by rw [hv', ← Hout.out]; have h := Htl.out.below HB_w9.out; rw [if_pos rfl] at h; simpa [← Hm.out] using h, by rw [hv']; exact HLine.out.dis, by rw [hv']; exact HLine.out.lo⟩
              have HLine9 := Lib.hid hline9
              have hq9 := HQ_w9.out
              rw [Hfc.out] at hq9
              have hq9 : w9.heap[fb]? = some (.cells (askFr out y).row 44 (0, 0)) := hq9
              have f1 : w9.cell? ⟨fb, 1, none⟩ = some (.int .i64 0) := (fr_mem (askFr_fit out y HO.out) hq9).from_
              have zf1 := Lib.frozen_of_heap hq9 1
              have hset := heap_setCell_same _ fb 1 _ _ (.int .i64 2) hq9
              rw [fr_set_from] at hset
              have hO10 : Only [fb] w9 (w9.setCell ⟨fb, 1, none⟩ (.int .i64 2)) := (Only.refl [fb] w9).setCell (p := ⟨fb, 1, none⟩) (by simp) _
              have Hset := Lib.hid hset
              have HO10 := Lib.hid hO10
              clear hline9 hrs fdix fsz fone fdixA hzf hq9 hset hO10
              go_upto_region 21 with fail
              obtain ⟨w10, hw10⟩ : ∃ z, z = w9.setCell ⟨fb, 1, none⟩ (.int .i64 2) := ⟨_, rfl⟩
              rw [← hw10] at Hset HO10 ⊢
              rw [show (Value.slice (some ⟨g, off, none⟩) 0 0) = v' from hv'.symm]
              have Hfbw : Hid (w4.heap.size ≤ fb) := Lib.hid (by have := Hp_w9.out; have := HRun'.out.old.size; omega)
              have Hfbl : Hid (wr.heap.size ≤ fb) := Lib.hid (by have := Hp_w9.out; omega)
              have HRun10 : Hid (RunB l X w4 w10 S' p d') := Lib.hid ⟨HRun9.out.at_.only HO10.out (fun k hk => by have := HRun'.out.at_.lt k hk; have := Hfbl.out; simp; omega), HRun9.out.own, HRun9.out.peer, HRun9.out.s1, HRun9.out.old.above HO10.out (by simp; exact Hfbw.out)⟩
              have HNode10 := Lib.hid (HNode9.out.above HO10.out (by simp; exact Hfbw.out))
              have HLine10 : Hid (LineB l w4 w10 v' ys S') := Lib.hid ⟨HLine9.out.que.apart HO10.out (blkV_apartB (fun k hk => by have h := que_ltB HLine.out.que k (by rw [hv'] at hk; exact hk); have := Hfbl.out; simp; omega)), HLine9.out.dis, HLine9.out.lo⟩
              have Hv' := Lib.hid hv'
              obtain ⟨f, hf⟩ : ∃ f : FrD, f = { askFr out y with from_ := 2 } := ⟨_, rfl⟩
              rw [← hf] at Hset
              have Hf := Lib.hid hf
              have Hff : Hid f.Fit := Lib.hid (by rw [hf]; exact fr_from_fit (askFr_fit out y HO.out) 2)
              have Hfo : Hid (f = { askFr (hashB KK l) y with from_ := 2 }) := Lib.hid (by rw [hf, Hout.out])
              clear hw10 f1 zf1 hv' hf
              have rfs := FrD.row_size Hff.out
              have rfi := fr_infoR Hff.out
              obtain ⟨R, hR⟩ : ∃ R, R = f.row := ⟨_, rfl⟩
              have HQR : Hid (w10.heap[fb]? = some (.cells R 44 (0, 0))) := Lib.hid (by rw [hR]; exact Hset.out)
              rw [← hR] at rfs rfi
              have HR := Lib.hid hR
              have HL10 := Lib.hid (HL.out.below (hall.out w10 HRun10.out.old))
              have hzs : Tryd.zeroCells50.size = 238 := by rw [zero_sent, sentRow_size 0 zeroFr_fit]
              have hsv := Lib.hid (serve_any KK q S [l] r Bi (b : Int) f (900000 - 100 * j - i - 1) w10 (HNode10.out.store.less (by omega)) HNode10.out.rat Hff.out HL10.out H0S.out HrS.out (by omega) (by omega))
              rw [← HR.out] at hsv
              clear hR
              go_wp2_with (refine wpList_load_row rfl 44 _ rfl fb rfl 44 R (0, 0) _ HQR.out Tryd.underlying44 rfl rfi ?_)
              refine hsv.out.mono ?_
              rintro e w12 ⟨t1, g1, is1, rfl, hs1, h12, hr12, hO12⟩
              rw [← HX.out] at hO12
              have gf1 := hs1.fit Hff.out
              rw [Hfo.out] at hs1
              have Hs1 := Lib.hid hs1
              have Gf1 := Lib.hid gf1
              have HRun12 := Lib.hid (HRun10.out.only hO12 HXlt.out)
              have HLine12 := Lib.hid (HLine10.out.only hO12 HXlt.out)
              have HNode12 : Hid (NodeB l w4 w12 q S r Bi (left' (b : Int) is1) (900000 - 100 * j - i - 1)) := Lib.hid ⟨h12, hr12, HNode10.out.lo⟩
              have ss1 := sentRow_size t1 gf1
              have so1 := sent_one t1 gf1
              have si1 : (Tryd.prog.info? 50).map (·.size) = some (sentRow t1 g1).size := by rw [ss1]; exact sent_info
              obtain ⟨SR1, hSR1⟩ : ∃ R, R = sentRow t1 g1 := ⟨_, rfl⟩
              rw [← hSR1] at ss1 so1 si1 ⊢
              have HSR1 := Lib.hid hSR1
              clear hs1 h12 hr12 hO12 gf1 hSR1 hsv
              go_upto_region 22 with (first | (refine wpList_store_row rfl 50 _ _ rfl w12.heap.size SR1 rfl rfl 50 _ (heap_alloc_new w12 _) si1 (by rw [ss1, hzs]) so1 ?_))
              show Code.wp _ _ _ _ ((w12.alloc (.cells Tryd.zeroCells50 50)).setRow w12.heap.size SR1)
              obtain ⟨hq_w13, hB_w13⟩ := put_new w12 Tryd.zeroCells50 SR1 50
              obtain ⟨sb, hp_w13⟩ : ∃ q, q = w12.heap.size := ⟨_, rfl⟩
              obtain ⟨w13, hw_w13⟩ : ∃ y, y = ((w12.alloc (.cells Tryd.zeroCells50 50)).setRow w12.heap.size SR1) := ⟨_, rfl⟩
              rw [← hw_w13] at hq_w13 hB_w13 ⊢
              rw [← hp_w13] at hq_w13 ⊢
              have HQ_w13 := Lib.hid hq_w13
              have HB_w13 := Lib.hid hB_w13
              have Hp_w13 := Lib.hid hp_w13
              clear hq_w13 hB_w13 hp_w13 hw_w13
              have HRun13 := Lib.hid (HRun12.out.below HB_w13.out)
              have HLine13 := Lib.hid (HLine12.out.below HB_w13.out)
              have HNode13 := Lib.hid (HNode12.out.below HB_w13.out)
              have ylo := (Hrg2.out y (by simp)).1
              have yhi := (Hrg2.out y (by simp)).2
              clear ss1 so1 si1 rfs rfi hzs
              by_cases hb0 : b = 0
              · have e1 : is1 = false := by
                  have h := Hs1.out
                  rw [hb0] at h
                  exact serv_zero h
                subst e1
                have hinn2 : Hid (Hl.innerB n (60 - (i + 1)) b (Hl.strip d') ys = Hl.bAt n B (j + 1)) := Lib.hid (by
                  have h := HInn.out
                  rw [show 60 - i = (60 - (i + 1)) + 1 by omega, Hl.innerB_cons, if_pos hb0] at h
                  exact h)
                have HNodeF : Hid (NodeB l w4 w13 q S r Bi (b : Int) (900000 - 100 * j - (i + 1))) := Lib.hid (HNode13.out.less (by omega))
                clear hb0
                go_wp2_with fail
                go_roundw
                case rel => exact ⟨i + 1, ys, d', S', b, by omega, by go_num, HRun13.out, HLine13.out, HNodeF.out, hb21, hinn2.out, (fun z hz => Hrg2.out z (by simp [hz])), by simp only [List.length_cons] at hql; omega⟩
                case measure => simp [intOf]; omega
              · obtain ⟨rfl, rfl, hcs⟩ := serve_ask2 Hn.out ylo yhi (by omega) Hs1.out
                have Hcs := Lib.hid hcs
                have HNodeF : Hid (NodeB l w4 w13 q S r Bi ((b - 1 : Nat) : Int) (900000 - 100 * j - (i + 1))) := Lib.hid (by
                  have h := HNode13.out.less (k' := 900000 - 100 * j - (i + 1)) (by omega)
                  rw [show left' (b : Int) true = ((b - 1 : Nat) : Int) by unfold left'; simp; omega] at h
                  exact h)
                have hq13 := HQ_w13.out
                rw [HSR1.out] at hq13
                have s2 := (sn_mem Gf1.out hq13).from_
                have zs2 := Lib.frozen_of_heap hq13 2
                have hput := heap_setCell_same _ sb 2 _ _ (.int .i64 5) hq13
                rw [show (sentRow 2 g1).setIfInBounds 2 (.int .i64 5) = sentRow 2 { g1 with from_ := 5 } from rfl] at hput
                have hO14 : Only [sb] w13 (w13.setCell ⟨sb, 2, none⟩ (.int .i64 5)) := (Only.refl [sb] w13).setCell (p := ⟨sb, 2, none⟩) (by simp) _
                have Hput := Lib.hid hput
                have HO14 := Lib.hid hO14
                obtain ⟨gfrom, hgfrom⟩ : ∃ x, x = g1.from_ := ⟨_, rfl⟩
                rw [← hgfrom] at s2
                clear hcs hq13 hput hO14 hgfrom
                go_upto_region 24 with fail
                obtain ⟨w14, hw14⟩ : ∃ z, z = w13.setCell ⟨sb, 2, none⟩ (.int .i64 5) := ⟨_, rfl⟩
                rw [← hw14] at Hput HO14 ⊢
                have Hsbw : Hid (w4.heap.size ≤ sb) := Lib.hid (by have := Hp_w13.out; have := HRun12.out.old.size; omega)
                have Hsbl : Hid (w12.heap.size ≤ sb) := Lib.hid (by have := Hp_w13.out; omega)
                have HRun14 : Hid (RunB l X w4 w14 S' p d') := Lib.hid ⟨HRun13.out.at_.only HO14.out (fun k hk => by have := HRun12.out.at_.lt k hk; have := Hsbl.out; simp; omega), HRun13.out.own, HRun13.out.peer, HRun13.out.s1, HRun13.out.old.above HO14.out (by simp; exact Hsbw.out)⟩
                have HNode14 := Lib.hid (HNodeF.out.above HO14.out (by simp; exact Hsbw.out))
                have HLine14 : Hid (LineB l w4 w14 v' ys S') := Lib.hid ⟨HLine13.out.que.apart HO14.out (blkV_apartB (fun k hk => by have h := que_ltB HLine12.out.que k hk; have := Hsbl.out; simp; omega)), HLine13.out.dis, HLine13.out.lo⟩
                have HL14 := Lib.hid (HL.out.below (hall.out w14 HRun14.out.old))
                clear hw14 s2 zs2
                have hpe := HRun14.out.peer
                have hcks := HRun14.out.own.cks_le HRun14.out.at_.ok
                rw [← Hn.out] at hcks
                have hscl : (Hl.strip d').cks.length ≤ n := by show (List.map Hl.bare d'.cks).length ≤ n; rw [List.length_map]; exact hcks
                have Hb0 := Lib.hid hb0
                rcases Hcs.out with ⟨hy, md, hg, hown, hmok⟩ | ⟨hy, hg⟩
                · have hmok14 : md.Ok w14 w14.heap.size := hmok.onlyNew ((Only.of_below HB_w13.out).trans HO14.out) (by simp; exact Hsbl.out)
                  have hgo : Hl.Goes KK l (hearOf KK d' { g1 with from_ := 5 }) (Hl.abMani n (Hl.strip d')) := (by rw [hg]; have h := Hl.own_mani hl512 hown HRun14.out.own; rw [hpe, ← Hn.out] at h; exact h)
                  have hfok : ({ g1 with from_ := 5 } : FrD).Ok w14 := (by rw [hg]; exact maniFr_okR 5 hmok14)
                  have hinn2 : Hl.innerB n (60 - (i + 1)) (b - 1) (Hl.abMani n (Hl.strip d')).1 (ys ++ (Hl.abMani n (Hl.strip d')).2) = Hl.bAt n B (j + 1) := by
                    have h := HInn.out
                    rw [show 60 - i = (60 - (i + 1)) + 1 by omega, Hl.innerB_cons, if_neg Hb0.out, if_pos hy] at h
                    exact h
                  have hh := hear_lineB (by have := HL4.out.lt; omega) HRun14.out HLine14.out hfok HL14.out hgo
                  obtain ⟨f5, hf5⟩ : ∃ f : FrD, f = { g1 with from_ := 5 } := ⟨_, rfl⟩
                  rw [← hf5] at Hput hh hfok
                  have f5f : f5.Fit := hfok.fit
                  have rg : w14.rangeAt sb 1 f5.cells := fun k v hv => by rw [Lib.cell_of_heap Hput.out]; unfold sentRow sentCells; rw [List.getElem?_toArray, show 1 + k = k + 1 by omega, List.getElem?_cons_succ]; exact hv
                  have fdix5 : (Tryd.prog.info? 44).map (·.size) = some f5.cells.length := by rw [fr_info, FrD.len f5f]
                  have hr5 : f5.row = f5.cells.toArray := rfl
                  rw [hr5] at hh
                  obtain ⟨c5, hc5⟩ : ∃ c, c = f5.cells := ⟨_, rfl⟩
                  rw [← hc5] at rg fdix5 hh
                  have Hgo := Lib.hid hgo
                  have HinnN := Lib.hid hinn2
                  have Hh := Lib.hid hh
                  clear hgo hfok hinn2 hh hf5 f5f hr5 hc5 hb0
                  go_wp2_with (refine wpList_load_mid rfl 44 _ rfl sb 1 rfl c5 _ rg fund rfl fdix5 ?_)
                  refine Hh.out.mono ?_
                  rintro e w15 ⟨u2, S3, d3, rfl, hA, hR, hLn, hdis, hst2, hO15⟩
                  have HR15 := Lib.hid hR
                  have HL15 := Lib.hid hLn
                  have HA := Lib.hid hA
                  have Hst2 := Lib.hid hst2
                  have HN15 := Lib.hid (HNode14.out.above hO15 HRun14.out.s1)
                  have hle2 : (Hl.abMani n (Hl.strip d')).2.length ≤ 2 := by rw [← Hgo.out.ats]; exact Hl.hear_two KK d' _
                  have HQ := Lib.hid HL15.out.que
                  have hlq : ys.length + (Hl.abMani n (Hl.strip d')).2.length ≤ 1000 := by simp only [List.length_cons] at hql; omega
                  have hin2 : ∀ z ∈ ys ++ (Hl.abMani n (Hl.strip d')).2, -1 ≤ z ∧ z < n := fun z hz => by
                    rcases List.mem_append.1 hz with hz | hz
                    · exact Hrg2.out z (by simp [hz])
                    · exact Hl.abMani_in _ n z hz
                  have Hin2 := Lib.hid hin2
                  clear hA hR hLn hdis hst2 hO15 Hh Hgo hin2 rg
                  go_wp2_with (refine wpList_append_que _ rfl _ _ rfl (hashB_length KK l) rfl HQ.out rfl HA.out hlq ?_)
                  intro v3 w16 hq3 ho3 hb3
                  obtain ⟨hR16, hL16⟩ := lineB_push HR15.out HL15.out hq3 ho3 hb3
                  have HN16 := Lib.hid (HN15.out.above ho3 HL15.out.lo)
                  have HR16 := Lib.hid hR16
                  have HL16 := Lib.hid hL16
                  clear hq3 ho3 hb3 hR16 hL16 HR15 HL15 HQ HA HN15
                  go_wp2_with fail
                  go_roundw
                  case rel => exact ⟨i + 1, ys ++ (Hl.abMani n (Hl.strip d')).2, d3, S3, b - 1, by omega, by go_num, HR16.out, HL16.out, HN16.out, by omega, by rw [Hst2.out]; exact HinnN.out, Hin2.out, by simp only [List.length_append, List.length_cons] at hql ⊢; omega⟩
                  case measure => simp [intOf]; omega
                · have hyn : ¬ y < 0 := by omega
                  have hgo : Hl.Goes KK l (hearOf KK d' { g1 with from_ := 5 }) (Hl.abPart y.toNat (Hl.strip d')) := (by rw [hg]; have h := Hl.own_part hl512 y.toNat (by rw [← Hn.out]; omega) HRun14.out.own; rw [hpe] at h; exact h)
                  have hfok : ({ g1 with from_ := 5 } : FrD).Ok w14 := (by rw [hg]; exact partFr_okR w14 5 (hashB KK l) y.toNat (chunk l y.toNat) (hashB_length KK l) (by omega) (by rw [chunk_length]; omega))
                  have hinn2 : Hl.innerB n (60 - (i + 1)) (b - 1) (Hl.abPart y.toNat (Hl.strip d')).1 (ys ++ (Hl.abPart y.toNat (Hl.strip d')).2) = Hl.bAt n B (j + 1) := by
                    have h := HInn.out
                    rw [show 60 - i = (60 - (i + 1)) + 1 by omega, Hl.innerB_cons, if_neg Hb0.out, if_neg hyn] at h
                    exact h
                  have hh := hear_lineB (by have := HL4.out.lt; omega) HRun14.out HLine14.out hfok HL14.out hgo
                  obtain ⟨f5, hf5⟩ : ∃ f : FrD, f = { g1 with from_ := 5 } := ⟨_, rfl⟩
                  rw [← hf5] at Hput hh hfok
                  have f5f : f5.Fit := hfok.fit
                  have rg : w14.rangeAt sb 1 f5.cells := fun k v hv => by rw [Lib.cell_of_heap Hput.out]; unfold sentRow sentCells; rw [List.getElem?_toArray, show 1 + k = k + 1 by omega, List.getElem?_cons_succ]; exact hv
                  have fdix5 : (Tryd.prog.info? 44).map (·.size) = some f5.cells.length := by rw [fr_info, FrD.len f5f]
                  have hr5 : f5.row = f5.cells.toArray := rfl
                  rw [hr5] at hh
                  obtain ⟨c5, hc5⟩ : ∃ c, c = f5.cells := ⟨_, rfl⟩
                  rw [← hc5] at rg fdix5 hh
                  have Hgo := Lib.hid hgo
                  have HinnN := Lib.hid hinn2
                  have Hh := Lib.hid hh
                  clear hgo hfok hinn2 hh hf5 f5f hr5 hc5 hb0
                  go_wp2_with (refine wpList_load_mid rfl 44 _ rfl sb 1 rfl c5 _ rg fund rfl fdix5 ?_)
                  refine Hh.out.mono ?_
                  rintro e w15 ⟨u2, S3, d3, rfl, hA, hR, hLn, hdis, hst2, hO15⟩
                  have HR15 := Lib.hid hR
                  have HL15 := Lib.hid hLn
                  have HA := Lib.hid hA
                  have Hst2 := Lib.hid hst2
                  have HN15 := Lib.hid (HNode14.out.above hO15 HRun14.out.s1)
                  have hle2 : (Hl.abPart y.toNat (Hl.strip d')).2.length ≤ 2 := by rw [← Hgo.out.ats]; exact Hl.hear_two KK d' _
                  have HQ := Lib.hid HL15.out.que
                  have hlq : ys.length + (Hl.abPart y.toNat (Hl.strip d')).2.length ≤ 1000 := by simp only [List.length_cons] at hql; omega
                  have hin2 : ∀ z ∈ ys ++ (Hl.abPart y.toNat (Hl.strip d')).2, -1 ≤ z ∧ z < n := fun z hz => by
                    rcases List.mem_append.1 hz with hz | hz
                    · exact Hrg2.out z (by simp [hz])
                    · exact Hl.abPart_in y.toNat _ n hscl z hz
                  have Hin2 := Lib.hid hin2
                  clear hA hR hLn hdis hst2 hO15 Hh Hgo hin2 rg
                  go_wp2_with (refine wpList_append_que _ rfl _ _ rfl (hashB_length KK l) rfl HQ.out rfl HA.out hlq ?_)
                  intro v3 w16 hq3 ho3 hb3
                  obtain ⟨hR16, hL16⟩ := lineB_push HR15.out HL15.out hq3 ho3 hb3
                  have HN16 := Lib.hid (HN15.out.above ho3 HL15.out.lo)
                  have HR16 := Lib.hid hR16
                  have HL16 := Lib.hid hL16
                  clear hq3 ho3 hb3 hR16 hL16 HR15 HL15 HQ HA HN15
                  go_wp2_with fail
                  go_roundw
                  case rel => exact ⟨i + 1, ys ++ (Hl.abPart y.toNat (Hl.strip d')).2, d3, S3, b - 1, by omega, by go_num, HR16.out, HL16.out, HN16.out, by omega, by rw [Hst2.out]; exact HinnN.out, Hin2.out, by simp only [List.length_append, List.length_cons] at hql ⊢; omega⟩
                  case measure => simp [intOf]; omega
            · have hcz : ¬ cap = 1 := hc1
              go_upto_region 19 with (first | (refine wpList_load_mid rfl 44 _ rfl g (off + 1) rfl fc _ hrs fund rfl fdix ?_) | (refine wpList_store_row rfl 44 _ _ rfl wr.heap.size fc.toArray rfl rfl 44 _ (heap_alloc_new wr _) fdixA (by rw [fsz, hzf]) fone ?_))
              show Code.wp _ _ _ _ ((wr.alloc (.cells Tryd.zeroCells44 44)).setRow wr.heap.size fc.toArray)
              obtain ⟨hq_w9, hB_w9⟩ := put_new wr Tryd.zeroCells44 fc.toArray 44
              obtain ⟨fb, hp_w9⟩ : ∃ q, q = wr.heap.size := ⟨_, rfl⟩
              obtain ⟨w9, hw_w9⟩ : ∃ y, y = ((wr.alloc (.cells Tryd.zeroCells44 44)).setRow wr.heap.size fc.toArray) := ⟨_, rfl⟩
              rw [← hw_w9] at hq_w9 hB_w9 ⊢
              rw [← hp_w9] at hq_w9 ⊢
              have HQ_w9 := Lib.hid hq_w9
              have HB_w9 := Lib.hid hB_w9
              have Hp_w9 := Lib.hid hp_w9
              clear hq_w9 hB_w9 hp_w9 hw_w9
              have HRun9 := Lib.hid (HRun'.out.below HB_w9.out)
              have HNode9 := Lib.hid (HNode'.out.below HB_w9.out)
              obtain ⟨v', hv'⟩ : ∃ z, z = (Value.slice (some ⟨g, off + 238, none⟩) m (cap - 1)) := ⟨_, rfl⟩
              have hline9 : LineB l w4 w9 v' ys S' := ⟨by rw [hv', ← Hout.out]; have h := Htl.out.below HB_w9.out; rw [if_neg hc1] at h; simpa [← Hm.out] using h, by rw [hv']; exact HLine.out.dis, by rw [hv']; exact HLine.out.lo⟩
              have HLine9 := Lib.hid hline9
              have hq9 := HQ_w9.out
              rw [Hfc.out] at hq9
              have hq9 : w9.heap[fb]? = some (.cells (askFr out y).row 44 (0, 0)) := hq9
              have f1 : w9.cell? ⟨fb, 1, none⟩ = some (.int .i64 0) := (fr_mem (askFr_fit out y HO.out) hq9).from_
              have zf1 := Lib.frozen_of_heap hq9 1
              have hset := heap_setCell_same _ fb 1 _ _ (.int .i64 2) hq9
              rw [fr_set_from] at hset
              have hO10 : Only [fb] w9 (w9.setCell ⟨fb, 1, none⟩ (.int .i64 2)) := (Only.refl [fb] w9).setCell (p := ⟨fb, 1, none⟩) (by simp) _
              have Hset := Lib.hid hset
              have HO10 := Lib.hid hO10
              clear hline9 hrs fdix fsz fone fdixA hzf hq9 hset hO10
              go_upto_region 21 with fail
              obtain ⟨w10, hw10⟩ : ∃ z, z = w9.setCell ⟨fb, 1, none⟩ (.int .i64 2) := ⟨_, rfl⟩
              rw [← hw10] at Hset HO10 ⊢
              rw [show (Value.slice (some ⟨g, off + 238, none⟩) m (cap - 1)) = v' from hv'.symm]
              have Hfbw : Hid (w4.heap.size ≤ fb) := Lib.hid (by have := Hp_w9.out; have := HRun'.out.old.size; omega)
              have Hfbl : Hid (wr.heap.size ≤ fb) := Lib.hid (by have := Hp_w9.out; omega)
              have HRun10 : Hid (RunB l X w4 w10 S' p d') := Lib.hid ⟨HRun9.out.at_.only HO10.out (fun k hk => by have := HRun'.out.at_.lt k hk; have := Hfbl.out; simp; omega), HRun9.out.own, HRun9.out.peer, HRun9.out.s1, HRun9.out.old.above HO10.out (by simp; exact Hfbw.out)⟩
              have HNode10 := Lib.hid (HNode9.out.above HO10.out (by simp; exact Hfbw.out))
              have HLine10 : Hid (LineB l w4 w10 v' ys S') := Lib.hid ⟨HLine9.out.que.apart HO10.out (blkV_apartB (fun k hk => by have h := que_ltB HLine.out.que k (by rw [hv'] at hk; exact hk); have := Hfbl.out; simp; omega)), HLine9.out.dis, HLine9.out.lo⟩
              have Hv' := Lib.hid hv'
              obtain ⟨f, hf⟩ : ∃ f : FrD, f = { askFr out y with from_ := 2 } := ⟨_, rfl⟩
              rw [← hf] at Hset
              have Hf := Lib.hid hf
              have Hff : Hid f.Fit := Lib.hid (by rw [hf]; exact fr_from_fit (askFr_fit out y HO.out) 2)
              have Hfo : Hid (f = { askFr (hashB KK l) y with from_ := 2 }) := Lib.hid (by rw [hf, Hout.out])
              clear hw10 f1 zf1 hv' hf
              have rfs := FrD.row_size Hff.out
              have rfi := fr_infoR Hff.out
              obtain ⟨R, hR⟩ : ∃ R, R = f.row := ⟨_, rfl⟩
              have HQR : Hid (w10.heap[fb]? = some (.cells R 44 (0, 0))) := Lib.hid (by rw [hR]; exact Hset.out)
              rw [← hR] at rfs rfi
              have HR := Lib.hid hR
              have HL10 := Lib.hid (HL.out.below (hall.out w10 HRun10.out.old))
              have hzs : Tryd.zeroCells50.size = 238 := by rw [zero_sent, sentRow_size 0 zeroFr_fit]
              have hsv := Lib.hid (serve_any KK q S [l] r Bi (b : Int) f (900000 - 100 * j - i - 1) w10 (HNode10.out.store.less (by omega)) HNode10.out.rat Hff.out HL10.out H0S.out HrS.out (by omega) (by omega))
              rw [← HR.out] at hsv
              clear hR
              go_wp2_with (refine wpList_load_row rfl 44 _ rfl fb rfl 44 R (0, 0) _ HQR.out Tryd.underlying44 rfl rfi ?_)
              refine hsv.out.mono ?_
              rintro e w12 ⟨t1, g1, is1, rfl, hs1, h12, hr12, hO12⟩
              rw [← HX.out] at hO12
              have gf1 := hs1.fit Hff.out
              rw [Hfo.out] at hs1
              have Hs1 := Lib.hid hs1
              have Gf1 := Lib.hid gf1
              have HRun12 := Lib.hid (HRun10.out.only hO12 HXlt.out)
              have HLine12 := Lib.hid (HLine10.out.only hO12 HXlt.out)
              have HNode12 : Hid (NodeB l w4 w12 q S r Bi (left' (b : Int) is1) (900000 - 100 * j - i - 1)) := Lib.hid ⟨h12, hr12, HNode10.out.lo⟩
              have ss1 := sentRow_size t1 gf1
              have so1 := sent_one t1 gf1
              have si1 : (Tryd.prog.info? 50).map (·.size) = some (sentRow t1 g1).size := by rw [ss1]; exact sent_info
              obtain ⟨SR1, hSR1⟩ : ∃ R, R = sentRow t1 g1 := ⟨_, rfl⟩
              rw [← hSR1] at ss1 so1 si1 ⊢
              have HSR1 := Lib.hid hSR1
              clear hs1 h12 hr12 hO12 gf1 hSR1 hsv
              go_upto_region 22 with (first | (refine wpList_store_row rfl 50 _ _ rfl w12.heap.size SR1 rfl rfl 50 _ (heap_alloc_new w12 _) si1 (by rw [ss1, hzs]) so1 ?_))
              show Code.wp _ _ _ _ ((w12.alloc (.cells Tryd.zeroCells50 50)).setRow w12.heap.size SR1)
              obtain ⟨hq_w13, hB_w13⟩ := put_new w12 Tryd.zeroCells50 SR1 50
              obtain ⟨sb, hp_w13⟩ : ∃ q, q = w12.heap.size := ⟨_, rfl⟩
              obtain ⟨w13, hw_w13⟩ : ∃ y, y = ((w12.alloc (.cells Tryd.zeroCells50 50)).setRow w12.heap.size SR1) := ⟨_, rfl⟩
              rw [← hw_w13] at hq_w13 hB_w13 ⊢
              rw [← hp_w13] at hq_w13 ⊢
              have HQ_w13 := Lib.hid hq_w13
              have HB_w13 := Lib.hid hB_w13
              have Hp_w13 := Lib.hid hp_w13
              clear hq_w13 hB_w13 hp_w13 hw_w13
              have HRun13 := Lib.hid (HRun12.out.below HB_w13.out)
              have HLine13 := Lib.hid (HLine12.out.below HB_w13.out)
              have HNode13 := Lib.hid (HNode12.out.below HB_w13.out)
              have ylo := (Hrg2.out y (by simp)).1
              have yhi := (Hrg2.out y (by simp)).2
              clear ss1 so1 si1 rfs rfi hzs
              by_cases hb0 : b = 0
              · have e1 : is1 = false := by
                  have h := Hs1.out
                  rw [hb0] at h
                  exact serv_zero h
                subst e1
                have hinn2 : Hid (Hl.innerB n (60 - (i + 1)) b (Hl.strip d') ys = Hl.bAt n B (j + 1)) := Lib.hid (by
                  have h := HInn.out
                  rw [show 60 - i = (60 - (i + 1)) + 1 by omega, Hl.innerB_cons, if_pos hb0] at h
                  exact h)
                have HNodeF : Hid (NodeB l w4 w13 q S r Bi (b : Int) (900000 - 100 * j - (i + 1))) := Lib.hid (HNode13.out.less (by omega))
                clear hb0
                go_wp2_with fail
                go_roundw
                case rel => exact ⟨i + 1, ys, d', S', b, by omega, by go_num, HRun13.out, HLine13.out, HNodeF.out, hb21, hinn2.out, (fun z hz => Hrg2.out z (by simp [hz])), by simp only [List.length_cons] at hql; omega⟩
                case measure => simp [intOf]; omega
              · obtain ⟨rfl, rfl, hcs⟩ := serve_ask2 Hn.out ylo yhi (by omega) Hs1.out
                have Hcs := Lib.hid hcs
                have HNodeF : Hid (NodeB l w4 w13 q S r Bi ((b - 1 : Nat) : Int) (900000 - 100 * j - (i + 1))) := Lib.hid (by
                  have h := HNode13.out.less (k' := 900000 - 100 * j - (i + 1)) (by omega)
                  rw [show left' (b : Int) true = ((b - 1 : Nat) : Int) by unfold left'; simp; omega] at h
                  exact h)
                have hq13 := HQ_w13.out
                rw [HSR1.out] at hq13
                have s2 := (sn_mem Gf1.out hq13).from_
                have zs2 := Lib.frozen_of_heap hq13 2
                have hput := heap_setCell_same _ sb 2 _ _ (.int .i64 5) hq13
                rw [show (sentRow 2 g1).setIfInBounds 2 (.int .i64 5) = sentRow 2 { g1 with from_ := 5 } from rfl] at hput
                have hO14 : Only [sb] w13 (w13.setCell ⟨sb, 2, none⟩ (.int .i64 5)) := (Only.refl [sb] w13).setCell (p := ⟨sb, 2, none⟩) (by simp) _
                have Hput := Lib.hid hput
                have HO14 := Lib.hid hO14
                obtain ⟨gfrom, hgfrom⟩ : ∃ x, x = g1.from_ := ⟨_, rfl⟩
                rw [← hgfrom] at s2
                clear hcs hq13 hput hO14 hgfrom
                go_upto_region 24 with fail
                obtain ⟨w14, hw14⟩ : ∃ z, z = w13.setCell ⟨sb, 2, none⟩ (.int .i64 5) := ⟨_, rfl⟩
                rw [← hw14] at Hput HO14 ⊢
                have Hsbw : Hid (w4.heap.size ≤ sb) := Lib.hid (by have := Hp_w13.out; have := HRun12.out.old.size; omega)
                have Hsbl : Hid (w12.heap.size ≤ sb) := Lib.hid (by have := Hp_w13.out; omega)
                have HRun14 : Hid (RunB l X w4 w14 S' p d') := Lib.hid ⟨HRun13.out.at_.only HO14.out (fun k hk => by have := HRun12.out.at_.lt k hk; have := Hsbl.out; simp; omega), HRun13.out.own, HRun13.out.peer, HRun13.out.s1, HRun13.out.old.above HO14.out (by simp; exact Hsbw.out)⟩
                have HNode14 := Lib.hid (HNodeF.out.above HO14.out (by simp; exact Hsbw.out))
                have HLine14 : Hid (LineB l w4 w14 v' ys S') := Lib.hid ⟨HLine13.out.que.apart HO14.out (blkV_apartB (fun k hk => by have h := que_ltB HLine12.out.que k hk; have := Hsbl.out; simp; omega)), HLine13.out.dis, HLine13.out.lo⟩
                have HL14 := Lib.hid (HL.out.below (hall.out w14 HRun14.out.old))
                clear hw14 s2 zs2
                have hpe := HRun14.out.peer
                have hcks := HRun14.out.own.cks_le HRun14.out.at_.ok
                rw [← Hn.out] at hcks
                have hscl : (Hl.strip d').cks.length ≤ n := by show (List.map Hl.bare d'.cks).length ≤ n; rw [List.length_map]; exact hcks
                have Hb0 := Lib.hid hb0
                rcases Hcs.out with ⟨hy, md, hg, hown, hmok⟩ | ⟨hy, hg⟩
                · have hmok14 : md.Ok w14 w14.heap.size := hmok.onlyNew ((Only.of_below HB_w13.out).trans HO14.out) (by simp; exact Hsbl.out)
                  have hgo : Hl.Goes KK l (hearOf KK d' { g1 with from_ := 5 }) (Hl.abMani n (Hl.strip d')) := (by rw [hg]; have h := Hl.own_mani hl512 hown HRun14.out.own; rw [hpe, ← Hn.out] at h; exact h)
                  have hfok : ({ g1 with from_ := 5 } : FrD).Ok w14 := (by rw [hg]; exact maniFr_okR 5 hmok14)
                  have hinn2 : Hl.innerB n (60 - (i + 1)) (b - 1) (Hl.abMani n (Hl.strip d')).1 (ys ++ (Hl.abMani n (Hl.strip d')).2) = Hl.bAt n B (j + 1) := by
                    have h := HInn.out
                    rw [show 60 - i = (60 - (i + 1)) + 1 by omega, Hl.innerB_cons, if_neg Hb0.out, if_pos hy] at h
                    exact h
                  have hh := hear_lineB (by have := HL4.out.lt; omega) HRun14.out HLine14.out hfok HL14.out hgo
                  obtain ⟨f5, hf5⟩ : ∃ f : FrD, f = { g1 with from_ := 5 } := ⟨_, rfl⟩
                  rw [← hf5] at Hput hh hfok
                  have f5f : f5.Fit := hfok.fit
                  have rg : w14.rangeAt sb 1 f5.cells := fun k v hv => by rw [Lib.cell_of_heap Hput.out]; unfold sentRow sentCells; rw [List.getElem?_toArray, show 1 + k = k + 1 by omega, List.getElem?_cons_succ]; exact hv
                  have fdix5 : (Tryd.prog.info? 44).map (·.size) = some f5.cells.length := by rw [fr_info, FrD.len f5f]
                  have hr5 : f5.row = f5.cells.toArray := rfl
                  rw [hr5] at hh
                  obtain ⟨c5, hc5⟩ : ∃ c, c = f5.cells := ⟨_, rfl⟩
                  rw [← hc5] at rg fdix5 hh
                  have Hgo := Lib.hid hgo
                  have HinnN := Lib.hid hinn2
                  have Hh := Lib.hid hh
                  clear hgo hfok hinn2 hh hf5 f5f hr5 hc5 hb0
                  go_wp2_with (refine wpList_load_mid rfl 44 _ rfl sb 1 rfl c5 _ rg fund rfl fdix5 ?_)
                  refine Hh.out.mono ?_
                  rintro e w15 ⟨u2, S3, d3, rfl, hA, hR, hLn, hdis, hst2, hO15⟩
                  have HR15 := Lib.hid hR
                  have HL15 := Lib.hid hLn
                  have HA := Lib.hid hA
                  have Hst2 := Lib.hid hst2
                  have HN15 := Lib.hid (HNode14.out.above hO15 HRun14.out.s1)
                  have hle2 : (Hl.abMani n (Hl.strip d')).2.length ≤ 2 := by rw [← Hgo.out.ats]; exact Hl.hear_two KK d' _
                  have HQ := Lib.hid HL15.out.que
                  have hlq : ys.length + (Hl.abMani n (Hl.strip d')).2.length ≤ 1000 := by simp only [List.length_cons] at hql; omega
                  have hin2 : ∀ z ∈ ys ++ (Hl.abMani n (Hl.strip d')).2, -1 ≤ z ∧ z < n := fun z hz => by
                    rcases List.mem_append.1 hz with hz | hz
                    · exact Hrg2.out z (by simp [hz])
                    · exact Hl.abMani_in _ n z hz
                  have Hin2 := Lib.hid hin2
                  clear hA hR hLn hdis hst2 hO15 Hh Hgo hin2 rg
                  go_wp2_with (refine wpList_append_que _ rfl _ _ rfl (hashB_length KK l) rfl HQ.out rfl HA.out hlq ?_)
                  intro v3 w16 hq3 ho3 hb3
                  obtain ⟨hR16, hL16⟩ := lineB_push HR15.out HL15.out hq3 ho3 hb3
                  have HN16 := Lib.hid (HN15.out.above ho3 HL15.out.lo)
                  have HR16 := Lib.hid hR16
                  have HL16 := Lib.hid hL16
                  clear hq3 ho3 hb3 hR16 hL16 HR15 HL15 HQ HA HN15
                  go_wp2_with fail
                  go_roundw
                  case rel => exact ⟨i + 1, ys ++ (Hl.abMani n (Hl.strip d')).2, d3, S3, b - 1, by omega, by go_num, HR16.out, HL16.out, HN16.out, by omega, by rw [Hst2.out]; exact HinnN.out, Hin2.out, by simp only [List.length_append, List.length_cons] at hql ⊢; omega⟩
                  case measure => simp [intOf]; omega
                · have hyn : ¬ y < 0 := by omega
                  have hgo : Hl.Goes KK l (hearOf KK d' { g1 with from_ := 5 }) (Hl.abPart y.toNat (Hl.strip d')) := (by rw [hg]; have h := Hl.own_part hl512 y.toNat (by rw [← Hn.out]; omega) HRun14.out.own; rw [hpe] at h; exact h)
                  have hfok : ({ g1 with from_ := 5 } : FrD).Ok w14 := (by rw [hg]; exact partFr_okR w14 5 (hashB KK l) y.toNat (chunk l y.toNat) (hashB_length KK l) (by omega) (by rw [chunk_length]; omega))
                  have hinn2 : Hl.innerB n (60 - (i + 1)) (b - 1) (Hl.abPart y.toNat (Hl.strip d')).1 (ys ++ (Hl.abPart y.toNat (Hl.strip d')).2) = Hl.bAt n B (j + 1) := by
                    have h := HInn.out
                    rw [show 60 - i = (60 - (i + 1)) + 1 by omega, Hl.innerB_cons, if_neg Hb0.out, if_neg hyn] at h
                    exact h
                  have hh := hear_lineB (by have := HL4.out.lt; omega) HRun14.out HLine14.out hfok HL14.out hgo
                  obtain ⟨f5, hf5⟩ : ∃ f : FrD, f = { g1 with from_ := 5 } := ⟨_, rfl⟩
                  rw [← hf5] at Hput hh hfok
                  have f5f : f5.Fit := hfok.fit
                  have rg : w14.rangeAt sb 1 f5.cells := fun k v hv => by rw [Lib.cell_of_heap Hput.out]; unfold sentRow sentCells; rw [List.getElem?_toArray, show 1 + k = k + 1 by omega, List.getElem?_cons_succ]; exact hv
                  have fdix5 : (Tryd.prog.info? 44).map (·.size) = some f5.cells.length := by rw [fr_info, FrD.len f5f]
                  have hr5 : f5.row = f5.cells.toArray := rfl
                  rw [hr5] at hh
                  obtain ⟨c5, hc5⟩ : ∃ c, c = f5.cells := ⟨_, rfl⟩
                  rw [← hc5] at rg fdix5 hh
                  have Hgo := Lib.hid hgo
                  have HinnN := Lib.hid hinn2
                  have Hh := Lib.hid hh
                  clear hgo hfok hinn2 hh hf5 f5f hr5 hc5 hb0
                  go_wp2_with (refine wpList_load_mid rfl 44 _ rfl sb 1 rfl c5 _ rg fund rfl fdix5 ?_)
                  refine Hh.out.mono ?_
                  rintro e w15 ⟨u2, S3, d3, rfl, hA, hR, hLn, hdis, hst2, hO15⟩
                  have HR15 := Lib.hid hR
                  have HL15 := Lib.hid hLn
                  have HA := Lib.hid hA
                  have Hst2 := Lib.hid hst2
                  have HN15 := Lib.hid (HNode14.out.above hO15 HRun14.out.s1)
                  have hle2 : (Hl.abPart y.toNat (Hl.strip d')).2.length ≤ 2 := by rw [← Hgo.out.ats]; exact Hl.hear_two KK d' _
                  have HQ := Lib.hid HL15.out.que
                  have hlq : ys.length + (Hl.abPart y.toNat (Hl.strip d')).2.length ≤ 1000 := by simp only [List.length_cons] at hql; omega
                  have hin2 : ∀ z ∈ ys ++ (Hl.abPart y.toNat (Hl.strip d')).2, -1 ≤ z ∧ z < n := fun z hz => by
                    rcases List.mem_append.1 hz with hz | hz
                    · exact Hrg2.out z (by simp [hz])
                    · exact Hl.abPart_in y.toNat _ n hscl z hz
                  have Hin2 := Lib.hid hin2
                  clear hA hR hLn hdis hst2 hO15 Hh Hgo hin2 rg
                  go_wp2_with (refine wpList_append_que _ rfl _ _ rfl (hashB_length KK l) rfl HQ.out rfl HA.out hlq ?_)
                  intro v3 w16 hq3 ho3 hb3
                  obtain ⟨hR16, hL16⟩ := lineB_push HR15.out HL15.out hq3 ho3 hb3
                  have HN16 := Lib.hid (HN15.out.above ho3 HL15.out.lo)
                  have HR16 := Lib.hid hR16
                  have HL16 := Lib.hid hL16
                  clear hq3 ho3 hb3 hR16 hL16 HR15 HL15 HQ HA HN15
                  go_wp2_with fail
                  go_roundw
                  case rel => exact ⟨i + 1, ys ++ (Hl.abPart y.toNat (Hl.strip d')).2, d3, S3, b - 1, by omega, by go_num, HR16.out, HL16.out, HN16.out, by omega, by rw [Hst2.out]; exact HinnN.out, Hin2.out, by simp only [List.length_append, List.length_cons] at hql ⊢; omega⟩
                  case measure => simp [intOf]; omega
        · obtain rfl : i = 60 := by omega
          have hsn : Hid (Hl.strip d' = Hl.bAt n B (j + 1)) := Lib.hid (by rw [← HInn.out]; rfl)
          clear hline hrg
          go_wp2_with fail
          go_roundw
          case rel => exact ⟨j + 1, d', S', _, by omega, by go_num, hsn.out, HRun'.out, HNode'.out.less (by omega)⟩
          case measure => simp [intOf]; omega
    · obtain rfl : j = 14 := by omega
      have hs := Hst.out
      have e1 : d.done = true := (congrArg HlD.done hs).trans hcomes.out
      have e3 : d.blob = l := HRun.out.own.blob e1
      obtain ⟨mv, cv, hmem, -⟩ := HRun.out.at_.mem
      have hod := HRun.out.at_.ok.out
      have hbl := Lib.hid (blob_any p d mv cv wr hod hmem)
      rw [e1, e3] at hbl
      have hll : (l == l) = true := by simp
      have Hfin := Lib.hid (hall.out wr HRun.out.old)
      clear hmem hod hs e1 e3 hcomes
      go_wp2_with fail
      refine hbl.out.mono ?_
      rintro e w9 ⟨rfl, hB9⟩
      have HB9 := Lib.hid (Hfin.out.trans (hB9.mono Hfin.out.size))
      clear hB9 hbl
      go_wp2_with fail
      go_ret
      exact ⟨rfl, HB9.out⟩
namespace RationHaulsLaw
open Go.ChangeShapes Go.WideShapes Go.ChangeAt
open Go.ChangeMaps (open_string shut_string)
set_option maxRecDepth 100000 in
theorem contract (H : Type) (enc : TypeId × Value → H) (W : World) (base : Nat) (args : Array Value) (ds gs : List (DataW H)) (before : List MemPlace)
    (hval : ∀ (j : Nat) t v, Tryd.f7.params[j]? = some t → args[j]? = some v → Value.okWide Tryd.prog W .any base t v)
    (hW : DataW.Whole enc Tryd.prog Tryd.f7.params.toList Rows.rationHaulsSpec.vars false W args.toList ds gs before) (hsz0 : (DataW.weightsEach Tryd.prog (Tryd.f7.params.toList ++ Rows.rationHaulsSpec.plain.varTypes Tryd.prog) (ds ++ gs)).all (· ≤ reachBytes) = true) (hLd : laidMetH Tryd.prog laid1 W) :
    Calls Tryd.prog 7 args W fun e W' => ∃ v, e = .returned v ∧ Rows.rationHaulsSpec.post enc Tryd.prog Tryd.f7 false true false false W args v W' := by
  have hW' := hW
  obtain ⟨p, q, hA0, hV, rfl, hfz, hnd⟩ := hW
  have hA : DataW.TrodAll enc Tryd.prog W 0 (fun _ => true) true Tryd.f7.params.toList args.toList ds p := hA0
  rw [Tryd.params7] at hA hval
  obtain ⟨v0, vs0, d0, ds0, p0, q0, hargs, rfl, rfl, h0, r0⟩ := trodAll_cons hA
  obtain ⟨v1, vs1, d1, ds1, p1, q1, rfl, rfl, rfl, h1, r1⟩ := trodAll_cons r0
  obtain ⟨rfl, rfl, rfl⟩ := trodAll_nil r1
  obtain rfl : args = #[v0, v1] := by cases args; simp_all
  obtain ⟨rfl, rfl⟩ := trodVars_none hV
  obtain ⟨s0, rfl, hd0, _, hs0⟩ := open_string Tryd.underlying9 (hval 0 9 v0 rfl rfl) h0
  obtain ⟨x0, rfl, hx0, hy0⟩ := as_list s0
  have z0 : x0.length ≤ 140737488351232 := by
    have := sized_string hsz0 (j := 0) (t := 9) (bytes := x0) (by simp [Tryd.params7]) (by rw [hd0, hx0]; rfl)
    simpa [reachBytes] using this
  obtain ⟨x1, rfl, hd1, _, w1⟩ := open_int Tryd.underlying3 (hval 1 3 v1 rfl rfl) h1
  refine (rationHauls_core x0 x1 W (of_laid hLd) z0 (wf_bounds w1).1 (wf_bounds w1).2).mono fun e W' ⟨he, hg⟩ => ?_
  subst he
  exact ⟨_, rfl, law_post (tb := 4) laidOut_ (of_decide_eq_true (by kernel_rfl)) Tryd.underlying4 (by kernel_rfl) rfl rfl hW' hg⟩

theorem door_met (os : Os) (args : Array Value) : laidMetH Tryd.prog laid1 ((World.doorLaid Tryd.prog 400 os).forCall (fun _ _ => 0) ⟨#[], args, []⟩).memory :=
  laidMetH_of_parts3 (fuel := 8) (laidMet_of_run' 8 (by kernel_rfl) (by kernel_rfl)) (by kernel_rfl) (by kernel_rfl)

set_option maxRecDepth 100000 in
theorem lifted (os : Os) (started : os.Started) (H : Type) (enc : TypeId × Value → H) :
    ReturnsInHanded {} Tryd.checked os 7 .any (fun w args => (Rows.rationHaulsSpec.pre enc Tryd.prog Tryd.f7 [] false w args ∧ laidMetH Tryd.prog laid1 w) ∧ sizedMet enc Tryd.prog Tryd.f7 (OpenSpec.ofChange Rows.rationHaulsSpec) false w args)
      (Rows.rationHaulsSpec.post enc Tryd.prog Tryd.f7 false true false false) := by
  refine returnsInHanded_of_change_and (C := Tryd.checked) (X := fun w _ => laidMetH Tryd.prog laid1 w) (fun _ _ _ hh h => h.of_heap hh) ownKnob_ started (by kernel_rfl) Tryd.func7
    (ChangeSpec.witness_shaped (enc := enc) (C := Tryd.checked) (os := os) (X := fun w _ => laidMetH Tryd.prog laid1 w) false (World.doorLaid Tryd.prog 400 os) #[.string .empty, .int .i64 0] 8 rfl (World.shaped_of_RefB (by kernel_rfl) (by kernel_rfl)) (by kernel_rfl) (by kernel_rfl) (by kernel_rfl) (door_met os _)) ?_
  intro W base args ds gs before hval hW _ hsz hLd _
  exact contract H enc W base args ds gs before hval hW hsz hLd

theorem said : Rows.RationHaulsSaid :=
  OpenClaim.holds_of_wide 7 Tryd.f7 rfl rfl rfl rfl rfl rfl rfl ⟨rfl, rfl, rfl, rfl, rfl⟩ rfl rfl rfl rfl rfl (by kernel_rfl) Tryd.func7 (by kernel_rfl)
    (of_decide_eq_true (by kernel_rfl)) (by unfold Func.isWrapper; first | (rw [if_pos (by decide +kernel)]; kernel_rfl) | (rw [if_neg (by decide +kernel)]; exact ⟨rfl, rfl⟩))
    (fun os started H enc _ => lifted os started H enc)

theorem proved : Rows.RationHaulsCardSaid :=
  Claim7.holds_tied_plain_at .later [] [.data] true Rows.rationHaulsCard.stood.harness false
    said (fun _ h => by cases h) (by kernel_rfl) (fun _ h => by cases h) rationHauls_row_tie rfl ⟨rfl, rfl⟩ (by kernel_rfl) rfl
    (fun f fn hf hfn => by
      obtain rfl : f = 7 := Option.some.inj ((show Tryd.prog.funcNamed "apiary/apiarylaw18.RationHauls" = some 7 by kernel_rfl).symm.trans hf) |>.symm
      obtain rfl : fn = Tryd.f7 := (Option.some.inj (Tryd.func7.symm.trans hfn)).symm
      exact ⟨by kernel_rfl, fun j t ht => by
        rw [Tryd.params7] at ht
        have hm : t ∈ [9, 3] := by simpa using Array.mem_of_getElem? ht
        have hall : ([9, 3].all fun u => !Tryd.prog.wantsStandIn u) = true := by kernel_rfl
        exact (show Tryd.prog.wantsStandIn t = false by simpa using List.all_eq_true.1 hall t hm)⟩)
    (by kernel_rfl)
end RationHaulsLaw
end Go.Proofs.YtfbjbhddapoopaaDoor
