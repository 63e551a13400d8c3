/-
  HaulComes: from a node that answers a blob comes, whichever tick's frames are lost. No condition: every input.
-/
import Derived.Test.YtokdnfhglckpkaaDoorHaV
import Derived.Test.YtokdnfhglckpkaaDoorRowB
import Derived.Test.YtokdnfhglckpkaaDoorCards
import Derived.Test.YtokdnfhglckpkaaDoorTie
set_option linter.unusedVariables false
set_option linter.unusedSimpArgs false
namespace Go.Proofs.YtokdnfhglckpkaaDoor
open Go.RowKit
attribute [local go_sem] Lb.ba_get Lb.ba_cut Lb.ba_add Lb.ba_size Lb.take_rest

section
open Go.ChangeShapes Go.WideShapes Go.Deep
variable {H : Type} {enc : TypeId × Value → H} {w : World} {base : Nat} {held : Bool}
set_option maxRecDepth 100000 in
/-- an argument of type [14]bool -/
theorem open_bools14 {v : Value} {d : DataW H} {ps : List MemPlace} {r : Reach} {b0 : Nat} (hv : Value.okWide Tryd.prog w r b0 78 v) (h : DataW.Trod enc Tryd.prog w base (fun _ => true) held 78 v d ps) :
    ∃ bs : List Bool, v = .agg (bs.map Value.bool).toArray ∧ bs.length = 14 := by
  have ht : Tryd.prog.underlying 78 = some (.array 14 4) := by kernel_rfl
  have hc : Tryd.prog.cellsOf 78 = 14 := by kernel_rfl
  have hb : Tryd.prog.underlying 4 = some .bool := by kernel_rfl
  obtain ⟨cs0, rfl⟩ := okWide_array' ht hv
  obtain ⟨fuel, hf⟩ := h
  have hf : DataW.trod enc Tryd.prog w base (fun _ => true) held fuel 78 cs0.toList = some (d, ps) := hf
  obtain ⟨cs, hcs⟩ : ∃ cs, cs = cs0.toList := ⟨_, rfl⟩
  rw [← hcs] at hf
  obtain ⟨xs, m, rfl, hx, hlen, hn, hel⟩ := DataW.trod_array ht hf
  have c1 : Tryd.prog.cellsOf 4 = 1 := by kernel_rfl
  rw [hc] at hlen
  rw [c1] at hel
  have key : ∀ i (hi : i < cs.length), ∃ b : Bool, cs[i] = .bool b := by
    intro i hi
    have hxi : i < xs.length := by omega
    have h1 := hel i (by omega)
    rw [List.getElem?_eq_getElem hxi, Nat.mul_one] at h1
    obtain ⟨k, e1, _⟩ := DataW.trod_bool hb h1
    have h2 := congrArg (fun l => l[0]?) e1
    simp only [List.getElem?_take, List.getElem?_drop] at h2
    have h3 : cs[i]? = some (.bool k) := by simpa using h2
    rw [List.getElem?_eq_getElem hi] at h3
    exact ⟨k, Option.some.inj h3⟩
  have e2 : ∀ cs : List Value, (∀ i (hi : i < cs.length), ∃ b : Bool, cs[i] = .bool b) → ∃ bs : List Bool, cs = bs.map Value.bool := by
    intro cs
    induction cs with
    | nil => intro _; exact ⟨[], rfl⟩
    | cons c cs ih =>
      intro hk
      obtain ⟨bs, hbs⟩ := ih (fun i hi => by have := hk (i + 1) (by simp; omega); simpa using this)
      obtain ⟨b, hb⟩ := hk 0 (by simp)
      simp only [List.getElem_cons_zero] at hb
      exact ⟨b :: bs, by rw [hb, hbs]; rfl⟩
  obtain ⟨bs, hbs⟩ := e2 cs key
  refine ⟨bs, ?_, ?_⟩
  · have : cs0 = (bs.map Value.bool).toArray := by apply Array.ext'; rw [← hcs, hbs]
    rw [this]
  · have := congrArg List.length hbs
    rw [List.length_map] at this
    omega
end
theorem sent_mem {w : World} {b : Nat} {pe : Int} {out : List UInt8} {x : Int} {T : TypeId} {z : Nat × Nat} (ho : out.length = 32) (h : w.heap[b]? = some (.cells (sentRow pe (askFr out x)) T z)) :
    w.cell? ⟨b, 0, none⟩ = some (.int .i64 pe) ∧ w.cell? ⟨b, 1, none⟩ = some (.int .i64 6) ∧ w.cell? ⟨b, 135, none⟩ = some (.int .i64 x) ∧ w.rangeAt b 103 (byV out) := by
  obtain ⟨a0, a1, a2, a3, a4, a5⟩ := fr_at (askFr_fit out x ho)
  have sc : ∀ k u, (askFr out x).cells[k]? = some u → (sentRow pe (askFr out x))[k + 1]? = some u := fun k u hu => by unfold sentRow sentCells; rw [List.getElem?_toArray, List.getElem?_cons_succ]; exact hu
  refine ⟨by rw [Lib.cell_of_heap h]; rfl, by rw [Lib.cell_of_heap h]; exact sc 0 _ a0, by rw [Lib.cell_of_heap h]; exact sc 134 _ a2, fun k u hu => ?_⟩
  rw [Lib.cell_of_heap h]
  have := sc (102 + k) u (a4 k u hu)
  have e : 103 + k = 102 + k + 1 := by omega
  rw [e]; exact this
theorem QueAt.head {w : World} {g off cap : Nat} {pe : Int} {out : List UInt8} {x : Int} {ats : List Int} (ho : out.length = 32) (h : QueAt w g off cap (asksCells pe out (x :: ats)) (x :: ats).length) : w.rangeAt g off (sentCells pe (askFr out x)) := fun k u hu => by
  refine h.holds k u ?_
  show (sentCells pe (askFr out x) ++ asksCells pe out ats)[k]? = _
  rw [List.getElem?_append_left (List.getElem?_eq_some_iff.1 hu).1]; exact hu
/-- the queue behind its head, as l[1:] has it -/
theorem que_tail {w : World} {g off cap : Nat} {pe : Int} {out : List UInt8} {x : Int} {ats : List Int} (ho : out.length = 32) (h : QueAt w g off cap (asksCells pe out (x :: ats)) (x :: ats).length) :
    Que w (.slice (some (if cap = 1 then ⟨g, off, none⟩ else ⟨g, off + 238, none⟩)) ats.length (cap - 1)) pe out ats := by
  have ht := h.tail ho
  by_cases hc : cap = 1
  · rw [if_pos hc]
    have h0 : ats = [] := by
      have := h.le
      simp only [List.length_cons] at this
      exact List.eq_nil_of_length_eq_zero (by omega)
    subst h0
    refine .inr ⟨g, off, cap - 1, rfl, ⟨Nat.zero_le _, ht.max, h.lt, rfl, fun j u hu => by simp [asksCells] at hu, fun j hj => by subst hc; simp at hj⟩⟩
  · rw [if_neg hc]
    exact .inr ⟨g, off + 238, cap - 1, rfl, ht⟩

/-- what the law's loops lean on -/
structure Run (l : List UInt8) (w1 w : World) (S : List Nat) (p : Nat) (d : HlD) : Prop where
  at_ : HlAt w S p d
  own : Hl.Own KK l d
  peer : d.peer = 3
  s1 : ∀ k ∈ S, w1.heap.size ≤ k
  old : Below w1.heap.size w1 w
theorem Run.below {l : List UInt8} {w1 w w' : World} {S : List Nat} {p : Nat} {d : HlD} (h : Run l w1 w S p d) (hb : Below w.heap.size w w') : Run l w1 w' S p d :=
  ⟨h.at_.below hb, h.own, h.peer, h.s1, h.old.trans (hb.mono h.old.size)⟩
/-- the queue and the fetch, each by itself -/
structure Line (l : List UInt8) (w1 w : World) (v : Value) (q : List Int) (S : List Nat) : Prop where
  que : Que w v 3 (hashB KK l) q
  dis : ∀ k ∈ blkV v, k ∉ S
  lo : ∀ k ∈ blkV v, w1.heap.size ≤ k
theorem blkV_apart {v : Value} {S : List Nat} (h : ∀ k ∈ blkV v, k ∉ S) : Apart v S := fun a n c e => by subst e; exact h _ (by simp [blkV])
theorem apart_blkV {v : Value} {S : List Nat} (h : Apart v S) : ∀ k ∈ blkV v, k ∉ S := fun k hk => by
  unfold blkV at hk
  split at hk
  · simp only [List.mem_singleton] at hk; subst hk; exact h _ _ _ rfl
  · cases hk
theorem Line.below {l : List UInt8} {w1 w w' : World} {v : Value} {q : List Int} {S : List Nat} (h : Line l w1 w v q S) (hb : Below w.heap.size w w') : Line l w1 w' v q S := ⟨h.que.below hb, h.dis, h.lo⟩
theorem que_lt {w : World} {v : Value} {pe : Int} {out : List UInt8} {ats : List Int} (h : Que w v pe out ats) : ∀ k ∈ blkV v, k < w.heap.size := fun k hk => by
  rcases h with ⟨rfl, -⟩ | ⟨g, off, cap, rfl, hq⟩
  · simp [blkV] at hk
  · simp [blkV] at hk; subst hk; exact hq.lt
theorem asks_lo {w : World} {B : Nat} {v : Value} {pe : Int} {out : List UInt8} {ats : List Int} (h : Asks w B v pe out ats) : ∀ k ∈ blkV v, B ≤ k := fun k hk => by
  rcases h with ⟨rfl, -⟩ | ⟨g, cap, rfl, hg, -⟩
  · simp [blkV] at hk
  · simp [blkV] at hk; subst hk; exact hg
/-- a call of the fetch: the fetch goes on, the queue stays, what is sent lies apart from both -/
theorem line_act {l : List UInt8} {w1 w w' : World} {v : Value} {q : List Int} {S : List Nat} {p : Nat} {d d' : HlD} {ats : List Int} {e : Ending} (hr : Run l w1 w S p d) (hl : Line l w1 w v q S) (hown : Hl.Own KK l d') (hp : d'.peer = 3) (k : ActPost w S p 3 (hashB KK l) ats d' e w') :
    ∃ u S', e = .returned u ∧ Asks w' w.heap.size u 3 (hashB KK l) ats ∧ Run l w1 w' S' p d' ∧ Line l w1 w' v q S' ∧ (∀ k ∈ blkV u, k ∉ S') := by
  obtain ⟨u, S', rfl, hA, hH, hO, hS, hap⟩ := k
  refine ⟨u, S', rfl, hA, ⟨hH, hown, hp, fun x hx => ?_, hr.old.trans (hO.below hr.old.size hr.s1)⟩, ⟨hl.que.apart hO (blkV_apart hl.dis), fun x hx hxS => ?_, hl.lo⟩, apart_blkV hap⟩
  · rcases hS x hx with h | h
    · exact hr.s1 x h
    · exact Nat.le_trans hr.old.size h
  · rcases hS x hxS with h | h
    · exact hl.dis x hx h
    · have := que_lt hl.que x hx; omega
/-- an append onto the queue -/
theorem line_push {l : List UInt8} {w1 w w' : World} {v v' : Value} {q q' : List Int} {S : List Nat} {p : Nat} {d : HlD} (hr : Run l w1 w S p d) (hl : Line l w1 w v q S) (hq : Que w' v' 3 (hashB KK l) q') (ho : Only (blkV v) w w') (hb : ∀ k ∈ blkV v', k ∈ blkV v ∨ w.heap.size ≤ k) :
    Run l w1 w' S p d ∧ Line l w1 w' v' q' S := by
  refine ⟨⟨hr.at_.only ho (fun x hx hx2 => hl.dis x hx2 hx), hr.own, hr.peer, hr.s1, hr.old.trans (ho.below hr.old.size hl.lo)⟩, hq, fun x hx hxS => ?_, fun x hx => ?_⟩
  · rcases hb x hx with h | h
    · exact hl.dis x h hxS
    · have := hr.at_.lt x hxS; omega
  · rcases hb x hx with h | h
    · exact hl.lo x h
    · exact Nat.le_trans hr.old.size h

/-- a frame that is heard: the fetch goes on, the queue stays -/
theorem hear_line {l : List UInt8} {w1 w : World} {v : Value} {q : List Int} {S : List Nat} {p : Nat} {d : HlD} {a : HlD × List Int} {f : FrD} (h1 : 0 < w1.heap.size) (hr : Run l w1 w S p d) (hl : Line l w1 w v q S) (hf : f.Ok w) (hL : Laid KK w) (g : Hl.Goes KK l (hearOf KK d f) a) :
    Calls Tryd.prog 40 #[.pointer (some ⟨p, 0, none⟩), .agg f.row] w fun e w' => ∃ u S' d', e = .returned u ∧ Asks w' w.heap.size u 3 (hashB KK l) a.2 ∧ Run l w1 w' S' p d' ∧ Line l w1 w' v q S' ∧ (∀ k ∈ blkV u, k ∉ S') ∧ Hl.strip d' = a.1 := by
  refine (hear_any KK p S d f w hr.at_ hf hL (fun h0 => by have := hr.s1 0 h0; omega)).mono ?_
  intro e w' hact
  unfold HearPost at hact
  rw [hr.peer, hr.own.out] at hact
  obtain ⟨u, S', he, hA, hR, hLn, hd⟩ := line_act hr hl g.own ((Hl.hear_peer KK d f).trans hr.peer) hact
  exact ⟨u, S', _, he, by rw [← g.ats]; exact hA, hR, hLn, hd, g.same⟩

set_option maxHeartbeats 8000000 in
set_option maxRecDepth 100000 in
theorem haulComes_core (l : List UInt8) (bs : List Bool) (w : World) (hL : Laid KK w) (hl : l.length ≤ 140737488351232) (hbs : bs.length = 14) :
    Calls Tryd.prog 11 #[.string ⟨l.toArray⟩, .agg (bs.map Value.bool).toArray] w fun e w' => e = .returned (.bool true) ∧ Below w.heap.size w w' := by
  have hq0 := heap_alloc_new w (.cells (bs.map Value.bool).toArray 78)
  have hB0 := (Below.refl w.heap.size w).alloc (Nat.le_refl _) (.cells (bs.map Value.bool).toArray 78)
  obtain ⟨q0, hq0'⟩ : ∃ q, q = w.heap.size := ⟨_, rfl⟩
  obtain ⟨w0, hw0⟩ : ∃ z, z = w.alloc (.cells (bs.map Value.bool).toArray 78) := ⟨_, rfl⟩
  go_enter Tryd.func11, Tryd.ntmps11
  go_upto_region 1 with fail
  rw [← hw0] at hq0 hB0 ⊢
  rw [← hq0'] at hq0 ⊢
  have HL0 := Lib.hid (hL.below hB0)
  have Hq0 := Lib.hid hq0
  have HB0 := Lib.hid hB0
  have Hbs := Lib.hid hbs
  clear hw0 hq0 hB0 hq0' hL hbs
  go_wp2_with fail
  refine (awake17_any KK w0 HL0.out).mono ?_
  rintro e w2 ⟨rfl, hB2⟩
  have HB2 := Lib.hid hB2
  clear hB2
  by_cases hl5 : 512 < l.length
  · have i1 : (512 : Int) < (l.length : Int) := by omega
    go_wp2_with fail
    go_ret
    exact ⟨rfl, HB0.out.trans (HB2.out.mono HB0.out.size)⟩
  have i1 : ¬ (512 : Int) < (l.length : Int) := by omega
  have Hl5 := Lib.hid hl5
  clear hl5 hl
  have HL2 := Lib.hid (HL0.out.below HB2.out)
  go_wp2_with fail
  refine (mani_any KK l w2 HL2.out (by have := Hl5.out; omega)).mono ?_
  rintro e w5 ⟨mm, rfl, hok, h1, h2, h3, hB5⟩
  have hmw := hok.whole
  have hms : mm.row.size = 34 := mm.row_size hmw
  have mone := mm.row_one
  have m33 := mm.at33 hmw
  obtain ⟨R, hR⟩ : ∃ R, R = mm.row := ⟨_, rfl⟩
  rw [← hR] at hms mone m33 ⊢
  have minf : (Tryd.prog.info? 27).map (·.size) = some R.size := by rw [hms]; exact mani_info
  have HB5 := Lib.hid (HB2.out.trans (hB5.mono HB2.out.size))
  have HR := Lib.hid hR
  have Hwx := Lib.hid h1
  have hnp : mm.parts.length = (chunks l).length := by rw [h3, List.length_map]
  obtain ⟨n, hn⟩ : ∃ n, n = (chunks l).length := ⟨_, rfl⟩
  have hn8 : n ≤ 8 := by rw [hn, chunks_length]; have := Hl5.out; omega
  rw [hnp, ← hn] at m33
  have Hn := Lib.hid hn
  clear hok h1 h2 h3 hB5 hR hnp hn
  go_upto_region 6 with (refine wpList_store_row rfl 27 _ _ rfl w5.heap.size R rfl rfl 27 _ (heap_alloc_new w5 _) minf (by rw [hms]; rfl) mone ?_)
  show Code.wp _ _ _ _ ((w5.alloc (.cells zeroMani.row 27)).setRow w5.heap.size R)
  have hq := setRow_heap _ _ _ R _ _ (heap_alloc_new w5 (.cells zeroMani.row 27))
  have hB6 : Below w5.heap.size w5 ((w5.alloc (.cells zeroMani.row 27)).setRow w5.heap.size R) := (Only.below (((Only.refl [w5.heap.size] w5).alloc _).setRow (by simp) _) (Nat.le_refl _) (by simp))
  obtain ⟨q, hq'⟩ : ∃ q, q = w5.heap.size := ⟨_, rfl⟩
  obtain ⟨w6, hw6⟩ : ∃ z, z = ((w5.alloc (.cells zeroMani.row 27)).setRow w5.heap.size R) := ⟨_, rfl⟩
  rw [← hw6] at hq hB6 ⊢
  rw [← hq'] at hq ⊢
  have HB6 := Lib.hid (HB5.out.trans (hB6.mono HB5.out.size))
  have rw0 := rangeW_of_mani hmw (by rw [← HR.out]; exact hq)
  have c33 : w6.cell? ⟨q, 33, none⟩ = some (.slice mm.A n mm.cap) := by rw [Lib.cell_of_heap hq]; exact m33
  have Hq := Lib.hid hq
  have dund := Tryd.underlying24
  have hnew := Lib.hid (hnew_any mm.whole 3 w6 hmw (by decide) (by decide))
  have hwh : digV mm.whole = (byV mm.whole).toArray := rfl
  rw [hwh, Hwx.out] at hnew
  rw [Hwx.out] at rw0
  have ho32 : (hashB KK l).length = 32 := hashB_length KK l
  obtain ⟨out, hout⟩ : ∃ z, z = hashB KK l := ⟨_, rfl⟩
  rw [← hout] at hnew rw0 ho32
  have dix : (Tryd.prog.info? 24).map (·.size) = some (byV out).length := by rw [dig_info, byV_length, ho32]
  have Hout := Lib.hid hout
  have HO := Lib.hid ho32
  clear hw6 hq hB6 hq' hwh hmw m33 hms mone minf hout ho32
  go_wp2_with (refine wpList_load_mid rfl 24 _ rfl q 0 rfl (byV out) _ rw0 dund rfl dix ?_)
  refine hnew.out.mono ?_
  rintro e w7 ⟨p, rfl, hp, hat, hB7⟩
  have HR0 : Hid (Run l w6 w7 [p] p (Hl.new out 3)) := Lib.hid ⟨hat, by rw [Hout.out]; exact Hl.own_new KK l 3, rfl, by intro k hk; simp at hk; subst hk; exact hp, hB7⟩
  have lq6 : q < w6.heap.size := heap_lt Hq.out
  have lq06 : q0 < w6.heap.size := Nat.lt_of_lt_of_le (heap_lt Hq0.out) HB6.out.size
  have r0 : ∀ i (h : i < 14), w7.cell? ⟨q0, i, none⟩ = some (.bool (bs[i]'(by rw [Hbs.out]; exact h))) := fun i h => by
    rw [Lib.cell_of_heap (below_keep hB7 (below_keep HB6.out Hq0.out))]
    simp [Hbs.out, h]
  have HR7 := Lib.hid r0
  clear hat hB7 hp hnew r0
  go_wp2_with fail
  go_loop [8, 9] (fun o i => ∃ (k : Nat) (x : Int), k ≤ 14 ∧ i = .int .i64 k ∧ o = .int .i64 x ∧ -1 ≤ x ∧ x ≤ 13) (fun _ i => 14 - (intOf i).toNat)
  case atStart => exact ⟨0, -1, by omega, rfl, rfl, by omega, by omega⟩
  case round =>
    obtain ⟨k, x, hk, rfl, rfl, xlo, xhi⟩ := hrel
    by_cases hk14 : k < 14
    · have j1 : (k : Int) < 14 := by omega
      have c := HR7.out k hk14
      obtain ⟨b, hb⟩ : ∃ b, b = bs[k]'(by rw [Hbs.out]; exact hk14) := ⟨_, rfl⟩
      rw [← hb] at c
      clear hb
      cases b
      · go_wp2_with fail
        go_round
        case rel => exact ⟨k + 1, x, by omega, by go_num, rfl, xlo, xhi⟩
        case measure => simp [intOf]; omega
      · go_wp2_with fail
        go_round
        case rel => exact ⟨k + 1, (k : Int), by omega, by go_num, rfl, by omega, by omega⟩
        case measure => simp [intOf]; omega
    · have j1 : ¬ (k : Int) < 14 := by omega
      have hcomes := Lib.hid (Hl.comes n x hn8 xlo xhi)
      go_wp2_with fail
      go_loopw [10] (fun i wr => ∃ (j : Nat) (d : HlD) (S : List Nat), j ≤ 14 ∧ i = .int .i64 j ∧ Hl.strip d = Hl.aAt n x j ∧ Run l w6 wr S p d) (fun i _ => 14 - (intOf i).toNat)
      case atStart => exact ⟨0, _, _, by omega, rfl, rfl, HR0.out⟩
      case round =>
        obtain ⟨j, d, S, hj, rfl, hst, hrun⟩ := hrel
        have Hst := Lib.hid hst
        have HRun := Lib.hid hrun
        clear hst hrun HR0
        by_cases hj14 : j < 14
        · have j2 : (j : Int) < 14 := by omega
          have hT := tick_any p S d wr HRun.out.at_
          rw [HRun.out.peer, HRun.out.own.out] at hT
          have hT := Lib.hid hT
          go_wp2_with fail
          refine hT.out.mono ?_
          rintro e w8 hact
          have hl0 : Line l w6 wr (.slice none 0 0) [] S := ⟨.inl ⟨rfl, rfl⟩, by intro k hk; simp [blkV] at hk, by intro k hk; simp [blkV] at hk⟩
          have hpeer : (Hl.tick d).1.peer = 3 := (Hl.tick_peer d).trans HRun.out.peer
          obtain ⟨v, S2, rfl, hA, hR2, -, hdis⟩ := line_act HRun.out hl0 (Hl.own_tick HRun.out.own) hpeer hact
          have hL2 : Line l w6 w8 v (Hl.tick d).2 S2 := ⟨Que.of_asks hA, hdis, fun k hk => Nat.le_trans HRun.out.old.size (asks_lo hA k hk)⟩
          have htk := Hl.tick_strip d
          rw [Hst.out] at htk
          have hin : Hl.inner n ((j : Int) == x) 60 (Hl.strip (Hl.tick d).1) (Hl.tick d).2 = Hl.aAt n x (j + 1) := by
            show _ = Hl.inner n ((j : Int) == x) 60 (Hl.tick (Hl.aAt n x j)).1 (Hl.tick (Hl.aAt n x j)).2
            rw [htk]
          have hrange : ∀ y ∈ (Hl.tick d).2, -1 ≤ y ∧ y < n := Hl.tick_in (by rw [Hn.out]; exact HRun.out.own.cks_le HRun.out.at_.ok)
          have hlen16 := Hl.tick_two d HRun.out.at_.ok
          obtain ⟨d2, hd2⟩ : ∃ z, z = (Hl.tick d).1 := ⟨_, rfl⟩
          obtain ⟨qq, hqq⟩ : ∃ z, z = (Hl.tick d).2 := ⟨_, rfl⟩
          rw [← hd2] at hR2 hin
          rw [← hqq] at hL2 hin hrange hlen16
          have HR2 := Lib.hid hR2
          have HL2' := Lib.hid hL2
          have Hin := Lib.hid hin
          have Hrg := Lib.hid hrange
          obtain ⟨lost, hlost⟩ : ∃ z, z = ((j : Int) == x) := ⟨_, rfl⟩
          rw [← hlost] at Hin
          have Hlost := Lib.hid hlost
          clear hact hl0 hpeer hA hR2 hdis hL2 htk hin hrange hd2 hqq hT hlost
          go_wp2_with fail
          go_loopw [11, 12] (fun v kk wx => ∃ (i : Nat) (qs : List Int) (d' : HlD) (S' : List Nat), i ≤ 60 ∧ kk = .int .i64 i ∧ Run l w6 wx S' p d' ∧ Line l w6 wx v qs S' ∧ Hl.inner n lost (60 - i) (Hl.strip d') qs = Hl.aAt n x (j + 1) ∧ (∀ y ∈ qs, -1 ≤ y ∧ y < n) ∧ qs.length ≤ 16 + 2 * i) (fun _ kk _ => 60 - (intOf kk).toNat)
          case atStart => exact ⟨0, qq, d2, S2, by omega, rfl, HR2.out, HL2'.out, Hin.out, Hrg.out, by omega⟩
          case round =>
            obtain ⟨i, qs, d', S', hi, rfl, hrun, hline, hinn, hrg, hql⟩ := hrel
            have HRun' := Lib.hid hrun
            have HInn := Lib.hid hinn
            clear hrun hinn HRun HR2 HL2' Hin Hrg Hst
            by_cases hi60 : i < 60
            · have i60 : (i : Int) < 60 := by omega
              cases qs with
              | nil =>
                have hsn : Hid (Hl.strip d' = Hl.aAt n x (j + 1)) := Lib.hid (by rw [← HInn.out, Hl.inner_nil])
                have hv : ∃ A c, u11 = Value.slice A 0 c := by
                  rcases hline.que with ⟨h, -⟩ | ⟨g, off, cap, h, -⟩
                  · exact ⟨_, _, h⟩
                  · exact ⟨_, _, h⟩
                obtain ⟨A9, c9, rfl⟩ := hv
                clear hline hrg
                go_wp2_with fail
                go_roundw
                case rel => exact ⟨j + 1, d', S', by omega, by go_num, hsn.out, HRun'.out⟩
                case measure => simp [intOf]; omega
              | cons y ys =>
                have HLine := Lib.hid hline
                have Hrg2 := Lib.hid hrg
                obtain ⟨g, off, cap, hv, hqa⟩ : ∃ g off cap, _ = Value.slice (some ⟨g, off, none⟩) (ys.length + 1) cap ∧ QueAt wr g off cap (asksCells 3 (hashB KK l) (y :: ys)) (y :: ys).length := by
                  rcases hline.que with ⟨-, h⟩ | ⟨g, off, cap, h, hqa⟩
                  · cases h
                  · exact ⟨g, off, cap, h, hqa⟩
                rw [← Hout.out] at hqa
                have hrs := hqa.head HO.out
                have htl := que_tail HO.out hqa
                have hcp := hqa.le
                simp only [List.length_cons] at hcp
                have hcm := hqa.max
                unfold maxLen at hcm
                have hfit := askFr_fit out y HO.out
                have hsl := sent_len 3 hfit
                have sdix : (Tryd.prog.info? 70).map (·.size) = some (sentCells 3 (askFr out y)).length := by rw [sent_info, hsl]
                have sdixA : (Tryd.prog.info? 70).map (·.size) = some (sentCells 3 (askFr out y)).toArray.size := by rw [sdix]; simp
                have sone : (sentCells 3 (askFr out y)).toArray.all (·.oneCell') = true := sent_one 3 hfit
                have ssz : (sentCells 3 (askFr out y)).toArray.size = 238 := by simp [hsl]
                have hzs : Tryd.zeroCells70.size = 238 := by rw [zero_sent, sentRow_size 0 zeroFr_fit]
                have sund := Tryd.underlying70
                have hsr : (sentCells 3 (askFr out y)).toArray = sentRow 3 (askFr out y) := rfl
                have Hsr := Lib.hid hsr
                obtain ⟨sc, hsc⟩ : ∃ z, z = sentCells 3 (askFr out y) := ⟨_, rfl⟩
                rw [← hsc] at hrs sdix sdixA sone ssz Hsr
                obtain ⟨m, hm⟩ : ∃ m, m = ys.length := ⟨_, rfl⟩
                rw [← hm] at hv hcp htl
                have Hm := Lib.hid hm
                subst hv
                have Htl := Lib.hid htl
                clear hline hrg hqa hsl hfit hsr hsc htl hm
                by_cases hc1 : cap = 1
                · subst hc1
                  obtain rfl : m = 0 := by omega
                  go_upto_region 24 with (first
                    | (refine wpList_load_mid rfl 70 _ rfl g off rfl sc _ hrs sund rfl sdix ?_)
                    | (refine wpList_store_row rfl 70 _ _ rfl wr.heap.size sc.toArray rfl rfl 70 _ (heap_alloc_new wr _) sdixA (by rw [ssz, hzs]) sone ?_))
                  have hq9 := setRow_heap _ _ _ sc.toArray _ _ (heap_alloc_new wr (.cells Tryd.zeroCells70 70))
                  have hB9 : Below wr.heap.size wr ((wr.alloc (.cells Tryd.zeroCells70 70)).setRow wr.heap.size sc.toArray) := (Only.below (((Only.refl [wr.heap.size] wr).alloc _).setRow (by simp) _) (Nat.le_refl _) (by simp))
                  obtain ⟨fb, hfb⟩ : ∃ z, z = wr.heap.size := ⟨_, rfl⟩
                  obtain ⟨w9, hw9⟩ : ∃ z, z = ((wr.alloc (.cells Tryd.zeroCells70 70)).setRow wr.heap.size sc.toArray) := ⟨_, rfl⟩
                  rw [← hw9] at hq9 hB9 ⊢
                  rw [← hfb] at hq9 ⊢
                  rw [Hsr.out] at hq9
                  obtain ⟨t0, t1, t135, t103⟩ := sent_mem HO.out hq9
                  have HRun9 := Lib.hid (HRun'.out.below hB9)
                  obtain ⟨v', hv'⟩ : ∃ z, z = (Value.slice (some ⟨g, off, none⟩) 0 0) := ⟨_, rfl⟩
                  have hline9 : Line l w6 w9 v' ys S' := ⟨by rw [hv', ← Hout.out]; have h := Htl.out.below hB9; rw [if_pos rfl] at h; simpa [← Hm.out] using h, by rw [hv']; exact HLine.out.dis, by rw [hv']; exact HLine.out.lo⟩
                  have HLine9 := Lib.hid hline9
                  have rq9 : w9.rangeAt q 0 (byV out) := range_below rw0 (HRun'.out.old.trans (hB9.mono HRun'.out.old.size)) lq6
                  have q33 : w9.cell? ⟨q, 33, none⟩ = some (.slice mm.A n mm.cap) := ((HRun'.out.old.trans (hB9.mono HRun'.out.old.size)).cell (p := ⟨q, 33, none⟩) lq6).trans c33
                  have heq : ∀ W : World, (Op.equalIn 10000 24 (.agg (byV out).toArray) (.agg (byV out).toArray)).run Tryd.prog W = .ok true W := fun W => by
                    have h := eqIn_dig W out out HO.out HO.out
                    rw [show (out == out) = true by simp] at h; exact h
                  have ylo : ¬ y < -1 := by have := Hrg2.out y (by simp); omega
                  have yhi : ¬ (n : Int) ≤ y := by have := Hrg2.out y (by simp); omega
                  have ymax : y ≤ 8 := by omega
                  rw [show (Value.slice (some ⟨g, off, none⟩) 0 0) = v' from hv'.symm]
                  have Hv' := Lib.hid hv'
                  clear hq9 hB9 hfb hw9 hline9 hrs sdix sdixA sone ssz hzs hv'
                  cases lost with
                  | true =>
                    have ejx : ((j : Int) == x) = true := Hlost.out.symm
                    have hinn2 : Hid (Hl.inner n true (60 - (i + 1)) (Hl.strip d') ys = Hl.aAt n x (j + 1)) := Lib.hid (by
                      have h := HInn.out
                      rw [show 60 - i = (60 - (i + 1)) + 1 by omega, Hl.inner_cons, if_pos rfl] at h
                      exact h)
                    go_wp2_with (first
                      | (refine wpList_load_midG (by rfl) 24 _ rfl fb 103 rfl (byV out) _ t103 dund rfl dix ?_)
                      | (refine wpList_load_midG (by rfl) 24 _ rfl q 0 rfl (byV out) _ rq9 dund rfl dix ?_))
                    go_roundw
                    case rel => exact ⟨i + 1, ys, d', S', by omega, by go_num, HRun9.out, HLine9.out, hinn2.out, (fun z hz => Hrg2.out z (by simp [hz])), by simp only [List.length_cons] at hql; omega⟩
                    case measure => simp [intOf]; omega
                  | false =>
                    have ejx : ((j : Int) == x) = false := Hlost.out.symm
                    have hown := HRun9.out.own
                    have HL9 := Lib.hid (HL0.out.below (HB6.out.trans (HRun9.out.old.mono HB6.out.size)))
                    have hl512 : l.length ≤ 512 := by have := Hl5.out; omega
                    have hpe := HRun9.out.peer
                    have hcks := HRun9.out.own.cks_le HRun9.out.at_.ok
                    rw [← Hn.out] at hcks
                    have hscl : (Hl.strip d').cks.length ≤ n := by show (List.map Hl.bare d'.cks).length ≤ n; rw [List.length_map]; exact hcks
                    by_cases hy0 : y < 0
                    · have hma := Lib.hid (mani17_any KK 3 l w9 HL9.out hl512)
                      go_wp2_with (first
                        | (refine wpList_load_midG (by rfl) 24 _ rfl fb 103 rfl (byV out) _ t103 dund rfl dix ?_)
                        | (refine wpList_load_midG (by rfl) 24 _ rfl q 0 rfl (byV out) _ rq9 dund rfl dix ?_))
                      refine hma.out.mono ?_
                      rintro e w10 ⟨m2, rfl, hm2, hok2, hB10⟩
                      have HRun10 := Lib.hid (HRun9.out.below hB10)
                      have HLine10 := Lib.hid (HLine9.out.below hB10)
                      have HL10 := Lib.hid (HL9.out.below hB10)
                      have hfok := maniFr_ok 3 hok2
                      have hgo := Hl.own_mani hl512 hm2 HRun9.out.own
                      rw [hpe, ← Hn.out] at hgo
                      have hinn2 : Hl.inner n false (60 - (i + 1)) (Hl.abMani n (Hl.strip d')).1 (ys ++ (Hl.abMani n (Hl.strip d')).2) = Hl.aAt n x (j + 1) := by
                        have h := HInn.out
                        rw [show 60 - i = (60 - (i + 1)) + 1 by omega, Hl.inner_cons, if_neg (by decide), if_pos hy0] at h
                        exact h
                      clear hm2 hok2 hma
                      have Hgo := Lib.hid hgo
                      have HinnN := Lib.hid hinn2
                      have hh := Lib.hid (hear_line (by omega) HRun10.out HLine10.out hfok HL10.out hgo)
                      clear hgo hfok hB10 HRun9 HLine9 hinn2
                      go_wp2_with fail
                      refine hh.out.mono ?_
                      rintro e w11 ⟨u2, S2, d2, rfl, hA, hR, hLn, hdis, hst2⟩
                      have HR11 := Lib.hid hR
                      have HL11 := Lib.hid hLn
                      have HA := Lib.hid hA
                      have Hst2 := Lib.hid hst2
                      have hle2 : (Hl.abMani n (Hl.strip d')).2.length ≤ 2 := by rw [← Hgo.out.ats]; exact Hl.hear_two KK d' _
                      have HQ := Lib.hid HL11.out.que
                      have hlq : ys.length + (Hl.abMani n (Hl.strip d')).2.length ≤ 1000 := by simp only [List.length_cons] at hql; omega
                      have hin2 : ∀ z ∈ ys ++ (Hl.abMani n (Hl.strip d')).2, -1 ≤ z ∧ z < n := fun z hz => by
                        rcases List.mem_append.1 hz with hz | hz
                        · exact Hrg2.out z (by simp [hz])
                        · exact Hl.abMani_in _ n z hz
                      have Hin2 := Lib.hid hin2
                      clear hA hR hLn hdis hst2 hh Hgo HRun10 HLine10 hin2
                      go_wp2_with (refine wpList_append_que _ rfl _ _ rfl (hashB_length KK l) rfl HQ.out rfl HA.out hlq ?_)
                      intro v3 w12 hq3 ho3 hb3
                      obtain ⟨hR12, hL12⟩ := line_push HR11.out HL11.out hq3 ho3 hb3
                      have HR12 := Lib.hid hR12
                      have HL12 := Lib.hid hL12
                      clear hq3 ho3 hb3 hR12 hL12 HR11 HL11 HQ HA
                      go_wp2_with fail
                      go_roundw
                      case rel => exact ⟨i + 1, ys ++ (Hl.abMani n (Hl.strip d')).2, d2, S2, by omega, by go_num, HR12.out, HL12.out, by rw [Hst2.out]; exact HinnN.out, Hin2.out, by simp only [List.length_append, List.length_cons] at hql ⊢; omega⟩
                      case measure => simp [intOf]; omega
                    · have hy64 : -9223372036854775808 ≤ y ∧ y ≤ 9223372036854775807 := by omega
                      have hpa := Lib.hid (part17_any KK 3 l y w9 HL9.out hl512 hy64.1 hy64.2)
                      go_wp2_with (first
                        | (refine wpList_load_midG (by rfl) 24 _ rfl fb 103 rfl (byV out) _ t103 dund rfl dix ?_)
                        | (refine wpList_load_midG (by rfl) 24 _ rfl q 0 rfl (byV out) _ rq9 dund rfl dix ?_))
                      refine hpa.out.mono ?_
                      rintro e w10 ⟨f, rfl, hff, hB10⟩
                      have hfe : f = partFr 3 (hashB KK l) ((y.toNat : Nat) : Int) (chunk l y.toNat) := by
                        rcases hff with ⟨-, -, h⟩ | ⟨h, -⟩
                        · rw [h, Int.toNat_of_nonneg (by omega)]
                        · exact absurd ⟨by omega, by rw [← Hn.out]; omega⟩ h
                      have HRun10 := Lib.hid (HRun9.out.below hB10)
                      have HLine10 := Lib.hid (HLine9.out.below hB10)
                      have HL10 := Lib.hid (HL9.out.below hB10)
                      have hcl : (chunk l y.toNat).length ≤ 140737488355328 := by rw [chunk_length]; omega
                      have hfok : f.Ok w10 := by rw [hfe]; exact partFr_ok w10 3 (hashB KK l) y.toNat (chunk l y.toNat) (hashB_length KK l) (by omega) hcl
                      have hgo := Hl.own_part hl512 y.toNat (by rw [← Hn.out]; omega) HRun9.out.own
                      rw [hpe, ← hfe] at hgo
                      have hinn2 : Hl.inner n false (60 - (i + 1)) (Hl.abPart y.toNat (Hl.strip d')).1 (ys ++ (Hl.abPart y.toNat (Hl.strip d')).2) = Hl.aAt n x (j + 1) := by
                        have h := HInn.out
                        rw [show 60 - i = (60 - (i + 1)) + 1 by omega, Hl.inner_cons, if_neg (by decide), if_neg (by omega)] at h
                        exact h
                      clear hff hpa hcl hfe
                      have Hgo := Lib.hid hgo
                      have HinnN := Lib.hid hinn2
                      have hh := Lib.hid (hear_line (by omega) HRun10.out HLine10.out hfok HL10.out hgo)
                      clear hgo hfok hB10 HRun9 HLine9 hinn2
                      go_wp2_with fail
                      refine hh.out.mono ?_
                      rintro e w11 ⟨u2, S2, d2, rfl, hA, hR, hLn, hdis, hst2⟩
                      have HR11 := Lib.hid hR
                      have HL11 := Lib.hid hLn
                      have HA := Lib.hid hA
                      have Hst2 := Lib.hid hst2
                      have hle2 : (Hl.abPart y.toNat (Hl.strip d')).2.length ≤ 2 := by rw [← Hgo.out.ats]; exact Hl.hear_two KK d' _
                      have HQ := Lib.hid HL11.out.que
                      have hlq : ys.length + (Hl.abPart y.toNat (Hl.strip d')).2.length ≤ 1000 := by simp only [List.length_cons] at hql; omega
                      have hin2 : ∀ z ∈ ys ++ (Hl.abPart y.toNat (Hl.strip d')).2, -1 ≤ z ∧ z < n := fun z hz => by
                        rcases List.mem_append.1 hz with hz | hz
                        · exact Hrg2.out z (by simp [hz])
                        · exact Hl.abPart_in y.toNat _ n hscl z hz
                      have Hin2 := Lib.hid hin2
                      clear hA hR hLn hdis hst2 hh Hgo HRun10 HLine10 hin2
                      go_wp2_with (refine wpList_append_que _ rfl _ _ rfl (hashB_length KK l) rfl HQ.out rfl HA.out hlq ?_)
                      intro v3 w12 hq3 ho3 hb3
                      obtain ⟨hR12, hL12⟩ := line_push HR11.out HL11.out hq3 ho3 hb3
                      have HR12 := Lib.hid hR12
                      have HL12 := Lib.hid hL12
                      clear hq3 ho3 hb3 hR12 hL12 HR11 HL11 HQ HA
                      go_wp2_with fail
                      go_roundw
                      case rel => exact ⟨i + 1, ys ++ (Hl.abPart y.toNat (Hl.strip d')).2, d2, S2, by omega, by go_num, HR12.out, HL12.out, by rw [Hst2.out]; exact HinnN.out, Hin2.out, by simp only [List.length_append, List.length_cons] at hql ⊢; omega⟩
                      case measure => simp [intOf]; omega
                · go_upto_region 24 with (first
                    | (refine wpList_load_mid rfl 70 _ rfl g off rfl sc _ hrs sund rfl sdix ?_)
                    | (refine wpList_store_row rfl 70 _ _ rfl wr.heap.size sc.toArray rfl rfl 70 _ (heap_alloc_new wr _) sdixA (by rw [ssz, hzs]) sone ?_))
                  have hq9 := setRow_heap _ _ _ sc.toArray _ _ (heap_alloc_new wr (.cells Tryd.zeroCells70 70))
                  have hB9 : Below wr.heap.size wr ((wr.alloc (.cells Tryd.zeroCells70 70)).setRow wr.heap.size sc.toArray) := (Only.below (((Only.refl [wr.heap.size] wr).alloc _).setRow (by simp) _) (Nat.le_refl _) (by simp))
                  obtain ⟨fb, hfb⟩ : ∃ z, z = wr.heap.size := ⟨_, rfl⟩
                  obtain ⟨w9, hw9⟩ : ∃ z, z = ((wr.alloc (.cells Tryd.zeroCells70 70)).setRow wr.heap.size sc.toArray) := ⟨_, rfl⟩
                  rw [← hw9] at hq9 hB9 ⊢
                  rw [← hfb] at hq9 ⊢
                  rw [Hsr.out] at hq9
                  obtain ⟨t0, t1, t135, t103⟩ := sent_mem HO.out hq9
                  have HRun9 := Lib.hid (HRun'.out.below hB9)
                  obtain ⟨v', hv'⟩ : ∃ z, z = (Value.slice (some ⟨g, off + 238, none⟩) m (cap - 1)) := ⟨_, rfl⟩
                  have hline9 : Line l w6 w9 v' ys S' := ⟨by rw [hv', ← Hout.out]; have h := Htl.out.below hB9; rw [if_neg hc1] at h; simpa [← Hm.out] using h, by rw [hv']; exact HLine.out.dis, by rw [hv']; exact HLine.out.lo⟩
                  have HLine9 := Lib.hid hline9
                  have rq9 : w9.rangeAt q 0 (byV out) := range_below rw0 (HRun'.out.old.trans (hB9.mono HRun'.out.old.size)) lq6
                  have q33 : w9.cell? ⟨q, 33, none⟩ = some (.slice mm.A n mm.cap) := ((HRun'.out.old.trans (hB9.mono HRun'.out.old.size)).cell (p := ⟨q, 33, none⟩) lq6).trans c33
                  have heq : ∀ W : World, (Op.equalIn 10000 24 (.agg (byV out).toArray) (.agg (byV out).toArray)).run Tryd.prog W = .ok true W := fun W => by
                    have h := eqIn_dig W out out HO.out HO.out
                    rw [show (out == out) = true by simp] at h; exact h
                  have ylo : ¬ y < -1 := by have := Hrg2.out y (by simp); omega
                  have yhi : ¬ (n : Int) ≤ y := by have := Hrg2.out y (by simp); omega
                  have ymax : y ≤ 8 := by omega
                  rw [show (Value.slice (some ⟨g, off + 238, none⟩) m (cap - 1)) = v' from hv'.symm]
                  have Hv' := Lib.hid hv'
                  clear hq9 hB9 hfb hw9 hline9 hrs sdix sdixA sone ssz hzs hv'
                  cases lost with
                  | true =>
                    have ejx : ((j : Int) == x) = true := Hlost.out.symm
                    have hinn2 : Hid (Hl.inner n true (60 - (i + 1)) (Hl.strip d') ys = Hl.aAt n x (j + 1)) := Lib.hid (by
                      have h := HInn.out
                      rw [show 60 - i = (60 - (i + 1)) + 1 by omega, Hl.inner_cons, if_pos rfl] at h
                      exact h)
                    go_wp2_with (first
                      | (refine wpList_load_midG (by rfl) 24 _ rfl fb 103 rfl (byV out) _ t103 dund rfl dix ?_)
                      | (refine wpList_load_midG (by rfl) 24 _ rfl q 0 rfl (byV out) _ rq9 dund rfl dix ?_))
                    go_roundw
                    case rel => exact ⟨i + 1, ys, d', S', by omega, by go_num, HRun9.out, HLine9.out, hinn2.out, (fun z hz => Hrg2.out z (by simp [hz])), by simp only [List.length_cons] at hql; omega⟩
                    case measure => simp [intOf]; omega
                  | false =>
                    have ejx : ((j : Int) == x) = false := Hlost.out.symm
                    have hown := HRun9.out.own
                    have HL9 := Lib.hid (HL0.out.below (HB6.out.trans (HRun9.out.old.mono HB6.out.size)))
                    have hl512 : l.length ≤ 512 := by have := Hl5.out; omega
                    have hpe := HRun9.out.peer
                    have hcks := HRun9.out.own.cks_le HRun9.out.at_.ok
                    rw [← Hn.out] at hcks
                    have hscl : (Hl.strip d').cks.length ≤ n := by show (List.map Hl.bare d'.cks).length ≤ n; rw [List.length_map]; exact hcks
                    by_cases hy0 : y < 0
                    · have hma := Lib.hid (mani17_any KK 3 l w9 HL9.out hl512)
                      go_wp2_with (first
                        | (refine wpList_load_midG (by rfl) 24 _ rfl fb 103 rfl (byV out) _ t103 dund rfl dix ?_)
                        | (refine wpList_load_midG (by rfl) 24 _ rfl q 0 rfl (byV out) _ rq9 dund rfl dix ?_))
                      refine hma.out.mono ?_
                      rintro e w10 ⟨m2, rfl, hm2, hok2, hB10⟩
                      have HRun10 := Lib.hid (HRun9.out.below hB10)
                      have HLine10 := Lib.hid (HLine9.out.below hB10)
                      have HL10 := Lib.hid (HL9.out.below hB10)
                      have hfok := maniFr_ok 3 hok2
                      have hgo := Hl.own_mani hl512 hm2 HRun9.out.own
                      rw [hpe, ← Hn.out] at hgo
                      have hinn2 : Hl.inner n false (60 - (i + 1)) (Hl.abMani n (Hl.strip d')).1 (ys ++ (Hl.abMani n (Hl.strip d')).2) = Hl.aAt n x (j + 1) := by
                        have h := HInn.out
                        rw [show 60 - i = (60 - (i + 1)) + 1 by omega, Hl.inner_cons, if_neg (by decide), if_pos hy0] at h
                        exact h
                      clear hm2 hok2 hma
                      have Hgo := Lib.hid hgo
                      have HinnN := Lib.hid hinn2
                      have hh := Lib.hid (hear_line (by omega) HRun10.out HLine10.out hfok HL10.out hgo)
                      clear hgo hfok hB10 HRun9 HLine9 hinn2
                      go_wp2_with fail
                      refine hh.out.mono ?_
                      rintro e w11 ⟨u2, S2, d2, rfl, hA, hR, hLn, hdis, hst2⟩
                      have HR11 := Lib.hid hR
                      have HL11 := Lib.hid hLn
                      have HA := Lib.hid hA
                      have Hst2 := Lib.hid hst2
                      have hle2 : (Hl.abMani n (Hl.strip d')).2.length ≤ 2 := by rw [← Hgo.out.ats]; exact Hl.hear_two KK d' _
                      have HQ := Lib.hid HL11.out.que
                      have hlq : ys.length + (Hl.abMani n (Hl.strip d')).2.length ≤ 1000 := by simp only [List.length_cons] at hql; omega
                      have hin2 : ∀ z ∈ ys ++ (Hl.abMani n (Hl.strip d')).2, -1 ≤ z ∧ z < n := fun z hz => by
                        rcases List.mem_append.1 hz with hz | hz
                        · exact Hrg2.out z (by simp [hz])
                        · exact Hl.abMani_in _ n z hz
                      have Hin2 := Lib.hid hin2
                      clear hA hR hLn hdis hst2 hh Hgo HRun10 HLine10 hin2
                      go_wp2_with (refine wpList_append_que _ rfl _ _ rfl (hashB_length KK l) rfl HQ.out rfl HA.out hlq ?_)
                      intro v3 w12 hq3 ho3 hb3
                      obtain ⟨hR12, hL12⟩ := line_push HR11.out HL11.out hq3 ho3 hb3
                      have HR12 := Lib.hid hR12
                      have HL12 := Lib.hid hL12
                      clear hq3 ho3 hb3 hR12 hL12 HR11 HL11 HQ HA
                      go_wp2_with fail
                      go_roundw
                      case rel => exact ⟨i + 1, ys ++ (Hl.abMani n (Hl.strip d')).2, d2, S2, by omega, by go_num, HR12.out, HL12.out, by rw [Hst2.out]; exact HinnN.out, Hin2.out, by simp only [List.length_append, List.length_cons] at hql ⊢; omega⟩
                      case measure => simp [intOf]; omega
                    · have hy64 : -9223372036854775808 ≤ y ∧ y ≤ 9223372036854775807 := by omega
                      have hpa := Lib.hid (part17_any KK 3 l y w9 HL9.out hl512 hy64.1 hy64.2)
                      go_wp2_with (first
                        | (refine wpList_load_midG (by rfl) 24 _ rfl fb 103 rfl (byV out) _ t103 dund rfl dix ?_)
                        | (refine wpList_load_midG (by rfl) 24 _ rfl q 0 rfl (byV out) _ rq9 dund rfl dix ?_))
                      refine hpa.out.mono ?_
                      rintro e w10 ⟨f, rfl, hff, hB10⟩
                      have hfe : f = partFr 3 (hashB KK l) ((y.toNat : Nat) : Int) (chunk l y.toNat) := by
                        rcases hff with ⟨-, -, h⟩ | ⟨h, -⟩
                        · rw [h, Int.toNat_of_nonneg (by omega)]
                        · exact absurd ⟨by omega, by rw [← Hn.out]; omega⟩ h
                      have HRun10 := Lib.hid (HRun9.out.below hB10)
                      have HLine10 := Lib.hid (HLine9.out.below hB10)
                      have HL10 := Lib.hid (HL9.out.below hB10)
                      have hcl : (chunk l y.toNat).length ≤ 140737488355328 := by rw [chunk_length]; omega
                      have hfok : f.Ok w10 := by rw [hfe]; exact partFr_ok w10 3 (hashB KK l) y.toNat (chunk l y.toNat) (hashB_length KK l) (by omega) hcl
                      have hgo := Hl.own_part hl512 y.toNat (by rw [← Hn.out]; omega) HRun9.out.own
                      rw [hpe, ← hfe] at hgo
                      have hinn2 : Hl.inner n false (60 - (i + 1)) (Hl.abPart y.toNat (Hl.strip d')).1 (ys ++ (Hl.abPart y.toNat (Hl.strip d')).2) = Hl.aAt n x (j + 1) := by
                        have h := HInn.out
                        rw [show 60 - i = (60 - (i + 1)) + 1 by omega, Hl.inner_cons, if_neg (by decide), if_neg (by omega)] at h
                        exact h
                      clear hff hpa hcl hfe
                      have Hgo := Lib.hid hgo
                      have HinnN := Lib.hid hinn2
                      have hh := Lib.hid (hear_line (by omega) HRun10.out HLine10.out hfok HL10.out hgo)
                      clear hgo hfok hB10 HRun9 HLine9 hinn2
                      go_wp2_with fail
                      refine hh.out.mono ?_
                      rintro e w11 ⟨u2, S2, d2, rfl, hA, hR, hLn, hdis, hst2⟩
                      have HR11 := Lib.hid hR
                      have HL11 := Lib.hid hLn
                      have HA := Lib.hid hA
                      have Hst2 := Lib.hid hst2
                      have hle2 : (Hl.abPart y.toNat (Hl.strip d')).2.length ≤ 2 := by rw [← Hgo.out.ats]; exact Hl.hear_two KK d' _
                      have HQ := Lib.hid HL11.out.que
                      have hlq : ys.length + (Hl.abPart y.toNat (Hl.strip d')).2.length ≤ 1000 := by simp only [List.length_cons] at hql; omega
                      have hin2 : ∀ z ∈ ys ++ (Hl.abPart y.toNat (Hl.strip d')).2, -1 ≤ z ∧ z < n := fun z hz => by
                        rcases List.mem_append.1 hz with hz | hz
                        · exact Hrg2.out z (by simp [hz])
                        · exact Hl.abPart_in y.toNat _ n hscl z hz
                      have Hin2 := Lib.hid hin2
                      clear hA hR hLn hdis hst2 hh Hgo HRun10 HLine10 hin2
                      go_wp2_with (refine wpList_append_que _ rfl _ _ rfl (hashB_length KK l) rfl HQ.out rfl HA.out hlq ?_)
                      intro v3 w12 hq3 ho3 hb3
                      obtain ⟨hR12, hL12⟩ := line_push HR11.out HL11.out hq3 ho3 hb3
                      have HR12 := Lib.hid hR12
                      have HL12 := Lib.hid hL12
                      clear hq3 ho3 hb3 hR12 hL12 HR11 HL11 HQ HA
                      go_wp2_with fail
                      go_roundw
                      case rel => exact ⟨i + 1, ys ++ (Hl.abPart y.toNat (Hl.strip d')).2, d2, S2, by omega, by go_num, HR12.out, HL12.out, by rw [Hst2.out]; exact HinnN.out, Hin2.out, by simp only [List.length_append, List.length_cons] at hql ⊢; omega⟩
                      case measure => simp [intOf]; omega
            · obtain rfl : i = 60 := by omega
              have hsn : Hid (Hl.strip d' = Hl.aAt n x (j + 1)) := Lib.hid (by rw [← HInn.out]; rfl)
              clear hline hrg
              go_wp2_with fail
              go_roundw
              case rel => exact ⟨j + 1, d', S', by omega, by go_num, hsn.out, HRun'.out⟩
              case measure => simp [intOf]; omega
        · obtain rfl : j = 14 := by omega
          have hs := Hst.out
          have e1 : d.done = true := (congrArg HlD.done hs).trans hcomes.out.1
          have e2 : d.failed = false := (congrArg HlD.failed hs).trans hcomes.out.2
          have e3 : d.blob = l := HRun.out.own.blob e1
          obtain ⟨mv, cv, hmem, -⟩ := HRun.out.at_.mem
          have hod := HRun.out.at_.ok.out
          have hbl := Lib.hid (blob_any p d mv cv wr hod hmem)
          rw [e1, e3] at hbl
          have hfa : ∀ W, Below wr.heap.size wr W → Calls Tryd.prog 43 #[.pointer (some ⟨p, 0, none⟩)] W fun e w' => e = .returned (.bool false) ∧ W = w' := fun W hW => by
            have := failed_any p d mv cv W hod (below_keep hW hmem)
            rw [e2] at this; exact this
          have Hfa := Lib.hid hfa
          clear hfa hmem hod hs e1 e2 e3 hcomes
          go_wp2_with fail
          refine hbl.out.mono ?_
          rintro e w9 ⟨rfl, hB9⟩
          have Hf9 := Lib.hid (Hfa.out w9 hB9)
          have HB9 := Lib.hid hB9
          have hll : decide (l = l) = true := by simp
          clear hB9 hbl Hfa
          go_wp2_with fail
          refine Hf9.out.mono ?_
          rintro e w10 ⟨rfl, rfl⟩
          go_wp2_with fail
          go_ret
          exact ⟨rfl, HB0.out.trans (((HB6.out.trans (HRun.out.old.mono HB6.out.size)).trans (HB9.out.mono (HB6.out.trans (HRun.out.old.mono HB6.out.size)).size)).mono HB0.out.size)⟩
namespace HaulComesLaw
open Go.ChangeShapes Go.WideShapes Go.ChangeAt
open Go.ChangeMaps (open_string shut_string)
set_option maxRecDepth 100000 in
theorem contract (H : Type) (enc : TypeId × Value → H) (W : World) (base : Nat) (args : Array Value) (ds gs : List (DataW H)) (before : List MemPlace)
    (hval : ∀ (j : Nat) t v, Tryd.f11.params[j]? = some t → args[j]? = some v → Value.okWide Tryd.prog W .any base t v)
    (hW : DataW.Whole enc Tryd.prog Tryd.f11.params.toList Rows.haulComesSpec.vars false W args.toList ds gs before) (hsz0 : (DataW.weightsEach Tryd.prog (Tryd.f11.params.toList ++ Rows.haulComesSpec.plain.varTypes Tryd.prog) (ds ++ gs)).all (· ≤ reachBytes) = true) (hLd : laidMetH Tryd.prog laid1 W) :
    Calls Tryd.prog 11 args W fun e W' => ∃ v, e = .returned v ∧ Rows.haulComesSpec.post enc Tryd.prog Tryd.f11 false true false false W args v W' := by
  have hW' := hW
  obtain ⟨p, q, hA0, hV, rfl, hfz, hnd⟩ := hW
  have hA : DataW.TrodAll enc Tryd.prog W 0 (fun _ => true) true Tryd.f11.params.toList args.toList ds p := hA0
  rw [Tryd.params11] at hA hval
  obtain ⟨v0, vs0, d0, ds0, p0, q0, hargs, rfl, rfl, h0, r0⟩ := trodAll_cons hA
  obtain ⟨v1, vs1, d1, ds1, p1, q1, rfl, rfl, rfl, h1, r1⟩ := trodAll_cons r0
  obtain ⟨rfl, rfl, rfl⟩ := trodAll_nil r1
  obtain rfl : args = #[v0, v1] := by cases args; simp_all
  obtain ⟨rfl, rfl⟩ := trodVars_none hV
  obtain ⟨s0, rfl, hd0, _, hs0⟩ := open_string Tryd.underlying9 (hval 0 9 v0 rfl rfl) h0
  obtain ⟨x0, rfl, hx0, hy0⟩ := as_list s0
  have z0 : x0.length ≤ 140737488351232 := by
    have := sized_string hsz0 (j := 0) (t := 9) (bytes := x0) (by simp [Tryd.params11]) (by rw [hd0, hx0]; rfl)
    simpa [reachBytes] using this
  obtain ⟨x1, rfl, l1⟩ := open_bools14 (hval 1 78 v1 rfl rfl) h1
  refine (haulComes_core x0 x1 W (of_laid hLd) z0 l1).mono fun e W' ⟨he, hg⟩ => ?_
  subst he
  exact ⟨_, rfl, law_post (tb := 4) laidOut_ (of_decide_eq_true (by kernel_rfl)) Tryd.underlying4 (by kernel_rfl) rfl rfl hW' hg⟩

theorem door_met (os : Os) (args : Array Value) : laidMetH Tryd.prog laid1 ((World.doorLaid Tryd.prog 400 os).forCall (fun _ _ => 0) ⟨#[], args, []⟩).memory :=
  laidMetH_of_parts3 (fuel := 8) (laidMet_of_run' 8 (by kernel_rfl) (by kernel_rfl)) (by kernel_rfl) (by kernel_rfl)

set_option maxRecDepth 100000 in
theorem lifted (os : Os) (started : os.Started) (H : Type) (enc : TypeId × Value → H) :
    ReturnsInHanded {} Tryd.checked os 11 .any (fun w args => (Rows.haulComesSpec.pre enc Tryd.prog Tryd.f11 [] false w args ∧ laidMetH Tryd.prog laid1 w) ∧ sizedMet enc Tryd.prog Tryd.f11 (OpenSpec.ofChange Rows.haulComesSpec) false w args)
      (Rows.haulComesSpec.post enc Tryd.prog Tryd.f11 false true false false) := by
  refine returnsInHanded_of_change_and (C := Tryd.checked) (X := fun w _ => laidMetH Tryd.prog laid1 w) (fun _ _ _ hh h => h.of_heap hh) ownKnob_ started (by kernel_rfl) Tryd.func11
    (ChangeSpec.witness_shaped (enc := enc) (C := Tryd.checked) (os := os) (X := fun w _ => laidMetH Tryd.prog laid1 w) false (World.doorLaid Tryd.prog 400 os) #[.string .empty, .agg #[.bool false, .bool false, .bool false, .bool false, .bool false, .bool false, .bool false, .bool false, .bool false, .bool false, .bool false, .bool false, .bool false, .bool false]] 8 rfl (World.shaped_of_RefB (by kernel_rfl) (by kernel_rfl)) (by kernel_rfl) (by kernel_rfl) (by kernel_rfl) (door_met os _)) ?_
  intro W base args ds gs before hval hW _ hsz hLd _
  exact contract H enc W base args ds gs before hval hW hsz hLd

theorem said : Rows.HaulComesSaid :=
  OpenClaim.holds_of_wide 11 Tryd.f11 rfl rfl rfl rfl rfl rfl rfl ⟨rfl, rfl, rfl, rfl, rfl⟩ rfl rfl rfl rfl rfl (by kernel_rfl) Tryd.func11 (by kernel_rfl)
    (of_decide_eq_true (by kernel_rfl)) (by unfold Func.isWrapper; first | (rw [if_pos (by decide +kernel)]; kernel_rfl) | (rw [if_neg (by decide +kernel)]; exact ⟨rfl, rfl⟩))
    (fun os started H enc _ => lifted os started H enc)

theorem proved : Rows.HaulComesCardSaid :=
  Claim7.holds_tied_plain_at .later [] [.data] true Rows.haulComesCard.stood.harness false
    said (fun _ h => by cases h) (by kernel_rfl) (fun _ h => by cases h) haulComes_row_tie rfl ⟨rfl, rfl⟩ (by kernel_rfl) rfl
    (fun f fn hf hfn => by
      obtain rfl : f = 11 := Option.some.inj ((show Tryd.prog.funcNamed "apiary/apiarylaw17.HaulComes" = some 11 by kernel_rfl).symm.trans hf) |>.symm
      obtain rfl : fn = Tryd.f11 := (Option.some.inj (Tryd.func11.symm.trans hfn)).symm
      exact ⟨by kernel_rfl, fun j t ht => by
        rw [Tryd.params11] at ht
        have hm : t ∈ [9, 78] := by simpa using Array.mem_of_getElem? ht
        have hall : ([9, 78].all fun u => !Tryd.prog.wantsStandIn u) = true := by kernel_rfl
        exact (show Tryd.prog.wantsStandIn t = false by simpa using List.all_eq_true.1 hall t hm)⟩)
    (by kernel_rfl)
end HaulComesLaw
end Go.Proofs.YtokdnfhglckpkaaDoor
