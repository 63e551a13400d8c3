/-
  Layer 17's laws: a queue of frames that ask: one is taken off its head, others are put behind it.
-/
import Derived.Test.YtokdnfhglckpkaaDoorHaT
set_option linter.unusedVariables false
set_option linter.unusedSimpArgs false
namespace Go.Proofs.YtokdnfhglckpkaaDoor
open Go.RowKit

/-- a queue: at whatever offset of a block of its own -/
structure QueAt (w : World) (g off cap : Nat) (cs : List Value) (n : Nat) : Prop where
  le : n ≤ cap
  max : cap ≤ maxLen
  lt : g < w.heap.size
  len : cs.length = n * 238
  holds : ∀ j u, cs[j]? = some u → w.cell? ⟨g, off + j, none⟩ = some u
  there : ∀ j, j < cap * 238 → (w.cell? ⟨g, off + j, none⟩).isSome = true ∧ w.frozen? ⟨g, off + j, none⟩ = false
def Que (w : World) (v : Value) (pe : Int) (out : List UInt8) (ats : List Int) : Prop :=
  (v = .slice none 0 0 ∧ ats = []) ∨ ∃ g off cap, v = .slice (some ⟨g, off, none⟩) ats.length cap ∧ QueAt w g off cap (asksCells pe out ats) ats.length
theorem Que.of_asks {w : World} {B : Nat} {v : Value} {pe : Int} {out : List UInt8} {ats : List Int} (h : Asks w B v pe out ats) : Que w v pe out ats := by
  rcases h with ⟨h1, h2, -⟩ | ⟨g, cap, h1, -, hb⟩
  · exact .inl ⟨h1, List.eq_nil_of_length_eq_zero h2⟩
  · exact .inr ⟨g, 0, cap, h1, hb.le, hb.max, hb.lt, hb.len, fun j u hu => by rw [Nat.zero_add]; exact hb.holds j u hu, fun j hj => by rw [Nat.zero_add]; exact hb.there j hj⟩
theorem QueAt.keep {w w' : World} {g off cap : Nat} {cs : List Value} {n : Nat} (h : QueAt w g off cap cs n) (hb : w'.heap[g]? = w.heap[g]?) : QueAt w' g off cap cs n := by
  have hlt : g < w'.heap.size := by
    rcases Nat.lt_or_ge g w'.heap.size with h' | h'
    · exact h'
    · rw [Array.getElem?_eq_none h'] at hb
      have := Array.getElem?_eq_getElem h.lt
      rw [this] at hb; cases hb
  refine ⟨h.le, h.max, hlt, h.len, fun j u hu => ?_, fun j hj => ?_⟩
  · exact (World.cell?_of_block (a := ⟨g, off + j, none⟩) hb).trans (h.holds j u hu)
  · rw [World.cell?_of_block (a := ⟨g, off + j, none⟩) hb, World.frozen?_of_block (a := ⟨g, off + j, none⟩) hb]; exact h.there j hj
theorem Que.apart {w w' : World} {v : Value} {pe : Int} {out : List UInt8} {ats : List Int} {S : List Nat} (h : Que w v pe out ats) (ho : Only S w w') (ha : Apart v S) : Que w' v pe out ats := by
  rcases h with h | ⟨g, off, cap, rfl, hb⟩
  · exact .inl h
  · exact .inr ⟨g, off, cap, rfl, hb.keep (ho.block g hb.lt (ha _ _ _ rfl))⟩
theorem Que.below {w w' : World} {v : Value} {pe : Int} {out : List UInt8} {ats : List Int} (h : Que w v pe out ats) (hb : Below w.heap.size w w') : Que w' v pe out ats := by
  rcases h with h | ⟨g, off, cap, rfl, hq⟩
  · exact .inl h
  · exact .inr ⟨g, off, cap, rfl, hq.keep (hb.block g hq.lt)⟩
/-- a tail of the queue -/
theorem QueAt.tail {w : World} {g off cap : Nat} {pe : Int} {out : List UInt8} {x : Int} {ats : List Int} (ho : out.length = 32) (h : QueAt w g off cap (asksCells pe out (x :: ats)) (x :: ats).length) : QueAt w g (off + 238) (cap - 1) (asksCells pe out ats) ats.length := by
  have hl := sent_len pe (askFr_fit out x ho)
  have e : asksCells pe out (x :: ats) = sentCells pe (askFr out x) ++ asksCells pe out ats := rfl
  have hle := h.le
  simp only [List.length_cons] at hle
  refine ⟨by omega, by have := h.max; omega, h.lt, ?_, fun j u hu => ?_, fun j hj => ?_⟩
  · have := h.len
    rw [e, List.length_append, hl, List.length_cons, Nat.add_mul] at this
    omega
  · have := h.holds (238 + j) u (by rw [e, List.getElem?_append_right (by omega), hl, Nat.add_sub_cancel_left]; exact hu)
    rw [Nat.add_assoc]; exact this
  · have hj2 : 238 + j < cap * 238 := by
      have : (cap - 1) * 238 = cap * 238 - 238 := by rw [Nat.sub_mul]
      omega
    have := h.there (238 + j) hj2
    rw [Nat.add_assoc]; exact this
set_option maxRecDepth 100000 in
theorem run_append_queAt {ty : TypeId} {w : World} {g off cap m : Nat} {cs : List Value} (h : QueAt w g off cap cs m) (x : Value) (n : Nat) (news : List Value) (hs : Src Tryd.prog 238 55 x n news w) (h63 : m + n ≤ 1000) :
    ∃ g' off' cap' w', (Builtin.append_ #[55, 55] ty #[.slice (some ⟨g, off, none⟩) m cap, x]).run Tryd.prog w = .ok (.slice (some ⟨g', off', none⟩) (m + n) cap') w' ∧ QueAt w' g' off' cap' (cs ++ news) (m + n) ∧ Only [g] w w' ∧ (g' = g ∨ w.heap.size ≤ g') := by
  obtain ⟨i, hi, hz, hsize, hby⟩ := sent_parts
  have hzs : (Value.agg (sentRow 0 zeroFr)).cells.size = 238 := sentRow_size 0 zeroFr_fit
  have hnl := hs.newsLen
  have hol := h.len
  rw [← hsize] at hs
  by_cases hfit : m + n ≤ cap
  · have hrc : (m + n) * 238 ≤ cap * 238 := Nat.mul_le_mul_right _ hfit
    rw [Nat.add_mul] at hrc
    have hsome : ∀ j, j < news.length → (w.cell? ⟨g, off + m * i.size + j, none⟩).isSome = true := fun j hj => by rw [hsize, Nat.add_assoc]; exact (h.there _ (by omega)).1
    have hrun := run_append_room_src (P := Tryd.prog) w 55 55 ty 70 i Tryd.underlying55 hi g off m cap x n news hs hfit hsome (fun j hj => by rw [hsize, Nat.add_assoc]; exact (h.there _ (by omega)).2)
    have ho : Only [g] w (w.setCells g (off + m * i.size) news) := (Only.refl [g] w).setCells (by simp) _ _
    refine ⟨g, off, cap, _, hrun, ⟨hfit, h.max, Nat.lt_of_lt_of_le h.lt ho.size, by rw [List.length_append, hol, hnl, Nat.add_mul], fun j u hu => ?_, fun j hj => ⟨?_, ?_⟩⟩, ho, .inl rfl⟩
    · by_cases hj : j < cs.length
      · rw [List.getElem?_append_left hj] at hu
        rw [World.cell?_setCells_out g _ _ _ _ (fun _ _ => Or.inl (by show off + j < off + m * i.size; rw [hsize]; omega))]
        exact h.holds j u hu
      · rw [List.getElem?_append_right (by omega)] at hu
        have hlt := (List.getElem?_eq_some_iff.1 hu).1
        have := World.cell?_setCells_in g news (off + m * i.size) w hsome (j - cs.length) hlt
        rw [show off + m * i.size + (j - cs.length) = off + j by rw [hsize]; omega] at this
        rw [this, ← (List.getElem?_eq_some_iff.1 hu).2]
    · by_cases hin : m * 238 ≤ j ∧ j < m * 238 + news.length
      · have := World.cell?_setCells_in g news (off + m * i.size) w hsome (j - m * 238) (by omega)
        rw [show off + m * i.size + (j - m * 238) = off + j by rw [hsize]; omega] at this
        rw [this]; rfl
      · rw [World.cell?_setCells_out g _ _ _ _ (fun _ _ => by show off + j < off + m * i.size ∨ off + m * i.size + news.length ≤ off + j; rw [hsize]; omega)]
        exact (h.there j hj).1
    · exact (World.frozen?_setCells g _ _ _ _).trans (h.there j hj).2
  · have hol' : cs.length = m * i.size := by rw [hsize]; exact hol
    have hold := run_firstCells_some (P := Tryd.prog) w.drew i.size m ⟨g, off, none⟩ m cap cs hol' (fun j u hu => by rw [Addr.add_lit]; exact h.holds j u hu)
    have hrun := run_append_grow_src (P := Tryd.prog) w 55 55 ty 70 i _ Tryd.underlying55 hi hz (some ⟨g, off, none⟩) m cap cs (by exact hold) x n news hs (by omega) (by omega) (growslice_fits (by omega) (by rw [hby]; omega))
    have hge := grownCap_ge w (m + n) cap 70
    have hcm := grownCap_le_maxLen w (m + n) cap 70 (by unfold maxLen; omega)
    have hL : (cs ++ news).length = (m + n) * 238 := by rw [List.length_append, hol, hnl, Nat.add_mul]
    have hsz : ((cs ++ news).toArray ++ Builtin.zeroCells (Value.agg (sentRow 0 zeroFr)).cells (grownCap w (m + n) cap 70 - (m + n))).size = grownCap w (m + n) cap 70 * 238 := by
      rw [Array.size_append, List.size_toArray, hL, size_zeroCells, hzs, ← Nat.add_mul]
      congr 1
      omega
    refine ⟨w.heap.size, 0, _, _, hrun, ⟨hge, hcm, by simp, hL, fun j u hu => ?_, fun j hj => ⟨?_, ?_⟩⟩, ((Only.refl [g] w).drew).alloc _, .inr (Nat.le_refl _)⟩
    · rw [Nat.zero_add]
      have e1 : (w.drew.alloc (.cells ((cs ++ news).toArray ++ Builtin.zeroCells (Value.agg (sentRow 0 zeroFr)).cells (grownCap w (m + n) cap 70 - (m + n))) 70)).cell? ⟨w.heap.size, j, none⟩ = _ := World.cell?_alloc_new w.drew _ _ j
      rw [e1, Array.getElem?_append_left (by simp only [List.size_toArray]; exact (List.getElem?_eq_some_iff.1 hu).1), List.getElem?_toArray, hu]
    · rw [Nat.zero_add]
      have e1 : (w.drew.alloc (.cells ((cs ++ news).toArray ++ Builtin.zeroCells (Value.agg (sentRow 0 zeroFr)).cells (grownCap w (m + n) cap 70 - (m + n))) 70)).cell? ⟨w.heap.size, j, none⟩ = _ := World.cell?_alloc_new w.drew _ _ j
      rw [e1, Array.getElem?_eq_getElem (by rw [hsz]; exact hj)]
      rfl
    · rw [Nat.zero_add]; exact World.frozen?_alloc_new w.drew _ _ j
/-- what an append onto a queue leaves: the blocks that may have turned are the queue's own -/
def blkV (v : Value) : List Nat := match v with | .slice (some a) _ _ => [a.block] | _ => []
theorem run_append_que {ty : TypeId} {w : World} {v x : Value} {pe : Int} {out : List UInt8} {ats bts : List Int} (ho : out.length = 32) (h : Que w v pe out ats) {B : Nat} (hx : Asks w B x pe out bts) (h63 : ats.length + bts.length ≤ 1000) :
    ∃ v' w', (Builtin.append_ #[55, 55] ty #[v, x]).run Tryd.prog w = .ok v' w' ∧ Que w' v' pe out (ats ++ bts) ∧ Only (blkV v) w w' ∧ (∀ k ∈ blkV v', k ∈ blkV v ∨ w.heap.size ≤ k) := by
  have hs := hx.src ho
  rcases h with ⟨rfl, rfl⟩ | ⟨g, off, cap, rfl, hq⟩
  · obtain ⟨i, hi, hz, hsize, hby⟩ := sent_parts
    obtain ⟨v', w', hr, hb, hB⟩ := run_append_bagN (P := Tryd.prog) 55 55 ty 70 i _ 408 Tryd.underlying55 hi hz hsize hby (sentRow_size 0 zeroFr_fit) (Nat.le_refl w.heap.size) (Bag0.nil w w.heap.size 238) x _ _ hs (by unfold maxLen; simp only [List.length_nil] at h63; omega) (by simp only [List.length_nil] at h63; omega)
    rw [Nat.zero_add, List.nil_append] at hb
    have hA : Asks w' w.heap.size v' pe out bts := hb
    refine ⟨v', w', hr, by simpa using Que.of_asks hA, Only.of_below hB, fun k hk => ?_⟩
    rcases hA with ⟨h1, -, -⟩ | ⟨g, cap, h1, hg, -⟩
    · rw [h1] at hk; simp [blkV] at hk
    · rw [h1] at hk; simp [blkV] at hk; subst hk; exact .inr hg
  · obtain ⟨g', off', cap', w', hr, hq', ho', hg⟩ := run_append_queAt (ty := ty) hq x _ _ hs h63
    refine ⟨_, w', hr, .inr ⟨g', off', cap', by rw [List.length_append], by rw [asks_append, List.length_append]; exact hq'⟩, ho', fun k hk => ?_⟩
    simp [blkV] at hk
    subst hk
    rcases hg with rfl | hg
    · exact .inl (by simp [blkV])
    · exact .inr hg
theorem wpList_append_que (w : World) {ops : Array Oper} {rest : List Oper} {o : Oper} {a : Act} {Q : Exit → Act → World → Prop} (hgd : o.guard = none) (s x : Operand)
    (ho : o.op = .call { callee := .builtin .append, args := #[s, x], argTypes := #[55, 55] })
    {v xv : Value} {pe : Int} {out : List UInt8} {ats bts : List Int} {B : Nat} (hou : out.length = 32) (hv : a.eval s = v) (h : Que w v pe out ats) (hx : a.eval x = xv) (hxa : Asks w B xv pe out bts) (h63 : ats.length + bts.length ≤ 1000)
    (hK : ∀ v' w', Que w' v' pe out (ats ++ bts) → Only (blkV v) w w' → (∀ k ∈ blkV v', k ∈ blkV v ∨ w.heap.size ≤ k) → wpList Tryd.prog ops Q rest (a.put o.dst v') w') : wpList Tryd.prog ops Q (o :: rest) a w := by
  refine wpList_plain hgd fun K hK' => ?_
  obtain ⟨v', w', hrun, h1, h2, h3⟩ := run_append_que (ty := o.type) hou h hxa h63
  unfold Oper.wp
  simp [execOp, ho, resolve, invoke, builtin, hv, hx, hrun, Result.andThen]
  exact hK' _ _ (hK v' w' h1 h2 h3)
end Go.Proofs.YtokdnfhglckpkaaDoor
